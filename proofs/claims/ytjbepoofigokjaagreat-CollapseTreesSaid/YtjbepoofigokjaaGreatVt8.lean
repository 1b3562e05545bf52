/-
  Part 8 of the texts that the claims of this seat lean on: walks of the program's functions by contracts over symbolic frames, and plain laws of what they compute. No condition.
-/
import Derived.Deep.MidRow
import Derived.Test.YtjbepoofigokjaaGreatVt6
import Derived.Test.YtjbepoofigokjaaGreatVt7
set_option linter.unusedVariables false
set_option linter.unusedSimpArgs false
set_option linter.unusedSectionVars false
namespace Go.Proofs.YtjbepoofigokjaaGreat
open Go.RowKit
set_option maxHeartbeats 2000000

set_option maxHeartbeats 4000000 in
theorem sameAll_c (l m : List (List Vx)) : Fn Tryz.prog 53 [dS Simps l, dS Simps m] (dB (decide (l = m))) := by
  (refine Fn.intro1 Tryz.func53 rfl rfl ?_; simp only [Tryz.ntmps53, List.length_cons, List.length_nil, Nat.reduceAdd, Nat.reduceSub, List.replicate_succ, List.replicate_zero, List.cons_append, List.nil_append])
  ((repeat' (first | ((first | apply WL.opN | apply WD.opN); exact yF; dsimp only [setD, z0, z1]) | refine WL.nil ?_ | refine WC.seqK fun Kx hK => ?_ | (refine hK _ _ ?_; clear hK) | refine WC.region ?_ | ((first | apply WL.opN | apply WD.opN); (focus ((first | exact yNeq | exact yLen | fail); all_goals infer_instance)); dsimp only [setD, z0, z1]) | (apply WC.condN; (exact oD); all_goals (intro h; try exact xD)) | refine WC.skip ?_ | refine WC.ret ?_ | refine WC.block ?_ | refine ThenD.r ?_)); all_goals (first | refine WC.id ?_ | ((repeat clear hK); (repeat clear Kx))))
  · (refine ⟨trivial, _, rfl, ?_⟩; refine FinD.b ?_)
    have : l ≠ m := fun e => h (by rw [e])
    simp [this]
  · have hl : l.length = m.length := by omega
    (first | refine WC.know (t := 0) rfl le_K fun hl0 => ?_ | refine WC.know (t := 0) rfl le_A fun hl0 => ?_); simp only [maxLen] at hl0
    (refine WC.loopU (X := Nat) (fun k => [(5, dI (k : Int)), (4, dA), (11, dA), (12, dA), (13, dA), (14, dA), (15, dA), (16, dA), (17, dA), (18, dA), (19, dA), (20, dA), (21, dA), (22, dA), (23, dA), (24, dA), (25, dA), (26, dA)]) (fun k => []) (fun k => l.length - k) (fun k => k ≤ l.length ∧ l.take k = m.take k) 0 ?start ?frame0 ?objs0 ?round)
    case start => simp
    case frame0 => ((try dsimp only [upds, z0, z1]); repeat (first | exact LeF.nil | refine LeF.co (k := ?_)))
    case objs0 => rfl
    case round =>
      rintro k ⟨h1, h2⟩
      dsimp only [upds, z0, z1]
      ((repeat' (first | ((first | apply WL.opN | apply WD.opN); exact yF; dsimp only [setD, z0, z1]) | refine WL.nil ?_ | refine WD.nil ?_ | refine WC.seqK fun Kx hK => ?_ | (refine hK _ _ ?_; clear hK) | (refine Kont.skip ?_; clear hK) | refine WC.region ?_ | (apply WC.draw; kernel_rfl; kernel_rfl) | ((first | apply WL.opN | apply WD.opN); (focus ((first | (apply SY.call (same_c _ _) Tryz.call86; (exact aD)) | exact yLss | exact yNot | exact yAdd | exact yLen | exact yIndexaddr | fail); all_goals infer_instance)); dsimp only [setD, z0, z1]) | (apply WC.condD; (exact oD); all_goals (intro h; try exact xD)) | (apply WC.condN; (exact oD); all_goals (intro h; try exact xD)) | refine WC.skip ?_ | refine WC.ret ?_ | refine WC.exit ?_ | refine WC.block ?_ | refine ThenD.n ?_ | refine ThenD.r ?_ | refine InBlockD.r ?_)); all_goals (first | ((repeat clear hK); (repeat clear Kx))))
      · (refine ⟨trivial, _, rfl, ?_⟩; refine FinD.b ?_)
        have : l ≠ m := fun e => h (cmpL_eq.2 (by simp [e]))
        simp [this]
      · (refine ⟨k + 1, ?_, by first | omega | (simp only; omega), rfl, ?_⟩; rotate_left; ((try dsimp only [upds, z0, z1]); repeat (first | exact LeF.nil | refine LeF.co (k := ?_))); (try dsimp only))
        exact ⟨by omega, by rw [take_snoc' (by omega), take_snoc' (by omega), h2, cmpL_eq.1 h]⟩
      · (refine ⟨trivial, _, rfl, ?_⟩; refine FinD.b ?_)
        rw [List.take_of_length_le (by omega), List.take_of_length_le (by omega)] at h2
        simp [h2]
end Go.Proofs.YtjbepoofigokjaaGreat
namespace Go.Proofs.YtjbepoofigokjaaGreat
open Go.RowKit
set_option maxHeartbeats 2000000

set_option maxHeartbeats 4000000 in
theorem cmpF_p (a b : List Vx) : Fn Tryz.prog 105 [dS Verts a, dS Verts b, dFun Tryz.prog (fun x : Vx × Vx => [dS RV x.1, dS RV x.2]) (fun x => dI (cmpV x.1 x.2))] (dI (cmpL a b)) := by
  (refine Fn.intro1 Tryz.func105 rfl rfl ?_; simp only [Tryz.ntmps105, List.length_cons, List.length_nil, Nat.reduceAdd, Nat.reduceSub, List.replicate_succ, List.replicate_zero, List.cons_append, List.nil_append])
  (repeat' (first | (apply WL.opN; exact yF; dsimp only [setD, z0, z1]) | refine WL.nil ?_ | refine WC.seqK fun Kx hK => ?_ | (refine hK _ _ ?_; clear hK) | refine WC.region ?_ | (apply WL.opN; (focus ((first | exact yLen | fail); all_goals infer_instance)); dsimp only [setD, z0, z1]) | refine WC.block ?_))
  (first | refine WC.know (t := 0) rfl le_K fun hl0 => ?_ | refine WC.know (t := 0) rfl le_A fun hl0 => ?_); simp only [maxLen] at hl0
  (first | refine WC.know (t := 1) rfl le_K fun hl1 => ?_ | refine WC.know (t := 1) rfl le_A fun hl1 => ?_); simp only [maxLen] at hl1
  (refine WC.loopU (X := Nat) (fun k => [(13, dI (k : Int)), (6, dA), (7, dA), (8, dA), (9, dA), (10, dA), (14, dA), (15, dA), (16, dA), (17, dA), (18, dA), (19, dA), (20, dA), (21, dA), (22, dA), (23, dA), (24, dA), (25, dA), (26, dA), (27, dA), (28, dA), (29, dA), (30, dA), (31, dA), (32, dA), (33, dA)]) (fun k => []) (fun k => a.length - k) (fun k => k ≤ a.length ∧ k ≤ b.length ∧ cmpL a b = cmpL (a.drop k) (b.drop k)) 0 ?start ?frame0 ?objs0 ?round)
  case start => exact ⟨Nat.zero_le _, Nat.zero_le _, rfl⟩
  case frame0 => ((try dsimp only [upds, z0, z1]); repeat (first | exact LeF.nil | refine LeF.co (k := ?_)))
  case objs0 => rfl
  case round =>
    rintro k ⟨h1, h2, h3⟩
    dsimp only [upds, z0, z1]
    ((repeat' (first | (apply WL.opN; exact yF; dsimp only [setD, z0, z1]) | refine WL.nil ?_ | refine WC.seqK fun Kx hK => ?_ | (refine hK _ _ ?_; clear hK) | (refine Kont.skip ?_; clear hK) | refine WC.region ?_ | (apply WL.alloc; (exact tzV); (first | exact shape_X rfl | exact shape_XV); (intro _; dsimp only [setD, z0, z1])) | (apply WL.storeF; (exact tD); rfl; (exact oD); (exact hD); dsimp only [setD, z0, z1]) | (apply WL.opN; (focus ((first | (apply SY.dynF (x := ((a[k], b[k]) : Vx × Vx)); (exact OpD.t rfl); (exact aD)) | exact yLss | exact yGeq | exact yNeq | exact yAdd | exact yLen | exact yIndexaddr | fail); all_goals infer_instance)); dsimp only [setD, z0, z1]) | (apply WC.condD; (exact oD); all_goals (intro h; try exact xD)) | (apply WC.condN; (exact oD); all_goals (intro h; try exact xD)) | refine WC.skip ?_ | refine WC.ret ?_ | refine WC.exit ?_ | refine WC.block ?_ | refine ThenD.n ?_ | refine ThenD.r ?_ | refine InBlockD.r ?_)); all_goals (first | ((repeat clear hK); (repeat clear Kx))))
    all_goals first
      | ((refine ⟨k + 1, ?_, by first | omega | (simp only; omega), rfl, ?_⟩; rotate_left; ((try dsimp only [upds, z0, z1]); repeat (first | exact LeF.nil | refine LeF.co (k := ?_))); (try dsimp only)); exact ⟨by omega, by omega, h3.trans (cmpL_step (by omega) (by omega) (by assumption))⟩)
      | ((refine ⟨trivial, _, rfl, ?_⟩; refine FinD.i ?_); rw [h3, cmpL_drop]; repeat' split) <;> first | rfl | contradiction | omega
theorem cmpL_p (a b : List Vx) : Fn Tryz.prog 66 [dS Verts a, dS Verts b] (dI (cmpL a b)) := by
  (refine Fn.intro1 Tryz.func66 rfl rfl ?_; simp only [Tryz.ntmps66, List.length_cons, List.length_nil, Nat.reduceAdd, Nat.reduceSub, List.replicate_succ, List.replicate_zero, List.cons_append, List.nil_append])
  ((repeat' (first | (apply WL.opN; exact yF; dsimp only [setD, z0, z1]) | refine WL.nil ?_ | refine WC.seqK fun Kx hK => ?_ | (refine hK _ _ ?_; clear hK) | refine WC.region ?_ | (apply WL.opN; (focus ((first | (apply SY.call (cmpF_p _ _) Tryz.call105; (exact aD)) | fail); all_goals infer_instance)); dsimp only [setD, z0, z1]) | refine WC.ret ?_)); all_goals (first | ((repeat clear hK); (repeat clear Kx))))
  all_goals (refine ⟨trivial, _, rfl, ?_⟩; exact fD)
theorem eqV_p (a b : List Vx) : Fn Tryz.prog 104 [dS Verts a, dS Verts b] (dB (decide (a = b))) := by
  (refine Fn.intro1 Tryz.func104 rfl rfl ?_; simp only [Tryz.ntmps104, List.length_cons, List.length_nil, Nat.reduceAdd, Nat.reduceSub, List.replicate_succ, List.replicate_zero, List.cons_append, List.nil_append])
  ((repeat' (first | ((first | apply WL.opN | apply WD.opN); exact yF; dsimp only [setD, z0, z1]) | refine WL.nil ?_ | refine WC.seqK fun Kx hK => ?_ | (refine hK _ _ ?_; clear hK) | refine WC.region ?_ | ((first | apply WL.opN | apply WD.opN); (focus ((first | exact yNeq | exact yLen | fail); all_goals infer_instance)); dsimp only [setD, z0, z1]) | (apply WC.condN; (exact oD); all_goals (intro h; try exact xD)) | refine WC.skip ?_ | refine WC.ret ?_ | refine WC.block ?_ | refine ThenD.r ?_)); all_goals (first | refine WC.id ?_ | ((repeat clear hK); (repeat clear Kx))))
  · (refine ⟨trivial, _, rfl, ?_⟩; refine FinD.b ?_)
    have : a ≠ b := fun e => h (by rw [e])
    simp [this]
  · have h0 := h
    (first | refine WC.know (t := 0) rfl le_K fun hl0 => ?_ | refine WC.know (t := 0) rfl le_A fun hl0 => ?_); simp only [maxLen] at hl0
    have h0' : a.length = b.length := by omega
    (refine WC.loopU (X := Nat) (fun k => [(13, dI (k : Int)), (4, dA), (5, dA), (14, dA), (15, dA), (16, dA), (17, dA), (18, dA), (19, dA), (20, dA), (21, dA), (22, dA), (23, dA), (24, dA), (25, dA)]) (fun k => []) (fun k => a.length - k) (fun k => k ≤ a.length ∧ a.take k = b.take k) 0 ?start ?frame0 ?objs0 ?round)
    case start => simp
    case frame0 => ((try dsimp only [upds, z0, z1]); repeat (first | exact LeF.nil | refine LeF.co (k := ?_)))
    case objs0 => rfl
    case round =>
      rintro k ⟨h1, h2⟩
      dsimp only [upds, z0, z1]
      ((repeat' (first | ((first | apply WL.opN | apply WD.opN); exact yF; dsimp only [setD, z0, z1]) | refine WL.nil ?_ | refine WD.nil ?_ | refine WC.seqK fun Kx hK => ?_ | (refine hK _ _ ?_; clear hK) | (refine Kont.skip ?_; clear hK) | refine WC.region ?_ | (apply WC.draw; kernel_rfl; kernel_rfl) | ((first | apply WL.opN | apply WD.opN); (focus ((first | exact yLss | exact yNeq | exact yAdd | exact yIndexaddr | fail); all_goals infer_instance)); dsimp only [setD, z0, z1]) | (apply WC.condD; (exact oD); all_goals (intro h; try exact xD)) | (apply WC.condN; (exact oD); all_goals (intro h; try exact xD)) | refine WC.skip ?_ | refine WC.ret ?_ | refine WC.exit ?_ | refine WC.block ?_ | refine ThenD.n ?_ | refine ThenD.r ?_ | refine InBlockD.r ?_)); all_goals (first | ((repeat clear hK); (repeat clear Kx))))
      · (refine ⟨trivial, _, rfl, ?_⟩; refine FinD.b ?_)
        have : a ≠ b := fun e => h (by subst e; rfl)
        simp [this]
      · (refine ⟨k + 1, ?_, by first | omega | (simp only; omega), rfl, ?_⟩; rotate_left; ((try dsimp only [upds, z0, z1]); repeat (first | exact LeF.nil | refine LeF.co (k := ?_))); (try dsimp only))
        exact ⟨by omega, by rw [take_snoc' (by omega), take_snoc' (by omega), h2, h]⟩
      · rw [List.take_of_length_le (by omega), List.take_of_length_le (by omega)] at h2
        (refine ⟨trivial, _, rfl, ?_⟩; refine FinD.b ?_)
        simp [h2]
end Go.Proofs.YtjbepoofigokjaaGreat
namespace Go.Proofs.YtjbepoofigokjaaGreat
open Go.RowKit
def hFr (a : Act) (fr : List Dat) : HObj where
  blk := none
  ok := fun I w => ∀ (t : Nat) (d : Dat), fr[t]? = some d → d.rd I w (a.tmps.getD t undef)
  weak := fun h q t d hd => d.weak (h t d hd) q
  bound := fun h t d hd => d.bound (h t d hd)
  move := fun h hg hP _ t d hd => d.grown (h t d hd) hg hP
section
variable {P : Program} {ops : Array Oper} {hp : List HObj} {o : Oper} {fr : List Dat} {d : Dat} {Q : Post} {rest : List Oper}
variable {dst : Option Tmp} {ty : TypeId} {ps : String} {af : Array Edge} {g : Option (Nat × Bool)} {P0 : Nat → Prop} {B : Nat} {w0 w : World}
theorem imm_ghost {gh : HObj} (hg : gh.blk = none) (l : List HObj) (k : Nat) : Imm P0 B (l ++ gh :: hp) k ↔ Imm P0 B (l ++ hp) k := by
  unfold Imm
  refine and_congr Iff.rfl ⟨fun h o ho => h o ?_, fun h o ho => ?_⟩
  · rcases List.mem_append.1 ho with ho | ho
    · exact List.mem_append_left _ ho
    · exact List.mem_append_right _ (List.mem_cons_of_mem _ ho)
  · rcases List.mem_append.1 ho with ho | ho
    · exact h o (List.mem_append_left _ ho)
    · rcases List.mem_cons.1 ho with rfl | ho
      · rw [hg]; simp
      · exact h o (List.mem_append_right _ ho)
theorem Hp.ghost {gh : HObj} (hg : gh.blk = none) {l : List HObj} (h : Hp P0 B w0 (l ++ hp) w) (hok : gh.ok (Imm P0 B (l ++ hp)) w) : Hp P0 B w0 (l ++ gh :: hp) w where
  base := h.base
  below := h.below
  own := fun o ho k hk => by
    rcases List.mem_append.1 ho with ho | ho
    · exact h.own o (List.mem_append_left _ ho) k hk
    · rcases List.mem_cons.1 ho with rfl | ho
      · rw [hg] at hk; cases hk
      · exact h.own o (List.mem_append_right _ ho) k hk
  ok := fun o ho => by
    rcases List.mem_append.1 ho with ho | ho
    · exact o.weak (h.ok o (List.mem_append_left _ ho)) fun k => (imm_ghost hg l k).2
    · rcases List.mem_cons.1 ho with rfl | ho
      · exact o.weak hok fun k => (imm_ghost hg l k).2
      · exact o.weak (h.ok o (List.mem_append_right _ ho)) fun k => (imm_ghost hg l k).2
  apart := by
    have h1 := h.apart
    rw [List.pairwise_append] at h1 ⊢
    refine ⟨h1.1, List.pairwise_cons.2 ⟨fun q _ k hk => (by rw [hg] at hk; cases hk), h1.2.1⟩, fun o ho q hq k hk => ?_⟩
    rcases List.mem_cons.1 hq with rfl | hq
    · rw [hg]; simp
    · exact h1.2.2 o ho q hq k hk
theorem Hp.unghost {gh : HObj} (hg : gh.blk = none) {l : List HObj} (h : Hp P0 B w0 (l ++ gh :: hp) w) : Hp P0 B w0 (l ++ hp) w ∧ gh.ok (Imm P0 B (l ++ hp)) w := by
  have hm : ∀ o, o ∈ l ++ hp → o ∈ l ++ gh :: hp := fun o ho => by
    rcases List.mem_append.1 ho with ho | ho
    · exact List.mem_append_left _ ho
    · exact List.mem_append_right _ (List.mem_cons_of_mem _ ho)
  refine ⟨⟨h.base, h.below, fun o ho => h.own o (hm o ho), fun o ho => o.weak (h.ok o (hm o ho)) fun k => (imm_ghost hg l k).1, ?_⟩, gh.weak (h.ok gh (by simp)) fun k => (imm_ghost hg l k).1⟩
  have h1 := h.apart
  rw [List.pairwise_append] at h1 ⊢
  exact ⟨h1.1, (List.pairwise_cons.1 h1.2.1).2, fun o ho q hq => h1.2.2 o ho q (List.mem_cons_of_mem _ hq)⟩
def finI (t : Nat) (K : Dat → List HObj → Prop) (gh : HObj) (hp : List HObj) : Post := fun e f q => (match e with | .normal | .ret => True | _ => False) ∧ ∃ d hp2, f[t]? = some d ∧ q = hp2 ++ gh :: hp ∧ K d hp2
theorem WL.inline {f : FuncId} {fn : Func} {c : Code} {t : Tmp} {args : Array Operand} {ats : Array TypeId} {ds : List Dat} (hp1 : List HObj) (K : Dat → List HObj → Prop) (hf : P.funcs[f]? = some fn) (hb : fn.body = some c) (hr : fn.results = #[.tmp t]) (he : Enters P f) (ha : ArgsD fr args.toList ds)
    (hbody : ∀ gh : HObj, gh.blk = none → WC P (finI t K gh hp) c (ds ++ List.replicate (fn.ntmps - ds.length) (dX undef)) (hp1 ++ gh :: hp))
    (hK : ∀ d' hp2, K d' hp2 → WL P ops Q rest (setD fr dst d') (hp2 ++ hp)) :
    WL P ops Q ({ dst := dst, op := .call { callee := .value (.func f), args := args, argTypes := ats }, type := ty, pos := ps, after := af, guard := none } :: rest) fr (hp1 ++ hp) := by
  refine WL.of fun P0 B w0 w a hh hfr => ?_
  have hrun : (execOp a.eval { dst := dst, op := .call { callee := .value (.func f), args := args, argTypes := ats }, type := ty, pos := ps, after := af, guard := none }).run P w = .ok (.enter f (args.map a.eval)) w := by
    unfold execOp
    simp only [resolve]
    simp [Act.eval, Deferred.ofValue, invoke, he _ w]
  refine wpList_plain rfl fun KK hKK => ?_
  unfold Oper.wp
  rw [hrun]
  have hgb : (hFr a fr).blk = none := rfl
  have hG : Hp P0 B w0 (hp1 ++ hFr a fr :: hp) w := Hp.ghost hgb hh hfr.rd
  have hvs : (args.map a.eval) = (args.toList.map a.eval).toArray := by apply Array.ext'; simp
  have hl : (args.toList.map a.eval).length = ds.length := by simpa using ha.1
  have hf0 : Fr (Imm P0 B (hp1 ++ hFr a fr :: hp)) w { tmps := (args.toList.map a.eval).toArray ++ Array.replicate (fn.ntmps - ds.length) undef, defers := [] } (ds ++ List.replicate (fn.ntmps - ds.length) (dX undef)) :=
    fr_enter hl fun i d hd => by
      have hi : i < args.toList.length := by rw [ha.1]; exact (List.getElem?_eq_some_iff.1 hd).1
      have h2 := (ha.2 i _ d (List.getElem?_eq_getElem hi) hd).ev hfr
      have hi' : i < args.size := by simpa using hi
      have : (args.toList.map a.eval).getD i undef = a.eval args.toList[i] := by simp [List.getD, hi']
      rw [this]
      exact d.weak h2 fun k => (imm_ghost hgb hp1 k).2
  have hcalls : Calls P f (args.map a.eval) w fun e w' => ∃ v, e = .returned v ∧ KK (a.put dst v) w' := by
    rw [hvs]
    refine calls_of_wp hf hb ?_
    have hwp := (hbody (hFr a fr) hgb).on hG hf0
    have hsz : (args.toList.map a.eval).toArray.size = ds.length := by simp [← hl]
    rw [hsz]
    refine Code.wp_mono (fun e a' w' ⟨f', p', q, hh', hf'⟩ => ?_) hwp
    obtain ⟨hx, d', hp2, hd', rfl, hk'⟩ := q
    obtain ⟨hh2, hok2⟩ := hh'.unghost hgb
    have hv := d'.weak (hf'.rd t d' hd') fun k => (imm_ghost hgb hp2 k).1
    have hfr2 : Fr (Imm P0 B (hp2 ++ hp)) w' a fr := ⟨hfr.defers, hfr.size, hok2⟩
    have hfin := hKK _ _ ((hK d' hp2 hk').on hh2 (Fr.put (x := dst) hfr2 hv))
    cases e with
    | normal => exact ⟨hf'.defers, _, results_tmp hr _ _ _, _, rfl, hfin⟩
    | ret => exact ⟨hf'.defers, _, results_tmp hr _ _ _, _, rfl, hfin⟩
    | _ => exact hx.elim
  exact hcalls.mono fun e w' ⟨v, hv, hk⟩ => by subst hv; exact hk
end
end Go.Proofs.YtjbepoofigokjaaGreat
namespace Go.Proofs.YtjbepoofigokjaaGreat
open Go.RowKit
def encV (x : Vx) : List Value := [.int .i64 x.1, .int .i64 x.2]
theorem us_encV {P : Nat → Prop} {w : World} {us : List (List Value)} {xs : List Vx} {v : Value} (hl : us.length = xs.length) (h : ∀ k (h : k < us.length) (h' : k < xs.length), RV (fun b => P b ∧ v.ownBlock ≠ some b) w (.agg us[k].toArray) xs[k]) : us = xs.map encV := by
  apply List.ext_getElem (by simp [hl])
  intro k h1 h2
  have := h k h1 (by omega)
  have h3 : Value.agg us[k].toArray = .agg #[.int .i64 xs[k].1, .int .i64 xs[k].2] := this
  injection h3 with h3
  rw [List.getElem_map]
  exact List.toArray_inj h3
end Go.Proofs.YtjbepoofigokjaaGreat
namespace Go.Proofs.YtjbepoofigokjaaGreat
open Go.RowKit

def flatV (xs : List Vx) : List Value := (xs.map encV).flatten
theorem flatV_nil : flatV [] = [] := rfl
theorem flatV_cons (x : Vx) (l : List Vx) : flatV (x :: l) = .int .i64 x.1 :: .int .i64 x.2 :: flatV l := rfl
theorem flatV_len : ∀ (l : List Vx), (flatV l).length = l.length * 2
  | [] => rfl
  | x :: l => by rw [flatV_cons]; simp only [List.length_cons, flatV_len l]; omega
theorem flatV_app (a b : List Vx) : flatV (a ++ b) = flatV a ++ flatV b := by unfold flatV; rw [List.map_append, List.flatten_append]
theorem flatV_one (l : List Vx) : ∀ c ∈ flatV l, c.oneCell' = true := fun c hc => by
  unfold flatV at hc
  obtain ⟨u, hu, hc⟩ := List.mem_flatten.1 hc
  obtain ⟨x, _, rfl⟩ := List.mem_map.1 hu
  simp [encV] at hc
  rcases hc with rfl | rfl <;> rfl
theorem flatV_get {l : List Vx} {k : Nat} (h : k < l.length) : (flatV l)[k * 2]? = some (.int .i64 l[k].1) ∧ (flatV l)[k * 2 + 1]? = some (.int .i64 l[k].2) := by
  have e : l = l.take k ++ l[k] :: l.drop (k + 1) := by rw [← List.drop_eq_getElem_cons h, List.take_append_drop]
  have hl : (flatV (l.take k)).length = k * 2 := by rw [flatV_len, List.length_take]; congr 1; omega
  have e2 : flatV l = flatV (l.take k) ++ (.int .i64 l[k].1 :: .int .i64 l[k].2 :: flatV (l.drop (k + 1))) := by
    conv => lhs; rw [e]
    rw [flatV_app, flatV_cons]
  rw [e2]
  constructor
  · rw [List.getElem?_append_right (by omega)]; simp [hl]
  · rw [List.getElem?_append_right (by omega)]; simp [hl]
def RowAt (w : World) (g cap : Nat) (e : TypeId) (xs : List Vx) : Prop :=
  ∃ tl : List Value, w.heap[g]? = some (.cells (flatV xs ++ tl).toArray e (0, 0)) ∧ xs.length ≤ cap ∧ cap ≤ maxLen ∧ (flatV xs ++ tl).length = cap * 2
abbrev rowV (g cap : Nat) (xs : List Vx) : Value := .slice (some ⟨g, 0, none⟩) xs.length cap
theorem ownK_rowAt {e : TypeId} {I : Nat → Prop} {w : World} {g cap : Nat} {xs : List Vx} : OwnK 0 e 2 RV I w (rowV g cap xs) xs ↔ RowAt w g cap e xs := by
  constructor
  · rintro ⟨us, h1, h2, h0, h3, h4⟩
    have hus := us_encV h1 h4
    subst hus
    obtain ⟨hfl, hv⟩ := h3
    rcases hv with ⟨hz, _⟩ | ⟨g', cap', cur, hv, hB, hg, hc1, hc2, hc3, hc4⟩
    · cases hz
    · cases hv
      refine ⟨cur.toList.drop (xs.length * 2), ?_, hc1, hc2, ?_⟩
      · have : flatV xs ++ cur.toList.drop (xs.length * 2) = cur.toList := by
          unfold flatV; rw [← hc4, List.take_append_drop]
        rw [this]; exact hg
      · have : flatV xs ++ cur.toList.drop (xs.length * 2) = cur.toList := by
          unfold flatV; rw [← hc4, List.take_append_drop]
        rw [this]; simpa using hc3
  · rintro ⟨tl, hg, hc1, hc2, hc3⟩
    refine ⟨xs.map encV, by simp, fun u hu => ?_, by decide, ⟨?_, .inr ⟨g, cap, _, rfl, Nat.zero_le _, hg, hc1, hc2, by simpa using hc3, ?_⟩⟩, fun k h h' => ?_⟩
    · obtain ⟨y, _, rfl⟩ := List.mem_map.1 hu
      exact ⟨rfl, by simp [encV, Value.oneCell']⟩
    · exact flatV_len xs
    · show (flatV xs ++ tl).take (xs.length * 2) = flatV xs
      rw [← flatV_len xs, List.take_left']
      rfl
    · show Value.agg _ = _
      rw [List.getElem_map]
      rfl
theorem heap_setCells_mid {g : Nat} {e : TypeId} {fz : Nat × Nat} : ∀ (vs M A C : List Value) (w : World), M.length = vs.length → w.heap[g]? = some (.cells (A ++ M ++ C).toArray e fz) → (w.setCells g A.length vs).heap[g]? = some (.cells (A ++ vs ++ C).toArray e fz)
  | [], M, A, C, w, h, hg => by
    have : M = [] := List.eq_nil_of_length_eq_zero (by simpa using h)
    subst this; exact hg
  | v :: r, [], A, C, w, h, hg => by simp at h
  | v :: r, m :: M, A, C, w, h, hg => by
    have hg' : (w.setCell ⟨g, A.length, none⟩ v).heap[g]? = some (.cells ((A ++ [v]) ++ M ++ C).toArray e fz) := by
      simp only [World.setCell, Array.getElem?_modify, if_true, hg, Option.map_some]
      simp
    have := heap_setCells_mid r M (A ++ [v]) C _ (by simpa using h) hg'
    rw [World.setCells]
    have e1 : (A ++ [v]).length = A.length + 1 := by simp
    rw [e1] at this
    rw [this]; simp
theorem row_write {w : World} {g cap : Nat} {e : TypeId} {xs : List Vx} (h : RowAt w g cap e xs) (k : Nat) (ys : List Vx) (hk : k + ys.length ≤ xs.length) :
    RowAt (w.setCells g (k * 2) (flatV ys)) g cap e (xs.take k ++ ys ++ xs.drop (k + ys.length)) := by
  obtain ⟨tl, hg, hc1, hc2, hc3⟩ := h
  have e1 : xs = xs.take k ++ (xs.drop k).take ys.length ++ xs.drop (k + ys.length) := by
    rw [List.append_assoc, ← List.drop_drop, List.take_append_drop, List.take_append_drop]
  have hA : (flatV (xs.take k)).length = k * 2 := by rw [flatV_len, List.length_take]; congr 1; omega
  have hM : (flatV ((xs.drop k).take ys.length)).length = (flatV ys).length := by rw [flatV_len, flatV_len, List.length_take, List.length_drop]; congr 1; omega
  have e2 : flatV xs ++ tl = flatV (xs.take k) ++ flatV ((xs.drop k).take ys.length) ++ (flatV (xs.drop (k + ys.length)) ++ tl) := by
    conv => lhs; rw [e1]
    rw [flatV_app, flatV_app]; simp
  rw [e2] at hg
  have := heap_setCells_mid _ _ _ _ w hM hg
  rw [hA] at this
  have hlen : (xs.take k ++ ys ++ xs.drop (k + ys.length)).length = xs.length := by simp; omega
  refine ⟨tl, ?_, by omega, hc2, ?_⟩
  · rw [this, flatV_app, flatV_app]; simp
  · rw [List.length_append, flatV_len] at hc3 ⊢
    rw [hlen]; exact hc3
theorem row_grown {w : World} {g o : Nat} {vs : List Value} : w.grownBy (w.setCells g o vs) (some g) := by
  refine ⟨World.os_setCells w g o vs, ?_, World.output_setCells w g o vs, ?_, fun k hk hne => World.heap_setCells_other w g o vs hk fun e => hne (by rw [e])⟩
  · revert o w
    induction vs with
    | nil => intros; rfl
    | cons v r ih => intro w o; rw [World.setCells]; exact ih
  · revert o w
    induction vs with
    | nil => intros; exact Nat.le_refl _
    | cons v r ih =>
      intro w o; rw [World.setCells]
      refine Nat.le_trans ?_ ih
      simp [World.setCell]
theorem row_cell {w : World} {g cap : Nat} {e : TypeId} {xs : List Vx} (h : RowAt w g cap e xs) (j : Nat) (hj : j < xs.length * 2) : w.cell? ⟨g, j, none⟩ = (flatV xs)[j]? ∧ w.frozen? ⟨g, j, none⟩ = false := by
  obtain ⟨tl, hg, _⟩ := h
  refine ⟨?_, by simp [World.frozen?, hg]⟩
  simp only [World.cell?, hg]
  simp only [Option.isSome_none, Bool.false_eq_true, if_false]
  rw [List.getElem?_toArray, List.getElem?_append_left (by rw [flatV_len]; exact hj)]
theorem row_there {w : World} {g cap : Nat} {e : TypeId} {xs : List Vx} (h : RowAt w g cap e xs) (o n : Nat) (hj : o + n ≤ xs.length * 2) : w.there g o n := fun j hjn => by
  have := row_cell h (o + j) (by omega)
  refine ⟨?_, this.2⟩
  rw [this.1, List.getElem?_eq_getElem (by rw [flatV_len]; omega)]
  rfl
section
variable {P : Program} {ops : Array Oper} {hp : List HObj} {o : Oper} {fr : List Dat} {d : Dat} {Q : Post} {rest : List Oper}
variable {dst : Option Tmp} {ty : TypeId} {ps : String} {af : Array Edge} {g : Option (Nat × Bool)} {b cap : Nat} {e t T : TypeId} {xs : List Vx} {bytes : Nat} {z : Value} {ag : Bool}
abbrev hV (b N cap : Nat) (e : TypeId) (xs : List Vx) : HObj := hRowK (.slice (some ⟨b, 0, none⟩) N cap) e 2 RV xs
theorem hV_row {I : Nat → Prop} {w : World} {N : Nat} : (hV b N cap e xs).ok I w ↔ N = xs.length ∧ RowAt w b cap e xs := by
  constructor
  · intro h
    have hN : N = xs.length := by
      obtain ⟨us, h1, h2, h0, ⟨_, h3⟩, h4⟩ := h
      rcases h3 with ⟨hz, _⟩ | ⟨g, cap, cur, hv, _⟩
      · cases hz
      · cases hv; rfl
    subst hN
    exact ⟨rfl, ownK_rowAt.1 h⟩
  · rintro ⟨rfl, h⟩
    exact ownK_rowAt.2 h
theorem WC.openV {c : Code} {v : Value} (hne : 0 < xs.length) (h : ∀ b cap, v = rowV b cap xs → xs.length ≤ cap → cap ≤ maxLen → WC P Q c fr (hRowK v e 2 RV xs :: hp)) : WC P Q c fr (hRowK v e 2 RV xs :: hp) := WC.of fun P0 B w0 w a hh hf => by
  obtain ⟨us, h1, h2, h0, ⟨_, h3⟩, h4⟩ := hh.ok (hRowK v e 2 RV xs) (by simp)
  rcases h3 with ⟨_, hz⟩ | ⟨g, cap, cur, hv, hB, hg, hc1, hc2, _⟩
  · omega
  · exact (h g cap hv hc1 hc2).on hh hf
theorem SY.ixO {x i : Operand} {n m off k : Nat} {j : Int} (E : ElT P t e 2 z bytes ag) (hx : OpD fr x (dX (.slice (some ⟨b, off, none⟩) n m))) (hi : OpD fr i (dI j)) (hj : j = (k : Int)) (hk : k < n) :
    SY P ops hp { dst := dst, op := .indexAddr t x i, type := ty, pos := ps, after := af, guard := g } fr (dX (.pointer (some ⟨b, off + k * 2, none⟩))) := SY.val fun {I w a} ho => by
  have h1 : a.eval x = _ := hx.get (by simp [Op.operands]) ho
  have h2 : a.eval i = _ := hi.get (by simp [Op.operands]) ho
  refine ⟨_, ?_, rfl⟩
  unfold execOp
  simp only [h1, h2, hj, Sem.run_bind, run_indexAt (w := w) E b off n m k .i64 hk, Result.andThen_ok, Sem.run_pure]
theorem SY.loadO {x : Operand} {j k : Nat} (T' : TyI P T 2 true) (hx : OpD fr x (dX (.pointer (some ⟨b, j, none⟩)))) {N : Nat} (hm : hV b N cap e xs ∈ hp) (hj : j = k * 2) (hk : k < xs.length) :
    SY P ops hp { dst := dst, op := .load T x, type := ty, pos := ps, after := af, guard := g } fr (dS RV xs[k]) := SY.valE fun {P0 B w0 w a} hh ho => by
  have h1 : a.eval x = _ := hx.get (by simp [Op.operands]) ho
  have hrow := (hV_row.1 (hh.ok _ hm)).2
  subst hj
  have hc : Cells (fun _ => True) w b (k * 2) 2 true (.agg (encV xs[k]).toArray) := by
    refine ⟨trivial, encV xs[k], rfl, by decide, by simp [encV, Value.oneCell'], fun i c hc => ?_, rfl⟩
    have hi : i < 2 := (List.getElem?_eq_some_iff.1 hc).1
    have hcell := (row_cell hrow (k * 2 + i) (by omega)).1
    rw [hcell]
    match i, hi, hc with
    | 0, _, hc => cases hc; exact (flatV_get hk).1
    | 1, _, hc => cases hc; exact (flatV_get hk).2
  refine ⟨_, w, ?_, Ext.refl _, rfl⟩
  unfold execOp
  simp only [h1, Sem.run_bind, run_loadC T' hc, Result.andThen_ok, Sem.run_pure]
  rfl
theorem WL.writeO {o : Oper} {k N : Nat} {ys : List Vx} (hg : o.guard = none) (hk : k + ys.length ≤ xs.length) (hrun : ∀ {I : Nat → Prop} {w : World} {a : Act}, Fr I w a fr → RowAt w b cap e xs → ∃ out : Next, (out = .skip ∨ ∃ r, out = .value r) ∧ (execOp a.eval o).run P w = .ok out (w.setCells b (k * 2) (flatV ys)))
    (h : WL P ops Q rest (setD fr o.dst dA) (hV b N cap e (xs.take k ++ ys ++ xs.drop (k + ys.length)) :: hp)) : WL P ops Q (o :: rest) fr (hV b N cap e xs :: hp) := by
  refine WL.of fun P0 B w0 w a hh hf => ?_
  obtain ⟨hN, hrow⟩ := hV_row.1 (hh.ok (hV b N cap e xs) (by simp))
  obtain ⟨out, ho, hr⟩ := hrun hf hrow
  have hgr : w.grownBy (w.setCells b (k * 2) (flatV ys)) (hV b N cap e xs).blk := row_grown
  have hok : (hV b N cap e (xs.take k ++ ys ++ xs.drop (k + ys.length))).ok (fun j => Imm P0 B (hV b N cap e xs :: hp) j ∧ j < w.heap.size) (w.setCells b (k * 2) (flatV ys)) :=
    hV_row.2 ⟨by rw [hN]; simp; omega, row_write hrow k ys hk⟩
  refine wpList_plain hg fun K hK => ?_
  unfold Oper.wp
  rw [hr]
  have fin : ∀ r : Value, K (a.put o.dst r) (w.setCells b (k * 2) (flatV ys)) := fun r => hK _ _ (h.on (hh.write hgr (.inl rfl) hok) (Fr.put (hf.mono fun _ _ hd => Hp.written (o' := hV b N cap e (xs.take k ++ ys ++ xs.drop (k + ys.length))) hgr (.inl rfl) hd) (d := dA) trivial))
  rcases ho with rfl | ⟨r, rfl⟩
  · exact fin undef
  · exact fin r
theorem WL.storeO {p : Tmp} {x : Operand} {j k N : Nat} {y : Vx} (T' : TyI P T 2 true) (hp0 : OpD fr (.tmp p) (dX (.pointer (some ⟨b, j, none⟩)))) (hx : OpD fr x (dS RV y)) (hj : j = k * 2) (hk : k < xs.length)
    (h : WL P ops Q rest (setD fr dst dA) (hV b N cap e (xs.set k y) :: hp)) : WL P ops Q ({ dst := dst, op := .store T (.tmp p) x, type := ty, pos := ps, after := af, guard := none } :: rest) fr (hV b N cap e xs :: hp) := by
  refine WL.writeO (k := k) (ys := [y]) rfl (by simp; omega) (fun {I w a} hf hrow => ⟨.skip, .inl rfl, ?_⟩) ?_
  · have h1 : a.eval (.tmp p) = _ := hp0.ev hf
    have h2 : a.eval x = .agg #[.int .i64 y.1, .int .i64 y.2] := hx.ev hf
    subst hj
    have := run_storeVar_mid (P := P) w b (k * 2) T #[.int .i64 y.1, .int .i64 y.2] (row_there hrow _ _ (by simp; omega)) (by simpa using T'.size) (by simp [Value.oneCell'])
    unfold execOp
    simp only [h1, h2, Instr.storeAt, Instr.sureAddr, Sem.run_bind, Sem.run_pure, Result.andThen_ok, this]
    rfl
  · have e1 : xs.take k ++ [y] ++ xs.drop (k + [y].length) = xs.set k y := by
      rw [List.set_eq_take_append_cons_drop, if_pos hk]; simp
    rw [e1]; exact h
theorem WL.clearO {x : Operand} {off n m k N : Nat} (hu : P.underlying t = some (.slice e)) (hz : ∀ w, (zeroValue e).run P w = .ok (.agg #[.int .i64 0, .int .i64 0]) w) (hx : OpD fr x (dX (.slice (some ⟨b, off, none⟩) n m))) (hj : off = k * 2) (hn : 0 < n) (hk : k + n = xs.length)
    (h : WL P ops Q rest (setD fr dst dA) (hV b N cap e (xs.take k ++ List.replicate n (0, 0)) :: hp)) : WL P ops Q ({ dst := dst, op := .call { callee := .builtin .clear, args := #[x], argTypes := #[t] }, type := ty, pos := ps, after := af, guard := none } :: rest) fr (hV b N cap e xs :: hp) := by
  refine WL.writeO (k := k) (ys := List.replicate n (0, 0)) rfl (by simp; omega) (fun {I w a} hf hrow => ⟨.value (.tuple #[]), .inr ⟨_, rfl⟩, ?_⟩) ?_
  · have h1 : a.eval x = _ := hx.ev hf
    subst hj
    have hzc : (Builtin.zeroCells #[Value.int .i64 0, .int .i64 0] n).toList = flatV (List.replicate n (0, 0)) := by
      have e1 : flatV (List.replicate n (0, 0)) = List.replicate (n * 2) (.int .i64 0) := by
        clear h hn hk hx h1
        induction n with
        | zero => rfl
        | succ n ih => rw [List.replicate_succ, flatV_cons, ih, Nat.succ_mul, List.replicate_succ, List.replicate_succ]
      rw [e1]
      simp only [Builtin.zeroCells]
      apply List.ext_getElem
      · simp
      · intro i h1 h2
        have : i % 2 < 2 := Nat.mod_lt _ (by decide)
        simp
        rcases (by omega : i % 2 = 0 ∨ i % 2 = 1) with h | h <;> simp [h]
    have hst := run_storeCells_cells (P := P) b (k * 2) (flatV (List.replicate n (0, 0))) 0 w (fun j hj => by
      rw [flatV_len, List.length_replicate] at hj
      exact ((row_there hrow (k * 2) (n * 2) (by omega)) j hj).1) (fun j hj => by
      rw [flatV_len, List.length_replicate] at hj
      exact ((row_there hrow (k * 2) (n * 2) (by omega)) j hj).2) (flatV_one _)
    obtain ⟨m', rfl⟩ : ∃ m, n = m + 1 := ⟨n - 1, by omega⟩
    unfold execOp
    simp [resolve, invoke, builtin, h1, Builtin.clear_, run_underlying hu, hz, Value.cells, hzc, hst]
  · have e1 : xs.take k ++ List.replicate n (0, 0) ++ xs.drop (k + (List.replicate n ((0, 0) : Vx)).length) = xs.take k ++ List.replicate n (0, 0) := by
      rw [List.length_replicate, hk, List.drop_length, List.append_nil]
    rw [e1]; exact h
theorem SY.fromO {x y : Operand} {off n m l : Nat} {j : Int} (E : ElT P t e 2 z bytes ag) (hx : OpD fr x (dX (.slice (some ⟨b, off, none⟩) n m))) (hy : OpD fr y (dI j)) (hj : j = (l : Int)) (hl : l < n) (hm : n ≤ m) :
    SY P ops hp { dst := dst, op := .slice t x (some y) none none, type := ty, pos := ps, after := af, guard := g } fr (dX (.slice (some ⟨b, off + l * 2, none⟩) (n - l) (m - l))) := SY.val fun {I w a} ho => by
  have h1 : a.eval x = _ := hx.get (by simp [Op.operands]) ho
  have h2 : a.eval y = _ := hy.get (by simp [Op.operands]) ho
  refine ⟨_, ?_, rfl⟩
  have hr := run_slice (w := w) (ad := some ⟨b, off, none⟩) (len := n) (cap := m) (lo := some (.int .i64 (l : Int))) (hi := none) (l := l) (h := n) E (.inr ⟨_, rfl⟩) (.inl ⟨rfl, rfl⟩) (by omega) hm
  rw [if_neg (by omega)] at hr
  unfold execOp
  simp only [h1, h2, hj, Option.map_none, Option.map_some, Sem.run_bind, hr, Result.andThen_ok, Sem.run_pure]
  simp [Addr.add_lit]
theorem SY.uptoO {x y : Operand} {off n m l : Nat} {j : Int} (E : ElT P t e 2 z bytes ag) (hx : OpD fr x (dX (.slice (some ⟨b, off, none⟩) n m))) (hy : OpD fr y (dI j)) (hj : j = (l : Int)) (hl : l ≤ n) (hm : n ≤ m) (h0 : 0 < m) :
    SY P ops hp { dst := dst, op := .slice t x none (some y) none, type := ty, pos := ps, after := af, guard := g } fr (dX (.slice (some ⟨b, off, none⟩) l m)) := SY.val fun {I w a} ho => by
  have h1 : a.eval x = _ := hx.get (by simp [Op.operands]) ho
  have h2 : a.eval y = _ := hy.get (by simp [Op.operands]) ho
  refine ⟨_, ?_, rfl⟩
  have hr := run_slice (w := w) (ad := some ⟨b, off, none⟩) (len := n) (cap := m) (lo := none) (hi := some (.int .i64 (l : Int))) (l := 0) (h := l) E (.inl ⟨rfl, rfl⟩) (.inr ⟨_, rfl⟩) (by omega) (by omega)
  rw [if_neg (by omega)] at hr
  unfold execOp
  simp only [h1, h2, hj, Option.map_none, Option.map_some, Sem.run_bind, hr, Result.andThen_ok, Sem.run_pure]
  simp [Addr.add_lit]
theorem WC.cutO {c : Code} {N k : Nat} (hk : k ≤ xs.length) (h : WC P Q c fr (hV b k cap e (xs.take k) :: hp)) : WC P Q c fr (hV b N cap e xs :: hp) := WC.of fun P0 B w0 w a hh hf => by
  obtain ⟨hN, tl, hg, hc1, hc2, hc3⟩ := hV_row.1 (hh.ok (hV b N cap e xs) (by simp))
  have hgr : w.grownBy w (hV b N cap e xs).blk := ⟨rfl, rfl, rfl, Nat.le_refl _, fun _ _ _ => rfl⟩
  have e1 : flatV xs ++ tl = flatV (xs.take k) ++ (flatV (xs.drop k) ++ tl) := by rw [← List.append_assoc, ← flatV_app, List.take_append_drop]
  have hok : (hV b k cap e (xs.take k)).ok (fun j => Imm P0 B (hV b N cap e xs :: hp) j ∧ j < w.heap.size) w :=
    hV_row.2 ⟨by simp; omega, flatV (xs.drop k) ++ tl, by rw [← e1]; exact hg, by simp; omega, hc2, by rw [← e1]; exact hc3⟩
  exact h.on (hh.write hgr (.inl rfl) hok) (hf.mono fun _ _ hd => Hp.written (o' := hV b k cap e (xs.take k)) hgr (.inl rfl) hd)
end
end Go.Proofs.YtjbepoofigokjaaGreat
namespace Go.Proofs.YtjbepoofigokjaaGreat
def SortV (xs : List Vx) : Prop := xs.Pairwise fun a b => ¬ cmpV b a < 0
def GoodC (xs : List Vx) (m : Nat) (zs : List Vx) : Prop := Asc zs ∧ (∀ v, v ∈ zs ↔ v ∈ xs.take m) ∧ zs.getLast? = xs[m - 1]?
theorem asc_last {zs : List Vx} {l : Vx} (h : Asc zs) (hl : zs.getLast? = some l) : ∀ a ∈ zs, a = l ∨ cmpV a l < 0 := by
  obtain ⟨ys, rfl⟩ := List.getLast?_eq_some_iff.1 hl
  intro a ha
  rcases List.mem_append.1 ha with ha | ha
  · exact .inr ((List.pairwise_append.1 h).2.2 a ha l (by simp))
  · exact .inl (by simpa using ha)
theorem good_start {xs : List Vx} (h : 1 ≤ xs.length) : GoodC xs 1 (xs.take 1) := by
  match xs, h with
  | x :: l, _ => exact ⟨by simp [Asc], fun v => Iff.rfl, by simp⟩
theorem good_push {xs zs : List Vx} {m : Nat} (hs : SortV xs) (h : GoodC xs m zs) (h1 : 1 ≤ m) (h2 : m < xs.length) (hne : xs[m] ≠ xs[m - 1]'(by omega)) : GoodC xs (m + 1) (zs ++ [xs[m]]) := by
  obtain ⟨ha, hm, hl⟩ := h
  rw [List.getElem?_eq_getElem (by omega : m - 1 < xs.length)] at hl
  have hlt : cmpV (xs[m - 1]'(by omega)) xs[m] < 0 := by
    have h3 := (List.pairwise_iff_getElem.1 hs) (m - 1) m (by omega) h2 (by omega)
    rcases cmpV_cases (xs[m - 1]'(by omega)) xs[m] with k | k | k
    · omega
    · omega
    · exact absurd k.2.2.symm hne
  refine ⟨List.pairwise_append.2 ⟨ha, by simp, fun a haz b hb => ?_⟩, fun v => ?_, by simp [h2]⟩
  · have hb' : b = xs[m] := by simpa using hb
    subst hb'
    rcases asc_last ha hl a haz with rfl | h4
    · exact hlt
    · exact cmpV_trans h4 hlt
  · rw [List.mem_append, hm, mem_take_snoc h2]; simp
theorem good_skip {xs zs : List Vx} {m : Nat} (h : GoodC xs m zs) (h1 : 1 ≤ m) (h2 : m < xs.length) (he : xs[m] = xs[m - 1]'(by omega)) : GoodC xs (m + 1) zs := by
  obtain ⟨ha, hm, hl⟩ := h
  refine ⟨ha, fun v => ?_, ?_⟩
  · rw [hm, mem_take_snoc h2]
    refine ⟨.inl, fun h => h.elim id fun h => ?_⟩
    rw [h, he, List.mem_take_iff_getElem]
    exact ⟨m - 1, by omega, rfl⟩
  · rw [hl, Nat.add_sub_cancel, List.getElem?_eq_getElem h2, List.getElem?_eq_getElem (by omega), he]
theorem good_end {xs zs : List Vx} {m : Nat} (h : GoodC xs m zs) (h2 : xs.length ≤ m) : Asc zs ∧ ∀ v, v ∈ zs ↔ v ∈ xs := ⟨h.1, fun v => by rw [h.2.1, List.take_of_length_le h2]⟩
end Go.Proofs.YtjbepoofigokjaaGreat
