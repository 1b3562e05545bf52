/-
  Part 33 of the texts that the claims of this seat lean on: walks of the program's functions by contracts over symbolic frames, and plain laws of what they compute. No condition.
-/
import Derived.Test.YtjbepoofigokjaaGreatVt19
import Derived.Test.YtjbepoofigokjaaGreatVt22
import Derived.Test.YtjbepoofigokjaaGreatVt25
import Derived.Test.YtjbepoofigokjaaGreatVt32
set_option linter.unusedVariables false
set_option linter.unusedSimpArgs false
set_option linter.unusedSectionVars false
namespace Go.Proofs.YtjbepoofigokjaaGreat
def sgnI (k : Nat) : Int := if k % 2 = 1 then 1 else -1
theorem sgnI_two (k : Nat) : sgnI k = 1 ∨ sgnI k = -1 := by unfold sgnI; split; exact .inl rfl; exact .inr rfl
theorem sgnI_succ (k : Nat) : sgnI (k + 1) = - sgnI k := by
  unfold sgnI
  by_cases h : k % 2 = 1
  · rw [if_neg (by omega), if_pos h]
  · rw [if_pos (by omega), if_neg h]; rfl
theorem eulS_sgn (l : Cx) (k : Nat) : eulS l (k + 1) = eulS l k + sgnI (k + 1) * ((allC l (k + 1)).length : Int) := by
  show (if (k + 1) % 2 = 1 then _ else _) = _
  unfold sgnI
  by_cases h : (k + 1) % 2 = 1
  · rw [if_pos h, if_pos h]; omega
  · rw [if_neg h, if_neg h]; omega
section
variable {l : Cx} (G : GoodX l) {x : Cl} (hx : PairOk l x)
include G hx
theorem left_eul : ∀ n, eulS (leftC l x) n + (if x.1.length ≤ n then sgnI x.1.length else 0) + (if x.2.length ≤ n then sgnI x.2.length else 0) = eulS l n
  | 0 => by
    have h1 := chk_len hx.chk1
    have h2 := chk_len hx.chk2
    rw [if_neg (by omega), if_neg (by omega)]
    rfl
  | n + 1 => by
    have h := left_eul n
    have k := left_len G hx (n + 1)
    have ln := hx.len
    rw [eulS_sgn, eulS_sgn]
    have hs := sgnI_two (n + 1)
    by_cases a : n + 1 = x.1.length
    · rw [if_pos a, if_neg (by omega)] at k
      rw [if_neg (by omega), if_neg (by omega)] at h
      rw [if_pos (by omega), if_neg (by omega), ← a]
      rcases hs with hs | hs <;> rw [hs] <;> omega
    · by_cases b : n + 1 = x.2.length
      · rw [if_neg a, if_pos b] at k
        rw [if_pos (by omega), if_neg (by omega)] at h
        rw [if_pos (by omega), if_pos (by omega), ← b]
        rcases hs with hs | hs <;> rw [hs] <;> omega
      · rw [if_neg a, if_neg b] at k
        by_cases c : x.1.length ≤ n
        · rw [if_pos c, if_pos (by omega)] at h
          rw [if_pos (by omega), if_pos (by omega)]
          rcases hs with hs | hs <;> rw [hs] <;> omega
        · rw [if_neg c, if_neg (by omega)] at h
          rw [if_neg (by omega), if_neg (by omega)]
          rcases hs with hs | hs <;> rw [hs] <;> omega
theorem left_eul8 : eulS (leftC l x) 8 = eulS l 8 := by
  have h := left_eul G hx 8
  rw [if_pos (chk_len hx.chk1).2, if_pos (chk_len hx.chk2).2, ← hx.len, sgnI_succ] at h
  omega
end
theorem eul_whole {l : Cx} (G : GoodX l) (hw : wholeN l 8 ≤ 4096) : eulC l = (eulS l 8, 0) := by
  unfold eulC
  rw [goodX_iff.2 G, if_neg (by omega : ¬ (0 : Int) ≠ 0), if_neg]
  intro hc
  rw [List.any_eq_true] at hc
  obtain ⟨k, hk, h2⟩ := hc
  have h3 := of_decide_eq_true h2
  have h4 : ∀ n, k < n → (allC l (k + 1)).length ≤ wholeN l n := fun n => by
    induction n with
    | zero => intro h; omega
    | succ n ih =>
      intro h
      rw [wholeN_succ]
      by_cases e : k = n
      · subst e; omega
      · have := ih (by omega); omega
  have := h4 8 (List.mem_range.1 hk)
  omega
theorem steps_good : ∀ {m : List Cl} {c d : Cx}, stepsV c m = some d → GoodX c → wholeN c 8 ≤ 4098 → GoodX d ∧ wholeN d 8 + 2 * m.length = wholeN c 8 ∧ partsN d = partsN c ∧ eulS d 8 = eulS c 8
  | [], c, d, h, G, hw => by
    cases h
    exact ⟨G, rfl, rfl, rfl⟩
  | x :: m, c, d, h, G, hw => by
    have h' : (if x ∈ pairsC c then stepsV (leftC c x) m else none) = some d := h
    by_cases hm : x ∈ pairsC c
    · rw [if_pos hm] at h'
      have hx := pair_ok G hm
      have h2 := left_two G hx
      obtain ⟨k1, k2, k3, k4⟩ := steps_good h' (left_good G hx hw) (by omega)
      exact ⟨k1, by rw [List.length_cons]; omega, k3.trans (left_parts G hx), k4.trans (left_eul8 G hx)⟩
    · rw [if_neg hm] at h'; cases h'
theorem redC_steps : ∀ (n : Nat) {c : Cx}, GoodX c → wholeN c 8 ≤ 4098 → stepsV c (redC n c).2 = some (redC n c).1
  | 0, c, _, _ => rfl
  | n + 1, c, G, hw => by
    cases hp : pairsC c with
    | nil => rw [redC_nil hp]; rfl
    | cons x t =>
      have hm : x ∈ pairsC c := by rw [hp]; exact List.mem_cons_self ..
      have hx := pair_ok G hm
      have h2 := left_two G hx
      rw [redC_cons hp]
      show (if x ∈ pairsC c then stepsV (leftC c x) _ else none) = _
      rw [if_pos hm]
      exact redC_steps n (left_good G hx hw) (by omega)
theorem redC_ends : ∀ (n : Nat) {c : Cx}, GoodX c → wholeN c 8 ≤ n → n ≤ 4098 → pairsC (redC n c).1 = []
  | 0, c, G, h, _ => by
    have h1 := few_whole G.2.1 G.2.2.1
    have : c = [] := List.eq_nil_of_length_eq_zero (by omega)
    subst this; rfl
  | n + 1, c, G, h, h9 => by
    cases hp : pairsC c with
    | nil => rw [redC_nil hp]; exact hp
    | cons x t =>
      have hm : x ∈ pairsC c := by rw [hp]; exact List.mem_cons_self ..
      have hx := pair_ok G hm
      have h2 := left_two G hx
      rw [redC_cons hp]
      exact redC_ends n (left_good G hx (by omega)) (by omega) (by omega)
structure RedOk (c d : Cx) (m : List Cl) : Prop where
  ends : pairsC d = []
  steps : stepsV c m = some d
  good : GoodX d
  whole : wholeN d 8 + 2 * m.length = wholeN c 8
  parts : partsN d = partsN c
  eul : eulS d 8 = eulS c 8
theorem red_ok {c : Cx} (G : GoodX c) (hw : wholeN c 8 ≤ 4096) : RedOk c (reducedC c).1 (reducedC c).2 := by
  have h := redC_steps 4096 G (by omega)
  obtain ⟨h1, h2, h3, h4⟩ := steps_good h G (by omega)
  exact ⟨redC_ends 4096 G hw (by omega), h, h1, h2, h3, h4⟩
end Go.Proofs.YtjbepoofigokjaaGreat
namespace Go.Proofs.YtjbepoofigokjaaGreat
open Go.RowKit
set_option linter.unusedSimpArgs false

set_option maxHeartbeats 2000000
set_option maxRecDepth 100000
theorem left_few {l : Cx} (G : GoodX l) {x : Cl} (hx : PairOk l x) (hw : wholeN l 8 ≤ 4098) : (leftC l x).length ≤ 4096 := (left_good G hx hw).1
set_option maxHeartbeats 8000000 in
theorem step32_p (l : Cx) (x : Cl) (hw : chkC l = 0 → wholeN l 8 ≤ 4098) : Fn Tryz.prog 17 [dS Cpx l, dS Col x] (dT [dS Cpx (stepK l x).1, dI (stepK l x).2]) := by
  (refine Fn.introC2 tyC Tryz.func17 rfl rfl ?_; simp only [Tryz.ntmps17, List.length_cons, List.length_nil, Nat.reduceAdd, Nat.reduceSub, List.replicate_succ, List.replicate_zero, List.cons_append, List.nil_append])
  have c0 := check_p l
  have c1 := chk_p x.1
  have c2 := chk_p x.2
  by_cases h0 : chkC l = 0
  · by_cases h1 : chkV x.1 = 0
    · by_cases h2 : chkV x.2 = 0
      · have G := goodX_iff.1 h0
        have c3 := is32_p l G x
        by_cases h3 : x ∈ pairsC l
        · rw [decide_eq_true h3] at c3
          have hx := pair_ok G h3
          have h4 := left_few G hx (hw h0)
          have c4 := after32_p l G x hx h4
          have e : stepK l x = (leftC l x, 0) := by unfold stepK; rw [if_neg (by omega), if_neg (by omega), if_neg (by omega), if_neg (by simpa using h3), if_neg (by omega)]
          rw [e]
          generalize leftC l x = L at *
          ((repeat' (first | (apply WL.opN; exact yF; dsimp only [setD, z0, z1]) | refine WL.nil ?_ | refine WC.seqK fun Kx hK => ?_ | (refine hK _ _ ?_; clear hK) | refine WC.region ?_ | (apply WL.alloc; (first | exact tzV | exact tzC); (first | exact shape_X rfl | exact shape_XV | exact shape_C0 rfl); (intro _; dsimp only [setD, z0, z1])) | (apply WL.storeF; (exact tD); rfl; (exact oD); (exact hD); dsimp only [setD, z0, z1]) | (apply WL.opN; (focus ((first | (apply SY.call (c0) Tryz.call35; (exact aD)) | (apply SY.call (c1) Tryz.call47; exact ArgsD.cons (OpD.t rfl) (ArgsD.nil)) | (apply SY.call (c2) Tryz.call47; exact ArgsD.cons (OpD.t rfl) (ArgsD.nil)) | (apply SY.call (c3) Tryz.call48; (exact aD)) | (apply SY.call (c4) Tryz.call49; (exact aD)) | ((first | apply SY.move | apply SY.assign | apply SY.neq | apply SY.not) <;> (exact oD)) | (apply SY.fldP0 colT; exact OpD.t rfl) | (apply SY.fldP1 colT; exact OpD.t rfl) | (apply SY.extract; (exact oD); rfl) | (apply SY.box; (exact oD); (exact hD)) | fail); all_goals infer_instance)); dsimp only [setD, z0, z1]) | (apply WC.condN; (exact oD); all_goals (intro h; try exact xD)) | (apply WC.condNB; (exact oD); all_goals (intro h; try exact xD)) | refine WC.skip ?_ | refine WC.ret ?_)); all_goals (first | ((repeat clear hK); (repeat clear Kx))))
          all_goals first | (exfalso; omega) | (refine ⟨trivial, ⟨_, rfl, ?_⟩, _, rfl, ?_⟩ <;> exact fD)
        · rw [decide_eq_false h3] at c3
          have e : stepK l x = ([], 6) := by unfold stepK; rw [if_neg (by omega), if_neg (by omega), if_neg (by omega), if_pos h3]
          rw [e]
          ((repeat' (first | (apply WL.opN; exact yF; dsimp only [setD, z0, z1]) | refine WL.nil ?_ | refine WC.seqK fun Kx hK => ?_ | (refine hK _ _ ?_; clear hK) | refine WC.region ?_ | (apply WL.alloc; (first | exact tzV | exact tzC); (first | exact shape_X rfl | exact shape_XV | exact shape_C0 rfl); (intro _; dsimp only [setD, z0, z1])) | (apply WL.storeF; (exact tD); rfl; (exact oD); (exact hD); dsimp only [setD, z0, z1]) | (apply WL.opN; (focus ((first | (apply SY.call (c0) Tryz.call35; (exact aD)) | (apply SY.call (c1) Tryz.call47; exact ArgsD.cons (OpD.t rfl) (ArgsD.nil)) | (apply SY.call (c2) Tryz.call47; exact ArgsD.cons (OpD.t rfl) (ArgsD.nil)) | (apply SY.call (c3) Tryz.call48; (exact aD)) | ((first | apply SY.move | apply SY.assign | apply SY.neq | apply SY.not) <;> (exact oD)) | exact SY.mkC0 cpxT | (apply SY.fldP0 colT; exact OpD.t rfl) | (apply SY.fldP1 colT; exact OpD.t rfl) | (apply SY.box; (exact oD); (exact hD)) | fail); all_goals infer_instance)); dsimp only [setD, z0, z1]) | (apply WC.condN; (exact oD); all_goals (intro h; try exact xD)) | (apply WC.condNB; (exact oD); all_goals (intro h; try exact xD)) | refine WC.skip ?_ | refine WC.ret ?_ | refine ThenD.r ?_)); all_goals (first | ((repeat clear hK); (repeat clear Kx))))
          all_goals first | (exfalso; omega) | (refine ⟨trivial, ⟨_, rfl, ?_⟩, _, rfl, ?_⟩ <;> exact fD)
      · have e : stepK l x = ([], chkV x.2) := by unfold stepK; rw [if_neg (by omega), if_neg (by omega), if_pos h2]
        rw [e]
        ((repeat' (first | (apply WL.opN; exact yF; dsimp only [setD, z0, z1]) | refine WL.nil ?_ | refine WC.seqK fun Kx hK => ?_ | (refine hK _ _ ?_; clear hK) | refine WC.region ?_ | (apply WL.alloc; (first | exact tzV | exact tzC); (first | exact shape_X rfl | exact shape_XV | exact shape_C0 rfl); (intro _; dsimp only [setD, z0, z1])) | (apply WL.storeF; (exact tD); rfl; (exact oD); (exact hD); dsimp only [setD, z0, z1]) | (apply WL.opN; (focus ((first | (apply SY.call (c0) Tryz.call35; (exact aD)) | (apply SY.call (c1) Tryz.call47; exact ArgsD.cons (OpD.t rfl) (ArgsD.nil)) | (apply SY.call (c2) Tryz.call47; exact ArgsD.cons (OpD.t rfl) (ArgsD.nil)) | ((first | apply SY.move | apply SY.assign | apply SY.neq | apply SY.not) <;> (exact oD)) | exact SY.mkC0 cpxT | (apply SY.fldP0 colT; exact OpD.t rfl) | (apply SY.fldP1 colT; exact OpD.t rfl) | (apply SY.box; (exact oD); (exact hD)) | fail); all_goals infer_instance)); dsimp only [setD, z0, z1]) | (apply WC.condN; (exact oD); all_goals (intro h; try exact xD)) | refine WC.skip ?_ | refine WC.ret ?_ | refine ThenD.r ?_)); all_goals (first | ((repeat clear hK); (repeat clear Kx))))
        all_goals first | (exfalso; omega) | (refine ⟨trivial, ⟨_, rfl, ?_⟩, _, rfl, ?_⟩ <;> exact fD)
    · have e : stepK l x = ([], chkV x.1) := by unfold stepK; rw [if_neg (by omega), if_pos h1]
      rw [e]
      ((repeat' (first | (apply WL.opN; exact yF; dsimp only [setD, z0, z1]) | refine WL.nil ?_ | refine WC.seqK fun Kx hK => ?_ | (refine hK _ _ ?_; clear hK) | refine WC.region ?_ | (apply WL.alloc; (first | exact tzV | exact tzC); (first | exact shape_X rfl | exact shape_XV | exact shape_C0 rfl); (intro _; dsimp only [setD, z0, z1])) | (apply WL.storeF; (exact tD); rfl; (exact oD); (exact hD); dsimp only [setD, z0, z1]) | (apply WL.opN; (focus ((first | (apply SY.call (c0) Tryz.call35; (exact aD)) | (apply SY.call (c1) Tryz.call47; exact ArgsD.cons (OpD.t rfl) (ArgsD.nil)) | ((first | apply SY.move | apply SY.assign | apply SY.neq | apply SY.not) <;> (exact oD)) | exact SY.mkC0 cpxT | (apply SY.fldP0 colT; exact OpD.t rfl) | (apply SY.fldP1 colT; exact OpD.t rfl) | (apply SY.box; (exact oD); (exact hD)) | fail); all_goals infer_instance)); dsimp only [setD, z0, z1]) | (apply WC.condN; (exact oD); all_goals (intro h; try exact xD)) | refine WC.skip ?_ | refine WC.ret ?_ | refine ThenD.r ?_)); all_goals (first | ((repeat clear hK); (repeat clear Kx))))
      all_goals first | (exfalso; omega) | (refine ⟨trivial, ⟨_, rfl, ?_⟩, _, rfl, ?_⟩ <;> exact fD)
  · have e : stepK l x = ([], chkC l) := by unfold stepK; rw [if_pos h0]
    rw [e]
    ((repeat' (first | (apply WL.opN; exact yF; dsimp only [setD, z0, z1]) | refine WL.nil ?_ | refine WC.seqK fun Kx hK => ?_ | (refine hK _ _ ?_; clear hK) | refine WC.region ?_ | (apply WL.alloc; (first | exact tzV | exact tzC); (first | exact shape_X rfl | exact shape_XV | exact shape_C0 rfl); (intro _; dsimp only [setD, z0, z1])) | (apply WL.storeF; (exact tD); rfl; (exact oD); (exact hD); dsimp only [setD, z0, z1]) | (apply WL.opN; (focus ((first | (apply SY.call (c0) Tryz.call35; (exact aD)) | ((first | apply SY.move | apply SY.assign | apply SY.neq | apply SY.not) <;> (exact oD)) | exact SY.mkC0 cpxT | (apply SY.box; (exact oD); (exact hD)) | fail); all_goals infer_instance)); dsimp only [setD, z0, z1]) | (apply WC.condN; (exact oD); all_goals (intro h; try exact xD)) | refine WC.ret ?_ | refine ThenD.r ?_)); all_goals (first | ((repeat clear hK); (repeat clear Kx))))
    all_goals first | (exfalso; omega) | (refine ⟨trivial, ⟨_, rfl, ?_⟩, _, rfl, ?_⟩ <;> exact fD)
theorem of_good {l : Cx} (G : GoodX l) : ofP l = (l, 0) := by
  unfold ofP
  rw [if_neg (by have := G.1; omega), errC_of G.2.2.1, if_neg (by omega), max_good G]
end Go.Proofs.YtjbepoofigokjaaGreat
namespace Go.Proofs.YtjbepoofigokjaaGreat
open Go.RowKit
set_option linter.unusedSimpArgs false

set_option maxHeartbeats 2000000
set_option maxRecDepth 100000
section
variable {P : Program} {ops : Array Oper} {hp : List HObj} {fr : List Dat} {d : Dat} {dst : Option Tmp} {ty : TypeId} {ps : String} {af : Array Edge} {t e : TypeId} {n : Nat} {z : Value} {bytes : Nat} {ag : Bool}
theorem SW.storeK {x : Operand} {t b n : Nat} {T T2 : TypeId} {agg : Bool} {d0 : Dat} (hT : TyI P T n agg) (hp0 : OpD fr (.tmp t) (dX (.pointer (some ⟨b, 0, none⟩)))) (hx : OpD fr x d) (hs : d.Shape n agg) :
    SW P ops (hCell b T2 n agg d0 :: hp) (fun _ : Unit => hCell b T2 n agg d :: hp) (fun _ => dX undef) { dst := none, op := .store T (.tmp t) x, type := ty, pos := ps, after := af, guard := none } fr := ⟨rfl, fun {P0 B w0 w a} hh ho K Q hk => by
  obtain ⟨cs, u, c1, c2, c0, c3, c4, c5⟩ := hh.ok (hCell b T2 n agg d0) (by simp)
  have h1 : d.rd (Imm P0 B (hCell b T2 n agg d0 :: hp)) w (a.eval x) := hx.get (by simp [Op.operands]) ho
  obtain ⟨cs', k1, k0, k2, k3, k4⟩ := hs _ _ _ h1
  have h2 : a.eval (.tmp t) = .pointer (some ⟨b, 0, none⟩) := hp0.get (by simp [Op.operands]) ho
  have hr := run_storeC (u := a.eval x) hT.size c1 c2 k1 k2 k3
  have hrun : (execOp a.eval { dst := none, op := .store T (.tmp t) x, type := ty, pos := ps, after := af, guard := none }).run P w = .ok .skip (w.setRow b cs'.toArray) := by
    unfold execOp
    simp only [h2, Sem.run_bind, hr, Result.andThen_ok, Sem.run_pure]
  unfold Oper.wp
  rw [hrun]
  have hgr : w.grownBy (w.setRow b cs'.toArray) (hCell b T2 n agg d0).blk := grown_setRow
  have hok : (hCell b T2 n agg d).ok (fun k => Imm P0 B (hCell b T2 n agg d0 :: hp) k ∧ k < w.heap.size) (w.setRow b cs'.toArray) :=
    ⟨cs', a.eval x, setRow_heap w b _ _ _ _ c1, k1, k0, k2, k4, d.grown (d.bound h1) hgr (fun k hk hc => hc.1.2 _ (by simp) hk)⟩
  exact hk () undef _ (hh.write hgr (.inl rfl) hok) (fun d' u hd => Hp.written (o' := hCell b T2 n agg d) hgr (.inl rfl) hd) rfl⟩
theorem SW.appK {s y : Operand} (E : ElT P t e n z bytes ag) {α : Type} {R : Rel α} {_gR : Good R} {v : Value} {xs ys : List α} (hs : OpD fr s (dX v)) (hy : OpD fr y (dS (ArrK n R) ys)) (hby : 0 < bytes)
    (hlen : (xs.length + ys.length) * bytes ≤ 140737488355328) :
    SW P ops (hRowK v e n R xs :: hp) (fun v' : Value => hRowK v' e n R (xs ++ ys) :: hp) (fun v' => dX v') { dst := dst, op := .call { callee := .builtin .append, args := #[s, y], argTypes := #[t, t] }, type := ty, pos := ps, after := af, guard := none } fr := ⟨rfl, fun {P0 B w0 w a} hh ho K Q hk => by
  obtain ⟨ad, cap, hv, c1, c2, c0, c3⟩ := (hy.get (by simp [Op.operands, Call.operands]) ho : ArrK n R _ _ _ _)
  have hm : xs.length + ys.length ≤ maxLen := by
    have : (xs.length + ys.length) * 1 ≤ (xs.length + ys.length) * bytes := Nat.mul_le_mul_left _ hby
    simp only [maxLen]; omega
  have hse : a.eval s = v := hs.get (by simp [Op.operands, Call.operands]) ho
  cases ad with
  | none =>
    have hy0 : ys = [] := by
      cases ys with
      | nil => rfl
      | cons y ys => obtain ⟨_, _, _, _, _, _, hc, _⟩ := c3 0 (by simp); cases hc
    subst hy0
    obtain ⟨us, _, _, _, hown, _⟩ := hh.ok (hRowK v e n R xs) (by simp)
    have hrun : (execOp a.eval { dst := dst, op := .call { callee := .builtin .append, args := #[s, y], argTypes := #[t, t] }, type := ty, pos := ps, after := af, guard := none }).run P w = .ok (.value v) w := by
      have hr := run_append_none (P := P) (ty := ty) (w := w) E hown cap
      have hv' : a.eval y = .slice none 0 cap := hv
      unfold execOp
      simp only [resolve, invoke, builtin, List.map_toArray, List.map_cons, List.map_nil, hse, hv', Sem.run_bind, Sem.run_pure, Result.andThen_ok]
      rw [hr]
      simp
    unfold Oper.wp
    rw [hrun]
    have := hk v v w
    simp only [List.append_nil] at this
    exact this hh (fun _ _ h => h) rfl
  | some ad =>
    have hch : ∀ k : Nat, ∃ cs : List Value, ∀ h : k < ys.length, cs.length = n ∧ (∀ c ∈ cs, c.oneCell' = true) ∧ (∀ j c, cs[j]? = some c → w.cell? (ad.add (k * n + j)) = some c) ∧ R (Imm P0 B (hRowK v e n R xs :: hp)) w (.agg cs.toArray) ys[k] := fun k => by
      by_cases hk : k < ys.length
      · obtain ⟨cs, b, off, r1, r2, r3, r4, r5, r6⟩ := c3 k hk
        cases r4
        exact ⟨cs, fun _ => ⟨r2, r3, fun j c hc => by rw [Addr.add_lit, ← Nat.add_assoc]; exact r6 j c hc, r1⟩⟩
      · exact ⟨[], fun h => absurd h hk⟩
    obtain ⟨f, hfch⟩ := Classical.axiomOfChoice hch
    have hmem : ∀ u ∈ (List.range ys.length).map f, ∃ j, j < ys.length ∧ u = f j := fun u hu => by
      simp only [List.mem_map, List.mem_range] at hu
      obtain ⟨j, hj, rfl⟩ := hu
      exact ⟨j, hj, rfl⟩
    obtain ⟨v', w', hr, r1, r2, r3⟩ := appK_step (ty := ty) E hh (ad := ad) (c := cap) (ys := ys) (news := (List.range ys.length).map f) (by simp) (fun j u hu => by
        have hlt := (List.getElem?_eq_some_iff.1 hu).1
        have hfl : ((List.range ys.length).map f).flatten.length = ys.length * n := by
          rw [flatten_len (n := n) fun u hu => by obtain ⟨j, hj, rfl⟩ := hmem u hu; exact (hfch j hj).1]; simp
        rw [hfl] at hlt
        have hq : j / n < ys.length := (Nat.div_lt_iff_lt_mul c0).2 hlt
        have hr : j % n < n := Nat.mod_lt _ c0
        have hj : j = (j / n) * n + j % n := by rw [Nat.mul_comm]; exact (Nat.div_add_mod j n).symm
        have hlen' := (hfch (j / n) hq).1
        have hg := flatten_get (us := (List.range ys.length).map f) (n := n) (k := j / n) (j := j % n) (fun u hu => by obtain ⟨j, hj, rfl⟩ := hmem u hu; exact (hfch j hj).1) (by simpa using hq) (c := (f (j / n))[j % n]'(by omega)) (by simp)
        rw [← hj, hu] at hg
        cases hg
        have := (hfch (j / n) hq).2.2.1 (j % n) _ (List.getElem?_eq_getElem (by omega))
        rw [← hj] at this
        exact this)
      (fun u hu => by obtain ⟨j, hj, rfl⟩ := hmem u hu; exact ⟨(hfch j hj).1, (hfch j hj).2.1⟩) (fun k h1 h2 => by
        simp only [List.getElem_map, List.getElem_range]
        exact (hfch k h2).2.2.2) hlen hm
    have hrun : (execOp a.eval { dst := dst, op := .call { callee := .builtin .append, args := #[s, y], argTypes := #[t, t] }, type := ty, pos := ps, after := af, guard := none }).run P w = .ok (.value v') w' := by
      unfold execOp
      simp only [resolve, invoke, builtin, List.map_toArray, List.map_cons, List.map_nil, hse, hv, Sem.run_bind, Sem.run_pure, Result.andThen_ok, hr]
    unfold Oper.wp
    rw [hrun]
    exact hk v' v' w' r1 (fun d u hd => Hp.written (o := hRowK v e n R xs) (o' := hRowK v' e n R (xs ++ ys)) r2 r3 hd) rfl⟩
theorem WC.freezeC {Q : Post} {c : Code} {t b n : Nat} {T : TypeId} {agg : Bool} (hp0 : fr[t]? = some (dX (.pointer (some ⟨b, 0, none⟩)))) (h : WC P Q c (fr.set t (dP n agg d)) hp) : WC P Q c fr (hCell b T n agg d :: hp) := by
  refine WC.of fun P0 B w0 w a hh hf => ?_
  obtain ⟨cs, u, c1, c2, c0, c3, c4, c5⟩ := hh.ok (hCell b T n agg d) (by simp)
  have hown := hh.own (hCell b T n agg d) (by simp) b rfl
  refine h.on hh.drop ⟨hf.defers, by rw [hf.size, List.length_set], fun t' d' hd' => ?_⟩
  by_cases htt : t = t'
  · subst htt
    rw [List.getElem?_set] at hd'
    simp only [if_true] at hd'
    split at hd'
    · cases hd'
      have hv : a.tmps.getD t undef = .pointer (some ⟨b, 0, none⟩) := hf.rd t _ hp0
      rw [hv]
      refine ⟨b, 0, u, rfl, cells_of_obj c1 c2 c0 c3 c4 ⟨.inr hown.1, fun o' ho' hk => ?_⟩, d.weak c5 Imm.sub⟩
      exact (List.pairwise_cons.1 hh.apart).1 o' ho' b rfl hk
    · cases hd'
  · rw [List.getElem?_set_ne htt] at hd'
    exact d'.weak (hf.rd t' d' hd') Imm.sub
end
set_option maxHeartbeats 16000000 in
theorem reduce32_p (l : Cx) : Fn Tryz.prog 20 [dS Cpx l] (dT [dS Cpx (redK l).1, dS Cols (redK l).2.1, dI (redK l).2.2]) := by
  (refine Fn.introC3 tyC Tryz.func20 rfl rfl ?_; simp only [Tryz.ntmps20, List.length_cons, List.length_nil, Nat.reduceAdd, Nat.reduceSub, List.replicate_succ, List.replicate_zero, List.cons_append, List.nil_append])
  have c0 := check_p l
  by_cases h0 : chkC l = 0
  · have G := goodX_iff.1 h0
    have c1 := limited32_p l h0
    by_cases hw : 4096 < wholeN l 8
    · have e : redK l = ([], [], 17) := by unfold redK; rw [if_neg (by omega), if_pos hw]
      rw [e]
      rw [decide_eq_true hw] at c1
      ((repeat' (first | ((first | apply WL.opN | apply WD.opN); exact yF; dsimp only [setD, z0, z1]) | refine WL.nil ?_ | refine WC.seqK fun Kx hK => ?_ | (refine hK _ _ ?_; clear hK) | refine WC.region ?_ | (apply WL.alloc; (first | exact tzV | exact tzC); (first | exact shape_X rfl | exact shape_XV | exact shape_C0 rfl); (intro _; dsimp only [setD, z0, z1])) | (apply WL.storeF; (exact tD); rfl; (exact oD); (exact hD); dsimp only [setD, z0, z1]) | ((first | apply WL.opN | apply WD.opN); (focus ((first | (apply SY.call (c0) Tryz.call35; (exact aD)) | (apply SY.call (c1) Tryz.call54; (exact aD)) | ((first | apply SY.move | apply SY.assign | apply SY.eql | apply SY.neq) <;> (exact oD)) | exact SY.mkC0 cpxT | (apply SY.box; (exact oD); (exact hD)) | fail); all_goals infer_instance)); dsimp only [setD, z0, z1]) | (apply WC.condT; (exact oD); (with_reducible rfl)) | (apply WC.condN; (exact oD); all_goals (intro h; try exact xD)) | refine WC.skip ?_ | refine WC.ret ?_ | refine ThenD.r ?_)); all_goals (first | ((repeat clear hK); (repeat clear Kx))))
      all_goals first | (exfalso; omega) | (refine ⟨trivial, ⟨_, rfl, ?_⟩, ⟨_, rfl, ?_⟩, _, rfl, ?_⟩ <;> exact fD)
    · have e : redK l = ((reducedC l).1, (reducedC l).2, 0) := by unfold redK; rw [if_neg (by omega), if_neg hw]
      have c2 := of27_p l
      rw [of_good G] at c2
      rw [e]
      rw [decide_eq_false hw] at c1
      have hR : reducedC l = redC 4096 l := rfl
      generalize reducedC l = R at *
      (repeat' (first | ((first | apply WL.opN | apply WD.opN); exact yF; dsimp only [setD, z0, z1]) | refine WL.nil ?_ | refine WC.seqK fun Kx hK => ?_ | (refine hK _ _ ?_; clear hK) | refine WC.region ?_ |  (refine WL.alloc tzC (shape_C0 rfl) fun b2 => ?_; dsimp only [setD, z0, z1]) |  (apply WL.storeK tyC; exact OpD.t rfl; exact OpD.t rfl; exact shape_C; dsimp only [setD, z0, z1]) | ((first | apply WL.opN | apply WD.opN); (focus ((first | (apply SY.call (c0) Tryz.call35; (exact aD)) | (apply SY.call (c1) Tryz.call54; (exact aD)) | (apply SY.call (c2) Tryz.call33; (exact aD)) | ((first | apply SY.move | apply SY.assign | apply SY.eql | apply SY.neq) <;> (exact oD)) | (apply SY.fldC cpxT; exact OpD.t rfl) | (apply SY.extract; (exact oD); rfl) | (apply SY.box; (exact oD); (exact hD)) | fail); all_goals infer_instance)); dsimp only [setD, z0, z1]) | (apply WC.condF; (exact oD); (with_reducible rfl)) | (apply WC.condN; (exact oD); all_goals (intro h; try exact xD)) | refine WC.skip ?_ | refine WC.block ?_))
      all_goals first | (exfalso; omega) | skip
      rename Nat => b6
      refine WC.nilRowK 36 2 (by decide) Col ?_
      (refine WC.loopU (X := Nat × Cx × List Cl × Value) (fun x => [(8, dX x.2.2.2), (3, dA), (4, dA), (9, dA), (10, dA), (11, dA), (27, dA), (28, dA), (29, dA), (30, dA), (31, dA), (32, dA), (33, dA), (34, dA), (35, dA), (36, dA), (37, dA), (38, dA), (39, dA), (40, dA), (41, dA), (42, dA), (43, dA), (44, dA), (45, dA), (46, dA), (47, dA), (48, dA), (49, dA), (50, dA), (51, dA), (52, dA)]) (fun x => [hRowK x.2.2.2 36 2 Col x.2.2.1, hCell b6 24 1 true (dS Cpx x.2.1), hCell b2 24 1 true (dX (.agg #[.slice none 0 0]))]) (fun x => x.1) (fun x => GoodX x.2.1 ∧ wholeN x.2.1 8 ≤ x.1 ∧ x.1 ≤ 4096 ∧ x.2.2.1.length ≤ 4096 - x.1 ∧ R = ((redC x.1 x.2.1).1, x.2.2.1 ++ (redC x.1 x.2.1).2)) (4096, l, [], .slice none 0 0) ?start ?frame0 ?objs0 ?round)
      case start => exact ⟨G, by show wholeN l 8 ≤ 4096; omega, Nat.le_refl _, Nat.zero_le _, hR⟩
      case frame0 => ((try dsimp only [upds, z0, z1]); repeat (first | exact LeF.nil | refine LeF.co (k := ?_)))
      case objs0 => rfl
      case round =>
        rintro ⟨n, cur, out, v⟩ ⟨k1, k2, k3, k4, k5⟩
        simp only at k1 k2 k3 k4 k5
        dsimp only [upds, z0, z1]
        have c3 := sorted32_p cur k1
        cases hL : pairsC cur with
        | nil =>
          rw [hL] at c3
          rw [redC_nil hL, List.append_nil] at k5
          subst k5
          ((repeat' (first | ((first | apply WL.opN | apply WD.opN); exact yF; dsimp only [setD, z0, z1]) | refine WL.nil ?_ | refine WC.seqK fun Kx hK => ?_ | (refine hK _ _ ?_; clear hK) | refine WC.region ?_ | (apply WL.storeF2; (exact tD); rfl; (exact oD); (exact hD); dsimp only [setD, z0, z1]) | (apply WL.storeF3; (exact tD); rfl; (exact oD); (exact hD); dsimp only [setD, z0, z1]) | ((first | apply WL.opN | apply WD.opN); (focus ((first | (apply SY.call (c3) Tryz.call43; (exact aD)) | (apply SY.loadH tyC; exact OpD.t rfl; exact .tail _ (.head _)) | ((first | apply SY.move | apply SY.assign | apply SY.eql | apply SY.neq) <;> (exact oD)) | (apply SY.len; (exact oD); (exact nD); (exact uD)) | fail); all_goals infer_instance)); dsimp only [setD, z0, z1]) | (apply WC.condD; (exact oD); all_goals (intro h; try exact xD)) | refine WC.ret ?_ | refine WC.block ?_ | refine ThenD.r ?_ | refine InBlockD.r ?_)); all_goals (first | ((repeat clear hK); (repeat clear Kx))))
          all_goals first | (exfalso; omega) | skip
          (refine ⟨trivial, ⟨_, rfl, ?_⟩, ⟨_, rfl, ?_⟩, _, rfl, ?_⟩ <;> exact fD)
        | cons x t =>
          have hx := pair_ok k1 (show x ∈ pairsC cur by rw [hL]; exact List.mem_cons_self ..)
          rw [hL] at c3
          have h2 := left_two k1 hx
          have G2 := left_good k1 hx (by omega)
          have c4 := after32_p cur k1 x hx G2.1
          obtain ⟨n, rfl⟩ : ∃ m, n = m + 1 := ⟨n - 1, by omega⟩
          rw [redC_cons hL] at k5
          have hlen : (x :: t).length = t.length + 1 := rfl
          have hpos : 0 < (x :: t).length := Nat.succ_pos _
          have h48 : (out.length + [x].length) * 48 ≤ 140737488355328 := by rw [List.length_singleton]; omega
          ((repeat' (first |  (refine WC.drawM (fun hp' => hCell b6 24 1 true (dS Cpx cur) ∈ hp') 10 1 [(0, false), (1, false), (2, false), (3, false), (4, false), (5, false), (6, false), (7, false), (8, true), (9, true)] [true, true, true, true, true, true, true, true, true, true, false] (by kernel_rfl) (by kernel_rfl) (by kernel_rfl) rfl (.tail _ (.head _)) ?_) |  (first | refine WA.one (S := [true, true, true, true, true, true, true, true, true, true, false]) (i := 10) (by kernel_rfl) rfl ?_ | refine WA.nil (S := [true, true, true, true, true, true, true, true, true, true, true]) (by kernel_rfl) ?_) |  (refine WC.drawM (fun _ => True) 7 2 [(0, false), (1, false), (2, false), (3, false), (4, false), (5, false), (6, true)] [true, true, true, true, true, true, true, false, false] (by kernel_rfl) (by kernel_rfl) (by kernel_rfl) rfl (trivial) ?_) |  (first | refine WA.one (S := [true, true, true, true, true, true, true, false, false]) (i := 7) (by kernel_rfl) rfl ?_ | refine WA.one (S := [true, true, true, true, true, true, true, true, false]) (i := 8) (by kernel_rfl) rfl ?_ | refine WA.nil (S := [true, true, true, true, true, true, true, true, true]) (by kernel_rfl) ?_) |  (refine WM.writeL rfl (SW.alloc tzC (shape_C0 rfl)) (fun _ => .tail _ (.tail _ (.head _))) fun b10 => ?_; dsimp only [setD, z0, z1, List.cons_append, List.nil_append]) |  (refine WM.writeL rfl (SW.storeK tyC (OpD.t rfl) (OpD.t rfl) shape_C) (fun _ => .tail _ (.tail _ (.head _))) fun _ => ?_; dsimp only [setD, z0, z1, List.cons_append, List.nil_append]) |  (refine WC.freezeC (t := 10) rfl ?_; dsimp only [z0, z1]) |  (refine WM.writeL rfl (SW.appK elCo (OpD.t rfl) (OpD.t rfl) (by decide) h48) (fun _ => trivial) fun v' => ?_; dsimp only [setD, z0, z1, List.cons_append, List.nil_append]) | (refine WM.nil ?_) | (apply WM.readL rfl; (focus (intro c hcc; apply SYG.yes; (exact want_none rfl); ((first | (apply SY.call (c3) Tryz.call43; (exact aD)) | (apply SY.call (c4) Tryz.call49; (exact aD)) | (apply SY.loadH tyC; exact OpD.t rfl; (first | exact hcc | exact .tail _ (.head _))) | (refine SY.ixK (R := Col) (_gR := inferInstance) (k := 0) elCo (OpD.t rfl) OpD.i hpos) | ((first | apply SY.move | apply SY.assign | apply SY.eql | apply SY.neq) <;> (exact oD)) | (apply SY.load; (exact tD); (exact oD)) | (apply SY.buildE; (exact eD); ((try simp only [List.map_cons, List.map_nil]); (repeat (first | exact ElsD.nl | (apply ElsD.cn; (first | exact OpD.t rfl | exact OpD.i | exact OpD.b | exact OpD.tle rfl (by first | exact Dat.le_nil | exact Dat.le_nilK (by decide)) | exact ⟨Dat.le_nil⟩ | exact ⟨Dat.le_nilK (by decide)⟩))))); rfl; rfl; decide; (intro _; exact shape_P); (exact (by simp))) | (apply SY.extract; (exact oD); rfl) | fail); all_goals infer_instance))); dsimp only [setD, z0, z1]) | ((first | apply WL.opN | apply WD.opN); exact yF; dsimp only [setD, z0, z1]) | refine WL.nil ?_ | refine WC.seqK fun Kx hK => ?_ | (refine hK _ _ ?_; clear hK) | refine WC.region ?_ |  (refine WL.perm (List.Perm.swap _ _ _) ?_; apply WL.storeK tyC; exact OpD.t rfl; exact OpD.t rfl; exact shape_C; refine WL.perm (List.Perm.swap _ _ _) ?_; dsimp only [setD, z0, z1]) | ((first | apply WL.opN | apply WD.opN); (focus ((first | (apply SY.call (c3) Tryz.call43; (exact aD)) | (apply SY.call (c4) Tryz.call49; (exact aD)) | (apply SY.loadH tyC; exact OpD.t rfl; (first | exact hcc | exact .tail _ (.head _))) | ((first | apply SY.move | apply SY.assign | apply SY.eql | apply SY.neq) <;> (exact oD)) | (apply SY.len; (exact oD); (exact nD); (exact uD)) | fail); all_goals infer_instance)); dsimp only [setD, z0, z1]) | (apply WC.condD; (exact oD); all_goals (intro h; try exact xD)) | (apply WC.condN; (exact oD); all_goals (intro h; try exact xD)) | refine WC.skip ?_ | refine WC.block ?_ | refine ThenD.n ?_ | refine InBlockD.n ?_)); all_goals (first | ((repeat clear hK); (repeat clear Kx))))
          all_goals first | (exfalso; omega) | skip
          rename_i v'
          (refine ⟨(n, leftC cur x, out ++ [x], v'), ?_, by first | omega | (simp only; omega), rfl, ?_⟩; rotate_left; ((try dsimp only [upds, z0, z1]); repeat (first | exact LeF.nil | refine LeF.co (k := ?_))); (try dsimp only))
          refine ⟨G2, by show wholeN (leftC cur x) 8 ≤ n; omega, by show n ≤ 4096; omega, by show (out ++ [x]).length ≤ 4096 - n; rw [List.length_append, List.length_singleton]; omega, ?_⟩
          rw [k5]
          show (_, out ++ x :: _) = (_, (out ++ [x]) ++ _)
          rw [List.append_assoc]; rfl
  · have e : redK l = ([], [], chkC l) := by unfold redK; rw [if_pos h0]
    rw [e]
    ((repeat' (first | ((first | apply WL.opN | apply WD.opN); exact yF; dsimp only [setD, z0, z1]) | refine WL.nil ?_ | refine WC.seqK fun Kx hK => ?_ | (refine hK _ _ ?_; clear hK) | refine WC.region ?_ | (apply WL.alloc; (first | exact tzV | exact tzC); (first | exact shape_X rfl | exact shape_XV | exact shape_C0 rfl); (intro _; dsimp only [setD, z0, z1])) | (apply WL.storeF; (exact tD); rfl; (exact oD); (exact hD); dsimp only [setD, z0, z1]) | ((first | apply WL.opN | apply WD.opN); (focus ((first | (apply SY.call (c0) Tryz.call35; (exact aD)) | ((first | apply SY.move | apply SY.assign | apply SY.eql | apply SY.neq) <;> (exact oD)) | exact SY.mkC0 cpxT | (apply SY.box; (exact oD); (exact hD)) | fail); all_goals infer_instance)); dsimp only [setD, z0, z1]) | (apply WC.condN; (exact oD); all_goals (intro h; try exact xD)) | refine WC.ret ?_ | refine ThenD.r ?_)); all_goals (first | ((repeat clear hK); (repeat clear Kx))))
    all_goals first | (exfalso; omega) | (refine ⟨trivial, ⟨_, rfl, ?_⟩, ⟨_, rfl, ?_⟩, _, rfl, ?_⟩ <;> exact fD)
end Go.Proofs.YtjbepoofigokjaaGreat
