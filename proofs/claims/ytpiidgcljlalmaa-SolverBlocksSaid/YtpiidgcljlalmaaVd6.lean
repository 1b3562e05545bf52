/- Part 6: walks by contracts, and plain laws. -/
import Derived.Deep.Matrix
import Derived.Lib.SmallJoins
import Derived.Test.YtpiidgcljlalmaaRows
import Derived.Test.YtpiidgcljlalmaaVd5
set_option linter.unusedVariables false
set_option linter.unusedSimpArgs false
set_option linter.unusedSectionVars false
namespace Go.Proofs.Ytpiidgcljlalmaa
open Go.RowKit
open S43 (beginS)
def ngI (c : List Int) : List Int := c.map fun x => -x
theorem ngI_take {c : List Int} {i : Nat} (h : i < c.length) : ngI (c.take (i + 1)) = ngI (c.take i) ++ [-(c[i])] := by
  unfold ngI
  rw [List.take_succ_eq_append_getElem h, List.map_append]; rfl
theorem RunR.imp {V : Nat} {l lr : List (List Int)} {c res : List Int} {k : Int} (hc : WfC V c) (h : RunR V (ngI c) l k res lr) : impB V l c = decide (k = 2) := by
  rcases h.is with rfl | rfl
  · have h1 := h.yes rfl
    rw [show decide ((1 : Int) = 2) = false from rfl]
    unfold impB
    rw [List.all_eq_false]
    refine ⟨res, h1.1, fun ht => ?_⟩
    obtain ⟨x, x1, x2⟩ := trueI_iff.1 ht
    exact (sat_model h1.1).1 x x2 (h1.2 (-x) (List.mem_map.2 ⟨x, x1, rfl⟩))
  · obtain ⟨q1, q2⟩ := h.no rfl
    rw [show decide ((2 : Int) = 2) = true from rfl]
    unfold impB
    rw [List.all_eq_true]
    intro m hm
    by_cases ht : trueI c m = true
    · exact ht
    · exfalso
      refine q2 m hm fun x hx => ?_
      obtain ⟨y, y1, rfl⟩ := List.mem_map.1 (q1.subset hx)
      obtain ⟨_, s2, _⟩ := sat_model hm
      have hr := hc.rng y y1
      rcases s2 y hr.1 hr.2 with q | q
      · exact absurd (trueI_iff.2 ⟨y, y1, q⟩) ht
      · exact q
theorem imp_follows {V : Nat} (hV : V ≤ 4096) {l : List (List Int)} (hw : WfL V l) {c : List Int} (hc : WfC V c) (h : followsI l c = true) : impB V l c = true := by
  unfold impB
  rw [List.all_eq_true]
  intro m hm
  obtain ⟨h1, h2, h3⟩ := model_mem.1 hm
  exact follows_holds hV hw hc (pos_modl h1 h2) h3 h
set_option linter.unusedSimpArgs false
set_option linter.unusedVariables false
set_option maxHeartbeats 2000000
set_option maxRecDepth 100000
set_option maxHeartbeats 8000000 in
theorem implies_p (V : Nat) (l : List (List Int)) (c : List Int) (hV : V ≤ 10) (hck : checkI (V : Int) l = 0) (hc : WfC V c) : Fn Try.prog 29 [dS Cls ((V : Int), l), dS Ints c] (dT [dB (impB V l c), dI 0]) := by
  obtain ⟨_, _, hll, hcl⟩ := checkI_zero hck
  have hw : WfL V l := (clausesI_iff (by omega)).1 hcl
  have h1 := implied43_p (V : Int) l c (irr_wf (by omega) hw)
  have hcc : clauseI (V : Int) none c = 0 := (clauseI_iff (by omega)).2 hc
  have e1 : impliedI (V : Int) l c = (followsI l c, 0) := by unfold impliedI; rw [if_neg (by simp [hck]), if_neg (by simp [hcc])]
  rw [e1] at h1
  have hcn : c.length ≤ V := S43.trail_len hc.rng (hc.inc.imp fun h => by omega)
  have hb := begin_z V l (by omega) hw (by omega)
  have hnl : (ngI c).length = c.length := by simp [ngI]
  have hnr : ∀ x ∈ ngI c, x ≠ 0 ∧ x.natAbs ≤ V := fun x hx => by
    obtain ⟨y, y1, rfl⟩ := List.mem_map.1 hx
    have := hc.rng y y1
    omega
  have hr := fun (X : Lay) (hX : X.cf = 0) => run_z X V (ngI c) l hV (by omega) hnr (by omega) hw hX
  (refine Fn.intro2 Try.func29 rfl rfl ?_; simp only [Try.ntmps29, List.length_cons, List.length_nil, Nat.reduceAdd, Nat.reduceSub, List.replicate_succ, List.replicate_zero, List.cons_append, List.nil_append])
  cases hf : followsI l c with
  | true =>
    rw [hf] at h1
    have hi := imp_follows (by omega) hw hc hf
    ((repeat' (first | (apply WL.opN; exact yF; dsimp only [setD, z0, z1]) | refine WL.nil ?_ | refine WC.seqK fun Kx hK => ?_ | (refine hK _ _ ?_; clear hK) | refine WC.region ?_ | (apply WL.opG; (focus (first | exact wN | (apply SYG.yes; (exact wY); ((first | (apply SY.call (h1) Try.call49; (exact aD)) | (apply SY.pickT; (exact oD); (with_reducible rfl); (exact oD)) | (apply SY.extract; (exact oD); rfl) | (apply SY.box; (exact oD); (exact hD)) | fail); all_goals infer_instance)))); dsimp only [setD, z0, z1]) | (apply WC.condT; (exact oD); (with_reducible rfl)) | refine WC.ret ?_ | refine ThenD.r ?_)); all_goals (first | ((repeat clear hK); (repeat clear Kx))))
    all_goals try (exfalso; first | contradiction | omega)
    (refine ⟨trivial, ⟨_, rfl, ?_⟩, _, rfl, ?_⟩ <;> (first | exact fD | refine FinD.b ?_))
    exact hi.symm
  | false =>
    rw [hf] at h1
    refine WC.nilRow 3 RI ?_
    (repeat' (first | (apply WL.opN; exact yF; dsimp only [setD, z0, z1]) | refine WL.nil ?_ | refine WC.seqK fun Kx hK => ?_ | (refine hK _ _ ?_; clear hK) | refine WC.region ?_ | (apply WL.opG; (focus (first | exact wN | (apply SYG.yes; (exact wY); ((first | (apply SY.call (h1) Try.call49; (exact aD)) | ((first | apply SY.move | apply SY.assign | apply SY.lss | apply SY.eql | apply SY.neq) <;> (exact oD)) | (apply SY.len; (exact oD); (exact nD); (exact uD)) | (apply SY.pickF; (exact oD); (with_reducible rfl); (exact oD)) | (apply SY.extract; (exact oD); rfl) | (apply SY.box; (exact oD); (exact hD)) | fail); all_goals infer_instance)))); dsimp only [setD, z0, z1]) | (apply WC.condN; (exact oD); all_goals (intro h; try exact xD)) | refine WC.skip ?_ | refine WC.block ?_))
    all_goals try (exfalso; first | contradiction | omega)
    (refine WC.loopU (X := Nat × Value) (fun x => [(28, dI (x.1 : Int)), (8, dX x.2), (10, dA), (29, dA), (30, dA), (31, dA), (32, dA), (33, dA), (34, dA), (35, dA), (36, dA), (37, dA)]) (fun x => ([hRow x.2 3 RI (ngI (c.take x.1))])) (fun x => c.length - x.1) (fun x => x.1 ≤ c.length) (0, nilV) ?start ?frame0 ?objs0 ?round)
    case start => exact Nat.zero_le _
    case frame0 => ((try dsimp only [upds, z0, z1]); repeat (first | exact LeF.nil | refine LeF.co (k := ?_)))
    case objs0 => rfl
    case round =>
      rintro ⟨i, vo⟩ hi
      simp only at hi
      dsimp only [upds, z0, z1]
      by_cases hil : i < c.length
      · have hlti : (i : Int) < (c.length : Int) := by omega
        obtain ⟨x, hx⟩ : ∃ x, c[i] = x := ⟨_, rfl⟩
        have hxr := hc.rng x (by rw [← hx]; exact List.getElem_mem hil)
        have et := ngI_take (c := c) hil
        rw [hx] at et
        have hcln : (ngI (c.take i)).length = i := by simp [ngI]; omega
        have h24 : ((ngI (c.take i)).length + 1) * 8 ≤ 140737488355328 := by omega
        ((repeat' (first | (apply WL.opN; exact yF; dsimp only [setD, z0, z1]) | refine WL.nil ?_ | refine WC.seqK fun Kx hK => ?_ | (refine hK _ _ ?_; clear hK) | refine WC.region ?_ | ((first | apply WL.pushK | apply WL.push1); (exact eD); exact OpD.t rfl; (exact oD); (intro _; exact hD); (exact (by simp)); (exact (by simp)); (first | exact ⟨by decide, by decide⟩ | skip); decide; (exact lD); (intro _; dsimp only [setD, z0, z1]); all_goals (try infer_instance)) | (apply WL.opG; (focus (first | exact wN | (apply SYG.yes; (exact wY); ((first | (refine SY.ixE1 (R := RI) (_gR := inferInstance) elI hil hx (OpD.t rfl) (OpD.t rfl)) | (exact SY.neg (OpD.t rfl) (by omega)) | ((first | apply SY.move | apply SY.assign | apply SY.lss | apply SY.eql | apply SY.neq) <;> (exact oD)) | ((first | apply SY.add) <;> first | exact oD | omega) | fail); all_goals infer_instance)))); dsimp only [setD, z0, z1]) | (apply WC.condD; (exact oD); all_goals (intro h; try exact xD)) | refine WC.skip ?_ | refine WC.block ?_ | refine ThenD.n ?_)); all_goals (first | ((repeat clear hK); (repeat clear Kx))))
        all_goals try (exfalso; first | contradiction | omega)
        rw [← et]
        (refine ⟨(i + 1, _), ?_, by first | omega | (simp only; omega), rfl, ?_⟩; rotate_left; ((try dsimp only [upds, z0, z1]); repeat (first | exact LeF.nil | refine LeF.co (k := ?_))); (try dsimp only))
        omega
      · have hlti : ¬ (i : Int) < (c.length : Int) := by omega
        obtain rfl : i = c.length := by omega
        rw [List.take_length]
        (repeat' (first |  (refine WC.only 10 (Halt.go ?_)) | refine WL.nil ?_ | refine WC.seqK fun Kx hK => ?_ | (refine hK _ _ ?_; clear hK) | (refine Kont.skip ?_; clear hK) | refine WC.region ?_ | (apply WL.opG; (focus (first | exact wN | (apply SYG.yes; (exact wY); ((first | ((first | apply SY.move | apply SY.assign | apply SY.lss | apply SY.eql | apply SY.neq) <;> (exact oD)) | fail); all_goals infer_instance)))); dsimp only [setD, z0, z1]) | (apply WC.condD; (exact oD); all_goals (intro h; try exact xD)) | refine WC.exit ?_))
        all_goals try (exfalso; first | contradiction | omega)
        refine ⟨WC.keep1 (s := 8) rfl ?_⟩
        dsimp only [z0, z1]
        (repeat' (first |  (refine WC.only 11 (Halt.go ?_)) | (apply WL.opN; exact yF; dsimp only [setD, z0, z1]) | refine WL.nil ?_ | refine WC.seqK fun Kx hK => ?_ | (refine hK _ _ ?_; clear hK) | refine WC.region ?_ |  (refine WL.callC (hp1 := []) (caps := []) hb Try.call47 OpD.f (ArgsD.cons (OpD.t rfl) (ArgsD.cons (OpD.t rfl) ArgsD.nil)) ?_; rintro d' hp2 ⟨X, hX, rfl, rfl⟩; dsimp only [setD, z0, z1]) |  (refine WL.callC (hp := []) (hp1 := runO X V (beginS l) [] []) (caps := []) (hr X hX) Try.call48 OpD.f (ArgsD.cons (OpD.t rfl) (ArgsD.cons (OpD.t rfl) ArgsD.nil)) ?_; rintro d' hp2 ⟨k, res, lr, Y, s, rfl, rfl, hYb, hRR, hSS⟩; dsimp only [setD, z0, z1, List.cons_append, List.nil_append]) | (apply WL.opG; (focus (first | exact wN | (apply SYG.yes; (exact wY); ((first | (apply SY.fldP0 clT; exact OpD.t rfl) | (apply SY.fldP1 clT; exact OpD.t rfl) | (apply SY.extract; (exact oD); rfl) | fail); all_goals infer_instance)))); dsimp only [setD, z0, z1])))
        all_goals try (exfalso; first | contradiction | omega)
        refine ⟨?_⟩
        rcases hRR.is with rfl | rfl
        · have hi2 := hRR.imp hc
          clear hRR hSS
          ((repeat' (first | (apply WL.opN; exact yF; dsimp only [setD, z0, z1]) | refine WL.nil ?_ | refine WC.seqK fun Kx hK => ?_ | (refine hK _ _ ?_; clear hK) | refine WC.region ?_ | (apply WL.opG; (focus (first | exact wN | (apply SYG.yes; (exact wY); ((first | ((first | apply SY.move | apply SY.assign | apply SY.lss | apply SY.eql | apply SY.neq) <;> (exact oD)) | fail); all_goals infer_instance)))); dsimp only [setD, z0, z1]) | (apply WC.condD; (exact oD); all_goals (intro h; try exact xD)) | refine WC.skip ?_ | refine WC.ret ?_)); all_goals (first | ((repeat clear hK); (repeat clear Kx))))
          all_goals try (exfalso; first | contradiction | omega)
          (refine ⟨trivial, ⟨_, rfl, ?_⟩, _, rfl, ?_⟩ <;> (first | exact fD | refine FinD.b ?_))
          exact hi2.symm
        · have hi2 := hRR.imp hc
          clear hRR hSS
          ((repeat' (first | (apply WL.opN; exact yF; dsimp only [setD, z0, z1]) | refine WL.nil ?_ | refine WC.seqK fun Kx hK => ?_ | (refine hK _ _ ?_; clear hK) | refine WC.region ?_ | (apply WL.opG; (focus (first | exact wN | (apply SYG.yes; (exact wY); ((first | ((first | apply SY.move | apply SY.assign | apply SY.lss | apply SY.eql | apply SY.neq) <;> (exact oD)) | fail); all_goals infer_instance)))); dsimp only [setD, z0, z1]) | (apply WC.condD; (exact oD); all_goals (intro h; try exact xD)) | refine WC.skip ?_ | refine WC.ret ?_)); all_goals (first | ((repeat clear hK); (repeat clear Kx))))
          all_goals try (exfalso; first | contradiction | omega)
          (refine ⟨trivial, ⟨_, rfl, ?_⟩, _, rfl, ?_⟩ <;> (first | exact fD | refine FinD.b ?_))
          exact hi2.symm
end Go.Proofs.Ytpiidgcljlalmaa
namespace Go.Proofs.Ytpiidgcljlalmaa
open Go.RowKit
abbrev exL : List (List Int) := [[1, 2], [-1, 3], [-2, 3]]
abbrev exM : List (List Int) := [[1, 2, 3], [1, -2, 3], [-1, 2, 3]]
abbrev exB : List (List Int) := [[1, 2], [-1, 3], [-2, 3], [-3]]
abbrev exC : List (List Int) := [[1], [1, 2], [-1, 3], [-2, 3], [-3]]
theorem ex_all : allF 3 exL [] = exM := by decide +kernel
theorem ex_b {v : Int} {m : List Int} {p : List (List Int)} (h : SolveR 3 exB v m p) : v = 2 ∧ (p.length : Int) ≠ 0 := by
  rcases h.is with ⟨_, _, h2⟩ | ⟨h1, _, h2, _, _, _⟩
  · have e : allF 3 exB [] = [] := by decide +kernel
    rw [e] at h2; cases h2
  · refine ⟨h1, fun q => h2 (List.length_eq_zero_iff.1 (by omega))⟩
theorem ex_u {v : Int} {m c : List Int} (h : UnderR 3 exL [-3] v m c) : v = 2 ∧ c = [-3] := by
  unfold UnderR at h
  rw [ex_all] at h
  rcases h with ⟨_, _, h2, h3⟩ | ⟨h1, _, h2, h3⟩
  · have h4 := h3 (-3) (by simp)
    clear h3
    exfalso
    simp only [List.mem_cons, List.not_mem_nil, or_false] at h2
    rcases h2 with rfl | rfl | rfl <;> revert h4 <;> decide
  · refine ⟨h1, ?_⟩
    match c, h2, h3 with
    | [], _, h3 => exact absurd (fun x hx => by cases hx) (h3 [1, 2, 3] (by simp))
    | [x], h2, _ => exact h2.eq_of_length rfl
    | _ :: _ :: _, h2, _ => have := h2.length_le; simp at this
theorem ex_v {v : Int} {m c : List Int} (h : UnderR 3 exL [-1] v m c) : v = 1 ∧ m = [-1, 2, 3] := by
  unfold UnderR at h
  rw [ex_all] at h
  rcases h with ⟨h1, _, h2, h3⟩ | ⟨_, _, h2, h3⟩
  · have h4 := h3 (-1) (by simp)
    refine ⟨h1, ?_⟩
    clear h3
    simp only [List.mem_cons, List.not_mem_nil, or_false] at h2
    rcases h2 with rfl | rfl | rfl
    · revert h4; decide
    · revert h4; decide
    · rfl
  · refine absurd (fun x hx => ?_) (h3 [-1, 2, 3] (by simp))
    have := h2.subset hx
    rw [List.mem_singleton.1 this]; decide
set_option linter.unusedSimpArgs false
set_option linter.unusedVariables false
set_option maxHeartbeats 2000000
set_option maxRecDepth 100000
theorem example_p (t : List (List Int)) (ht : t.length ≤ 10) : Fn Try.prog 54 [dS Rows t] (dS Cls (3, exL ++ t)) := by
  refine Fn.introC1 tyV Try.func54 rfl rfl ?_
  -- @kinds law43.example
  simp only [Try.ntmps54, List.length_cons, List.length_nil, Nat.reduceAdd, Nat.reduceSub, List.replicate_succ, List.replicate_zero, List.cons_append, List.nil_append]
  ((repeat' (first | (apply WL.opN; exact yF; dsimp only [setD, z0, z1]) | refine WL.nil ?_ | refine WC.seqK fun Kx hK => ?_ | (refine hK _ _ ?_; clear hK) | refine WC.region ?_ |  (refine WL.alloc (dst := some 2) (T := 24) tzV shape_Z43 fun b2 => ?_; dsimp only [setD, z0, z1]) |  (refine WL.storeF tyV rfl (OpD.t rfl) (shape_Agg (by decide) rfl) ?_; dsimp only [setD, z0, z1]) | (apply WL.opN; (focus ((first | (refine SY.full1 elSi (R := Ints) (_gR := inferInstance) (as1 := exL) (ElsD.cn (OpD.t rfl) (ElsD.cn (OpD.t rfl) (ElsD.cn (OpD.t rfl) ElsD.nl))) rfl rfl (fun _ => shape_A) (by simp)) | (exact SY.appF elSi (R := Ints) (_gR := inferInstance) (OpD.t rfl) (OpD.t rfl) (by decide) (by simp; omega)) | (exact SY.mkA is_A OpD.i (OpD.t rfl)) | (apply SY.build1'; (exact eD); ((try simp only [List.map_cons, List.map_nil]); (repeat (first | exact ElsD.nl | (apply ElsD.cn; (first | exact OpD.t rfl | exact OpD.i | exact OpD.b | exact OpD.tle rfl (by first | exact Dat.le_nil | exact Dat.le_nilK (by decide)) | exact ⟨Dat.le_nil⟩ | exact ⟨Dat.le_nilK (by decide)⟩))))); rfl; rfl; (intro _; first | exact shape_K | exact shape_I | exact shape_A | exact shape_B); (exact (by simp))) | fail); all_goals infer_instance)); dsimp only [setD, z0, z1]) | refine WC.ret ?_)); all_goals (first | ((repeat clear hK); (repeat clear Kx))))
  all_goals try (exfalso; first | contradiction | omega)
  exact ⟨trivial, _, rfl, FinD.le (agg_le (Dat.le_refl _) (Dat.le_refl _))⟩
set_option maxHeartbeats 16000000 in
theorem awake_p : Fn Try.prog 21 [] (dB true) := by
  have hx1 : Fn Try.prog 54 [dS Rows []] (dS Cls (3, exL)) := example_p [] (by decide)
  have hx2 : Fn Try.prog 54 [dS Rows [[-3]]] (dS Cls (3, exB)) := example_p [[-3]] (by decide)
  have ckL : checkI ((3 : Nat) : Int) exL = 0 := by decide +kernel
  have ckB : checkI ((3 : Nat) : Int) exB = 0 := by decide +kernel
  have ckC : checkI ((3 : Nat) : Int) exC = 0 := by decide +kernel
  have hM : Fn Try.prog 22 [dS Cls (3, exL), dI 3] (dT [dS Rows exM, dI 0]) := by
    have h := models43_p 3 exL 3 (by decide) (by decide) ckL
    rw [ex_all] at h; exact h
  have hN : Fn Try.prog 15 [dS Cls (3, exL)] (dT [dI 3, dI 0]) := by
    have h := count43_p 3 exL (by decide) ckL
    rw [ex_all] at h; exact h
  have wf3 : WfC 3 [3] := (clauseI_iff (V := 3) (by decide)).1 (by decide +kernel)
  have wf1 : WfC 3 [1] := (clauseI_iff (V := 3) (by decide)).1 (by decide +kernel)
  have hI3 : Fn Try.prog 29 [dS Cls (3, exL), dS Ints [3]] (dT [dB true, dI 0]) := by
    have h := implies_p 3 exL [3] (by decide) ckL wf3
    rw [show impB 3 exL [3] = true by unfold impB; rw [ex_all]; decide +kernel] at h; exact h
  have hI1 : Fn Try.prog 29 [dS Cls (3, exL), dS Ints [1]] (dT [dB false, dI 0]) := by
    have h := implies_p 3 exL [1] (by decide) ckL wf1
    rw [show impB 3 exL [1] = false by unfold impB; rw [ex_all]; decide +kernel] at h; exact h
  have hSA : Fn Try.prog 25 [dS Rows exM, dS Rows exM] (dB true) := by
    have h := sameAll43_p exM exM
    rw [show sameAllI exM exM = true by decide +kernel] at h; exact h
  have hS : CallC Try.prog 16 ([dS Cls (3, exB)] ++ ([] : List Value).map dX) [] (fun d hp2 => hp2 = [] ∧ ∃ e2 e3 e4 e5, d = dT [e2, e3, e4, e5] ∧ ∃ v m p, e2 = dI v ∧ e3 = dS Ints m ∧ e4 = dS Rows p ∧ e5 = dI 0 ∧ SolveR 3 exB v m p) := solve_c 3 exB (by decide) ckB
  have hC1 : Fn Try.prog 32 [dS Cls (3, exB)] (dT [dS Ints [0, 1, 2, 3], dI 0]) := by
    have h := coreS_p 3 exB (by decide) ckB
    rw [show unsB 3 exB = true by decide +kernel, show core43 3 exB = [0, 1, 2, 3] by decide +kernel] at h; exact h
  have hC2 : Fn Try.prog 32 [dS Cls (3, exC)] (dT [dS Ints [0, 2, 4], dI 0]) := by
    have h := coreS_p 3 exC (by decide) ckC
    rw [show unsB 3 exC = true by decide +kernel, show core43 3 exC = [0, 2, 4] by decide +kernel] at h; exact h
  have an3 : Asn 3 [-3] := (Asn.nil 3).snoc (x := -3) (by omega) (by simp) (by simp)
  have an1 : Asn 3 [-1] := (Asn.nil 3).snoc (x := -1) (by omega) (by simp) (by simp)
  have hU3 := under_c 3 exL [-3] (by decide) ckL an3
  have hU1 := under_c 3 exL [-1] (by decide) ckL an1
  rw [show ((3 : Nat) : Int) = 3 from rfl] at hU3 hU1
  have hE (x y : List Int) (h : x = y) : Fn Try.prog 35 [dS Ints x, dS Ints y] (dB true) := by
    have := equal43_p x y
    rw [decide_eq_true h] at this; exact this
  have hE1 := hE [0, 1, 2, 3] [0, 1, 2, 3] rfl
  have hE2 := hE [0, 2, 4] [0, 2, 4] rfl
  have hE3 := hE [-3] [-3] rfl
  have hE4 := hE [-1, 2, 3] [-1, 2, 3] rfl
  clear ckL ckB ckC an3 an1 wf1 wf3 hE
  (refine Fn.intro1 Try.func21 rfl rfl ?_; simp only [Try.ntmps21, List.length_cons, List.length_nil, Nat.reduceAdd, Nat.reduceSub, List.replicate_succ, List.replicate_zero, List.cons_append, List.nil_append])
  (repeat' (first |  (refine WC.only 8 (Halt.go ?_)) | (apply WL.opN; exact yF; dsimp only [setD, z0, z1]) | refine WL.nil ?_ | refine WC.seqK fun Kx hK => ?_ | (refine hK _ _ ?_; clear hK) | refine WC.region ?_ |  (refine WL.alloc (dst := some 1) (T := 24) tzV shape_Z43 fun b1 => ?_; dsimp only [setD, z0, z1]) |  (refine WL.storeF tyV rfl (OpD.t rfl) shape_P ?_; dsimp only [setD, z0, z1]) | (apply WL.opG; (focus (first | exact wN | (apply SYG.yes; (exact wY); ((first | (apply SY.call hx1 Try.call54; exact ArgsD.cons ⟨Dat.le_nil⟩ ArgsD.nil) | (apply SY.call (hM) Try.call22; (exact aD)) | (apply SY.call (hN) Try.call15; (exact aD)) | (apply SY.call hI3 Try.call29; exact ArgsD.cons (OpD.t rfl) (ArgsD.cons (OpD.t rfl) ArgsD.nil)) | (apply SY.call hI1 Try.call29; exact ArgsD.cons (OpD.t rfl) (ArgsD.cons (OpD.t rfl) ArgsD.nil)) | (apply SY.call (hSA) Try.call25; (exact aD)) | ((first | apply SY.move | apply SY.assign | apply SY.eql | apply SY.neq | apply SY.not) <;> (exact oD)) | ((first | apply SY.add) <;> first | exact oD | omega) | (apply SY.build1'; (exact eD); ((try simp only [List.map_cons, List.map_nil]); (repeat (first | exact ElsD.nl | (apply ElsD.cn; (first | exact OpD.t rfl | exact OpD.i | exact OpD.b | exact OpD.tle rfl (by first | exact Dat.le_nil | exact Dat.le_nilK (by decide)) | exact ⟨Dat.le_nil⟩ | exact ⟨Dat.le_nilK (by decide)⟩))))); rfl; rfl; (intro _; first | exact shape_K | exact shape_I | exact shape_A | exact shape_B); (exact (by simp))) | (apply SY.pickF; (exact oD); (with_reducible rfl); (exact oD)) | (apply SY.extract; (exact oD); rfl) | fail); all_goals infer_instance)))); dsimp only [setD, z0, z1]) | ((first | refine WL.caseP rfl rfl rfl (fun h => ?_) (fun h => ?_) | refine WL.caseN rfl rfl rfl (fun h => ?_) (fun h => ?_) | refine WL.caseB rfl rfl rfl (fun h => ?_) (fun h => ?_)) <;> (first | (exfalso; first | omega | contradiction) | (dsimp only [z0, z1]))) | (apply WC.condNB; (exact oD); all_goals (intro h; try exact xD)) | refine WC.skip ?_))
  all_goals try (exfalso; first | contradiction | omega)
  refine ⟨?_⟩
  (repeat' (first |  (refine WC.only 10 (Halt.go ?_)) | (apply WL.opN; exact yF; dsimp only [setD, z0, z1]) | refine WL.nil ?_ | refine WC.seqK fun Kx hK => ?_ | (refine hK _ _ ?_; clear hK) | refine WC.region ?_ |  (refine WL.alloc (dst := some 10) (T := 24) tzV shape_Z43 fun b1 => ?_; dsimp only [setD, z0, z1]) |  (refine WL.storeF tyV rfl (OpD.t rfl) shape_P ?_; dsimp only [setD, z0, z1]) |  (refine WL.callC (hp1 := []) (caps := []) hS Try.call16 OpD.f (ArgsD.cons (OpD.t rfl) ArgsD.nil) ?_; rintro d' hp2 ⟨rfl, e2, e3, e4, e5, rfl, v, m, p, rfl, rfl, rfl, rfl, hR1⟩; dsimp only [setD, z0, z1, List.nil_append]) | (apply WL.opG; (focus (first | exact wN | (apply SYG.yes; (exact wY); ((first | (apply SY.call (hx2) Try.call54; (exact aD)) | (apply SY.build1'; (exact eD); ((try simp only [List.map_cons, List.map_nil]); (repeat (first | exact ElsD.nl | (apply ElsD.cn; (first | exact OpD.t rfl | exact OpD.i | exact OpD.b | exact OpD.tle rfl (by first | exact Dat.le_nil | exact Dat.le_nilK (by decide)) | exact ⟨Dat.le_nil⟩ | exact ⟨Dat.le_nilK (by decide)⟩))))); rfl; rfl; (intro _; first | exact shape_K | exact shape_I | exact shape_A | exact shape_B); (exact (by simp))) | (apply SY.extract; (exact oD); rfl) | fail); all_goals infer_instance)))); dsimp only [setD, z0, z1])))
  all_goals try (exfalso; first | contradiction | omega)
  refine ⟨?_⟩
  obtain ⟨rfl, hp0⟩ := ex_b hR1
  clear hR1
  (repeat' (first |  (refine WC.only 11 (Halt.go ?_)) | (apply WL.opN; exact yF; dsimp only [setD, z0, z1]) | refine WL.nil ?_ | refine WC.seqK fun Kx hK => ?_ | (refine hK _ _ ?_; clear hK) | refine WC.region ?_ | (apply WL.opG; (focus (first | exact wN | (apply SYG.yes; (exact wY); ((first | (apply SY.call (hC1) Try.call32; (exact aD)) | (apply SY.extract; (exact oD); rfl) | fail); all_goals infer_instance)))); dsimp only [setD, z0, z1])))
  all_goals try (exfalso; first | contradiction | omega)
  refine ⟨?_⟩
  (repeat' (first |  (refine WC.only 14 (Halt.go ?_)) | (apply WL.opN; exact yF; dsimp only [setD, z0, z1]) | refine WL.nil ?_ | refine WC.seqK fun Kx hK => ?_ | (refine hK _ _ ?_; clear hK) | refine WC.region ?_ | (apply WL.opG; (focus (first | exact wN | (apply SYG.yes; (exact wY); ((first | (refine SY.full1 elSi (R := Ints) (_gR := inferInstance) (as1 := [[1]]) (ElsD.cn (OpD.t rfl) ElsD.nl) rfl rfl (fun _ => shape_A) (by simp)) | (exact SY.appF elSi (R := Ints) (_gR := inferInstance) (OpD.t rfl) (OpD.t rfl) (by decide) (by simp)) | (exact SY.mkA is_A OpD.i (OpD.t rfl)) | (apply SY.call hC2 Try.call32; exact ArgsD.cons (OpD.tle rfl (agg_le (Dat.le_refl _) (Dat.le_refl _))) ArgsD.nil) | (apply SY.call hE1 Try.call35; exact ArgsD.cons (OpD.t rfl) (ArgsD.cons (OpD.t rfl) ArgsD.nil)) | (apply SY.call hE2 Try.call35; exact ArgsD.cons (OpD.t rfl) (ArgsD.cons (OpD.t rfl) ArgsD.nil)) | ((first | apply SY.move | apply SY.assign | apply SY.eql | apply SY.neq | apply SY.not) <;> (exact oD)) | ((first | apply SY.add) <;> first | exact oD | omega) | (apply SY.len; (exact oD); (exact nD); (exact uD)) | (apply SY.fldP0 clT; exact OpD.t rfl) | (apply SY.fldP1 clT; exact OpD.t rfl) | (apply SY.build1'; (exact eD); ((try simp only [List.map_cons, List.map_nil]); (repeat (first | exact ElsD.nl | (apply ElsD.cn; (first | exact OpD.t rfl | exact OpD.i | exact OpD.b | exact OpD.tle rfl (by first | exact Dat.le_nil | exact Dat.le_nilK (by decide)) | exact ⟨Dat.le_nil⟩ | exact ⟨Dat.le_nilK (by decide)⟩))))); rfl; rfl; (intro _; first | exact shape_K | exact shape_I | exact shape_A | exact shape_B); (exact (by simp))) | (apply SY.pickF; (exact oD); (with_reducible rfl); (exact oD)) | (apply SY.extract; (exact oD); rfl) | fail); all_goals infer_instance)))); dsimp only [setD, z0, z1]) | ((first | refine WL.caseP rfl rfl rfl (fun h => ?_) (fun h => ?_) | refine WL.caseN rfl rfl rfl (fun h => ?_) (fun h => ?_) | refine WL.caseB rfl rfl rfl (fun h => ?_) (fun h => ?_)) <;> (first | (exfalso; first | omega | contradiction) | (dsimp only [z0, z1]))) | (apply WC.condNB; (exact oD); all_goals (intro h; try exact xD)) | refine WC.skip ?_))
  all_goals try (exfalso; first | contradiction | omega)
  refine ⟨?_⟩
  (repeat' (first |  (refine WC.only 15 (Halt.go ?_)) | (apply WL.opN; exact yF; dsimp only [setD, z0, z1]) | refine WL.nil ?_ | refine WC.seqK fun Kx hK => ?_ | (refine hK _ _ ?_; clear hK) | refine WC.region ?_ |  (refine WL.callC (hp1 := []) (caps := []) hU3 Try.call30 OpD.f (ArgsD.cons (OpD.t rfl) (ArgsD.cons (OpD.t rfl) ArgsD.nil)) ?_; rintro d' hp2 ⟨rfl, e2, e3, e4, e5, rfl, v, m, c, rfl, rfl, rfl, rfl, hR1⟩; dsimp only [setD, z0, z1, List.nil_append]) | (apply WL.opG; (focus (first | exact wN | (apply SYG.yes; (exact wY); ((first | (apply SY.build1'; (exact eD); ((try simp only [List.map_cons, List.map_nil]); (repeat (first | exact ElsD.nl | (apply ElsD.cn; (first | exact OpD.t rfl | exact OpD.i | exact OpD.b | exact OpD.tle rfl (by first | exact Dat.le_nil | exact Dat.le_nilK (by decide)) | exact ⟨Dat.le_nil⟩ | exact ⟨Dat.le_nilK (by decide)⟩))))); rfl; rfl; (intro _; first | exact shape_K | exact shape_I | exact shape_A | exact shape_B); (exact (by simp))) | (apply SY.extract; (exact oD); rfl) | fail); all_goals infer_instance)))); dsimp only [setD, z0, z1])))
  all_goals try (exfalso; first | contradiction | omega)
  refine ⟨?_⟩
  obtain ⟨rfl, rfl⟩ := ex_u hR1
  clear hR1
  (repeat' (first |  (refine WC.only 16 (Halt.go ?_)) | (apply WL.opN; exact yF; dsimp only [setD, z0, z1]) | refine WL.nil ?_ | refine WC.seqK fun Kx hK => ?_ | (refine hK _ _ ?_; clear hK) | refine WC.region ?_ |  (refine WL.callC (hp1 := []) (caps := []) hU1 Try.call30 OpD.f (ArgsD.cons (OpD.t rfl) (ArgsD.cons (OpD.t rfl) ArgsD.nil)) ?_; rintro d' hp2 ⟨rfl, e2, e3, e4, e5, rfl, v, m, c, rfl, rfl, rfl, rfl, hR1⟩; dsimp only [setD, z0, z1, List.nil_append]) | (apply WL.opG; (focus (first | exact wN | (apply SYG.yes; (exact wY); ((first | (apply SY.build1'; (exact eD); ((try simp only [List.map_cons, List.map_nil]); (repeat (first | exact ElsD.nl | (apply ElsD.cn; (first | exact OpD.t rfl | exact OpD.i | exact OpD.b | exact OpD.tle rfl (by first | exact Dat.le_nil | exact Dat.le_nilK (by decide)) | exact ⟨Dat.le_nil⟩ | exact ⟨Dat.le_nilK (by decide)⟩))))); rfl; rfl; (intro _; first | exact shape_K | exact shape_I | exact shape_A | exact shape_B); (exact (by simp))) | (apply SY.extract; (exact oD); rfl) | fail); all_goals infer_instance)))); dsimp only [setD, z0, z1])))
  all_goals try (exfalso; first | contradiction | omega)
  refine ⟨?_⟩
  obtain ⟨rfl, rfl⟩ := ex_v hR1
  clear hR1
  ((repeat' (first | (apply WL.opN; exact yF; dsimp only [setD, z0, z1]) | refine WL.nil ?_ | (refine hK _ _ ?_; clear hK) | refine WC.region ?_ | (apply WL.opG; (focus (first | exact wN | (apply SYG.yes; (exact wY); ((first | (apply SY.call hE3 Try.call35; exact ArgsD.cons (OpD.t rfl) (ArgsD.cons (OpD.t rfl) ArgsD.nil)) | (apply SY.call hE4 Try.call35; exact ArgsD.cons (OpD.t rfl) (ArgsD.cons (OpD.t rfl) ArgsD.nil)) | ((first | apply SY.move | apply SY.assign | apply SY.eql | apply SY.neq | apply SY.not) <;> (exact oD)) | ((first | apply SY.add) <;> first | exact oD | omega) | (apply SY.build1'; (exact eD); ((try simp only [List.map_cons, List.map_nil]); (repeat (first | exact ElsD.nl | (apply ElsD.cn; (first | exact OpD.t rfl | exact OpD.i | exact OpD.b | exact OpD.tle rfl (by first | exact Dat.le_nil | exact Dat.le_nilK (by decide)) | exact ⟨Dat.le_nil⟩ | exact ⟨Dat.le_nilK (by decide)⟩))))); rfl; rfl; (intro _; first | exact shape_K | exact shape_I | exact shape_A | exact shape_B); (exact (by simp))) | (apply SY.pickT; (exact oD); (with_reducible rfl); (exact oD)) | fail); all_goals infer_instance)))); dsimp only [setD, z0, z1]) | ((first | refine WL.caseP rfl rfl rfl (fun h => ?_) (fun h => ?_) | refine WL.caseN rfl rfl rfl (fun h => ?_) (fun h => ?_) | refine WL.caseB rfl rfl rfl (fun h => ?_) (fun h => ?_)) <;> (first | (exfalso; first | omega | contradiction) | (dsimp only [z0, z1]))) | refine WC.ret ?_)); all_goals (first | ((repeat clear hK); (repeat clear Kx))))
  all_goals try (exfalso; first | contradiction | omega)
  (refine ⟨trivial, _, rfl, ?_⟩; exact fD)
end Go.Proofs.Ytpiidgcljlalmaa
namespace Go.Proofs.Ytpiidgcljlalmaa
open Go.ChangeShapes Go.WideShapes Go.ChangeAt Go.RowKit
set_option maxRecDepth 100000

theorem own : ownKnob Try.prog.godebug = none := by kernel_rfl
theorem laidOut : laidOutB Try.prog = true := by kernel_rfl
theorem cellsOfI : Try.prog.cellsOf 3 = 1 := by kernel_rfl
theorem cellsOfR : Try.prog.cellsOf 25 = 1 := by kernel_rfl

section
variable {H : Type} {enc : TypeId × Value → H}

theorem irr_of_wf {n : Int} (h : (Lit.int .i64 n).wf = true) : IR n := by
  simpa [Lit.wf, IntKind.min, IntKind.max, IntKind.signed, IntKind.bits, IR] using h

theorem arr_at {α : Type} {R : Rel α} {w : World} {a : Addr} {cap : Nat} {xs : List α} (hl : xs.length ≤ cap) (hm : cap ≤ maxLen) (h : ∀ k (hk : k < xs.length), ∃ u, R anyB w u xs[k] ∧ u.oneCell' = true ∧ w.cell? (a.add k) = some u) :
    Arr R anyB w (.slice (some a) xs.length cap) xs := by
  refine ⟨some a, cap, rfl, hl, hm, fun k hk => ?_⟩
  obtain ⟨u, h1, h2, h3⟩ := h k hk
  obtain ⟨u0, _, _, h0⟩ := h 0 (by omega)
  have hs := World.cell?_spot h0
  obtain ⟨b, off, sp⟩ := a
  obtain rfl : sp = none := by simpa [Addr.add] using hs
  exact ⟨u, b, off, h1, h2, rfl, trivial, by rw [Addr.add_lit] at h3; exact h3⟩

theorem open_I {w : World} {fuel : Nat} {v : Value} {x : DataW H × List MemPlace} (h : DataW.trod enc Try.prog w 0 (fun _ => true) true fuel 25 [v] = some x) :
    ∃ zs, Ints anyB w v zs ∧ ∀ z ∈ zs, IR z := by
  rcases open_ints Try.underlying25 Try.underlying3 cellsOfI h with ⟨hc, _⟩ | ⟨a, len, cap, zs, hc, _, hl, hm, hz, _, hcell, hw⟩
  · obtain rfl : v = .slice none 0 0 := by simpa using hc
    exact ⟨[], Arr.nil', fun z hz => by cases hz⟩
  · obtain rfl : v = .slice (some a) len cap := by simpa using hc
    simp only [if_true] at hz
    have hlen : (zs.take len).length = len := by simp; omega
    refine ⟨zs.take len, ?_, fun z hz' => irr_of_wf (hw z (List.mem_of_mem_take hz'))⟩
    have := arr_at (R := RI) (w := w) (a := a) (cap := cap) (xs := zs.take len) (by omega) hm (fun k hk => ⟨_, rfl, rfl, by
      rw [hcell k (by omega)]
      rw [List.getElem_take, List.getD_eq_getElem?_getD, List.getElem?_eq_getElem (by omega)]; rfl⟩)
    rw [hlen] at this
    exact this
theorem open_I' {w : World} {r : Reach} {b0 : Nat} {v : Value} {d : DataW H} {ps : List MemPlace} (hv : Value.okWide Try.prog w r b0 25 v) (h : DataW.Trod enc Try.prog w 0 (fun _ => true) true 25 v d ps) : ∃ zs, Ints anyB w v zs ∧ ∀ z ∈ zs, IR z := by
  obtain ⟨fuel, h⟩ := h
  obtain ⟨a, len, cap, rfl⟩ := okWide_slice Try.underlying25 hv
  exact open_I h

theorem open_R {w : World} {fuel : Nat} {v : Value} {x : DataW H × List MemPlace} (h : DataW.trod enc Try.prog w 0 (fun _ => true) true fuel 22 [v] = some x) :
    ∃ l, Rows anyB w v l ∧ IRR l := by
  rcases Deep.open_int_rows Try.underlying22 Try.underlying25 Try.underlying3 cellsOfR cellsOfI h with ⟨hc, _⟩ | ⟨a, len, cap, A, L, C, Z, hc, _, hl, hm, _, hr⟩
  · obtain rfl : v = .slice none 0 0 := by simpa using hc
    exact ⟨[], Arr.nil', fun z hz => by cases hz⟩
  · obtain rfl : v = .slice (some a) len cap := by simpa using hc
    have hlen : ((List.range len).map fun r => (Z r).take (L r)).length = len := by simp
    refine ⟨(List.range len).map fun r => (Z r).take (L r), ?_, ?_⟩
    · have := arr_at (R := Arr RI) (w := w) (a := a) (cap := cap) (xs := (List.range len).map fun r => (Z r).take (L r)) (by omega) hm (fun k hk => by
        rw [hlen] at hk
        obtain ⟨h1, h2, h3, h4, h5, h6, h7⟩ := hr k (by omega)
        refine ⟨_, ?_, rfl, h1⟩
        simp only [List.getElem_map, List.getElem_range]
        have hlk : ((Z k).take (L k)).length = L k := by simp; omega
        cases hA : A k with
        | none =>
          have hC := h6 hA
          have hz : (Z k).take (L k) = [] := List.eq_nil_of_length_eq_zero (by omega)
          rw [hz, show L k = 0 from by omega]
          exact Arr.nil none (C k) (by omega)
        | some a' =>
          have := arr_at (R := RI) (w := w) (a := a') (cap := C k) (xs := (Z k).take (L k)) (by omega) h3 (fun j hj => ⟨_, rfl, rfl, by
            rw [(h7 a' hA).2 j (by omega), List.getElem_take, List.getD_eq_getElem?_getD, List.getElem?_eq_getElem (by omega)]; rfl⟩)
          rw [hlk] at this
          exact this)
      rw [hlen] at this
      exact this
    · intro c hc x hx
      simp only [List.mem_map, List.mem_range] at hc
      obtain ⟨r, hr', rfl⟩ := hc
      obtain ⟨_, _, _, _, h5, _, _⟩ := hr r (by omega)
      exact irr_of_wf (h5 x (List.mem_of_mem_take hx))
theorem open_R' {w : World} {r : Reach} {b0 : Nat} {v : Value} {d : DataW H} {ps : List MemPlace} (hv : Value.okWide Try.prog w r b0 22 v) (h : DataW.Trod enc Try.prog w 0 (fun _ => true) true 22 v d ps) : ∃ l, Rows anyB w v l ∧ IRR l := by
  obtain ⟨fuel, h⟩ := h
  obtain ⟨a, len, cap, rfl⟩ := okWide_slice Try.underlying22 hv
  exact open_R h

theorem open_C {w : World} {r : Reach} {b0 : Nat} {v : Value} {d : DataW H} {ps : List MemPlace} (hv : Value.okWide Try.prog w r b0 24 v) (h : DataW.Trod enc Try.prog w 0 (fun _ => true) true 24 v d ps) :
    ∃ (n : Int) (u : Value) (l : List (List Int)), v = .agg #[.int .i64 n, u] ∧ Rows anyB w u l ∧ IRR l ∧ IR n := by
  obtain ⟨v0, v1, y0, y1, m, rfl, _, _, h0, h1⟩ := Joins.open_agg2 Try.underlying24 (by kernel_rfl) (by kernel_rfl) hv h
  obtain ⟨l, hl, hr⟩ := open_R h1
  obtain ⟨n, hn, _, hw⟩ := DataW.trod_int Try.underlying3 h0
  obtain rfl : v0 = .int .i64 n := by simpa using hn
  exact ⟨n, v1, l, rfl, hl, hr, irr_of_wf hw⟩
theorem open_N' {w : World} {r : Reach} {b0 : Nat} {v : Value} {d : DataW H} {ps : List MemPlace} (hv : Value.okWide Try.prog w r b0 3 v) (h : DataW.Trod enc Try.prog w 0 (fun _ => true) true 3 v d ps) : ∃ n : Int, (dI n).rd anyB w v ∧ -9223372036854775808 ≤ n ∧ n ≤ 9223372036854775807 := by
  obtain ⟨n, rfl, _, _, hw⟩ := open_int Try.underlying3 hv h
  exact ⟨n, rfl, by simpa [Lit.wf, IntKind.min, IntKind.max, IntKind.signed, IntKind.bits] using hw⟩
theorem open_Q' {w : World} {r : Reach} {b0 : Nat} {v : Value} {d : DataW H} {ps : List MemPlace} (hv : Value.okWide Try.prog w r b0 24 v) (h : DataW.Trod enc Try.prog w 0 (fun _ => true) true 24 v d ps) : ∃ x : Int × List (List Int), (dS Cls x).rd anyB w v ∧ IRR x.2 ∧ IR x.1 := by
  obtain ⟨n, u, l, rfl, h1, h2, h3⟩ := open_C hv h
  refine ⟨(n, l), ⟨_, _, rfl, rfl, ?_, rfl, h1⟩, h2, h3⟩
  obtain ⟨a, c, rfl, _⟩ := h1
  rfl
theorem open_Z' {w : World} {r : Reach} {b0 : Nat} {v : Value} {d : DataW H} {ps : List MemPlace} (hv : Value.okWide Try.prog w r b0 25 v) (h : DataW.Trod enc Try.prog w 0 (fun _ => true) true 25 v d ps) : ∃ x, (dS Ints x).rd anyB w v ∧ ∀ z ∈ x, IR z := open_I' hv h
theorem open_RR' {w : World} {r : Reach} {b0 : Nat} {v : Value} {d : DataW H} {ps : List MemPlace} (hv : Value.okWide Try.prog w r b0 22 v) (h : DataW.Trod enc Try.prog w 0 (fun _ => true) true 22 v d ps) : ∃ x, (dS Rows x).rd anyB w v ∧ IRR x := open_R' hv h
end

section
variable {H : Type} {enc : TypeId × Value → H}

theorem args_kept {W W' : World} (hE : Ext W W') : ∀ {ts : List TypeId} {vs : List Value} {ds : List (DataW H)} {ps : List MemPlace}, (∀ t ∈ ts, Try.prog.readableRec t = true ∧ t < Try.prog.types.size) → (∀ p ∈ ps, p.block < W.heap.size) →
    DataW.TrodAll enc Try.prog W 0 (fun _ => true) true ts vs ds ps → DataW.TrodAll enc Try.prog W' 0 (fun b => decide (b < W.heap.size)) true ts vs ds ps
  | [], _, _, _, _, _, h => by
    obtain ⟨rfl, rfl, rfl⟩ := trodAll_nil h
    exact trodAll_mk0
  | t :: ts, _, _, _, ht, hlt, h => by
    obtain ⟨v, vs1, d, ds1, a, b, rfl, rfl, rfl, h1, h2⟩ := trodAll_cons h
    exact trodAll_cons_mk (Below.trod laidOut (ht t (by simp)).1 (ht t (by simp)).2 h1 hE (fun x hx => hlt x (by simp [hx]))) (args_kept hE (fun t' h' => ht t' (by simp [h'])) (fun p hp => hlt p (by simp [hp])) h2)

theorem post_law {f : Func} {s : ChangeSpec} {W W' : World} {args : Array Value} {ds gs : List (DataW H)} {before : List MemPlace} (hW : DataW.Whole enc Try.prog f.params.toList s.vars false W args.toList ds gs before) (hvars : s.vars = [])
    (hr : f.resultTypes = #[4]) (hs : s.fn H ds = { results := [.lit (.bool true)], args := ds }) (ht : ∀ t ∈ f.params.toList, Try.prog.readableRec t = true ∧ t < Try.prog.types.size) (hE : Ext W W') :
    s.post enc Try.prog f false true false false W args (.bool true) W' := by
  have hlt := hW.lt
  have hW' := hW
  obtain ⟨p, q, hA, hV, rfl, hfz, hnd⟩ := hW
  rw [hvars] at hV
  obtain ⟨rfl, rfl⟩ := trodVars_none hV
  refine ⟨ds, [], p ++ [], [], p, [], hW', ?_, ?_, ?_, hE.frame _, fun h => by cases h⟩
  · rw [hr, List.append_nil, hs]
    exact trodAll_mk1 (shut_bool Try.underlying4 true)
  · rw [List.append_nil, hs]
    exact args_kept hE ht (fun x hx => hlt x (by simp [hx])) hA
  · rw [hvars, List.append_nil, hs]
    rfl
theorem fn_law {f : FuncId} {ds : List Dat} (hF : Fn Try.prog f ds (dB true)) {W : World} {vs : List Value} (hl : vs.length = ds.length) (h : ∀ (i : Nat) (d : Dat), ds[i]? = some d → d.rd anyB W (vs.getD i undef)) :
    Calls Try.prog f vs.toArray W fun e W' => e = .returned (.bool true) ∧ Ext W W' :=
  (hF.out anyB W vs hl h).mono fun _ _ ⟨_, h1, h2, h3⟩ => by cases (h3 : _ = _); exact ⟨h1, h2⟩
end
end Go.Proofs.Ytpiidgcljlalmaa
