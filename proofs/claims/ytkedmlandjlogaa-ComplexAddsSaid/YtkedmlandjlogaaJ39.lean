/-
  Part 39 of the texts that the claims of this seat lean on: walks of the program's functions by contracts over symbolic frames, and plain laws of what they compute. No condition.
-/
import Derived.Deep.SlicePairs
import Derived.Lib.SmallJoins
import Derived.OpenShut
import Derived.ProofKit
import Derived.Test.YtkedmlandjlogaaRows
import Derived.Test.YtkedmlandjlogaaJ6
import Derived.Test.YtkedmlandjlogaaJ8
import Derived.Test.YtkedmlandjlogaaJ13
import Derived.Test.YtkedmlandjlogaaJ18
import Derived.Test.YtkedmlandjlogaaJ38
set_option linter.unusedVariables false
set_option linter.unusedSimpArgs false
set_option linter.unusedSectionVars false
namespace Go.Proofs.Ytkedmlandjlogaa
open Go.RowKit
set_option linter.unusedSimpArgs false

set_option maxHeartbeats 2000000
set_option maxRecDepth 100000
theorem WL.storeF4 {P : Program} {ops : Array Oper} {hp : List HObj} {fr : List Dat} {d : Dat} {Q : Post} {rest : List Oper} {ty : TypeId} {ps : String} {af : Array Edge} {x : Operand} {t b n : Nat} {T T2 : TypeId} {agg : Bool} {d0 : Dat} {o1 o2 o3 : HObj} (hT : TyI P T n agg) (hp0 : fr[t]? = some (dX (.pointer (some ⟨b, 0, none⟩)))) (hx : OpD fr x d) (hs : d.Shape n agg)
    (h : WL P ops Q rest (fr.set t (dP n agg d)) (o1 :: o2 :: o3 :: hp)) : WL P ops Q ({ dst := none, op := .store T (.tmp t) x, type := ty, pos := ps, after := af, guard := none } :: rest) fr (o1 :: o2 :: o3 :: hCell b T2 n agg d0 :: hp) :=
  WL.perm (((List.Perm.cons o1 ((List.Perm.swap _ _ _).cons _ |>.trans (List.Perm.swap _ _ _)))).trans (List.Perm.swap _ _ _)) (WL.storeF hT hp0 hx hs h)
theorem point27_p (c : Int) : Fn Try.prog 39 [dI c] (dS RV (c, 0)) := by
  -- @kinds all
  refine Fn.introC1 tyV Try.func39 rfl rfl ?_
  simp only [Try.ntmps39, List.length_cons, List.length_nil, Nat.reduceAdd, Nat.reduceSub, List.replicate_succ, List.replicate_zero, List.cons_append, List.nil_append]
  ((repeat' (first | (apply WL.opG; (focus (apply SYG.yes; (exact want_none rfl); (first | (apply SY.move <;> (exact oD))))); dsimp only [setD, z0, z1]) | refine WL.nil ?_ | refine WC.seqK fun Kx hK => ?_ | (refine hK _ _ ?_; clear hK) | (refine Kont.skip ?_; clear hK) | refine WC.region ?_ | (apply WL.alloc; (first | exact tzV | exact tzC); (first | exact shape_X rfl | exact shape_XV | exact shape_C0 rfl); (intro _; dsimp only [setD, z0, z1])) | (apply WL.storeF; (exact tD); rfl; (exact oD); (exact hD); dsimp only [setD, z0, z1]) | (apply WL.storeF2; (exact tD); rfl; (exact oD); (exact hD); dsimp only [setD, z0, z1]) | (apply WL.storeF3; (exact tD); rfl; (exact oD); (exact hD); dsimp only [setD, z0, z1]) | (apply WL.opG; (focus (apply SYG.yes; (exact want_none rfl); ((first | exact yMove | exact yBuild | fail); all_goals infer_instance))); dsimp only [setD, z0, z1]) | refine WC.skip ?_ | refine WC.ret ?_ | refine ThenD.n ?_ | refine ThenD.r ?_)); all_goals (first | refine WC.id ?_ | refine WL.id ?_ | refine WDs.id ?_ | ((repeat clear hK); (repeat clear Kx))))
  all_goals (refine ⟨trivial, _, rfl, ?_⟩; (first | exact fD | refine FinD.i ?_ | refine FinD.b ?_ | refine FinD.rowKE (.head _) ?_ | refine FinD.rowE (.head _) ?_ | refine FinD.nilKE (by decide) ?_ | refine FinD.nilE ?_ | refine FinD.s ?_))
abbrev va : Vx := (0, 0)
abbrev vb : Vx := (1, 0)
abbrev vc : Vx := (2, 0)
abbrev vd : Vx := (3, 0)
abbrev exC : Cx := [[va, vb, vc], [vc, vd]]
theorem a_of : ofP [[vc, vd], [vb], [va, vb, vc], [vc, vd]] = (exC, 0) := by decide
theorem a_simp : simplC exC 2 = ([[va, vb], [va, vc], [vb, vc], [vc, vd]], 0) := by decide
theorem a_chk : chkC exC = 0 := by decide
theorem a_dim : dimC exC = 2 := by decide
theorem a_pure : sizeP exC = false := by decide
theorem a_euler : eulC exC = (1, 0) := by decide
theorem a_star : starC exC [vc] = (exC, 0) := by decide
theorem a_link : linkC exC [vc] = ([[va, vb], [vd]], 0) := by decide
theorem a_other : linkC exC [va] = ([[vb, vc]], 0) := by decide
theorem a_bnd : bndP [[va, vb, vc], [vb, vc, vd]] = ([[va, vb], [va, vc], [vb, vd], [vc, vd]], 0) := by decide
theorem a_bnd2 : bndP exC = ([], 15) := by decide
set_option maxHeartbeats 16000000 in
theorem awake27_p : Fn Try.prog 10 [] (dB true) := by
  have c1 := of27_p [[vc, vd], [vb], [va, vb, vc], [vc, vd]]
  rw [a_of] at c1
  have c2 := simplices27_p exC 2
  rw [a_simp] at c2
  have c3 := dimensionX_p exC
  rw [a_chk, a_dim, a_pure, if_neg (by decide), if_neg (by decide)] at c3
  have c4 := euler27_p exC
  rw [a_euler] at c4
  have c5 := star27_p exC [vc]
  rw [a_star] at c5
  have c6 := link27_p exC [vc]
  rw [a_link] at c6
  have c7 := link27_p exC [va]
  rw [a_other] at c7
  have c8 := boundary27_p [[va, vb, vc], [vb, vc, vd]]
  rw [a_bnd] at c8
  have c9 := boundary27_p exC
  rw [a_bnd2] at c9
  have s : ∀ l : Cx, Fn Try.prog 26 [dS Simps l, dS Simps l] (dB true) := fun l => by
    have := sameAll_c l l
    rwa [decide_eq_true rfl] at this
  have s2 : ∀ l : Cx, Fn Try.prog 13 [dS Cpx l, dS Cpx l] (dB true) := fun l => by
    have := sameC_c l l
    rwa [decide_eq_true rfl] at this
  refine Fn.intro1 Try.func10 rfl rfl ?_
  show WC _ _ _ (List.replicate 206 (dX undef)) []
  simp only [List.replicate_succ, List.replicate_zero]
  ((repeat' (first | (apply WL.opG; (focus (apply SYG.yes; (exact want_none rfl); (first | (apply SY.move <;> (exact oD)) | (apply SY.assign <;> (exact oD)) | (apply SY.load; (exact tD); (exact OpD.t rfl))))); dsimp only [setD, z0, z1]) | refine WL.nil ?_ | refine WC.seqK fun Kx hK => ?_ | (refine hK _ _ ?_; clear hK) | (refine Kont.skip ?_; clear hK) | refine WC.region ?_ |  (apply WL.storeF4; exact tyV; rfl; exact OpD.t rfl; exact shape_V; dsimp only [setD, z0, z1]) | (apply WL.alloc; (first | exact tzV | exact tzC); (first | exact shape_X rfl | exact shape_XV | exact shape_C0 rfl); (intro _; dsimp only [setD, z0, z1])) | (apply WL.storeF; (exact tD); rfl; (exact oD); (exact hD); dsimp only [setD, z0, z1]) | (apply WL.storeF2; (exact tD); rfl; (exact oD); (exact hD); dsimp only [setD, z0, z1]) | (apply WL.storeF3; (exact tD); rfl; (exact oD); (exact hD); dsimp only [setD, z0, z1]) | (apply WL.opG; (focus (first | (apply SYG.no; first | exact want_notT rfl rfl rfl (by with_reducible rfl) | exact want_notF rfl rfl rfl (by with_reducible rfl)) | (apply SYG.yes; (first | exact want_none rfl | exact want_yes rfl rfl rfl (by with_reducible rfl)); ((first | (apply SY.call (point27_p _) Try.call39; (exact aD)) | (apply SY.call (c1) Try.call30; (exact aD)) | (apply SY.call (c2) Try.call20; (exact aD)) | (apply SY.call (c3) Try.call29; (exact aD)) | (apply SY.call (c4) Try.call22; (exact aD)) | (apply SY.call (c5) Try.call11; (exact aD)) | (apply SY.call (c6) Try.call14; exact ArgsD.cons (OpD.t rfl) (ArgsD.cons (OpD.t rfl) (ArgsD.nil))) | (apply SY.call (c7) Try.call14; exact ArgsD.cons (OpD.t rfl) (ArgsD.cons (OpD.t rfl) (ArgsD.nil))) | (apply SY.call (c8) Try.call18; exact ArgsD.cons (OpD.t rfl) (ArgsD.nil)) | (apply SY.call (c9) Try.call18; exact ArgsD.cons (OpD.t rfl) (ArgsD.nil)) | (apply SY.call (s _) Try.call26; (exact aD)) | (apply SY.call (s2 _) Try.call13; (exact aD)) | exact yMove | exact yAssign | exact yEql | exact yNeq | exact yNot | exact yAdd | exact yLoad | exact yLoadh | exact yFieldaddr | exact yBuild | exact yBuildslice | exact yPick | exact yExtract | fail); all_goals infer_instance)))); dsimp only [setD, z0, z1]) | ((first | refine WL.caseP rfl rfl rfl (fun h => ?_) (fun h => ?_) | refine WL.caseN rfl rfl rfl (fun h => ?_) (fun h => ?_) | refine WL.caseB rfl rfl rfl (fun h => ?_) (fun h => ?_)) <;> (first | (exfalso; first | omega | contradiction) | (dsimp only [z0, z1]))) | (apply WC.condT; (exact oD); (with_reducible rfl)) | (apply WC.condF; (exact oD); (with_reducible rfl)) | (apply WC.condD; (exact oD); (all_goals intro h); (all_goals try (exfalso; first | omega | contradiction))) | (apply WC.condN; (exact oD); (all_goals intro h); (all_goals try (exfalso; first | omega | contradiction))) | (apply WC.condNB; (exact oD); (all_goals intro h); (all_goals try (exfalso; first | omega | contradiction))) | (apply WC.cond; (exact oD); (all_goals intro h); (all_goals try (exfalso; first | omega | contradiction))) | refine WC.skip ?_ | refine WC.ret ?_ | refine ThenD.n ?_ | refine ThenD.r ?_)); all_goals (first | refine WC.id ?_ | refine WL.id ?_ | refine WDs.id ?_ | ((repeat clear hK); (repeat clear Kx))))
  (refine ⟨trivial, _, rfl, ?_⟩; (first | exact fD | refine FinD.i ?_ | refine FinD.b ?_ | refine FinD.rowKE (.head _) ?_ | refine FinD.rowE (.head _) ?_ | refine FinD.nilKE (by decide) ?_ | refine FinD.nilE ?_ | refine FinD.s ?_))
end Go.Proofs.Ytkedmlandjlogaa
namespace Go.Proofs.Ytkedmlandjlogaa
open Go.RowKit
set_option linter.unusedSimpArgs false

set_option maxHeartbeats 2000000
set_option maxRecDepth 100000
def chooseN : Nat → Nat → Nat
  | _, 0 => 1
  | 0, _ + 1 => 0
  | n + 1, k + 1 => chooseN n k + chooseN n (k + 1)
theorem subs_choose : ∀ (s : List Vx) (k : Nat), (subsV k s).length = chooseN s.length k
  | s, 0 => by rw [subsV_zero]; cases s <;> rfl
  | [], k + 1 => by rw [subsV_short _ _ (by simp)]; rfl
  | v :: s, k + 1 => by rw [subsV_next, subs_choose s k, subs_choose s (k + 1)]; rfl
theorem choose_le : ∀ n ≤ 8, ∀ k ≤ 8, chooseN n k ≤ 70 := by decide
theorem subs_le {s : List Vx} (h : s.length ≤ 8) (k : Nat) : (subsV k s).length ≤ 70 := by
  by_cases hk : k ≤ 8
  · rw [subs_choose]; exact choose_le _ h _ hk
  · rw [subsV_short k s (by omega)]; simp
theorem max_len (l : Cx) : (maxC l).length ≤ l.length := List.Nodup.length_le_of_subset (maxC_asc l).nodup fun _ hx => (maxC_mem.1 hx).1
theorem few_len {l : Cx} (h : fewAllV l = true) : l.length ≤ 30 := by
  unfold fewAllV at h
  simp only [Bool.and_eq_true, decide_eq_true_eq] at h
  exact h.1
theorem same_self (l : Cx) : Fn Try.prog 26 [dS Simps l, dS Simps l] (dB true) := by
  have := sameAll_c l l
  rwa [decide_eq_true rfl] at this
theorem sameC_self (l : Cx) : Fn Try.prog 13 [dS Cpx l, dS Cpx l] (dB true) := by
  have := sameC_c l l
  rwa [decide_eq_true rfl] at this
end Go.Proofs.Ytkedmlandjlogaa
namespace Go.Proofs.Ytkedmlandjlogaa
open Go.ChangeShapes Go.WideShapes Go.ChangeAt Go.RowKit
set_option maxRecDepth 100000

theorem own : ownKnob Try.prog.godebug = none := by kernel_rfl
theorem laidOut : laidOutB Try.prog = true := by kernel_rfl
theorem cellsV : Try.prog.cellsOf 69 = 2 := by kernel_rfl
theorem cellsS : Try.prog.cellsOf 25 = 1 := by kernel_rfl
theorem cellsI : Try.prog.cellsOf 3 = 1 := by kernel_rfl

section
variable {H : Type} {enc : TypeId × Value → H}
theorem open_V {w : World} {fuel : Nat} {v : Value} {x : DataW H × List MemPlace} (h : DataW.trod enc Try.prog w 0 (fun _ => true) true fuel 25 [v] = some x) :
    ∃ xs, Verts anyB w v xs := by
  rcases Deep.open_slice_pairs Try.underlying25 Try.underlying69 cellsV rfl rfl cellsI cellsI h with ⟨hc, _⟩ | ⟨a, len, cap, m, n, V0, V1, D0, D1, P0, P1, hc, _, hl, hm, hmm, _, hx⟩
  · obtain rfl : v = .slice none 0 0 := by simpa using hc
    exact ⟨[], ArrK.nil' (by decide)⟩
  · obtain rfl : v = .slice (some a) len cap := by simpa using hc
    simp only [if_true] at hmm
    subst hmm
    have hz : ∀ i, ∃ p : Int × Int, i < m → V0 i = .int .i64 p.1 ∧ V1 i = .int .i64 p.2 := fun i => by
      by_cases hi : i < m
      · obtain ⟨_, _, h2, h3⟩ := hx i hi
        obtain ⟨p, hp, _⟩ := DataW.trod_int Try.underlying3 h2
        obtain ⟨q, hq, _⟩ := DataW.trod_int Try.underlying3 h3
        exact ⟨(p, q), fun _ => ⟨by simpa using hp, by simpa using hq⟩⟩
      · exact ⟨(0, 0), fun h => absurd h hi⟩
    obtain ⟨z, hz⟩ := Classical.axiomOfChoice hz
    have hlen : ((List.range len).map z).length = len := by simp
    refine ⟨(List.range len).map z, some a, m, by rw [hlen], by rw [hlen]; exact hl, hm, by decide, fun k hk => ?_⟩
    rw [hlen] at hk
    obtain ⟨h0, h1, _⟩ := hx k (by omega)
    have hs := World.cell?_spot (hx 0 (by omega)).1
    obtain ⟨b, off, sp⟩ := a
    obtain rfl : sp = none := by simpa [Addr.add] using hs
    obtain ⟨e0, e1⟩ := hz k (by omega)
    refine ⟨[.int .i64 (z k).1, .int .i64 (z k).2], b, off, by simp [RV], rfl, by simp [Value.oneCell'], rfl, trivial, fun j c hc => ?_⟩
    rw [Addr.add_lit] at h0 h1
    match j, hc with
    | 0, hc => cases hc; rw [Nat.add_zero, ← e0]; exact h0
    | 1, hc => cases hc; rw [← e1, Nat.add_assoc]; exact h1
theorem open_V' {w : World} {r : Reach} {b0 : Nat} {v : Value} {d : DataW H} {ps : List MemPlace} (hv : Value.okWide Try.prog w r b0 25 v) (h : DataW.Trod enc Try.prog w 0 (fun _ => true) true 25 v d ps) : ∃ xs, (dS Verts xs).rd anyB w v := by
  obtain ⟨fuel, h⟩ := h
  obtain ⟨a, len, cap, rfl⟩ := okWide_slice Try.underlying25 hv
  exact open_V h
theorem open_S {w : World} {fuel : Nat} {v : Value} {x : DataW H × List MemPlace} (h : DataW.trod enc Try.prog w 0 (fun _ => true) true fuel 22 [v] = some x) :
    ∃ xs, Simps anyB w v xs := by
  rcases Deep.open_slice1 Try.underlying22 cellsS h with ⟨hc, _⟩ | ⟨a, len, cap, m, n, V, D, Pl, hc, _, hl, hm, hmm, _, hx⟩
  · obtain rfl : v = .slice none 0 0 := by simpa using hc
    exact ⟨[], Arr.nil'⟩
  · obtain rfl : v = .slice (some a) len cap := by simpa using hc
    simp only [if_true] at hmm
    subst hmm
    have hz : ∀ i, ∃ xs : List (Int × Int), i < m → Verts anyB w (V i) xs := fun i => by
      by_cases hi : i < m
      · obtain ⟨xs, h1⟩ := open_V (hx i hi).2
        exact ⟨xs, fun _ => h1⟩
      · exact ⟨[], fun h => absurd h hi⟩
    obtain ⟨z, hz⟩ := Classical.axiomOfChoice hz
    have hlen : ((List.range len).map z).length = len := by simp
    refine ⟨(List.range len).map z, some a, m, by rw [hlen], by rw [hlen]; exact hl, hm, fun k hk => ?_⟩
    rw [hlen] at hk
    obtain ⟨h0, _⟩ := hx k (by omega)
    have hs := World.cell?_spot (hx 0 (by omega)).1
    obtain ⟨b, off, sp⟩ := a
    obtain rfl : sp = none := by simpa [Addr.add] using hs
    have hv := hz k (by omega)
    refine ⟨V k, b, off, by simpa using hv, ?_, rfl, trivial, by rw [Addr.add_lit] at h0; exact h0⟩
    obtain ⟨a', c', hv', _⟩ := hv
    rw [hv']; rfl
theorem open_S' {w : World} {r : Reach} {b0 : Nat} {v : Value} {d : DataW H} {ps : List MemPlace} (hv : Value.okWide Try.prog w r b0 22 v) (h : DataW.Trod enc Try.prog w 0 (fun _ => true) true 22 v d ps) : ∃ xs, (dS Simps xs).rd anyB w v := by
  obtain ⟨fuel, h⟩ := h
  obtain ⟨a, len, cap, rfl⟩ := okWide_slice Try.underlying22 hv
  exact open_S h
theorem open_N' {w : World} {r : Reach} {b0 : Nat} {v : Value} {d : DataW H} {ps : List MemPlace} (hv : Value.okWide Try.prog w r b0 3 v) (h : DataW.Trod enc Try.prog w 0 (fun _ => true) true 3 v d ps) : ∃ n : Int, (dI n).rd anyB w v ∧ -9223372036854775808 ≤ n ∧ n ≤ 9223372036854775807 := by
  obtain ⟨n, rfl, _, _, hw⟩ := open_int Try.underlying3 hv h
  exact ⟨n, rfl, by simpa [Lit.wf, IntKind.min, IntKind.max, IntKind.signed, IntKind.bits] using hw⟩
theorem open_U8' {w : World} {r : Reach} {b0 : Nat} {v : Value} {d : DataW H} {ps : List MemPlace} (hv : Value.okWide Try.prog w r b0 5 v) (h : DataW.Trod enc Try.prog w 0 (fun _ => true) true 5 v d ps) : ∃ n : Int, v = .int .u8 n ∧ 0 ≤ n ∧ n ≤ 255 := by
  obtain ⟨n, rfl, _, _, hw⟩ := open_int Try.underlying5 hv h
  exact ⟨n, rfl, by simpa [Lit.wf, IntKind.min, IntKind.max, IntKind.signed, IntKind.bits] using hw⟩
end

section
variable {H : Type} {enc : TypeId × Value → H}

theorem args_kept {W W' : World} (hE : Ext W W') : ∀ {ts : List TypeId} {vs : List Value} {ds : List (DataW H)} {ps : List MemPlace}, (∀ t ∈ ts, Try.prog.readableRec t = true ∧ t < Try.prog.types.size) → (∀ p ∈ ps, p.block < W.heap.size) →
    DataW.TrodAll enc Try.prog W 0 (fun _ => true) true ts vs ds ps → DataW.TrodAll enc Try.prog W' 0 (fun b => decide (b < W.heap.size)) true ts vs ds ps
  | [], _, _, _, _, _, h => by
    obtain ⟨rfl, rfl, rfl⟩ := trodAll_nil h
    exact trodAll_mk0
  | t :: ts, _, _, _, ht, hlt, h => by
    obtain ⟨v, vs1, d, ds1, a, b, rfl, rfl, rfl, h1, h2⟩ := trodAll_cons h
    exact trodAll_cons_mk (Below.trod laidOut (ht t (by simp)).1 (ht t (by simp)).2 h1 hE (fun x hx => hlt x (by simp [hx]))) (args_kept hE (fun t' h' => ht t' (by simp [h'])) (fun p hp => hlt p (by simp [hp])) h2)

theorem post_law {f : Func} {s : ChangeSpec} {W W' : World} {args : Array Value} {ds gs : List (DataW H)} {before : List MemPlace} (hW : DataW.Whole enc Try.prog f.params.toList s.vars false W args.toList ds gs before) (hvars : s.vars = [])
    (hr : f.resultTypes = #[4]) (hs : s.fn H ds = { results := [.lit (.bool true)], args := ds }) (ht : ∀ t ∈ f.params.toList, Try.prog.readableRec t = true ∧ t < Try.prog.types.size) (hE : Ext W W') :
    s.post enc Try.prog f false true false false W args (.bool true) W' := by
  have hlt := hW.lt
  have hW' := hW
  obtain ⟨p, q, hA, hV, rfl, hfz, hnd⟩ := hW
  rw [hvars] at hV
  obtain ⟨rfl, rfl⟩ := trodVars_none hV
  refine ⟨ds, [], p ++ [], [], p, [], hW', ?_, ?_, ?_, hE.frame _, fun h => by cases h⟩
  · rw [hr, List.append_nil, hs]
    exact trodAll_mk1 (shut_bool Try.underlying4 true)
  · rw [List.append_nil, hs]
    exact args_kept hE ht (fun x hx => hlt x (by simp [hx])) hA
  · rw [hvars, List.append_nil, hs]
    rfl
theorem fn_law {f : FuncId} {ds : List Dat} (hF : Fn Try.prog f ds (dB true)) {W : World} {vs : List Value} (hl : vs.length = ds.length) (h : ∀ (i : Nat) (d : Dat), ds[i]? = some d → d.rd anyB W (vs.getD i undef)) :
    Calls Try.prog f vs.toArray W fun e W' => e = .returned (.bool true) ∧ Ext W W' :=
  (hF.out anyB W vs hl h).mono fun _ _ ⟨_, h1, h2, h3⟩ => by cases (h3 : _ = _); exact ⟨h1, h2⟩
end
end Go.Proofs.Ytkedmlandjlogaa
namespace Go.Proofs.Ytkedmlandjlogaa
open Go.ChangeShapes Go.WideShapes Go.ChangeAt Go.RowKit
set_option maxRecDepth 100000
section
variable {H : Type} {enc : TypeId × Value → H}
theorem cellsC : Try.prog.cellsOf 24 = 1 := by kernel_rfl
theorem cellsSS : Try.prog.cellsOf 22 = 1 := by kernel_rfl
theorem open_C' {w : World} {r : Reach} {b0 : Nat} {v : Value} {d : DataW H} {ps : List MemPlace} (hv : Value.okWide Try.prog w r b0 24 v) (h : DataW.Trod enc Try.prog w 0 (fun _ => true) true 24 v d ps) : ∃ xs, (dS Cpx xs).rd anyB w v := by
  obtain ⟨fuel, h⟩ := h
  obtain ⟨cs, rfl, hcs⟩ := okWide_struct Try.underlying24 hv
  rw [cellsC] at hcs
  obtain ⟨u, rfl⟩ := Array.size_eq_one_iff.1 hcs
  obtain ⟨y0, n, hy, hl, h0⟩ := trod_struct1 Try.underlying24 h
  have h0' : DataW.trod enc Try.prog w 0 (fun _ => true) true n 22 [u] = some y0 := by
    have e : Try.prog.cellsOf 22 = 1 := cellsSS
    simpa [Value.cells, e] using h0
  obtain ⟨xs, hx⟩ := open_S h0'
  refine ⟨xs, u, rfl, ?_, hx⟩
  obtain ⟨a, c, hu, _⟩ := hx
  rw [hu]; rfl
end
end Go.Proofs.Ytkedmlandjlogaa
