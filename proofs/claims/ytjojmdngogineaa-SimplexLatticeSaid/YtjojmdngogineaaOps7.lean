/-
  A call walked in its caller's place: the callee may take and hand back rows of the caller's own. The caller's frame travels along as an object that has no block.
-/
import Derived.Test.YtjojmdngogineaaOps6
namespace Go.Proofs.Ytjojmdngogineaa
open Go.RowKit
/-- a frame that waits -/
def hFr (a : Act) (fr : List Dat) : HObj where
  blk := none
  ok := fun I w => ∀ (t : Nat) (d : Dat), fr[t]? = some d → d.rd I w (a.tmps.getD t undef)
  weak := fun h q t d hd => d.weak (h t d hd) q
  bound := fun h t d hd => d.bound (h t d hd)
  move := fun h hg hP _ t d hd => d.grown (h t d hd) hg hP
section
variable {P : Program} {ops : Array Oper} {hp : List HObj} {o : Oper} {fr : List Dat} {d : Dat} {Q : Post} {rest : List Oper}
variable {dst : Option Tmp} {ty : TypeId} {ps : String} {af : Array Edge} {g : Option (Nat × Bool)} {P0 : Nat → Prop} {B : Nat} {w0 w : World}
theorem imm_ghost {gh : HObj} (hg : gh.blk = none) (l : List HObj) (k : Nat) : Imm P0 B (l ++ gh :: hp) k ↔ Imm P0 B (l ++ hp) k := by
  unfold Imm
  refine and_congr Iff.rfl ⟨fun h o ho => h o ?_, fun h o ho => ?_⟩
  · rcases List.mem_append.1 ho with ho | ho
    · exact List.mem_append_left _ ho
    · exact List.mem_append_right _ (List.mem_cons_of_mem _ ho)
  · rcases List.mem_append.1 ho with ho | ho
    · exact h o (List.mem_append_left _ ho)
    · rcases List.mem_cons.1 ho with rfl | ho
      · rw [hg]; simp
      · exact h o (List.mem_append_right _ ho)
theorem Hp.ghost {gh : HObj} (hg : gh.blk = none) {l : List HObj} (h : Hp P0 B w0 (l ++ hp) w) (hok : gh.ok (Imm P0 B (l ++ hp)) w) : Hp P0 B w0 (l ++ gh :: hp) w where
  base := h.base
  below := h.below
  own := fun o ho k hk => by
    rcases List.mem_append.1 ho with ho | ho
    · exact h.own o (List.mem_append_left _ ho) k hk
    · rcases List.mem_cons.1 ho with rfl | ho
      · rw [hg] at hk; cases hk
      · exact h.own o (List.mem_append_right _ ho) k hk
  ok := fun o ho => by
    rcases List.mem_append.1 ho with ho | ho
    · exact o.weak (h.ok o (List.mem_append_left _ ho)) fun k => (imm_ghost hg l k).2
    · rcases List.mem_cons.1 ho with rfl | ho
      · exact o.weak hok fun k => (imm_ghost hg l k).2
      · exact o.weak (h.ok o (List.mem_append_right _ ho)) fun k => (imm_ghost hg l k).2
  apart := by
    have h1 := h.apart
    rw [List.pairwise_append] at h1 ⊢
    refine ⟨h1.1, List.pairwise_cons.2 ⟨fun q _ k hk => (by rw [hg] at hk; cases hk), h1.2.1⟩, fun o ho q hq k hk => ?_⟩
    rcases List.mem_cons.1 hq with rfl | hq
    · rw [hg]; simp
    · exact h1.2.2 o ho q hq k hk
theorem Hp.unghost {gh : HObj} (hg : gh.blk = none) {l : List HObj} (h : Hp P0 B w0 (l ++ gh :: hp) w) : Hp P0 B w0 (l ++ hp) w ∧ gh.ok (Imm P0 B (l ++ hp)) w := by
  have hm : ∀ o, o ∈ l ++ hp → o ∈ l ++ gh :: hp := fun o ho => by
    rcases List.mem_append.1 ho with ho | ho
    · exact List.mem_append_left _ ho
    · exact List.mem_append_right _ (List.mem_cons_of_mem _ ho)
  refine ⟨⟨h.base, h.below, fun o ho => h.own o (hm o ho), fun o ho => o.weak (h.ok o (hm o ho)) fun k => (imm_ghost hg l k).1, ?_⟩, gh.weak (h.ok gh (by simp)) fun k => (imm_ghost hg l k).1⟩
  have h1 := h.apart
  rw [List.pairwise_append] at h1 ⊢
  exact ⟨h1.1, (List.pairwise_cons.1 h1.2.1).2, fun o ho q hq => h1.2.2 o ho q (List.mem_cons_of_mem _ hq)⟩
/-- the callee's post: one result, objects of its own or of the caller's ahead of what waits -/
def finI (t : Nat) (K : Dat → List HObj → Prop) (gh : HObj) (hp : List HObj) : Post := fun e f q => (match e with | .normal | .ret => True | _ => False) ∧ ∃ d hp2, f[t]? = some d ∧ q = hp2 ++ gh :: hp ∧ K d hp2
/-- a call walked in its place -/
theorem WL.inline {f : FuncId} {fn : Func} {c : Code} {t : Tmp} {args : Array Operand} {ats : Array TypeId} {ds : List Dat} (hp1 : List HObj) (K : Dat → List HObj → Prop) (hf : P.funcs[f]? = some fn) (hb : fn.body = some c) (hr : fn.results = #[.tmp t]) (he : Enters P f) (ha : ArgsD fr args.toList ds)
    (hbody : ∀ gh : HObj, gh.blk = none → WC P (finI t K gh hp) c (ds ++ List.replicate (fn.ntmps - ds.length) (dX undef)) (hp1 ++ gh :: hp))
    (hK : ∀ d' hp2, K d' hp2 → WL P ops Q rest (setD fr dst d') (hp2 ++ hp)) :
    WL P ops Q ({ dst := dst, op := .call { callee := .value (.func f), args := args, argTypes := ats }, type := ty, pos := ps, after := af, guard := none } :: rest) fr (hp1 ++ hp) := by
  refine WL.of fun P0 B w0 w a hh hfr => ?_
  have hrun : (execOp a.eval { dst := dst, op := .call { callee := .value (.func f), args := args, argTypes := ats }, type := ty, pos := ps, after := af, guard := none }).run P w = .ok (.enter f (args.map a.eval)) w := by
    unfold execOp
    simp only [resolve]
    simp [Act.eval, Deferred.ofValue, invoke, he _ w]
  refine wpList_plain rfl fun KK hKK => ?_
  unfold Oper.wp
  rw [hrun]
  have hgb : (hFr a fr).blk = none := rfl
  have hG : Hp P0 B w0 (hp1 ++ hFr a fr :: hp) w := Hp.ghost hgb hh hfr.rd
  have hvs : (args.map a.eval) = (args.toList.map a.eval).toArray := by apply Array.ext'; simp
  have hl : (args.toList.map a.eval).length = ds.length := by simpa using ha.1
  have hf0 : Fr (Imm P0 B (hp1 ++ hFr a fr :: hp)) w { tmps := (args.toList.map a.eval).toArray ++ Array.replicate (fn.ntmps - ds.length) undef, defers := [] } (ds ++ List.replicate (fn.ntmps - ds.length) (dX undef)) :=
    fr_enter hl fun i d hd => by
      have hi : i < args.toList.length := by rw [ha.1]; exact (List.getElem?_eq_some_iff.1 hd).1
      have h2 := (ha.2 i _ d (List.getElem?_eq_getElem hi) hd).ev hfr
      have hi' : i < args.size := by simpa using hi
      have : (args.toList.map a.eval).getD i undef = a.eval args.toList[i] := by simp [List.getD, hi']
      rw [this]
      exact d.weak h2 fun k => (imm_ghost hgb hp1 k).2
  have hcalls : Calls P f (args.map a.eval) w fun e w' => ∃ v, e = .returned v ∧ KK (a.put dst v) w' := by
    rw [hvs]
    refine calls_of_wp hf hb ?_
    have hwp := (hbody (hFr a fr) hgb).on hG hf0
    have hsz : (args.toList.map a.eval).toArray.size = ds.length := by simp [← hl]
    rw [hsz]
    refine Code.wp_mono (fun e a' w' ⟨f', p', q, hh', hf'⟩ => ?_) hwp
    obtain ⟨hx, d', hp2, hd', rfl, hk'⟩ := q
    obtain ⟨hh2, hok2⟩ := hh'.unghost hgb
    have hv := d'.weak (hf'.rd t d' hd') fun k => (imm_ghost hgb hp2 k).1
    have hfr2 : Fr (Imm P0 B (hp2 ++ hp)) w' a fr := ⟨hfr.defers, hfr.size, hok2⟩
    have hfin := hKK _ _ ((hK d' hp2 hk').on hh2 (Fr.put (x := dst) hfr2 hv))
    cases e with
    | normal => exact ⟨hf'.defers, _, results_tmp hr _ _ _, _, rfl, hfin⟩
    | ret => exact ⟨hf'.defers, _, results_tmp hr _ _ _, _, rfl, hfin⟩
    | _ => exact hx.elim
  exact hcalls.mono fun e w' ⟨v, hv, hk⟩ => by subst hv; exact hk
end
end Go.Proofs.Ytjojmdngogineaa
