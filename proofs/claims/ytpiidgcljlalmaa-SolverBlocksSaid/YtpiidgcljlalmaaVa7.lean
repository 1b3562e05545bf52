/- Part 7: walks by contracts, and plain laws. -/
import Derived.RangeFuncSeq
import Derived.Test.YtpiidgcljlalmaaVa6
set_option linter.unusedVariables false
set_option linter.unusedSimpArgs false
set_option linter.unusedSectionVars false
namespace Go.Proofs.Ytpiidgcljlalmaa
open Go.RowKit
def hObj (b : Nat) (o : Obj) : HObj where
  blk := some b
  ok := fun _ w => w.heap[b]? = some o
  weak := fun h _ => h
  bound := fun h => h
  move := fun {P w w' row} h hg _ hne => by
    have hlt : b < w.heap.size := (Array.getElem?_eq_some_iff.1 h).1
    refine (hg.block b hlt ?_).trans h
    rcases hne with h | h
    · cases h
    · exact h
def hKnow (v : Value) (d : Dat) : HObj where
  blk := none
  ok := fun I w => d.rd I w v
  weak := fun h q => d.weak h q
  bound := fun h => d.bound h
  move := fun h hg hP _ => d.grown h hg hP
structure YStep (P : Program) (l : Nat) {α : Type} (D : α → Dat) (J : List α → List HObj → Prop) (N : Nat) : Prop where
  out : ∀ (P0 : Nat → Prop) (B : Nat) (w0 : World) (hp : List HObj) (pre : List α) (js : List HObj) (x : α) (u : Value) (W : World), pre.length < N → J pre js → Hp P0 B w0 (js ++ hp) W → (D x).rd (Imm P0 B (js ++ hp)) W u →
    YieldAt Fence.wide 0 P l #[u] W fun e W' => e = .returned (.bool true) ∧ ∃ js', J (pre ++ [x]) js' ∧ Hp P0 B w0 (js' ++ hp) W'
structure CallC (P : Program) (f : FuncId) (ds : List Dat) (hp1 : List HObj) (K : Dat → List HObj → Prop) : Prop where
  out : ∀ (P0 : Nat → Prop) (B : Nat) (w0 : World) (hp : List HObj) (vs : List Value) (W : World), Hp P0 B w0 (hp1 ++ hp) W → vs.length = ds.length →
    (∀ (i : Nat) (d : Dat), ds[i]? = some d → d.rd (Imm P0 B (hp1 ++ hp)) W (vs.getD i undef)) →
    Calls P f vs.toArray W fun e W' => ∃ v d hp2, e = .returned v ∧ K d hp2 ∧ Hp P0 B w0 (hp2 ++ hp) W' ∧ d.rd (Imm P0 B (hp2 ++ hp)) W' v
structure SeqC (P : Program) (gf : FuncId) (lb : List Value) (hk : List HObj) {α : Type} (D : α → Dat) (xs : List α) : Prop where
  out : ∀ (l : Nat) (J : List α → List HObj → Prop), YStep P l D J xs.length → ∀ js, J [] js → CallC P gf (dX (.func (.yield l) #[] #[]) :: lb.map dX) (js ++ hk) (fun _ hp2 => ∃ js', J xs js' ∧ hp2 = js' ++ hk)

section
variable {P : Program} {f : FuncId} {fn : Func} {c : Code} {t : Tmp} {ds : List Dat} {hp1 : List HObj} {K : Dat → List HObj → Prop}
def finC (t : Nat) (K : Dat → List HObj → Prop) (hp : List HObj) : Post := fun e f q => (match e with | .normal | .ret => True | _ => False) ∧ ∃ d hp2, f[t]? = some d ∧ q = hp2 ++ hp ∧ K d hp2
def finC0 (K : Dat → List HObj → Prop) (hp : List HObj) : Post := fun e _ q => (match e with | .normal | .ret => True | _ => False) ∧ ∃ hp2, q = hp2 ++ hp ∧ K dA hp2
theorem CallC.intro (hf : P.funcs[f]? = some fn) (hb : fn.body = some c) (hr : fn.results = #[.tmp t])
    (h : ∀ hp, WC P (finC t K hp) c (ds ++ List.replicate (fn.ntmps - ds.length) (dX undef)) (hp1 ++ hp)) : CallC P f ds hp1 K := ⟨fun P0 B w0 hp vs W hh hl hv => by
  refine calls_of_wp hf hb ?_
  have hf0 := fr_enter (m := fn.ntmps - ds.length) hl hv
  have hsz : vs.toArray.size = ds.length := by simp [hl]
  rw [hsz]
  refine Code.wp_mono (fun e a' w' ⟨f', p', q, hh', hf'⟩ => ?_) ((h hp).on hh hf0)
  obtain ⟨hx, d', hp2, hd', rfl, hk'⟩ := q
  have hv := hf'.rd t d' hd'
  cases e with
  | normal => exact ⟨hf'.defers, _, results_tmp hr _ _ _, _, d', hp2, rfl, hk', hh', hv⟩
  | ret => exact ⟨hf'.defers, _, results_tmp hr _ _ _, _, d', hp2, rfl, hk', hh', hv⟩
  | _ => exact hx.elim⟩
theorem CallC.intro0 (hf : P.funcs[f]? = some fn) (hb : fn.body = some c) (hr : fn.results = #[])
    (h : ∀ hp, WC P (finC0 K hp) c (ds ++ List.replicate (fn.ntmps - ds.length) (dX undef)) (hp1 ++ hp)) : CallC P f ds hp1 K := ⟨fun P0 B w0 hp vs W hh hl hv => by
  refine calls_of_wp hf hb ?_
  have hf0 := fr_enter (m := fn.ntmps - ds.length) hl hv
  have hsz : vs.toArray.size = ds.length := by simp [hl]
  rw [hsz]
  refine Code.wp_mono (fun e a' w' ⟨f', p', q, hh', hf'⟩ => ?_) ((h hp).on hh hf0)
  obtain ⟨hx, hp2, rfl, hk'⟩ := q
  cases e with
  | normal => exact ⟨hf'.defers, _, results_none hr _ _ _, _, dA, hp2, rfl, hk', hh', trivial⟩
  | ret => exact ⟨hf'.defers, _, results_none hr _ _ _, _, dA, hp2, rfl, hk', hh', trivial⟩
  | _ => exact hx.elim⟩
end
section
variable {P : Program} {ops : Array Oper} {hp : List HObj} {fr : List Dat} {Q : Post} {rest : List Oper} {dst : Option Tmp} {ty : TypeId} {ps : String} {af : Array Edge} {d : Dat} {c : Code}
theorem WC.pin (t : Nat) (ht : fr[t]? = some d) (h : ∀ v, WC P Q c (fr.set t (dX v)) (hKnow v d :: hp)) : WC P Q c fr hp := WC.of fun P0 B w0 w a hh hf => by
  have hg : (hKnow (a.tmps.getD t undef) d).blk = none := rfl
  have hd := hf.rd t d ht
  refine (h (a.tmps.getD t undef)).on (Hp.ghost (l := []) hg hh hd) ⟨hf.defers, by rw [hf.size, List.length_set], fun t' d' hd' => ?_⟩
  by_cases htt : t = t'
  · subst htt
    rw [List.getElem?_set] at hd'
    simp only [if_true] at hd'
    split at hd'
    · cases hd'; rfl
    · cases hd'
  · rw [List.getElem?_set_ne htt] at hd'
    exact d'.weak (hf.rd t' d' hd') fun k => (imm_ghost hg [] k).2
def ArgsX (fr : List Dat) (xs : List Operand) (vs : List Value) : Prop := xs.length = vs.length ∧ ∀ (i : Nat) (x : Operand) (v : Value), xs[i]? = some x → vs[i]? = some v → OpD fr x (dX v)
theorem ArgsX.nil : ArgsX fr [] [] := ⟨rfl, fun i x v h => by simp at h⟩
theorem ArgsX.cons {x : Operand} {xs : List Operand} {v : Value} {vs : List Value} (h : OpD fr x (dX v)) (k : ArgsX fr xs vs) : ArgsX fr (x :: xs) (v :: vs) :=
  ⟨by simp [k.1], fun i y u hy hu => by
    cases i with
    | zero => simp at hy hu; subst hy; subst hu; exact h
    | succ i => exact k.2 i y u (by simpa using hy) (by simpa using hu)⟩
theorem SY.makeX {f : FuncId} {caps : Array Operand} {vs : List Value} {g : Option (Nat × Bool)} (ha : ArgsX fr caps.toList vs) :
    SY P ops hp { dst := dst, op := .makeFunc (.func f) #[] caps, type := ty, pos := ps, after := af, guard := g } fr (dX (.func (.func f) #[] vs.toArray)) := SY.val fun {I w a} ho => by
  refine ⟨.func (.func f) #[] (caps.map a.eval), by unfold execOp; simp [Instr.makeFunc], ?_⟩
  show Value.func _ _ _ = Value.func _ _ _
  congr 1
  apply Array.ext'
  rw [Array.toList_map]
  show caps.toList.map a.eval = vs
  apply List.ext_getElem (by simpa using ha.1)
  intro i h1 h2
  have hi : i < caps.toList.length := by simpa using h1
  have h3 : a.eval caps.toList[i] = vs[i] := (ha.2 i _ _ (List.getElem?_eq_getElem hi) (List.getElem?_eq_getElem h2)).get (by simp only [Op.operands]; simp) ho
  simpa using h3
theorem run_boxC {x : Operand} {T : TypeId} {w : World} {a : Act} {g : Option (Nat × Bool)} {cs : List Value} (h : (a.eval x).cells = cs.toArray) :
    (execOp a.eval { dst := dst, op := .box T x, type := ty, pos := ps, after := af, guard := g }).run P w = .ok (.value (.pointer (some ⟨w.heap.size, 0, none⟩))) (w.alloc (.cells cs.toArray T)) := by
  unfold execOp
  simp [Instr.box, newVar, newRow, h]
theorem WL.boxC {x : Operand} {T : TypeId} {n : Nat} {agg : Bool} (hx : OpD fr x d) (hs : d.Shape n agg) (h : ∀ b, WL P ops Q rest (setD fr dst (dX (.pointer (some ⟨b, 0, none⟩)))) (hCell b T n agg d :: hp)) :
    WL P ops Q ({ dst := dst, op := .box T x, type := ty, pos := ps, after := af, guard := none } :: rest) fr hp := by
  refine WL.of fun P0 B w0 w a hh hf => ?_
  have h1 := hx.ev hf
  obtain ⟨cs, k1, k0, k2, k3, k4⟩ := hs _ _ _ h1
  refine wpList_value rfl (run_boxC k3) ?_
  have hx := Ext.of_alloc w (.cells cs.toArray T)
  have hb : ∀ k, (hCell w.heap.size T n agg d).blk = some k → w.heap.size ≤ k ∧ k < (w.alloc (.cells cs.toArray T)).heap.size := fun k hk => by
    cases hk
    exact ⟨Nat.le_refl _, by simp⟩
  refine (h w.heap.size).on (hh.push hx hb ⟨cs, a.eval x, alloc_get w _, k1, k0, k2, k4, ?_⟩) ?_
  · exact Dat.ext (d.bound h1) hx
  exact Fr.put (hf.mono fun d _ hd => Hp.pushed hx (fun k hk => (hb k hk).1) hd) rfl
theorem call_core {f : FuncId} {caps : List Value} {cl : Operand} {args : Array Operand} {ats : Array TypeId} {ds1 : List Dat} {hp1 : List HObj} {K : Dat → List HObj → Prop} {P0 : Nat → Prop} {B : Nat} {w0 w : World} {a : Act} (hF : CallC P f (ds1 ++ caps.map dX) hp1 K) (he : Enters P f) (hc : OpD fr cl (dX (.func (.func f) #[] caps.toArray))) (ha : ArgsD fr args.toList ds1)
    (hh : Hp P0 B w0 (hp1 ++ hp) w) (hfr : Fr (Imm P0 B (hp1 ++ hp)) w a fr) {KK : Act → World → Prop} {QQ : Exit → Act → World → Prop}
    (hKK : ∀ d' hp2 a' w', K d' hp2 → Hp P0 B w0 (hp2 ++ hp) w' → Fr (Imm P0 B (hp2 ++ hp)) w' a' (setD fr dst d') → KK a' w') :
    Oper.wp P { dst := dst, op := .call { callee := .value cl, args := args, argTypes := ats }, type := ty, pos := ps, after := af, guard := none } a w KK QQ := by
  have hev : a.eval cl = .func (.func f) #[] caps.toArray := hc.ev hfr
  have h4 := he (args.map a.eval ++ caps.toArray) w
  have hrun : (execOp a.eval { dst := dst, op := .call { callee := .value cl, args := args, argTypes := ats }, type := ty, pos := ps, after := af, guard := none }).run P w = .ok (.enter f (args.map a.eval ++ caps.toArray)) w := by
    unfold execOp
    simp only [resolve]
    simp [hev, Deferred.ofValue, invoke, h4]
  unfold Oper.wp
  rw [hrun]
  have hgb : (hFr a fr).blk = none := rfl
  have hG : Hp P0 B w0 (hp1 ++ hFr a fr :: hp) w := Hp.ghost hgb hh hfr.rd
  have hvs : args.map a.eval ++ caps.toArray = (args.toList.map a.eval ++ caps).toArray := by apply Array.ext'; simp
  have hal : args.size = ds1.length := by simpa using ha.1
  have hl : (args.toList.map a.eval ++ caps).length = (ds1 ++ caps.map dX).length := by simp [hal]
  have hcalls := hF.out P0 B w0 (hFr a fr :: hp) (args.toList.map a.eval ++ caps) w hG hl fun i d hd => by
    by_cases hi : i < ds1.length
    · rw [List.getElem?_append_left hi] at hd
      have hi' : i < args.toList.length := by simpa [hal] using hi
      have h2 := (ha.2 i _ d (List.getElem?_eq_getElem hi') hd).ev hfr
      have hi2 : i < args.size := by simpa using hi'
      have : (args.toList.map a.eval ++ caps).getD i undef = a.eval args.toList[i] := by
        rw [List.getD_eq_getElem?_getD, List.getElem?_append_left (by simpa using hi2)]
        simp [hi2]
      rw [this]
      exact d.weak h2 fun k => (imm_ghost hgb hp1 k).2
    · rw [List.getElem?_append_right (by omega)] at hd
      rw [List.getD_eq_getElem?_getD, List.getElem?_append_right (by simp; omega)]
      have hlen : (args.toList.map a.eval).length = ds1.length := by simp [hal]
      rw [hlen]
      rw [List.getElem?_map] at hd
      cases hq : caps[i - ds1.length]? with
      | none => rw [hq] at hd; cases hd
      | some u => rw [hq] at hd; cases hd; rfl
  rw [hvs]
  exact hcalls.mono fun e w' ⟨v, d', hp2, hv, hk, hh', hd'⟩ => by
    subst hv
    obtain ⟨hh2, hok2⟩ := hh'.unghost hgb
    have hfr2 : Fr (Imm P0 B (hp2 ++ hp)) w' a fr := ⟨hfr.defers, hfr.size, hok2⟩
    exact hKK _ _ _ _ hk hh2 (Fr.put (x := dst) hfr2 (d'.weak hd' fun k => (imm_ghost hgb hp2 k).1))
theorem WL.callC {f : FuncId} {caps : List Value} {cl : Operand} {args : Array Operand} {ats : Array TypeId} {ds1 : List Dat} {hp1 : List HObj} {K : Dat → List HObj → Prop} (hF : CallC P f (ds1 ++ caps.map dX) hp1 K) (he : Enters P f) (hc : OpD fr cl (dX (.func (.func f) #[] caps.toArray))) (ha : ArgsD fr args.toList ds1)
    (hK : ∀ d' hp2, K d' hp2 → WL P ops Q rest (setD fr dst d') (hp2 ++ hp)) :
    WL P ops Q ({ dst := dst, op := .call { callee := .value cl, args := args, argTypes := ats }, type := ty, pos := ps, after := af, guard := none } :: rest) fr (hp1 ++ hp) :=
  WL.of fun _ _ _ _ _ hh hfr => wpList_plain rfl fun _ hKK => call_core hF he hc ha hh hfr fun d' hp2 _ _ hk hh2 hf2 => hKK _ _ ((hK d' hp2 hk).on hh2 hf2)
end
namespace I
section
variable {P : Program} {ops : Array Oper} {hp : List HObj} {fr : List Dat} {Q : Post} {rest : List Oper} {dst : Option Tmp} {ty : TypeId} {ps : String} {af : Array Edge} {d : Dat} {c : Code}
theorem WL.callC {f : FuncId} {caps : List Value} {cl : Operand} {args : Array Operand} {ats : Array TypeId} {ds1 : List Dat} {hp1 : List HObj} {K : Dat → List HObj → Prop} (hF : CallC P f (ds1 ++ caps.map dX) hp1 K) (he : Enters P f) (hc : OpD fr cl (dX (.func (.func f) #[] caps.toArray))) (ha : ArgsD fr args.toList ds1)
    (hK : ∀ d' hp2, K d' hp2 → WL P ops Q rest (setD fr dst d') (hp2 ++ hp)) :
    WL P ops Q ({ dst := dst, op := .call { callee := .value cl, args := args, argTypes := ats }, type := ty, pos := ps, after := af, guard := none } :: rest) fr (hp1 ++ hp) :=
  WL.of fun _ _ _ _ _ hh hfr => wpListIn_plainW rfl fun _ hKK => call_core hF he hc ha hh hfr fun d' hp2 _ _ hk hh2 hf2 => hKK _ _ ((hK d' hp2 hk).on hh2 hf2)
theorem WL.yield {l : Nat} {α : Type} {D : α → Dat} {J : List α → List HObj → Prop} {t : Tmp} {x : Operand} {ats : Array TypeId} {pre : List α} {js : List HObj} {y : α} {N : Nat} (hy : YStep P l D J N) (hn : pre.length < N) (hj : J pre js) (ht : OpD fr (.tmp t) (dX (.func (.yield l) #[] #[]))) (hx : OpD fr x (D y))
    (h : ∀ js', J (pre ++ [y]) js' → WL P ops Q rest (setD fr dst (dB true)) (js' ++ hp)) :
    WL P ops Q ({ dst := dst, op := .call { callee := .value (.tmp t), args := #[x], argTypes := ats }, type := ty, pos := ps, after := af, guard := none } :: rest) fr (js ++ hp) := by
  refine WL.of fun P0 B w0 w a hh hf => ?_
  have hgb : (hFr a fr).blk = none := rfl
  have hG : Hp P0 B w0 (js ++ hFr a fr :: hp) w := Hp.ghost hgb hh hf.rd
  have hev : a.eval (.tmp t) = .func (.yield l) #[] #[] := ht.ev hf
  have hyy := hy.out P0 B w0 (hFr a fr :: hp) pre js y (a.eval x) w hn hj hG ((D y).weak (hx.ev hf) fun k => (imm_ghost hgb _ k).2)
  obtain ⟨fn, tmps, assign, body, hrun, hR⟩ := hyy
  refine wpListIn_plain rfl fun K hK => ?_
  refine ⟨fun _ _ => trivial, ?_⟩
  have hr : (execOp a.eval { dst := dst, op := .call { callee := .value (.tmp t), args := #[x], argTypes := ats }, type := ty, pos := ps, after := af, guard := none }).run P w = .ok (.round l fn tmps assign body) w := by
    unfold execOp
    simp only [resolve]
    simp [hev, Deferred.ofValue, invoke, hrun]
  rw [show Fence.wide.round = none from rfl, Oper.semAt_none, hr]
  refine ⟨fun h => by simp [Fence.wide] at h, hR.mono fun e W' ⟨he, js', hj', hh'⟩ => ?_⟩
  subst he
  obtain ⟨hh2, hok2⟩ := hh'.unghost hgb
  exact hK _ _ ((h js' hj').on hh2 (Fr.put (⟨hf.defers, hf.size, hok2⟩ : Fr (Imm P0 B (js' ++ hp)) W' a fr) (d := dB true) rfl))
end
end I
end Go.Proofs.Ytpiidgcljlalmaa
namespace Go.Proofs.Ytpiidgcljlalmaa
open Go.RowKit
theorem oper_round {P : Program} {o : Oper} {a : Act} {w : World} {K : Act → World → Prop} {Q : Exit → Act → World → Prop} {l : Nat} (hd : ∀ c, o.op ≠ .defer c) (h : o.wpIn Fence.wide 0 P a w K Q) : o.wpIn (Fence.wide.inRound l) 0 P a w K Q := by
  refine ⟨fun _ _ => trivial, ?_⟩
  have h2 := h.2
  rw [show Fence.wide.round = none from rfl, Oper.semAt_none] at h2
  rw [show (Fence.wide.inRound l).round = some l from rfl, Oper.semAt_some l _ _ hd]
  exact h2
theorem wpListIn_round {P : Program} {ops : Array Oper} {Q : Exit → Act → World → Prop} {l : Nat} : ∀ {rest : List Oper} {a : Act} {w : World}, (∀ o ∈ rest, ∀ c, o.op ≠ .defer c) → wpListIn Fence.wide 0 P ops Q rest a w → wpListIn (Fence.wide.inRound l) 0 P ops Q rest a w
  | [], _, _, _, h => h
  | o :: rest, a, w, hd, h => by
    have hr : ∀ a w, wpListIn Fence.wide 0 P ops Q rest a w → wpListIn (Fence.wide.inRound l) 0 P ops Q rest a w := fun a w => wpListIn_round fun o ho => hd o (List.mem_cons_of_mem _ ho)
    unfold wpListIn at h ⊢
    split at h
    · rename_i hw
      rw [if_pos hw]
      exact oper_round (hd o (by simp)) (Oper.wpIn_mono hr h)
    · rename_i hw
      rw [if_neg hw]
      exact ⟨fun _ _ => trivial, hr _ _ h.2⟩
structure WR (P : Program) (l : Nat) (Q : Post) (c : Code) (fr : List Dat) (hp : List HObj) : Prop where
  of ::
  out : ∀ (P0 : Nat → Prop) (B : Nat) (w0 w : World) (a : Act), Hp P0 B w0 hp w → Fr (Imm P0 B hp) w a fr → c.wpIn (Fence.wide.inRound l) 0 P (lift Q P0 B w0) a w
section
variable {P : Program} {l : Nat} {Q : Post} {fr : List Dat} {hp : List HObj}
theorem WR.region {id : Nat} {ops : List Oper} (hd : (ops.all fun o => match o.op with | .defer _ => false | _ => true) = true) (h : I.WL P ops.toArray Q ops fr hp) : WR P l Q (.region id ops.toArray false) fr hp := WR.of fun _ _ _ _ _ hh hf =>
  wpIn_region_lit (wpListIn_round (fun o ho c hc => by have := List.all_eq_true.1 hd o ho; rw [hc] at this; cases this) (h.on hh hf))
theorem WR.seq {x y : Code} (h : WR P l (ThenD (WR P l Q y) Q) x fr hp) : WR P l Q (.seq x y) fr hp := WR.of fun P0 B w0 w a hh hf => wpIn_seq (wpIn_mono (h.out _ _ _ _ _ hh hf) (fun e a' w' ⟨f, p, q, r, s⟩ => by
  cases e with
  | normal => exact (q : WR P l Q y f p).out _ _ _ _ _ r s
  | _ => exact ⟨f, p, q, r, s⟩))
theorem WR.skip (h : Q .normal fr hp) : WR P l Q .skip fr hp := WR.of fun _ _ _ _ _ hh hf => wpIn_skip ⟨fr, hp, h, hh, hf⟩
theorem WR.exit {id : Nat} (h : Q (.exit id) fr hp) : WR P l Q (.exit id) fr hp := WR.of fun _ _ _ _ _ hh hf => wpIn_exit ⟨fr, hp, h, hh, hf⟩
theorem WR.block {id : Nat} {c : Code} (h : WR P l (InBlockD id Q) c fr hp) : WR P l Q (.block id c) fr hp := WR.of fun P0 B w0 w a hh hf => wpIn_block (wpIn_mono (h.out _ _ _ _ _ hh hf) (fun e a' w' ⟨f, p, q, r, s⟩ => by
  cases e with
  | exit id' =>
    simp only [Exit.inBlock]
    simp only [InBlockD] at q
    split
    · rename_i hi; rw [if_pos hi] at q; exact ⟨f, p, q, r, s⟩
    · rename_i hi; rw [if_neg hi] at q; exact ⟨f, p, q, r, s⟩
  | _ => exact ⟨f, p, q, r, s⟩))
end
inductive FixF : List Dat → List Dat → Prop
  | nil : FixF [] []
  | x {v : Value} {f f' : List Dat} : FixF f f' → FixF (dX v :: f) (dX v :: f')
  | a {d : Dat} {f f' : List Dat} : FixF f f' → FixF (d :: f) (dA :: f')
theorem FixF.out {f f' : List Dat} (h : FixF f f') : f.length = f'.length ∧ ∀ (t : Nat) (d : Dat), f'[t]? = some d → (∃ v, f[t]? = some (dX v) ∧ d = dX v) ∨ d = dA := by
  induction h with
  | nil => exact ⟨rfl, fun t d h => by simp at h⟩
  | x _ ih =>
    refine ⟨by simp [ih.1], fun t d h => ?_⟩
    cases t with
    | zero => simp at h; subst h; exact .inl ⟨_, rfl, rfl⟩
    | succ t => simpa using ih.2 t d (by simpa using h)
  | a _ ih =>
    refine ⟨by simp [ih.1], fun t d h => ?_⟩
    cases t with
    | zero => simp at h; subst h; exact .inr rfl
    | succ t => simpa using ih.2 t d (by simpa using h)
theorem grown_putObj (w : World) (l : Nat) (o : Obj) : w.grownBy (w.putObj l o) (some l) := ⟨rfl, rfl, rfl, by simp, fun k _ hk => World.putObj_heap_other (fun e => hk (by rw [e]))⟩
theorem Hp.putObj {P0 : Nat → Prop} {B : Nat} {w0 w : World} {l : Nat} {o o' : Obj} {hp : List HObj} (h : Hp P0 B w0 (hObj l o :: hp) w) : Hp P0 B w0 (hObj l o' :: hp) (w.putObj l o') := by
  have hl := h.ok (hObj l o) (by simp)
  exact h.write (o' := hObj l o') (grown_putObj w l o') (.inl rfl) (World.putObj_heap_same (Array.getElem?_eq_some_iff.1 hl).1)
end Go.Proofs.Ytpiidgcljlalmaa
namespace Go.Proofs.Ytpiidgcljlalmaa
open Go.RowKit
structure SW (P : Program) (ops : Array Oper) (hp : List HObj) {β : Type} (H : β → List HObj) (D : β → Dat) (o : Oper) (fr : List Dat) : Prop where
  guard : o.guard = none
  out : ∀ {P0 : Nat → Prop} {B : Nat} {w0 w : World} {a : Act}, Hp P0 B w0 hp w → On (o.looksAt ops) (Imm P0 B hp) w a fr → ∀ (K : Act → World → Prop) (Q : Exit → Act → World → Prop),
    (∀ (x : β) (v : Value) (w' : World), Hp P0 B w0 (H x) w' → (∀ (d : Dat) (u : Value), d.rd (Imm P0 B hp) w u → d.rd (Imm P0 B (H x)) w' u) → (D x).rd (Imm P0 B (H x)) w' v → K (a.put o.dst v) w') → o.wp P a w K Q
def HH {β : Type} (hp : List HObj) (H : β → List HObj) : Option β → List HObj
  | none => hp
  | some x => H x
section
variable {P : Program} {ops : Array Oper} {hp : List HObj} {md : Region.Mode} {β : Type} {H : β → List HObj} {D : β → Dat} {dd : Nat → Dat} {m : Nat} {fr fr' : List Dat} {o : Oper}
theorem SW.same (h : SW P ops hp H D o fr) (hl : fr'.length = fr.length) (hs : ∀ t ∈ o.looksAt ops, fr'[t]? = fr[t]?) : SW P ops hp H D o fr' := ⟨h.guard, fun hh ho K Q hk => h.out hh (ho.same hl hs) K Q hk⟩
inductive WDs (P : Program) (ops : Array Oper) (hp : List HObj) {β : Type} (H : β → List HObj) (Q : List Dat → Prop) : List Oper → List Dat → Prop
  | nil {fr : List Dat} : Q fr → WDs P ops hp H Q [] fr
  | op {o : Oper} {rest : List Oper} {fr : List Dat} {d : Dat} : (∀ c, SYG P ops (HH hp H c) o fr d) → WDs P ops hp H Q rest (setD fr o.dst d) → WDs P ops hp H Q (o :: rest) fr
theorem WDs.id {Q : List Dat → Prop} {l : List Oper} {f : List Dat} (h : WDs P ops hp H Q l f) : WDs P ops hp H Q l f := h
def ChD (P : Program) (ops : Array Oper) (hp : List HObj) {β : Type} (H : β → List HObj) (dd : Nat → Dat) (Q : List Dat → Prop) : List Oper → Nat → List Dat → Prop
  | [], _, fr => Q fr
  | o :: rest, k, fr => (∀ c, SYG P ops (HH hp H c) o fr (dd k)) ∧ ChD P ops hp H dd Q rest (k + 1) (setD fr o.dst (dd k))
theorem ChD.congr {dd' : Nat → Dat} {Q : List Dat → Prop} : ∀ (l : List Oper) (k : Nat) (fr : List Dat), (∀ j, k ≤ j → dd j = dd' j) → ChD P ops hp H dd Q l k fr → ChD P ops hp H dd' Q l k fr
  | [], _, _, _, h => h
  | _ :: rest, k, _, he, h => by
    refine ⟨by rw [← he k (Nat.le_refl _)]; exact h.1, ?_⟩
    rw [← he k (Nat.le_refl _)]
    exact ChD.congr rest (k + 1) _ (fun j hj => he j (by omega)) h.2
theorem WDs.ch {Q : List Dat → Prop} : ∀ (l : List Oper) (k : Nat) (fr : List Dat), WDs P ops hp H Q l fr → ∃ dd, ChD P ops hp H dd Q l k fr
  | [], _, _, h => ⟨fun _ => dA, by cases h; assumption⟩
  | _ :: rest, k, _, h => by
    cases h
    rename_i d hd hr
    obtain ⟨dd, h1⟩ := WDs.ch rest (k + 1) _ hr
    refine ⟨fun j => if j = k then d else dd j, ?_, ?_⟩
    · simpa using hd
    · simp only [if_true]
      exact ChD.congr rest (k + 1) _ (fun j hj => by rw [if_neg (by omega)]) h1
theorem WL.ofSW {Q : Post} {rest : List Oper} (h : SW P ops hp H D o fr) (k : ∀ x, WL P ops Q rest (setD fr o.dst (D x)) (H x)) : WL P ops Q (o :: rest) fr hp := WL.of fun P0 B w0 w a hh hf => by
  unfold wpList
  have hwant : Region.wanted o (yielded ops a.tmps) = true := by simp [Region.wanted, h.guard]
  rw [if_pos hwant]
  exact .inl (h.out hh (hf.on _) _ _ fun x v w' hh' hrd hd => (k x).on hh' (Fr.put (hf.mono fun d u hu => hrd d u hu) hd))
end
section
variable {P : Program} {ops : Array Oper} {hp : List HObj} {fr : List Dat} {d : Dat}
variable {dst : Option Tmp} {ty : TypeId} {ps : String} {af : Array Edge}
def hAll (I0 : Nat → Prop) (w0 : World) : HObj where
  blk := none
  ok := fun I w => ∀ (d : Dat) (u : Value), d.rd I0 w0 u → d.rd I w u
  weak := fun h q d u hd => d.weak (h d u hd) q
  bound := fun h d u hd => d.bound (h d u hd)
  move := fun h hg hP _ d u hd => d.grown (h d u hd) hg hP
theorem SW.callC {f : FuncId} {caps : List Value} {cl : Operand} {args : Array Operand} {ats : Array TypeId} {ds1 : List Dat} {hp1 : List HObj} {K : Dat → List HObj → Prop} {β : Type} {H : β → List HObj} {D : β → Dat} (hF : CallC P f (ds1 ++ caps.map dX) hp1 K) (he : Enters P f) (hc : OpD fr cl (dX (.func (.func f) #[] caps.toArray))) (ha : ArgsD fr args.toList ds1)
    (hK : ∀ d hp2, K d hp2 → ∃ x, d = D x ∧ hp2 = H x) :
    SW P ops (hp1 ++ hp) (fun x => H x ++ hp) D { dst := dst, op := .call { callee := .value cl, args := args, argTypes := ats }, type := ty, pos := ps, after := af, guard := none } fr := ⟨rfl, fun {P0 B w0 w a} hh ho KK QQ hkk => by
  have hev : a.eval cl = .func (.func f) #[] caps.toArray := hc.get (by simp [Op.operands, Call.operands]) ho
  have h4 := he (args.map a.eval ++ caps.toArray) w
  have hrun : (execOp a.eval { dst := dst, op := .call { callee := .value cl, args := args, argTypes := ats }, type := ty, pos := ps, after := af, guard := none }).run P w = .ok (.enter f (args.map a.eval ++ caps.toArray)) w := by
    unfold execOp
    simp only [resolve]
    simp [hev, Deferred.ofValue, invoke, h4]
  unfold Oper.wp
  rw [hrun]
  have hgb : (hAll (Imm P0 B (hp1 ++ hp)) w).blk = none := rfl
  have hG : Hp P0 B w0 (hp1 ++ hAll (Imm P0 B (hp1 ++ hp)) w :: hp) w := Hp.ghost hgb hh (fun d u hd => hd)
  have hvs : args.map a.eval ++ caps.toArray = (args.toList.map a.eval ++ caps).toArray := by apply Array.ext'; simp
  have hal : args.size = ds1.length := by simpa using ha.1
  have hl : (args.toList.map a.eval ++ caps).length = (ds1 ++ caps.map dX).length := by simp [hal]
  have hcalls := hF.out P0 B w0 (hAll (Imm P0 B (hp1 ++ hp)) w :: hp) (args.toList.map a.eval ++ caps) w hG hl fun i d hd => by
    by_cases hi : i < ds1.length
    · rw [List.getElem?_append_left hi] at hd
      have hi' : i < args.toList.length := by simpa [hal] using hi
      have h2 := (ha.2 i _ d (List.getElem?_eq_getElem hi') hd).get (by simp only [Op.operands, Call.operands]; simp) ho
      have hi2 : i < args.size := by simpa using hi'
      have : (args.toList.map a.eval ++ caps).getD i undef = a.eval args.toList[i] := by
        rw [List.getD_eq_getElem?_getD, List.getElem?_append_left (by simpa using hi2)]
        simp [hi2]
      rw [this]
      exact d.weak h2 fun k => (imm_ghost hgb hp1 k).2
    · rw [List.getElem?_append_right (by omega)] at hd
      rw [List.getD_eq_getElem?_getD, List.getElem?_append_right (by simp; omega)]
      have hlen : (args.toList.map a.eval).length = ds1.length := by simp [hal]
      rw [hlen]
      rw [List.getElem?_map] at hd
      cases hq : caps[i - ds1.length]? with
      | none => rw [hq] at hd; cases hd
      | some u => rw [hq] at hd; cases hd; rfl
  rw [hvs]
  exact hcalls.mono fun e w' ⟨v, d', hp2, hv, hk, hh', hd'⟩ => by
    subst hv
    obtain ⟨x, rfl, rfl⟩ := hK d' hp2 hk
    obtain ⟨hh2, hok2⟩ := hh'.unghost hgb
    exact hkk x v w' hh2 (fun d u hd => hok2 d u hd) ((D x).weak hd' fun k => (imm_ghost hgb (H x) k).1)⟩
end
namespace I
end I
end Go.Proofs.Ytpiidgcljlalmaa
namespace Go.Proofs.Ytpiidgcljlalmaa
open Go.RowKit
theorem wp_mono2 {P : Program} {o : Oper} {a : Act} {w : World} {K K' : Act → World → Prop} {Q Q' : Exit → Act → World → Prop} (h : ∀ a w, K a w → K' a w) (hq : ∀ e a w, e ≠ .normal → Q e a w → Q' e a w)
    (hh : o.wp P a w K Q) : o.wp P a w K' Q' := by
  have hl : LetsOut Q → LetsOut Q' := fun ⟨a, w, x⟩ => ⟨a, w, hq _ _ _ (by simp) x⟩
  unfold Oper.wp at *
  generalize (execOp a.eval o).run P w = r at *
  cases r with
  | ok n w' =>
    cases n <;> simp only [Oper.upon] at hh ⊢ <;>
      first
        | exact h _ _ hh
        | exact Calls.mono hh (fun e w'' he => by cases e <;> first | exact h _ _ he | exact hq _ _ _ (by simp) he | exact hl he)
        | exact Rows.mono hh (fun _ _ he => h _ _ he)
  | halt x w' => cases x <;> simp only [Oper.upon] at hh ⊢ <;> first | exact hh | exact hq _ _ _ (by simp) hh
structure WA (P : Program) (ops : Array Oper) (Q : Post) (g : Nat) (S : List Bool) (fr : List Dat) (hp : List HObj) : Prop where
  of ::
  out : ∀ (P0 : Nat → Prop) (B : Nat) (w0 w : World) (a : Act), Hp P0 B w0 hp w → Fr (Imm P0 B hp) w a fr → wpAny P .any ops (lift Q P0 B w0) g S.toArray a w
def ThenA (P : Program) (ops : Array Oper) (Q : Post) (g : Nat) (S : List Bool) : Post := fun e f p => match e with | .normal => WA P ops Q g S f p | e => Q e f p
section
variable {P : Program} {ops : Array Oper} {hp : List HObj} {fr : List Dat} {Q : Post} {g : Nat} {S : List Bool}
theorem WA.id (h : WA P ops Q g S fr hp) : WA P ops Q g S fr hp := h
theorem WA.nil (hr : Region.ready .any ops S.toArray = []) (h : Q .normal fr hp) : WA P ops Q 0 S fr hp := WA.of fun _ _ _ _ _ hh hf => ⟨hr, fr, hp, h, hh, hf⟩
theorem WA.step {i : Nat} {o : Oper} (ho : ops[i]? = some o) (h : WL P ops (ThenA P ops Q g (S.set i true)) [o] fr hp) {P0 : Nat → Prop} {B : Nat} {w0 w : World} {a : Act} (hh : Hp P0 B w0 hp w) (hf : Fr (Imm P0 B hp) w a fr) :
    wpOp P ops (lift Q P0 B w0) i (wpAny P .any ops (lift Q P0 B w0) g (S.toArray.setIfInBounds i true)) a w := by
  have h1 := h.on hh hf
  unfold wpList at h1
  unfold wpOp
  simp only [ho]
  have he : S.toArray.setIfInBounds i true = (S.set i true).toArray := by simp
  rw [he]
  have hK : ∀ a' w', wpList P ops (lift (ThenA P ops Q g (S.set i true)) P0 B w0) [] a' w' → wpAny P .any ops (lift Q P0 B w0) g (S.set i true).toArray a' w' := fun a' w' hn => by
    obtain ⟨f, p, q, r, s⟩ := (hn : lift (ThenA P ops Q g (S.set i true)) P0 B w0 .normal a' w')
    exact (q : WA P ops Q g (S.set i true) f p).out _ _ _ _ _ r s
  have hQ : ∀ e a' w', e ≠ .normal → lift (ThenA P ops Q g (S.set i true)) P0 B w0 e a' w' → lift Q P0 B w0 e a' w' := fun e a' w' hne ⟨f, p, q, r, s⟩ => by
    cases e with
    | normal => exact absurd rfl hne
    | _ => exact ⟨f, p, q, r, s⟩
  split
  · rename_i hw
    rw [if_pos hw] at h1
    rcases h1 with h1 | ⟨h1, a2, w2, h2⟩
    · exact .inl (wp_mono2 hK hQ h1)
    · exact .inr ⟨h1, a2, w2, hQ _ _ _ (by simp) h2⟩
  · rename_i hw
    rw [if_neg hw] at h1
    exact hK _ _ h1
theorem WA.one {l : List Oper} {i : Nat} {o : Oper} (hr : Region.ready .any l.toArray S.toArray = [i]) (ho : l[i]? = some o) (h : WL P l.toArray (ThenA P l.toArray Q g (S.set i true)) [o] fr hp) : WA P l.toArray Q (g + 1) S fr hp := WA.of fun P0 B w0 w a hh hf => by
  refine ⟨fun h0 => (by rw [hr] at h0; cases h0), fun j hj => ?_⟩
  rw [hr] at hj
  cases List.mem_singleton.1 hj
  exact WA.step (by simpa using ho) h hh hf
theorem WA.two {l : List Oper} {i j : Nat} {o o' : Oper} (hr : Region.ready .any l.toArray S.toArray = [i, j]) (ho : l[i]? = some o) (ho' : l[j]? = some o') (h : WL P l.toArray (ThenA P l.toArray Q g (S.set i true)) [o] fr hp) (h' : WL P l.toArray (ThenA P l.toArray Q g (S.set j true)) [o'] fr hp) : WA P l.toArray Q (g + 1) S fr hp := WA.of fun P0 B w0 w a hh hf => by
  refine ⟨fun h0 => (by rw [hr] at h0; cases h0), fun k hk => ?_⟩
  rw [hr] at hk
  rcases List.mem_cons.1 hk with rfl | hk
  · exact WA.step (by simpa using ho) h hh hf
  · cases List.mem_singleton.1 hk
    exact WA.step (by simpa using ho') h' hh hf
theorem ThenA.n (h : WA P ops Q g S fr hp) : ThenA P ops Q g S .normal fr hp := h
end
end Go.Proofs.Ytpiidgcljlalmaa
