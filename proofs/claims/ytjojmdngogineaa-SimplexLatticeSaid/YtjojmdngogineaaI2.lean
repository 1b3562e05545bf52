/-
  Calls that take objects of their caller's and hand objects back; calls of yield over symbolic frames; values that are known exactly.
-/
import Derived.Test.YtjojmdngogineaaISem
import Derived.RangeFuncSeq
namespace Go.Proofs.Ytjojmdngogineaa
open Go.RowKit
/-- a block that is no cells holds o -/
def hObj (b : Nat) (o : Obj) : HObj where
  blk := some b
  ok := fun _ w => w.heap[b]? = some o
  weak := fun h _ => h
  bound := fun h => h
  move := fun {P w w' row} h hg _ hne => by
    have hlt : b < w.heap.size := (Array.getElem?_eq_some_iff.1 h).1
    refine (hg.block b hlt ?_).trans h
    rcases hne with h | h
    · cases h
    · exact h
/-- v reads as d -/
def hKnow (v : Value) (d : Dat) : HObj where
  blk := none
  ok := fun I w => d.rd I w v
  weak := fun h q => d.weak h q
  bound := fun h => d.bound h
  move := fun h hg hP _ => d.grown h hg hP
/-- a round: J says what the loop's maker holds, one more has come -/
structure YStep (P : Program) (l : Nat) {α : Type} (D : α → Dat) (J : List α → List HObj → Prop) (N : Nat) : Prop where
  out : ∀ (P0 : Nat → Prop) (B : Nat) (w0 : World) (hp : List HObj) (pre : List α) (js : List HObj) (x : α) (u : Value) (W : World), pre.length < N → J pre js → Hp P0 B w0 (js ++ hp) W → (D x).rd (Imm P0 B (js ++ hp)) W u →
    YieldAt Fence.wide 0 P l #[u] W fun e W' => e = .returned (.bool true) ∧ ∃ js', J (pre ++ [x]) js' ∧ Hp P0 B w0 (js' ++ hp) W'
/-- what a call takes and hands back -/
structure CallC (P : Program) (f : FuncId) (ds : List Dat) (hp1 : List HObj) (K : Dat → List HObj → Prop) : Prop where
  out : ∀ (P0 : Nat → Prop) (B : Nat) (w0 : World) (hp : List HObj) (vs : List Value) (W : World), Hp P0 B w0 (hp1 ++ hp) W → vs.length = ds.length →
    (∀ (i : Nat) (d : Dat), ds[i]? = some d → d.rd (Imm P0 B (hp1 ++ hp)) W (vs.getD i undef)) →
    Calls P f vs.toArray W fun e W' => ∃ v d hp2, e = .returned v ∧ K d hp2 ∧ Hp P0 B w0 (hp2 ++ hp) W' ∧ d.rd (Imm P0 B (hp2 ++ hp)) W' v
/-- an iterator's value: it hands xs, one after another, to whoever ranges over it -/
structure SeqC (P : Program) (gf : FuncId) (lb : List Value) (hk : List HObj) {α : Type} (D : α → Dat) (xs : List α) : Prop where
  out : ∀ (l : Nat) (J : List α → List HObj → Prop), YStep P l D J xs.length → ∀ js, J [] js → CallC P gf (dX (.func (.yield l) #[] #[]) :: lb.map dX) (js ++ hk) (fun _ hp2 => ∃ js', J xs js' ∧ hp2 = js' ++ hk)

section
variable {P : Program} {f : FuncId} {fn : Func} {c : Code} {t : Tmp} {ds : List Dat} {hp1 : List HObj} {K : Dat → List HObj → Prop}
def finC (t : Nat) (K : Dat → List HObj → Prop) (hp : List HObj) : Post := fun e f q => (match e with | .normal | .ret => True | _ => False) ∧ ∃ d hp2, f[t]? = some d ∧ q = hp2 ++ hp ∧ K d hp2
def finC0 (K : Dat → List HObj → Prop) (hp : List HObj) : Post := fun e _ q => (match e with | .normal | .ret => True | _ => False) ∧ ∃ hp2, q = hp2 ++ hp ∧ K dA hp2
theorem CallC.intro (hf : P.funcs[f]? = some fn) (hb : fn.body = some c) (hr : fn.results = #[.tmp t])
    (h : ∀ hp, WC P (finC t K hp) c (ds ++ List.replicate (fn.ntmps - ds.length) (dX undef)) (hp1 ++ hp)) : CallC P f ds hp1 K := ⟨fun P0 B w0 hp vs W hh hl hv => by
  refine calls_of_wp hf hb ?_
  have hf0 := fr_enter (m := fn.ntmps - ds.length) hl hv
  have hsz : vs.toArray.size = ds.length := by simp [hl]
  rw [hsz]
  refine Code.wp_mono (fun e a' w' ⟨f', p', q, hh', hf'⟩ => ?_) ((h hp).on hh hf0)
  obtain ⟨hx, d', hp2, hd', rfl, hk'⟩ := q
  have hv := hf'.rd t d' hd'
  cases e with
  | normal => exact ⟨hf'.defers, _, results_tmp hr _ _ _, _, d', hp2, rfl, hk', hh', hv⟩
  | ret => exact ⟨hf'.defers, _, results_tmp hr _ _ _, _, d', hp2, rfl, hk', hh', hv⟩
  | _ => exact hx.elim⟩
theorem CallC.intro0 (hf : P.funcs[f]? = some fn) (hb : fn.body = some c) (hr : fn.results = #[])
    (h : ∀ hp, WC P (finC0 K hp) c (ds ++ List.replicate (fn.ntmps - ds.length) (dX undef)) (hp1 ++ hp)) : CallC P f ds hp1 K := ⟨fun P0 B w0 hp vs W hh hl hv => by
  refine calls_of_wp hf hb ?_
  have hf0 := fr_enter (m := fn.ntmps - ds.length) hl hv
  have hsz : vs.toArray.size = ds.length := by simp [hl]
  rw [hsz]
  refine Code.wp_mono (fun e a' w' ⟨f', p', q, hh', hf'⟩ => ?_) ((h hp).on hh hf0)
  obtain ⟨hx, hp2, rfl, hk'⟩ := q
  cases e with
  | normal => exact ⟨hf'.defers, _, results_none hr _ _ _, _, dA, hp2, rfl, hk', hh', trivial⟩
  | ret => exact ⟨hf'.defers, _, results_none hr _ _ _, _, dA, hp2, rfl, hk', hh', trivial⟩
  | _ => exact hx.elim⟩
end
section
variable {P : Program} {ops : Array Oper} {hp : List HObj} {fr : List Dat} {Q : Post} {rest : List Oper} {dst : Option Tmp} {ty : TypeId} {ps : String} {af : Array Edge} {d : Dat} {c : Code}
/-- a slot's value gets a name, what it reads as is kept beside the frame -/
theorem WC.pin (t : Nat) (ht : fr[t]? = some d) (h : ∀ v, WC P Q c (fr.set t (dX v)) (hKnow v d :: hp)) : WC P Q c fr hp := WC.of fun P0 B w0 w a hh hf => by
  have hg : (hKnow (a.tmps.getD t undef) d).blk = none := rfl
  have hd := hf.rd t d ht
  refine (h (a.tmps.getD t undef)).on (Hp.ghost (l := []) hg hh hd) ⟨hf.defers, by rw [hf.size, List.length_set], fun t' d' hd' => ?_⟩
  by_cases htt : t = t'
  · subst htt
    rw [List.getElem?_set] at hd'
    simp only [if_true] at hd'
    split at hd'
    · cases hd'; rfl
    · cases hd'
  · rw [List.getElem?_set_ne htt] at hd'
    exact d'.weak (hf.rd t' d' hd') fun k => (imm_ghost hg [] k).2
/-- what is known of a value may be read in its slot -/
theorem WC.use {v : Value} (t : Nat) (ht : fr[t]? = some (dX v)) (hm : hKnow v d ∈ hp) (h : WC P Q c (fr.set t d) hp) : WC P Q c fr hp := WC.of fun P0 B w0 w a hh hf => by
  refine h.on hh ⟨hf.defers, by rw [hf.size, List.length_set], fun t' d' hd' => ?_⟩
  by_cases htt : t = t'
  · subst htt
    rw [List.getElem?_set] at hd'
    simp only [if_true] at hd'
    split at hd'
    · cases hd'
      have h1 : a.tmps.getD t undef = v := hf.rd t _ ht
      rw [h1]
      exact hh.ok _ hm
    · cases hd'
  · rw [List.getElem?_set_ne htt] at hd'
    exact hf.rd t' d' hd'
theorem WC.perm' {hp' : List HObj} (hp1 : hp.Perm hp') (h : WC P Q c fr hp') : WC P Q c fr hp := WC.of fun _ _ _ _ _ hh hf =>
  let ⟨h1, h2⟩ := hh.perm hp1
  h.on h1 (hf.mono fun d _ hd => d.weak hd fun k hk => (h2 k).1 hk)
/-- exact operands -/
def ArgsX (fr : List Dat) (xs : List Operand) (vs : List Value) : Prop := xs.length = vs.length ∧ ∀ (i : Nat) (x : Operand) (v : Value), xs[i]? = some x → vs[i]? = some v → OpD fr x (dX v)
theorem ArgsX.nil : ArgsX fr [] [] := ⟨rfl, fun i x v h => by simp at h⟩
theorem ArgsX.cons {x : Operand} {xs : List Operand} {v : Value} {vs : List Value} (h : OpD fr x (dX v)) (k : ArgsX fr xs vs) : ArgsX fr (x :: xs) (v :: vs) :=
  ⟨by simp [k.1], fun i y u hy hu => by
    cases i with
    | zero => simp at hy hu; subst hy; subst hu; exact h
    | succ i => exact k.2 i y u (by simpa using hy) (by simpa using hu)⟩
/-- a closure, exactly -/
theorem SY.makeX {f : FuncId} {caps : Array Operand} {vs : List Value} {g : Option (Nat × Bool)} (ha : ArgsX fr caps.toList vs) :
    SY P ops hp { dst := dst, op := .makeFunc (.func f) #[] caps, type := ty, pos := ps, after := af, guard := g } fr (dX (.func (.func f) #[] vs.toArray)) := SY.val fun {I w a} ho => by
  refine ⟨.func (.func f) #[] (caps.map a.eval), by unfold execOp; simp [Instr.makeFunc], ?_⟩
  show Value.func _ _ _ = Value.func _ _ _
  congr 1
  apply Array.ext'
  rw [Array.toList_map]
  show caps.toList.map a.eval = vs
  apply List.ext_getElem (by simpa using ha.1)
  intro i h1 h2
  have hi : i < caps.toList.length := by simpa using h1
  have h3 : a.eval caps.toList[i] = vs[i] := (ha.2 i _ _ (List.getElem?_eq_getElem hi) (List.getElem?_eq_getElem h2)).get (by simp only [Op.operands]; simp) ho
  simpa using h3
/-- a box that is written later -/
theorem run_boxC {x : Operand} {T : TypeId} {w : World} {a : Act} {g : Option (Nat × Bool)} {cs : List Value} (h : (a.eval x).cells = cs.toArray) :
    (execOp a.eval { dst := dst, op := .box T x, type := ty, pos := ps, after := af, guard := g }).run P w = .ok (.value (.pointer (some ⟨w.heap.size, 0, none⟩))) (w.alloc (.cells cs.toArray T)) := by
  unfold execOp
  simp [Instr.box, newVar, newRow, h]
theorem WL.boxC {x : Operand} {T : TypeId} {n : Nat} {agg : Bool} (hx : OpD fr x d) (hs : d.Shape n agg) (h : ∀ b, WL P ops Q rest (setD fr dst (dX (.pointer (some ⟨b, 0, none⟩)))) (hCell b T n agg d :: hp)) :
    WL P ops Q ({ dst := dst, op := .box T x, type := ty, pos := ps, after := af, guard := none } :: rest) fr hp := by
  refine WL.of fun P0 B w0 w a hh hf => ?_
  have h1 := hx.ev hf
  obtain ⟨cs, k1, k0, k2, k3, k4⟩ := hs _ _ _ h1
  refine wpList_value rfl (run_boxC k3) ?_
  have hx := Ext.of_alloc w (.cells cs.toArray T)
  have hb : ∀ k, (hCell w.heap.size T n agg d).blk = some k → w.heap.size ≤ k ∧ k < (w.alloc (.cells cs.toArray T)).heap.size := fun k hk => by
    cases hk
    exact ⟨Nat.le_refl _, by simp⟩
  refine (h w.heap.size).on (hh.push hx hb ⟨cs, a.eval x, alloc_get w _, k1, k0, k2, k4, ?_⟩) ?_
  · exact Dat.ext (d.bound h1) hx
  exact Fr.put (hf.mono fun d _ hd => Hp.pushed hx (fun k hk => (hb k hk).1) hd) rfl
/-- a call, by its contract -/
theorem call_core {f : FuncId} {caps : List Value} {cl : Operand} {args : Array Operand} {ats : Array TypeId} {ds1 : List Dat} {hp1 : List HObj} {K : Dat → List HObj → Prop} {P0 : Nat → Prop} {B : Nat} {w0 w : World} {a : Act} (hF : CallC P f (ds1 ++ caps.map dX) hp1 K) (he : Enters P f) (hc : OpD fr cl (dX (.func (.func f) #[] caps.toArray))) (ha : ArgsD fr args.toList ds1)
    (hh : Hp P0 B w0 (hp1 ++ hp) w) (hfr : Fr (Imm P0 B (hp1 ++ hp)) w a fr) {KK : Act → World → Prop} {QQ : Exit → Act → World → Prop}
    (hKK : ∀ d' hp2 a' w', K d' hp2 → Hp P0 B w0 (hp2 ++ hp) w' → Fr (Imm P0 B (hp2 ++ hp)) w' a' (setD fr dst d') → KK a' w') :
    Oper.wp P { dst := dst, op := .call { callee := .value cl, args := args, argTypes := ats }, type := ty, pos := ps, after := af, guard := none } a w KK QQ := by
  have hev : a.eval cl = .func (.func f) #[] caps.toArray := hc.ev hfr
  have h4 := he (args.map a.eval ++ caps.toArray) w
  have hrun : (execOp a.eval { dst := dst, op := .call { callee := .value cl, args := args, argTypes := ats }, type := ty, pos := ps, after := af, guard := none }).run P w = .ok (.enter f (args.map a.eval ++ caps.toArray)) w := by
    unfold execOp
    simp only [resolve]
    simp [hev, Deferred.ofValue, invoke, h4]
  unfold Oper.wp
  rw [hrun]
  have hgb : (hFr a fr).blk = none := rfl
  have hG : Hp P0 B w0 (hp1 ++ hFr a fr :: hp) w := Hp.ghost hgb hh hfr.rd
  have hvs : args.map a.eval ++ caps.toArray = (args.toList.map a.eval ++ caps).toArray := by apply Array.ext'; simp
  have hal : args.size = ds1.length := by simpa using ha.1
  have hl : (args.toList.map a.eval ++ caps).length = (ds1 ++ caps.map dX).length := by simp [hal]
  have hcalls := hF.out P0 B w0 (hFr a fr :: hp) (args.toList.map a.eval ++ caps) w hG hl fun i d hd => by
    by_cases hi : i < ds1.length
    · rw [List.getElem?_append_left hi] at hd
      have hi' : i < args.toList.length := by simpa [hal] using hi
      have h2 := (ha.2 i _ d (List.getElem?_eq_getElem hi') hd).ev hfr
      have hi2 : i < args.size := by simpa using hi'
      have : (args.toList.map a.eval ++ caps).getD i undef = a.eval args.toList[i] := by
        rw [List.getD_eq_getElem?_getD, List.getElem?_append_left (by simpa using hi2)]
        simp [hi2]
      rw [this]
      exact d.weak h2 fun k => (imm_ghost hgb hp1 k).2
    · rw [List.getElem?_append_right (by omega)] at hd
      rw [List.getD_eq_getElem?_getD, List.getElem?_append_right (by simp; omega)]
      have hlen : (args.toList.map a.eval).length = ds1.length := by simp [hal]
      rw [hlen]
      rw [List.getElem?_map] at hd
      cases hq : caps[i - ds1.length]? with
      | none => rw [hq] at hd; cases hd
      | some u => rw [hq] at hd; cases hd; rfl
  rw [hvs]
  exact hcalls.mono fun e w' ⟨v, d', hp2, hv, hk, hh', hd'⟩ => by
    subst hv
    obtain ⟨hh2, hok2⟩ := hh'.unghost hgb
    have hfr2 : Fr (Imm P0 B (hp2 ++ hp)) w' a fr := ⟨hfr.defers, hfr.size, hok2⟩
    exact hKK _ _ _ _ hk hh2 (Fr.put (x := dst) hfr2 (d'.weak hd' fun k => (imm_ghost hgb hp2 k).1))
theorem WL.callC {f : FuncId} {caps : List Value} {cl : Operand} {args : Array Operand} {ats : Array TypeId} {ds1 : List Dat} {hp1 : List HObj} {K : Dat → List HObj → Prop} (hF : CallC P f (ds1 ++ caps.map dX) hp1 K) (he : Enters P f) (hc : OpD fr cl (dX (.func (.func f) #[] caps.toArray))) (ha : ArgsD fr args.toList ds1)
    (hK : ∀ d' hp2, K d' hp2 → WL P ops Q rest (setD fr dst d') (hp2 ++ hp)) :
    WL P ops Q ({ dst := dst, op := .call { callee := .value cl, args := args, argTypes := ats }, type := ty, pos := ps, after := af, guard := none } :: rest) fr (hp1 ++ hp) :=
  WL.of fun _ _ _ _ _ hh hfr => wpList_plain rfl fun _ hKK => call_core hF he hc ha hh hfr fun d' hp2 _ _ hk hh2 hf2 => hKK _ _ ((hK d' hp2 hk).on hh2 hf2)
end
namespace I
section
variable {P : Program} {ops : Array Oper} {hp : List HObj} {fr : List Dat} {Q : Post} {rest : List Oper} {dst : Option Tmp} {ty : TypeId} {ps : String} {af : Array Edge} {d : Dat} {c : Code}
theorem WL.callC {f : FuncId} {caps : List Value} {cl : Operand} {args : Array Operand} {ats : Array TypeId} {ds1 : List Dat} {hp1 : List HObj} {K : Dat → List HObj → Prop} (hF : CallC P f (ds1 ++ caps.map dX) hp1 K) (he : Enters P f) (hc : OpD fr cl (dX (.func (.func f) #[] caps.toArray))) (ha : ArgsD fr args.toList ds1)
    (hK : ∀ d' hp2, K d' hp2 → WL P ops Q rest (setD fr dst d') (hp2 ++ hp)) :
    WL P ops Q ({ dst := dst, op := .call { callee := .value cl, args := args, argTypes := ats }, type := ty, pos := ps, after := af, guard := none } :: rest) fr (hp1 ++ hp) :=
  WL.of fun _ _ _ _ _ hh hfr => wpListIn_plainW rfl fun _ hKK => call_core hF he hc ha hh hfr fun d' hp2 _ _ hk hh2 hf2 => hKK _ _ ((hK d' hp2 hk).on hh2 hf2)
theorem WL.yield {l : Nat} {α : Type} {D : α → Dat} {J : List α → List HObj → Prop} {t : Tmp} {x : Operand} {ats : Array TypeId} {pre : List α} {js : List HObj} {y : α} {N : Nat} (hy : YStep P l D J N) (hn : pre.length < N) (hj : J pre js) (ht : OpD fr (.tmp t) (dX (.func (.yield l) #[] #[]))) (hx : OpD fr x (D y))
    (h : ∀ js', J (pre ++ [y]) js' → WL P ops Q rest (setD fr dst (dB true)) (js' ++ hp)) :
    WL P ops Q ({ dst := dst, op := .call { callee := .value (.tmp t), args := #[x], argTypes := ats }, type := ty, pos := ps, after := af, guard := none } :: rest) fr (js ++ hp) := by
  refine WL.of fun P0 B w0 w a hh hf => ?_
  have hgb : (hFr a fr).blk = none := rfl
  have hG : Hp P0 B w0 (js ++ hFr a fr :: hp) w := Hp.ghost hgb hh hf.rd
  have hev : a.eval (.tmp t) = .func (.yield l) #[] #[] := ht.ev hf
  have hyy := hy.out P0 B w0 (hFr a fr :: hp) pre js y (a.eval x) w hn hj hG ((D y).weak (hx.ev hf) fun k => (imm_ghost hgb _ k).2)
  obtain ⟨fn, tmps, assign, body, hrun, hR⟩ := hyy
  refine wpListIn_plain rfl fun K hK => ?_
  refine ⟨fun _ _ => trivial, ?_⟩
  have hr : (execOp a.eval { dst := dst, op := .call { callee := .value (.tmp t), args := #[x], argTypes := ats }, type := ty, pos := ps, after := af, guard := none }).run P w = .ok (.round l fn tmps assign body) w := by
    unfold execOp
    simp only [resolve]
    simp [hev, Deferred.ofValue, invoke, hrun]
  rw [show Fence.wide.round = none from rfl, Oper.semAt_none, hr]
  refine ⟨fun h => by simp [Fence.wide] at h, hR.mono fun e W' ⟨he, js', hj', hh'⟩ => ?_⟩
  subst he
  obtain ⟨hh2, hok2⟩ := hh'.unghost hgb
  exact hK _ _ ((h js' hj').on hh2 (Fr.put (⟨hf.defers, hf.size, hok2⟩ : Fr (Imm P0 B (js' ++ hp)) W' a fr) (d := dB true) rfl))
end
end I
end Go.Proofs.Ytjojmdngogineaa
