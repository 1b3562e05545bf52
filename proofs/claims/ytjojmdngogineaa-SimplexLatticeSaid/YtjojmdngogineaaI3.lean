/-
  A range over a function whose iterator keeps objects of its own: a round's body; the loop.
-/
import Derived.Test.YtjojmdngogineaaI2
import Derived.RangeFuncLeaves
namespace Go.Proofs.Ytjojmdngogineaa
open Go.RowKit
theorem oper_round {P : Program} {o : Oper} {a : Act} {w : World} {K : Act → World → Prop} {Q : Exit → Act → World → Prop} {l : Nat} (hd : ∀ c, o.op ≠ .defer c) (h : o.wpIn Fence.wide 0 P a w K Q) : o.wpIn (Fence.wide.inRound l) 0 P a w K Q := by
  refine ⟨fun _ _ => trivial, ?_⟩
  have h2 := h.2
  rw [show Fence.wide.round = none from rfl, Oper.semAt_none] at h2
  rw [show (Fence.wide.inRound l).round = some l from rfl, Oper.semAt_some l _ _ hd]
  exact h2
theorem wpListIn_round {P : Program} {ops : Array Oper} {Q : Exit → Act → World → Prop} {l : Nat} : ∀ {rest : List Oper} {a : Act} {w : World}, (∀ o ∈ rest, ∀ c, o.op ≠ .defer c) → wpListIn Fence.wide 0 P ops Q rest a w → wpListIn (Fence.wide.inRound l) 0 P ops Q rest a w
  | [], _, _, _, h => h
  | o :: rest, a, w, hd, h => by
    have hr : ∀ a w, wpListIn Fence.wide 0 P ops Q rest a w → wpListIn (Fence.wide.inRound l) 0 P ops Q rest a w := fun a w => wpListIn_round fun o ho => hd o (List.mem_cons_of_mem _ ho)
    unfold wpListIn at h ⊢
    split at h
    · rename_i hw
      rw [if_pos hw]
      exact oper_round (hd o (by simp)) (Oper.wpIn_mono hr h)
    · rename_i hw
      rw [if_neg hw]
      exact ⟨fun _ _ => trivial, hr _ _ h.2⟩
/-- a round's body -/
structure WR (P : Program) (l : Nat) (Q : Post) (c : Code) (fr : List Dat) (hp : List HObj) : Prop where
  of ::
  out : ∀ (P0 : Nat → Prop) (B : Nat) (w0 w : World) (a : Act), Hp P0 B w0 hp w → Fr (Imm P0 B hp) w a fr → c.wpIn (Fence.wide.inRound l) 0 P (lift Q P0 B w0) a w
section
variable {P : Program} {l : Nat} {Q : Post} {fr : List Dat} {hp : List HObj}
theorem WR.region {id : Nat} {ops : List Oper} (hd : (ops.all fun o => match o.op with | .defer _ => false | _ => true) = true) (h : I.WL P ops.toArray Q ops fr hp) : WR P l Q (.region id ops.toArray false) fr hp := WR.of fun _ _ _ _ _ hh hf =>
  wpIn_region_lit (wpListIn_round (fun o ho c hc => by have := List.all_eq_true.1 hd o ho; rw [hc] at this; cases this) (h.on hh hf))
theorem WR.seq {x y : Code} (h : WR P l (ThenD (WR P l Q y) Q) x fr hp) : WR P l Q (.seq x y) fr hp := WR.of fun P0 B w0 w a hh hf => wpIn_seq (wpIn_mono (h.out _ _ _ _ _ hh hf) (fun e a' w' ⟨f, p, q, r, s⟩ => by
  cases e with
  | normal => exact (q : WR P l Q y f p).out _ _ _ _ _ r s
  | _ => exact ⟨f, p, q, r, s⟩))
theorem WR.skip (h : Q .normal fr hp) : WR P l Q .skip fr hp := WR.of fun _ _ _ _ _ hh hf => wpIn_skip ⟨fr, hp, h, hh, hf⟩
theorem WR.exit {id : Nat} (h : Q (.exit id) fr hp) : WR P l Q (.exit id) fr hp := WR.of fun _ _ _ _ _ hh hf => wpIn_exit ⟨fr, hp, h, hh, hf⟩
theorem WR.block {id : Nat} {c : Code} (h : WR P l (InBlockD id Q) c fr hp) : WR P l Q (.block id c) fr hp := WR.of fun P0 B w0 w a hh hf => wpIn_block (wpIn_mono (h.out _ _ _ _ _ hh hf) (fun e a' w' ⟨f, p, q, r, s⟩ => by
  cases e with
  | exit id' =>
    simp only [Exit.inBlock]
    simp only [InBlockD] at q
    split
    · rename_i hi; rw [if_pos hi] at q; exact ⟨f, p, q, r, s⟩
    · rename_i hi; rw [if_neg hi] at q; exact ⟨f, p, q, r, s⟩
  | _ => exact ⟨f, p, q, r, s⟩))
end
/-- slots whose values are known exactly, the others are whatever -/
inductive FixF : List Dat → List Dat → Prop
  | nil : FixF [] []
  | x {v : Value} {f f' : List Dat} : FixF f f' → FixF (dX v :: f) (dX v :: f')
  | a {d : Dat} {f f' : List Dat} : FixF f f' → FixF (d :: f) (dA :: f')
theorem FixF.out {f f' : List Dat} (h : FixF f f') : f.length = f'.length ∧ ∀ (t : Nat) (d : Dat), f'[t]? = some d → (∃ v, f[t]? = some (dX v) ∧ d = dX v) ∨ d = dA := by
  induction h with
  | nil => exact ⟨rfl, fun t d h => by simp at h⟩
  | x _ ih =>
    refine ⟨by simp [ih.1], fun t d h => ?_⟩
    cases t with
    | zero => simp at h; subst h; exact .inl ⟨_, rfl, rfl⟩
    | succ t => simpa using ih.2 t d (by simpa using h)
  | a _ ih =>
    refine ⟨by simp [ih.1], fun t d h => ?_⟩
    cases t with
    | zero => simp at h; subst h; exact .inr rfl
    | succ t => simpa using ih.2 t d (by simpa using h)
theorem FixF.fr {f f' : List Dat} (h : FixF f f') {I I' : Nat → Prop} {w w' : World} {a : Act} (hf : Fr I w a f) : Fr I' w' { tmps := a.tmps, defers := [] } f' :=
  ⟨rfl, by rw [← h.out.1]; exact hf.size, fun t d hd => by
    rcases h.out.2 t d hd with ⟨v, h1, rfl⟩ | rfl
    · exact hf.rd t _ h1
    · trivial⟩
theorem grown_putObj (w : World) (l : Nat) (o : Obj) : w.grownBy (w.putObj l o) (some l) := ⟨rfl, rfl, rfl, by simp, fun k _ hk => World.putObj_heap_other (fun e => hk (by rw [e]))⟩
/-- an object of another kind is turned -/
theorem Hp.putObj {P0 : Nat → Prop} {B : Nat} {w0 w : World} {l : Nat} {o o' : Obj} {hp : List HObj} (h : Hp P0 B w0 (hObj l o :: hp) w) : Hp P0 B w0 (hObj l o' :: hp) (w.putObj l o') := by
  have hl := h.ok (hObj l o) (by simp)
  exact h.write (o' := hObj l o') (grown_putObj w l o') (.inl rfl) (World.putObj_heap_same (Array.getElem?_eq_some_iff.1 hl).1)
theorem Hp.putObj_rd {P0 : Nat → Prop} {B : Nat} {w : World} {l : Nat} {o o' : Obj} {hp : List HObj} {d : Dat} {v : Value} (hd : d.rd (Imm P0 B (hObj l o :: hp)) w v) : d.rd (Imm P0 B (hObj l o' :: hp)) (w.putObj l o') v :=
  Hp.written (o := hObj l o) (o' := hObj l o') (grown_putObj w l o') (.inl rfl) hd
theorem perm_mid2 {x y : HObj} {hs hp : List HObj} : (x :: y :: (hs ++ hp)).Perm (hs ++ x :: y :: hp) :=
  ((List.perm_middle (l₁ := hs) (l₂ := y :: hp) (a := x)).trans (List.Perm.cons x List.perm_middle)).symm
/-- the loop -/
theorem wp_rangeC {P : Program} {g : Operand} {p : Tmp} {assign body : Code} {Q : Exit → Act → World → Prop} {P0 : Nat → Prop} {B : Nat} {w0 w : World} {a : Act} {fr : List Dat} {gf : FuncId} {lb : List Value} {hk hp hs0 : List HObj} {α : Type} {D : α → Dat} {xs : List α} (H : List α → List HObj → Prop) (F0 : List Dat) (F1 : α → List Dat)
    (hh : Hp P0 B w0 (hs0 ++ (hk ++ hp)) w) (hf : Fr (Imm P0 B (hs0 ++ (hk ++ hp))) w a fr) (hg : OpD fr g (dX (.func (.func gf) #[] lb.toArray))) (he : Enters P gf) (hS : SeqC P gf lb hk D xs) (h0 : H [] hs0) (hF : FixF fr F0)
    (hassign : ∀ (l : Nat) (x : α) (q : List HObj), WR P l (fun e f q' => e = .normal ∧ q' = q ∧ f = F1 x) assign (F0.set p (D x)) q)
    (hbody : ∀ (l : Nat) (pre : List α) (x : α) (hs q : List HObj), pre.length < xs.length → H pre hs → WR P l (fun e _ q' => e = .normal ∧ ∃ hs', H (pre ++ [x]) hs' ∧ q' = hs' ++ q) body (F1 x) (hs ++ q))
    (hpost : ∀ (k : Nat) (hs : List HObj) (w' : World), H xs hs → Hp P0 B w0 (hObj k (.deferred (some [])) :: (hs ++ (hk ++ hp))) w' → (∀ (t : Nat) (d : Dat), fr[t]? = some d → d.rd (Imm P0 B (hObj k (.deferred (some [])) :: (hs ++ (hk ++ hp)))) w' (a.tmps.getD t undef)) →
      Q .normal { a with defers := { target := .collected k, args := #[] } :: a.defers } w') : (Code.rangeFunc g #[p] assign body).wp P Q a w := by
  refine (wpIn_wide (n := 0)).1 (wpIn_rangeFunc ?_)
  intro fn hfn
  rw [show Fence.wide.round = none from rfl]
  obtain ⟨rec, hrec⟩ : ∃ rec : LoopState → Option Code → Loop, rec = fun st pe => { state := st, pending := pe, fn, tmps := a.tmps, params := #[p], assign, body, defers := w.heap.size } := ⟨_, rfl⟩
  obtain ⟨W1, hW1⟩ : ∃ W1, (w.alloc (.deferred (some []))).alloc (.loop (rec .ready none)) = W1 := ⟨_, rfl⟩
  have hgb : (hFr a fr).blk = none := rfl
  have hG : Hp P0 B w0 (hs0 ++ (hk ++ (hFr a fr :: hp))) w := by
    have := Hp.ghost (l := hs0 ++ hk) (hp := hp) hgb (by rw [List.append_assoc]; exact hh) (by rw [List.append_assoc]; exact hf.rd)
    rw [List.append_assoc] at this
    exact this
  have hA : Hp P0 B w0 (hObj w.heap.size (.deferred (some [])) :: (hs0 ++ (hk ++ (hFr a fr :: hp)))) (w.alloc (.deferred (some []))) :=
    hG.push (Ext.of_alloc _ _) (fun k hk => by cases hk; simp) (World.alloc_heap_new w _)
  have hB : Hp P0 B w0 (hObj (w.heap.size + 1) (.loop (rec .ready none)) :: hObj w.heap.size (.deferred (some [])) :: (hs0 ++ (hk ++ (hFr a fr :: hp)))) W1 := by
    rw [← hW1]
    refine hA.push (Ext.of_alloc _ _) (fun k hk => by cases hk; simp) ?_
    have := World.alloc_heap_new (w.alloc (.deferred (some []))) (.loop (rec .ready none))
    rwa [World.size_alloc] at this
  have hJ0 : (∃ hs, H [] hs ∧ (hObj (w.heap.size + 1) (.loop (rec .ready none)) :: hObj w.heap.size (.deferred (some [])) :: hs0) = hObj (w.heap.size + 1) (.loop (rec .ready none)) :: hObj w.heap.size (.deferred (some [])) :: hs) := ⟨hs0, h0, rfl⟩
  have hY : YStep P (w.heap.size + 1) D (fun pre js => ∃ hs, H pre hs ∧ js = hObj (w.heap.size + 1) (.loop (rec .ready none)) :: hObj w.heap.size (.deferred (some [])) :: hs) xs.length := ⟨fun P0' B' w0' hpX pre js x u W hlt ⟨hs, hH, hjs⟩ hhW hu => by
    subst hjs
    have hl : W.heap[w.heap.size + 1]? = some (.loop (rec .ready none)) := hhW.ok (hObj (w.heap.size + 1) (.loop (rec .ready none))) (by simp)
    have hy := run_yield (P := P) (args := #[u]) hl (by rw [hrec]; simp)
    refine ⟨_, _, _, _, hy, roundIn_of_wpIn trivial ?_⟩
    have ha : (rec .ready none).assign = assign := by rw [hrec]
    have hbd : (rec .ready none).body = body := by rw [hrec]
    have ht : (rec .ready none).params = #[p] := by rw [hrec]
    have htm : (rec .ready none).tmps = a.tmps := by rw [hrec]
    rw [ha, hbd, ht, htm]
    have hfrR : Fr (Imm P0' B' (hObj (w.heap.size + 1) (.loop (rec .ready none)) :: hObj w.heap.size (.deferred (some [])) :: hs ++ hpX)) W { tmps := a.tmps.setIfInBounds p u, defers := [] } (F0.set p (D x)) :=
      Fr.put (x := some p) (hF.fr hf) hu
    refine wpIn_mono (Q := lift (fun e f q' => e = .normal ∧ q' = hObj (w.heap.size + 1) (.loop (rec .ready none)) :: hObj w.heap.size (.deferred (some [])) :: hs ++ hpX ∧ f = F1 x) P0' B' w0') ?_ ?_
    · exact (hassign (w.heap.size + 1) x _).out P0' B' w0' W _ hhW (by simpa using hfrR)
    rintro e a1 w1 ⟨f1, q1, ⟨rfl, rfl, rfl⟩, hh1, hf1⟩
    have hl1 : w1.heap[w.heap.size + 1]? = some (.loop (rec .ready none)) := hh1.ok (hObj (w.heap.size + 1) (.loop (rec .ready none))) (by simp)
    refine ⟨_, run_beginRound hl1 (by rw [hrec]), ?_⟩
    have hbz : ({ rec .ready none with state := .busy } : Loop) = rec .busy none := by rw [hrec]
    rw [hbz]
    have hh2 : Hp P0' B' w0' (hObj (w.heap.size + 1) (.loop (rec .busy none)) :: (hObj w.heap.size (.deferred (some [])) :: (hs ++ hpX))) (w1.putObj (w.heap.size + 1) (.loop (rec .busy none))) := Hp.putObj (o := .loop (rec .ready none)) hh1
    have hf2 : Fr (Imm P0' B' (hObj (w.heap.size + 1) (.loop (rec .busy none)) :: (hObj w.heap.size (.deferred (some [])) :: (hs ++ hpX)))) (w1.putObj (w.heap.size + 1) (.loop (rec .busy none))) a1 (F1 x) := hf1.mono fun d v hd => Hp.putObj_rd (o := .loop (rec .ready none)) hd
    obtain ⟨hh3, hI3⟩ := hh2.perm perm_mid2
    refine wpIn_mono ((hbody (w.heap.size + 1) pre x hs _ hlt hH).out P0' B' w0' _ _ hh3 (hf2.mono fun d v hd => d.weak hd fun k hk => (hI3 k).1 hk)) ?_
    rintro e a3 w3 ⟨f3, q3, ⟨rfl, hs', hH', rfl⟩, hh4, hf4⟩
    obtain ⟨hh5, _⟩ := hh4.perm perm_mid2.symm
    have hl3 : w3.heap[w.heap.size + 1]? = some (.loop (rec .busy none)) := hh5.ok (hObj (w.heap.size + 1) (.loop (rec .busy none))) (by simp)
    have hrz : ({ rec .busy none with state := if (none : Option Code).isNone then .ready else .done, pending := none } : Loop) = rec .ready none := by rw [hrec]; rfl
    have hend := run_endRound (P := P) none hl3
    rw [hrz] at hend
    refine ⟨_, _, hend, rfl, _, ⟨hs', hH', rfl⟩, ?_⟩
    exact Hp.putObj (o := .loop (rec .busy none)) hh5⟩
  have hC := (hS.out (w.heap.size + 1) _ hY _ hJ0).out P0 B w0 (hFr a fr :: hp) (.func (.yield (w.heap.size + 1)) #[] #[] :: lb) W1 (by simpa using hB) (by simp) (fun i d hd => by
    cases i with
    | zero => simp at hd; subst hd; rfl
    | succ i =>
      simp only [List.getElem?_cons_succ, List.getElem?_map] at hd
      cases hq : lb[i]? with
      | none => rw [hq] at hd; cases hd
      | some u => rw [hq] at hd; cases hd; simp [List.getD, hq]; rfl)
  refine ⟨w.heap.size + 1, [{ target := .collected w.heap.size, args := #[] }], W1, { target := .fn (.func gf) lb.toArray, args := #[.func (.yield (w.heap.size + 1)) #[] #[]] }, W1, gf,
    (.func (.yield (w.heap.size + 1)) #[] #[] :: lb).toArray, W1, ?_, ?_, fun _ _ => trivial, ?_, fun h => by simp [Fence.wide] at h, ?_⟩
  · rw [← hW1, hrec]; exact run_enterLoop_outer _ _ _ _ _
  · have hev : a.eval g = .func (.func gf) #[] lb.toArray := hg.ev hf
    simp only [resolve, hev]
    simp [go_sem]
  · have := he (.func (.yield (w.heap.size + 1)) #[] #[] :: lb).toArray W1
    simp [invoke, go_sem, this]
  · refine callsIn_wide.2 (hC.mono ?_)
    rintro e w2 ⟨v, d, hp2, rfl, ⟨js', ⟨hs, hH, rfl⟩, rfl⟩, hh2, _⟩
    have hl2 : w2.heap[w.heap.size + 1]? = some (.loop (rec .ready none)) := hh2.ok (hObj (w.heap.size + 1) (.loop (rec .ready none))) (by simp)
    have hend := run_endLoop (P := P) hl2 (by rw [hrec]; simp)
    have hpn : (rec .ready none).pending = none := by rw [hrec]
    obtain ⟨rx, hrx⟩ : ∃ rx : Loop, rx = { rec .ready none with state := .exhausted } := ⟨_, rfl⟩
    rw [← hrx, hpn] at hend
    refine ⟨none, _, hend, ?_⟩
    have hh3 : Hp P0 B w0 (hObj (w.heap.size + 1) (.loop rx) :: (hObj w.heap.size (.deferred (some [])) :: (hs ++ (hk ++ (hFr a fr :: hp))))) (w2.putObj (w.heap.size + 1) (.loop rx)) :=
      Hp.putObj (o := .loop (rec .ready none)) (by simpa using hh2)
    have hh4 := hh3.drop
    have hh5 : Hp P0 B w0 ((hObj w.heap.size (.deferred (some [])) :: (hs ++ hk)) ++ hFr a fr :: hp) (w2.putObj (w.heap.size + 1) (.loop rx)) := by simpa using hh4
    obtain ⟨hh6, hok⟩ := hh5.unghost hgb
    have e1 : (hObj w.heap.size (.deferred (some [])) :: (hs ++ hk)) ++ hp = hObj w.heap.size (.deferred (some [])) :: (hs ++ (hk ++ hp)) := by simp
    rw [e1] at hh6 hok
    have := hpost w.heap.size hs _ hH hh6 hok
    simpa using this
end Go.Proofs.Ytjojmdngogineaa
