/- Part 11: walks by contracts, and plain laws. -/
import Derived.DeepKeys4
import Derived.Test.YtgppfikidagfpaaGreatDoorProg
import Derived.Test.YtgppfikidagfpaaGreatDoorVf10
set_option linter.unusedVariables false
set_option linter.unusedSimpArgs false
set_option linter.unusedSectionVars false
namespace Go.Proofs.YtgppfikidagfpaaGreatDoor
open Go.RowKit
set_option maxRecDepth 100000
abbrev NoDef (ops : List Oper) : Prop := (ops.all fun o => match o.op with | .defer _ => false | _ => true) = true
theorem NoDef.at {ops : List Oper} (h : NoDef ops) : ∀ o ∈ ops, ∀ c, o.op ≠ .defer c := fun o ho c hc => by have := List.all_eq_true.1 h o ho; rw [hc] at this; cases this
theorem wpAnyIn_round {P : Program} {md : Region.Mode} {ops : Array Oper} {Q : Exit → Act → World → Prop} {l : Nat} (hd : ∀ o ∈ ops.toList, ∀ c, o.op ≠ .defer c) : ∀ {fuel : Nat} {listed : Array Bool} {a : Act} {w : World}, wpAnyIn Fence.wide 0 P md ops Q fuel listed a w → wpAnyIn (Fence.wide.inRound l) 0 P md ops Q fuel listed a w
  | 0, _, _, _, h => h
  | fuel + 1, listed, a, w, h => by
    refine ⟨h.1, fun i hi => ?_⟩
    have h1 := h.2 i hi
    unfold wpOpIn at h1 ⊢
    cases ho : ops[i]? with
    | none => simp only [ho] at h1; exact wpAnyIn_round hd h1
    | some o =>
      simp only [ho] at h1
      have hm : o ∈ ops.toList := by rw [← Array.getElem?_toList] at ho; exact List.mem_of_getElem? ho
      show if _ then _ else _
      split
      · rename_i hw
        rw [if_pos hw] at h1
        exact oper_round (hd o hm) (Oper.wpIn_mono (fun a w h => wpAnyIn_round hd h) h1)
      · rename_i hw
        rw [if_neg hw] at h1
        exact ⟨fun _ _ => trivial, wpAnyIn_round hd h1.2⟩
section
variable {P : Program} {l : Nat} {Q : Post} {fr : List Dat} {hp : List HObj} {c : Code} {d : Dat}
theorem WR.on (h : WR P l Q c fr hp) {P0 : Nat → Prop} {B : Nat} {w0 w : World} {a : Act} (hh : Hp P0 B w0 hp w) (hf : Fr (Imm P0 B hp) w a fr) : c.wpIn (Fence.wide.inRound l) 0 P (lift Q P0 B w0) a w := h.out _ _ _ _ _ hh hf
theorem WR.id (h : WR P l Q c fr hp) : WR P l Q c fr hp := h
theorem WR.mono {Q' : Post} (h : WR P l Q c fr hp) (k : ∀ e f p, Q e f p → Q' e f p) : WR P l Q' c fr hp := WR.of fun _ _ _ _ _ hh hf => wpIn_mono (h.on hh hf) fun _ _ _ ⟨f, p, q, r⟩ => ⟨f, p, k _ _ _ q, r⟩
theorem WR.seqK {x y : Code} (h : ∀ K : List Dat → List HObj → Prop, (∀ f p, WR P l Q y f p → Kont K f p) → WR P l (ThenD (Kont K) Q) x fr hp) : WR P l Q (.seq x y) fr hp :=
  WR.seq ((h (WR P l Q y) fun _ _ h => ⟨h⟩).mono fun e f p q => by
    cases e with
    | normal => exact (q : Kont _ f p).out
    | _ => exact q)
section
variable {cc : Operand} {x y : Code} {p : Prop} {_ip : Decidable p} {b : Bool}
theorem WR.condT (hc : OpD fr cc (dB b)) (hb : b = true) (h : WR P l Q x fr hp) : WR P l Q (.cond cc x y) fr hp := WR.cond hc (fun _ => h) (fun h => by rw [hb] at h; cases h)
theorem WR.condF (hc : OpD fr cc (dB b)) (hb : b = false) (h : WR P l Q y fr hp) : WR P l Q (.cond cc x y) fr hp := WR.cond hc (fun h => by rw [hb] at h; cases h) (fun _ => h)
theorem WR.condD (hc : OpD fr cc (dB (decide p))) (ht : p → WR P l Q x fr hp) (hf : ¬ p → WR P l Q y fr hp) : WR P l Q (.cond cc x y) fr hp := WR.cond hc (fun h => ht (of_decide_eq_true h)) (fun h => hf (of_decide_eq_false h))
theorem WR.condN (hc : OpD fr cc (dB (!decide p))) (ht : ¬ p → WR P l Q x fr hp) (hf : p → WR P l Q y fr hp) : WR P l Q (.cond cc x y) fr hp := WR.cond hc (fun h => ht (by simpa using h)) (fun h => hf (by simpa using h))
theorem WR.condNB (hc : OpD fr cc (dB (!b))) (ht : b = false → WR P l Q x fr hp) (hf : b = true → WR P l Q y fr hp) : WR P l Q (.cond cc x y) fr hp := WR.cond hc (fun h => ht (by simpa using h)) (fun h => hf (by simpa using h))
end
theorem WR.weak {fr' : List Dat} (h : WR P l Q c fr' hp) (hl : fr.length = fr'.length) (k : ∀ (t : Nat) (d : Dat), fr'[t]? = some d → ∃ d0 : Dat, fr[t]? = some d0 ∧ d0.le d) : WR P l Q c fr hp := WR.of fun _ _ _ _ _ hh hf => h.on hh (hf.weak hl k)
theorem WR.loopU {X : Type} (ups : X → List (Nat × Dat)) (H : X → List HObj) (μ : X → Nat) (p : X → Prop) (x0 : X) (h0 : p x0) (hF : LeF fr (upds fr (ups x0))) (hH : hp = H x0)
    (round : ∀ x, p x → WR P l (ThenD (fun f q => ∃ x', p x' ∧ μ x' < μ x ∧ q = H x' ∧ LeF f (upds fr (ups x'))) Q) c (upds fr (ups x)) (H x)) : WR P l Q (.loop c) fr hp := by
  refine WR.of fun P0 B w0 w a hh hf => ?_
  have hf1 := hf.weak hF.out.1 hF.out.2
  subst hH
  intro b k cs hro hb hr
  have key : ∀ (j : Nat) (x : X) (a' : Act) (w' : World), μ x = j → p x → Hp P0 B w0 (H x) w' → Fr (Imm P0 B (H x)) w' a' (upds fr (ups x)) →
      ∃ e a2 w2, lift Q P0 B w0 e a2 w2 ∧ ArrivesIn (Machine.fenced P (Fence.wide.inRound l)) P (lone (b.atR a' (.code c :: .inLoop c :: k)) cs w') b k cs e a2 w2 := by
    intro j
    induction j using Nat.strongRecOn with
    | _ j ih =>
      intro x a' w' hn hp' hh' hf'
      obtain ⟨e, a1, w1, hq, harr⟩ := (round x hp').on hh' hf' b (.inLoop c :: k) cs hro hb hr
      cases e with
      | normal =>
        obtain ⟨f, q, hq, h1, h2⟩ := hq
        obtain ⟨x', p1, p2, rfl, p4⟩ := (hq : ∃ x', _)
        obtain ⟨e2, a2, w2, hq2, harr2⟩ := ih (μ x') (hn ▸ p2) x' a1 w1 rfl p1 h1 (h2.weak p4.out.1 p4.out.2)
        exact ⟨e2, a2, w2, hq2, .of_steps (StepsIn.trans harr (.one (fenced_calm hb hr rfl) stepR_inLoop)) harr2⟩
      | exit id => exact ⟨_, a1, w1, hq, .pass (x := .inLoop c) rfl (fun _ _ => .inl (by simp)) harr⟩
      | goto l => exact ⟨_, a1, w1, hq, .pass (x := .inLoop c) rfl (fun _ _ => .inl (by simp)) harr⟩
      | ret => exact ⟨_, a1, w1, hq, .pass (x := .inLoop c) rfl (fun _ _ => .inl (by simp)) harr⟩
      | panic ch => exact ⟨_, a1, w1, hq, .pass (x := .inLoop c) rfl (fun _ _ => .inl (by simp)) harr⟩
      | outgrown => exact ⟨_, a1, w1, hq, .pass (x := .inLoop c) rfl (fun _ _ => .inl (by simp)) harr⟩
  obtain ⟨e, a', w', hq, harr⟩ := key _ x0 a w rfl h0 hh hf1
  exact ⟨e, a', w', hq, .of_steps (.one (fenced_calm hb hr rfl) stepR_loop) harr⟩
theorem WR.perm {hp' : List HObj} (hp1 : hp.Perm hp') (h : WR P l Q c fr hp') : WR P l Q c fr hp := WR.of fun _ _ _ _ _ hh hf =>
  let ⟨h1, h2⟩ := hh.perm hp1
  h.on h1 (hf.mono fun d _ hd => d.weak hd fun k hk => (h2 k).1 hk)
theorem WR.drop {o : HObj} (h : WR P l Q c fr hp) : WR P l Q c fr (o :: hp) := WR.of fun _ _ _ _ _ hh hf => h.on hh.drop (hf.mono fun d _ hd => d.weak hd Imm.sub)
theorem WR.know {p : Prop} {t : Nat} (ht : fr[t]? = some d) (hd : ∀ (I : Nat → Prop) (w : World) (v : Value), d.rd I w v → p) (h : p → WR P l Q c fr hp) : WR P l Q c fr hp := WR.of fun _ _ _ _ _ hh hf => (h (hd _ _ _ (hf.rd t d ht))).on hh hf
theorem WR.nilRow {α : Type} (e : TypeId) (R : Rel α) [Good R] (h : WR P l Q c fr (hRow (.slice none 0 0) e R ([] : List α) :: hp)) : WR P l Q c fr hp := WR.of fun _ _ _ _ _ hh hf =>
  h.on (hh.push (Ext.refl _) (by simp [hRow, Value.ownBlock]) Own.nil) (hf.mono fun _ _ hd => Hp.pushed (Ext.refl _) (by simp [hRow, Value.ownBlock]) hd)
theorem WR.drawTail {id : Nat} {ops : List Oper} (n : Nat) (hm : P.follows .mixedOrders = true) (hB : Region.lexTailB .any ops.toArray n = true) (hd : NoDef ops)
    (h : WD P ops.toArray hp (fun f => I.WL P ops.toArray Q (ops.drop n) f hp) (ops.take n) fr) : WR P l Q (.region id ops.toArray true) fr hp := by
  refine WR.of fun P0 B w0 w a hh hf => ?_
  simp only [Region.lexTailB, Bool.and_eq_true, decide_eq_true_eq] at hB
  obtain ⟨⟨⟨⟨hsel, hn⟩, hs⟩, hc⟩, hlex⟩ := hB
  have hn' : n < ops.length := by simpa using hn
  have htl : (ops.take n).length = n := by simp; omega
  have hdl : (ops.drop n).length = ops.toArray.size - n := by simp
  have inv0 : HeadInv .any ops.toArray n (Array.replicate ops.toArray.size false) :=
    ⟨by simp, fun j oj _ hl => (by rw [getD_replicate_false] at hl; cases hl), fun t _ ht => getD_in (by simpa using ht) (getD_replicate_false _ _)⟩
  have H := wpAnyDL_lex (md := .any) (g := ops.toArray.size - n) hs hc hn (ops.take n) 0 _ fr (fun j hj => by
    have hj' : j < n := by rw [htl] at hj; exact hj
    simp [hj']) (by simpa using htl) inv0 (by rw [htl]; exact hlex) h
  have hx : Ext w { w with drawn := w.drawn + 1 } := (Ext.refl w).drew
  refine wpIn_region_any (n := 0) hm (wpAnyIn_round (fun o ho c => hd.at o (by simpa using ho) c) ?_)
  have := I.wpAnyIn_of_headD (Q' := lift Q P0 B w0) (g := ops.toArray.size - n) _ _ _ _ _ (hh.ext hx) (hf.ext hx) (fun listed fr' a' w' e hh' hf' hL => by
    have := I.wpAnyIn_of_seq (md := .any) (Q' := lift Q P0 B w0) (ops.drop n) n listed a' w' (fun j => by simp [List.getElem?_drop]) (by rw [hdl]; exact hL.1) (hL.2.on hh' hf')
    rwa [hdl] at this) H
  rw [htl, show n + (ops.toArray.size - n) = ops.toArray.size by omega] at this
  exact this
theorem WR.drawW {id : Nat} {ops : List Oper} {β : Type} (n : Nat) (H : β → List HObj) (D : β → Dat) (ow : Oper) (how : ops[n]? = some ow) (hm : P.follows .mixedOrders = true) (hB : Region.lexTailB .any ops.toArray (n + 1) = true) (hd : NoDef ops)
    (h : WDs P ops.toArray hp H (fun f => SW P ops.toArray hp H D ow f ∧ ∀ x, I.WL P ops.toArray Q (ops.drop (n + 1)) (setD f ow.dst (D x)) (H x)) (ops.take n) fr) : WR P l Q (.region id ops.toArray true) fr hp := by
  refine WR.of fun P0 B w0 w a hh hf => ?_
  simp only [Region.lexTailB, Bool.and_eq_true, decide_eq_true_eq] at hB
  obtain ⟨⟨⟨⟨hsel, hn⟩, hs⟩, hc⟩, hlex⟩ := hB
  have hn' : n + 1 < ops.length := by simpa using hn
  have htl : (ops.take n).length = n := by simp; omega
  have hdl : (ops.drop (n + 1)).length = ops.toArray.size - (n + 1) := by simp
  have inv0 : HeadInv .any ops.toArray (n + 1) (Array.replicate ops.toArray.size false) :=
    ⟨by simp, fun j oj _ hl => (by rw [getD_replicate_false] at hl; cases hl), fun t _ ht => getD_in (by simpa using ht) (getD_replicate_false _ _)⟩
  obtain ⟨dd, hch⟩ := h.ch (ops.take n) 0 fr
  have HW := wpAnyW_lex (n := n) (Lq := fun f c => I.WL P ops.toArray Q (ops.drop (n + 1)) f (HH hp H c)) (md := .any) (g := ops.toArray.size - (n + 1)) (ow := ow) (m := n) (by simpa using how) hs hc hn (ops.take n) 0 _ fr (fun j hj => by
    have hj' : j < n := by rw [htl] at hj; exact hj
    simp [hj']) (by simpa using htl) inv0 (fun j hj => by omega) (by rw [htl]; exact hlex) hch
  have hx : Ext w { w with drawn := w.drawn + 1 } := (Ext.refl w).drew
  refine wpIn_region_any (n := 0) hm (wpAnyIn_round (fun o ho c => hd.at o (by simpa using ho) c) ?_)
  have := I.wpAnyIn_of_headW (Q' := lift Q P0 B w0) (g := ops.toArray.size - (n + 1)) _ _ _ none _ _ (hh.ext hx) (hf.ext hx) (fun listed fr' c a' w' hh' hf' hL => by
    have := I.wpAnyIn_of_seq (md := .any) (Q' := lift Q P0 B w0) (ops.drop (n + 1)) (n + 1) listed a' w' (fun j => by simp [List.getElem?_drop]) (by rw [hdl]; exact hL.1) (hL.2.on hh' hf')
    rwa [hdl] at this) HW
  rw [htl, show n + 1 + (ops.toArray.size - (n + 1)) = ops.toArray.size by omega] at this
  exact this
end
namespace I
section
variable {P : Program} {ops : Array Oper} {hp : List HObj} {fr : List Dat} {d : Dat} {Q : Post} {rest : List Oper} {dst : Option Tmp} {op : Op} {ty : TypeId} {ps : String} {af : Array Edge}
theorem WL.opN (h : SY P ops hp { dst := dst, op := op, type := ty, pos := ps, after := af, guard := none } fr d) (k : WL P ops Q rest (setD fr dst d) hp) : WL P ops Q ({ dst := dst, op := op, type := ty, pos := ps, after := af, guard := none } :: rest) fr hp := WL.opG (SYG.yes (want_none rfl) h) k
end
end I
end Go.Proofs.YtgppfikidagfpaaGreatDoor
namespace Go.Proofs.YtgppfikidagfpaaGreatDoor
open Go.RowKit
section
variable {P : Program} {ops : Array Oper} {hp : List HObj} {fr : List Dat} {dst : Option Tmp} {ty : TypeId} {ps : String} {af : Array Edge} {g : Option (Nat × Bool)}
theorem SY.convX {x : Operand} {A T : TypeId} {u : Value} {n : Int} (hx : OpD fr x (dX u)) (hr : ∀ w, (convert A T u).run P w = .ok (.int .i64 n) w) :
    SY P ops hp { dst := dst, op := .convert A T x, type := ty, pos := ps, after := af, guard := g } fr (dI n) := SY.val fun {I w a} ho => by
  have h1 : a.eval x = u := hx.get (by simp [Op.operands]) ho
  refine ⟨.int .i64 n, ?_, rfl⟩
  unfold execOp
  simp only [h1, Sem.run_bind, hr, Result.andThen_ok, Sem.run_pure]
end
theorem cvU8 (c : Int) (h : 0 ≤ c ∧ c ≤ 255) : ∀ w, (convert 5 3 (.int .u8 c)).run Tryz.prog w = .ok (.int .i64 c) w := by
  have hw : IntKind.i64.wrap c = c := by rw [IntKind.wrap_i64]; omega
  intro w; go_simp
end Go.Proofs.YtgppfikidagfpaaGreatDoor
namespace Go.Proofs.YtgppfikidagfpaaGreatDoor
open Go.RowKit

def elemPtr (v : Value) (k : Nat) : Value := match v with
  | .slice (some ⟨b, _, _⟩) _ _ => .pointer (some ⟨b, k, none⟩)
  | _ => undef
section
variable {P : Program} {ops : Array Oper} {hp : List HObj} {o : Oper} {fr : List Dat} {d : Dat} {Q : Post} {rest : List Oper}
variable {dst : Option Tmp} {ty : TypeId} {ps : String} {af : Array Edge} {g : Option (Nat × Bool)} {e e' t T : TypeId} {bytes : Nat} {z : Value} {ag : Bool} {α : Type} {R : Rel α} {xs : List α} {v : Value}
theorem own_row {I : Nat → Prop} {w : World} (h : Own 0 e R I w v xs) {k : Nat} (hk : k < xs.length) : ∃ (b cap : Nat) (us : List Value), v = .slice (some ⟨b, 0, none⟩) xs.length cap ∧ us.length = xs.length ∧ ∃ (hu : k < us.length), us[k].oneCell' = true ∧ R (fun j => I j ∧ v.ownBlock ≠ some j) w us[k] xs[k] ∧ w.cell? ⟨b, k, none⟩ = some us[k] := by
  obtain ⟨us, h1, ⟨h2, h3⟩, h4⟩ := h
  rcases h3 with ⟨_, hz⟩ | ⟨g, cap, cur, hv, hB, hg, hc1, hc2, hc3, hc4⟩
  · omega
  · have hu : k < us.length := by omega
    refine ⟨g, cap, us, hv, h1, hu, (h4 k hu hk).1, (h4 k hu hk).2, ?_⟩
    rw [Nat.mul_one] at hc3 hc4
    have hkc : k < cur.size := by omega
    have : cur[k] = us[k] := by
      have e1 : us[k]? = (cur.toList.take xs.length)[k]? := by rw [hc4]
      rw [List.getElem?_take_of_lt hk, List.getElem?_eq_getElem hu] at e1
      simpa [hkc] using e1.symm
    simp [World.cell?, hg, hkc, this]
theorem SY.ixR {_gR : Good R} {x i : Operand} {k : Nat} {j : Int} (E : ElT P t e 1 z bytes ag) (hx : OpD fr x (dX v)) (hm : hRow v e' R xs ∈ hp) (hi : OpD fr i (dI j)) (hj : j = (k : Int)) (hk : k < xs.length) :
    SY P ops hp { dst := dst, op := .indexAddr t x i, type := ty, pos := ps, after := af, guard := g } fr (dX (elemPtr v k)) := SY.valE fun {P0 B w0 w a} hh ho => by
  have h1 : a.eval x = v := hx.get (by simp [Op.operands]) ho
  have h2 : a.eval i = _ := hi.get (by simp [Op.operands]) ho
  obtain ⟨b, cap, us, hv, _⟩ := own_row (hh.ok _ hm) hk
  refine ⟨.pointer (some ⟨b, 0 + k * 1, none⟩), w, ?_, Ext.refl _, ?_⟩
  · unfold execOp
    simp only [h1, hv, h2, hj, Sem.run_bind, run_indexAt (w := w) E b 0 xs.length cap k .i64 hk, Result.andThen_ok, Sem.run_pure]
  · show _ = elemPtr v k
    rw [hv]; simp [elemPtr]
theorem SY.loadR {_gR : Good R} {x : Operand} {k : Nat} (T' : TyI P T 1 false) (hx : OpD fr x (dX (elemPtr v k))) (hm : hRow v e' R xs ∈ hp) (hk : k < xs.length) :
    SY P ops hp { dst := dst, op := .load T x, type := ty, pos := ps, after := af, guard := g } fr (dS R xs[k]) := SY.valE fun {P0 B w0 w a} hh ho => by
  have h1 : a.eval x = elemPtr v k := hx.get (by simp [Op.operands]) ho
  obtain ⟨b, cap, us, hv, hl, hu, o1, o2, o3⟩ := own_row (hh.ok _ hm) hk
  have hc : Cells (fun _ => True) w b k 1 false us[k] := by
    refine ⟨trivial, [us[k]], rfl, by decide, ?_, fun i c hc => ?_, rfl⟩
    · intro c hc; rw [List.mem_singleton.1 hc]; exact o1
    · have hi : i = 0 := by
        have := (List.getElem?_eq_some_iff.1 hc).1
        simp at this; exact this
      subst hi
      cases hc
      exact o3
  have h1' : a.eval x = .pointer (some ⟨b, k, none⟩) := by rw [h1, hv]; rfl
  refine ⟨us[k], w, ?_, Ext.refl _, Good.weak o2 fun j hj => hj.1⟩
  unfold execOp
  simp only [h1', Sem.run_bind, run_loadC T' hc, Result.andThen_ok, Sem.run_pure]
theorem own_set [Good R] {I : Nat → Prop} {w : World} {k : Nat} (hv : Own 0 e R I w v xs) (hk : k < xs.length) {u : Value} (hu1 : u.oneCell' = true) {y : α} (hu : R (fun b => I b ∧ v.ownBlock ≠ some b) w u y) :
    ∃ g cap, v = .slice (some ⟨g, 0, none⟩) xs.length cap ∧ (store ((⟨g, k, none⟩ : Addr).add 0) u).run P w = .ok () (w.setCell ⟨g, k, none⟩ u) ∧ Own 0 e R I (w.setCell ⟨g, k, none⟩ u) v (xs.set k y) ∧ w.grownBy (w.setCell ⟨g, k, none⟩ u) (some g) ∧ v.ownBlock = some g := by
  obtain ⟨us, hl, ⟨hul, ho⟩, he⟩ := hv
  rcases ho with ⟨rfl, h0⟩ | ⟨g, cap, cur, rfl, hB, hg, hn, hm, hs, ht⟩
  · omega
  · rw [Nat.mul_one] at hs ht
    have hkc : k < cur.size := by omega
    have hset := setCell_eq_setRow w g k cur e (0, 0) u hg
    have hc : w.cell? ⟨g, k, none⟩ = some cur[k] := by simp [World.cell?, hg, hkc]
    have hf : w.frozen? ⟨g, k, none⟩ = false := by simp [World.frozen?, hg]
    have hgr : w.grownBy (w.setRow g (cur.setIfInBounds k u)) (some g) := grown_setRow
    refine ⟨g, cap, rfl, ?_, ⟨us.set k u, by simp [hl], ⟨by simp [hul], .inr ⟨g, cap, cur.setIfInBounds k u, by simp, hB, ?_, by simpa using hn, hm, by simpa using hs, ?_⟩⟩, ?_⟩, by rw [hset]; exact hgr, rfl⟩
    · rw [show ((⟨g, k, none⟩ : Addr).add 0) = ⟨g, k, none⟩ from rfl, run_store P w _ u _ hu1, hc]
      simp [hf]
    · rw [hset]; exact setRow_heap w g cur _ e _ hg
    · simp only [List.length_set, Nat.mul_one, Array.toList_setIfInBounds]
      rw [← ht, List.take_set]
    · intro j h1 h2
      simp only [List.length_set] at h1 h2
      rw [List.getElem_set, List.getElem_set, hset]
      by_cases hkj : k = j
      · rw [if_pos hkj, if_pos hkj]
        exact ⟨hu1, Good.grown hu hgr (fun r hr hc => hc.2 (by cases hr; rfl))⟩
      · rw [if_neg hkj, if_neg hkj]
        exact ⟨(he j h1 h2).1, Good.grown (he j h1 h2).2 hgr (fun r hr hc => hc.2 (by cases hr; rfl))⟩
theorem WL.storeR {_gR : Good R} {p : Tmp} {x : Operand} {k : Nat} {y : α} (T' : TyI P T 1 false) (hp0 : OpD fr (.tmp p) (dX (elemPtr v k))) (hx : OpD fr x (dS R y)) (hs : (dS R y).Shape 1 false) (hk : k < xs.length)
    (h : WL P ops Q rest (setD fr dst dA) (hRow v e R (xs.set k y) :: hp)) : WL P ops Q ({ dst := dst, op := .store T (.tmp p) x, type := ty, pos := ps, after := af, guard := none } :: rest) fr (hRow v e R xs :: hp) := by
  refine WL.of fun P0 B w0 w a hh hf => ?_
  have hok := hh.ok (hRow v e R xs) (by simp)
  have hy : R (Imm P0 B (hRow v e R xs :: hp)) w (a.eval x) y := hx.ev hf
  obtain ⟨cs, k1, k0, k2, k3, k4⟩ := hs _ _ _ hy
  have h1 : a.eval (.tmp p) = elemPtr v k := hp0.ev hf
  have hone : (a.eval x).oneCell' = true := by
    have : cs = [a.eval x] := by simpa using k4
    subst this
    exact k2 _ (by simp)
  have hy' : R (fun j => (Imm P0 B (hRow v e R xs :: hp) j ∧ j < w.heap.size) ∧ v.ownBlock ≠ some j) w (a.eval x) y :=
    Good.weak (Good.bound hy) fun j hj => ⟨hj, hj.1.2 (hRow v e R xs) (by simp)⟩
  obtain ⟨b, cap, hv, hst, hok', hgr, hob⟩ := own_set (P := P) ((hRow v e R xs).bound hok) hk hone hy'
  have hrun : (execOp a.eval { dst := dst, op := .store T (.tmp p) x, type := ty, pos := ps, after := af, guard := none }).run P w = .ok .skip (w.setCell ⟨b, k, none⟩ (a.eval x)) := by
    have he : a.eval (.tmp p) = .pointer (some ⟨b, k, none⟩) := by rw [h1, hv]; rfl
    unfold execOp
    have hsz : (sizeOf T).run P w = .ok 1 w := by
      have h5 := T'.size
      cases hq : P.info? T with
      | none => rw [hq] at h5; cases h5
      | some i =>
        rw [hq] at h5
        have : i.size = 1 := by simpa using h5
        rw [← this]
        rw [run_sizeOf w hq]
        simp [Program.cellsOf, hq]
    simp only [he, Instr.storeAt, Instr.sureAddr, storeVar, Sem.run_bind, hsz, Result.andThen_ok, Sem.run_pure]
    simp [cells_one hone, storeCells, hst]
  refine wpList_plain rfl fun K hK => ?_
  unfold Oper.wp
  rw [hrun]
  have hgr' : w.grownBy (w.setCell ⟨b, k, none⟩ (a.eval x)) (hRow v e R xs).blk := by
    show w.grownBy _ v.ownBlock
    rw [hob]; exact hgr
  exact hK _ _ (h.on (hh.write hgr' (.inl rfl) hok') (Fr.put (hf.mono fun _ _ hd => Hp.written (o' := hRow v e R (xs.set k y)) hgr' (.inl rfl) hd) (d := dA) trivial))
end
end Go.Proofs.YtgppfikidagfpaaGreatDoor
namespace Go.Proofs.YtgppfikidagfpaaGreatDoor
open Go.RowKit

def entriesM : Nat → List (Value × Value) → List MapEntry
  | _, [] => []
  | i, p :: m => ⟨p.1, p.2, i⟩ :: entriesM (i + 1) m
def mapObj (m : List (Value × Value)) : Obj := .map (entriesM 0 m).toArray m.length
theorem entriesM_len : ∀ (m : List (Value × Value)) (i : Nat), (entriesM i m).length = m.length
  | [], _ => rfl
  | _ :: m, i => by simp [entriesM, entriesM_len m]
theorem entriesM_get : ∀ (m : List (Value × Value)) (i j : Nat) (h : j < m.length), (entriesM i m)[j]'(by rw [entriesM_len]; exact h) = ⟨m[j].1, m[j].2, i + j⟩
  | [], _, j, h => by simp at h
  | p :: m, i, 0, _ => by simp [entriesM]
  | p :: m, i, j + 1, h => by
    simp only [entriesM, List.getElem_cons_succ]
    rw [entriesM_get m (i + 1) j (by simpa using h)]
    congr 1; omega
theorem entriesM_snoc : ∀ (m : List (Value × Value)) (i : Nat) (p : Value × Value), entriesM i (m ++ [p]) = entriesM i m ++ [⟨p.1, p.2, i + m.length⟩]
  | [], i, p => by simp [entriesM]
  | q :: m, i, p => by
    simp only [List.cons_append, entriesM, entriesM_snoc m (i + 1) p, List.length_cons]
    congr 4; omega
theorem entriesM_set : ∀ (m : List (Value × Value)) (i j : Nat) (p : Value × Value), entriesM i (m.set j p) = (entriesM i m).set j ⟨p.1, p.2, i + j⟩
  | [], _, _, _ => rfl
  | q :: m, i, 0, p => by simp [entriesM]
  | q :: m, i, j + 1, p => by
    simp only [List.set_cons_succ, entriesM, entriesM_set m (i + 1) j p]
    congr 3; omega
structure KeyT (P : Program) (k : TypeId) {K : Type} (kv : K → Value) (ok : K → Prop) : Prop where
  law : Go.Maps.Keyed P k
  lit : ∀ x, ok x → ∃ l, keyOf P k (kv x) = some l
  inj : ∀ x y, ok x → ok y → kv x = kv y → x = y
structure MapT (P : Program) (t k e : TypeId) (z : Value) : Prop where
  under : P.underlying t = some (.map k e)
  zero : ∀ w, (zeroValue e).run P w = .ok z w
section
variable {P : Program} {k t e : TypeId} {z : Value} {K V : Type} {kv : K → Value} {ok : K → Prop} {vv : V → Value}
def encM (kv : K → Value) (vv : V → Value) (m : List (K × V)) : List (Value × Value) := m.map fun p => (kv p.1, vv p.2)
def lookM [DecidableEq K] (m : List (K × V)) (x : K) : Option V := (m.find? fun p => decide (p.1 = x)).map (·.2)
theorem find_key (H : KeyT P k kv ok) {m : List (K × V)} (hm : ∀ p ∈ m, ok p.1) {x : K} (hx : ok x) (w : World) :
    ((Instr.findKey k (kv x) (entriesM 0 (encM kv vv m))).run P w = .ok none w ∧ ∀ p ∈ m, p.1 ≠ x) ∨
    ∃ (j : Nat) (h : j < m.length), m[j].1 = x ∧ (Instr.findKey k (kv x) (entriesM 0 (encM kv vv m))).run P w = .ok (some (j, vv m[j].2)) w := by
  obtain ⟨lx, hlx⟩ := H.lit x hx
  have hl : (encM kv vv m).length = m.length := by simp [encM]
  have hat : ∀ (j : Nat) (h : j < m.length), (entriesM 0 (encM kv vv m))[j]'(by rw [entriesM_len, hl]; exact h) = ⟨kv m[j].1, vv m[j].2, j⟩ := fun j h => by
    rw [entriesM_get _ _ _ (by rw [hl]; exact h)]
    simp [encM]
  have hk : ∀ en ∈ entriesM 0 (encM kv vv m), ∃ l, keyOf P k en.key = some l := fun en hen => by
    obtain ⟨j, hj, rfl⟩ := List.getElem_of_mem hen
    have hj' : j < m.length := by rw [entriesM_len, hl] at hj; exact hj
    rw [hat j hj']
    exact H.lit _ (hm _ (List.getElem_mem hj'))
  rcases H.law.find w hlx _ hk with ⟨h1, h2⟩ | ⟨j, en, h1, h2, h3⟩
  · refine .inl ⟨h1, fun p hp hpx => ?_⟩
    obtain ⟨j, hj, rfl⟩ := List.getElem_of_mem hp
    have hj' : j < (entriesM 0 (encM kv vv m)).length := by rw [entriesM_len, hl]; exact hj
    refine h2 _ (List.getElem_mem hj') ?_
    rw [hat j hj, hpx]
  · have hj := (List.getElem?_eq_some_iff.1 h2).1
    have hj' : j < m.length := by rw [entriesM_len, hl] at hj; exact hj
    have he : en = ⟨kv m[j].1, vv m[j].2, j⟩ := by rw [← hat j hj', (List.getElem?_eq_some_iff.1 h2).2]
    refine .inr ⟨j, hj', H.inj _ _ (hm _ (List.getElem_mem hj')) hx ?_, ?_⟩
    · rw [← h3, he]
    · rw [h1, he]
section
variable [DecidableEq K]
theorem lookM_none {m : List (K × V)} {x : K} (h : ∀ p ∈ m, p.1 ≠ x) : lookM m x = none := by
  unfold lookM
  rw [List.find?_eq_none.2 (fun p hp => by simpa using h p hp)]; rfl
theorem lookM_some {m : List (K × V)} (hn : (m.map (·.1)).Nodup) {j : Nat} (h : j < m.length) : lookM m m[j].1 = some m[j].2 := by
  induction m generalizing j with
  | nil => simp at h
  | cons p m ih =>
    rw [List.map_cons, List.nodup_cons] at hn
    cases j with
    | zero => simp [lookM]
    | succ j =>
      have hj : j < m.length := by simpa using h
      have hne : ¬ p.1 = m[j].1 := fun e => hn.1 (e ▸ List.mem_map_of_mem (List.getElem_mem hj))
      have := ih hn.2 hj
      unfold lookM at this ⊢
      simp only [List.getElem_cons_succ]
      rw [List.find?_cons_of_neg (by simpa using hne)]
      exact this
def putM (m : List (K × V)) (x : K) (v : V) : List (K × V) := if (lookM m x).isSome then m.map fun p => if p.1 = x then (x, v) else p else m ++ [(x, v)]
theorem putM_new {m : List (K × V)} {x : K} {v : V} (h : ∀ p ∈ m, p.1 ≠ x) : putM m x v = m ++ [(x, v)] := by
  unfold putM; rw [lookM_none h]; rfl
theorem putM_set {m : List (K × V)} (hn : (m.map (·.1)).Nodup) {v : V} {j : Nat} (h : j < m.length) : putM m m[j].1 v = m.set j (m[j].1, v) := by
  unfold putM
  rw [lookM_some hn h]
  simp only [Option.isSome_some, if_true]
  apply List.ext_getElem (by simp)
  intro i h1 h2
  have hi : i < m.length := by simpa using h1
  rw [List.getElem_map, List.getElem_set]
  by_cases hij : j = i
  · subst hij; simp
  · rw [if_neg hij, if_neg]
    intro e
    refine hij ?_
    have h1 : (m.map (·.1))[i]'(by simpa using hi) = (m.map (·.1))[j]'(by simpa using h) := by simpa using e
    exact ((List.getElem_inj hn).1 h1).symm
theorem run_lookup (T : MapT P t k e z) (H : KeyT P k kv ok) {m : List (K × V)} (hm : ∀ p ∈ m, ok p.1) (hn : (m.map (·.1)).Nodup) {x : K} (hx : ok x) {w : World} {b : Nat} (hb : w.heap[b]? = some (mapObj (encM kv vv m))) (c : Bool) :
    (Instr.lookup t (.map (some b)) (kv x) c).run P w = .ok (if c then .tuple #[((lookM m x).map vv).getD z, .bool (lookM m x).isSome] else ((lookM m x).map vv).getD z) w := by
  obtain ⟨lx, hlx⟩ := H.lit x hx
  have hg := MapKept.run_getObj_map (P := P) (show w.heap[b]? = some (.map _ _) from hb)
  rcases find_key (vv := vv) H hm hx w with ⟨h1, h2⟩ | ⟨j, hj, h1, h2⟩
  · rw [lookM_none h2]
    simp [Instr.lookup, run_underlying T.under, hg, H.law.check w _ hlx, h1, T.zero, Result.andThen]
  · subst h1
    rw [lookM_some hn hj]
    simp [Instr.lookup, run_underlying T.under, hg, H.law.check w _ hlx, h2, Result.andThen]
theorem run_update (T : MapT P t k e z) (H : KeyT P k kv ok) {m : List (K × V)} (hm : ∀ p ∈ m, ok p.1) (hn : (m.map (·.1)).Nodup) {x : K} (hx : ok x) (v : V) {w : World} {b : Nat} (hb : w.heap[b]? = some (mapObj (encM kv vv m))) :
    (Instr.mapUpdate t (.map (some b)) (kv x) (vv v)).run P w = .ok () { w with heap := w.heap.setIfInBounds b (mapObj (encM kv vv (putM m x v))) } := by
  obtain ⟨lx, hlx⟩ := H.lit x hx
  have hl : (encM kv vv m).length = m.length := by simp [encM]
  have hg := MapKept.run_getObj_map (P := P) (show w.heap[b]? = some (.map _ _) from hb)
  rcases find_key (vv := vv) H hm hx w with ⟨h1, h2⟩ | ⟨j, hj, h1, h2⟩
  · have e1 : mapObj (encM kv vv (putM m x v)) = .map ((entriesM 0 (encM kv vv m)).toArray.push ⟨kv x, vv v, (encM kv vv m).length⟩) ((encM kv vv m).length + 1) := by
      rw [putM_new h2]
      unfold mapObj
      rw [show encM kv vv (m ++ [(x, v)]) = encM kv vv m ++ [(kv x, vv v)] by simp [encM], entriesM_snoc]
      simp
    rw [e1]
    simp [Instr.mapUpdate, run_underlying T.under, hg, H.law.check w _ hlx, h1, MapKept.run_setObj_map _ (show w.heap[b]? = some (.map _ _) from hb), Result.andThen]
  · subst h1
    have hj' : j < (entriesM 0 (encM kv vv m)).length := by rw [entriesM_len, hl]; exact hj
    have hat : (entriesM 0 (encM kv vv m))[j]? = some ⟨kv m[j].1, vv m[j].2, 0 + j⟩ := by
      rw [List.getElem?_eq_getElem hj', entriesM_get _ _ _ (by rw [hl]; exact hj)]
      simp [encM]
    have e1 : mapObj (encM kv vv (putM m m[j].1 v)) = .map ((entriesM 0 (encM kv vv m)).toArray.modify j fun en => { en with key := kv m[j].1, val := vv v }) (encM kv vv m).length := by
      rw [putM_set hn hj]
      unfold mapObj
      rw [show encM kv vv (m.set j (m[j].1, v)) = (encM kv vv m).set j (kv m[j].1, vv v) by simp [encM, List.map_set], entriesM_set, List.length_set]
      congr 1
      apply Array.ext'
      rw [Array.toList_modify, ChangeMaps.modify_eq_set _ _ _ _ (by simpa using hat)]
      simp
    rw [e1]
    simp [Instr.mapUpdate, run_underlying T.under, hg, H.law.check w _ hlx, h2, hat, H.law.stays w hlx, MapKept.run_setObj_map _ (show w.heap[b]? = some (.map _ _) from hb), Result.andThen]
omit [DecidableEq K] in
theorem mapObj_set {m : List (K × V)} {j : Nat} (hj : j < m.length) (f : MapEntry → MapEntry) (x : K) (v : V) (hf : ∀ i, f ⟨kv m[j].1, vv m[j].2, i⟩ = ⟨kv x, vv v, i⟩) :
    mapObj (encM kv vv (m.set j (x, v))) = .map ((entriesM 0 (encM kv vv m)).toArray.modify j f) (encM kv vv m).length := by
  have hl : (encM kv vv m).length = m.length := by simp [encM]
  have hj' : j < (entriesM 0 (encM kv vv m)).length := by rw [entriesM_len, hl]; exact hj
  have hat : (entriesM 0 (encM kv vv m))[j]? = some ⟨kv m[j].1, vv m[j].2, 0 + j⟩ := by
    rw [List.getElem?_eq_getElem hj', entriesM_get _ _ _ (by rw [hl]; exact hj)]
    simp [encM]
  unfold mapObj
  rw [show encM kv vv (m.set j (x, v)) = (encM kv vv m).set j (kv x, vv v) by simp [encM, List.map_set], entriesM_set, List.length_set]
  congr 1
  apply Array.ext'
  rw [Array.toList_modify, ChangeMaps.modify_eq_set _ _ _ _ (by simpa using hat), hf]
  simp
omit [DecidableEq K] in
theorem run_entry (T : MapT P t k e z) (H : KeyT P k kv ok) {m : List (K × V)} (hm : ∀ p ∈ m, ok p.1) {x : K} (hx : ok x) {w : World} {b : Nat} (hb : w.heap[b]? = some (mapObj (encM kv vv m))) :
    (∃ (j : Nat) (h : j < m.length), m[j].1 = x ∧ (Instr.mapEntry t (.map (some b)) (kv x)).run P w = .ok (.tuple #[vv m[j].2, .int .i64 j]) { w with heap := w.heap.setIfInBounds b (mapObj (encM kv vv m)) }) ∨
    ((∀ p ∈ m, p.1 ≠ x) ∧ ∀ zv, vv zv = z → (Instr.mapEntry t (.map (some b)) (kv x)).run P w = .ok (.tuple #[z, .int .i64 m.length]) { w with heap := w.heap.setIfInBounds b (mapObj (encM kv vv (m ++ [(x, zv)]))) }) := by
  obtain ⟨lx, hlx⟩ := H.lit x hx
  have hl : (encM kv vv m).length = m.length := by simp [encM]
  have hg := MapKept.run_getObj_map (P := P) (show w.heap[b]? = some (.map _ _) from hb)
  rcases find_key (vv := vv) H hm hx w with ⟨h1, h2⟩ | ⟨j, hj, h1, h2⟩
  · refine .inr ⟨h2, fun zv hz => ?_⟩
    have e1 : mapObj (encM kv vv (m ++ [(x, zv)])) = .map ((entriesM 0 (encM kv vv m)).toArray.push ⟨kv x, z, (encM kv vv m).length⟩) ((encM kv vv m).length + 1) := by
      unfold mapObj
      rw [show encM kv vv (m ++ [(x, zv)]) = encM kv vv m ++ [(kv x, z)] by simp [encM, hz], entriesM_snoc]
      simp
    rw [e1]
    simp [Instr.mapEntry, run_underlying T.under, hg, H.law.check w _ hlx, h1, T.zero, MapKept.run_setObj_map _ (show w.heap[b]? = some (.map _ _) from hb), Result.andThen, goInt, hl]
  · refine .inl ⟨j, hj, h1, ?_⟩
    subst h1
    have hj' : j < (entriesM 0 (encM kv vv m)).length := by rw [entriesM_len, hl]; exact hj
    have hat : (entriesM 0 (encM kv vv m))[j]? = some ⟨kv m[j].1, vv m[j].2, 0 + j⟩ := by
      rw [List.getElem?_eq_getElem hj', entriesM_get _ _ _ (by rw [hl]; exact hj)]
      simp [encM]
    have e1 := mapObj_set (kv := kv) (vv := vv) hj (fun en => { en with key := kv m[j].1 }) m[j].1 m[j].2 (fun _ => rfl)
    have e2 : m.set j (m[j].1, m[j].2) = m := List.set_getElem_self hj
    rw [e2] at e1
    rw [e1]
    simp [Instr.mapEntry, run_underlying T.under, hg, H.law.check w _ hlx, h2, hat, H.law.stays w hlx, MapKept.run_setObj_map _ (show w.heap[b]? = some (.map _ _) from hb), Result.andThen, goInt]
omit [DecidableEq K] in
theorem run_entryStore {m : List (K × V)} {j : Nat} (hj : j < m.length) (v : V) {w : World} {b : Nat} (hb : w.heap[b]? = some (mapObj (encM kv vv m))) :
    (Instr.entryStore t (.map (some b)) (.int .i64 j) (vv v)).run P w = .ok () { w with heap := w.heap.setIfInBounds b (mapObj (encM kv vv (m.set j (m[j].1, v)))) } := by
  have hl : (encM kv vv m).length = m.length := by simp [encM]
  have hg := MapKept.run_getObj_map (P := P) (show w.heap[b]? = some (.map _ _) from hb)
  have hf : (entriesM 0 (encM kv vv m)).findIdx? (fun en => (en.born : Int) == (j : Int)) = some j := by
    have hlen : (entriesM 0 (encM kv vv m)).length = m.length := by rw [entriesM_len, hl]
    have hat : ∀ (i : Nat) (h : i < m.length), (entriesM 0 (encM kv vv m))[i]'(by rw [hlen]; exact h) = ⟨kv m[i].1, vv m[i].2, i⟩ := fun i h => by
      rw [entriesM_get _ _ _ (by rw [hl]; exact h)]
      simp [encM]
    rw [List.findIdx?_eq_some_iff_getElem]
    refine ⟨by rw [hlen]; exact hj, ?_, fun i hi => ?_⟩
    · rw [hat j hj]; exact beq_self_eq_true _
    · rw [hat i (by omega)]; show ¬ ((i : Int) == (j : Int)) = true; rw [beq_iff_eq]; omega
  rw [mapObj_set hj (fun en => { en with val := vv v }) m[j].1 v (fun _ => rfl)]
  simp [Instr.entryStore, hg, asInt, asIntOf, hf, MapKept.run_setObj_map _ (show w.heap[b]? = some (.map _ _) from hb), Result.andThen]
end
end
end Go.Proofs.YtgppfikidagfpaaGreatDoor
