/-
  Part 28 of the texts that the claims of this seat lean on: walks of the program's functions by contracts over symbolic frames, and plain laws of what they compute. No condition.
-/
import Derived.ArgAppend
import Derived.Test.YtmlikmldfdgmcaaGreatVp4
import Derived.Test.YtmlikmldfdgmcaaGreatVp6
import Derived.Test.YtmlikmldfdgmcaaGreatVp10
import Derived.Test.YtmlikmldfdgmcaaGreatVp11
import Derived.Test.YtmlikmldfdgmcaaGreatVp19
import Derived.Test.YtmlikmldfdgmcaaGreatVp20
import Derived.Test.YtmlikmldfdgmcaaGreatVp24
import Derived.Test.YtmlikmldfdgmcaaGreatVp27
set_option linter.unusedVariables false
set_option linter.unusedSimpArgs false
set_option linter.unusedSectionVars false
namespace Go.Proofs.YtmlikmldfdgmcaaGreat
open Go.RowKit
set_option maxRecDepth 100000
abbrev NoDef (ops : List Oper) : Prop := (ops.all fun o => match o.op with | .defer _ => false | _ => true) = true
theorem NoDef.at {ops : List Oper} (h : NoDef ops) : ∀ o ∈ ops, ∀ c, o.op ≠ .defer c := fun o ho c hc => by have := List.all_eq_true.1 h o ho; rw [hc] at this; cases this
theorem wpAnyIn_round {P : Program} {md : Region.Mode} {ops : Array Oper} {Q : Exit → Act → World → Prop} {l : Nat} (hd : ∀ o ∈ ops.toList, ∀ c, o.op ≠ .defer c) : ∀ {fuel : Nat} {listed : Array Bool} {a : Act} {w : World}, wpAnyIn Fence.wide 0 P md ops Q fuel listed a w → wpAnyIn (Fence.wide.inRound l) 0 P md ops Q fuel listed a w
  | 0, _, _, _, h => h
  | fuel + 1, listed, a, w, h => by
    refine ⟨h.1, fun i hi => ?_⟩
    have h1 := h.2 i hi
    unfold wpOpIn at h1 ⊢
    cases ho : ops[i]? with
    | none => simp only [ho] at h1; exact wpAnyIn_round hd h1
    | some o =>
      simp only [ho] at h1
      have hm : o ∈ ops.toList := by rw [← Array.getElem?_toList] at ho; exact List.mem_of_getElem? ho
      show if _ then _ else _
      split
      · rename_i hw
        rw [if_pos hw] at h1
        exact oper_round (hd o hm) (Oper.wpIn_mono (fun a w h => wpAnyIn_round hd h) h1)
      · rename_i hw
        rw [if_neg hw] at h1
        exact ⟨fun _ _ => trivial, wpAnyIn_round hd h1.2⟩
section
variable {P : Program} {l : Nat} {Q : Post} {fr : List Dat} {hp : List HObj} {c : Code} {d : Dat}
theorem WR.on (h : WR P l Q c fr hp) {P0 : Nat → Prop} {B : Nat} {w0 w : World} {a : Act} (hh : Hp P0 B w0 hp w) (hf : Fr (Imm P0 B hp) w a fr) : c.wpIn (Fence.wide.inRound l) 0 P (lift Q P0 B w0) a w := h.out _ _ _ _ _ hh hf
theorem WR.id (h : WR P l Q c fr hp) : WR P l Q c fr hp := h
theorem WR.mono {Q' : Post} (h : WR P l Q c fr hp) (k : ∀ e f p, Q e f p → Q' e f p) : WR P l Q' c fr hp := WR.of fun _ _ _ _ _ hh hf => wpIn_mono (h.on hh hf) fun _ _ _ ⟨f, p, q, r⟩ => ⟨f, p, k _ _ _ q, r⟩
theorem WR.seqK {x y : Code} (h : ∀ K : List Dat → List HObj → Prop, (∀ f p, WR P l Q y f p → Kont K f p) → WR P l (ThenD (Kont K) Q) x fr hp) : WR P l Q (.seq x y) fr hp :=
  WR.seq ((h (WR P l Q y) fun _ _ h => ⟨h⟩).mono fun e f p q => by
    cases e with
    | normal => exact (q : Kont _ f p).out
    | _ => exact q)
section
variable {cc : Operand} {x y : Code} {p : Prop} {_ip : Decidable p} {b : Bool}
theorem WR.condT (hc : OpD fr cc (dB b)) (hb : b = true) (h : WR P l Q x fr hp) : WR P l Q (.cond cc x y) fr hp := WR.cond hc (fun _ => h) (fun h => by rw [hb] at h; cases h)
theorem WR.condF (hc : OpD fr cc (dB b)) (hb : b = false) (h : WR P l Q y fr hp) : WR P l Q (.cond cc x y) fr hp := WR.cond hc (fun h => by rw [hb] at h; cases h) (fun _ => h)
theorem WR.condD (hc : OpD fr cc (dB (decide p))) (ht : p → WR P l Q x fr hp) (hf : ¬ p → WR P l Q y fr hp) : WR P l Q (.cond cc x y) fr hp := WR.cond hc (fun h => ht (of_decide_eq_true h)) (fun h => hf (of_decide_eq_false h))
theorem WR.condN (hc : OpD fr cc (dB (!decide p))) (ht : ¬ p → WR P l Q x fr hp) (hf : p → WR P l Q y fr hp) : WR P l Q (.cond cc x y) fr hp := WR.cond hc (fun h => ht (by simpa using h)) (fun h => hf (by simpa using h))
theorem WR.condNB (hc : OpD fr cc (dB (!b))) (ht : b = false → WR P l Q x fr hp) (hf : b = true → WR P l Q y fr hp) : WR P l Q (.cond cc x y) fr hp := WR.cond hc (fun h => ht (by simpa using h)) (fun h => hf (by simpa using h))
end
theorem WR.weak {fr' : List Dat} (h : WR P l Q c fr' hp) (hl : fr.length = fr'.length) (k : ∀ (t : Nat) (d : Dat), fr'[t]? = some d → ∃ d0 : Dat, fr[t]? = some d0 ∧ d0.le d) : WR P l Q c fr hp := WR.of fun _ _ _ _ _ hh hf => h.on hh (hf.weak hl k)
theorem WR.loopU {X : Type} (ups : X → List (Nat × Dat)) (H : X → List HObj) (μ : X → Nat) (p : X → Prop) (x0 : X) (h0 : p x0) (hF : LeF fr (upds fr (ups x0))) (hH : hp = H x0)
    (round : ∀ x, p x → WR P l (ThenD (fun f q => ∃ x', p x' ∧ μ x' < μ x ∧ q = H x' ∧ LeF f (upds fr (ups x'))) Q) c (upds fr (ups x)) (H x)) : WR P l Q (.loop c) fr hp := by
  refine WR.of fun P0 B w0 w a hh hf => ?_
  have hf1 := hf.weak hF.out.1 hF.out.2
  subst hH
  intro b k cs hro hb hr
  have key : ∀ (j : Nat) (x : X) (a' : Act) (w' : World), μ x = j → p x → Hp P0 B w0 (H x) w' → Fr (Imm P0 B (H x)) w' a' (upds fr (ups x)) →
      ∃ e a2 w2, lift Q P0 B w0 e a2 w2 ∧ ArrivesIn (Machine.fenced P (Fence.wide.inRound l)) P (lone (b.atR a' (.code c :: .inLoop c :: k)) cs w') b k cs e a2 w2 := by
    intro j
    induction j using Nat.strongRecOn with
    | _ j ih =>
      intro x a' w' hn hp' hh' hf'
      obtain ⟨e, a1, w1, hq, harr⟩ := (round x hp').on hh' hf' b (.inLoop c :: k) cs hro hb hr
      cases e with
      | normal =>
        obtain ⟨f, q, hq, h1, h2⟩ := hq
        obtain ⟨x', p1, p2, rfl, p4⟩ := (hq : ∃ x', _)
        obtain ⟨e2, a2, w2, hq2, harr2⟩ := ih (μ x') (hn ▸ p2) x' a1 w1 rfl p1 h1 (h2.weak p4.out.1 p4.out.2)
        exact ⟨e2, a2, w2, hq2, .of_steps (StepsIn.trans harr (.one (fenced_calm hb hr rfl) stepR_inLoop)) harr2⟩
      | exit id => exact ⟨_, a1, w1, hq, .pass (x := .inLoop c) rfl (fun _ _ => .inl (by simp)) harr⟩
      | goto l => exact ⟨_, a1, w1, hq, .pass (x := .inLoop c) rfl (fun _ _ => .inl (by simp)) harr⟩
      | ret => exact ⟨_, a1, w1, hq, .pass (x := .inLoop c) rfl (fun _ _ => .inl (by simp)) harr⟩
      | panic ch => exact ⟨_, a1, w1, hq, .pass (x := .inLoop c) rfl (fun _ _ => .inl (by simp)) harr⟩
      | outgrown => exact ⟨_, a1, w1, hq, .pass (x := .inLoop c) rfl (fun _ _ => .inl (by simp)) harr⟩
  obtain ⟨e, a', w', hq, harr⟩ := key _ x0 a w rfl h0 hh hf1
  exact ⟨e, a', w', hq, .of_steps (.one (fenced_calm hb hr rfl) stepR_loop) harr⟩
theorem WR.perm {hp' : List HObj} (hp1 : hp.Perm hp') (h : WR P l Q c fr hp') : WR P l Q c fr hp := WR.of fun _ _ _ _ _ hh hf =>
  let ⟨h1, h2⟩ := hh.perm hp1
  h.on h1 (hf.mono fun d _ hd => d.weak hd fun k hk => (h2 k).1 hk)
theorem WR.drop {o : HObj} (h : WR P l Q c fr hp) : WR P l Q c fr (o :: hp) := WR.of fun _ _ _ _ _ hh hf => h.on hh.drop (hf.mono fun d _ hd => d.weak hd Imm.sub)
theorem WR.know {p : Prop} {t : Nat} (ht : fr[t]? = some d) (hd : ∀ (I : Nat → Prop) (w : World) (v : Value), d.rd I w v → p) (h : p → WR P l Q c fr hp) : WR P l Q c fr hp := WR.of fun _ _ _ _ _ hh hf => (h (hd _ _ _ (hf.rd t d ht))).on hh hf
theorem WR.nilRow {α : Type} (e : TypeId) (R : Rel α) [Good R] (h : WR P l Q c fr (hRow (.slice none 0 0) e R ([] : List α) :: hp)) : WR P l Q c fr hp := WR.of fun _ _ _ _ _ hh hf =>
  h.on (hh.push (Ext.refl _) (by simp [hRow, Value.ownBlock]) Own.nil) (hf.mono fun _ _ hd => Hp.pushed (Ext.refl _) (by simp [hRow, Value.ownBlock]) hd)
theorem WR.drawTail {id : Nat} {ops : List Oper} (n : Nat) (hm : P.follows .mixedOrders = true) (hB : Region.lexTailB .any ops.toArray n = true) (hd : NoDef ops)
    (h : WD P ops.toArray hp (fun f => I.WL P ops.toArray Q (ops.drop n) f hp) (ops.take n) fr) : WR P l Q (.region id ops.toArray true) fr hp := by
  refine WR.of fun P0 B w0 w a hh hf => ?_
  simp only [Region.lexTailB, Bool.and_eq_true, decide_eq_true_eq] at hB
  obtain ⟨⟨⟨⟨hsel, hn⟩, hs⟩, hc⟩, hlex⟩ := hB
  have hn' : n < ops.length := by simpa using hn
  have htl : (ops.take n).length = n := by simp; omega
  have hdl : (ops.drop n).length = ops.toArray.size - n := by simp
  have inv0 : HeadInv .any ops.toArray n (Array.replicate ops.toArray.size false) :=
    ⟨by simp, fun j oj _ hl => (by rw [getD_replicate_false] at hl; cases hl), fun t _ ht => getD_in (by simpa using ht) (getD_replicate_false _ _)⟩
  have H := wpAnyDL_lex (md := .any) (g := ops.toArray.size - n) hs hc hn (ops.take n) 0 _ fr (fun j hj => by
    have hj' : j < n := by rw [htl] at hj; exact hj
    simp [hj']) (by simpa using htl) inv0 (by rw [htl]; exact hlex) h
  have hx : Ext w { w with drawn := w.drawn + 1 } := (Ext.refl w).drew
  refine wpIn_region_any (n := 0) hm (wpAnyIn_round (fun o ho c => hd.at o (by simpa using ho) c) ?_)
  have := I.wpAnyIn_of_headD (Q' := lift Q P0 B w0) (g := ops.toArray.size - n) _ _ _ _ _ (hh.ext hx) (hf.ext hx) (fun listed fr' a' w' e hh' hf' hL => by
    have := I.wpAnyIn_of_seq (md := .any) (Q' := lift Q P0 B w0) (ops.drop n) n listed a' w' (fun j => by simp [List.getElem?_drop]) (by rw [hdl]; exact hL.1) (hL.2.on hh' hf')
    rwa [hdl] at this) H
  rw [htl, show n + (ops.toArray.size - n) = ops.toArray.size by omega] at this
  exact this
theorem WR.drawW {id : Nat} {ops : List Oper} {β : Type} (n : Nat) (H : β → List HObj) (D : β → Dat) (ow : Oper) (how : ops[n]? = some ow) (hm : P.follows .mixedOrders = true) (hB : Region.lexTailB .any ops.toArray (n + 1) = true) (hd : NoDef ops)
    (h : WDs P ops.toArray hp H (fun f => SW P ops.toArray hp H D ow f ∧ ∀ x, I.WL P ops.toArray Q (ops.drop (n + 1)) (setD f ow.dst (D x)) (H x)) (ops.take n) fr) : WR P l Q (.region id ops.toArray true) fr hp := by
  refine WR.of fun P0 B w0 w a hh hf => ?_
  simp only [Region.lexTailB, Bool.and_eq_true, decide_eq_true_eq] at hB
  obtain ⟨⟨⟨⟨hsel, hn⟩, hs⟩, hc⟩, hlex⟩ := hB
  have hn' : n + 1 < ops.length := by simpa using hn
  have htl : (ops.take n).length = n := by simp; omega
  have hdl : (ops.drop (n + 1)).length = ops.toArray.size - (n + 1) := by simp
  have inv0 : HeadInv .any ops.toArray (n + 1) (Array.replicate ops.toArray.size false) :=
    ⟨by simp, fun j oj _ hl => (by rw [getD_replicate_false] at hl; cases hl), fun t _ ht => getD_in (by simpa using ht) (getD_replicate_false _ _)⟩
  obtain ⟨dd, hch⟩ := h.ch (ops.take n) 0 fr
  have HW := wpAnyW_lex (n := n) (Lq := fun f c => I.WL P ops.toArray Q (ops.drop (n + 1)) f (HH hp H c)) (md := .any) (g := ops.toArray.size - (n + 1)) (ow := ow) (m := n) (by simpa using how) hs hc hn (ops.take n) 0 _ fr (fun j hj => by
    have hj' : j < n := by rw [htl] at hj; exact hj
    simp [hj']) (by simpa using htl) inv0 (fun j hj => by omega) (by rw [htl]; exact hlex) hch
  have hx : Ext w { w with drawn := w.drawn + 1 } := (Ext.refl w).drew
  refine wpIn_region_any (n := 0) hm (wpAnyIn_round (fun o ho c => hd.at o (by simpa using ho) c) ?_)
  have := I.wpAnyIn_of_headW (Q' := lift Q P0 B w0) (g := ops.toArray.size - (n + 1)) _ _ _ none _ _ (hh.ext hx) (hf.ext hx) (fun listed fr' c a' w' hh' hf' hL => by
    have := I.wpAnyIn_of_seq (md := .any) (Q' := lift Q P0 B w0) (ops.drop (n + 1)) (n + 1) listed a' w' (fun j => by simp [List.getElem?_drop]) (by rw [hdl]; exact hL.1) (hL.2.on hh' hf')
    rwa [hdl] at this) HW
  rw [htl, show n + 1 + (ops.toArray.size - (n + 1)) = ops.toArray.size by omega] at this
  exact this
end
namespace I
section
variable {P : Program} {ops : Array Oper} {hp : List HObj} {fr : List Dat} {d : Dat} {Q : Post} {rest : List Oper} {dst : Option Tmp} {op : Op} {ty : TypeId} {ps : String} {af : Array Edge}
theorem WL.opN (h : SY P ops hp { dst := dst, op := op, type := ty, pos := ps, after := af, guard := none } fr d) (k : WL P ops Q rest (setD fr dst d) hp) : WL P ops Q ({ dst := dst, op := op, type := ty, pos := ps, after := af, guard := none } :: rest) fr hp := WL.opG (SYG.yes (want_none rfl) h) k
end
end I
end Go.Proofs.YtmlikmldfdgmcaaGreat
namespace Go.Proofs.YtmlikmldfdgmcaaGreat
open Go.RowKit
set_option maxRecDepth 100000
def hVals {K α : Type} (R : Rel α) [Good R] (M : List (K × Value × α)) : HObj where
  blk := none
  ok := fun I w => ∀ p ∈ M, R I w p.2.1 p.2.2
  weak := fun h q p hp => Good.weak (h p hp) q
  bound := fun h p hp => Good.bound (h p hp)
  move := fun h hg hP _ p hp => (dS R p.2.2).grown (h p hp) hg hP
abbrev hMC {K α : Type} (b : Nat) (kv : K → Value) (M : List (K × Value × α)) : HObj := hM b kv (fun u : Value × α => u.1) M
theorem putM_mem {K V : Type} [DecidableEq K] {m : List (K × V)} {x : K} {v : V} {p : K × V} (h : p ∈ putM m x v) : p = (x, v) ∨ p ∈ m := by
  unfold putM at h
  split at h
  · obtain ⟨q, hq, rfl⟩ := List.mem_map.1 h
    split
    · exact .inl rfl
    · exact .inr hq
  · rcases List.mem_append.1 h with h | h
    · exact .inr h
    · exact .inl (List.mem_singleton.1 h)
theorem lookM_isSome {K V : Type} [DecidableEq K] {m : List (K × V)} {x : K} : (lookM m x).isSome = true ↔ x ∈ m.map (·.1) := by
  unfold lookM
  rw [Option.isSome_map, List.find?_isSome]
  constructor
  · rintro ⟨p, hp, he⟩
    exact List.mem_map.2 ⟨p, hp, of_decide_eq_true he⟩
  · intro h
    obtain ⟨p, hp, he⟩ := List.mem_map.1 h
    exact ⟨p, hp, decide_eq_true he⟩
theorem putC_keys {K V : Type} [DecidableEq K] (m : List (K × V)) (x : K) (v : V) : (putM m x v).map (·.1) = if x ∈ m.map (·.1) then m.map (·.1) else m.map (·.1) ++ [x] := by
  unfold putM
  by_cases h : x ∈ m.map (·.1)
  · rw [if_pos (lookM_isSome.2 h), if_pos h, List.map_map]
    refine List.map_congr_left fun p _ => ?_
    show (if p.1 = x then (x, v) else p).1 = p.1
    split
    · rename_i e; exact e.symm
    · rfl
  · rw [if_neg fun q => h (lookM_isSome.1 q), if_neg h, List.map_append]
    rfl
section
variable {P : Program} {ops : Array Oper} {hp : List HObj} {fr : List Dat} {d : Dat} {Q : Post} {rest : List Oper}
variable {dst : Option Tmp} {ty : TypeId} {ps : String} {af : Array Edge} {g : Option (Nat × Bool)} {t k e : TypeId} {z : Value} {K α : Type} [DecidableEq K] {kv : K → Value} {ok : K → Prop} {R : Rel α} [Good R] {b : Nat} {M : List (K × Value × α)}
theorem SY.nilCk {x : Operand} {ad : Addr} (hx : OpD fr x (dX (.pointer (some ad)))) : SY P ops hp { dst := dst, op := .nilCheck x, type := ty, pos := ps, after := af, guard := g } fr (dX (.pointer (some ad))) := SY.val fun {I w a} ho => by
  have h1 : a.eval x = .pointer (some ad) := hx.get (by simp [Op.operands]) ho
  refine ⟨.pointer (some ad), ?_, rfl⟩
  unfold execOp
  simp only [h1, Sem.run_pure]
theorem Hp.putMC {P0 : Nat → Prop} {B : Nat} {w0 w : World} {v : K} {u : α} {cv : Value} (hh : Hp P0 B w0 (hMC b kv M :: hVals R M :: hp) w) (hu : R (Imm P0 B (hMC b kv M :: hVals R M :: hp)) w cv u) :
    Hp P0 B w0 (hMC b kv (putM M v (cv, u)) :: hVals R (putM M v (cv, u)) :: hp) (w.putObj b (mapObj (encM kv (fun u : Value × α => u.1) (putM M v (cv, u))))) ∧
      ∀ (d : Dat) (y : Value), d.rd (Imm P0 B (hMC b kv M :: hVals R M :: hp)) w y → d.rd (Imm P0 B (hMC b kv (putM M v (cv, u)) :: hVals R (putM M v (cv, u)) :: hp)) (w.putObj b (mapObj (encM kv (fun u : Value × α => u.1) (putM M v (cv, u))))) y := by
  have h1 : Hp P0 B w0 (hMC b kv (putM M v (cv, u)) :: hVals R M :: hp) (w.putObj b (mapObj (encM kv (fun u : Value × α => u.1) (putM M v (cv, u))))) := Hp.putObj hh
  have hg : (hVals R (putM M v (cv, u))).blk = none := rfl
  have hg0 : (hVals R M).blk = none := rfl
  have hrd : ∀ (d : Dat) (y : Value), d.rd (Imm P0 B (hMC b kv M :: hVals R M :: hp)) w y → d.rd (Imm P0 B ([hMC b kv (putM M v (cv, u))] ++ hVals R M :: hp)) (w.putObj b (mapObj (encM kv (fun u : Value × α => u.1) (putM M v (cv, u))))) y := fun d y hd => Hp.putObj_rd hd
  have hv : (hVals R (putM M v (cv, u))).ok (Imm P0 B ([hMC b kv (putM M v (cv, u))] ++ hVals R M :: hp)) (w.putObj b (mapObj (encM kv (fun u : Value × α => u.1) (putM M v (cv, u))))) := fun p hp => by
    rcases putM_mem hp with rfl | hp
    · exact hrd (dS R u) cv hu
    · exact h1.ok (hVals R M) (by simp) p hp
  have h2 := Hp.ghost (l := [hMC b kv (putM M v (cv, u))]) hg h1 hv
  obtain ⟨h3, hI3⟩ := h2.perm (show ([hMC b kv (putM M v (cv, u))] ++ hVals R (putM M v (cv, u)) :: hVals R M :: hp).Perm (hVals R M :: hMC b kv (putM M v (cv, u)) :: hVals R (putM M v (cv, u)) :: hp) from
    ((List.Perm.cons _ (List.Perm.swap _ _ _)).trans (List.Perm.swap _ _ _)))
  refine ⟨h3.drop, fun d y hd => ?_⟩
  have h4 := hrd d y hd
  exact d.weak h4 fun k hk => (imm_ghost hg0 [hMC b kv (putM M v (cv, u)), hVals R (putM M v (cv, u))] k).1 ((imm_ghost hg [hMC b kv (putM M v (cv, u))] k).2 hk)
theorem run_putMC {x y c : Operand} {v : K} {u : α} {w : World} {a : Act} (T : MapT P t k e z) (H : KeyT P k kv ok) (h1 : a.eval x = .map (some b)) (h2 : a.eval y = kv v) (ho : ok v) (hok : ∀ p ∈ M, ok p.1) (hn : (M.map (·.1)).Nodup) (hb : w.heap[b]? = some (mapObj (encM kv (fun u : Value × α => u.1) M))) :
    (execOp a.eval { dst := dst, op := .mapUpdate t x y c, type := ty, pos := ps, after := af, guard := g }).run P w = .ok .skip (w.putObj b (mapObj (encM kv (fun u : Value × α => u.1) (putM M v (a.eval c, u))))) := by
  have h3 := run_update (vv := fun u : Value × α => u.1) T H hok hn ho (a.eval c, u) hb
  simp only at h3
  unfold execOp
  simp only [h1, h2, Sem.run_bind, h3, Result.andThen_ok, Sem.run_pure]
  rfl
theorem WL.putMC {x y c : Operand} {v : K} {u : α} (T : MapT P t k e z) (H : KeyT P k kv ok) (hx : OpD fr x (dX (.map (some b)))) (hy : OpD fr y d) (hd : IsV d (kv v)) (hc : OpD fr c (dS R u)) (ho : ok v) (hok : ∀ p ∈ M, ok p.1) (hn : (M.map (·.1)).Nodup)
    (h : ∀ cv, WL P ops Q rest (setD fr dst (dX undef)) (hMC b kv (putM M v (cv, u)) :: hVals R (putM M v (cv, u)) :: hp)) :
    WL P ops Q ({ dst := dst, op := .mapUpdate t x y c, type := ty, pos := ps, after := af, guard := none } :: rest) fr (hMC b kv M :: hVals R M :: hp) := by
  refine WL.of fun P0 B w0 w a hh hf => ?_
  have hrun := run_putMC (dst := dst) (ty := ty) (ps := ps) (af := af) (g := none) (c := c) (u := u) T H (hx.ev hf) (hd.is _ _ _ (hy.ev hf)) ho hok hn (hh.ok (hMC b kv M) (by simp))
  obtain ⟨h1, h2⟩ := Hp.putMC (v := v) hh (hc.ev hf)
  refine wpList_plain rfl fun K hK => ?_
  unfold Oper.wp
  rw [hrun]
  exact hK _ _ ((h _).on h1 (Fr.put (hf.mono h2) (d := dX undef) rfl))
theorem I.WL.putMC {x y c : Operand} {v : K} {u : α} (T : MapT P t k e z) (H : KeyT P k kv ok) (hx : OpD fr x (dX (.map (some b)))) (hy : OpD fr y d) (hd : IsV d (kv v)) (hc : OpD fr c (dS R u)) (ho : ok v) (hok : ∀ p ∈ M, ok p.1) (hn : (M.map (·.1)).Nodup)
    (h : ∀ cv, I.WL P ops Q rest (setD fr dst (dX undef)) (hMC b kv (putM M v (cv, u)) :: hVals R (putM M v (cv, u)) :: hp)) :
    I.WL P ops Q ({ dst := dst, op := .mapUpdate t x y c, type := ty, pos := ps, after := af, guard := none } :: rest) fr (hMC b kv M :: hVals R M :: hp) := by
  refine I.WL.of fun P0 B w0 w a hh hf => ?_
  have hrun := run_putMC (dst := dst) (ty := ty) (ps := ps) (af := af) (g := none) (c := c) (u := u) T H (hx.ev hf) (hd.is _ _ _ (hy.ev hf)) ho hok hn (hh.ok (hMC b kv M) (by simp))
  obtain ⟨h1, h2⟩ := Hp.putMC (v := v) hh (hc.ev hf)
  refine wpListIn_plainW rfl fun K hK => ?_
  unfold Oper.wp
  rw [hrun]
  exact hK _ _ ((h _).on h1 (Fr.put (hf.mono h2) (d := dX undef) rfl))
theorem SY.lookMC {x y : Operand} {v : K} (T : MapT P t k e z) (H : KeyT P k kv ok) (hx : OpD fr x (dX (.map (some b)))) (hm : hMC b kv M ∈ hp) (hv : hVals R M ∈ hp) (hy : OpD fr y d) (hd : IsV d (kv v)) (ho : ok v) (hok : ∀ p ∈ M, ok p.1) (hn : (M.map (·.1)).Nodup) {cv : Value} {u : α} (hl : (v, cv, u) ∈ M) :
    SY P ops hp { dst := dst, op := .lookup t x y false, type := ty, pos := ps, after := af, guard := g } fr (dS R u) := SY.valE fun {P0 B w0 w a} hh hon => by
  have h1 : a.eval x = _ := hx.get (by simp [Op.operands]) hon
  have h2 := hd.is _ _ _ (hy.get (by simp [Op.operands]) hon)
  have h3 : Go.Proofs.YtmlikmldfdgmcaaGreat.lookM M v = some (cv, u) := by
    obtain ⟨j, hj, he⟩ := List.getElem_of_mem hl
    have := Go.Proofs.YtmlikmldfdgmcaaGreat.lookM_some hn hj
    rw [he] at this
    exact this
  refine ⟨cv, w, ?_, Ext.refl _, hh.ok _ hv _ hl⟩
  unfold execOp
  simp only [h1, h2, Sem.run_bind, run_lookup T H hok hn ho (hh.ok _ hm) false, h3, Result.andThen_ok, Sem.run_pure]
  rfl
theorem WL.pin (t : Nat) (ht : fr[t]? = some d) (h : ∀ v, WL P ops Q rest (fr.set t (dX v)) (hKnow v d :: hp)) : WL P ops Q rest fr hp := WL.of fun P0 B w0 w a hh hf => by
  have hg : (hKnow (a.tmps.getD t undef) d).blk = none := rfl
  have hd := hf.rd t d ht
  refine (h (a.tmps.getD t undef)).on (Hp.ghost (l := []) hg hh hd) ⟨hf.defers, by rw [hf.size, List.length_set], fun t' d' hd' => ?_⟩
  by_cases htt : t = t'
  · subst htt
    rw [List.getElem?_set] at hd'
    simp only [if_true] at hd'
    split at hd'
    · cases hd'; rfl
    · cases hd'
  · rw [List.getElem?_set_ne htt] at hd'
    exact d'.weak (hf.rd t' d' hd') fun k => (imm_ghost hg [] k).2
end
namespace I
section
variable {P : Program} {ops : Array Oper} {hp : List HObj} {fr : List Dat} {d e : Dat} {Q : Post} {rest : List Oper}
variable {dst : Option Tmp} {ty : TypeId} {ps : String} {af : Array Edge} {g : Option (Nat × Bool)} {T T1 T2 : TypeId} {b off k n : Nat} {ds ds' : List Dat}
theorem WL.storeS {t : Nat} {x : Operand} (T' : TyI P T1 1 false) (hp0 : OpD fr (.tmp t) (dX (.pointer (some ⟨b, k, none⟩)))) (hx : OpD fr x d) (hs : d.Shape 1 false) (hk : k < ds.length)
    (h : WL P ops Q rest (setD fr dst (dX undef)) (hStr b T2 (ds.set k d) :: hp)) :
    WL P ops Q ({ dst := dst, op := .store T1 (.tmp t) x, type := ty, pos := ps, after := af, guard := none } :: rest) fr (hStr b T2 ds :: hp) := by
  refine WL.of fun P0 B w0 w a hh hf => ?_
  obtain ⟨cs, c1, c2, c3, c4⟩ := hh.ok (hStr b T2 ds) (by simp)
  have h1 : a.eval (.tmp t) = _ := hp0.ev hf
  have hd : d.rd (Imm P0 B (hStr b T2 ds :: hp)) w (a.eval x) := hx.ev hf
  obtain ⟨us, u1, u0, u2, u3, u4⟩ := hs _ _ _ hd
  obtain ⟨u, rfl⟩ : ∃ u, us = [u] := List.length_eq_one_iff.1 u1
  have hu : a.eval x = u := by
    simp only [Bool.false_eq_true, if_false] at u4
    exact (List.cons.inj u4).1.symm
  have hone : u.oneCell' = true := u2 u (by simp)
  have hdu : d.rd (Imm P0 B (hStr b T2 ds :: hp)) w u := by rw [hu] at hd; exact hd
  have hkc : k < cs.length := by omega
  have hset := setCell_eq_setRow w b k cs.toArray T2 (0, 0) u c1
  have hc : w.cell? ⟨b, k, none⟩ = some cs[k] := by simp [World.cell?, c1, hkc]
  have hfz : w.frozen? ⟨b, k, none⟩ = false := by simp [World.frozen?, c1]
  have hst : (store ((⟨b, k, none⟩ : Addr).add 0) u).run P w = .ok () (w.setCell ⟨b, k, none⟩ u) := by
    rw [show ((⟨b, k, none⟩ : Addr).add 0) = ⟨b, k, none⟩ from rfl, run_store P w _ u _ hone, hc]
    simp [hfz]
  have hsz : (sizeOf T1).run P w = .ok 1 w := by
    have h5 := T'.size
    cases hq : P.info? T1 with
    | none => rw [hq] at h5; cases h5
    | some i =>
      rw [hq] at h5
      have : i.size = 1 := by simpa using h5
      rw [← this]
      rw [run_sizeOf w hq]
      simp [Program.cellsOf, hq]
  have hw : w.setCell ⟨b, k, none⟩ u = w.setRow b (cs.set k u).toArray := by rw [hset]; simp
  have hrun : (execOp a.eval { dst := dst, op := .store T1 (.tmp t) x, type := ty, pos := ps, after := af, guard := none }).run P w = .ok .skip (w.setRow b (cs.set k u).toArray) := by
    rw [← hw]
    unfold execOp
    simp only [h1, hu, Instr.storeAt, Instr.sureAddr, storeVar, Sem.run_bind, hsz, Result.andThen_ok, Sem.run_pure]
    simp [cells_one hone, storeCells, hst]
  refine wpListIn_plainW rfl fun K hK => ?_
  unfold Oper.wp
  rw [hrun]
  have hgr : w.grownBy (w.setRow b (cs.set k u).toArray) (hStr b T2 ds).blk := grown_setRow
  have hok : (hStr b T2 (ds.set k d)).ok (fun j => Imm P0 B (hStr b T2 ds :: hp) j ∧ j < w.heap.size) (w.setRow b (cs.set k u).toArray) := by
    refine ⟨cs.set k u, setRow_heap w b _ _ _ _ c1, by simp [c2], fun c hc => ?_, fun j c e hc he => ?_⟩
    · rcases List.mem_or_eq_of_mem_set hc with hc | rfl
      · exact c3 c hc
      · exact hone
    · rw [List.getElem?_set] at hc he
      by_cases hjk : k = j
      · rw [if_pos hjk, if_pos (by omega)] at hc he
        cases hc; cases he
        exact d.grown (d.bound hdu) hgr fun j q hj => hj.1.2 (hStr b T2 ds) (by simp) q
      · rw [if_neg hjk] at hc he
        exact e.grown (e.bound (c4 j c e hc he)) hgr fun j q hj => hj.1.2 (hStr b T2 ds) (by simp) q
  exact hK _ _ (h.on (hh.write hgr (.inl rfl) hok) (Fr.put (hf.mono fun _ _ hd => Hp.written (o' := hStr b T2 (ds.set k d)) hgr (.inl rfl) hd) (d := dX undef) rfl))
end
end I
end Go.Proofs.YtmlikmldfdgmcaaGreat
namespace Go.Proofs.YtmlikmldfdgmcaaGreat
open Go.RowKit
set_option maxRecDepth 100000
section
variable {P : Program} {ops : Array Oper} {hp : List HObj} {fr : List Dat} {Q : Post} {rest : List Oper}
variable {dst : Option Tmp} {ty : TypeId} {ps : String} {af : Array Edge} {e t : TypeId} {bytes : Nat} {z : Value} {ag : Bool}
theorem WL.pushFork {s x : Operand} {k : Tmp} {dst2 : Option Tmp} {ty2 : TypeId} {ps2 : String} {af2 : Array Edge} (E : ElT P t e 1 z bytes ag) {α : Type} {R : Rel α} {_gR : Good R} {v : Value} {xs : List α} {y : α} (hs : OpD fr s (dX v)) (hx : OpD fr x (dS R y)) (hsh : ∀ a, (dS R a).Shape 1 false) (hne : s ≠ .tmp k) (hkl : k < fr.length) (hby : 0 < bytes)
    (hlen : (xs.length + 1) * bytes ≤ 140737488355328)
    (same : ∀ b cap, v = .slice (some ⟨b, 0, none⟩) xs.length cap → xs.length + 1 ≤ cap → WL P ops Q rest (setD (fr.set k dA) dst2 (dX (.slice (some ⟨b, 0, none⟩) (xs.length + 1) cap))) (hQ b (xs.length + 1) cap e R (xs ++ [y]) :: hp))
    (new : ∀ v', WL P ops Q rest (setD (fr.set k dA) dst2 (dX v')) (hRow v' e R (xs ++ [y]) :: hRow v e R xs :: hp)) :
    WL P ops Q ({ dst := some k, op := .buildSlice t 1 #[(0, x)], type := ty, pos := ps, after := af, guard := none } :: { dst := dst2, op := .call { callee := .builtin .append, args := #[s, .tmp k], argTypes := #[t, t] }, type := ty2, pos := ps2, after := af2, guard := none } :: rest) fr (hRow v e R xs :: hp) := by
  refine WL.of fun P0 B w0 w a hh hf => ?_
  have hxr := hx.ev hf
  obtain ⟨cs, k1, k0, k2, k3, k4⟩ := hsh y _ _ _ hxr
  simp only [Bool.false_eq_true, if_false] at k4
  subst k4
  have hb := run_buildN (w := w) E (us := [a.eval x]) (css := [[a.eval x]]) rfl (fun i u cs' hu hcs => by
    cases i with
    | zero => cases hu; cases hcs; exact ⟨k3, k1⟩
    | succ i => simp at hu) (by simp)
  refine wpList_value rfl (v := .slice (some ⟨w.heap.size, 0, none⟩) 1 1) (w' := w.alloc (.cells [[a.eval x]].flatten.toArray e)) ?_ ?_
  · unfold execOp
    simp only [List.map_toArray, List.map_cons, List.map_nil, Sem.run_bind]
    have : (Instr.buildSlice t 1 #[(0, a.eval x)]).run P w = .ok (.slice (some ⟨w.heap.size, 0, none⟩) 1 1) (w.alloc (.cells [[a.eval x]].flatten.toArray e)) := hb
    simp only [this, Result.andThen_ok, Sem.run_pure]
  have hxe := Ext.of_alloc w (.cells [[a.eval x]].flatten.toArray e)
  have hh1 := hh.ext hxe
  have hf1 : Fr (Imm P0 B (hRow v e R xs :: hp)) (w.alloc (.cells [[a.eval x]].flatten.toArray e)) (a.put (some k) (.slice (some ⟨w.heap.size, 0, none⟩) 1 1)) (fr.set k dA) := Fr.put (x := some k) (hf.ext hxe) (d := dA) trivial
  have hm : xs.length + 1 ≤ maxLen := by
    have : (xs.length + 1) * 1 ≤ (xs.length + 1) * bytes := Nat.mul_le_mul_left _ hby
    simp only [maxLen]; omega
  have hone : (a.eval x).oneCell' = true := k2 _ (by simp)
  have hcell : ∀ j u, [a.eval x][j]? = some u → (w.alloc (.cells [[a.eval x]].flatten.toArray e)).cell? ((⟨w.heap.size, 0, none⟩ : Addr).add j) = some u := fun j u hu => by
    rw [Addr.add_lit, cell_of_row _ _ _ _ _ _ (alloc_get w _), Nat.zero_add]
    simpa using hu
  have hev : (a.put (some k) (.slice (some ⟨w.heap.size, 0, none⟩) 1 1)).eval s = v := by rw [eval_put_ne hne]; exact hs.ev hf
  have hyr : R (Imm P0 B (hRow v e R xs :: hp)) (w.alloc (.cells [[a.eval x]].flatten.toArray e)) (a.eval x) y := Good.ext (R := R) hxr hxe
  obtain ⟨i0, hi, hz, hsz, hbt⟩ := info_parts E.info
  generalize w.alloc (.cells [[a.eval x]].flatten.toArray e) = w1 at *
  obtain ⟨us, u1, ⟨u2, u3⟩, u4⟩ := (hRow v e R xs).bound (hh1.ok (hRow v e R xs) (by simp))
  rcases u3 with ⟨hv, hz0⟩ | ⟨g, cap, cur, hv, hB, hg, hc1, hc2, hc3, hc4⟩
  · have hx0 : xs = [] := by
      apply List.eq_nil_of_length_eq_zero
      omega
    subst hx0
    obtain ⟨v', w', hr, r1, r2, r3⟩ := app1_step (ty := ty2) E hh1 (ad := ⟨w.heap.size, 0, none⟩) (c := 1) (ys := [y]) (news := [a.eval x]) rfl hcell k2 (fun j h1 h2 => by
        have hj : j = 0 := by simp at h1; omega
        subst hj
        exact hyr) (by simpa using hlen) (by simpa using hm)
    refine wp_append (v := v) (yv := .slice (some ⟨w.heap.size, 0, none⟩) 1 1) hev (eval_put_same (by rw [hf.size]; exact hkl)) hr ?_
    subst hv
    have h2 : Hp P0 B w0 (hRow (.slice none 0 0) e R [] :: hRow v' e R ([] ++ [y]) :: hp) w' := r1.push (Ext.refl _) (by simp [hRow, Value.ownBlock]) Own.nil
    have h3 := WL.perm (List.Perm.swap _ _ _) (new v')
    exact h3.on h2 (Fr.put (x := dst2) (hf1.mono fun d _ hd => Hp.pushed (Ext.refl _) (by simp [hRow, Value.ownBlock]) (Hp.written (o := hRow (.slice none 0 0) e R []) (o' := hRow v' e R ([] ++ [y])) r2 r3 hd)) (d := dX v') rfl)
  · subst hv
    rw [Nat.mul_one] at hc3 hc4
    have hlu : us.length = xs.length := u1
    have hcl : xs.length ≤ cur.toList.length := by simp; omega
    have hold : ∀ j u, us[j]? = some u → w1.cell? ((⟨g, 0, none⟩ : Addr).add j) = some u := fun j u hj => by
      have hlt := (List.getElem?_eq_some_iff.1 hj).1
      rw [← hc4, List.getElem?_take, if_pos (by omega)] at hj
      rw [Addr.add_lit, Nat.zero_add]
      simp only [World.cell?, hg]
      simpa using hj
    by_cases hroom : xs.length + 1 ≤ cap
    · have hin : xs.length < cur.size := by omega
      have hr := run_append_room_cells (P := P) w1 t ty2 e i0 E.und hi g 0 xs.length cap ⟨w.heap.size, 0, none⟩ 1 1 [a.eval x] (by simp [hsz]) hcell k2 hroom (fun j hj => by
        have hj0 : j = 0 := by simp at hj; omega
        subst hj0
        rw [hsz]
        simp [World.cell?, hg, hin]) (fun j hj => by simp [World.frozen?, hg])
      rw [hsz, Nat.zero_add, Nat.mul_one] at hr
      refine wp_append (v := _) (yv := .slice (some ⟨w.heap.size, 0, none⟩) 1 1) hev (eval_put_same (by rw [hf.size]; exact hkl)) hr ?_
      have hgr : w1.grownBy (w1.setCells g xs.length [a.eval x]) (some g) := row_grown
      have hsplit : cur = (cur.toList.take xs.length ++ (cur.toList.drop xs.length).take 1 ++ cur.toList.drop (xs.length + 1)).toArray := by
        apply Array.ext'
        show cur.toList = _
        rw [List.append_assoc, ← List.drop_drop, List.take_append_drop, List.take_append_drop]
      have hg2 : (w1.setCells g xs.length [a.eval x]).heap[g]? = some (.cells (cur.toList.take xs.length ++ [a.eval x] ++ cur.toList.drop (xs.length + 1)).toArray e (0, 0)) := by
        have := heap_setCells_mid (g := g) (e := e) (fz := (0, 0)) [a.eval x] ((cur.toList.drop xs.length).take 1) (cur.toList.take xs.length) (cur.toList.drop (xs.length + 1)) w1 (by simp; omega) (by rw [← hsplit]; exact hg)
        rwa [List.length_take, Nat.min_eq_left hcl] at this
      have hmv : ∀ (u : Value) (q : α), R (fun j => (Imm P0 B (hRow (.slice (some ⟨g, 0, none⟩) xs.length cap) e R xs :: hp) j ∧ j < w1.heap.size) ∧ j ≠ g) w1 u q → R (fun j => (Imm P0 B (hRow (.slice (some ⟨g, 0, none⟩) xs.length cap) e R xs :: hp) j ∧ j < w1.heap.size) ∧ (Value.slice (some ⟨g, 0, none⟩) (xs.length + 1) cap).ownBlock ≠ some j) (w1.setCells g xs.length [a.eval x]) u q := fun u q hq =>
        Good.weak (Good.move hq fun j hj hlt => hgr.block j hlt fun he => hj.2 (by cases he; rfl)) fun j hj => ⟨hj.1, fun he => hj.2 (by cases he; rfl)⟩
      have hok : (hQ g (xs.length + 1) cap e R (xs ++ [y])).ok (fun j => Imm P0 B (hRow (.slice (some ⟨g, 0, none⟩) xs.length cap) e R xs :: hp) j ∧ j < w1.heap.size) (w1.setCells g xs.length [a.eval x]) := by
        have hl2 : (us ++ [a.eval x]).length = (xs ++ [y]).length := by rw [List.length_append, List.length_append, hlu]; rfl
        refine ⟨us ++ [a.eval x], hl2, ⟨by rw [hl2, Nat.mul_one], .inr ⟨g, cap, _, by rw [List.length_append]; rfl, Nat.zero_le _, hg2, by rw [List.length_append]; exact hroom, hc2, ?_, ?_⟩⟩, fun j h1 h2 => ?_⟩
        · rw [List.size_toArray]
          simp only [List.length_append, List.length_take, List.length_drop, List.length_singleton, Array.length_toList]
          omega
        · rw [Nat.mul_one, hc4, List.length_append, List.length_singleton, ← hlu]
          show ((us ++ [a.eval x]) ++ _).take _ = _
          rw [List.take_left' (by simp)]
        · by_cases hj : j < us.length
          · rw [List.getElem_append_left hj, List.getElem_append_left (by omega)]
            obtain ⟨q1, q2⟩ := u4 j hj (by omega)
            exact ⟨q1, hmv _ _ (Good.weak q2 fun b hb => ⟨hb.1, fun he => hb.2 (by rw [he]; rfl)⟩)⟩
          · have hj2 : j = us.length := by simp at h1; omega
            subst hj2
            rw [List.getElem_append_right (Nat.le_refl _), List.getElem_append_right (by omega)]
            simp only [Nat.sub_self, hlu, List.getElem_cons_zero]
            exact ⟨hone, hmv _ _ (Good.weak (Good.bound hyr) fun b hb => ⟨hb, fun he => hb.1.2 (hRow (.slice (some ⟨g, 0, none⟩) xs.length cap) e R xs) (by simp) (by rw [he]; rfl)⟩)⟩
      exact (same g cap rfl hroom).on (hh1.write hgr (.inl rfl) hok) (Fr.put (x := dst2) (hf1.mono fun d _ hd => Hp.written (o := hRow (.slice (some ⟨g, 0, none⟩) xs.length cap) e R xs) (o' := hQ g (xs.length + 1) cap e R (xs ++ [y])) hgr (.inl rfl) hd) (d := dX _) rfl)
    · obtain ⟨v', w', hr, r1, r2⟩ := run_append_arg_grows (P := P) w1 t ty2 e i0 z 1 bytes E.und hi hz hsz hbt E.zs Nat.one_pos ⟨g, 0, none⟩ xs.length cap us (by omega) hold ⟨w.heap.size, 0, none⟩ 1 1 [a.eval x] rfl hcell (by omega) hm hlen
      refine wp_append (v := _) (yv := .slice (some ⟨w.heap.size, 0, none⟩) 1 1) hev (eval_put_same (by rw [hf.size]; exact hkl)) hr ?_
      have hx2 : Ext w1 w' := ⟨r2.os, r2.tape, r2.output, r2.size, fun k hk => r2.block k hk (by simp)⟩
      have hob : ∀ k, (hRow v' e R (xs ++ [y])).blk = some k → w1.heap.size ≤ k ∧ k < w'.heap.size := fun k hk => r1.lt k hk
      have hok : (hRow v' e R (xs ++ [y])).ok (fun k => Imm P0 B (hRow (.slice (some ⟨g, 0, none⟩) xs.length cap) e R xs :: hp) k ∧ k < w1.heap.size) w' := by
        have hl2 : (xs ++ [y]).length = xs.length + 1 := by simp
        have hbk : ∀ b, v'.ownBlock = some b → w1.heap.size ≤ b := fun b hb => (hob b hb).1
        obtain ⟨q1, q2⟩ := r1
        refine ⟨us ++ [a.eval x], by simp [hlu], ⟨by rw [hl2]; exact q1, ?_⟩, fun j h1 h2 => ?_⟩
        · rw [hl2]
          rcases q2 with ⟨z1, z2⟩ | ⟨g', c', cur', z1, _, z3⟩
          · exact .inl ⟨z1, z2⟩
          · exact .inr ⟨g', c', cur', z1, Nat.zero_le _, z3⟩
        · by_cases hj : j < us.length
          · rw [List.getElem_append_left hj, List.getElem_append_left (by omega)]
            obtain ⟨p1, p2⟩ := u4 j hj (by omega)
            exact ⟨p1, Good.ext (R := R) (Good.weak p2 fun b hb => ⟨hb.1, fun he => Nat.lt_irrefl _ (Nat.lt_of_lt_of_le hb.1.2 (hbk b he))⟩) hx2⟩
          · have hj2 : j = us.length := by simp at h1; omega
            subst hj2
            rw [List.getElem_append_right (Nat.le_refl _), List.getElem_append_right (by omega)]
            simp only [Nat.sub_self, hlu, List.getElem_cons_zero]
            exact ⟨hone, Good.ext (R := R) (Good.weak (Good.bound hyr) fun b hb => ⟨hb, fun he => Nat.lt_irrefl _ (Nat.lt_of_lt_of_le hb.2 (hbk b he))⟩) hx2⟩
      exact (new v').on (hh1.push hx2 hob hok) (Fr.put (x := dst2) (hf1.mono fun d _ hd => Hp.pushed hx2 (fun k hk => (hob k hk).1) hd) (d := dX v') rfl)
end
end Go.Proofs.YtmlikmldfdgmcaaGreat
