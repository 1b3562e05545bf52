/- Part 6: walks by contracts, and plain laws. -/
import Derived.Deep.MidRow
import Derived.RangeFuncSeq
import Derived.Test.YtjmignmnlpamjaaGreatVa5
set_option linter.unusedVariables false
set_option linter.unusedSimpArgs false
set_option linter.unusedSectionVars false
set_option maxRecDepth 100000
set_option maxHeartbeats 4000000
namespace Go.Proofs.YtjmignmnlpamjaaGreat
section
open Go.RowKit
def hFr (a : Act) (fr : List Dat) : HObj where
 blk := none
 ok := fun I w => ∀ (t : Nat) (d : Dat), fr[t]? = some d -> d.rd I w (a.tmps.getD t undef)
 weak := fun h q t d hd => d.weak (h t d hd) q
 bound := fun h t d hd => d.bound (h t d hd)
 move := fun h hg hP _ t d hd => d.grown (h t d hd) hg hP
section
variable {P : Program} {ops : Array Oper} {hp : List HObj} {o : Oper} {fr : List Dat} {d : Dat} {Q : ZAb} {rest : List Oper}
variable {dst : Option Tmp} {ty : TypeId} {ps : String} {af : Array Edge} {g : Option (Nat × Bool)} {P0 : Nat -> Prop} {B : Nat} {w0 w : World}
theorem ZAo {gh : HObj} (hg : gh.blk = none) (l : List HObj) (k : Nat) : Imm P0 B (l ++ gh :: hp) k ↔ Imm P0 B (l ++ hp) k := by
 unfold Imm
 refine and_congr Iff.rfl ⟨fun h o ho => h o ?_, fun h o ho => ?_⟩
 ·rcases List.mem_append.1 ho with ho | ho
  ·exact List.mem_append_left _ ho
  ·exact List.mem_append_right _ (List.mem_cons_of_mem _ ho)
 ·rcases List.mem_append.1 ho with ho | ho
  ·exact h o (List.mem_append_left _ ho)
  ·rcases List.mem_cons.1 ho with rfl | ho
   ·rw [hg]; simp
   ·exact h o (List.mem_append_right _ ho)
theorem ZEK {gh : HObj} (hg : gh.blk = none) {l : List HObj} (h : Hp P0 B w0 (l ++ hp) w) (hok : gh.ok (Imm P0 B (l ++ hp)) w) : Hp P0 B w0 (l ++ gh :: hp) w where
 base := h.base
 below := h.below
 own := fun o ho k hk => by
  rcases List.mem_append.1 ho with ho | ho
  ·exact h.own o (List.mem_append_left _ ho) k hk
  ·rcases List.mem_cons.1 ho with rfl | ho
   ·rw [hg] at hk; cases hk
   ·exact h.own o (List.mem_append_right _ ho) k hk
 ok := fun o ho => by
  rcases List.mem_append.1 ho with ho | ho
  ·exact o.weak (h.ok o (List.mem_append_left _ ho)) fun k => (ZAo hg l k).2
  ·rcases List.mem_cons.1 ho with rfl | ho
   ·exact o.weak hok fun k => (ZAo hg l k).2
   ·exact o.weak (h.ok o (List.mem_append_right _ ho)) fun k => (ZAo hg l k).2
 apart := by
  have h1 := h.apart
  rw [List.pairwise_append] at h1 ⊢
  refine ⟨h1.1, List.pairwise_cons.2 ⟨fun q _ k hk => (by rw [hg] at hk; cases hk), h1.2.1⟩, fun o ho q hq k hk => ?_⟩
  rcases List.mem_cons.1 hq with rfl | hq
  ·rw [hg]; simp
  ·exact h1.2.2 o ho q hq k hk
theorem Hp.unghost {gh : HObj} (hg : gh.blk = none) {l : List HObj} (h : Hp P0 B w0 (l ++ gh :: hp) w) : Hp P0 B w0 (l ++ hp) w /\ gh.ok (Imm P0 B (l ++ hp)) w := by
 have hm : ∀ o, o ∈ l ++ hp -> o ∈ l ++ gh :: hp := fun o ho => by
  rcases List.mem_append.1 ho with ho | ho
  ·exact List.mem_append_left _ ho
  ·exact List.mem_append_right _ (List.mem_cons_of_mem _ ho)
 refine ⟨⟨h.base, h.below, fun o ho => h.own o (hm o ho), fun o ho => o.weak (h.ok o (hm o ho)) fun k => (ZAo hg l k).1, ?_⟩, gh.weak (h.ok gh (by simp)) fun k => (ZAo hg l k).1⟩
 have h1 := h.apart
 rw [List.pairwise_append] at h1 ⊢
 exact ⟨h1.1, (List.pairwise_cons.1 h1.2.1).2, fun o ho q hq => h1.2.2 o ho q (List.mem_cons_of_mem _ hq)⟩
end
end
section

abbrev Vx := Int × Int
end
section
open Go.RowKit

theorem ZCF {g : Nat} {e : TypeId} {fz : Nat × Nat} : ∀ (vs M A C : List Value) (w : World), M.length = vs.length -> w.heap[g]? = some (.cells (A ++ M ++ C).toArray e fz) -> (w.setCells g A.length vs).heap[g]? = some (.cells (A ++ vs ++ C).toArray e fz)
 | [], M, A, C, w, h, hg => by
  have : M = [] := List.eq_nil_of_length_eq_zero (by simpa using h)
  subst this; exact hg
 | v :: r, [], A, C, w, h, hg => by simp at h
 | v :: r, m :: M, A, C, w, h, hg => by
  have hg' : (w.setCell ⟨g, A.length, none⟩ v).heap[g]? = some (.cells ((A ++ [v]) ++ M ++ C).toArray e fz) := by
   simp only [World.setCell, Array.getElem?_modify, if_true, hg, Option.map_some]
   simp
  have := ZCF r M (A ++ [v]) C _ (by simpa using h) hg'
  rw [World.setCells]
  have e1 : (A ++ [v]).length = A.length + 1 := by simp
  rw [e1] at this
  rw [this]; simp
theorem ZKx {w : World} {g o : Nat} {vs : List Value} : w.grownBy (w.setCells g o vs) (some g) := by
 refine ⟨World.os_setCells w g o vs, ?_, World.output_setCells w g o vs, ?_, fun k hk hne => World.heap_setCells_other w g o vs hk fun e => hne (by rw [e])⟩
 ·revert o w
  induction vs with
  | nil => intros; rfl
  | cons v r ih => intro w o; rw [World.setCells]; exact ih
 ·revert o w
  induction vs with
  | nil => intros; exact Nat.le_refl _
  | cons v r ih =>
   intro w o; rw [World.setCells]
   refine Nat.le_trans ?_ ih
   simp [World.setCell]
section
variable {P : Program} {ops : Array Oper} {hp : List HObj} {o : Oper} {fr : List Dat} {d : Dat} {Q : ZAb} {rest : List Oper}
variable {dst : Option Tmp} {ty : TypeId} {ps : String} {af : Array Edge} {g : Option (Nat × Bool)} {b cap : Nat} {e t T : TypeId} {xs : List Vx} {bytes : Nat} {z : Value} {ag : Bool}
abbrev hV (b N cap : Nat) (e : TypeId) (xs : List Vx) : HObj := ZHd (.slice (some ⟨b, 0, none⟩) N cap) e 2 RV xs
end
end
section
open Go.RowKit
theorem ZJS {ops : Array Oper} {o : Oper} {fr : List Dat} {gi : Nat} {pol : Bool} {t : Tmp} (hg : o.guard = some (gi, pol)) (ht : (ops[gi]?).bind (·.dst) = some t) (hf : fr[t]? = some (dX undef)) : WantS ops o fr false := WantS.mk fun I w a ho => by
 have h1 : a.tmps.getD t undef = undef := ho.2 t (ZGq hg ht) _ hf
 have hlt : t < a.tmps.size := by rw [ho.1]; exact (List.getElem?_eq_some_iff.1 hf).1
 have h2 : a.tmps[t]? = some undef := by
  rw [Array.getD_eq_getD_getElem?] at h1
  rw [Array.getElem?_eq_getElem hlt] at h1 ⊢
  simpa using h1
 simp [Region.wanted, hg, yielded, ht, h2, undef]
end
end Go.Proofs.YtjmignmnlpamjaaGreat
namespace Go.Proofs.YtjmignmnlpamjaaGreat.I
section
open Go.RowKit
theorem ZGy {P : Program} {o : Oper} {a : Act} {w : World} {K : Act -> World -> Prop} {Q : Exit -> Act -> World -> Prop} (h : o.wp P a w K Q) : o.wpIn Fence.wide 0 P a w K Q := by
 refine ⟨fun _ _ => trivial, ?_⟩
 show o.uponIn Fence.wide 0 P a K Q ((execOp a.eval o).run P w)
 unfold Oper.wp at h
 revert h
 generalize (execOp a.eval o).run P w = r
 intro h
 unfold Oper.upon at h
 unfold Oper.uponIn
 split at h
 ·exact h
 ·exact h
 ·exact h
 ·exact ⟨fun h => by simp [Fence.wide] at h, callsIn_wide.2 h⟩
 ·exact ⟨fun h => by simp [Fence.wide] at h, fun c cs _ => let ⟨v, w2, r, s⟩ := h c cs; ⟨v, w2, r, stepsIn_wide.2 s⟩⟩
 ·exact h
 ·exact h.elim
theorem ZCp {P : Program} {ops : Array Oper} {Q : Exit -> Act -> World -> Prop} {rest : List Oper} {o : Oper} {a : Act} {w : World} (hg : o.guard = none)
  (h : ∀ K : Act -> World -> Prop, (∀ a w, wpListIn Fence.wide 0 P ops Q rest a w -> K a w) -> o.wp P a w K Q) : wpListIn Fence.wide 0 P ops Q (o :: rest) a w :=
 wpListIn_plain hg fun K hK => ZGy (h K hK)
end
section
open Go.RowKit
theorem ZE9 {P : Program} {ops : Array Oper} {Q : Exit -> Act -> World -> Prop} {rest : List Oper} {o : Oper} {a : Act} {w : World} (hg : o.guard = none) {v : Value} {w' : World} (h : (execOp a.eval o).run P w = .ok (.value v) w') (hk : wpListIn Fence.wide 0 P ops Q rest (a.put o.dst v) w') : wpListIn Fence.wide 0 P ops Q (o :: rest) a w :=
 ZCp hg fun K hK => by unfold Oper.wp; rw [h]; exact hK _ _ hk
open Go.RowKit



structure WL (P : Program) (ops : Array Oper) (Q : ZAb) (rest : List Oper) (fr : List Dat) (hp : List HObj) : Prop where
 of ::
 out : ∀ (P0 : Nat -> Prop) (B : Nat) (w0 w : World) (a : Act), Hp P0 B w0 hp w -> Fr (Imm P0 B hp) w a fr -> wpListIn Fence.wide 0 P ops (ZDV Q P0 B w0) rest a w
theorem WL.on {P : Program} {ops : Array Oper} {Q : ZAb} {rest : List Oper} {fr : List Dat} {hp : List HObj} (h : WL P ops Q rest fr hp) {P0 : Nat -> Prop} {B : Nat} {w0 w : World} {a : Act} (hh : Hp P0 B w0 hp w) (hf : Fr (Imm P0 B hp) w a fr) : wpListIn Fence.wide 0 P ops (ZDV Q P0 B w0) rest a w := h.out _ _ _ _ _ hh hf
section
variable {P : Program} {ops : Array Oper} {hp : List HObj} {o : Oper} {fr fr' : List Dat} {d : Dat} {Q : ZAb} {rest : List Oper}
theorem WL.nil (h : Q .normal fr hp) : WL P ops Q [] fr hp := WL.of fun _ _ _ _ _ hh hf => ⟨fr, hp, h, hh, hf⟩
theorem ZJ {P : Program} {ops : Array Oper} {hp : List HObj} {o : Oper} {fr : List Dat} {d : Dat} {Q : ZAb} {rest : List Oper} (h : SYG P ops hp o fr d) (k : WL P ops Q rest (ZB fr o.dst d) hp) : WL P ops Q (o :: rest) fr hp := by
 refine WL.of fun P0 B w0 w a hh hf => ?_
 have := h.step (Q := ZDV Q P0 B w0) hh hf (K := wpListIn Fence.wide 0 P ops (ZDV Q P0 B w0) rest) fun a' w' e hf' => k.on (hh.ext e) hf'
 unfold wpListIn
 split
 ·rename_i hw; rw [if_pos hw] at this; exact ZGy this
 ·rename_i hw; rw [if_neg hw] at this; exact ⟨fun _ _ => trivial, this⟩
theorem WL.op (hg : o.guard = none) (h : SY P ops hp o fr d) (k : WL P ops Q rest (ZB fr o.dst d) hp) : WL P ops Q (o :: rest) fr hp := ZJ (.inl ⟨Zi hg, h⟩) k
theorem WL.weak (h : WL P ops Q rest fr' hp) (hl : fr.length = fr'.length) (k : ∀ (t : Nat) (d : Dat), fr'[t]? = some d -> ∃ d0 : Dat, fr[t]? = some d0 /\ d0.le d) : WL P ops Q rest fr hp := WL.of fun _ _ _ _ _ hh hf => h.on hh (hf.weak hl k)

end


open Go.RowKit

section
variable {P : Program} {ops : Array Oper} {hp : List HObj} {o : Oper} {fr : List Dat} {d : Dat} {Q : ZAb} {rest : List Oper}
variable {dst : Option Tmp} {ty : TypeId} {ps : String} {af : Array Edge} {g : Option (Nat × Bool)}

theorem WL.drop {o : HObj} (h : WL P ops Q rest fr hp) : WL P ops Q rest fr (o :: hp) := WL.of fun _ _ _ _ _ hh hf => h.on hh.drop (hf.mono fun d _ hd => d.weak hd Imm.sub)

theorem ZM1 {p : Prop} {t : Nat} (ht : fr[t]? = some d) (hd : ∀ (I : Nat -> Prop) (w : World) (v : Value), d.rd I w v -> p) (h : p -> WL P ops Q rest fr hp) : WL P ops Q rest fr hp := WL.of fun _ _ _ _ _ hh hf => (h (hd _ _ _ (hf.rd t d ht))).on hh hf
theorem WL.id (h : WL P ops Q rest fr hp) : WL P ops Q rest fr hp := h
section
variable {p : Prop} {_ip : Decidable p} {b : Bool} {gi : Nat} {pol : Bool} {t : Tmp} {K : List Dat -> Prop}
theorem ZV (_hg : o.guard = some (gi, pol)) (_ht : (ops[gi]?).bind (·.dst) = some t) (hf : fr[t]? = some (dB b)) (h1 : b = true -> WL P ops Q (o :: rest) (fr.set t (dB true)) hp) (h2 : b = false -> WL P ops Q (o :: rest) (fr.set t (dB false)) hp) : WL P ops Q (o :: rest) fr hp := by
 cases b with
 | true => have := h1 rfl; rwa [ZCy hf] at this
 | false => have := h2 rfl; rwa [ZCy hf] at this
theorem ZZ (hg : o.guard = some (gi, pol)) (ht : (ops[gi]?).bind (·.dst) = some t) (hf : fr[t]? = some (dB (decide p))) (h1 : p -> WL P ops Q (o :: rest) (fr.set t (dB true)) hp) (h2 : ¬ p -> WL P ops Q (o :: rest) (fr.set t (dB false)) hp) : WL P ops Q (o :: rest) fr hp :=
 ZV hg ht hf (fun h => h1 (of_decide_eq_true h)) (fun h => h2 (of_decide_eq_false h))
theorem ZY (hg : o.guard = some (gi, pol)) (ht : (ops[gi]?).bind (·.dst) = some t) (hf : fr[t]? = some (dB (!decide p))) (h1 : ¬ p -> WL P ops Q (o :: rest) (fr.set t (dB true)) hp) (h2 : p -> WL P ops Q (o :: rest) (fr.set t (dB false)) hp) : WL P ops Q (o :: rest) fr hp :=
 ZV hg ht hf (fun h => h1 (by simpa using h)) (fun h => h2 (by simpa using h))
end

end


open Go.RowKit

section
variable {P : Program} {ops : Array Oper} {hp : List HObj} {o : Oper} {fr : List Dat} {d : Dat} {Q : ZAb} {rest : List Oper}
variable {dst : Option Tmp} {ty : TypeId} {ps : String} {af : Array Edge} {g : Option (Nat × Bool)}

theorem WL.alloc {T : TypeId} {n : Nat} {agg : Bool} {z : Value} (hz : TyZ P T z) (hs : (dX z).Shape n agg)
  (h : ∀ b, WL P ops Q rest (ZB fr dst (dX (.pointer (some ⟨b, 0, none⟩)))) (ZAB b T n agg (dX z) :: hp)) : WL P ops Q (⟨dst, .alloc T, ty, ps, af, none⟩ :: rest) fr hp := by
 refine WL.of fun P0 B w0 w a hh hf => ?_
 obtain ⟨cs, k1, k0, k2, k3, k4⟩ := hs (fun _ => True) w z rfl
 have hrun : (execOp a.eval ⟨dst, .alloc T, ty, ps, af, none⟩).run P w = .ok (.value (.pointer (some ⟨w.heap.size, 0, none⟩))) (w.alloc (.cells cs.toArray T)) := by
  cases hq : P.info? T with
  | none => have := hz.out; simp [hq] at this
  | some i =>
   have hz' : i.zero = some z := by have := hz.out; simpa [hq] using this
   unfold execOp
   simp [Instr.alloc, zeroValue, typeInfo, hq, hz', newVar, newRow, k3]
 refine ZE9 rfl hrun ?_
 have hx := ZF w (.cells cs.toArray T)
 have hb : ∀ k, (ZAB w.heap.size T n agg (dX z)).blk = some k -> w.heap.size ≤ k /\ k < (w.alloc (.cells cs.toArray T)).heap.size := fun k hk => by
  cases hk
  exact ⟨Nat.le_refl _, by simp⟩
 refine (h w.heap.size).on (hh.push hx hb ⟨cs, z, ZAT w _, k1, k0, k2, k4, rfl⟩) ?_
 exact Fr.put (hf.mono fun d _ hd => ZAZ hx (fun k hk => (hb k hk).1) hd) rfl

theorem ZGY {t b n : Nat} {T : TypeId} {agg : Bool} (hp0 : fr[t]? = some (dX (.pointer (some ⟨b, 0, none⟩)))) (h : WL P ops Q rest (fr.set t (dP n agg d)) hp) : WL P ops Q rest fr (ZAB b T n agg d :: hp) := by
 refine WL.of fun P0 B w0 w a hh hf => ?_
 obtain ⟨cs, u, c1, c2, c0, c3, c4, c5⟩ := hh.ok (ZAB b T n agg d) (by simp)
 have hown := hh.own (ZAB b T n agg d) (by simp) b rfl
 refine h.on hh.drop ⟨hf.defers, by rw [hf.size, List.length_set], fun t' d' hd' => ?_⟩
 by_cases htt : t = t'
 ·subst htt
  rw [List.getElem?_set] at hd'
  simp only [if_true] at hd'
  split at hd'
  ·cases hd'
   have hv : a.tmps.getD t undef = .pointer (some ⟨b, 0, none⟩) := hf.rd t _ hp0
   rw [hv]
   refine ⟨b, 0, u, rfl, ZBS c1 c2 c0 c3 c4 ⟨.inr hown.1, fun o' ho' hk => ?_⟩, d.weak c5 Imm.sub⟩
   exact (List.pairwise_cons.1 hh.apart).1 o' ho' b rfl hk
  ·cases hd'
 ·rw [List.getElem?_set_ne htt] at hd'
  exact d'.weak (hf.rd t' d' hd') Imm.sub
end


open Go.RowKit

section
variable {P : Program} {ops : Array Oper} {hp : List HObj} {o : Oper} {fr : List Dat} {d : Dat} {Q : ZAb} {rest : List Oper}
variable {dst : Option Tmp} {ty : TypeId} {ps : String} {af : Array Edge} {g : Option (Nat × Bool)}
variable {t e : TypeId} {n bytes : Nat} {z : Value} {ag : Bool}

end


open Go.RowKit

section
variable {P : Program} {ops : Array Oper} {hp : List HObj} {md : Region.Mode} {w : World}

end



open Go.RowKit


open Go.RowKit

open Go.RowKit

open Go.RowKit


end
end Go.Proofs.YtjmignmnlpamjaaGreat.I
namespace Go.Proofs.YtjmignmnlpamjaaGreat
section
open Go.RowKit
def ZN9 (b : Nat) (o : Obj) : HObj where
 blk := some b
 ok := fun _ w => w.heap[b]? = some o
 weak := fun h _ => h
 bound := fun h => h
 move := fun {P w w' row} h hg _ hne => by
  have hlt : b < w.heap.size := (Array.getElem?_eq_some_iff.1 h).1
  refine (hg.block b hlt ?_).trans h
  rcases hne with h | h
  ·cases h
  ·exact h
def ZC9 (v : Value) (d : Dat) : HObj where
 blk := none
 ok := fun I w => d.rd I w v
 weak := fun h q => d.weak h q
 bound := fun h => d.bound h
 move := fun h hg hP _ => d.grown h hg hP
structure CallC (P : Program) (f : FuncId) (ds : List Dat) (hp1 : List HObj) (K : Dat -> List HObj -> Prop) : Prop where
 out : ∀ (P0 : Nat -> Prop) (B : Nat) (w0 : World) (hp : List HObj) (vs : List Value) (W : World), Hp P0 B w0 (hp1 ++ hp) W -> vs.length = ds.length ->
  (∀ (i : Nat) (d : Dat), ds[i]? = some d -> d.rd (Imm P0 B (hp1 ++ hp)) W (vs.getD i undef)) ->
  Calls P f vs.toArray W fun e W' => ∃ v d hp2, e = .returned v /\ K d hp2 /\ Hp P0 B w0 (hp2 ++ hp) W' /\ d.rd (Imm P0 B (hp2 ++ hp)) W' v
section
variable {P : Program} {f : FuncId} {fn : Func} {c : Code} {t : Tmp} {ds : List Dat} {hp1 : List HObj} {K : Dat -> List HObj -> Prop}
def finC (t : Nat) (K : Dat -> List HObj -> Prop) (hp : List HObj) : ZAb := fun e f q => (match e with | .normal | .ret => True | _ => False) /\ ∃ d hp2, f[t]? = some d /\ q = hp2 ++ hp /\ K d hp2
def ZNK (K : Dat -> List HObj -> Prop) (hp : List HObj) : ZAb := fun e _ q => (match e with | .normal | .ret => True | _ => False) /\ ∃ hp2, q = hp2 ++ hp /\ K dA hp2
theorem Zo (hf : P.funcs[f]? = some fn) (hb : fn.body = some c) (hr : fn.results = #[.tmp t])
  (h : ∀ hp, WC P (finC t K hp) c (ds ++ List.replicate (fn.ntmps - ds.length) (dX undef)) (hp1 ++ hp)) : CallC P f ds hp1 K := ⟨fun P0 B w0 hp vs W hh hl hv => by
 refine calls_of_wp hf hb ?_
 have hf0 := ZBw (m := fn.ntmps - ds.length) hl hv
 have hsz : vs.toArray.size = ds.length := by simp [hl]
 rw [hsz]
 refine Code.wp_mono (fun e a' w' ⟨f', p', q, hh', hf'⟩ => ?_) ((h hp).on hh hf0)
 obtain ⟨hx, d', hp2, hd', rfl, hk'⟩ := q
 have hv := hf'.rd t d' hd'
 cases e with
 | normal => exact ⟨hf'.defers, _, results_tmp hr _ _ _, _, d', hp2, rfl, hk', hh', hv⟩
 | ret => exact ⟨hf'.defers, _, results_tmp hr _ _ _, _, d', hp2, rfl, hk', hh', hv⟩
 | _ => exact hx.elim⟩
theorem ZA9 (hf : P.funcs[f]? = some fn) (hb : fn.body = some c) (hr : fn.results = #[])
  (h : ∀ hp, WC P (ZNK K hp) c (ds ++ List.replicate (fn.ntmps - ds.length) (dX undef)) (hp1 ++ hp)) : CallC P f ds hp1 K := ⟨fun P0 B w0 hp vs W hh hl hv => by
 refine calls_of_wp hf hb ?_
 have hf0 := ZBw (m := fn.ntmps - ds.length) hl hv
 have hsz : vs.toArray.size = ds.length := by simp [hl]
 rw [hsz]
 refine Code.wp_mono (fun e a' w' ⟨f', p', q, hh', hf'⟩ => ?_) ((h hp).on hh hf0)
 obtain ⟨hx, hp2, rfl, hk'⟩ := q
 cases e with
 | normal => exact ⟨hf'.defers, _, results_none hr _ _ _, _, dA, hp2, rfl, hk', hh', trivial⟩
 | ret => exact ⟨hf'.defers, _, results_none hr _ _ _, _, dA, hp2, rfl, hk', hh', trivial⟩
 | _ => exact hx.elim⟩
end
section
variable {P : Program} {ops : Array Oper} {hp : List HObj} {fr : List Dat} {Q : ZAb} {rest : List Oper} {dst : Option Tmp} {ty : TypeId} {ps : String} {af : Array Edge} {d : Dat} {c : Code}
theorem WC.pin (t : Nat) (ht : fr[t]? = some d) (h : ∀ v, WC P Q c (fr.set t (dX v)) (ZC9 v d :: hp)) : WC P Q c fr hp := WC.of fun P0 B w0 w a hh hf => by
 have hg : (ZC9 (a.tmps.getD t undef) d).blk = none := rfl
 have hd := hf.rd t d ht
 refine (h (a.tmps.getD t undef)).on (ZEK (l := []) hg hh hd) ⟨hf.defers, by rw [hf.size, List.length_set], fun t' d' hd' => ?_⟩
 by_cases htt : t = t'
 ·subst htt
  rw [List.getElem?_set] at hd'
  simp only [if_true] at hd'
  split at hd'
  ·cases hd'; rfl
  ·cases hd'
 ·rw [List.getElem?_set_ne htt] at hd'
  exact d'.weak (hf.rd t' d' hd') fun k => (ZAo hg [] k).2
def ArgsX (fr : List Dat) (xs : List Operand) (vs : List Value) : Prop := xs.length = vs.length /\ ∀ (i : Nat) (x : Operand) (v : Value), xs[i]? = some x -> vs[i]? = some v -> OpD fr x (dX v)
theorem ArgsX.nil : ArgsX fr [] [] := ⟨rfl, fun i x v h => by simp at h⟩
theorem ArgsX.cons {x : Operand} {xs : List Operand} {v : Value} {vs : List Value} (h : OpD fr x (dX v)) (k : ArgsX fr xs vs) : ArgsX fr (x :: xs) (v :: vs) :=
 ⟨by simp [k.1], fun i y u hy hu => by
  cases i with
  | zero => simp at hy hu; subst hy; subst hu; exact h
  | succ i => exact k.2 i y u (by simpa using hy) (by simpa using hu)⟩
theorem ZBJ {f : FuncId} {caps : Array Operand} {vs : List Value} {g : Option (Nat × Bool)} (ha : ArgsX fr caps.toList vs) :
  SY P ops hp ⟨dst, .makeFunc (.func f) #[] caps, ty, ps, af, g⟩ fr (dX (.func (.func f) #[] vs.toArray)) := SY.val fun {I w a} ho => by
 refine ⟨.func (.func f) #[] (caps.map a.eval), by unfold execOp; simp [Instr.makeFunc], ?_⟩
 show Value.func _ _ _ = Value.func _ _ _
 congr 1
 apply Array.ext'
 rw [Array.toList_map]
 show caps.toList.map a.eval = vs
 apply List.ext_getElem (by simpa using ha.1)
 intro i h1 h2
 have hi : i < caps.toList.length := by simpa using h1
 have h3 : a.eval caps.toList[i] = vs[i] := (ha.2 i _ _ (List.getElem?_eq_getElem hi) (List.getElem?_eq_getElem h2)).get (by simp only [Op.operands]; simp) ho
 simpa using h3
theorem ZMG {x : Operand} {T : TypeId} {w : World} {a : Act} {g : Option (Nat × Bool)} {cs : List Value} (h : (a.eval x).cells = cs.toArray) :
  (execOp a.eval ⟨dst, .box T x, ty, ps, af, g⟩).run P w = .ok (.value (.pointer (some ⟨w.heap.size, 0, none⟩))) (w.alloc (.cells cs.toArray T)) := by
 unfold execOp
 simp [Instr.box, newVar, newRow, h]
theorem ZMz {x : Operand} {T : TypeId} {n : Nat} {agg : Bool} (hx : OpD fr x d) (hs : d.Shape n agg) (h : ∀ b, WL P ops Q rest (ZB fr dst (dX (.pointer (some ⟨b, 0, none⟩)))) (ZAB b T n agg d :: hp)) :
  WL P ops Q (⟨dst, .box T x, ty, ps, af, none⟩ :: rest) fr hp := by
 refine WL.of fun P0 B w0 w a hh hf => ?_
 have h1 := hx.ev hf
 obtain ⟨cs, k1, k0, k2, k3, k4⟩ := hs _ _ _ h1
 refine Z6 rfl (ZMG k3) ?_
 have hx := ZF w (.cells cs.toArray T)
 have hb : ∀ k, (ZAB w.heap.size T n agg d).blk = some k -> w.heap.size ≤ k /\ k < (w.alloc (.cells cs.toArray T)).heap.size := fun k hk => by
  cases hk
  exact ⟨Nat.le_refl _, by simp⟩
 refine (h w.heap.size).on (hh.push hx hb ⟨cs, a.eval x, ZAT w _, k1, k0, k2, k4, ?_⟩) ?_
 ·exact Dat.ext (d.bound h1) hx
 exact Fr.put (hf.mono fun d _ hd => ZAZ hx (fun k hk => (hb k hk).1) hd) rfl
theorem ZGc {f : FuncId} {caps : List Value} {cl : Operand} {args : Array Operand} {ats : Array TypeId} {ds1 : List Dat} {hp1 : List HObj} {K : Dat -> List HObj -> Prop} {P0 : Nat -> Prop} {B : Nat} {w0 w : World} {a : Act} (hF : CallC P f (ds1 ++ caps.map dX) hp1 K) (he : ZBu P f) (hc : OpD fr cl (dX (.func (.func f) #[] caps.toArray))) (ha : ArgsD fr args.toList ds1)
  (hh : Hp P0 B w0 (hp1 ++ hp) w) (hfr : Fr (Imm P0 B (hp1 ++ hp)) w a fr) {KK : Act -> World -> Prop} {QQ : Exit -> Act -> World -> Prop}
  (hKK : ∀ d' hp2 a' w', K d' hp2 -> Hp P0 B w0 (hp2 ++ hp) w' -> Fr (Imm P0 B (hp2 ++ hp)) w' a' (ZB fr dst d') -> KK a' w') :
  Oper.wp P ⟨dst, .call { callee := .value cl, args := args, argTypes := ats }, ty, ps, af, none⟩ a w KK QQ := by
 have hev : a.eval cl = .func (.func f) #[] caps.toArray := hc.ev hfr
 have h4 := he (args.map a.eval ++ caps.toArray) w
 have hrun : (execOp a.eval ⟨dst, .call { callee := .value cl, args := args, argTypes := ats }, ty, ps, af, none⟩).run P w = .ok (.enter f (args.map a.eval ++ caps.toArray)) w := by
  unfold execOp
  simp only [resolve]
  simp [hev, Deferred.ofValue, invoke, h4]
 unfold Oper.wp
 rw [hrun]
 have hgb : (hFr a fr).blk = none := rfl
 have hG : Hp P0 B w0 (hp1 ++ hFr a fr :: hp) w := ZEK hgb hh hfr.rd
 have hvs : args.map a.eval ++ caps.toArray = (args.toList.map a.eval ++ caps).toArray := by apply Array.ext'; simp
 have hal : args.size = ds1.length := by simpa using ha.1
 have hl : (args.toList.map a.eval ++ caps).length = (ds1 ++ caps.map dX).length := by simp [hal]
 have hcalls := hF.out P0 B w0 (hFr a fr :: hp) (args.toList.map a.eval ++ caps) w hG hl fun i d hd => by
  by_cases hi : i < ds1.length
  ·rw [List.getElem?_append_left hi] at hd
   have hi' : i < args.toList.length := by simpa [hal] using hi
   have h2 := (ha.2 i _ d (List.getElem?_eq_getElem hi') hd).ev hfr
   have hi2 : i < args.size := by simpa using hi'
   have : (args.toList.map a.eval ++ caps).getD i undef = a.eval args.toList[i] := by
    rw [List.getD_eq_getElem?_getD, List.getElem?_append_left (by simpa using hi2)]
    simp [hi2]
   rw [this]
   exact d.weak h2 fun k => (ZAo hgb hp1 k).2
  ·rw [List.getElem?_append_right (by omega)] at hd
   rw [List.getD_eq_getElem?_getD, List.getElem?_append_right (by simp; omega)]
   have hlen : (args.toList.map a.eval).length = ds1.length := by simp [hal]
   rw [hlen]
   rw [List.getElem?_map] at hd
   cases hq : caps[i - ds1.length]? with
   | none => rw [hq] at hd; cases hd
   | some u => rw [hq] at hd; cases hd; rfl
 rw [hvs]
 exact hcalls.mono fun e w' ⟨v, d', hp2, hv, hk, hh', hd'⟩ => by
  subst hv
  obtain ⟨hh2, hok2⟩ := hh'.unghost hgb
  have hfr2 : Fr (Imm P0 B (hp2 ++ hp)) w' a fr := ⟨hfr.defers, hfr.size, hok2⟩
  exact hKK _ _ _ _ hk hh2 (Fr.put (x := dst) hfr2 (d'.weak hd' fun k => (ZAo hgb hp2 k).1))
theorem WL.callC {f : FuncId} {caps : List Value} {cl : Operand} {args : Array Operand} {ats : Array TypeId} {ds1 : List Dat} {hp1 : List HObj} {K : Dat -> List HObj -> Prop} (hF : CallC P f (ds1 ++ caps.map dX) hp1 K) (he : ZBu P f) (hc : OpD fr cl (dX (.func (.func f) #[] caps.toArray))) (ha : ArgsD fr args.toList ds1)
  (hK : ∀ d' hp2, K d' hp2 -> WL P ops Q rest (ZB fr dst d') (hp2 ++ hp)) :
  WL P ops Q (⟨dst, .call { callee := .value cl, args := args, argTypes := ats }, ty, ps, af, none⟩ :: rest) fr (hp1 ++ hp) :=
 WL.of fun _ _ _ _ _ hh hfr => wpList_plain rfl fun _ hKK => ZGc hF he hc ha hh hfr fun d' hp2 _ _ hk hh2 hf2 => hKK _ _ ((hK d' hp2 hk).on hh2 hf2)
end
namespace I
section
variable {P : Program} {ops : Array Oper} {hp : List HObj} {fr : List Dat} {Q : ZAb} {rest : List Oper} {dst : Option Tmp} {ty : TypeId} {ps : String} {af : Array Edge} {d : Dat} {c : Code}
theorem WL.callC {f : FuncId} {caps : List Value} {cl : Operand} {args : Array Operand} {ats : Array TypeId} {ds1 : List Dat} {hp1 : List HObj} {K : Dat -> List HObj -> Prop} (hF : CallC P f (ds1 ++ caps.map dX) hp1 K) (he : ZBu P f) (hc : OpD fr cl (dX (.func (.func f) #[] caps.toArray))) (ha : ArgsD fr args.toList ds1)
  (hK : ∀ d' hp2, K d' hp2 -> WL P ops Q rest (ZB fr dst d') (hp2 ++ hp)) :
  WL P ops Q (⟨dst, .call { callee := .value cl, args := args, argTypes := ats }, ty, ps, af, none⟩ :: rest) fr (hp1 ++ hp) :=
 WL.of fun _ _ _ _ _ hh hfr => ZCp rfl fun _ hKK => ZGc hF he hc ha hh hfr fun d' hp2 _ _ hk hh2 hf2 => hKK _ _ ((hK d' hp2 hk).on hh2 hf2)
end
end I
end
section
open Go.RowKit
structure WR (P : Program) (l : Nat) (Q : ZAb) (c : Code) (fr : List Dat) (hp : List HObj) : Prop where
 of ::
 out : ∀ (P0 : Nat -> Prop) (B : Nat) (w0 w : World) (a : Act), Hp P0 B w0 hp w -> Fr (Imm P0 B hp) w a fr -> c.wpIn (Fence.wide.inRound l) 0 P (ZDV Q P0 B w0) a w
section
variable {P : Program} {l : Nat} {Q : ZAb} {fr : List Dat} {hp : List HObj}
theorem WR.exit {id : Nat} (h : Q (.exit id) fr hp) : WR P l Q (.exit id) fr hp := WR.of fun _ _ _ _ _ hh hf => wpIn_exit ⟨fr, hp, h, hh, hf⟩
theorem WR.block {id : Nat} {c : Code} (h : WR P l (InBlockD id Q) c fr hp) : WR P l Q (.block id c) fr hp := WR.of fun P0 B w0 w a hh hf => wpIn_block (wpIn_mono (h.out _ _ _ _ _ hh hf) (fun e a' w' ⟨f, p, q, r, s⟩ => by
 cases e with
 | exit id' =>
  simp only [Exit.inBlock]
  simp only [InBlockD] at q
  split
  ·rename_i hi; rw [if_pos hi] at q; exact ⟨f, p, q, r, s⟩
  ·rename_i hi; rw [if_neg hi] at q; exact ⟨f, p, q, r, s⟩
 | _ => exact ⟨f, p, q, r, s⟩))
end
inductive FixF : List Dat -> List Dat -> Prop
 | nil : FixF [] []
 | x {v : Value} {f f' : List Dat} : FixF f f' -> FixF (dX v :: f) (dX v :: f')
 | a {d : Dat} {f f' : List Dat} : FixF f f' -> FixF (d :: f) (dA :: f')
theorem FixF.out {f f' : List Dat} (h : FixF f f') : f.length = f'.length /\ ∀ (t : Nat) (d : Dat), f'[t]? = some d -> (∃ v, f[t]? = some (dX v) /\ d = dX v) \/ d = dA := by
 induction h with
 | nil => exact ⟨rfl, fun t d h => by simp at h⟩
 | x _ ih =>
  refine ⟨by simp [ih.1], fun t d h => ?_⟩
  cases t with
  | zero => simp at h; subst h; exact .inl ⟨_, rfl, rfl⟩
  | succ t => simpa using ih.2 t d (by simpa using h)
 | a _ ih =>
  refine ⟨by simp [ih.1], fun t d h => ?_⟩
  cases t with
  | zero => simp at h; subst h; exact .inr rfl
  | succ t => simpa using ih.2 t d (by simpa using h)
theorem ZCi (w : World) (l : Nat) (o : Obj) : w.grownBy (w.putObj l o) (some l) := ⟨rfl, rfl, rfl, by simp, fun k _ hk => World.putObj_heap_other (fun e => hk (by rw [e]))⟩
theorem Hp.putObj {P0 : Nat -> Prop} {B : Nat} {w0 w : World} {l : Nat} {o o' : Obj} {hp : List HObj} (h : Hp P0 B w0 (ZN9 l o :: hp) w) : Hp P0 B w0 (ZN9 l o' :: hp) (w.putObj l o') := by
 have hl := h.ok (ZN9 l o) (by simp)
 exact h.write (o' := ZN9 l o') (ZCi w l o') (.inl rfl) (World.putObj_heap_same (Array.getElem?_eq_some_iff.1 hl).1)
end
section
open Go.RowKit
structure SW (P : Program) (ops : Array Oper) (hp : List HObj) {β : Type} (H : β -> List HObj) (D : β -> Dat) (o : Oper) (fr : List Dat) : Prop where
 guard : o.guard = none
 out : ∀ {P0 : Nat -> Prop} {B : Nat} {w0 w : World} {a : Act}, Hp P0 B w0 hp w -> On (o.looksAt ops) (Imm P0 B hp) w a fr -> ∀ (K : Act -> World -> Prop) (Q : Exit -> Act -> World -> Prop),
  (∀ (x : β) (v : Value) (w' : World), Hp P0 B w0 (H x) w' -> (∀ (d : Dat) (u : Value), d.rd (Imm P0 B hp) w u -> d.rd (Imm P0 B (H x)) w' u) -> (D x).rd (Imm P0 B (H x)) w' v -> K (a.put o.dst v) w') -> o.wp P a w K Q
def HH {β : Type} (hp : List HObj) (H : β -> List HObj) : Option β -> List HObj
 | none => hp
 | some x => H x
section
variable {P : Program} {ops : Array Oper} {hp : List HObj} {md : Region.Mode} {β : Type} {H : β -> List HObj} {D : β -> Dat} {dd : Nat -> Dat} {m : Nat} {fr fr' : List Dat} {o : Oper}
theorem SW.same (h : SW P ops hp H D o fr) (hl : fr'.length = fr.length) (hs : ∀ t ∈ o.looksAt ops, fr'[t]? = fr[t]?) : SW P ops hp H D o fr' := ⟨h.guard, fun hh ho K Q hk => h.out hh (ho.same hl hs) K Q hk⟩
inductive WDs (P : Program) (ops : Array Oper) (hp : List HObj) {β : Type} (H : β -> List HObj) (Q : List Dat -> Prop) : List Oper -> List Dat -> Prop
 | nil {fr : List Dat} : Q fr -> WDs P ops hp H Q [] fr
 | op {o : Oper} {rest : List Oper} {fr : List Dat} {d : Dat} : (∀ c, SYG P ops (HH hp H c) o fr d) -> WDs P ops hp H Q rest (ZB fr o.dst d) -> WDs P ops hp H Q (o :: rest) fr
theorem WDs.id {Q : List Dat -> Prop} {l : List Oper} {f : List Dat} (h : WDs P ops hp H Q l f) : WDs P ops hp H Q l f := h
def ChD (P : Program) (ops : Array Oper) (hp : List HObj) {β : Type} (H : β -> List HObj) (dd : Nat -> Dat) (Q : List Dat -> Prop) : List Oper -> Nat -> List Dat -> Prop
 | [], _, fr => Q fr
 | o :: rest, k, fr => (∀ c, SYG P ops (HH hp H c) o fr (dd k)) /\ ChD P ops hp H dd Q rest (k + 1) (ZB fr o.dst (dd k))
theorem ZGT {dd' : Nat -> Dat} {Q : List Dat -> Prop} : ∀ (l : List Oper) (k : Nat) (fr : List Dat), (∀ j, k ≤ j -> dd j = dd' j) -> ChD P ops hp H dd Q l k fr -> ChD P ops hp H dd' Q l k fr
 | [], _, _, _, h => h
 | _ :: rest, k, _, he, h => by
  refine ⟨by rw [<- he k (Nat.le_refl _)]; exact h.1, ?_⟩
  rw [<- he k (Nat.le_refl _)]
  exact ZGT rest (k + 1) _ (fun j hj => he j (by omega)) h.2
theorem WDs.ch {Q : List Dat -> Prop} : ∀ (l : List Oper) (k : Nat) (fr : List Dat), WDs P ops hp H Q l fr -> ∃ dd, ChD P ops hp H dd Q l k fr
 | [], _, _, h => ⟨fun _ => dA, by cases h; assumption⟩
 | _ :: rest, k, _, h => by
  cases h
  rename_i d hd hr
  obtain ⟨dd, h1⟩ := WDs.ch rest (k + 1) _ hr
  refine ⟨fun j => if j = k then d else dd j, ?_, ?_⟩
  ·simpa using hd
  ·simp only [if_true]
   exact ZGT rest (k + 1) _ (fun j hj => by rw [if_neg (by omega)]) h1
theorem ZK {Q : ZAb} {rest : List Oper} (h : SW P ops hp H D o fr) (k : ∀ x, WL P ops Q rest (ZB fr o.dst (D x)) (H x)) : WL P ops Q (o :: rest) fr hp := WL.of fun P0 B w0 w a hh hf => by
 unfold wpList
 have hwant : Region.wanted o (yielded ops a.tmps) = true := by simp [Region.wanted, h.guard]
 rw [if_pos hwant]
 exact .inl (h.out hh (hf.on _) _ _ fun x v w' hh' hrd hd => (k x).on hh' (Fr.put (hf.mono fun d u hu => hrd d u hu) hd))
end
section
variable {P : Program} {ops : Array Oper} {hp : List HObj} {fr : List Dat} {d : Dat}
variable {dst : Option Tmp} {ty : TypeId} {ps : String} {af : Array Edge}
def hAll (I0 : Nat -> Prop) (w0 : World) : HObj where
 blk := none
 ok := fun I w => ∀ (d : Dat) (u : Value), d.rd I0 w0 u -> d.rd I w u
 weak := fun h q d u hd => d.weak (h d u hd) q
 bound := fun h d u hd => d.bound (h d u hd)
 move := fun h hg hP _ d u hd => d.grown (h d u hd) hg hP
theorem SW.callC {f : FuncId} {caps : List Value} {cl : Operand} {args : Array Operand} {ats : Array TypeId} {ds1 : List Dat} {hp1 : List HObj} {K : Dat -> List HObj -> Prop} {β : Type} {H : β -> List HObj} {D : β -> Dat} (hF : CallC P f (ds1 ++ caps.map dX) hp1 K) (he : ZBu P f) (hc : OpD fr cl (dX (.func (.func f) #[] caps.toArray))) (ha : ArgsD fr args.toList ds1)
  (hK : ∀ d hp2, K d hp2 -> ∃ x, d = D x /\ hp2 = H x) :
  SW P ops (hp1 ++ hp) (fun x => H x ++ hp) D ⟨dst, .call { callee := .value cl, args := args, argTypes := ats }, ty, ps, af, none⟩ fr := ⟨rfl, fun {P0 B w0 w a} hh ho KK QQ hkk => by
 have hev : a.eval cl = .func (.func f) #[] caps.toArray := hc.get (by simp [Op.operands, Call.operands]) ho
 have h4 := he (args.map a.eval ++ caps.toArray) w
 have hrun : (execOp a.eval ⟨dst, .call { callee := .value cl, args := args, argTypes := ats }, ty, ps, af, none⟩).run P w = .ok (.enter f (args.map a.eval ++ caps.toArray)) w := by
  unfold execOp
  simp only [resolve]
  simp [hev, Deferred.ofValue, invoke, h4]
 unfold Oper.wp
 rw [hrun]
 have hgb : (hAll (Imm P0 B (hp1 ++ hp)) w).blk = none := rfl
 have hG : Hp P0 B w0 (hp1 ++ hAll (Imm P0 B (hp1 ++ hp)) w :: hp) w := ZEK hgb hh (fun d u hd => hd)
 have hvs : args.map a.eval ++ caps.toArray = (args.toList.map a.eval ++ caps).toArray := by apply Array.ext'; simp
 have hal : args.size = ds1.length := by simpa using ha.1
 have hl : (args.toList.map a.eval ++ caps).length = (ds1 ++ caps.map dX).length := by simp [hal]
 have hcalls := hF.out P0 B w0 (hAll (Imm P0 B (hp1 ++ hp)) w :: hp) (args.toList.map a.eval ++ caps) w hG hl fun i d hd => by
  by_cases hi : i < ds1.length
  ·rw [List.getElem?_append_left hi] at hd
   have hi' : i < args.toList.length := by simpa [hal] using hi
   have h2 := (ha.2 i _ d (List.getElem?_eq_getElem hi') hd).get (by simp only [Op.operands, Call.operands]; simp) ho
   have hi2 : i < args.size := by simpa using hi'
   have : (args.toList.map a.eval ++ caps).getD i undef = a.eval args.toList[i] := by
    rw [List.getD_eq_getElem?_getD, List.getElem?_append_left (by simpa using hi2)]
    simp [hi2]
   rw [this]
   exact d.weak h2 fun k => (ZAo hgb hp1 k).2
  ·rw [List.getElem?_append_right (by omega)] at hd
   rw [List.getD_eq_getElem?_getD, List.getElem?_append_right (by simp; omega)]
   have hlen : (args.toList.map a.eval).length = ds1.length := by simp [hal]
   rw [hlen]
   rw [List.getElem?_map] at hd
   cases hq : caps[i - ds1.length]? with
   | none => rw [hq] at hd; cases hd
   | some u => rw [hq] at hd; cases hd; rfl
 rw [hvs]
 exact hcalls.mono fun e w' ⟨v, d', hp2, hv, hk, hh', hd'⟩ => by
  subst hv
  obtain ⟨x, rfl, rfl⟩ := hK d' hp2 hk
  obtain ⟨hh2, hok2⟩ := hh'.unghost hgb
  exact hkk x v w' hh2 (fun d u hd => hok2 d u hd) ((D x).weak hd' fun k => (ZAo hgb (H x) k).1)⟩
end
namespace I
end I
end
end Go.Proofs.YtjmignmnlpamjaaGreat
