/- Part 14: walks by contracts, and plain laws. -/
import Derived.Test.YtmcllakdbgnfiaaGreatDoorVg12
import Derived.Test.YtmcllakdbgnfiaaGreatDoorVg13
set_option linter.unusedVariables false
set_option linter.unusedSimpArgs false
set_option linter.unusedSectionVars false
set_option maxRecDepth 100000
set_option maxHeartbeats 4000000
namespace Go.Proofs.YtmcllakdbgnfiaaGreatDoor
section
open Go.RowKit
theorem laidK : laidOutB Tryz.prog = true := by kernel_rfl
def is64 (n : Int) : Prop := -9223372036854775808 <= n /\ n <= 9223372036854775807
theorem wf64 {n : Int} (h : is64 n) : (Lit.int .i64 n).wf = true := by
 obtain ⟨h1, h2⟩ := h
 show (decide (IntKind.i64.min <= n) && decide (n <= IntKind.i64.max)) = true
 have e1 : IntKind.i64.min = -9223372036854775808 := by decide
 have e2 : IntKind.i64.max = 9223372036854775807 := by decide
 rw [e1, e2, decide_eq_true h1, decide_eq_true h2]; rfl
def kvV (x : Int × Int) : Value := .agg #[.int .i64 x.1, .int .i64 x.2]
def okV (x : Int × Int) : Prop := is64 x.1 /\ is64 x.2
theorem rowV' : 45 < Tryz.prog.types.size := of_decide_eq_true (by kernel_rfl)
theorem cellsV' : Tryz.prog.cellsOf 45 = 2 := by kernel_rfl
theorem cellsI' : Tryz.prog.cellsOf 3 = 1 := by kernel_rfl
theorem lits_V (d : Nat) {x : Int × Int} (h : okV x) : Tryz.prog.keyLits (d + 2) 45 [.int .i64 x.1, .int .i64 x.2] = some [.int .i64 x.1, .int .i64 x.2] := by
 obtain ⟨h1, h2⟩ := h
 unfold Program.keyLits
 simp only [Tryz.underlying45, cellsV']
 simp [cellsI', Program.keyLits, Tryz.underlying3, wf64 h1, wf64 h2]
theorem keyT_V : KeyT Tryz.prog 45 kvV okV where
 law := Go.Maps.Keyed.of_law (deep_law_laid laidK (m := 2) (by omega) rowV' (by kernel_rfl) (by rw [Tryz.underlying45]))
 lit := fun x h => by
  refine ⟨.string (keyBytes [.int .i64 x.1, .int .i64 x.2]), ?_⟩
  unfold keyOf
  simp only [Tryz.underlying45]
  have hk : Tryz.prog.keyType 45 = true := by kernel_rfl
  have hf : (kvV x).formed Tryz.prog 45 = true := by simp [kvV, Value.formed, Tryz.underlying45, cellsV']
  obtain ⟨d, hd⟩ : ∃ d, Tryz.prog.types.size = d + 1 := ⟨Tryz.prog.types.size - 1, by have := rowV'; omega⟩
  rw [hk, hf, hd]
  have := lits_V d h
  simp only [Bool.and_self, if_true]
  rw [show (kvV x).cells.toList = [.int .i64 x.1, .int .i64 x.2] from rfl, this]
  rfl
 inj := fun x y _ _ h => by
  unfold kvV at h
  simp at h
  exact Prod.ext h.1 h.2
def padK (s : List Vx) : List Vx := s ++ List.replicate (8 - s.length) (-1, 0)
def kvK (s : List Vx) : Value := .agg (ZZ (padK s)).toArray
def okK (s : List Vx) : Prop := s.length <= 8 /\ ∀ v ∈ s, okV v /\ 0 <= v.1
theorem rowK' : 147 < Tryz.prog.types.size := of_decide_eq_true (by kernel_rfl)
theorem cellsK' : Tryz.prog.cellsOf 147 = 16 := by kernel_rfl
theorem padK_len {s : List Vx} (h : s.length <= 8) : (padK s).length = 8 := by unfold padK; simp; omega
theorem padK_ok {s : List Vx} (h : okK s) : ∀ v ∈ padK s, okV v := fun v hv => by
 unfold padK at hv
 rcases List.mem_append.1 hv with hv | hv
 ·exact (h.2 v hv).1
 ·rw [(List.mem_replicate.1 hv).2]; exact ⟨by unfold is64; omega, by unfold is64; omega⟩
theorem mapM_all {α β : Type} {f : α -> Option β} {g : α -> β} : ∀ (L : List α), (∀ i ∈ L, f i = some (g i)) -> L.mapM f = some (L.map g)
 | [], _ => rfl
 | a :: L, h => by
  rw [List.mapM_cons, h a (by simp), mapM_all L fun i hi => h i (by simp [hi])]
  rfl
theorem flatV_at : ∀ (l : List Vx) (i : Nat) (h : i < l.length), ((ZZ l).drop (i * 2)).take 2 = [.int .i64 l[i].1, .int .i64 l[i].2]
 | [], i, h => by simp at h
 | x :: l, 0, _ => by simp [ZAP]
 | x :: l, i + 1, h => by
  rw [ZAP, show (i + 1) * 2 = i * 2 + 2 by omega]
  simpa using flatV_at l i (by simpa using h)
theorem lits_K (d : Nat) {s : List Vx} (h : okK s) : ∃ l, Tryz.prog.keyLits (d + 3) 147 (ZZ (padK s)) = some l := by
 have hl : (ZZ (padK s)).length = 16 := by rw [Zf, padK_len h.1]
 unfold Program.keyLits
 simp only [Tryz.underlying147, cellsK', hl]
 simp only [if_true, cellsV']
 rw [mapM_all (g := fun i => [Lit.int .i64 ((padK s).getD i (0, 0)).1, Lit.int .i64 ((padK s).getD i (0, 0)).2]) _ fun i hi => ?_]
 ·exact ⟨_, rfl⟩
 ·have hi' : i < (padK s).length := by rw [padK_len h.1]; exact List.mem_range.1 hi
  rw [flatV_at _ i hi', lits_V d (padK_ok h _ (List.getElem_mem hi'))]
  simp [List.getD, hi']
theorem flatV_inj : ∀ {a b : List Vx}, ZZ a = ZZ b -> a = b
 | [], [], _ => rfl
 | [], y :: b, h => by simp [ZAP, ZBm] at h
 | x :: a, [], h => by simp [ZAP, ZBm] at h
 | x :: a, y :: b, h => by
  rw [ZAP, ZAP] at h
  simp at h
  rw [Prod.ext h.1 h.2.1, flatV_inj h.2.2]
theorem padK_inj : ∀ {a b : List Vx}, (∀ v ∈ a, 0 <= v.1) -> (∀ v ∈ b, 0 <= v.1) -> padK a = padK b -> a = b := by
 have go : ∀ {a b : List Vx} (i j : Nat), (∀ v ∈ a, 0 <= v.1) -> (∀ v ∈ b, 0 <= v.1) -> a ++ List.replicate i ((-1, 0) : Vx) = b ++ List.replicate j (-1, 0) -> a = b := by
  intro a
  induction a with
  | nil =>
   intro b i j _ hb h
   cases b with
   | nil => rfl
   | cons y b =>
    cases i with
    | zero => simp at h
    | succ i =>
     rw [List.replicate_succ] at h
     simp at h
     have := hb y (by simp)
     rw [<- h.1] at this
     simp at this
  | cons x a ih =>
   intro b i j ha hb h
   cases b with
   | nil =>
    cases j with
    | zero => simp at h
    | succ j =>
     rw [List.replicate_succ] at h
     simp at h
     have := ha x (by simp)
     rw [h.1] at this
     simp at this
   | cons y b =>
    simp only [List.cons_append, List.cons.injEq] at h
    rw [h.1, ih i j (fun v hv => ha v (by simp [hv])) (fun v hv => hb v (by simp [hv])) h.2]
 intro a b ha hb h
 exact go _ _ ha hb h
theorem keyT_K : KeyT Tryz.prog 147 kvK okK where
 law := Go.Maps.Keyed.of_law (deep_law_laid laidK (m := 3) (by omega) rowK' (by kernel_rfl) (by rw [Tryz.underlying147]))
 lit := fun s h => by
  obtain ⟨d, hd⟩ : ∃ d, Tryz.prog.types.size = d + 2 := ⟨Tryz.prog.types.size - 2, by have := rowK'; omega⟩
  obtain ⟨l, hl⟩ := lits_K d h
  refine ⟨.string (keyBytes l), ?_⟩
  unfold keyOf
  simp only [Tryz.underlying147]
  have hk : Tryz.prog.keyType 147 = true := by kernel_rfl
  have hf : (kvK s).formed Tryz.prog 147 = true := by
   simp [kvK, Value.formed, Tryz.underlying147, cellsK', Zf, padK_len h.1]
  rw [hk, hf, hd]
  simp only [Bool.and_self, if_true]
  rw [show (kvK s).cells.toList = ZZ (padK s) from rfl, hl]
  rfl
 inj := fun x y hx hy h => by
  unfold kvK at h
  injection h with h
  exact padK_inj (fun v hv => (hx.2 v hv).2) (fun v hv => (hy.2 v hv).2) (flatV_inj (List.toArray_inj h))
end
section
open Go.RowKit
def ZAL {K α : Type} (R : Rel α) [Good R] (M : List (K × Value × α)) : HObj where
 blk := none
 ok := fun I w => ∀ p ∈ M, R I w p.2.1 p.2.2
 weak := fun h q p hp => Good.weak (h p hp) q
 bound := fun h p hp => Good.bound (h p hp)
 move := fun h hg hP _ p hp => (dS R p.2.2).grown (h p hp) hg hP
abbrev hMC {K α : Type} (b : Nat) (kv : K -> Value) (M : List (K × Value × α)) : HObj := hM b kv (fun u : Value × α => u.1) M
theorem putM_mem {K V : Type} [DecidableEq K] {m : List (K × V)} {x : K} {v : V} {p : K × V} (h : p ∈ ZBP m x v) : p = (x, v) \/ p ∈ m := by
 unfold ZBP at h
 split at h
 ·obtain ⟨q, hq, rfl⟩ := List.mem_map.1 h
  split
  ·exact .inl rfl
  ·exact .inr hq
 ·rcases List.mem_append.1 h with h | h
  ·exact .inr h
  ·exact .inl (List.mem_singleton.1 h)
theorem lookM_isSome {K V : Type} [DecidableEq K] {m : List (K × V)} {x : K} : (lookM m x).isSome = true ↔ x ∈ m.map (·.1) := by
 unfold lookM
 rw [Option.isSome_map, List.find?_isSome]
 constructor
 ·rintro ⟨p, hp, he⟩
  exact List.mem_map.2 ⟨p, hp, of_decide_eq_true he⟩
 ·intro h
  obtain ⟨p, hp, he⟩ := List.mem_map.1 h
  exact ⟨p, hp, decide_eq_true he⟩
theorem putC_keys {K V : Type} [DecidableEq K] (m : List (K × V)) (x : K) (v : V) : (ZBP m x v).map (·.1) = if x ∈ m.map (·.1) then m.map (·.1) else m.map (·.1) ++ [x] := by
 unfold ZBP
 by_cases h : x ∈ m.map (·.1)
 ·rw [if_pos (lookM_isSome.2 h), if_pos h, List.map_map]
  refine List.map_congr_left fun p _ => ?_
  show (if p.1 = x then (x, v) else p).1 = p.1
  split
  ·rename_i e; exact e.symm
  ·rfl
 ·rw [if_neg fun q => h (lookM_isSome.1 q), if_neg h, List.map_append]
  rfl
section
variable {P : Program} {ops : Array Oper} {hp : List HObj} {fr : List Dat} {d : Dat} {Q : Z1} {rest : List Oper}
variable {dst : Option Tmp} {ty : TypeId} {ps : String} {af : Array Edge} {g : Option (Nat × Bool)} {t k e : TypeId} {z : Value} {K α : Type} [DecidableEq K] {kv : K -> Value} {ok : K -> Prop} {R : Rel α} [Good R] {b : Nat} {M : List (K × Value × α)}
theorem ZBI {x : Operand} {ad : Addr} (hx : OpD fr x (dX (.pointer (some ad)))) : SY P ops hp { dst := dst, op := .nilCheck x, type := ty, pos := ps, after := af, guard := g } fr (dX (.pointer (some ad))) := SY.val fun {I w a} ho => by
 have h1 : a.eval x = .pointer (some ad) := hx.get (by simp [Op.operands]) ho
 refine ⟨.pointer (some ad), ?_, rfl⟩
 unfold execOp
 simp only [h1, Sem.run_pure]
theorem Hp.putMC {P0 : Nat -> Prop} {B : Nat} {w0 w : World} {v : K} {u : α} {cv : Value} (hh : Hp P0 B w0 (hMC b kv M :: ZAL R M :: hp) w) (hu : R (Imm P0 B (hMC b kv M :: ZAL R M :: hp)) w cv u) :
  Hp P0 B w0 (hMC b kv (ZBP M v (cv, u)) :: ZAL R (ZBP M v (cv, u)) :: hp) (w.putObj b (Zz (Z5 kv (fun u : Value × α => u.1) (ZBP M v (cv, u))))) /\
   ∀ (d : Dat) (y : Value), d.rd (Imm P0 B (hMC b kv M :: ZAL R M :: hp)) w y -> d.rd (Imm P0 B (hMC b kv (ZBP M v (cv, u)) :: ZAL R (ZBP M v (cv, u)) :: hp)) (w.putObj b (Zz (Z5 kv (fun u : Value × α => u.1) (ZBP M v (cv, u))))) y := by
 have h1 : Hp P0 B w0 (hMC b kv (ZBP M v (cv, u)) :: ZAL R M :: hp) (w.putObj b (Zz (Z5 kv (fun u : Value × α => u.1) (ZBP M v (cv, u))))) := Hp.putObj hh
 have hg : (ZAL R (ZBP M v (cv, u))).blk = none := rfl
 have hg0 : (ZAL R M).blk = none := rfl
 have hrd : ∀ (d : Dat) (y : Value), d.rd (Imm P0 B (hMC b kv M :: ZAL R M :: hp)) w y -> d.rd (Imm P0 B ([hMC b kv (ZBP M v (cv, u))] ++ ZAL R M :: hp)) (w.putObj b (Zz (Z5 kv (fun u : Value × α => u.1) (ZBP M v (cv, u))))) y := fun d y hd => ZAH hd
 have hv : (ZAL R (ZBP M v (cv, u))).ok (Imm P0 B ([hMC b kv (ZBP M v (cv, u))] ++ ZAL R M :: hp)) (w.putObj b (Zz (Z5 kv (fun u : Value × α => u.1) (ZBP M v (cv, u))))) := fun p hp => by
  rcases putM_mem hp with rfl | hp
  ·exact hrd (dS R u) cv hu
  ·exact h1.ok (ZAL R M) (by simp) p hp
 have h2 := ZAo (l := [hMC b kv (ZBP M v (cv, u))]) hg h1 hv
 obtain ⟨h3, hI3⟩ := h2.perm (show ([hMC b kv (ZBP M v (cv, u))] ++ ZAL R (ZBP M v (cv, u)) :: ZAL R M :: hp).Perm (ZAL R M :: hMC b kv (ZBP M v (cv, u)) :: ZAL R (ZBP M v (cv, u)) :: hp) from
  ((List.Perm.cons _ (List.Perm.swap _ _ _)).trans (List.Perm.swap _ _ _)))
 refine ⟨h3.drop, fun d y hd => ?_⟩
 have h4 := hrd d y hd
 exact d.weak h4 fun k hk => (Zl hg0 [hMC b kv (ZBP M v (cv, u)), ZAL R (ZBP M v (cv, u))] k).1 ((Zl hg [hMC b kv (ZBP M v (cv, u))] k).2 hk)
theorem run_putMC {x y c : Operand} {v : K} {u : α} {w : World} {a : Act} (T : MapT P t k e z) (H : KeyT P k kv ok) (h1 : a.eval x = .map (some b)) (h2 : a.eval y = kv v) (ho : ok v) (hok : ∀ p ∈ M, ok p.1) (hn : (M.map (·.1)).Nodup) (hb : w.heap[b]? = some (Zz (Z5 kv (fun u : Value × α => u.1) M))) :
  (execOp a.eval { dst := dst, op := .mapUpdate t x y c, type := ty, pos := ps, after := af, guard := g }).run P w = .ok .skip (w.putObj b (Zz (Z5 kv (fun u : Value × α => u.1) (ZBP M v (a.eval c, u))))) := by
 have h3 := run_update (vv := fun u : Value × α => u.1) T H hok hn ho (a.eval c, u) hb
 simp only at h3
 unfold execOp
 simp only [h1, h2, Sem.run_bind, h3, Result.andThen_ok, Sem.run_pure]
 rfl
theorem WL.putMC {x y c : Operand} {v : K} {u : α} (T : MapT P t k e z) (H : KeyT P k kv ok) (hx : OpD fr x (dX (.map (some b)))) (hy : OpD fr y d) (hd : IsV d (kv v)) (hc : OpD fr c (dS R u)) (ho : ok v) (hok : ∀ p ∈ M, ok p.1) (hn : (M.map (·.1)).Nodup)
  (h : ∀ cv, WL P ops Q rest (ZB fr dst (dX undef)) (hMC b kv (ZBP M v (cv, u)) :: ZAL R (ZBP M v (cv, u)) :: hp)) :
  WL P ops Q ({ dst := dst, op := .mapUpdate t x y c, type := ty, pos := ps, after := af, guard := none } :: rest) fr (hMC b kv M :: ZAL R M :: hp) := by
 refine WL.of fun P0 B w0 w a hh hf => ?_
 have hrun := run_putMC (dst := dst) (ty := ty) (ps := ps) (af := af) (g := none) (c := c) (u := u) T H (hx.ev hf) (hd.is _ _ _ (hy.ev hf)) ho hok hn (hh.ok (hMC b kv M) (by simp))
 obtain ⟨h1, h2⟩ := Hp.putMC (v := v) hh (hc.ev hf)
 refine wpList_plain rfl fun K hK => ?_
 unfold Oper.wp
 rw [hrun]
 exact hK _ _ ((h _).on h1 (Fr.put (hf.mono h2) (d := dX undef) rfl))
theorem I.WL.putMC {x y c : Operand} {v : K} {u : α} (T : MapT P t k e z) (H : KeyT P k kv ok) (hx : OpD fr x (dX (.map (some b)))) (hy : OpD fr y d) (hd : IsV d (kv v)) (hc : OpD fr c (dS R u)) (ho : ok v) (hok : ∀ p ∈ M, ok p.1) (hn : (M.map (·.1)).Nodup)
  (h : ∀ cv, I.WL P ops Q rest (ZB fr dst (dX undef)) (hMC b kv (ZBP M v (cv, u)) :: ZAL R (ZBP M v (cv, u)) :: hp)) :
  I.WL P ops Q ({ dst := dst, op := .mapUpdate t x y c, type := ty, pos := ps, after := af, guard := none } :: rest) fr (hMC b kv M :: ZAL R M :: hp) := by
 refine I.WL.of fun P0 B w0 w a hh hf => ?_
 have hrun := run_putMC (dst := dst) (ty := ty) (ps := ps) (af := af) (g := none) (c := c) (u := u) T H (hx.ev hf) (hd.is _ _ _ (hy.ev hf)) ho hok hn (hh.ok (hMC b kv M) (by simp))
 obtain ⟨h1, h2⟩ := Hp.putMC (v := v) hh (hc.ev hf)
 refine ZAB rfl fun K hK => ?_
 unfold Oper.wp
 rw [hrun]
 exact hK _ _ ((h _).on h1 (Fr.put (hf.mono h2) (d := dX undef) rfl))
theorem SY.lookMC {x y : Operand} {v : K} (T : MapT P t k e z) (H : KeyT P k kv ok) (hx : OpD fr x (dX (.map (some b)))) (hm : hMC b kv M ∈ hp) (hv : ZAL R M ∈ hp) (hy : OpD fr y d) (hd : IsV d (kv v)) (ho : ok v) (hok : ∀ p ∈ M, ok p.1) (hn : (M.map (·.1)).Nodup) {cv : Value} {u : α} (hl : (v, cv, u) ∈ M) :
  SY P ops hp { dst := dst, op := .lookup t x y false, type := ty, pos := ps, after := af, guard := g } fr (dS R u) := ZAC fun {P0 B w0 w a} hh hon => by
 have h1 : a.eval x = _ := hx.get (by simp [Op.operands]) hon
 have h2 := hd.is _ _ _ (hy.get (by simp [Op.operands]) hon)
 have h3 : Go.Proofs.YtmcllakdbgnfiaaGreatDoor.lookM M v = some (cv, u) := by
  obtain ⟨j, hj, he⟩ := List.getElem_of_mem hl
  have := Go.Proofs.YtmcllakdbgnfiaaGreatDoor.lookM_some hn hj
  rw [he] at this
  exact this
 refine ⟨cv, w, ?_, Ext.refl _, hh.ok _ hv _ hl⟩
 unfold execOp
 simp only [h1, h2, Sem.run_bind, run_lookup T H hok hn ho (hh.ok _ hm) false, h3, Result.andThen_ok, Sem.run_pure]
 rfl
theorem WL.pin (t : Nat) (ht : fr[t]? = some d) (h : ∀ v, WL P ops Q rest (fr.set t (dX v)) (Zu v d :: hp)) : WL P ops Q rest fr hp := WL.of fun P0 B w0 w a hh hf => by
 have hg : (Zu (a.tmps.getD t undef) d).blk = none := rfl
 have hd := hf.rd t d ht
 refine (h (a.tmps.getD t undef)).on (ZAo (l := []) hg hh hd) ⟨hf.defers, by rw [hf.size, List.length_set], fun t' d' hd' => ?_⟩
 by_cases htt : t = t'
 ·subst htt
  rw [List.getElem?_set] at hd'
  simp only [if_true] at hd'
  split at hd'
  ·cases hd'; rfl
  ·cases hd'
 ·rw [List.getElem?_set_ne htt] at hd'
  exact d'.weak (hf.rd t' d' hd') fun k => (Zl hg [] k).2
end
namespace I
section
variable {P : Program} {ops : Array Oper} {hp : List HObj} {fr : List Dat} {d e : Dat} {Q : Z1} {rest : List Oper}
variable {dst : Option Tmp} {ty : TypeId} {ps : String} {af : Array Edge} {g : Option (Nat × Bool)} {T T1 T2 : TypeId} {b off k n : Nat} {ds ds' : List Dat}
theorem WL.storeS {t : Nat} {x : Operand} (T' : TyI P T1 1 false) (hp0 : OpD fr (.tmp t) (dX (.pointer (some ⟨b, k, none⟩)))) (hx : OpD fr x d) (hs : d.Shape 1 false) (hk : k < ds.length)
  (h : WL P ops Q rest (ZB fr dst (dX undef)) (Zm b T2 (ds.set k d) :: hp)) :
  WL P ops Q ({ dst := dst, op := .store T1 (.tmp t) x, type := ty, pos := ps, after := af, guard := none } :: rest) fr (Zm b T2 ds :: hp) := by
 refine WL.of fun P0 B w0 w a hh hf => ?_
 obtain ⟨cs, c1, c2, c3, c4⟩ := hh.ok (Zm b T2 ds) (by simp)
 have h1 : a.eval (.tmp t) = _ := hp0.ev hf
 have hd : d.rd (Imm P0 B (Zm b T2 ds :: hp)) w (a.eval x) := hx.ev hf
 obtain ⟨us, u1, u0, u2, u3, u4⟩ := hs _ _ _ hd
 obtain ⟨u, rfl⟩ : ∃ u, us = [u] := List.length_eq_one_iff.1 u1
 have hu : a.eval x = u := by
  simp only [Bool.false_eq_true, if_false] at u4
  exact (List.cons.inj u4).1.symm
 have hone : u.oneCell' = true := u2 u (by simp)
 have hdu : d.rd (Imm P0 B (Zm b T2 ds :: hp)) w u := by rw [hu] at hd; exact hd
 have hkc : k < cs.length := by omega
 have hset := setCell_eq_setRow w b k cs.toArray T2 (0, 0) u c1
 have hc : w.cell? ⟨b, k, none⟩ = some cs[k] := by simp [World.cell?, c1, hkc]
 have hfz : w.frozen? ⟨b, k, none⟩ = false := by simp [World.frozen?, c1]
 have hst : (store ((⟨b, k, none⟩ : Addr).add 0) u).run P w = .ok () (w.setCell ⟨b, k, none⟩ u) := by
  rw [show ((⟨b, k, none⟩ : Addr).add 0) = ⟨b, k, none⟩ from rfl, run_store P w _ u _ hone, hc]
  simp [hfz]
 have hsz : (sizeOf T1).run P w = .ok 1 w := by
  have h5 := T'.size
  cases hq : P.info? T1 with
  | none => rw [hq] at h5; cases h5
  | some i =>
   rw [hq] at h5
   have : i.size = 1 := by simpa using h5
   rw [<- this]
   rw [run_sizeOf w hq]
   simp [Program.cellsOf, hq]
 have hw : w.setCell ⟨b, k, none⟩ u = w.setRow b (cs.set k u).toArray := by rw [hset]; simp
 have hrun : (execOp a.eval { dst := dst, op := .store T1 (.tmp t) x, type := ty, pos := ps, after := af, guard := none }).run P w = .ok .skip (w.setRow b (cs.set k u).toArray) := by
  rw [<- hw]
  unfold execOp
  simp only [h1, hu, Instr.storeAt, Instr.sureAddr, storeVar, Sem.run_bind, hsz, Result.andThen_ok, Sem.run_pure]
  simp [ZBo hone, storeCells, hst]
 refine ZAB rfl fun K hK => ?_
 unfold Oper.wp
 rw [hrun]
 have hgr : w.grownBy (w.setRow b (cs.set k u).toArray) (Zm b T2 ds).blk := Z2
 have hok : (Zm b T2 (ds.set k d)).ok (fun j => Imm P0 B (Zm b T2 ds :: hp) j /\ j < w.heap.size) (w.setRow b (cs.set k u).toArray) := by
  refine ⟨cs.set k u, setRow_heap w b _ _ _ _ c1, by simp [c2], fun c hc => ?_, fun j c e hc he => ?_⟩
  ·rcases List.mem_or_eq_of_mem_set hc with hc | rfl
   ·exact c3 c hc
   ·exact hone
  ·rw [List.getElem?_set] at hc he
   by_cases hjk : k = j
   ·rw [if_pos hjk, if_pos (by omega)] at hc he
    cases hc; cases he
    exact d.grown (d.bound hdu) hgr fun j q hj => hj.1.2 (Zm b T2 ds) (by simp) q
   ·rw [if_neg hjk] at hc he
    exact e.grown (e.bound (c4 j c e hc he)) hgr fun j q hj => hj.1.2 (Zm b T2 ds) (by simp) q
 exact hK _ _ (h.on (hh.write hgr (.inl rfl) hok) (Fr.put (hf.mono fun _ _ hd => ZI (o' := Zm b T2 (ds.set k d)) hgr (.inl rfl) hd) (d := dX undef) rfl))
end
end I
end
section
open Go.RowKit
section
variable {P : Program} {ops : Array Oper} {hp : List HObj} {o : Oper} {fr : List Dat} {d : Dat} {Q : Z1} {rest : List Oper}
variable {dst : Option Tmp} {ty : TypeId} {ps : String} {af : Array Edge} {g : Option (Nat × Bool)} {e e' t T : TypeId} {bytes b cap N : Nat} {z : Value} {ag : Bool} {α : Type} {R : Rel α} {_gR : Good R} {xs : List α} {v : Value}
abbrev hQ (b N cap : Nat) (e : TypeId) (R : Rel α) [Good R] (xs : List α) : HObj := ZU (.slice (some ⟨b, 0, none⟩) N cap) e R xs
theorem WC.openQ {c : Code} {v : Value} (hne : 0 < xs.length) (h : ∀ b cap, v = .slice (some ⟨b, 0, none⟩) xs.length cap -> xs.length <= cap -> cap <= maxLen -> WC P Q c fr (ZU v e R xs :: hp)) : WC P Q c fr (ZU v e R xs :: hp) := WC.of fun P0 B w0 w a hh hf => by
 obtain ⟨us, h1, ⟨h2, h3⟩, h4⟩ := hh.ok (ZU v e R xs) (by simp)
 rcases h3 with ⟨_, hz⟩ | ⟨g, cap, cur, hv, hB, hg, hc1, hc2, hc3, hc4⟩
 ·omega
 ·exact (h g cap hv hc1 hc2).on hh hf
theorem SY.ixQ {x i : Operand} {n m off k : Nat} {j : Int} (E : ElT P t e 1 z bytes ag) (hx : OpD fr x (dX (.slice (some ⟨b, off, none⟩) n m))) (hi : OpD fr i (dI j)) (hj : j = (k : Int)) (hk : k < n) :
  SY P ops hp { dst := dst, op := .indexAddr t x i, type := ty, pos := ps, after := af, guard := g } fr (dX (.pointer (some ⟨b, off + k, none⟩))) := SY.val fun {I w a} ho => by
 have h1 : a.eval x = _ := hx.get (by simp [Op.operands]) ho
 have h2 : a.eval i = _ := hi.get (by simp [Op.operands]) ho
 refine ⟨.pointer (some ⟨b, off + k * 1, none⟩), ?_, by rw [Nat.mul_one]; rfl⟩
 unfold execOp
 simp only [h1, h2, hj, Sem.run_bind, ZAx (w := w) E b off n m k .i64 hk, Result.andThen_ok, Sem.run_pure]
theorem SY.loadQ {x : Operand} {j k : Nat} (T' : TyI P T 1 false) (hx : OpD fr x (dX (.pointer (some ⟨b, j, none⟩)))) (hm : hQ b N cap e' R xs ∈ hp) (hj : j = k) (hk : k < xs.length) :
  SY P ops hp { dst := dst, op := .load T x, type := ty, pos := ps, after := af, guard := g } fr (dS R xs[k]) := by
 subst hj
 exact SY.loadR T' hx hm hk
theorem WL.storeQ {p : Tmp} {x : Operand} {j k : Nat} {y : α} (T' : TyI P T 1 false) (hp0 : OpD fr (.tmp p) (dX (.pointer (some ⟨b, j, none⟩)))) (hx : OpD fr x (dS R y)) (hs : (dS R y).Shape 1 false) (hj : j = k) (hk : k < xs.length)
  (h : WL P ops Q rest (ZB fr dst dA) (hQ b N cap e R (xs.set k y) :: hp)) : WL P ops Q ({ dst := dst, op := .store T (.tmp p) x, type := ty, pos := ps, after := af, guard := none } :: rest) fr (hQ b N cap e R xs :: hp) := by
 subst hj
 exact WL.storeR T' hp0 hx hs hk h
theorem SY.fromQ {x y : Operand} {off n m l : Nat} {j : Int} (E : ElT P t e 1 z bytes ag) (hx : OpD fr x (dX (.slice (some ⟨b, off, none⟩) n m))) (hy : OpD fr y (dI j)) (hj : j = (l : Int)) (hl : l < n) (hm : n <= m) :
  SY P ops hp { dst := dst, op := .slice t x (some y) none none, type := ty, pos := ps, after := af, guard := g } fr (dX (.slice (some ⟨b, off + l, none⟩) (n - l) (m - l))) := SY.val fun {I w a} ho => by
 have h1 : a.eval x = _ := hx.get (by simp [Op.operands]) ho
 have h2 : a.eval y = _ := hy.get (by simp [Op.operands]) ho
 refine ⟨_, ?_, rfl⟩
 have hr := run_slice (w := w) (ad := some ⟨b, off, none⟩) (len := n) (cap := m) (lo := some (.int .i64 (l : Int))) (hi := none) (l := l) (h := n) E (.inr ⟨_, rfl⟩) (.inl ⟨rfl, rfl⟩) (by omega) hm
 rw [if_neg (by omega)] at hr
 unfold execOp
 simp only [h1, h2, hj, Option.map_none, Option.map_some, Sem.run_bind, hr, Result.andThen_ok, Sem.run_pure]
 simp [Addr.add_lit]
theorem SY.uptoQ {x y : Operand} {off n m l : Nat} {j : Int} (E : ElT P t e 1 z bytes ag) (hx : OpD fr x (dX (.slice (some ⟨b, off, none⟩) n m))) (hy : OpD fr y (dI j)) (hj : j = (l : Int)) (hl : l <= n) (hm : n <= m) (h0 : 0 < m) :
  SY P ops hp { dst := dst, op := .slice t x none (some y) none, type := ty, pos := ps, after := af, guard := g } fr (dX (.slice (some ⟨b, off, none⟩) l m)) := SY.val fun {I w a} ho => by
 have h1 : a.eval x = _ := hx.get (by simp [Op.operands]) ho
 have h2 : a.eval y = _ := hy.get (by simp [Op.operands]) ho
 refine ⟨_, ?_, rfl⟩
 have hr := run_slice (w := w) (ad := some ⟨b, off, none⟩) (len := n) (cap := m) (lo := none) (hi := some (.int .i64 (l : Int))) (l := 0) (h := l) E (.inl ⟨rfl, rfl⟩) (.inr ⟨_, rfl⟩) (by omega) (by omega)
 rw [if_neg (by omega)] at hr
 unfold execOp
 simp only [h1, h2, hj, Option.map_none, Option.map_some, Sem.run_bind, hr, Result.andThen_ok, Sem.run_pure]
 simp [Addr.add_lit]
theorem WL.cutQ {k : Nat} (hk : k <= xs.length) (h : WL P ops Q rest fr (hQ b k cap e R (xs.take k) :: hp)) : WL P ops Q rest fr (hQ b N cap e R xs :: hp) := WL.of fun P0 B w0 w a hh hf => by
 obtain ⟨us, h1, ⟨h2, h3⟩, h4⟩ := (hQ b N cap e R xs).bound (hh.ok (hQ b N cap e R xs) (by simp))
 have hgr : w.grownBy w (hQ b N cap e R xs).blk := ⟨rfl, rfl, rfl, Nat.le_refl _, fun _ _ _ => rfl⟩
 have hok : (hQ b k cap e R (xs.take k)).ok (fun j => Imm P0 B (hQ b N cap e R xs :: hp) j /\ j < w.heap.size) w := by
  rcases h3 with ⟨hc, _⟩ | ⟨g, cap', cur, hv, hB, hg, hc1, hc2, hc3, hc4⟩
  ·cases hc
  ·cases hv
   refine ⟨us.take k, by simp [h1], ⟨by simp; omega, .inr ⟨_, _, cur, ?_, hB, hg, by simp; omega, hc2, hc3, ?_⟩⟩, fun i a1 a2 => ?_⟩
   ·simp [Nat.min_eq_left hk]
   ·rw [List.length_take, Nat.min_eq_left hk, Nat.mul_one]
    rw [Nat.mul_one] at hc4
    rw [<- hc4, List.take_take, Nat.min_eq_left hk]
   ·rw [List.getElem_take, List.getElem_take]
    rw [List.length_take] at a1 a2
    exact h4 i (by omega) (by omega)
 exact h.on (hh.write hgr (.inl rfl) hok) (hf.mono fun _ _ hd => ZI (o' := hQ b k cap e R (xs.take k)) hgr (.inl rfl) hd)
theorem WL.uptoC1 {l : Nat} {x y : Operand} {j : Int} (E : ElT P t e 1 z bytes ag) (hx : OpD fr x (dX (.slice (some ⟨b, 0, none⟩) N cap))) (hy : OpD fr y (dI j)) (hj : j = (l : Int)) (hl : l <= N) (hm : N <= cap) (h0 : 0 < cap) (hk : l <= xs.length)
  (h : WL P ops Q rest (ZB fr dst (dX (.slice (some ⟨b, 0, none⟩) l cap))) (hQ b l cap e R (xs.take l) :: hp)) : WL P ops Q ({ dst := dst, op := .slice t x none (some y) none, type := ty, pos := ps, after := af, guard := none } :: rest) fr (hQ b N cap e R xs :: hp) :=
 WL.op rfl (SY.uptoQ E hx hy hj hl hm h0) (WL.cutQ hk h)
theorem WL.clearQ {x : Operand} {off n m k : Nat} {x0 : α} (hu : P.underlying t = some (.slice e)) (hz : ∀ w, (zeroValue e).run P w = .ok z w) (hz1 : z.oneCell' = true) (hz0 : ∀ I w, R I w z x0) (hx : OpD fr x (dX (.slice (some ⟨b, off, none⟩) n m))) (hj : off = k) (hn : 0 < n) (hk : k + n = xs.length)
  (h : WL P ops Q rest (ZB fr dst dA) (hQ b N cap e R (xs.take k ++ List.replicate n x0) :: hp)) : WL P ops Q ({ dst := dst, op := .call { callee := .builtin .clear, args := #[x], argTypes := #[t] }, type := ty, pos := ps, after := af, guard := none } :: rest) fr (hQ b N cap e R xs :: hp) := by
 refine WL.of fun P0 B w0 w a hh hf => ?_
 subst hj
 have hok := (hQ b N cap e R xs).bound (hh.ok (hQ b N cap e R xs) (by simp))
 obtain ⟨us, h1, ⟨h2, h3⟩, h4⟩ := hok
 rcases h3 with ⟨hc, _⟩ | ⟨g, cap', cur, hv, hB, hg, hc1, hc2, hc3, hc4⟩
 ·cases hc
 cases hv
 rw [Nat.mul_one] at hc3 hc4
 have hval : a.eval x = _ := hx.ev hf
 have hcl : off + n <= cur.toList.length := by simp; omega
 have hzc : (Builtin.zeroCells #[z] n).toList = List.replicate n z := by
  simp only [Builtin.zeroCells]
  apply List.ext_getElem
  ·simp
  ·intro i h1 h2
   simp [Nat.mod_one]
 have hcell : ∀ j < n, w.cell? ⟨b, off + j, none⟩ ≠ none /\ w.frozen? ⟨b, off + j, none⟩ = false := fun j hj => by
  have : off + j < cur.size := by omega
  exact ⟨by simp [World.cell?, hg, this], by simp [World.frozen?, hg]⟩
 have hst := run_storeCells_cells (P := P) b off (List.replicate n z) 0 w (fun j hj => by
   rw [List.length_replicate] at hj
   rw [Nat.add_zero]
   exact Option.isSome_iff_ne_none.2 (hcell j hj).1) (fun j hj => by
   rw [List.length_replicate] at hj
   rw [Nat.add_zero]
   exact (hcell j hj).2) (fun c hc => by rw [(List.mem_replicate.1 hc).2]; exact hz1)
 have hrun : (execOp a.eval { dst := dst, op := .call { callee := .builtin .clear, args := #[x], argTypes := #[t] }, type := ty, pos := ps, after := af, guard := none }).run P w = .ok (.value (.tuple #[])) (w.setCells b off (List.replicate n z)) := by
  obtain ⟨m', rfl⟩ : ∃ m, n = m + 1 := ⟨n - 1, by omega⟩
  unfold execOp
  simp [resolve, invoke, builtin, hval, Builtin.clear_, run_underlying hu, hz, ZBo hz1, hzc, hst]
 have hsplit : cur = (cur.toList.take off ++ (cur.toList.drop off).take n ++ cur.toList.drop (off + n)).toArray := by
  apply Array.ext'
  simp [<- List.drop_drop]
 have hg2 : (w.setCells b off (List.replicate n z)).heap[b]? = some (.cells (cur.toList.take off ++ List.replicate n z ++ cur.toList.drop (off + n)).toArray e (0, 0)) := by
  have := ZAO (g := b) (e := e) (fz := (0, 0)) (List.replicate n z) ((cur.toList.drop off).take n) (cur.toList.take off) (cur.toList.drop (off + n)) w (by simp; omega) (by rw [<- hsplit]; exact hg)
  rwa [List.length_take, Nat.min_eq_left (by omega)] at this
 have hgr : w.grownBy (w.setCells b off (List.replicate n z)) (some b) := row_grown
 have hok' : (hQ b xs.length cap e R (xs.take off ++ List.replicate n x0)).ok (fun j => Imm P0 B (hQ b xs.length cap e R xs :: hp) j /\ j < w.heap.size) (w.setCells b off (List.replicate n z)) := by
  have hlen : (xs.take off ++ List.replicate n x0).length = xs.length := by simp; omega
  have hlu : (us.take off ++ List.replicate n z).length = xs.length := by simp; omega
  refine ⟨us.take off ++ List.replicate n z, by rw [hlen, hlu], ⟨by rw [hlu, hlen, Nat.mul_one], .inr ⟨_, _, _, by rw [hlen], hB, hg2, by rw [hlen]; exact hc1, hc2, ?_, ?_⟩⟩, fun i a1 a2 => ?_⟩
  ·simp; omega
  ·rw [hlen, Nat.mul_one]
   rw [List.take_append_of_le_length (by simp; omega), List.take_of_length_le (by simp; omega), <- hc4, List.take_take, Nat.min_eq_left (by omega)]
  ·by_cases hi : i < off
   ·rw [List.getElem_append_left (by simp; omega), List.getElem_append_left (by simp; omega), List.getElem_take, List.getElem_take]
    have := h4 i (by omega) (by omega)
    exact ⟨this.1, Good.grown this.2 hgr fun r hr hc => hc.2 (by cases hr; rfl)⟩
   ·rw [List.getElem_append_right (by simp; omega), List.getElem_append_right (by simp; omega), List.getElem_replicate, List.getElem_replicate]
    exact ⟨hz1, hz0 _ _⟩
 refine wpList_plain rfl fun K hK => ?_
 unfold Oper.wp
 rw [hrun]
 exact hK _ _ (h.on (hh.write hgr (.inl rfl) hok') (Fr.put (hf.mono fun _ _ hd => ZI (o := hQ b xs.length cap e R xs) (o' := hQ b xs.length cap e R (xs.take off ++ List.replicate n x0)) hgr (.inl rfl) hd) (d := dA) trivial))
end
end
end Go.Proofs.YtmcllakdbgnfiaaGreatDoor
