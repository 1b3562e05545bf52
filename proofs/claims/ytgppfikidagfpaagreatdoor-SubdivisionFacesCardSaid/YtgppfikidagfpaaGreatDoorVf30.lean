/- Part 30: walks by contracts, and plain laws. -/
import Derived.Shelf.Strconv.Itoa3
import Derived.Shelf.Strings.BuilderK
import Derived.Test.YtgppfikidagfpaaGreatDoorVf13
set_option linter.unusedVariables false
set_option linter.unusedSimpArgs false
set_option linter.unusedSectionVars false
namespace Go.Proofs
open Go.Shelf
def Tryz.lays169_ren : Go.Shelf.Ren := ⟨fun | 169 => 139 | n => n, fun | 70 => 163 | 9 => 9 | 0 => 0 | 72 => 166 | 37 => 164 | 127 => 194 | 3 => 3 | 5 => 5 | n => n, fun | n => n⟩
theorem Tryz.lays169 : Go.Proofs.Lays.n169 Tryz.prog Tryz.lays169_ren := {
  mixed := by kernel_rfl
  f169 := Tryz.func139.trans (congrArg some (by kernel_rfl))
  t0 := Tryz.underlying0
  a0 := Tryz.isAgg0
  z0 := Tryz.sizeOf0
  v0 := Tryz.zeroValue0
  t3 := Tryz.underlying3
  a3 := Tryz.isAgg3
  z3 := Tryz.sizeOf3
  v3 := Tryz.zeroValue3
  t9 := Tryz.underlying9
  a9 := Tryz.isAgg9
  z9 := Tryz.sizeOf9
  v9 := Tryz.zeroValue9
  t37 := Tryz.underlying164
  a37 := Tryz.isAgg164
  z37 := Tryz.sizeOf164
  v37 := Tryz.zeroValue164
  t70 := Tryz.underlying163
  a70 := Tryz.isAgg163
  z70 := Tryz.sizeOf163
  v70 := Tryz.zeroValue163
  t72 := Tryz.underlying166
  a72 := Tryz.isAgg166
  z72 := Tryz.sizeOf166
  v72 := Tryz.zeroValue166
  t127 := Tryz.underlying194
  a127 := Tryz.isAgg194
  z127 := Tryz.sizeOf194
  v127 := Tryz.zeroValue194 }
def Tryz.laysM171_ren : Go.Shelf.Ren := ⟨fun | 171 => 138 | 243 => 159 | 246 => 187 | 283 => 197 | 284 => 198 | 285 => 199 | 286 => 200 | 129 => 176 | 317 => 203 | 318 => 204 | 319 => 205 | 320 => 206 | 337 => 207 | 338 => 208 | n => n, fun | 3 => 3 | 9 => 9 | 2 => 2 | 4 => 4 | 171 => 226 | 0 => 0 | 53 => 209 | 37 => 164 | 5 => 5 | 173 => 228 | 212 => 235 | 51 => 207 | 20 => 20 | 213 => 236 | 46 => 187 | 232 => 237 | 233 => 238 | n => n, fun | 17 => 0 | 18 => 1 | 19 => 2 | n => n⟩
theorem Tryz.laysM171 : Go.Proofs.LaysM.n171 Tryz.prog Tryz.laysM171_ren := {
  mixed := by kernel_rfl
  f129 := Tryz.func176.trans (congrArg some (by kernel_rfl))
  f171 := Tryz.func138.trans (congrArg some (by kernel_rfl))
  f243 := Tryz.func159.trans (congrArg some (by kernel_rfl))
  f246 := Tryz.func187.trans (congrArg some (by kernel_rfl))
  f283 := Tryz.func197.trans (congrArg some (by kernel_rfl))
  f284 := Tryz.func198.trans (congrArg some (by kernel_rfl))
  f285 := Tryz.func199.trans (congrArg some (by kernel_rfl))
  f286 := Tryz.func200.trans (congrArg some (by kernel_rfl))
  f317 := Tryz.func203.trans (congrArg some (by kernel_rfl))
  f318 := Tryz.func204.trans (congrArg some (by kernel_rfl))
  f319 := Tryz.func205.trans (congrArg some (by kernel_rfl))
  f320 := Tryz.func206.trans (congrArg some (by kernel_rfl))
  f337 := Tryz.func207.trans (congrArg some (by kernel_rfl))
  f338 := Tryz.func208.trans (congrArg some (by kernel_rfl))
  t0 := Tryz.underlying0
  a0 := Tryz.isAgg0
  z0 := Tryz.sizeOf0
  v0 := Tryz.zeroValue0
  t2 := Tryz.underlying2
  a2 := Tryz.isAgg2
  z2 := Tryz.sizeOf2
  v2 := Tryz.zeroValue2
  t3 := Tryz.underlying3
  a3 := Tryz.isAgg3
  z3 := Tryz.sizeOf3
  v3 := Tryz.zeroValue3
  t4 := Tryz.underlying4
  a4 := Tryz.isAgg4
  z4 := Tryz.sizeOf4
  v4 := Tryz.zeroValue4
  t5 := Tryz.underlying5
  a5 := Tryz.isAgg5
  z5 := Tryz.sizeOf5
  v5 := Tryz.zeroValue5
  t9 := Tryz.underlying9
  a9 := Tryz.isAgg9
  z9 := Tryz.sizeOf9
  v9 := Tryz.zeroValue9
  t20 := Tryz.underlying20
  a20 := Tryz.isAgg20
  z20 := Tryz.sizeOf20
  v20 := Tryz.zeroValue20
  t37 := Tryz.underlying164
  a37 := Tryz.isAgg164
  z37 := Tryz.sizeOf164
  v37 := Tryz.zeroValue164
  t46 := Tryz.underlying187
  a46 := Tryz.isAgg187
  z46 := Tryz.sizeOf187
  v46 := Tryz.zeroValue187
  t51 := Tryz.underlying207
  a51 := Tryz.isAgg207
  z51 := Tryz.sizeOf207
  v51 := Tryz.zeroValue207
  t53 := Tryz.underlying209
  a53 := Tryz.isAgg209
  z53 := Tryz.sizeOf209
  v53 := Tryz.zeroValue209
  t171 := Tryz.underlying226
  a171 := Tryz.isAgg226
  z171 := Tryz.sizeOf226
  v171 := Tryz.zeroValue226
  t173 := Tryz.underlying228
  a173 := Tryz.isAgg228
  z173 := Tryz.sizeOf228
  v173 := Tryz.zeroValue228
  t212 := Tryz.underlying235
  a212 := Tryz.isAgg235
  z212 := Tryz.sizeOf235
  v212 := Tryz.zeroValue235
  t213 := Tryz.underlying236
  a213 := Tryz.isAgg236
  z213 := Tryz.sizeOf236
  t232 := Tryz.underlying237
  a232 := Tryz.isAgg237
  z232 := Tryz.sizeOf237
  v232 := Tryz.zeroValue237
  t233 := Tryz.underlying238
  a233 := Tryz.isAgg238
  z233 := Tryz.sizeOf238
  v233 := Tryz.zeroValue238
  g17 := by kernel_rfl
  g18 := by kernel_rfl
  g19 := by kernel_rfl
  i0 := by kernel_rfl
  i2 := by kernel_rfl
  i3 := by kernel_rfl
  i4 := by kernel_rfl
  i5 := by kernel_rfl
  i9 := by kernel_rfl
  i20 := by kernel_rfl
  i37 := by kernel_rfl
  i46 := by kernel_rfl
  i51 := by kernel_rfl
  i53 := by kernel_rfl
  i171 := by kernel_rfl
  i173 := by kernel_rfl
  i212 := by kernel_rfl
  i232 := by kernel_rfl
  i233 := by kernel_rfl
  m17 := by kernel_rfl
  m18 := by kernel_rfl
  m19 := by kernel_rfl }
def Tryz.lays166_ren : Go.Shelf.Ren := ⟨fun | 166 => 137 | 240 => 158 | 276 => 186 | n => n, fun | 0 => 0 | 3 => 3 | 4 => 4 | 9 => 9 | 20 => 20 | 37 => 164 | 70 => 163 | 72 => 166 | 75 => 168 | 80 => 172 | 164 => 215 | 5 => 5 | n => n, fun | n => n⟩
theorem Tryz.lays166 : Go.Proofs.Lays.n166 Tryz.prog Tryz.lays166_ren := {
  mixed := by kernel_rfl
  f166 := Tryz.func137.trans (congrArg some (by kernel_rfl))
  f240 := Tryz.func158.trans (congrArg some (by kernel_rfl))
  f276 := Tryz.func186.trans (congrArg some (by kernel_rfl))
  t0 := Tryz.underlying0
  a0 := Tryz.isAgg0
  z0 := Tryz.sizeOf0
  v0 := Tryz.zeroValue0
  t3 := Tryz.underlying3
  a3 := Tryz.isAgg3
  z3 := Tryz.sizeOf3
  v3 := Tryz.zeroValue3
  t4 := Tryz.underlying4
  a4 := Tryz.isAgg4
  z4 := Tryz.sizeOf4
  v4 := Tryz.zeroValue4
  t9 := Tryz.underlying9
  a9 := Tryz.isAgg9
  z9 := Tryz.sizeOf9
  v9 := Tryz.zeroValue9
  t20 := Tryz.underlying20
  a20 := Tryz.isAgg20
  z20 := Tryz.sizeOf20
  v20 := Tryz.zeroValue20
  t37 := Tryz.underlying164
  a37 := Tryz.isAgg164
  z37 := Tryz.sizeOf164
  v37 := Tryz.zeroValue164
  t70 := Tryz.underlying163
  a70 := Tryz.isAgg163
  z70 := Tryz.sizeOf163
  v70 := Tryz.zeroValue163
  t72 := Tryz.underlying166
  a72 := Tryz.isAgg166
  z72 := Tryz.sizeOf166
  v72 := Tryz.zeroValue166
  t75 := Tryz.underlying168
  a75 := Tryz.isAgg168
  z75 := Tryz.sizeOf168
  v75 := Tryz.zeroValue168
  t164 := Tryz.underlying215
  a164 := Tryz.isAgg215
  z164 := Tryz.sizeOf215
  v164 := Tryz.zeroValue215 }
theorem Tryz.Builder_Extra_166 : Builder.Extra Tryz.prog Tryz.lays166_ren where
  sizeBuilder := by kernel_rfl
  liesBuilder := by kernel_rfl
  t5 := Tryz.underlying5
  a5 := Tryz.isAgg5
  z5 := Tryz.sizeOf5
  v5 := Tryz.zeroValue5
  infoByte := by kernel_rfl
  cellsByte := by kernel_rfl
  sizeByte := by kernel_rfl
  neB5 := by decide
theorem Tryz.Builder_Extra_169 : Builder.Extra Tryz.prog Tryz.lays169_ren where
  sizeBuilder := by kernel_rfl
  liesBuilder := by kernel_rfl
  t5 := Tryz.underlying5
  a5 := Tryz.isAgg5
  z5 := Tryz.sizeOf5
  v5 := Tryz.zeroValue5
  infoByte := by kernel_rfl
  cellsByte := by kernel_rfl
  sizeByte := by kernel_rfl
  neB5 := by decide
end Go.Proofs
namespace Go.Proofs.YtgppfikidagfpaaGreatDoor
open Go.RowKit
def dLow (b : Nat) (d : Dat) : Dat := ⟨fun P w v => d.rd (fun k => P k ∧ k < b) w v, fun h q => d.weak h fun k hk => ⟨q k hk.1, hk.2⟩, fun h q => d.move h fun k hk hl => q k hk.1 hl, fun h => d.weak (d.bound h) fun k hk => ⟨⟨hk.1.1, hk.2⟩, hk.1.2⟩⟩
theorem dLow_le {b : Nat} {d : Dat} : (dLow b d).le d := fun _ _ _ h => d.weak h fun _ hk => hk.1
def Safe (b : Nat) (d : Dat) : Prop := ∀ (P : Nat → Prop) (w w' : World) (v : Value), d.rd P w v → (∀ k, k < b → k < w.heap.size → w'.heap[k]? = w.heap[k]?) → d.rd P w' v
theorem safe_low {b : Nat} {d : Dat} : Safe b (dLow b d) := fun _ _ _ _ h q => d.move h fun k hk hl => q k hk.2 hl
theorem safe_X {b : Nat} {v : Value} : Safe b (dX v) := fun _ _ _ _ h _ => h
theorem safe_I {b : Nat} {n : Int} : Safe b (dI n) := fun _ _ _ _ h _ => h
theorem safe_B {b : Nat} {n : Bool} : Safe b (dB n) := fun _ _ _ _ h _ => h
theorem safe_A {b : Nat} : Safe b dA := fun _ _ _ _ _ _ => trivial
theorem safe_V {b : Nat} {x : Int × Int} : Safe b (dS RV x) := fun _ _ _ _ h _ => h
structure SafeO (e : TypeId) (b : Nat) (o : HObj) : Prop where
  kept : ∀ (P : Nat → Prop) (w w' : World), o.ok P w → o.blk ≠ some b → (∀ k, k < b → k < w.heap.size → w'.heap[k]? = w.heap[k]?) → Lib.OthersKept e (some b) w w' → o.ok P w'
  kind : ∀ (P : Nat → Prop) (w : World) (k : Nat), o.ok P w → o.blk = some k → ∃ cs T fz, w.heap[k]? = some (.cells cs T fz) ∧ T ≠ e
theorem safe_str {e T : TypeId} {b c : Nat} {ds : List Dat} (hT : T ≠ e) (h : ∀ d ∈ ds, Safe b d) : SafeO e b (hStr c T ds) :=
  ⟨fun _ _ _ ⟨cs, c1, c2, c3, c4⟩ hne hb hk => ⟨cs, hk c _ c1 (fun he => hne he) (fun _ _ he => by cases he; exact hT rfl), c2, c3, fun k u d hu hd => h d (List.mem_of_getElem? hd) _ _ _ _ (c4 k u d hu hd) hb⟩,
   fun _ _ _ ⟨_, c1, _, _, _⟩ hk => by cases hk; exact ⟨_, _, _, c1, hT⟩⟩
def hBld (b : Nat) (T e : TypeId) (l : List UInt8) : HObj where
  blk := some b
  ok := fun P w => ∃ p v, (p = .pointer none ∨ p = .pointer (some ⟨b, 0, none⟩)) ∧ w.heap[b]? = some (.cells #[p, v] T (0, 0)) ∧ w.ownsRowF b e 1 v (Lib.byteCells l).length (Lib.byteCells l) ∧ v.ownBlock ≠ some b ∧ ∀ g, v.ownBlock = some g → P g
  weak := fun h q => by
    obtain ⟨p, v, h1, h2, h3, h4, h5⟩ := h
    exact ⟨p, v, h1, h2, h3, h4, fun g hg => q g (h5 g hg)⟩
  bound := fun h => by
    obtain ⟨p, v, h1, h2, h3, h4, h5⟩ := h
    exact ⟨p, v, h1, h2, h3, h4, fun g hg => ⟨h5 g hg, (h3.lt g hg).2⟩⟩
  move := fun {P w w' row} h hg hP hne => by
    obtain ⟨p, v, h1, h2, h3, h4, h5⟩ := h
    have hlt : b < w.heap.size := (Array.getElem?_eq_some_iff.1 h2).1
    refine ⟨p, v, h1, (hg.block b hlt ?_).trans h2, h3.kept hg ?_, h4, h5⟩
    · rcases hne with h | h
      · cases h
      · exact h
    · cases hv : v.ownBlock with
      | none => exact .inl rfl
      | some g => exact .inr fun he => hP g he.symm (h5 g hv)
section
variable {P : Program} {ops : Array Oper} {hp : List HObj} {fr : List Dat} {Q : Post} {rest : List Oper}
variable {dst : Option Tmp} {ty : TypeId} {ps : String} {af : Array Edge} {g : Option (Nat × Bool)} {T e : TypeId} {b : Nat} {l : List UInt8}
theorem WL.forget (t : Nat) (h : WL P ops Q rest (fr.set t dA) hp) : WL P ops Q rest fr hp := WL.of fun P0 B w0 w a hh hf => h.on hh (hf.weak (by simp) fun k d hd => by
  rw [List.getElem?_set] at hd
  by_cases hk : t = k
  · rw [if_pos hk] at hd
    split at hd
    · rename_i hl
      cases hd
      exact ⟨fr[t], by rw [← hk]; exact List.getElem?_eq_getElem hl, Dat.le_any _⟩
    · cases hd
  · rw [if_neg hk] at hd
    exact ⟨d, hd, Dat.le_refl d⟩)
theorem WL.allocBld (hz : TyZ P T (.agg #[.pointer none, .slice none 0 0])) (h : ∀ b, WL P ops Q rest (setD (fr.map (dLow b)) dst (dX (.pointer (some ⟨b, 0, none⟩)))) [hBld b T e []]) :
    WL P ops Q ({ dst := dst, op := .alloc T, type := ty, pos := ps, after := af, guard := none } :: rest) fr [] := by
  refine WL.of fun P0 B w0 w a hh hf => ?_
  have hrun : (execOp a.eval { dst := dst, op := .alloc T, type := ty, pos := ps, after := af, guard := none }).run P w = .ok (.value (.pointer (some ⟨w.heap.size, 0, none⟩))) (w.alloc (.cells #[.pointer none, .slice none 0 0] T)) := by
    cases hq : P.info? T with
    | none => have := hz.out; simp [hq] at this
    | some i =>
      have hz' : i.zero = some (.agg #[.pointer none, .slice none 0 0]) := by have := hz.out; simpa [hq] using this
      unfold execOp
      simp [Instr.alloc, zeroValue, typeInfo, hq, hz', newVar, newRow]
      rfl
  refine wpList_value rfl hrun ?_
  have hx := Ext.of_alloc w (.cells #[.pointer none, .slice none 0 0] T)
  have hb : ∀ k, (hBld w.heap.size T e []).blk = some k → w.heap.size ≤ k ∧ k < (w.alloc (.cells #[.pointer none, .slice none 0 0] T)).heap.size := fun k hk => by
    cases hk
    exact ⟨Nat.le_refl _, by simp⟩
  have hf2 : Fr (Imm P0 B [hBld w.heap.size T e []]) (w.alloc (.cells #[.pointer none, .slice none 0 0] T)) a (fr.map (dLow w.heap.size)) := by
    refine ⟨hf.defers, by simpa using hf.size, fun t d hd => ?_⟩
    rw [List.getElem?_map] at hd
    cases ht : fr[t]? with
    | none => rw [ht] at hd; cases hd
    | some d0 =>
      rw [ht] at hd
      cases hd
      have h1 := d0.bound (hf.rd t d0 ht)
      have h2 := Dat.ext h1 hx
      refine d0.weak h2 fun k hk => ⟨⟨hk.1.1, fun q hq hqk => ?_⟩, hk.2⟩
      cases List.mem_singleton.1 hq
      cases hqk
      exact absurd hk.2 (Nat.lt_irrefl _)
  exact (h w.heap.size).on (hh.push hx hb ⟨_, _, .inl rfl, alloc_get w _, World.ownsRowF_nil _ _ _ _, (by simp [Value.ownBlock]), fun g hg => by simp [Value.ownBlock] at hg⟩) (Fr.put hf2 rfl)
theorem bld_hp {P0 : Nat → Prop} {B : Nat} {w0 w w' : World} {l l' : List UInt8} (hh : Hp P0 B w0 (hBld b T e l :: hp) w) (hs : ∀ o ∈ hp, SafeO e b o)
    (hI : Lib.IsBuilderF T e b b (Lib.byteCells l') w') (hb : Below b w w') (hk : Lib.OthersKept e (some b) w w') : Hp P0 B w0 (hBld b T e l' :: hp) w' := by
  have hBb := (hh.own (hBld b T e l) (by simp) b rfl).1
  have hq : ∀ k, k < b → k < w.heap.size → w'.heap[k]? = w.heap[k]? := fun k h1 _ => hb.block k h1
  have hap := List.pairwise_cons.1 hh.apart
  have hne : ∀ o ∈ hp, o.blk ≠ some b := fun o ho => hap.1 o ho b rfl
  refine ⟨hh.base, ?_, ?_, ?_, List.pairwise_cons.2 ⟨fun o ho k hk => hap.1 o ho k hk, hap.2⟩⟩
  · exact hh.below.trans (hb.mono hBb)
  · intro o ho k hok
    rcases List.mem_cons.1 ho with rfl | ho
    · cases hok
      exact ⟨hBb, Nat.lt_of_lt_of_le (hh.own (hBld b T e l) (by simp) b rfl).2 hb.size⟩
    · have := hh.own o (List.mem_cons_of_mem _ ho) k hok
      exact ⟨this.1, Nat.lt_of_lt_of_le this.2 hb.size⟩
  · intro o ho
    rcases List.mem_cons.1 ho with rfl | ho
    · obtain ⟨p, v, hp1, hA⟩ : ∃ p v, (p = .pointer none ∨ p = .pointer (some ⟨b, 0, none⟩)) ∧ w'.heap[b]? = some (.cells #[p, v] T (0, 0)) ∧ w'.ownsRowF b e 1 v (Lib.byteCells l').length (Lib.byteCells l') ∧ v.ownBlock ≠ some b := by
        rcases hI with ⟨_, v, h1, h2, h3⟩ | ⟨_, v, h1, h2, h3⟩
        · exact ⟨_, v, .inl rfl, h1, h2, h3⟩
        · exact ⟨_, v, .inr rfl, h1, h2, h3⟩
      refine ⟨p, v, hp1, hA.1, hA.2.1, hA.2.2, fun g hg => ⟨.inr (Nat.le_trans hBb (hA.2.1.lt g hg).1), fun q hq2 hqk => ?_⟩⟩
      rcases List.mem_cons.1 hq2 with rfl | hq2
      · cases hqk
        exact hA.2.2 hg
      · have hok := hh.ok q (List.mem_cons_of_mem _ hq2)
        have hok' := (hs q hq2).kept _ _ _ hok (hne q hq2) hq hk
        obtain ⟨cs, T', fz, h1, h2⟩ := (hs q hq2).kind _ _ _ hok' hqk
        obtain ⟨c, fz', h3⟩ := Lib.ownsRowF_kind hA.2.1 g hg
        rw [h1] at h3
        cases h3
        exact h2 rfl
    · have hok := hh.ok o (List.mem_cons_of_mem _ ho)
      exact o.weak ((hs o ho).kept _ _ _ hok (hne o ho) hq hk) fun k hk => ⟨hk.1, fun q hq2 => by
        rcases List.mem_cons.1 hq2 with rfl | hq2
        · exact hk.2 (hBld b T e l) (by simp)
        · exact hk.2 q (List.mem_cons_of_mem _ hq2)⟩
theorem bld_fr {P0 : Nat → Prop} {B : Nat} {w w' : World} {a : Act} {l l' : List UInt8} (hf : Fr (Imm P0 B (hBld b T e l :: hp)) w a fr) (hfr : ∀ d ∈ fr, Safe b d) (hb : Below b w w') : Fr (Imm P0 B (hBld b T e l' :: hp)) w' a fr :=
  ⟨hf.defers, hf.size, fun t d hd => d.weak (hfr d (List.mem_of_getElem? hd) _ _ _ _ (hf.rd t d hd) fun k h1 _ => hb.block k h1) fun k hk => ⟨hk.1, fun q hq2 => by
    rcases List.mem_cons.1 hq2 with rfl | hq2
    · exact hk.2 (hBld b T e l) (by simp)
    · exact hk.2 q (List.mem_cons_of_mem _ hq2)⟩⟩
theorem bld_is {I : Nat → Prop} {w : World} (h : (hBld b T e l).ok I w) : Lib.IsBuilderF T e b b (Lib.byteCells l) w := by
  obtain ⟨p, v, hp1, h1, h2, h3, _⟩ := h
  rcases hp1 with rfl | rfl
  · exact .inl ⟨Nat.le_refl _, v, h1, h2, h3⟩
  · exact .inr ⟨Nat.le_refl _, v, h1, h2, h3⟩
theorem WL.wstr {f : FuncId} {x y : Operand} {ats : Array TypeId} {s : List UInt8}
    (hF : ∀ (B b : Nat) (bs : List Value) (s : ByteArray) (w : World), Lib.IsBuilderF T e B b bs w → bs.length + s.size ≤ 140737488355328 → B ≤ w.heap.size → Calls P f #[.pointer (some ⟨b, 0, none⟩), .string s] w fun r w' => r = .returned (.tuple #[.int .i64 s.size, .nilIface]) ∧ (Lib.BuilderAtF T e B b (.pointer (some ⟨b, 0, none⟩)) (bs ++ Lib.strCells s) w' ∧ Below B w w' ∧ Lib.OthersKept e (some b) w w'))
    (hf : ∀ (args : Array Value) (w : World), (callFunc f args).run P w = .ok (.enter f args) w) (hx : OpD fr x (dX (.pointer (some ⟨b, 0, none⟩)))) (hy : OpD fr y (dX (.string ⟨s.toArray⟩)))
    (hlen : l.length + s.length ≤ 140737488355328) (hfr : ∀ d ∈ fr, Safe b d) (hs : ∀ o ∈ hp, SafeO e b o) (h : WL P ops Q rest (setD fr dst dA) (hBld b T e (l ++ s) :: hp)) :
    WL P ops Q ({ dst := dst, op := .call { callee := .value (.func f), args := #[x, y], argTypes := ats }, type := ty, pos := ps, after := af, guard := none } :: rest) fr (hBld b T e l :: hp) := by
  refine WL.of fun P0 B w0 w a hh hf2 => ?_
  have e1 : a.eval x = _ := hx.ev hf2
  have e2 : a.eval y = _ := hy.ev hf2
  refine wpList_plain rfl fun K hK => ?_
  unfold Oper.wp
  have hrun : (execOp a.eval { dst := dst, op := .call { callee := .value (.func f), args := #[x, y], argTypes := ats }, type := ty, pos := ps, after := af, guard := none }).run P w = .ok (.enter f #[.pointer (some ⟨b, 0, none⟩), .string ⟨s.toArray⟩]) w := by
    unfold execOp
    have ef : a.eval (.func f) = .func (.func f) #[] #[] := rfl
    simp only [resolve]
    simp [ef, e1, e2, Deferred.ofValue, invoke, hf]
  rw [hrun]
  have hlt := (hh.own (hBld b T e l) (by simp) b rfl).2
  refine (hF b b (Lib.byteCells l) ⟨s.toArray⟩ w (bld_is (hh.ok _ (by simp))) (by rw [Lib.byteCells_length]; simpa [ByteArray.size] using hlen) (Nat.le_of_lt hlt)).mono fun r w' hr => ?_
  obtain ⟨rfl, hA, hb, hk⟩ := hr
  rw [show Lib.strCells ⟨s.toArray⟩ = Lib.byteCells s from rfl, ← Lib.byteCells_append] at hA
  exact hK _ _ (h.on (bld_hp hh hs (.inr hA) hb hk) (Fr.put (bld_fr hf2 hfr hb) (d := dA) trivial))
theorem WL.strOf {f : FuncId} {x : Operand} {ats : Array TypeId}
    (hF : ∀ (B b : Nat) (l : List UInt8) (w : World), Lib.IsBuilderF T e B b (Lib.byteCells l) w → B ≤ w.heap.size → Calls P f #[.pointer (some ⟨b, 0, none⟩)] w fun r w' => r = .returned (.string ⟨l.toArray⟩) ∧ (Lib.IsBuilderF T e B b (Lib.byteCells l) w' ∧ Below B w w' ∧ Lib.OthersKept e (some b) w w'))
    (hf : ∀ (args : Array Value) (w : World), (callFunc f args).run P w = .ok (.enter f args) w) (hx : OpD fr x (dX (.pointer (some ⟨b, 0, none⟩))))
    (hfr : ∀ d ∈ fr, Safe b d) (hs : ∀ o ∈ hp, SafeO e b o) (h : WL P ops Q rest (setD fr dst (dX (.string ⟨l.toArray⟩))) (hBld b T e l :: hp)) :
    WL P ops Q ({ dst := dst, op := .call { callee := .value (.func f), args := #[x], argTypes := ats }, type := ty, pos := ps, after := af, guard := none } :: rest) fr (hBld b T e l :: hp) := by
  refine WL.of fun P0 B w0 w a hh hf2 => ?_
  have e1 : a.eval x = _ := hx.ev hf2
  refine wpList_plain rfl fun K hK => ?_
  unfold Oper.wp
  have hrun : (execOp a.eval { dst := dst, op := .call { callee := .value (.func f), args := #[x], argTypes := ats }, type := ty, pos := ps, after := af, guard := none }).run P w = .ok (.enter f #[.pointer (some ⟨b, 0, none⟩)]) w := by
    unfold execOp
    have ef : a.eval (.func f) = .func (.func f) #[] #[] := rfl
    simp only [resolve]
    simp [ef, e1, Deferred.ofValue, invoke, hf]
  rw [hrun]
  have hlt := (hh.own (hBld b T e l) (by simp) b rfl).2
  refine (hF b b l w (bld_is (hh.ok _ (by simp))) (Nat.le_of_lt hlt)).mono fun r w' hr => ?_
  obtain ⟨rfl, hA, hb, hk⟩ := hr
  exact hK _ _ (h.on (bld_hp hh hs hA hb hk) (Fr.put (bld_fr hf2 hfr hb) (d := dX (.string ⟨l.toArray⟩)) rfl))
theorem SY.addS {x y : Operand} {T2 : TypeId} {s t : List UInt8} (hx : OpD fr x (dX (.string ⟨s.toArray⟩))) (hy : OpD fr y (dX (.string ⟨t.toArray⟩))) (hl : s.length + t.length ≤ 4611686018427387904) :
    SY P ops hp { dst := dst, op := .binOp .add T x y T2, type := ty, pos := ps, after := af, guard := g } fr (dX (.string ⟨(s ++ t).toArray⟩)) :=
  SY.val fun {I w a} ho => ⟨.string ⟨(s ++ t).toArray⟩, by
    have h1 : a.eval x = .string ⟨s.toArray⟩ := hx.get (by simp [Op.operands]) ho
    have h2 : a.eval y = .string ⟨t.toArray⟩ := hy.get (by simp [Op.operands]) ho
    unfold execOp
    simp [h1, h2, Go.binOp, eqGuard, Op.stringOp]
    have e1 : (⟨s.toArray⟩ : ByteArray).size = s.length := by simp [ByteArray.size]
    have e2 : (⟨t.toArray⟩ : ByteArray).size = t.length := by simp [ByteArray.size]
    rw [e1, e2, if_neg (by omega)]
    have e3 : (⟨s.toArray⟩ : ByteArray) ++ ⟨t.toArray⟩ = ⟨(s ++ t).toArray⟩ := by
      apply ByteArray.ext
      simp
    rw [e3], rfl⟩
end
end Go.Proofs.YtgppfikidagfpaaGreatDoor
namespace Go.Proofs.YtgppfikidagfpaaGreatDoor
open Go.RowKit
set_option linter.unusedSimpArgs false

set_option maxHeartbeats 2000000
set_option maxRecDepth 100000
def txV (v : Vx) : List UInt8 := ((Lib.itoa v.1 ++ [47]) ++ Lib.itoa v.2) ++ [32]
def txS (s : List Vx) : List UInt8 := s.flatMap txV
theorem txS_snoc {s : List Vx} {k : Nat} (h : k < s.length) : txS (s.take (k + 1)) = txS (s.take k) ++ txV s[k] := by
  unfold txS
  rw [List.take_succ_eq_append_getElem h, List.flatMap_append]
  simp
theorem itoa_len (n : Int) (h : 0 ≤ n ∧ n < 100) : (Lib.itoa n).length ≤ 21 := by
  obtain ⟨m, rfl⟩ := Int.eq_ofNat_of_zero_le h.1
  rw [Lib.itoa_nonneg]
  by_cases h1 : m < 10
  · rw [Lib.decDigits_one h1]; simp
  · rw [Lib.decDigits_two h1 (by omega)]; simp
theorem txV_len {v : Vx} (h0 : 0 ≤ v.1 ∧ v.1 < 100) (h1 : 0 ≤ v.2 ∧ v.2 < 100) : (txV v).length ≤ 100 := by
  have e0 := itoa_len v.1 h0
  have e1 := itoa_len v.2 h1
  unfold txV
  simp only [List.length_append, List.length_cons, List.length_nil]
  omega
theorem txS_len : ∀ {s : List Vx}, (∀ v ∈ s, (0 ≤ v.1 ∧ v.1 < 100) ∧ 0 ≤ v.2 ∧ v.2 < 100) → (txS s).length ≤ 100 * s.length
  | [], _ => by simp [txS]
  | v :: s, h => by
    have h1 := txV_len (h v (by simp)).1 (h v (by simp)).2
    have h2 := txS_len (s := s) fun u hu => h u (by simp [hu])
    have : txS (v :: s) = txV v ++ txS s := rfl
    rw [this, List.length_append, List.length_cons]
    omega
theorem itoa_p (n : Int) (h : 0 ≤ n ∧ n < 100) : Fn Tryz.prog 138 [dI n] (dX (.string ⟨(Lib.itoa n).toArray⟩)) := Fn.mk fun I w vs hl hv => by
  obtain ⟨v, rfl⟩ := List.length_eq_one_iff.1 hl
  have hv0 : v = .int .i64 n := hv 0 _ rfl
  subst hv0
  obtain ⟨m, rfl⟩ := Int.eq_ofNat_of_zero_le h.1
  refine (Any.strconv_Itoa_small { Tryz.laysM171 with } m (by omega) w).mono fun r w' hr => ?_
  obtain ⟨rfl, rfl⟩ := hr
  exact ⟨_, rfl, Ext.refl _, by rw [Lib.itoa_nonneg]; rfl⟩
theorem le_RV {x : Int × Int} : (dS RV x).le (dAgg [dI x.1, dI x.2]) := fun _ _ _ h => by
  cases (h : _ = _)
  exact ⟨[_, _], rfl, rfl, by simp [Value.oneCell'], fun k c d hc hd => by
    match k, hc, hd with
    | 0, hc, hd => cases hc; cases hd; rfl
    | 1, hc, hd => cases hc; cases hd; rfl⟩
theorem strVx : StrT Tryz.prog 52 2 := ⟨fun b off i w hi => by
  have : i = 0 ∨ i = 1 := by omega
  rcases this with rfl | rfl <;> go_simp⟩
theorem tzBld : TyZ Tryz.prog 166 (.agg #[.pointer none, .slice none 0 0]) := ⟨by kernel_rfl⟩
theorem tzVx : TyZ Tryz.prog 52 (.agg [.int .i64 0, .int .i64 0].toArray) := ⟨by kernel_rfl⟩
set_option maxHeartbeats 4000000 in
theorem text_p (s : List Vx) (hs : s.length ≤ 1000) (hv : ∀ v ∈ s, (0 ≤ v.1 ∧ v.1 < 100) ∧ 0 ≤ v.2 ∧ v.2 < 100) : Fn Tryz.prog 87 [dS Verts s] (dX (.string ⟨(txS s).toArray⟩)) := by
  (refine Fn.intro1 Tryz.func87 rfl rfl ?_; simp only [Tryz.ntmps87, List.length_cons, List.length_nil, Nat.reduceAdd, Nat.reduceSub, List.replicate_succ, List.replicate_zero, List.cons_append, List.nil_append])
  (repeat' (first | ((first | apply WL.opN | apply WD.opN); exact yF; dsimp only [setD, z0, z1]) | refine WL.nil ?_ | refine WC.seqK fun Kx hK => ?_ | (refine hK _ _ ?_; clear hK) | refine WC.region ?_ |  (refine WL.allocBld (dst := some 3) (e := 5) tzBld fun b => ?_; simp only [List.map_cons, List.map_nil]; dsimp only [setD, z0, z1]) | ((first | apply WL.opN | apply WD.opN); (focus ((first | (apply SY.len; exact OpD.tle rfl dLow_le; exact len_K; exact elV.unt) | fail); all_goals infer_instance)); dsimp only [setD, z0, z1]) | refine WC.block ?_))
  (refine WC.loopU (X := Nat) (fun k => [(8, dI (k : Int)), (5, dA), (9, dA), (10, dA), (11, dA), (12, dA), (13, dA), (14, dA), (15, dA), (16, dA), (17, dA), (18, dA), (19, dA), (20, dA), (21, dA), (22, dA)]) (fun k => (hBld b 166 5 (txS (s.take k)) :: [])) (fun k => s.length - k) (fun k => k ≤ s.length) 0 ?start ?frame0 ?objs0 ?round)
  case start => exact Nat.zero_le _
  case frame0 => ((try dsimp only [upds, z0, z1]); repeat (first | exact LeF.nil | refine LeF.co (k := ?_)))
  case objs0 => rfl
  case round =>
    rintro k h1
    dsimp only [upds, z0, z1]
    by_cases hk : k < s.length
    · have hvk := hv s[k] (List.getElem_mem hk)
      have hl0 := itoa_len s[k].1 hvk.1
      have hl1 := itoa_len s[k].2 hvk.2
      have hlt := txS_len (s := s.take k) fun v h => hv v (List.mem_of_mem_take h)
      have hlk := txV_len hvk.1 hvk.2
      have htl : (s.take k).length ≤ 1000 := by rw [List.length_take]; omega
      (repeat' (first |  (apply WC.drawTail 9; kernel_rfl; kernel_rfl; simp only [List.take_succ_cons, List.take_zero, List.drop_succ_cons, List.drop_zero]) | ((first | apply WL.opN | apply WD.opN); exact yF; dsimp only [setD, z0, z1]) | refine WL.nil ?_ | refine WD.nil ?_ | refine WC.seqK fun Kx hK => ?_ | (refine hK _ _ ?_; clear hK) | refine WC.region ?_ |  (refine WL.allocS (dst := some 5) (zs := [.int .i64 0, .int .i64 0]) tzVx (by decide) (by simp [Value.oneCell']) fun b5 => ?_; dsimp only [setD, z0, z1, List.map_cons, List.map_nil]) |  (refine WL.storeW tyV (OpD.t rfl) (OpD.tle rfl le_RV) rfl rfl ?_; dsimp only [setD, z0, z1]) | ((first | apply WL.opN | apply WD.opN); (focus ((first | (apply SY.ixK (R := RV) (k := k) elV (OpD.tle rfl dLow_le) (OpD.t rfl) hk) | (refine SY.fldS strVx (OpD.t rfl) (by decide)) | (refine SY.loadS tyI (OpD.t rfl) (.head _) rfl) | (apply SY.call (itoa_p s[k].1 hvk.1) Tryz.call138; exact ArgsD.cons (OpD.t rfl) (ArgsD.nil)) | (apply SY.call (itoa_p s[k].2 hvk.2) Tryz.call138; exact ArgsD.cons (OpD.t rfl) (ArgsD.nil)) | (refine SY.addS (OpD.t rfl) OpD.x ?_; simp only [List.length_append, List.length_cons, List.length_nil]; omega) | (refine SY.addS (OpD.t rfl) (OpD.t rfl) ?_; simp only [List.length_append, List.length_cons, List.length_nil]; omega) | ((first | apply SY.move | apply SY.assign | apply SY.lss) <;> (exact oD)) | fail); all_goals infer_instance)); dsimp only [setD, z0, z1]) | (apply WC.condD; (exact oD); all_goals (intro h; try exact xD)) | refine WC.skip ?_ | refine WC.block ?_))
      all_goals try (exfalso; first | contradiction | omega)
      refine WL.forget 10 ?_
      dsimp only [setD, z0, z1]
      refine WL.perm (List.Perm.swap _ _ _) ?_
      refine WL.wstr (fun B b' bs s' w => Any.Builder_WriteString_k Tryz.lays166 Tryz.Builder_Extra_166 B b' bs s' w) Tryz.call137 (OpD.t rfl) (OpD.t rfl) (by simp only [List.length_append, List.length_cons, List.length_nil]; omega) (by (repeat (first | exact List.forall_mem_nil _ | refine List.forall_mem_cons.2 ⟨(by first | exact safe_low | exact safe_X | exact safe_I | exact safe_B | exact safe_A | exact safe_V), ?_⟩))) (by
        refine List.forall_mem_cons.2 ⟨safe_str (by decide) (by (repeat (first | exact List.forall_mem_nil _ | refine List.forall_mem_cons.2 ⟨(by first | exact safe_low | exact safe_X | exact safe_I | exact safe_B | exact safe_A | exact safe_V), ?_⟩))), ?_⟩
        exact List.forall_mem_nil _) ?_
      dsimp only [setD, z0, z1]
      refine WL.perm (List.Perm.swap _ _ _) (WL.drop ?_)
      have hsn := txS_snoc hk
      unfold txV at hsn
      rw [← hsn]
      ((repeat' (first | ((first | apply WL.opN | apply WD.opN); exact yF; dsimp only [setD, z0, z1]) | refine WL.nil ?_ | (refine hK _ _ ?_; clear hK) | refine WC.region ?_ | ((first | apply WL.opN | apply WD.opN); (focus ((first | ((first | apply SY.add) <;> first | exact oD | omega) | fail); all_goals infer_instance)); dsimp only [setD, z0, z1]) | refine ThenD.n ?_)); all_goals (first | ((repeat clear hK); (repeat clear Kx))))
      (refine ⟨k + 1, ?_, by first | omega | (simp only; omega), rfl, ?_⟩; rotate_left; ((try dsimp only [upds, z0, z1]); repeat (first | exact LeF.nil | refine LeF.co (k := ?_))); (try dsimp only))
      omega
    · have hkl : k = s.length := by omega
      ((repeat' (first | ((first | apply WL.opN | apply WD.opN); exact yF; dsimp only [setD, z0, z1]) | refine WL.nil ?_ | refine WC.seqK fun Kx hK => ?_ | (refine hK _ _ ?_; clear hK) | (refine Kont.skip ?_; clear hK) | refine WC.region ?_ |  (refine WL.strOf (fun B b' l' w => Any.Builder_String_any_k Tryz.lays169 Tryz.Builder_Extra_169 B b' l' w) Tryz.call139 (OpD.t rfl) (by (repeat (first | exact List.forall_mem_nil _ | refine List.forall_mem_cons.2 ⟨(by first | exact safe_low | exact safe_X | exact safe_I | exact safe_B | exact safe_A | exact safe_V), ?_⟩))) (List.forall_mem_nil _) ?_; dsimp only [setD, z0, z1]) | ((first | apply WL.opN | apply WD.opN); (focus ((first | ((first | apply SY.move | apply SY.assign | apply SY.lss) <;> (exact oD)) | fail); all_goals infer_instance)); dsimp only [setD, z0, z1]) | (apply WC.condD; (exact oD); all_goals (intro h; try exact xD)) | refine WC.ret ?_ | refine WC.exit ?_)); all_goals (first | ((repeat clear hK); (repeat clear Kx))))
      all_goals try (exfalso; first | contradiction | omega)
      rw [hkl, List.take_length]
      (refine ⟨trivial, _, rfl, ?_⟩; exact fD)
end Go.Proofs.YtgppfikidagfpaaGreatDoor
