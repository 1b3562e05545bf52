/- Part 31: walks by contracts, and plain laws. -/
import Derived.Test.YtjmignmnlpamjaaGreatVa30
set_option linter.unusedVariables false
set_option linter.unusedSimpArgs false
set_option linter.unusedSectionVars false
set_option maxRecDepth 100000
set_option maxHeartbeats 4000000
namespace Go.Proofs.YtjmignmnlpamjaaGreat
section
open Go.RowKit
theorem ZAt {P : Program} {ops : Array Oper} {Q Q' : Exit -> Act -> World -> Prop} (hq : ∀ e a w, Q e a w -> Q' e a w) : ∀ (l : List Oper) (a : Act) (w : World), wpList P ops Q l a w -> wpList P ops Q' l a w
 | [], a, w, h => hq _ _ _ h
 | o :: l, a, w, h => by
  unfold wpList at *
  split
  ·rename_i hw; rw [if_pos hw] at h
   refine h.imp (fun h => ?_) fun ⟨h1, a', w', h2⟩ => ⟨h1, a', w', hq _ _ _ h2⟩
   unfold Oper.wp at *
   generalize (execOp a.eval o).run P w = r at *
   cases r with
   | ok n w' =>
    cases n <;> simp only [Oper.upon] at h ⊢
    case value v => exact ZAt hq l _ _ h
    case skip => exact ZAt hq l _ _ h
    case defer d => exact ZAt hq l _ _ h
    case enter f args =>
     refine Calls.mono h fun e w'' he => ?_
     cases e with
     | returned v => exact ZAt hq l _ _ he
     | panicked c => exact hq _ _ _ he
     | outgrown => exact let ⟨a', w', h2⟩ := he; ⟨a', w', hq _ _ _ h2⟩
    case row r args => exact Go.Rows.mono h fun v w'' he => ZAt hq l _ _ he
    all_goals exact h
   | halt x w' => cases x <;> simp only [Oper.upon] at h ⊢ <;> first | exact h | exact hq _ _ _ h
  ·rename_i hw; rw [if_neg hw] at h; exact ZAt hq l _ _ h
def finDf (t u : Nat) (K : Value -> Value -> List HObj -> List HObj -> Prop) (hp : List HObj) : ZAb := fun e f q => (match e with | .normal | .ret => True | _ => False) /\ ∃ v v' hpc hp2, f[t]? = some (dX v) /\ f[u]? = some (dX v') /\ q = hpc ++ (hp2 ++ hp) /\ K v v' hpc hp2
theorem ZGS {P : Program} {f g : FuncId} {fn gn : Func} {gc c1 : Code} {t u t1 id0 id1 : Nat} {l0 : List Oper} {o1 : Oper} {vz vp : Value} {ats : Array TypeId} {ty : TypeId} {ps : String} {af : Array Edge} {ds F0 : List Dat} {hp1 : List HObj} {K : Value -> Value -> List HObj -> List HObj -> Prop} {K2 : Value -> Value -> List HObj -> List HObj -> Prop}
  (hf : P.funcs[f]? = some fn) (hb : fn.body = some (.seq (.region id0 l0.toArray false) (.scope (.seq (.region id1 [o1, ⟨none, .defer { callee := .value (.func g), args := #[.tmp t1, .const vz], argTypes := ats }, ty, ps, af, none⟩].toArray false) c1))))
  (hr : fn.results = #[.tmp t, .tmp u]) (hg : P.funcs[g]? = some gn) (hgb : gn.body = some gc) (hgr : gn.results = #[]) (he : ZBu P g)
  (h0 : ∀ hp, WL P l0.toArray (fun e f q => e = .normal /\ f = F0 /\ q = hp1 ++ hp) l0 (ds ++ List.replicate (fn.ntmps - ds.length) (dX undef)) (hp1 ++ hp))
  (ho : o1.guard = none) (hd1 : o1.dst = some t1) (ht1 : t1 < F0.length) (h1 : ∀ hp, SY P [o1, ⟨none, .defer { callee := .value (.func g), args := #[.tmp t1, .const vz], argTypes := ats }, ty, ps, af, none⟩].toArray (hp1 ++ hp) o1 F0 (dX vp))
  (hw : ∀ hp, D.WC [{ target := .fn (.func g) #[], args := #[vp, vz] }] P (finDf t u K hp) c1 (F0.set t1 (dX vp)) (hp1 ++ hp))
  (hback : ∀ v v' hpc hp2, K v v' hpc hp2 -> ∀ hp, WC P (ZNK (fun _ q => K2 v v' q hp2) hp) gc ([dX vp, dX vz] ++ List.replicate (gn.ntmps - 2) (dX undef)) (hpc ++ hp)) :
  CallC P f ds hp1 (fun d hp => ∃ v v' q hp2, d = dT [dX v, dX v'] /\ hp = q ++ hp2 /\ K2 v v' q hp2) := ⟨fun P0 B w0 hp vs W hh hl hv => by
 refine calls_of_wp_defers hf hb ?_
 have hf0 := ZBw (m := fn.ntmps - ds.length) hl hv
 have hsz : vs.toArray.size = ds.length := by simp [hl]
 rw [hsz]
 refine wp_seq (wp_region_lit ?_)
 have H0 := (h0 hp).on hh hf0
 generalize hA : ({ tmps := vs.toArray ++ Array.replicate (fn.ntmps - ds.length) undef, defers := [] } : Act) = a0 at H0
 refine ZAt ?_ l0 _ _ H0
 rintro e a w ⟨f1, p1, ⟨rfl, hfe, rfl⟩, hh1, hf1⟩
 rw [hfe] at hf1
 show Code.wp P _ _ a w
 refine wp_scope_straight (wp_seq (wp_region_lit ?_))
 unfold wpList
 have hwant : Region.wanted o1 (yielded [o1, ⟨none, .defer { callee := .value (.func g), args := #[.tmp t1, .const vz], argTypes := ats }, ty, ps, af, none⟩].toArray a.tmps) = true := by simp [Region.wanted, ho]
 rw [if_pos hwant]
 refine .inl ((h1 hp).out hh1 (hf1.on _) _ _ fun v w' hx hd => ?_)
 have hf2 : Fr (Imm P0 B (hp1 ++ hp)) w' (a.put o1.dst v) (F0.set t1 (dX vp)) := by
  have := Fr.put (x := o1.dst) (hf1.ext hx) hd
  rw [hd1] at this ⊢
  exact this
 have hh2 := hh1.ext hx
 generalize a.put o1.dst v = a2 at hf2
 unfold wpList
 rw [if_pos (by simp [Region.wanted])]
 refine .inl ?_
 have hev : a2.eval (.tmp t1) = vp := hf2.rd t1 (dX vp) (by rw [List.getElem?_set]; simp [ht1])
 unfold Oper.wp
 have hrun : (execOp a2.eval ⟨none, .defer { callee := .value (.func g), args := #[.tmp t1, .const vz], argTypes := ats }, ty, ps, af, none⟩).run P w' = .ok (.defer { target := .fn (.func g) #[], args := #[vp, vz] }) w' := by
  unfold execOp
  simp only [resolve]
  have e1 : a2.eval (.const vz) = vz := rfl
  have e2 : a2.eval (.func g) = .func (.func g) #[] #[] := rfl
  simp [hev, e1, e2, Deferred.ofValue]
 rw [hrun]
 simp only [Oper.upon, wpList, Exit.noGoto, Exit.then]
 have hadd : ({ a2 with defers := { target := .fn (.func g) #[], args := #[vp, vz] } :: a2.defers } : Act).put none undef = D.addD [{ target := .fn (.func g) #[], args := #[vp, vz] }] a2 := by
  have := hf2.defers
  cases a2
  simp only at this
  subst this
  rfl
 rw [hadd]
 refine Code.wp_mono ?_ ((hw hp).on hh2 hf2)
 rintro e a3 w3 ⟨y, rfl, f3, p3, ⟨hx3, v3, v3', hpc, hp2, hv3, hv3', rfl, hk⟩, hh3, hf3⟩
 have hv := hf3.rd t _ hv3
 have hv' := hf3.rd u _ hv3'
 have hL : Leaves P fn (D.addD [{ target := .fn (.func g) #[], args := #[vp, vz] }] y).tmps (fun e W' => ∃ v d hp2, e = .returned v /\ (∃ v v' q hp3, d = dT [dX v, dX v'] /\ hp2 = q ++ hp3 /\ K2 v v' q hp3) /\ Hp P0 B w0 (hp2 ++ hp) W' /\ d.rd (Imm P0 B (hp2 ++ hp)) W' v) (D.addD [{ target := .fn (.func g) #[], args := #[vp, vz] }] y).defers .returning w3 := by
  have e1 : (D.addD [{ target := .fn (.func g) #[], args := #[vp, vz] }] y).defers = [{ target := .fn (.func g) #[], args := #[vp, vz] }] := by
   show y.defers ++ _ = _
   rw [hf3.defers]; rfl
  rw [e1]
  refine leaves_cons (f := g) (args := #[vp, vz]) (by simp) (by simp [invoke, he _ w3]) ?_
  have hwb : gc.wp P (bodyPost P gn fun e W' => ∃ q, (∃ u, e = .returned u) /\ K2 v3 v3' q hp2 /\ Hp P0 B w0 (q ++ (hp2 ++ hp)) W') { tmps := #[vp, vz] ++ Array.replicate (gn.ntmps - 2) undef, defers := [] } w3 := by
   have hfb := ZBw (I := Imm P0 B (hpc ++ (hp2 ++ hp))) (w := w3) (vs := [vp, vz]) (args := [dX vp, dX vz]) (m := gn.ntmps - 2) rfl (fun i d hd => by
    match i, hd with
    | 0, hd => cases hd; rfl
    | 1, hd => cases hd; rfl)
   refine Code.wp_mono (fun e a' w' ⟨f', p', q, hh', hf'⟩ => ?_) ((hback _ _ _ _ hk (hp2 ++ hp)).on hh3 hfb)
   obtain ⟨hx, q2, rfl, hk2⟩ := q
   cases e with
   | normal => exact ⟨hf'.defers, _, results_none hgr _ _ _, q2, ⟨_, rfl⟩, hk2, hh'⟩
   | ret => exact ⟨hf'.defers, _, results_none hgr _ _ _, q2, ⟨_, rfl⟩, hk2, hh'⟩
   | _ => exact hx.elim
  refine CallsD.mono (callsD_of_wp (u := .returning) hg hgb hwb) fun e u' W' ⟨hu, q, ⟨u1, hu1⟩, hk2, hh'⟩ => ?_
  subst hu1
  subst hu
  show ∃ v, _
  refine ⟨.tuple #[v3, v3'], ?_, .tuple #[v3, v3'], dT [dX v3, dX v3'], q ++ hp2, rfl, ⟨v3, v3', q, hp2, rfl, rfl, hk2⟩, by rw [List.append_assoc]; exact hh', ⟨[v3, v3'], rfl, rfl, fun i e x he hx => by
   match i, he, hx with
   | 0, he, hx => cases he; cases hx; rfl
   | 1, he, hx => cases he; cases hx; rfl⟩⟩
  have := results_tmp2 (P := P) hr (D.addD [{ target := .fn (.func g) #[], args := #[vp, vz] }] y).tmps W'
  rw [show (D.addD [{ target := .fn (.func g) #[], args := #[vp, vz] }] y).tmps = y.tmps from rfl] at this ⊢
  rw [show y.tmps.getD t undef = v3 from hv, show y.tmps.getD u undef = v3' from hv'] at this
  exact this
 cases e with
 | normal => exact hL
 | ret => exact hL
 | _ => exact hx3.elim⟩
end
end Go.Proofs.YtjmignmnlpamjaaGreat
