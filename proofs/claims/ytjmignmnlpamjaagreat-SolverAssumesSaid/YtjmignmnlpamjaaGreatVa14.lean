/- Part 14: walks by contracts, and plain laws. -/
import Derived.Test.YtjmignmnlpamjaaGreatVa13
set_option linter.unusedVariables false
set_option linter.unusedSimpArgs false
set_option linter.unusedSectionVars false
set_option maxRecDepth 100000
set_option maxHeartbeats 4000000
namespace Go.Proofs.YtjmignmnlpamjaaGreat
section
open Go.RowKit
open S43 (SS up ZA7 Zq)
section
variable {P : Program} {ops : Array Oper} {hp : List HObj} {o : Oper} {fr : List Dat} {d : Dat} {Q : ZAb} {rest : List Oper} {c : Code}
variable {dst : Option Tmp} {ty : TypeId} {ps : String} {af : Array Edge} {g : Option (Nat × Bool)} {t e e' : TypeId} {bytes : Nat} {z : Value} {ag : Bool} {α : Type} {R : Rel α} {_gR : Good R} {xs : List α} {v : Value} {n : Nat}
theorem ZAu {x : Operand} (h : xs.length = n) (hx : OpD fr x (dX v)) (hm : ZS v e' R xs ∈ hp) (hu : UndT P t e) : SY P ops hp ⟨dst, .call { callee := .builtin .len, args := #[x], argTypes := #[t] }, ty, ps, af, g⟩ fr (dI (n : Int)) := h ▸ Z3 hx hm hu
theorem ZH4 {x : Operand} (h : xs.length = n) (hx : OpD fr x (dS (Arr R) xs)) (hu : UndT P t e) : SY P ops hp ⟨dst, .call { callee := .builtin .len, args := #[x], argTypes := #[t] }, ty, ps, af, g⟩ fr (dI (n : Int)) := h ▸ SY.len hx ZNU hu
theorem ZEM {x y : Operand} {l : Nat} {j : Int} (E : ElT P t e 1 z bytes ag) (hx : OpD fr x (dS (Arr R) xs)) (hy : OpD fr y (dI j)) (hj : j = (l : Int)) (hl : l ≤ xs.length) : SY P ops hp ⟨dst, .slice t x none (some y) none, ty, ps, af, g⟩ fr (dS (Arr R) (xs.take l)) := by
 have := ZBQ (P := P) (ops := ops) (hp := hp) (dst := dst) (ty := ty) (ps := ps) (af := af) (g := g) (_gR := _gR) E hx BndD.no (Zm hy hj) (Nat.zero_le _) hl
 rwa [List.drop_zero, Nat.sub_zero] at this
theorem SW.gAt {ι : Type} [DecidableEq ι] {L : List ι} {u : ι -> Value} {e : TypeId} {c c' : ι -> List Int} {i : ι} {A B : List HObj} {D : Value -> Dat} (hn : L.Nodup) (hi : i ∈ L) (hc : ∀ j, j ≠ i -> c' j = c j) (k : ∀ q : List HObj, SW P ops (ZS (u i) e RI (c i) :: q) (fun v' : Value => ZS v' e RI (c' i) :: q) D o fr) :
  SW P ops (A ++ (gO L u e c ++ B)) (fun v' => A ++ (gO L (up u i v') e c' ++ B)) D o fr :=
 SW.perm (ZIO hi) (fun v' => by
  have := ZNO (A := A) (B := B) (u := u) (u' := up u i v') (e := e) (c := c) (c' := c') hn hi (fun j hj => S43.up_ne hj) hc
  rwa [S43.up_eq] at this) (k _)
theorem ZMs {ι : Type} [DecidableEq ι] {L : List ι} {u : ι -> Value} {e : TypeId} {c c' : ι -> List Int} {i : ι} {A B : List HObj} {D : Unit -> Dat} (hn : L.Nodup) (hi : i ∈ L) (hc : ∀ j, j ≠ i -> c' j = c j) (k : ∀ q : List HObj, SW P ops (ZS (u i) e RI (c i) :: q) (fun _ : Unit => ZS (u i) e RI (c' i) :: q) D o fr) :
  SW P ops (A ++ (gO L u e c ++ B)) (fun _ : Unit => A ++ (gO L u e c' ++ B)) D o fr :=
 SW.perm (ZIO hi) (fun _ => ZNO (A := A) (B := B) (u := u) (u' := u) (e := e) (c := c) (c' := c') hn hi (fun j _ => rfl) hc) (k _)
end
theorem ZNP {u : Nat -> Value} {e : TypeId} {c c' : Nat -> List Int} {n : Nat} {v : Value} {A B : List HObj} (hc : ∀ j, j < n -> c' j = c j) : (ZS v e RI (c' n) :: (A ++ (gO (List.range n) u e c ++ B))).Perm (A ++ (gO (List.range (n + 1)) (up u n v) e c' ++ B)) := by
 have e1 : gO (List.range (n + 1)) (up u n v) e c' = gO (List.range n) u e c ++ [ZS v e RI (c' n)] := by
  unfold gO
  rw [List.range_succ, List.map_append, List.map_cons, List.map_nil, S43.up_eq]
  congr 1
  refine List.map_congr_left fun j hj => ?_
  have := List.mem_range.1 hj
  rw [S43.up_ne (by omega), hc j this]
 rw [e1, List.append_assoc, List.singleton_append, <- List.append_assoc]
 refine List.perm_middle.symm.trans ?_
 simp only [List.append_assoc]
 exact List.Perm.refl _
theorem ZJC {u : Nat -> Value} {n : Nat} {v : Value} : (List.range n).map u ++ [v] = (List.range (n + 1)).map (up u n v) := by
 rw [List.range_succ, List.map_append, List.map_cons, List.map_nil, S43.up_eq]
 congr 1
 refine List.map_congr_left fun j hj => ?_
 have := List.mem_range.1 hj
 rw [S43.up_ne (by omega)]
theorem ZIe {P : Program} {f : FuncId} {ds : List Dat} {hp1 : List HObj} {e : TypeId} {α : Type} {R : Rel α} {_gR : Good R} {xs : List α} (h : CallC P f ds hp1 fun d' hp2 => ∃ v, d' = dX v /\ (hp2 = [ZS v e R xs] \/ v = .slice none 0 0 /\ xs = [] /\ hp2 = [])) : CallC P f ds hp1 fun d' hp2 => ∃ v, d' = dX v /\ hp2 = [ZS v e R xs] := ⟨fun P0 B w0 hp vs W hh hl hv => by
 refine Calls.mono (h.out P0 B w0 hp vs W hh hl hv) fun e' W' ⟨v, d, hp2, he, hk, hh2, hd⟩ => ?_
 obtain ⟨u, hdu, hk⟩ := hk
 rcases hk with rfl | ⟨rfl, rfl, rfl⟩
 ·exact ⟨v, d, _, he, ⟨u, hdu, rfl⟩, hh2, hd⟩
 ·exact ⟨v, d, [ZS (.slice none 0 0) e R []], he, ⟨_, hdu, rfl⟩, hh2.push (Ext.refl _) (by simp [ZS, Value.ownBlock]) Own.nil, ZAZ (Ext.refl _) (by simp [ZS, Value.ownBlock]) hd⟩⟩
theorem nil_A {α : Type} {R : Rel α} [Good R] {xs : List α} {I : Nat -> Prop} {w : World} {v : Value} (h : (dS (Arr R) xs).rd I w v) : ∃ a m c, v = .slice a m c /\ (a = none -> m = 0) := by
 obtain ⟨ad, cap, rfl, h1, h2, h3⟩ := (h : Arr R I w v xs)
 refine ⟨_, _, _, rfl, fun hn => ?_⟩
 rcases Nat.eq_zero_or_pos xs.length with hz | hz
 ·exact hz
 ·obtain ⟨us, b, off, _, _, had, _, _⟩ := h3 0 hz
  rw [hn] at had; cases had
theorem ZDk (xs : List Int) (hl : xs.length ≤ 1000000) : CallC Tryz.prog 45 ([dS ZW xs] ++ ([] : List Value).map dX) [] fun d' hp2 => ∃ v, d' = dX v /\ hp2 = [ZS v tI RI xs] := by
 refine ZIe ?_
 (refine Zo Tryz.func45 rfl rfl (fun hp => ?_); simp only [Tryz.ntmps45, List.length_cons, List.length_nil, List.length_append, List.length_map, Nat.reduceAdd, Nat.reduceSub, List.replicate_succ, List.replicate_zero, List.cons_append, List.nil_append, List.map_cons, List.map_nil, List.append_assoc])
 ((repeat' (first |  (refine ZLT 4 rfl fun b hb => ?_; dsimp only [z0, z1]) | (apply WL.opN; exact yF; dsimp only [ZB, z0, z1]) | refine WL.nil ?_ | refine ZA fun Kx hK => ?_ | (refine hK _ _ ?_; clear hK) | refine WC.region ?_ |  (apply ZIk elI RI; (intro _; dsimp only [ZB, z0, z1]); all_goals (try infer_instance)) | ((first | apply WL.appK | apply WL.app1); (exact eD); exact OpD.t rfl; (exact oD); decide; (exact lD); (intro _; dsimp only [ZB, z0, z1]); all_goals (try infer_instance)) | (apply WL.opN; (focus ((first | (apply ZLN; exact OpD.t rfl; (exact fun _ _ _ h => nil_A h); exact ZNU; exact ZN7) | fail); all_goals infer_instance)); dsimp only [ZB, z0, z1]) | (apply WC.cond; (exact oD); all_goals (intro h; try exact xD)) | refine WC.skip ?_ | refine WC.ret ?_ | refine ThenD.r ?_)); all_goals (first | ((repeat clear hK); (repeat clear Kx))))
 ·exact ⟨trivial, _, [], rfl, rfl, _, rfl, .inr ⟨rfl, hb h, rfl⟩⟩
 ·exact ⟨trivial, _, [_], rfl, rfl, _, rfl, .inl (by rw [List.nil_append])⟩
theorem ZIf {P : Program} {f : FuncId} {ds : List Dat} {hp1 : List HObj} {e : TypeId} {α : Type} {R : Rel α} {_gR : Good R} {xs : List α} (h : CallC P f ds hp1 fun d' hp2 => ∃ v, d' = dX v /\ hp2 = [ZS v e R xs]) : CallC P f ds hp1 fun d' hp2 => ∃ v : {v : Value // v.oneCell' = true}, d' = dX v.1 /\ hp2 = [ZS v.1 e R xs] := ⟨fun P0 B w0 hp vs W hh hl hv => by
 refine Calls.mono (h.out P0 B w0 hp vs W hh hl hv) fun e' W' ⟨v, d, hp2, he, hk, hh2, hd⟩ => ?_
 obtain ⟨u, rfl, rfl⟩ := hk
 exact ⟨v, _, _, he, ⟨⟨u, ZKy (hh2.ok (ZS u e R xs) (by simp))⟩, rfl, rfl⟩, hh2, hd⟩⟩
def ZHG (w : Int -> List Nat) (k : Nat) (l : List Int) : Int -> List Nat := l.foldl (fun w x => up w x (w x ++ [k])) w
theorem ZHH (w : Int -> List Nat) (k : Nat) (l : List Int) (x : Int) : ZHG w k (l ++ [x]) = up (ZHG w k l) x (ZHG w k l x ++ [k]) := by
 unfold ZHG; rw [List.foldl_append]; rfl
theorem ZMR (w : Int -> List Nat) (k : Nat) : ∀ (l : List Int) (x : Int), (ZHG w k l x).length ≤ (w x).length + l.length := by
 intro l
 induction l generalizing w with
 | nil => intro x; simp [ZHG]
 | cons a l ih =>
  intro x
  have := ih (up w a (w a ++ [k])) x
  have e : ZHG w k (a :: l) x = ZHG (up w a (w a ++ [k])) k l x := rfl
  rw [e]
  refine Nat.le_trans this ?_
  by_cases h : x = a
  ·subst h; rw [S43.up_eq]; simp only [List.length_append, List.length_cons, List.length_nil]; omega
  ·rw [S43.up_ne h]; simp only [List.length_cons]; omega
theorem ZH8 {s : SS} {c : List Int} (h : 2 ≤ c.length) : ZA7 s c = { s with list := s.list ++ [c], watch := ZHG s.watch s.list.length (c.take 2) } := by
 match c, h with
 | a :: b :: r, _ => rfl
theorem ZFq {s : SS} {c : List Int} (h : c.length = 1) : ZA7 s c = if s.val (-c[0]) then { s with list := s.list ++ [c], dead := true } else if s.val c[0] then { s with list := s.list ++ [c] } else Zq { s with list := s.list ++ [c] } c[0] (some s.list.length) := by
 match c, h with
 | [a], _ => rfl
theorem ZLW {s : SS} {c : List Int} (h : c.length = 0) : ZA7 s c = { s with list := s.list ++ [c], dead := true } := by
 cases List.length_eq_zero_iff.1 h; rfl
theorem ZKR {l : List S43.Cl} {c : S43.Cl} {j : Nat} (h : j < l.length) : (l ++ [c]).getD j [] = l.getD j [] := by
 rw [List.getD_eq_getElem?_getD, List.getD_eq_getElem?_getD, List.getElem?_append_left h]
theorem ZKQ {l : List S43.Cl} {c : S43.Cl} : (l ++ [c]).getD l.length [] = c := by
 rw [List.getD_eq_getElem?_getD]; simp
abbrev Lay.ld (X : Lay) (vL : Value) (u : Nat -> Value) : Lay := { X with vL := vL, u := u }
abbrev sL (s : SS) (c : S43.Cl) : SS := { s with list := s.list ++ [c] }
theorem ZEk {X : Lay} {V : Nat} {s : SS} {hp : List HObj} : ZCR X V s ++ hp = core X V s ++ (oW X :: oC X s :: (ZEI X s ++ (ZEJ X V s ++ hp))) := by unfold ZCR; simp only [List.append_assoc, List.cons_append]
set_option maxHeartbeats 16000000 in
theorem ZNv (X : Lay) (V : Nat) (s : SS) (c : List Int) (hV : V ≤ 1000000) (hc : ∀ x ∈ c, x ≠ 0 /\ x.natAbs ≤ V) (hcl : c.length ≤ 1000000) (hs : s.list.length ≤ 2000000000000) (hw : ∀ l, (s.watch l).length ≤ 2000000000000) (ht : s.trail.length ≤ 1000000) :
  CallC Tryz.prog 70 ([dX (ZDZ X), dS ZW c] ++ ([] : List Value).map dX) (ZCR X V s) (fun _ hp2 => ∃ vT vL u wv, hp2 = ZCR { X with vT := vT, vL := vL, u := u, wv := wv } V (ZA7 s c)) := by
 (refine ZA9 Tryz.func70 rfl rfl (fun hp => ?_); simp only [Tryz.ntmps70, List.length_cons, List.length_nil, List.length_append, List.length_map, Nat.reduceAdd, Nat.reduceSub, List.replicate_succ, List.replicate_zero, List.cons_append, List.nil_append, List.map_cons, List.map_nil, List.append_assoc])
 rw [ZEk]
 simp only [core, List.cons_append, List.nil_append]
 have e0 : ((List.range s.list.length).map X.u).length = s.list.length := by simp
 have h24 : (((List.range s.list.length).map X.u).length + 1) * 24 ≤ 140737488355328 := by rw [e0]; omega
 have hk := ZIf (ZDk c hcl)
 have hks : ∀ d hp2, (∃ v : {v : Value // v.oneCell' = true}, d = dX v.1 /\ hp2 = [ZS v.1 tI RI c]) -> ∃ x : {v : Value // v.oneCell' = true}, d = dX x.1 /\ hp2 = [ZS x.1 tI RI c] := fun _ _ h => h
 have hAs : ∀ (Y : Lay) (x : Int), x.natAbs ≤ 1000000 -> CallC Tryz.prog 75 ([dX (ZDZ Y), dI x, dI (s.list.length : Int)] ++ ([] : List Value).map dX) (core Y V { s with list := s.list ++ [c] }) (fun _ hp2 => ∃ v, hp2 = core { Y with vT := v } V (Zq { s with list := s.list ++ [c] } x (some s.list.length))) := fun Y x hx => ZEb Y V { s with list := s.list ++ [c] } x s.list.length (by omega) hx ht
 have hl1 : (s.list ++ [c]).length = s.list.length + 1 := by simp
 have hpm : ∀ (vc vL : Value) (A B : List HObj), (ZS vc tI RI c :: (A ++ (gO (List.range s.list.length) X.u tI (fun k => s.list.getD k []) ++ B))).Perm (A ++ (gO (List.range (s.list ++ [c]).length) (up X.u s.list.length vc) tI (fun k => (s.list ++ [c]).getD k []) ++ B)) := fun vc vL A B => by
  have := ZNP (u := X.u) (e := tI) (c := fun k => s.list.getD k []) (c' := fun k => (s.list ++ [c]).getD k []) (n := s.list.length) (v := vc) (A := A) (B := B) (fun j hj => ZKR hj)
  simp only [ZKQ] at this
  rw [hl1]; exact this
 have hrs : ∀ vc : Value, (List.range s.list.length).map X.u ++ [vc] = (List.range (s.list ++ [c]).length).map (up X.u s.list.length vc) := fun vc => by rw [hl1]; exact ZJC
 (repeat' (first |  (refine WC.drawM (fun hp' => oS X V s ∈ hp') 9 3 [(0, false), (1, false), (2, false), (3, false), (4, false), (5, false), (6, true), (7, false), (8, true)] [true, true, true, true, true, true, true, true, true, false, false, false] (by kernel_rfl) (by kernel_rfl) (by kernel_rfl) rfl (mAt 0 rfl) ?_) |  (first | refine WA.one (S := [true, true, true, true, true, true, true, true, true, false, false, false]) (i := 9) (by kernel_rfl) rfl ?_ | refine WA.one (S := [true, true, true, true, true, true, true, true, true, true, false, false]) (i := 10) (by kernel_rfl) rfl ?_ | refine WA.one (S := [true, true, true, true, true, true, true, true, true, true, true, false]) (i := 11) (by kernel_rfl) rfl ?_ | refine WA.nil (S := [true, true, true, true, true, true, true, true, true, true, true, true]) (by kernel_rfl) ?_) |  (refine ZAf rfl (SW.callC (hp1 := []) (caps := []) (H := fun v : {v : Value // v.oneCell' = true} => [ZS v.1 tI RI c]) (D := fun v => dX v.1) hk Tryz.call45 OpD.f (by (exact aD)) hks) (fun _ => mAt 1 rfl) fun vc => ?_; obtain ⟨vc, hvc⟩ := vc; dsimp only [ZB, z0, z1, List.cons_append, List.nil_append]) |  (refine ZAf rfl (SW.at 8 rfl fun q => SW.app1 ZB7 (R := ZJe) (_gR := inferInstance) (OpD.t rfl) (OpD.t rfl) (by decide) h24) (fun _ => mAt 1 rfl) fun vL => ?_; dsimp only [ZB, z0, z1]) | (refine WM.nil ?_) | (apply ZBC rfl; (focus (intro c hcc; apply SYG.yes; (exact Zi rfl); ((first | (exact ZH (OpD.t rfl)) | (refine ZM ZAz (OpD.t rfl) (by decide)) | (apply ZI; (first | exact tyI | exact ZCz | exact ZAl | exact tyF | exact ZBi); exact OpD.t rfl; (first | exact hcc | exact mAt 0 rfl); rfl) | (exact SY.build1' ZB7 (R := ZJe) (_gR := inferInstance) (els := [vc]) (Zt (OpD.tle rfl (le_XR hvc)) Zy) rfl rfl (fun _ => ZNm) (by simp)) | ((first | apply SY.move | apply SY.assign | apply SY.lss | apply SY.eql | apply SY.not) <;> (exact oD)) | fail); all_goals infer_instance))); dsimp only [ZB, z0, z1]) | ((first | apply WL.opN | apply WD.opN); exact yF; dsimp only [ZB, z0, z1]) | refine WL.nil ?_ | refine ZA fun Kx hK => ?_ | (refine hK _ _ ?_; clear hK) | refine WC.region ?_ | (apply WC.draw; kernel_rfl; kernel_rfl) |  (refine ZBM (mAt 8 rfl) fun hvv => ?_; refine ZK (SW.at 1 rfl fun q => SW.storeS ZCz (OpD.t rfl) (OpD.t rfl) (Z8 hvv) (by simp)) fun _ => ?_; dsimp only [ZB, z0, z1]; rw [hrs vc]; refine WL.perm (hpm vc vL (_ :: _ :: _ :: _ :: _ :: _ :: _ :: _ :: []) _) ?_; dsimp only [List.cons_append, List.nil_append]) | ((first | apply WL.opN | apply WD.opN); (focus ((first | (exact ZH (OpD.t rfl)) | (refine ZM ZAz (OpD.t rfl) (by decide)) | (apply ZI; (first | exact tyI | exact ZCz | exact ZAl | exact tyF | exact ZBi); exact OpD.t rfl; (first | exact hcc | exact mAt 0 rfl); rfl) | (exact ZAu e0 (OpD.t rfl) (mAt 7 rfl) ZB7.unt) | ((first | apply SY.move | apply SY.assign | apply SY.lss | apply SY.eql | apply SY.not) <;> (exact oD)) | (apply SY.len; (exact oD); (exact nD); (exact uD)) | fail); all_goals infer_instance)); dsimp only [ZB, z0, z1]) | (apply ZC; (exact oD); all_goals (intro h; try exact xD)) | refine WC.block ?_))
 ·have h0 : c.length = 0 := by omega
  ((repeat' (first | refine WL.nil ?_ |  (refine ZK (SW.at 0 rfl fun q => SW.storeS ZBs (OpD.t rfl) OpD.b ZAJ (by simp)) fun _ => ?_; dsimp only [ZB, z0, z1]) | refine InBlockD.n ?_)); all_goals (first | ((repeat clear hK); (repeat clear Kx))))
  rw [ZLW h0]
  have e := @ZEk { X with vL := vL, u := up X.u s.list.length vc } V { s with list := s.list ++ [c], dead := true } hp
  exact ⟨trivial, _, e.symm, X.vT, vL, _, X.wv, rfl⟩
 ·have h1 : c.length = 1 := by omega
  have hp0 : 0 < c.length := by omega
  have hcx := hc _ (List.getElem_mem hp0)
  have hi1 : ZAF c[0] := i64 (by omega)
  have hi2 : ZAF (-c[0]) := i64 (by omega)
  (repeat' (first | ((first | apply WL.opN | apply WD.opN); exact yF; dsimp only [ZB, z0, z1]) | refine WD.nil ?_ | refine ZA fun Kx hK => ?_ | (refine hK _ _ ?_; clear hK) | refine WC.region ?_ | (apply WC.draw; kernel_rfl; kernel_rfl) | ((first | apply WL.opN | apply WD.opN); (focus ((first | (exact SY.neg (OpD.t rfl) (by omega)) | (refine ZAy (R := RI) (_gR := inferInstance) (k := 0) elI (OpD.t rfl) Zl hp0) | (exact ZH (OpD.t rfl)) | (refine ZM ZAz (OpD.t rfl) (by decide)) | (apply ZI; exact tyF; exact OpD.t rfl; exact mAt 0 rfl; rfl) | (exact SY.valG (OpD.t rfl) (mAt 1 rfl) (OpD.t rfl) hi2) | fail); all_goals infer_instance)); dsimp only [ZB, z0, z1]) | (apply WC.cond; (exact oD); all_goals (intro h; try exact xD))))
  ·((repeat' (first | refine WL.nil ?_ |  (refine ZK (SW.at 0 rfl fun q => SW.storeS ZBs (OpD.t rfl) OpD.b ZAJ (by simp)) fun _ => ?_; dsimp only [ZB, z0, z1]) | refine InBlockD.n ?_)); all_goals (first | ((repeat clear hK); (repeat clear Kx))))
   rw [ZFq h1, if_pos h]
   have e := @ZEk { X with vL := vL, u := up X.u s.list.length vc } V { s with list := s.list ++ [c], dead := true } hp
   exact ⟨trivial, _, e.symm, X.vT, vL, _, X.wv, rfl⟩
  ·((repeat' (first | ((first | apply WL.opN | apply WD.opN); exact yF; dsimp only [ZB, z0, z1]) | refine WL.nil ?_ | refine WD.nil ?_ | (refine hK _ _ ?_; clear hK) | refine WC.region ?_ |  (refine WL.callC (hp1 := core _ _ _) (caps := []) (hAs { X with vL := vL, u := up X.u s.list.length vc } c[0] (by omega)) Tryz.call75 OpD.f (by (exact aD)) ?_; rintro d' hp2 ⟨v2, rfl⟩; dsimp only [ZB, z0, z1, List.cons_append, List.nil_append]) | ((first | apply WL.opN | apply WD.opN); (focus ((first | (refine ZAy (R := RI) (_gR := inferInstance) (k := 0) elI (OpD.t rfl) Zl hp0) | (exact SY.valG (OpD.t rfl) (mAt 1 rfl) (OpD.t rfl) hi1) | ((first | apply SY.move | apply SY.assign | apply SY.lss | apply SY.eql | apply SY.not) <;> (exact oD)) | fail); all_goals infer_instance)); dsimp only [ZB, z0, z1]) | (apply ZL; (exact oD); all_goals (intro h; try exact xD)) | refine WC.skip ?_ | refine InBlockD.n ?_)); all_goals (first | ((repeat clear hK); (repeat clear Kx))))
   ·rename_i hq
    rw [ZFq h1, if_neg (by simp [hq]), if_neg (by simp [h])]
    have e := @ZEk { X with vL := vL, u := up X.u s.list.length vc, vT := v2 } V (Zq { s with list := s.list ++ [c] } c[0] (some s.list.length)) hp
    exact ⟨trivial, _, e.symm, v2, vL, _, X.wv, rfl⟩
   ·rename_i hq
    rw [ZFq h1, if_neg (by simp [hq]), if_pos h]
    have e := @ZEk { X with vL := vL, u := up X.u s.list.length vc } V { s with list := s.list ++ [c] } hp
    exact ⟨trivial, _, e.symm, X.vT, vL, _, X.wv, rfl⟩
 ·have h2 : 2 ≤ c.length := by omega
  have ht2 : (c.take 2).length = 2 := by rw [List.length_take]; omega
  (repeat' (first | ((first | apply WL.opN | apply WD.opN); exact yF; dsimp only [ZB, z0, z1]) | refine WL.nil ?_ | (refine hK _ _ ?_; clear hK) | ((first | apply WL.opN | apply WD.opN); (focus ((first | (exact ZEM (R := RI) (_gR := inferInstance) (l := 2) elI (OpD.t rfl) Zl rfl h2) | (exact ZH4 (R := RI) (_gR := inferInstance) ht2 (OpD.t rfl) elI.unt) | fail); all_goals infer_instance)); dsimp only [ZB, z0, z1]) | refine WC.block ?_))
  have hcb : ∀ x ∈ c, x ∈ lits V := fun x hx => ZF6.2 (hc x hx)
  (refine ZP (X := Nat × (Int -> Value)) (fun x => [(26, dI (x.1 : Int)), (6, dA), (27, dA), (28, dA), (29, dA), (30, dA), (31, dA), (32, dA), (33, dA), (34, dA), (35, dA), (36, dA), (37, dA), (38, dA), (39, dA), (40, dA), (41, dA), (42, dA), (43, dA), (44, dA)]) (fun x => (oS (X.ld vL (up X.u s.list.length vc)) V (sL s c) :: oV X s :: oL X s :: oR X s :: oT X s :: oB X s :: hG X.bw kvI ZAF idV (ZJa x.2) :: oC (X.ld vL (up X.u s.list.length vc)) (sL s c) :: (ZEI (X.ld vL (up X.u s.list.length vc)) (sL s c) ++ (gO (lits V) x.2 tI (fun l => ZAj (ZHG s.watch s.list.length ((c.take 2).take x.1) l)) ++ hp)))) (fun x => 2 - x.1) (fun x => x.1 ≤ 2) (0, X.wv) ?start ?frame0 ?objs0 ?round)
  case start => exact Nat.zero_le _
  case frame0 => ((try dsimp only [ZX, z0, z1]); repeat (first | exact LeF.nil | refine ZG (k := ?_)))
  case objs0 => rfl
  case round =>
   rintro ⟨i, wv⟩ hi
   simp only at hi
   dsimp only [ZX, z0, z1]
   by_cases hi2 : i < 2
   ·have hit : i < (c.take 2).length := by omega
    obtain ⟨a, ha⟩ : ∃ a, (c.take 2)[i] = a := ⟨_, rfl⟩
    have hac : a ∈ c := by rw [<- ha]; exact List.take_subset _ _ (List.getElem_mem hit)
    have hal : a ∈ lits V := hcb a hac
    have ha6 : ZAF a := i64 (by have := hc a hac; omega)
    have hts : (c.take 2).take (i + 1) = (c.take 2).take i ++ [a] := by rw [List.take_succ_eq_append_getElem hit, ha]
    have hwl := ZMR s.watch s.list.length ((c.take 2).take i) a
    have hwa := hw a
    have hl2 : ((c.take 2).take i).length ≤ 2 := by rw [List.length_take]; omega
    have h8 : ((ZAj (ZHG s.watch s.list.length ((c.take 2).take i) a)).length + 1) * 8 ≤ 140737488355328 := by rw [ZAW]; omega
    have hcx : ∀ j, j ≠ a -> ZAj (ZHG s.watch s.list.length ((c.take 2).take (i + 1)) j) = ZAj (ZHG s.watch s.list.length ((c.take 2).take i) j) := fun j hj => by rw [hts, ZHH, S43.up_ne hj]
    have hca : ZAj (ZHG s.watch s.list.length ((c.take 2).take (i + 1)) a) = ZAj (ZHG s.watch s.list.length ((c.take 2).take i) a) ++ [(s.list.length : Int)] := by rw [hts, ZHH, S43.up_eq, ZLx]; rfl
    ((repeat' (first |  (refine WC.drawM (fun hp' => oS (X.ld vL (up X.u s.list.length vc)) V (sL s c) ∈ hp' /\ hG X.bw kvI ZAF idV (ZJa wv) ∈ hp') 14 1 [(0, false), (1, false), (2, false), (3, false), (4, false), (5, false), (6, false), (7, false), (8, false), (9, false), (10, false), (11, false), (12, false), (13, true)] [true, true, true, true, true, true, true, true, true, true, true, true, true, true, false] (by kernel_rfl) (by kernel_rfl) (by kernel_rfl) rfl (⟨mAt 0 rfl, mAt 6 rfl⟩) ?_) |  (first | refine WA.one (S := [true, true, true, true, true, true, true, true, true, true, true, true, true, true, false]) (i := 14) (by kernel_rfl) rfl ?_ | refine WA.nil (S := [true, true, true, true, true, true, true, true, true, true, true, true, true, true, true]) (by kernel_rfl) ?_) |  (refine ZAf rfl (SW.gAt (A := _ :: _ :: _ :: _ :: _ :: _ :: _ :: _ :: ZEI (X.ld vL (up X.u s.list.length vc)) (sL s c)) (c' := fun l => ZAj (ZHG s.watch s.list.length ((c.take 2).take (i + 1)) l)) (D := fun v => dX v) (ZDn V) hal hcx fun q => by simp only [hca]; exact SW.app1 elI (OpD.t rfl) (OpD.t rfl) (by decide) h8) (fun _ => ⟨mAt 0 rfl, mAt 6 rfl⟩) fun v => ?_; dsimp only [ZB, z0, z1, List.cons_append, List.nil_append]) | (refine WM.nil ?_) | (apply ZBC rfl; (focus (intro c hcc; apply SYG.yes; (exact Zi rfl); ((first | (exact ZH (OpD.t rfl)) | (refine ZM ZAz (OpD.t rfl) (by decide)) | (apply ZI; exact ZK9; exact OpD.t rfl; exact hcc.1; rfl) | (exact ZHR (OpD.t rfl) hcc.2 (OpD.t rfl) ha6) | ((first | apply SY.move | apply SY.assign | apply SY.lss | apply SY.eql | apply SY.not) <;> (exact oD)) | (apply SY.build1'; (exact eD); ((try simp only [List.map_cons, List.map_nil]); (repeat (first | exact Zy | (apply Zt; (first | exact OpD.t rfl | exact Zl | exact OpD.b | exact OpD.tle rfl (by first | exact ZD | exact ZE (by decide)) | exact ⟨ZD⟩ | exact ⟨ZE (by decide)⟩))))); rfl; rfl; (intro _; first | exact ZAY | exact Zf | exact ZAA | exact ZAJ); (exact (by simp))) | fail); all_goals infer_instance))); dsimp only [ZB, z0, z1]) | ((first | apply WL.opN | apply WD.opN); exact yF; dsimp only [ZB, z0, z1]) | refine WL.nil ?_ | refine ZA fun Kx hK => ?_ | (refine hK _ _ ?_; clear hK) | refine WC.region ?_ |  (refine ZK (SW.at 6 rfl fun q => ZA6 (ZJa (up wv a v)) ZGv ZAP (OpD.t rfl) (OpD.t rfl) isI (OpD.t rfl) isX ha6 (fun f hf => ZGC f hf)) fun _ => ?_; dsimp only [ZB, z0, z1]) | ((first | apply WL.opN | apply WD.opN); (focus ((first | (exact ha ▸ ZAy (R := RI) (_gR := inferInstance) elI (OpD.t rfl) (OpD.t rfl) hit) | ((first | apply SY.move | apply SY.assign | apply SY.lss | apply SY.eql | apply SY.not) <;> (exact oD)) | ((first | apply SY.add) <;> first | exact oD | omega) | fail); all_goals infer_instance)); dsimp only [ZB, z0, z1]) | (apply ZC; (exact oD); all_goals (intro h; try exact xD)) | refine WC.skip ?_ | refine WC.block ?_ | refine ThenD.n ?_)); all_goals (first | ((repeat clear hK); (repeat clear Kx))))
    all_goals try (exfalso; first | contradiction | omega)
    (refine ⟨(i + 1, up wv a v), ?_, by first | omega | (simp only; omega), rfl, ?_⟩; rotate_left; ((try dsimp only [ZX, z0, z1]); repeat (first | exact LeF.nil | refine ZG (k := ?_))); (try dsimp only))
    omega
   ·obtain rfl : i = 2 := by omega
    ((repeat' (first | refine WL.nil ?_ | refine ZA fun Kx hK => ?_ | (refine hK _ _ ?_; clear hK) | refine WC.region ?_ | ((first | apply WL.opN | apply WD.opN); (focus ((first | ((first | apply SY.move | apply SY.assign | apply SY.lss | apply SY.eql | apply SY.not) <;> (exact oD)) | fail); all_goals infer_instance)); dsimp only [ZB, z0, z1]) | (apply ZC; (exact oD); all_goals (intro h; try exact xD)) | refine WC.exit ?_ | refine ThenD.x ?_ | refine InBlockD.x ?_ | refine InBlockD.n ?_)); all_goals (first | ((repeat clear hK); (repeat clear Kx))))
    all_goals try (exfalso; first | contradiction | omega)
    rw [ZH8 h2]
    have e := @ZEk { X with vL := vL, u := up X.u s.list.length vc, wv := wv } V { s with list := s.list ++ [c], watch := ZHG s.watch s.list.length (c.take 2) } hp
    have et : (c.take 2).take 2 = c.take 2 := List.take_of_length_le (by omega)
    rw [et]
    exact ⟨trivial, _, e.symm, X.vT, vL, _, wv, rfl⟩
end
section
open Go.RowKit
open S43 (SS up ZA7 ZBX ZAO)
section
variable {P : Program} {ops : Array Oper} {hp : List HObj} {fr : List Dat} {Q : ZAb} {rest : List Oper} {T : TypeId} {b : Nat} {c : Code} {e : TypeId}
theorem ZH6 {zs : List Value} (hn : 0 < zs.length) (h1 : ∀ c ∈ zs, c.oneCell' = true) (h : WL P ops Q rest fr (ZBx b T (zs.map dX) :: hp)) : WL P ops Q rest fr (ZAB b T zs.length true (dX (.agg zs.toArray)) :: hp) := WL.of fun P0 B w0 w a hh hf => by
 obtain ⟨cs, u, c1, c2, c0, c3, c4, c5⟩ := hh.ok (ZAB b T zs.length true (dX (.agg zs.toArray))) (by simp)
 have hu : u = .agg zs.toArray := c5
 simp only [if_true] at c4
 rw [hu] at c4
 have hcs : zs = cs := by injection c4 with c4; exact List.toArray_inj c4
 subst hcs
 have hgr : w.grownBy w (ZAB b T zs.length true (dX (.agg zs.toArray))).blk := ⟨rfl, rfl, rfl, Nat.le_refl _, fun _ _ _ => rfl⟩
 have hok : (ZBx b T (zs.map dX)).ok (fun k => Imm P0 B (ZAB b T zs.length true (dX (.agg zs.toArray)) :: hp) k /\ k < w.heap.size) w :=
  ⟨zs, c1, by simp, h1, fun k c d hc hd => by
   rw [List.getElem?_map, hc] at hd
   cases hd
   rfl⟩
 exact h.on (hh.write hgr (.inl rfl) hok) (hf.mono fun _ _ hd => Z9 (o' := ZBx b T (zs.map dX)) hgr (.inl rfl) hd)
theorem ZFO {ι : Type} : ∀ (L : List ι), WC P Q c fr (gO L (fun _ => ZCX) e (fun _ => []) ++ hp) -> WC P Q c fr hp
 | [], h => h
 | _ :: L, h => ZFO L (ZAH e RI h)
theorem ZMA {s r l v : HObj} : (s :: r :: l :: v :: hp).Perm (s :: v :: l :: r :: hp) :=
 List.Perm.cons s (((List.Perm.swap _ _ _).trans (List.Perm.cons _ (List.Perm.swap _ _ _))).trans (List.Perm.swap _ _ _))
end
def ZG8 (n : Int) (bw bv bl br : Nat) : List Value := [.int .i64 n, ZCX, .map (some bw), .map (some bv), .map (some bl), .map (some br), ZCX, ZCX, .int .i64 0, ZCX, .int .i64 0, .bool false]
theorem ZNa (n : Int) (bw bv bl br : Nat) (w : World) : (Instr.build 103 #[(0, .int .i64 n), (2, .map (some bw)), (3, .map (some bv)), (4, .map (some bl)), (5, .map (some br))]).run Tryz.prog w = .ok (.agg (ZG8 n bw bv bl br).toArray) w := by
 unfold ZG8
 go_simp
theorem ZMw {ops : Array Oper} {hp : List HObj} {fr : List Dat} {dst : Option Tmp} {ty : TypeId} {ps : String} {af : Array Edge} {g : Option (Nat × Bool)} {x y1 y2 y3 y4 : Operand} {n : Int} {bw bv bl br : Nat} (hx : OpD fr x (dI n)) (h1 : OpD fr y1 (dX (.map (some bw)))) (h2 : OpD fr y2 (dX (.map (some bv)))) (h3 : OpD fr y3 (dX (.map (some bl)))) (h4 : OpD fr y4 (dX (.map (some br)))) :
  SY Tryz.prog ops hp ⟨dst, .build 103 #[(0, x), (2, y1), (3, y2), (4, y3), (5, y4)], ty, ps, af, g⟩ fr (dX (.agg (ZG8 n bw bv bl br).toArray)) := SY.val fun {I w a} ho => by
 have e0 : a.eval x = .int .i64 n := hx.get (by simp [Op.operands]) ho
 have e1 : a.eval y1 = _ := h1.get (by simp [Op.operands]) ho
 have e2 : a.eval y2 = _ := h2.get (by simp [Op.operands]) ho
 have e3 : a.eval y3 = _ := h3.get (by simp [Op.operands]) ho
 have e4 : a.eval y4 = _ := h4.get (by simp [Op.operands]) ho
 refine ⟨_, ?_, rfl⟩
 unfold execOp
 simp only [List.map_toArray, List.map_cons, List.map_nil, e0, e1, e2, e3, e4, Sem.run_bind, ZNa, Result.andThen_ok, Sem.run_pure]
theorem ZG9 (n : Int) (bw bv bl br : Nat) : ∀ c ∈ ZG8 n bw bv bl br, c.oneCell' = true := by
 unfold ZG8
 simp [Value.oneCell']
abbrev Lay.wm (X : Lay) (y : Value × Value × (Nat -> Value) × (Int -> Value)) : Lay := { X with vT := y.1, vL := y.2.1, u := y.2.2.1, wv := y.2.2.2 }
abbrev ZMe (b bw bv bl br : Nat) : Lay := ⟨b, bw, bv, bl, br, 0, ZCX, ZCX, ZCX, ZCX, fun _ => ZCX, fun _ => ZCX⟩
theorem ZIy {s : SS} {l : List S43.Cl} {i : Nat} (h : i < l.length) : (l.take (i + 1)).foldl ZA7 s = ZA7 ((l.take i).foldl ZA7 s) l[i] := by
 rw [List.take_succ_eq_append_getElem h, List.foldl_append]; rfl
set_option maxHeartbeats 8000000 in
theorem ZM6 (V : Nat) (l : List S43.Cl) (hV : V ≤ 1000000) (hl : l.length ≤ 1000000) (hc : ∀ c ∈ l, (∀ x ∈ c, x ≠ 0 /\ x.natAbs ≤ V) /\ c.length ≤ 1000000) (hs : ∀ i, i ≤ l.length -> ((l.take i).foldl ZA7 ZBX).list.length ≤ 2000000000000 /\ (∀ x, (((l.take i).foldl ZA7 ZBX).watch x).length ≤ 2000000000000) /\ ((l.take i).foldl ZA7 ZBX).trail.length ≤ 1000000) :
  CallC Tryz.prog 33 ([dI (V : Int), dS Rows l] ++ ([] : List Value).map dX) [] (fun d hp2 => ∃ X : Lay, X.cf = 0 /\ d = dX (ZDZ X) /\ hp2 = ZCR X V (ZAO l) ++ [oN X []]) := by
 (refine Zo Tryz.func33 rfl rfl (fun hp => ?_); simp only [Tryz.ntmps33, List.length_cons, List.length_nil, List.length_append, List.length_map, Nat.reduceAdd, Nat.reduceSub, List.replicate_succ, List.replicate_zero, List.cons_append, List.nil_append, List.map_cons, List.map_nil, List.append_assoc])
 refine ZAH 25 ZW (ZFO (e := tI) (lits V) (ZAH 25 ZJe ?_))
 (repeat' (first | (apply WL.opN; exact yF; dsimp only [ZB, z0, z1]) | refine WL.nil ?_ | refine ZA fun Kx hK => ?_ | (refine hK _ _ ?_; clear hK) | refine WC.region ?_ |  (refine ZBd (dst := some 9) kvI ZAF idV (ZJa fun _ => ZCX) (fun _ => rfl) fun bw => ZDN tI RI (ZDN tI RI ?_); dsimp only [ZB, z0, z1]) |  (refine ZBd (dst := some 10) kvI ZAF vvB (ZEw fun _ => false) (fun _ => rfl) fun bv => ?_; dsimp only [ZB, z0, z1]) |  (refine ZBd (dst := some 11) kvI ZAF kvI (ZI8 fun _ => 0) (fun _ => rfl) fun bl => ?_; dsimp only [ZB, z0, z1]) |  (refine ZBd (dst := some 12) kvI ZAF kvI (ZHO fun _ => none) (fun _ => rfl) fun br => ?_; dsimp only [ZB, z0, z1]) |  (refine ZMz (n := 12) (agg := true) (OpD.t rfl) (fun _ _ _ q => by cases (q : _ = _); exact ⟨ZG8 _ _ _ _ _, rfl, by decide, ZG9 _ _ _ _ _, rfl, rfl⟩) fun b => ZH6 (zs := ZG8 _ _ _ _ _) (by simp [ZG8]) (ZG9 _ _ _ _ _) (WL.perm ZMA ?_); dsimp only [ZB, z0, z1]) | (apply WL.opN; (focus ((first | (exact ZMw (OpD.t rfl) (OpD.t rfl) (OpD.t rfl) (OpD.t rfl) (OpD.t rfl)) | (apply SY.len; (exact oD); (exact nD); (exact uD)) | fail); all_goals infer_instance)); dsimp only [ZB, z0, z1]) | refine WC.block ?_))
 refine WC.perm (hp' := ZCR (ZMe b bw bv bl br) V ZBX ++ (oN (ZMe b bw bv bl br) [] :: hp)) (List.Perm.of_eq (by rw [ZEk]; rfl)) ?_
 (refine ZP (X := Nat × Value × Value × (Nat -> Value) × (Int -> Value)) (fun x => [(17, dI (x.1 : Int)), (7, dA), (18, dA), (19, dA), (20, dA), (21, dA), (22, dA), (23, dA), (24, dA)]) (fun x => (ZCR ((ZMe b bw bv bl br).wm x.2) V ((l.take x.1).foldl ZA7 ZBX) ++ (oN (ZMe b bw bv bl br) [] :: hp))) (fun x => l.length - x.1) (fun x => x.1 ≤ l.length) (0, ZCX, ZCX, (fun _ => ZCX), (fun _ => ZCX)) ?start ?frame0 ?objs0 ?round)
 case start => exact Nat.zero_le _
 case frame0 => ((try dsimp only [ZX, z0, z1]); repeat (first | exact LeF.nil | refine ZG (k := ?_)))
 case objs0 => rfl
 case round =>
  rintro ⟨i, y⟩ hi
  simp only at hi
  dsimp only [ZX, z0, z1]
  by_cases hin : i < l.length
  ·obtain ⟨h1, h2, h3⟩ := hs i hi
   have hcc := hc _ (List.getElem_mem hin)
   have hA := ZNv ((ZMe b bw bv bl br).wm y) V ((l.take i).foldl ZA7 ZBX) l[i] hV hcc.1 hcc.2 h1 h2 h3
   ((repeat' (first | (apply WL.opN; exact yF; dsimp only [ZB, z0, z1]) | refine WL.nil ?_ | refine ZA fun Kx hK => ?_ | (refine hK _ _ ?_; clear hK) | refine WC.region ?_ |  (refine WL.callC (hp1 := ZCR _ _ _) (caps := []) hA Tryz.call70 OpD.f (by (exact aD)) ?_; rintro d' hp2 ⟨vT, vL, u, wv, rfl⟩; dsimp only [ZB, z0, z1]) | (apply WL.opN; (focus ((first | (refine ZAy (R := ZW) (_gR := inferInstance) (k := i) ZB7 (OpD.t rfl) (OpD.t rfl) hin) | ((first | apply SY.move | apply SY.assign | apply SY.lss) <;> (exact oD)) | ((first | apply SY.add) <;> first | exact oD | omega) | fail); all_goals infer_instance)); dsimp only [ZB, z0, z1]) | (apply ZC; (exact oD); all_goals (intro h; try exact xD)) | refine WC.skip ?_ | refine WC.block ?_ | refine ThenD.n ?_)); all_goals (first | ((repeat clear hK); (repeat clear Kx))))
   all_goals try (exfalso; first | contradiction | omega)
   rw [<- ZIy hin]
   (refine ⟨(i + 1, vT, vL, u, wv), ?_, by first | omega | (simp only; omega), rfl, ?_⟩; rotate_left; ((try dsimp only [ZX, z0, z1]); repeat (first | exact LeF.nil | refine ZG (k := ?_))); (try dsimp only))
   omega
  ·obtain rfl : i = l.length := by omega
   ((repeat' (first | (apply WL.opN; exact yF; dsimp only [ZB, z0, z1]) | refine WL.nil ?_ | refine ZA fun Kx hK => ?_ | (refine hK _ _ ?_; clear hK) | (refine Kont.skip ?_; clear hK) | refine WC.region ?_ | (apply WL.opN; (focus ((first | ((first | apply SY.move | apply SY.assign | apply SY.lss) <;> (exact oD)) | fail); all_goals infer_instance)); dsimp only [ZB, z0, z1]) | (apply ZC; (exact oD); all_goals (intro h; try exact xD)) | refine WC.ret ?_ | refine WC.exit ?_)); all_goals (first | ((repeat clear hK); (repeat clear Kx))))
   all_goals try (exfalso; first | contradiction | omega)
   rw [List.take_length]
   exact ⟨trivial, _, ZCR ((ZMe b bw bv bl br).wm y) V (ZAO l) ++ [oN ((ZMe b bw bv bl br).wm y) []], rfl, by simp [ZAO], (ZMe b bw bv bl br).wm y, rfl, rfl, rfl⟩
end
end Go.Proofs.YtjmignmnlpamjaaGreat
