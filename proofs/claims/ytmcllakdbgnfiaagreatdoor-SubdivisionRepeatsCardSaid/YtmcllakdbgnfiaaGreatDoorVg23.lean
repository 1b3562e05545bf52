/- Part 23: walks by contracts, and plain laws. -/
import Derived.Test.YtmcllakdbgnfiaaGreatDoorVg17
import Derived.Test.YtmcllakdbgnfiaaGreatDoorVg22
set_option linter.unusedVariables false
set_option linter.unusedSimpArgs false
set_option linter.unusedSectionVars false
set_option maxRecDepth 100000
set_option maxHeartbeats 4000000
namespace Go.Proofs.YtmcllakdbgnfiaaGreatDoor
section
open Go.RowKit
section
variable {P : Program} {ops : Array Oper} {hp : List HObj} {fr : List Dat} {d : Dat} {Q : Z1} {rest : List Oper} {K : Dat -> List HObj -> Prop}
variable {dst : Option Tmp} {ty : TypeId} {ps : String} {af : Array Edge} {g : Option (Nat × Bool)} {b cap bytes : Nat} {e e2 t T T2 : TypeId} {z : Value} {ag : Bool}
theorem WL.app1O {s y : Operand} {dst2 : Option Tmp} {ty2 : TypeId} {ps2 : String} {af2 : Array Edge} {v : Value} {α : Type} {R : Rel α} {_gR : Good R} {xs ys : List α} (E : ElT P t e 1 z bytes ag) (hs : OpD fr s (dX v)) (hy : OpD fr y (dX (.slice (some ⟨b, 0, none⟩) ys.length cap))) (hby : 0 < bytes)
  (hlen : (xs.length + ys.length) * bytes <= 140737488355328) (h : ∀ v', WL P ops Q rest (ZB fr dst2 (dX v')) (ZU v' e R (xs ++ ys) :: hQ b ys.length cap e2 R ys :: hp)) :
  WL P ops Q ({ dst := dst2, op := .call { callee := .builtin .append, args := #[s, y], argTypes := #[t, t] }, type := ty2, pos := ps2, after := af2, guard := none } :: rest) fr (ZU v e R xs :: hQ b ys.length cap e2 R ys :: hp) := by
 refine WL.of fun P0 B w0 w a hh hf => ?_
 have hm : xs.length + ys.length <= maxLen := by
  have : (xs.length + ys.length) * 1 <= (xs.length + ys.length) * bytes := Nat.mul_le_mul_left _ hby
  simp only [maxLen]; omega
 obtain ⟨us, u1, ⟨u2, u3⟩, u4⟩ := hh.ok (hQ b ys.length cap e2 R ys) (by simp)
 rcases u3 with ⟨hv, _⟩ | ⟨g', cap', cur, hv, hB, hg, hc1, hc2, hc3, hc4⟩
 ·cases hv
 ·obtain ⟨hg', hl', hcap⟩ : g' = b /\ us.length * 1 = ys.length /\ cap' = cap := by
   injection hv with q1 q2 q3
   injection q1 with q1
   injection q1 with q1
   exact ⟨q1.symm, by omega, q3.symm⟩
  subst hg'
  rw [Nat.mul_one] at hc3 hc4
  have hlu : us.length = ys.length := u1
  obtain ⟨v', w', hr, r1, r2, r3⟩ := ZBN (ty := ty2) E hh (ad := ⟨g', 0, none⟩) (c := cap) (ys := ys) (news := us) hlu (fun j u hj => by
    have hlt := (List.getElem?_eq_some_iff.1 hj).1
    rw [<- hc4, List.getElem?_take, if_pos (by omega)] at hj
    rw [Addr.add_lit, Nat.zero_add]
    simp only [World.cell?, hg]
    simpa using hj)
   (fun u hu => by
    obtain ⟨j, hj, rfl⟩ := List.getElem_of_mem hu
    exact (u4 j hj (by omega)).1) (fun k h1 h2 => Good.weak (u4 k h1 h2).2 fun _ hj => hj.1) hlen hm
  refine Zv (v := v) (yv := _) (hs.ev hf) (hy.ev hf) hr ?_
  exact (h v').on r1 (Fr.put (x := dst2) (hf.mono fun d _ hd => ZI (o := ZU v e R xs) (o' := ZU v' e R (xs ++ ys)) r2 r3 hd) (d := dX v') rfl)
theorem ZBS {x : Operand} {T : TypeId} (hx : OpD fr x (dB true)) : SY P ops hp { dst := dst, op := .unOp .not T x, type := ty, pos := ps, after := af, guard := g } fr (dB false) := SY.not hx
theorem SY.neqI {p q : Int} {x y : Operand} (h : p ≠ q) (hx : OpD fr x (dI p)) (hy : OpD fr y (dI q)) : SY P ops hp { dst := dst, op := .binOp .neq T x y T2, type := ty, pos := ps, after := af, guard := g } fr (dB true) := by
 have := SY.neq (P := P) (ops := ops) (hp := hp) (dst := dst) (ty := ty) (ps := ps) (af := af) (g := g) (T := T) (T2 := T2) hx hy
 rwa [decide_eq_false h] at this
theorem SY.andE {p q c : Int} {x y : Operand} (h : iand p q = c) (hx : OpD fr x (dI p)) (hy : OpD fr y (dI q)) : SY P ops hp { dst := dst, op := .binOp .and T x y T2, type := ty, pos := ps, after := af, guard := g } fr (dI c) := h ▸ SY.and hx hy
theorem SY.andNotE {p q c : Int} {x y : Operand} (h : iandnot p q = c) (hx : OpD fr x (dI p)) (hy : OpD fr y (dI q)) : SY P ops hp { dst := dst, op := .binOp .andNot T x y T2, type := ty, pos := ps, after := af, guard := g } fr (dI c) := h ▸ SY.andNot hx hy
theorem call_coreG {f : FuncId} {caps : List Value} {cl : Operand} {args : Array Operand} {ats : Array TypeId} {ds1 : List Dat} {hp1 : List HObj} {P0 : Nat -> Prop} {B : Nat} {w0 w : World} {a : Act} (hF : CallC P f (ds1 ++ caps.map dX) hp1 K) (he : ZAG P f) (hc : OpD fr cl (dX (.func (.func f) #[] caps.toArray))) (ha : ArgsD fr args.toList ds1)
  (hh : Hp P0 B w0 (hp1 ++ hp) w) (hfr : Fr (Imm P0 B (hp1 ++ hp)) w a fr) {KK : Act -> World -> Prop} {QQ : Exit -> Act -> World -> Prop}
  (hKK : ∀ d' hp2 a' w', K d' hp2 -> Hp P0 B w0 (hp2 ++ hp) w' -> Fr (Imm P0 B (hp2 ++ hp)) w' a' (ZB fr dst d') -> KK a' w') :
  Oper.wp P { dst := dst, op := .call { callee := .value cl, args := args, argTypes := ats }, type := ty, pos := ps, after := af, guard := g } a w KK QQ := by
 have h := call_core (dst := dst) (ty := ty) (ps := ps) (af := af) (ats := ats) hF he hc ha hh hfr (KK := KK) (QQ := QQ) hKK
 unfold Oper.wp at h ⊢
 exact h
theorem WL.callCG {f : FuncId} {caps : List Value} {cl : Operand} {args : Array Operand} {ats : Array TypeId} {ds1 : List Dat} {hp1 : List HObj} (hF : CallC P f (ds1 ++ caps.map dX) hp1 K) (he : ZAG P f) (hw : WantS ops { dst := dst, op := .call { callee := .value cl, args := args, argTypes := ats }, type := ty, pos := ps, after := af, guard := g } fr true) (hc : OpD fr cl (dX (.func (.func f) #[] caps.toArray))) (ha : ArgsD fr args.toList ds1)
  (hK : ∀ d' hp2, K d' hp2 -> WL P ops Q rest (ZB fr dst d') (hp2 ++ hp)) :
  WL P ops Q ({ dst := dst, op := .call { callee := .value cl, args := args, argTypes := ats }, type := ty, pos := ps, after := af, guard := g } :: rest) fr (hp1 ++ hp) := WL.of fun P0 B w0 w a hh hf => by
 unfold wpList
 rw [if_pos (hw.out _ _ _ (hf.on _))]
 exact .inl (call_coreG hF he hc ha hh hf fun d' hp2 _ _ hk hh2 hf2 => (hK d' hp2 hk).on hh2 hf2)
end

theorem eqNilI : ∀ (x y : Operand) ad m c w, (do eqGuard .eql 51 x y (.slice ad m c) (.slice none 0 0); Go.binOp .eql 51 (.slice ad m c) (.slice none 0 0)).run Tryz.prog w = .ok (.bool ad.isNone) w := by
 intro x y ad m c w
 cases ad <;> (go_simp; try (unfold Go.binOp; simp only; unfold Op.equal Op.maxDepth Op.equalIn; simp [run_underlying Tryz.underlying51]))
theorem clone_i (b cap : Nat) (xs : List Int) (hl : xs.length <= 1000) : CallC Tryz.prog 112 ([dX (.slice (some ⟨b, 0, none⟩) xs.length cap)] ++ ([] : List Value).map dX) [hQ b xs.length cap 3 RI xs] fun d' hp2 => ∃ v, d' = dX v /\ hp2 = [ZU v 3 RI xs, hQ b xs.length cap 3 RI xs] := by
 (refine Zw Tryz.func112 rfl rfl (fun hp => ?_); simp only [Tryz.ntmps112, List.length_cons, List.length_nil, List.length_append, List.length_map, Nat.reduceAdd, Nat.reduceSub, List.replicate_succ, List.replicate_zero, List.cons_append, List.nil_append, List.map_cons, List.map_nil, List.append_assoc])
 ((repeat' (first | (apply WL.opN; exact yF; dsimp only [ZB, z0, z1]) | refine WL.nil ?_ | refine ZA fun Kx hK => ?_ | (refine hK _ _ ?_; clear hK) | refine WC.region ?_ |  (apply WL.build01 elI RI; (intro _; dsimp only [ZB, z0, z1]); all_goals (try infer_instance)) |  (apply WL.app1O elI; exact OpD.t rfl; exact OpD.t rfl; decide; (simp; omega); (intro _; dsimp only [ZB, z0, z1])) | (apply WL.opN; (focus ((first | (apply SY.eqNilO; exact OpD.t rfl; exact eqNilI) | fail); all_goals infer_instance)); dsimp only [ZB, z0, z1]) | (apply Zr; (exact oD); (with_reducible rfl)) | refine WC.skip ?_ | refine WC.ret ?_)); all_goals (first | ((repeat clear hK); (repeat clear Kx))))
 exact ⟨trivial, _, [_, _], rfl, rfl, _, rfl, by rw [List.nil_append]⟩
theorem tyFo : TyI Tryz.prog 151 1 false := ⟨by kernel_rfl, Tryz.isAgg151⟩
theorem tyFz : TyI Tryz.prog 131 1 false := ⟨by kernel_rfl, Tryz.isAgg131⟩
theorem tzFo : TyZ Tryz.prog 151 .nilFunc := ⟨by kernel_rfl⟩
def dIf (c : Prop) (d : Dat) : Dat := ⟨fun I w v => c /\ d.rd I w v, fun h q => ⟨h.1, d.weak h.2 q⟩, fun h q => ⟨h.1, d.move h.2 q⟩, fun h => ⟨h.1, d.bound h.2⟩⟩
theorem dIf_eq {c : Prop} {d : Dat} (h : c) : dIf c d = d := by
 obtain ⟨rd, h1, h2, h3⟩ := d
 unfold dIf
 congr 1
 funext I w v
 exact propext (and_iff_right h)
theorem dIf_le {c : Prop} {d : Dat} (h : c) : d.le (dIf c d) := by rw [dIf_eq h]; exact Dat.le_refl _
abbrev fromV (v2 : Value) (bf : Nat) : Value := .func (.func 111) #[] [v2, .pointer (some ⟨bf, 0, none⟩)].toArray
abbrev ordO (l : Nat) (v v2 : Value) (bf : Nat) (pre : List Nat) : List HObj :=
 [ZU v 3 RI (ZAA pre), ZO bf 151 1 false (dX (fromV v2 bf)), Zu v2 (dP 1 false (dX (.func (.yield l) #[] #[])))]
def bitsN (r : Nat) : Nat := ((List.range 5).filter fun i => r.testBit i).length
theorem bits_zero : ∀ r : Fin 32, bitsN r.val = 0 -> r.val = 0 := by decide +kernel
theorem bits_less : ∀ r b : Fin 32, 0 < b.val -> b.val &&& r.val = b.val -> bitsN (r.val - b.val) < bitsN r.val := by decide +kernel
theorem bits_all : ∀ r : Fin 32, bitsN r.val <= 5 := by decide +kernel
theorem first_is : ∀ r : Fin 32, r.val ≠ 0 -> 0 < ZBa r.val 0 /\ ZBa r.val 0 <= r.val /\ ZBa r.val 0 &&& r.val = ZBa r.val 0 := by decide +kernel
theorem perm3 {a b c : HObj} {js hp : List HObj} : (a :: b :: c :: (js ++ hp)).Perm (js ++ a :: b :: c :: hp) := by
 have : (([a, b, c] ++ js) ++ hp).Perm ((js ++ [a, b, c]) ++ hp) := List.Perm.append_right _ List.perm_append_comm
 simpa using this
theorem perm4 {a b c d : HObj} {js hp : List HObj} : (a :: b :: c :: d :: (js ++ hp)).Perm (a :: c :: d :: (js ++ b :: hp)) := by
 refine List.Perm.cons a ?_
 have h : (b :: c :: d :: (js ++ hp)).Perm (c :: d :: b :: (js ++ hp)) := (List.Perm.swap c b _).trans ((List.Perm.swap d b _).cons c)
 refine h.trans (List.Perm.cons c (List.Perm.cons d ?_))
 exact List.perm_middle.symm
def restO (k r : Nat) (pre : List Nat) (l : List Nat) : List (List Nat) := l.flatMap fun b => (ordN k (r - b)).map fun x => pre ++ b :: x
theorem ord_rest {k r : Nat} {pre : List Nat} (h : r ≠ 0) : (ordN (k + 1) r).map (pre ++ ·) = restO k r pre (subB r) := by
 rw [ordN_succ h]
 unfold restO
 rw [List.map_flatMap]
 congr 1
 funext b
 rw [List.map_map]
 rfl
theorem rest_cons {k r b : Nat} {pre : List Nat} {l : List Nat} : restO k r pre (b :: l) = (ordN k (r - b)).map (fun x => pre ++ b :: x) ++ restO k r pre l := rfl
theorem pre_map {k r b : Nat} {pre : List Nat} : (ordN k (r - b)).map (fun x => pre ++ b :: x) = (ordN k (r - b)).map ((pre ++ [b]) ++ ·) := by
 refine List.map_congr_left fun x _ => ?_
 simp
theorem perm4b {b c d : HObj} {js hp : List HObj} : (c :: d :: (js ++ b :: hp)).Perm (b :: c :: d :: (js ++ hp)) := by
 have h : (b :: c :: d :: (js ++ hp)).Perm (c :: d :: b :: (js ++ hp)) := (List.Perm.swap c b _).trans ((List.Perm.swap d b _).cons c)
 exact ((List.Perm.cons c (List.Perm.cons d List.perm_middle)).trans h.symm)
set_option maxHeartbeats 8000000 in
theorem leaf_c (l N : Nat) (J : List (List Nat) -> List HObj -> Prop) (S : List Nat -> Prop) (hY : YStep Tryz.prog l (fun x => dIf (S x) (dS ZCE (ZAA x))) J N) (v2 : Value) (bf : Nat) (pre : List Nat) (v : Value) (done : List (List Nat)) (js : List HObj) (hne : pre ≠ []) (hlen : pre.length <= 100) (hj : J done js) (hN : done.length < N) (hSp : S pre) :
  CallC Tryz.prog 111 ([dI ((0 : Nat) : Int), dX v] ++ [v2, .pointer (some ⟨bf, 0, none⟩)].map dX) (ordO l v v2 bf pre ++ js)
   (fun d hp2 => d = dB true /\ ∃ js', J (done ++ [pre]) js' /\ hp2 = ordO l v v2 bf pre ++ js') := by
 (refine Zw Tryz.func111 rfl rfl (fun hp => ?_); simp only [Tryz.ntmps111, List.length_cons, List.length_nil, List.length_append, List.length_map, Nat.reduceAdd, Nat.reduceSub, List.replicate_succ, List.replicate_zero, List.cons_append, List.nil_append, List.map_cons, List.map_nil, List.append_assoc])
 refine WC.use 2 rfl (.tail _ (.tail _ (.head _))) ?_
 refine WC.openQ (by rw [ZBs]; exact List.length_pos_iff.2 hne) fun b cap hv hc1 hc2 => ?_
 subst hv
 dsimp only [z0, z1]
 (repeat' (first |  (refine I.WC.drawW (β := Value) 2 (fun v' => ZU v' 3 RI (ZAA pre) :: hQ b (ZAA pre).length cap 3 RI (ZAA pre) :: ZO bf 151 1 false (dX (fromV v2 bf)) :: Zu v2 (dP 1 false (dX (.func (.yield l) #[] #[]))) :: (js ++ hp)) (fun v' => dX v') _ rfl (by kernel_rfl) (by kernel_rfl) ?_; simp only [List.take_succ_cons, List.take_zero, List.drop_succ_cons, List.drop_zero]) | ((first | apply WL.opN | apply WD.opN); exact yF; dsimp only [ZB, z0, z1]) | refine WL.nil ?_ | refine ZA fun Kx hK => ?_ | (refine hK _ _ ?_; clear hK) | refine WC.region ?_ | ((first | apply ZJ | apply WD.op); (focus (first | exact wN | (apply ZG; (exact wY); ((first | ((first | apply SY.move | apply SY.assign | apply SY.eql | apply SY.neq | apply SY.and | apply SY.andNot | apply SY.not) <;> (exact oD)) | fail); all_goals infer_instance)))); dsimp only [ZB, z0, z1]) | (apply ZC; (exact oD); all_goals (intro h; try exact xD))))
 all_goals try (exfalso; omega)
 (repeat' (first | refine WDs.nil ?_ | (apply WDs.op; (focus (intro c; apply ZG; (exact ZV rfl); ((first | (apply SY.load; exact tyFz; exact OpD.t rfl) | ((first | apply SY.move | apply SY.assign | apply SY.eql | apply SY.neq | apply SY.and | apply SY.andNot | apply SY.not) <;> (exact oD)) | fail); all_goals infer_instance))); dsimp only [ZB, z0, z1])))
 refine ⟨SW.callC (hp1 := [_]) (H := fun v' => [ZU v' 3 RI (ZAA pre), hQ b (ZAA pre).length cap 3 RI (ZAA pre)]) (caps := []) (clone_i b cap (ZAA pre) (by rw [ZBs]; omega)) Tryz.call112 OpD.f (by (exact aD)) (fun d hp2 ⟨v, h1, h2⟩ => ⟨v, h1, h2⟩), fun v' => ?_⟩
 dsimp only [ZB, z0, z1]
 refine I.WL.keep1 (s := 12) rfl ?_
 dsimp only [ZB, z0, z1]
 refine I.WL.perm perm3 (I.WL.yield (pre := done) (y := pre) hY hN hj (OpD.t rfl) (OpD.tle rfl (dIf_le hSp)) fun js' hj' => I.WL.perm perm3.symm ?_)
 dsimp only [ZB, z0, z1]
 refine I.WL.op rfl (SY.assign (OpD.t rfl)) ?_
 dsimp only [ZB, z0, z1]
 refine I.WL.nil ?_
 ((repeat' (first | (refine hK _ _ ?_; clear hK) | refine WC.ret ?_ | refine ThenD.r ?_)); all_goals (first | ((repeat clear hK); (repeat clear Kx))))
 exact ⟨trivial, _, _ :: _ :: _ :: js', rfl, rfl, rfl, js', hj', rfl⟩
set_option maxHeartbeats 16000000 in
theorem ofrom_c (l N : Nat) (J : List (List Nat) -> List HObj -> Prop) (S : List Nat -> Prop) (hY : YStep Tryz.prog l (fun x => dIf (S x) (dS ZCE (ZAA x))) J N) (v2 : Value) (bf : Nat) :
  ∀ (k r : Nat) (pre : List Nat) (v : Value) (done : List (List Nat)) (js : List HObj), r < 32 -> bitsN r <= k -> (r ≠ 0 \/ pre ≠ []) -> pre.length + k <= 100 -> J done js -> done.length + (ordN k r).length <= N -> (∀ x ∈ ordN k r, S (pre ++ x)) ->
  CallC Tryz.prog 111 ([dI (r : Int), dX v] ++ [v2, .pointer (some ⟨bf, 0, none⟩)].map dX) (ordO l v v2 bf pre ++ js)
   (fun d hp2 => d = dB true /\ ∃ js', J (done ++ (ordN k r).map (pre ++ ·)) js' /\ hp2 = ordO l v v2 bf pre ++ js') := by
 have leaf : ∀ (k r : Nat) (pre : List Nat) (v : Value) (done : List (List Nat)) (js : List HObj), r = 0 -> (r ≠ 0 \/ pre ≠ []) -> pre.length + k <= 100 -> J done js -> done.length + (ordN k r).length <= N -> (∀ x ∈ ordN k r, S (pre ++ x)) ->
  CallC Tryz.prog 111 ([dI (r : Int), dX v] ++ [v2, .pointer (some ⟨bf, 0, none⟩)].map dX) (ordO l v v2 bf pre ++ js)
   (fun d hp2 => d = dB true /\ ∃ js', J (done ++ (ordN k r).map (pre ++ ·)) js' /\ hp2 = ordO l v v2 bf pre ++ js') := by
  intro k r pre v done js h0 hne hlen hj hN hS
  subst h0
  rw [ordN_zero] at hN hS ⊢
  have h := leaf_c l N J S hY v2 bf pre v done js (by rcases hne with h | h; exact absurd rfl h; exact h) (by omega) hj (by simp at hN; omega) (by simpa using hS)
  simpa using h
 intro k
 induction k with
 | zero =>
  intro r pre v done js hr hb hne hlen hj hN hS
  exact leaf 0 r pre v done js (bits_zero ⟨r, hr⟩ (by simpa using hb)) hne hlen hj hN hS
 | succ k ih =>
  intro r pre v done js hr hb hne hlen hj hN hS
  by_cases h0 : r = 0
  ·exact leaf (k + 1) r pre v done js h0 hne hlen hj hN hS
  ·rw [ord_rest h0] at ⊢
   have hN' : done.length + (restO k r pre (subB r)).length <= N := by rw [<- ord_rest h0, List.length_map]; exact hN
   clear hN leaf
   have hfirst : iand (0 - (r : Int)) (r : Int) = ((ZBa r 0 : Nat) : Int) := (first_iand ⟨r, hr⟩).resolve_right h0
   obtain ⟨f1, f2, f3⟩ := first_is ⟨r, hr⟩ h0
   simp only at f1 f2 f3
   (refine Zw Tryz.func111 rfl rfl (fun hp => ?_); simp only [Tryz.ntmps111, List.length_cons, List.length_nil, List.length_append, List.length_map, Nat.reduceAdd, Nat.reduceSub, List.replicate_succ, List.replicate_zero, List.cons_append, List.nil_append, List.map_cons, List.map_nil, List.append_assoc])
   (repeat' (first | ((first | apply WL.opN | apply WD.opN); exact yF; dsimp only [ZB, z0, z1]) | refine WL.nil ?_ | refine ZA fun Kx hK => ?_ | (refine hK _ _ ?_; clear hK) | refine WC.region ?_ | ((first | apply ZJ | apply WD.op); (focus (first | exact wN | (apply ZG; (exact wY); ((first | (exact SY.andE hfirst (OpD.t rfl) (OpD.t rfl)) | ((first | apply SY.move | apply SY.assign | apply SY.eql | apply SY.neq | apply SY.and | apply SY.andNot | apply SY.not) <;> (exact oD)) | ((first | apply SY.sub) <;> first | exact oD | omega) | fail); all_goals infer_instance)))); dsimp only [ZB, z0, z1]) | (apply ZC; (exact oD); all_goals (intro h; try exact xD)) | refine WC.skip ?_ | refine WC.block ?_))
   all_goals try (exfalso; omega)
   (refine WC.loopU (X := Nat × List (List Nat) × List HObj) (fun x => [(7, dI (x.1 : Int)), (6, dA), (18, dA), (19, dA), (20, dA), (21, dA), (22, dA), (23, dA), (24, dA), (25, dA), (26, dA), (27, dA), (28, dA), (29, dA), (30, dA), (31, dA), (32, dA), (33, dA), (34, dA), (35, dA), (36, dA), (37, dA), (38, dA), (39, dA)]) (fun x => (ZU v 3 RI (ZAA pre) :: ZO bf 151 1 false (dX (fromV v2 bf)) :: Zu v2 (dP 1 false (dX (.func (.yield l) #[] #[]))) :: (x.2.2 ++ hp))) (fun x => r - x.1) (fun x => 0 < x.1 /\ x.1 <= r /\ x.1 &&& r = x.1 /\ J x.2.1 x.2.2 /\ x.2.1 ++ restO k r pre (fromB r x.1) = done ++ restO k r pre (subB r)) (ZBa r 0, done, js) ?start ?frame0 ?objs0 ?round)
   case start => exact ⟨f1, f2, f3, hj, by rw [from_first ⟨r, hr⟩ h0]⟩
   case frame0 => ((try dsimp only [ZL, z0, z1]); repeat (first | exact LeF.nil | refine ZD (k := ?_)))
   case objs0 => rfl
   case round =>
    rintro ⟨c, dn, js1⟩ ⟨q0, q1, q2, q3, q4⟩
    simp only at q0 q1 q2 q3 q4
    dsimp only [ZL, z0, z1]
    have hc0 : (c : Int) ≠ 0 := by omega
    have hand := (andnot_sub ⟨r, hr⟩ ⟨c, by omega⟩ q2).1
    simp only at hand
    (repeat' (first |  (refine WC.drawG (β := ForkB v (ZAA pre)) 10 (forkH RI 3 v (ZAA pre) (c : Int) (ZO bf 151 1 false (dX (fromV v2 bf)) :: Zu v2 (dP 1 false (dX (.func (.yield l) #[] #[]))) :: (js1 ++ hp))) forkD _ rfl (by kernel_rfl) (by kernel_rfl) ?_; simp only [List.take_succ_cons, List.take_zero, List.drop_succ_cons, List.drop_zero]) | refine ZA fun Kx hK => ?_ | refine WC.block ?_))
    (repeat' (first | refine WDs.nil ?_ | (apply WDs.op; (focus (intro c; apply ZG; (exact wY); ((first | (exact SY.neqI hc0 (OpD.t rfl) OpD.i) | (apply ZAE; exact tyFo; exact OpD.t rfl; (refine HH.mem (.tail _ (.head _)) (fun x => ?_); cases x; exact .tail _ (.head _); exact .tail _ (.tail _ (.head _)))) | (exact SY.andNotE hand (OpD.t rfl) (OpD.t rfl)) | ((first | apply SY.move | apply SY.assign | apply SY.eql | apply SY.neq | apply SY.and | apply SY.andNot | apply SY.not) <;> (exact oD)) | (apply SY.build1'; (exact eD); ((try simp only [List.map_cons, List.map_nil]); (repeat (first | exact ZAj | (apply ZAU; (first | exact OpD.t rfl | exact OpD.i | exact OpD.b | exact OpD.tle rfl (by first | exact ZN | exact ZK (by decide)) | exact ⟨ZN⟩ | exact ⟨ZK (by decide)⟩))))); rfl; rfl; (intro _; first | exact ZAs | exact ZBt | exact ZBT | exact ZB5); (exact (by simp))) | fail); all_goals infer_instance))); dsimp only [ZB, z0, z1])))
    have hlenP : (ZAA pre).length = pre.length := ZBs pre
    have hCall : ∀ v' : Value, CallC Tryz.prog 111 ([dI (((r - c : Nat) : Nat) : Int), dX v'] ++ [v2, .pointer (some ⟨bf, 0, none⟩)].map dX) (ordO l v' v2 bf (pre ++ [c]) ++ js1)
      (fun d hp2 => d = dB true /\ ∃ js', J (dn ++ (ordN k (r - c)).map ((pre ++ [c]) ++ ·)) js' /\ hp2 = ordO l v' v2 bf (pre ++ [c]) ++ js') := fun v' => by
     have hfr : c = r \/ fromB r c = c :: fromB r (ZBa r c) := by
      by_cases hcr : c = r
      ·exact .inl hcr
      ·exact .inr (from_next ⟨r, hr⟩ ⟨c, by omega⟩ (by simp only; omega) q2 (by simpa using hcr))
     have hmem : (ordN k (r - c)).length <= (restO k r pre (fromB r c)).length := by
      rcases hfr with h | h
      ·subst h
       rw [from_last ⟨c, hr⟩ (by simp only; omega), rest_cons]
       simp
      ·rw [h, rest_cons]
       simp
     have hl4 := congrArg List.length q4
     simp only [List.length_append] at hl4
     have hbl := bits_less ⟨r, hr⟩ ⟨c, by omega⟩ q0 q2
     simp only at hbl
     exact ih (r - c) (pre ++ [c]) v' dn js1 (by omega) (by omega) (.inr (by simp)) (by simp; omega) q3 (by omega) fun x hx => by
      have h5 := hS (c :: x) (by rw [ordN_succ h0]; exact List.mem_flatMap.2 ⟨c, sub_mem.2 ⟨q0, q1, q2⟩, List.mem_map.2 ⟨x, hx, rfl⟩⟩)
      simpa using h5
    have hEnd : ∀ {js2 : List HObj}, c = r -> J (dn ++ (ordN k (r - c)).map ((pre ++ [c]) ++ ·)) js2 -> J (done ++ restO k r pre (subB r)) js2 := fun {js2} hcr hj2 => by
     subst hcr
     rw [from_last ⟨c, hr⟩ (by simp only; omega), rest_cons, pre_map] at q4
     rw [<- q4]
     simpa [restO] using hj2
    have hNext : c ≠ r -> (0 < ZBa r c /\ ZBa r c <= r /\ ZBa r c &&& r = ZBa r c /\ c < ZBa r c) /\ iand ((c : Int) - (r : Int)) (r : Int) = ((ZBa r c : Nat) : Int) /\ (dn ++ (ordN k (r - c)).map ((pre ++ [c]) ++ ·)) ++ restO k r pre (fromB r (ZBa r c)) = done ++ restO k r pre (subB r) := fun hcr => by
     obtain ⟨n1, n2, n3⟩ := next_is ⟨r, hr⟩ ⟨c, by omega⟩ q2 hcr
     simp only at n1 n2 n3
     refine ⟨⟨by omega, n2, n3, n1⟩, next_iand ⟨r, hr⟩ ⟨c, by omega⟩ q2 hcr, ?_⟩
     rw [<- q4, from_next ⟨r, hr⟩ ⟨c, by omega⟩ (by simp only; omega) q2 hcr, rest_cons, pre_map, List.append_assoc]
    refine ⟨SG.pushFork elI wY (OpD.t rfl) (OpD.t rfl) (by decide) (by omega), fun x => ?_⟩
    cases x with
    | inl p =>
     obtain ⟨⟨b, cap⟩, hv, hcap⟩ := p
     simp only at hv hcap
     subst hv
     dsimp only [forkH, forkD, ZB, z0, z1]
     rw [<- intsB_snoc]
     refine WL.callCG (hp1 := ordO l (.slice (some ⟨b, 0, none⟩) ((ZAA pre).length + 1) cap) v2 bf (pre ++ [c]) ++ js1) (hCall _) Tryz.call111 wY (OpD.t rfl) (by (exact aD)) ?_
     rintro d' hp2 ⟨rfl, js2, hj2, rfl⟩
     dsimp only [ZB, z0, z1, List.cons_append, List.nil_append]
     refine WL.cutQ (k := (ZAA pre).length) (by simp [ZAA]) ?_
     rw [intsB_snoc, List.take_left' rfl]
     by_cases hcr : c = r
     ·((repeat' (first | ((first | apply WL.opN | apply WD.opN); exact yF; dsimp only [ZB, z0, z1]) | refine WL.nil ?_ | refine ZA fun Kx hK => ?_ | (refine hK _ _ ?_; clear hK) | refine WC.region ?_ | ((first | apply ZJ | apply WD.op); (focus (first | exact wN | (apply ZG; (exact wY); ((first | (exact ZBS (OpD.t rfl)) | ((first | apply SY.move | apply SY.assign | apply SY.eql | apply SY.neq | apply SY.and | apply SY.andNot | apply SY.not) <;> (exact oD)) | (apply ZAJ; (exact oD); (with_reducible rfl); (exact oD)) | fail); all_goals infer_instance)))); dsimp only [ZB, z0, z1]) | (apply Zr; (exact oD); (with_reducible rfl)) | (apply ZC; (exact oD); all_goals (intro h; try exact xD)) | refine WC.skip ?_ | refine WC.ret ?_ | refine ThenD.r ?_ | refine InBlockD.r ?_)); all_goals (first | ((repeat clear hK); (repeat clear Kx))))
      all_goals try (exfalso; omega)
      exact ⟨trivial, _, _ :: _ :: _ :: js2, rfl, rfl, rfl, js2, hEnd hcr hj2, rfl⟩
     ·obtain ⟨⟨n0, n1, n2, n3⟩, n4, n5⟩ := hNext hcr
      ((repeat' (first | ((first | apply WL.opN | apply WD.opN); exact yF; dsimp only [ZB, z0, z1]) | refine WL.nil ?_ | refine ZA fun Kx hK => ?_ | (refine hK _ _ ?_; clear hK) | refine WC.region ?_ | ((first | apply ZJ | apply WD.op); (focus (first | exact wN | (apply ZG; (exact wY); ((first | (exact ZBS (OpD.t rfl)) | (exact SY.andE n4 (OpD.t rfl) (OpD.t rfl)) | ((first | apply SY.move | apply SY.assign | apply SY.eql | apply SY.neq | apply SY.and | apply SY.andNot | apply SY.not) <;> (exact oD)) | ((first | apply SY.sub) <;> first | exact oD | omega) | (apply ZAJ; (exact oD); (with_reducible rfl); (exact oD)) | fail); all_goals infer_instance)))); dsimp only [ZB, z0, z1]) | (apply Zr; (exact oD); (with_reducible rfl)) | (apply ZC; (exact oD); all_goals (intro h; try exact xD)) | refine WC.skip ?_ | refine ThenD.n ?_)); all_goals (first | ((repeat clear hK); (repeat clear Kx))))
      all_goals try (exfalso; omega)
      (refine ⟨(ZBa r c, dn ++ (ordN k (r - c)).map ((pre ++ [c]) ++ ·), js2), ?_, by first | omega | (simp only; omega), rfl, ?_⟩; rotate_left; ((try dsimp only [ZL, z0, z1]); repeat (first | exact LeF.nil | refine ZD (k := ?_))); (try dsimp only))
      exact ⟨n0, n1, n2, hj2, n5⟩
    | inr v' =>
     dsimp only [forkH, forkD, ZB, z0, z1]
     rw [<- intsB_snoc]
     refine WL.perm perm4 ?_
     refine WL.callCG (hp1 := ordO l v' v2 bf (pre ++ [c]) ++ js1) (hCall _) Tryz.call111 wY (OpD.t rfl) (by (exact aD)) ?_
     rintro d' hp2 ⟨rfl, js2, hj2, rfl⟩
     dsimp only [ZB, z0, z1, List.cons_append, List.nil_append]
     refine WL.drop ?_
     refine WL.perm perm4b ?_
     by_cases hcr : c = r
     ·((repeat' (first | ((first | apply WL.opN | apply WD.opN); exact yF; dsimp only [ZB, z0, z1]) | refine WL.nil ?_ | refine ZA fun Kx hK => ?_ | (refine hK _ _ ?_; clear hK) | refine WC.region ?_ | ((first | apply ZJ | apply WD.op); (focus (first | exact wN | (apply ZG; (exact wY); ((first | (exact ZBS (OpD.t rfl)) | ((first | apply SY.move | apply SY.assign | apply SY.eql | apply SY.neq | apply SY.and | apply SY.andNot | apply SY.not) <;> (exact oD)) | (apply ZAJ; (exact oD); (with_reducible rfl); (exact oD)) | fail); all_goals infer_instance)))); dsimp only [ZB, z0, z1]) | (apply Zr; (exact oD); (with_reducible rfl)) | (apply ZC; (exact oD); all_goals (intro h; try exact xD)) | refine WC.skip ?_ | refine WC.ret ?_ | refine ThenD.r ?_ | refine InBlockD.r ?_)); all_goals (first | ((repeat clear hK); (repeat clear Kx))))
      all_goals try (exfalso; omega)
      exact ⟨trivial, _, _ :: _ :: _ :: js2, rfl, rfl, rfl, js2, hEnd hcr hj2, rfl⟩
     ·obtain ⟨⟨n0, n1, n2, n3⟩, n4, n5⟩ := hNext hcr
      ((repeat' (first | ((first | apply WL.opN | apply WD.opN); exact yF; dsimp only [ZB, z0, z1]) | refine WL.nil ?_ | refine ZA fun Kx hK => ?_ | (refine hK _ _ ?_; clear hK) | refine WC.region ?_ | ((first | apply ZJ | apply WD.op); (focus (first | exact wN | (apply ZG; (exact wY); ((first | (exact ZBS (OpD.t rfl)) | (exact SY.andE n4 (OpD.t rfl) (OpD.t rfl)) | ((first | apply SY.move | apply SY.assign | apply SY.eql | apply SY.neq | apply SY.and | apply SY.andNot | apply SY.not) <;> (exact oD)) | ((first | apply SY.sub) <;> first | exact oD | omega) | (apply ZAJ; (exact oD); (with_reducible rfl); (exact oD)) | fail); all_goals infer_instance)))); dsimp only [ZB, z0, z1]) | (apply Zr; (exact oD); (with_reducible rfl)) | (apply ZC; (exact oD); all_goals (intro h; try exact xD)) | refine WC.skip ?_ | refine ThenD.n ?_)); all_goals (first | ((repeat clear hK); (repeat clear Kx))))
      all_goals try (exfalso; omega)
      (refine ⟨(ZBa r c, dn ++ (ordN k (r - c)).map ((pre ++ [c]) ++ ·), js2), ?_, by first | omega | (simp only; omega), rfl, ?_⟩; rotate_left; ((try dsimp only [ZL, z0, z1]); repeat (first | exact LeF.nil | refine ZD (k := ?_))); (try dsimp only))
      exact ⟨n0, n1, n2, hj2, n5⟩
theorem perm_mid1 {x : HObj} {hs hp : List HObj} : (hs ++ x :: hp).Perm (x :: (hs ++ hp)) := List.perm_middle
set_option maxHeartbeats 8000000 in
theorem oseq_c (r : Nat) (h0 : r ≠ 0) (hr : r < 32) (vr : Value) : SeqC Tryz.prog 110 [vr] [Zu vr (dP 1 false (dI (r : Int)))] (fun x => dIf (x ∈ ZBw r) (dS ZCE (ZAA x))) (ZBw r) := ⟨fun l J hY js hj => by
 (refine CallC.intro0 Tryz.func110 rfl rfl (fun hp => ?_); simp only [Tryz.ntmps110, List.length_cons, List.length_nil, List.length_append, List.length_map, Nat.reduceAdd, Nat.reduceSub, List.replicate_succ, List.replicate_zero, List.cons_append, List.nil_append, List.map_cons, List.map_nil, List.append_assoc])
 refine WC.perm' perm_mid1 ?_
 (repeat' (first |  (refine WC.pin (d := dP 1 false (dX (.func (.yield l) #[] #[]))) 2 rfl fun v2 => ?_; dsimp only [z0, z1]) |  (refine WC.use (d := dP 1 false (dI (r : Int))) 1 rfl (.tail _ (.tail _ (.head _))) ?_; dsimp only [z0, z1]) | (apply WL.opN; exact yF; dsimp only [ZB, z0, z1]) | refine WL.nil ?_ | refine ZA fun Kx hK => ?_ | (refine hK _ _ ?_; clear hK) | refine WC.region ?_ |  (apply WL.alloc tzFo; exact ZW rfl; (intro bf; dsimp only [ZB, z0, z1])) |  (apply WL.storeK tyFo; exact OpD.t rfl; exact OpD.t rfl; exact ZW rfl; dsimp only [ZB, z0, z1]) | (apply WL.opN; (focus ((first | (apply SY.makeX; repeat (first | exact ArgsX.nil | (apply ArgsX.cons; exact OpD.t rfl))) | (apply ZAE; exact tyFo; exact OpD.t rfl; exact .head _) | (apply SY.box; (exact oD); (exact hD)) | fail); all_goals infer_instance)); dsimp only [ZB, z0, z1])))
 have hC := ofrom_c l (ZBw r).length J (fun x => x ∈ ZBw r) hY v2 bf 6 r [] (.slice none 0 0) [] js hr (Nat.le_succ_of_le (bits_all ⟨r, hr⟩)) (.inl h0) (by simp) hj (by simp [ZBw]) (fun x hx => by rw [List.nil_append]; exact hx)
 refine ZAk 3 RI ?_
 refine WL.perm (List.Perm.cons _ (List.Perm.cons _ (List.Perm.cons _ perm_mid1.symm))) ?_
 refine WL.callC (hp1 := ordO l (.slice none 0 0) v2 bf [] ++ js) hC Tryz.call111 (OpD.t rfl) (by (exact aD)) ?_
 rintro d' hp2 ⟨rfl, js', hj', rfl⟩
 simp only [List.nil_append, List.map_id'] at hj'
 dsimp only [ZB, z0, z1, List.cons_append, List.nil_append]
 refine WL.drop (WL.drop (WL.drop (WL.nil ?_)))
 exact ⟨trivial, js' ++ [_], by simp, js', hj', rfl⟩⟩
theorem ordered_k (r : Nat) : CallC Tryz.prog 67 ([dI (r : Int)] ++ ([] : List Value).map dX) [] (fun d hp2 => ∃ vr, d = dX (.func (.func 110) #[] [vr].toArray) /\ hp2 = [Zu vr (dP 1 false (dI (r : Int)))]) := by
 (refine Zw Tryz.func67 rfl rfl (fun hp => ?_); simp only [Tryz.ntmps67, List.length_cons, List.length_nil, List.length_append, List.length_map, Nat.reduceAdd, Nat.reduceSub, List.replicate_succ, List.replicate_zero, List.cons_append, List.nil_append, List.map_cons, List.map_nil, List.append_assoc])
 ((repeat' (first |  (refine WC.pin (d := dP 1 false (dI (r : Int))) 1 rfl fun vr => ?_; dsimp only [z0, z1]) | (apply WL.opN; exact yF; dsimp only [ZB, z0, z1]) | refine WL.nil ?_ | refine ZA fun Kx hK => ?_ | (refine hK _ _ ?_; clear hK) | refine WC.region ?_ | (apply WL.opN; (focus ((first | (apply SY.makeX; repeat (first | exact ArgsX.nil | (apply ArgsX.cons; exact OpD.t rfl))) | (apply SY.box; (exact oD); (exact hD)) | fail); all_goals infer_instance)); dsimp only [ZB, z0, z1]) | refine WC.ret ?_)); all_goals (first | ((repeat clear hK); (repeat clear Kx))))
 exact ⟨trivial, _, [_], rfl, rfl, vr, rfl, rfl⟩
end
section
theorem cmpV_range (x y : Vx) : -1 <= ZAX x y /\ ZAX x y <= 1 := by rcases ZBA x y with h | h | h <;> omega
theorem cmpL_neg : ∀ (a b : List Vx), ZAc b a = - ZAc a b
 | [], [] => by simp [ZAc]
 | [], _ :: _ => by simp [ZAc]
 | _ :: _, [] => by simp [ZAc]
 | x :: a, y :: b => by
  unfold ZAc
  have h := cmpV_neg x y
  split <;> split
  ·exact cmpL_neg a b
  ·omega
  ·omega
  ·exact h
theorem cmpL_trans : ∀ (a b c : List Vx), ZAc a b <= 0 -> ZAc b c <= 0 -> ZAc a c <= 0 /\ (ZAc a c = 0 -> 0 <= ZAc a b + ZAc b c)
 | [], [], [], _, _ => by simp [ZAc]
 | [], [], _ :: _, _, _ => by simp [ZAc]
 | [], _ :: _, [], _, h => by simp [ZAc] at h
 | [], _ :: _, _ :: _, _, _ => by simp [ZAc]
 | _ :: _, [], _, h, _ => by simp [ZAc] at h
 | _ :: _, _ :: _, [], _, h => by simp [ZAc] at h
 | x :: a, y :: b, z :: c, h, h' => by
  have ih := cmpL_trans a b c
  unfold ZAc at h h' ⊢
  have r1 := cmpV_range x y
  have r2 := cmpV_range y z
  by_cases e1 : ZAX x y = 0
  ·have := ZBR.1 e1
   subst this
   rw [if_pos e1] at h ⊢
   by_cases e2 : ZAX x z = 0
   ·simp only [e2, if_true] at h' ⊢
    exact ih h h'
   ·rw [if_neg e2] at h'
    rw [if_neg e2]
    exact ⟨h', fun h0 => absurd h0 e2⟩
  ·rw [if_neg e1] at h ⊢
   by_cases e2 : ZAX y z = 0
   ·have := ZBR.1 e2
    subst this
    rw [if_neg e1]
    omega
   ·rw [if_neg e2] at h' ⊢
    have e3 := ZBD (by omega : ZAX x y < 0) (by omega : ZAX y z < 0)
    rw [if_neg (by omega)]
    omega
end
section
abbrev Cx := List (List Vx)
def insC : Cx -> List Vx -> Cx
 | [], s => [s]
 | x :: l, s => if ZAc s x < 0 then s :: x :: l else x :: insC l s
def putC (l : Cx) (s : List Vx) : Cx := if s ∈ l then l else insC l s
def Z8 (l : Cx) (s : List Vx) : Bool := l.any fun x => decide (s.length < x.length) && ZAm s x
def topC (l : Cx) (s : List Vx) : Bool := decide (0 < s.length) && !Z8 l s
def maxC (l : Cx) : Cx := (l.filter (topC l)).foldl putC []
def chkO : Option (List Vx) -> Cx -> Int
 | _, [] => 0
 | p, s :: l => if Zn s ≠ 0 then Zn s else if (match p with | some u => decide (0 <= ZAc u s) | none => false) = true then 14 else chkO (some s) l
def twiceC (l : Cx) : Bool := (List.range l.length).any fun i => (List.range l.length).any fun k => decide (i ≠ k) && ZAm (l.getD i []) (l.getD k [])
def ZAn (l : Cx) : Int := if 4096 < l.length then 5 else if chkO none l ≠ 0 then chkO none l else if twiceC l = true then 7 else 0
def hasC' (c : Cx) (s : List Vx) : Bool := c.any fun f => ZAm s f
def aroundC (c : Cx) (s : List Vx) : Cx := c.filter fun f => ZAm s f
def ZBr (c : Cx) (k : Nat) : Cx := c.foldl (fun out f => if f.length < k then out else (ZX k f).foldl putC out) []
theorem insC_len : ∀ (l : Cx) (s : List Vx), (insC l s).length = l.length + 1
 | [], s => rfl
 | x :: l, s => by
  unfold insC
  split
  ·rfl
  ·simp [insC_len l s]
theorem putC_len (l : Cx) (s : List Vx) : l.length <= (putC l s).length /\ (putC l s).length <= l.length + 1 := by
 unfold putC
 split
 ·omega
 ·rw [insC_len]; omega
theorem foldPut_len : ∀ (l out : Cx), out.length <= (l.foldl putC out).length /\ (l.foldl putC out).length <= out.length + l.length
 | [], out => by simp
 | s :: l, out => by
  have h1 := foldPut_len l (putC out s)
  have h2 := putC_len out s
  simp only [List.foldl_cons, List.length_cons]
  omega
theorem chkO_drop (l : Cx) (k : Nat) (h : k < l.length) : chkO (l.take k).getLast? (l.drop k) = if Zn l[k] ≠ 0 then Zn l[k] else if (match (l.take k).getLast? with | some u => decide (0 <= ZAc u l[k]) | none => false) = true then 14 else chkO (l.take (k + 1)).getLast? (l.drop (k + 1)) := by
 rw [ZAd h]
 conv => lhs; unfold chkO
 have e : (l.take (k + 1)).getLast? = some l[k] := by rw [ZQ h, List.getLast?_append]; rfl
 rw [e]
theorem lastC_take (l : Cx) (k : Nat) (h : k < l.length) (h0 : 0 < k) : (l.take k).getLast? = some l[k - 1] := by
 rw [List.getLast?_eq_getElem?, List.length_take, Nat.min_eq_left (by omega), List.getElem?_take_of_lt (by omega), List.getElem?_eq_getElem (by omega)]
end
end Go.Proofs.YtmcllakdbgnfiaaGreatDoor
