/- Part 26: walks by contracts, and plain laws. -/
import Derived.Test.YtjmignmnlpamjaaGreatVa24
set_option linter.unusedVariables false
set_option linter.unusedSimpArgs false
set_option linter.unusedSectionVars false
set_option maxRecDepth 100000
set_option maxHeartbeats 4000000
namespace Go.Proofs.YtjmignmnlpamjaaGreat
section
open Go.RowKit
def ArrF {α : Type} (R : Rel α) : Rel (List α) := fun P w v xs => Arr R P w v xs /\ ∃ a, v = .slice (some a) xs.length xs.length
instance {α : Type} (R : Rel α) [Good R] : Good (ArrF R) where
 weak := fun ⟨h, k⟩ q => ⟨Good.weak (R := Arr R) h q, k⟩
 move := fun ⟨h, k⟩ q => ⟨Good.move (R := Arr R) h q, k⟩
 bound := fun ⟨h, k⟩ => ⟨Good.bound (R := Arr R) h, k⟩
section
variable {P : Program} {ops : Array Oper} {hp : List HObj} {o : Oper} {fr : List Dat} {d : Dat} {Q : ZAb} {rest : List Oper}
variable {dst : Option Tmp} {ty : TypeId} {ps : String} {af : Array Edge} {g : Option (Nat × Bool)}
variable {t e : TypeId} {bytes : Nat} {z : Value} {ag : Bool}
theorem SY.full1 (E : ElT P t e 1 z bytes ag) {α : Type} {R : Rel α} {_gR : Good R} {len : Nat} {parts : Array (Nat × Operand)} {as1 : List α} (hx : ElsD fr R (parts.toList.map Prod.snd) as1) (hparts : parts.toList = ((parts.toList.map Prod.snd).zipIdx).map (fun p => (p.2, p.1))) (hl : len = as1.length) (hs : ∀ a, (dS R a).Shape 1 false) (hsm : as1.length * 1 ≤ 16777216) :
  SY P ops hp ⟨dst, .buildSlice t len parts, ty, ps, af, g⟩ fr (dS (ArrF R) as1) := ZAm fun {P0 B w0 w a} hh ho => by
 obtain ⟨css, hr, hcl, hcn, hel⟩ := ZCu E hx hl hparts hs hsm hh ho
 refine ⟨_, _, hr, ZF _ _, ⟨some ⟨w.heap.size, 0, none⟩, as1.length, rfl, Nat.le_refl _, by simp only [maxLen]; omega, fun k hk => ?_⟩, _, rfl⟩
 have hkc : k < css.length := by omega
 obtain ⟨u, hu, hR⟩ := hel k css[k] as1[k] (List.getElem?_eq_getElem hkc) (List.getElem?_eq_getElem hk)
 simp only [Bool.false_eq_true, if_false] at hu
 have hm := hcn css[k] (List.getElem_mem hkc)
 have h1 : u.oneCell' = true := hm.2 u (by rw [hu]; simp)
 refine ⟨u, w.heap.size, 0, Good.ext (R := R) hR (ZF _ _), h1, rfl, hh.fresh (Nat.le_refl _), ?_⟩
 rw [cell_of_row _ _ _ _ _ _ (ZAT w _), Nat.zero_add]
 have := ZAe (k := k) (j := 0) (c := u) (fun u hu => (hcn u hu).1) hkc (by rw [hu]; rfl)
 simpa using this
theorem ZEO {α : Type} {R : Rel α} {I : Nat -> Prop} {w : World} {a : Addr} {cap : Nat} {xs : List α} (h : Arr R I w (.slice (some a) xs.length cap) xs) : ∃ news : List Value, news.length = xs.length /\ (∀ j u, news[j]? = some u -> w.cell? (a.add j) = some u) /\ (∀ u ∈ news, u.oneCell' = true) /\
  ∀ (k : Nat) (h : k < news.length) (h' : k < xs.length), R I w news[k] xs[k] := by
 obtain ⟨ad, cap', hv, c1, c2, c3⟩ := h
 cases hv
 have hch : ∀ k : Nat, ∃ u : Value, ∀ h : k < xs.length, w.cell? (a.add k) = some u /\ u.oneCell' = true /\ R I w u xs[k] := fun k => by
  by_cases hk : k < xs.length
  ·obtain ⟨u, b, off, r1, r2, r3, r4, r5⟩ := c3 k hk
   cases r3
   exact ⟨u, fun _ => ⟨by rw [Addr.add_lit]; exact r5, r2, r1⟩⟩
  ·exact ⟨undef, fun h => absurd h hk⟩
 obtain ⟨f, hfch⟩ := Classical.axiomOfChoice hch
 refine ⟨(List.range xs.length).map f, by simp, fun j u hu => ?_, fun u hu => ?_, fun k h1 h2 => ?_⟩
 ·obtain ⟨hjl, hju⟩ := List.getElem?_eq_some_iff.1 hu
  simp at hjl hju
  subst hju
  exact (hfch j hjl).1
 ·simp only [List.mem_map, List.mem_range] at hu
  obtain ⟨j, hj, rfl⟩ := hu
  exact (hfch j hj).2.1
 ·simp only [List.getElem_map, List.getElem_range]
  exact (hfch k h2).2.2
theorem ZJh {s y : Operand} (E : ElT P t e 1 z bytes ag) {α : Type} {R : Rel α} {_gR : Good R} {xs ys : List α} (hs : OpD fr s (dS (ArrF R) xs)) (hy : OpD fr y (dS (Arr R) ys)) (hby : 0 < bytes) (hlen : (xs.length + ys.length) * bytes ≤ 140737488355328) :
  SY P ops hp ⟨dst, .call { callee := .builtin .append, args := #[s, y], argTypes := #[t, t] }, ty, ps, af, g⟩ fr (dS (Arr R) (xs ++ ys)) := ZAm fun {P0 B w0 w a} hh ho => by
 obtain ⟨h1, a1, hv1⟩ := hs.get (by simp [Op.operands, Call.operands]) ho
 have h2 : Arr R _ w (a.eval y) ys := hy.get (by simp [Op.operands, Call.operands]) ho
 obtain ⟨i, hi, hz, hsz, hb⟩ := info_parts E.info
 have hm : xs.length + ys.length ≤ maxLen := by
  have : (xs.length + ys.length) * 1 ≤ (xs.length + ys.length) * bytes := Nat.mul_le_mul_left _ hby
  simp only [maxLen]; omega
 have h1' := h1
 rw [hv1] at h1'
 have fin : ∀ v' w', (Builtin.append_ #[t, t] ty #[a.eval s, a.eval y]).run P w = .ok v' w' -> Ext w w' -> Arr R (Imm P0 B hp) w' v' (xs ++ ys) -> ∃ v w', (execOp a.eval ⟨dst, .call { callee := .builtin .append, args := #[s, y], argTypes := #[t, t] }, ty, ps, af, g⟩).run P w = .ok (.value v) w' /\ Ext w w' /\ (dS (Arr R) (xs ++ ys)).rd (Imm P0 B hp) w' v := by
  intro v' w' hr hx hd
  refine ⟨v', w', ?_, hx, hd⟩
  unfold execOp
  simp only [resolve, invoke, builtin, List.map_toArray, List.map_cons, List.map_nil, Sem.run_bind, Sem.run_pure, Result.andThen_ok, hr]
 have h2' := h2
 obtain ⟨ad2, cap2, hv2, q1, q2, q3⟩ := h2
 by_cases h0 : ys = []
 ·subst h0
  have hsrc : Src P i.size t (a.eval y) 0 [] w := by
   rw [hv2]
   cases ad2 with
   | none => exact Src.ofNil w E.und cap2
   | some ad2 => exact Src.ofSlice w E.und ad2 0 cap2 [] (by simp) (fun j u h => by simp at h) (fun u h => by simp at h)
  refine fin (a.eval s) w ?_ (Ext.refl _) (by rw [List.append_nil]; exact h1)
  have := run_append_nothing (P := P) w t t ty e i E.und hi (some a1) xs.length xs.length (Nat.le_refl _) (a.eval y) hsrc
  rw [hv1]; exact this
 ·cases ad2 with
  | none =>
   obtain ⟨_, _, _, _, _, hc, _⟩ := q3 0 (List.length_pos_iff.2 h0)
   cases hc
  | some ad2 =>
   rw [hv2] at h2'
   obtain ⟨o1, ol, oc, os, oe⟩ := ZEO h1'
   obtain ⟨n1, nl, nc, ns, ne⟩ := ZEO h2'
   have hpos : 0 < ys.length := List.length_pos_iff.2 h0
   obtain ⟨v', w', hr, hown, hgr⟩ := run_append_arg_grows (P := P) w t ty e i z 1 bytes E.und hi hz hsz hb E.zs Nat.one_pos a1 xs.length xs.length o1 (by rw [ol, Nat.mul_one]) oc ad2 ys.length cap2 n1 (by rw [nl, Nat.mul_one]) nc (by omega) hm hlen
   have hx : Ext w w' := ⟨hgr.os, hgr.tape, hgr.output, hgr.size, fun k hk => hgr.block k hk (by simp)⟩
   refine fin v' w' (by rw [hv1, hv2]; exact hr) hx ?_
   obtain ⟨a3, cap3, hv3, d1, d2, d3⟩ := Z4 hown
   refine ⟨a3, cap3, by rw [List.length_append]; exact hv3, by rw [List.length_append]; exact d1, d2, fun k hk => ?_⟩
   have hkl : k < (o1 ++ n1).length := by rw [List.length_append] at hk ⊢; omega
   have h1c : (o1 ++ n1)[k].oneCell' = true := by
    rcases List.mem_append.1 (List.getElem_mem hkl) with h | h
    ·exact os _ h
    ·exact ns _ h
   obtain ⟨gb, ha, _, hB, hc'⟩ := d3 k (o1 ++ n1)[k] (List.getElem?_eq_getElem hkl)
   have hR : R (Imm P0 B hp) w (o1 ++ n1)[k] (xs ++ ys)[k] := by
    by_cases hk1 : k < o1.length
    ·rw [List.getElem_append_left hk1, List.getElem_append_left (by omega)]
     exact oe k hk1 (by omega)
    ·rw [List.getElem_append_right (by omega), List.getElem_append_right (by omega)]
     have := ne (k - o1.length) (by rw [List.length_append] at hkl; omega) (by rw [List.length_append] at hk; omega)
     have e3 : k - o1.length = k - xs.length := by rw [ol]
     simp only [e3] at this ⊢
     exact this
   exact ⟨(o1 ++ n1)[k], gb, 0, Good.ext (R := R) hR hx, h1c, ha, hh.fresh hB, by rw [Nat.zero_add]; exact hc'⟩
end
section
variable {P : Program} {ops : Array Oper} {hp : List HObj} {fr : List Dat} {d : Dat} {Q : ZAb} {rest : List Oper}
variable {dst : Option Tmp} {ty : TypeId} {ps : String} {af : Array Edge} {g : Option (Nat × Bool)} {T : TypeId} {b k : Nat} {ds : List Dat}
theorem ZD4 {d0 d1 : Dat} {V : Int} {l : List (List Int)} (h0 : d0.le (dI V)) (h1 : d1.le (dS Rows l)) : (ZMX [d0, d1]).le (dS Cls (V, l)) := fun I w v h => by
 obtain ⟨cs, rfl, hl, hc, hd⟩ := h
 match cs, hl with
 | [u0, u1], _ =>
  exact ⟨u0, u1, rfl, hc u0 (by simp), hc u1 (by simp), h0 _ _ _ (hd 0 u0 _ rfl rfl), h1 _ _ _ (hd 1 u1 _ rfl rfl)⟩
theorem ZJl {x y : Operand} {n : Int} {d1 : Dat} (hd1 : ∀ I w v, d1.rd I w v -> ∃ a m c, v = .slice a m c) (hx : OpD fr x (dI n)) (hy : OpD fr y d1) : SY Tryz.prog ops hp ⟨dst, .build 24 #[(0, x), (1, y)], ty, ps, af, g⟩ fr (ZMX [dI n, d1]) := SY.val fun {I w a} ho => by
 have h1 : a.eval x = .int .i64 n := hx.get (by simp [Op.operands]) ho
 have h2 := hy.get (by simp [Op.operands]) ho
 obtain ⟨ad', m', c', hv'⟩ := hd1 _ _ _ h2
 rw [hv'] at h2
 refine ⟨.agg #[.int .i64 n, .slice ad' m' c'], ?_, [.int .i64 n, .slice ad' m' c'], rfl, rfl, fun c hc => ?_, fun k c e hc he => ?_⟩
 ·unfold execOp
  simp only [List.map_toArray, List.map_cons, List.map_nil, h1, hv', Sem.run_bind, clT.mkp, Result.andThen_ok, Sem.run_pure]
 ·simp at hc; rcases hc with rfl | rfl <;> rfl
 ·match k, hc, he with
  | 0, hc, he => cases hc; cases he; rfl
  | 1, hc, he => cases hc; cases he; exact h2
theorem ZOE (n : Int) (w : World) : (Instr.build 24 #[(0, .int .i64 n)]).run Tryz.prog w = .ok (.agg #[.int .i64 n, .slice none 0 0]) w := by go_simp
theorem ZNZ (w : World) : (Instr.build 24 #[]).run Tryz.prog w = .ok (.agg #[.int .i64 0, .slice none 0 0]) w := by go_simp
theorem ZMv {x : Operand} {n : Int} (hx : OpD fr x (dI n)) : SY Tryz.prog ops hp ⟨dst, .build 24 #[(0, x)], ty, ps, af, g⟩ fr (ZMX [dI n, dX (.slice none 0 0)]) := SY.val fun {I w a} ho => by
 have h1 : a.eval x = .int .i64 n := hx.get (by simp [Op.operands]) ho
 refine ⟨.agg #[.int .i64 n, .slice none 0 0], ?_, [.int .i64 n, .slice none 0 0], rfl, rfl, fun c hc => ?_, fun k c e hc he => ?_⟩
 ·unfold execOp
  simp only [List.map_toArray, List.map_cons, List.map_nil, h1, Sem.run_bind, ZOE, Result.andThen_ok, Sem.run_pure]
 ·simp at hc; rcases hc with rfl | rfl <;> rfl
 ·match k, hc, he with
  | 0, hc, he => cases hc; cases he; rfl
  | 1, hc, he => cases hc; cases he; rfl
theorem ZFm : SY Tryz.prog ops hp ⟨dst, .build 24 #[], ty, ps, af, g⟩ fr (ZMX [dI 0, dX (.slice none 0 0)]) := SY.val fun {I w a} ho => by
 refine ⟨.agg #[.int .i64 0, .slice none 0 0], ?_, [.int .i64 0, .slice none 0 0], rfl, rfl, fun c hc => ?_, fun k c e hc he => ?_⟩
 ·unfold execOp
  simp only [List.map_toArray, List.map_nil, Sem.run_bind, ZNZ, Result.andThen_ok, Sem.run_pure]
 ·simp at hc; rcases hc with rfl | rfl <;> rfl
 ·match k, hc, he with
  | 0, hc, he => cases hc; cases he; rfl
  | 1, hc, he => cases hc; cases he; rfl
theorem is_A {α : Type} {R : Rel α} [Good R] {xs : List α} : ∀ I w v, (dS (Arr R) xs).rd I w v -> ∃ a m c, v = .slice a m c := fun _ _ _ h => by
 obtain ⟨a, c, rfl, _⟩ := (h : Arr R _ _ _ _)
 exact ⟨_, _, _, rfl⟩
theorem strC : StrT Tryz.prog 24 2 := ⟨fun b off i w hi => by
 match i, hi with
 | 0, _ => go_simp
 | 1, _ => go_simp⟩
theorem ZLy {P0 : Nat -> Prop} {B : Nat} {w0 w : World} {α : Type} {R : Rel α} {_gR : Good R} {v : Value} {xs : List α} {eT : TypeId} (hk : ds[k]? = some (dX v)) (hh : Hp P0 B w0 (ZBx b T ds :: ZS v eT R xs :: hp) w) : Hp P0 B w0 (ZBx b T (ds.set k (dS (Arr R) xs)) :: hp) w /\ ∀ (d : Dat) (u : Value), d.rd (Imm P0 B (ZBx b T ds :: ZS v eT R xs :: hp)) w u -> d.rd (Imm P0 B (ZBx b T (ds.set k (dS (Arr R) xs)) :: hp)) w u := by
 obtain ⟨hh1, hI1⟩ := hh.perm (List.Perm.swap _ _ _)
 have hA : Arr R (Imm P0 B (ZBx b T ds :: hp)) w v xs := ZBv hh1
 have hh2 := hh1.drop
 have hgr : w.grownBy w (ZBx b T ds).blk := ⟨rfl, rfl, rfl, Nat.le_refl _, fun _ _ _ => rfl⟩
 obtain ⟨cs, c1, c2, c3, c4⟩ := hh2.ok (ZBx b T ds) (by simp)
 have hkl := (List.getElem?_eq_some_iff.1 hk).1
 have hkc : k < cs.length := by omega
 have hv : cs[k] = v := c4 k _ _ (List.getElem?_eq_getElem hkc) hk
 have hok : (ZBx b T (ds.set k (dS (Arr R) xs))).ok (fun j => Imm P0 B (ZBx b T ds :: hp) j /\ j < w.heap.size) w := by
  refine ⟨cs, c1, by simp [c2], c3, fun j c e hc he => ?_⟩
  rw [List.getElem?_set] at he
  by_cases hjk : k = j
  ·rw [if_pos hjk, if_pos hkl] at he
   cases he
   subst hjk
   rw [List.getElem?_eq_getElem hkc] at hc
   cases hc
   rw [hv]
   exact (dS (Arr R) xs).bound hA
  ·rw [if_neg hjk] at he
   exact e.bound (c4 j c e hc he)
 exact ⟨hh2.write hgr (.inl rfl) hok, fun d u hd => Z9 (o := ZBx b T ds) (o' := ZBx b T (ds.set k (dS (Arr R) xs))) hgr (.inl rfl) (d.weak hd fun j hj => Imm.sub j ((hI1 j).1 hj))⟩
theorem ZJp {c : Code} {α : Type} {R : Rel α} {_gR : Good R} {v : Value} {xs : List α} {eT : TypeId} (hk : ds[k]? = some (dX v)) (h : WC P Q c fr (ZBx b T (ds.set k (dS (Arr R) xs)) :: hp)) : WC P Q c fr (ZBx b T ds :: ZS v eT R xs :: hp) := WC.of fun P0 B w0 w a hh hf => by
 obtain ⟨h1, h2⟩ := ZLy hk hh
 exact h.on h1 (hf.mono fun d u hd => h2 d u hd)
theorem Z0 {x i : Operand} {t e : TypeId} {z : Value} {bytes : Nat} (E : ElT P t e 1 z bytes false) {α : Type} {R : Rel α} {_gR : Good R} {xs : List α} {k : Nat} {v : α} (hk : k < xs.length) (hv : xs[k] = v) (hx : OpD fr x (dS (Arr R) xs)) (hi : OpD fr i (dI (k : Int))) :
  SY P ops hp ⟨dst, .indexAddr t x i, ty, ps, af, g⟩ fr (dP 1 false (dS R v)) := hv ▸ ZAy E hx hi hk
end
end
section
open Go.RowKit
def ArrG {α : Type} (R : Rel α) : Rel (List α) := fun P w v xs => Arr R P w v xs /\ ∃ a, v = .slice a xs.length xs.length
instance {α : Type} (R : Rel α) [Good R] : Good (ArrG R) where
 weak := fun ⟨h, k⟩ q => ⟨Good.weak (R := Arr R) h q, k⟩
 move := fun ⟨h, k⟩ q => ⟨Good.move (R := Arr R) h q, k⟩
 bound := fun ⟨h, k⟩ => ⟨Good.bound (R := Arr R) h, k⟩
section
variable {P : Program} {ops : Array Oper} {hp : List HObj} {o : Oper} {fr : List Dat} {d : Dat} {Q : ZAb} {rest : List Oper}
variable {dst : Option Tmp} {ty : TypeId} {ps : String} {af : Array Edge} {g : Option (Nat × Bool)}
variable {t e : TypeId} {bytes : Nat} {z : Value} {ag : Bool}
theorem ZJI (E : ElT P t e 1 z bytes ag) {w : World} {ad : Option Addr} {len cap h : Nat} (h2 : h ≤ cap) :
  (Instr.sliceAt t (.slice ad len cap) none (some (.int .i64 (h : Int))) (some (.int .i64 (h : Int)))).run P w = .ok (.slice (if h = 0 then ad else ad.map (·.add 0)) h h) w := by
 obtain ⟨i, hi', hz, hs, hb⟩ := info_parts E.info
 have a2 : (0 : Int) ≤ h /\ (h : Int) ≤ (cap : Nat) := by omega
 simp [Instr.sliceAt, Instr.slice, run_underlying E.und, Instr.sliceBounds, Instr.sliceBound, asIntOf, sizeOf, typeInfo, hi', hs, h2]
theorem SY.full3 {x y y' : Operand} (E : ElT P t e 1 z bytes ag) {α : Type} {R : Rel α} {_gR : Good R} {xs : List α} {j j' : Int} (hx : OpD fr x (dS (Arr R) xs)) (hy : OpD fr y (dI j)) (hj : j = (xs.length : Int)) (hy' : OpD fr y' (dI j')) (hj' : j' = (xs.length : Int)) :
  SY P ops hp ⟨dst, .slice t x none (some y) (some y'), ty, ps, af, g⟩ fr (dS (ArrG R) xs) := SY.val fun {I w a} ho => by
 have h1 : Arr R I w (a.eval x) xs := hx.get (by simp [Op.operands]) ho
 have h2 : a.eval y = .int .i64 (xs.length : Int) := hj ▸ hy.get (by simp [Op.operands]) ho
 have h3 : a.eval y' = .int .i64 (xs.length : Int) := hj' ▸ hy'.get (by simp [Op.operands]) ho
 have h1' := h1
 obtain ⟨ad, cap, hv, c1, c2, c3⟩ := h1
 have hr := ZJI (w := w) (ad := ad) (len := xs.length) E c1
 refine ⟨.slice (if xs.length = 0 then ad else ad.map (·.add 0)) xs.length xs.length, ?_, ?_⟩
 ·unfold execOp
  simp only [hv, h2, h3, Option.map_none, Option.map_some, Sem.run_bind, hr, Result.andThen_ok, Sem.run_pure]
 ·refine ⟨⟨_, _, rfl, Nat.le_refl _, by omega, fun k hk => ?_⟩, _, rfl⟩
  obtain ⟨u, b, off, r1, r2, rfl, r4, r5⟩ := c3 k hk
  refine ⟨u, b, off, r1, r2, ?_, r4, r5⟩
  rw [if_neg (by omega)]
  simp [Addr.add_lit]
theorem ZJi {s y : Operand} (E : ElT P t e 1 z bytes ag) {α : Type} {R : Rel α} {_gR : Good R} {xs ys : List α} (hs : OpD fr s (dS (ArrG R) xs)) (hy : OpD fr y (dS (Arr R) ys)) (hy0 : 0 < ys.length) (hby : 0 < bytes) (hlen : (xs.length + ys.length) * bytes ≤ 140737488355328) :
  SY P ops hp ⟨dst, .call { callee := .builtin .append, args := #[s, y], argTypes := #[t, t] }, ty, ps, af, g⟩ fr (dS (Arr R) (xs ++ ys)) := ZAm fun {P0 B w0 w a} hh ho => by
 obtain ⟨h1, a1, hv1⟩ := hs.get (by simp [Op.operands, Call.operands]) ho
 have h2 : Arr R _ w (a.eval y) ys := hy.get (by simp [Op.operands, Call.operands]) ho
 obtain ⟨i, hi, hz, hsz, hb⟩ := info_parts E.info
 have hm : xs.length + ys.length ≤ maxLen := by
  have : (xs.length + ys.length) * 1 ≤ (xs.length + ys.length) * bytes := Nat.mul_le_mul_left _ hby
  simp only [maxLen]; omega
 have h1' := h1
 rw [hv1] at h1'
 have fin : ∀ v' w', (Builtin.append_ #[t, t] ty #[a.eval s, a.eval y]).run P w = .ok v' w' -> Ext w w' -> Arr R (Imm P0 B hp) w' v' (xs ++ ys) -> ∃ v w', (execOp a.eval ⟨dst, .call { callee := .builtin .append, args := #[s, y], argTypes := #[t, t] }, ty, ps, af, g⟩).run P w = .ok (.value v) w' /\ Ext w w' /\ (dS (Arr R) (xs ++ ys)).rd (Imm P0 B hp) w' v := by
  intro v' w' hr hx hd
  refine ⟨v', w', ?_, hx, hd⟩
  unfold execOp
  simp only [resolve, invoke, builtin, List.map_toArray, List.map_cons, List.map_nil, Sem.run_bind, Sem.run_pure, Result.andThen_ok, hr]
 have h2' := h2
 obtain ⟨ad2, cap2, hv2, q1, q2, q3⟩ := h2
 have h0 : ys ≠ [] := fun h => by rw [h] at hy0; exact absurd hy0 (Nat.lt_irrefl 0)
 cases ad2 with
 | none =>
  obtain ⟨_, _, _, _, _, hc, _⟩ := q3 0 (List.length_pos_iff.2 h0)
  cases hc
 | some ad2 =>
  rw [hv2] at h2'
  obtain ⟨n1, nl, nc, ns, ne⟩ := ZEO h2'
  have key : ∃ (o1 : List Value) (v' : Value) (w' : World), o1.length = xs.length /\ (∀ u ∈ o1, u.oneCell' = true) /\ (∀ (k : Nat) (h : k < o1.length) (h' : k < xs.length), R (Imm P0 B hp) w o1[k] xs[k]) /\ (Builtin.append_ #[t, t] ty #[a.eval s, a.eval y]).run P w = .ok v' w' /\ w'.ownsRow w.heap.size e 1 v' (xs.length + ys.length) (o1 ++ n1) /\ w.grownBy w' none := by
   cases a1 with
   | none =>
    have hx0 : xs = [] := by
     obtain ⟨ad0, cap0, hvv, _, _, d3⟩ := h1'
     cases hvv
     cases xs with
     | nil => rfl
     | cons x xs => obtain ⟨_, _, _, _, _, hc, _⟩ := d3 0 (by simp); cases hc
    subst hx0
    obtain ⟨v', w', hr, r1, r2, r3⟩ := run_append_own_at (P := P) w w.heap.size t ty e i z 1 bytes E.und hi hz hsz hb E.zs Nat.one_pos (.slice none 0 0) 0 [] (World.ownsRow_nil w _ e 1) ad2 ys.length cap2 n1 (by omega) nc ns (by simpa using hm) (by simpa using hlen) (Nat.le_refl _)
    exact ⟨[], v', w', rfl, (fun u hu => by cases hu), (fun k h => absurd h (Nat.not_lt_zero k)), by rw [hv1, hv2]; exact hr, by simpa using r1, r2⟩
   | some a1 =>
    obtain ⟨o1, ol, oc, os, oe⟩ := ZEO h1'
    obtain ⟨v', w', hr, hown, hgr⟩ := run_append_arg_grows (P := P) w t ty e i z 1 bytes E.und hi hz hsz hb E.zs Nat.one_pos a1 xs.length xs.length o1 (by rw [ol, Nat.mul_one]) oc ad2 ys.length cap2 n1 (by rw [nl, Nat.mul_one]) nc (by omega) hm hlen
    exact ⟨o1, v', w', ol, os, oe, by rw [hv1, hv2]; exact hr, hown, hgr⟩
  obtain ⟨o1, v', w', ol, os, oe, hr, hown, hgr⟩ := key
  have hx : Ext w w' := ⟨hgr.os, hgr.tape, hgr.output, hgr.size, fun k hk => hgr.block k hk (by simp)⟩
  refine fin v' w' hr hx ?_
  obtain ⟨a3, cap3, hv3, d1, d2, d3⟩ := Z4 hown
  refine ⟨a3, cap3, by rw [List.length_append]; exact hv3, by rw [List.length_append]; exact d1, d2, fun k hk => ?_⟩
  have hkl : k < (o1 ++ n1).length := by rw [List.length_append] at hk ⊢; omega
  have h1c : (o1 ++ n1)[k].oneCell' = true := by
   rcases List.mem_append.1 (List.getElem_mem hkl) with h | h
   ·exact os _ h
   ·exact ns _ h
  obtain ⟨gb, ha, _, hB, hc'⟩ := d3 k (o1 ++ n1)[k] (List.getElem?_eq_getElem hkl)
  have hR : R (Imm P0 B hp) w (o1 ++ n1)[k] (xs ++ ys)[k] := by
   by_cases hk1 : k < o1.length
   ·rw [List.getElem_append_left hk1, List.getElem_append_left (by omega)]
    exact oe k hk1 (by omega)
   ·rw [List.getElem_append_right (by omega), List.getElem_append_right (by omega)]
    have := ne (k - o1.length) (by rw [List.length_append] at hkl; omega) (by rw [List.length_append] at hk; omega)
    have e3 : k - o1.length = k - xs.length := by rw [ol]
    simp only [e3] at this ⊢
    exact this
  exact ⟨(o1 ++ n1)[k], gb, 0, Good.ext (R := R) hR hx, h1c, ha, hh.fresh hB, by rw [Nat.zero_add]; exact hc'⟩
end
end
end Go.Proofs.YtjmignmnlpamjaaGreat
