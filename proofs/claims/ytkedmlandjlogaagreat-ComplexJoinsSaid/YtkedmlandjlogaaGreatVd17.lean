/-
  Part 17 of the texts that the claims of this seat lean on: walks of the program's functions by contracts over symbolic frames, and plain laws of what they compute. No condition.
-/
import Derived.Ground.Names8Prog
import Derived.Ground.NamesProg
import Derived.Ground.SlsfProg
import Derived.Shelf.SlSortCmp.NoneTotal
import Derived.Shelf.SlSortCmp.WholeK
import Derived.Shelf.Spec.SlicesGrow
import Derived.Test.YtkedmlandjlogaaGreatProg
import Derived.Test.YtkedmlandjlogaaGreatVd6
import Derived.Test.YtkedmlandjlogaaGreatVd9
import Derived.Test.YtkedmlandjlogaaGreatVd11
import Derived.Test.YtkedmlandjlogaaGreatVd12
import Derived.Test.YtkedmlandjlogaaGreatVd16
set_option linter.unusedVariables false
set_option linter.unusedSimpArgs false
set_option linter.unusedSectionVars false
namespace Go.Proofs.YtkedmlandjlogaaGreat
open Go.RowKit
set_option maxHeartbeats 2000000
set_option linter.unusedSimpArgs false

theorem nil_K {xs : List Vx} {I : Nat → Prop} {w : World} {v : Value} (h : (dS Verts xs).rd I w v) : ∃ a m c, v = .slice a m c ∧ (a = none → m = 0) := by
  obtain ⟨ad, cap, rfl, h1, h2, h0, h3⟩ := (h : ArrK 2 RV I w v xs)
  refine ⟨_, _, _, rfl, fun hn => ?_⟩
  rcases Nat.eq_zero_or_pos xs.length with hz | hz
  · exact hz
  · obtain ⟨us, b, off, _, _, _, had, _, _⟩ := h3 0 hz
    rw [hn] at had; cases had
theorem WL.cutO {P : Program} {ops : Array Oper} {hp : List HObj} {fr : List Dat} {Q : Post} {rest : List Oper} {b cap N k : Nat} {e : TypeId} {xs : List Vx} (hk : k ≤ xs.length) (h : WL P ops Q rest fr (hV b k cap e (xs.take k) :: hp)) : WL P ops Q rest fr (hV b N cap e xs :: hp) := WL.of fun P0 B w0 w a hh hf => by
  obtain ⟨hN, tl, hg, hc1, hc2, hc3⟩ := hV_row.1 (hh.ok (hV b N cap e xs) (by simp))
  have hgr : w.grownBy w (hV b N cap e xs).blk := ⟨rfl, rfl, rfl, Nat.le_refl _, fun _ _ _ => rfl⟩
  have e1 : flatV xs ++ tl = flatV (xs.take k) ++ (flatV (xs.drop k) ++ tl) := by rw [← List.append_assoc, ← flatV_app, List.take_append_drop]
  have hok : (hV b k cap e (xs.take k)).ok (fun j => Imm P0 B (hV b N cap e xs :: hp) j ∧ j < w.heap.size) w :=
    hV_row.2 ⟨by simp; omega, flatV (xs.drop k) ++ tl, by rw [← e1]; exact hg, by simp; omega, hc2, by rw [← e1]; exact hc3⟩
  exact h.on (hh.write hgr (.inl rfl) hok) (hf.mono fun _ _ hd => Hp.written (o' := hV b k cap e (xs.take k)) hgr (.inl rfl) hd)
theorem WL.uptoC {P : Program} {ops : Array Oper} {hp : List HObj} {fr : List Dat} {Q : Post} {rest : List Oper} {dst : Option Tmp} {ty : TypeId} {ps : String} {af : Array Edge} {b cap N l bytes : Nat} {e t : TypeId} {xs : List Vx} {z : Value} {ag : Bool} {x y : Operand} {j : Int}
    (E : ElT P t e 2 z bytes ag) (hx : OpD fr x (dX (.slice (some ⟨b, 0, none⟩) N cap))) (hy : OpD fr y (dI j)) (hj : j = (l : Int)) (hl : l ≤ N) (hm : N ≤ cap) (h0 : 0 < cap) (hk : l ≤ xs.length)
    (h : WL P ops Q rest (setD fr dst (dX (.slice (some ⟨b, 0, none⟩) l cap))) (hV b l cap e (xs.take l) :: hp)) : WL P ops Q ({ dst := dst, op := .slice t x none (some y) none, type := ty, pos := ps, after := af, guard := none } :: rest) fr (hV b N cap e xs :: hp) :=
  WL.op rfl (SY.uptoO E hx hy hj hl hm h0) (WL.cutO hk h)
set_option maxHeartbeats 4000000 in
theorem compact_k (xs : List Vx) (v : Value) (hs : SortV xs) (hl : xs.length ≤ 1000) : InC Tryz.prog 71 [dX v] [hRowK v 37 2 RV xs] fun d' hp2 => ∃ v zs, (Asc zs ∧ ∀ u, u ∈ zs ↔ u ∈ xs) ∧ d' = dX v ∧ hp2 = [hRowK v 37 2 RV zs] := by
  (refine InC.intro Tryz.func71 rfl rfl (fun hp gh hgh => ?_); simp only [Tryz.ntmps71, List.length_cons, List.length_nil, Nat.reduceAdd, Nat.reduceSub, List.replicate_succ, List.replicate_zero, List.cons_append, List.nil_append])
  rcases Nat.lt_or_ge xs.length 2 with hx | hx
  · have ha : Asc xs := by
      match xs, hx with
      | [], _ => simp [Asc]
      | [x], _ => simp [Asc]
      | x :: y :: l, hx => simp at hx; omega
    ((repeat' (first | ((first | apply WL.opG | apply WD.op); (focus (apply SYG.yes; (exact want_none rfl); (first | (apply SY.move <;> (exact oD)) | (apply SY.assign <;> (exact oD)) | (apply SY.load; (exact tD); (exact OpD.t rfl))))); dsimp only [setD, z0, z1]) | refine WL.nil ?_ | refine WC.seqK fun Kx hK => ?_ | (refine hK _ _ ?_; clear hK) | refine WC.region ?_ | ((first | apply WL.opG | apply WD.op); (focus (apply SYG.yes; (exact want_none rfl); ((first | exact yLss | exact yLen | fail); all_goals infer_instance))); dsimp only [setD, z0, z1]) | (apply WC.condD; (exact oD); (all_goals intro h); (all_goals try (exfalso; first | omega | contradiction))) | refine WC.ret ?_ | refine ThenD.r ?_)); all_goals (first | refine WC.id ?_ | refine WL.id ?_ | refine WDs.id ?_ | ((repeat clear hK); (repeat clear Kx))))
    exact ⟨trivial, _, [_], rfl, rfl, _, xs, ⟨ha, fun _ => Iff.rfl⟩, rfl, rfl⟩
  refine WC.openV (by omega) fun b cap hv hc1 hc2 => ?_
  subst hv
  ((repeat' (first | ((first | apply WL.opG | apply WD.op); (focus (apply SYG.yes; (exact want_none rfl); (first | (apply SY.move <;> (exact oD)) | (apply SY.assign <;> (exact oD)) | (apply SY.load; (exact tD); (exact OpD.t rfl))))); dsimp only [setD, z0, z1]) | refine WL.nil ?_ | refine WC.seqK fun Kx hK => ?_ | (refine hK _ _ ?_; clear hK) | refine WC.region ?_ | ((first | apply WL.opG | apply WD.op); (focus (apply SYG.yes; (exact want_none rfl); ((first | exact yLss | exact yLen | fail); all_goals infer_instance))); dsimp only [setD, z0, z1]) | (apply WC.condD; (exact oD); (all_goals intro h); (all_goals try (exfalso; first | omega | contradiction))) | refine WC.skip ?_ | refine WC.block ?_)); all_goals (first | refine WC.id ?_ | refine WL.id ?_ | refine WDs.id ?_ | ((repeat clear hK); (repeat clear Kx))))
  simp only [maxLen] at hc2
  (refine WC.loopU (X := Nat) (fun k => [(3, dI (k : Int)), (2, dA), (4, dA), (5, dA), (10, dA), (11, dA), (12, dA), (13, dA), (14, dA), (15, dA), (16, dA), (17, dA), (18, dA), (19, dA), (20, dA), (21, dA), (22, dA), (23, dA), (24, dA), (25, dA), (26, dA), (27, dA), (28, dA), (29, dA), (30, dA), (31, dA), (32, dA), (33, dA), (34, dA), (35, dA), (36, dA), (37, dA), (38, dA), (39, dA), (40, dA), (41, dA), (42, dA), (43, dA), (44, dA), (45, dA), (46, dA), (47, dA), (48, dA), (49, dA), (50, dA), (51, dA), (52, dA), (53, dA), (54, dA), (55, dA), (56, dA), (57, dA), (58, dA), (59, dA)]) (fun k => (hV b xs.length cap 37 xs :: gh :: hp)) (fun k => xs.length - k) (fun k => 1 ≤ k ∧ k ≤ xs.length ∧ GoodC xs k (xs.take k)) 1 ?start ?frame0 ?objs0 ?round)
  case start => exact ⟨Nat.le_refl _, by omega, good_start (by omega)⟩
  case frame0 => ((try dsimp only [upds, z0, z1]); repeat (first | exact LeF.nil | refine LeF.cons (by first | with_reducible exact Dat.le_any _ | with_reducible exact Dat.le_refl _ | exact le_ii (by omega) | exact Dat.le_nil | exact Dat.le_nilK (by decide) | assumption | exact Dat.le_refl _ | exact le_eq (by simp)) ?_))
  case objs0 => rfl
  case round =>
    rintro k ⟨h1, h2, h3⟩
    dsimp only [upds, z0, z1]
    ((repeat' (first | ((first | apply WL.opG | apply WD.op); (focus (apply SYG.yes; (exact want_none rfl); (first | (apply SY.move <;> (exact oD)) | (apply SY.assign <;> (exact oD)) | (apply SY.load; (exact tD); (exact OpD.t rfl))))); dsimp only [setD, z0, z1]) | refine WL.nil ?_ | refine WD.nil ?_ | refine WC.seqK fun Kx hK => ?_ | (refine hK _ _ ?_; clear hK) | (refine Kont.skip ?_; clear hK) | refine WC.region ?_ | (apply WC.draw; kernel_rfl; kernel_rfl) | ((first | apply WL.opG | apply WD.op); (focus (apply SYG.yes; (exact want_none rfl); ((first | (apply SY.ixO (k := k) elV; exact OpD.t rfl; exact OpD.t rfl; rfl; omega) | (apply SY.ixO (k := k - 1) elV; exact OpD.t rfl; exact OpD.t rfl; omega; omega) | (apply SY.loadO (k := k) tyV; exact OpD.t rfl; exact .head _; omega; omega) | (apply SY.loadO (k := k - 1) tyV; exact OpD.t rfl; exact .head _; omega; omega) | (apply SY.fromO (l := k) elV; exact OpD.t rfl; exact OpD.t rfl; rfl; omega; omega) | exact yLss | exact yEql | exact yAdd | exact ySub | exact yLen | fail); all_goals infer_instance))); dsimp only [setD, z0, z1]) | (apply WC.condD; (exact oD); (all_goals intro h); (all_goals try (exfalso; first | omega | contradiction))) | refine WC.skip ?_ | refine WC.ret ?_ | refine WC.exit ?_ | refine WC.block ?_ | refine ThenD.n ?_)); all_goals (first | refine WC.id ?_ | refine WL.id ?_ | refine WDs.id ?_ | ((repeat clear hK); (repeat clear Kx))))
    · have hk : k < xs.length := by omega
      have hg := good_skip h3 h1 hk h
      (refine WC.loopU (X := Nat × Nat × List Vx) (fun x => [(3, dI (x.2.1 : Int)), (5, dI (x.1 : Int)), (29, dA), (30, dA), (31, dA), (32, dA), (33, dA), (34, dA), (35, dA), (36, dA), (37, dA), (38, dA), (39, dA), (40, dA), (41, dA), (42, dA), (43, dA), (44, dA), (45, dA), (46, dA), (47, dA), (48, dA), (49, dA), (50, dA), (51, dA), (52, dA), (53, dA)]) (fun x => (hV b xs.length cap 37 x.2.2 :: gh :: hp)) (fun x => xs.length - k - x.1) (fun x => 1 ≤ x.1 ∧ k + x.1 ≤ xs.length ∧ x.2.1 + 1 ≤ k + x.1 ∧ x.2.2.length = xs.length ∧ GoodC xs (k + x.1) (x.2.2.take x.2.1) ∧ x.2.2.drop (k + x.1 - 1) = xs.drop (k + x.1 - 1)) (1, k, xs) ?start ?frame0 ?objs0 ?round)
      case start => exact ⟨Nat.le_refl _, by omega, Nat.le_refl _, rfl, hg, rfl⟩
      case frame0 => ((try dsimp only [upds, z0, z1]); repeat (first | exact LeF.nil | refine LeF.cons (by first | with_reducible exact Dat.le_any _ | with_reducible exact Dat.le_refl _ | exact le_ii (by omega) | exact Dat.le_nil | exact Dat.le_nilK (by decide) | assumption | exact Dat.le_refl _ | exact le_eq (by simp)) ?_))
      case objs0 => rfl
      case round =>
        rintro ⟨m, i, ys⟩ ⟨q1, q2, q3, q4, q5, q6⟩
        dsimp only [upds, z0, z1]
        simp only at q1 q2 q3 q4 q5 q6
        have hget : ∀ (j : Nat) (hj : k + m - 1 ≤ j) (hj' : j < xs.length), ys[j]'(by omega) = xs[j] := fun j hj hj' => by
          have e1 := congrArg (fun l => l[j - (k + m - 1)]?) q6
          simp only [List.getElem?_drop] at e1
          rw [show k + m - 1 + (j - (k + m - 1)) = j by omega, List.getElem?_eq_getElem (by omega), List.getElem?_eq_getElem hj'] at e1
          exact Option.some.inj e1
        ((repeat' (first | ((first | apply WL.opG | apply WD.op); (focus (apply SYG.yes; (exact want_none rfl); (first | (apply SY.move <;> (exact oD)) | (apply SY.assign <;> (exact oD)) | (apply SY.load; (exact tD); (exact OpD.t rfl))))); dsimp only [setD, z0, z1]) | refine WL.nil ?_ | refine WD.nil ?_ | refine WC.seqK fun Kx hK => ?_ | (refine hK _ _ ?_; clear hK) | (refine Kont.skip ?_; clear hK) | refine WC.region ?_ | (apply WC.draw; kernel_rfl; kernel_rfl) |  (apply WL.storeO (k := i) tyV; exact OpD.t rfl; exact OpD.t rfl; omega; omega; dsimp only [setD, z0, z1]) |  (apply WL.clearO (k := i) (n := xs.length - i) Tryz.underlying32 Tryz.zeroValue37; exact OpD.t rfl; omega; omega; omega; dsimp only [setD, z0, z1]) |  (apply WL.uptoC (l := i) elV; exact OpD.t rfl; exact OpD.t rfl; rfl; omega; omega; omega; (simp; omega); dsimp only [setD, z0, z1]) | ((first | apply WL.opG | apply WD.op); (focus (apply SYG.yes; (exact want_none rfl); ((first | (apply SY.ixO (k := m) elV; exact OpD.t rfl; exact OpD.t rfl; rfl; omega) | (apply SY.ixO (k := m - 1) elV; exact OpD.t rfl; exact OpD.t rfl; omega; omega) | (apply SY.ixO (k := i) elV; exact OpD.t rfl; exact OpD.t rfl; rfl; omega) | (apply SY.loadO (k := k + m) tyV; exact OpD.t rfl; exact .head _; omega; omega) | (apply SY.loadO (k := k + m - 1) tyV; exact OpD.t rfl; exact .head _; omega; omega) | (apply SY.fromO (l := i) elV; exact OpD.t rfl; exact OpD.t rfl; rfl; omega; omega) | exact yLss | exact yNeq | exact yAdd | exact ySub | exact yLen | fail); all_goals infer_instance))); dsimp only [setD, z0, z1]) | (apply WC.condD; (exact oD); (all_goals intro h); (all_goals try (exfalso; first | omega | contradiction))) | (apply WC.condN; (exact oD); (all_goals intro h); (all_goals try (exfalso; first | omega | contradiction))) | refine WC.skip ?_ | refine WC.ret ?_ | refine WC.exit ?_ | refine WC.block ?_ | refine ThenD.n ?_ | refine ThenD.r ?_ | refine InBlockD.r ?_)); all_goals (first | refine WC.id ?_ | refine WL.id ?_ | refine WDs.id ?_ | ((repeat clear hK); (repeat clear Kx))))
        · have hkm : k + m < xs.length := by omega
          have e1 : ys[k + m]'(by omega) = xs[k + m] := hget _ (by omega) hkm
          have e2 : ys[k + m - 1]'(by omega) = xs[k + m - 1] := hget _ (by omega) (by omega)
          rw [e1, e2] at h
          rw [e1]
          (refine ⟨(m + 1, i + 1, ys.set i xs[k + m]), ?_, by first | omega | (simp only; omega), rfl, ?_⟩; rotate_left; ((try dsimp only [upds, z0, z1]); repeat (first | exact LeF.nil | refine LeF.cons (by first | with_reducible exact Dat.le_any _ | with_reducible exact Dat.le_refl _ | exact le_ii (by omega) | exact Dat.le_nil | exact Dat.le_nilK (by decide) | assumption | exact Dat.le_refl _ | exact le_eq (by simp)) ?_)); (try dsimp only))
          refine ⟨by omega, by omega, by omega, by simpa using q4, ?_, ?_⟩
          · have := good_push hs q5 (by omega) hkm h
            rw [Nat.add_assoc] at this
            have e3 : (ys.set i xs[k + m]).take (i + 1) = ys.take i ++ [xs[k + m]] := by
              rw [take_snoc' (by simp; omega), List.take_set_of_le (by omega)]
              simp
            rw [e3]; exact this
          · rw [show k + (m + 1) - 1 = (k + m - 1) + 1 by omega, ← List.drop_drop, ← List.drop_drop (l := xs)]
            have e4 : (ys.set i xs[k + m]).drop (k + m - 1 + 1) = ys.drop (k + m - 1 + 1) := by rw [List.drop_set_of_lt (by omega)]
            first
              | rw [List.drop_drop, List.drop_drop, e4, ← List.drop_drop, ← List.drop_drop, q6]
              | (simp only [List.drop_drop] at *; rw [e4]; have := congrArg (List.drop 1) q6; simpa [List.drop_drop] using this)
        · have hkm : k + m < xs.length := by omega
          have e1 : ys[k + m]'(by omega) = xs[k + m] := hget _ (by omega) hkm
          have e2 : ys[k + m - 1]'(by omega) = xs[k + m - 1] := hget _ (by omega) (by omega)
          rw [e1, e2] at h
          (refine ⟨(m + 1, i, ys), ?_, by first | omega | (simp only; omega), rfl, ?_⟩; rotate_left; ((try dsimp only [upds, z0, z1]); repeat (first | exact LeF.nil | refine LeF.cons (by first | with_reducible exact Dat.le_any _ | with_reducible exact Dat.le_refl _ | exact le_ii (by omega) | exact Dat.le_nil | exact Dat.le_nilK (by decide) | assumption | exact Dat.le_refl _ | exact le_eq (by simp)) ?_)); (try dsimp only))
          refine ⟨by omega, by omega, by omega, q4, ?_, ?_⟩
          · have := good_skip q5 (by omega) hkm h
            rw [Nat.add_assoc] at this
            exact this
          · have := congrArg (List.drop 1) q6
            rw [List.drop_drop, List.drop_drop] at this
            rw [show k + (m + 1) - 1 = k + m - 1 + 1 by omega]
            exact this
        · have e1 : (ys.take i ++ List.replicate (xs.length - i) ((0, 0) : Vx)).take i = ys.take i := by
            rw [List.take_left' (by simp; omega)]
          rw [e1]
          exact ⟨trivial, _, [_], rfl, rfl, _, _, good_end q5 (by omega), rfl, rfl⟩
    · (refine ⟨k + 1, ?_, by first | omega | (simp only; omega), rfl, ?_⟩; rotate_left; ((try dsimp only [upds, z0, z1]); repeat (first | exact LeF.nil | refine LeF.cons (by first | with_reducible exact Dat.le_any _ | with_reducible exact Dat.le_refl _ | exact le_ii (by omega) | exact Dat.le_nil | exact Dat.le_nilK (by decide) | assumption | exact Dat.le_refl _ | exact le_eq (by simp)) ?_)); (try dsimp only))
      refine ⟨by omega, by omega, ?_⟩
      rw [take_snoc' (by omega)]
      exact good_push hs h3 h1 (by omega) h
    · have e1 : xs.take k = xs := List.take_of_length_le (by omega)
      rw [e1] at h3
      exact ⟨trivial, _, [_], rfl, rfl, _, xs, good_end h3 (by omega), rfl, rfl⟩

end Go.Proofs.YtkedmlandjlogaaGreat
namespace Go.Proofs
open Go.Shelf
def Tryz.sortV_ren : Go.Shelf.Ren := ⟨fun | 6 => 145 | 15 => 190 | 14 => 191 | 28 => 220 | 29 => 221 | 20 => 222 | 21 => 223 | 22 => 224 | 23 => 225 | 24 => 226 | 25 => 227 | 26 => 228 | 27 => 229 | 46 => 247 | 47 => 243 | 48 => 244 | 49 => 248 | 50 => 249 | 57 => 254 | n => n, fun | 22 => 32 | 24 => 37 | 25 => 183 | 3 => 3 | 39 => 219 | 0 => 0 | 53 => 250 | 55 => 252 | 4 => 4 | 46 => 244 | 45 => 243 | 50 => 115 | 5 => 5 | 9 => 9 | 66 => 266 | 70 => 270 | 76 => 276 | 77 => 159 | n => n, fun | n => n⟩
theorem Tryz.sortV : Go.Proofs.SlLaysF0.n6 Tryz.prog Tryz.sortV_ren := {
  mixed := by kernel_rfl
  f6 := ⟨Tryz.f145.name, by decide, Tryz.func145.trans (congrArg some (by kernel_rfl))⟩
  f14 := ⟨Tryz.f191.name, by decide, Tryz.func191.trans (congrArg some (by kernel_rfl))⟩
  f15 := Tryz.func190.trans (congrArg some (by kernel_rfl))
  f20 := ⟨Tryz.f222.name, by decide, Tryz.func222.trans (congrArg some (by kernel_rfl))⟩
  f21 := ⟨Tryz.f223.name, by decide, Tryz.func223.trans (congrArg some (by kernel_rfl))⟩
  f22 := ⟨Tryz.f224.name, by decide, Tryz.func224.trans (congrArg some (by kernel_rfl))⟩
  f23 := ⟨Tryz.f225.name, by decide, Tryz.func225.trans (congrArg some (by kernel_rfl))⟩
  f24 := ⟨Tryz.f226.name, by decide, Tryz.func226.trans (congrArg some (by kernel_rfl))⟩
  f25 := ⟨Tryz.f227.name, by decide, Tryz.func227.trans (congrArg some (by kernel_rfl))⟩
  f26 := ⟨Tryz.f228.name, by decide, Tryz.func228.trans (congrArg some (by kernel_rfl))⟩
  f27 := ⟨Tryz.f229.name, by decide, Tryz.func229.trans (congrArg some (by kernel_rfl))⟩
  f28 := Tryz.func220.trans (congrArg some (by kernel_rfl))
  f29 := Tryz.func221.trans (congrArg some (by kernel_rfl))
  f46 := ⟨Tryz.f247.name, by decide, Tryz.func247.trans (congrArg some (by kernel_rfl))⟩
  f47 := Tryz.func243.trans (congrArg some (by kernel_rfl))
  f48 := Tryz.func244.trans (congrArg some (by kernel_rfl))
  f49 := ⟨Tryz.f248.name, by decide, Tryz.func248.trans (congrArg some (by kernel_rfl))⟩
  f50 := ⟨Tryz.f249.name, by decide, Tryz.func249.trans (congrArg some (by kernel_rfl))⟩
  f57 := ⟨Tryz.f254.name, by decide, Tryz.func254.trans (congrArg some (by kernel_rfl))⟩
  t0 := Tryz.underlying0
  a0 := Tryz.isAgg0
  z0 := Tryz.sizeOf0
  v0 := Tryz.zeroValue0
  t3 := Tryz.underlying3
  a3 := Tryz.isAgg3
  z3 := Tryz.sizeOf3
  v3 := Tryz.zeroValue3
  t4 := Tryz.underlying4
  a4 := Tryz.isAgg4
  z4 := Tryz.sizeOf4
  v4 := Tryz.zeroValue4
  t5 := Tryz.underlying5
  a5 := Tryz.isAgg5
  z5 := Tryz.sizeOf5
  v5 := Tryz.zeroValue5
  t9 := Tryz.underlying9
  a9 := Tryz.isAgg9
  z9 := Tryz.sizeOf9
  v9 := Tryz.zeroValue9
  t22 := Tryz.underlying32
  a22 := Tryz.isAgg32
  z22 := Tryz.sizeOf32
  v22 := Tryz.zeroValue32
  t25 := Tryz.underlying183
  a25 := Tryz.isAgg183
  z25 := Tryz.sizeOf183
  v25 := Tryz.zeroValue183
  t39 := Tryz.underlying219
  a39 := Tryz.isAgg219
  z39 := Tryz.sizeOf219
  v39 := Tryz.zeroValue219
  t45 := Tryz.underlying243
  a45 := Tryz.isAgg243
  z45 := Tryz.sizeOf243
  v45 := Tryz.zeroValue243
  t46 := Tryz.underlying244
  a46 := Tryz.isAgg244
  z46 := Tryz.sizeOf244
  v46 := Tryz.zeroValue244
  t50 := Tryz.underlying115
  a50 := Tryz.isAgg115
  z50 := Tryz.sizeOf115
  v50 := Tryz.zeroValue115
  t53 := Tryz.underlying250
  a53 := Tryz.isAgg250
  z53 := Tryz.sizeOf250
  v53 := Tryz.zeroValue250
  t55 := Tryz.underlying252
  a55 := Tryz.isAgg252
  z55 := Tryz.sizeOf252
  v55 := Tryz.zeroValue252
  t66 := Tryz.underlying266
  a66 := Tryz.isAgg266
  z66 := Tryz.sizeOf266
  v66 := Tryz.zeroValue266
  t70 := Tryz.underlying270
  a70 := Tryz.isAgg270
  z70 := Tryz.sizeOf270
  v70 := Tryz.zeroValue270
  t76 := Tryz.underlying276
  a76 := Tryz.isAgg276
  z76 := Tryz.sizeOf276
  v76 := Tryz.zeroValue276
  t77 := Tryz.underlying159
  a77 := Tryz.isAgg159
  z77 := Tryz.sizeOf159
  v77 := Tryz.zeroValue159 }
end Go.Proofs
namespace Go.Proofs.YtkedmlandjlogaaGreat
open Go.RowKit Go.Sort Go.Shelf

theorem swoV : SWO (ltOf cmpV) where
  irrefl x := by simp [ltOf, cmpV_eq.2 (rfl : x = x)]
  trans x y z h h' := by
    simp only [ltOf, decide_eq_true_eq] at *
    exact cmpV_trans h h'
  ntrans x y z h h' := by
    simp only [ltOf, decide_eq_false_iff_not] at *
    intro hc
    rcases cmpV_cases x y with k | k | k
    · omega
    · have := cmpV_trans (a := y) (b := x) (c := z) (by omega) hc
      exact h' this
    · exact h' (k.2.2 ▸ hc)
theorem flat_list {d : Array Vx} : (flatK encV 2 d).toList = (d.toList.map encV).flatten := by
  apply List.ext_getElem?
  intro t
  have hl : ∀ u ∈ d.toList.map encV, u.length = 2 := fun u hu => by obtain ⟨x, _, rfl⟩ := List.mem_map.1 hu; rfl
  have hlen : ((d.toList.map encV).flatten).length = d.size * 2 := by
    rw [List.length_flatten]
    have : (List.map List.length (d.toList.map encV)) = List.replicate d.size 2 := by
      rw [List.eq_replicate_iff]
      refine ⟨by simp, fun b hb => ?_⟩
      obtain ⟨u, hu, rfl⟩ := List.mem_map.1 hb
      exact hl u hu
    rw [this]; simp
  by_cases ht : t < d.size * 2
  · have h1 : t / 2 < (d.toList.map encV).length := by simp; omega
    have h2 : t % 2 < 2 := Nat.mod_lt _ (by decide)
    have h3 : ((d.toList.map encV)[t / 2]'h1)[t % 2]? = some ((encV (d[t / 2]'(by omega)))[t % 2]'(by simp [encV]; omega)) := by
      simp
    have h4 := flatten_get hl h1 h3
    have h5 : t / 2 * 2 + t % 2 = t := by omega
    rw [h5] at h4
    rw [h4]
    have h6 := get_flatK encV 2 d t ht
    rw [Array.getElem?_toList]
    have h7 : t < (flatK encV 2 d).size := by simp; omega
    rw [getElem!_pos _ t h7, getElem!_pos d (t / 2) (by omega), getElem!_pos _ (t % 2) (by simp [encV]; omega)] at h6
    rw [Array.getElem?_eq_getElem h7, h6]
  · rw [List.getElem?_eq_none (by simp; omega), List.getElem?_eq_none (by omega)]
section
variable {w : World} {g n cap : Nat} {os : Array Obj} {cur : Array Value} {e : TypeId} {fz : Nat × Nat}
theorem holds_of_row {F : Array Value} (hb : w.heap[g]? = some (.cells cur e (0, 0))) (ht : cur.toList.take F.size = F.toList) : Holds id w g 0 F := by
  intro j hj
  refine ⟨?_, by simp [World.frozen?, hb]⟩
  have h1 : (cur.toList.take F.size)[j]? = F.toList[j]? := by rw [ht]
  rw [List.getElem?_take_of_lt hj] at h1
  simp only [World.cell?, hb, Nat.zero_add]
  simp only [Option.isSome_none, Bool.false_eq_true, if_false]
  rw [← Array.getElem?_toList, h1, getElem!_pos _ j hj]
  simp [hj]
theorem heap_sortedF (F : Array Value) (hb : w.heap[g]? = some (.cells cur e fz)) :
    (grow (putRow id (Sort.ahead w n) g 0 F) os).heap[g]? = some (.cells (putCells id 0 F cur) e fz) := by
  have hg : g < w.heap.size := (Array.getElem?_eq_some_iff.1 hb).1
  rw [heap_grow_old _ _ (by simpa using hg)]
  simp [putRow, mapBlock, Sort.ahead, Array.getElem?_modify, hb, onCells]
theorem grownBy_sortedF (F : Array Value) : w.grownBy (grow (putRow id (Sort.ahead w n) g 0 F) os) (some g) := by
  refine ⟨rfl, rfl, rfl, by simp, fun k hk hne => ?_⟩
  rw [heap_grow_old _ _ (by simpa using hk)]
  have : g ≠ k := fun e => hne (by rw [e])
  simp [putRow, mapBlock, Sort.ahead, Array.getElem?_modify, this]
theorem take_putCellsF (cur F : Array Value) (h : F.size ≤ cur.size) : (putCells id 0 F cur).toList.take F.size = F.toList := by
  apply List.ext_getElem?
  intro j
  by_cases hj : j < F.size
  · rw [List.getElem?_take_of_lt hj, Array.getElem?_toList]
    simp [putCells, hj, show j < cur.size by omega]
  · rw [List.getElem?_take_eq_none (by omega), List.getElem?_eq_none (by simp; omega)]
end
section
variable {ops : Array Oper} {hp : List HObj} {fr : List Dat} {Q : Post} {rest : List Oper} {dst : Option Tmp} {ty : TypeId} {ps : String} {af : Array Edge}
theorem WL.sortVG {cf : FuncId} (hce : Enters Tryz.prog cf) (hcx : ∀ (x y : Vx) (w : World), Calls Tryz.prog cf #[.agg #[.int .i64 x.1, .int .i64 x.2], .agg #[.int .i64 y.1, .int .i64 y.2]] w fun e w' => e = .returned (.int .i64 (cmpV x y)) ∧ ∃ q os', w' = Go.Sort.grow (w.drewN q) os') {x : Operand} {v : Value} {e : TypeId} {xs : List Vx} {ats : Array TypeId} (hx : OpD fr x (dX v)) (hlen : xs.length < 4611686018427387904)
    (h : ∀ ys : List Vx, ys.Perm xs → ys.Pairwise (fun a b => ¬ cmpV b a < 0) → WL Tryz.prog ops Q rest (setD fr dst dA) (hRowK v e 2 RV ys :: hp)) :
    WL Tryz.prog ops Q ({ dst := dst, op := .call { callee := .value (.func 145), args := #[x, .func cf], argTypes := ats }, type := ty, pos := ps, after := af, guard := none } :: rest) fr (hRowK v e 2 RV xs :: hp) := by
  refine WL.of fun P0 B w0 w a hh hf => ?_
  have hok := hh.ok (hRowK v e 2 RV xs) (by simp)
  obtain ⟨us, h1, h2, h0, h3, h4⟩ := hok
  have hus := us_encV h1 h4
  subst hus
  have hev : a.eval x = v := hx.ev hf
  obtain ⟨hfl, hv⟩ := h3
  by_cases hne0 : xs = []
  · subst hne0
    have hv0 : ∃ p cap, v = .slice p 0 cap := by
      rcases hv with ⟨hv, _⟩ | ⟨g, cap, cur, hv, _⟩
      · exact ⟨_, _, hv⟩
      · exact ⟨_, _, hv⟩
    obtain ⟨p, cap, hv0⟩ := hv0
    have hcon := AnyF.slices_SortFunc_none (P := Tryz.prog) (ρ := Tryz.sortV_ren) Tryz.sortV p cap (.func (.func cf) #[] #[]) w
    change Calls Tryz.prog 145 _ _ _ at hcon
    have hrun : (execOp a.eval { dst := dst, op := .call { callee := .value (.func 145), args := #[x, .func cf], argTypes := ats }, type := ty, pos := ps, after := af, guard := none }).run Tryz.prog w = .ok (.enter 145 #[v, .func (.func cf) #[] #[]]) w := by
      unfold execOp
      simp only [resolve]
      have he : (#[x, Operand.func cf] : Array Operand).map a.eval = #[v, .func (.func cf) #[] #[]] := by simp [hev]; rfl
      rw [he]
      simp [Act.eval, Deferred.ofValue, invoke, Tryz.call145]
    refine wpList_plain rfl fun K hK => ?_
    unfold Oper.wp
    rw [hrun, hv0]
    refine hcon.mono fun e' w' ⟨he, hw'⟩ => ?_
    subst he
    subst hw'
    exact hK _ _ ((h [] (List.Perm.refl _) List.Pairwise.nil).on hh (hf.put (d := dA) trivial))
  have hne : 0 < xs.length := List.length_pos_iff.2 hne0
  rcases hv with ⟨_, hz⟩ | ⟨g, cap, cur, hv, hB, hg, hc1, hc2, hc3, hc4⟩
  · omega
  have hgb : g < w.heap.size := (Array.getElem?_eq_some_iff.1 hg).1
  have hF : (flatK encV 2 xs.toArray).toList = (xs.map encV).flatten := by rw [flat_list]
  have hFs : (flatK encV 2 xs.toArray).size = xs.length * 2 := by simp
  have hH : HoldsK encV 2 w g 0 xs.toArray := holds_of_row hg (by rw [hFs, hF]; exact hc4)
  have hcon := AnyQ.slices_SortFunc Tryz.sortV 2 Tryz.isAgg37 Tryz.sizeOf37 encV (fun _ => rfl) (fun x v hv => by simp [encV] at hv; rcases hv with rfl | rfl <;> rfl) cmpV swoV cf #[] g 0 cap xs.toArray w hce
    (fun _ _ _ _ x y => hcx x y _) hH hgb (by simpa using hlen)
  change Calls Tryz.prog 145 _ _ _ at hcon
  subst hv
  have hrun : (execOp a.eval { dst := dst, op := .call { callee := .value (.func 145), args := #[x, .func cf], argTypes := ats }, type := ty, pos := ps, after := af, guard := none }).run Tryz.prog w = .ok (.enter 145 #[.slice (some ⟨g, 0, none⟩) xs.toArray.size cap, .func (.func cf) #[] #[]]) w := by
    unfold execOp
    simp only [resolve]
    have he : (#[x, Operand.func cf] : Array Operand).map a.eval = #[.slice (some ⟨g, 0, none⟩) xs.toArray.size cap, .func (.func cf) #[] #[]] := by simp [hev]; rfl
    rw [he]
    simp [Act.eval, Deferred.ofValue, invoke, Tryz.call145]
  refine wpList_plain rfl fun K hK => ?_
  unfold Oper.wp
  rw [hrun]
  refine hcon.mono fun e' w' ⟨he, d', n, os, hp1, hs, hw'⟩ => ?_
  subst he
  subst hw'
  obtain ⟨q1, _, q3⟩ := hp1
  have hsz : d'.size = xs.length := by simpa using q1
  have hperm : d'.toList.Perm xs := by
    have : xs.toArray.size = d'.size := by simp [hsz]
    rw [this] at q3
    have e1 : d'.extract 0 d'.size = d' := by simp
    have e2 : xs.toArray.extract 0 d'.size = xs.toArray := by rw [hsz]; simp
    rw [e1, e2] at q3
    exact q3
  have hsort : d'.toList.Pairwise (fun a b => ¬ cmpV b a < 0) := by
    rw [List.pairwise_iff_getElem]
    intro i j hi hj hij
    have hi' : i < d'.size := by simpa using hi
    have hj' : j < d'.size := by simpa using hj
    have := hs i j (Nat.zero_le _) hij (by simp; omega)
    rw [getElem!_pos d' i hi', getElem!_pos d' j hj'] at this
    simpa [ltOf] using this
  have hF' : (flatK encV 2 d').toList = (d'.toList.map encV).flatten := flat_list
  have hFs' : (flatK encV 2 d').size = d'.toList.length * 2 := by simp
  have hgr : w.grownBy (sortWorldK encV 2 w g 0 n d' os) (hRowK (.slice (some ⟨g, 0, none⟩) xs.length cap) e 2 RV xs).blk := grownBy_sortedF _
  have hlen' : d'.toList.length = xs.length := by simpa using hsz
  have hok : (hRowK (.slice (some ⟨g, 0, none⟩) xs.length cap) e 2 RV d'.toList).ok (fun k => Imm P0 B (hRowK (.slice (some ⟨g, 0, none⟩) xs.length cap) e 2 RV xs :: hp) k ∧ k < w.heap.size) (sortWorldK encV 2 w g 0 n d' os) := by
    refine ⟨d'.toList.map encV, by simp, fun u hu => ?_, by decide, ⟨?_, .inr ⟨g, cap, putCells _root_.id 0 (flatK encV 2 d') cur, ?_, hB, heap_sortedF _ hg, by omega, hc2, by simp [putCells, hc3], ?_⟩⟩, fun k h h' => ?_⟩
    · obtain ⟨y, _, rfl⟩ := List.mem_map.1 hu
      exact ⟨rfl, by simp [encV, Value.oneCell']⟩
    · rw [← hF', Array.length_toList, hFs']
    · rw [hlen']
    · rw [← hFs', ← hF']
      exact take_putCellsF _ _ (by rw [hFs', hlen', hc3]; exact Nat.mul_le_mul_right _ hc1)
    · show Value.agg _ = _
      rw [List.getElem_map]
      rfl
  exact hK _ _ ((h d'.toList hperm hsort).on (hh.write hgr (.inl rfl) hok) (Fr.put (hf.mono fun _ _ hd => Hp.written (o' := hRowK (.slice (some ⟨g, 0, none⟩) xs.length cap) e 2 RV d'.toList) hgr (.inl rfl) hd) (d := dA) trivial))
theorem WL.sortV {x : Operand} {v : Value} {e : TypeId} {xs : List Vx} {ats : Array TypeId} (hx : OpD fr x (dX v)) (_hne : 0 < xs.length) (hlen : xs.length < 4611686018427387904)
    (h : ∀ ys : List Vx, ys.Perm xs → ys.Pairwise (fun a b => ¬ cmpV b a < 0) → WL Tryz.prog ops Q rest (setD fr dst dA) (hRowK v e 2 RV ys :: hp)) :
    WL Tryz.prog ops Q ({ dst := dst, op := .call { callee := .value (.func 145), args := #[x, .func 151], argTypes := ats }, type := ty, pos := ps, after := af, guard := none } :: rest) fr (hRowK v e 2 RV xs :: hp) :=
  WL.sortVG Tryz.call151 (fun x y w => M.order_x x y w) hx hlen h
end
end Go.Proofs.YtkedmlandjlogaaGreat
namespace Go.Proofs
open Go.Shelf
def Tryz.growV_ren : Go.Shelf.Ren := ⟨fun | 4 => 160 | n => n, fun | 22 => 32 | 25 => 37 | 3 => 3 | 4 => 4 | 9 => 9 | 20 => 20 | 0 => 0 | 2 => 3 | n => n, fun | n => n⟩
theorem Tryz.growV : Go.Proofs.Lays8.n4 Tryz.prog Tryz.growV_ren := {
  mixed := by kernel_rfl
  f4 := ⟨Tryz.f160.name, by decide, Tryz.func160.trans (congrArg some (by kernel_rfl))⟩
  t0 := Tryz.underlying0
  a0 := Tryz.isAgg0
  z0 := Tryz.sizeOf0
  v0 := Tryz.zeroValue0
  t3 := Tryz.underlying3
  a3 := Tryz.isAgg3
  z3 := Tryz.sizeOf3
  v3 := Tryz.zeroValue3
  t4 := Tryz.underlying4
  a4 := Tryz.isAgg4
  z4 := Tryz.sizeOf4
  v4 := Tryz.zeroValue4
  t9 := Tryz.underlying9
  a9 := Tryz.isAgg9
  z9 := Tryz.sizeOf9
  v9 := Tryz.zeroValue9
  t20 := Tryz.underlying20
  a20 := Tryz.isAgg20
  z20 := Tryz.sizeOf20
  v20 := Tryz.zeroValue20
  t22 := Tryz.underlying32
  a22 := Tryz.isAgg32
  z22 := Tryz.sizeOf32
  v22 := Tryz.zeroValue32 }
end Go.Proofs
namespace Go.Proofs.YtkedmlandjlogaaGreat
open Go.RowKit
set_option maxHeartbeats 2000000
set_option linter.unusedSimpArgs false

section
variable {ops : Array Oper} {hp : List HObj} {fr : List Dat} {Q : Post} {rest : List Oper} {dst : Option Tmp} {ty : TypeId} {ps : String} {af : Array Edge}
theorem WL.growV {x : Operand} {n : Nat} {ats : Array TypeId} (hx : OpD fr x (dI (n : Int))) (h0 : 0 < n) (hn : n ≤ 1000)
    (h : ∀ v : Value, WL Tryz.prog ops Q rest (setD fr dst (dX v)) (hRowK v 37 2 RV ([] : List Vx) :: hp)) :
    WL Tryz.prog ops Q ({ dst := dst, op := .call { callee := .value (.func 160), args := #[.const (.slice none 0 0), x], argTypes := ats }, type := ty, pos := ps, after := af, guard := none } :: rest) fr hp := by
  refine WL.of fun P0 B w0 w a hh hf => ?_
  obtain ⟨i, hi', hz, hs, hb⟩ := info_parts elV.info
  have hcon := Any8.slices_Grow_grow Tryz.growV i _ hi' hz (by omega) none 0 0 n [] w (Nat.le_refl _) (by omega) (by rw [hb]; omega) (by omega) (by simp) (fun _ => rfl) (by simp)
  change Calls Tryz.prog 160 _ _ _ at hcon
  have hev : a.eval x = .int .i64 (n : Int) := hx.ev hf
  have hrun : (execOp a.eval { dst := dst, op := .call { callee := .value (.func 160), args := #[.const (.slice none 0 0), x], argTypes := ats }, type := ty, pos := ps, after := af, guard := none }).run Tryz.prog w = .ok (.enter 160 #[.slice none 0 0, .int .i64 n]) w := by
    unfold execOp
    simp only [resolve]
    have he : (#[Operand.const (.slice none 0 0), x] : Array Operand).map a.eval = #[.slice none 0 0, .int .i64 n] := by simp [hev]; rfl
    rw [he]
    simp [Act.eval, Deferred.ofValue, invoke, Tryz.call160]
  refine wpList_plain rfl fun K hK => ?_
  unfold Oper.wp
  rw [hrun]
  refine hcon.mono fun e' w' ⟨he, hw'⟩ => ?_
  subst he
  subst hw'
  have hge := grownCap_ge w (0 + n) 0 37
  have hle := grownCap_le_maxLen w (0 + n) 0 37 (by unfold maxLen; omega)
  have hG : grownCap w (0 + n) 0 (Tryz.growV_ren.t 25) = grownCap w (0 + n) 0 37 := rfl
  rw [hG]
  generalize grownCap w (0 + n) 0 37 = G at hge hle
  have hx2 : Ext w (w.drew.alloc (.cells (([] : List Value).toArray ++ Builtin.zeroCells (Value.agg #[.int .i64 0, .int .i64 0]).cells (0 + n - 0) ++ Builtin.zeroCells (Value.agg #[.int .i64 0, .int .i64 0]).cells (G - (0 + n))) (Tryz.growV_ren.t 25))) := (Ext.refl w).drew.alloc _
  have hb2 : ∀ k, (hRowK (.slice (some ⟨w.heap.size, 0, none⟩) 0 G) 37 2 RV ([] : List Vx)).blk = some k → w.heap.size ≤ k ∧ k < (w.drew.alloc (.cells (([] : List Value).toArray ++ Builtin.zeroCells (Value.agg #[.int .i64 0, .int .i64 0]).cells (0 + n - 0) ++ Builtin.zeroCells (Value.agg #[.int .i64 0, .int .i64 0]).cells (G - (0 + n))) (Tryz.growV_ren.t 25))).heap.size := fun k hk => by
    cases hk
    exact ⟨Nat.le_refl _, by rw [World.size_alloc]; exact Nat.lt_succ_self _⟩
  refine hK _ _ ((h (.slice (some ⟨w.heap.size, 0, none⟩) 0 G)).on (hh.push hx2 hb2 ?_) (Fr.put (hf.mono fun d _ hd => Hp.pushed hx2 (fun k hk => (hb2 k hk).1) hd) rfl))
  refine hV_row.2 ⟨rfl, (([] : List Value).toArray ++ Builtin.zeroCells (Value.agg #[.int .i64 0, .int .i64 0]).cells (0 + n - 0) ++ Builtin.zeroCells (Value.agg #[.int .i64 0, .int .i64 0]).cells (G - (0 + n))).toList, ?_, by simp, by omega, ?_⟩
  · have := alloc_get w.drew (.cells (([] : List Value).toArray ++ Builtin.zeroCells (Value.agg #[.int .i64 0, .int .i64 0]).cells (0 + n - 0) ++ Builtin.zeroCells (Value.agg #[.int .i64 0, .int .i64 0]).cells (G - (0 + n))) (Tryz.growV_ren.t 25))
    rw [flatV_nil, List.nil_append, Array.toArray_toList]
    exact this
  · rw [flatV_nil, List.nil_append]
    simp [Builtin.zeroCells, Value.cells]
    omega
end
theorem allV_two {a b : List Vx} (ha : Asc a) : allV [] (a ++ b) = allV a b := by
  refine asc_ext (asc_allV (by simp [Asc])) (asc_allV ha) fun x => ?_
  rw [mem_allV, mem_allV]; simp
end Go.Proofs.YtkedmlandjlogaaGreat
