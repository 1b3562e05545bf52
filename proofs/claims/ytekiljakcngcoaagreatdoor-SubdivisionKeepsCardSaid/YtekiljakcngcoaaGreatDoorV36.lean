/- Part 36: walks by contracts, and plain laws. -/
import Derived.Test.YtekiljakcngcoaaGreatDoorV35
set_option linter.unusedVariables false
set_option linter.unusedSimpArgs false
set_option linter.unusedSectionVars false
set_option maxRecDepth 100000
set_option maxHeartbeats 4000000
namespace Go.Proofs.YtekiljakcngcoaaGreatDoor
section
open Go.RowKit

theorem ZTb:ElT Tryz.prog 52 39 1 (.slice none 0 0) 24 false:=⟨Tryz.underlying52,by kernel_rfl,Tryz.isAgg39,rfl⟩
theorem ZVb:TyI Tryz.prog 39 1 false:=⟨by kernel_rfl,Tryz.isAgg39⟩
abbrev apI (b:Nat) (xs:List (List Int)) (hs:List HObj):Prop:=∃ sv,hs=[Zh b 52 1 false (dX sv),Zr sv 39 ZCC xs]
theorem tyRo:TyI Tryz.prog 52 1 false:=⟨by kernel_rfl,Tryz.isAgg52⟩
set_option maxRecDepth 100000 in
set_option maxHeartbeats 8000000 in
theorem ZI6 {gf:FuncId} {lb:List Value} {hk:List HObj} {xs:List (List Int)} (he:ZAn Tryz.prog gf) (hS:SeqC Tryz.prog gf lb hk (fun x=>dS ZCC x) xs) (hl:xs.length≤1000000) :
  CallC Tryz.prog 76 ([dX (.slice none 0 0),dX (.func (.func gf) #[] lb.toArray)]++([]:List Value).map dX) hk (fun d hp2=>∃ v,d=dX v/\hp2=Zr v 39 ZCC xs::hk):=⟨fun P0 B w0 hp vs W hh hl0 hv=>by
 refine (callsIn_wide (n:=0)).1 (callsIn_of_wp_marks Tryz.func76 rfl trivial ?_ rfl)
 refine wpIn_wide.2 ?_
 have hf0:=ZBI (m:=11) hl0 hv
 have hsz:vs.toArray.size=2:=by simpa using hl0
 rw [hsz]
 have hnt:Tryz.f76.ntmps=13:=rfl
 rw [hnt]
 simp only [List.length_cons,List.length_nil,Nat.reduceAdd,Nat.reduceSub,List.replicate_succ,List.replicate_zero,List.cons_append,List.nil_append,List.map_nil] at hf0 ⊢
 refine wp_seq (Code.wp_mono ?_ (WC.on (Q:=fun e f q=>e = .normal/\∃ b,f=[dX (.slice none 0 0),dX (.func (.func gf) #[] lb.toArray),dX (.pointer (some ⟨b,0,none⟩)),dX undef,dX (.slice none 0 0),dX undef,dX undef,dX undef,dX undef,dX undef,dX undef,dX undef,dX undef]/\q=[Zh b 52 1 false (dX (.slice none 0 0)),Zr (.slice none 0 0) 39 ZCC []]++(hk++hp)) ?_ hh hf0))
 rotate_left
 ·refine WC.region ?_
  refine ZBU 39 ZCC ?_
  refine ZHb (OpD.t rfl) (ZN rfl) fun b=>?_
  dsimp only [ZA,z0,z1]
  refine WL.op rfl (SY.assign OpD.x) (WL.nil ?_)
  exact ⟨rfl,b,rfl,rfl⟩
 rintro e a1 w1 ⟨f1,q1,⟨rfl,b,rfl,rfl⟩,hh1,hf1⟩
 show Code.wp _ _ _ _ _
 refine wp_seq ?_
 refine wp_seq (Code.wp_mono ?_ (WC.on (Q:=fun e f q=>e = .normal/\f=[dX (.slice none 0 0),dX (.func (.func gf) #[] lb.toArray),dX (.pointer (some ⟨b,0,none⟩)),dX undef,dX (.slice none 0 0),dX undef,dX (.func (.func gf) #[] lb.toArray),dX undef,dX undef,dX undef,dX undef,dX undef,dX undef]/\q=[Zh b 52 1 false (dX (.slice none 0 0)),Zr (.slice none 0 0) 39 ZCC []]++(hk++hp)) ?_ hh1 hf1))
 rotate_left
 ·refine WC.region ?_
  refine WL.op rfl (SY.move (OpD.t rfl)) (WL.nil ?_)
  exact ⟨rfl,rfl,rfl⟩
 rintro e a2 w2 ⟨f2,q2,⟨rfl,rfl,rfl⟩,hh2,hf2⟩
 show Code.wp _ _ _ _ _
 refine wp_block ?_
 refine ZEw (hs0:=[_,_]) (hk:=hk) (hp:=hp) (xs:=xs) (D:=fun x=>dS ZCC x) (apI b) _ (fun x=>[dX (.slice none 0 0),dX (.func (.func gf) #[] lb.toArray),dX (.pointer (some ⟨b,0,none⟩)),dX undef,dX (.slice none 0 0),dS ZCC x,dX (.func (.func gf) #[] lb.toArray),dS ZCC x,dX undef,dX undef,dX undef,dX undef,dX undef]) hh2 hf2 (OpD.t rfl) he hS ⟨_,rfl⟩ (by repeat (first|exact FixF.nil|apply FixF.x)) ?_ ?_ ?_
 ·intro l x q
  refine WR.region rfl (I.WL.op rfl (SY.assign (OpD.t rfl)) (I.WL.nil ⟨rfl,rfl,rfl⟩))
 ·rintro l pre x hs q hlt ⟨sv,rfl⟩
  refine WR.block (WR.region rfl ?_)
  refine I.WL.op rfl (ZJ tyRo (OpD.t rfl) (.head _)) ?_
  dsimp only [ZA,z0,z1,List.cons_append,List.nil_append]
  refine I.WL.op rfl (SY.move (OpD.t rfl)) ?_
  dsimp only [ZA,z0,z1]
  refine I.WL.perm (List.Perm.swap _ _ _) (I.ZM ZTb (OpD.t rfl) (OpD.t rfl) (fun _=>Zt) (by simp) (by simp) (by decide) (by omega) fun v'=>?_)
  dsimp only [ZA,z0,z1]
  refine I.ZB0 (.head _) fun ⟨ad,c,hv'⟩=>?_
  refine I.WL.perm (List.Perm.swap _ _ _) (I.ZAK tyRo (OpD.t rfl) (OpD.t rfl) (ZN (by rw [hv'];rfl)) (I.WL.nil ?_))
  exact ⟨rfl,_,⟨v',rfl⟩,rfl⟩
 ·rintro k hs w3 ⟨sv,rfl⟩ hh3 hrd
  show Code.wp _ _ _ _ _
  have hf3:Fr (Imm P0 B (ZAt k (.deferred (some []))::([Zh b 52 1 false (dX sv),Zr sv 39 ZCC xs]++(hk++hp)))) w3 { tmps:=a2.tmps,defers:=[] } _:=⟨rfl,hf2.size,hrd⟩
  refine wp_seq (wp_region_lit ?_)
  refine ZBb rfl (ZJ tyRo (OpD.t rfl) (.tail _ (.head _))) hh3 hf3 fun a4 w4 hd4 hh4 hf4=>?_
  refine ZBb rfl (SY.assign (OpD.t rfl)) hh4 hf4 fun a5 w5 hd5 hh5 hf5=>?_
  refine wpList_nil ?_
  show Code.wp _ _ _ _ _
  refine wp_ret ?_
  show LeavesInM _ _ _ _ _ _ _ _ _
  rw [hd5,hd4,hf2.defers]
  have hK:w5.heap[k]?=some (.deferred (some [])):=hh5.ok (ZAt k (.deferred (some []))) (by simp)
  refine ⟨by simp,.inl ⟨_,_,rfl,run_takeDeferred hK,_,results_tmp rfl _ _ _,?_⟩⟩
  have hh6:=(Hp.putObj (o':=.deferred none) hh5).drop.drop
  exact ⟨_,dX sv,Zr sv 39 ZCC xs::hk,rfl,⟨sv,rfl,rfl⟩,hh6,hf5.rd 4 _ rfl⟩⟩
theorem ZMk {gf:FuncId} {lb:List Value} {hk:List HObj} {xs:List (List Int)} (he:ZAn Tryz.prog gf) (hS:SeqC Tryz.prog gf lb hk (fun x=>dS ZCC x) xs) (hl:xs.length≤1000000) :
  CallC Tryz.prog 45 ([dX (.func (.func gf) #[] lb.toArray)]++([]:List Value).map dX) hk (fun d hp2=>∃ v,d=dX v/\hp2=Zr v 39 ZCC xs::hk):=by
 (refine ZAD Tryz.func45 rfl rfl (fun hp=>?_);simp only [Tryz.ntmps45,List.length_cons,List.length_nil,List.length_append,List.length_map,Nat.reduceAdd,Nat.reduceSub,List.replicate_succ,List.replicate_zero,List.cons_append,List.nil_append,List.map_cons,List.map_nil,List.append_assoc])
 ((repeat' (first|(apply WL.opN;exact yF;dsimp only [ZA,z0,z1])|refine WL.nil ?_|refine ZC fun Kx hK=>?_|(refine hK _ _ ?_;clear hK)|refine WC.region ?_ |  (refine ZAT (caps:=[]) (ZI6 he hS hl) Tryz.call76 OpD.f (by (exact aD)) ?_;rintro d' hp2 ⟨v,rfl,rfl⟩;dsimp only [ZA,z0,z1,List.cons_append,List.nil_append])|refine WC.ret ?_));all_goals (first|((repeat clear hK);(repeat clear Kx))))
 exact ⟨trivial,_,_::hk,rfl,rfl,v,rfl,rfl⟩


theorem SeqC.map {P:Program} {gf:FuncId} {lb:List Value} {hk:List HObj} {α β:Type} {D:α->Dat} {D':β->Dat} {xs:List α} (h:SeqC P gf lb hk D xs) (g:α->β) (hle:∀ x,(D x).le (D' (g x))):SeqC P gf lb hk D' (xs.map g):=⟨fun l J hY js hj =>
 h.out l (fun pre=>J (pre.map g)) ⟨fun P0 B w0 hp pre js x u W hlt hj hh hu=>by
  have:=hY.out P0 B w0 hp (pre.map g) js (g x) u W (by simpa using hlt) hj hh (hle x _ _ _ hu)
  rw [List.map_append]
  exact this⟩ js (by simpa using hj)⟩
def ZGd (n:Int):List (List Int) × Int:=if n<1\/5<n then ([],2) else ((ZCD (2 ^ n.toNat-1)).map ZAa,0)
theorem ZVC {c:Prop} {d:Dat}:(dIf c d).le d:=fun _ _ _ h=>h.2
set_option maxHeartbeats 4000000 in
theorem ZDM (n:Int):Fn Tryz.prog 19 [dI n] (dT [dS Rows (ZGd n).1,dI (ZGd n).2]):=by
 by_cases hn:n<1\/5<n
 ·have e:ZGd n=([],2):=if_pos hn
  rw [e]
  (refine ZAl Tryz.func19 rfl rfl ?_;simp only [Tryz.ntmps19,List.length_cons,List.length_nil,Nat.reduceAdd,Nat.reduceSub,List.replicate_succ,List.replicate_zero,List.cons_append,List.nil_append])
  ((repeat' (first|(apply WL.opN;exact yF;dsimp only [ZA,z0,z1])|refine WL.nil ?_|refine ZC fun Kx hK=>?_|(refine hK _ _ ?_;clear hK)|refine WC.region ?_|(apply ZS;(focus (first|exact wN|(apply SYG.yes;(exact wY);((first|((first|apply SY.move|apply SY.assign|apply SY.lss|apply SY.gtr) <;> (exact oD))|(apply Zx;(exact oD);(with_reducible rfl);(exact oD))|(apply Z2;(exact oD);(with_reducible rfl);(exact oD))|fail);all_goals infer_instance))));dsimp only [ZA,z0,z1])|((first|refine Zl rfl rfl rfl (fun h=>?_) (fun h=>?_)|refine Zk rfl rfl rfl (fun h=>?_) (fun h=>?_)|refine Zj rfl rfl rfl (fun h=>?_) (fun h=>?_)) <;> (first|(exfalso;first|omega|contradiction)|(dsimp only [z0,z1])))|(apply WC.condT;(exact oD);(with_reducible rfl))|(apply ZE;(exact oD);all_goals (intro h;try exact xD))|refine WC.ret ?_|refine ThenD.r ?_));all_goals (first|((repeat clear hK);(repeat clear Kx))))
  all_goals try (exfalso;first|contradiction|omega)
  all_goals (refine ⟨trivial,⟨_,rfl,?_⟩,_,rfl,?_⟩ <;> exact fD)
 ·have e:ZGd n=((ZCD (2 ^ n.toNat-1)).map ZAa,0):=if_neg hn
  rw [e]
  obtain ⟨m,rfl⟩:=Int.eq_ofNat_of_zero_le (show 0≤n by omega)
  rw [show ((m:Int)).toNat=m from rfl]
  have hpw:∀ n:Fin 6,0<n.val->((2 ^ n.val-1:Nat)≠0/\(2 ^ n.val-1:Nat)<32):=by decide
  obtain ⟨hp0,hp1⟩:=hpw ⟨m,by omega⟩ (by simp only;omega)
  simp only at hp0 hp1
  have hshl:=ZFq ⟨m,by omega⟩
  simp only at hshl
  have hol:=ZFI m (by omega)
  (refine ZAl Tryz.func19 rfl rfl ?_;simp only [Tryz.ntmps19,List.length_cons,List.length_nil,Nat.reduceAdd,Nat.reduceSub,List.replicate_succ,List.replicate_zero,List.cons_append,List.nil_append])
  ((repeat' (first|(apply WL.opN;exact yF;dsimp only [ZA,z0,z1])|refine WL.nil ?_|refine ZC fun Kx hK=>?_|(refine hK _ _ ?_;clear hK)|refine WC.region ?_ |  (refine ZAT (hp1:=[]) (caps:=[]) (ZGc (2 ^ m-1)) Tryz.call46 OpD.f (by (exact aD)) ?_;rintro d' hp2 ⟨vr,rfl,rfl⟩;dsimp only [ZA,z0,z1,List.cons_append,List.nil_append]) |  (refine ZAT (caps:=[]) (ZMk Tryz.call77 ((ZPH (2 ^ m-1) hp0 hp1 vr).map ZAa fun x=>ZVC) (by rw [List.length_map];omega)) Tryz.call45 OpD.f (by (exact aD)) ?_;rintro d' hp2 ⟨v,rfl,rfl⟩;dsimp only [ZA,z0,z1,List.cons_append,List.nil_append])|(apply ZS;(focus (first|exact wN|(apply SYG.yes;(exact wY);((first|(exact ZHZ hshl (by omega) OpD.i (OpD.t rfl))|(refine ZHa (c:=((2 ^ m-1:Nat):Int)) (by omega) (by omega) (OpD.t rfl) OpD.i)|((first|apply SY.move|apply SY.assign|apply SY.lss|apply SY.gtr) <;> (exact oD))|(apply Z2;(exact oD);(with_reducible rfl);(exact oD))|fail);all_goals infer_instance))));dsimp only [ZA,z0,z1])|((first|refine Zl rfl rfl rfl (fun h=>?_) (fun h=>?_)|refine Zk rfl rfl rfl (fun h=>?_) (fun h=>?_)|refine Zj rfl rfl rfl (fun h=>?_) (fun h=>?_)) <;> (first|(exfalso;first|omega|contradiction)|(dsimp only [z0,z1])))|(apply ZE;(exact oD);all_goals (intro h;try exact xD))|refine WC.skip ?_|refine WC.ret ?_));all_goals (first|((repeat clear hK);(repeat clear Kx))))
  all_goals try (exfalso;first|contradiction|omega)
  (refine ⟨trivial,⟨_,rfl,?_⟩,_,rfl,?_⟩ <;> exact fD)
theorem ZOT {n:Nat}:∀ (bl:List Nat) (all:Nat),divN n bl all->∀ b∈bl,b<2 ^ n
 | [],_,_=>fun _ h=>by cases h
 | b::bl,all,h=>fun c hc=>by
  rcases List.mem_cons.1 hc with rfl|hc
  ·exact h.1
  ·exact ZOT bl _ h.2.2 c hc
set_option maxHeartbeats 8000000 in
theorem ZRB (s:List Vx) (l:List Int):Fn Tryz.prog 20 [dS ZI s,dS ZCC l] (dT [dS ZI (ZGO s l).1,dI (ZGO s l).2]):=by
 have hc:=ZGG s
 by_cases h0:ZDC s=0
 ·rw [h0] at hc
  have hs:Z3 s=0:=Classical.byContradiction fun q=>by unfold ZDC at h0;rw [if_pos q] at h0;exact q h0
  have hd:ZAi s=true:=by
   unfold ZDC at h0
   rw [if_neg (by simp [hs])] at h0
   cases h:ZAi s
   ·rw [h] at h0;simp at h0
   ·rfl
  have h8:=ZP.1 hs
  have e:ZGO s l=if ZLj l ((2 ^ s.length-1:Nat):Int)=false then ([],15) else (ZMI s (ZO7 l),0):=by
   unfold ZGO
   rw [if_neg (by simp [hs]),if_neg (by simp [hd])]
  have hshl:=ZFq ⟨s.length,by omega⟩
  simp only at hshl
  have hpos:=Nat.two_pow_pos s.length
  have hp9:(2 ^ s.length:Nat)≤512:=Nat.pow_le_pow_right (n:=2) (by decide) (show s.length≤9 by omega)
  rw [e]
  (refine ZAl Tryz.func20 rfl rfl ?_;simp only [Tryz.ntmps20,List.length_cons,List.length_nil,Nat.reduceAdd,Nat.reduceSub,List.replicate_succ,List.replicate_zero,List.cons_append,List.nil_append])
  (first|refine Ze (t:=1) rfl ZFf fun hl1=>?_|refine Ze (t:=1) rfl ZFe fun hl1=>?_|refine Ze (t:=1) rfl ZQC fun hl1=>?_);simp only [maxLen] at hl1
  (repeat' (first|(apply WL.opN;exact yF;dsimp only [ZA,z0,z1])|refine WL.nil ?_|refine ZC fun Kx hK=>?_|(refine hK _ _ ?_;clear hK)|refine WC.region ?_|(apply ZS;(focus (first|exact wN|(apply SYG.yes;(exact wY);((first|(apply SY.call (hc) Tryz.call47;(exact aD))|(exact ZHZ hshl (by omega) OpD.i (OpD.t rfl))|(refine ZHa (c:=((2 ^ s.length-1:Nat):Int)) (by omega) (by omega) (OpD.t rfl) OpD.i)|((first|apply SY.move|apply SY.assign|apply SY.lss|apply SY.leq|apply SY.neq|apply SY.and|apply SY.andNot) <;> (exact oD))|(apply SY.len;(exact oD);(exact nD);(exact uD))|fail);all_goals infer_instance))));dsimp only [ZA,z0,z1])|(apply WC.condN;(exact oD);all_goals (intro h;try exact xD))|refine WC.skip ?_|refine WC.block ?_))
  all_goals try (exfalso;first|contradiction|omega)
  (refine WC.loopU (X:=Nat × Int) (fun x=>[(21,dI (x.1:Int)),(7,dI x.2),(4,dA),(5,dA),(9,dA),(22,dA),(23,dA),(24,dA),(25,dA),(26,dA),(27,dA),(28,dA),(29,dA),(30,dA),(31,dA),(32,dA),(33,dA),(34,dA),(35,dA),(36,dA),(37,dA)]) (fun x=>[]) (fun x=>l.length-x.1) (fun x=>x.1≤l.length/\ZLj l ((2 ^ s.length-1:Nat):Int)=ZLj (l.drop x.1) x.2) (0,((2 ^ s.length-1:Nat):Int)) ?start ?frame0 ?objs0 ?round)
  case start=>exact ⟨Nat.zero_le _,rfl⟩
  case frame0=>((try dsimp only [Za,z0,z1]);repeat (first|exact LeF.nil|refine ZF (k:=?_)))
  case objs0=>rfl
  case round =>
   rintro ⟨k,r⟩ ⟨k1,k2⟩
   simp only at k1 k2
   dsimp only [Za,z0,z1]
   by_cases hk:k<l.length
   ·rw [List.drop_eq_getElem_cons hk] at k2
    ((repeat' (first|(apply WL.opN;exact yF;dsimp only [ZA,z0,z1])|refine WL.nil ?_|refine ZC fun Kx hK=>?_|(refine hK _ _ ?_;clear hK)|refine WC.region ?_|(apply ZS;(focus (first|exact wN|(apply SYG.yes;(exact wY);((first|((first|apply SY.move|apply SY.assign|apply SY.lss|apply SY.leq|apply SY.neq|apply SY.and|apply SY.andNot) <;> (exact oD))|((first|apply SY.add|apply SY.sub) <;> first|exact oD|omega)|(apply SY.ix;(exact eD);(exact oD);(exact oD);exact kD)|(apply Zx;(exact oD);(with_reducible rfl);(exact oD))|(apply Z2;(exact oD);(with_reducible rfl);(exact oD))|fail);all_goals infer_instance))));dsimp only [ZA,z0,z1])|((first|refine Zl rfl rfl rfl (fun h=>?_) (fun h=>?_)|refine Zk rfl rfl rfl (fun h=>?_) (fun h=>?_)|refine Zj rfl rfl rfl (fun h=>?_) (fun h=>?_)) <;> (first|(exfalso;first|omega|contradiction)|(dsimp only [z0,z1])))|(apply WC.condT;(exact oD);(with_reducible rfl))|(apply ZE;(exact oD);all_goals (intro h;try exact xD))|(apply WC.condN;(exact oD);all_goals (intro h;try exact xD))|refine WC.skip ?_|refine WC.ret ?_|refine WC.block ?_|refine ThenD.n ?_|refine ThenD.r ?_|refine InBlockD.r ?_));all_goals (first|((repeat clear hK);(repeat clear Kx))))
    all_goals try (exfalso;first|contradiction|omega)
    ·have hf:ZLj l ((2 ^ s.length-1:Nat):Int)=false:=by rw [k2];exact if_pos (.inl (by assumption))
     (refine ⟨trivial,⟨_,rfl,?_⟩,_,rfl,?_⟩ <;> (first|refine FinD.i ?_|refine ZAE (by decide) ?_))
     all_goals rw [if_pos hf]
    ·have hf:ZLj l ((2 ^ s.length-1:Nat):Int)=false:=by rw [k2];exact if_pos (.inr (by assumption))
     (refine ⟨trivial,⟨_,rfl,?_⟩,_,rfl,?_⟩ <;> (first|refine FinD.i ?_|refine ZAE (by decide) ?_))
     all_goals rw [if_pos hf]
    ·have hf:ZLj (l[k]::l.drop (k+1)) r=ZLj (l.drop (k+1)) (ZDG r l[k]):=if_neg (by
      rintro (q|q)
      ·exact (show ¬ l[k]≤0 by assumption) q
      ·exact q (by assumption))
     (refine ⟨(k+1,ZDG r l[k]),?_,by first|omega|(simp only;omega),rfl,?_⟩;rotate_left;((try dsimp only [Za,z0,z1]);repeat (first|exact LeF.nil|refine ZF (k:=?_)));(try dsimp only))
     exact ⟨by omega,by rw [k2,hf]⟩
   ·have hkl:k=l.length:=by omega
    rw [hkl,List.drop_length] at k2
    by_cases hr:r=0
    ·have ht:ZLj l ((2 ^ s.length-1:Nat):Int)=true:=by rw [k2];exact decide_eq_true hr
     have hdR:=ZQ2 (n:=s.length) (by omega) l
     rw [ht] at hdR
     obtain ⟨bl,hbl0,hdn⟩:=ZUk (n:=s.length) (by omega) l 0 (Nat.two_pow_pos _) hdR
     have hbl:l=ZAa bl:=hbl0
     have hbb:∀ b∈bl,b<1048576:=fun b hb=>by have:=ZOT bl 0 hdn b hb;omega
     have hfa:=ZOg (fun _=>True) (fun m=>(m:Int)) s bl (by omega) hbb (fun _ _=>trivial)
     have hpl:ZMI s (ZO7 l)=Z5 (fun m=>(m:Int)) s bl:=by rw [hbl];exact congrArg (ZMI s) (ZO8 bl)
     rw [<- hbl] at hfa
     ((repeat' (first|(apply WL.opN;exact yF;dsimp only [ZA,z0,z1])|refine WL.nil ?_|refine ZC fun Kx hK=>?_|(refine hK _ _ ?_;clear hK)|(refine Kont.skip ?_;clear hK)|refine WC.region ?_|(apply ZS;(focus (first|exact wN|(apply SYG.yes;(exact wY);((first|(apply SY.call hfa Tryz.call48;exact ArgsD.cons (OpD.t rfl) (ArgsD.cons (OpD.t rfl) (ArgsD.cons ⟨ZGY Tryz.call49 fun m=>ZL0 ((m.1:Nat):Int)⟩ ArgsD.nil)))|((first|apply SY.move|apply SY.assign|apply SY.lss|apply SY.leq|apply SY.neq|apply SY.and|apply SY.andNot) <;> (exact oD))|fail);all_goals infer_instance))));dsimp only [ZA,z0,z1])|(apply ZE;(exact oD);all_goals (intro h;try exact xD))|(apply WC.condN;(exact oD);all_goals (intro h;try exact xD))|refine WC.skip ?_|refine WC.ret ?_|refine WC.exit ?_));all_goals (first|((repeat clear hK);(repeat clear Kx))))
     all_goals try (exfalso;first|contradiction|omega)
     (refine ⟨trivial,⟨_,rfl,?_⟩,_,rfl,?_⟩ <;> (first|refine FinD.i ?_|refine ZCV ?_))
     all_goals rw [if_neg (by rw [ht];decide)]
     all_goals first|rfl|exact hpl.symm
    ·have hf:ZLj l ((2 ^ s.length-1:Nat):Int)=false:=by rw [k2];exact decide_eq_false hr
     ((repeat' (first|(apply WL.opN;exact yF;dsimp only [ZA,z0,z1])|refine WL.nil ?_|refine ZC fun Kx hK=>?_|(refine hK _ _ ?_;clear hK)|(refine Kont.skip ?_;clear hK)|refine WC.region ?_|(apply ZS;(focus (first|exact wN|(apply SYG.yes;(exact wY);((first|((first|apply SY.move|apply SY.assign|apply SY.lss|apply SY.leq|apply SY.neq|apply SY.and|apply SY.andNot) <;> (exact oD))|fail);all_goals infer_instance))));dsimp only [ZA,z0,z1])|(apply ZE;(exact oD);all_goals (intro h;try exact xD))|(apply WC.condN;(exact oD);all_goals (intro h;try exact xD))|refine WC.ret ?_|refine WC.exit ?_|refine ThenD.r ?_));all_goals (first|((repeat clear hK);(repeat clear Kx))))
     all_goals try (exfalso;first|contradiction|omega)
     (refine ⟨trivial,⟨_,rfl,?_⟩,_,rfl,?_⟩ <;> (first|refine FinD.i ?_|refine ZAE (by decide) ?_))
     all_goals rw [if_pos hf]
 ·have e:ZGO s l=([],ZDC s):=by
   unfold ZGO ZDC
   by_cases h1:Z3 s≠0
   ·rw [if_pos h1,if_pos h1]
   ·rw [if_neg h1,if_neg h1]
    have hd:ZAi s=false:=by
     unfold ZDC at h0
     rw [if_neg h1] at h0
     cases h:ZAi s
     ·rfl
     ·rw [h] at h0;exact absurd rfl h0
    rw [if_pos hd,hd];rfl
  rw [e]
  (refine ZAl Tryz.func20 rfl rfl ?_;simp only [Tryz.ntmps20,List.length_cons,List.length_nil,Nat.reduceAdd,Nat.reduceSub,List.replicate_succ,List.replicate_zero,List.cons_append,List.nil_append])
  ((repeat' (first|(apply WL.opN;exact yF;dsimp only [ZA,z0,z1])|refine WL.nil ?_|refine ZC fun Kx hK=>?_|(refine hK _ _ ?_;clear hK)|refine WC.region ?_|(apply ZS;(focus (first|exact wN|(apply SYG.yes;(exact wY);((first|(apply SY.call (hc) Tryz.call47;(exact aD))|((first|apply SY.move|apply SY.assign|apply SY.lss|apply SY.leq|apply SY.neq|apply SY.and|apply SY.andNot) <;> (exact oD))|fail);all_goals infer_instance))));dsimp only [ZA,z0,z1])|(apply WC.condN;(exact oD);all_goals (intro h;try exact xD))|refine WC.ret ?_|refine ThenD.r ?_));all_goals (first|((repeat clear hK);(repeat clear Kx))))
  all_goals first|(refine ⟨trivial,⟨_,rfl,?_⟩,_,rfl,?_⟩ <;> exact fD)|(exfalso;first|contradiction|omega)
end
end Go.Proofs.YtekiljakcngcoaaGreatDoor
namespace Go.Proofs.YtekiljakcngcoaaGreatDoor.M
section
open Go.RowKit

theorem don_p (x y:Vx):Fn Tryz.prog 60 [dS RV x,dS RV y] (dI (ZA8 x y)):=by
 (refine ZH Tryz.func60 rfl rfl ?_;simp only [Tryz.ntmps60,List.length_cons,List.length_nil,Nat.reduceAdd,Nat.reduceSub,List.replicate_succ,List.replicate_zero,List.cons_append,List.nil_append])
 ((repeat' (first|(apply ZS;(focus (apply SYG.yes;(exact Zc rfl);(first|(apply SY.assign <;> (exact oD))|(apply SY.load;(exact tD);(exact OpD.t rfl)))));dsimp only [ZA,z0,z1])|refine WL.nil ?_|refine ZC fun Kx hK=>?_|(refine hK _ _ ?_;clear hK)|refine WC.region ?_|(apply ZS;(focus (apply SYG.yes;(exact Zc rfl);((first|(apply SY.call (ZJN [x] [y]) Tryz.call61;(exact aD))|(apply SY.buildE;(exact eD);((try simp only [List.map_cons,List.map_nil]);(repeat (first|exact ZR|(apply ZQ;(first|exact OpD.t rfl|exact OpD.i|exact OpD.b|exact OpD.tle rfl (by first|exact ZD|exact ZB (by decide))|exact ⟨ZD⟩|exact ⟨ZB (by decide)⟩)))));rfl;rfl;decide;(intro _;exact Zo);(exact (by simp)))|(apply SY.box;(exact oD);(exact hD))|fail);all_goals infer_instance)));dsimp only [ZA,z0,z1])|refine WC.ret ?_));all_goals (first|((repeat clear hK);(repeat clear Kx))))
 all_goals (rw [ZLf];(refine ⟨trivial,_,rfl,?_⟩;refine FinD.i ?_);try rfl)
theorem don_x (x y:Vx) (w:World):Calls Tryz.prog 60 #[.agg #[.int .i64 x.1,.int .i64 x.2],.agg #[.int .i64 y.1,.int .i64 y.2]] w fun e w'=>e = .returned (.int .i64 (ZA8 x y))/\∃ q os',w'=Go.Sort.grow (w.drewN q) os':=by
 have:=(don_p x y).out (fun _=>True) w [.agg #[.int .i64 x.1,.int .i64 x.2],.agg #[.int .i64 y.1,.int .i64 y.2]] rfl (fun i d hd=>by
  match i with
  | 0=>cases hd;rfl
  | 1=>cases hd;rfl
  | i+2=>simp at hd)
 exact this.mono fun e w' ⟨v,h1,h2,h3⟩=>⟨by rw [h1];exact congrArg _ h3,h2.grow⟩
end
end Go.Proofs.YtekiljakcngcoaaGreatDoor.M
