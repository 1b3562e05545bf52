/- Part 22: walks by contracts, and plain laws. -/
import Derived.Test.YtlgmojhmmbhgfaaGreatDoorVg21
set_option linter.unusedVariables false
set_option linter.unusedSimpArgs false
set_option linter.unusedSectionVars false
set_option maxRecDepth 100000
set_option maxHeartbeats 4000000
namespace Go.Proofs.YtlgmojhmmbhgfaaGreatDoor
section
open Go.RowKit

theorem ZSV (b cap:Nat) (xs:List Vx) (hl:xs.length≤1000):CallC Tryz.prog 65 ([dX (ZRx b cap xs)]++([]:List Value).map dX) [hV b xs.length cap 43 xs] fun d' hp2=>∃ v,d'=dX v/\hp2=[ZV v 43 2 RV xs,hV b xs.length cap 43 xs]:=by
 (refine Z5 Tryz.func65 rfl rfl (fun hp=>?_);simp only [Tryz.ntmps65,List.length_cons,List.length_nil,List.length_append,List.length_map,Nat.reduceAdd,Nat.reduceSub,List.replicate_succ,List.replicate_zero,List.cons_append,List.nil_append,List.map_cons,List.map_nil,List.append_assoc])
 ((repeat' (first|(apply WL.opN;exact yF;dsimp only [ZB,z0,z1])|refine WL.nil ?_|refine ZA fun Kx hK=>?_|(refine hK _ _ ?_;clear hK)|refine WC.region ?_ |  (apply ZCc elV RV (by decide);(intro _;dsimp only [ZB,z0,z1]);all_goals (try infer_instance)) |  (apply ZPj elV;exact OpD.t rfl;exact OpD.t rfl;decide;(simp;omega);(intro _;dsimp only [ZB,z0,z1]))|(apply WL.opN;(focus ((first|(apply ZIT;exact OpD.t rfl;exact ZNo)|fail);all_goals infer_instance));dsimp only [ZB,z0,z1])|(apply Zi;(exact oD);(with_reducible rfl))|refine WC.skip ?_|refine WC.ret ?_));all_goals (first|((repeat clear hK);(repeat clear Kx))))
 exact ⟨trivial,_,[_,_],rfl,rfl,_,rfl,by rw [List.nil_append]⟩

theorem tyFn:TyI Tryz.prog 146 1 false:=⟨by kernel_rfl,Tryz.isAgg146⟩
theorem tyFy:TyI Tryz.prog 83 1 false:=⟨by kernel_rfl,Tryz.isAgg83⟩
theorem tzFn:TyZ Tryz.prog 146 .nilFunc:=⟨by kernel_rfl⟩
abbrev ZNz (v2 v3 v4:Value) (bf:Nat):Value:=.func (.func 116) #[] [v2,v3,v4,.pointer (some ⟨bf,0,none⟩)].toArray
abbrev fromO (k:Nat) (s:List Vx) (l b cap bf:Nat) (v2 v3 v4:Value) (pre:List Vx):List HObj :=
 [hV b pre.length cap 43 pre,ZQ bf 146 1 false (dX (ZNz v2 v3 v4 bf)),ZAC v2 (dP 1 false (dI k)),ZAC v3 (dP 1 false (dX (.func (.yield l) #[] #[]))),ZAC v4 (dP 1 false (dS ZE s))]
theorem ZUE {a b c d e:HObj} {js hp:List HObj}:(a::b::c::d::e::(js++hp)).Perm (js++a::b::c::d::e::hp):=by
 have:(([a,b,c,d,e]++js)++hp).Perm ((js++[a,b,c,d,e])++hp):=List.Perm.append_right _ List.perm_append_comm
 simpa using this
set_option maxRecDepth 100000 in
set_option maxHeartbeats 8000000 in
theorem ZTu (k:Nat) (s:List Vx) (hs:s.length≤100) (hk:k≤100) (l N b cap:Nat) (hcap:k≤cap) (J:List (List Vx)->List HObj->Prop) (hY:YStep Tryz.prog l (fun x=>dS ZE x) J N) (v2 v3 v4:Value) (bf:Nat) :
  ∀ (m i0:Nat) (pre:List Vx) (done:List (List Vx)) (js:List HObj),s.length-i0=m->i0≤s.length->pre.length≤k->J done js->done.length+(Zg (k-pre.length) (s.drop i0)).length≤N ->
  CallC Tryz.prog 116 ([dI (i0:Int),dX (ZRx b cap pre)]++[v2,v3,v4,.pointer (some ⟨bf,0,none⟩)].map dX) (fromO k s l b cap bf v2 v3 v4 pre++js)
   (fun d hp2=>d=dB true/\∃ js',J (done++(Zg (k-pre.length) (s.drop i0)).map (pre ++ ·)) js'/\hp2=fromO k s l b cap bf v2 v3 v4 pre++js'):=by
 intro m
 induction m using Nat.strongRecOn with
 | _ m ih =>
 intro i0 pre done js hm hi0 hpk hj hN
 (refine Z5 Tryz.func116 rfl rfl (fun hp=>?_);simp only [Tryz.ntmps116,List.length_cons,List.length_nil,List.length_append,List.length_map,Nat.reduceAdd,Nat.reduceSub,List.replicate_succ,List.replicate_zero,List.cons_append,List.nil_append,List.map_cons,List.map_nil,List.append_assoc])
 refine ZFv 2 rfl (.tail _ (.tail _ (.head _))) ?_
 refine ZFv 3 rfl (.tail _ (.tail _ (.tail _ (.head _)))) ?_
 refine ZFv 4 rfl (.tail _ (.tail _ (.tail _ (.tail _ (.head _))))) ?_
 dsimp only [z0,z1]
 (repeat' (first |  (refine I.WC.drawW (β:=Value) 2 (fun v=>ZV v 43 2 RV pre::hV b pre.length cap 43 pre::ZQ bf 146 1 false (dX (ZNz v2 v3 v4 bf))::ZAC v2 (dP 1 false (dI k))::ZAC v3 (dP 1 false (dX (.func (.yield l) #[] #[])))::ZAC v4 (dP 1 false (dS ZE s))::(js++hp)) (fun v=>dX v) _ rfl (by kernel_rfl) (by kernel_rfl) ?_;simp only [List.take_succ_cons,List.take_zero,List.drop_succ_cons,List.drop_zero])|((first|apply WL.opN|apply WD.opN);exact yF;dsimp only [ZB,z0,z1])|refine WL.nil ?_|refine ZA fun Kx hK=>?_|(refine hK _ _ ?_;clear hK)|refine WC.region ?_|((first|apply WL.opN|apply WD.opN);(focus ((first|exact ZKZ|exact ZBs|fail);all_goals infer_instance));dsimp only [ZB,z0,z1])|(apply ZC;(exact oD);all_goals (intro h;try exact xD))|refine WC.skip ?_|refine WC.block ?_))
 ·have hpk':pre.length=k:=by omega
  have h0:k-pre.length=0:=by omega
  rw [h0] at hN ⊢
  have hsub:Zg 0 (s.drop i0)=[[]]:=by unfold Zg;rfl
  rw [hsub] at hN ⊢
  (repeat' (first|refine WDs.nil ?_|(apply WDs.op;(focus (intro c;apply ZF;(exact ZR rfl);((first|(apply SY.load;exact tyFy;exact OpD.t rfl)|exact ZEs|fail);all_goals infer_instance)));dsimp only [ZB,z0,z1])))
  refine ⟨ZDU (hp1:=[_]) (H:=fun v=>[ZV v 43 2 RV pre,hV b pre.length cap 43 pre]) (caps:=[]) (ZSV b cap pre (by omega)) Tryz.call65 OpD.f (by (exact aD)) (fun d hp2 ⟨v,h1,h2⟩=>⟨v,h1,h2⟩),fun v=>?_⟩
  dsimp only [ZB,z0,z1]
  refine I.ZHQ (s:=16) rfl ?_
  dsimp only [ZB,z0,z1]
  refine I.WL.perm ZUE (I.WL.yield (pre:=done) (y:=pre) hY (by simp at hN;omega) hj (OpD.t rfl) (OpD.t rfl) fun js' hj'=>I.WL.perm ZUE.symm ?_)
  dsimp only [ZB,z0,z1]
  refine I.WL.op rfl (SY.assign (OpD.t rfl)) ?_
  dsimp only [ZB,z0,z1]
  refine I.WL.nil ?_
  ((repeat' (first|(refine hK _ _ ?_;clear hK)|refine WC.ret ?_|refine ThenD.r ?_));all_goals (first|((repeat clear hK);(repeat clear Kx))))
  exact ⟨trivial,_,_::_::_::_::_::js',rfl,rfl,rfl,js',by rw [h0,hsub];simpa using hj',rfl⟩
 ·have hlt:pre.length<k:=by omega
  obtain ⟨m1,hm1⟩:∃ m1,k-pre.length=m1+1:=⟨k-pre.length-1,by omega⟩
  rw [hm1] at hN ⊢
  (refine WC.loopU (X:=Nat × List (List Vx) × List HObj) (fun x=>[(9,dI (x.1:Int)),(8,dA),(19,dA),(20,dA),(21,dA),(22,dA),(23,dA),(24,dA),(25,dA),(26,dA),(27,dA),(28,dA),(29,dA),(30,dA),(31,dA),(32,dA),(33,dA),(34,dA),(35,dA),(36,dA)]) (fun x=>(hV b pre.length cap 43 pre::ZQ bf 146 1 false (dX (ZNz v2 v3 v4 bf))::ZAC v2 (dP 1 false (dI k))::ZAC v3 (dP 1 false (dX (.func (.yield l) #[] #[])))::ZAC v4 (dP 1 false (dS ZE s))::(x.2.2++hp))) (fun x=>s.length-x.1) (fun x=>i0≤x.1/\x.1≤s.length/\J x.2.1 x.2.2/\x.2.1++(Zg (m1+1) (s.drop x.1)).map (pre ++ ·)=done++(Zg (m1+1) (s.drop i0)).map (pre ++ ·)) (i0,done,js) ?start ?frame0 ?objs0 ?round)
  case start=>exact ⟨Nat.le_refl _,hi0,hj,rfl⟩
  case frame0=>((try dsimp only [ZK,z0,z1]);repeat (first|exact LeF.nil|refine ZD (k:=?_)))
  case objs0=>rfl
  case round =>
   rintro ⟨i,dn,js1⟩ ⟨q1,q2,q3,q4⟩
   simp only at q1 q2 q3 q4
   dsimp only [ZK,z0,z1]
   ((repeat' (first |  (refine WC.drawW (β:=Unit) 9 (fun _=>hV b (pre++[s[i]'(by omega)]).length cap 43 (pre++[s[i]'(by omega)])::ZQ bf 146 1 false (dX (ZNz v2 v3 v4 bf))::ZAC v2 (dP 1 false (dI k))::ZAC v3 (dP 1 false (dX (.func (.yield l) #[] #[])))::ZAC v4 (dP 1 false (dS ZE s))::(js1++hp)) (fun _=>dX (ZRx b cap (pre++[s[i]'(by omega)]))) _ rfl (by kernel_rfl) (by kernel_rfl) ?_;simp only [List.take_succ_cons,List.take_zero,List.drop_succ_cons,List.drop_zero])|((first|apply WL.opN|apply WD.opN);exact yF;dsimp only [ZB,z0,z1])|refine WL.nil ?_|refine ZA fun Kx hK=>?_|(refine hK _ _ ?_;clear hK)|(refine Kont.skip ?_;clear hK)|refine WC.region ?_|((first|apply WL.opN|apply WD.opN);(focus ((first|exact ZCJ|exact ZBs|fail);all_goals infer_instance));dsimp only [ZB,z0,z1])|(apply ZC;(exact oD);all_goals (intro h;try exact xD))|refine WC.skip ?_|refine WC.ret ?_|refine WC.exit ?_|refine WC.block ?_));all_goals (first|refine WDs.id ?_|((repeat clear hK);(repeat clear Kx))))
   ·have hi:i<s.length:=by omega
    (repeat' (first|refine WDs.nil ?_|(apply WDs.op;(focus (intro c;apply ZF;(exact ZR rfl);((first|(apply ZAN;exact tyFn;exact OpD.t rfl;(refine HH.mem ?_ (fun _=>?_) <;> exact .tail _ (.head _)))|(refine ZBC (R:=RV) (_gR:=inferInstance) (k:=i) elV ?_ ?_ hi;exact OpD.t rfl;exact OpD.t rfl)|exact ZEs|exact ZC1|exact ZFT|exact ZCI|fail);all_goals infer_instance)));dsimp only [ZB,z0,z1])))
    refine ⟨ZMi elV (OpD.t rfl) (OpD.t rfl) (by omega),fun _=>?_⟩
    dsimp only [ZB,z0,z1]
    have hd:=ZHG m1 s i hi
    have hlen:=congrArg List.length q4
    simp only [hd,List.length_append,List.length_map] at hlen
    have hk1:k-(pre++[s[i]]).length=m1:=by simp;omega
    have hC:=ih (s.length-(i+1)) (by omega) (i+1) (pre++[s[i]]) dn js1 rfl (by omega) (by simp;omega) q3 (by rw [hk1];omega)
    rw [hk1] at hC
    refine Z8 (hp1:=fromO k s l b cap bf v2 v3 v4 (pre++[s[i]])++js1) hC Tryz.call116 (OpD.t rfl) (by (exact aD)) ?_
    rintro d' hp2 ⟨rfl,js2,hj2,rfl⟩
    dsimp only [ZB,z0,z1,List.cons_append,List.nil_append]
    refine ZJx (k:=pre.length) (by simp) ?_
    rw [List.take_left' rfl]
    ((repeat' (first|((first|apply WL.opN|apply WD.opN);exact yF;dsimp only [ZB,z0,z1])|refine WL.nil ?_|(refine hK _ _ ?_;clear hK)|refine WC.region ?_|((first|apply WL.opN|apply WD.opN);(focus ((first|exact ZMd|exact ZC1|fail);all_goals infer_instance));dsimp only [ZB,z0,z1])|(apply Z7;(exact oD);all_goals (intro h;try exact xD))|refine WC.skip ?_|refine ThenD.n ?_));all_goals (first|((repeat clear hK);(repeat clear Kx))))
    (refine ⟨(i+1,dn++List.map (fun x=>pre++[s[i]]++x) (Zg m1 (List.drop (i+1) s)),js2),?_,by first|omega|(simp only;omega),rfl,?_⟩;rotate_left;((try dsimp only [ZK,z0,z1]);repeat (first|exact LeF.nil|refine ZD (k:=?_)));(try dsimp only))
    refine ⟨by omega,by omega,hj2,?_⟩
    rw [<- q4,hd,List.map_append,List.map_map,List.append_assoc]
    congr 2
    apply List.map_congr_left
    intro x _
    simp
   ·have hi:s.length≤i:=by omega
    have hd:Zg (m1+1) (List.drop i s)=[]:=by rw [List.drop_eq_nil_of_le hi];rfl
    rw [hd] at q4
    simp only [List.map_nil,List.append_nil] at q4
    exact ⟨trivial,_,_::_::_::_::_::js1,rfl,rfl,rfl,js1,by rw [hm1,<- q4];exact q3,rfl⟩
theorem perm2 {a b:HObj} {js hp:List HObj}:(js++a::b::hp).Perm (a::b::(js++hp)):=ZCh.symm
set_option maxRecDepth 100000 in
set_option maxHeartbeats 8000000 in
theorem seq_c (k:Nat) (s:List Vx) (hs:s.length≤100) (hk:k≤100) (vk vs:Value):SeqC Tryz.prog 115 [vk,vs] [ZAC vk (dP 1 false (dI k)),ZAC vs (dP 1 false (dS ZE s))] (fun x=>dS ZE x) (Zg k s):=⟨fun l J hY js hj=>by
 (refine ZFC Tryz.func115 rfl rfl (fun hp=>?_);simp only [Tryz.ntmps115,List.length_cons,List.length_nil,List.length_append,List.length_map,Nat.reduceAdd,Nat.reduceSub,List.replicate_succ,List.replicate_zero,List.cons_append,List.nil_append,List.map_cons,List.map_nil,List.append_assoc])
 refine ZKl perm2 ?_
 (repeat' (first |  (refine ZFu (d:=dP 1 false (dX (.func (.yield l) #[] #[]))) 3 rfl fun v3=>?_;dsimp only [z0,z1]) |  (refine ZFv (d:=dP 1 false (dI k)) 1 rfl (.tail _ (.tail _ (.head _))) ?_;dsimp only [z0,z1];refine WC.drawW (β:=Nat) 2 (fun b=>hV b 0 k 43 []::ZQ bf 146 1 false (dX (ZNz vk v3 vs bf))::ZAC v3 (dP 1 false (dX (.func (.yield l) #[] #[])))::ZAC vk (dP 1 false (dI k))::ZAC vs (dP 1 false (dS ZE s))::(js++hp)) (fun b=>dX (.slice (some ⟨b,0,none⟩) 0 k)) _ rfl (by kernel_rfl) (by kernel_rfl) ?_;simp only [List.take_succ_cons,List.take_zero,List.drop_succ_cons,List.drop_zero])|refine WL.nil ?_|refine ZA fun Kx hK=>?_|(refine hK _ _ ?_;clear hK)|refine WC.region ?_ |  (apply WL.alloc tzFn;exact ZY rfl;(intro bf;dsimp only [ZB,z0,z1])) |  (apply Zw tyFn;exact OpD.t rfl;exact OpD.t rfl;exact ZY rfl;dsimp only [ZB,z0,z1])|((first|apply WL.opN|apply WD.opN);(focus ((first|(apply ZEI;repeat (first|exact ArgsX.nil|(apply ArgsX.cons;exact OpD.t rfl)))|exact ZKY|fail);all_goals infer_instance));dsimp only [ZB,z0,z1])))
 (repeat' (first|refine WDs.nil ?_|(apply WDs.op;(focus (intro c;apply ZF;(exact ZR rfl);((first|(apply ZAN;exact tyFn;exact OpD.t rfl;(refine HH.mem ?_ (fun _=>?_) <;> first|exact .head _|exact .tail _ (.head _)))|exact ZFT|fail);all_goals infer_instance)));dsimp only [ZB,z0,z1])))
 refine ⟨ZPc elV (OpD.t rfl) rfl (by omega) (by simp only [maxLen];omega),fun b=>?_⟩
 dsimp only [ZB,z0,z1]
 have hC:=ZTu k s hs hk l (Zg k s).length b k (Nat.le_refl _) J hY vk v3 vs bf s.length 0 [] [] js rfl (Nat.zero_le _) (Nat.zero_le _) hj (by simp)
 refine WL.perm (((List.Perm.swap _ _ _).cons _).cons _) ?_
 refine Z8 (hp1:=fromO k s l b k bf vk v3 vs []++js) hC Tryz.call116 (OpD.t rfl) (by (exact aD)) ?_
 rintro d' hp2 ⟨rfl,js',hj',rfl⟩
 simp only [List.length_nil,Nat.sub_zero,List.drop_zero,List.nil_append,List.map_id'] at hj'
 dsimp only [ZB,z0,z1,List.cons_append,List.nil_append]
 refine WL.drop (WL.drop (WL.perm (List.Perm.swap _ _ _) (WL.drop (WL.perm ZCh (WL.nil ?_)))))
 exact ⟨trivial,js'++[_,_],by simp,js',hj',rfl⟩⟩
theorem ZSf (k:Nat) (s:List Vx):CallC Tryz.prog 94 ([dS ZE s,dI k]++([]:List Value).map dX) [] (fun d hp2=>∃ vk vs,d=dX (.func (.func 115) #[] [vk,vs].toArray)/\hp2=[ZAC vk (dP 1 false (dI k)),ZAC vs (dP 1 false (dS ZE s))]):=by
 (refine Z5 Tryz.func94 rfl rfl (fun hp=>?_);simp only [Tryz.ntmps94,List.length_cons,List.length_nil,List.length_append,List.length_map,Nat.reduceAdd,Nat.reduceSub,List.replicate_succ,List.replicate_zero,List.cons_append,List.nil_append,List.map_cons,List.map_nil,List.append_assoc])
 ((repeat' (first |  (refine ZFu (d:=dP 1 false (dS ZE s)) 2 rfl fun vs=>?_;dsimp only [z0,z1];refine ZFu (d:=dP 1 false (dI k)) 3 rfl fun vk=>?_;dsimp only [z0,z1])|(apply WL.opN;exact yF;dsimp only [ZB,z0,z1])|refine WL.nil ?_|refine ZA fun Kx hK=>?_|(refine hK _ _ ?_;clear hK)|refine WC.region ?_|(apply WL.opN;(focus ((first|(apply ZEI;repeat (first|exact ArgsX.nil|(apply ArgsX.cons;exact OpD.t rfl)))|exact ZKY|fail);all_goals infer_instance));dsimp only [ZB,z0,z1])|refine WC.ret ?_));all_goals (first|((repeat clear hK);(repeat clear Kx))))
 exact ⟨trivial,_,[_,_],rfl,rfl,vk,vs,rfl,rfl⟩

end
section
open Go.RowKit

abbrev apO (b:Nat) (xs:List (List Vx)) (hs:List HObj):Prop:=∃ sv,hs=[ZQ b 22 1 false (dX sv),ZW sv 28 ZE xs]
theorem tySj:TyI Tryz.prog 22 1 false:=⟨by kernel_rfl,Tryz.isAgg22⟩
set_option maxRecDepth 100000 in
set_option maxHeartbeats 8000000 in
theorem ZJ0 {gf:FuncId} {lb:List Value} {hk:List HObj} {xs:List (List Vx)} (he:ZAf Tryz.prog gf) (hS:SeqC Tryz.prog gf lb hk (fun x=>dS ZE x) xs) (hl:xs.length≤1000000) :
  CallC Tryz.prog 114 ([dX (.slice none 0 0),dX (.func (.func gf) #[] lb.toArray)]++([]:List Value).map dX) hk (fun d hp2=>∃ v,d=dX v/\hp2=ZW v 28 ZE xs::hk):=⟨fun P0 B w0 hp vs W hh hl0 hv=>by
 refine (callsIn_wide (n:=0)).1 (callsIn_of_wp_marks Tryz.func114 rfl trivial ?_ rfl)
 refine wpIn_wide.2 ?_
 have hf0:=ZA8 (m:=11) hl0 hv
 have hsz:vs.toArray.size=2:=by simpa using hl0
 rw [hsz]
 have hnt:Tryz.f114.ntmps=13:=rfl
 rw [hnt]
 simp only [List.length_cons,List.length_nil,Nat.reduceAdd,Nat.reduceSub,List.replicate_succ,List.replicate_zero,List.cons_append,List.nil_append,List.map_nil] at hf0 ⊢
 refine wp_seq (Code.wp_mono ?_ (WC.on (Q:=fun e f q=>e = .normal/\∃ b,f=[dX (.slice none 0 0),dX (.func (.func gf) #[] lb.toArray),dX (.pointer (some ⟨b,0,none⟩)),dX undef,dX (.slice none 0 0),dX undef,dX undef,dX undef,dX undef,dX undef,dX undef,dX undef,dX undef]/\q=[ZQ b 22 1 false (dX (.slice none 0 0)),ZW (.slice none 0 0) 28 ZE []]++(hk++hp)) ?_ hh hf0))
 rotate_left
 ·refine WC.region ?_
  refine ZBG 28 ZE ?_
  refine ZJv (OpD.t rfl) (ZY rfl) fun b=>?_
  dsimp only [ZB,z0,z1]
  refine WL.op rfl (SY.assign OpD.x) (WL.nil ?_)
  exact ⟨rfl,b,rfl,rfl⟩
 rintro e a1 w1 ⟨f1,q1,⟨rfl,b,rfl,rfl⟩,hh1,hf1⟩
 show Code.wp _ _ _ _ _
 refine wp_seq ?_
 refine wp_seq (Code.wp_mono ?_ (WC.on (Q:=fun e f q=>e = .normal/\f=[dX (.slice none 0 0),dX (.func (.func gf) #[] lb.toArray),dX (.pointer (some ⟨b,0,none⟩)),dX undef,dX (.slice none 0 0),dX undef,dX (.func (.func gf) #[] lb.toArray),dX undef,dX undef,dX undef,dX undef,dX undef,dX undef]/\q=[ZQ b 22 1 false (dX (.slice none 0 0)),ZW (.slice none 0 0) 28 ZE []]++(hk++hp)) ?_ hh1 hf1))
 rotate_left
 ·refine WC.region ?_
  refine WL.op rfl (SY.move (OpD.t rfl)) (WL.nil ?_)
  exact ⟨rfl,rfl,rfl⟩
 rintro e a2 w2 ⟨f2,q2,⟨rfl,rfl,rfl⟩,hh2,hf2⟩
 show Code.wp _ _ _ _ _
 refine wp_block ?_
 refine ZEq (hs0:=[_,_]) (hk:=hk) (hp:=hp) (xs:=xs) (D:=fun x=>dS ZE x) (apO b) _ (fun x=>[dX (.slice none 0 0),dX (.func (.func gf) #[] lb.toArray),dX (.pointer (some ⟨b,0,none⟩)),dX undef,dX (.slice none 0 0),dS ZE x,dX (.func (.func gf) #[] lb.toArray),dS ZE x,dX undef,dX undef,dX undef,dX undef,dX undef]) hh2 hf2 (OpD.t rfl) he hS ⟨_,rfl⟩ (by repeat (first|exact FixF.nil|apply FixF.x)) ?_ ?_ ?_
 ·intro l x q
  refine WR.region rfl (I.WL.op rfl (SY.assign (OpD.t rfl)) (I.WL.nil ⟨rfl,rfl,rfl⟩))
 ·rintro l pre x hs q hlt ⟨sv,rfl⟩
  refine WR.block (WR.region rfl ?_)
  refine I.WL.op rfl (ZAN tySj (OpD.t rfl) (.head _)) ?_
  dsimp only [ZB,z0,z1,List.cons_append,List.nil_append]
  refine I.WL.op rfl (SY.move (OpD.t rfl)) ?_
  dsimp only [ZB,z0,z1]
  refine I.WL.perm (List.Perm.swap _ _ _) (I.ZA6 ZBx (OpD.t rfl) (OpD.t rfl) (fun _=>ZAb) (by simp) (by simp) (by decide) (by omega) fun v'=>?_)
  dsimp only [ZB,z0,z1]
  refine I.ZB5 (.head _) fun ⟨ad,c,hv'⟩=>?_
  refine I.WL.perm (List.Perm.swap _ _ _) (I.Zw tySj (OpD.t rfl) (OpD.t rfl) (ZY (by rw [hv'];rfl)) (I.WL.nil ?_))
  exact ⟨rfl,_,⟨v',rfl⟩,rfl⟩
 ·rintro k hs w3 ⟨sv,rfl⟩ hh3 hrd
  show Code.wp _ _ _ _ _
  have hf3:Fr (Imm P0 B (ZA2 k (.deferred (some []))::([ZQ b 22 1 false (dX sv),ZW sv 28 ZE xs]++(hk++hp)))) w3 { tmps:=a2.tmps,defers:=[] } _:=⟨rfl,hf2.size,hrd⟩
  refine wp_seq (wp_region_lit ?_)
  refine ZBa rfl (ZAN tySj (OpD.t rfl) (.tail _ (.head _))) hh3 hf3 fun a4 w4 hd4 hh4 hf4=>?_
  refine ZBa rfl (SY.assign (OpD.t rfl)) hh4 hf4 fun a5 w5 hd5 hh5 hf5=>?_
  refine wpList_nil ?_
  show Code.wp _ _ _ _ _
  refine wp_ret ?_
  show LeavesInM _ _ _ _ _ _ _ _ _
  rw [hd5,hd4,hf2.defers]
  have hK:w5.heap[k]?=some (.deferred (some [])):=hh5.ok (ZA2 k (.deferred (some []))) (by simp)
  refine ⟨by simp,.inl ⟨_,_,rfl,run_takeDeferred hK,_,results_tmp rfl _ _ _,?_⟩⟩
  have hh6:=(Hp.putObj (o':=.deferred none) hh5).drop.drop
  exact ⟨_,dX sv,ZW sv 28 ZE xs::hk,rfl,⟨sv,rfl,rfl⟩,hh6,hf5.rd 4 _ rfl⟩⟩
theorem ZNf {gf:FuncId} {lb:List Value} {hk:List HObj} {xs:List (List Vx)} (he:ZAf Tryz.prog gf) (hS:SeqC Tryz.prog gf lb hk (fun x=>dS ZE x) xs) (hl:xs.length≤1000000) :
  CallC Tryz.prog 93 ([dX (.func (.func gf) #[] lb.toArray)]++([]:List Value).map dX) hk (fun d hp2=>∃ v,d=dX v/\hp2=ZW v 28 ZE xs::hk):=by
 (refine Z5 Tryz.func93 rfl rfl (fun hp=>?_);simp only [Tryz.ntmps93,List.length_cons,List.length_nil,List.length_append,List.length_map,Nat.reduceAdd,Nat.reduceSub,List.replicate_succ,List.replicate_zero,List.cons_append,List.nil_append,List.map_cons,List.map_nil,List.append_assoc])
 ((repeat' (first|(apply WL.opN;exact yF;dsimp only [ZB,z0,z1])|refine WL.nil ?_|refine ZA fun Kx hK=>?_|(refine hK _ _ ?_;clear hK)|refine WC.region ?_ |  (refine Z8 (caps:=[]) (ZJ0 he hS hl) Tryz.call114 OpD.f (by (exact aD)) ?_;rintro d' hp2 ⟨v,rfl,rfl⟩;dsimp only [ZB,z0,z1,List.cons_append,List.nil_append])|refine WC.ret ?_));all_goals (first|((repeat clear hK);(repeat clear Kx))))
 exact ⟨trivial,_,_::hk,rfl,rfl,v,rfl,rfl⟩

theorem ZE1 {s:List Vx} (h:ZAJ s=0):s.length≤8:=by
 unfold ZAJ at h
 split at h
 ·cases h
 ·split at h
  ·cases h
  ·omega
theorem ZQQ (s:List Vx) (k:Int):Fn Tryz.prog 57 [dS ZE s,dI k] (dT [dS Zc (ZC2 s k).1,dI (ZC2 s k).2]):=by
 (refine ZBF Tryz.func57 rfl rfl ?_;simp only [Tryz.ntmps57,List.length_cons,List.length_nil,Nat.reduceAdd,Nat.reduceSub,List.replicate_succ,List.replicate_zero,List.cons_append,List.nil_append])
 ((repeat' (first|(apply WL.opN;exact yF;dsimp only [ZB,z0,z1])|refine WL.nil ?_|refine ZA fun Kx hK=>?_|(refine hK _ _ ?_;clear hK)|refine WC.region ?_ |  (refine Z8 (hp1:=[]) (caps:=[]) (ZSf k.toNat s) Tryz.call94 OpD.f (by (exact aD)) ?_;rintro d' hp2 ⟨vk,vs,rfl,rfl⟩;dsimp only [ZB,z0,z1,List.cons_append,List.nil_append]) |  (refine Z8 (caps:=[]) (ZNf Tryz.call115 (seq_c k.toNat s (by have:=ZE1 (by assumption);omega) (by have:=ZE1 (by assumption);omega) vk vs) (by have:=ZE1 (by assumption);have:=ZCG k.toNat s;have:2 ^ s.length≤2 ^ 8:=Nat.pow_le_pow_right (by decide) (by omega);omega)) Tryz.call93 OpD.f (by (exact aD)) ?_;rintro d' hp2 ⟨v,rfl,rfl⟩;dsimp only [ZB,z0,z1,List.cons_append,List.nil_append])|(apply ZJ;(focus (first|exact wN|(apply ZF;(exact wY);((first|(apply SY.call (ZJ6 _) Tryz.call73;(exact aD))|exact ZEs|exact ZCJ|exact ZIM|exact ZJo|exact ZBs|exact ZEB|fail);all_goals infer_instance))));dsimp only [ZB,z0,z1])|((first|refine Za rfl rfl rfl (fun h=>?_) (fun h=>?_)|refine ZZ rfl rfl rfl (fun h=>?_) (fun h=>?_)|refine ZT rfl rfl rfl (fun h=>?_) (fun h=>?_)) <;> (first|(exfalso;first|omega|contradiction)|(dsimp only [z0,z1])))|(apply ZAs;(exact oD);(with_reducible rfl))|(apply ZC;(exact oD);all_goals (intro h;try exact xD))|(apply ZL;(exact oD);all_goals (intro h;try exact xD))|refine WC.skip ?_|refine WC.ret ?_|refine ThenD.r ?_));all_goals (first|((repeat clear hK);(repeat clear Kx))))
 ·have e1:ZC2 s k=([],ZAJ s):=by unfold ZC2;rw [if_pos h]
  rw [e1];(refine ⟨trivial,⟨_,rfl,?_⟩,_,rfl,?_⟩ <;> exact fD)
 ·have e1:ZC2 s k=([],2):=by unfold ZC2;rw [if_neg (by simpa),if_pos (.inl h)]
  rw [e1];(refine ⟨trivial,⟨_,rfl,?_⟩,_,rfl,?_⟩ <;> exact fD)
 ·have e1:ZC2 s k=([],2):=by unfold ZC2;rw [if_neg (by simpa),if_pos (.inr h)]
  rw [e1];(refine ⟨trivial,⟨_,rfl,?_⟩,_,rfl,?_⟩ <;> exact fD)
 ·have e1:ZC2 s k=(Zg k.toNat s,0):=by unfold ZC2;rw [if_neg (by simpa),if_neg (by omega)]
  rw [e1];(refine ⟨trivial,⟨_,rfl,?_⟩,_,rfl,?_⟩ <;> exact fD)
end
section
open Go.RowKit
section
variable {P:Program} {ops:Array Oper} {hp:List HObj} {fr:List Dat} {dst:Option Tmp} {ty:TypeId} {ps:String} {af:Array Edge} {t e:TypeId} {z:Value} {bytes:Nat} {ag:Bool}
theorem SW.app1 {s y:Operand} (E:ElT P t e 1 z bytes ag) {α:Type} {R:Rel α} {_gR:Good R} {v:Value} {xs ys:List α} (hs:OpD fr s (dX v)) (hy:OpD fr y (dS (Arr R) ys)) (hby:0<bytes)
  (hlen:(xs.length+ys.length)*bytes≤140737488355328) :
  SW P ops (ZW v e R xs::hp) (fun v':Value=>ZW v' e R (xs++ys)::hp) (fun v'=>dX v') ⟨dst,.call { callee:=.builtin .append,args:=#[s,y],argTypes:=#[t,t] },ty,ps,af,none⟩ fr:=⟨rfl,fun {P0 B w0 w a} hh ho K Q hk=>by
 obtain ⟨ad,cap,hv,c1,c2,c3⟩:=(hy.get (by simp [Op.operands,Call.operands]) ho:Arr R _ _ _ _)
 have hm:xs.length+ys.length≤maxLen:=by
  have:(xs.length+ys.length)*1≤(xs.length+ys.length)*bytes:=Nat.mul_le_mul_left _ hby
  simp only [maxLen];omega
 have hse:a.eval s=v:=hs.get (by simp [Op.operands,Call.operands]) ho
 cases ad with
 | none =>
  have hy0:ys=[]:=by
   cases ys with
   | nil=>rfl
   | cons y ys=>obtain ⟨_,_,_,_,_,hc,_⟩:=c3 0 (by simp);cases hc
  subst hy0
  obtain ⟨us,_,hown,_⟩:=hh.ok (ZW v e R xs) (by simp)
  have hrun:(execOp a.eval ⟨dst,.call { callee:=.builtin .append,args:=#[s,y],argTypes:=#[t,t] },ty,ps,af,none⟩).run P w = .ok (.value v) w:=by
   have hr:=ZAn (P:=P) (ty:=ty) (w:=w) E hown cap
   have hv':a.eval y = .slice none 0 cap:=hv
   unfold execOp
   simp only [resolve,invoke,builtin,List.map_toArray,List.map_cons,List.map_nil,hse,hv',Sem.run_bind,Sem.run_pure,Result.andThen_ok]
   rw [hr]
   simp
  unfold Oper.wp
  rw [hrun]
  have:=hk v v w
  simp only [List.append_nil] at this
  exact this hh (fun _ _ h=>h) rfl
 | some ad =>
  have hch:∀ k:Nat,∃ u:Value,∀ h:k<ys.length,w.cell? (ad.add k)=some u/\u.oneCell'=true/\R (Imm P0 B (ZW v e R xs::hp)) w u ys[k]:=fun k=>by
   by_cases hk:k<ys.length
   ·obtain ⟨u,b,off,r1,r2,r3,r4,r5⟩:=c3 k hk
    cases r3
    exact ⟨u,fun _=>⟨by rw [Addr.add_lit];exact r5,r2,r1⟩⟩
   ·exact ⟨undef,fun h=>absurd h hk⟩
  obtain ⟨f,hfch⟩:=Classical.axiomOfChoice hch
  obtain ⟨v',w',hr,r1,r2,r3⟩:=ZBp (ty:=ty) E hh (ad:=ad) (c:=cap) (ys:=ys) (news:=(List.range ys.length).map f) (by simp) (fun j u hu=>by
    obtain ⟨hjl,hju⟩:=List.getElem?_eq_some_iff.1 hu
    simp at hjl hju
    subst hju
    exact (hfch j hjl).1) (fun u hu=>by
    simp only [List.mem_map,List.mem_range] at hu
    obtain ⟨j,hj,rfl⟩:=hu
    exact (hfch j hj).2.1) (fun k h1 h2=>by
    simp only [List.getElem_map,List.getElem_range]
    exact (hfch k h2).2.2) hlen hm
  have hrun:(execOp a.eval ⟨dst,.call { callee:=.builtin .append,args:=#[s,y],argTypes:=#[t,t] },ty,ps,af,none⟩).run P w = .ok (.value v') w':=by
   unfold execOp
   simp only [resolve,invoke,builtin,List.map_toArray,List.map_cons,List.map_nil,hse,hv,Sem.run_bind,Sem.run_pure,Result.andThen_ok,hr]
  unfold Oper.wp
  rw [hrun]
  exact hk v' v' w' r1 (fun d u hd=>ZM (o:=ZW v e R xs) (o':=ZW v' e R (xs++ys)) r2 r3 hd) rfl⟩
end
end
end Go.Proofs.YtlgmojhmmbhgfaaGreatDoor
