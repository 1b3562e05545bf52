/- Part 23: walks by contracts, and plain laws. -/
import Derived.Test.YtekiljakcngcoaaGreatDoorV16
set_option linter.unusedVariables false
set_option linter.unusedSimpArgs false
set_option linter.unusedSectionVars false
set_option maxRecDepth 100000
set_option maxHeartbeats 4000000
namespace Go.Proofs.YtekiljakcngcoaaGreatDoor
section
open Go.RowKit

theorem ZTW (b cap:Nat) (xs:List Vx) (hl:xs.length≤1000):CallC Tryz.prog 62 ([dX (ZSp b cap xs)]++([]:List Value).map dX) [hV b xs.length cap 50 xs] fun d' hp2=>∃ v,d'=dX v/\hp2=[Zp v 50 2 RV xs,hV b xs.length cap 50 xs]:=by
 (refine ZAD Tryz.func62 rfl rfl (fun hp=>?_);simp only [Tryz.ntmps62,List.length_cons,List.length_nil,List.length_append,List.length_map,Nat.reduceAdd,Nat.reduceSub,List.replicate_succ,List.replicate_zero,List.cons_append,List.nil_append,List.map_cons,List.map_nil,List.append_assoc])
 ((repeat' (first|(apply WL.opN;exact yF;dsimp only [ZA,z0,z1])|refine WL.nil ?_|refine ZC fun Kx hK=>?_|(refine hK _ _ ?_;clear hK)|refine WC.region ?_ |  (apply ZE2 elV RV (by decide);(intro _;dsimp only [ZA,z0,z1]);all_goals (try infer_instance)) |  (apply ZQT elV;exact OpD.t rfl;exact OpD.t rfl;decide;(simp;omega);(intro _;dsimp only [ZA,z0,z1]))|(apply WL.opN;(focus ((first|(apply ZIv;exact OpD.t rfl;exact ZOW)|fail);all_goals infer_instance));dsimp only [ZA,z0,z1])|(apply ZK;(exact oD);(with_reducible rfl))|refine WC.skip ?_|refine WC.ret ?_));all_goals (first|((repeat clear hK);(repeat clear Kx))))
 exact ⟨trivial,_,[_,_],rfl,rfl,_,rfl,by rw [List.nil_append]⟩

theorem tyFn:TyI Tryz.prog 145 1 false:=⟨by kernel_rfl,Tryz.isAgg145⟩
theorem tyFy:TyI Tryz.prog 143 1 false:=⟨by kernel_rfl,Tryz.isAgg143⟩
theorem tzFn:TyZ Tryz.prog 145 .nilFunc:=⟨by kernel_rfl⟩
abbrev ZOm (v2 v3 v4:Value) (bf:Nat):Value:=.func (.func 101) #[] [v2,v3,v4,.pointer (some ⟨bf,0,none⟩)].toArray
abbrev fromO (k:Nat) (s:List Vx) (l b cap bf:Nat) (v2 v3 v4:Value) (pre:List Vx):List HObj :=
 [hV b pre.length cap 50 pre,Zh bf 145 1 false (dX (ZOm v2 v3 v4 bf)),ZAI v2 (dP 1 false (dI k)),ZAI v3 (dP 1 false (dX (.func (.yield l) #[] #[]))),ZAI v4 (dP 1 false (dS ZI s))]
theorem ZVP {a b c d e:HObj} {js hp:List HObj}:(a::b::c::d::e::(js++hp)).Perm (js++a::b::c::d::e::hp):=by
 have:(([a,b,c,d,e]++js)++hp).Perm ((js++[a,b,c,d,e])++hp):=List.Perm.append_right _ List.perm_append_comm
 simpa using this
set_option maxRecDepth 100000 in
set_option maxHeartbeats 8000000 in
theorem ZU4 (k:Nat) (s:List Vx) (hs:s.length≤100) (hk:k≤100) (l N b cap:Nat) (hcap:k≤cap) (J:List (List Vx)->List HObj->Prop) (hY:YStep Tryz.prog l (fun x=>dS ZI x) J N) (v2 v3 v4:Value) (bf:Nat) :
  ∀ (m i0:Nat) (pre:List Vx) (done:List (List Vx)) (js:List HObj),s.length-i0=m->i0≤s.length->pre.length≤k->J done js->done.length+(Zw (k-pre.length) (s.drop i0)).length≤N ->
  CallC Tryz.prog 101 ([dI (i0:Int),dX (ZSp b cap pre)]++[v2,v3,v4,.pointer (some ⟨bf,0,none⟩)].map dX) (fromO k s l b cap bf v2 v3 v4 pre++js)
   (fun d hp2=>d=dB true/\∃ js',J (done++(Zw (k-pre.length) (s.drop i0)).map (pre ++ ·)) js'/\hp2=fromO k s l b cap bf v2 v3 v4 pre++js'):=by
 intro m
 induction m using Nat.strongRecOn with
 | _ m ih =>
 intro i0 pre done js hm hi0 hpk hj hN
 (refine ZAD Tryz.func101 rfl rfl (fun hp=>?_);simp only [Tryz.ntmps101,List.length_cons,List.length_nil,List.length_append,List.length_map,Nat.reduceAdd,Nat.reduceSub,List.replicate_succ,List.replicate_zero,List.cons_append,List.nil_append,List.map_cons,List.map_nil,List.append_assoc])
 refine ZF6 2 rfl (.tail _ (.tail _ (.head _))) ?_
 refine ZF6 3 rfl (.tail _ (.tail _ (.tail _ (.head _)))) ?_
 refine ZF6 4 rfl (.tail _ (.tail _ (.tail _ (.tail _ (.head _))))) ?_
 dsimp only [z0,z1]
 (repeat' (first |  (refine I.WC.drawW (β:=Value) 2 (fun v=>Zp v 50 2 RV pre::hV b pre.length cap 50 pre::Zh bf 145 1 false (dX (ZOm v2 v3 v4 bf))::ZAI v2 (dP 1 false (dI k))::ZAI v3 (dP 1 false (dX (.func (.yield l) #[] #[])))::ZAI v4 (dP 1 false (dS ZI s))::(js++hp)) (fun v=>dX v) _ rfl (by kernel_rfl) (by kernel_rfl) ?_;simp only [List.take_succ_cons,List.take_zero,List.drop_succ_cons,List.drop_zero])|((first|apply WL.opN|apply WD.opN);exact yF;dsimp only [ZA,z0,z1])|refine WL.nil ?_|refine ZC fun Kx hK=>?_|(refine hK _ _ ?_;clear hK)|refine WC.region ?_|((first|apply WL.opN|apply WD.opN);(focus ((first|exact ZNA|exact ZBq|fail);all_goals infer_instance));dsimp only [ZA,z0,z1])|(apply ZE;(exact oD);all_goals (intro h;try exact xD))|refine WC.skip ?_|refine WC.block ?_))
 ·have hpk':pre.length=k:=by omega
  have h0:k-pre.length=0:=by omega
  rw [h0] at hN ⊢
  have hsub:Zw 0 (s.drop i0)=[[]]:=by unfold Zw;rfl
  rw [hsub] at hN ⊢
  (repeat' (first|refine WDs.nil ?_|(apply WDs.op;(focus (intro c;apply SYG.yes;(exact Zc rfl);((first|(apply SY.load;exact tyFy;exact OpD.t rfl)|exact ZD6|fail);all_goals infer_instance)));dsimp only [ZA,z0,z1])))
  refine ⟨ZFj (hp1:=[_]) (H:=fun v=>[Zp v 50 2 RV pre,hV b pre.length cap 50 pre]) (caps:=[]) (ZTW b cap pre (by omega)) Tryz.call62 OpD.f (by (exact aD)) (fun d hp2 ⟨v,h1,h2⟩=>⟨v,h1,h2⟩),fun v=>?_⟩
  dsimp only [ZA,z0,z1]
  refine I.ZHc (s:=16) rfl ?_
  dsimp only [ZA,z0,z1]
  refine I.WL.perm ZVP (I.WL.yield (pre:=done) (y:=pre) hY (by simp at hN;omega) hj (OpD.t rfl) (OpD.t rfl) fun js' hj'=>I.WL.perm ZVP.symm ?_)
  dsimp only [ZA,z0,z1]
  refine I.WL.op rfl (SY.assign (OpD.t rfl)) ?_
  dsimp only [ZA,z0,z1]
  refine I.WL.nil ?_
  ((repeat' (first|(refine hK _ _ ?_;clear hK)|refine WC.ret ?_|refine ThenD.r ?_));all_goals (first|((repeat clear hK);(repeat clear Kx))))
  exact ⟨trivial,_,_::_::_::_::_::js',rfl,rfl,rfl,js',by rw [h0,hsub];simpa using hj',rfl⟩
 ·have hlt:pre.length<k:=by omega
  obtain ⟨m1,hm1⟩:∃ m1,k-pre.length=m1+1:=⟨k-pre.length-1,by omega⟩
  rw [hm1] at hN ⊢
  (refine WC.loopU (X:=Nat × List (List Vx) × List HObj) (fun x=>[(9,dI (x.1:Int)),(8,dA),(19,dA),(20,dA),(21,dA),(22,dA),(23,dA),(24,dA),(25,dA),(26,dA),(27,dA),(28,dA),(29,dA),(30,dA),(31,dA),(32,dA),(33,dA),(34,dA),(35,dA),(36,dA)]) (fun x=>(hV b pre.length cap 50 pre::Zh bf 145 1 false (dX (ZOm v2 v3 v4 bf))::ZAI v2 (dP 1 false (dI k))::ZAI v3 (dP 1 false (dX (.func (.yield l) #[] #[])))::ZAI v4 (dP 1 false (dS ZI s))::(x.2.2++hp))) (fun x=>s.length-x.1) (fun x=>i0≤x.1/\x.1≤s.length/\J x.2.1 x.2.2/\x.2.1++(Zw (m1+1) (s.drop x.1)).map (pre ++ ·)=done++(Zw (m1+1) (s.drop i0)).map (pre ++ ·)) (i0,done,js) ?start ?frame0 ?objs0 ?round)
  case start=>exact ⟨Nat.le_refl _,hi0,hj,rfl⟩
  case frame0=>((try dsimp only [Za,z0,z1]);repeat (first|exact LeF.nil|refine ZF (k:=?_)))
  case objs0=>rfl
  case round =>
   rintro ⟨i,dn,js1⟩ ⟨q1,q2,q3,q4⟩
   simp only at q1 q2 q3 q4
   dsimp only [Za,z0,z1]
   ((repeat' (first |  (refine WC.drawW (β:=Unit) 9 (fun _=>hV b (pre++[s[i]'(by omega)]).length cap 50 (pre++[s[i]'(by omega)])::Zh bf 145 1 false (dX (ZOm v2 v3 v4 bf))::ZAI v2 (dP 1 false (dI k))::ZAI v3 (dP 1 false (dX (.func (.yield l) #[] #[])))::ZAI v4 (dP 1 false (dS ZI s))::(js1++hp)) (fun _=>dX (ZSp b cap (pre++[s[i]'(by omega)]))) _ rfl (by kernel_rfl) (by kernel_rfl) ?_;simp only [List.take_succ_cons,List.take_zero,List.drop_succ_cons,List.drop_zero])|((first|apply WL.opN|apply WD.opN);exact yF;dsimp only [ZA,z0,z1])|refine WL.nil ?_|refine ZC fun Kx hK=>?_|(refine hK _ _ ?_;clear hK)|(refine Kont.skip ?_;clear hK)|refine WC.region ?_|((first|apply WL.opN|apply WD.opN);(focus ((first|exact ZBy|exact ZBq|fail);all_goals infer_instance));dsimp only [ZA,z0,z1])|(apply ZE;(exact oD);all_goals (intro h;try exact xD))|refine WC.skip ?_|refine WC.ret ?_|refine WC.exit ?_|refine WC.block ?_));all_goals (first|refine WDs.id ?_|((repeat clear hK);(repeat clear Kx))))
   ·have hi:i<s.length:=by omega
    (repeat' (first|refine WDs.nil ?_|(apply WDs.op;(focus (intro c;apply SYG.yes;(exact Zc rfl);((first|(apply ZJ;exact tyFn;exact OpD.t rfl;(refine HH.mem ?_ (fun _=>?_) <;> exact .tail _ (.head _)))|(refine Zi (R:=RV) (_gR:=inferInstance) (k:=i) elV ?_ ?_ hi;exact OpD.t rfl;exact OpD.t rfl)|exact ZD6|exact ZCk|exact ZFO|exact ZBj|fail);all_goals infer_instance)));dsimp only [ZA,z0,z1])))
    refine ⟨ZNL elV (OpD.t rfl) (OpD.t rfl) (by omega),fun _=>?_⟩
    dsimp only [ZA,z0,z1]
    have hd:=ZM6 m1 s i hi
    have hlen:=congrArg List.length q4
    simp only [hd,List.length_append,List.length_map] at hlen
    have hk1:k-(pre++[s[i]]).length=m1:=by simp;omega
    have hC:=ih (s.length-(i+1)) (by omega) (i+1) (pre++[s[i]]) dn js1 rfl (by omega) (by simp;omega) q3 (by rw [hk1];omega)
    rw [hk1] at hC
    refine ZAT (hp1:=fromO k s l b cap bf v2 v3 v4 (pre++[s[i]])++js1) hC Tryz.call101 (OpD.t rfl) (by (exact aD)) ?_
    rintro d' hp2 ⟨rfl,js2,hj2,rfl⟩
    dsimp only [ZA,z0,z1,List.cons_append,List.nil_append]
    refine ZKT (k:=pre.length) (by simp) ?_
    rw [List.take_left' rfl]
    ((repeat' (first|((first|apply WL.opN|apply WD.opN);exact yF;dsimp only [ZA,z0,z1])|refine WL.nil ?_|(refine hK _ _ ?_;clear hK)|refine WC.region ?_|((first|apply WL.opN|apply WD.opN);(focus ((first|exact ZP5|exact ZCk|fail);all_goals infer_instance));dsimp only [ZA,z0,z1])|(apply WC.condNB;(exact oD);all_goals (intro h;try exact xD))|refine WC.skip ?_|refine ThenD.n ?_));all_goals (first|((repeat clear hK);(repeat clear Kx))))
    (refine ⟨(i+1,dn++List.map (fun x=>pre++[s[i]]++x) (Zw m1 (List.drop (i+1) s)),js2),?_,by first|omega|(simp only;omega),rfl,?_⟩;rotate_left;((try dsimp only [Za,z0,z1]);repeat (first|exact LeF.nil|refine ZF (k:=?_)));(try dsimp only))
    refine ⟨by omega,by omega,hj2,?_⟩
    rw [<- q4,hd,List.map_append,List.map_map,List.append_assoc]
    congr 2
    apply List.map_congr_left
    intro x _
    simp
   ·have hi:s.length≤i:=by omega
    have hd:Zw (m1+1) (List.drop i s)=[]:=by rw [List.drop_eq_nil_of_le hi];rfl
    rw [hd] at q4
    simp only [List.map_nil,List.append_nil] at q4
    exact ⟨trivial,_,_::_::_::_::_::js1,rfl,rfl,rfl,js1,by rw [hm1,<- q4];exact q3,rfl⟩
theorem perm2 {a b:HObj} {js hp:List HObj}:(js++a::b::hp).Perm (a::b::(js++hp)):=ZCd.symm
set_option maxRecDepth 100000 in
set_option maxHeartbeats 8000000 in
theorem seq_c (k:Nat) (s:List Vx) (hs:s.length≤100) (hk:k≤100) (vk vs:Value):SeqC Tryz.prog 100 [vk,vs] [ZAI vk (dP 1 false (dI k)),ZAI vs (dP 1 false (dS ZI s))] (fun x=>dS ZI x) (Zw k s):=⟨fun l J hY js hj=>by
 (refine ZFQ Tryz.func100 rfl rfl (fun hp=>?_);simp only [Tryz.ntmps100,List.length_cons,List.length_nil,List.length_append,List.length_map,Nat.reduceAdd,Nat.reduceSub,List.replicate_succ,List.replicate_zero,List.cons_append,List.nil_append,List.map_cons,List.map_nil,List.append_assoc])
 refine ZLG perm2 ?_
 (repeat' (first |  (refine ZF5 (d:=dP 1 false (dX (.func (.yield l) #[] #[]))) 3 rfl fun v3=>?_;dsimp only [z0,z1]) |  (refine ZF6 (d:=dP 1 false (dI k)) 1 rfl (.tail _ (.tail _ (.head _))) ?_;dsimp only [z0,z1];refine WC.drawW (β:=Nat) 2 (fun b=>hV b 0 k 50 []::Zh bf 145 1 false (dX (ZOm vk v3 vs bf))::ZAI v3 (dP 1 false (dX (.func (.yield l) #[] #[])))::ZAI vk (dP 1 false (dI k))::ZAI vs (dP 1 false (dS ZI s))::(js++hp)) (fun b=>dX (.slice (some ⟨b,0,none⟩) 0 k)) _ rfl (by kernel_rfl) (by kernel_rfl) ?_;simp only [List.take_succ_cons,List.take_zero,List.drop_succ_cons,List.drop_zero])|refine WL.nil ?_|refine ZC fun Kx hK=>?_|(refine hK _ _ ?_;clear hK)|refine WC.region ?_ |  (apply WL.alloc tzFn;exact ZN rfl;(intro bf;dsimp only [ZA,z0,z1])) |  (apply ZAK tyFn;exact OpD.t rfl;exact OpD.t rfl;exact ZN rfl;dsimp only [ZA,z0,z1])|((first|apply WL.opN|apply WD.opN);(focus ((first|(apply ZDU;repeat (first|exact ArgsX.nil|(apply ArgsX.cons;exact OpD.t rfl)))|exact ZG4|fail);all_goals infer_instance));dsimp only [ZA,z0,z1])))
 (repeat' (first|refine WDs.nil ?_|(apply WDs.op;(focus (intro c;apply SYG.yes;(exact Zc rfl);((first|(apply ZJ;exact tyFn;exact OpD.t rfl;(refine HH.mem ?_ (fun _=>?_) <;> first|exact .head _|exact .tail _ (.head _)))|exact ZFO|fail);all_goals infer_instance)));dsimp only [ZA,z0,z1])))
 refine ⟨ZQH elV (OpD.t rfl) rfl (by omega) (by simp only [maxLen];omega),fun b=>?_⟩
 dsimp only [ZA,z0,z1]
 have hC:=ZU4 k s hs hk l (Zw k s).length b k (Nat.le_refl _) J hY vk v3 vs bf s.length 0 [] [] js rfl (Nat.zero_le _) (Nat.zero_le _) hj (by simp)
 refine WL.perm (((List.Perm.swap _ _ _).cons _).cons _) ?_
 refine ZAT (hp1:=fromO k s l b k bf vk v3 vs []++js) hC Tryz.call101 (OpD.t rfl) (by (exact aD)) ?_
 rintro d' hp2 ⟨rfl,js',hj',rfl⟩
 simp only [List.length_nil,Nat.sub_zero,List.drop_zero,List.nil_append,List.map_id'] at hj'
 dsimp only [ZA,z0,z1,List.cons_append,List.nil_append]
 refine WL.drop (WL.drop (WL.perm (List.Perm.swap _ _ _) (WL.drop (WL.perm ZCd (WL.nil ?_)))))
 exact ⟨trivial,js'++[_,_],by simp,js',hj',rfl⟩⟩
theorem ZTi (k:Nat) (s:List Vx):CallC Tryz.prog 81 ([dS ZI s,dI k]++([]:List Value).map dX) [] (fun d hp2=>∃ vk vs,d=dX (.func (.func 100) #[] [vk,vs].toArray)/\hp2=[ZAI vk (dP 1 false (dI k)),ZAI vs (dP 1 false (dS ZI s))]):=by
 (refine ZAD Tryz.func81 rfl rfl (fun hp=>?_);simp only [Tryz.ntmps81,List.length_cons,List.length_nil,List.length_append,List.length_map,Nat.reduceAdd,Nat.reduceSub,List.replicate_succ,List.replicate_zero,List.cons_append,List.nil_append,List.map_cons,List.map_nil,List.append_assoc])
 ((repeat' (first |  (refine ZF5 (d:=dP 1 false (dS ZI s)) 2 rfl fun vs=>?_;dsimp only [z0,z1];refine ZF5 (d:=dP 1 false (dI k)) 3 rfl fun vk=>?_;dsimp only [z0,z1])|(apply WL.opN;exact yF;dsimp only [ZA,z0,z1])|refine WL.nil ?_|refine ZC fun Kx hK=>?_|(refine hK _ _ ?_;clear hK)|refine WC.region ?_|(apply WL.opN;(focus ((first|(apply ZDU;repeat (first|exact ArgsX.nil|(apply ArgsX.cons;exact OpD.t rfl)))|exact ZG4|fail);all_goals infer_instance));dsimp only [ZA,z0,z1])|refine WC.ret ?_));all_goals (first|((repeat clear hK);(repeat clear Kx))))
 exact ⟨trivial,_,[_,_],rfl,rfl,vk,vs,rfl,rfl⟩

end
section
open Go.RowKit
section
variable {P:Program} {ops:Array Oper} {hp:List HObj} {o:Oper} {fr:List Dat} {d:Dat} {Q:Exit->Act->World->Prop} {rest:List Oper} {P0:Nat->Prop} {B:Nat} {w0 w:World} {a:Act}
theorem ZBb (hg:o.guard=none) (h:SY P ops hp o fr d) (hh:Hp P0 B w0 hp w) (hf:Fr (Imm P0 B hp) w { tmps:=a.tmps,defers:=[] } fr)
  (k:∀ a' w',a'.defers=a.defers->Hp P0 B w0 hp w'->Fr (Imm P0 B hp) w' { tmps:=a'.tmps,defers:=[] } (ZA fr o.dst d)->wpList P ops Q rest a' w'):wpList P ops Q (o::rest) a w:=by
 unfold wpList
 have hwant:Region.wanted o (yielded ops a.tmps)=true:=by simp [Region.wanted,hg]
 rw [if_pos hwant]
 refine .inl (h.out hh (a:=a) ⟨hf.size,fun t _ d hd=>hf.rd t d hd⟩ _ _ fun v w' e hd=>?_)
 have hf2:=Fr.put (x:=o.dst) (hf.ext e) hd
 refine k (a.put o.dst v) w' ?_ (hh.ext e) ?_
 ·cases o.dst <;> rfl
 ·have e1:({ tmps:=(a.put o.dst v).tmps,defers:=[] }:Act)=({ tmps:=a.tmps,defers:=[] }:Act).put o.dst v:=by cases o.dst <;> rfl
  rw [e1];exact hf2
end
namespace I
section
variable {P:Program} {ops:Array Oper} {hp:List HObj} {fr:List Dat} {Q:ZAW} {rest:List Oper}
theorem ZB0 {α:Type} {R:Rel α} {_gR:Good R} {v:Value} {e:TypeId} {xs:List α} (hm:Zr v e R xs∈hp) (h:(∃ a c,v = .slice a xs.length c)->WL P ops Q rest fr hp):WL P ops Q rest fr hp:=WL.of fun _ _ _ _ _ hh hf =>
 (h (Own.len (hh.ok _ hm))).on hh hf
end
end I
end
section
open Go.RowKit

abbrev apO (b:Nat) (xs:List (List Vx)) (hs:List HObj):Prop:=∃ sv,hs=[Zh b 22 1 false (dX sv),Zr sv 28 ZI xs]
theorem tySj:TyI Tryz.prog 22 1 false:=⟨by kernel_rfl,Tryz.isAgg22⟩
set_option maxRecDepth 100000 in
set_option maxHeartbeats 8000000 in
theorem ZKW {gf:FuncId} {lb:List Value} {hk:List HObj} {xs:List (List Vx)} (he:ZAn Tryz.prog gf) (hS:SeqC Tryz.prog gf lb hk (fun x=>dS ZI x) xs) (hl:xs.length≤1000000) :
  CallC Tryz.prog 99 ([dX (.slice none 0 0),dX (.func (.func gf) #[] lb.toArray)]++([]:List Value).map dX) hk (fun d hp2=>∃ v,d=dX v/\hp2=Zr v 28 ZI xs::hk):=⟨fun P0 B w0 hp vs W hh hl0 hv=>by
 refine (callsIn_wide (n:=0)).1 (callsIn_of_wp_marks Tryz.func99 rfl trivial ?_ rfl)
 refine wpIn_wide.2 ?_
 have hf0:=ZBI (m:=11) hl0 hv
 have hsz:vs.toArray.size=2:=by simpa using hl0
 rw [hsz]
 have hnt:Tryz.f99.ntmps=13:=rfl
 rw [hnt]
 simp only [List.length_cons,List.length_nil,Nat.reduceAdd,Nat.reduceSub,List.replicate_succ,List.replicate_zero,List.cons_append,List.nil_append,List.map_nil] at hf0 ⊢
 refine wp_seq (Code.wp_mono ?_ (WC.on (Q:=fun e f q=>e = .normal/\∃ b,f=[dX (.slice none 0 0),dX (.func (.func gf) #[] lb.toArray),dX (.pointer (some ⟨b,0,none⟩)),dX undef,dX (.slice none 0 0),dX undef,dX undef,dX undef,dX undef,dX undef,dX undef,dX undef,dX undef]/\q=[Zh b 22 1 false (dX (.slice none 0 0)),Zr (.slice none 0 0) 28 ZI []]++(hk++hp)) ?_ hh hf0))
 rotate_left
 ·refine WC.region ?_
  refine ZBU 28 ZI ?_
  refine ZHb (OpD.t rfl) (ZN rfl) fun b=>?_
  dsimp only [ZA,z0,z1]
  refine WL.op rfl (SY.assign OpD.x) (WL.nil ?_)
  exact ⟨rfl,b,rfl,rfl⟩
 rintro e a1 w1 ⟨f1,q1,⟨rfl,b,rfl,rfl⟩,hh1,hf1⟩
 show Code.wp _ _ _ _ _
 refine wp_seq ?_
 refine wp_seq (Code.wp_mono ?_ (WC.on (Q:=fun e f q=>e = .normal/\f=[dX (.slice none 0 0),dX (.func (.func gf) #[] lb.toArray),dX (.pointer (some ⟨b,0,none⟩)),dX undef,dX (.slice none 0 0),dX undef,dX (.func (.func gf) #[] lb.toArray),dX undef,dX undef,dX undef,dX undef,dX undef,dX undef]/\q=[Zh b 22 1 false (dX (.slice none 0 0)),Zr (.slice none 0 0) 28 ZI []]++(hk++hp)) ?_ hh1 hf1))
 rotate_left
 ·refine WC.region ?_
  refine WL.op rfl (SY.move (OpD.t rfl)) (WL.nil ?_)
  exact ⟨rfl,rfl,rfl⟩
 rintro e a2 w2 ⟨f2,q2,⟨rfl,rfl,rfl⟩,hh2,hf2⟩
 show Code.wp _ _ _ _ _
 refine wp_block ?_
 refine ZEw (hs0:=[_,_]) (hk:=hk) (hp:=hp) (xs:=xs) (D:=fun x=>dS ZI x) (apO b) _ (fun x=>[dX (.slice none 0 0),dX (.func (.func gf) #[] lb.toArray),dX (.pointer (some ⟨b,0,none⟩)),dX undef,dX (.slice none 0 0),dS ZI x,dX (.func (.func gf) #[] lb.toArray),dS ZI x,dX undef,dX undef,dX undef,dX undef,dX undef]) hh2 hf2 (OpD.t rfl) he hS ⟨_,rfl⟩ (by repeat (first|exact FixF.nil|apply FixF.x)) ?_ ?_ ?_
 ·intro l x q
  refine WR.region rfl (I.WL.op rfl (SY.assign (OpD.t rfl)) (I.WL.nil ⟨rfl,rfl,rfl⟩))
 ·rintro l pre x hs q hlt ⟨sv,rfl⟩
  refine WR.block (WR.region rfl ?_)
  refine I.WL.op rfl (ZJ tySj (OpD.t rfl) (.head _)) ?_
  dsimp only [ZA,z0,z1,List.cons_append,List.nil_append]
  refine I.WL.op rfl (SY.move (OpD.t rfl)) ?_
  dsimp only [ZA,z0,z1]
  refine I.WL.perm (List.Perm.swap _ _ _) (I.ZM ZDz (OpD.t rfl) (OpD.t rfl) (fun _=>Zq) (by simp) (by simp) (by decide) (by omega) fun v'=>?_)
  dsimp only [ZA,z0,z1]
  refine I.ZB0 (.head _) fun ⟨ad,c,hv'⟩=>?_
  refine I.WL.perm (List.Perm.swap _ _ _) (I.ZAK tySj (OpD.t rfl) (OpD.t rfl) (ZN (by rw [hv'];rfl)) (I.WL.nil ?_))
  exact ⟨rfl,_,⟨v',rfl⟩,rfl⟩
 ·rintro k hs w3 ⟨sv,rfl⟩ hh3 hrd
  show Code.wp _ _ _ _ _
  have hf3:Fr (Imm P0 B (ZAt k (.deferred (some []))::([Zh b 22 1 false (dX sv),Zr sv 28 ZI xs]++(hk++hp)))) w3 { tmps:=a2.tmps,defers:=[] } _:=⟨rfl,hf2.size,hrd⟩
  refine wp_seq (wp_region_lit ?_)
  refine ZBb rfl (ZJ tySj (OpD.t rfl) (.tail _ (.head _))) hh3 hf3 fun a4 w4 hd4 hh4 hf4=>?_
  refine ZBb rfl (SY.assign (OpD.t rfl)) hh4 hf4 fun a5 w5 hd5 hh5 hf5=>?_
  refine wpList_nil ?_
  show Code.wp _ _ _ _ _
  refine wp_ret ?_
  show LeavesInM _ _ _ _ _ _ _ _ _
  rw [hd5,hd4,hf2.defers]
  have hK:w5.heap[k]?=some (.deferred (some [])):=hh5.ok (ZAt k (.deferred (some []))) (by simp)
  refine ⟨by simp,.inl ⟨_,_,rfl,run_takeDeferred hK,_,results_tmp rfl _ _ _,?_⟩⟩
  have hh6:=(Hp.putObj (o':=.deferred none) hh5).drop.drop
  exact ⟨_,dX sv,Zr sv 28 ZI xs::hk,rfl,⟨sv,rfl,rfl⟩,hh6,hf5.rd 4 _ rfl⟩⟩
theorem ZON {gf:FuncId} {lb:List Value} {hk:List HObj} {xs:List (List Vx)} (he:ZAn Tryz.prog gf) (hS:SeqC Tryz.prog gf lb hk (fun x=>dS ZI x) xs) (hl:xs.length≤1000000) :
  CallC Tryz.prog 80 ([dX (.func (.func gf) #[] lb.toArray)]++([]:List Value).map dX) hk (fun d hp2=>∃ v,d=dX v/\hp2=Zr v 28 ZI xs::hk):=by
 (refine ZAD Tryz.func80 rfl rfl (fun hp=>?_);simp only [Tryz.ntmps80,List.length_cons,List.length_nil,List.length_append,List.length_map,Nat.reduceAdd,Nat.reduceSub,List.replicate_succ,List.replicate_zero,List.cons_append,List.nil_append,List.map_cons,List.map_nil,List.append_assoc])
 ((repeat' (first|(apply WL.opN;exact yF;dsimp only [ZA,z0,z1])|refine WL.nil ?_|refine ZC fun Kx hK=>?_|(refine hK _ _ ?_;clear hK)|refine WC.region ?_ |  (refine ZAT (caps:=[]) (ZKW he hS hl) Tryz.call99 OpD.f (by (exact aD)) ?_;rintro d' hp2 ⟨v,rfl,rfl⟩;dsimp only [ZA,z0,z1,List.cons_append,List.nil_append])|refine WC.ret ?_));all_goals (first|((repeat clear hK);(repeat clear Kx))))
 exact ⟨trivial,_,_::hk,rfl,rfl,v,rfl,rfl⟩

theorem ZE5 {s:List Vx} (h:Z3 s=0):s.length≤8:=by
 unfold Z3 at h
 split at h
 ·cases h
 ·split at h
  ·cases h
  ·omega
theorem ZLp (s:List Vx) (k:Int):Fn Tryz.prog 53 [dS ZI s,dI k] (dT [dS ZAe (ZC0 s k).1,dI (ZC0 s k).2]):=by
 (refine ZAl Tryz.func53 rfl rfl ?_;simp only [Tryz.ntmps53,List.length_cons,List.length_nil,Nat.reduceAdd,Nat.reduceSub,List.replicate_succ,List.replicate_zero,List.cons_append,List.nil_append])
 ((repeat' (first|(apply WL.opN;exact yF;dsimp only [ZA,z0,z1])|refine WL.nil ?_|refine ZC fun Kx hK=>?_|(refine hK _ _ ?_;clear hK)|refine WC.region ?_ |  (refine ZAT (hp1:=[]) (caps:=[]) (ZTi k.toNat s) Tryz.call81 OpD.f (by (exact aD)) ?_;rintro d' hp2 ⟨vk,vs,rfl,rfl⟩;dsimp only [ZA,z0,z1,List.cons_append,List.nil_append]) |  (refine ZAT (caps:=[]) (ZON Tryz.call100 (seq_c k.toNat s (by have:=ZE5 (by assumption);omega) (by have:=ZE5 (by assumption);omega) vk vs) (by have:=ZE5 (by assumption);have:=ZCB k.toNat s;have:2 ^ s.length≤2 ^ 8:=Nat.pow_le_pow_right (by decide) (by omega);omega)) Tryz.call80 OpD.f (by (exact aD)) ?_;rintro d' hp2 ⟨v,rfl,rfl⟩;dsimp only [ZA,z0,z1,List.cons_append,List.nil_append])|(apply ZS;(focus (first|exact wN|(apply SYG.yes;(exact wY);((first|(apply SY.call (ZJJ _) Tryz.call63;(exact aD))|exact ZD6|exact ZBy|exact ZIh|exact ZFc|exact ZBq|exact ZFP|fail);all_goals infer_instance))));dsimp only [ZA,z0,z1])|((first|refine Zl rfl rfl rfl (fun h=>?_) (fun h=>?_)|refine Zk rfl rfl rfl (fun h=>?_) (fun h=>?_)|refine Zj rfl rfl rfl (fun h=>?_) (fun h=>?_)) <;> (first|(exfalso;first|omega|contradiction)|(dsimp only [z0,z1])))|(apply WC.condT;(exact oD);(with_reducible rfl))|(apply ZE;(exact oD);all_goals (intro h;try exact xD))|(apply WC.condN;(exact oD);all_goals (intro h;try exact xD))|refine WC.skip ?_|refine WC.ret ?_|refine ThenD.r ?_));all_goals (first|((repeat clear hK);(repeat clear Kx))))
 ·have e1:ZC0 s k=([],Z3 s):=by unfold ZC0;rw [if_pos h]
  rw [e1];(refine ⟨trivial,⟨_,rfl,?_⟩,_,rfl,?_⟩ <;> exact fD)
 ·have e1:ZC0 s k=([],2):=by unfold ZC0;rw [if_neg (by simpa),if_pos (.inl h)]
  rw [e1];(refine ⟨trivial,⟨_,rfl,?_⟩,_,rfl,?_⟩ <;> exact fD)
 ·have e1:ZC0 s k=([],2):=by unfold ZC0;rw [if_neg (by simpa),if_pos (.inr h)]
  rw [e1];(refine ⟨trivial,⟨_,rfl,?_⟩,_,rfl,?_⟩ <;> exact fD)
 ·have e1:ZC0 s k=(Zw k.toNat s,0):=by unfold ZC0;rw [if_neg (by simpa),if_neg (by omega)]
  rw [e1];(refine ⟨trivial,⟨_,rfl,?_⟩,_,rfl,?_⟩ <;> exact fD)
end
end Go.Proofs.YtekiljakcngcoaaGreatDoor
