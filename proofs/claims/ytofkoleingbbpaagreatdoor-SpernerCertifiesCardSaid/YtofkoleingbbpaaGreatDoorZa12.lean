/- Part 12 of the proof. -/
import Derived.Test.YtofkoleingbbpaaGreatDoorZa11
set_option linter.all false
set_option maxRecDepth 100000
set_option maxHeartbeats 64000000
namespace Go.Proofs.YtofkoleingbbpaaGreatDoor
section
open Go.RowKit

theorem ZTg (b cap:Nat) (xs:List Vx) (hl:xs.length≤1000):CallC Tryz.prog 47 ([dX (ZS8 b cap xs)]++([]:List Value).map dX) [hV b xs.length cap 77 xs] fun d' hp2=>∃v,d'=dX v/\hp2=[Zx v 77 2 RV xs,hV b xs.length cap 77 xs]:=by
 (refine ZAf Tryz.func47 rfl rfl (fun hp=>?_);simp only[Tryz.ntmps47,List.length_cons,List.length_nil,List.length_append,List.length_map,Nat.reduceAdd,Nat.reduceSub,List.replicate_succ,List.replicate_zero,List.cons_append,List.nil_append,List.map_cons,List.map_nil,List.append_assoc])
 ((repeat' (first|(apply zV;exact yF;exact zQ)|refine ZVj ?_|refine ZA fun Kx hK=>?_|(refine hK _ _ ?_;clear hK)|refine ZVk ?_ |  (apply ZC1 elV RV (by decide);(intro _;dsimp only[ZC,z0,z1]);all_goals (try infer_instance)) |  (apply ZRG elV;exact ZVh rfl;exact ZVh rfl;decide;(simp;omega);(intro _;dsimp only[ZC,z0,z1]))|(apply zV;(focus ((first|(apply ZN8;exact ZVh rfl;exact ZPL));all_goals infer_instance));exact zQ)|(apply ZQ;exact oD;(with_reducible rfl))|refine ZVr ?_|refine ZVs ?_));all_goals ((repeat clear hK);repeat clear Kx))
 exact⟨trivial,_,[_,_],rfl,rfl,_,rfl,by rw[List.nil_append]⟩

theorem tyFn:TyI Tryz.prog 195 1 false:=⟨by kernel_rfl,Tryz.isAgg195⟩
theorem tyFy:TyI Tryz.prog 48 1 false:=⟨by kernel_rfl,Tryz.isAgg48⟩
theorem tzFn:TyZ Tryz.prog 195 .nilFunc:=⟨by kernel_rfl⟩
abbrev ZPW (v2 v3 v4:Value) (bf:Nat):Value:=.func (.func 143) #[] [v2,v3,v4,.pointer (some ⟨bf,0,none⟩)].toArray
abbrev fromO (k:Nat) (s:List Vx) (l b cap bf:Nat) (v2 v3 v4:Value) (pre:List Vx):List HObj :=
 [hV b pre.length cap 77 pre,Zm bf 195 1 false (dX (ZPW v2 v3 v4 bf)),ZAn v2 (dP 1 false (dI k)),ZAn v3 (dP 1 false (dX (.func (.yield l) #[] #[]))),ZAn v4 (dP 1 false (dS ZI s))]
theorem ZVQ {a b c d e:HObj} {js hp:List HObj}:(a::b::c::d::e::(js++hp)).Perm (js++a::b::c::d::e::hp):=by
 have:(([a,b,c,d,e]++js)++hp).Perm ((js++[a,b,c,d,e])++hp):=List.Perm.append_right _ List.perm_append_comm;simpa using this
set_option maxRecDepth 100000 in
theorem ZVB (k:Nat) (s:List Vx) (hs:s.length≤100) (hk:k≤100) (l N b cap:Nat) (hcap:k≤cap) (J:List (List Vx)->List HObj->Prop) (hY:YStep Tryz.prog l (fun x=>dS ZI x) J N) (v2 v3 v4:Value) (bf:Nat) :
  ∀(m i0:Nat) (pre:List Vx) (done:List (List Vx)) (js:List HObj),s.length-i0=m->i0≤s.length->pre.length≤k->J done js->done.length+(ZT (k-pre.length) (s.drop i0)).length≤N ->
  CallC Tryz.prog 143 ([dI (i0:Int),dX (ZS8 b cap pre)]++[v2,v3,v4,.pointer (some ⟨bf,0,none⟩)].map dX) (fromO k s l b cap bf v2 v3 v4 pre++js)
   (fun d hp2=>d=dB true/\∃js',J (done++(ZT (k-pre.length) (s.drop i0)).map (pre ++ ·)) js'/\hp2=fromO k s l b cap bf v2 v3 v4 pre++js'):=by
 intro m;induction m using Nat.strongRecOn with
 | _ m ih =>
 intro i0 pre done js hm hi0 hpk hj hN;(refine ZAf Tryz.func143 rfl rfl (fun hp=>?_);simp only[Tryz.ntmps143,List.length_cons,List.length_nil,List.length_append,List.length_map,Nat.reduceAdd,Nat.reduceSub,List.replicate_succ,List.replicate_zero,List.cons_append,List.nil_append,List.map_cons,List.map_nil,List.append_assoc])
 refine ZHq 2 rfl (.tail _ (.tail _ (.head _))) ?_;refine ZHq 3 rfl (.tail _ (.tail _ (.tail _ (.head _)))) ?_;refine ZHq 4 rfl (.tail _ (.tail _ (.tail _ (.tail _ (.head _))))) ?_;dsimp only[z0,z1];(repeat' (first |  (refine I.WC.drawW (β:=Value) 2 (fun v=>Zx v 77 2 RV pre::hV b pre.length cap 77 pre::Zm bf 195 1 false (dX (ZPW v2 v3 v4 bf))::ZAn v2 (dP 1 false (dI k))::ZAn v3 (dP 1 false (dX (.func (.yield l) #[] #[])))::ZAn v4 (dP 1 false (dS ZI s))::(js++hp)) (fun v=>dX v) _ rfl (by kernel_rfl) (by kernel_rfl) ?_;simp only[List.take_succ_cons,List.take_zero,List.drop_succ_cons,List.drop_zero])|((first|apply ZVi|apply ZVl);exact yF;dsimp only[ZC,z0,z1])|refine ZVj ?_|refine ZA fun Kx hK=>?_|(refine hK _ _ ?_;clear hK)|refine ZVk ?_|((first|apply ZVi|apply ZVl);(focus ((first|exact ZHe|exact ZA3|fail);all_goals infer_instance));dsimp only[ZC,z0,z1])|(apply ZB;exact oD;all_goals (intro h;try exact xD))|refine ZVr ?_|refine ZVp ?_))
 ·have hpk':pre.length=k:=by omega
  have h0:k-pre.length=0:=by omega
  rw[h0] at hN ⊢;have hsub:ZT 0 (s.drop i0)=[[]]:=by unfold ZT;rfl
  rw[hsub] at hN ⊢;(repeat' (first|refine WDs.nil ?_|(apply WDs.op;(focus (intro c;apply ZVt;(exact ZY rfl);((first|(apply ZVy;exact tyFy;exact ZVh rfl)|exact ZCX|fail);all_goals infer_instance)));dsimp only[ZC,z0,z1])))
  refine⟨SW.callC (hp1:=[_]) (H:=fun v=>[Zx v 77 2 RV pre,hV b pre.length cap 77 pre]) (caps:=[]) (ZTg b cap pre (by omega)) Tryz.call47 ZWO (by exact aD) (fun d hp2 ⟨v,h1,h2⟩=>⟨v,h1,h2⟩),fun v=>?_⟩;dsimp only[ZC,z0,z1];refine I.ZIP (s:=16) rfl ?_;dsimp only[ZC,z0,z1];refine I.WL.perm ZVQ (I.WL.yield (pre:=done) (y:=pre) hY (by simp at hN;omega) hj (ZVh rfl) (ZVh rfl) fun js' hj'=>I.WL.perm ZVQ.symm ?_);dsimp only[ZC,z0,z1];refine I.WL.op rfl (ZVn (ZVh rfl)) ?_;dsimp only[ZC,z0,z1];refine I.WL.nil ?_;((repeat' (first|(refine hK _ _ ?_;clear hK)|refine ZVs ?_|refine ZVz ?_));all_goals ((repeat clear hK);repeat clear Kx))
  exact⟨trivial,_,_::_::_::_::_::js',rfl,rfl,rfl,js',by rw[h0,hsub];simpa using hj',rfl⟩
 ·have hlt:pre.length<k:=by omega
  obtain⟨m1,hm1⟩:∃m1,k-pre.length=m1+1:=⟨k-pre.length-1,by omega⟩;rw[hm1] at hN ⊢;(refine ZV4 (X:=Nat × List (List Vx) × List HObj) (fun x=>[(9,dI (x.1:Int)),(8,dA),(19,dA),(20,dA),(21,dA),(22,dA),(23,dA),(24,dA),(25,dA),(26,dA),(27,dA),(28,dA),(29,dA),(30,dA),(31,dA),(32,dA),(33,dA),(34,dA),(35,dA),(36,dA)]) (fun x=>(hV b pre.length cap 77 pre::Zm bf 195 1 false (dX (ZPW v2 v3 v4 bf))::ZAn v2 (dP 1 false (dI k))::ZAn v3 (dP 1 false (dX (.func (.yield l) #[] #[])))::ZAn v4 (dP 1 false (dS ZI s))::(x.2.2++hp))) (fun x=>s.length-x.1) (fun x=>i0≤x.1/\x.1≤s.length/\J x.2.1 x.2.2/\x.2.1++(ZT (m1+1) (s.drop x.1)).map (pre ++ ·)=done++(ZT (m1+1) (s.drop i0)).map (pre ++ ·)) (i0,done,js) ?start ?frame0 ?objs0 ?round)
  case start=>exact⟨Nat.le_refl _,hi0,hj,rfl⟩
  case frame0=>exact zFr
  case objs0=>rfl
  case round =>
   rintro⟨i,dn,js1⟩ ⟨q1,q2,q3,q4⟩;simp only at q1 q2 q3 q4;dsimp only[ZH,z0,z1];((repeat' (first |  (refine WC.drawW (β:=Unit) 9 (fun _=>hV b (pre++[s[i]'(by omega)]).length cap 77 (pre++[s[i]'(by omega)])::Zm bf 195 1 false (dX (ZPW v2 v3 v4 bf))::ZAn v2 (dP 1 false (dI k))::ZAn v3 (dP 1 false (dX (.func (.yield l) #[] #[])))::ZAn v4 (dP 1 false (dS ZI s))::(js1++hp)) (fun _=>dX (ZS8 b cap (pre++[s[i]'(by omega)]))) _ rfl (by kernel_rfl) (by kernel_rfl) ?_;simp only[List.take_succ_cons,List.take_zero,List.drop_succ_cons,List.drop_zero])|((first|apply ZVi|apply ZVl);exact yF;dsimp only[ZC,z0,z1])|refine ZVj ?_|refine ZA fun Kx hK=>?_|(refine hK _ _ ?_;clear hK)|(refine ZV0 ?_;clear hK)|refine ZVk ?_|((first|apply ZVi|apply ZVl);(focus ((first|exact ZBF|exact ZA3|fail);all_goals infer_instance));dsimp only[ZC,z0,z1])|(apply ZB;exact oD;all_goals (intro h;try exact xD))|refine ZVr ?_|refine ZVs ?_|refine ZV1 ?_|refine ZVp ?_));all_goals (first|refine WDs.id ?_|((repeat clear hK);(repeat clear Kx))))
   ·have hi:i<s.length:=by omega
    (repeat' (first|refine WDs.nil ?_|(apply WDs.op;(focus (intro c;apply ZVt;(exact ZY rfl);((first|(apply ZBV;exact tyFn;exact ZVh rfl;(refine HH.mem ?_ (fun _=>?_) <;> exact .tail _ (.head _)))|(refine Zy (R:=RV) (_gR:=inferInstance) (k:=i) elV ?_ ?_ hi;exact ZVh rfl;exact ZVh rfl)|exact ZCX|exact ZBg|exact ZDf|exact ZBQ|fail);all_goals infer_instance)));dsimp only[ZC,z0,z1])))
    refine⟨ZN5 elV (ZVh rfl) (ZVh rfl) (by omega),fun _=>?_⟩;dsimp only[ZC,z0,z1];have hd:=ZFp m1 s i hi;have hlen:=congrArg List.length q4;simp only[hd,List.length_append,List.length_map] at hlen;have hk1:k-(pre++[s[i]]).length=m1:=by simp;omega
    have hC:=ih (s.length-(i+1)) (by omega) (i+1) (pre++[s[i]]) dn js1 rfl (by omega) (by simp;omega) q3 (by rw[hk1];omega);rw[hk1] at hC;refine WL.callC (hp1:=fromO k s l b cap bf v2 v3 v4 (pre++[s[i]])++js1) hC Tryz.call143 (ZVh rfl) (by exact aD) ?_;rintro d' hp2 ⟨rfl,js2,hj2,rfl⟩;dsimp only[ZC,z0,z1,List.cons_append,List.nil_append];refine ZLK (k:=pre.length) (by simp) ?_;rw[List.take_left' rfl];((repeat' (first|refine zS ?_|(refine hK _ _ ?_;clear hK)|(apply zV;(focus ((first|exact ZLC|exact ZBg);all_goals infer_instance));exact zQ)|(apply ZO;exact oD;all_goals (intro h;try exact xD))|refine ZVr ?_|refine ZVx ?_));all_goals ((repeat clear hK);repeat clear Kx))
    (refine zNx (i+1,dn++List.map (fun x=>pre++[s[i]]++x) (ZT m1 (List.drop (i+1) s)),js2) ?_;(try dsimp only))
    refine⟨by omega,by omega,hj2,?_⟩;rw[<- q4,hd,List.map_append,List.map_map,List.append_assoc];congr 2;apply List.map_congr_left;intro x _;simp
   ·have hi:s.length≤i:=by omega
    have hd:ZT (m1+1) (List.drop i s)=[]:=by rw[List.drop_eq_nil_of_le hi];rfl
    rw[hd] at q4;simp only[List.map_nil,List.append_nil] at q4;exact⟨trivial,_,_::_::_::_::_::js1,rfl,rfl,rfl,js1,by rw[hm1,<- q4];exact q3,rfl⟩
theorem perm2 {a b:HObj} {js hp:List HObj}:(js++a::b::hp).Perm (a::b::(js++hp)):=ZDC.symm
set_option maxRecDepth 100000 in
theorem seq_c (k:Nat) (s:List Vx) (hs:s.length≤100) (hk:k≤100) (vk vs:Value):SeqC Tryz.prog 142 [vk,vs] [ZAn vk (dP 1 false (dI k)),ZAn vs (dP 1 false (dS ZI s))] (fun x=>dS ZI x) (ZT k s):=⟨fun l J hY js hj=>by
 (refine ZDk Tryz.func142 rfl rfl (fun hp=>?_);simp only[Tryz.ntmps142,List.length_cons,List.length_nil,List.length_append,List.length_map,Nat.reduceAdd,Nat.reduceSub,List.replicate_succ,List.replicate_zero,List.cons_append,List.nil_append,List.map_cons,List.map_nil,List.append_assoc])
 refine ZL6 perm2 ?_;(repeat' (first |  (refine ZJg (d:=dP 1 false (dX (.func (.yield l) #[] #[]))) 3 rfl fun v3=>?_;dsimp only[z0,z1]) |  (refine ZHq (d:=dP 1 false (dI k)) 1 rfl (.tail _ (.tail _ (.head _))) ?_;dsimp only[z0,z1];refine WC.drawW (β:=Nat) 2 (fun b=>hV b 0 k 77 []::Zm bf 195 1 false (dX (ZPW vk v3 vs bf))::ZAn v3 (dP 1 false (dX (.func (.yield l) #[] #[])))::ZAn vk (dP 1 false (dI k))::ZAn vs (dP 1 false (dS ZI s))::(js++hp)) (fun b=>dX (.slice (some ⟨b,0,none⟩) 0 k)) _ rfl (by kernel_rfl) (by kernel_rfl) ?_;simp only[List.take_succ_cons,List.take_zero,List.drop_succ_cons,List.drop_zero])|refine ZVj ?_|refine ZA fun Kx hK=>?_|(refine hK _ _ ?_;clear hK)|refine ZVk ?_ |  (apply ZWF tzFn;exact Z0 rfl;(intro bf;dsimp only[ZC,z0,z1])) |  (apply ZC2 tyFn;exact ZVh rfl;exact ZVh rfl;exact Z0 rfl;dsimp only[ZC,z0,z1])|((first|apply ZVi|apply ZVl);(focus ((first|(apply ZGE;repeat (first|exact ArgsX.nil|(apply ArgsX.cons;exact ZVh rfl)))|exact ZEL|fail);all_goals infer_instance));dsimp only[ZC,z0,z1])))
 (repeat' (first|refine WDs.nil ?_|(apply WDs.op;(focus (intro c;apply ZVt;(exact ZY rfl);((first|(apply ZBV;exact tyFn;exact ZVh rfl;(refine HH.mem ?_ (fun _=>?_) <;> first|exact .head _|exact .tail _ (.head _)))|exact ZDf|fail);all_goals infer_instance)));dsimp only[ZC,z0,z1])))
 refine⟨ZQ1 elV (ZVh rfl) rfl (by omega) (by simp only[maxLen];omega),fun b=>?_⟩;dsimp only[ZC,z0,z1];have hC:=ZVB k s hs hk l (ZT k s).length b k (Nat.le_refl _) J hY vk v3 vs bf s.length 0 [] [] js rfl (Nat.zero_le _) (Nat.zero_le _) hj (by simp);refine ZWP (((List.Perm.swap _ _ _).cons _).cons _) ?_;refine WL.callC (hp1:=fromO k s l b k bf vk v3 vs []++js) hC Tryz.call143 (ZVh rfl) (by exact aD) ?_;rintro d' hp2 ⟨rfl,js',hj',rfl⟩;simp only[List.length_nil,Nat.sub_zero,List.drop_zero,List.nil_append,List.map_id'] at hj';dsimp only[ZC,z0,z1,List.cons_append,List.nil_append];refine WL.drop (WL.drop (ZWP (List.Perm.swap _ _ _) (WL.drop (ZWP ZDC (ZVj ?_)))));exact⟨trivial,js'++[_,_],by simp,js',hj',rfl⟩⟩
theorem ZTl (k:Nat) (s:List Vx):CallC Tryz.prog 113 ([dS ZI s,dI k]++([]:List Value).map dX) [] (fun d hp2=>∃vk vs,d=dX (.func (.func 142) #[] [vk,vs].toArray)/\hp2=[ZAn vk (dP 1 false (dI k)),ZAn vs (dP 1 false (dS ZI s))]):=by
 (refine ZAf Tryz.func113 rfl rfl (fun hp=>?_);simp only[Tryz.ntmps113,List.length_cons,List.length_nil,List.length_append,List.length_map,Nat.reduceAdd,Nat.reduceSub,List.replicate_succ,List.replicate_zero,List.cons_append,List.nil_append,List.map_cons,List.map_nil,List.append_assoc])
 ((repeat' (first |  (refine ZJg (d:=dP 1 false (dS ZI s)) 2 rfl fun vs=>?_;dsimp only[z0,z1];refine ZJg (d:=dP 1 false (dI k)) 3 rfl fun vk=>?_;dsimp only[z0,z1])|(apply ZVi;exact yF;dsimp only[ZC,z0,z1])|refine ZVj ?_|refine ZA fun Kx hK=>?_|(refine hK _ _ ?_;clear hK)|refine ZVk ?_|(apply ZVi;(focus ((first|(apply ZGE;repeat (first|exact ArgsX.nil|(apply ArgsX.cons;exact ZVh rfl)))|exact ZEL|fail);all_goals infer_instance));dsimp only[ZC,z0,z1])|refine ZVs ?_));all_goals ((repeat clear hK);repeat clear Kx))
 exact⟨trivial,_,[_,_],rfl,rfl,vk,vs,rfl,rfl⟩

end
section
open Go.RowKit
section
variable {P:Program} {ops:Array Oper} {hp:List HObj} {o:Oper} {fr:List Dat} {d:Dat} {Q:Exit->Act->World->Prop} {rest:List Oper} {P0:Nat->Prop} {B:Nat} {w0 w:World} {a:Act}
theorem ZDe (hg:o.guard=none) (h:SY P ops hp o fr d) (hh:Hp P0 B w0 hp w) (hf:Fr (Imm P0 B hp) w { tmps:=a.tmps,defers:=[] } fr)
  (k:∀a' w',a'.defers=a.defers->Hp P0 B w0 hp w'->Fr (Imm P0 B hp) w' { tmps:=a'.tmps,defers:=[] } (ZC fr o.dst d)->wpList P ops Q rest a' w'):wpList P ops Q (o::rest) a w:=by
 unfold wpList;have hwant:Region.wanted o (yielded ops a.tmps)=true:=by simp[Region.wanted,hg]
 rw[if_pos hwant];refine .inl (h.out hh (a:=a) ⟨hf.size,fun t _ d hd=>hf.rd t d hd⟩ _ _ fun v w' e hd=>?_);have hf2:=ZWN (x:=o.dst) (hf.ext e) hd;refine k (a.put o.dst v) w' ?_ (hh.ext e) ?_
 ·cases o.dst <;> rfl
 ·have e1:({ tmps:=(a.put o.dst v).tmps,defers:=[] }:Act)=({ tmps:=a.tmps,defers:=[] }:Act).put o.dst v:=by cases o.dst <;> rfl
  rw[e1];exact hf2
end
namespace I
section
variable {P:Program} {ops:Array Oper} {hp:List HObj} {fr:List Dat} {Q:Z4} {rest:List Oper}
theorem ZFQ {α:Type} {R:Rel α} {_gR:Good R} {v:Value} {e:TypeId} {xs:List α} (hm:Zk v e R xs∈hp) (h:(∃a c,v = .slice a xs.length c)->WL P ops Q rest fr hp):WL P ops Q rest fr hp:=WL.of fun _ _ _ _ _ hh hf =>
 (h (Own.len (hh.ok _ hm))).on hh hf
end
end I
end
section
open Go.RowKit

abbrev apO (b:Nat) (xs:List (List Vx)) (hs:List HObj):Prop:=∃sv,hs=[Zm b 27 1 false (dX sv),Zk sv 22 ZI xs]
theorem tySj:TyI Tryz.prog 27 1 false:=⟨by kernel_rfl,Tryz.isAgg27⟩
set_option maxRecDepth 100000 in
theorem ZLM {gf:FuncId} {lb:List Value} {hk:List HObj} {xs:List (List Vx)} (he:ZBR Tryz.prog gf) (hS:SeqC Tryz.prog gf lb hk (fun x=>dS ZI x) xs) (hl:xs.length≤1000000) :
  CallC Tryz.prog 141 ([dX (.slice none 0 0),dX (.func (.func gf) #[] lb.toArray)]++([]:List Value).map dX) hk (fun d hp2=>∃v,d=dX v/\hp2=Zk v 22 ZI xs::hk):=⟨fun P0 B w0 hp vs W hh hl0 hv=>by
 refine(callsIn_wide (n:=0)).1 (callsIn_of_wp_marks Tryz.func141 rfl trivial ?_ rfl);refine wpIn_wide.2 ?_;have hf0:=ZCA (m:=11) hl0 hv;have hsz:vs.toArray.size=2:=by simpa using hl0
 rw[hsz];have hnt:Tryz.f141.ntmps=13:=rfl;rw[hnt];simp only[List.length_cons,List.length_nil,Nat.reduceAdd,Nat.reduceSub,List.replicate_succ,List.replicate_zero,List.cons_append,List.nil_append,List.map_nil] at hf0 ⊢;refine wp_seq (Code.wp_mono ?_ (WC.on (Q:=fun e f q=>e = .normal/\∃b,f=[dX (.slice none 0 0),dX (.func (.func gf) #[] lb.toArray),dX (.pointer (some ⟨b,0,none⟩)),dX undef,dX (.slice none 0 0),dX undef,dX undef,dX undef,dX undef,dX undef,dX undef,dX undef,dX undef]/\q=[Zm b 27 1 false (dX (.slice none 0 0)),Zk (.slice none 0 0) 22 ZI []]++(hk++hp)) ?_ hh hf0))
 rotate_left
 ·refine ZVk ?_;refine ZEt 22 ZI ?_;refine ZLJ (ZVh rfl) (Z0 rfl) fun b=>?_;dsimp only[ZC,z0,z1];refine WL.op rfl (ZVn ZWQ) (ZVj ?_);exact⟨rfl,b,rfl,rfl⟩
 rintro e a1 w1 ⟨f1,q1,⟨rfl,b,rfl,rfl⟩,hh1,hf1⟩;show Code.wp _ _ _ _ _;refine wp_seq ?_;refine wp_seq (Code.wp_mono ?_ (WC.on (Q:=fun e f q=>e = .normal/\f=[dX (.slice none 0 0),dX (.func (.func gf) #[] lb.toArray),dX (.pointer (some ⟨b,0,none⟩)),dX undef,dX (.slice none 0 0),dX undef,dX (.func (.func gf) #[] lb.toArray),dX undef,dX undef,dX undef,dX undef,dX undef,dX undef]/\q=[Zm b 27 1 false (dX (.slice none 0 0)),Zk (.slice none 0 0) 22 ZI []]++(hk++hp)) ?_ hh1 hf1))
 rotate_left
 ·refine ZVk ?_;refine WL.op rfl (ZVo (ZVh rfl)) (ZVj ?_);exact⟨rfl,rfl,rfl⟩
 rintro e a2 w2 ⟨f2,q2,⟨rfl,rfl,rfl⟩,hh2,hf2⟩;show Code.wp _ _ _ _ _;refine wp_block ?_;refine ZQn (hs0:=[_,_]) (hk:=hk) (hp:=hp) (xs:=xs) (D:=fun x=>dS ZI x) (apO b) _ (fun x=>[dX (.slice none 0 0),dX (.func (.func gf) #[] lb.toArray),dX (.pointer (some ⟨b,0,none⟩)),dX undef,dX (.slice none 0 0),dS ZI x,dX (.func (.func gf) #[] lb.toArray),dS ZI x,dX undef,dX undef,dX undef,dX undef,dX undef]) hh2 hf2 (ZVh rfl) he hS ⟨_,rfl⟩ (by repeat (first|exact FixF.nil|apply FixF.x)) ?_ ?_ ?_
 ·intro l x q;refine WR.region rfl (I.WL.op rfl (ZVn (ZVh rfl)) (I.WL.nil ⟨rfl,rfl,rfl⟩))
 ·rintro l pre x hs q hlt ⟨sv,rfl⟩;refine WR.block (WR.region rfl ?_);refine I.WL.op rfl (ZBV tySj (ZVh rfl) (.head _)) ?_;dsimp only[ZC,z0,z1,List.cons_append,List.nil_append];refine I.WL.op rfl (ZVo (ZVh rfl)) ?_;dsimp only[ZC,z0,z1];refine I.WL.perm (List.Perm.swap _ _ _) (I.Zl ZB8 (ZVh rfl) (ZVh rfl) (fun _=>ZAd) (by simp) (by simp) (by decide) (by omega) fun v'=>?_);dsimp only[ZC,z0,z1];refine I.ZFQ (.head _) fun⟨ad,c,hv'⟩=>?_;refine I.WL.perm (List.Perm.swap _ _ _) (I.ZC2 tySj (ZVh rfl) (ZVh rfl) (Z0 (by rw[hv'];rfl)) (I.WL.nil ?_));exact⟨rfl,_,⟨v',rfl⟩,rfl⟩
 ·rintro k hs w3 ⟨sv,rfl⟩ hh3 hrd;show Code.wp _ _ _ _ _;have hf3:Fr (Imm P0 B (ZA2 k (.deferred (some []))::([Zm b 27 1 false (dX sv),Zk sv 22 ZI xs]++(hk++hp)))) w3 { tmps:=a2.tmps,defers:=[] } _:=⟨rfl,hf2.size,hrd⟩;refine wp_seq (wp_region_lit ?_);refine ZDe rfl (ZBV tySj (ZVh rfl) (.tail _ (.head _))) hh3 hf3 fun a4 w4 hd4 hh4 hf4=>?_;refine ZDe rfl (ZVn (ZVh rfl)) hh4 hf4 fun a5 w5 hd5 hh5 hf5=>?_;refine wpList_nil ?_;show Code.wp _ _ _ _ _;refine wp_ret ?_;show LeavesInM _ _ _ _ _ _ _ _ _;rw[hd5,hd4,hf2.defers];have hK:w5.heap[k]?=some (.deferred (some [])):=hh5.ok (ZA2 k (.deferred (some []))) (by simp);refine⟨by simp,.inl ⟨_,_,rfl,run_takeDeferred hK,_,results_tmp rfl _ _ _,?_⟩⟩;have hh6:=(ZWl (o':=.deferred none) hh5).drop.drop;exact⟨_,dX sv,Zk sv 22 ZI xs::hk,rfl,⟨sv,rfl,rfl⟩,hh6,hf5.rd 4 _ rfl⟩⟩
theorem ZPB {gf:FuncId} {lb:List Value} {hk:List HObj} {xs:List (List Vx)} (he:ZBR Tryz.prog gf) (hS:SeqC Tryz.prog gf lb hk (fun x=>dS ZI x) xs) (hl:xs.length≤1000000) :
  CallC Tryz.prog 112 ([dX (.func (.func gf) #[] lb.toArray)]++([]:List Value).map dX) hk (fun d hp2=>∃v,d=dX v/\hp2=Zk v 22 ZI xs::hk):=by
 (refine ZAf Tryz.func112 rfl rfl (fun hp=>?_);simp only[Tryz.ntmps112,List.length_cons,List.length_nil,List.length_append,List.length_map,Nat.reduceAdd,Nat.reduceSub,List.replicate_succ,List.replicate_zero,List.cons_append,List.nil_append,List.map_cons,List.map_nil,List.append_assoc])
 ((repeat' (first|(apply zV;exact yF;exact zQ)|refine ZVj ?_|refine ZA fun Kx hK=>?_|(refine hK _ _ ?_;clear hK)|refine ZVk ?_ |  (refine WL.callC (caps:=[]) (ZLM he hS hl) Tryz.call141 ZWO (by exact aD) ?_;rintro d' hp2 ⟨v,rfl,rfl⟩;dsimp only[ZC,z0,z1,List.cons_append,List.nil_append])|refine ZVs ?_));all_goals ((repeat clear hK);repeat clear Kx))
 exact⟨trivial,_,_::hk,rfl,rfl,v,rfl,rfl⟩

theorem ZFX {s:List Vx} (h:ZAC s=0):s.length≤8:=by
 unfold ZAC at h;split at h
 ·cases h
 ·split at h
  ·cases h
  ·omega
theorem ZIe (s:List Vx) (k:Int):Fn Tryz.prog 68 [dS ZI s,dI k] (dT [dS Zh (ZDg s k).1,dI (ZDg s k).2]):=by
 refine zF Tryz.func68 24 ?_;((repeat' (first|(apply zV;exact yF;exact zQ)|refine ZVj ?_|refine ZA fun Kx hK=>?_|(refine hK _ _ ?_;clear hK)|refine ZVk ?_ |  (refine WL.callC (hp1:=[]) (caps:=[]) (ZTl k.toNat s) Tryz.call113 ZWO (by exact aD) ?_;rintro d' hp2 ⟨vk,vs,rfl,rfl⟩;dsimp only[ZC,z0,z1,List.cons_append,List.nil_append]) |  (refine WL.callC (caps:=[]) (ZPB Tryz.call142 (seq_c k.toNat s (by have:=ZFX (by assumption);omega) (by have:=ZFX (by assumption);omega) vk vs) (by have:=ZFX (by assumption);have:=ZAo k.toNat s;have:2 ^ s.length≤2 ^ 8:=Nat.pow_le_pow_right (by decide) (by omega);omega)) Tryz.call112 ZWO (by exact aD) ?_;rintro d' hp2 ⟨v,rfl,rfl⟩;dsimp only[ZC,z0,z1,List.cons_append,List.nil_append])|(apply ZF;(focus (first|exact wN|(apply ZVt;exact wY;((first|(apply ZVm (ZNF _) Tryz.call39;exact aD)|exact ZCX|exact ZBF|exact ZFM|exact ZEm|exact ZA3|exact ZCV|fail);all_goals infer_instance))));dsimp only[ZC,z0,z1])|((first|refine ZM rfl rfl rfl (fun h=>?_) (fun h=>?_)|refine ZL rfl rfl rfl (fun h=>?_) (fun h=>?_)|refine ZK rfl rfl rfl (fun h=>?_) (fun h=>?_)) <;> (first|(exfalso;first|omega|contradiction)|(dsimp only[z0,z1])))|(apply Zf;exact oD;(with_reducible rfl))|(apply ZB;exact oD;all_goals (intro h;try exact xD))|(apply ZG;exact oD;all_goals (intro h;try exact xD))|refine ZVr ?_|refine ZVs ?_|refine ZVz ?_));all_goals ((repeat clear hK);repeat clear Kx))
 ·have e1:ZDg s k=([],ZAC s):=by unfold ZDg;rw[if_pos h]
  rw[e1];(refine⟨trivial,⟨_,rfl,?_⟩,_,rfl,?_⟩ <;> exact fD)
 ·have e1:ZDg s k=([],2):=by unfold ZDg;rw[if_neg (by simpa),if_pos (.inl h)]
  rw[e1];(refine⟨trivial,⟨_,rfl,?_⟩,_,rfl,?_⟩ <;> exact fD)
 ·have e1:ZDg s k=([],2):=by unfold ZDg;rw[if_neg (by simpa),if_pos (.inr h)]
  rw[e1];(refine⟨trivial,⟨_,rfl,?_⟩,_,rfl,?_⟩ <;> exact fD)
 ·have e1:ZDg s k=(ZT k.toNat s,0):=by unfold ZDg;rw[if_neg (by simpa),if_neg (by omega)]
  rw[e1];(refine⟨trivial,⟨_,rfl,?_⟩,_,rfl,?_⟩ <;> exact fD)
end
section
open Go.RowKit

section
variable {P:Program} {f:FuncId} {fn:Func} {c:Code} {t u:Tmp} {ds:List Dat} {hp1:List HObj} {K:Dat->List HObj->Prop}
def ZU9 (t u:Nat) (K:Dat->List HObj->Prop) (hp:List HObj):Z4:=fun e f q=>(match e with|.normal|.ret=>True|_=>False)/\∃d d' hp2,f[t]?=some d/\f[u]?=some d'/\q=hp2++hp/\K (dT [d,d']) hp2
theorem ZJV (hf:P.funcs[f]?=some fn) (hb:fn.body=some c) (hr:fn.results=#[.tmp t,.tmp u])
  (h:∀hp,WC P (ZU9 t u K hp) c (ds++List.replicate (fn.ntmps-ds.length) (dX undef)) (hp1++hp)):CallC P f ds hp1 K:=⟨fun P0 B w0 hp vs W hh hl hv=>by
 refine calls_of_wp hf hb ?_;have hf0:=ZCA (m:=fn.ntmps-ds.length) hl hv;have hsz:vs.toArray.size=ds.length:=by simp[hl]
 rw[hsz];refine Code.wp_mono (fun e a' w' ⟨f',p',q,hh',hf'⟩=>?_) ((h hp).on hh hf0);obtain⟨hx,d,d',hp2,hd,hd',rfl,hk'⟩:=q;have hv:=hf'.rd t d hd;have hv':=hf'.rd u d' hd';have hT:(dT [d,d']).rd (Imm P0 B (hp2++hp)) w' (.tuple #[a'.tmps.getD t undef,a'.tmps.getD u undef]):=⟨[a'.tmps.getD t undef,a'.tmps.getD u undef],rfl,rfl,fun i e x he hx=>by
  match i,he,hx with
  | 0,he,hx=>cases he;cases hx;exact hv
  | 1,he,hx=>cases he;cases hx;exact hv'⟩
 cases e with
 | normal=>exact⟨hf'.defers,_,results_tmp2 hr _ _ _,_,_,hp2,rfl,hk',hh',hT⟩
 | ret=>exact⟨hf'.defers,_,results_tmp2 hr _ _ _,_,_,hp2,rfl,hk',hh',hT⟩
 | _=>exact hx.elim⟩
end
theorem ZKR:MapT Tryz.prog 200 202 4 (.bool false):=⟨Tryz.underlying200,fun w=>by kernel_rfl⟩
abbrev vvB (b:Bool):Value:=.bool b
abbrev ZTB (o:Cx):List (List Vx × Bool):=o.map fun f=>(f,true)
abbrev ZVD (b:Nat) (o:Cx):HObj:=hM b kvK vvB (ZTB o)
theorem ZKp (o:Cx):(ZTB o).map (·.1)=o:=by unfold ZTB;rw[List.map_map];exact List.map_id _
theorem ZPg (o:Cx) (f:List Vx):((lookM (ZTB o) f).map vvB).getD (.bool false) = .bool (decide (f∈o)):=by
 unfold lookM ZTB;by_cases h:f∈o
 ·rw[decide_eq_true h];have:∃q,(o.map fun f=>(f,true)).find? (fun p=>decide (p.1=f))=some q/\q.2=true:=by
   have h1:((o.map fun f=>(f,true)).find? (fun p=>decide (p.1=f))).isSome:=by
    rw[List.find?_isSome];exact⟨(f,true),List.mem_map_of_mem h,by simp⟩
   obtain⟨q,hq⟩:=Option.isSome_iff_exists.1 h1;refine⟨q,hq,?_⟩;obtain⟨x,_,rfl⟩:=List.mem_map.1 (List.mem_of_find?_eq_some hq);rfl
  obtain⟨q,hq,hq2⟩:=this;rw[hq];simp[hq2]
 ·rw[decide_eq_false h];have:(o.map fun f=>(f,true)).find? (fun p=>decide (p.1=f))=none:=by
   rw[List.find?_eq_none];intro p hp;obtain⟨x,hx,rfl⟩:=List.mem_map.1 hp;simp only[decide_eq_true_eq];intro e;exact h (e ▸ hx)
  rw[this];rfl
theorem ZMe {s:List Vx} (h:ZAC s=0):okK s:=⟨ZHC h,fun v hv=>⟨ZR3 h v hv,(ZMn.1 ((Zi.1 h).2.2.1 v hv)).1⟩⟩
section
variable {ops:Array Oper} {hp:List HObj} {fr:List Dat} {d:Dat} {Q:Z4} {rest:List Oper} {dst:Option Tmp} {ty:TypeId} {ps:String} {af:Array Edge} {g:Option (Nat × Bool)} {b:Nat} {o:Cx} {f:List Vx}
theorem ZM0 {x y:Operand} (hx:OpD fr x (dX (.map (some b)))) (hm:ZVD b o∈hp) (hy:OpD fr y (dX (kvK f))) (hf:okK f) (ho:∀g∈o,okK g) (hn:o.Nodup) :
  SY Tryz.prog ops hp ⟨dst,.lookup 200 x y false,ty,ps,af,g⟩ fr (dB (decide (f∈o))):=by
 have h:=SY.lookM (dst:=dst) (ty:=ty) (ps:=ps) (af:=af) (g:=g) (ops:=ops) ZKR ZSx hx hm hy isX hf (fun p hp=>by obtain⟨x,hx,rfl⟩:=List.mem_map.1 hp;exact ho x hx) (by rw[ZKp];exact hn);rw[ZPg] at h;exact h
theorem ZOf {x y c:Operand} (hx:OpD fr x (dX (.map (some b)))) (hy:OpD fr y (dX (kvK f))) (hc:OpD fr c (dX (.bool true))) (hf:okK f) (ho:∀g∈o,okK g) (hn:o.Nodup) (hnew:f∉o)
  (h:WL Tryz.prog ops Q rest (ZC fr dst (dX undef)) (ZVD b (o++[f])::hp)) :
  WL Tryz.prog ops Q (⟨dst,.mapUpdate 200 x y c,ty,ps,af,none⟩::rest) fr (ZVD b o::hp):=by
 refine ZBW (u:=true) ZKR ZSx hx hy isX hc ⟨fun _ _ _ h=>h⟩ hf (fun p hp=>by obtain⟨x,hx,rfl⟩:=List.mem_map.1 hp;exact ho x hx) (by rw[ZKp];exact hn) ?_;have e:ZCH (ZTB o) f true=ZTB (o++[f]):=by
  rw[ZDa (fun p hp=>by obtain⟨x,hx,rfl⟩:=List.mem_map.1 hp;intro e;exact hnew (e ▸ hx))];simp[ZTB]
 rw[e];exact h
end
theorem ZPN {l:Cx} (h:∀s∈l,ZAC s=0) {k:Nat} (hk:0<k) {n:Nat} (hn:n≤l.length):∀f∈ZK8 (l.take n) k,ZAC f=0:=fun f hf=>by
 obtain⟨s,hs,hf⟩:=ZB7.1 (((ZEB l k n hn).2 f).1 hf);exact(ZA7 (h s (List.mem_of_mem_take hs)) hk hf).1
def ZBp (l:Cx) (k:Nat):Prop:=4096<(ZAi l k).length
theorem ZTm (l:Cx) (k:Nat) (hk:0<k) (hg:∀s∈l,ZAC s=0) (hl:l.length≤1000000):CallC Tryz.prog 131 [dS Zh l,dI (k:Int)] []
  (fun d hp2=>(ZBp l k/\d=dT [dX (.slice none 0 0),dI 17]/\hp2=[])\/(¬ ZBp l k/\∃v,d=dT [dX v,dI 0]/\hp2=[Zk v 22 ZI (ZAi l k)])):=by
 refine ZEa (K:=fun d hp2=>(ZBp l k/\d=dT [dX (.slice none 0 0),dI 17])\/(¬ ZBp l k/\∃v o,d=dT [dX v,dI 0]/\hp2=[Zk v 22 ZI (ZAi l k),o])) ?_ ?_
 rotate_left
 ·rintro d hp2 (⟨h1,h2⟩|⟨h1,v,o,h2,rfl⟩)
  ·exact⟨hp2,[],by simp,.inl ⟨h1,h2,rfl⟩⟩
  ·exact⟨[o],[_],List.Perm.swap _ _ _,.inr ⟨h1,v,h2,rfl⟩⟩
 refine ZJV Tryz.func131 rfl rfl (fun hp=>?_);simp only[Tryz.ntmps131,List.length_cons,List.length_nil,Nat.reduceAdd,Nat.reduceSub,List.replicate_succ,List.replicate_zero,List.cons_append,List.nil_append];(repeat' (first|(apply zV;exact yF;exact zQ)|refine ZVj ?_|refine ZA fun Kx hK=>?_|(refine hK _ _ ?_;clear hK)|refine ZVk ?_ |  (refine ZWm kvK vvB fun b=>?_;dsimp only[ZC,z0,z1])|(apply zV;(focus ((first|exact ZA3);all_goals infer_instance));exact zQ)|refine ZVp ?_))
 refine Zn 22 ZI ?_;(refine ZV4 (X:=Nat × Value × Cx) (fun x=>[(17,dI (x.1:Int)),(7,dX x.2.1),(4,dA),(5,dA),(9,dA),(10,dA),(11,dA),(13,dA),(18,dA),(19,dA),(20,dA),(21,dA),(22,dA),(23,dA),(24,dA),(25,dA),(26,dA),(27,dA),(28,dA),(29,dA),(30,dA),(31,dA),(32,dA),(33,dA),(34,dA),(35,dA),(36,dA),(37,dA),(38,dA),(39,dA),(40,dA),(41,dA),(42,dA),(43,dA),(44,dA),(45,dA),(46,dA),(47,dA),(48,dA),(49,dA),(50,dA),(51,dA),(52,dA),(53,dA),(54,dA),(55,dA),(56,dA)]) (fun x=>(Zk x.2.1 22 ZI x.2.2::ZVD b x.2.2::hp)) (fun x=>l.length-x.1) (fun x=>x.1≤l.length/\x.2.2=ZK8 (l.take x.1) k/\x.2.2.length≤4096) (0,.slice none 0 0,[]) ?start ?frame0 ?objs0 ?round)
 case start=>exact⟨Nat.zero_le _,rfl,Nat.zero_le _⟩
 case frame0=>exact zFr
 case objs0=>rfl
 case round =>
  rintro⟨i,v,o⟩ ⟨h1,h2,h3⟩;simp only at h1 h2 h3;dsimp only[ZH,z0,z1];by_cases hil:i<l.length
  ·by_cases hks:l[i].length<k
   ·((repeat' (first|refine zS ?_|refine ZA fun Kx hK=>?_|(refine hK _ _ ?_;clear hK)|(refine ZV0 ?_;clear hK)|(apply zV;(focus ((first|exact ZBF|exact ZBg|exact ZA3|exact ZS);all_goals infer_instance));exact zQ)|(apply ZB;exact oD;all_goals (intro h;try exact xD))|refine ZVr ?_|refine ZV1 ?_|refine ZVp ?_|refine ZVx ?_));all_goals ((repeat clear hK);repeat clear Kx))
    (refine zNx (i+1,v,o) ?_;(try dsimp only))
    refine⟨by omega,?_,h3⟩;show o=_;rw[ZG2 hil,if_pos hks,h2]
   ·have hgi:=hg _ (List.getElem_mem hil);have hF:Fn Tryz.prog 68 [dS ZI l[i],dI (k:Int)] (dT [dS Zh (ZT k l[i]),dI 0]):=by
     have:=ZIe l[i] (k:Int);rwa[ZEg hgi hk (by omega)] at this
    have hlen:(ZT k l[i]).length≤256:=Nat.le_trans (ZAo k l[i]) (Nat.pow_le_pow_right (by decide) (ZHC hgi):2 ^ l[i].length≤2 ^ 8);(repeat' (first|refine zS ?_|refine ZA fun Kx hK=>?_|(refine hK _ _ ?_;clear hK)|(apply zV;(focus ((first|(apply ZVm (hF) Tryz.call68;exact aD)|exact ZBF|exact ZEm|exact ZA3|exact ZS|exact ZEM);all_goals infer_instance));exact zQ)|(apply ZB;exact oD;all_goals (intro h;try exact xD))|(apply ZG;exact oD;all_goals (intro h;try exact xD))|refine ZVr ?_|refine ZVp ?_))
    (refine ZV4 (X:=Nat × Value × Cx) (fun x=>[(36,dI (x.1:Int)),(7,dX x.2.1),(13,dA),(37,dA),(38,dA),(39,dA),(40,dA),(41,dA),(42,dA),(43,dA),(44,dA),(45,dA),(46,dA),(47,dA),(48,dA),(49,dA),(50,dA),(51,dA),(52,dA)]) (fun x=>(Zk x.2.1 22 ZI x.2.2::ZVD b x.2.2::hp)) (fun x=>(ZT k l[i]).length-x.1) (fun x=>x.1≤(ZT k l[i]).length/\x.2.2=ZJT o ((ZT k l[i]).take x.1)) (0,v,o) ?start ?frame0 ?objs0 ?round)
    case start=>exact⟨Nat.zero_le _,rfl⟩
    case frame0=>exact zFr
    case objs0=>rfl
    case round =>
     rintro⟨j,v',o'⟩ ⟨g1,g2⟩;simp only at g1 g2;have hol:o'.length≤5000:=by
      have:=(ZR0 ((ZT k l[i]).take j) o).2;rw[<- g2,List.length_take] at this;omega
     have hmem:∀f∈o',ZAC f=0:=fun f hf=>by
      rw[g2,ZIw] at hf;rcases hf with hf|hf
      ·rw[h2] at hf;exact ZPN hg hk h1 f hf
      ·exact(ZA7 hgi hk (List.mem_of_mem_take hf)).1
     have hnd:o'.Nodup:=by
      rw[g2];refine ZFg ?_;rw[h2];exact(ZEB l k i h1).1
     dsimp only[ZH,z0,z1];by_cases hjl:j<(ZT k l[i]).length
     ·have hfj:=(ZA7 hgi hk (List.getElem_mem hjl)).1;((repeat' (first|(apply zV;exact yF;exact zQ)|refine ZVj ?_|refine ZA fun Kx hK=>?_|(refine hK _ _ ?_;clear hK)|refine ZVk ?_ |  (refine ZWP (List.Perm.swap _ _ _) ?_;refine ZOf (ZVh rfl) (ZVh rfl) ZWQ (ZMe hfj) (fun g hg=>ZMe (hmem g hg)) hnd (by assumption) ?_;refine ZWP (List.Perm.swap _ _ _) ?_;dsimp only[ZC,z0,z1])|((first|apply Zq|apply Zl);exact eD;exact ZVh rfl;exact oD;(intro _;exact hD);(exact(by simp));(exact(by simp));(first|exact⟨by decide,by decide⟩|skip);decide;exact lD;(intro _;dsimp only[ZC,z0,z1]);all_goals (try infer_instance))|(apply zV;(focus ((first|(apply ZVm (ZTw _ (ZHC hfj)) Tryz.call153;exact aD)|(refine ZM0 (ZVh rfl) (.tail _ (.head _)) (ZVh rfl) (ZMe hfj) (fun g hg=>ZMe (hmem g hg)) hnd)|exact ZBF|exact ZLC|exact ZBg|exact ZS);all_goals infer_instance));exact zQ)|(apply ZB;exact oD;all_goals (intro h;try exact xD))|(apply ZG;exact oD;all_goals (intro h;try exact xD))|refine ZVr ?_|refine ZVp ?_|refine ZVx ?_));all_goals ((repeat clear hK);repeat clear Kx))
      ·rename_i v'';(refine zNx (j+1,v'',o'++[(ZT k l[i])[j]]) ?_;(try dsimp only))
       refine⟨by omega,?_⟩;show o'++_=_;rw[ZKT hjl,<- g2,if_neg h]
      ·(refine zNx (j+1,v',o') ?_;(try dsimp only))
       refine⟨by omega,?_⟩;show o'=_;rw[ZKT hjl,<- g2,if_pos h]
     ·rw[List.take_of_length_le (by omega)] at g2;have g3:o'=ZK8 (l.take (i+1)) k:=by rw[ZG2 hil,if_neg hks,<- h2,g2]
      ((repeat' (first|refine zS ?_|refine ZA fun Kx hK=>?_|(refine hK _ _ ?_;clear hK)|(refine ZV0 ?_;clear hK)|(apply zV;(focus ((first|exact ZBF|exact ZFM|exact ZBg|exact ZA3);all_goals infer_instance));exact zQ)|(apply ZB;exact oD;all_goals (intro h;try exact xD))|refine ZVr ?_|refine ZVs ?_|refine ZV1 ?_|refine ZVx ?_|refine ZVz ?_|refine ZWC ?_));all_goals ((repeat clear hK);repeat clear Kx))
      ·refine⟨trivial,_,_,[_,_],rfl,rfl,rfl,.inl ⟨?_,rfl⟩⟩;have:=ZPO (l:=l) (k:=k) (n:=i+1) (by omega);unfold ZBp;rw[<- g3] at this;omega
      ·(refine zNx (i+1,v',o') ?_;(try dsimp only))
       exact⟨by omega,g3,by omega⟩
  ·have hil':i=l.length:=by omega
   subst hil';rw[List.take_length] at h2;((repeat' (first|(apply zV;exact yF;exact zQ)|refine ZVj ?_|refine ZA fun Kx hK=>?_|(refine hK _ _ ?_;clear hK)|(refine ZV0 ?_;clear hK)|refine ZVk ?_ |  (apply ZRN;exact ZVh rfl;omega;intro ys hperm hsort;dsimp only[ZC,z0,z1])|(apply zV;(focus ((first|exact ZBF);all_goals infer_instance));exact zQ)|(apply ZB;exact oD;all_goals (intro h;try exact xD))|refine ZVs ?_|refine ZV1 ?_));all_goals ((repeat clear hK);repeat clear Kx))
   have hys:ys=ZAi l k:=ZNq (by rw[<- h2];exact hperm) hsort;have hlen:=ZRn l k l.length (Nat.le_refl _);rw[List.take_length,<- h2] at hlen;subst hys;refine⟨trivial,_,_,[_,_],rfl,rfl,rfl,.inr ⟨?_,v,_,rfl,rfl⟩⟩;unfold ZBp;omega
end
section
open Go.RowKit

theorem FinD.t2 {hp:List HObj} {a b a' b':Dat} (h:FinD hp a a') (k:FinD hp b b'):FinD hp (dT [a,b]) (dT [a',b']):=FinD.mk fun {P0 B w0 w v} hh hd=>by
 obtain⟨vs,rfl,hl,hv⟩:=hd
 match vs,hl with
 | [x,y],_ =>
  refine⟨[x,y],rfl,rfl,fun i d u hd hu=>?_⟩
  match i,hd,hu with
  | 0,hd,hu=>cases hd;cases hu;exact h.out hh (hv 0 _ _ rfl rfl)
  | 1,hd,hu=>cases hd;cases hu;exact k.out hh (hv 1 _ _ rfl rfl)
instance (l:Cx) (k:Nat):Decidable (ZBp l k):=inferInstanceAs (Decidable (4096<(ZAi l k).length))
theorem ZMM (l:Cx) (k:Nat) (hk:0<k) (hg:∀s∈l,ZAC s=0) (hl:l.length≤1000000):Fn Tryz.prog 131 [dS Zh l,dI (k:Int)] (dT [dS Zh (if ZBp l k then[] else ZAi l k),dI (if ZBp l k then 17 else 0)]) :=
 ZLz (ZTm l k hk hg hl) (by
  rintro d hp2 (⟨h,rfl,rfl⟩|⟨h,v,rfl,rfl⟩)
  ·rw[if_pos h,if_pos h];exact FinD.t2 (ZWR ZN) (ZWR (ZWI _))
  ·rw[if_neg h,if_neg h];exact FinD.t2 (FinD.row (.head _)) (ZWR (ZWI _)))
theorem ZJH (l:Cx) (k:Int):Fn Tryz.prog 98 [dS Cpx l,dI k] (dT [dS Zh (ZCR l k).1,dI (ZCR l k).2]):=by
 refine zF Tryz.func98 24 ?_;by_cases h0:ZBC l=0
 ·have hg:=ZAX.1 h0;by_cases hk:1≤k/\k≤8
  ·have hk':((k.toNat:Nat):Int)=k:=by omega
   have hc:=ZMM l k.toNat (by omega) hg.2.2.1 hg.len;rw[hk'] at hc;((repeat' (first|refine zS ?_|refine ZA fun Kx hK=>?_|(refine hK _ _ ?_;clear hK)|(apply ZF;(focus (first|exact wN|(apply ZVt;exact wY;((first|(apply ZVm (ZCg _) Tryz.call43;exact aD)|(apply ZVm (hc) Tryz.call131;exact aD)|exact ZCX|exact ZBF|exact ZFM|exact ZEm|exact Z2|exact ZCV|exact ZEM|exact ZEL|fail);all_goals infer_instance))));dsimp only[ZC,z0,z1])|((first|refine ZM rfl rfl rfl (fun h=>?_) (fun h=>?_)|refine ZL rfl rfl rfl (fun h=>?_) (fun h=>?_)|refine ZK rfl rfl rfl (fun h=>?_) (fun h=>?_)) <;> (first|(exfalso;first|omega|contradiction)|(dsimp only[z0,z1])))|(apply ZB;exact oD;all_goals (intro h;try exact xD))|(apply ZG;exact oD;all_goals (intro h;try exact xD))|refine ZVr ?_|refine ZVs ?_));all_goals ((repeat clear hK);repeat clear Kx))
   unfold ZCR;rw[if_neg (by omega),if_neg (by omega)];by_cases ht:ZBp l k.toNat
   ·rw[if_pos ht,if_pos ht,if_pos (show 4096<(ZAi l k.toNat).length from ht)];(refine⟨trivial,⟨_,rfl,?_⟩,_,rfl,?_⟩ <;> exact fD)
   ·rw[if_neg ht,if_neg ht,if_neg (show ¬ 4096<(ZAi l k.toNat).length from ht)];(refine⟨trivial,⟨_,rfl,?_⟩,_,rfl,?_⟩ <;> exact fD)
  ·have e:ZCR l k=([],2):=by unfold ZCR;rw[if_neg (by omega),if_pos (by omega)]
   ((repeat' (first|refine zS ?_|refine ZA fun Kx hK=>?_|(refine hK _ _ ?_;clear hK)|(apply ZF;(focus (first|exact wN|(apply ZVt;exact wY;((first|(apply ZVm (ZCg _) Tryz.call43;exact aD)|exact ZCX|exact ZBF|exact ZFM|exact ZEm|exact ZCV|exact ZEL|fail);all_goals infer_instance))));dsimp only[ZC,z0,z1])|((first|refine ZM rfl rfl rfl (fun h=>?_) (fun h=>?_)|refine ZL rfl rfl rfl (fun h=>?_) (fun h=>?_)|refine ZK rfl rfl rfl (fun h=>?_) (fun h=>?_)) <;> (first|(exfalso;first|omega|contradiction)|(dsimp only[z0,z1])))|(apply Zf;exact oD;(with_reducible rfl))|(apply ZB;exact oD;all_goals (intro h;try exact xD))|(apply ZG;exact oD;all_goals (intro h;try exact xD))|refine ZVr ?_|refine ZVs ?_|refine ZVz ?_));all_goals ((repeat clear hK);repeat clear Kx))
   all_goals (rw[e];(refine⟨trivial,⟨_,rfl,?_⟩,_,rfl,?_⟩ <;> exact fD))
 ·have e:ZCR l k=([],ZBC l):=by unfold ZCR;rw[if_pos h0]
  ((repeat' (first|refine zS ?_|refine ZA fun Kx hK=>?_|(refine hK _ _ ?_;clear hK)|(apply ZF;(focus (first|exact wN|(apply ZVt;exact wY;((first|(apply ZVm (ZCg _) Tryz.call43;exact aD)|exact ZEm|exact ZEL|fail);all_goals infer_instance))));dsimp only[ZC,z0,z1])|(apply ZG;exact oD;all_goals (intro h;try exact xD))|refine ZVs ?_|refine ZVz ?_));all_goals ((repeat clear hK);repeat clear Kx))
  all_goals (rw[e];(refine⟨trivial,⟨_,rfl,?_⟩,_,rfl,?_⟩ <;> exact fD))
theorem ZG1 (l:Cx):Fn Tryz.prog 97 [dS Cpx l] (dT [dI (ZBf l).1,dI (ZBf l).2]):=by
 refine zF Tryz.func97 40 ?_;by_cases h0:ZBC l=0
 ·have hg:=ZAX.1 h0;have g6:∀k,(ZAi l k).length≤2000000:=fun k=>by
   have:=ZD6 l k l.length hg.short (Nat.le_refl _);rw[List.take_length] at this;have:=hg.1;omega
  (repeat' (first|refine zS ?_|refine ZA fun Kx hK=>?_|(refine hK _ _ ?_;clear hK)|(apply zV;(focus ((first|(apply ZVm (ZCg _) Tryz.call43;exact aD)|exact ZEm|exact ZEL);all_goals infer_instance));exact zQ)|(apply ZG;exact oD;all_goals (intro h;try exact xD))|refine ZVr ?_|refine ZVp ?_))
  (refine ZV4 (X:=Nat × Int) (fun x=>[(6,dI ((x.1:Int)+1)),(5,dI x.2),(2,dA),(3,dA),(7,dA),(8,dA),(14,dA),(15,dA),(16,dA),(17,dA),(18,dA),(19,dA),(20,dA),(21,dA),(22,dA),(23,dA),(24,dA),(25,dA),(26,dA),(27,dA),(28,dA),(29,dA),(30,dA),(31,dA),(32,dA),(33,dA),(34,dA),(35,dA),(36,dA),(37,dA),(38,dA)]) (fun x=>[]) (fun x=>8-x.1) (fun x=>x.1≤8/\x.2=ZHa l x.1/\(List.range x.1).any (fun k=>decide (4096<(ZAi l (k+1)).length))=false) (0,0) ?start ?frame0 ?objs0 ?round)
  case start=>exact⟨Nat.zero_le _,rfl,rfl⟩
  case frame0=>exact zFr
  case objs0=>rfl
  case round =>
   rintro⟨k,m⟩ ⟨h1,h5,h2⟩;simp only at h1 h2 h5;have hc:Fn Tryz.prog 131 [dS Zh l,dI ((k:Int)+1)] (dT [dS Zh (if ZBp l (k+1) then[] else ZAi l (k+1)),dI (if ZBp l (k+1) then 17 else 0)]):=ZMM l (k+1) (by omega) hg.2.2.1 hg.len;have h3:=ZId l g6 k;rw[<- h5] at h3;have h4:=g6 (k+1);dsimp only[ZH,z0,z1];by_cases hk8:k<8
   ·by_cases ht:ZBp l (k+1)
    ·rw[if_pos ht,if_pos ht] at hc;((repeat' (first|refine zS ?_|refine ZA fun Kx hK=>?_|(refine hK _ _ ?_;clear hK)|(apply zV;(focus ((first|(apply ZVm (hc) Tryz.call131;exact aD)|exact ZNx|exact ZEm|exact Z2|exact ZEM);all_goals infer_instance));exact zQ)|(apply ZB;exact oD;all_goals (intro h;try exact xD))|(apply ZG;exact oD;all_goals (intro h;try exact xD))|refine ZVr ?_|refine ZVs ?_|refine ZVp ?_|refine ZVz ?_|refine ZWC ?_));all_goals ((repeat clear hK);repeat clear Kx))
     unfold ZBf;rw[if_neg (by omega),if_pos (ZEd hk8 (decide_eq_true ht))];(refine⟨trivial,⟨_,rfl,?_⟩,_,rfl,?_⟩ <;> exact fD)
    ·rw[if_neg ht,if_neg ht] at hc;((repeat' (first|refine zS ?_|refine ZA fun Kx hK=>?_|(refine hK _ _ ?_;clear hK)|(apply zV;(focus ((first|(apply ZVm (hc) Tryz.call131;exact aD)|exact ZNx|exact ZHe|exact ZEm|exact ZBg|exact ZLx|exact yRem|exact ZA3|exact Z2|exact ZEM);all_goals infer_instance));exact zQ)|(apply ZB;exact oD;all_goals (intro h;try exact xD))|(apply ZG;exact oD;all_goals (intro h;try exact xD))|refine ZVr ?_|refine ZVp ?_|refine ZVx ?_));all_goals ((repeat clear hK);repeat clear Kx))
     ·rw[ZNu] at h;have h9:(k+1) % 2=1:=by omega
      (refine zNx (k+1,m+(ZAi l (k+1)).length) ?_;(try dsimp only))
      refine⟨by omega,?_,?_⟩
      ·show _=ZHa l (k+1);unfold ZHa;rw[if_pos h9,h5]
      ·rw[ZBH,h2,decide_eq_false (show ¬ 4096<(ZAi l (k+1)).length from ht)];rfl
     ·rw[ZNu] at h;have h9:¬ (k+1) % 2=1:=by omega
      (refine zNx (k+1,m-(ZAi l (k+1)).length) ?_;(try dsimp only))
      refine⟨by omega,?_,?_⟩
      ·show _=ZHa l (k+1);unfold ZHa;rw[if_neg h9,h5]
      ·rw[ZBH,h2,decide_eq_false (show ¬ 4096<(ZAi l (k+1)).length from ht)];rfl
   ·((repeat' (first|refine zS ?_|refine ZA fun Kx hK=>?_|(refine hK _ _ ?_;clear hK)|(refine ZV0 ?_;clear hK)|(apply zV;(focus ((first|exact ZNx);all_goals infer_instance));exact zQ)|(apply ZB;exact oD;all_goals (intro h;try exact xD))|refine ZVs ?_|refine ZV1 ?_));all_goals ((repeat clear hK);repeat clear Kx))
    have h9:k=8:=by omega
    subst h9;unfold ZBf;rw[if_neg (by omega),h2,if_neg Bool.false_ne_true,<- h5];(refine⟨trivial,⟨_,rfl,?_⟩,_,rfl,?_⟩ <;> exact fD)
 ·have e:ZBf l=(0,ZBC l):=by unfold ZBf;rw[if_pos h0]
  ((repeat' (first|refine zS ?_|refine ZA fun Kx hK=>?_|(refine hK _ _ ?_;clear hK)|(apply zV;(focus ((first|(apply ZVm (ZCg _) Tryz.call43;exact aD)|exact ZEm|exact ZEL);all_goals infer_instance));exact zQ)|(apply ZG;exact oD;all_goals (intro h;try exact xD))|refine ZVs ?_|refine ZVz ?_));all_goals ((repeat clear hK);repeat clear Kx))
  all_goals (rw[e];(refine⟨trivial,⟨_,rfl,?_⟩,_,rfl,?_⟩ <;> exact fD))
end
section
open Go.RowKit
theorem ZSh {P:Program} {o:Oper} {a:Act} {w:World} {K K':Act->World->Prop} {Q Q':Exit->Act->World->Prop} (h:∀a w,K a w->K' a w) (hq:∀e a w,e ≠ .normal->Q e a w->Q' e a w)
  (hh:o.wp P a w K Q):o.wp P a w K' Q':=by
 have hl:LetsOut Q->LetsOut Q':=fun⟨a,w,x⟩=>⟨a,w,hq _ _ _ (by simp) x⟩;unfold Oper.wp at *;generalize (execOp a.eval o).run P w=r at *;cases r with
 | ok n w' =>
  cases n <;> simp only[Oper.upon] at hh ⊢ <;>
   first
    | exact h _ _ hh
    | exact Calls.mono hh (fun e w'' he=>by cases e <;> first|exact h _ _ he|exact hq _ _ _ (by simp) he|exact hl he)
    | exact Rows.mono hh (fun _ _ he=>h _ _ he)
 | halt x w'=>cases x <;> simp only[Oper.upon] at hh ⊢ <;> first|exact hh|exact hq _ _ _ (by simp) hh
structure WA (P:Program) (ops:Array Oper) (Q:Z4) (g:Nat) (S:List Bool) (fr:List Dat) (hp:List HObj):Prop where
 of ::
 out:∀(P0:Nat->Prop) (B:Nat) (w0 w:World) (a:Act),Hp P0 B w0 hp w->Fr (Imm P0 B hp) w a fr->wpAny P .any ops (ZCs Q P0 B w0) g S.toArray a w
def ThenA (P:Program) (ops:Array Oper) (Q:Z4) (g:Nat) (S:List Bool):Z4:=fun e f p=>match e with|.normal=>WA P ops Q g S f p|e=>Q e f p
section
variable {P:Program} {ops:Array Oper} {hp:List HObj} {fr:List Dat} {Q:Z4} {g:Nat} {S:List Bool}
theorem WA.id (h:WA P ops Q g S fr hp):WA P ops Q g S fr hp:=h
theorem WA.nil (hr:Region.ready .any ops S.toArray=[]) (h:Q .normal fr hp):WA P ops Q 0 S fr hp:=WA.of fun _ _ _ _ _ hh hf=>⟨hr,fr,hp,h,hh,hf⟩
theorem WA.step {i:Nat} {o:Oper} (ho:ops[i]?=some o) (h:WL P ops (ThenA P ops Q g (S.set i true)) [o] fr hp) {P0:Nat->Prop} {B:Nat} {w0 w:World} {a:Act} (hh:Hp P0 B w0 hp w) (hf:Fr (Imm P0 B hp) w a fr) :
  wpOp P ops (ZCs Q P0 B w0) i (wpAny P .any ops (ZCs Q P0 B w0) g (S.toArray.setIfInBounds i true)) a w:=by
 have h1:=h.on hh hf;unfold wpList at h1;unfold wpOp;simp only[ho];have he:S.toArray.setIfInBounds i true=(S.set i true).toArray:=by simp
 rw[he];have hK:∀a' w',wpList P ops (ZCs (ThenA P ops Q g (S.set i true)) P0 B w0) [] a' w'->wpAny P .any ops (ZCs Q P0 B w0) g (S.set i true).toArray a' w':=fun a' w' hn=>by
  obtain⟨f,p,q,r,s⟩:=(hn:ZCs (ThenA P ops Q g (S.set i true)) P0 B w0 .normal a' w');exact(q:WA P ops Q g (S.set i true) f p).out _ _ _ _ _ r s
 have hQ:∀e a' w',e ≠ .normal->ZCs (ThenA P ops Q g (S.set i true)) P0 B w0 e a' w'->ZCs Q P0 B w0 e a' w':=fun e a' w' hne ⟨f,p,q,r,s⟩=>by
  cases e with
  | normal=>exact absurd rfl hne
  | _=>exact⟨f,p,q,r,s⟩
 split
 ·rename_i hw;rw[if_pos hw] at h1;rcases h1 with h1|⟨h1,a2,w2,h2⟩
  ·exact .inl (ZSh hK hQ h1)
  ·exact .inr ⟨h1,a2,w2,hQ _ _ _ (by simp) h2⟩
 ·rename_i hw;rw[if_neg hw] at h1;exact hK _ _ h1
theorem WA.one {l:List Oper} {i:Nat} {o:Oper} (hr:Region.ready .any l.toArray S.toArray=[i]) (ho:l[i]?=some o) (h:WL P l.toArray (ThenA P l.toArray Q g (S.set i true)) [o] fr hp):WA P l.toArray Q (g+1) S fr hp:=WA.of fun P0 B w0 w a hh hf=>by
 refine⟨fun h0=>(by rw[hr] at h0;cases h0),fun j hj=>?_⟩;rw[hr] at hj;cases List.mem_singleton.1 hj;exact WA.step (by simpa using ho) h hh hf
theorem ThenA.n (h:WA P ops Q g S fr hp):ThenA P ops Q g S .normal fr hp:=h
end
end
end Go.Proofs.YtofkoleingbbpaaGreatDoor
