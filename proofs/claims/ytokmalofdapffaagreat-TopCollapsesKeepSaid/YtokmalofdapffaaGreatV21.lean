/- Part 21: walks by contracts, and plain laws. -/
import Derived.Test.YtokmalofdapffaaGreatV14
set_option linter.unusedVariables false
set_option linter.unusedSimpArgs false
set_option linter.unusedSectionVars false
set_option maxRecDepth 100000
set_option maxHeartbeats 4000000
namespace Go.Proofs.YtokmalofdapffaaGreat
section
open Go.RowKit

theorem ZRY (b cap:Nat) (xs:List Vx) (hl:xs.length≤1000):CallC Tryz.prog 44 ([dX (ZRD b cap xs)]++([]:List Value).map dX) [hV b xs.length cap 47 xs] fun d' hp2=>∃ v,d'=dX v/\hp2=[Zg v 47 2 RV xs,hV b xs.length cap 47 xs]:=by
 (refine ZAb Tryz.func44 rfl rfl (fun hp=>?_);simp only [Tryz.ntmps44,List.length_cons,List.length_nil,List.length_append,List.length_map,Nat.reduceAdd,Nat.reduceSub,List.replicate_succ,List.replicate_zero,List.cons_append,List.nil_append,List.map_cons,List.map_nil,List.append_assoc])
 ((repeat' (first|(apply WL.opN;exact yF;dsimp only [ZB,z0,z1])|refine WL.nil ?_|refine ZA fun Kx hK=>?_|(refine hK _ _ ?_;clear hK)|refine WC.region ?_ |  (apply ZEO elV RV (by decide);(intro _;dsimp only [ZB,z0,z1]);all_goals (try infer_instance)) |  (apply ZO8 elV;exact OpD.t rfl;exact OpD.t rfl;decide;(simp;omega);(intro _;dsimp only [ZB,z0,z1]))|(apply WL.opN;(focus ((first|(apply ZMG;exact OpD.t rfl;exact ZNJ)|fail);all_goals infer_instance));dsimp only [ZB,z0,z1])|(apply Za;(exact oD);(with_reducible rfl))|refine WC.skip ?_|refine WC.ret ?_));all_goals (first|((repeat clear hK);(repeat clear Kx))))
 exact ⟨trivial,_,[_,_],rfl,rfl,_,rfl,by rw [List.nil_append]⟩

theorem tyFn:TyI Tryz.prog 154 1 false:=⟨by kernel_rfl,Tryz.isAgg154⟩
theorem tyFy:TyI Tryz.prog 87 1 false:=⟨by kernel_rfl,Tryz.isAgg87⟩
theorem tzFn:TyZ Tryz.prog 154 .nilFunc:=⟨by kernel_rfl⟩
abbrev ZNX (v2 v3 v4:Value) (bf:Nat):Value:=.func (.func 115) #[] [v2,v3,v4,.pointer (some ⟨bf,0,none⟩)].toArray
abbrev ZPu (k:Nat) (s:List Vx) (l b cap bf:Nat) (v2 v3 v4:Value) (pre:List Vx):List HObj :=
 [hV b pre.length cap 47 pre,ZO bf 154 1 false (dX (ZNX v2 v3 v4 bf)),ZAW v2 (dP 1 false (dI k)),ZAW v3 (dP 1 false (dX (.func (.yield l) #[] #[]))),ZAW v4 (dP 1 false (dS ZJ s))]
theorem ZS9 {a b c d e:HObj} {js hp:List HObj}:(a::b::c::d::e::(js++hp)).Perm (js++a::b::c::d::e::hp):=by
 have:(([a,b,c,d,e]++js)++hp).Perm ((js++[a,b,c,d,e])++hp):=List.Perm.append_right _ List.perm_append_comm
 simpa using this
set_option maxRecDepth 100000 in
set_option maxHeartbeats 8000000 in
theorem ZSq (k:Nat) (s:List Vx) (hs:s.length≤100) (hk:k≤100) (l N b cap:Nat) (hcap:k≤cap) (J:List (List Vx)->List HObj->Prop) (hY:YStep Tryz.prog l (fun x=>dS ZJ x) J N) (v2 v3 v4:Value) (bf:Nat) :
  ∀ (m i0:Nat) (pre:List Vx) (done:List (List Vx)) (js:List HObj),s.length-i0=m->i0≤s.length->pre.length≤k->J done js->done.length+(ZX (k-pre.length) (s.drop i0)).length≤N ->
  CallC Tryz.prog 115 ([dI (i0:Int),dX (ZRD b cap pre)]++[v2,v3,v4,.pointer (some ⟨bf,0,none⟩)].map dX) (ZPu k s l b cap bf v2 v3 v4 pre++js)
   (fun d hp2=>d=dB true/\∃ js',J (done++(ZX (k-pre.length) (s.drop i0)).map (pre ++ ·)) js'/\hp2=ZPu k s l b cap bf v2 v3 v4 pre++js'):=by
 intro m
 induction m using Nat.strongRecOn with
 | _ m ih =>
 intro i0 pre done js hm hi0 hpk hj hN
 (refine ZAb Tryz.func115 rfl rfl (fun hp=>?_);simp only [Tryz.ntmps115,List.length_cons,List.length_nil,List.length_append,List.length_map,Nat.reduceAdd,Nat.reduceSub,List.replicate_succ,List.replicate_zero,List.cons_append,List.nil_append,List.map_cons,List.map_nil,List.append_assoc])
 refine ZFT 2 rfl (.tail _ (.tail _ (.head _))) ?_
 refine ZFT 3 rfl (.tail _ (.tail _ (.tail _ (.head _)))) ?_
 refine ZFT 4 rfl (.tail _ (.tail _ (.tail _ (.tail _ (.head _))))) ?_
 dsimp only [z0,z1]
 (repeat' (first |  (refine I.WC.drawW (β:=Value) 2 (fun v=>Zg v 47 2 RV pre::hV b pre.length cap 47 pre::ZO bf 154 1 false (dX (ZNX v2 v3 v4 bf))::ZAW v2 (dP 1 false (dI k))::ZAW v3 (dP 1 false (dX (.func (.yield l) #[] #[])))::ZAW v4 (dP 1 false (dS ZJ s))::(js++hp)) (fun v=>dX v) _ rfl (by kernel_rfl) (by kernel_rfl) ?_;simp only [List.take_succ_cons,List.take_zero,List.drop_succ_cons,List.drop_zero])|((first|apply WL.opN|apply WD.opN);exact yF;dsimp only [ZB,z0,z1])|refine WL.nil ?_|refine ZA fun Kx hK=>?_|(refine hK _ _ ?_;clear hK)|refine WC.region ?_|((first|apply WL.opN|apply WD.opN);(focus ((first|exact ZQp|exact ZBw|fail);all_goals infer_instance));dsimp only [ZB,z0,z1])|(apply WC.condD;(exact oD);all_goals (intro h;try exact xD))|refine WC.skip ?_|refine WC.block ?_))
 ·have hpk':pre.length=k:=by omega
  have h0:k-pre.length=0:=by omega
  rw [h0] at hN ⊢
  have hsub:ZX 0 (s.drop i0)=[[]]:=by unfold ZX;rfl
  rw [hsub] at hN ⊢
  (repeat' (first|refine WDs.nil ?_|(apply WDs.op;(focus (intro c;apply SYG.yes;(exact ZP rfl);((first|(apply SY.load;exact tyFy;exact OpD.t rfl)|exact ZDe|fail);all_goals infer_instance)));dsimp only [ZB,z0,z1])))
  refine ⟨SW.callC (hp1:=[_]) (H:=fun v=>[Zg v 47 2 RV pre,hV b pre.length cap 47 pre]) (caps:=[]) (ZRY b cap pre (by omega)) Tryz.call44 OpD.f (by (exact aD)) (fun d hp2 ⟨v,h1,h2⟩=>⟨v,h1,h2⟩),fun v=>?_⟩
  dsimp only [ZB,z0,z1]
  refine I.ZKD (s:=16) rfl ?_
  dsimp only [ZB,z0,z1]
  refine I.WL.perm ZS9 (I.WL.yield (pre:=done) (y:=pre) hY (by simp at hN;omega) hj (OpD.t rfl) (OpD.t rfl) fun js' hj'=>I.WL.perm ZS9.symm ?_)
  dsimp only [ZB,z0,z1]
  refine I.WL.op rfl (SY.assign (OpD.t rfl)) ?_
  dsimp only [ZB,z0,z1]
  refine I.WL.nil ?_
  ((repeat' (first|(refine hK _ _ ?_;clear hK)|refine WC.ret ?_|refine ThenD.r ?_));all_goals (first|((repeat clear hK);(repeat clear Kx))))
  exact ⟨trivial,_,_::_::_::_::_::js',rfl,rfl,rfl,js',by rw [h0,hsub];simpa using hj',rfl⟩
 ·have hlt:pre.length<k:=by omega
  obtain ⟨m1,hm1⟩:∃ m1,k-pre.length=m1+1:=⟨k-pre.length-1,by omega⟩
  rw [hm1] at hN ⊢
  (refine ZH (X:=Nat × List (List Vx) × List HObj) (fun x=>[(9,dI (x.1:Int)),(8,dA),(19,dA),(20,dA),(21,dA),(22,dA),(23,dA),(24,dA),(25,dA),(26,dA),(27,dA),(28,dA),(29,dA),(30,dA),(31,dA),(32,dA),(33,dA),(34,dA),(35,dA),(36,dA)]) (fun x=>(hV b pre.length cap 47 pre::ZO bf 154 1 false (dX (ZNX v2 v3 v4 bf))::ZAW v2 (dP 1 false (dI k))::ZAW v3 (dP 1 false (dX (.func (.yield l) #[] #[])))::ZAW v4 (dP 1 false (dS ZJ s))::(x.2.2++hp))) (fun x=>s.length-x.1) (fun x=>i0≤x.1/\x.1≤s.length/\J x.2.1 x.2.2/\x.2.1++(ZX (m1+1) (s.drop x.1)).map (pre ++ ·)=done++(ZX (m1+1) (s.drop i0)).map (pre ++ ·)) (i0,done,js) ?start ?frame0 ?objs0 ?round)
  case start=>exact ⟨Nat.le_refl _,hi0,hj,rfl⟩
  case frame0=>((try dsimp only [ZQ,z0,z1]);repeat (first|exact LeF.nil|refine ZD (k:=?_)))
  case objs0=>rfl
  case round =>
   rintro ⟨i,dn,js1⟩ ⟨q1,q2,q3,q4⟩
   simp only at q1 q2 q3 q4
   dsimp only [ZQ,z0,z1]
   ((repeat' (first |  (refine WC.drawW (β:=Unit) 9 (fun _=>hV b (pre++[s[i]'(by omega)]).length cap 47 (pre++[s[i]'(by omega)])::ZO bf 154 1 false (dX (ZNX v2 v3 v4 bf))::ZAW v2 (dP 1 false (dI k))::ZAW v3 (dP 1 false (dX (.func (.yield l) #[] #[])))::ZAW v4 (dP 1 false (dS ZJ s))::(js1++hp)) (fun _=>dX (ZRD b cap (pre++[s[i]'(by omega)]))) _ rfl (by kernel_rfl) (by kernel_rfl) ?_;simp only [List.take_succ_cons,List.take_zero,List.drop_succ_cons,List.drop_zero])|((first|apply WL.opN|apply WD.opN);exact yF;dsimp only [ZB,z0,z1])|refine WL.nil ?_|refine ZA fun Kx hK=>?_|(refine hK _ _ ?_;clear hK)|(refine Kont.skip ?_;clear hK)|refine WC.region ?_|((first|apply WL.opN|apply WD.opN);(focus ((first|exact ZCB|exact ZBw|fail);all_goals infer_instance));dsimp only [ZB,z0,z1])|(apply WC.condD;(exact oD);all_goals (intro h;try exact xD))|refine WC.skip ?_|refine WC.ret ?_|refine WC.exit ?_|refine WC.block ?_));all_goals (first|refine WDs.id ?_|((repeat clear hK);(repeat clear Kx))))
   ·have hi:i<s.length:=by omega
    (repeat' (first|refine WDs.nil ?_|(apply WDs.op;(focus (intro c;apply SYG.yes;(exact ZP rfl);((first|(apply Zd;exact tyFn;exact OpD.t rfl;(refine HH.mem ?_ (fun _=>?_) <;> exact .tail _ (.head _)))|(refine ZA5 (R:=RV) (_gR:=inferInstance) (k:=i) elV ?_ ?_ hi;exact OpD.t rfl;exact OpD.t rfl)|exact ZDe|exact ZCu|exact ZEn|exact ZA4|fail);all_goals infer_instance)));dsimp only [ZB,z0,z1])))
    refine ⟨ZMB elV (OpD.t rfl) (OpD.t rfl) (by omega),fun _=>?_⟩
    dsimp only [ZB,z0,z1]
    have hd:=ZLu m1 s i hi
    have hlen:=congrArg List.length q4
    simp only [hd,List.length_append,List.length_map] at hlen
    have hk1:k-(pre++[s[i]]).length=m1:=by simp;omega
    have hC:=ih (s.length-(i+1)) (by omega) (i+1) (pre++[s[i]]) dn js1 rfl (by omega) (by simp;omega) q3 (by rw [hk1];omega)
    rw [hk1] at hC
    refine WL.callC (hp1:=ZPu k s l b cap bf v2 v3 v4 (pre++[s[i]])++js1) hC Tryz.call115 (OpD.t rfl) (by (exact aD)) ?_
    rintro d' hp2 ⟨rfl,js2,hj2,rfl⟩
    dsimp only [ZB,z0,z1,List.cons_append,List.nil_append]
    refine ZJT (k:=pre.length) (by simp) ?_
    rw [List.take_left' rfl]
    ((repeat' (first|((first|apply WL.opN|apply WD.opN);exact yF;dsimp only [ZB,z0,z1])|refine WL.nil ?_|(refine hK _ _ ?_;clear hK)|refine WC.region ?_|((first|apply WL.opN|apply WD.opN);(focus ((first|exact ZOr|exact ZCu|fail);all_goals infer_instance));dsimp only [ZB,z0,z1])|(apply WC.condNB;(exact oD);all_goals (intro h;try exact xD))|refine WC.skip ?_|refine ThenD.n ?_));all_goals (first|((repeat clear hK);(repeat clear Kx))))
    (refine ⟨(i+1,dn++List.map (fun x=>pre++[s[i]]++x) (ZX m1 (List.drop (i+1) s)),js2),?_,by first|omega|(simp only;omega),rfl,?_⟩;rotate_left;((try dsimp only [ZQ,z0,z1]);repeat (first|exact LeF.nil|refine ZD (k:=?_)));(try dsimp only))
    refine ⟨by omega,by omega,hj2,?_⟩
    rw [<- q4,hd,List.map_append,List.map_map,List.append_assoc]
    congr 2
    apply List.map_congr_left
    intro x _
    simp
   ·have hi:s.length≤i:=by omega
    have hd:ZX (m1+1) (List.drop i s)=[]:=by rw [List.drop_eq_nil_of_le hi];rfl
    rw [hd] at q4
    simp only [List.map_nil,List.append_nil] at q4
    exact ⟨trivial,_,_::_::_::_::_::js1,rfl,rfl,rfl,js1,by rw [hm1,<- q4];exact q3,rfl⟩
theorem perm2 {a b:HObj} {js hp:List HObj}:(js++a::b::hp).Perm (a::b::(js++hp)):=ZBG.symm
set_option maxRecDepth 100000 in
set_option maxHeartbeats 8000000 in
theorem seq_c (k:Nat) (s:List Vx) (hs:s.length≤100) (hk:k≤100) (vk vs:Value):SeqC Tryz.prog 114 [vk,vs] [ZAW vk (dP 1 false (dI k)),ZAW vs (dP 1 false (dS ZJ s))] (fun x=>dS ZJ x) (ZX k s):=⟨fun l J hY js hj=>by
 (refine ZCy Tryz.func114 rfl rfl (fun hp=>?_);simp only [Tryz.ntmps114,List.length_cons,List.length_nil,List.length_append,List.length_map,Nat.reduceAdd,Nat.reduceSub,List.replicate_succ,List.replicate_zero,List.cons_append,List.nil_append,List.map_cons,List.map_nil,List.append_assoc])
 refine ZO7 perm2 ?_
 (repeat' (first |  (refine ZFS (d:=dP 1 false (dX (.func (.yield l) #[] #[]))) 3 rfl fun v3=>?_;dsimp only [z0,z1]) |  (refine ZFT (d:=dP 1 false (dI k)) 1 rfl (.tail _ (.tail _ (.head _))) ?_;dsimp only [z0,z1];refine WC.drawW (β:=Nat) 2 (fun b=>hV b 0 k 47 []::ZO bf 154 1 false (dX (ZNX vk v3 vs bf))::ZAW v3 (dP 1 false (dX (.func (.yield l) #[] #[])))::ZAW vk (dP 1 false (dI k))::ZAW vs (dP 1 false (dS ZJ s))::(js++hp)) (fun b=>dX (.slice (some ⟨b,0,none⟩) 0 k)) _ rfl (by kernel_rfl) (by kernel_rfl) ?_;simp only [List.take_succ_cons,List.take_zero,List.drop_succ_cons,List.drop_zero])|refine WL.nil ?_|refine ZA fun Kx hK=>?_|(refine hK _ _ ?_;clear hK)|refine WC.region ?_ |  (apply WL.alloc tzFn;exact ZZ rfl;(intro bf;dsimp only [ZB,z0,z1])) |  (apply ZAf tyFn;exact OpD.t rfl;exact OpD.t rfl;exact ZZ rfl;dsimp only [ZB,z0,z1])|((first|apply WL.opN|apply WD.opN);(focus ((first|(apply ZDx;repeat (first|exact ArgsX.nil|(apply ArgsX.cons;exact OpD.t rfl)))|exact ZF3|fail);all_goals infer_instance));dsimp only [ZB,z0,z1])))
 (repeat' (first|refine WDs.nil ?_|(apply WDs.op;(focus (intro c;apply SYG.yes;(exact ZP rfl);((first|(apply Zd;exact tyFn;exact OpD.t rfl;(refine HH.mem ?_ (fun _=>?_) <;> first|exact .head _|exact .tail _ (.head _)))|exact ZEn|fail);all_goals infer_instance)));dsimp only [ZB,z0,z1])))
 refine ⟨ZOv elV (OpD.t rfl) rfl (by omega) (by simp only [maxLen];omega),fun b=>?_⟩
 dsimp only [ZB,z0,z1]
 have hC:=ZSq k s hs hk l (ZX k s).length b k (Nat.le_refl _) J hY vk v3 vs bf s.length 0 [] [] js rfl (Nat.zero_le _) (Nat.zero_le _) hj (by simp)
 refine WL.perm (((List.Perm.swap _ _ _).cons _).cons _) ?_
 refine WL.callC (hp1:=ZPu k s l b k bf vk v3 vs []++js) hC Tryz.call115 (OpD.t rfl) (by (exact aD)) ?_
 rintro d' hp2 ⟨rfl,js',hj',rfl⟩
 simp only [List.length_nil,Nat.sub_zero,List.drop_zero,List.nil_append,List.map_id'] at hj'
 dsimp only [ZB,z0,z1,List.cons_append,List.nil_append]
 refine WL.drop (WL.drop (WL.perm (List.Perm.swap _ _ _) (WL.drop (WL.perm ZBG (WL.nil ?_)))))
 exact ⟨trivial,js'++[_,_],by simp,js',hj',rfl⟩⟩
theorem ZRg (k:Nat) (s:List Vx):CallC Tryz.prog 83 ([dS ZJ s,dI k]++([]:List Value).map dX) [] (fun d hp2=>∃ vk vs,d=dX (.func (.func 114) #[] [vk,vs].toArray)/\hp2=[ZAW vk (dP 1 false (dI k)),ZAW vs (dP 1 false (dS ZJ s))]):=by
 (refine ZAb Tryz.func83 rfl rfl (fun hp=>?_);simp only [Tryz.ntmps83,List.length_cons,List.length_nil,List.length_append,List.length_map,Nat.reduceAdd,Nat.reduceSub,List.replicate_succ,List.replicate_zero,List.cons_append,List.nil_append,List.map_cons,List.map_nil,List.append_assoc])
 ((repeat' (first |  (refine ZFS (d:=dP 1 false (dS ZJ s)) 2 rfl fun vs=>?_;dsimp only [z0,z1];refine ZFS (d:=dP 1 false (dI k)) 3 rfl fun vk=>?_;dsimp only [z0,z1])|(apply WL.opN;exact yF;dsimp only [ZB,z0,z1])|refine WL.nil ?_|refine ZA fun Kx hK=>?_|(refine hK _ _ ?_;clear hK)|refine WC.region ?_|(apply WL.opN;(focus ((first|(apply ZDx;repeat (first|exact ArgsX.nil|(apply ArgsX.cons;exact OpD.t rfl)))|exact ZF3|fail);all_goals infer_instance));dsimp only [ZB,z0,z1])|refine WC.ret ?_));all_goals (first|((repeat clear hK);(repeat clear Kx))))
 exact ⟨trivial,_,[_,_],rfl,rfl,vk,vs,rfl,rfl⟩

end
section
open Go.RowKit
section
variable {P:Program} {ops:Array Oper} {hp:List HObj} {o:Oper} {fr:List Dat} {d:Dat} {Q:Exit->Act->World->Prop} {rest:List Oper} {P0:Nat->Prop} {B:Nat} {w0 w:World} {a:Act}
theorem ZBM (hg:o.guard=none) (h:SY P ops hp o fr d) (hh:Hp P0 B w0 hp w) (hf:Fr (Imm P0 B hp) w { tmps:=a.tmps,defers:=[] } fr)
  (k:∀ a' w',a'.defers=a.defers->Hp P0 B w0 hp w'->Fr (Imm P0 B hp) w' { tmps:=a'.tmps,defers:=[] } (ZB fr o.dst d)->wpList P ops Q rest a' w'):wpList P ops Q (o::rest) a w:=by
 unfold wpList
 have hwant:Region.wanted o (yielded ops a.tmps)=true:=by simp [Region.wanted,hg]
 rw [if_pos hwant]
 refine .inl (h.out hh (a:=a) ⟨hf.size,fun t _ d hd=>hf.rd t d hd⟩ _ _ fun v w' e hd=>?_)
 have hf2:=Fr.put (x:=o.dst) (hf.ext e) hd
 refine k (a.put o.dst v) w' ?_ (hh.ext e) ?_
 ·cases o.dst <;> rfl
 ·have e1:({ tmps:=(a.put o.dst v).tmps,defers:=[] }:Act)=({ tmps:=a.tmps,defers:=[] }:Act).put o.dst v:=by cases o.dst <;> rfl
  rw [e1];exact hf2
end
namespace I
section
variable {P:Program} {ops:Array Oper} {hp:List HObj} {fr:List Dat} {Q:ZAE} {rest:List Oper}
theorem ZBx {α:Type} {R:Rel α} {_gR:Good R} {v:Value} {e:TypeId} {xs:List α} (hm:Zh v e R xs∈hp) (h:(∃ a c,v = .slice a xs.length c)->WL P ops Q rest fr hp):WL P ops Q rest fr hp:=WL.of fun _ _ _ _ _ hh hf =>
 (h (Own.len (hh.ok _ hm))).on hh hf
end
end I
end
section
open Go.RowKit

abbrev apO (b:Nat) (xs:List (List Vx)) (hs:List HObj):Prop:=∃ sv,hs=[ZO b 22 1 false (dX sv),Zh sv 41 ZJ xs]
theorem tySj:TyI Tryz.prog 22 1 false:=⟨by kernel_rfl,Tryz.isAgg22⟩
set_option maxRecDepth 100000 in
set_option maxHeartbeats 8000000 in
theorem ZJX {gf:FuncId} {lb:List Value} {hk:List HObj} {xs:List (List Vx)} (he:ZAw Tryz.prog gf) (hS:SeqC Tryz.prog gf lb hk (fun x=>dS ZJ x) xs) (hl:xs.length≤1000000) :
  CallC Tryz.prog 113 ([dX (.slice none 0 0),dX (.func (.func gf) #[] lb.toArray)]++([]:List Value).map dX) hk (fun d hp2=>∃ v,d=dX v/\hp2=Zh v 41 ZJ xs::hk):=⟨fun P0 B w0 hp vs W hh hl0 hv=>by
 refine (callsIn_wide (n:=0)).1 (callsIn_of_wp_marks Tryz.func113 rfl trivial ?_ rfl)
 refine wpIn_wide.2 ?_
 have hf0:=ZBF (m:=11) hl0 hv
 have hsz:vs.toArray.size=2:=by simpa using hl0
 rw [hsz]
 have hnt:Tryz.f113.ntmps=13:=rfl
 rw [hnt]
 simp only [List.length_cons,List.length_nil,Nat.reduceAdd,Nat.reduceSub,List.replicate_succ,List.replicate_zero,List.cons_append,List.nil_append,List.map_nil] at hf0 ⊢
 refine wp_seq (Code.wp_mono ?_ (WC.on (Q:=fun e f q=>e = .normal/\∃ b,f=[dX (.slice none 0 0),dX (.func (.func gf) #[] lb.toArray),dX (.pointer (some ⟨b,0,none⟩)),dX undef,dX (.slice none 0 0),dX undef,dX undef,dX undef,dX undef,dX undef,dX undef,dX undef,dX undef]/\q=[ZO b 22 1 false (dX (.slice none 0 0)),Zh (.slice none 0 0) 41 ZJ []]++(hk++hp)) ?_ hh hf0))
 rotate_left
 ·refine WC.region ?_
  refine ZIK 41 ZJ ?_
  refine ZGy (OpD.t rfl) (ZZ rfl) fun b=>?_
  dsimp only [ZB,z0,z1]
  refine WL.op rfl (SY.assign OpD.x) (WL.nil ?_)
  exact ⟨rfl,b,rfl,rfl⟩
 rintro e a1 w1 ⟨f1,q1,⟨rfl,b,rfl,rfl⟩,hh1,hf1⟩
 show Code.wp _ _ _ _ _
 refine wp_seq ?_
 refine wp_seq (Code.wp_mono ?_ (WC.on (Q:=fun e f q=>e = .normal/\f=[dX (.slice none 0 0),dX (.func (.func gf) #[] lb.toArray),dX (.pointer (some ⟨b,0,none⟩)),dX undef,dX (.slice none 0 0),dX undef,dX (.func (.func gf) #[] lb.toArray),dX undef,dX undef,dX undef,dX undef,dX undef,dX undef]/\q=[ZO b 22 1 false (dX (.slice none 0 0)),Zh (.slice none 0 0) 41 ZJ []]++(hk++hp)) ?_ hh1 hf1))
 rotate_left
 ·refine WC.region ?_
  refine WL.op rfl (SY.move (OpD.t rfl)) (WL.nil ?_)
  exact ⟨rfl,rfl,rfl⟩
 rintro e a2 w2 ⟨f2,q2,⟨rfl,rfl,rfl⟩,hh2,hf2⟩
 show Code.wp _ _ _ _ _
 refine wp_block ?_
 refine ZJJ (hs0:=[_,_]) (hk:=hk) (hp:=hp) (xs:=xs) (D:=fun x=>dS ZJ x) (apO b) _ (fun x=>[dX (.slice none 0 0),dX (.func (.func gf) #[] lb.toArray),dX (.pointer (some ⟨b,0,none⟩)),dX undef,dX (.slice none 0 0),dS ZJ x,dX (.func (.func gf) #[] lb.toArray),dS ZJ x,dX undef,dX undef,dX undef,dX undef,dX undef]) hh2 hf2 (OpD.t rfl) he hS ⟨_,rfl⟩ (by repeat (first|exact FixF.nil|apply FixF.x)) ?_ ?_ ?_
 ·intro l x q
  refine WR.region rfl (I.WL.op rfl (SY.assign (OpD.t rfl)) (I.WL.nil ⟨rfl,rfl,rfl⟩))
 ·rintro l pre x hs q hlt ⟨sv,rfl⟩
  refine WR.block (WR.region rfl ?_)
  refine I.WL.op rfl (Zd tySj (OpD.t rfl) (.head _)) ?_
  dsimp only [ZB,z0,z1,List.cons_append,List.nil_append]
  refine I.WL.op rfl (SY.move (OpD.t rfl)) ?_
  dsimp only [ZB,z0,z1]
  refine I.WL.perm (List.Perm.swap _ _ _) (I.Zv ZDv (OpD.t rfl) (OpD.t rfl) (fun _=>ZAU) (by simp) (by simp) (by decide) (by omega) fun v'=>?_)
  dsimp only [ZB,z0,z1]
  refine I.ZBx (.head _) fun ⟨ad,c,hv'⟩=>?_
  refine I.WL.perm (List.Perm.swap _ _ _) (I.ZAf tySj (OpD.t rfl) (OpD.t rfl) (ZZ (by rw [hv'];rfl)) (I.WL.nil ?_))
  exact ⟨rfl,_,⟨v',rfl⟩,rfl⟩
 ·rintro k hs w3 ⟨sv,rfl⟩ hh3 hrd
  show Code.wp _ _ _ _ _
  have hf3:Fr (Imm P0 B (Z2 k (.deferred (some []))::([ZO b 22 1 false (dX sv),Zh sv 41 ZJ xs]++(hk++hp)))) w3 { tmps:=a2.tmps,defers:=[] } _:=⟨rfl,hf2.size,hrd⟩
  refine wp_seq (wp_region_lit ?_)
  refine ZBM rfl (Zd tySj (OpD.t rfl) (.tail _ (.head _))) hh3 hf3 fun a4 w4 hd4 hh4 hf4=>?_
  refine ZBM rfl (SY.assign (OpD.t rfl)) hh4 hf4 fun a5 w5 hd5 hh5 hf5=>?_
  refine wpList_nil ?_
  show Code.wp _ _ _ _ _
  refine wp_ret ?_
  show LeavesInM _ _ _ _ _ _ _ _ _
  rw [hd5,hd4,hf2.defers]
  have hK:w5.heap[k]?=some (.deferred (some [])):=hh5.ok (Z2 k (.deferred (some []))) (by simp)
  refine ⟨by simp,.inl ⟨_,_,rfl,run_takeDeferred hK,_,results_tmp rfl _ _ _,?_⟩⟩
  have hh6:=(Hp.putObj (o':=.deferred none) hh5).drop.drop
  exact ⟨_,dX sv,Zh sv 41 ZJ xs::hk,rfl,⟨sv,rfl,rfl⟩,hh6,hf5.rd 4 _ rfl⟩⟩
theorem ZM9 {gf:FuncId} {lb:List Value} {hk:List HObj} {xs:List (List Vx)} (he:ZAw Tryz.prog gf) (hS:SeqC Tryz.prog gf lb hk (fun x=>dS ZJ x) xs) (hl:xs.length≤1000000) :
  CallC Tryz.prog 82 ([dX (.func (.func gf) #[] lb.toArray)]++([]:List Value).map dX) hk (fun d hp2=>∃ v,d=dX v/\hp2=Zh v 41 ZJ xs::hk):=by
 (refine ZAb Tryz.func82 rfl rfl (fun hp=>?_);simp only [Tryz.ntmps82,List.length_cons,List.length_nil,List.length_append,List.length_map,Nat.reduceAdd,Nat.reduceSub,List.replicate_succ,List.replicate_zero,List.cons_append,List.nil_append,List.map_cons,List.map_nil,List.append_assoc])
 ((repeat' (first|(apply WL.opN;exact yF;dsimp only [ZB,z0,z1])|refine WL.nil ?_|refine ZA fun Kx hK=>?_|(refine hK _ _ ?_;clear hK)|refine WC.region ?_ |  (refine WL.callC (caps:=[]) (ZJX he hS hl) Tryz.call113 OpD.f (by (exact aD)) ?_;rintro d' hp2 ⟨v,rfl,rfl⟩;dsimp only [ZB,z0,z1,List.cons_append,List.nil_append])|refine WC.ret ?_));all_goals (first|((repeat clear hK);(repeat clear Kx))))
 exact ⟨trivial,_,_::hk,rfl,rfl,v,rfl,rfl⟩

theorem ZEU {s:List Vx} (h:ZAL s=0):s.length≤8:=by
 unfold ZAL at h
 split at h
 ·cases h
 ·split at h
  ·cases h
  ·omega
theorem ZKa (s:List Vx) (k:Int):Fn Tryz.prog 50 [dS ZJ s,dI k] (dT [dS ZBN (ZCs s k).1,dI (ZCs s k).2]):=by
 (refine Z7 Tryz.func50 rfl rfl ?_;simp only [Tryz.ntmps50,List.length_cons,List.length_nil,Nat.reduceAdd,Nat.reduceSub,List.replicate_succ,List.replicate_zero,List.cons_append,List.nil_append])
 ((repeat' (first|(apply WL.opN;exact yF;dsimp only [ZB,z0,z1])|refine WL.nil ?_|refine ZA fun Kx hK=>?_|(refine hK _ _ ?_;clear hK)|refine WC.region ?_ |  (refine WL.callC (hp1:=[]) (caps:=[]) (ZRg k.toNat s) Tryz.call83 OpD.f (by (exact aD)) ?_;rintro d' hp2 ⟨vk,vs,rfl,rfl⟩;dsimp only [ZB,z0,z1,List.cons_append,List.nil_append]) |  (refine WL.callC (caps:=[]) (ZM9 Tryz.call114 (seq_c k.toNat s (by have:=ZEU (by assumption);omega) (by have:=ZEU (by assumption);omega) vk vs) (by have:=ZEU (by assumption);have:=ZCb k.toNat s;have:2 ^ s.length≤2 ^ 8:=Nat.pow_le_pow_right (by decide) (by omega);omega)) Tryz.call82 OpD.f (by (exact aD)) ?_;rintro d' hp2 ⟨v,rfl,rfl⟩;dsimp only [ZB,z0,z1,List.cons_append,List.nil_append])|(apply ZF;(focus (first|exact wN|(apply SYG.yes;(exact wY);((first|(apply SY.call (ZJZ _) Tryz.call25;(exact aD))|exact ZDe|exact ZCB|exact ZHv|exact ZE0|exact ZBw|exact ZEK|fail);all_goals infer_instance))));dsimp only [ZB,z0,z1])|((first|refine ZM rfl rfl rfl (fun h=>?_) (fun h=>?_)|refine ZL rfl rfl rfl (fun h=>?_) (fun h=>?_)|refine ZK rfl rfl rfl (fun h=>?_) (fun h=>?_)) <;> (first|(exfalso;first|omega|contradiction)|(dsimp only [z0,z1])))|(apply Z0;(exact oD);(with_reducible rfl))|(apply WC.condD;(exact oD);all_goals (intro h;try exact xD))|(apply WC.condN;(exact oD);all_goals (intro h;try exact xD))|refine WC.skip ?_|refine WC.ret ?_|refine ThenD.r ?_));all_goals (first|((repeat clear hK);(repeat clear Kx))))
 ·have e1:ZCs s k=([],ZAL s):=by unfold ZCs;rw [if_pos h]
  rw [e1];(refine ⟨trivial,⟨_,rfl,?_⟩,_,rfl,?_⟩ <;> exact fD)
 ·have e1:ZCs s k=([],2):=by unfold ZCs;rw [if_neg (by simpa),if_pos (.inl h)]
  rw [e1];(refine ⟨trivial,⟨_,rfl,?_⟩,_,rfl,?_⟩ <;> exact fD)
 ·have e1:ZCs s k=([],2):=by unfold ZCs;rw [if_neg (by simpa),if_pos (.inr h)]
  rw [e1];(refine ⟨trivial,⟨_,rfl,?_⟩,_,rfl,?_⟩ <;> exact fD)
 ·have e1:ZCs s k=(ZX k.toNat s,0):=by unfold ZCs;rw [if_neg (by simpa),if_neg (by omega)]
  rw [e1];(refine ⟨trivial,⟨_,rfl,?_⟩,_,rfl,?_⟩ <;> exact fD)
end
end Go.Proofs.YtokmalofdapffaaGreat
