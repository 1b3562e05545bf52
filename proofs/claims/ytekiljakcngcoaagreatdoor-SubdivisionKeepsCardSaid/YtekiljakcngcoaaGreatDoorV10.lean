/- Part 10: walks by contracts, and plain laws. -/
import Derived.Test.YtekiljakcngcoaaGreatDoorV9
set_option linter.unusedVariables false
set_option linter.unusedSimpArgs false
set_option linter.unusedSectionVars false
set_option maxRecDepth 100000
set_option maxHeartbeats 4000000
namespace Go.Proofs.YtekiljakcngcoaaGreatDoor
section
open Go.RowKit

theorem ZVI {xs:List Vx} {I:Nat->Prop} {w:World} {v:Value} (h:(dS ZI xs).rd I w v):∃ a m c,v = .slice a m c/\(a=none->m=0):=by
 obtain ⟨ad,cap,rfl,h1,h2,h0,h3⟩:=(h:ArrK 2 RV I w v xs)
 refine ⟨_,_,_,rfl,fun hn=>?_⟩
 rcases Nat.eq_zero_or_pos xs.length with hz|hz
 ·exact hz
 ·obtain ⟨us,b,off,_,_,_,had,_,_⟩:=h3 0 hz
  rw [hn] at had;cases had
theorem ZTV (xs:List Vx) (hl:xs.length≤1000):InC Tryz.prog 62 [dS ZI xs] [] fun d' hp2=>∃ v,d'=dX v/\(hp2=[Zp v 50 2 RV xs]\/v = .slice none 0 0/\xs=[]/\hp2=[]):=by
 (refine ZIs Tryz.func62 rfl rfl (fun hp gh hgh=>?_);simp only [Tryz.ntmps62,List.length_cons,List.length_nil,Nat.reduceAdd,Nat.reduceSub,List.replicate_succ,List.replicate_zero,List.cons_append,List.nil_append])
 ((repeat' (first |  (refine ZHd 4 rfl fun b hb=>?_;dsimp only [z0,z1])|(apply WL.opN;exact yF;dsimp only [ZA,z0,z1])|refine WL.nil ?_|refine ZC fun Kx hK=>?_|(refine hK _ _ ?_;clear hK)|refine WC.region ?_ |  (apply ZE2 elV RV (by decide);(intro _;dsimp only [ZA,z0,z1]);all_goals (try infer_instance))|((first|apply WL.appK|apply WL.app1);(exact eD);exact OpD.t rfl;(exact oD);decide;(exact lD);(intro _;dsimp only [ZA,z0,z1]);all_goals (try infer_instance))|(apply WL.opN;(focus ((first|(apply ZHX;exact OpD.t rfl;(exact fun _ _ _ h=>ZVI h);exact ZMw;exact ZOW)|fail);all_goals infer_instance));dsimp only [ZA,z0,z1])|(apply WC.cond;(exact oD);all_goals (intro h;try exact xD))|refine WC.skip ?_|refine WC.ret ?_|refine ThenD.r ?_));all_goals (first|((repeat clear hK);(repeat clear Kx))))
 ·exact ⟨trivial,_,[],rfl,rfl,_,rfl,.inr ⟨rfl,hb h,rfl⟩⟩
 ·exact ⟨trivial,_,[_],rfl,rfl,_,rfl,.inl (by rw [List.nil_append])⟩
theorem ZKT {P:Program} {ops:Array Oper} {hp:List HObj} {fr:List Dat} {Q:ZAW} {rest:List Oper} {b cap N k:Nat} {e:TypeId} {xs:List Vx} (hk:k≤xs.length) (h:WL P ops Q rest fr (hV b k cap e (xs.take k)::hp)):WL P ops Q rest fr (hV b N cap e xs::hp):=WL.of fun P0 B w0 w a hh hf=>by
 obtain ⟨hN,tl,hg,hc1,hc2,hc3⟩:=ZDr.1 (hh.ok (hV b N cap e xs) (by simp))
 have hgr:w.grownBy w (hV b N cap e xs).blk:=⟨rfl,rfl,rfl,Nat.le_refl _,fun _ _ _=>rfl⟩
 have e1:Zs xs++tl=Zs (xs.take k)++(Zs (xs.drop k)++tl):=by rw [<- List.append_assoc,<- ZBV,List.take_append_drop]
 have hok:(hV b k cap e (xs.take k)).ok (fun j=>Imm P0 B (hV b N cap e xs::hp) j/\j<w.heap.size) w :=
  ZDr.2 ⟨by simp;omega,Zs (xs.drop k)++tl,by rw [<- e1];exact hg,by simp;omega,hc2,by rw [<- e1];exact hc3⟩
 exact h.on (hh.write hgr (.inl rfl) hok) (hf.mono fun _ _ hd=>ZY (o':=hV b k cap e (xs.take k)) hgr (.inl rfl) hd)
theorem ZQa {P:Program} {ops:Array Oper} {hp:List HObj} {fr:List Dat} {Q:ZAW} {rest:List Oper} {dst:Option Tmp} {ty:TypeId} {ps:String} {af:Array Edge} {b cap N l bytes:Nat} {e t:TypeId} {xs:List Vx} {z:Value} {ag:Bool} {x y:Operand} {j:Int}
  (E:ElT P t e 2 z bytes ag) (hx:OpD fr x (dX (.slice (some ⟨b,0,none⟩) N cap))) (hy:OpD fr y (dI j)) (hj:j=(l:Int)) (hl:l≤N) (hm:N≤cap) (h0:0<cap) (hk:l≤xs.length)
  (h:WL P ops Q rest (ZA fr dst (dX (.slice (some ⟨b,0,none⟩) l cap))) (hV b l cap e (xs.take l)::hp)):WL P ops Q (⟨dst,.slice t x none (some y) none,ty,ps,af,none⟩::rest) fr (hV b N cap e xs::hp) :=
 WL.op rfl (SY.uptoO E hx hy hj hl hm h0) (ZKT hk h)
set_option maxHeartbeats 4000000 in
theorem ZJO (xs:List Vx) (v:Value) (hs:ZUW xs) (hl:xs.length≤1000):InC Tryz.prog 96 [dX v] [Zp v 50 2 RV xs] fun d' hp2=>∃ v zs,(Asc zs/\∀ u,u∈zs↔u∈xs)/\d'=dX v/\hp2=[Zp v 50 2 RV zs]:=by
 (refine ZIs Tryz.func96 rfl rfl (fun hp gh hgh=>?_);simp only [Tryz.ntmps96,List.length_cons,List.length_nil,Nat.reduceAdd,Nat.reduceSub,List.replicate_succ,List.replicate_zero,List.cons_append,List.nil_append])
 rcases Nat.lt_or_ge xs.length 2 with hx|hx
 ·have ha:Asc xs:=by
   match xs,hx with
   | [],_=>simp [Asc]
   | [x],_=>simp [Asc]
   | x::y::l,hx=>simp at hx;omega
  ((repeat' (first|((first|apply WL.opN|apply WD.opN);exact yF;dsimp only [ZA,z0,z1])|refine WL.nil ?_|refine ZC fun Kx hK=>?_|(refine hK _ _ ?_;clear hK)|refine WC.region ?_|((first|apply WL.opN|apply WD.opN);(focus ((first|exact ZBy|exact ZBq|fail);all_goals infer_instance));dsimp only [ZA,z0,z1])|(apply ZE;(exact oD);all_goals (intro h;try exact xD))|refine WC.ret ?_|refine ThenD.r ?_));all_goals (first|((repeat clear hK);(repeat clear Kx))))
  exact ⟨trivial,_,[_],rfl,rfl,_,xs,⟨ha,fun _=>Iff.rfl⟩,rfl,rfl⟩
 refine ZQQ (by omega) fun b cap hv hc1 hc2=>?_
 subst hv
 (repeat' (first|((first|apply WL.opN|apply WD.opN);exact yF;dsimp only [ZA,z0,z1])|refine WL.nil ?_|refine ZC fun Kx hK=>?_|(refine hK _ _ ?_;clear hK)|refine WC.region ?_|((first|apply WL.opN|apply WD.opN);(focus ((first|exact ZBy|exact ZBq|fail);all_goals infer_instance));dsimp only [ZA,z0,z1])|(apply ZE;(exact oD);all_goals (intro h;try exact xD))|refine WC.skip ?_|refine WC.block ?_))
 simp only [maxLen] at hc2
 (refine WC.loopU (X:=Nat) (fun k=>[(3,dI (k:Int)),(2,dA),(4,dA),(5,dA),(10,dA),(11,dA),(12,dA),(13,dA),(14,dA),(15,dA),(16,dA),(17,dA),(18,dA),(19,dA),(20,dA),(21,dA),(22,dA),(23,dA),(24,dA),(25,dA),(26,dA),(27,dA),(28,dA),(29,dA),(30,dA),(31,dA),(32,dA),(33,dA),(34,dA),(35,dA),(36,dA),(37,dA),(38,dA),(39,dA),(40,dA),(41,dA),(42,dA),(43,dA),(44,dA),(45,dA),(46,dA),(47,dA),(48,dA),(49,dA),(50,dA),(51,dA),(52,dA),(53,dA),(54,dA),(55,dA),(56,dA),(57,dA),(58,dA),(59,dA)]) (fun k=>(hV b xs.length cap 50 xs::gh::hp)) (fun k=>xs.length-k) (fun k=>1≤k/\k≤xs.length/\ZIq xs k (xs.take k)) 1 ?start ?frame0 ?objs0 ?round)
 case start=>exact ⟨Nat.le_refl _,by omega,ZMt (by omega)⟩
 case frame0=>((try dsimp only [Za,z0,z1]);repeat (first|exact LeF.nil|refine ZF (k:=?_)))
 case objs0=>rfl
 case round =>
  rintro k ⟨h1,h2,h3⟩
  dsimp only [Za,z0,z1]
  ((repeat' (first|((first|apply WL.opN|apply WD.opN);exact yF;dsimp only [ZA,z0,z1])|refine WL.nil ?_|refine WD.nil ?_|refine ZC fun Kx hK=>?_|(refine hK _ _ ?_;clear hK)|(refine Kont.skip ?_;clear hK)|refine WC.region ?_|(apply WC.draw;kernel_rfl;kernel_rfl)|((first|apply WL.opN|apply WD.opN);(focus ((first|(apply ZIw (k:=k) elV;exact OpD.t rfl;exact OpD.t rfl;rfl;omega)|(apply ZIw (k:=k-1) elV;exact OpD.t rfl;exact OpD.t rfl;omega;omega)|(apply ZFk (k:=k) tyV;exact OpD.t rfl;exact .head _;omega;omega)|(apply ZFk (k:=k-1) tyV;exact OpD.t rfl;exact .head _;omega;omega)|(apply SY.fromO (l:=k) elV;exact OpD.t rfl;exact OpD.t rfl;rfl;omega;omega)|exact ZBy|exact ZNA|exact ZCk|exact ZNF|exact ZBq|fail);all_goals infer_instance));dsimp only [ZA,z0,z1])|(apply ZE;(exact oD);all_goals (intro h;try exact xD))|refine WC.skip ?_|refine WC.ret ?_|refine WC.exit ?_|refine WC.block ?_|refine ThenD.n ?_));all_goals (first|refine WC.id ?_|((repeat clear hK);(repeat clear Kx))))
  ·have hk:k<xs.length:=by omega
   have hg:=ZJb h3 h1 hk h
   (refine WC.loopU (X:=Nat × Nat × List Vx) (fun x=>[(3,dI (x.2.1:Int)),(5,dI (x.1:Int)),(29,dA),(30,dA),(31,dA),(32,dA),(33,dA),(34,dA),(35,dA),(36,dA),(37,dA),(38,dA),(39,dA),(40,dA),(41,dA),(42,dA),(43,dA),(44,dA),(45,dA),(46,dA),(47,dA),(48,dA),(49,dA),(50,dA),(51,dA),(52,dA),(53,dA)]) (fun x=>(hV b xs.length cap 50 x.2.2::gh::hp)) (fun x=>xs.length-k-x.1) (fun x=>1≤x.1/\k+x.1≤xs.length/\x.2.1+1≤k+x.1/\x.2.2.length=xs.length/\ZIq xs (k+x.1) (x.2.2.take x.2.1)/\x.2.2.drop (k+x.1-1)=xs.drop (k+x.1-1)) (1,k,xs) ?start ?frame0 ?objs0 ?round)
   case start=>exact ⟨Nat.le_refl _,by omega,Nat.le_refl _,rfl,hg,rfl⟩
   case frame0=>((try dsimp only [Za,z0,z1]);repeat (first|exact LeF.nil|refine ZF (k:=?_)))
   case objs0=>rfl
   case round =>
    rintro ⟨m,i,ys⟩ ⟨q1,q2,q3,q4,q5,q6⟩
    dsimp only [Za,z0,z1]
    simp only at q1 q2 q3 q4 q5 q6
    have hget:∀ (j:Nat) (hj:k+m-1≤j) (hj':j<xs.length),ys[j]'(by omega)=xs[j]:=fun j hj hj'=>by
     have e1:=congrArg (fun l=>l[j-(k+m-1)]?) q6
     simp only [List.getElem?_drop] at e1
     rw [show k+m-1+(j-(k+m-1))=j by omega,List.getElem?_eq_getElem (by omega),List.getElem?_eq_getElem hj'] at e1
     exact Option.some.inj e1
    ((repeat' (first|((first|apply WL.opN|apply WD.opN);exact yF;dsimp only [ZA,z0,z1])|refine WL.nil ?_|refine WD.nil ?_|refine ZC fun Kx hK=>?_|(refine hK _ _ ?_;clear hK)|(refine Kont.skip ?_;clear hK)|refine WC.region ?_|(apply WC.draw;kernel_rfl;kernel_rfl) |  (apply ZNd (k:=i) tyV;exact OpD.t rfl;exact OpD.t rfl;omega;omega;dsimp only [ZA,z0,z1]) |  (apply ZNT (k:=i) (n:=xs.length-i) Tryz.underlying28 Tryz.zeroValue50;exact OpD.t rfl;omega;omega;omega;dsimp only [ZA,z0,z1]) |  (apply ZQa (l:=i) elV;exact OpD.t rfl;exact OpD.t rfl;rfl;omega;omega;omega;(simp;omega);dsimp only [ZA,z0,z1])|((first|apply WL.opN|apply WD.opN);(focus ((first|(apply ZIw (k:=m) elV;exact OpD.t rfl;exact OpD.t rfl;rfl;omega)|(apply ZIw (k:=m-1) elV;exact OpD.t rfl;exact OpD.t rfl;omega;omega)|(apply ZIw (k:=i) elV;exact OpD.t rfl;exact OpD.t rfl;rfl;omega)|(apply ZFk (k:=k+m) tyV;exact OpD.t rfl;exact .head _;omega;omega)|(apply ZFk (k:=k+m-1) tyV;exact OpD.t rfl;exact .head _;omega;omega)|(apply SY.fromO (l:=i) elV;exact OpD.t rfl;exact OpD.t rfl;rfl;omega;omega)|exact ZBy|exact ZFc|exact ZCk|exact ZNF|exact ZBq|fail);all_goals infer_instance));dsimp only [ZA,z0,z1])|(apply ZE;(exact oD);all_goals (intro h;try exact xD))|(apply WC.condN;(exact oD);all_goals (intro h;try exact xD))|refine WC.skip ?_|refine WC.ret ?_|refine WC.exit ?_|refine WC.block ?_|refine ThenD.n ?_|refine ThenD.r ?_|refine InBlockD.r ?_));all_goals (first|((repeat clear hK);(repeat clear Kx))))
    ·have hkm:k+m<xs.length:=by omega
     have e1:ys[k+m]'(by omega)=xs[k+m]:=hget _ (by omega) hkm
     have e2:ys[k+m-1]'(by omega)=xs[k+m-1]:=hget _ (by omega) (by omega)
     rw [e1,e2] at h
     rw [e1]
     (refine ⟨(m+1,i+1,ys.set i xs[k+m]),?_,by first|omega|(simp only;omega),rfl,?_⟩;rotate_left;((try dsimp only [Za,z0,z1]);repeat (first|exact LeF.nil|refine ZF (k:=?_)));(try dsimp only))
     refine ⟨by omega,by omega,by omega,by simpa using q4,?_,?_⟩
     ·have:=ZJa hs q5 (by omega) hkm h
      rw [Nat.add_assoc] at this
      have e3:(ys.set i xs[k+m]).take (i+1)=ys.take i++[xs[k+m]]:=by
       rw [ZZ (by simp;omega),List.take_set_of_le (by omega)]
       simp
      rw [e3];exact this
     ·rw [show k+(m+1)-1=(k+m-1)+1 by omega,<- List.drop_drop,<- List.drop_drop (l:=xs)]
      have e4:(ys.set i xs[k+m]).drop (k+m-1+1)=ys.drop (k+m-1+1):=by rw [List.drop_set_of_lt (by omega)]
      first
       | rw [List.drop_drop,List.drop_drop,e4,<- List.drop_drop,<- List.drop_drop,q6]
       | (simp only [List.drop_drop] at *;rw [e4];have:=congrArg (List.drop 1) q6;simpa [List.drop_drop] using this)
    ·have hkm:k+m<xs.length:=by omega
     have e1:ys[k+m]'(by omega)=xs[k+m]:=hget _ (by omega) hkm
     have e2:ys[k+m-1]'(by omega)=xs[k+m-1]:=hget _ (by omega) (by omega)
     rw [e1,e2] at h
     (refine ⟨(m+1,i,ys),?_,by first|omega|(simp only;omega),rfl,?_⟩;rotate_left;((try dsimp only [Za,z0,z1]);repeat (first|exact LeF.nil|refine ZF (k:=?_)));(try dsimp only))
     refine ⟨by omega,by omega,by omega,q4,?_,?_⟩
     ·have:=ZJb q5 (by omega) hkm h
      rw [Nat.add_assoc] at this
      exact this
     ·have:=congrArg (List.drop 1) q6
      rw [List.drop_drop,List.drop_drop] at this
      rw [show k+(m+1)-1=k+m-1+1 by omega]
      exact this
    ·have e1:(ys.take i++List.replicate (xs.length-i) ((0,0):Vx)).take i=ys.take i:=by
      rw [List.take_left' (by simp;omega)]
     rw [e1]
     exact ⟨trivial,_,[_],rfl,rfl,_,_,ZLu q5 (by omega),rfl,rfl⟩
  ·(refine ⟨k+1,?_,by first|omega|(simp only;omega),rfl,?_⟩;rotate_left;((try dsimp only [Za,z0,z1]);repeat (first|exact LeF.nil|refine ZF (k:=?_)));(try dsimp only))
   refine ⟨by omega,by omega,?_⟩
   rw [ZZ (by omega)]
   exact ZJa hs h3 h1 (by omega) h
  ·have e1:xs.take k=xs:=List.take_of_length_le (by omega)
   rw [e1] at h3
   exact ⟨trivial,_,[_],rfl,rfl,_,xs,ZLu h3 (by omega),rfl,rfl⟩

end
end Go.Proofs.YtekiljakcngcoaaGreatDoor
