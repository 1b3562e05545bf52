/- Part 40: walks by contracts, and plain laws. -/
import Derived.Test.YtlgmojhmmbhgfaaGreatDoorVg38
import Derived.Test.YtlgmojhmmbhgfaaGreatDoorVg39
set_option linter.unusedVariables false
set_option linter.unusedSimpArgs false
set_option linter.unusedSectionVars false
set_option maxRecDepth 100000
set_option maxHeartbeats 4000000
namespace Go.Proofs.YtlgmojhmmbhgfaaGreatDoor
section
open Go.RowKit

def exS:List Vx:=[(0,5),(1,0)]
def exB:Cx:=[[(0,0),(1,2)],[(0,1),(1,2)]]
theorem ZSa:ZGT 2=([[1,2],[2,1],[3]],0)/\(ZGT 3).2=0/\(ZGT 3).1.length=13/\(ZGT 4).2=0/\(ZGT 4).1.length=75:=by decide +kernel
theorem ZTj:ZGD exS [2,1]=([(0,3),(1,2)],0):=by decide +kernel
theorem ZTl:ZRJ exS=(([[(0,1),(1,3)],[(0,3),(1,2)],[(0,3),(1,3)]],[(0,1),(0,3),(1,2),(1,3)],[[(0,5)],exS,[(1,0)],exS]),0):=by decide +kernel
theorem ZQo (n:Nat) (h:n<10):Lib.itoa (n:Int)=[UInt8.ofNat (48+n)]:=by rw [Lib.itoa_nonneg,Lib.decDigits_one h]
theorem ZSb:txS [(0,5)]=[48,47,53,32]:=by
 show (((Lib.itoa ((0:Nat):Int)++[47])++Lib.itoa ((5:Nat):Int))++[32])++[]=_
 rw [ZQo 0 (by decide),ZQo 5 (by decide)]
 rfl
theorem ZSc:txS [(1,0)]=[49,47,48,32]:=by
 show (((Lib.itoa ((1:Nat):Int)++[47])++Lib.itoa ((0:Nat):Int))++[32])++[]=_
 rw [ZQo 0 (by decide),ZQo 1 (by decide)]
 rfl
theorem ZTm:txS exS=[48,47,53,32,49,47,48,32]:=by
 have h:txS exS=txS [(0,5)]++txS [(1,0)]:=by
  unfold txS exS
  simp
 rw [h,ZSb,ZSc]
 rfl
theorem ZQN:ZDx [exS]=[[(0,5)],[(1,0)],exS]:=by decide +kernel
theorem ZTk:ZBT [exS]=[([48,47,53,32],0),([49,47,48,32],1),([48,47,53,32,49,47,48,32],2)]:=by
 unfold ZBT
 rw [ZQN]
 simp only [List.foldl_cons,List.foldl_nil]
 unfold ZFR
 rw [ZSb,ZSc,ZTm]
 decide +kernel
theorem ZNp:ZGl 3=[[1,2],[2,1]]:=by decide +kernel
theorem ZTg:atB exS (orB [1,2] 1)=[(0,5)]/\atB exS (orB [1,2] 2)=exS/\atB exS (orB [2,1] 1)=[(1,0)]/\atB exS (orB [2,1] 2)=exS:=by decide +kernel
theorem ZTi:ZHW (ZBT [exS]) exS [1,2] 0=(0,0)/\ZHW (ZBT [exS]) exS [1,2] 1=(1,2)/\ZHW (ZBT [exS]) exS [2,1] 0=(0,1)/\ZHW (ZBT [exS]) exS [2,1] 1=(1,2):=by
 obtain ⟨a1,a2,a3,a4⟩:=ZTg
 unfold ZHW ZPW
 rw [a1,a2,a3,a4,ZSb,ZSc,ZTm,ZTk]
 decide +kernel
theorem ZTh:ZBw (ZBT [exS]) [exS]=exB:=by
 obtain ⟨b1,b2,b3,b4⟩:=ZTi
 unfold ZBw
 rw [List.flatMap_cons,List.flatMap_nil,List.append_nil,show 2 ^ exS.length-1=3 from rfl,ZNp]
 simp only [List.map_cons,List.map_nil]
 unfold ZDs
 show [[ZHW _ exS [1,2] 0,ZHW _ exS [1,2] 1],[ZHW _ exS [2,1] 0,ZHW _ exS [2,1] 1]]=exB
 rw [b1,b2,b3,b4]
 rfl
def exK (v:Vx):List Vx:=if v=(0,0) then [(0,5)] else if v=(0,1) then [(1,0)] else if v=(1,2) then exS else []
theorem ZSZ (v:Vx):(exK v).length≤1000:=by
 unfold exK
 split
 ·simp
 ·split
  ·simp
  ·split
   ·unfold exS;simp
   ·simp
theorem CallC.lessA {f:FuncId} {a a':Dat} {hp1:List HObj} {K:Dat->List HObj->Prop} (h:CallC Tryz.prog f [a] hp1 K) (k:a'.le a):CallC Tryz.prog f [a'] hp1 K:=⟨fun P0 B w0 hp vs W hh hl hv=>h.out P0 B w0 hp vs W hh hl fun i d hd=>by
 cases i with
 | zero=>cases hd;exact k _ _ _ (hv 0 _ rfl)
 | succ i=>cases hd⟩
theorem ZSL:CallC Tryz.prog 10 ([dS Cpx [exS]]++([]:List Value).map dX) [] (fun d hp2=>∃ B:Sb,d=dT [dS ZCb (exB,B.2.1,B.2.2),dI 0]/\hp2=[]):=by
 have hb:=ZTh
 refine ((ZNL (S:=True) [exS] exB exK (by decide) (by decide +kernel) (by decide +kernel) (by decide +kernel) (by decide +kernel) (by rw [hb];decide) (by rw [hb];decide) ?_ ZSZ (by rw [hb];decide +kernel) fun _=>?_).lessA (ZTB trivial)).monoK fun d hp2 ⟨h1,h2⟩=>⟨([],_,_),h1,h2⟩
 ·intro s hs bl hbl k hk
  cases List.mem_singleton.1 hs
  rw [show 2 ^ exS.length-1=3 from rfl,ZNp] at hbl
  obtain ⟨b1,b2,b3,b4⟩:=ZTi
  obtain ⟨a1,a2,a3,a4⟩:=ZTg
  have hok:∀ a b:Fin 8,okV (((a.val:Nat):Int),((b.val:Nat):Int)):=fun a b=>by
   unfold okV ZML
   have:=a.2;have:=b.2
   simp only
   omega
  simp only [List.mem_cons,List.not_mem_nil,or_false] at hbl
  rcases hbl with rfl|rfl
  ·have:k=0\/k=1:=by simp at hk;omega
   rcases this with rfl|rfl
   ·rw [b1,a1];exact ⟨hok 0 0,by decide⟩
   ·rw [b2,a2];exact ⟨hok 1 2,by decide⟩
  ·have:k=0\/k=1:=by simp at hk;omega
   rcases this with rfl|rfl
   ·rw [b3,a3];exact ⟨hok 0 1,by decide⟩
   ·rw [b4,a4];exact ⟨hok 1 2,by decide⟩
 ·intro s hs v hv
  cases List.mem_singleton.1 hs
  unfold exS at hv
  simp only [List.mem_cons,List.not_mem_nil,or_false] at hv
  rcases hv with rfl|rfl <;> decide
theorem v29_p (c n:Int):Fn Tryz.prog 16 [dI c,dI n] (dS RV (c,n)):=by
 refine ZEu tyV Tryz.func16 rfl rfl ?_
 simp only [Tryz.ntmps16,List.length_cons,List.length_nil,Nat.reduceAdd,Nat.reduceSub,List.replicate_succ,List.replicate_zero,List.cons_append,List.nil_append]
 ((repeat' (first|(apply WL.opN;exact yF;dsimp only [ZB,z0,z1])|refine WL.nil ?_|refine ZA fun Kx hK=>?_|(refine hK _ _ ?_;clear hK)|refine WC.region ?_|(apply WL.alloc;(first|exact tzV|exact tzC);(first|exact ZY rfl|exact ZAF|exact Zy rfl);(intro _;dsimp only [ZB,z0,z1]))|(apply ZN;(exact tD);rfl;(exact oD);(exact hD);dsimp only [ZB,z0,z1])|(apply WL.opN;(focus ((first|(first|(apply ZFr vxT <;> (exact oD))|(apply ZFs vxT <;> (exact oD))|(apply ZGs vxT <;> (exact oD)))|fail);all_goals infer_instance));dsimp only [ZB,z0,z1])|refine WC.ret ?_));all_goals (first|((repeat clear hK);(repeat clear Kx))))
 (refine ⟨trivial,_,rfl,?_⟩;exact fD)
theorem ZTA (l:List Int):Fn Tryz.prog 53 [dS ZBt l,dS ZBt l] (dB true):=by
 (refine ZG Tryz.func53 rfl rfl ?_;simp only [Tryz.ntmps53,List.length_cons,List.length_nil,Nat.reduceAdd,Nat.reduceSub,List.replicate_succ,List.replicate_zero,List.cons_append,List.nil_append])
 (first|refine ZS (t:=0) rfl ZFJ fun hl0=>?_|refine ZS (t:=0) rfl ZFI fun hl0=>?_|refine ZS (t:=0) rfl ZPV fun hl0=>?_);simp only [maxLen] at hl0
 (repeat' (first|((first|apply WL.opN|apply WD.opN);exact yF;dsimp only [ZB,z0,z1])|refine WL.nil ?_|refine ZA fun Kx hK=>?_|(refine hK _ _ ?_;clear hK)|refine WC.region ?_|((first|apply WL.opN|apply WD.opN);(focus ((first|((first|apply SY.move|apply SY.assign|apply SY.lss|apply SY.neq) <;> (exact oD))|(apply SY.len;(exact oD);(exact nD);(exact uD))|fail);all_goals infer_instance));dsimp only [ZB,z0,z1])|(apply ZL;(exact oD);all_goals (intro h;try exact xD))|refine WC.skip ?_|refine WC.block ?_))
 (refine WC.loopU (X:=Nat) (fun k=>[(5,dI (k:Int)),(4,dA),(11,dA),(12,dA),(13,dA),(14,dA),(15,dA),(16,dA),(17,dA),(18,dA),(19,dA),(20,dA),(21,dA),(22,dA),(23,dA),(24,dA),(25,dA)]) (fun k=>[]) (fun k=>l.length-k) (fun k=>k≤l.length) 0 ?start ?frame0 ?objs0 ?round)
 case start=>exact Nat.zero_le _
 case frame0=>((try dsimp only [ZK,z0,z1]);repeat (first|exact LeF.nil|refine ZD (k:=?_)))
 case objs0=>rfl
 case round =>
  rintro k h1
  dsimp only [ZK,z0,z1]
  by_cases hk:k<l.length
  ·((repeat' (first|((first|apply WL.opN|apply WD.opN);exact yF;dsimp only [ZB,z0,z1])|refine WL.nil ?_|refine WD.nil ?_|refine ZA fun Kx hK=>?_|(refine hK _ _ ?_;clear hK)|refine WC.region ?_|(apply WC.draw;kernel_rfl;kernel_rfl)|((first|apply WL.opN|apply WD.opN);(focus ((first|((first|apply SY.move|apply SY.assign|apply SY.lss|apply SY.neq) <;> (exact oD))|((first|apply SY.add) <;> first|exact oD|omega)|(apply SY.len;(exact oD);(exact nD);(exact uD))|(apply ZAw;(exact eD);(exact oD);(exact oD);exact kD)|fail);all_goals infer_instance));dsimp only [ZB,z0,z1])|(apply ZC;(exact oD);all_goals (intro h;try exact xD))|(apply ZL;(exact oD);all_goals (intro h;try exact xD))|refine WC.skip ?_|refine WC.block ?_|refine ThenD.n ?_));all_goals (first|((repeat clear hK);(repeat clear Kx))))
   all_goals first
    | (exfalso;omega)
    | ((refine ⟨k+1,?_,by first|omega|(simp only;omega),rfl,?_⟩;rotate_left;((try dsimp only [ZK,z0,z1]);repeat (first|exact LeF.nil|refine ZD (k:=?_)));(try dsimp only));omega)
  ·((repeat' (first|((first|apply WL.opN|apply WD.opN);exact yF;dsimp only [ZB,z0,z1])|refine WL.nil ?_|refine ZA fun Kx hK=>?_|(refine hK _ _ ?_;clear hK)|(refine Kont.skip ?_;clear hK)|refine WC.region ?_|((first|apply WL.opN|apply WD.opN);(focus ((first|((first|apply SY.move|apply SY.assign|apply SY.lss|apply SY.neq) <;> (exact oD))|(apply SY.len;(exact oD);(exact nD);(exact uD))|fail);all_goals infer_instance));dsimp only [ZB,z0,z1])|(apply ZC;(exact oD);all_goals (intro h;try exact xD))|refine WC.ret ?_|refine WC.exit ?_));all_goals (first|((repeat clear hK);(repeat clear Kx))))
   all_goals first
    | (exfalso;omega)
    | (refine ⟨trivial,_,rfl,?_⟩;exact fD)
theorem ZS8 (l:List (List Int)):Fn Tryz.prog 20 [dS Rows l,dS Rows l] (dB true):=by
 (refine ZG Tryz.func20 rfl rfl ?_;simp only [Tryz.ntmps20,List.length_cons,List.length_nil,Nat.reduceAdd,Nat.reduceSub,List.replicate_succ,List.replicate_zero,List.cons_append,List.nil_append])
 (first|refine ZS (t:=0) rfl ZFJ fun hl0=>?_|refine ZS (t:=0) rfl ZFI fun hl0=>?_|refine ZS (t:=0) rfl ZPV fun hl0=>?_);simp only [maxLen] at hl0
 (repeat' (first|((first|apply WL.opN|apply WD.opN);exact yF;dsimp only [ZB,z0,z1])|refine WL.nil ?_|refine ZA fun Kx hK=>?_|(refine hK _ _ ?_;clear hK)|refine WC.region ?_|((first|apply WL.opN|apply WD.opN);(focus ((first|(apply SY.len;exact OpD.t rfl;exact ZDL;exact ZJn.unt)|((first|apply SY.move|apply SY.assign|apply SY.lss|apply SY.neq|apply SY.not) <;> (exact oD))|fail);all_goals infer_instance));dsimp only [ZB,z0,z1])|(apply ZL;(exact oD);all_goals (intro h;try exact xD))|refine WC.skip ?_|refine WC.block ?_))
 all_goals try (exfalso;omega)
 (refine WC.loopU (X:=Nat) (fun k=>[(5,dI (k:Int)),(4,dA),(11,dA),(12,dA),(13,dA),(14,dA),(15,dA),(16,dA),(17,dA),(18,dA),(19,dA),(20,dA),(21,dA),(22,dA),(23,dA),(24,dA),(25,dA),(26,dA)]) (fun k=>[]) (fun k=>l.length-k) (fun k=>k≤l.length) 0 ?start ?frame0 ?objs0 ?round)
 case start=>exact Nat.zero_le _
 case frame0=>((try dsimp only [ZK,z0,z1]);repeat (first|exact LeF.nil|refine ZD (k:=?_)))
 case objs0=>rfl
 case round =>
  rintro k h1
  dsimp only [ZK,z0,z1]
  by_cases hk:k<l.length
  ·((repeat' (first|((first|apply WL.opN|apply WD.opN);exact yF;dsimp only [ZB,z0,z1])|refine WL.nil ?_|refine WD.nil ?_|refine ZA fun Kx hK=>?_|(refine hK _ _ ?_;clear hK)|refine WC.region ?_|(apply WC.draw;kernel_rfl;kernel_rfl)|((first|apply WL.opN|apply WD.opN);(focus ((first|(apply SY.len;exact OpD.t rfl;exact ZDL;exact ZJn.unt)|(refine ZAw (R:=ZBt) (_gR:=inferInstance) ZJn (OpD.t rfl) (OpD.t rfl) hk)|(apply SY.load;exact tyIn;exact OpD.t rfl)|(apply SY.call (ZTA l[k]) Tryz.call53;(exact aD))|(exact ZB8 (OpD.t rfl))|((first|apply SY.move|apply SY.assign|apply SY.lss|apply SY.neq|apply SY.not) <;> (exact oD))|((first|apply SY.add) <;> first|exact oD|omega)|fail);all_goals infer_instance));dsimp only [ZB,z0,z1])|(apply Zi;(exact oD);(with_reducible rfl))|(apply ZC;(exact oD);all_goals (intro h;try exact xD))|refine WC.skip ?_|refine WC.block ?_|refine ThenD.n ?_));all_goals (first|((repeat clear hK);(repeat clear Kx))))
   all_goals first
    | (exfalso;omega)
    | ((refine ⟨k+1,?_,by first|omega|(simp only;omega),rfl,?_⟩;rotate_left;((try dsimp only [ZK,z0,z1]);repeat (first|exact LeF.nil|refine ZD (k:=?_)));(try dsimp only));omega)
  ·((repeat' (first|((first|apply WL.opN|apply WD.opN);exact yF;dsimp only [ZB,z0,z1])|refine WL.nil ?_|refine ZA fun Kx hK=>?_|(refine hK _ _ ?_;clear hK)|(refine Kont.skip ?_;clear hK)|refine WC.region ?_|((first|apply WL.opN|apply WD.opN);(focus ((first|(apply SY.len;exact OpD.t rfl;exact ZDL;exact ZJn.unt)|((first|apply SY.move|apply SY.assign|apply SY.lss|apply SY.neq|apply SY.not) <;> (exact oD))|fail);all_goals infer_instance));dsimp only [ZB,z0,z1])|(apply ZC;(exact oD);all_goals (intro h;try exact xD))|refine WC.ret ?_|refine WC.exit ?_));all_goals (first|((repeat clear hK);(repeat clear Kx))))
   all_goals first
    | (exfalso;omega)
    | (refine ⟨trivial,_,rfl,?_⟩;exact fD)
end
section
open Go.RowKit
section
variable {P:Program} {ops:Array Oper} {hp:List HObj} {fr:List Dat} {dst:Option Tmp} {ty:TypeId} {ps:String} {af:Array Edge} {g:Option (Nat × Bool)} {T T2:TypeId}
theorem ZSD {p q:Int} {x y:Operand} (h:p=q) (hx:OpD fr x (dI p)) (hy:OpD fr y (dI q)):SY P ops hp ⟨dst,.binOp .neq T x y T2,ty,ps,af,g⟩ fr (dB false):=by
 have:=SY.neq (P:=P) (ops:=ops) (hp:=hp) (dst:=dst) (ty:=ty) (ps:=ps) (af:=af) (g:=g) (T:=T) (T2:=T2) hx hy
 rwa [decide_eq_true h] at this
theorem ZJr {p q:Int} {x y:Operand} (h:p=q) (hx:OpD fr x (dI p)) (hy:OpD fr y (dI q)):SY P ops hp ⟨dst,.binOp .eql T x y T2,ty,ps,af,g⟩ fr (dB true):=by
 have:=SY.eql (P:=P) (ops:=ops) (hp:=hp) (dst:=dst) (ty:=ty) (ps:=ps) (af:=af) (g:=g) (T:=T) (T2:=T2) hx hy
 rwa [decide_eq_true h] at this
theorem ZPe {x y:Operand} (hx:OpD fr x (dI 0)) (hy:OpD fr y (dI 0)):SY P ops hp ⟨dst,.binOp .add T x y T2,ty,ps,af,g⟩ fr (dI 0):=SY.add hx hy (by omega)
end

set_option maxHeartbeats 16000000 in
theorem ZNC:Fn Tryz.prog 6 [] (dB true):=by
 obtain ⟨x1,x2,x3,x4,x5⟩:=ZSa
 have c1:=ZDO 2
 rw [x1] at c1
 have c2:=ZDO 3
 rw [x2] at c2
 have c3:=ZDO 4
 rw [x4] at c3
 generalize (ZGT 3).1=l3 at *
 generalize (ZGT 4).1=l4 at *
 have c4:Fn Tryz.prog 18 [dS ZE [(0,5),(1,0)],dS ZBt [2,1]] (dT [dS ZE [(0,3),(1,2)],dI 0]):=by
  have:=ZQR exS [2,1]
  rw [ZTj] at this
  exact this
 have c5:Fn Tryz.prog 19 [dS ZE [(0,5),(1,0)]] (dT [dS ZCb ([[(0,1),(1,3)],[(0,3),(1,2)],[(0,3),(1,3)]],[(0,1),(0,3),(1,2),(1,3)],[[(0,5)],[(0,5),(1,0)],[(1,0)],[(0,5),(1,0)]]),dI 0]):=by
  have:=ZKP exS
  rw [ZTl] at this
  exact this
 have c6:CallC Tryz.prog 10 ([dS Cpx [[(0,5),(1,0)]]]++([]:List Value).map dX) [] (fun d hp2=>∃ B:Sb,d=dT [dS ZCb ([[(0,0),(1,2)],[(0,1),(1,2)]],B.2.1,B.2.2),dI 0]/\hp2=[]):=ZSL
 have s:∀ l:Cx,Fn Tryz.prog 22 [dS Zc l,dS Zc l] (dB true):=fun l=>by
  have:=ZGW l l
  rwa [decide_eq_true rfl] at this
 have s1:∀ l:List Vx,Fn Tryz.prog 21 [dS ZE l,dS ZE l] (dB true):=fun l=>by
  have:=ZLo l l
  rwa [decide_eq_true (ZBe.2 rfl)] at this
 refine ZG Tryz.func6 rfl rfl ?_
 show WC _ _ _ (List.replicate 137 (dX undef)) []
 simp only [List.replicate_succ,List.replicate_zero]
 ((repeat' (first|((first|apply WL.opN|apply WD.opN);exact yF;dsimp only [ZB,z0,z1])|refine WL.nil ?_|refine WD.nil ?_|refine ZA fun Kx hK=>?_|(refine hK _ _ ?_;clear hK)|refine WC.region ?_|(apply WC.draw;kernel_rfl;kernel_rfl) |  (refine ZAZ (zs:=[.slice none 0 0,.slice none 0 0,.slice none 0 0]) ZCH (by decide) (by simp [Value.oneCell']) fun b6=>?_;dsimp only [ZB,z0,z1,List.map_cons,List.map_nil]) |  (refine ZAG ZAd (OpD.t rfl) (OpD.tle rfl ZC7) rfl rfl ?_;dsimp only [ZB,z0,z1]) |  (refine Z8 (hp1:=[]) (caps:=[]) c6 Tryz.call10 OpD.f (by (exact aD)) ?_;rintro d' hp2 ⟨B,rfl,rfl⟩;dsimp only [ZB,z0,z1,List.cons_append,List.nil_append])|((first|apply ZJ|apply WD.op);(focus (first|exact wN|(apply ZF;(exact wY);((first|(apply SY.call (v29_p _ _) Tryz.call16;(exact aD))|(apply SY.call c1 Tryz.call17;exact ArgsD.cons OpD.i ArgsD.nil)|(apply SY.call c2 Tryz.call17;exact ArgsD.cons OpD.i ArgsD.nil)|(apply SY.call c3 Tryz.call17;exact ArgsD.cons OpD.i ArgsD.nil)|(apply SY.call (c4) Tryz.call18;exact ArgsD.cons (OpD.t rfl) (ArgsD.cons (OpD.t rfl) (ArgsD.nil)))|(apply SY.call (c5) Tryz.call19;exact ArgsD.cons (OpD.t rfl) (ArgsD.nil))|(apply SY.call (ZS8 _) Tryz.call20;(exact aD))|(apply SY.call (s1 _) Tryz.call21;(exact aD))|(apply SY.call (s _) Tryz.call22;(exact aD))|(refine Ze ZAe (OpD.t rfl) (by decide))|(apply ZMl ZCt;exact OpD.t rfl)|(refine Zb ZCl (OpD.t rfl) (.head _) rfl)|(refine Zb ZCM (OpD.t rfl) (.head _) rfl)|(apply SY.len;exact OpD.t rfl;exact ZDL;exact ZJn.unt)|(exact SY.build1' (R:=ZBt) (_gR:=inferInstance) (els:=[[1,2],[2,1],[3]]) ZJn (Zh (OpD.t rfl) (Zh (OpD.t rfl) (Zh (OpD.t rfl) Zq))) rfl rfl (fun _=>ZAa) (Nat.le_of_ble_eq_true rfl))|(exact ZPe (OpD.t rfl) (OpD.t rfl))|(exact ZSD (p:=0) (q:=0) rfl (OpD.t rfl) OpD.i)|(exact ZJr (p:=0) (q:=0) rfl (OpD.t rfl) OpD.i)|(exact ZJr (p:=((l3.length:Nat):Int)) (q:=13) (x3 ▸ rfl) (OpD.t rfl) OpD.i)|(exact ZJr (p:=((l4.length:Nat):Int)) (q:=75) (x5 ▸ rfl) (OpD.t rfl) OpD.i)|(exact ZB8 (OpD.t rfl))|((first|apply SY.move|apply SY.assign|apply SY.eql|apply SY.neq|apply SY.not) <;> (exact oD))|(apply ZRV ZCt;exact OpD.t rfl)|(apply SY.buildE;(exact eD);((try simp only [List.map_cons,List.map_nil]);(repeat (first|exact Zq|(apply Zh;(first|exact OpD.t rfl|exact OpD.i|exact OpD.b|exact OpD.tle rfl (by first|exact ZI|exact ZH (by decide))|exact ⟨ZI⟩|exact ⟨ZH (by decide)⟩)))));rfl;rfl;decide;(intro _;exact ZAV);(exact (by simp)))|(apply SY.build1';(exact eD);((try simp only [List.map_cons,List.map_nil]);(repeat (first|exact Zq|(apply Zh;(first|exact OpD.t rfl|exact OpD.i|exact OpD.b|exact OpD.tle rfl (by first|exact ZI|exact ZH (by decide))|exact ⟨ZI⟩|exact ⟨ZH (by decide)⟩)))));rfl;rfl;(intro _;first|exact ZAb|exact ZA4|exact ZAa|exact ZBP);(exact (by simp)))|(apply Z6;(exact oD);(with_reducible rfl);(exact oD))|(apply ZAS;(exact oD);(with_reducible rfl);(exact oD))|(apply SY.extract;(exact oD);rfl)|fail);all_goals infer_instance))));dsimp only [ZB,z0,z1])|(apply Zi;(exact oD);(with_reducible rfl))|refine WC.skip ?_|refine WC.ret ?_));all_goals (first|((repeat clear hK);(repeat clear Kx))))
 all_goals try (exfalso;first|contradiction|omega)
 (refine ⟨trivial,_,rfl,?_⟩;exact fD)
end
section
open Go.RowKit
section
variable {P:Program} {ops:Array Oper} {hp:List HObj} {fr:List Dat} {dst:Option Tmp} {ty:TypeId} {ps:String} {af:Array Edge} {g:Option (Nat × Bool)} {x y:Operand} {T T2:TypeId} {p q:Int} {c:Bool}
theorem ZMk (h:decide (p=q)=c) (hx:OpD fr x (dI p)) (hy:OpD fr y (dI q)):SY P ops hp ⟨dst,.binOp .eql T x y T2,ty,ps,af,g⟩ fr (dB c):=h ▸ SY.eql hx hy
end

end
section
open Go.RowKit
abbrev Chs:Rel (List (List (List Vx))):=Arr Zc
def ZF3:Nat->List Vx->List Vx->List Cx
 | 0,_,_=>[[]]
 | n+1,s,f=>s.flatMap fun v=>if v∈f then [] else (ZF3 n s (ZC5 f v)).map (ZC5 f v :: ·)
theorem ZER:∀ (n:Nat) (s f:List Vx),s.length≤5->(ZF3 n s f).length≤5 ^ n
 | 0,s,f,h=>by simp [ZF3]
 | n+1,s,f,h=>by
  have go:∀ k:List Vx,(k.flatMap fun v=>if v∈f then [] else (ZF3 n s (ZC5 f v)).map (ZC5 f v :: ·)).length≤5 ^ n*k.length:=by
   intro k
   induction k with
   | nil=>simp
   | cons v k ih =>
    rw [List.flatMap_cons,List.length_append,List.length_cons,Nat.mul_succ]
    have h1:(if v∈f then ([]:List Cx) else (ZF3 n s (ZC5 f v)).map (ZC5 f v :: ·)).length≤5 ^ n:=by
     split
     ·simp
     ·rw [List.length_map];exact ZER n s _ h
    omega
  have:=go s
  unfold ZF3
  rw [Nat.pow_succ]
  have h2:5 ^ n*s.length≤5 ^ n*5:=Nat.mul_le_mul_left _ h
  omega
theorem ZHZ:∀ (n:Nat) (s f:List Vx),∀ c∈ZF3 n s f,c.length=n
 | 0,s,f,c,h=>by simp [ZF3] at h;rw [h];rfl
 | n+1,s,f,c,h=>by
  unfold ZF3 at h
  obtain ⟨v,_,hc⟩:=List.mem_flatMap.1 h
  split at hc
  ·cases hc
  ·obtain ⟨d,hd,rfl⟩:=List.mem_map.1 hc
   rw [List.length_cons,ZHZ n s _ d hd]

theorem ZNn:ElT Tryz.prog 73 22 1 (.slice none 0 0) 24 false:=⟨Tryz.underlying73,by kernel_rfl,Tryz.isAgg22,rfl⟩
theorem ZRC (f:List Vx) (v:Vx) (h:v∉f):(ZC5 f v).length=f.length+1:=by
 have go:∀ f:List Vx,(ZFQ f v).length=f.length+1:=by
  intro f
  induction f with
  | nil=>rfl
  | cons x f ih=>unfold ZFQ;split <;> simp [ih]
 unfold ZC5
 rw [if_neg h,go]
set_option maxHeartbeats 8000000 in
theorem ZGx:∀ (n:Nat) (s f:List Vx),s.length≤5->n≤5->f.length+n=s.length->Fn Tryz.prog 38 [dS ZE s,dS ZE f] (dS Chs (ZF3 n s f))
 | 0,s,f,hs,_,hf=>by
  have he:decide ((f.length:Int)=(s.length:Int))=true:=decide_eq_true (by omega)
  (refine ZG Tryz.func38 rfl rfl ?_;simp only [Tryz.ntmps38,List.length_cons,List.length_nil,Nat.reduceAdd,Nat.reduceSub,List.replicate_succ,List.replicate_zero,List.cons_append,List.nil_append])
  ((repeat' (first|(apply WL.opN;exact yF;dsimp only [ZB,z0,z1])|refine WL.nil ?_|refine ZA fun Kx hK=>?_|(refine hK _ _ ?_;clear hK)|refine WC.region ?_|(apply WL.opN;(focus ((first|(exact ZMk he (OpD.t rfl) (OpD.t rfl))|(refine SY.build1' (R:=Zc) (_gR:=inferInstance) (els:=[[]]) ZNn (ElsD.cons ⟨ZI⟩ ElsD.nil) rfl rfl (fun _=>ZAa) (by simp))|(apply SY.len;(exact oD);(exact nD);(exact uD))|fail);all_goals infer_instance));dsimp only [ZB,z0,z1])|(apply ZAs;(exact oD);(with_reducible rfl))|refine WC.ret ?_|refine ThenD.r ?_));all_goals (first|((repeat clear hK);(repeat clear Kx))))
  all_goals try (exfalso;first|contradiction|omega)
  (refine ⟨trivial,_,rfl,?_⟩;exact fD)
 | n+1,s,f,hs,hn,hf=>by
  have ih:=ZGx n s
  have he:decide ((f.length:Int)=(s.length:Int))=false:=decide_eq_false (by omega)
  have hlen:=ZER (n+1) s f hs
  have h5:5 ^ (n+1)≤5 ^ 5:=Nat.pow_le_pow_right (by decide) hn
  (refine ZG Tryz.func38 rfl rfl ?_;simp only [Tryz.ntmps38,List.length_cons,List.length_nil,Nat.reduceAdd,Nat.reduceSub,List.replicate_succ,List.replicate_zero,List.cons_append,List.nil_append])
  (repeat' (first|(apply WL.opN;exact yF;dsimp only [ZB,z0,z1])|refine WL.nil ?_|refine ZA fun Kx hK=>?_|(refine hK _ _ ?_;clear hK)|refine WC.region ?_|(apply WL.opN;(focus ((first|(exact ZMk he (OpD.t rfl) (OpD.t rfl))|(apply SY.len;(exact oD);(exact nD);(exact uD))|fail);all_goals infer_instance));dsimp only [ZB,z0,z1])|(apply Zi;(exact oD);(with_reducible rfl))|refine WC.skip ?_|refine WC.block ?_))
  all_goals try (exfalso;first|contradiction|omega)
  refine ZAy 22 Zc ?_
  (refine WC.loopU (X:=Nat × Value × List Cx) (fun x=>[(5,dX x.2.1),(6,dI (x.1:Int)),(7,dA),(8,dA),(9,dA),(16,dA),(17,dA),(18,dA),(19,dA),(20,dA),(21,dA),(22,dA),(23,dA),(24,dA),(25,dA),(26,dA),(27,dA),(28,dA),(29,dA),(30,dA),(31,dA),(32,dA),(33,dA),(34,dA),(35,dA),(36,dA),(37,dA),(38,dA),(39,dA),(40,dA),(41,dA),(42,dA),(43,dA),(44,dA),(45,dA),(46,dA),(47,dA),(48,dA),(49,dA),(50,dA),(51,dA),(52,dA)]) (fun x=>[ZW x.2.1 22 Zc x.2.2]) (fun x=>s.length-x.1) (fun x=>x.1≤s.length/\x.2.2++((s.drop x.1).flatMap fun v=>if v∈f then [] else (ZF3 n s (ZC5 f v)).map (ZC5 f v :: ·))=ZF3 (n+1) s f) (0,.slice none 0 0,[]) ?start ?frame0 ?objs0 ?round)
  case start=>exact ⟨Nat.zero_le _,by simp only [List.nil_append,List.drop_zero];rfl⟩
  case frame0=>((try dsimp only [ZK,z0,z1]);repeat (first|exact LeF.nil|refine ZD (k:=?_)))
  case objs0=>rfl
  case round =>
   rintro ⟨i,u,o⟩ ⟨h1,h2⟩
   simp only at h1 h2
   dsimp only [ZK,z0,z1]
   by_cases hi:i<s.length
   ·rw [Zd hi,List.flatMap_cons] at h2
    have cH:=ZN4 f s[i]
    by_cases hm:s[i]∈f
    ·rw [decide_eq_true hm] at cH
     rw [if_pos hm,List.nil_append] at h2
     ((repeat' (first|(apply WL.opN;exact yF;dsimp only [ZB,z0,z1])|refine WL.nil ?_|refine ZA fun Kx hK=>?_|(refine hK _ _ ?_;clear hK)|(refine Kont.skip ?_;clear hK)|refine WC.region ?_|(apply WL.opN;(focus ((first|(apply SY.call (cH) Tryz.call80;(exact aD))|((first|apply SY.move|apply SY.assign|apply SY.lss|apply SY.eql) <;> (exact oD))|((first|apply SY.add) <;> first|exact oD|omega)|(apply SY.len;(exact oD);(exact nD);(exact uD))|(apply ZBC;(exact eD);(exact oD);(exact oD);exact kD)|fail);all_goals infer_instance));dsimp only [ZB,z0,z1])|(apply ZAs;(exact oD);(with_reducible rfl))|(apply ZC;(exact oD);all_goals (intro h;try exact xD))|refine WC.skip ?_|refine WC.exit ?_|refine WC.block ?_|refine ThenD.n ?_));all_goals (first|((repeat clear hK);(repeat clear Kx))))
     all_goals try (exfalso;first|contradiction|omega)
     (refine ⟨(i+1,_,_),?_,by first|omega|(simp only;omega),rfl,?_⟩;rotate_left;((try dsimp only [ZK,z0,z1]);repeat (first|exact LeF.nil|refine ZD (k:=?_)));(try dsimp only))
     exact ⟨by omega,h2⟩
    ·rw [decide_eq_false hm] at cH
     rw [if_neg hm] at h2
     have cP:=ZUG f s[i] (by omega)
     have hpl:=ZRC f s[i] hm
     have cC:=ih (ZC5 f s[i]) hs (by omega) (by omega)
     have hel:=ZHZ n s (ZC5 f s[i])
     have hrl:=ZER n s (ZC5 f s[i]) hs
     have h5n:5 ^ n≤5 ^ 5:=Nat.pow_le_pow_right (by decide) (by omega)
     generalize hTL:((s.drop (i+1)).flatMap fun v=>if v∈f then [] else (ZF3 n s (ZC5 f v)).map (ZC5 f v :: ·))=TL at *
     generalize hne:ZC5 f s[i]=nx at *
     generalize ZF3 n s nx=rest at *
     (repeat' (first|(apply WL.opN;exact yF;dsimp only [ZB,z0,z1])|refine WL.nil ?_|refine ZA fun Kx hK=>?_|(refine hK _ _ ?_;clear hK)|refine WC.region ?_|(apply WL.opN;(focus ((first|(apply SY.call (cH) Tryz.call80;(exact aD))|(apply SY.call (cP) Tryz.call81;(exact aD))|(apply SY.call (cC) Tryz.call38;exact ArgsD.cons (OpD.t rfl) (ArgsD.cons (OpD.t rfl) (ArgsD.nil)))|((first|apply SY.move|apply SY.assign|apply SY.lss|apply SY.eql) <;> (exact oD))|(apply SY.len;(exact oD);(exact nD);(exact uD))|(apply ZBC;(exact eD);(exact oD);(exact oD);exact kD)|fail);all_goals infer_instance));dsimp only [ZB,z0,z1])|(apply Zi;(exact oD);(with_reducible rfl))|(apply ZC;(exact oD);all_goals (intro h;try exact xD))|refine WC.skip ?_|refine WC.block ?_))
     all_goals try (exfalso;first|contradiction|omega)
     (refine WC.loopU (X:=Nat × Value × List Cx) (fun x=>[(5,dX x.2.1),(9,dI (x.1:Int)),(37,dA),(38,dA),(39,dA),(40,dA),(41,dA),(42,dA),(43,dA),(44,dA),(45,dA),(46,dA),(47,dA),(48,dA),(49,dA),(50,dA),(51,dA),(52,dA)]) (fun x=>[ZW x.2.1 22 Zc x.2.2]) (fun x=>rest.length-x.1) (fun x=>x.1≤rest.length/\x.2.2++((rest.drop x.1).map (nx :: ·)++TL)=ZF3 (n+1) s f) (0,u,o) ?start ?frame0 ?objs0 ?round)
     case start=>exact ⟨Nat.zero_le _,by simpa using h2⟩
     case frame0=>((try dsimp only [ZK,z0,z1]);repeat (first|exact LeF.nil|refine ZD (k:=?_)))
     case objs0=>rfl
     case round =>
      rintro ⟨j,u',o'⟩ ⟨h4,h5'⟩
      dsimp only [ZK,z0,z1]
      simp only at h4 h5'
      have ho:o'.length≤3125:=by
       have:=congrArg List.length h5'
       rw [List.length_append] at this
       omega
      by_cases hj:j<rest.length
      ·have hjb:=hel _ (List.getElem_mem hj)
       ((repeat' (first|(apply WL.opN;exact yF;dsimp only [ZB,z0,z1])|refine WL.nil ?_|refine ZA fun Kx hK=>?_|(refine hK _ _ ?_;clear hK)|refine WC.region ?_ |  (apply WL.app1 ZNn;exact OpD.t rfl;exact OpD.t rfl;decide;(simp only [List.length_singleton];omega);intro v';dsimp only [ZB,z0,z1])|(apply WL.opN;(focus ((first|(apply SY.len;exact OpD.t rfl;exact ZDL;exact ZNn.unt)|(refine ZBu (R:=Zc) (_gR:=inferInstance) ZNn hj rfl (OpD.t rfl) (OpD.t rfl))|(exact SY.full1 (R:=ZE) (_gR:=inferInstance) (els:=[nx]) ZBx (Zh (OpD.t rfl) Zq) rfl rfl (fun _=>ZAb) (by simp))|(refine ZFo (R:=ZE) (_gR:=inferInstance) (xs:=[nx]) (ys:=rest[j]) ZBx (OpD.t rfl) (OpD.t rfl) (by decide) (by simp only [List.length_cons,List.length_nil];omega))|(exact SY.build1' (R:=Zc) (_gR:=inferInstance) (els:=[[nx]++rest[j]]) ZNn (Zh (OpD.t rfl) Zq) rfl rfl (fun _=>ZAa) (Nat.le_of_ble_eq_true rfl))|((first|apply SY.move|apply SY.assign|apply SY.lss|apply SY.eql) <;> (exact oD))|((first|apply SY.add) <;> first|exact oD|omega)|fail);all_goals infer_instance));dsimp only [ZB,z0,z1])|(apply ZC;(exact oD);all_goals (intro h;try exact xD))|refine WC.skip ?_|refine WC.block ?_|refine ThenD.n ?_));all_goals (first|((repeat clear hK);(repeat clear Kx))))
       all_goals try (exfalso;first|contradiction|omega)
       (refine ⟨(j+1,_,o'++[nx::rest[j]]) , ?_,by first|omega|(simp only;omega),by ((try simp only);  rfl),?_⟩;rotate_left;((try dsimp only [ZK,z0,z1]);repeat (first|exact LeF.nil|refine ZD (k:=?_)));(try dsimp only))
       refine ⟨by omega,?_⟩
       rw [<- h5',Zd hj];simp only [List.map_cons,List.append_assoc,List.cons_append,List.nil_append]
      ·((repeat' (first|(apply WL.opN;exact yF;dsimp only [ZB,z0,z1])|refine WL.nil ?_|refine ZA fun Kx hK=>?_|(refine hK _ _ ?_;clear hK)|(refine Kont.skip ?_;clear hK)|refine WC.region ?_|(apply WL.opN;(focus ((first|(apply SY.len;exact OpD.t rfl;exact ZDL;exact ZNn.unt)|((first|apply SY.move|apply SY.assign|apply SY.lss|apply SY.eql) <;> (exact oD))|((first|apply SY.add) <;> first|exact oD|omega)|fail);all_goals infer_instance));dsimp only [ZB,z0,z1])|(apply ZC;(exact oD);all_goals (intro h;try exact xD))|refine WC.exit ?_|refine ThenD.n ?_));all_goals (first|((repeat clear hK);(repeat clear Kx))))
       all_goals try (exfalso;first|contradiction|omega)
       rw [List.drop_of_length_le (by omega)] at h5'
       (refine ⟨(i+1,_,_),?_,by first|omega|(simp only;omega),rfl,?_⟩;rotate_left;((try dsimp only [ZK,z0,z1]);repeat (first|exact LeF.nil|refine ZD (k:=?_)));(try dsimp only))
       exact ⟨by omega,by rw [hTL];simpa using h5'⟩
   ·rw [List.drop_of_length_le (by omega),List.flatMap_nil,List.append_nil] at h2
    ((repeat' (first|(apply WL.opN;exact yF;dsimp only [ZB,z0,z1])|refine WL.nil ?_|refine ZA fun Kx hK=>?_|(refine hK _ _ ?_;clear hK)|(refine Kont.skip ?_;clear hK)|refine WC.region ?_|(apply WL.opN;(focus ((first|((first|apply SY.move|apply SY.assign|apply SY.lss|apply SY.eql) <;> (exact oD))|(apply SY.len;(exact oD);(exact nD);(exact uD))|fail);all_goals infer_instance));dsimp only [ZB,z0,z1])|(apply ZC;(exact oD);all_goals (intro h;try exact xD))|refine WC.ret ?_|refine WC.exit ?_));all_goals (first|((repeat clear hK);(repeat clear Kx))))
    all_goals try (exfalso;first|contradiction|omega)
    (refine ⟨trivial,_,rfl,?_⟩;refine ZFm (.head _) ?_)
    exact h2
end
section
theorem ZCi {s:List Vx} {bl:List Nat} {i:Nat} (h:i<(ZAk s bl).length):(ZAk s bl)[i]=((s[i]'(by rw [Z4] at h;exact h)).1,((ZBX bl i 0:Nat):Int)):=by simp [ZAk]
end
section
theorem ZJ3 {m i:Nat}:(m >>> i) &&& 1=1↔m.testBit i=true:=by
 have h:(m >>> i) &&& 1=(m.testBit i).toNat:=by
  rw [Nat.and_one_is_mod,Nat.shiftRight_eq_div_pow,Nat.toNat_testBit]
 rw [h]
 cases m.testBit i <;> decide
theorem ZE4 {s:List Vx} {m:Nat} {x:Vx}:x∈atB s m↔∃ (i:Nat) (h:i<s.length),s[i]=x/\m.testBit i=true:=by
 unfold atB
 rw [List.mem_map]
 constructor
 ·rintro ⟨⟨v,i⟩,hp,rfl⟩
  rw [List.mem_filter,decide_eq_true_eq,ZJ3] at hp
  have h:=List.mem_zipIdx hp.1
  exact ⟨i,by omega,by simpa using h.2.2.symm,hp.2⟩
 ·rintro ⟨i,h,rfl,hb⟩
  refine ⟨(s[i],i),?_,rfl⟩
  rw [List.mem_filter,decide_eq_true_eq,ZJ3]
  exact ⟨List.mem_zipIdx_iff_getElem?.2 (by simp [h]),hb⟩
theorem ZBK (s:List Vx) (m:Nat):(atB s m).Sublist s:=by
 unfold atB
 have h:((s.zipIdx.filter fun p=>decide ((m >>> p.2) &&& 1=1)).map (·.1)).Sublist (s.zipIdx.map (·.1)):=List.Sublist.map _ List.filter_sublist
 rwa [List.zipIdx_map_fst] at h
theorem ZEz {s:List Vx} (h:Asc s):s.Nodup:=List.Pairwise.imp (fun {a b} hab e=>by
 subst e
 have:ZA0 a a=0:=ZCR.2 rfl
 omega) h
theorem ZIl {s:List Vx} (hs:s.Nodup) {m:Nat} (hm:m<2 ^ s.length):(atB s m).length<s.length↔m≠2 ^ s.length-1:=by
 have hl:=(ZBK s m).length_le
 constructor
 ·rintro h rfl
  have e:atB s (2 ^ s.length-1)=s:=by
   unfold atB
   rw [List.filter_eq_self.2 fun p hp=>by
    obtain ⟨v,i⟩:=p
    have h:=List.mem_zipIdx hp
    rw [decide_eq_true_eq,ZJ3,Nat.testBit_two_pow_sub_one,decide_eq_true_eq]
    omega]
   exact List.zipIdx_map_fst ..
  rw [e] at h
  omega
 ·intro h
  refine Classical.byContradiction fun hn=>h ?_
  have e:atB s m=s:=(ZBK s m).eq_of_length (by omega)
  apply Nat.eq_of_testBit_eq
  intro i
  rw [Nat.testBit_two_pow_sub_one]
  by_cases hi:i<s.length
  ·rw [decide_eq_true hi]
   have:s[i]∈atB s m:=by rw [e];exact List.getElem_mem hi
   obtain ⟨j,hj,h1,h2⟩:=ZE4.1 this
   rw [(List.getElem_inj hs).1 h1] at h2
   exact h2
  ·rw [decide_eq_false hi]
   exact Nat.testBit_lt_two_pow (Nat.lt_of_lt_of_le hm (Nat.pow_le_pow_right (by decide) (by omega)))
end
end Go.Proofs.YtlgmojhmmbhgfaaGreatDoor
