/- Part 5 of the proof. -/
import Derived.Test.YtofkoleingbbpaaGreatDoorZd4
set_option linter.all false
set_option maxRecDepth 100000
set_option maxHeartbeats 64000000
namespace Go.Proofs.YtofkoleingbbpaaGreatDoor
section
open Go.RowKit
open L05 (hdI rw' echR wd ZAe solR)
namespace L05
theorem wide_ok {rows:List (List Int)} {b:List Int} {C:Nat} (h1:AllAsc rows) (h2:∀r∈rows,Low (C:Int) r) (h3:∀r∈rows,Pos r):∀r∈ZAe rows b C,Asc r/\Low ((C+1:Nat):Int) r/\Pos r:=fun r hr=>by
 obtain⟨i,hi,e⟩:=List.getElem_of_mem hr;have hi2:=hi;rw[wide_len] at hi2;have h:=ZJO (b:=b) (C:=C) hi2;rw[List.getElem?_eq_getElem hi,Option.some.injEq,e] at h;have hm:rows[i]∈rows:=List.getElem_mem hi2;rw[h];refine⟨ZBE (h1 _ hm) (h2 _ hm),fun x hx=>?_,fun x hx=>?_⟩
 ·rcases ZB4.1 hx with hx|⟨_,rfl⟩
  ·have:=h2 _ hm x hx;omega
  ·omega
 ·rcases ZB4.1 hx with hx|⟨_,rfl⟩
  ·exact h3 _ hm x hx
  ·omega
theorem wide_take {rows:List (List Int)} {b:List Int} {C i:Nat} (h:i<rows.length):(ZAe rows b C).take (i+1)=(ZAe rows b C).take i++[wd (C:Int) rows[i] (decide ((i:Int)∈b))]:=by
 rw[List.take_add_one,ZJO h];rfl
theorem echR_len (W:List (List Int)) (C:Nat):(echR W C).length≤W.length:=by
 unfold echR;rw[List.length_take,redR_len];exact Nat.min_le_right _ _
def ZWf (E:List (List Int)) (C:Int) (j:Nat):List Int:=((E.take j).filter fun r=>decide (C∈r)).map hdI
theorem gotR_next {E:List (List Int)} {C:Int} {j:Nat} (h:j<E.length):ZWf E C (j+1)=ZWf E C j++(if C∈E[j] then[hdI E[j]] else[]):=by
 unfold ZWf;rw[List.take_add_one,List.getElem?_eq_getElem h,List.filter_append,List.map_append];congr 1;by_cases q:C∈E[j]
 ·simp[q]
 ·simp[q]
theorem gotR_len (E:List (List Int)) (C:Int) (j:Nat):(ZWf E C j).length≤E.length:=by
 unfold ZWf;rw[List.length_map];exact Nat.le_trans (List.length_filter_le _ _) (by rw[List.length_take];exact Nat.min_le_right _ _)
theorem gotR_all (E:List (List Int)) (C:Int):ZWf E C E.length=(E.filter fun r=>decide (C∈r)).map hdI:=by
 unfold ZWf;rw[List.take_length]
end L05
open L05 (ZWf)



theorem ZSK (C:Nat) (rows:List (List Int)) (b:List Int) (hC:C≤4096) (hn:rows.length≤4096) (hb:b.length≤1000000) (h1:L05.AllAsc rows) (h2:∀r∈rows,L05.Low (C:Int) r) (h3:∀r∈rows,L05.Pos r) :
  Fn Tryz.prog 111 [dS Mat ((C:Int),rows),dS ZAQ b] (dT [dS ZAQ ((solR rows b C).getD []),dB (solR rows b C).isSome]):=by
 have hrl:∀r∈rows,r.length≤C:=fun r hr=>ZAu (n:=C) (h1 r hr) fun v hv=>⟨h3 r hr v hv,h2 r hr v hv⟩;have hW:=L05.wide_ok (b:=b) h1 h2 h3;have hWA:L05.AllAsc (ZAe rows b C):=fun r hr=>(hW r hr).1;have hred:=ZSJ (C+1) (ZAe rows b C) (by omega) (by rw[L05.wide_len];exact hn) hWA (fun r hr=>(hW r hr).2.1) (fun r hr=>(hW r hr).2.2);obtain⟨e1,e2,e3,e4⟩:=L05.echR_ok (W:=ZAe rows b C) (C:=C+1) hWA (fun r hr=>(hW r hr).2.2) (fun r hr=>(hW r hr).2.1);have hEl:(echR (ZAe rows b C) (C+1)).length≤4096:=by have:=L05.echR_len (ZAe rows b C) (C+1);rw[L05.wide_len] at this;omega
 have hEr:∀r∈echR (ZAe rows b C) (C+1),r.length≤C+1/\r.head?=some (hdI r):=fun r hr=>by
  refine⟨ZAu (n:=C+1) (e1.asc r hr) fun x hx=>⟨L05.Span.pos hWA (fun r hr=>(hW r hr).2.2) (e2 r hr) x hx,L05.Span.low hWA (fun r hr=>(hW r hr).2.1) (e2 r hr) x hx⟩,?_⟩;have:=e1.pos r hr;cases r with
  | nil=>exact absurd rfl this
  | cons a t=>rfl
 obtain⟨o,ho⟩:∃o,solR rows b C=o:=⟨_,rfl⟩;rw[ho];unfold L05.solR at ho;generalize echR (ZAe rows b C) (C+1)=E at hred e1 e2 e3 e4 hEl hEr ho;have hwl:=L05.wide_len rows b C;have hC1:(C:Int)+1=((C+1:Nat):Int):=by omega
 refine Z3 Tryz.func111 rfl rfl ?_
 -- @kinds ref05.Solution
 simp only[Tryz.ntmps111,List.length_cons,List.length_nil,Nat.reduceAdd,Nat.reduceSub,List.replicate_succ,List.replicate_zero,List.cons_append,List.nil_append];refine Zn 23 ZAQ ?_;(repeat' (first|(apply zV;exact yF;exact zQ)|refine ZVj ?_|refine ZA fun Kx hK=>?_|(refine hK _ _ ?_;clear hK)|refine ZVk ?_ |  (refine ZC0 (dst:=some 6) (zs:=[.int .i64 0,.slice none 0 0]) ZN2 (by decide) (by simp[Value.oneCell']) fun b6=>?_;dsimp only[ZC,z0,z1,List.map_cons,List.map_nil]) |  (refine ZBs ZHn (ZVh rfl) (ZVh rfl) rfl rfl ?_;dsimp only[ZC,z0,z1])|(apply zV;(focus ((first|(apply ZAB ZEj;exact ZVh rfl)|(apply Z9 ZEj;exact ZVh rfl)|(exact ZIH hC1 (by omega) (ZVh rfl) ZV5)|(exact ZLH (ZVh rfl))|(apply ZV3;exact oD;exact hD));all_goals infer_instance));exact zQ)|refine ZVp ?_))
 all_goals try exact xO
 refine ZWe (List.Perm.swap _ _ _) ?_;(refine ZV4 (X:=Nat × Value) (fun x=>[(7,dI (x.1:Int)),(8,dA),(16,dA),(17,dA),(18,dA),(19,dA),(20,dA),(21,dA),(22,dA),(23,dA),(24,dA),(25,dA),(26,dA),(27,dA),(28,dA),(29,dA),(30,dA),(31,dA),(32,dA),(33,dA),(34,dA),(35,dA),(36,dA),(37,dA),(38,dA),(39,dA),(40,dA),(41,dA),(42,dA),(43,dA)]) (fun x=>([Zk x.2 23 ZAQ ((ZAe rows b C).take x.1),ZAV b6 105 [dI ((C+1:Nat):Int),dX x.2]])) (fun x=>rows.length-x.1) (fun x=>x.1≤rows.length) (0,.slice none 0 0) ?start ?frame0 ?objs0 ?round)
 case start=>exact Nat.zero_le _
 case frame0=>exact zFr
 case objs0=>rfl
 case round =>
  rintro⟨i,wv⟩ hi;simp only at hi;dsimp only[ZH,z0,z1];have hTl:((ZAe rows b C).take i).length≤4096:=by rw[List.length_take];omega
  by_cases hil:i<rows.length
  ·have hiI:(i:Int)<(rows.length:Int):=by omega
   obtain⟨r,hr⟩:∃r,rows[i]=r:=⟨_,rfl⟩;have hrm:r∈rows:=by rw[<- hr];exact List.getElem_mem hil
   have hr0:=hrl r hrm;have hnx:=L05.wide_take (b:=b) (C:=C) hil;rw[hr] at hnx;have hcs:=ZGV b (i:Int) hb;have h8a:(([]:List Int).length+r.length)*8≤140737488355328:=by simp;omega
   have h8b:(([]++r).length+1)*8≤140737488355328:=by simp;omega
   have h24:(((ZAe rows b C).take i).length+1)*24≤140737488355328:=by omega
   refine Zn 3 RI ?_;by_cases hib:(i:Int)∈b
   ·rw[decide_eq_true hib] at hcs hnx;rw[show wd (C:Int) r true=[]++r++[(C:Int)] from rfl] at hnx;generalize (ZAe rows b C).take i=T at hTl hnx h24;((repeat' (first|(apply zV;exact yF;exact zQ)|refine ZVj ?_|refine ZA fun Kx hK=>?_|(refine hK _ _ ?_;clear hK)|refine ZVk ?_ |  (refine ZDR (s:=40) rfl ?_;dsimp only[z0,z1]) |  (refine ZCY (mAt 0 rfl) fun hone=>ZBk (SW.at 1 rfl fun q=>SW.storeS ZKx (ZVh rfl) (ZVh rfl) (Z0 hone) (by simp)) fun _=>?_;dsimp only[ZC,z0,z1])|((first|apply Zq|apply Zl);exact eD;exact ZVh rfl;exact oD;(intro _;exact hD);(exact(by simp));(exact(by simp));(first|exact⟨by decide,by decide⟩|skip);decide;exact lD;(intro _;dsimp only[ZC,z0,z1]);all_goals (try infer_instance))|((first|apply ZWW|apply ZWX);exact eD;exact ZVh rfl;exact oD;decide;exact lD;(intro _;dsimp only[ZC,z0,z1]);all_goals (try infer_instance))|(apply zV;(focus ((first|(apply ZAB ZEj;exact ZVh rfl)|(apply Z9 ZEj;exact ZVh rfl)|(exact Zg (R:=ZAQ) (_gR:=inferInstance) ZDj hil hr (ZVh rfl) (ZVh rfl))|(apply ZVm (hcs) Tryz.call138;exact aD)|(refine ZAl ZJJ (ZVh rfl) (by decide))|(refine ZAY ZKx (ZVh rfl) (mAt 2 rfl) rfl)|exact yG);all_goals infer_instance));exact zQ)|(apply Zf;exact oD;(with_reducible rfl))|(apply ZB;exact oD;all_goals (intro h;try exact xD))|refine ZVr ?_|refine ZVp ?_|refine ZVx ?_));all_goals ((repeat clear hK);repeat clear Kx))
    all_goals try exact xO
    rw[<- hnx];(refine zNx (i+1,_) ?_;(try dsimp only))
    exact hil
   ·rw[decide_eq_false hib] at hcs hnx;rw[show wd (C:Int) r false=[]++r from rfl] at hnx;generalize (ZAe rows b C).take i=T at hTl hnx h24;((repeat' (first|(apply zV;exact yF;exact zQ)|refine ZVj ?_|refine ZA fun Kx hK=>?_|(refine hK _ _ ?_;clear hK)|refine ZVk ?_ |  (refine ZDR (s:=40) rfl ?_;dsimp only[z0,z1]) |  (refine ZCY (mAt 0 rfl) fun hone=>ZBk (SW.at 1 rfl fun q=>SW.storeS ZKx (ZVh rfl) (ZVh rfl) (Z0 hone) (by simp)) fun _=>?_;dsimp only[ZC,z0,z1])|((first|apply Zq|apply Zl);exact eD;exact ZVh rfl;exact oD;(intro _;exact hD);(exact(by simp));(exact(by simp));(first|exact⟨by decide,by decide⟩|skip);decide;exact lD;(intro _;dsimp only[ZC,z0,z1]);all_goals (try infer_instance))|((first|apply ZWW|apply ZWX);exact eD;exact ZVh rfl;exact oD;decide;exact lD;(intro _;dsimp only[ZC,z0,z1]);all_goals (try infer_instance))|(apply zV;(focus ((first|(apply ZAB ZEj;exact ZVh rfl)|(apply Z9 ZEj;exact ZVh rfl)|(exact Zg (R:=ZAQ) (_gR:=inferInstance) ZDj hil hr (ZVh rfl) (ZVh rfl))|(apply ZVm (hcs) Tryz.call138;exact aD)|(refine ZAl ZJJ (ZVh rfl) (by decide))|(refine ZAY ZKx (ZVh rfl) (mAt 2 rfl) rfl)|exact yG);all_goals infer_instance));exact zQ)|(apply ZQ;exact oD;(with_reducible rfl))|(apply ZB;exact oD;all_goals (intro h;try exact xD))|refine ZVr ?_|refine ZVp ?_|refine ZVx ?_));all_goals ((repeat clear hK);repeat clear Kx))
    all_goals try exact xO
    rw[<- hnx];(refine zNx (i+1,_) ?_;(try dsimp only))
    exact hil
  ·have hiI:¬ (i:Int)<(rows.length:Int):=by omega
   obtain rfl:i=rows.length:=by omega
   rw[List.take_of_length_le (by rw[hwl];exact Nat.le_refl _)];generalize ZAe rows b C=W at hred e1 e2 e3 e4 hEl hEr;have hld:=ZNi ((C+1:Nat):Int) E (C:Int) (by omega) fun r hr=>(hEr r hr).2;refine ZWe (List.Perm.swap _ _ _) (ZEs (k:=1) rfl ?_);dsimp only[z0,z1];by_cases hany:(E.any fun r=>decide (hdI r=(C:Int)))=true
   ·rw[hany] at hld;rw[if_pos hany] at ho;subst ho;((repeat' (first|(apply zV;exact yF;exact zQ)|refine ZVj ?_|refine ZA fun Kx hK=>?_|(refine hK _ _ ?_;clear hK)|(refine ZV0 ?_;clear hK)|refine ZVk ?_ |  (refine ZWF (dst:=some 9) ZN2 (Zj rfl rfl) fun b9=>?_;dsimp only[ZC,z0,z1]) |  (refine ZR ZHn rfl (ZVh rfl) ZA9 ?_;dsimp only[ZC,z0,z1])|(apply zV;(focus ((first|(apply ZAB ZEj;exact ZVh rfl)|(apply Z9 ZEj;exact ZVh rfl)|(refine ZDN ZHn (ZVh rfl) (mAt 0 rfl) (by decide) rfl)|(apply ZVm hred Tryz.call139;exact ZV9 (ZWD rfl ZEc) ZWJ)|(apply ZVm (hld) Tryz.call140;exact aD)|exact yG);all_goals infer_instance));exact zQ)|(apply Zf;exact oD;(with_reducible rfl))|(apply ZB;exact oD;all_goals (intro h;try exact xD))|refine ZVs ?_|refine ZV1 ?_|refine ZVz ?_));all_goals ((repeat clear hK);repeat clear Kx))
    all_goals try exact xO
    (refine⟨trivial,⟨_,rfl,?_⟩,_,rfl,?_⟩ <;> exact fD)
   ·rw[if_neg hany] at ho;subst ho;have hany':(E.any fun r=>decide (hdI r=(C:Int)))=false:=by simpa using hany
    rw[hany'] at hld;refine Zn 3 RI ?_;(repeat' (first|(apply zV;exact yF;exact zQ)|refine ZVj ?_|refine ZA fun Kx hK=>?_|(refine hK _ _ ?_;clear hK)|(refine ZV0 ?_;clear hK)|refine ZVk ?_ |  (refine ZWF (dst:=some 9) ZN2 (Zj rfl rfl) fun b9=>?_;dsimp only[ZC,z0,z1]) |  (refine ZR ZHn rfl (ZVh rfl) ZA9 ?_;dsimp only[ZC,z0,z1])|(apply zV;(focus ((first|(apply ZAB ZEj;exact ZVh rfl)|(apply Z9 ZEj;exact ZVh rfl)|(refine ZDN ZHn (ZVh rfl) (mAt 1 rfl) (by decide) rfl)|(apply ZVm hred Tryz.call139;exact ZV9 (ZWD rfl ZEc) ZWJ)|(apply ZVm (hld) Tryz.call140;exact aD)|((first|apply ZVo|apply ZVn|apply ZVq) <;> exact oD)|(apply ZVu;exact oD;exact nD;exact uD));all_goals infer_instance));exact zQ)|(apply ZQ;exact oD;(with_reducible rfl))|(apply ZB;exact oD;all_goals (intro h;try exact xD))|refine ZVr ?_|refine ZV1 ?_|refine ZVp ?_))
    all_goals try exact xO
    (refine ZV4 (X:=Nat × Value) (fun x=>[(11,dI (x.1:Int)),(10,dX x.2),(50,dA),(51,dA),(52,dA),(53,dA),(54,dA),(55,dA),(56,dA),(57,dA),(58,dA),(59,dA),(60,dA),(61,dA),(62,dA),(63,dA),(64,dA),(65,dA),(66,dA),(67,dA),(68,dA),(69,dA),(70,dA),(71,dA),(72,dA),(73,dA),(74,dA)]) (fun x=>([Zk x.2 3 RI (ZWf E (C:Int) x.1),ZAV b6 105 [dI ((C+1:Nat):Int),dS (Arr ZAQ) W]])) (fun x=>E.length-x.1) (fun x=>x.1≤E.length) (0,.slice none 0 0) ?start ?frame0 ?objs0 ?round)
    case start=>exact Nat.zero_le _
    case frame0=>exact zFr
    case objs0=>rfl
    case round =>
     rintro⟨j,xv⟩ hj;simp only at hj;dsimp only[ZH,z0,z1];by_cases hjl:j<E.length
     ·have hjI:(j:Int)<(E.length:Int):=by omega
      have hnj:=L05.gotR_next (C:=(C:Int)) hjl;have hgl:=L05.gotR_len E (C:Int) j;obtain⟨r,hr⟩:∃r,E[j]=r:=⟨_,rfl⟩;have hrm:r∈E:=by rw[<- hr];exact List.getElem_mem hjl
      obtain⟨q2,q3⟩:=hEr r hrm;rw[hr] at hnj;obtain⟨u,hu⟩:∃u,hdI r=u:=⟨_,rfl⟩;rw[hu] at q3 hnj;have hl0:0<r.length:=by
       cases e:r with
       | nil=>rw[e] at q3;cases q3
       | cons a t=>simp
      have hlg:r[0]=u:=by
       have:r[0]?=some u:=by rw[<- List.head?_eq_getElem?];exact q3
       exact(List.getElem?_eq_some_iff.1 this).2
      have hcs:=ZGV r (C:Int) (by omega);have h8:((ZWf E (C:Int) j).length+1)*8≤140737488355328:=by omega
      by_cases hcr:(C:Int)∈r
      ·rw[decide_eq_true hcr] at hcs;rw[if_pos hcr] at hnj;((repeat' (first|refine zS ?_|refine WD.nil ?_|refine ZA fun Kx hK=>?_|(refine hK _ _ ?_;clear hK)|(apply ZWB;kernel_rfl;kernel_rfl)|((first|apply Zq|apply Zl);exact eD;exact ZVh rfl;exact oD;(intro _;exact hD);(exact(by simp));(exact(by simp));(first|exact⟨by decide,by decide⟩|skip);decide;exact lD;(intro _;dsimp only[ZC,z0,z1]);all_goals (try infer_instance))|((first|apply ZVi|apply ZVl);(focus ((first|(apply ZAB ZEj;exact ZVh rfl)|(apply Z9 ZEj;exact ZVh rfl)|(exact Zg (R:=ZAQ) (_gR:=inferInstance) ZDj hjl hr (ZVh rfl) (ZVh rfl))|(exact Zg (R:=RI) (_gR:=inferInstance) (k:=0) elI hl0 hlg (ZVh rfl) ZV5)|(apply ZVm (hcs) Tryz.call138;exact aD)|exact yG|fail);all_goals infer_instance));dsimp only[ZC,z0,z1])|(apply Zf;exact oD;(with_reducible rfl))|(apply ZB;exact oD;all_goals (intro h;try exact xD))|refine ZVr ?_|refine ZVp ?_|refine ZVx ?_));all_goals ((repeat clear hK);repeat clear Kx))
       all_goals try exact xO
       rw[<- hnj];(refine zNx (j+1,_) ?_;(try dsimp only))
       omega
      ·rw[decide_eq_false hcr] at hcs;rw[if_neg hcr,List.append_nil] at hnj;((repeat' (first|refine zS ?_|refine WD.nil ?_|refine ZA fun Kx hK=>?_|(refine hK _ _ ?_;clear hK)|(apply ZWB;kernel_rfl;kernel_rfl)|((first|apply ZVi|apply ZVl);(focus ((first|(apply ZAB ZEj;exact ZVh rfl)|(apply Z9 ZEj;exact ZVh rfl)|(exact Zg (R:=ZAQ) (_gR:=inferInstance) ZDj hjl hr (ZVh rfl) (ZVh rfl))|(apply ZVm (hcs) Tryz.call138;exact aD)|exact yG|fail);all_goals infer_instance));dsimp only[ZC,z0,z1])|(apply ZQ;exact oD;(with_reducible rfl))|(apply ZB;exact oD;all_goals (intro h;try exact xD))|refine ZVr ?_|refine ZVp ?_|refine ZVx ?_));all_goals ((repeat clear hK);repeat clear Kx))
       all_goals try exact xO
       rw[<- hnj];(refine zNx (j+1,xv) ?_;(try dsimp only))
       omega
     ·have hjI:¬ (j:Int)<(E.length:Int):=by omega
      obtain rfl:j=E.length:=by omega
      rw[L05.gotR_all];((repeat' (first|refine zS ?_|refine ZA fun Kx hK=>?_|(refine hK _ _ ?_;clear hK)|(refine ZV0 ?_;clear hK)|(apply zV;(focus ((first|(apply ZAB ZEj;exact ZVh rfl)|(apply Z9 ZEj;exact ZVh rfl)|exact yG);all_goals infer_instance));exact zQ)|(apply ZB;exact oD;all_goals (intro h;try exact xD))|refine ZVs ?_|refine ZV1 ?_));all_goals ((repeat clear hK);repeat clear Kx))
      all_goals try exact xO
      (refine⟨trivial,⟨_,rfl,?_⟩,_,rfl,?_⟩ <;> exact fD)
end
section
open Go.RowKit
open C34
abbrev Unk:Rel (Int × List (Int × Int)):=R2 RI ZI
abbrev Unks:Rel (List (Int × List (Int × Int))):=ArrK 2 Unk
theorem ZCh:ElT Tryz.prog 113 160 2 (.agg #[.int .i64 0,.slice none 0 0]) 32 true:=⟨Tryz.underlying113,by kernel_rfl,Tryz.isAgg160,rfl⟩
theorem ZLB:FldT Tryz.prog 160:=by
 constructor
 ·intro b off w;go_simp
 ·intro b off w;go_simp
theorem mku34:∀n a l c w,(Instr.build 160 #[(0,.int .i64 n),(1,.slice a l c)]).run Tryz.prog w = .ok (.agg #[.int .i64 n,.slice a l c]) w:=by
 intro n a l c w;go_simp
theorem ZQ9 {ops:Array Oper} {hp:List HObj} {fr:List Dat} {dst:Option Tmp} {ty:TypeId} {ps:String} {af:Array Edge} {g:Option (Nat × Bool)} {x y:Operand} {n:Int} {s:List (Int × Int)} (hx:OpD fr x (dI n)) (hy:OpD fr y (dS ZI s)):SY Tryz.prog ops hp ⟨dst,.build 160 #[(0,x),(1,y)],ty,ps,af,g⟩ fr (dS Unk (n,s)):=ZWK fun {I w a} ho=>by
 have h1:a.eval x = .int .i64 n:=hx.get (by simp[Op.operands]) ho;have h2:ZI I w (a.eval y) s:=hy.get (by simp[Op.operands]) ho;have h2':=h2;obtain⟨ad,c,hv,_⟩:=h2';rw[hv] at h2;refine⟨.agg #[.int .i64 n,.slice ad s.length c],?_,_,_,rfl,rfl,rfl,rfl,h2⟩;unfold execOp;simp only[List.map_toArray,List.map_cons,List.map_nil,h1,hv,Sem.run_bind,mku34,Result.andThen_ok,Sem.run_pure]
def ZHc (l:Cx) (f:Vx->Int) (d:Nat):List Cx:=(List.range d).map fun k:Nat=>(ZAi l (k+1)).filter (ZAg f (k:Int))
def ZMu (L:List Cx):List (Int × List Vx):=(ZEU L).map fun p=>((p.1:Int),p.2)
theorem ZSa {α:Type} (L:List (List α)) (lv:List α):ZEU (L++[lv])=ZEU L++lv.map fun s=>(L.length,s):=by
 unfold ZEU;rw[List.zipIdx_append,List.flatMap_append];congr 1;simp
theorem ZPf {l:Cx} {f:Vx->Int} {d:Nat}:ZHc l f (d+1)=ZHc l f d++[(ZAi l (d+1)).filter (ZAg f (d:Int))]:=by
 unfold ZHc;rw[List.range_succ,List.map_append];rfl
theorem ZMY {l:Cx} {f:Vx->Int} {d:Nat}:(ZHc l f d).length=d:=by simp[ZHc]
theorem ZKy {l:Cx} {f:Vx->Int} {d:Nat}:ZMu (ZHc l f (d+1))=ZMu (ZHc l f d)++((ZAi l (d+1)).filter (ZAg f (d:Int))).map fun s=>((d:Int),s):=by
 unfold ZMu;rw[ZPf,ZSa,List.map_append,List.map_map,ZMY];rfl
theorem ZJM {l:Cx} {f:Vx->Int} {B:Nat} (hB:∀k,(ZAi l k).length≤B):∀d,(ZMu (ZHc l f d)).length≤B*d
 | 0=>by simp[ZMu,ZHc,ZEU]
 | d+1=>by
  have ih:=ZJM (f:=f) hB d;have h1:=hB (d+1);have h2:=List.length_filter_le (ZAg f (d:Int)) (ZAi l (d+1));rw[ZKy,List.length_append,List.length_map,Nat.mul_succ];omega
def ZLr (al:Cx) (q:List Vx->Bool) (k i:Nat):List (Int × List Vx):=((al.take i).filter q).map fun s=>((k:Int),s)
theorem ZQf {al:Cx} {q:List Vx->Bool} {k i:Nat} (h:i<al.length):ZLr al q k (i+1)=ZLr al q k i++if q al[i]=true then[((k:Int),al[i])] else[]:=by
 unfold ZLr;rw[List.take_add_one,List.getElem?_eq_getElem h,List.filter_append,List.map_append];congr 1;cases hq:q al[i] <;> simp[hq]
theorem ZSZ (al:Cx) (q:List Vx->Bool) (k i:Nat):(ZLr al q k i).length≤al.length:=by
 unfold ZLr;rw[List.length_map];exact Nat.le_trans (List.length_filter_le _ _) (by rw[List.length_take];omega)

theorem ZKz (l:Cx) (vs:List Vx) (A:List Int) (d:Nat) (hd:d≤8) (hlb:ZAU vs A=0) (hl:l.length≤100) (h8:∀s∈l,s.length≤8):Fn Tryz.prog 107 [dS Cpx l,dS Lab (vs,A),dI (d:Int)] (dS Unks (ZMu (ZHc l (Zc vs A) (d+1)))):=by
 obtain⟨hv,hA,_,_,hAr⟩:=ZAm hlb;have hf:=ZEC (vs:=vs) hAr;have hB:∀k,(ZAi l k).length≤7000:=fun k=>by
  have:=ZGF h8 k;omega
 obtain⟨f,hfe⟩:∃f,Zc vs A=f:=⟨_,rfl⟩;rw[hfe] at hf ⊢;have hU:=ZJM (f:=f) hB;refine zE Tryz.func107 43 ?_;(repeat' (first|refine zS ?_|refine ZA fun Kx hK=>?_|(refine hK _ _ ?_;clear hK)|(apply zV;(focus ((first|(exact ZV3 (ZVh rfl) ZAL)|(exact ZV3 (ZVh rfl) Z1));all_goals infer_instance));exact zQ)|refine ZVp ?_))
 all_goals try exact xO
 refine ZCz 160 2 (by decide) Unk ?_;(refine ZV4 (X:=Nat × Value) (fun x=>[(8,dI (x.1:Int)),(7,dX x.2),(9,dA),(10,dA),(11,dA),(12,dA),(13,dA),(14,dA),(15,dA),(16,dA),(17,dA),(18,dA),(19,dA),(20,dA),(21,dA),(22,dA),(23,dA),(24,dA),(25,dA),(26,dA),(27,dA),(28,dA),(29,dA),(30,dA),(31,dA),(32,dA),(33,dA),(34,dA),(35,dA),(36,dA),(37,dA),(38,dA),(39,dA),(40,dA),(41,dA)]) (fun x=>([Zx x.2 160 2 Unk (ZMu (ZHc l f x.1))])) (fun x=>d+1-x.1) (fun x=>x.1≤d+1) (0,.slice none 0 0) ?start ?frame0 ?objs0 ?round)
 case start=>exact Nat.zero_le _
 case frame0=>exact zFr
 case objs0=>rfl
 case round =>
  rintro⟨k,v⟩ hk;simp only at hk;dsimp only[ZH,z0,z1];by_cases hkd:k≤d
  ·have hkI:(k:Int)≤(d:Int):=by omega
   have hkS:ZMu (ZHc l f (k+1))=ZMu (ZHc l f k)++ZLr (ZAi l (k+1)) (ZAg f (k:Int)) k (ZAi l (k+1)).length:=by
    rw[ZKy,ZLr,List.take_length]
   have cAl:=ZM9 l (k+1) (by omega) h8 (by omega);have hall:=hB (k+1);have hUk:=hU k;rw[show((k+1:Nat):Int)=(k:Int)+1 by omega] at cAl;generalize ZAi l (k+1)=al at cAl hall hkS;generalize ZMu (ZHc l f k)=U at hUk hkS;have hU7:U.length≤56000:=by
    have:7000*k≤7000*8:=Nat.mul_le_mul_left _ (by omega);omega
   (repeat' (first|refine zS ?_|refine ZA fun Kx hK=>?_|(refine hK _ _ ?_;clear hK)|(apply zV;(focus ((first|(apply ZVm (cAl) Tryz.call108;exact aD)|((first|apply ZVo|apply ZVn|apply ZVq|apply ZWT) <;> exact oD)|((first|apply ZV2) <;> first|exact oD|omega));all_goals infer_instance));exact zQ)|(apply ZB;exact oD;all_goals (intro h;try exact xD))|refine ZVr ?_|refine ZVp ?_))
   all_goals try exact xO
   have hU0:U=U++ZLr al (ZAg f (k:Int)) k 0:=by simp[ZLr]
   rw[hU0];(refine ZV4 (X:=Nat × Value) (fun x=>[(10,dI (x.1:Int)),(7,dX x.2),(20,dA),(21,dA),(22,dA),(23,dA),(24,dA),(25,dA),(26,dA),(27,dA),(28,dA),(29,dA),(30,dA),(31,dA),(32,dA),(33,dA),(34,dA),(35,dA),(36,dA),(37,dA),(38,dA),(39,dA),(40,dA),(41,dA)]) (fun x=>([Zx x.2 160 2 Unk (U++ZLr al (ZAg f (k:Int)) k x.1)])) (fun x=>al.length-x.1) (fun x=>x.1≤al.length) (0,v) ?start ?frame0 ?objs0 ?round)
   case start=>exact Nat.zero_le _
   case frame0=>exact zFr
   case objs0=>rfl
   case round =>
    rintro⟨i,v2⟩ hi;simp only at hi;dsimp only[ZH,z0,z1];by_cases hil:i<al.length
    ·have hiI:(i:Int)<(al.length:Int):=by omega
     have c1:=ZI1 vs A al[i] (k:Int) hA (by omega) (by omega);rw[hfe,ZFi hf] at c1;have hnx:=ZQf (q:=ZAg f (k:Int)) (k:=k) hil;have hkl:=ZSZ al (ZAg f (k:Int)) k i;have h32:((U++ZLr al (ZAg f (k:Int)) k i).length+1)*32≤140737488355328:=by rw[List.length_append];omega
     have hap:U++ZLr al (ZAg f (k:Int)) k (i+1)=(U++ZLr al (ZAg f (k:Int)) k i)++if ZAg f (k:Int) al[i]=true then[((k:Int),al[i])] else[]:=by rw[hnx,List.append_assoc]
     obtain⟨V,hV⟩:∃V,U++ZLr al (ZAg f (k:Int)) k i=V:=⟨_,rfl⟩;obtain⟨V2,hV2⟩:∃V2,U++ZLr al (ZAg f (k:Int)) k (i+1)=V2:=⟨_,rfl⟩;rw[hV,hV2] at hap;rw[hV] at h32 ⊢;cases hp:ZAg f (k:Int) al[i] with
     | false =>
      rw[hp] at c1 hap;rw[if_neg Bool.noConfusion,List.append_nil] at hap;((repeat' (first|refine zS ?_|refine WD.nil ?_|refine ZA fun Kx hK=>?_|(refine hK _ _ ?_;clear hK)|(apply ZWB;kernel_rfl;kernel_rfl)|((first|apply ZVi|apply ZVl);(focus ((first|(apply ZVy;exact ZAz;exact ZVh rfl)|(refine ZV8 (R:=ZI) (_gR:=inferInstance) (k:=i) ZB8 (ZVh rfl) (ZVh rfl) hil)|(apply ZVm (c1) Tryz.call116;exact aD)|exact yG|fail);all_goals infer_instance));dsimp only[ZC,z0,z1])|(apply ZQ;exact oD;(with_reducible rfl))|(apply ZB;exact oD;all_goals (intro h;try exact xD))|refine ZVr ?_|refine ZVp ?_|refine ZVx ?_));all_goals ((repeat clear hK);repeat clear Kx))
      all_goals try exact xO
      rw[<- hap,<- hV2];(refine zNx (i+1,v2) ?_;(try dsimp only))
      exact hil
     | true =>
      rw[hp] at c1 hap;rw[if_pos rfl] at hap;obtain⟨s,hs⟩:∃s,al[i]=s:=⟨_,rfl⟩;rw[hs] at c1 hap;((repeat' (first|refine zS ?_|refine WD.nil ?_|refine ZA fun Kx hK=>?_|(refine hK _ _ ?_;clear hK)|(apply ZWB;kernel_rfl;kernel_rfl) |  (apply Zq ZCh;exact ZVh rfl;exact ZVh rfl;(intro _;exact ZA9);(exact(by simp));(exact(by simp));exact⟨by decide,by decide⟩;decide;exact h32;(intro _;dsimp only[ZC,z0,z1]);all_goals (try infer_instance))|((first|apply ZVi|apply ZVl);(focus ((first|(apply ZVy;exact ZAz;exact ZVh rfl)|(exact Zg (R:=ZI) (_gR:=inferInstance) ZB8 hil hs (ZVh rfl) (ZVh rfl))|(exact ZQ9 (ZVh rfl) (ZVh rfl))|(apply ZVm (c1) Tryz.call116;exact aD)|exact yG|fail);all_goals infer_instance));dsimp only[ZC,z0,z1])|(apply Zf;exact oD;(with_reducible rfl))|(apply ZB;exact oD;all_goals (intro h;try exact xD))|refine ZVr ?_|refine ZVp ?_|refine ZVx ?_));all_goals ((repeat clear hK);repeat clear Kx))
      all_goals try exact xO
      rw[<- hap,<- hV2];(refine zNx (i+1,_) ?_;(try dsimp only))
      exact hil
    ·have hiI:¬ (i:Int)<(al.length:Int):=by omega
     obtain rfl:i=al.length:=by omega
     rw[<- hkS];((repeat' (first|refine zS ?_|refine ZA fun Kx hK=>?_|(refine hK _ _ ?_;clear hK)|(refine ZV0 ?_;clear hK)|(apply zV;exact yG;exact zQ)|(apply ZB;exact oD;all_goals (intro h;try exact xD))|refine ZV1 ?_|refine ZVx ?_));all_goals ((repeat clear hK);repeat clear Kx))
     all_goals try exact xO
     (refine zNx (k+1,v2) ?_;(try dsimp only))
     omega
  ·have hkI:¬ (k:Int)≤(d:Int):=by omega
   obtain rfl:k=d+1:=by omega
   ((repeat' (first|refine zS ?_|refine ZA fun Kx hK=>?_|(refine hK _ _ ?_;clear hK)|(refine ZV0 ?_;clear hK)|(apply zV;exact yG;exact zQ)|(apply ZB;exact oD;all_goals (intro h;try exact xD))|refine ZVs ?_|refine ZV1 ?_));all_goals ((repeat clear hK);repeat clear Kx))
   all_goals try exact xO
   (refine⟨trivial,_,rfl,?_⟩;exact fD)
def ZLT (f:List Vx) (k:Nat) (u:Nat × List Vx):Bool:=decide (u.1=k) && Z8 f u.2 || decide (u.1+1=k) && decide (ZAa f u.2=0)
theorem ZMi {α:Type} {U:List α} {p:α->Bool} {i:Nat} (h:i<U.length):plc 0 (U.take (i+1)) p=plc 0 (U.take i) p++if p U[i]=true then[((i:Nat):Int)] else[]:=by
 rw[ZI3 h,Nat.zero_add]
theorem ZP2 {α:Type} (U:List α) (p:α->Bool) (o:Nat):(plc o U p).length≤U.length:=by
 unfold plc;rw[List.length_map];exact Nat.le_trans (List.length_filter_le _ _) (by rw[List.length_range];exact Nat.le_refl _)
theorem ZAx {P:Program} {ops:Array Oper} {hp:List HObj} {fr:List Dat} {dst:Option Tmp} {ty:TypeId} {ps:String} {af:Array Edge} {g:Option (Nat × Bool)} {T T2:TypeId} {p q:Int} {b:Bool} {x y:Operand} (h:decide (p=q)=b) (hx:OpD fr x (dI p)) (hy:OpD fr y (dI q)):SY P ops hp ⟨dst,.binOp .eql T x y T2,ty,ps,af,g⟩ fr (dB b):=ZEb h hx hy
theorem ZJ5 (U:List (Nat × List Vx)) (f:List Vx) (k:Nat) (hU:U.length≤100000) (h1:1≤k) (hk:k≤8) (hlev:∀u∈U,u.1≤8):Fn Tryz.prog 110 [dS Unks (U.map fun p=>((p.1:Int),p.2)),dS ZI f,dI (k:Int)] (dS ZAQ (plc 0 U (ZLT f k))):=by
 have hUl:(U.map fun p=>((p.1:Int),p.2)).length=U.length:=List.length_map _;refine zE Tryz.func110 55 ?_;(repeat' (first|refine zS ?_|refine ZA fun Kx hK=>?_|(refine hK _ _ ?_;clear hK)|refine ZVp ?_))
 all_goals try exact xO
 refine Zn 3 RI ?_;(refine ZV4 (X:=Nat × Value) (fun x=>[(8,dI (x.1:Int)),(7,dX x.2),(9,dA),(10,dA),(11,dA),(12,dA),(13,dA),(14,dA),(15,dA),(16,dA),(17,dA),(18,dA),(19,dA),(20,dA),(21,dA),(22,dA),(23,dA),(24,dA),(25,dA),(26,dA),(27,dA),(28,dA),(29,dA),(30,dA),(31,dA),(32,dA),(33,dA),(34,dA),(35,dA),(36,dA),(37,dA),(38,dA),(39,dA),(40,dA),(41,dA),(42,dA),(43,dA),(44,dA),(45,dA),(46,dA),(47,dA),(48,dA),(49,dA),(50,dA),(51,dA),(52,dA),(53,dA)]) (fun x=>([Zk x.2 3 RI (plc 0 (U.take x.1) (ZLT f k))])) (fun x=>U.length-x.1) (fun x=>x.1≤U.length) (0,.slice none 0 0) ?start ?frame0 ?objs0 ?round)
 case start=>exact Nat.zero_le _
 case frame0=>exact zFr
 case objs0=>rfl
 case round =>
  rintro⟨i,v⟩ hi;simp only at hi;dsimp only[ZH,z0,z1];by_cases hil:i<U.length
  ·have hil2:i<(U.map fun p=>((p.1:Int),p.2)).length:=by omega
   have hiI:(i:Int)<((U.map fun p=>((p.1:Int),p.2)).length:Int):=by omega
   have hnx:=ZMi (p:=ZLT f k) hil;have hpl:=ZP2 (U.take i) (ZLT f k) 0;have h8b:((plc 0 (U.take i) (ZLT f k)).length+1)*8≤140737488355328:=by rw[List.length_take] at hpl;omega
   obtain⟨X,hX⟩:∃X,plc 0 (U.take i) (ZLT f k)=X:=⟨_,rfl⟩;obtain⟨X2,hX2⟩:∃X2,plc 0 (U.take (i+1)) (ZLT f k)=X2:=⟨_,rfl⟩;have hul:=hlev _ (List.getElem_mem hil);obtain⟨⟨n,s⟩,hu⟩:∃u,U[i]=u:=⟨_,rfl⟩;have hget:(U.map fun p=>((p.1:Int),p.2))[i]=((n:Int),s):=by rw[List.getElem_map,hu]
   rw[hX,hX2,hu] at hnx;rw[hX] at h8b ⊢;rw[hu] at hul;simp only at hul;have cI:=ZEE f s;have cS:=ZQM f s;obtain⟨bi,hbi⟩:∃b,Z8 f s=b:=⟨_,rfl⟩;obtain⟨bs,hbs⟩:∃b,decide (ZAa f s=0)=b:=⟨_,rfl⟩;rw[hbi] at cI;rw[hbs] at cS;generalize (U.map fun p=>((p.1:Int),p.2))=W at hil2 hiI hget hUl;unfold ZLT at hnx;simp only at hnx;rw[hbi,hbs] at hnx;by_cases hnk:n=k
   ·have hnkI:(n:Int)=(k:Int):=by omega
    have hd1:decide ((n:Int)=(k:Int))=true:=decide_eq_true hnkI;have hd2:decide ((n:Int)=(k:Int)-1)=false:=decide_eq_false (by omega);rw[decide_eq_true hnk,decide_eq_false (by omega:¬ n+1=k),Bool.true_and,Bool.false_and,Bool.or_false] at hnx;cases bi with
    | true =>
     rw[if_pos rfl] at hnx;((repeat' (first|(apply zV;exact yF;exact zQ)|refine ZVj ?_|refine ZA fun Kx hK=>?_|(refine hK _ _ ?_;clear hK)|refine ZVk ?_ |  (apply ZF;(focus (apply SYG.no;exact ZDJ rfl rfl rfl));dsimp only[ZC,z0,z1])|((first|apply Zq|apply Zl);exact eD;exact ZVh rfl;exact oD;(intro _;exact hD);(exact(by simp));(exact(by simp));(first|exact⟨by decide,by decide⟩|skip);decide;exact lD;(intro _;dsimp only[ZC,z0,z1]);all_goals (try infer_instance))|(apply ZF;(focus (first|exact wN|(apply ZVt;exact wY;((first|(apply ZVu;exact ZVh rfl;exact ZDw;exact ZCh.unt)|(exact ZBK (R:=Unk) (_gR:=inferInstance) ZCh hil2 hget (ZVh rfl) (ZVh rfl))|(apply Z9 ZLB;exact ZVh rfl)|(apply ZAB ZLB;exact ZVh rfl)|(exact ZAx hd1 (ZVh rfl) (ZVh rfl))|(exact ZAx hd2 (ZVh rfl) (ZVh rfl))|(apply ZVm (cI) Tryz.call87;exact aD)|exact yG|fail);all_goals infer_instance))));dsimp only[ZC,z0,z1])|(apply Zf;exact oD;(with_reducible rfl))|(apply ZB;exact oD;all_goals (intro h;try exact xD))|refine ZVr ?_|refine ZVp ?_|refine ZVx ?_));all_goals ((repeat clear hK);repeat clear Kx))
     all_goals try exact xO
     rw[<- hnx,<- hX2];(refine zNx (i+1,_) ?_;(try dsimp only))
     exact hil
    | false =>
     rw[if_neg Bool.noConfusion,List.append_nil] at hnx;((repeat' (first|refine zS ?_|refine ZA fun Kx hK=>?_|(refine hK _ _ ?_;clear hK)|(apply ZF;(focus (first|exact wN|(apply ZVt;exact wY;((first|(apply ZVu;exact ZVh rfl;exact ZDw;exact ZCh.unt)|(exact ZBK (R:=Unk) (_gR:=inferInstance) ZCh hil2 hget (ZVh rfl) (ZVh rfl))|(apply Z9 ZLB;exact ZVh rfl)|(apply ZAB ZLB;exact ZVh rfl)|(exact ZAx hd1 (ZVh rfl) (ZVh rfl))|(exact ZAx hd2 (ZVh rfl) (ZVh rfl))|(apply ZVm (cI) Tryz.call87;exact aD)|exact yG|fail);all_goals infer_instance))));dsimp only[ZC,z0,z1])|(apply ZQ;exact oD;(with_reducible rfl))|(apply ZB;exact oD;all_goals (intro h;try exact xD))|refine ZVr ?_|refine ZVp ?_|refine ZVx ?_));all_goals ((repeat clear hK);repeat clear Kx))
     all_goals try exact xO
     rw[<- hnx,<- hX2];(refine zNx (i+1,v) ?_;(try dsimp only))
     exact hil
   ·have hnkI:¬ (n:Int)=(k:Int):=by omega
    have hd1:decide ((n:Int)=(k:Int))=false:=decide_eq_false hnkI;rw[decide_eq_false hnk,Bool.false_and,Bool.false_or] at hnx;by_cases hnk1:n+1=k
    ·have hd2:decide ((n:Int)=(k:Int)-1)=true:=decide_eq_true (by omega);rw[decide_eq_true hnk1,Bool.true_and] at hnx;cases bs with
     | true =>
      rw[if_pos rfl] at hnx;((repeat' (first|refine zS ?_|refine ZA fun Kx hK=>?_|(refine hK _ _ ?_;clear hK)|((first|apply Zq|apply Zl);exact eD;exact ZVh rfl;exact oD;(intro _;exact hD);(exact(by simp));(exact(by simp));(first|exact⟨by decide,by decide⟩|skip);decide;exact lD;(intro _;dsimp only[ZC,z0,z1]);all_goals (try infer_instance))|(apply ZF;(focus (first|exact wN|(apply ZVt;exact wY;((first|(apply ZVu;exact ZVh rfl;exact ZDw;exact ZCh.unt)|(exact ZBK (R:=Unk) (_gR:=inferInstance) ZCh hil2 hget (ZVh rfl) (ZVh rfl))|(apply Z9 ZLB;exact ZVh rfl)|(apply ZAB ZLB;exact ZVh rfl)|(exact ZAx hd1 (ZVh rfl) (ZVh rfl))|(exact ZAx hd2 (ZVh rfl) (ZVh rfl))|(apply ZVm (cS) Tryz.call38;exact aD)|exact yG|fail);all_goals infer_instance))));dsimp only[ZC,z0,z1])|(apply Zf;exact oD;(with_reducible rfl))|(apply ZB;exact oD;all_goals (intro h;try exact xD))|refine ZVr ?_|refine ZVp ?_|refine ZVx ?_));all_goals ((repeat clear hK);repeat clear Kx))
      all_goals try exact xO
      rw[<- hnx,<- hX2];(refine zNx (i+1,_) ?_;(try dsimp only))
      exact hil
     | false =>
      rw[if_neg Bool.noConfusion,List.append_nil] at hnx;((repeat' (first|refine zS ?_|refine ZA fun Kx hK=>?_|(refine hK _ _ ?_;clear hK)|(apply ZF;(focus (first|exact wN|(apply ZVt;exact wY;((first|(apply ZVu;exact ZVh rfl;exact ZDw;exact ZCh.unt)|(exact ZBK (R:=Unk) (_gR:=inferInstance) ZCh hil2 hget (ZVh rfl) (ZVh rfl))|(apply Z9 ZLB;exact ZVh rfl)|(apply ZAB ZLB;exact ZVh rfl)|(exact ZAx hd1 (ZVh rfl) (ZVh rfl))|(exact ZAx hd2 (ZVh rfl) (ZVh rfl))|(apply ZVm (cS) Tryz.call38;exact aD)|exact yG|fail);all_goals infer_instance))));dsimp only[ZC,z0,z1])|(apply ZQ;exact oD;(with_reducible rfl))|(apply ZB;exact oD;all_goals (intro h;try exact xD))|refine ZVr ?_|refine ZVp ?_|refine ZVx ?_));all_goals ((repeat clear hK);repeat clear Kx))
      all_goals try exact xO
      rw[<- hnx,<- hX2];(refine zNx (i+1,v) ?_;(try dsimp only))
      exact hil
    ·have hd2:decide ((n:Int)=(k:Int)-1)=false:=decide_eq_false (by omega);rw[decide_eq_false hnk1,Bool.false_and,if_neg Bool.noConfusion,List.append_nil] at hnx;((repeat' (first|refine zS ?_|refine ZA fun Kx hK=>?_|(refine hK _ _ ?_;clear hK)|(apply ZF;(focus (first|exact wN|(apply ZVt;exact wY;((first|(apply ZVu;exact ZVh rfl;exact ZDw;exact ZCh.unt)|(exact ZBK (R:=Unk) (_gR:=inferInstance) ZCh hil2 hget (ZVh rfl) (ZVh rfl))|(apply Z9 ZLB;exact ZVh rfl)|(apply ZAB ZLB;exact ZVh rfl)|(exact ZAx hd1 (ZVh rfl) (ZVh rfl))|(exact ZAx hd2 (ZVh rfl) (ZVh rfl))|exact yG|fail);all_goals infer_instance))));dsimp only[ZC,z0,z1])|(apply ZQ;exact oD;(with_reducible rfl))|(apply ZB;exact oD;all_goals (intro h;try exact xD))|refine ZVr ?_|refine ZVp ?_|refine ZVx ?_));all_goals ((repeat clear hK);repeat clear Kx))
     all_goals try exact xO
     rw[<- hnx,<- hX2];(refine zNx (i+1,v) ?_;(try dsimp only))
     exact hil
  ·have hiI:¬ (i:Int)<((U.map fun p=>((p.1:Int),p.2)).length:Int):=by omega
   obtain rfl:i=U.length:=by omega
   rw[List.take_length];((repeat' (first|refine zS ?_|refine ZA fun Kx hK=>?_|(refine hK _ _ ?_;clear hK)|(refine ZV0 ?_;clear hK)|(apply ZF;(focus (first|exact wN|(apply ZVt;exact wY;((first|(apply ZVu;exact ZVh rfl;exact ZDw;exact ZCh.unt)|exact yG|fail);all_goals infer_instance))));dsimp only[ZC,z0,z1])|(apply ZB;exact oD;all_goals (intro h;try exact xD))|refine ZVs ?_|refine ZV1 ?_));all_goals ((repeat clear hK);repeat clear Kx))
   all_goals try exact xO
   (refine⟨trivial,_,rfl,?_⟩;exact fD)
end
section
open Go.RowKit
def upV {ι β:Type} [DecidableEq ι] (u:ι->β) (i:ι) (v:β):ι->β:=fun j=>if j=i then v else u j
theorem ZQh {ι β:Type} [DecidableEq ι] {u:ι->β} {i:ι} {v:β}:upV u i v i=v:=if_pos rfl
theorem ZTE {ι β:Type} [DecidableEq ι] {u:ι->β} {i j:ι} {v:β} (h:j≠i):upV u i v j=u j:=if_neg h
section
variable {ι α:Type} [DecidableEq ι] {u:ι->Value} {e:TypeId} {R:Rel α} {c:ι->List α} {L:List ι} {i:ι} {A B:List HObj}
def gR (L:List ι) (u:ι->Value) (e:TypeId) (R:Rel α) [Good R] (c:ι->List α):List HObj:=L.map fun i=>Zk (u i) e R (c i)
omit [DecidableEq ι] in
theorem ZSv [Good R] (h:i∈L):Zk (u i) e R (c i)∈gR L u e R c:=List.mem_map.2 ⟨i,h,rfl⟩
theorem ZPX [Good R] (h:i∈L):(gR L u e R c).Perm (Zk (u i) e R (c i)::gR (L.erase i) u e R c):=by
 have:=(List.perm_cons_erase h).map fun i=>Zk (u i) e R (c i);simpa[gR] using this
theorem ZTr [Good R] (hn:L.Nodup) (h:i∈L) {u':ι->Value} {c':ι->List α} (hu:∀j,j≠i->u' j=u j) (hc:∀j,j≠i->c' j=c j):(Zk (u' i) e R (c' i)::gR (L.erase i) u e R c).Perm (gR L u' e R c'):=by
 refine List.Perm.trans (List.Perm.cons _ ?_) (ZPX h).symm;have:gR (L.erase i) u e R c=gR (L.erase i) u' e R c':=by
  unfold gR;refine List.map_congr_left fun j hj=>?_;have hne:j≠i:=fun e=>by subst e;exact(List.Nodup.not_mem_erase hn) hj
  rw[hu j hne,hc j hne]
 rw[this]
theorem ZVC [Good R] (h:i∈L):(A++(gR L u e R c++B)).Perm (Zk (u i) e R (c i)::(A++(gR (L.erase i) u e R c++B))):=by
 refine((List.Perm.append_right B (ZPX h)).append_left A).trans ?_;exact List.perm_middle
theorem gR_in [Good R] (hn:L.Nodup) (h:i∈L) {u':ι->Value} {c':ι->List α} (hu:∀j,j≠i->u' j=u j) (hc:∀j,j≠i->c' j=c j):(Zk (u' i) e R (c' i)::(A++(gR (L.erase i) u e R c++B))).Perm (A++(gR L u' e R c'++B)):=by
 refine List.perm_middle.symm.trans ?_;exact(List.Perm.append_right B (ZTr hn h hu hc)).append_left A
omit [DecidableEq ι] in
theorem ZHp [Good R] {P:Program} {Q:Z4} {cd:Code} {fr:List Dat} {hp:List HObj} (e:TypeId):∀L:List ι,WC P Q cd fr (gR L (fun _=>.slice none 0 0) e R (fun _=>([]:List α))++hp)->WC P Q cd fr hp
 | [],h=>h
 | _::L,h=>ZHp e L (Zn e R h)
end
section
variable {P:Program} {ops:Array Oper} {hp:List HObj} {fr:List Dat} {d:Dat} {Q:Z4} {rest:List Oper}
variable {dst:Option Tmp} {ty:TypeId} {ps:String} {af:Array Edge} {bytes:Nat} {e t T:TypeId} {α:Type} {R:Rel α} {_gR:Good R}
theorem SW.gApp {ι:Type} [DecidableEq ι] {L:List ι} {i:ι} {u:ι->Value} {c c':ι->List α} {A B:List HObj} {s x:Operand} {z:Value} {ag:Bool} (E:ElT P t e 1 z bytes ag) {y:α} (hn:L.Nodup) (hi:i∈L) (hc1:c' i=c i++[y]) (hc2:∀j,j≠i->c' j=c j) (hs:OpD fr s (dX (u i))) (hx:OpD fr x (dS (Arr R) [y])) (hby:0<bytes) (hlen:((c i).length+1)*bytes≤140737488355328) :
  SW P ops (A++(gR L u e R c++B)) (fun v'=>A++(gR L (upV u i v') e R c'++B)) (fun v'=>dX v') ⟨dst,.call { callee:=.builtin .append,args:=#[s,x],argTypes:=#[t,t] },ty,ps,af,none⟩ fr :=
 SW.perm (ZVC hi) (fun v'=>by
  have hp:=gR_in (R:=R) (A:=A) (B:=B) (u:=u) (u':=upV u i v') (e:=e) (c:=c) (c':=c') hn hi (fun j hj=>ZTE hj) hc2;rw[ZQh,hc1] at hp;exact hp) (SW.app1 E hs hx hby hlen)
theorem ZP9 {u:Nat->Value} {n k:Nat} {v:Value} (_:k<n):((List.range n).map u).set k v=(List.range n).map (upV u k v):=by
 apply List.ext_getElem (by simp);intro j h1 h2;rw[List.getElem_set];simp only[List.getElem_map,List.getElem_range];by_cases hj:k=j
 ·subst hj;rw[if_pos rfl,ZQh]
 ·rw[if_neg hj,ZTE (fun e=>hj e.symm)]
theorem ZOZ {n k:Nat} {u:Nat->Value} {v w:Value} {c:Nat->List α} {B:List HObj} {e2:TypeId} {p q:Tmp} (T':TyI P T 1 false) (hk:k<n) (hp0:OpD fr (.tmp p) (dX (ZBO w k))) (hx:fr[q]?=some (dX v))
  (hh:WL P ops Q rest (ZC fr dst (dX undef)) ([Zk w e ZLD ((List.range n).map (upV u k v))]++(gR (List.range n) (upV u k v) e2 R c++B))) :
  WL P ops Q (⟨dst,.store T (.tmp p) (.tmp q),ty,ps,af,none⟩::rest) fr ([Zk w e ZLD ((List.range n).map u)]++(gR (List.range n) (upV u k v) e2 R c++B)):=by
 have hm:Zk v e2 R (c k)∈([Zk w e ZLD ((List.range n).map u)]++(gR (List.range n) (upV u k v) e2 R c++B)):=by
  refine List.mem_append_right _ (List.mem_append_left _ ?_);have:=ZSv (R:=R) (u:=upV u k v) (e:=e2) (c:=c) (L:=List.range n) (i:=k) (List.mem_range.2 hk);rwa[ZQh] at this
 refine ZCY hm fun hone=>ZBk (SW.storeR (R:=ZLD) (_gR:=inferInstance) T' hp0 (ZWD hx (le_XR hone)) ZUQ (by simpa using hk)) fun _=>?_;rw[ZP9 hk];exact hh
theorem ZLL {n:Nat} {j:Int} {y y':Operand} (E:ElT P t e 1 (.slice none 0 0) bytes false) (hy:OpD fr y (dI j)) (hy':OpD fr y' (dI j)) (hj:j=(n:Int)) (hb:bytes*n≤281474976710656) (hm:n≤1000000000) (h:∀v,WL P ops Q rest (ZC fr dst (dX v)) (Zk v e ZLD ((List.range n).map fun _=>Value.slice none 0 0)::hp)) :
  WL P ops Q (⟨dst,.makeSlice t y y',ty,ps,af,none⟩::rest) fr hp:=by
 refine WL.of fun P0 B w0 w a hh hf=>?_;have h1:a.eval y = .int .i64 n:=by rw[<- hj];exact hy.ev hf
 have h2:a.eval y' = .int .i64 n:=by rw[<- hj];exact hy'.ev hf
 have hr:=run_make_row' (P:=P) t e (.slice none 0 0) bytes E.und E.info rfl .i64 .i64 n hb (by omega) w;refine Zo rfl (v:=.slice (some ⟨w.heap.size,0,none⟩) n n) (w':=w.alloc (.cells (madeCells #[.slice none 0 0] n) e)) ?_ ?_
 ·unfold execOp;simp only[h1,h2,Sem.run_bind,hr,Result.andThen_ok,Sem.run_pure]
 have hx:=ZWU w (.cells (madeCells #[.slice none 0 0] n) e);have hb':∀q,(Zk (.slice (some ⟨w.heap.size,0,none⟩) n n) e ZLD ((List.range n).map fun _=>Value.slice none 0 0)).blk=some q->w.heap.size≤q/\q<(w.alloc (.cells (madeCells #[.slice none 0 0] n) e)).heap.size:=fun q hq=>by
  cases hq;exact⟨Nat.le_refl _,by simp⟩
 refine(h _).on (hh.push hx hb' ?_) (ZWN (hf.mono fun d _ hd=>ZAJ hx (fun k hk=>(hb' k hk).1) hd) rfl);refine⟨List.replicate n (.slice none 0 0),by simp,⟨by simp,.inr ⟨w.heap.size,n,madeCells #[.slice none 0 0] n,by simp,Nat.zero_le _,Zw w _,by simp,by simp only[maxLen];omega,by simp[size_madeCells],?_⟩⟩,fun k a b=>?_⟩
 ·rw[ZPh,List.length_map,List.length_range,Nat.mul_one,List.take_of_length_le (by simp)]
 ·simp only[List.getElem_replicate,List.getElem_map];exact⟨rfl,rfl,rfl⟩
end
theorem FinD.grp {hp:List HObj} {n:Nat} {w:Value} {u:Nat->Value} {e e2:TypeId} {α:Type} {R:Rel α} {_gR:Good R} {c:Nat->List α} {xs:List (List α)} (hm:Zk w e ZLD ((List.range n).map u)∈hp) (hr:∀i,i<n->Zk (u i) e2 R (c i)∈hp) (hx:xs=(List.range n).map c):FinD hp (dX w) (dS (Arr (Arr R)) xs):=FinD.mk fun {P0 B w0 W v} hh hd=>by
 cases (hd:v=w);subst hx;obtain⟨us,hl,ho,he⟩:=hh.ok _ hm;obtain⟨a,cap,hv,h1,h2,h3⟩:=Z7 ho;have hul:us.length=n:=by simpa using hl
 refine⟨a,cap,by simpa[hul] using hv,by simpa[hul] using h1,h2,fun k hk=>?_⟩;have hkn:k<n:=by simpa using hk
 have hk':k<us.length:=by omega
 obtain⟨gb,ha,hob,_,hc⟩:=h3 k us[k] (List.getElem?_eq_getElem hk');obtain⟨r1,r2⟩:=he k hk' (by simpa using hkn);have r3:us[k]=u k:=by
  have:us[k]=((List.range n).map u)[k]'(by simpa using hkn):=(r2:_/\_).1;simpa using this
 have:Arr R (fun b=>P0 b\/B≤b) W (u k) (c k):=(FinD.row (hr k hkn)).out (v:=u k) hh rfl;refine⟨us[k],gb,0,?_,r1,ha,ZEH hh hm hob,by rw[Nat.zero_add];exact hc⟩;rw[r3];simpa using this
end
end Go.Proofs.YtofkoleingbbpaaGreatDoor
