/- Part 39: walks by contracts, and plain laws. -/
import Derived.Test.YtokmalofdapffaaGreatV38
set_option linter.unusedVariables false
set_option linter.unusedSimpArgs false
set_option linter.unusedSectionVars false
set_option maxRecDepth 100000
set_option maxHeartbeats 4000000
namespace Go.Proofs.YtokmalofdapffaaGreat
section
open Go.RowKit

theorem FinD.mapI {hp:List HObj} {b:Nat} {K V:Type} {kv:K->Value} {vv:V->Value} {R:Rel V} {_gR:Good R} {M:List (K × V)} (hm:hM b kv vv M∈hp) (hvv:∀ I w (y:V),R I w (vv y) y) :
  FinD hp (dX (.map (some b))) (dS (ZH7 kv R) M):=FinD.mk fun {P0 B w0 w u} hh hd=>by
 have hb:w.heap[b]?=some (ZAX _):=hh.ok _ hm
 refine ⟨b,M.map fun p=>vv p.2,hd,ZDW hh hm rfl,by simp,?_,fun k h1 h2=>?_⟩
 ·rw [hb]
  congr 2
  unfold ZAP
  rw [List.zip_map',List.map_map]
  rfl
 ·simp only [List.getElem_map]
  exact hvv _ _ _
theorem ZB7:MapT Tryz.prog 107 110 3 (.int .i64 0):=⟨Tryz.underlying107,fun w=>by kernel_rfl⟩
theorem ZJD:TyI Tryz.prog 107 1 false:=⟨by kernel_rfl,Tryz.isAgg107⟩
theorem ZTK:TyZ Tryz.prog 107 (.map none):=⟨by kernel_rfl⟩
theorem ZJR {ops:Array Oper} {hp:List HObj} {fr:List Dat} {dst:Option Tmp} {ty:TypeId} {ps:String} {af:Array Edge} {g:Option (Nat × Bool)} {b:Nat} {M:ZLH} {f:List Vx} {x y:Operand} (hx:OpD fr x (dX (.map (some b)))) (hm:hM b kvK vvI M∈hp) (hy:OpD fr y (dX (kvK f))) (hf:okK f) (ho:∀ p∈M,okK p.1) (hn:(M.map (·.1)).Nodup) :
  SY Tryz.prog ops hp ⟨dst,.lookup 107 x y false,ty,ps,af,g⟩ fr (dI ((Go.Proofs.YtokmalofdapffaaGreat.lookM M f).getD 0)):=by
 have h:=SY.lookM (dst:=dst) (ty:=ty) (ps:=ps) (af:=af) (g:=g) (ops:=ops) ZB7 ZDq hx hm hy isX hf ho hn
 rw [ZP8] at h
 exact h
theorem ZJL {o:Cx}:∀ p∈o.foldl ZCx [],p.1∈o:=fun p hp=>by
 have h:=ZBz.2 (List.mem_map_of_mem (f:=(·.1)) hp)
 rw [ZDb] at h
 by_cases hx:p.1∈o
 ·exact hx
 ·rw [if_neg hx] at h;cases h
theorem ZNq {l:Cx} {i:Nat} (h:i<l.length):ZBu (l.take (i+1))=ZBu (l.take i)++ZCw l[i]:=by
 unfold ZBu;rw [ZU h,List.flatMap_append];simp
theorem ZN5 {l:Cx} {i:Nat} (h:i<l.length):ZEy (l.take (i+1))=ZEy (l.take i)++ZIy l[i]:=by
 unfold ZEy;rw [ZU h,List.flatMap_append];simp
theorem ZEB {s:List Vx} (hs:ZAL s=0):∀ t∈ZCw s,ZAL t=0:=fun t ht=>by
 unfold ZCw at ht
 split at ht
 ·obtain ⟨i,hi,rfl⟩:=List.mem_map.1 ht
  have hi:=List.mem_range.1 hi
  have hl:=ZDX hi
  exact (ZAp hs (k:=s.length-1) (by omega) ((Z9 _ _ _).2 ⟨ZDY s i,hl⟩)).1
 ·cases ht
theorem ZHL {α:Type} (f:α->Cx) (B:Nat):∀ l:List α,(∀ s∈l,(f s).length≤B)->(l.flatMap f).length≤B*l.length
 | [],_=>Nat.zero_le _
 | s::l,h=>by
  have h1:=h s (List.mem_cons_self ..)
  have h2:=ZHL f B l fun t ht=>h t (List.mem_cons_of_mem _ ht)
  rw [List.flatMap_cons,List.length_append,List.length_cons,Nat.mul_succ]
  omega
theorem ZOU {s:List Vx} (h:s.length≤8) (k:Nat):(ZX k s).length≤256:=Nat.le_trans (ZCb _ _) (Nat.pow_le_pow_right (by decide) h:2 ^ s.length≤2 ^ 8)
theorem ZQN {s:List Vx} (h:s.length≤8):(ZIy s).length≤2048:=by
 have h1:=ZHL (fun k=>ZX (k+1) s) 256 (List.range (s.length-1)) fun k _=>ZOU h _
 rw [List.length_range] at h1
 unfold ZIy
 omega
theorem ZN4 {l:Cx} (h:∀ s∈l,s.length≤8):(ZEy l).length≤2048*l.length:=ZHL ZIy 2048 l fun s hs=>ZQN (h s hs)
set_option maxHeartbeats 8000000 in
theorem ZLb (l:Cx) (G:GoodX l):Fn Tryz.prog 71 [dS Cpx l] (dS (ZH7 kvK RI) (ZF4 l)):=by
 (refine ZG Tryz.func71 rfl rfl ?_;simp only [Tryz.ntmps71,List.length_cons,List.length_nil,Nat.reduceAdd,Nat.reduceSub,List.replicate_succ,List.replicate_zero,List.cons_append,List.nil_append])
 (repeat' (first|((first|apply WL.opN|apply WD.opN);exact yF;dsimp only [ZB,z0,z1])|refine WL.nil ?_|refine ZA fun Kx hK=>?_|(refine hK _ _ ?_;clear hK)|refine WC.region ?_ |  (refine WL.makeMap kvK vvI fun b=>?_;dsimp only [ZB,z0,z1])|((first|apply WL.opN|apply WD.opN);(focus ((first|(apply SY.len;(exact oD);(exact nD);(exact uD))|(apply ZAd ZA9;exact OpD.t rfl)|(apply SY.box;(exact oD);(exact hD))|fail);all_goals infer_instance));dsimp only [ZB,z0,z1])|refine WC.block ?_))
 have hg:∀ s∈l,ZAL s=0:=G.2.2.1
 have hll:=G.1
 (refine ZH (X:=Nat) (fun i=>[(20,dI (i:Int)),(5,dA),(6,dA),(21,dA),(22,dA),(23,dA),(24,dA),(25,dA),(26,dA),(27,dA),(28,dA),(29,dA),(30,dA),(31,dA),(32,dA),(33,dA),(34,dA),(35,dA),(36,dA),(37,dA),(38,dA)]) (fun i=>[hM b kvK vvI ((ZBu (l.take i)).foldl ZCx [])]) (fun i=>l.length-i) (fun i=>i≤l.length) 0 ?start ?frame0 ?objs0 ?round)
 case start=>exact Nat.zero_le _
 case frame0=>((try dsimp only [ZQ,z0,z1]);repeat (first|exact LeF.nil|refine ZD (k:=?_)))
 case objs0=>rfl
 case round =>
  rintro i h1
  dsimp only [ZQ,z0,z1]
  by_cases hi:i<l.length
  ·have hgi:=hg _ (List.getElem_mem hi)
   obtain ⟨p1,p2⟩:=Zf hgi
   have hoc:∀ t∈ZBu (l.take i),ZAL t=0:=fun t ht=>by
    obtain ⟨s,hs,ht⟩:=List.mem_flatMap.1 ht
    exact ZEB (hg s (List.mem_of_mem_take hs)) t ht
   have e:=ZNq hi
   (repeat' (first|((first|apply WL.opN|apply WD.opN);exact yF;dsimp only [ZB,z0,z1])|refine WL.nil ?_|refine ZA fun Kx hK=>?_|(refine hK _ _ ?_;clear hK)|refine WC.region ?_|((first|apply WL.opN|apply WD.opN);(focus ((first|((first|apply SY.move|apply SY.assign|apply SY.lss|apply SY.gtr) <;> (exact oD))|(apply SY.len;(exact oD);(exact nD);(exact uD))|(apply SY.ix;(exact eD);(exact oD);(exact oD);exact kD)|fail);all_goals infer_instance));dsimp only [ZB,z0,z1])|(apply WC.condD;(exact oD);all_goals (intro h;try exact xD))|refine WC.skip ?_|refine WC.block ?_))
   (refine ZH (X:=Nat) (fun j=>[(26,dI (j:Int)),(6,dA),(27,dA),(28,dA),(29,dA),(30,dA),(31,dA),(32,dA),(33,dA),(34,dA),(35,dA),(36,dA),(37,dA)]) (fun j=>[hM b kvK vvI ((ZBu (l.take i)++(ZCw l[i]).take j).foldl ZCx [])]) (fun j=>l[i].length-j) (fun j=>j≤l[i].length) 0 ?start ?frame0 ?objs0 ?round)
   case start=>exact Nat.zero_le _
   case frame0=>((try dsimp only [ZQ,z0,z1]);repeat (first|exact LeF.nil|refine ZD (k:=?_)))
   case objs0=>simp
   case round =>
    rintro j k1
    dsimp only [ZQ,z0,z1]
    by_cases hj:j<l[i].length
    ·by_cases h2:1<l[i].length
     ·have c1:=ZDt l[i] j hj (by omega)
      have ho:ZCw l[i]=(List.range l[i].length).map (ZAv l[i]):=if_pos h2
      have hjo:j<(ZCw l[i]).length:=by rw [ho,List.length_map,List.length_range];exact hj
      have hat:(ZCw l[i])[j]=ZAv l[i] j:=by simp only [ho,List.getElem_map,List.getElem_range]
      have hck:=ZEB hgi _ (List.getElem_mem hjo)
      rw [hat] at hck
      have c2:=ZNp (ZAv l[i] j) (Zf hck).2
      have hok:∀ p∈(ZBu (l.take i)++(ZCw l[i]).take j).foldl ZCx [],okK p.1:=fun p hp=>ZCZ (by
       rcases List.mem_append.1 (ZJL p hp) with q|q
       ·exact hoc _ q
       ·exact ZEB hgi _ (List.mem_of_mem_take q))
      have hn:(((ZBu (l.take i)++(ZCw l[i]).take j).foldl ZCx []).map (·.1)).Nodup:=ZDa _ _ List.Pairwise.nil
      have e2:(ZBu (l.take i)++(ZCw l[i]).take (j+1)).foldl ZCx []=ZDr ((ZBu (l.take i)++(ZCw l[i]).take j).foldl ZCx []) (ZAv l[i] j) 0:=by
       rw [ZU hjo,<- List.append_assoc,List.foldl_append,hat];rfl
      generalize (ZBu (l.take i)++(ZCw l[i]).take j).foldl ZCx []=M at *
      ((repeat' (first|((first|apply WL.opN|apply WD.opN);exact yF;dsimp only [ZB,z0,z1])|refine WL.nil ?_|refine ZA fun Kx hK=>?_|(refine hK _ _ ?_;clear hK)|refine WC.region ?_ |  (refine ZDy (u:=(0:Int)) ZB7 ZDq (OpD.t rfl) (OpD.t rfl) isX OpD.i ⟨fun _ _ _ h=>h⟩ (ZCZ hck) hok hn ?_;dsimp only [ZB,z0,z1])|((first|apply WL.opN|apply WD.opN);(focus ((first|(apply SY.call (c1) Tryz.call45;(exact aD))|(apply SY.call (c2) Tryz.call73;(exact aD))|((first|apply SY.move|apply SY.assign|apply SY.lss|apply SY.gtr) <;> (exact oD))|((first|apply SY.add) <;> first|exact oD|omega)|(apply SY.len;(exact oD);(exact nD);(exact uD))|fail);all_goals infer_instance));dsimp only [ZB,z0,z1])|(apply WC.condD;(exact oD);all_goals (intro h;try exact xD))|refine WC.skip ?_|refine WC.block ?_|refine ThenD.n ?_));all_goals (first|((repeat clear hK);(repeat clear Kx))))
      all_goals first|(exfalso;omega)|skip
      (refine ⟨j+1 , ?_,by first|omega|(simp only;omega),by ((try simp only);  rw [e2]),?_⟩;rotate_left;((try dsimp only [ZQ,z0,z1]);repeat (first|exact LeF.nil|refine ZD (k:=?_)));(try dsimp only))
      omega
     ·have ho:ZCw l[i]=[]:=if_neg h2
      ((repeat' (first|((first|apply WL.opN|apply WD.opN);exact yF;dsimp only [ZB,z0,z1])|refine WL.nil ?_|refine ZA fun Kx hK=>?_|(refine hK _ _ ?_;clear hK)|refine WC.region ?_|((first|apply WL.opN|apply WD.opN);(focus ((first|((first|apply SY.move|apply SY.assign|apply SY.lss|apply SY.gtr) <;> (exact oD))|((first|apply SY.add) <;> first|exact oD|omega)|(apply SY.len;(exact oD);(exact nD);(exact uD))|fail);all_goals infer_instance));dsimp only [ZB,z0,z1])|(apply WC.condD;(exact oD);all_goals (intro h;try exact xD))|refine WC.skip ?_|refine WC.block ?_|refine ThenD.n ?_));all_goals (first|((repeat clear hK);(repeat clear Kx))))
      all_goals first|(exfalso;omega)|skip
      (refine ⟨j+1 , ?_,by first|omega|(simp only;omega),by ((try simp only);  rw [ho,List.take_nil,List.take_nil]),?_⟩;rotate_left;((try dsimp only [ZQ,z0,z1]);repeat (first|exact LeF.nil|refine ZD (k:=?_)));(try dsimp only))
      omega
    ·have ht:(ZCw l[i]).take j=ZCw l[i]:=List.take_of_length_le (by
      unfold ZCw
      split
      ·rw [List.length_map,List.length_range];omega
      ·exact Nat.zero_le _)
     ((repeat' (first|((first|apply WL.opN|apply WD.opN);exact yF;dsimp only [ZB,z0,z1])|refine WL.nil ?_|refine ZA fun Kx hK=>?_|(refine hK _ _ ?_;clear hK)|(refine Kont.skip ?_;clear hK)|refine WC.region ?_|((first|apply WL.opN|apply WD.opN);(focus ((first|((first|apply SY.move|apply SY.assign|apply SY.lss|apply SY.gtr) <;> (exact oD))|((first|apply SY.add) <;> first|exact oD|omega)|fail);all_goals infer_instance));dsimp only [ZB,z0,z1])|(apply WC.condD;(exact oD);all_goals (intro h;try exact xD))|refine WC.exit ?_|refine ThenD.n ?_));all_goals (first|((repeat clear hK);(repeat clear Kx))))
     (refine ⟨i+1 , ?_,by first|omega|(simp only;omega),by ((try simp only);  rw [e,ht]),?_⟩;rotate_left;((try dsimp only [ZQ,z0,z1]);repeat (first|exact LeF.nil|refine ZD (k:=?_)));(try dsimp only))
     omega
  ·rw [List.take_of_length_le (by omega)]
   have hoc:∀ t∈ZBu l,ZAL t=0:=fun t ht=>by
    obtain ⟨s,hs,ht⟩:=List.mem_flatMap.1 ht
    exact ZEB (hg s hs) t ht
   have hn0:(((ZBu l).foldl ZCx []).map (·.1)).Nodup:=ZDa _ _ List.Pairwise.nil
   have hok0:∀ (o:Cx),∀ p∈o.foldl ZB2 ((ZBu l).foldl ZCx []),okK p.1:=fun o p hp=>by
    have h1:=((ZDO o _ hn0).2 p.1).1 (List.mem_map_of_mem hp)
    obtain ⟨q,hq,hqe⟩:=List.mem_map.1 h1
    rw [<- hqe]
    exact ZCZ (hoc _ (ZJL q hq))
   have hlk0:∀ (o:Cx) (x:List Vx),(lookM (o.foldl ZB2 ((ZBu l).foldl ZCx [])) x).getD 0≤o.length/\0≤(lookM (o.foldl ZB2 ((ZBu l).foldl ZCx [])) x).getD 0:=fun o x=>by
    have hcl:=List.count_le_length (a:=x) (l:=o)
    rw [ZET,ZDb]
    by_cases hx:x∈ZBu l
    ·rw [if_pos hx];simp;omega
    ·rw [if_neg hx];simp [lookM]
   have hcK:ZF4 l=(ZEy l).foldl ZB2 ((ZBu l).foldl ZCx []):=rfl
   generalize (ZBu l).foldl ZCx []=M0 at *
   have hn8:∀ s∈l,s.length≤8:=fun s hs=>(Zf (hg s hs)).2
   (repeat' (first|((first|apply WL.opN|apply WD.opN);exact yF;dsimp only [ZB,z0,z1])|refine WL.nil ?_|refine ZA fun Kx hK=>?_|(refine hK _ _ ?_;clear hK)|(refine Kont.skip ?_;clear hK)|refine WC.region ?_|((first|apply WL.opN|apply WD.opN);(focus ((first|((first|apply SY.move|apply SY.assign|apply SY.lss|apply SY.gtr) <;> (exact oD))|(apply SY.len;(exact oD);(exact nD);(exact uD))|(apply ZAd ZA9;exact OpD.t rfl)|fail);all_goals infer_instance));dsimp only [ZB,z0,z1])|(apply WC.condD;(exact oD);all_goals (intro h;try exact xD))|refine WC.exit ?_|refine WC.block ?_))
   (refine ZH (X:=Nat) (fun i=>[(42,dI (i:Int)),(8,dA),(9,dA),(10,dA),(11,dA),(13,dA),(14,dA),(15,dA),(43,dA),(44,dA),(45,dA),(46,dA),(47,dA),(48,dA),(49,dA),(50,dA),(51,dA),(52,dA),(53,dA),(54,dA),(55,dA),(56,dA),(57,dA),(58,dA),(59,dA),(60,dA),(61,dA),(62,dA),(63,dA),(64,dA),(65,dA),(66,dA),(67,dA),(68,dA),(69,dA),(70,dA),(71,dA),(72,dA),(73,dA),(74,dA),(75,dA),(76,dA),(77,dA),(78,dA),(79,dA),(80,dA)]) (fun i=>[hM b kvK vvI ((ZEy (l.take i)).foldl ZB2 M0)]) (fun i=>l.length-i) (fun i=>i≤l.length) 0 ?start ?frame0 ?objs0 ?round)
   case start=>exact Nat.zero_le _
   case frame0=>((try dsimp only [ZQ,z0,z1]);repeat (first|exact LeF.nil|refine ZD (k:=?_)))
   case objs0=>rfl
   case round =>
    rintro i h1
    dsimp only [ZQ,z0,z1]
    by_cases hi:i<l.length
    ·have hgi:=hg _ (List.getElem_mem hi)
     obtain ⟨p1,p2⟩:=Zf hgi
     have e:=ZN5 hi
     have hpl:=ZN4 (l:=l.take i) fun s hs=>hn8 s (List.mem_of_mem_take hs)
     rw [List.length_take] at hpl
     (repeat' (first|((first|apply WL.opN|apply WD.opN);exact yF;dsimp only [ZB,z0,z1])|refine WL.nil ?_|refine ZA fun Kx hK=>?_|(refine hK _ _ ?_;clear hK)|refine WC.region ?_|((first|apply WL.opN|apply WD.opN);(focus ((first|((first|apply SY.move|apply SY.assign|apply SY.lss|apply SY.gtr) <;> (exact oD))|(apply SY.ix;(exact eD);(exact oD);(exact oD);exact kD)|fail);all_goals infer_instance));dsimp only [ZB,z0,z1])|(apply WC.condD;(exact oD);all_goals (intro h;try exact xD))|refine WC.skip ?_|refine WC.block ?_))
     (refine ZH (X:=Nat) (fun k=>[(9,dI ((k+1:Nat):Int)),(10,dA),(11,dA),(13,dA),(14,dA),(15,dA),(46,dA),(47,dA),(48,dA),(49,dA),(50,dA),(51,dA),(52,dA),(53,dA),(54,dA),(55,dA),(56,dA),(57,dA),(58,dA),(59,dA),(60,dA),(61,dA),(62,dA),(63,dA),(64,dA),(65,dA),(66,dA),(67,dA),(68,dA),(69,dA),(70,dA),(71,dA),(72,dA),(73,dA),(74,dA),(75,dA),(76,dA),(77,dA),(78,dA),(79,dA)]) (fun k=>[hM b kvK vvI ((ZEy (l.take i)++(List.range k).flatMap (fun k=>ZX (k+1) l[i])).foldl ZB2 M0)]) (fun k=>l[i].length-k) (fun k=>k≤l[i].length-1) 0 ?start ?frame0 ?objs0 ?round)
     case start=>exact Nat.zero_le _
     case frame0=>((try dsimp only [ZQ,z0,z1]);repeat (first|exact LeF.nil|refine ZD (k:=?_)))
     case objs0=>simp
     case round =>
      rintro k k1
      dsimp only [ZQ,z0,z1]
      by_cases hk:k<l[i].length-1
      ·have hF:Fn Tryz.prog 50 [dS ZJ l[i],dI ((k+1:Nat):Int)] (dT [dS ZBN (ZX (k+1) l[i]),dI 0]):=by
        have:=ZKa l[i] ((k+1:Nat):Int)
        rwa [ZFf hgi (by omega) (by omega)] at this
       have hTl:=ZOU p2 (k+1)
       have hTc:∀ t∈ZX (k+1) l[i],ZAL t=0:=fun t ht=>(ZAp hgi (by omega) ht).1
       have hpk:=ZHL (fun k=>ZX (k+1) l[i]) 256 (List.range k) fun k _=>ZOU p2 _
       rw [List.length_range] at hpk
       have ek:(List.range (k+1)).flatMap (fun k=>ZX (k+1) l[i])=(List.range k).flatMap (fun k=>ZX (k+1) l[i])++ZX (k+1) l[i]:=by
        rw [List.range_succ,List.flatMap_append];simp
       generalize (List.range k).flatMap (fun k=>ZX (k+1) l[i])=PK at *
       generalize ZEy (l.take i)=PC at *
       generalize ZX (k+1) l[i]=T at *
       (repeat' (first|((first|apply WL.opN|apply WD.opN);exact yF;dsimp only [ZB,z0,z1])|refine WL.nil ?_|refine ZA fun Kx hK=>?_|(refine hK _ _ ?_;clear hK)|refine WC.region ?_|((first|apply WL.opN|apply WD.opN);(focus ((first|(apply SY.call (hF) Tryz.call50;(exact aD))|((first|apply SY.move|apply SY.assign|apply SY.lss|apply SY.gtr) <;> (exact oD))|(apply SY.len;(exact oD);(exact nD);(exact uD))|(apply SY.extract;(exact oD);rfl)|fail);all_goals infer_instance));dsimp only [ZB,z0,z1])|(apply WC.condD;(exact oD);all_goals (intro h;try exact xD))|refine WC.skip ?_|refine WC.block ?_))
       all_goals first|(exfalso;omega)|skip
       (refine ZH (X:=Nat) (fun j=>[(60,dI (j:Int)),(13,dA),(14,dA),(15,dA),(61,dA),(62,dA),(63,dA),(64,dA),(65,dA),(66,dA),(67,dA),(68,dA),(69,dA),(70,dA),(71,dA),(72,dA),(73,dA),(74,dA),(75,dA),(76,dA),(77,dA),(78,dA),(79,dA)]) (fun j=>[hM b kvK vvI ((PC++PK++T.take j).foldl ZB2 M0)]) (fun j=>T.length-j) (fun j=>j≤T.length) 0 ?start ?frame0 ?objs0 ?round)
       case start=>exact Nat.zero_le _
       case frame0=>((try dsimp only [ZQ,z0,z1]);repeat (first|exact LeF.nil|refine ZD (k:=?_)))
       case objs0=>simp
       case round =>
        rintro j q1
        dsimp only [ZQ,z0,z1]
        by_cases hj:j<T.length
        ·have hx:=hTc _ (List.getElem_mem hj)
         have c2:=ZNp T[j] (Zf hx).2
         have hn:=(ZDO (PC++PK++T.take j) M0 hn0).1
         have hok:=hok0 (PC++PK++T.take j)
         have hlk:=hlk0 (PC++PK++T.take j) T[j]
         rw [List.length_append,List.length_append,List.length_take] at hlk
         have ej:(PC++PK++T.take (j+1)).foldl ZB2 M0=ZB2 ((PC++PK++T.take j).foldl ZB2 M0) T[j]:=by
          rw [ZU hj,<- List.append_assoc,List.foldl_append];rfl
         generalize (PC++PK++T.take j).foldl ZB2 M0=M at *
         cases hs:(lookM M T[j]).isSome with
         | true =>
          obtain ⟨q,hq,hqv⟩:∃ (q:Nat) (h:q<M.length),M[q].1=T[j]:=by
           obtain ⟨p,hp,hpv⟩:=List.mem_map.1 (ZBz.1 hs)
           obtain ⟨q,hq,rfl⟩:=List.getElem_of_mem hp
           exact ⟨q,hq,hpv⟩
          ((repeat' (first |  (refine WC.drawM (fun hp'=>hM b kvK vvI M∈hp') 7 1 [(0,false),(1,false),(2,false),(3,false),(4,false),(5,true),(6,false)] [true,true,true,true,true,true,true,false] (by kernel_rfl) (by kernel_rfl) (by kernel_rfl) rfl (.head _) ?_) |  (first|refine WA.one (S:=[true,true,true,true,true,true,true,false]) (i:=7) (by kernel_rfl) rfl ?_|refine WA.nil (S:=[true,true,true,true,true,true,true,true]) (by kernel_rfl) ?_) |  (refine ZAx rfl (ZMA ZB7 ZDq (OpD.t rfl) (OpD.t rfl) isX (ZCZ hx) hok hn hq hqv (0:Int) rfl) (fun _=>.head _) fun _=>?_;dsimp only [ZB,z0,z1,List.cons_append,List.nil_append])|(refine WM.nil ?_)|(apply WM.readL rfl;(focus (intro c hcc;apply SYG.yes;(exact ZP rfl);((first|(apply SY.call (c2) Tryz.call73;(exact aD))|(refine ZJR (OpD.t rfl) hcc (OpD.t rfl) (ZCZ hx) hok hn)|((first|apply SY.move|apply SY.assign|apply SY.lss|apply SY.gtr) <;> (exact oD))|((first|apply SY.add) <;> first|exact oD|omega)|(apply SY.extract;(exact oD);rfl)|fail);all_goals infer_instance)));dsimp only [ZB,z0,z1])|((first|apply WL.opN|apply WD.opN);exact yF;dsimp only [ZB,z0,z1])|refine WL.nil ?_|refine ZA fun Kx hK=>?_|(refine hK _ _ ?_;clear hK)|refine WC.region ?_ |  (refine ZJU (u:=(lookM M T[j]).getD 0+1) (OpD.t rfl) (OpD.t rfl) (OpD.t rfl) ⟨fun _ _ _ h=>h⟩ hq ?_;dsimp only [ZB])|((first|apply WL.opN|apply WD.opN);(focus ((first|(apply SY.call (c2) Tryz.call73;(exact aD))|(refine ZFQ (v:=T[j]) ZB7 ZDq (OpD.t rfl) (.head _) (OpD.t rfl) isX (ZCZ hx) hok hn)|((first|apply SY.move|apply SY.assign|apply SY.lss|apply SY.gtr) <;> (exact oD))|((first|apply SY.add) <;> first|exact oD|omega)|(apply SY.ix;(exact eD);(exact oD);(exact oD);exact kD)|(apply SY.extract;(exact oD);rfl)|fail);all_goals infer_instance));dsimp only [ZB,z0,z1])|(apply WC.condD;(exact oD);all_goals (intro h;try exact xD))|(apply WC.cond;(exact oD);all_goals (intro h;try exact xD))|refine WC.skip ?_|refine WC.block ?_|refine ThenD.n ?_));all_goals (first|((repeat clear hK);(repeat clear Kx))))
          all_goals first|(exfalso;omega)|(exfalso;rw [hs] at h;cases h;done)|skip
          refine ⟨j+1,?_,by omega,by rw [ej,show ZB2 M T[j]=ZDr M T[j] ((lookM M T[j]).getD 0+1) from if_pos hs,<- hqv,ZFK hn hq],?_⟩
          rotate_left
          ·((try dsimp only [ZQ,z0,z1]);repeat (first|exact LeF.nil|refine ZD (k:=?_)))
          ·omega
         | false =>
          rw [show ZB2 M T[j]=M from by unfold ZB2;rw [hs];rfl] at ej
          ((repeat' (first|((first|apply WL.opN|apply WD.opN);exact yF;dsimp only [ZB,z0,z1])|refine WL.nil ?_|refine ZA fun Kx hK=>?_|(refine hK _ _ ?_;clear hK)|refine WC.region ?_|(apply WC.draw;kernel_rfl;kernel_rfl)|((first|apply WL.opN|apply WD.opN);(focus ((first|(apply SY.call (c2) Tryz.call73;(exact aD))|(refine ZFQ (v:=T[j]) ZB7 ZDq (OpD.t rfl) (.head _) (OpD.t rfl) isX (ZCZ hx) hok hn)|((first|apply SY.move|apply SY.assign|apply SY.lss|apply SY.gtr) <;> (exact oD))|((first|apply SY.add) <;> first|exact oD|omega)|(apply SY.ix;(exact eD);(exact oD);(exact oD);exact kD)|(apply SY.extract;(exact oD);rfl)|fail);all_goals infer_instance));dsimp only [ZB,z0,z1])|(apply WC.condD;(exact oD);all_goals (intro h;try exact xD))|(apply WC.cond;(exact oD);all_goals (intro h;try exact xD))|refine WC.skip ?_|refine WC.block ?_|refine ThenD.n ?_));all_goals (first|((repeat clear hK);(repeat clear Kx))))
          all_goals first|(exfalso;omega)|(exfalso;rw [hs] at h;cases h;done)|skip
          (refine ⟨j+1 , ?_,by first|omega|(simp only;omega),by ((try simp only);  rw [ej]),?_⟩;rotate_left;((try dsimp only [ZQ,z0,z1]);repeat (first|exact LeF.nil|refine ZD (k:=?_)));(try dsimp only))
          omega
        ·rw [List.take_of_length_le (by omega)]
         ((repeat' (first|((first|apply WL.opN|apply WD.opN);exact yF;dsimp only [ZB,z0,z1])|refine WL.nil ?_|refine ZA fun Kx hK=>?_|(refine hK _ _ ?_;clear hK)|(refine Kont.skip ?_;clear hK)|refine WC.region ?_|((first|apply WL.opN|apply WD.opN);(focus ((first|((first|apply SY.move|apply SY.assign|apply SY.lss|apply SY.gtr) <;> (exact oD))|((first|apply SY.add) <;> first|exact oD|omega)|fail);all_goals infer_instance));dsimp only [ZB,z0,z1])|(apply WC.condD;(exact oD);all_goals (intro h;try exact xD))|refine WC.exit ?_|refine ThenD.n ?_));all_goals (first|((repeat clear hK);(repeat clear Kx))))
         (refine ⟨k+1 , ?_,by first|omega|(simp only;omega),by ((try simp only);  rw [ek,List.append_assoc]),?_⟩;rotate_left;((try dsimp only [ZQ,z0,z1]);repeat (first|exact LeF.nil|refine ZD (k:=?_)));(try dsimp only))
         omega
      ·have hke:k=l[i].length-1:=by omega
       subst hke
       ((repeat' (first|((first|apply WL.opN|apply WD.opN);exact yF;dsimp only [ZB,z0,z1])|refine WL.nil ?_|refine ZA fun Kx hK=>?_|(refine hK _ _ ?_;clear hK)|(refine Kont.skip ?_;clear hK)|refine WC.region ?_|((first|apply WL.opN|apply WD.opN);(focus ((first|((first|apply SY.move|apply SY.assign|apply SY.lss|apply SY.gtr) <;> (exact oD))|((first|apply SY.add) <;> first|exact oD|omega)|(apply SY.len;(exact oD);(exact nD);(exact uD))|fail);all_goals infer_instance));dsimp only [ZB,z0,z1])|(apply WC.condD;(exact oD);all_goals (intro h;try exact xD))|refine WC.exit ?_|refine ThenD.n ?_));all_goals (first|((repeat clear hK);(repeat clear Kx))))
       all_goals first|(exfalso;omega)|skip
       (refine ⟨i+1 , ?_,by first|omega|(simp only;omega),by ((try simp only);  rw [e];rfl),?_⟩;rotate_left;((try dsimp only [ZQ,z0,z1]);repeat (first|exact LeF.nil|refine ZD (k:=?_)));(try dsimp only))
       omega
    ·rw [List.take_of_length_le (by omega),<- hcK]
     ((repeat' (first|((first|apply WL.opN|apply WD.opN);exact yF;dsimp only [ZB,z0,z1])|refine WL.nil ?_|refine ZA fun Kx hK=>?_|(refine hK _ _ ?_;clear hK)|(refine Kont.skip ?_;clear hK)|refine WC.region ?_|((first|apply WL.opN|apply WD.opN);(focus ((first|((first|apply SY.move|apply SY.assign|apply SY.lss|apply SY.gtr) <;> (exact oD))|fail);all_goals infer_instance));dsimp only [ZB,z0,z1])|(apply WC.condD;(exact oD);all_goals (intro h;try exact xD))|refine WC.ret ?_|refine WC.exit ?_));all_goals (first|((repeat clear hK);(repeat clear Kx))))
     refine ⟨trivial,_,rfl,?_⟩
     exact FinD.mapI (_gR:=inferInstance) (.head _) (fun _ _ _=>rfl)
end
section
theorem ZKJ:∀ {a b:List Cl},ZSN a->ZSN b->(∀ x,x∈a↔x∈b)->a=b
 | [],[],_,_,_=>rfl
 | [],y::b,_,_,h=>absurd ((h y).2 (by simp)) (by simp)
 | x::a,[],_,_,h=>absurd ((h x).1 (by simp)) (by simp)
 | x::a,y::b,ha,hb,h=>by
  unfold ZSN at ha hb
  rw [List.pairwise_cons] at ha hb
  have hxy:x=y:=by
   have h1:=(h x).1 (by simp)
   have h2:=(h y).2 (by simp)
   rw [List.mem_cons] at h1 h2
   rcases h1 with h1|h1
   ·exact h1
   rcases h2 with h2|h2
   ·exact h2.symm
   exact absurd (hb.1 x h1) (ZHA (ha.1 y h2))
  subst hxy
  rw [ZKJ ha.2 hb.2 fun z=>?_]
  have h1:=h z
  rw [List.mem_cons,List.mem_cons] at h1
  constructor
  ·intro hz
   rcases h1.1 (.inr hz) with rfl|h2
   ·have:=ha.1 z hz;have:=ZBE z.1;omega
   ·exact h2
  ·intro hz
   rcases h1.2 (.inr hz) with rfl|h2
   ·have:=hb.1 z hz;have:=ZBE z.1;omega
   ·exact h2
theorem ZK9 {l:List Cl} (hs:ZGx l) (hn:l.Nodup) (hf:∀ x∈l,∀ y∈l,x.1=y.1->x=y):ZSN l:=by
 unfold ZGx at hs
 unfold ZSN
 rw [List.pairwise_iff_getElem] at hs ⊢
 intro i j hi hj hij
 have h1:=hs i j hi hj hij
 have h2:l[i]≠l[j]:=fun e=>by
  have:=(List.pairwise_iff_getElem.1 hn) i j hi hj hij
  exact this e
 rcases ZBy l[i].1 l[j].1 with h|h|h
 ·exact h
 ·exact absurd h h1
 ·exact absurd (hf _ (List.getElem_mem hi) _ (List.getElem_mem hj) h) h2
theorem ZDm {f:List Vx->List Cl}:∀ {l:Cx},l.Nodup->(∀ s∈l,(f s).Nodup)->(∀ s∈l,∀ x∈f s,x.2=s)->(l.flatMap f).Nodup
 | [],_,_,_=>List.Pairwise.nil
 | s::l,hn,h1,h2=>by
  rw [List.nodup_cons] at hn
  rw [List.flatMap_cons,List.nodup_append]
  refine ⟨h1 s (List.mem_cons_self ..),ZDm hn.2 (fun t ht=>h1 t (List.mem_cons_of_mem _ ht)) (fun t ht=>h2 t (List.mem_cons_of_mem _ ht)),fun a ha b hb e=>?_⟩
  subst e
  obtain ⟨t,ht,hm⟩:=List.mem_flatMap.1 hb
  have e1:=h2 s (List.mem_cons_self ..) a ha
  have e2:=h2 t (List.mem_cons_of_mem _ ht) a hm
  rw [e1] at e2
  subst e2
  exact hn.1 ht
theorem ZJu {l:Cx} (G:GoodX l):(Zq l).Nodup:=by
 unfold Zq prK
 rw [(ZEa _ _).nodup_iff,List.append_nil]
 refine ZDm G.2.1.nodup (fun s hs=>?_) fun s _ x hx=>?_
 ·unfold ZS6
  split
  ·exact List.Pairwise.nil
  ·unfold rowK
   refine List.pairwise_map.2 (List.Pairwise.imp (fun {a b} hab e=>hab (by injection e)) ((ZGi (G.asc s hs) _).filter _))
 ·unfold ZS6 at hx
  split at hx
  ·cases hx
  ·exact (ZHj.1 hx).1
theorem ZNx {l:Cx} (G:GoodX l):ZSN (Zq l):=by
 refine ZK9 (ZGR _ List.Pairwise.nil) (ZJu G) fun x hx y hy e=>?_
 have h1:=ZBU G hx
 have h2:=ZBU G hy
 have a1:=(Zk.1 h1.chk1).2.2.2
 refine Prod.ext e ?_
 exact h2.one _ h1.mem (by rw [<- e];exact (ZAS a1 (G.asc _ h1.mem)).1 h1.sub)
def ZEw (l:Cx) (s:List Vx):List Cl:=if s.length=1 then [] else ((List.range s.length).filter fun i=>decide ((lookM (ZF4 l) (ZAv s i)).getD 0=1)).map fun i=>(ZAv s i,s)
def ZCl (l:Cx):List Cl:=l.flatMap (ZEw l)
theorem ZQT {s:List Vx} {i j:Nat} (hj:j<s.length) (hij:i<j):(ZAv s j)[i]?=s[i]?:=by
 unfold ZAv
 rw [List.getElem?_append_left (by rw [List.length_take];omega),List.getElem?_take,if_pos hij]
theorem ZOC {s:List Vx} {i:Nat} (hi:i<s.length):(ZAv s i)[i]?=s[i+1]?:=by
 unfold ZAv
 rw [List.getElem?_append_right (by rw [List.length_take];omega),List.length_take,List.getElem?_drop]
 congr 1;omega
theorem ZK4 {s:List Vx} (hn:s.Nodup) {i j:Nat} (hj:j<s.length) (hij:i<j):ZAv s i≠ZAv s j:=fun e=>by
 have h1:=ZQT hj hij
 rw [<- e,ZOC (by omega),List.getElem?_eq_getElem (by omega),List.getElem?_eq_getElem (by omega)] at h1
 have:=(List.pairwise_iff_getElem.1 hn) i (i+1) (by omega) (by omega) (by omega)
 exact this (Option.some.inj h1).symm
theorem ZJg {l:Cx} (G:GoodX l):(ZCl l).Nodup:=by
 unfold ZCl
 refine ZDm G.2.1.nodup (fun s hs=>?_) fun s _ x hx=>?_
 ·unfold ZEw
  split
  ·exact List.Pairwise.nil
  ·refine List.pairwise_map.2 ?_
   refine List.Pairwise.imp_of_mem (fun {a b} ha hb hab e=>?_) (List.pairwise_lt_range.filter _)
   have hb':=List.mem_range.1 (List.mem_filter.1 hb).1
   exact ZK4 (ZGL (G.asc s hs)) hb' hab (by injection e)
 ·unfold ZEw at hx
  split at hx
  ·cases hx
  ·obtain ⟨i,_,rfl⟩:=List.mem_map.1 hx;rfl
theorem ZFL {s t:List Vx} (hs:0<s.length):t∈ZX (s.length-1) s↔∃ i,i<s.length/\t=ZAv s i:=by
 rw [Z9]
 constructor
 ·rintro ⟨h1,h2⟩
  induction h1 with
  | slnil=>simp at hs
  | @cons t s a h ih =>
   rw [List.length_cons] at h2
   have:t=s:=h.eq_of_length (by omega)
   subst this
   exact ⟨0,by simp,by simp [ZAv]⟩
  | @cons_cons t s a h ih =>
   rw [List.length_cons,List.length_cons] at h2
   obtain ⟨i,hi,he⟩:=ih (by omega) (by omega)
   exact ⟨i+1,by rw [List.length_cons];omega,by rw [he];simp [ZAv]⟩
 ·rintro ⟨i,hi,rfl⟩
  exact ⟨ZDY s i,ZDX hi⟩
theorem ZKg {l:Cx} (G:GoodX l) {x:Cl}:x∈ZCl l↔x∈Zq l:=by
 rw [ZIw]
 unfold ZCl
 rw [List.mem_flatMap]
 have key:∀ s∈l,s.length≠1->∀ i,i<s.length->((lookM (ZF4 l) (ZAv s i)).getD 0=1↔ZQu l (ZAv s i)=1):=fun s hs h1 i hi=>by
  have hp:=Zf (G.2.2.1 s hs)
  have hlen:=ZDX hi
  have hmem:ZAv s i∈ZBu l:=List.mem_flatMap.2 ⟨s,hs,by unfold ZCw;rw [if_pos (by omega)];exact List.mem_map.2 ⟨i,List.mem_range.2 hi,rfl⟩⟩
  have ha:Asc (ZAv s i):=(G.asc s hs).sublist (ZDY s i)
  have hnl:ZAv s i∉l:=fun hm=>by
   have:=ZBS G hm hs ((ZAS ha (G.asc s hs)).1 (ZDY s i))
   have:=congrArg List.length this
   omega
  rw [ZIb,if_pos hmem,ZND G ha (by omega) hnl]
  simp
  omega
 constructor
 ·rintro ⟨s,hs,hx⟩
  unfold ZEw at hx
  split at hx
  ·cases hx
  ·next h1 =>
   obtain ⟨i,hi,rfl⟩:=List.mem_map.1 hx
   obtain ⟨hi,hc⟩:=List.mem_filter.1 hi
   have hi:=List.mem_range.1 hi
   have hp:=Zf (G.2.2.1 s hs)
   exact ⟨hs,h1,(ZFL hp.1).2 ⟨i,hi,rfl⟩,(key s hs h1 i hi).1 (of_decide_eq_true hc)⟩
 ·rintro ⟨h1,h2,h3,h4⟩
  have hp:=Zf (G.2.2.1 _ h1)
  obtain ⟨i,hi,he⟩:=(ZFL hp.1).1 h3
  refine ⟨x.2,h1,?_⟩
  unfold ZEw
  rw [if_neg h2]
  refine List.mem_map.2 ⟨i,List.mem_filter.2 ⟨List.mem_range.2 hi,decide_eq_true ((key _ h1 h2 i hi).2 (by rw [<- he];exact h4))⟩,?_⟩
  rw [<- he]
theorem ZJh {l:Cx} (G:GoodX l) {ys:List Cl} (hp:ys.Perm (ZCl l)) (hs:ZGx ys):ys=Zq l:=by
 have hm:∀ x,x∈ys↔x∈Zq l:=fun x=>(hp.mem_iff).trans (ZKg G)
 have ha:=ZNx G
 refine ZKJ (ZK9 hs (hp.nodup_iff.2 (ZJg G)) fun x hx y hy e=>?_) ha hm
 have h1:=ZBU G ((hm x).1 hx)
 have h2:=ZBU G ((hm y).1 hy)
 have a1:=(Zk.1 h1.chk1).2.2.2
 refine Prod.ext e ?_
 exact h2.one _ h1.mem (by rw [<- e];exact (ZAS a1 (G.asc _ h1.mem)).1 h1.sub)
end
section
def ZB8 (l:Cx) (x:Cl):Cx:=l.filter fun f=>decide (f≠x.2)
def ZRQ (l:Cx) (x:Cl):Cx:=ZB8 l x++((List.range x.2.length).map (ZAv x.2)).filter fun y=>!(ZB8 l x).any (fun s=>Zb y s) && decide (y≠x.1)
theorem ZOP {l:Cx} (hs:ZLL l) (hn:l.Nodup):AscL l:=by
 unfold ZLL at hs
 unfold AscL
 rw [List.pairwise_iff_getElem] at hs ⊢
 intro i j hi hj hij
 have h1:=hs i j hi hj hij
 have h2:l[i]≠l[j]:=fun e=>(List.pairwise_iff_getElem.1 hn) i j hi hj hij e
 rcases ZBy l[i] l[j] with h|h|h
 ·exact h
 ·exact absurd h h1
 ·exact absurd h h2
theorem ZLo {s:List Vx} (hs:Asc s):((List.range s.length).map (ZAv s)).Nodup:=by
 refine List.pairwise_map.2 ?_
 refine List.Pairwise.imp_of_mem (fun {a b} _ hb hab e=>?_) List.pairwise_lt_range
 exact ZK4 (ZGL hs) (List.mem_range.1 hb) hab e
theorem ZIN {l:Cx} (G:GoodX l) {x:Cl} (hx:PairOk l x):(ZRQ l x).Nodup:=by
 have a2:=G.asc _ hx.mem
 unfold ZRQ
 rw [List.nodup_append]
 refine ⟨G.2.1.nodup.filter _,(ZLo a2).filter _,fun a ha b hb e=>?_⟩
 subst e
 obtain ⟨h1,h2⟩:=List.mem_filter.1 ha
 obtain ⟨i,hi,rfl⟩:=List.mem_map.1 (List.mem_filter.1 hb).1
 exact of_decide_eq_true h2 (ZBS G h1 hx.mem ((ZAS (G.asc _ h1) a2).1 (ZDY _ _)))
theorem ZMi {l:Cx} (G:GoodX l) {x:Cl} (hx:PairOk l x) {t:List Vx}:t∈ZRQ l x↔t∈ZAC l x:=by
 have a2:=G.asc _ hx.mem
 have p2:=Zf hx.chk2
 have ln:=hx.len
 have p1:=Zf hx.chk1
 unfold ZAC
 rw [ZCH]
 unfold ZRQ
 have hsub:∀ u∈ZX (x.2.length-1) x.2,Asc u/\Zb u x.2=true/\u.length+1=x.2.length:=fun u hu=>by
  obtain ⟨q1,q2,q3⟩:=ZAp hx.chk2 (by omega) hu
  have q4:=(Zk.1 q1).2.2.2
  exact ⟨q4,(ZAS q4 a2).1 q2,by omega⟩
 constructor
 ·intro h
  rcases List.mem_append.1 h with h|h
  ·obtain ⟨h1,h2⟩:=List.mem_filter.1 h
   have h2:=of_decide_eq_true h2
   refine ⟨List.mem_append.2 (.inl h),?_⟩
   have hc:¬ ZAM ((l.filter fun f=>decide (f≠x.2))++(ZX (x.2.length-1) x.2).filter fun t=>decide (t≠x.1)) t=true:=fun hc=>by
    obtain ⟨f,hf,hlt,hi⟩:=ZAG.1 hc
    rcases List.mem_append.1 hf with hf|hf
    ·have:=ZBS G h1 (List.mem_filter.1 hf).1 hi
     rw [this] at hlt;omega
    ·exact h2 (ZBS G h1 hx.mem (ZCF hi (hsub f (List.mem_filter.1 hf).1).2.1))
   have:=Zf (G.2.2.1 _ h1)
   unfold ZQj
   rw [decide_eq_true (by omega),Bool.eq_false_iff.2 hc]
   rfl
  ·obtain ⟨h1,h2⟩:=List.mem_filter.1 h
   rw [Bool.and_eq_true,Bool.not_eq_true',decide_eq_true_eq] at h2
   obtain ⟨i,hi,rfl⟩:=List.mem_map.1 h1
   have hi:=List.mem_range.1 hi
   have hm:=(ZFL p2.1).2 ⟨i,hi,rfl⟩
   refine ⟨List.mem_append.2 (.inr (List.mem_filter.2 ⟨hm,decide_eq_true h2.2⟩)),?_⟩
   have hc:¬ ZAM ((l.filter fun f=>decide (f≠x.2))++(ZX (x.2.length-1) x.2).filter fun t=>decide (t≠x.1)) (ZAv x.2 i)=true:=fun hc=>by
    obtain ⟨f,hf,hlt,hin⟩:=ZAG.1 hc
    rcases List.mem_append.1 hf with hf|hf
    ·have h3:=h2.1
     rw [List.any_eq_false] at h3
     exact h3 f hf hin
    ·have h4:=(hsub f (List.mem_filter.1 hf).1).2.2
     have h5:=ZDX hi
     omega
   have:=ZDX hi
   unfold ZQj
   rw [decide_eq_true (by omega),Bool.eq_false_iff.2 hc]
   rfl
 ·rintro ⟨h1,h2⟩
  rcases List.mem_append.1 h1 with h1|h1
  ·exact List.mem_append.2 (.inl h1)
  ·obtain ⟨h3,h4⟩:=List.mem_filter.1 h1
   have h4:=of_decide_eq_true h4
   obtain ⟨q1,q2,q3⟩:=hsub t h3
   obtain ⟨i,hi,rfl⟩:=(ZFL p2.1).1 h3
   refine List.mem_append.2 (.inr (List.mem_filter.2 ⟨List.mem_map.2 ⟨i,List.mem_range.2 hi,rfl⟩,?_⟩))
   rw [Bool.and_eq_true,Bool.not_eq_true',decide_eq_true_eq]
   refine ⟨?_,h4⟩
   rw [List.any_eq_false]
   intro f hf hin
   obtain ⟨f1,f2⟩:=List.mem_filter.1 hf
   have hne:ZAv x.2 i≠f:=fun e=>by
    rw [e] at q2
    exact of_decide_eq_true f2 (ZBS G f1 hx.mem q2)
   have hlt:=ZBe q1 (G.asc f f1) hin hne
   have hc:ZAM ((l.filter fun f=>decide (f≠x.2))++(ZX (x.2.length-1) x.2).filter fun t=>decide (t≠x.1)) (ZAv x.2 i)=true:=ZAG.2 ⟨f,List.mem_append.2 (.inl hf),hlt,hin⟩
   unfold ZQj at h2
   rw [hc] at h2
   simp at h2
theorem ZLR {l:Cx} (G:GoodX l) {x:Cl} (hx:PairOk l x) {zs:Cx} (hp:zs.Perm (ZRQ l x)) (hs:ZLL zs):zs=ZAC l x :=
 ZD1 (ZOP hs (hp.nodup_iff.2 (ZIN G hx))) (ZFG _) fun _=>(hp.mem_iff).trans (ZMi G hx)
end
end Go.Proofs.YtokmalofdapffaaGreat
