/- Part 34: walks by contracts, and plain laws. -/
import Derived.Test.YtlgmojhmmbhgfaaGreatDoorVg33
set_option linter.unusedVariables false
set_option linter.unusedSimpArgs false
set_option linter.unusedSectionVars false
set_option maxRecDepth 100000
set_option maxHeartbeats 4000000
namespace Go.Proofs.YtlgmojhmmbhgfaaGreatDoor
section
open Go.RowKit

theorem ZQc:∀ s:Fin 32,ZDt s.val 1=ZKQ s.val:=by decide +kernel
theorem ZN0:∀ s b:Fin 32,b.val &&& s.val≠b.val->ZDt s.val b.val=ZDt s.val (b.val+1):=by decide +kernel
theorem ZN1:∀ s b:Fin 32,b.val &&& s.val=b.val->0<b.val->ZDt s.val b.val=b.val::ZDt s.val (b.val+1):=by decide +kernel
theorem ZQb:∀ s:Fin 32,ZDt s.val (s.val+1)=[]:=by decide +kernel
theorem ZQ1:∀ s:Fin 32,∀ b:Fin 32,b.val∈ZKQ s.val->ZED 5 (s.val-b.val)=ZED 6 (s.val-b.val):=by decide +kernel
def ZMc (s b:Nat):List (List Nat):=(ZDt s b).flatMap fun c=>(ZBR (s-c)).map (c :: ·)
theorem ZQ0 {s:Nat} (h0:s≠0) (hs:s<32):ZMc s 1=ZBR s:=by
 unfold ZMc ZBR
 rw [ZQc ⟨s,hs⟩,ZDN h0]
 have e:∀ b∈ZKQ s,(ZED 6 (s-b)).map (b :: ·)=(ZED 5 (s-b)).map (b :: ·):=fun b hb=>by
  have:=(ZKR.1 hb).2.1
  rw [ZQ1 ⟨s,hs⟩ ⟨b,by omega⟩ hb]
 generalize ZKQ s=l at *
 induction l with
 | nil=>rfl
 | cons b l ih =>
  rw [List.flatMap_cons,List.flatMap_cons,e b (by simp),ih fun c hc=>e c (by simp [hc])]
theorem ZOe {s b:Nat} (hs:s<32) (hb:b<32) (h:b &&& s≠b):ZMc s b=ZMc s (b+1):=by
 unfold ZMc;rw [ZN0 ⟨s,hs⟩ ⟨b,hb⟩ h]
theorem ZOf {s b:Nat} (hs:s<32) (hb:b<32) (h:b &&& s=b) (h0:0<b):ZMc s b=(ZBR (s-b)).map (b :: ·)++ZMc s (b+1):=by
 unfold ZMc;rw [ZN1 ⟨s,hs⟩ ⟨b,hb⟩ h h0,List.flatMap_cons]
theorem ZQz {s:Nat} (hs:s<32):ZMc s (s+1)=[]:=by
 unfold ZMc;rw [ZQb ⟨s,hs⟩];rfl
theorem ZKL:∀ s:Fin 32,(ZBR s.val).length≤541:=by decide +kernel
theorem ZS1 (s:Nat) {bl:List Nat} (h:bl∈ZBR s):bl.length≤6:=ZLe s bl h
set_option maxHeartbeats 8000000 in
theorem ZGQ:∀ (n s:Nat),s≤n->s<32->Fn Tryz.prog 70 [dI (s:Int)] (dS Rows ((ZBR s).map Zv))
 | n,0,_,_=>by
  (refine ZG Tryz.func70 rfl rfl ?_;simp only [Tryz.ntmps70,List.length_cons,List.length_nil,Nat.reduceAdd,Nat.reduceSub,List.replicate_succ,List.replicate_zero,List.cons_append,List.nil_append])
  ((repeat' (first|(apply WL.opN;exact yF;dsimp only [ZB,z0,z1])|refine WL.nil ?_|refine ZA fun Kx hK=>?_|(refine hK _ _ ?_;clear hK)|refine WC.region ?_|(apply WL.opN;(focus ((first|(refine SY.build1' (R:=ZBt) (_gR:=inferInstance) (els:=[[]]) ZJn (ElsD.cons ⟨ZI⟩ ElsD.nil) rfl rfl (fun _=>ZAa) (by simp))|((first|apply SY.move|apply SY.assign|apply SY.lss|apply SY.leq|apply SY.eql|apply SY.neq|apply SY.andNot) <;> (exact oD))|fail);all_goals infer_instance));dsimp only [ZB,z0,z1])|(apply ZC;(exact oD);all_goals (intro h;try exact xD))|refine WC.ret ?_|refine ThenD.r ?_));all_goals (first|((repeat clear hK);(repeat clear Kx))))
  all_goals try (exfalso;first|contradiction|omega)
  (refine ⟨trivial,_,rfl,?_⟩;exact fD)
 | 0,s+1,h,_=>absurd h (by omega)
 | n+1,s+1,hn,hs=>by
  have ih:=ZGQ n
  have h0:=ZQ0 (s:=s+1) (by omega) hs
  have hc0:=ZKL ⟨s+1,hs⟩
  generalize hS:s+1=S at *
  (refine ZG Tryz.func70 rfl rfl ?_;simp only [Tryz.ntmps70,List.length_cons,List.length_nil,Nat.reduceAdd,Nat.reduceSub,List.replicate_succ,List.replicate_zero,List.cons_append,List.nil_append])
  (repeat' (first|(apply WL.opN;exact yF;dsimp only [ZB,z0,z1])|refine WL.nil ?_|refine ZA fun Kx hK=>?_|(refine hK _ _ ?_;clear hK)|refine WC.region ?_|(apply WL.opN;(focus ((first|((first|apply SY.move|apply SY.assign|apply SY.lss|apply SY.leq|apply SY.eql|apply SY.neq|apply SY.andNot) <;> (exact oD))|fail);all_goals infer_instance));dsimp only [ZB,z0,z1])|(apply ZC;(exact oD);all_goals (intro h;try exact xD))|refine WC.skip ?_|refine WC.block ?_))
  all_goals try (exfalso;first|contradiction|omega)
  refine ZAy 50 ZBt ?_
  (refine WC.loopU (X:=Nat × Value × List (List Nat)) (fun x=>[(3,dX x.2.1),(4,dI (x.1:Int)),(5,dA),(6,dA),(10,dA),(11,dA),(12,dA),(13,dA),(14,dA),(15,dA),(16,dA),(17,dA),(18,dA),(19,dA),(20,dA),(21,dA),(22,dA),(23,dA),(24,dA),(25,dA),(26,dA),(27,dA),(28,dA),(29,dA),(30,dA),(31,dA),(32,dA),(33,dA),(34,dA),(35,dA),(36,dA),(37,dA),(38,dA)]) (fun x=>[ZW x.2.1 50 ZBt (x.2.2.map Zv)]) (fun x=>S+1-x.1) (fun x=>1≤x.1/\x.1≤S+1/\x.2.2++ZMc S x.1=ZBR S) (1,.slice none 0 0,[]) ?start ?frame0 ?objs0 ?round)
  case start=>exact ⟨Nat.le_refl _,by simp only;omega,by simp only [List.nil_append];exact h0⟩
  case frame0=>((try dsimp only [ZK,z0,z1]);repeat (first|exact LeF.nil|refine ZD (k:=?_)))
  case objs0=>rfl
  case round =>
   rintro ⟨b,u,o⟩ ⟨h1,h2,h3⟩
   dsimp only [ZK,z0,z1]
   simp only at h1 h2 h3
   by_cases hb:b≤S
   ·by_cases hin:b &&& S=b
    ·have hz:=(ZFz ⟨S,hs⟩ ⟨b,by omega⟩).2 hin
     have hsub:=(ZGu ⟨S,hs⟩ ⟨b,by omega⟩ hin).1
     simp only at hz hsub
     have c1:=ih (S-b) (by omega) (by omega)
     rw [ZOf hs (by omega) hin (by omega)] at h3
     have hrl:=ZKL ⟨S-b,by omega⟩
     have hbl:=fun bl h=>ZS1 (S-b) (bl:=bl) h
     simp only at hrl
     generalize ZBR (S-b)=rest at *
     (repeat' (first|(apply WL.opN;exact yF;dsimp only [ZB,z0,z1])|refine WL.nil ?_|refine ZA fun Kx hK=>?_|(refine hK _ _ ?_;clear hK)|refine WC.region ?_|(apply WL.opN;(focus ((first|(exact ZEv hz (OpD.t rfl) (OpD.t rfl))|(exact ZEv hsub (OpD.t rfl) (OpD.t rfl))|(apply SY.call (c1) Tryz.call70;(exact aD))|((first|apply SY.move|apply SY.assign|apply SY.lss|apply SY.leq|apply SY.eql|apply SY.neq|apply SY.andNot) <;> (exact oD))|fail);all_goals infer_instance));dsimp only [ZB,z0,z1])|(apply ZC;(exact oD);all_goals (intro h;try exact xD))|(apply ZL;(exact oD);all_goals (intro h;try exact xD))|refine WC.skip ?_|refine WC.block ?_))
     all_goals try (exfalso;first|contradiction|omega)
     (refine WC.loopU (X:=Nat × Value × List (List Nat)) (fun x=>[(3,dX x.2.1),(6,dI (x.1:Int)),(23,dA),(24,dA),(25,dA),(26,dA),(27,dA),(28,dA),(29,dA),(30,dA),(31,dA),(32,dA),(33,dA),(34,dA),(35,dA),(36,dA),(37,dA),(38,dA)]) (fun x=>[ZW x.2.1 50 ZBt (x.2.2.map Zv)]) (fun x=>rest.length-x.1) (fun x=>x.1≤rest.length/\x.2.2++((rest.drop x.1).map (b :: ·)++ZMc S (b+1))=ZBR S) (0,u,o) ?start ?frame0 ?objs0 ?round)
     case start=>exact ⟨Nat.zero_le _,by simpa using h3⟩
     case frame0=>((try dsimp only [ZK,z0,z1]);repeat (first|exact LeF.nil|refine ZD (k:=?_)))
     case objs0=>rfl
     case round =>
      rintro ⟨j,u',o'⟩ ⟨h4,h5⟩
      dsimp only [ZK,z0,z1]
      simp only at h4 h5
      have ho:o'.length≤541:=by rw [<- h5] at hc0;simp at hc0;omega
      by_cases hjm:j<(rest.map Zv).length
      ·have hj:j<rest.length:=by rw [List.length_map] at hjm;exact hjm
       have hjv:(rest.map Zv)[j]=Zv rest[j]:=by simp
       have hjb:=hbl _ (List.getElem_mem hj)
       have hjb2:(Zv rest[j]).length≤6:=by rw [ZBA];exact hjb
       have hol:(o'.map Zv).length≤541:=by rw [List.length_map];exact ho
       ((repeat' (first|(apply WL.opN;exact yF;dsimp only [ZB,z0,z1])|refine WL.nil ?_|refine ZA fun Kx hK=>?_|(refine hK _ _ ?_;clear hK)|refine WC.region ?_ |  (apply WL.app1 ZJn;exact OpD.t rfl;exact OpD.t rfl;decide;(simp only [List.length_singleton];omega);intro v';dsimp only [ZB,z0,z1])|(apply WL.opN;(focus ((first|(exact SY.build1' (R:=ZBt) (_gR:=inferInstance) (els:=[[(b:Int)]++Zv rest[j]]) ZJn (Zh (OpD.t rfl) Zq) rfl rfl (fun _=>ZAa) (Nat.le_of_ble_eq_true rfl))|(apply SY.len;exact OpD.t rfl;exact ZDL;exact ZJn.unt)|(refine ZBu (R:=ZBt) (_gR:=inferInstance) ZJn hjm hjv (OpD.t rfl) (OpD.t rfl))|(apply SY.load;exact tyIn;exact OpD.t rfl)|(exact SY.full1 (R:=RI) (_gR:=inferInstance) (els:=[(b:Int)]) elI (Zh (OpD.t rfl) Zq) rfl rfl (fun _=>ZA4) (by simp))|(refine ZFo (R:=RI) (_gR:=inferInstance) (xs:=[(b:Int)]) (ys:=Zv rest[j]) elI (OpD.t rfl) (OpD.t rfl) (by decide) (by simp only [List.length_cons,List.length_nil];omega))|((first|apply SY.move|apply SY.assign|apply SY.lss|apply SY.leq|apply SY.eql|apply SY.neq|apply SY.andNot) <;> (exact oD))|((first|apply SY.add) <;> first|exact oD|omega)|fail);all_goals infer_instance));dsimp only [ZB,z0,z1])|(apply ZC;(exact oD);all_goals (intro h;try exact xD))|refine WC.skip ?_|refine WC.block ?_|refine ThenD.n ?_));all_goals (first|((repeat clear hK);(repeat clear Kx))))
       all_goals try (exfalso;first|contradiction|omega)
       (refine ⟨(j+1,_,o'++[b::rest[j]]) , ?_,by first|omega|(simp only;omega),by ((try simp only);  (rw [List.map_append];rfl)),?_⟩;rotate_left;((try dsimp only [ZK,z0,z1]);repeat (first|exact LeF.nil|refine ZD (k:=?_)));(try dsimp only))
       refine ⟨by omega,?_⟩
       rw [<- h5,Zd hj];simp only [List.map_cons,List.append_assoc,List.cons_append,List.nil_append]
      ·((repeat' (first|(apply WL.opN;exact yF;dsimp only [ZB,z0,z1])|refine WL.nil ?_|refine ZA fun Kx hK=>?_|(refine hK _ _ ?_;clear hK)|(refine Kont.skip ?_;clear hK)|refine WC.region ?_|(apply WL.opN;(focus ((first|(apply SY.len;exact OpD.t rfl;exact ZDL;exact ZJn.unt)|((first|apply SY.move|apply SY.assign|apply SY.lss|apply SY.leq|apply SY.eql|apply SY.neq|apply SY.andNot) <;> (exact oD))|((first|apply SY.add) <;> first|exact oD|omega)|fail);all_goals infer_instance));dsimp only [ZB,z0,z1])|(apply ZC;(exact oD);all_goals (intro h;try exact xD))|refine WC.exit ?_|refine ThenD.n ?_));all_goals (first|((repeat clear hK);(repeat clear Kx))))
       all_goals try (exfalso;first|contradiction|omega)
       have hj:¬ j<rest.length:=by rw [List.length_map] at hjm;exact hjm
       rw [List.drop_of_length_le (by omega)] at h5
       (refine ⟨(b+1,_,_),?_,by first|omega|(simp only;omega),rfl,?_⟩;rotate_left;((try dsimp only [ZK,z0,z1]);repeat (first|exact LeF.nil|refine ZD (k:=?_)));(try dsimp only))
       exact ⟨by omega,by omega,by simpa using h5⟩
    ·have hz:¬ ZCS (b:Int) (S:Int)=0:=fun q=>hin ((ZFz ⟨S,hs⟩ ⟨b,by omega⟩).1 q)
     rw [ZOe hs (by omega) hin] at h3
     ((repeat' (first|(apply WL.opN;exact yF;dsimp only [ZB,z0,z1])|refine WL.nil ?_|refine ZA fun Kx hK=>?_|(refine hK _ _ ?_;clear hK)|(refine Kont.skip ?_;clear hK)|refine WC.region ?_|(apply WL.opN;(focus ((first|(exact SY.andNot (OpD.t rfl) (OpD.t rfl))|((first|apply SY.move|apply SY.assign|apply SY.lss|apply SY.leq|apply SY.eql|apply SY.neq|apply SY.andNot) <;> (exact oD))|((first|apply SY.add) <;> first|exact oD|omega)|fail);all_goals infer_instance));dsimp only [ZB,z0,z1])|(apply ZC;(exact oD);all_goals (intro h;try exact xD))|(apply ZL;(exact oD);all_goals (intro h;try exact xD))|refine WC.skip ?_|refine WC.exit ?_|refine WC.block ?_|refine ThenD.n ?_));all_goals (first|((repeat clear hK);(repeat clear Kx))))
     all_goals try (exfalso;first|contradiction|omega)
     (refine ⟨(b+1,_,_),?_,by first|omega|(simp only;omega),rfl,?_⟩;rotate_left;((try dsimp only [ZK,z0,z1]);repeat (first|exact LeF.nil|refine ZD (k:=?_)));(try dsimp only))
     exact ⟨by omega,by omega,h3⟩
   ·have hbS:b=S+1:=by omega
    subst hbS
    rw [ZQz hs,List.append_nil] at h3
    ((repeat' (first|(apply WL.opN;exact yF;dsimp only [ZB,z0,z1])|refine WL.nil ?_|refine ZA fun Kx hK=>?_|(refine hK _ _ ?_;clear hK)|(refine Kont.skip ?_;clear hK)|refine WC.region ?_|(apply WL.opN;(focus ((first|((first|apply SY.move|apply SY.assign|apply SY.lss|apply SY.leq|apply SY.eql|apply SY.neq|apply SY.andNot) <;> (exact oD))|fail);all_goals infer_instance));dsimp only [ZB,z0,z1])|(apply ZC;(exact oD);all_goals (intro h;try exact xD))|refine WC.ret ?_|refine WC.exit ?_));all_goals (first|((repeat clear hK);(repeat clear Kx))))
    all_goals try (exfalso;first|contradiction|omega)
    rw [h3]
    (refine ⟨trivial,_,rfl,?_⟩;exact fD)
end
section
open Go.RowKit

theorem ZMV {bl:List Nat} {i k m:Nat} (h:k<bl.length):ZBX (bl.drop k) i m=if ZGf bl[k] i=true then m ||| bl[k] else ZBX (bl.drop (k+1)) i (m ||| bl[k]):=by
 rw [Zd h]
 show (if (bl[k] >>> i) &&& 1=1 then _ else _)=_
 by_cases q:(bl[k] >>> i) &&& 1=1
 ·rw [if_pos q,if_pos (show ZGf bl[k] i=true from decide_eq_true q)]
 ·rw [if_neg q,if_neg (show ¬ ZGf bl[k] i=true from fun c=>q (of_decide_eq_true c))]
set_option maxHeartbeats 4000000 in
theorem ZJX (bl:List Nat) (i:Nat) (hb:∀ b∈bl,b<1048576) (hi:i≤60):Fn Tryz.prog 102 [dS ZBt (Zv bl),dI (i:Int)] (dI ((ZBX bl i 0:Nat):Int)):=by
 (refine ZG Tryz.func102 rfl rfl ?_;simp only [Tryz.ntmps102,List.length_cons,List.length_nil,Nat.reduceAdd,Nat.reduceSub,List.replicate_succ,List.replicate_zero,List.cons_append,List.nil_append])
 (first|refine ZS (t:=0) rfl ZFJ fun hl0=>?_|refine ZS (t:=0) rfl ZFI fun hl0=>?_|refine ZS (t:=0) rfl ZPV fun hl0=>?_);simp only [maxLen] at hl0
 rw [ZBA] at hl0
 (repeat' (first|(apply WL.opN;exact yF;dsimp only [ZB,z0,z1])|refine WL.nil ?_|refine ZA fun Kx hK=>?_|(refine hK _ _ ?_;clear hK)|refine WC.region ?_|refine WC.block ?_))
 (refine WC.loopU (X:=Nat × Nat) (fun x=>[(5,dI (x.2:Int)),(6,dI (x.1:Int)),(4,dA),(7,dA),(8,dA),(9,dA),(10,dA),(11,dA),(12,dA),(13,dA),(14,dA),(15,dA),(16,dA),(17,dA),(18,dA),(19,dA),(20,dA),(21,dA),(22,dA),(23,dA),(24,dA),(25,dA),(26,dA),(27,dA)]) (fun x=>[]) (fun x=>bl.length-x.1) (fun x=>x.1≤bl.length/\x.2<1048576/\ZBX (bl.drop x.1) i x.2=ZBX bl i 0) (0,0) ?start ?frame0 ?objs0 ?round)
 case start=>exact ⟨Nat.zero_le _,by decide,rfl⟩
 case frame0=>((try dsimp only [ZK,z0,z1]);repeat (first|exact LeF.nil|refine ZD (k:=?_)))
 case objs0=>rfl
 case round =>
  rintro ⟨k,m⟩ ⟨h1,h2,h3⟩
  simp only at h1 h2 h3
  dsimp only [ZK,z0,z1]
  by_cases hkm:k<(Zv bl).length
  ·have hk:k<bl.length:=by rw [ZBA] at hkm;exact hkm
   have hbk:bl[k]<1048576:=hb _ (List.getElem_mem hk)
   have hor:m ||| bl[k]<1048576:=Nat.or_lt_two_pow (n:=20) h2 hbk
   rw [ZMV hk] at h3
   cases hbit:ZGf bl[k] i with
   | true =>
    rw [if_pos hbit] at h3
    have hcond:=ZBl.2 hbit
    rw [<- h3]
    ((repeat' (first|(apply WL.opN;exact yF;dsimp only [ZB,z0,z1])|refine WL.nil ?_|refine ZA fun Kx hK=>?_|(refine hK _ _ ?_;clear hK)|refine WC.region ?_|(apply WL.opN;(focus ((first|(refine ZKh (a:=m) (b:=bl[k]) (by omega) (by omega) (OpD.t rfl) (OpD.t rfl))|(refine ZKf elI (OpD.t rfl) (OpD.t rfl) hk)|(refine ZCP (a:=bl[k]) (b:=i) (by omega) (OpD.t rfl) (OpD.t rfl))|(refine ZCO (m:=bl[k]) (i:=i) (by omega) (OpD.t rfl))|((first|apply SY.move|apply SY.assign|apply SY.lss|apply SY.eql|apply SY.and|apply SY.or) <;> (exact oD))|(apply SY.len;(exact oD);(exact nD);(exact uD))|fail);all_goals infer_instance));dsimp only [ZB,z0,z1])|(apply ZC;(exact oD);all_goals (intro h;try exact xD))|refine WC.skip ?_|refine WC.ret ?_|refine WC.block ?_|refine ThenD.r ?_|refine InBlockD.r ?_));all_goals (first|((repeat clear hK);(repeat clear Kx))))
    all_goals try (exfalso;first|contradiction|omega)
    all_goals (refine ⟨trivial,_,rfl,?_⟩;exact fD)
   | false =>
    rw [if_neg (by simp [hbit])] at h3
    have hcond:¬ ((((bl[k] >>> i) &&& 1:Nat):Int)=1):=fun q=>by rw [ZBl.1 q] at hbit;cases hbit
    ((repeat' (first|(apply WL.opN;exact yF;dsimp only [ZB,z0,z1])|refine WL.nil ?_|refine ZA fun Kx hK=>?_|(refine hK _ _ ?_;clear hK)|refine WC.region ?_|(apply WL.opN;(focus ((first|(refine ZKh (a:=m) (b:=bl[k]) (by omega) (by omega) (OpD.t rfl) (OpD.t rfl))|(refine ZKf elI (OpD.t rfl) (OpD.t rfl) hk)|(refine ZCP (a:=bl[k]) (b:=i) (by omega) (OpD.t rfl) (OpD.t rfl))|(refine ZCO (m:=bl[k]) (i:=i) (by omega) (OpD.t rfl))|((first|apply SY.move|apply SY.assign|apply SY.lss|apply SY.eql|apply SY.and|apply SY.or) <;> (exact oD))|((first|apply SY.add) <;> first|exact oD|omega)|(apply SY.len;(exact oD);(exact nD);(exact uD))|fail);all_goals infer_instance));dsimp only [ZB,z0,z1])|(apply ZC;(exact oD);all_goals (intro h;try exact xD))|refine WC.skip ?_|refine WC.block ?_|refine ThenD.n ?_));all_goals (first|((repeat clear hK);(repeat clear Kx))))
    all_goals try (exfalso;first|contradiction|omega)
    (refine ⟨(k+1,m ||| bl[k]),?_,by first|omega|(simp only;omega),rfl,?_⟩;rotate_left;((try dsimp only [ZK,z0,z1]);repeat (first|exact LeF.nil|refine ZD (k:=?_)));(try dsimp only))
    exact ⟨by omega,hor,h3⟩
  ·have hk:¬ k<bl.length:=by rw [ZBA] at hkm;exact hkm
   rw [List.drop_of_length_le (by omega)] at h3
   have h3':m=ZBX bl i 0:=h3
   ((repeat' (first|(apply WL.opN;exact yF;dsimp only [ZB,z0,z1])|refine WL.nil ?_|refine ZA fun Kx hK=>?_|(refine hK _ _ ?_;clear hK)|(refine Kont.skip ?_;clear hK)|refine WC.region ?_|(apply WL.opN;(focus ((first|((first|apply SY.move|apply SY.assign|apply SY.lss|apply SY.eql|apply SY.and|apply SY.or) <;> (exact oD))|(apply SY.len;(exact oD);(exact nD);(exact uD))|fail);all_goals infer_instance));dsimp only [ZB,z0,z1])|(apply ZC;(exact oD);all_goals (intro h;try exact xD))|refine WC.ret ?_|refine WC.exit ?_));all_goals (first|((repeat clear hK);(repeat clear Kx))))
   all_goals try (exfalso;first|contradiction|omega)
   all_goals (refine ⟨trivial,_,rfl,?_⟩;refine FinD.i ?_)
   all_goals rw [h3']
theorem ZGU {s:List Vx} {bl:List Nat} {i:Nat} (h:i<(ZAk s bl).length) (h':i<s.length):(ZAk s bl)[i]=(s[i].1,((ZBX bl i 0:Nat):Int)):=by simp [ZAk]
set_option maxHeartbeats 4000000 in
theorem ZTR (s:List Vx) (m:Nat) (hs:s.length≤60) (hm:m<1048576):Fn Tryz.prog 72 [dS ZE s,dI (m:Int)] (dS ZE (atB s m)):=by
 (refine ZG Tryz.func72 rfl rfl ?_;simp only [Tryz.ntmps72,List.length_cons,List.length_nil,Nat.reduceAdd,Nat.reduceSub,List.replicate_succ,List.replicate_zero,List.cons_append,List.nil_append])
 (repeat' (first|(apply WL.opN;exact yF;dsimp only [ZB,z0,z1])|refine WL.nil ?_|refine ZA fun Kx hK=>?_|(refine hK _ _ ?_;clear hK)|refine WC.region ?_|refine WC.block ?_))
 refine ZAl 43 2 (by decide) RV ?_
 (refine WC.loopU (X:=Nat × Value) (fun x=>[(5,dX x.2),(6,dI (x.1:Int)),(7,dA),(8,dA),(9,dA),(10,dA),(11,dA),(12,dA),(13,dA),(14,dA),(15,dA),(16,dA),(17,dA),(18,dA),(19,dA),(20,dA),(21,dA),(22,dA),(23,dA),(24,dA)]) (fun x=>[ZV x.2 43 2 RV (atB (s.take x.1) m)]) (fun x=>s.length-x.1) (fun x=>x.1≤s.length) (0,.slice none 0 0) ?start ?frame0 ?objs0 ?round)
 case start=>simp
 case frame0=>((try dsimp only [ZK,z0,z1]);repeat (first|exact LeF.nil|refine ZD (k:=?_)))
 case objs0=>rfl
 case round =>
  rintro ⟨k,u⟩ h1
  dsimp only [ZK,z0,z1]
  simp only at h1
  have h2:(atB (s.take k) m).length≤1000:=by
   have:=ZE0 (s.take k) m
   rw [List.length_take] at this
   omega
  by_cases hk:k<s.length
  ·cases hb:ZGf m k with
   | true =>
    have hcond:=ZBl.2 hb
    ((repeat' (first|(apply WL.opN;exact yF;dsimp only [ZB,z0,z1])|refine WL.nil ?_|refine ZA fun Kx hK=>?_|(refine hK _ _ ?_;clear hK)|refine WC.region ?_|((first|apply ZBJ|apply ZA6);(exact eD);exact OpD.t rfl;(exact oD);(intro _;exact hD);(exact (by simp));(exact (by simp));(first|exact ⟨by decide,by decide⟩|skip);decide;(exact lD);(intro _;dsimp only [ZB,z0,z1]);all_goals (try infer_instance))|(apply WL.opN;(focus ((first|(refine ZCP (a:=m) (b:=k) (by omega) (OpD.t rfl) (OpD.t rfl))|(refine ZCO (m:=m) (i:=k) (by omega) (OpD.t rfl))|((first|apply SY.move|apply SY.assign|apply SY.lss|apply SY.eql|apply SY.and) <;> (exact oD))|((first|apply SY.add) <;> first|exact oD|omega)|(apply SY.len;(exact oD);(exact nD);(exact uD))|(apply ZBC;(exact eD);(exact oD);(exact oD);exact kD)|fail);all_goals infer_instance));dsimp only [ZB,z0,z1])|(apply ZC;(exact oD);all_goals (intro h;try exact xD))|refine WC.skip ?_|refine WC.block ?_|refine ThenD.n ?_));all_goals (first|((repeat clear hK);(repeat clear Kx))))
    all_goals try (exfalso;first|contradiction|omega)
    (refine ⟨(k+1,_) , ?_,by first|omega|(simp only;omega),by ((try simp only);  (rw [ZDY hk,if_pos hb])),?_⟩;rotate_left;((try dsimp only [ZK,z0,z1]);repeat (first|exact LeF.nil|refine ZD (k:=?_)));(try dsimp only))
    omega
   | false =>
    have hcond:¬ ((((m >>> k) &&& 1:Nat):Int)=1):=fun q=>by rw [ZBl.1 q] at hb;cases hb
    ((repeat' (first|(apply WL.opN;exact yF;dsimp only [ZB,z0,z1])|refine WL.nil ?_|refine ZA fun Kx hK=>?_|(refine hK _ _ ?_;clear hK)|refine WC.region ?_|(apply WL.opN;(focus ((first|(refine ZCP (a:=m) (b:=k) (by omega) (OpD.t rfl) (OpD.t rfl))|(refine ZCO (m:=m) (i:=k) (by omega) (OpD.t rfl))|((first|apply SY.move|apply SY.assign|apply SY.lss|apply SY.eql|apply SY.and) <;> (exact oD))|((first|apply SY.add) <;> first|exact oD|omega)|(apply SY.len;(exact oD);(exact nD);(exact uD))|fail);all_goals infer_instance));dsimp only [ZB,z0,z1])|(apply ZC;(exact oD);all_goals (intro h;try exact xD))|refine WC.skip ?_|refine WC.block ?_|refine ThenD.n ?_));all_goals (first|((repeat clear hK);(repeat clear Kx))))
    all_goals try (exfalso;first|contradiction|omega)
    (refine ⟨(k+1,_) , ?_,by first|omega|(simp only;omega),by ((try simp only);  (rw [ZDY hk,if_neg (by simp [hb]),List.append_nil])),?_⟩;rotate_left;((try dsimp only [ZK,z0,z1]);repeat (first|exact LeF.nil|refine ZD (k:=?_)));(try dsimp only))
    omega
  ·((repeat' (first|(apply WL.opN;exact yF;dsimp only [ZB,z0,z1])|refine WL.nil ?_|refine ZA fun Kx hK=>?_|(refine hK _ _ ?_;clear hK)|(refine Kont.skip ?_;clear hK)|refine WC.region ?_|(apply WL.opN;(focus ((first|((first|apply SY.move|apply SY.assign|apply SY.lss|apply SY.eql|apply SY.and) <;> (exact oD))|(apply SY.len;(exact oD);(exact nD);(exact uD))|fail);all_goals infer_instance));dsimp only [ZB,z0,z1])|(apply ZC;(exact oD);all_goals (intro h;try exact xD))|refine WC.ret ?_|refine WC.exit ?_));all_goals (first|((repeat clear hK);(repeat clear Kx))))
   all_goals try (exfalso;first|contradiction|omega)
   (refine ⟨trivial,_,rfl,?_⟩;refine ZBQ (.head _) ?_)
   rw [List.take_of_length_le (by omega)]
theorem ZIC (F:Cx) (V:List Vx) (C:Cx):Fn Tryz.prog 9 [dS ZCb (F,V,C),dS ZCb (F,V,C)] (dB true):=by
 have c1:Fn Tryz.prog 32 [dS Cpx F,dS Cpx F] (dB true):=by
  have:=ZS9 F F
  rwa [decide_eq_true rfl] at this
 have c2:Fn Tryz.prog 21 [dS ZE V,dS ZE V] (dB true):=by
  have:=ZLo V V
  rwa [decide_eq_true (ZBe.2 rfl)] at this
 have c3:Fn Tryz.prog 22 [dS Zc C,dS Zc C] (dB true):=by
  have:=ZGW C C
  rwa [decide_eq_true rfl] at this
 (refine ZG Tryz.func9 rfl rfl ?_;simp only [Tryz.ntmps9,List.length_cons,List.length_nil,Nat.reduceAdd,Nat.reduceSub,List.replicate_succ,List.replicate_zero,List.cons_append,List.nil_append])
 ((repeat' (first|(apply WL.opN;exact yF;dsimp only [ZB,z0,z1])|refine WL.nil ?_|refine ZA fun Kx hK=>?_|(refine hK _ _ ?_;clear hK)|refine WC.region ?_|(apply ZJ;(focus (first|exact wN|(apply ZF;(exact wY);((first|(exact SY.box (OpD.t rfl) Zn)|(exact ZBD ZAe (OpD.t rfl) ZC7 rfl rfl)|(exact ZGr tyC (OpD.t rfl))|(apply SY.call (c1) Tryz.call32;(exact aD))|(apply SY.call (c2) Tryz.call21;(exact aD))|(apply SY.call (c3) Tryz.call22;(exact aD))|(apply SY.load;(exact tD);(exact oD))|(apply Z6;(exact oD);(with_reducible rfl);(exact oD))|fail);all_goals infer_instance))));dsimp only [ZB,z0,z1])|refine WC.ret ?_));all_goals (first|((repeat clear hK);(repeat clear Kx))))
 all_goals (refine ⟨trivial,_,rfl,?_⟩;exact fD)
end
section
open Go.RowKit
section
variable {P:Program} {ops:Array Oper} {hp:List HObj} {fr:List Dat} {o:Oper}
theorem ZCL {hp':List HObj} {β:Type} {H:β->List HObj} {D:β->Dat} (hp1:hp.Perm hp') (h:SW P ops hp' H D o fr):SW P ops hp H D o fr:=⟨h.guard,fun {P0 B w0 w a} hh ho K Q hk=>by
 obtain ⟨hh',hI⟩:=hh.perm hp1
 exact h.out hh' ⟨ho.1,fun t ht d hd=>d.weak (ho.2 t ht d hd) fun k=>(hI k).1⟩ K Q fun x v w' hx hrd hd=>hk x v w' hx (fun d u hu=>hrd d u (d.weak hu fun k=>(hI k).1)) hd⟩
end

def ZRw (d:List (Vx × List Vx)) (v:Vx) (c:List Vx) (out:List (Vx × List Vx)) (done:Bool) (k:Nat):Prop :=
 k≤d.length/\out.length≤2*k/\(if done=true then out++d.drop k else out++ZMK (d.drop k) v c)=ZMK d v c
theorem ZQ7 {d:List (Vx × List Vx)} {v:Vx} {c:List Vx} {out:List (Vx × List Vx)} {done:Bool} (h:ZRw d v c out done d.length):(if done=true then out else out++[(v,c)])=ZMK d v c:=by
 obtain ⟨_,_,h3⟩:=h
 rw [List.drop_length] at h3
 rw [<- h3]
 cases done
 ·simp [ZMK]
 ·simp
theorem ZQ8 {d:List (Vx × List Vx)} {v:Vx} {c:List Vx} {out:List (Vx × List Vx)} {k:Nat} (h:ZRw d v c out false k) (hk:k<d.length) (hc:ZA0 v d[k].1<0):ZRw d v c (out++[(v,c)]++[d[k]]) true (k+1):=by
 obtain ⟨h1,h2,h3⟩:=h
 refine ⟨by omega,by simp;omega,?_⟩
 rw [if_pos rfl,<- h3,if_neg (by decide),Zd hk]
 obtain ⟨x,a⟩:∃ x a,d[k]=(x,a):=⟨_,_,rfl⟩
 show _=out++ZMK (d[k]::d.drop (k+1)) v c
 generalize d[k]=p at *
 obtain ⟨x,a⟩:=p
 unfold ZMK
 rw [if_pos hc]
 simp
theorem ZOy {d:List (Vx × List Vx)} {v:Vx} {c:List Vx} {out:List (Vx × List Vx)} {k:Nat} (h:ZRw d v c out false k) (hk:k<d.length) (hc:¬ ZA0 v d[k].1<0):ZRw d v c (out++[d[k]]) false (k+1):=by
 obtain ⟨h1,h2,h3⟩:=h
 refine ⟨by omega,by simp;omega,?_⟩
 rw [if_neg (by decide),<- h3,if_neg (by decide),Zd hk]
 generalize d[k]=p at *
 obtain ⟨x,a⟩:=p
 conv=>rhs;unfold ZMK
 rw [if_neg hc]
 simp
theorem ZQ9 {d:List (Vx × List Vx)} {v:Vx} {c:List Vx} {out:List (Vx × List Vx)} {k:Nat} (h:ZRw d v c out true k) (hk:k<d.length):ZRw d v c (out++[d[k]]) true (k+1):=by
 obtain ⟨h1,h2,h3⟩:=h
 refine ⟨by omega,by simp;omega,?_⟩
 rw [if_pos rfl,<- h3,if_pos rfl,Zd hk]
 simp
theorem gl16 {v:Vx} (A:List Vx) (x:Vx) (h:A.length≤200002):((A++[v]).length+[x].length)*16≤140737488355328:=by
 rw [List.length_append,List.length_singleton,List.length_singleton];omega
theorem gl24 {c:List Vx} (A:List (List Vx)) (x:List Vx) (h:A.length≤200002):((A++[c]).length+[x].length)*24≤140737488355328:=by
 rw [List.length_append,List.length_singleton,List.length_singleton];omega
theorem ZTv (A:List Vx) (x:Vx) (h:A.length≤200002):(A.length+[x].length)*16≤140737488355328:=by
 rw [List.length_singleton];omega
theorem ZTw (A:List (List Vx)) (x:List Vx) (h:A.length≤200002):(A.length+[x].length)*24≤140737488355328:=by
 rw [List.length_singleton];omega
end
section
open Go.RowKit
section
variable {P:Program} {Q:ZAL} {fr:List Dat} {hp:List HObj}
theorem ZKm {c:Code} {b:Nat} {T:TypeId} {ds ds':List Dat} (hl:ds.length=ds'.length) (hle:∀ (k:Nat) (d d':Dat),ds[k]?=some d->ds'[k]?=some d'->d.le d') (h:WC P Q c fr (Zp b T ds'::hp)):WC P Q c fr (Zp b T ds::hp):=WC.of fun P0 B w0 w a hh hf=>by
 have hgr:w.grownBy w (Zp b T ds).blk:=⟨rfl,rfl,rfl,Nat.le_refl _,fun _ _ _=>rfl⟩
 obtain ⟨cs,c1,c2,c3,c4⟩:=hh.ok (Zp b T ds) (by simp)
 have hok:(Zp b T ds').ok (fun j=>Imm P0 B (Zp b T ds::hp) j/\j<w.heap.size) w:=⟨cs,c1,by omega,c3,fun j c e hc he=>by
  have hj:j<ds.length:=by have:=(List.getElem?_eq_some_iff.1 he).1;omega
  exact e.bound (hle j ds[j] e (List.getElem?_eq_getElem hj) he _ _ _ (c4 j c ds[j] hc (List.getElem?_eq_getElem hj)))⟩
 exact h.on (hh.write hgr (.inl rfl) hok) (hf.mono fun d u hd=>ZM (o:=Zp b T ds) (o':=Zp b T ds') hgr (.inl rfl) hd)
end
theorem ZLn (d:List (Vx × List Vx)) (v:Vx) (c:List Vx):(ZE7 d v c).length≤d.length+1:=by
 have h:∀ d:List (Vx × List Vx),(ZMK d v c).length=d.length+1:=by
  intro d
  induction d with
  | nil=>rfl
  | cons p d ih =>
   obtain ⟨x,a⟩:=p
   unfold ZMK
   split
   ·rfl
   ·simp [ih]
 unfold ZE7
 split
 ·omega
 ·rw [h];omega

end
end Go.Proofs.YtlgmojhmmbhgfaaGreatDoor
