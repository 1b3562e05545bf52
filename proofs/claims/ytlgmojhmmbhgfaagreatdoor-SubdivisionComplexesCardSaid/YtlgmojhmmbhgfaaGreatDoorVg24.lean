/- Part 24: walks by contracts, and plain laws. -/
import Derived.Test.YtlgmojhmmbhgfaaGreatDoorVg23
set_option linter.unusedVariables false
set_option linter.unusedSimpArgs false
set_option linter.unusedSectionVars false
set_option maxRecDepth 100000
set_option maxHeartbeats 4000000
namespace Go.Proofs.YtlgmojhmmbhgfaaGreatDoor
section
theorem ZCs {a b c:List Vx} (h:ZAz a b<0) (k:ZAz b c<0):ZAz a c<0:=by
 obtain ⟨h1,h2⟩:=ZDd a b c (by omega) (by omega)
 rcases Int.lt_or_eq_of_le h1 with h3|h3
 ·exact h3
 ·have:=h2 h3;omega
theorem ZHd (a:List Vx):ZAz a a=0:=ZBe.2 rfl
theorem ZGy (a b:List Vx):ZAz a b<0\/ZAz b a<0\/a=b:=by
 have h:=ZDc a b
 by_cases h1:ZAz a b<0
 ·exact .inl h1
 by_cases h2:ZAz b a<0
 ·exact .inr (.inl h2)
 ·exact .inr (.inr (ZBe.1 (by omega)))
def ZTK (xs:Cx):Prop:=xs.Pairwise fun a b=>¬ ZAz b a<0
def AscL (xs:Cx):Prop:=xs.Pairwise fun a b=>ZAz a b<0
theorem ZKy:∀ {a b:Cx},AscL a->AscL b->(∀ x,x∈a↔x∈b)->a=b
 | [],[],_,_,_=>rfl
 | [],y::b,_,_,h=>absurd ((h y).2 (by simp)) (by simp)
 | x::a,[],_,_,h=>absurd ((h x).1 (by simp)) (by simp)
 | x::a,y::b,ha,hb,h=>by
  unfold AscL at ha hb
  rw [List.pairwise_cons] at ha hb
  have hxy:x=y:=by
   have h1:=(h x).1 (by simp)
   have h2:=(h y).2 (by simp)
   rw [List.mem_cons] at h1 h2
   rcases h1 with h1|h1
   ·exact h1
   rcases h2 with h2|h2
   ·exact h2.symm
   have h3:=hb.1 x h1
   have h4:=ha.1 y h2
   have:=ZDc x y
   omega
  subst hxy
  rw [ZKy ha.2 hb.2 fun z=>?_]
  have h1:=h z
  rw [List.mem_cons,List.mem_cons] at h1
  constructor
  ·intro hz
   rcases h1.1 (.inr hz) with rfl|h2
   ·have:=ha.1 z hz;have:=ZHd z;omega
   ·exact h2
  ·intro hz
   rcases h1.2 (.inr hz) with rfl|h2
   ·have:=hb.1 z hz;have:=ZHd z;omega
   ·exact h2
theorem AscL.nodup {a:Cx} (h:AscL a):a.Nodup:=List.Pairwise.imp (fun {x y} hxy hc=>by
 subst hc;have:=ZHd x;omega) h
def ZIP (xs:Cx) (m:Nat) (zs:Cx):Prop:=AscL zs/\(∀ v,v∈zs↔v∈xs.take m)/\zs.getLast?=xs[m-1]?
theorem ZM8 {zs:Cx} {l:List Vx} (h:AscL zs) (hl:zs.getLast?=some l):∀ a∈zs,a=l\/ZAz a l<0:=by
 obtain ⟨ys,rfl⟩:=List.getLast?_eq_some_iff.1 hl
 intro a ha
 rcases List.mem_append.1 ha with ha|ha
 ·exact .inr ((List.pairwise_append.1 h).2.2 a ha l (by simp))
 ·exact .inl (by simpa using ha)
theorem ZKD {xs:Cx} (h:1≤xs.length):ZIP xs 1 (xs.take 1):=by
 match xs,h with
 | x::l,_=>exact ⟨by simp [AscL],fun v=>Iff.rfl,by simp⟩
theorem ZG1 {xs zs:Cx} {m:Nat} (hs:ZTK xs) (h:ZIP xs m zs) (h1:1≤m) (h2:m<xs.length) (hne:xs[m]≠xs[m-1]'(by omega)):ZIP xs (m+1) (zs++[xs[m]]):=by
 obtain ⟨ha,hm,hl⟩:=h
 rw [List.getElem?_eq_getElem (by omega:m-1<xs.length)] at hl
 have hlt:ZAz (xs[m-1]'(by omega)) xs[m]<0:=by
  have h3:=(List.pairwise_iff_getElem.1 hs) (m-1) m (by omega) h2 (by omega)
  rcases ZGy (xs[m-1]'(by omega)) xs[m] with k|k|k
  ·exact k
  ·exact absurd k h3
  ·exact absurd k.symm hne
 refine ⟨List.pairwise_append.2 ⟨ha,by simp,fun a haz b hb=>?_⟩,fun v=>?_,by simp [h2]⟩
 ·have hb':b=xs[m]:=by simpa using hb
  subst hb'
  rcases ZM8 ha hl a haz with rfl|h4
  ·exact hlt
  ·exact ZCs h4 hlt
 ·rw [List.mem_append,hm,Z9 h2];simp
theorem ZG2 {xs zs:Cx} {m:Nat} (h:ZIP xs m zs) (h1:1≤m) (h2:m<xs.length) (he:xs[m]=xs[m-1]'(by omega)):ZIP xs (m+1) zs:=by
 obtain ⟨ha,hm,hl⟩:=h
 refine ⟨ha,fun v=>?_,?_⟩
 ·rw [hm,Z9 h2]
  refine ⟨.inl,fun h=>h.elim id fun h=>?_⟩
  rw [h,he,List.mem_take_iff_getElem]
  exact ⟨m-1,by omega,rfl⟩
 ·rw [hl,Nat.add_sub_cancel,List.getElem?_eq_getElem h2,List.getElem?_eq_getElem (by omega),he]
theorem ZI7 {xs zs:Cx} {m:Nat} (h:ZIP xs m zs) (h2:xs.length≤m):AscL zs/\∀ v,v∈zs↔v∈xs:=⟨h.1,fun v=>by rw [h.2.1,List.take_of_length_le h2]⟩
theorem ZHr:∀ {l:Cx} {s x:List Vx},x∈ZHp l s↔x=s\/x∈l
 | [],s,x=>by simp [ZHp]
 | y::l,s,x=>by
  unfold ZHp
  split
  ·simp
  ·rw [List.mem_cons,ZHr,List.mem_cons]
   constructor
   ·rintro (h|h|h) <;> simp [h]
   ·rintro (h|h|h) <;> simp [h]
theorem ZQ6 {l:Cx} {s x:List Vx}:x∈ZFL l s↔x=s\/x∈l:=by
 unfold ZFL
 split
 ·rename_i h
  exact ⟨.inr,fun h'=>h'.elim (fun e=>e ▸ h) id⟩
 ·exact ZHr
theorem ZLM:∀ {l:Cx} {s:List Vx},AscL l->s∉l->AscL (ZHp l s)
 | [],s,_,_=>by simp [ZHp,AscL]
 | y::l,s,h,hs=>by
  have h':=h
  unfold AscL at h'
  rw [List.pairwise_cons] at h'
  unfold ZHp
  split
  ·rename_i hlt
   unfold AscL
   rw [List.pairwise_cons]
   refine ⟨fun a ha=>?_,h⟩
   rcases List.mem_cons.1 ha with rfl|ha
   ·exact hlt
   ·exact ZCs hlt (h'.1 a ha)
  ·rename_i hlt
   unfold AscL
   rw [List.pairwise_cons]
   refine ⟨fun a ha=>?_,ZLM h'.2 fun hc=>hs (by simp [hc])⟩
   rcases ZHr.1 ha with rfl|ha
   ·rcases ZGy a y with k|k|k
    ·exact absurd k hlt
    ·exact k
    ·exact absurd (by rw [k];simp) hs
   ·exact h'.1 a ha
theorem ZQ5 {l:Cx} {s:List Vx} (h:AscL l):AscL (ZFL l s):=by
 unfold ZFL
 split
 ·exact h
 ·rename_i hs;exact ZLM h hs
theorem ZD4:∀ {l out:Cx},AscL out->AscL (l.foldl ZFL out)
 | [],_,h=>h
 | s::l,out,h=>ZD4 (l:=l) (ZQ5 h)
theorem ZD5:∀ {l out:Cx} {x:List Vx},x∈l.foldl ZFL out↔x∈l\/x∈out
 | [],out,x=>by simp
 | s::l,out,x=>by
  rw [List.foldl_cons,ZD5 (l:=l),ZQ6,List.mem_cons]
  constructor
  ·rintro (h|h|h) <;> simp [h]
  ·rintro ((h|h)|h) <;> simp [h]
theorem ZFg (l:Cx):AscL (ZDl l):=ZD4 (by simp [AscL])
theorem ZCx {l:Cx} {s:List Vx}:s∈ZDl l↔s∈l/\ZPY l s=true:=by
 unfold ZDl
 rw [ZD5,List.mem_filter]
 simp
theorem ZAW {l:Cx} {s:List Vx}:ZAU l s=true↔∃ x∈l,s.length<x.length/\ZCC s x=true:=by
 unfold ZAU
 simp
theorem ZHf {l l':Cx} (h:∀ x,x∈l↔x∈l') (s:List Vx):ZAU l s=ZAU l' s:=by
 rw [Bool.eq_iff_iff,ZAW,ZAW]
 constructor
 ·rintro ⟨x,hx,hr⟩;exact ⟨x,(h x).1 hx,hr⟩
 ·rintro ⟨x,hx,hr⟩;exact ⟨x,(h x).2 hx,hr⟩
theorem ZOR {l zs:Cx} (h0:∀ s∈l,0<s.length) (ha:AscL zs) (hm:∀ u,u∈zs↔u∈l):(zs.filter fun s=>!ZAU zs s)=ZDl l:=by
 refine ZKy (List.Pairwise.filter _ ha) (ZFg l) fun s=>?_
 rw [List.mem_filter,ZCx,hm]
 unfold ZPY
 rw [ZHf hm]
 constructor
 ·rintro ⟨h1,h2⟩;exact ⟨h1,by rw [decide_eq_true (h0 s h1)];exact h2⟩
 ·rintro ⟨h1,h2⟩;rw [decide_eq_true (h0 s h1)] at h2;exact ⟨h1,h2⟩
end
section
open Go.RowKit


theorem ZQT (l:Cx):Fn Tryz.prog 15 [dS Zc l] (dB (ZD3 l)):=by
 (refine ZG Tryz.func15 rfl rfl ?_;simp only [Tryz.ntmps15,List.length_cons,List.length_nil,Nat.reduceAdd,Nat.reduceSub,List.replicate_succ,List.replicate_zero,List.cons_append,List.nil_append])
 ((repeat' (first|(apply WL.opN;exact yF;dsimp only [ZB,z0,z1])|refine WL.nil ?_|refine ZA fun Kx hK=>?_|(refine hK _ _ ?_;clear hK)|refine WC.region ?_|(apply WL.opN;(focus ((first|exact ZIM|exact ZBs|fail);all_goals infer_instance));dsimp only [ZB,z0,z1])|(apply ZC;(exact oD);all_goals (intro h;try exact xD))|refine WC.skip ?_|refine WC.ret ?_|refine WC.block ?_|refine ThenD.r ?_));all_goals (first|refine WC.id ?_|((repeat clear hK);(repeat clear Kx))))
 ·(refine ⟨trivial,_,rfl,?_⟩;refine FinD.b ?_)
  unfold ZD3
  rw [decide_eq_false (by omega)];rfl
 ·have h0:l.length≤30:=by omega
  (refine WC.loopU (X:=Nat) (fun k=>[(3,dI (k:Int)),(2,dA),(7,dA),(8,dA),(9,dA),(10,dA),(11,dA),(12,dA),(13,dA),(14,dA),(15,dA),(16,dA),(17,dA),(18,dA)]) (fun k=>[]) (fun k=>l.length-k) (fun k=>k≤l.length/\∀ s∈l.take k,s.length≤10) 0 ?start ?frame0 ?objs0 ?round)
  case start=>simp
  case frame0=>((try dsimp only [ZK,z0,z1]);repeat (first|exact LeF.nil|refine ZD (k:=?_)))
  case objs0=>rfl
  case round =>
   rintro k ⟨h1,h2⟩
   dsimp only [ZK,z0,z1]
   ((repeat' (first|(apply WL.opN;exact yF;dsimp only [ZB,z0,z1])|refine WL.nil ?_|refine ZA fun Kx hK=>?_|(refine hK _ _ ?_;clear hK)|(refine Kont.skip ?_;clear hK)|refine WC.region ?_|(apply WL.opN;(focus ((first|(apply SY.call (few_c _) Tryz.call47;(exact aD))|exact ZCJ|exact ZMd|exact ZC1|exact ZBs|exact ZX|fail);all_goals infer_instance));dsimp only [ZB,z0,z1])|(apply ZC;(exact oD);all_goals (intro h;try exact xD))|(apply ZL;(exact oD);all_goals (intro h;try exact xD))|refine WC.skip ?_|refine WC.ret ?_|refine WC.exit ?_|refine WC.block ?_|refine ThenD.n ?_|refine ThenD.r ?_|refine InBlockD.r ?_));all_goals (first|((repeat clear hK);(repeat clear Kx))))
   ·(refine ⟨trivial,_,rfl,?_⟩;refine FinD.b ?_)
    unfold ZD3
    symm
    rw [Bool.and_eq_false_iff]
    right
    rw [List.all_eq_false]
    exact ⟨_,List.getElem_mem (show k<l.length by omega),by rw [decide_eq_false (by omega)];exact Bool.false_ne_true⟩
   ·(refine ⟨k+1,?_,by first|omega|(simp only;omega),rfl,?_⟩;rotate_left;((try dsimp only [ZK,z0,z1]);repeat (first|exact LeF.nil|refine ZD (k:=?_)));(try dsimp only))
    refine ⟨by omega,fun s hs=>?_⟩
    rcases (Z9 (by omega)).1 hs with h'|rfl
    ·exact h2 s h'
    ·omega
   ·rw [List.take_of_length_le (by omega)] at h2
    (refine ⟨trivial,_,rfl,?_⟩;refine FinD.b ?_)
    unfold ZD3
    symm
    rw [Bool.and_eq_true,List.all_eq_true]
    exact ⟨decide_eq_true h0,fun s hs=>decide_eq_true (h2 s hs)⟩
theorem ZTq (l:Cx):Fn Tryz.prog 5 [dS Cpx l] (dB (ZD3 l)):=by
 (refine ZG Tryz.func5 rfl rfl ?_;simp only [Tryz.ntmps5,List.length_cons,List.length_nil,Nat.reduceAdd,Nat.reduceSub,List.replicate_succ,List.replicate_zero,List.cons_append,List.nil_append])
 ((repeat' (first|(apply WL.opN;exact yF;dsimp only [ZB,z0,z1])|refine WL.nil ?_|refine ZA fun Kx hK=>?_|(refine hK _ _ ?_;clear hK)|refine WC.region ?_|(apply WL.opN;(focus ((first|(apply SY.call (ZQT _) Tryz.call15;(exact aD))|exact ZAT|exact ZKY|fail);all_goals infer_instance));dsimp only [ZB,z0,z1])|refine WC.ret ?_));all_goals (first|((repeat clear hK);(repeat clear Kx))))
 (refine ⟨trivial,_,rfl,?_⟩;exact fD)
theorem ZS9 (l m:Cx):Fn Tryz.prog 32 [dS Cpx l,dS Cpx m] (dB (decide (l=m))):=by
 (refine ZG Tryz.func32 rfl rfl ?_;simp only [Tryz.ntmps32,List.length_cons,List.length_nil,Nat.reduceAdd,Nat.reduceSub,List.replicate_succ,List.replicate_zero,List.cons_append,List.nil_append])
 ((repeat' (first|(apply WL.opN;exact yF;dsimp only [ZB,z0,z1])|refine WL.nil ?_|refine ZA fun Kx hK=>?_|(refine hK _ _ ?_;clear hK)|refine WC.region ?_|(apply WL.opN;(focus ((first|(apply SY.call (ZGW _ _) Tryz.call22;(exact aD))|exact ZAT|exact ZKY|fail);all_goals infer_instance));dsimp only [ZB,z0,z1])|refine WC.ret ?_));all_goals (first|((repeat clear hK);(repeat clear Kx))))
 (refine ⟨trivial,_,rfl,?_⟩;exact fD)
theorem ZRv (l:Cx) (s:List Vx) (hl:l.length≤3000000):Fn Tryz.prog 41 [dS Zc l,dS ZE s] (dS Zc (ZFL l s)):=by
 (refine ZG Tryz.func41 rfl rfl ?_;simp only [Tryz.ntmps41,List.length_cons,List.length_nil,Nat.reduceAdd,Nat.reduceSub,List.replicate_succ,List.replicate_zero,List.cons_append,List.nil_append])
 (repeat' (first|(apply WL.opN;exact yF;dsimp only [ZB,z0,z1])|refine WL.nil ?_|refine ZA fun Kx hK=>?_|(refine hK _ _ ?_;clear hK)|refine WC.region ?_|refine WC.block ?_))
 refine ZAy 28 ZE ?_
 (refine WC.loopU (X:=Nat × Bool × Value × Cx) (fun x=>[(7,dI (x.1:Int)),(6,dB x.2.1),(5,dX x.2.2.1),(4,dA),(8,dA),(9,dA),(10,dA),(11,dA),(12,dA),(13,dA),(14,dA),(15,dA),(16,dA),(17,dA),(18,dA),(19,dA),(20,dA),(21,dA),(22,dA),(23,dA),(24,dA),(25,dA),(26,dA),(27,dA),(28,dA),(29,dA),(30,dA),(31,dA),(32,dA),(33,dA),(34,dA),(35,dA),(36,dA),(37,dA),(38,dA),(39,dA),(40,dA)]) (fun x=>[ZW x.2.2.1 28 ZE x.2.2.2]) (fun x=>l.length-x.1) (fun x=>x.1≤l.length/\(∀ y∈l.take x.1,ZAz s y≠0)/\(x.2.1=false->x.2.2.2=l.take x.1/\∀ y∈l.take x.1,¬ ZAz s y<0)/\(x.2.1=true->x.2.2.2++l.drop x.1=ZHp l s)) (0,false,.slice none 0 0,[]) ?start ?frame0 ?objs0 ?round)
 case start=>exact ⟨Nat.zero_le _,by simp,by simp,by simp⟩
 case frame0=>((try dsimp only [ZK,z0,z1]);repeat (first|exact LeF.nil|refine ZD (k:=?_)))
 case objs0=>rfl
 case round =>
  rintro ⟨k,b,u,o⟩ ⟨h1,h2,h3,h4⟩
  simp only at h1 h2 h3 h4
  have hol:o.length≤l.length+1:=by
   cases b with
   | false=>rw [(h3 rfl).1,List.length_take];omega
   | true =>
    have:=congrArg List.length (h4 rfl)
    rw [List.length_append,ZHq] at this
    omega
  dsimp only [ZK,z0,z1]
  ((repeat' (first|(apply WL.opN;exact yF;dsimp only [ZB,z0,z1])|refine WL.nil ?_|refine ZA fun Kx hK=>?_|(refine hK _ _ ?_;clear hK)|(refine Kont.skip ?_;clear hK)|refine WC.region ?_|((first|apply ZBJ|apply ZA6);(exact eD);exact OpD.t rfl;(exact oD);(intro _;exact hD);(exact (by simp));(exact (by simp));(first|exact ⟨by decide,by decide⟩|skip);decide;(exact lD);(intro _;dsimp only [ZB,z0,z1]);all_goals (try infer_instance))|(apply ZJ;(focus (first|exact wN|(apply ZF;(exact wY);((first|(apply SY.call (ZNb _ _) Tryz.call54;(exact aD))|exact ZEs|exact ZCJ|exact ZKZ|exact ZMd|exact ZC1|exact ZBs|exact ZX|exact ZEB|fail);all_goals infer_instance))));dsimp only [ZB,z0,z1])|((first|refine Za rfl rfl rfl (fun h=>?_) (fun h=>?_)|refine ZZ rfl rfl rfl (fun h=>?_) (fun h=>?_)|refine ZT rfl rfl rfl (fun h=>?_) (fun h=>?_)) <;> (first|(exfalso;first|omega|contradiction)|(dsimp only [z0,z1])))|(apply Zi;(exact oD);(with_reducible rfl))|(apply ZC;(exact oD);all_goals (intro h;try exact xD))|(apply Z7;(exact oD);all_goals (intro h;try exact xD))|refine WC.skip ?_|refine WC.ret ?_|refine WC.exit ?_|refine WC.block ?_|refine ThenD.n ?_|refine ThenD.r ?_|refine InBlockD.r ?_));all_goals (first|((repeat clear hK);(repeat clear Kx))))
  ·(refine ⟨trivial,_,rfl,?_⟩;refine ZEF ?_)
   have hs:s=l[k]:=ZBe.1 h
   rw [show ZFL l s=l from if_pos (hs ▸ List.getElem_mem (show k<l.length by omega))]
  ·have hb:b=false:=by cases b <;> simp_all
   subst hb
   have h0:=h3 rfl
   (refine ⟨(k+1,true,_,o++[s]++[l[k]]),?_,by first|omega|(simp only;omega),rfl,?_⟩;rotate_left;((try dsimp only [ZK,z0,z1]);repeat (first|exact LeF.nil|refine ZD (k:=?_)));(try dsimp only))
   refine ⟨by omega,fun y hy=>?_,(fun e=>nomatch e),fun _=>?_⟩
   ·rcases (Z9 (by omega)).1 hy with h'|rfl
    ·exact h2 y h'
    ·assumption
   ·show o++[s]++[l[k]]++l.drop (k+1)=ZHp l s
    rw [ZQk (by omega) h0.2 (by assumption),h0.1,Zd (show k<l.length by omega)]
    simp
  ·have hb:b=false:=by cases b <;> simp_all
   subst hb
   have h0:=h3 rfl
   (refine ⟨(k+1,false,_,o++[l[k]]),?_,by first|omega|(simp only;omega),rfl,?_⟩;rotate_left;((try dsimp only [ZK,z0,z1]);repeat (first|exact LeF.nil|refine ZD (k:=?_)));(try dsimp only))
   refine ⟨by omega,fun y hy=>?_,fun _=>⟨?_,fun y hy=>?_⟩,(fun e=>nomatch e)⟩
   ·rcases (Z9 (by omega)).1 hy with h'|rfl
    ·exact h2 y h'
    ·assumption
   ·rw [h0.1,ZP (by omega)]
   ·rcases (Z9 (by omega)).1 hy with h'|rfl
    ·exact h0.2 y h'
    ·assumption
  ·have hb:b=true:=by cases b <;> simp_all
   subst hb
   have h0:=h4 rfl
   (refine ⟨(k+1,true,_,o++[l[k]]),?_,by first|omega|(simp only;omega),rfl,?_⟩;rotate_left;((try dsimp only [ZK,z0,z1]);repeat (first|exact LeF.nil|refine ZD (k:=?_)));(try dsimp only))
   refine ⟨by omega,fun y hy=>?_,(fun e=>nomatch e),fun _=>?_⟩
   ·rcases (Z9 (by omega)).1 hy with h'|rfl
    ·exact h2 y h'
    ·assumption
   ·show o++[l[k]]++l.drop (k+1)=ZHp l s
    rw [<- h0,Zd (show k<l.length by omega)]
    simp
  ·subst h
   have h0:=h3 rfl
   rw [List.take_of_length_le (by omega)] at h0 h2
   have hs:s∉l:=fun hs=>h2 s hs (ZBe.2 rfl)
   rw [show ZFL l s=o++[s] by unfold ZFL;rw [if_neg hs,ZQl h0.2,h0.1]]
   (refine ⟨trivial,_,rfl,?_⟩;exact fD)
  ·subst h
   have h0:=h4 rfl
   rw [List.take_of_length_le (by omega)] at h2
   rw [List.drop_eq_nil_of_le (by omega),List.append_nil] at h0
   have hs:s∉l:=fun hs=>h2 s hs (ZBe.2 rfl)
   rw [show ZFL l s=o by unfold ZFL;rw [if_neg hs,h0]]
   (refine ⟨trivial,_,rfl,?_⟩;exact fD)
end
section
open Go.RowKit

theorem ZI0 {p:List Vx->Bool} {l:Cx} {k:Nat} (h:k<l.length):(l.take (k+1)).filter p=(l.take k).filter p++(if p l[k]=true then [l[k]] else []):=by
 rw [ZP h,List.filter_append]
 by_cases hp:p l[k]=true
 ·rw [if_pos hp,List.filter_cons_of_pos hp];rfl
 ·rw [if_neg hp,List.filter_cons_of_neg hp];rfl
end
section
open Go.RowKit

def ZCv:List Vx->List Vx->Bool
 | [],_=>true
 | v::a,b=>if (b.dropWhile fun x=>decide (x≠v))=[] then false else ZCv a (b.dropWhile fun x=>decide (x≠v))
theorem ZMD {v x:Vx} {a c:List Vx} (h:x≠v):ZCv (v::a) (x::c)=ZCv (v::a) c:=by
 unfold ZCv
 rw [List.dropWhile_cons_of_pos (by simpa using h)]
theorem ZNs {v:Vx} {a c:List Vx}:ZCv (v::a) (v::c)=ZCv a (v::c):=by
 conv=>lhs;unfold ZCv
 rw [List.dropWhile_cons_of_neg (by simp)]
 simp
theorem ZNr {v:Vx} {a:List Vx}:ZCv (v::a) []=false:=by unfold ZCv;simp
theorem ZQP (a b:List Vx):Fn Tryz.prog 105 [dS ZE a,dS ZE b] (dB (ZCv a b)):=by
 (refine ZG Tryz.func105 rfl rfl ?_;simp only [Tryz.ntmps105,List.length_cons,List.length_nil,Nat.reduceAdd,Nat.reduceSub,List.replicate_succ,List.replicate_zero,List.cons_append,List.nil_append])
 (repeat' (first|((first|apply WL.opN|apply WD.opN);exact yF;dsimp only [ZB,z0,z1])|refine WL.nil ?_|refine ZA fun Kx hK=>?_|(refine hK _ _ ?_;clear hK)|refine WC.region ?_|((first|apply ZJ|apply WD.op);(focus (first|exact wN|(apply ZF;(exact wY);((first|exact ZBs|fail);all_goals infer_instance))));dsimp only [ZB,z0,z1])|refine WC.block ?_))
 (first|refine ZS (t:=0) rfl ZFJ fun hl0=>?_|refine ZS (t:=0) rfl ZFI fun hl0=>?_|refine ZS (t:=0) rfl ZPV fun hl0=>?_);simp only [maxLen] at hl0
 (refine WC.loopU (X:=Nat × List Vx) (fun x=>[(9,dI (x.1:Int)),(1,dS ZE x.2),(4,dA),(6,dA),(10,dA),(11,dA),(12,dA),(13,dA),(14,dA),(15,dA),(16,dA),(17,dA),(18,dA),(19,dA),(20,dA),(21,dA),(22,dA),(23,dA),(24,dA),(25,dA),(26,dA),(27,dA),(28,dA)]) (fun x=>[]) (fun x=>a.length-x.1) (fun x=>x.1≤a.length/\ZCv a b=ZCv (a.drop x.1) x.2) (0,b) ?start ?frame0 ?objs0 ?round)
 case start=>exact ⟨Nat.zero_le _,rfl⟩
 case frame0=>((try dsimp only [ZK,z0,z1]);repeat (first|exact LeF.nil|refine ZD (k:=?_)))
 case objs0=>rfl
 case round =>
  rintro ⟨k,c⟩ ⟨h1,h2⟩
  simp only at h1 h2
  dsimp only [ZK,z0,z1]
  ((repeat' (first|((first|apply WL.opN|apply WD.opN);exact yF;dsimp only [ZB,z0,z1])|refine WL.nil ?_|refine ZA fun Kx hK=>?_|(refine hK _ _ ?_;clear hK)|(refine Kont.skip ?_;clear hK)|refine WC.region ?_|(apply WL.alloc;(first|exact tzV|exact tzC);(first|exact ZY rfl|exact ZAF|exact Zy rfl);(intro _;dsimp only [ZB,z0,z1]))|(apply ZN;(exact tD);rfl;(exact oD);(exact hD);dsimp only [ZB,z0,z1])|((first|apply ZJ|apply WD.op);(focus (first|exact wN|(apply ZF;(exact wY);((first|exact ZCJ|exact ZX|fail);all_goals infer_instance))));dsimp only [ZB,z0,z1])|(apply ZC;(exact oD);all_goals (intro h;try exact xD))|refine WC.skip ?_|refine WC.ret ?_|refine WC.exit ?_|refine WC.block ?_));all_goals (first|refine WC.id ?_|((repeat clear hK);(repeat clear Kx))))
  ·(refine WC.loopU (X:=List Vx) (fun c'=>[(1,dS ZE c'),(13,dA),(14,dA),(15,dA),(16,dA),(17,dA),(18,dA),(19,dA),(20,dA),(21,dA),(22,dA),(23,dA),(24,dA)]) (fun c'=>[]) (fun c'=>c'.length) (fun c'=>c'.length≤c.length/\ZCv a b=ZCv (a.drop k) c') c ?start ?frame0 ?objs0 ?round)
   case start=>exact ⟨Nat.le_refl _,h2⟩
   case frame0=>((try dsimp only [ZK,z0,z1]);repeat (first|exact LeF.nil|refine ZD (k:=?_)))
   case objs0=>rfl
   case round =>
    rintro c' ⟨h3,h4⟩
    dsimp only [ZK,z0,z1]
    ((repeat' (first|((first|apply WL.opN|apply WD.opN);exact yF;dsimp only [ZB,z0,z1])|refine WL.nil ?_|refine WD.nil ?_|refine ZA fun Kx hK=>?_|(refine hK _ _ ?_;clear hK)|(refine Kont.skip ?_;clear hK)|refine WC.region ?_|(apply WC.draw;kernel_rfl;kernel_rfl)|((first|apply ZJ|apply WD.op);(focus (first|exact wN|(apply ZF;(exact wY);((first|(apply ZC8 elV (OpD.t rfl) OpD.i 0 rfl;omega)|(apply ZKe elV (OpD.t rfl) OpD.i 1 rfl;omega)|exact ZEs|exact ZIM|exact ZKZ|exact ZJo|exact ZC1|exact ZFT|exact ZBs|exact ZEB|fail);all_goals infer_instance))));dsimp only [ZB,z0,z1])|((first|refine Za rfl rfl rfl (fun h=>?_) (fun h=>?_)|refine ZZ rfl rfl rfl (fun h=>?_) (fun h=>?_)|refine ZT rfl rfl rfl (fun h=>?_) (fun h=>?_)|refine ZAE rfl rfl rfl (fun h=>?_) (fun h=>?_)|refine ZAD rfl rfl rfl (fun h=>?_) (fun h=>?_)|refine Zu rfl rfl rfl (fun h=>?_) (fun h=>?_)) <;> (first|(exfalso;first|omega|contradiction)|(dsimp only [z0,z1])))|(apply Zi;(exact oD);(with_reducible rfl))|(apply ZC;(exact oD);all_goals (intro h;try exact xD))|(apply ZL;(exact oD);all_goals (intro h;try exact xD))|refine WC.skip ?_|refine WC.ret ?_|refine WC.exit ?_|refine WC.block ?_|refine ThenD.n ?_|refine ThenD.r ?_|refine InBlockD.n ?_|refine InBlockD.r ?_));all_goals (first|((repeat clear hK);(repeat clear Kx))))
    all_goals rw [List.drop_eq_getElem_cons (show k<a.length by omega)] at h4
    ·have hc:c'=c'[0]::c'.drop 1:=by
      have:=List.drop_eq_getElem_cons (show 0<c'.length by omega)
      rwa [List.drop_zero] at this
     have hd:(c'.drop 1).length=c'.length-1:=List.length_drop
     (refine ⟨c'.drop 1,?_,by first|omega|(simp only;omega),rfl,?_⟩;rotate_left;((try dsimp only [ZK,z0,z1]);repeat (first|exact LeF.nil|refine ZD (k:=?_)));(try dsimp only))
     refine ⟨by omega,?_⟩
     rw [List.drop_eq_getElem_cons (show k<a.length by omega),h4]
     conv=>lhs;rw [hc]
     exact ZMD h
    ·have hc:c'=a[k]::c'.drop 1:=by
      have:=List.drop_eq_getElem_cons (show 0<c'.length by omega)
      rw [List.drop_zero] at this
      rw [this];congr 1
     (refine ⟨(k+1,c'),?_,by first|omega|(simp only;omega),rfl,?_⟩;rotate_left;((try dsimp only [ZK,z0,z1]);repeat (first|exact LeF.nil|refine ZD (k:=?_)));(try dsimp only))
     refine ⟨by omega,?_⟩
     show _=ZCv (a.drop (k+1)) c'
     rw [h4]
     conv=>lhs;rw [hc,ZNs]
     rw [<- hc]
    ·have hc:c'=[]:=List.eq_nil_of_length_eq_zero (by omega)
     (refine ⟨trivial,_,rfl,?_⟩;refine FinD.b ?_)
     rw [h4,hc,ZNr]
  ·rw [List.drop_of_length_le (by omega)] at h2
   (refine ⟨trivial,_,rfl,?_⟩;refine FinD.b ?_)
   rw [h2];rfl
end
section
open Go.RowKit

abbrev ZRi (at':List Int) (p:Int->Bool):Dat:=ZJm Tryz.prog (fun i:{i:Int // i∈at'}=>[dI i.1]) (fun i=>dB (p i.1))
theorem ZTx (l:List Int) (p:Int->Bool):Fn Tryz.prog 106 [dS ZBt l,ZRi l p] (dI (ZIK p 0 l)):=by
 (refine ZG Tryz.func106 rfl rfl ?_;simp only [Tryz.ntmps106,List.length_cons,List.length_nil,Nat.reduceAdd,Nat.reduceSub,List.replicate_succ,List.replicate_zero,List.cons_append,List.nil_append])
 (repeat' (first|(apply WL.opN;exact yF;dsimp only [ZB,z0,z1])|refine WL.nil ?_|refine ZA fun Kx hK=>?_|(refine hK _ _ ?_;clear hK)|refine WC.region ?_|(apply WL.opN;(focus ((first|exact ZBs|fail);all_goals infer_instance));dsimp only [ZB,z0,z1])|refine WC.block ?_))
 (first|refine ZS (t:=0) rfl ZFJ fun hl0=>?_|refine ZS (t:=0) rfl ZFI fun hl0=>?_|refine ZS (t:=0) rfl ZPV fun hl0=>?_);simp only [maxLen] at hl0
 (refine WC.loopU (X:=Nat) (fun k=>[(8,dI (k:Int)),(4,dA),(5,dA),(9,dA),(10,dA),(11,dA),(12,dA),(13,dA),(14,dA),(15,dA),(16,dA),(17,dA),(18,dA)]) (fun k=>[]) (fun k=>l.length-k) (fun k=>k≤l.length/\ZIK p 0 l=ZIK p k (l.drop k)) 0 ?start ?frame0 ?objs0 ?round)
 case start=>exact ⟨Nat.zero_le _,rfl⟩
 case frame0=>((try dsimp only [ZK,z0,z1]);repeat (first|exact LeF.nil|refine ZD (k:=?_)))
 case objs0=>rfl
 case round =>
  rintro k ⟨h1,h2⟩
  dsimp only [ZK,z0,z1]
  ((repeat' (first|(apply WL.opN;exact yF;dsimp only [ZB,z0,z1])|refine WL.nil ?_|refine ZA fun Kx hK=>?_|(refine hK _ _ ?_;clear hK)|(refine Kont.skip ?_;clear hK)|refine WC.region ?_|(apply WL.opN;(focus ((first|(apply ZD0 (x:=(⟨l[k],List.getElem_mem _⟩:{i:Int // i∈l}));(exact OpD.t rfl);(exact aD))|exact ZCJ|exact ZC1|exact ZX|fail);all_goals infer_instance));dsimp only [ZB,z0,z1])|(apply ZC;(exact oD);all_goals (intro h;try exact xD))|(apply WC.cond;(exact oD);all_goals (intro h;try exact xD))|refine WC.skip ?_|refine WC.ret ?_|refine WC.exit ?_|refine WC.block ?_|refine ThenD.n ?_|refine ThenD.r ?_|refine InBlockD.r ?_));all_goals (first|((repeat clear hK);(repeat clear Kx))))
  ·(refine ⟨trivial,_,rfl,?_⟩;refine FinD.i ?_)
   rw [h2,ZEa (by omega),if_pos h]
  ·(refine ⟨k+1,?_,by first|omega|(simp only;omega),rfl,?_⟩;rotate_left;((try dsimp only [ZK,z0,z1]);repeat (first|exact LeF.nil|refine ZD (k:=?_)));(try dsimp only))
   exact ⟨by omega,by rw [h2,ZEa (by omega),if_neg (by simp [h])]⟩
  ·(refine ⟨trivial,_,rfl,?_⟩;refine FinD.i ?_)
   rw [h2,List.drop_of_length_le (by omega)];rfl
theorem ZNe (l:List Int) (p:Int->Bool):Fn Tryz.prog 77 [dS ZBt l,ZRi l p] (dB (l.any p)):=by
 (refine ZG Tryz.func77 rfl rfl ?_;simp only [Tryz.ntmps77,List.length_cons,List.length_nil,Nat.reduceAdd,Nat.reduceSub,List.replicate_succ,List.replicate_zero,List.cons_append,List.nil_append])
 ((repeat' (first|(apply WL.opN;exact yF;dsimp only [ZB,z0,z1])|refine WL.nil ?_|refine ZA fun Kx hK=>?_|(refine hK _ _ ?_;clear hK)|refine WC.region ?_|(apply WL.opN;(focus ((first|(apply SY.call (ZTx _ _) Tryz.call106;(exact aD))|exact ZR1|fail);all_goals infer_instance));dsimp only [ZB,z0,z1])|refine WC.ret ?_));all_goals (first|((repeat clear hK);(repeat clear Kx))))
 all_goals ((refine ⟨trivial,_,rfl,?_⟩;refine FinD.b ?_);exact ZHo _ _)
end
section
open Go.RowKit

def ZQJ (l:Cx) (s:List Vx) (i:Int):Bool:=decide (s.length<(l.getD i.toNat []).length) && ZCv s (l.getD i.toNat [])
theorem ZTZ (l:Cx) (s:List Vx) (i:Int) (h0:0≤i) (h1:i<l.length):Fn Tryz.prog 104 ([dI i]++[dP 1 false (dS Zc l),dP 1 false (dS ZE s)]) (dB (ZQJ l s i)):=by
 obtain ⟨k,rfl⟩:∃ k:Nat,i=k:=⟨i.toNat,by omega⟩
 have hk:k<l.length:=by omega
 have e:ZQJ l s (k:Int)=(decide (s.length<l[k].length) && ZCv s l[k]):=by
  unfold ZQJ
  rw [Int.toNat_natCast,show l.getD k []=l[k] by simp [List.getD,hk]]
 rw [e]
 show Fn Tryz.prog 104 [dI (k:Int),dP 1 false (dS Zc l),dP 1 false (dS ZE s)] _
 (refine ZG Tryz.func104 rfl rfl ?_;simp only [Tryz.ntmps104,List.length_cons,List.length_nil,Nat.reduceAdd,Nat.reduceSub,List.replicate_succ,List.replicate_zero,List.cons_append,List.nil_append])
 ((repeat' (first|((first|apply WL.opN|apply WD.opN);exact yF;dsimp only [ZB,z0,z1])|refine WL.nil ?_|refine WD.nil ?_|refine ZA fun Kx hK=>?_|(refine hK _ _ ?_;clear hK)|refine WC.region ?_|(apply WC.draw;kernel_rfl;kernel_rfl)|((first|apply ZJ|apply WD.op);(focus (first|exact wN|(apply ZF;(exact wY);((first|(apply SY.call (ZQP _ _) Tryz.call105;(exact aD))|exact ZEs|exact ZIM|exact ZFT|exact ZBs|exact ZX|exact ZEB|fail);all_goals infer_instance))));dsimp only [ZB,z0,z1])|((first|refine Za rfl rfl rfl (fun h=>?_) (fun h=>?_)|refine ZZ rfl rfl rfl (fun h=>?_) (fun h=>?_)|refine ZT rfl rfl rfl (fun h=>?_) (fun h=>?_)|refine ZAE rfl rfl rfl (fun h=>?_) (fun h=>?_)|refine ZAD rfl rfl rfl (fun h=>?_) (fun h=>?_)|refine Zu rfl rfl rfl (fun h=>?_) (fun h=>?_)) <;> (first|(exfalso;first|omega|contradiction)|(dsimp only [z0,z1])))|refine WC.ret ?_));all_goals (first|((repeat clear hK);(repeat clear Kx))))
 ·rw [decide_eq_true (show s.length<l[k].length by omega),Bool.true_and]
  (refine ⟨trivial,_,rfl,?_⟩;exact fD)
 ·rw [decide_eq_false (show ¬ s.length<l[k].length by omega),Bool.false_and]
  (refine ⟨trivial,_,rfl,?_⟩;exact fD)
abbrev MemI (l:List Int):={v:Int // v∈l}
theorem ZG0 (l:Cx) (at':List Int) (s:List Vx) (hat:∀ i∈at',0≤i/\i<l.length):Fn Tryz.prog 75 [dS Zc l,dS ZBt at',dS ZE s] (dB (at'.any (ZQJ l s))):=by
 (refine ZG Tryz.func75 rfl rfl ?_;simp only [Tryz.ntmps75,List.length_cons,List.length_nil,Nat.reduceAdd,Nat.reduceSub,List.replicate_succ,List.replicate_zero,List.cons_append,List.nil_append])
 ((repeat' (first|(apply WL.opN;exact yF;dsimp only [ZB,z0,z1])|refine WL.nil ?_|refine ZA fun Kx hK=>?_|(refine hK _ _ ?_;clear hK)|refine WC.region ?_|(apply WL.opN;(focus ((first|(apply ZEw (A:=fun v:MemI at'=>[dI v.1]) (r:=fun v=>dB (ZQJ l s v.1)) Tryz.call104 (fun v=>ZTZ l s v.1 (hat v.1 v.2).1 (hat v.1 v.2).2) (fun _=>ZTU);(exact aD))|(apply SY.call (ZNe at' (ZQJ l s)) Tryz.call77;(exact aD))|exact ZKY|fail);all_goals infer_instance));dsimp only [ZB,z0,z1])|refine WC.ret ?_));all_goals (first|((repeat clear hK);(repeat clear Kx))))
 all_goals (refine ⟨trivial,_,rfl,?_⟩;exact fD)
end
end Go.Proofs.YtlgmojhmmbhgfaaGreatDoor
