/- Part 21: walks by contracts, and plain laws. -/
import Derived.Test.YtekiljakcngcoaaGreatDoorV20
set_option linter.unusedVariables false
set_option linter.unusedSimpArgs false
set_option linter.unusedSectionVars false
set_option maxRecDepth 100000
set_option maxHeartbeats 4000000
namespace Go.Proofs.YtekiljakcngcoaaGreatDoor
section
open Go.RowKit

section
variable {P:Program} {ops:Array Oper} {hp:List HObj} {fr:List Dat} {dst:Option Tmp} {ty:TypeId} {ps:String} {af:Array Edge} {g:Option (Nat × Bool)}
theorem ZS7 {x y:Operand} {m n:Int} {ats:Array TypeId} (hx:OpD fr x (dI m)) (hy:OpD fr y (dI n)):SY P ops hp ⟨dst,.call { callee:=.builtin .min,args:=#[x,y],argTypes:=ats },ty,ps,af,g⟩ fr (dI (if n<m then n else m)) :=
 SY.val fun {I w a} ho=>⟨.int .i64 (if n<m then n else m),by
  have h1:a.eval x = .int .i64 m:=hx.get (by simp [Op.operands,Call.operands]) ho
  have h2:a.eval y = .int .i64 n:=hy.get (by simp [Op.operands,Call.operands]) ho
  unfold execOp
  simp [resolve,invoke,builtin,h1,h2,Builtin.min_,Builtin.min2],rfl⟩
theorem ZNN {x y:Operand} {m n:Int} {ats:Array TypeId} (hx:OpD fr x (dI m)) (hy:OpD fr y (dI n)):SY P ops hp ⟨dst,.call { callee:=.builtin .max,args:=#[x,y],argTypes:=ats },ty,ps,af,g⟩ fr (dI (if m<n then n else m)) :=
 SY.val fun {I w a} ho=>⟨.int .i64 (if m<n then n else m),by
  have h1:a.eval x = .int .i64 m:=hx.get (by simp [Op.operands,Call.operands]) ho
  have h2:a.eval y = .int .i64 n:=hy.get (by simp [Op.operands,Call.operands]) ho
  unfold execOp
  simp [resolve,invoke,builtin,h1,h2,Builtin.max_,Builtin.max2],rfl⟩
end
def ZEh (l:Cx):Int:=l.foldl (fun m s=>if (s.length:Int)<m then (s.length:Int) else m) 8
def ZC5 (l:Cx):Int:=l.foldl (fun m s=>if m<(s.length:Int) then (s.length:Int) else m) 0
theorem ZKq {l:Cx} {k:Nat} (h:k<l.length):ZEh (l.take (k+1))=if (l[k].length:Int)<ZEh (l.take k) then (l[k].length:Int) else ZEh (l.take k):=by
 unfold ZEh;rw [ZZ h,List.foldl_append];rfl
theorem ZMy {l:Cx} {k:Nat} (h:k<l.length):ZC5 (l.take (k+1))=if ZC5 (l.take k)<(l[k].length:Int) then (l[k].length:Int) else ZC5 (l.take k):=by
 unfold ZC5;rw [ZZ h,List.foldl_append];rfl
def ZJ3 (l:Cx):Bool:=decide (ZC5 l=0) || decide (ZEh l=ZC5 l)
theorem ZKg (l:Cx) (hs:∀ s∈l,s.length≤1000):Fn Tryz.prog 35 [dS Cpx l] (dT [dI (ZC5 l-1),dB (ZJ3 l)]):=by
 (refine ZAl Tryz.func35 rfl rfl ?_;simp only [Tryz.ntmps35,List.length_cons,List.length_nil,Nat.reduceAdd,Nat.reduceSub,List.replicate_succ,List.replicate_zero,List.cons_append,List.nil_append])
 (repeat' (first|(apply WL.opN;exact yF;dsimp only [ZA,z0,z1])|refine WL.nil ?_|refine ZC fun Kx hK=>?_|(refine hK _ _ ?_;clear hK)|refine WC.region ?_|(apply ZS;(focus (first|exact wN|(apply SYG.yes;(exact wY);((first|exact ZBq|exact Z8|exact ZG4|fail);all_goals infer_instance))));dsimp only [ZA,z0,z1])|refine WC.block ?_))
 (first|refine Ze (t:=0) rfl ZFf fun hl0=>?_|refine Ze (t:=0) rfl ZFe fun hl0=>?_|refine Ze (t:=0) rfl ZQC fun hl0=>?_);simp only [maxLen] at hl0
 (refine WC.loopU (X:=Nat × Int × Int) (fun x=>[(11,dI (x.1:Int)),(4,dI x.2.1),(5,dI x.2.2),(7,dA),(12,dA),(13,dA),(14,dA),(15,dA),(16,dA),(17,dA),(18,dA),(19,dA),(20,dA),(21,dA),(22,dA),(23,dA)]) (fun x=>[]) (fun x=>l.length-x.1) (fun x=>x.1≤l.length/\x.2.1=ZEh (l.take x.1)/\x.2.2=ZC5 (l.take x.1)/\0≤x.2.2/\x.2.2≤1000) (0,8,0) ?start ?frame0 ?objs0 ?round)
 case start=>exact ⟨Nat.zero_le _,rfl,rfl,by decide,by decide⟩
 case frame0=>((try dsimp only [Za,z0,z1]);repeat (first|exact LeF.nil|refine ZF (k:=?_)))
 case objs0=>rfl
 case round =>
  rintro ⟨k,a,b⟩ ⟨h1,h2,h3,h4,h5⟩
  simp only at h1 h2 h3 h4 h5
  dsimp only [Za,z0,z1]
  ((repeat' (first|(apply WL.opN;exact yF;dsimp only [ZA,z0,z1])|refine WL.nil ?_|refine ZC fun Kx hK=>?_|(refine hK _ _ ?_;clear hK)|(refine Kont.skip ?_;clear hK)|refine WC.region ?_|(apply ZS;(focus (first|exact wN|(apply SYG.yes;(exact wY);((first|(apply ZS7;exact OpD.t rfl;exact OpD.t rfl)|(apply ZNN;exact OpD.t rfl;exact OpD.t rfl)|exact ZD6|exact ZBy|exact ZNA|exact ZCk|exact ZNF|exact ZBq|exact Zg|exact ZFP|fail);all_goals infer_instance))));dsimp only [ZA,z0,z1])|((first|refine Zl rfl rfl rfl (fun h=>?_) (fun h=>?_)|refine Zk rfl rfl rfl (fun h=>?_) (fun h=>?_)|refine Zj rfl rfl rfl (fun h=>?_) (fun h=>?_)) <;> (first|(exfalso;first|omega|contradiction)|(dsimp only [z0,z1])))|(apply ZE;(exact oD);all_goals (intro h;try exact xD))|refine WC.skip ?_|refine WC.ret ?_|refine WC.exit ?_|refine WC.block ?_|refine ThenD.n ?_));all_goals (first|((repeat clear hK);(repeat clear Kx))))
  ·(refine ⟨(k+1,if (l[k].length:Int)<a then (l[k].length:Int) else a,if b<(l[k].length:Int) then (l[k].length:Int) else b),?_,by first|omega|(simp only;omega),rfl,?_⟩;rotate_left;((try dsimp only [Za,z0,z1]);repeat (first|exact LeF.nil|refine ZF (k:=?_)));(try dsimp only))
   have h9:=hs _ (List.getElem_mem (show k<l.length by omega))
   refine ⟨by omega,?_,?_,?_,?_⟩
   ·rw [ZKq (by omega),<- h2]
   ·rw [ZMy (by omega),<- h3]
   ·split <;> omega
   ·split <;> omega
  all_goals rw [List.take_of_length_le (by omega)] at h2 h3
  ·have e:ZJ3 l=true:=by unfold ZJ3;rw [<- h3,decide_eq_true h];rfl
   rw [e,<- h3]
   (refine ⟨trivial,⟨_,rfl,?_⟩,_,rfl,?_⟩ <;> exact fD)
  ·have e:ZJ3 l=decide (a=b):=by unfold ZJ3;rw [<- h3,<- h2,decide_eq_false h];rfl
   rw [e,<- h3]
   (refine ⟨trivial,⟨_,rfl,?_⟩,_,rfl,?_⟩ <;> exact fD)
end
section
theorem GoodX.asc {l:Cx} (h:GoodX l):∀ s∈l,Asc s:=fun s hs=>(ZP.1 (h.2.2.1 s hs)).2.2.2
theorem ZNp {l:Cx} {s:List Vx} (h:∀ f∈l,Asc f) (hs:Asc s):l.filter (ZBp s)=ZHg l s:=List.filter_congr fun f hf=>ZCJ s f hs (h f hf)
theorem ZMu {l:Cx} {s:List Vx}:ZCa l s=decide (0<(ZHg l s).length):=by
 unfold ZCa ZHg
 rw [Bool.eq_iff_iff,List.any_eq_true,decide_eq_true_eq,List.length_pos_iff_exists_mem]
 constructor
 ·rintro ⟨x,hx,h⟩;exact ⟨x,List.mem_filter.2 ⟨hx,h⟩⟩
 ·rintro ⟨x,h⟩;exact ⟨x,(List.mem_filter.1 h).1,(List.mem_filter.1 h).2⟩
theorem ZEj (l:Cx):ZC5 l-1=ZFU l:=by
 have go:∀ (l:Cx) (m:Int),l.foldl (fun m s=>if m<(s.length:Int) then (s.length:Int) else m) m-1=l.foldl (fun m s=>if m<(s.length:Int)-1 then (s.length:Int)-1 else m) (m-1):=by
  intro l
  induction l with
  | nil=>intro m;rfl
  | cons s l ih =>
   intro m
   rw [List.foldl_cons,List.foldl_cons,ih]
   congr 1
   split <;> split <;> omega
 exact go l 0
theorem ZEk (l:Cx):(∀ s∈l,(s.length:Int)≤ZC5 l)/\(ZC5 l=0\/∃ s∈l,ZC5 l=s.length):=by
 have go:∀ (l:Cx) (m:Int),m≤l.foldl (fun m s=>if m<(s.length:Int) then (s.length:Int) else m) m/\(∀ s∈l,(s.length:Int)≤l.foldl (fun m s=>if m<(s.length:Int) then (s.length:Int) else m) m) /\
   (l.foldl (fun m s=>if m<(s.length:Int) then (s.length:Int) else m) m=m\/∃ s∈l,l.foldl (fun m s=>if m<(s.length:Int) then (s.length:Int) else m) m=s.length):=by
  intro l
  induction l with
  | nil=>intro m;simp
  | cons s l ih =>
   intro m
   rw [List.foldl_cons]
   obtain ⟨h1,h2,h3⟩:=ih (if m<(s.length:Int) then (s.length:Int) else m)
   refine ⟨by split at h1 <;> split <;> omega,fun x hx=>?_,?_⟩
   ·rcases List.mem_cons.1 hx with rfl|hx
    ·split at h1 <;> split <;> omega
    ·exact h2 x hx
   ·rcases h3 with h3|⟨x,hx,h3⟩
    ·rw [h3]
     split
     ·exact .inr ⟨s,by simp,rfl⟩
     ·exact .inl rfl
    ·exact .inr ⟨x,by simp [hx],h3⟩
 exact ⟨(go l 0).2.1,(go l 0).2.2⟩
theorem ZOs (l:Cx):(∀ s∈l,ZEh l≤(s.length:Int))/\(ZEh l=8\/∃ s∈l,ZEh l=s.length):=by
 have go:∀ (l:Cx) (m:Int),l.foldl (fun m s=>if (s.length:Int)<m then (s.length:Int) else m) m≤m/\(∀ s∈l,l.foldl (fun m s=>if (s.length:Int)<m then (s.length:Int) else m) m≤(s.length:Int)) /\
   (l.foldl (fun m s=>if (s.length:Int)<m then (s.length:Int) else m) m=m\/∃ s∈l,l.foldl (fun m s=>if (s.length:Int)<m then (s.length:Int) else m) m=s.length):=by
  intro l
  induction l with
  | nil=>intro m;simp
  | cons s l ih =>
   intro m
   rw [List.foldl_cons]
   obtain ⟨h1,h2,h3⟩:=ih (if (s.length:Int)<m then (s.length:Int) else m)
   refine ⟨by split at h1 <;> split <;> omega,fun x hx=>?_,?_⟩
   ·rcases List.mem_cons.1 hx with rfl|hx
    ·split at h1 <;> split <;> omega
    ·exact h2 x hx
   ·rcases h3 with h3|⟨x,hx,h3⟩
    ·rw [h3]
     split
     ·exact .inr ⟨s,by simp,rfl⟩
     ·exact .inl rfl
    ·exact .inr ⟨x,by simp [hx],h3⟩
 exact ⟨(go l 8).2.1,(go l 8).2.2⟩
theorem ZGe {l:Cx} (h8:∀ s∈l,s.length≠0/\s.length≤8):ZJ3 l=true↔∀ s∈l,∀ t∈l,s.length=t.length:=by
 obtain ⟨m1,m2⟩:=ZEk l
 obtain ⟨n1,n2⟩:=ZOs l
 unfold ZJ3
 simp only [Bool.or_eq_true,decide_eq_true_eq]
 constructor
 ·rintro (h|h) s hs t ht
  ·have:=m1 s hs;have:=h8 s hs;omega
  ·have:=m1 s hs;have:=m1 t ht;have:=n1 s hs;have:=n1 t ht;omega
 ·intro h
  rcases m2 with m2|⟨s,hs,m2⟩
  ·exact .inl m2
  ·right
   rcases n2 with n2|⟨t,ht,n2⟩
   ·have:=n1 s hs;have:=h8 s hs;omega
   ·rw [m2,n2,h s hs t ht]
theorem ZPk {l:Cx}:ZDo l=true↔∀ s∈l,∀ t∈l,s.length=t.length:=by
 unfold ZDo
 rw [List.all_eq_true]
 simp only [List.mem_range,Bool.or_eq_true,decide_eq_true_eq]
 constructor
 ·intro h
  have key:∀ n,n≤l.length->0<n->∀ (h0:0<l.length),ZFU (l.take n)=(l[0].length:Int)-1/\∀ (i:Nat) (hi:i<l.length),i<n->l[i].length=l[0].length:=by
   intro n
   induction n with
   | zero=>intro _ h;omega
   | succ n ih =>
    intro hn _ h0
    by_cases hz:n=0
    ·subst hz
     refine ⟨?_,fun i hi hi1=>?_⟩
     ·rw [ZBo (by omega)]
      simp [ZFU];omega
     ·have:i=0:=by omega
      subst this;rfl
    ·obtain ⟨h1,h2⟩:=ih (by omega) (by omega) h0
     have h3:=h n (by omega)
     rcases h3 with h3|h3
     ·omega
     ·rw [ZB7 (by omega),h1] at h3
      refine ⟨?_,fun i hi hi1=>?_⟩
      ·rw [ZBo (by omega),h1,h3,if_neg (by omega)]
      ·by_cases hin:i=n
       ·subst hin;omega
       ·exact h2 i hi (by omega)
  intro s hs t ht
  obtain ⟨i,hi,rfl⟩:=List.getElem_of_mem hs
  obtain ⟨j,hj,rfl⟩:=List.getElem_of_mem ht
  obtain ⟨_,h2⟩:=key l.length (Nat.le_refl _) (by omega) (by omega)
  rw [h2 i hi hi,h2 j hj hj]
 ·intro h i hi
  by_cases hz:i=0
  ·exact .inl hz
  ·right
   rw [ZB7 hi,<- ZEj]
   obtain ⟨m1,m2⟩:=ZEk (l.take i)
   have h0:l[0]'(by omega)∈l.take i:=by rw [List.mem_take_iff_getElem];exact ⟨0,by omega,rfl⟩
   rcases m2 with m2|⟨t,ht,m2⟩
   ·have h1:=m1 _ h0
    have h2:=h l[i] (List.getElem_mem hi) (l[0]'(by omega)) (List.getElem_mem _)
    rw [m2];omega
   ·have h2:=h l[i] (List.getElem_mem hi) t (List.mem_of_mem_take ht)
    rw [m2,h2]
theorem ZGf {l:Cx} (h:∀ s∈l,Z3 s=0):ZJ3 l=ZDo l:=by
 rw [Bool.eq_iff_iff,ZGe (fun s hs=>by have:=ZP.1 (h s hs);omega),ZPk]
end
section
open Go.RowKit

theorem ZDa (xs:List Vx) (hl:xs.length≤1000):Fn Tryz.prog 62 [dS ZI xs] (dS ZI xs):=by
 (refine ZH Tryz.func62 rfl rfl ?_;simp only [Tryz.ntmps62,List.length_cons,List.length_nil,Nat.reduceAdd,Nat.reduceSub,List.replicate_succ,List.replicate_zero,List.cons_append,List.nil_append])
 ((repeat' (first |  (refine ZHd 4 rfl fun b hb=>?_;dsimp only [z0,z1])|(apply WL.opN;exact yF;dsimp only [ZA,z0,z1])|refine WL.nil ?_|refine ZC fun Kx hK=>?_|(refine hK _ _ ?_;clear hK)|refine WC.region ?_ |  (apply ZE2 elV RV (by decide);(intro _;dsimp only [ZA,z0,z1]);all_goals (try infer_instance))|((first|apply WL.appK|apply WL.app1);(exact eD);exact OpD.t rfl;(exact oD);decide;(exact lD);(intro _;dsimp only [ZA,z0,z1]);all_goals (try infer_instance))|(apply WL.opN;(focus ((first|(apply ZHX;exact OpD.t rfl;(exact fun _ _ _ h=>ZVI h);exact ZMw;exact ZOW)|fail);all_goals infer_instance));dsimp only [ZA,z0,z1])|(apply WC.cond;(exact oD);all_goals (intro h;try exact xD))|refine WC.skip ?_|refine WC.ret ?_|refine ThenD.r ?_));all_goals (first|((repeat clear hK);(repeat clear Kx))))
 ·rw [hb h];(refine ⟨trivial,_,rfl,?_⟩;exact fD)
 ·rw [List.nil_append];(refine ⟨trivial,_,rfl,?_⟩;exact fD)
theorem ZGy {s:List Vx} (h:Z3 s=0):∀ v∈s,okV v:=fun v hv=>by
 have:=ZMM.1 ((ZP.1 h).2.2.1 v hv)
 unfold okV ZKp
 omega
theorem ZGI {l:Cx}:∀ n,n≤l.length->((ZIl (l.take n)).map (·.1)).Nodup/\∀ v,v∈(ZIl (l.take n)).map (·.1)->∃ s∈l,v∈s:=by
 have put:∀ (m:List (Vx × List Int)) (v:Vx) (i:Int),(m.map (·.1)).Nodup->((ZMf m v i).map (·.1)).Nodup/\∀ u,u∈(ZMf m v i).map (·.1)->u=v\/u∈m.map (·.1):=by
  intro m v i hm
  unfold ZMf ZBr
  split
  ·rename_i h
   have e:(m.map fun p=>if p.1=v then (v,(lookM m v).getD []++[i]) else p).map (·.1)=m.map (·.1):=by
    rw [List.map_map]
    refine List.map_congr_left fun p _=>?_
    show (if p.1=v then (v,(lookM m v).getD []++[i]) else p).1=p.1
    split
    ·rename_i h;exact h.symm
    ·rfl
   rw [e]
   exact ⟨hm,fun u hu=>.inr hu⟩
  ·rename_i h
   rw [List.map_append]
   refine ⟨?_,fun u hu=>?_⟩
   ·rw [List.nodup_append]
    refine ⟨hm,by simp,fun a ha b hb=>?_⟩
    have:b=v:=by simpa using hb
    subst this
    intro hab
    subst hab
    obtain ⟨p,hp,hpv⟩:=List.mem_map.1 ha
    apply h
    unfold lookM
    rw [Option.isSome_map]
    rw [List.find?_isSome]
    exact ⟨p,hp,by simpa using hpv⟩
   ·rcases List.mem_append.1 hu with hu|hu
    ·exact .inr hu
    ·exact .inl (by simpa using hu)
 have all:∀ (s:List Vx) (m:List (Vx × List Int)) (i:Int),(m.map (·.1)).Nodup->((ZOo m s i).map (·.1)).Nodup/\∀ u,u∈(ZOo m s i).map (·.1)->u∈s\/u∈m.map (·.1):=by
  intro s
  induction s with
  | nil=>intro m i hm;exact ⟨hm,fun u hu=>.inr hu⟩
  | cons v s ih =>
   intro m i hm
   obtain ⟨h1,h2⟩:=put m v i hm
   obtain ⟨h3,h4⟩:=ih (ZMf m v i) i h1
   refine ⟨h3,fun u hu=>?_⟩
   rcases h4 u hu with h|h
   ·exact .inl (by simp [h])
   ·rcases h2 u h with h|h
    ·exact .inl (by simp [h])
    ·exact .inr h
 intro n
 induction n with
 | zero=>intro _;exact ⟨by simp [ZIl],fun v hv=>by simp [ZIl] at hv⟩
 | succ n ih =>
  intro hn
  obtain ⟨h1,h2⟩:=ih (by omega)
  rw [ZGW (by omega)]
  obtain ⟨h3,h4⟩:=all l[n] (ZIl (l.take n)) (n:Int) h1
  refine ⟨h3,fun v hv=>?_⟩
  rcases h4 v hv with h|h
  ·exact ⟨l[n],List.getElem_mem _,h⟩
  ·exact h2 v h
theorem ZE9 (l:Cx):((ZIl l).map (·.1)).Nodup:=by
 have:=(ZGI (l:=l) l.length (Nat.le_refl _)).1
 rwa [List.take_length] at this
theorem ZKo {l:Cx} (h:∀ s∈l,Z3 s=0):∀ p∈ZIl l,okV p.1:=fun p hp=>by
 have:=(ZGI (l:=l) l.length (Nat.le_refl _)).2 p.1
 rw [List.take_length] at this
 obtain ⟨s,hs,hv⟩:=this (List.mem_map_of_mem hp)
 exact ZGy (h s hs) _ hv
theorem isKV {x:Vx}:IsV (dS RV x) (kvV x):=⟨fun _ _ _ h=>h⟩
theorem ZIR {s:List Vx} (h:Z3 s=0):0<s.length:=by have:=ZP.1 h;omega
theorem ZDI {s:List Vx} (h:Z3 s=0):s.length≤8:=by have:=ZP.1 h;omega
set_option maxHeartbeats 4000000 in
theorem ZKd (l:Cx) (hg:∀ s∈l,Z3 s=0) (hl:l.length≤1000000):Fn Tryz.prog 84 [dS ZAe l] (dS Cpx (ZCv l)):=by
 (refine ZDS tyC Tryz.func84 rfl rfl ?_;simp only [Tryz.ntmps84,List.length_cons,List.length_nil,Nat.reduceAdd,Nat.reduceSub,List.replicate_succ,List.replicate_zero,List.cons_append,List.nil_append])
 (repeat' (first|((first|apply WL.opN|apply WD.opN);exact yF;dsimp only [ZA,z0,z1])|refine WL.nil ?_|refine ZC fun Kx hK=>?_|(refine hK _ _ ?_;clear hK)|refine WC.region ?_ |  (refine WL.alloc tzC (ZX rfl) fun b2=>?_;dsimp only [ZA,z0,z1]) |  (refine ZAT (hp1:=[]) (caps:=[]) (ZTX l hl) Tryz.call104 OpD.f (by (exact aD)) ?_;rintro d' hp2 ⟨v,rfl,rfl⟩;dsimp only [ZA,z0,z1,List.cons_append,List.nil_append]) |  (apply ZLN;exact OpD.t rfl;omega;intro ys hperm hsort;dsimp only [ZA,z0,z1])))
 refine ZAT (hp1:=[_]) (caps:=[]) (ZOO ys v hsort (by rw [hperm.length_eq];omega)) Tryz.call105 OpD.f (ArgsD.cons (OpD.t rfl) (ArgsD.cons ⟨ZGY Tryz.call38 fun x:List Vx × List Vx=>ZUo x.1 x.2⟩ ArgsD.nil)) ?_
 rintro d' hp2 ⟨v2,zs,hzs,rfl,rfl⟩
 dsimp only [ZA,z0,z1,List.cons_append,List.nil_append]
 (repeat' (first|((first|apply WL.opN|apply WD.opN);exact yF;dsimp only [ZA,z0,z1])|refine WL.nil ?_|refine ZC fun Kx hK=>?_|(refine hK _ _ ?_;clear hK)|refine WC.region ?_))
 refine ZQV (s:=0) (t:=13) rfl rfl ?_
 dsimp only [z0,z1]
 have hzg:∀ s∈zs,Z3 s=0:=fun s hs=>hg s (hperm.mem_iff.1 ((hzs.2 s).1 hs))
 have hzl:zs.length≤1000000:=by
  have h1:=hperm.length_eq
  have h2:zs.length≤ys.length:=List.Nodup.length_le_of_subset hzs.1.nodup fun x hx=>(hzs.2 x).1 hx
  omega
 (repeat' (first|((first|apply WL.opN|apply WD.opN);exact yF;dsimp only [ZA,z0,z1])|refine WL.nil ?_|refine ZC fun Kx hK=>?_|(refine hK _ _ ?_;clear hK)|refine WC.region ?_ |  (refine WL.alloc tzC (ZX rfl) fun b4=>?_;dsimp only [ZA,z0,z1])|((first|apply WL.opN|apply WD.opN);(focus ((first|(apply SY.call (ZGX zs hzl (fun s hs=>ZGy (hzg s hs)) (fun s hs=>Nat.le_trans (ZDI (hzg s hs)) (by decide))) Tryz.call64;(exact aD))|exact ZBq|fail);all_goals infer_instance));dsimp only [ZA,z0,z1])|refine WC.block ?_))
 have hgood:zs.filter (fun s=>!ZAY zs s)=ZCv l:=ZTt (fun s hs=>ZIR (hg s hs)) hzs.1 fun u=>(hzs.2 u).trans hperm.mem_iff
 refine ZEF 28 ZI ?_
 (refine WC.loopU (X:=Nat × Value × Cx) (fun x=>[(17,dI (x.1:Int)),(6,dA),(18,dA),(19,dA),(20,dA),(21,dA),(22,dA),(23,dA),(24,dA),(25,dA),(26,dA),(27,dA),(28,dA),(29,dA),(30,dA),(31,dA),(32,dA),(33,dA),(34,dA),(35,dA),(36,dA),(37,dA)]) (fun x=>(Zr x.2.1 28 ZI x.2.2::hC1 b4 24 x.2.1::Zh b2 24 1 true (dX (.agg #[.slice none 0 0]))::[])) (fun x=>zs.length-x.1) (fun x=>x.1≤zs.length/\x.2.2=(zs.take x.1).filter (fun s=>!ZAY zs s)) (0,.slice none 0 0,[]) ?start ?frame0 ?objs0 ?round)
 case start=>exact ⟨Nat.zero_le _,by simp⟩
 case frame0=>((try dsimp only [Za,z0,z1]);repeat (first|exact LeF.nil|refine ZF (k:=?_)))
 case objs0=>rfl
 case round =>
  rintro ⟨k,v,o⟩ ⟨h1,h2⟩
  simp only at h1 h2
  have hol:o.length≤1000000:=by
   have h3:=List.length_filter_le (fun s=>!ZAY zs s) (zs.take k)
   rw [List.length_take,<- h2] at h3
   omega
  dsimp only [Za,z0,z1]
  ((repeat' (first |  (apply WC.drawTail 5;kernel_rfl;kernel_rfl;simp only [List.take_succ_cons,List.take_zero,List.drop_succ_cons,List.drop_zero])|(refine WRd.nil ?_)|(apply ZBn rfl;(focus (intro c hcc;apply SYG.yes;(exact Zc rfl);((first|(apply ZDw elV (OpD.t rfl) OpD.i 0 rfl;exact ZIR (hzg _ (List.getElem_mem _)))|(refine ZED (a0:=([]:List Int)) ZFt ZBc (OpD.t rfl) (OpD.t rfl) isKV (ZGy (hzg _ (List.getElem_mem _)) _ (List.getElem_mem _)) (ZKo hzg) (ZE9 zs) (fun _ _=>ZCG))|(apply SY.call (ZE8 _ _ _ ZKX) Tryz.call65;(exact aD))|(apply ZKP ZAA;exact OpD.t rfl)|(apply ZIy ZIn;exact OpD.t rfl;exact .tail _ (.head _))|(apply SY.call (ZDa _ (Nat.le_trans (ZDI (hzg _ (List.getElem_mem _))) (by decide))) Tryz.call62;(exact aD))|exact ZD6|exact yAssign|exact ZBy|exact ZP5|exact ZCk|exact ZFO|exact yLoadh|exact ZBq|exact Zg|exact Z8|exact ZBj|fail);all_goals infer_instance)));dsimp only [ZA,z0,z1])|((first|apply WL.opN|apply WD.opN);exact yF;dsimp only [ZA,z0,z1])|refine WL.nil ?_|refine WD.nil ?_|refine ZC fun Kx hK=>?_|(refine hK _ _ ?_;clear hK)|(refine Kont.skip ?_;clear hK)|refine WC.region ?_|(apply WC.draw;kernel_rfl;kernel_rfl) |  (refine WL.perm (List.Perm.swap _ _ _) ?_;refine ZMd ZIn (OpD.t rfl) (OpD.t rfl) (.head _) ?_;refine WL.perm (List.Perm.swap _ _ _) ?_;dsimp only [ZA,z0,z1])|((first|apply ZO|apply ZM);(exact eD);exact OpD.t rfl;(exact oD);(intro _;exact hD);(exact (by simp));(exact (by simp));(first|exact ⟨by decide,by decide⟩|skip);decide;(exact lD);(intro _;dsimp only [ZA,z0,z1]);all_goals (try infer_instance))|((first|apply WL.appK|apply WL.app1);(exact eD);exact OpD.t rfl;(exact oD);decide;(exact lD);(intro _;dsimp only [ZA,z0,z1]);all_goals (try infer_instance))|((apply (WL.perm (List.Perm.swap _ _ _));(first|apply ZO|apply ZM);(exact eD);exact OpD.t rfl;(exact oD);(intro _;exact hD);(exact (by simp));(exact (by simp));(first|exact ⟨by decide,by decide⟩|skip);decide;(exact lD);(intro _;dsimp only [ZA,z0,z1]);all_goals (try infer_instance)))|((apply (WL.perm (List.Perm.swap _ _ _));(first|apply WL.appK|apply WL.app1);(exact eD);exact OpD.t rfl;(exact oD);decide;(exact lD);(intro _;dsimp only [ZA,z0,z1]);all_goals (try infer_instance)))|(apply WL.alloc;(first|exact tzV|exact tzC);(first|exact ZN rfl|exact ZW|exact ZX rfl);(intro _;dsimp only [ZA,z0,z1]))|(apply ZG;(exact tD);rfl;(exact oD);(exact hD);dsimp only [ZA,z0,z1])|(apply ZT;(exact tD);rfl;(exact oD);(exact hD);dsimp only [ZA,z0,z1])|(apply ZU;(exact tD);rfl;(exact oD);(exact hD);dsimp only [ZA,z0,z1])|((first|apply WL.opN|apply WD.opN);(focus ((first|(apply ZDw elV (OpD.t rfl) OpD.i 0 rfl;exact ZIR (hzg _ (List.getElem_mem _)))|(refine ZED (a0:=([]:List Int)) ZFt ZBc (OpD.t rfl) (OpD.t rfl) isKV (ZGy (hzg _ (List.getElem_mem _)) _ (List.getElem_mem _)) (ZKo hzg) (ZE9 zs) (fun _ _=>ZCG))|(apply SY.call (ZE8 _ _ _ ZKX) Tryz.call65;(exact aD))|(apply ZKP ZAA;exact OpD.t rfl)|(apply ZIy ZIn;exact OpD.t rfl;exact .tail _ (.head _))|(apply SY.call (ZDa _ (Nat.le_trans (ZDI (hzg _ (List.getElem_mem _))) (by decide))) Tryz.call62;(exact aD))|exact ZBy|exact ZP5|exact ZCk|exact Zg|exact ZBj|fail);all_goals infer_instance));dsimp only [ZA,z0,z1])|(apply WC.condT;(exact oD);(with_reducible rfl))|(apply ZK;(exact oD);(with_reducible rfl))|(apply ZE;(exact oD);all_goals (intro h;try exact xD))|(apply WC.condN;(exact oD);all_goals (intro h;try exact xD))|(apply WC.condNB;(exact oD);all_goals (intro h;try exact xD))|(apply WC.cond;(exact oD);all_goals (intro h;try exact xD))|refine WC.skip ?_|refine WC.ret ?_|refine WC.exit ?_|refine WC.block ?_|refine ThenD.n ?_|refine ThenD.r ?_|refine ThenD.x ?_|refine InBlockD.x ?_|refine InBlockD.n ?_|refine InBlockD.r ?_|refine ZL (by decide) ?_));all_goals (first|refine WC.id ?_|refine WL.id ?_|((repeat clear hK);(repeat clear Kx))))
  ·rename_i h0 v'
   rw [ZLS hzg (hzg _ (List.getElem_mem (show k<zs.length by omega))) (List.getElem_mem _)] at h
   (refine ⟨(k+1,v',o++[zs[k]]),?_,by first|omega|(simp only;omega),rfl,?_⟩;rotate_left;((try dsimp only [Za,z0,z1]);repeat (first|exact LeF.nil|refine ZF (k:=?_)));(try dsimp only))
   refine ⟨by omega,?_⟩
   show o++_=_
   rw [ZEY (by omega),if_pos (by rw [h];rfl),h2]
  ·rw [ZLS hzg (hzg _ (List.getElem_mem (show k<zs.length by omega))) (List.getElem_mem _)] at h
   (refine ⟨(k+1,v,o),?_,by first|omega|(simp only;omega),rfl,?_⟩;rotate_left;((try dsimp only [Za,z0,z1]);repeat (first|exact LeF.nil|refine ZF (k:=?_)));(try dsimp only))
   refine ⟨by omega,?_⟩
   show o=_
   rw [ZEY (by omega),if_neg (by rw [h];decide),h2,List.append_nil]
  ·rw [List.take_of_length_le (by omega),hgood] at h2
   subst h2
   refine ZB0 (.head _) _root_.id fun hv=>?_
   obtain ⟨ad,c,rfl⟩:=hv
   ((repeat' (first|((first|apply WL.opN|apply WD.opN);exact yF;dsimp only [ZA,z0,z1])|refine WL.nil ?_|refine WD.nil ?_|refine ZC fun Kx hK=>?_|(refine hK _ _ ?_;clear hK)|(refine Kont.skip ?_;clear hK)|refine WC.region ?_|(apply WC.draw;kernel_rfl;kernel_rfl) |  (apply ZU tyC;rfl;exact OpD.t rfl;exact ZX rfl;dsimp only [ZA,z0,z1])|((first|apply ZO|apply ZM);(exact eD);exact OpD.t rfl;(exact oD);(intro _;exact hD);(exact (by simp));(exact (by simp));(first|exact ⟨by decide,by decide⟩|skip);decide;(exact lD);(intro _;dsimp only [ZA,z0,z1]);all_goals (try infer_instance))|((first|apply WL.appK|apply WL.app1);(exact eD);exact OpD.t rfl;(exact oD);decide;(exact lD);(intro _;dsimp only [ZA,z0,z1]);all_goals (try infer_instance))|((apply (WL.perm (List.Perm.swap _ _ _));(first|apply ZO|apply ZM);(exact eD);exact OpD.t rfl;(exact oD);(intro _;exact hD);(exact (by simp));(exact (by simp));(first|exact ⟨by decide,by decide⟩|skip);decide;(exact lD);(intro _;dsimp only [ZA,z0,z1]);all_goals (try infer_instance)))|((apply (WL.perm (List.Perm.swap _ _ _));(first|apply WL.appK|apply WL.app1);(exact eD);exact OpD.t rfl;(exact oD);decide;(exact lD);(intro _;dsimp only [ZA,z0,z1]);all_goals (try infer_instance)))|(apply WL.alloc;(first|exact tzV|exact tzC);(first|exact ZN rfl|exact ZW|exact ZX rfl);(intro _;dsimp only [ZA,z0,z1]))|(apply ZG;(exact tD);rfl;(exact oD);(exact hD);dsimp only [ZA,z0,z1])|(apply ZT;(exact tD);rfl;(exact oD);(exact hD);dsimp only [ZA,z0,z1])|(apply ZU;(exact tD);rfl;(exact oD);(exact hD);dsimp only [ZA,z0,z1])|((first|apply WL.opN|apply WD.opN);(focus ((first|(apply ZJ tyC;exact OpD.t rfl;exact .tail _ (.head _))|exact ZD6|exact yAssign|exact ZBy|exact ZP5|exact ZCk|exact ZFO|exact yLoadh|exact ZBq|exact Zg|exact Z8|exact ZBj|fail);all_goals infer_instance));dsimp only [ZA,z0,z1])|(apply WC.condT;(exact oD);(with_reducible rfl))|(apply ZK;(exact oD);(with_reducible rfl))|(apply ZE;(exact oD);all_goals (intro h;try exact xD))|(apply WC.condN;(exact oD);all_goals (intro h;try exact xD))|(apply WC.condNB;(exact oD);all_goals (intro h;try exact xD))|(apply WC.cond;(exact oD);all_goals (intro h;try exact xD))|refine WC.skip ?_|refine WC.ret ?_|refine WC.exit ?_|refine WC.block ?_|refine ThenD.n ?_|refine ThenD.r ?_|refine ThenD.x ?_|refine InBlockD.x ?_|refine InBlockD.n ?_|refine InBlockD.r ?_|refine ZL (by decide) ?_));all_goals (first|refine WC.id ?_|refine WL.id ?_|((repeat clear hK);(repeat clear Kx))))
   exact ⟨trivial,_,rfl,ZNH (.head _)⟩
end
section
open Go.RowKit

theorem ZQh {l:Cx} {p:List Vx->Bool} {k:Nat} (h:k<l.length):(l.take (k+1)).any p=((l.take k).any p || p l[k]):=by rw [ZZ h,List.any_append];simp
set_option maxHeartbeats 4000000 in
theorem ZBe (l:Cx):Fn Tryz.prog 32 [dS Cpx l] (dI (ZAr l)):=by
 (refine ZH Tryz.func32 rfl rfl ?_;simp only [Tryz.ntmps32,List.length_cons,List.length_nil,Nat.reduceAdd,Nat.reduceSub,List.replicate_succ,List.replicate_zero,List.cons_append,List.nil_append])
 ((repeat' (first|((first|apply WL.opN|apply WD.opN);exact yF;dsimp only [ZA,z0,z1])|refine WL.nil ?_|refine ZC fun Kx hK=>?_|(refine hK _ _ ?_;clear hK)|refine WC.region ?_|((first|apply ZS|apply WD.op);(focus (first|exact wN|(apply SYG.yes;(exact wY);((first|exact ZIh|exact ZBq|exact Z8|exact ZG4|fail);all_goals infer_instance))));dsimp only [ZA,z0,z1])|(apply ZE;(exact oD);all_goals (intro h;try exact xD))|refine WC.skip ?_|refine WC.ret ?_|refine WC.block ?_|refine ThenD.r ?_));all_goals (first|refine WC.id ?_|((repeat clear hK);(repeat clear Kx))))
 ·(refine ⟨trivial,_,rfl,?_⟩;refine FinD.i ?_)
  unfold ZAr;rw [if_pos (by omega)]
 ·have hs:ZAr l=if ZFR none l≠0 then ZFR none l else if ZC2 l=true then 7 else 0:=by unfold ZAr;rw [if_neg (by omega)]
  (refine WC.loopU (X:=Nat) (fun k=>[(16,dI (k:Int)),(2,dA),(3,dA),(4,dA),(5,dA),(17,dA),(18,dA),(19,dA),(20,dA),(21,dA),(22,dA),(23,dA),(24,dA),(25,dA),(26,dA),(27,dA),(28,dA),(29,dA),(30,dA),(31,dA),(32,dA),(33,dA),(34,dA),(35,dA),(36,dA),(37,dA),(38,dA),(39,dA)]) (fun k=>[]) (fun k=>l.length-k) (fun k=>k≤l.length/\ZFR none l=ZFR (l.take k).getLast? (l.drop k)) 0 ?start ?frame0 ?objs0 ?round)
  case start=>exact ⟨Nat.zero_le _,rfl⟩
  case frame0=>((try dsimp only [Za,z0,z1]);repeat (first|exact LeF.nil|refine ZF (k:=?_)))
  case objs0=>rfl
  case round =>
   rintro k ⟨h3,h4⟩
   dsimp only [Za,z0,z1]
   ((repeat' (first|((first|apply WL.opN|apply WD.opN);exact yF;dsimp only [ZA,z0,z1])|refine WL.nil ?_|refine ZC fun Kx hK=>?_|(refine hK _ _ ?_;clear hK)|(refine Kont.skip ?_;clear hK)|refine WC.region ?_|((first|apply ZS|apply WD.op);(focus (first|exact wN|(apply SYG.yes;(exact wY);((first|(apply SY.call (ZJN _ _) Tryz.call61;(exact aD))|(apply SY.call (ZJJ _) Tryz.call63;(exact aD))|(apply ZSC ZDz (OpD.t rfl) (OpD.t rfl) (k-1);omega;omega)|exact ZD6|exact ZBy|exact ZIh|exact ZS0|exact ZFc|exact ZCk|exact ZNF|exact ZFO|exact Zg|exact Z8|exact ZFP|fail);all_goals infer_instance))));dsimp only [ZA,z0,z1])|((first|refine Zl rfl rfl rfl (fun h=>?_) (fun h=>?_)|refine Zk rfl rfl rfl (fun h=>?_) (fun h=>?_)|refine Zj rfl rfl rfl (fun h=>?_) (fun h=>?_)|refine ZAS rfl rfl rfl (fun h=>?_) (fun h=>?_)|refine ZAR rfl rfl rfl (fun h=>?_) (fun h=>?_)|refine Z9 rfl rfl rfl (fun h=>?_) (fun h=>?_)) <;> (first|(exfalso;first|omega|contradiction)|(dsimp only [z0,z1])))|(apply ZK;(exact oD);(with_reducible rfl))|(apply ZE;(exact oD);all_goals (intro h;try exact xD))|(apply WC.condN;(exact oD);all_goals (intro h;try exact xD))|refine WC.skip ?_|refine WC.ret ?_|refine WC.exit ?_|refine WC.block ?_|refine ThenD.n ?_|refine ThenD.r ?_|refine InBlockD.r ?_));all_goals (first|refine WL.id ?_|((repeat clear hK);(repeat clear Kx))))
   all_goals try (rw [ZJI l k (by omega)] at h4)
   ·(refine ⟨trivial,_,rfl,?_⟩;refine FinD.i ?_)
    rw [hs,h4,if_pos h,if_pos h]
   ·(refine ⟨trivial,_,rfl,?_⟩;refine FinD.i ?_)
    have h5:¬ Z3 l[k]≠0:=by omega
    rw [if_neg h5,ZDe _ _ (by omega) (by omega),if_pos (by simpa using h)] at h4
    rw [hs,h4];rfl
   ·(refine ⟨k+1,?_,by first|omega|(simp only;omega),rfl,?_⟩;rotate_left;((try dsimp only [Za,z0,z1]);repeat (first|exact LeF.nil|refine ZF (k:=?_)));(try dsimp only))
    refine ⟨by omega,?_⟩
    have h5:¬ Z3 l[k]≠0:=by omega
    rw [h4,if_neg h5,ZDe _ _ (by omega) (by omega),if_neg (by simpa using h)]
   ·(refine ⟨k+1,?_,by first|omega|(simp only;omega),rfl,?_⟩;rotate_left;((try dsimp only [Za,z0,z1]);repeat (first|exact LeF.nil|refine ZF (k:=?_)));(try dsimp only))
    refine ⟨by omega,?_⟩
    have h5:¬ Z3 l[k]≠0:=by omega
    have h0:(l.take k).getLast?=none:=by
     have:k=0:=by omega
     rw [this];rfl
    rw [h4,if_neg h5,h0]
    rfl
   ·rw [List.drop_of_length_le (by omega)] at h4
    have h4':ZFR none l=0:=h4
    have hs':ZAr l=if ZC2 l=true then 7 else 0:=by rw [hs,if_neg (by omega)]
    clear hs h4
    obtain ⟨ha,_,hg⟩:=ZHr l none h4'
    rw [ZGn ha hg] at hs'
    have hl1:l.length≤1000000:=by omega
    (repeat' (first|((first|apply WL.opN|apply WD.opN);exact yF;dsimp only [ZA,z0,z1])|refine WL.nil ?_|refine ZC fun Kx hK=>?_|(refine hK _ _ ?_;clear hK)|refine WC.region ?_|((first|apply ZS|apply WD.op);(focus (first|exact wN|(apply SYG.yes;(exact wY);((first|(apply SY.call (ZGX l hl1 (fun s hs=>ZGy (hg s hs)) (fun s hs=>Nat.le_trans (ZDI (hg s hs)) (by decide))) Tryz.call64;(exact aD))|exact ZBq|exact Z8|fail);all_goals infer_instance))));dsimp only [ZA,z0,z1])|refine WC.block ?_))
    (refine WC.loopU (X:=Nat) (fun i=>[(46,dI (i:Int)),(2,dA),(8,dA),(47,dA),(48,dA),(49,dA),(50,dA),(51,dA),(52,dA),(53,dA),(54,dA),(55,dA),(56,dA),(57,dA),(58,dA),(59,dA)]) (fun i=>[]) (fun i=>l.length-i) (fun i=>i≤l.length/\(l.take i).any (fun s=>ZAY l s)=false) 0 ?start ?frame0 ?objs0 ?round)
    case start=>exact ⟨Nat.zero_le _,rfl⟩
    case frame0=>((try dsimp only [Za,z0,z1]);repeat (first|exact LeF.nil|refine ZF (k:=?_)))
    case objs0=>rfl
    case round =>
     rintro i ⟨h5,h6⟩
     dsimp only [Za,z0,z1]
     ((repeat' (first|((first|apply WL.opN|apply WD.opN);exact yF;dsimp only [ZA,z0,z1])|refine WL.nil ?_|refine WD.nil ?_|refine ZC fun Kx hK=>?_|(refine hK _ _ ?_;clear hK)|(refine Kont.skip ?_;clear hK)|refine WC.region ?_|(apply WC.draw;kernel_rfl;kernel_rfl)|((first|apply ZS|apply WD.op);(focus (first|exact wN|(apply SYG.yes;(exact wY);((first|(apply ZDw elV (OpD.t rfl) OpD.i 0 rfl;exact ZIR (hg _ (List.getElem_mem _)))|(refine ZED (a0:=([]:List Int)) ZFt ZBc (OpD.t rfl) (OpD.t rfl) isKV (ZGy (hg _ (List.getElem_mem _)) _ (List.getElem_mem _)) (ZKo hg) (ZE9 l) (fun _ _=>ZCG))|(apply SY.call (ZE8 _ _ _ ZKX) Tryz.call65;(exact aD))|exact ZBy|exact ZCk|exact Zg|exact Z8|fail);all_goals infer_instance))));dsimp only [ZA,z0,z1])|(apply ZE;(exact oD);all_goals (intro h;try exact xD))|(apply WC.cond;(exact oD);all_goals (intro h;try exact xD))|refine WC.skip ?_|refine WC.ret ?_|refine WC.exit ?_|refine WC.block ?_|refine ThenD.n ?_|refine ThenD.r ?_|refine InBlockD.r ?_));all_goals (first|((repeat clear hK);(repeat clear Kx))))
     ·rw [ZLS hg (hg _ (List.getElem_mem (show i<l.length by omega))) (List.getElem_mem _)] at h
      (refine ⟨trivial,_,rfl,?_⟩;refine FinD.i ?_)
      rw [hs',if_pos]
      exact List.any_eq_true.2 ⟨l[i],List.getElem_mem _,h⟩
     ·rw [ZLS hg (hg _ (List.getElem_mem (show i<l.length by omega))) (List.getElem_mem _)] at h
      (refine ⟨i+1,?_,by first|omega|(simp only;omega),rfl,?_⟩;rotate_left;((try dsimp only [Za,z0,z1]);repeat (first|exact LeF.nil|refine ZF (k:=?_)));(try dsimp only))
      exact ⟨by omega,by rw [ZQh (by omega),h6,h];rfl⟩
     ·rw [List.take_of_length_le (by omega)] at h6
      (refine ⟨trivial,_,rfl,?_⟩;refine FinD.i ?_)
      rw [hs',if_neg (by rw [h6];decide)]
end
end Go.Proofs.YtekiljakcngcoaaGreatDoor
