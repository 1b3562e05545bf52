/- Part 17: walks by contracts, and plain laws. -/
import Derived.Test.YtokmalofdapffaaGreatV16
set_option linter.unusedVariables false
set_option linter.unusedSimpArgs false
set_option linter.unusedSectionVars false
set_option maxRecDepth 100000
set_option maxHeartbeats 4000000
namespace Go.Proofs.YtokmalofdapffaaGreat
section
open Go.RowKit

section
variable {P:Program} {ops:Array Oper} {hp:List HObj} {fr:List Dat} {dst:Option Tmp} {ty:TypeId} {ps:String} {af:Array Edge} {g:Option (Nat × Bool)}
theorem ZMJ {x y:Operand} {m n:Int} {ats:Array TypeId} (hx:OpD fr x (dI m)) (hy:OpD fr y (dI n)):SY P ops hp ⟨dst,.call { callee:=.builtin .min,args:=#[x,y],argTypes:=ats },ty,ps,af,g⟩ fr (dI (if n<m then n else m)) :=
 SY.val fun {I w a} ho=>⟨.int .i64 (if n<m then n else m),by
  have h1:a.eval x = .int .i64 m:=hx.get (by simp [Op.operands,Call.operands]) ho
  have h2:a.eval y = .int .i64 n:=hy.get (by simp [Op.operands,Call.operands]) ho
  unfold execOp
  simp [resolve,invoke,builtin,h1,h2,Builtin.min_,Builtin.min2],rfl⟩
theorem ZRK {x y:Operand} {m n:Int} {ats:Array TypeId} (hx:OpD fr x (dI m)) (hy:OpD fr y (dI n)):SY P ops hp ⟨dst,.call { callee:=.builtin .max,args:=#[x,y],argTypes:=ats },ty,ps,af,g⟩ fr (dI (if m<n then n else m)) :=
 SY.val fun {I w a} ho=>⟨.int .i64 (if m<n then n else m),by
  have h1:a.eval x = .int .i64 m:=hx.get (by simp [Op.operands,Call.operands]) ho
  have h2:a.eval y = .int .i64 n:=hy.get (by simp [Op.operands,Call.operands]) ho
  unfold execOp
  simp [resolve,invoke,builtin,h1,h2,Builtin.max_,Builtin.max2],rfl⟩
end
def ZD8 (l:Cx):Int:=l.foldl (fun m s=>if (s.length:Int)<m then (s.length:Int) else m) 8
def ZEx (l:Cx):Int:=l.foldl (fun m s=>if m<(s.length:Int) then (s.length:Int) else m) 0
theorem ZJm {l:Cx} {k:Nat} (h:k<l.length):ZD8 (l.take (k+1))=if (l[k].length:Int)<ZD8 (l.take k) then (l[k].length:Int) else ZD8 (l.take k):=by
 unfold ZD8;rw [ZU h,List.foldl_append];rfl
theorem ZLj {l:Cx} {k:Nat} (h:k<l.length):ZEx (l.take (k+1))=if ZEx (l.take k)<(l[k].length:Int) then (l[k].length:Int) else ZEx (l.take k):=by
 unfold ZEx;rw [ZU h,List.foldl_append];rfl
def ZIz (l:Cx):Bool:=decide (ZEx l=0) || decide (ZD8 l=ZEx l)
theorem ZJc (l:Cx) (hs:∀ s∈l,s.length≤1000):Fn Tryz.prog 60 [dS Cpx l] (dT [dI (ZEx l-1),dB (ZIz l)]):=by
 (refine Z7 Tryz.func60 rfl rfl ?_;simp only [Tryz.ntmps60,List.length_cons,List.length_nil,Nat.reduceAdd,Nat.reduceSub,List.replicate_succ,List.replicate_zero,List.cons_append,List.nil_append])
 (repeat' (first|(apply WL.opN;exact yF;dsimp only [ZB,z0,z1])|refine WL.nil ?_|refine ZA fun Kx hK=>?_|(refine hK _ _ ?_;clear hK)|refine WC.region ?_|(apply ZF;(focus (first|exact wN|(apply SYG.yes;(exact wY);((first|exact ZBw|exact Z4|exact ZF3|fail);all_goals infer_instance))));dsimp only [ZB,z0,z1])|refine WC.block ?_))
 (first|refine ZV (t:=0) rfl ZGA fun hl0=>?_|refine ZV (t:=0) rfl ZF5 fun hl0=>?_|refine ZV (t:=0) rfl ZRq fun hl0=>?_);simp only [maxLen] at hl0
 (refine ZH (X:=Nat × Int × Int) (fun x=>[(11,dI (x.1:Int)),(4,dI x.2.1),(5,dI x.2.2),(7,dA),(12,dA),(13,dA),(14,dA),(15,dA),(16,dA),(17,dA),(18,dA),(19,dA),(20,dA),(21,dA),(22,dA),(23,dA)]) (fun x=>[]) (fun x=>l.length-x.1) (fun x=>x.1≤l.length/\x.2.1=ZD8 (l.take x.1)/\x.2.2=ZEx (l.take x.1)/\0≤x.2.2/\x.2.2≤1000) (0,8,0) ?start ?frame0 ?objs0 ?round)
 case start=>exact ⟨Nat.zero_le _,rfl,rfl,by decide,by decide⟩
 case frame0=>((try dsimp only [ZQ,z0,z1]);repeat (first|exact LeF.nil|refine ZD (k:=?_)))
 case objs0=>rfl
 case round =>
  rintro ⟨k,a,b⟩ ⟨h1,h2,h3,h4,h5⟩
  simp only at h1 h2 h3 h4 h5
  dsimp only [ZQ,z0,z1]
  ((repeat' (first|(apply WL.opN;exact yF;dsimp only [ZB,z0,z1])|refine WL.nil ?_|refine ZA fun Kx hK=>?_|(refine hK _ _ ?_;clear hK)|(refine Kont.skip ?_;clear hK)|refine WC.region ?_|(apply ZF;(focus (first|exact wN|(apply SYG.yes;(exact wY);((first|(apply ZMJ;exact OpD.t rfl;exact OpD.t rfl)|(apply ZRK;exact OpD.t rfl;exact OpD.t rfl)|exact ZDe|exact ZCB|exact ZQp|exact ZCu|exact ZRJ|exact ZBw|exact ZS|exact ZEK|fail);all_goals infer_instance))));dsimp only [ZB,z0,z1])|((first|refine ZM rfl rfl rfl (fun h=>?_) (fun h=>?_)|refine ZL rfl rfl rfl (fun h=>?_) (fun h=>?_)|refine ZK rfl rfl rfl (fun h=>?_) (fun h=>?_)) <;> (first|(exfalso;first|omega|contradiction)|(dsimp only [z0,z1])))|(apply WC.condD;(exact oD);all_goals (intro h;try exact xD))|refine WC.skip ?_|refine WC.ret ?_|refine WC.exit ?_|refine WC.block ?_|refine ThenD.n ?_));all_goals (first|((repeat clear hK);(repeat clear Kx))))
  ·(refine ⟨(k+1,if (l[k].length:Int)<a then (l[k].length:Int) else a,if b<(l[k].length:Int) then (l[k].length:Int) else b),?_,by first|omega|(simp only;omega),rfl,?_⟩;rotate_left;((try dsimp only [ZQ,z0,z1]);repeat (first|exact LeF.nil|refine ZD (k:=?_)));(try dsimp only))
   have h9:=hs _ (List.getElem_mem (show k<l.length by omega))
   refine ⟨by omega,?_,?_,?_,?_⟩
   ·rw [ZJm (by omega),<- h2]
   ·rw [ZLj (by omega),<- h3]
   ·split <;> omega
   ·split <;> omega
  all_goals rw [List.take_of_length_le (by omega)] at h2 h3
  ·have e:ZIz l=true:=by unfold ZIz;rw [<- h3,decide_eq_true h];rfl
   rw [e,<- h3]
   (refine ⟨trivial,⟨_,rfl,?_⟩,_,rfl,?_⟩ <;> exact fD)
  ·have e:ZIz l=decide (a=b):=by unfold ZIz;rw [<- h3,<- h2,decide_eq_false h];rfl
   rw [e,<- h3]
   (refine ⟨trivial,⟨_,rfl,?_⟩,_,rfl,?_⟩ <;> exact fD)
end
section
open Go.RowKit

def ZQd (k:Nat) (out:Cx) (f:List Vx):Cx:=if f.length<k then out else (ZX k f).foldl ZHz out
theorem ZMj (c:Cx) (k:Nat):Zs c k=c.foldl (ZQd k) []:=rfl
theorem ZMk {l:Cx} {k i:Nat} (h:i<l.length):Zs (l.take (i+1)) k=ZQd k (Zs (l.take i) k) l[i]:=by
 rw [ZMj,ZMj,ZU h,List.foldl_append];rfl
theorem ZOQ {k:Nat} {out:Cx} {f:List Vx} (h:f.length≤8):(ZQd k out f).length≤out.length+256:=by
 unfold ZQd
 split
 ·omega
 ·have h1:=ZFj (ZX k f) out
  have h2:=Nat.le_trans (ZCb k f) (Nat.pow_le_pow_right (by decide) h:2 ^ f.length≤2 ^ 8)
  omega
theorem ZKG:∀ (l:Cx) (k i:Nat),(∀ f∈l,f.length≤8)->i≤l.length->(Zs (l.take i) k).length≤256*i
 | l,k,0,_,_=>by simp [Zs]
 | l,k,i+1,h,hi=>by
  rw [ZMk (by omega)]
  have h1:=ZOQ (k:=k) (out:=Zs (l.take i) k) (h _ (List.getElem_mem (show i<l.length by omega)))
  have h2:=ZKG l k i h (by omega)
  omega
def ZBi (l:Cx) (k:Int):Cx × Int:=if ZA8 l≠0 then ([],ZA8 l) else if k<1\/8<k then ([],2) else if 4096<(Zs l k.toNat).length then ([],17) else (Zs l k.toNat,0)
theorem ZTH (k:Nat):((k:Int)+1).tmod 2=(((k+1) % 2:Nat):Int):=by rw [Int.tmod_eq_emod_of_nonneg (by omega)];omega
def ZEs (l:Cx):Nat->Int
 | 0=>0
 | k+1=>if (k+1) % 2=1 then ZEs l k+(Zs l (k+1)).length else ZEs l k-(Zs l (k+1)).length
def ZKV (l:Cx):Int × Int:=if ZA8 l≠0 then (0,ZA8 l) else if (List.range 8).any (fun k=>decide (4096<(Zs l (k+1)).length))=true then (0,17) else (ZEs l 8,0)
theorem ZNM (l:Cx) (h:∀ k,(Zs l k).length≤2000000):∀ k,ZEs l k≤2000000*k /\ -(2000000*(k:Int))≤ZEs l k
 | 0=>by simp [ZEs]
 | k+1=>by
  have h1:=ZNM l h k
  have h2:=h (k+1)
  unfold ZEs
  split <;> omega
end
section
theorem GoodX.asc {l:Cx} (h:GoodX l):∀ s∈l,Asc s:=fun s hs=>(Zk.1 (h.2.2.1 s hs)).2.2.2
theorem ZHX (l:Cx):ZEx l-1=ZF9 l:=by
 have go:∀ (l:Cx) (m:Int),l.foldl (fun m s=>if m<(s.length:Int) then (s.length:Int) else m) m-1=l.foldl (fun m s=>if m<(s.length:Int)-1 then (s.length:Int)-1 else m) (m-1):=by
  intro l
  induction l with
  | nil=>intro m;rfl
  | cons s l ih =>
   intro m
   rw [List.foldl_cons,List.foldl_cons,ih]
   congr 1
   split <;> split <;> omega
 exact go l 0
theorem ZHY (l:Cx):(∀ s∈l,(s.length:Int)≤ZEx l)/\(ZEx l=0\/∃ s∈l,ZEx l=s.length):=by
 have go:∀ (l:Cx) (m:Int),m≤l.foldl (fun m s=>if m<(s.length:Int) then (s.length:Int) else m) m/\(∀ s∈l,(s.length:Int)≤l.foldl (fun m s=>if m<(s.length:Int) then (s.length:Int) else m) m) /\
   (l.foldl (fun m s=>if m<(s.length:Int) then (s.length:Int) else m) m=m\/∃ s∈l,l.foldl (fun m s=>if m<(s.length:Int) then (s.length:Int) else m) m=s.length):=by
  intro l
  induction l with
  | nil=>intro m;simp
  | cons s l ih =>
   intro m
   rw [List.foldl_cons]
   obtain ⟨h1,h2,h3⟩:=ih (if m<(s.length:Int) then (s.length:Int) else m)
   refine ⟨by split at h1 <;> split <;> omega,fun x hx=>?_,?_⟩
   ·rcases List.mem_cons.1 hx with rfl|hx
    ·split at h1 <;> split <;> omega
    ·exact h2 x hx
   ·rcases h3 with h3|⟨x,hx,h3⟩
    ·rw [h3]
     split
     ·exact .inr ⟨s,by simp,rfl⟩
     ·exact .inl rfl
    ·exact .inr ⟨x,by simp [hx],h3⟩
 exact ⟨(go l 0).2.1,(go l 0).2.2⟩
theorem ZNc (l:Cx):(∀ s∈l,ZD8 l≤(s.length:Int))/\(ZD8 l=8\/∃ s∈l,ZD8 l=s.length):=by
 have go:∀ (l:Cx) (m:Int),l.foldl (fun m s=>if (s.length:Int)<m then (s.length:Int) else m) m≤m/\(∀ s∈l,l.foldl (fun m s=>if (s.length:Int)<m then (s.length:Int) else m) m≤(s.length:Int)) /\
   (l.foldl (fun m s=>if (s.length:Int)<m then (s.length:Int) else m) m=m\/∃ s∈l,l.foldl (fun m s=>if (s.length:Int)<m then (s.length:Int) else m) m=s.length):=by
  intro l
  induction l with
  | nil=>intro m;simp
  | cons s l ih =>
   intro m
   rw [List.foldl_cons]
   obtain ⟨h1,h2,h3⟩:=ih (if (s.length:Int)<m then (s.length:Int) else m)
   refine ⟨by split at h1 <;> split <;> omega,fun x hx=>?_,?_⟩
   ·rcases List.mem_cons.1 hx with rfl|hx
    ·split at h1 <;> split <;> omega
    ·exact h2 x hx
   ·rcases h3 with h3|⟨x,hx,h3⟩
    ·rw [h3]
     split
     ·exact .inr ⟨s,by simp,rfl⟩
     ·exact .inl rfl
    ·exact .inr ⟨x,by simp [hx],h3⟩
 exact ⟨(go l 8).2.1,(go l 8).2.2⟩
theorem ZN6 {l:Cx} (h8:∀ s∈l,s.length≠0/\s.length≤8):ZIz l=true↔∀ s∈l,∀ t∈l,s.length=t.length:=by
 obtain ⟨m1,m2⟩:=ZHY l
 obtain ⟨n1,n2⟩:=ZNc l
 unfold ZIz
 simp only [Bool.or_eq_true,decide_eq_true_eq]
 constructor
 ·rintro (h|h) s hs t ht
  ·have:=m1 s hs;have:=h8 s hs;omega
  ·have:=m1 s hs;have:=m1 t ht;have:=n1 s hs;have:=n1 t ht;omega
 ·intro h
  rcases m2 with m2|⟨s,hs,m2⟩
  ·exact .inl m2
  ·right
   rcases n2 with n2|⟨t,ht,n2⟩
   ·have:=n1 s hs;have:=h8 s hs;omega
   ·rw [m2,n2,h s hs t ht]
theorem ZOO {l:Cx}:ZON l=true↔∀ s∈l,∀ t∈l,s.length=t.length:=by
 unfold ZON
 rw [List.all_eq_true]
 simp only [List.mem_range,Bool.or_eq_true,decide_eq_true_eq]
 constructor
 ·intro h
  have key:∀ n,n≤l.length->0<n->∀ (h0:0<l.length),ZF9 (l.take n)=(l[0].length:Int)-1/\∀ (i:Nat) (hi:i<l.length),i<n->l[i].length=l[0].length:=by
   intro n
   induction n with
   | zero=>intro _ h;omega
   | succ n ih =>
    intro hn _ h0
    by_cases hz:n=0
    ·subst hz
     refine ⟨?_,fun i hi hi1=>?_⟩
     ·rw [ZId (by omega)]
      simp [ZF9];omega
     ·have:i=0:=by omega
      subst this;rfl
    ·obtain ⟨h1,h2⟩:=ih (by omega) (by omega) h0
     have h3:=h n (by omega)
     rcases h3 with h3|h3
     ·omega
     ·rw [ZCM (by omega),h1] at h3
      refine ⟨?_,fun i hi hi1=>?_⟩
      ·rw [ZId (by omega),h1,h3,if_neg (by omega)]
      ·by_cases hin:i=n
       ·subst hin;omega
       ·exact h2 i hi (by omega)
  intro s hs t ht
  obtain ⟨i,hi,rfl⟩:=List.getElem_of_mem hs
  obtain ⟨j,hj,rfl⟩:=List.getElem_of_mem ht
  obtain ⟨_,h2⟩:=key l.length (Nat.le_refl _) (by omega) (by omega)
  rw [h2 i hi hi,h2 j hj hj]
 ·intro h i hi
  by_cases hz:i=0
  ·exact .inl hz
  ·right
   rw [ZCM hi,<- ZHX]
   obtain ⟨m1,m2⟩:=ZHY (l.take i)
   have h0:l[0]'(by omega)∈l.take i:=by rw [List.mem_take_iff_getElem];exact ⟨0,by omega,rfl⟩
   rcases m2 with m2|⟨t,ht,m2⟩
   ·have h1:=m1 _ h0
    have h2:=h l[i] (List.getElem_mem hi) (l[0]'(by omega)) (List.getElem_mem _)
    rw [m2];omega
   ·have h2:=h l[i] (List.getElem_mem hi) t (List.mem_of_mem_take ht)
    rw [m2,h2]
theorem ZN7 {l:Cx} (h:∀ s∈l,ZAL s=0):ZIz l=ZON l:=by
 rw [Bool.eq_iff_iff,ZN6 (fun s hs=>by have:=Zk.1 (h s hs);omega),ZOO]
end
section
abbrev ZLH:=List (List Vx × Int)
theorem ZBz {K V:Type} [DecidableEq K] {m:List (K × V)} {x:K}:(lookM m x).isSome=true↔x∈m.map (·.1):=by
 unfold lookM
 rw [Option.isSome_map,List.find?_isSome,List.mem_map]
 constructor
 ·rintro ⟨p,hp,h⟩;exact ⟨p,hp,by simpa using h⟩
 ·rintro ⟨p,hp,h⟩;exact ⟨p,hp,by simpa using h⟩
theorem ZI0 {K V:Type} [DecidableEq K] {m:List (K × V)} {x:K} {v:V} (hn:(m.map (·.1)).Nodup):((ZDr m x v).map (·.1)).Nodup/\∀ u,u∈(ZDr m x v).map (·.1)↔u=x\/u∈m.map (·.1):=by
 unfold ZDr
 split
 ·rename_i h
  have e:(m.map fun p=>if p.1=x then (x,v) else p).map (·.1)=m.map (·.1):=by
   rw [List.map_map]
   refine List.map_congr_left fun p _=>?_
   show (if p.1=x then (x,v) else p).1=p.1
   split
   ·rename_i h;exact h.symm
   ·rfl
  rw [e]
  refine ⟨hn,fun u=>⟨.inr,?_⟩⟩
  rintro (rfl|hu)
  ·exact ZBz.1 h
  ·exact hu
 ·rename_i h
  have hx:x∉m.map (·.1):=fun hx=>h (ZBz.2 hx)
  rw [List.map_append]
  refine ⟨?_,fun u=>?_⟩
  ·rw [List.nodup_append]
   refine ⟨hn,by simp,fun a ha b hb=>?_⟩
   have:b=x:=by simpa using hb
   subst this
   intro hab
   subst hab
   exact hx ha
  ·rw [List.mem_append]
   simp only [List.map_cons,List.map_nil,List.mem_singleton]
   exact or_comm
def ZQ1 (l:Cx) (d:Nat):Cx:=(l.map (ZX d)).flatten
theorem ZPs {l:Cx} {d:Nat} {f:List Vx}:f∈ZQ1 l d↔f∈Zs l d:=by
 unfold ZQ1
 rw [List.mem_flatten,ZAr]
 constructor
 ·rintro ⟨x,hx,hf⟩
  obtain ⟨s,hs,rfl⟩:=List.mem_map.1 hx
  exact ⟨s,hs,hf⟩
 ·rintro ⟨s,hs,hf⟩
  exact ⟨_,List.mem_map_of_mem hs,hf⟩
theorem ZAS {f s:List Vx} (hf:Asc f) (hs:Asc s):f.Sublist s↔Zb f s=true:=by
 constructor
 ·intro h
  unfold Zb
  rw [List.all_eq_true]
  intro x hx
  simpa using h.subset hx
 ·intro h
  have hsub:∀ x∈f,x∈s:=fun x hx=>by
   have:=List.all_eq_true.1 h x hx
   simpa using this
  have e:ZDE s f true=f:=asc_ext (ZGM hs) hf fun x=>by
   rw [ZGX]
   constructor
   ·intro ⟨_,h⟩;simpa using h
   ·intro hx;exact ⟨hsub x hx,by simpa using hx⟩
  rw [<- e];exact ZEi
theorem ZGi {s:List Vx} (h:Asc s) (d:Nat):(ZX d s).Nodup:=List.Pairwise.imp (fun {a b} hab hc=>by
 subst hc;rw [ZBE] at hab;omega) (ZDG d s h)
theorem ZEr:∀ {l:Cx},l.Nodup->∀ f,l.count f≤1
 | [],_,f=>by simp
 | x::l,h,f=>by
  rw [List.nodup_cons] at h
  rw [List.count_cons]
  by_cases hx:x=f
  ·subst hx
   rw [List.count_eq_zero.2 h.1];simp
  ·have:(x == f)=false:=by simpa using hx
   rw [this]
   have:=ZEr h.2 f
   simpa using this
theorem ZLa {s f:List Vx} {d:Nat} (hs:Asc s):(ZX d s).count f=if f∈ZX d s then 1 else 0:=by
 split
 ·rename_i h
  have h1:0<(ZX d s).count f:=List.count_pos_iff.2 h
  have h2:=ZEr (ZGi hs d) f
  omega
 ·rename_i h;exact List.count_eq_zero.2 h
end
end Go.Proofs.YtokmalofdapffaaGreat
namespace Go.Proofs
section
open Go.Shelf
def Tryz.sortS_ren:Go.Shelf.Ren:=⟨fun|6=>49|15=>75|14=>81|28=>100|29=>101|20=>105|21=>106|22=>107|23=>108|24=>109|25=>110|26=>111|27=>112|46=>131|47=>126|48=>127|49=>132|50=>133|57=>137|n=>n,fun|22=>22|24=>41|25=>59|3=>3|39=>114|0=>0|53=>144|55=>146|4=>4|46=>138|45=>137|50=>98|5=>5|9=>9|66=>163|70=>167|76=>174|77=>175|n=>n,fun|n=>n⟩
theorem Tryz.sortS:Go.Proofs.SlLaysF.n6 Tryz.prog Tryz.sortS_ren:={
 mixed:=by kernel_rfl
 f6:=⟨Tryz.f49.name,by decide,Tryz.func49.trans (congrArg some (by kernel_rfl))⟩
 f14:=⟨Tryz.f81.name,by decide,Tryz.func81.trans (congrArg some (by kernel_rfl))⟩
 f15:=Tryz.func75.trans (congrArg some (by kernel_rfl))
 f20:=⟨Tryz.f105.name,by decide,Tryz.func105.trans (congrArg some (by kernel_rfl))⟩
 f21:=⟨Tryz.f106.name,by decide,Tryz.func106.trans (congrArg some (by kernel_rfl))⟩
 f22:=⟨Tryz.f107.name,by decide,Tryz.func107.trans (congrArg some (by kernel_rfl))⟩
 f23:=⟨Tryz.f108.name,by decide,Tryz.func108.trans (congrArg some (by kernel_rfl))⟩
 f24:=⟨Tryz.f109.name,by decide,Tryz.func109.trans (congrArg some (by kernel_rfl))⟩
 f25:=⟨Tryz.f110.name,by decide,Tryz.func110.trans (congrArg some (by kernel_rfl))⟩
 f26:=⟨Tryz.f111.name,by decide,Tryz.func111.trans (congrArg some (by kernel_rfl))⟩
 f27:=⟨Tryz.f112.name,by decide,Tryz.func112.trans (congrArg some (by kernel_rfl))⟩
 f28:=Tryz.func100.trans (congrArg some (by kernel_rfl))
 f29:=Tryz.func101.trans (congrArg some (by kernel_rfl))
 f46:=⟨Tryz.f131.name,by decide,Tryz.func131.trans (congrArg some (by kernel_rfl))⟩
 f47:=Tryz.func126.trans (congrArg some (by kernel_rfl))
 f48:=Tryz.func127.trans (congrArg some (by kernel_rfl))
 f49:=⟨Tryz.f132.name,by decide,Tryz.func132.trans (congrArg some (by kernel_rfl))⟩
 f50:=⟨Tryz.f133.name,by decide,Tryz.func133.trans (congrArg some (by kernel_rfl))⟩
 f57:=⟨Tryz.f137.name,by decide,Tryz.func137.trans (congrArg some (by kernel_rfl))⟩
 t0:=Tryz.underlying0
 a0:=Tryz.isAgg0
 z0:=Tryz.sizeOf0
 v0:=Tryz.zeroValue0
 t3:=Tryz.underlying3
 a3:=Tryz.isAgg3
 z3:=Tryz.sizeOf3
 v3:=Tryz.zeroValue3
 t4:=Tryz.underlying4
 a4:=Tryz.isAgg4
 z4:=Tryz.sizeOf4
 v4:=Tryz.zeroValue4
 t5:=Tryz.underlying5
 a5:=Tryz.isAgg5
 z5:=Tryz.sizeOf5
 v5:=Tryz.zeroValue5
 t9:=Tryz.underlying9
 a9:=Tryz.isAgg9
 z9:=Tryz.sizeOf9
 v9:=Tryz.zeroValue9
 t22:=Tryz.underlying22
 a22:=Tryz.isAgg22
 z22:=Tryz.sizeOf22
 v22:=Tryz.zeroValue22
 a24:=Tryz.isAgg41
 z24:=Tryz.sizeOf41
 t25:=Tryz.underlying59
 a25:=Tryz.isAgg59
 z25:=Tryz.sizeOf59
 v25:=Tryz.zeroValue59
 t39:=Tryz.underlying114
 a39:=Tryz.isAgg114
 z39:=Tryz.sizeOf114
 v39:=Tryz.zeroValue114
 t45:=Tryz.underlying137
 a45:=Tryz.isAgg137
 z45:=Tryz.sizeOf137
 v45:=Tryz.zeroValue137
 t46:=Tryz.underlying138
 a46:=Tryz.isAgg138
 z46:=Tryz.sizeOf138
 v46:=Tryz.zeroValue138
 t50:=Tryz.underlying98
 a50:=Tryz.isAgg98
 z50:=Tryz.sizeOf98
 v50:=Tryz.zeroValue98
 t53:=Tryz.underlying144
 a53:=Tryz.isAgg144
 z53:=Tryz.sizeOf144
 v53:=Tryz.zeroValue144
 t55:=Tryz.underlying146
 a55:=Tryz.isAgg146
 z55:=Tryz.sizeOf146
 v55:=Tryz.zeroValue146
 t66:=Tryz.underlying163
 a66:=Tryz.isAgg163
 z66:=Tryz.sizeOf163
 v66:=Tryz.zeroValue163
 t70:=Tryz.underlying167
 a70:=Tryz.isAgg167
 z70:=Tryz.sizeOf167
 v70:=Tryz.zeroValue167
 t76:=Tryz.underlying174
 a76:=Tryz.isAgg174
 z76:=Tryz.sizeOf174
 v76:=Tryz.zeroValue174
 t77:=Tryz.underlying175
 a77:=Tryz.isAgg175
 z77:=Tryz.sizeOf175
 v77:=Tryz.zeroValue175 }
end
end Go.Proofs
namespace Go.Proofs.YtokmalofdapffaaGreat
section
open Go.RowKit Go.Sort Go.Shelf
section
variable {w:World} {g n cap:Nat} {os:Array Obj} {cur:Array Value} {e:TypeId} {fz:Nat × Nat} {α:Type} [Inhabited α] {enc:α->Value}
theorem ZFk (d:Array α):w.grownBy (sortWorld enc w g 0 n d os) (some g):=by
 refine ⟨rfl,rfl,rfl,by simp [sortWorld],fun k hk hne=>?_⟩
 unfold sortWorld
 rw [heap_grow_old _ _ (by simpa using hk)]
 have:g≠k:=fun e=>hne (by rw [e])
 simp [putRow,mapBlock,Sort.ahead,Array.getElem?_modify,this]
theorem ZIm (d:Array α) (hb:w.heap[g]?=some (.cells cur e fz)) :
  (sortWorld enc w g 0 n d os).heap[g]?=some (.cells (putCells enc 0 d cur) e fz):=by
 have hg:g<w.heap.size:=(Array.getElem?_eq_some_iff.1 hb).1
 unfold sortWorld
 rw [heap_grow_old _ _ (by simpa using hg)]
 simp [putRow,mapBlock,Sort.ahead,Array.getElem?_modify,hb,onCells]
theorem ZHP {d:Array α} (hb:w.heap[g]?=some (.cells cur e (0,0))) (ht:cur.toList.take d.size=d.toList.map enc):Holds enc w g 0 d:=by
 intro j hj
 refine ⟨?_,by simp [World.frozen?,hb]⟩
 have h1:(cur.toList.take d.size)[j]?=(d.toList.map enc)[j]?:=by rw [ht]
 rw [List.getElem?_take_of_lt hj] at h1
 simp only [World.cell?,hb,Nat.zero_add]
 simp only [Option.isSome_none,Bool.false_eq_true,if_false]
 rw [<- Array.getElem?_toList,h1,getElem!_pos _ j hj]
 simp [hj]
theorem ZGE (cur:Array Value) (d:Array α) (h:d.size≤cur.size):(putCells enc 0 d cur).toList.take d.size=d.toList.map enc:=by
 apply List.ext_getElem?
 intro j
 by_cases hj:j<d.size
 ·rw [List.getElem?_take_of_lt hj,Array.getElem?_toList]
  simp [putCells,hj,show j<cur.size by omega]
 ·rw [List.getElem?_take_eq_none (by omega),List.getElem?_eq_none (by simp;omega)]
end
theorem ZF8 {a b c:List Vx} (h:ZAB a b<0) (k:ZAB b c<0):ZAB a c<0:=by
 obtain ⟨h1,h2⟩:=ZDP a b c (by omega) (by omega)
 rcases Int.lt_or_eq_of_le h1 with h3|h3
 ·exact h3
 ·have:=h2 h3;omega
theorem swoL {α:Type} (f:α->List Vx):SWO (ltOf fun x y:α=>ZAB (f x) (f y)) where
 irrefl x:=by simp [ltOf,ZA2.2 (rfl:f x=f x)]
 trans x y z h h':=by
  simp only [ltOf,decide_eq_true_eq] at *
  exact ZF8 h h'
 ntrans x y z h h':=by
  simp only [ltOf,decide_eq_false_iff_not] at *
  have e1:=ZCg (f x) (f y)
  have e2:=ZCg (f y) (f z)
  have e3:=ZCg (f x) (f z)
  have:=(ZDP (f z) (f y) (f x) (by omega) (by omega)).1
  omega
section
variable {ops:Array Oper} {hp:List HObj} {fr:List Dat} {Q:ZAE} {rest:List Oper} {dst:Option Tmp} {ty:TypeId} {ps:String} {af:Array Edge}
theorem ZG0 {x:Operand} {v:Value} {e:TypeId} {xs:List (List Vx)} {ats:Array TypeId} (hx:OpD fr x (dX v)) (hlen:xs.length<4611686018427387904)
  (h:∀ ys:List (List Vx),ys.Perm xs->ys.Pairwise (fun a b=>¬ ZAB b a<0)->WL Tryz.prog ops Q rest (ZB fr dst dA) (Zh v e ZJ ys::hp)) :
  WL Tryz.prog ops Q (⟨dst,.call { callee:=.value (.func 49),args:=#[x,.func 35],argTypes:=ats },ty,ps,af,none⟩::rest) fr (Zh v e ZJ xs::hp):=by
 refine WL.of fun P0 B w0 w a hh hf=>?_
 have hok:=hh.ok (Zh v e ZJ xs) (by simp)
 obtain ⟨us,h1,h2,h3⟩:=hok
 have hev:a.eval x=v:=hx.ev hf
 obtain ⟨hfl,hv⟩:=h2
 have hrun:(execOp a.eval ⟨dst,.call { callee:=.value (.func 49),args:=#[x,.func 35],argTypes:=ats },ty,ps,af,none⟩).run Tryz.prog w = .ok (.enter 49 #[v,.func (.func 35) #[] #[]]) w:=by
  unfold execOp
  simp only [resolve]
  have he:(#[x,Operand.func 35]:Array Operand).map a.eval=#[v,.func (.func 35) #[] #[]]:=by simp [hev];rfl
  rw [he]
  simp [Act.eval,Deferred.ofValue,invoke,Tryz.call49]
 by_cases hne:xs=[]
 ·subst hne
  have hv0:∃ p cap,v = .slice p 0 cap:=by
   rcases hv with ⟨hv,_⟩|⟨g,cap,cur,hv,_⟩
   ·exact ⟨_,_,hv⟩
   ·exact ⟨_,_,hv⟩
  obtain ⟨p,cap,hv0⟩:=hv0
  have hcon:=AnyF.slices_SortFunc_none (P:=Tryz.prog) (ρ:=Tryz.sortS_ren) { Tryz.sortS with } p cap (.func (.func 35) #[] #[]) w
  change Calls Tryz.prog 49 _ _ _ at hcon
  refine wpList_plain rfl fun K hK=>?_
  unfold Oper.wp
  rw [hrun,hv0]
  refine hcon.mono fun e' w' ⟨he,hw'⟩=>?_
  subst he
  subst hw'
  exact hK _ _ ((h [] (List.Perm.refl _) List.Pairwise.nil).on hh (hf.put (d:=dA) trivial))
 have hpos:0<xs.length:=List.length_pos_iff.2 hne
 rcases hv with ⟨_,hz⟩|⟨g,cap,cur,hv,hB,hg,hc1,hc2,hc3,hc4⟩
 ·omega
 have hgb:g<w.heap.size:=(Array.getElem?_eq_some_iff.1 hg).1
 let J:Nat->Prop:=fun b=>Imm P0 B (Zh v e ZJ xs::hp) b/\v.ownBlock≠some b
 let α:={p:Value × List Vx // p.1.oneCell'=true/\ZJ J w p.1 p.2}
 let at0:Fin xs.length->α:=fun k=>⟨(us[k.1]'(by omega),xs[k.1]),h3 k.1 (by omega) k.2⟩
 haveI:Inhabited α:=⟨at0 ⟨0,hpos⟩⟩
 let enc:α->Value:=fun p=>p.1.1
 let d:Array α:=(List.ofFn at0).toArray
 have hds:d.size=xs.length:=by simp [d]
 have hdu:d.toList.map enc=us:=by
  apply List.ext_getElem (by simp [d,h1])
  intro k a b
  simp [d,enc,at0]
 have hdx:d.toList.map (fun p=>p.1.2)=xs:=by
  apply List.ext_getElem (by simp [d])
  intro k a b
  simp [d,at0]
 have hown:v.ownBlock=some g:=by rw [hv];rfl
 have hH:Holds enc w g 0 d:=ZHP hg (by rw [hds,hdu];simpa using hc4)
 have hgr:∀ (d':Array α) (n:Nat) (os:Array Obj),w.grownBy (sortWorld enc w g 0 n d' os) (Zh v e ZJ xs).blk:=fun d' n os=>by
  show w.grownBy _ v.ownBlock
  rw [hown];exact ZFk d'
 have hmove:∀ (p:α) (d':Array α) (n:Nat) (os:Array Obj),ZJ (fun b=>J b/\b<w.heap.size) (sortWorld enc w g 0 n d' os) p.1.1 p.1.2:=fun p d' n os =>
  Good.move (Good.bound p.2.2) fun k hk hlt=>(hgr d' n os).block k hlt fun he=>hk.1.2 he.symm
 have hcon:=Any.slices_SortFunc Tryz.sortS enc (fun p=>p.2.1) (fun p q=>ZAB p.1.2 q.1.2) (swoL fun p:α=>p.1.2) 35 #[] g 0 cap d w Tryz.call35
  (fun m os dk _ p q=>M.ZSb (hmove p dk m os) (hmove q dk m os)) hH hgb (by rw [hds];exact hlen)
 change Calls Tryz.prog 49 _ _ _ at hcon
 refine wpList_plain rfl fun K hK=>?_
 unfold Oper.wp
 rw [hrun]
 have hva:v = .slice (some ⟨g,0,none⟩) d.size cap:=by rw [hds];exact hv
 rw [<- hva] at hcon
 refine hcon.mono fun e' w' ⟨he,d',n,os,hp1,hs,hw'⟩=>?_
 subst he
 subst hw'
 obtain ⟨q1,_,q3⟩:=hp1
 have hperm:d'.toList.Perm d.toList:=by
  have e1:d'.extract 0 d.size=d':=by rw [<- q1];simp
  have e2:d.extract 0 d.size=d:=by simp
  rw [e1,e2] at q3
  exact q3
 have hys:(d'.toList.map fun p=>p.1.2).Perm xs:=by
  have:=hperm.map (fun p:α=>p.1.2)
  rwa [hdx] at this
 have hsort:(d'.toList.map fun p=>p.1.2).Pairwise (fun a b=>¬ ZAB b a<0):=by
  rw [List.pairwise_map,List.pairwise_iff_getElem]
  intro i j hi hj hij
  have hi':i<d'.size:=by simpa using hi
  have hj':j<d'.size:=by simpa using hj
  have:=hs i j (Nat.zero_le _) hij (by omega)
  rw [getElem!_pos d' i hi',getElem!_pos d' j hj'] at this
  simpa [ltOf] using this
 have hlen':(d'.toList.map fun p=>p.1.2).length=xs.length:=by simp;omega
 have hok:(Zh v e ZJ (d'.toList.map fun p=>p.1.2)).ok (fun k=>Imm P0 B (Zh v e ZJ xs::hp) k/\k<w.heap.size) (sortWorld enc w g 0 n d' os):=by
  refine ⟨d'.toList.map enc,by simp,⟨by simp,.inr ⟨g,cap,putCells enc 0 d' cur,?_,hB,ZIm _ hg,by omega,hc2,by simp [putCells,hc3],?_⟩⟩,fun k a b=>?_⟩
  ·rw [hlen'];exact hv
  ·rw [hlen',Nat.mul_one,<- hds,<- q1]
   exact ZGE _ _ (by rw [q1,hds,hc3];omega)
  ·have hk:k<d'.toList.length:=by simpa using a
   refine ⟨by rw [List.getElem_map];exact d'.toList[k].2.1,?_⟩
   rw [List.getElem_map,List.getElem_map]
   exact Good.weak (hmove d'.toList[k] d' n os) fun b hb=>⟨⟨hb.1.1,hb.2⟩,hb.1.2⟩
 exact hK _ _ ((h _ hys hsort).on (hh.write (hgr d' n os) (.inl rfl) hok) (Fr.put (hf.mono fun _ _ hd=>ZN (o':=Zh v e ZJ (d'.toList.map fun p=>p.1.2)) (hgr d' n os) (.inl rfl) hd) (d:=dA) trivial))
end
end
section
open Go.RowKit
section
variable {P:Program} {ops:Array Oper} {hp:List HObj} {o:Oper} {fr:List Dat} {d:Dat} {Q:ZAE} {rest:List Oper}
variable {dst:Option Tmp} {ty:TypeId} {ps:String} {af:Array Edge} {g:Option (Nat × Bool)} {e e' t T:TypeId} {bytes b cap N:Nat} {z:Value} {ag:Bool} {α:Type} {R:Rel α} {_gR:Good R} {xs:List α} {v:Value}
abbrev hQ (b N cap:Nat) (e:TypeId) (R:Rel α) [Good R] (xs:List α):HObj:=Zh (.slice (some ⟨b,0,none⟩) N cap) e R xs
theorem ZO5 {c:Code} {v:Value} (hne:0<xs.length) (h:∀ b cap,v = .slice (some ⟨b,0,none⟩) xs.length cap->xs.length≤cap->cap≤maxLen->WC P Q c fr (Zh v e R xs::hp)):WC P Q c fr (Zh v e R xs::hp):=WC.of fun P0 B w0 w a hh hf=>by
 obtain ⟨us,h1,⟨h2,h3⟩,h4⟩:=hh.ok (Zh v e R xs) (by simp)
 rcases h3 with ⟨_,hz⟩|⟨g,cap,cur,hv,hB,hg,hc1,hc2,hc3,hc4⟩
 ·omega
 ·exact (h g cap hv hc1 hc2).on hh hf
theorem ZIB {x i:Operand} {n m off k:Nat} {j:Int} (E:ElT P t e 1 z bytes ag) (hx:OpD fr x (dX (.slice (some ⟨b,off,none⟩) n m))) (hi:OpD fr i (dI j)) (hj:j=(k:Int)) (hk:k<n) :
  SY P ops hp ⟨dst,.indexAddr t x i,ty,ps,af,g⟩ fr (dX (.pointer (some ⟨b,off+k,none⟩))):=SY.val fun {I w a} ho=>by
 have h1:a.eval x=_:=hx.get (by simp [Op.operands]) ho
 have h2:a.eval i=_:=hi.get (by simp [Op.operands]) ho
 refine ⟨.pointer (some ⟨b,off+k*1,none⟩),?_,by rw [Nat.mul_one];rfl⟩
 unfold execOp
 simp only [h1,h2,hj,Sem.run_bind,ZBV (w:=w) E b off n m k .i64 hk,Result.andThen_ok,Sem.run_pure]
theorem ZE5 {x:Operand} {j k:Nat} (T':TyI P T 1 false) (hx:OpD fr x (dX (.pointer (some ⟨b,j,none⟩)))) (hm:hQ b N cap e' R xs∈hp) (hj:j=k) (hk:k<xs.length) :
  SY P ops hp ⟨dst,.load T x,ty,ps,af,g⟩ fr (dS R xs[k]):=by
 subst hj
 exact ZJ7 T' hx hm hk
theorem ZMX {p:Tmp} {x:Operand} {j k:Nat} {y:α} (T':TyI P T 1 false) (hp0:OpD fr (.tmp p) (dX (.pointer (some ⟨b,j,none⟩)))) (hx:OpD fr x (dS R y)) (hs:(dS R y).Shape 1 false) (hj:j=k) (hk:k<xs.length)
  (h:WL P ops Q rest (ZB fr dst dA) (hQ b N cap e R (xs.set k y)::hp)):WL P ops Q (⟨dst,.store T (.tmp p) x,ty,ps,af,none⟩::rest) fr (hQ b N cap e R xs::hp):=by
 subst hj
 exact WL.storeR T' hp0 hx hs hk h
theorem SY.fromQ {x y:Operand} {off n m l:Nat} {j:Int} (E:ElT P t e 1 z bytes ag) (hx:OpD fr x (dX (.slice (some ⟨b,off,none⟩) n m))) (hy:OpD fr y (dI j)) (hj:j=(l:Int)) (hl:l<n) (hm:n≤m) :
  SY P ops hp ⟨dst,.slice t x (some y) none none,ty,ps,af,g⟩ fr (dX (.slice (some ⟨b,off+l,none⟩) (n-l) (m-l))):=SY.val fun {I w a} ho=>by
 have h1:a.eval x=_:=hx.get (by simp [Op.operands]) ho
 have h2:a.eval y=_:=hy.get (by simp [Op.operands]) ho
 refine ⟨_,?_,rfl⟩
 have hr:=ZBh (w:=w) (ad:=some ⟨b,off,none⟩) (len:=n) (cap:=m) (lo:=some (.int .i64 (l:Int))) (hi:=none) (l:=l) (h:=n) E (.inr ⟨_,rfl⟩) (.inl ⟨rfl,rfl⟩) (by omega) hm
 rw [if_neg (by omega)] at hr
 unfold execOp
 simp only [h1,h2,hj,Option.map_none,Option.map_some,Sem.run_bind,hr,Result.andThen_ok,Sem.run_pure]
 simp [Addr.add_lit]
theorem SY.uptoQ {x y:Operand} {off n m l:Nat} {j:Int} (E:ElT P t e 1 z bytes ag) (hx:OpD fr x (dX (.slice (some ⟨b,off,none⟩) n m))) (hy:OpD fr y (dI j)) (hj:j=(l:Int)) (hl:l≤n) (hm:n≤m) (h0:0<m) :
  SY P ops hp ⟨dst,.slice t x none (some y) none,ty,ps,af,g⟩ fr (dX (.slice (some ⟨b,off,none⟩) l m)):=SY.val fun {I w a} ho=>by
 have h1:a.eval x=_:=hx.get (by simp [Op.operands]) ho
 have h2:a.eval y=_:=hy.get (by simp [Op.operands]) ho
 refine ⟨_,?_,rfl⟩
 have hr:=ZBh (w:=w) (ad:=some ⟨b,off,none⟩) (len:=n) (cap:=m) (lo:=none) (hi:=some (.int .i64 (l:Int))) (l:=0) (h:=l) E (.inl ⟨rfl,rfl⟩) (.inr ⟨_,rfl⟩) (by omega) (by omega)
 rw [if_neg (by omega)] at hr
 unfold execOp
 simp only [h1,h2,hj,Option.map_none,Option.map_some,Sem.run_bind,hr,Result.andThen_ok,Sem.run_pure]
 simp [Addr.add_lit]
theorem ZRL {k:Nat} (hk:k≤xs.length) (h:WL P ops Q rest fr (hQ b k cap e R (xs.take k)::hp)):WL P ops Q rest fr (hQ b N cap e R xs::hp):=WL.of fun P0 B w0 w a hh hf=>by
 obtain ⟨us,h1,⟨h2,h3⟩,h4⟩:=(hQ b N cap e R xs).bound (hh.ok (hQ b N cap e R xs) (by simp))
 have hgr:w.grownBy w (hQ b N cap e R xs).blk:=⟨rfl,rfl,rfl,Nat.le_refl _,fun _ _ _=>rfl⟩
 have hok:(hQ b k cap e R (xs.take k)).ok (fun j=>Imm P0 B (hQ b N cap e R xs::hp) j/\j<w.heap.size) w:=by
  rcases h3 with ⟨hc,_⟩|⟨g,cap',cur,hv,hB,hg,hc1,hc2,hc3,hc4⟩
  ·cases hc
  ·cases hv
   refine ⟨us.take k,by simp [h1],⟨by simp;omega,.inr ⟨_,_,cur,?_,hB,hg,by simp;omega,hc2,hc3,?_⟩⟩,fun i a1 a2=>?_⟩
   ·simp [Nat.min_eq_left hk]
   ·rw [List.length_take,Nat.min_eq_left hk,Nat.mul_one]
    rw [Nat.mul_one] at hc4
    rw [<- hc4,List.take_take,Nat.min_eq_left hk]
   ·rw [List.getElem_take,List.getElem_take]
    rw [List.length_take] at a1 a2
    exact h4 i (by omega) (by omega)
 exact h.on (hh.write hgr (.inl rfl) hok) (hf.mono fun _ _ hd=>ZN (o':=hQ b k cap e R (xs.take k)) hgr (.inl rfl) hd)
theorem ZMY {l:Nat} {x y:Operand} {j:Int} (E:ElT P t e 1 z bytes ag) (hx:OpD fr x (dX (.slice (some ⟨b,0,none⟩) N cap))) (hy:OpD fr y (dI j)) (hj:j=(l:Int)) (hl:l≤N) (hm:N≤cap) (h0:0<cap) (hk:l≤xs.length)
  (h:WL P ops Q rest (ZB fr dst (dX (.slice (some ⟨b,0,none⟩) l cap))) (hQ b l cap e R (xs.take l)::hp)):WL P ops Q (⟨dst,.slice t x none (some y) none,ty,ps,af,none⟩::rest) fr (hQ b N cap e R xs::hp) :=
 WL.op rfl (SY.uptoQ E hx hy hj hl hm h0) (ZRL hk h)
theorem ZMO {x:Operand} {off n m k:Nat} {x0:α} (hu:P.underlying t=some (.slice e)) (hz:∀ w,(zeroValue e).run P w = .ok z w) (hz1:z.oneCell'=true) (hz0:∀ I w,R I w z x0) (hx:OpD fr x (dX (.slice (some ⟨b,off,none⟩) n m))) (hj:off=k) (hn:0<n) (hk:k+n=xs.length)
  (h:WL P ops Q rest (ZB fr dst dA) (hQ b N cap e R (xs.take k++List.replicate n x0)::hp)):WL P ops Q (⟨dst,.call { callee:=.builtin .clear,args:=#[x],argTypes:=#[t] },ty,ps,af,none⟩::rest) fr (hQ b N cap e R xs::hp):=by
 refine WL.of fun P0 B w0 w a hh hf=>?_
 subst hj
 have hok:=(hQ b N cap e R xs).bound (hh.ok (hQ b N cap e R xs) (by simp))
 obtain ⟨us,h1,⟨h2,h3⟩,h4⟩:=hok
 rcases h3 with ⟨hc,_⟩|⟨g,cap',cur,hv,hB,hg,hc1,hc2,hc3,hc4⟩
 ·cases hc
 cases hv
 rw [Nat.mul_one] at hc3 hc4
 have hval:a.eval x=_:=hx.ev hf
 have hcl:off+n≤cur.toList.length:=by simp;omega
 have hzc:(Builtin.zeroCells #[z] n).toList=List.replicate n z:=by
  simp only [Builtin.zeroCells]
  apply List.ext_getElem
  ·simp
  ·intro i h1 h2
   simp [Nat.mod_one]
 have hcell:∀ j<n,w.cell? ⟨b,off+j,none⟩≠none/\w.frozen? ⟨b,off+j,none⟩=false:=fun j hj=>by
  have:off+j<cur.size:=by omega
  exact ⟨by simp [World.cell?,hg,this],by simp [World.frozen?,hg]⟩
 have hst:=run_storeCells_cells (P:=P) b off (List.replicate n z) 0 w (fun j hj=>by
   rw [List.length_replicate] at hj
   rw [Nat.add_zero]
   exact Option.isSome_iff_ne_none.2 (hcell j hj).1) (fun j hj=>by
   rw [List.length_replicate] at hj
   rw [Nat.add_zero]
   exact (hcell j hj).2) (fun c hc=>by rw [(List.mem_replicate.1 hc).2];exact hz1)
 have hrun:(execOp a.eval ⟨dst,.call { callee:=.builtin .clear,args:=#[x],argTypes:=#[t] },ty,ps,af,none⟩).run P w = .ok (.value (.tuple #[])) (w.setCells b off (List.replicate n z)):=by
  obtain ⟨m',rfl⟩:∃ m,n=m+1:=⟨n-1,by omega⟩
  unfold execOp
  simp [resolve,invoke,builtin,hval,Builtin.clear_,run_underlying hu,hz,ZB3 hz1,hzc,hst]
 have hsplit:cur=(cur.toList.take off++(cur.toList.drop off).take n++cur.toList.drop (off+n)).toArray:=by
  apply Array.ext'
  simp [<- List.drop_drop]
 have hg2:(w.setCells b off (List.replicate n z)).heap[b]?=some (.cells (cur.toList.take off++List.replicate n z++cur.toList.drop (off+n)).toArray e (0,0)):=by
  have:=ZAt (g:=b) (e:=e) (fz:=(0,0)) (List.replicate n z) ((cur.toList.drop off).take n) (cur.toList.take off) (cur.toList.drop (off+n)) w (by simp;omega) (by rw [<- hsplit];exact hg)
  rwa [List.length_take,Nat.min_eq_left (by omega)] at this
 have hgr:w.grownBy (w.setCells b off (List.replicate n z)) (some b):=ZEG
 have hok':(hQ b xs.length cap e R (xs.take off++List.replicate n x0)).ok (fun j=>Imm P0 B (hQ b xs.length cap e R xs::hp) j/\j<w.heap.size) (w.setCells b off (List.replicate n z)):=by
  have hlen:(xs.take off++List.replicate n x0).length=xs.length:=by simp;omega
  have hlu:(us.take off++List.replicate n z).length=xs.length:=by simp;omega
  refine ⟨us.take off++List.replicate n z,by rw [hlen,hlu],⟨by rw [hlu,hlen,Nat.mul_one],.inr ⟨_,_,_,by rw [hlen],hB,hg2,by rw [hlen];exact hc1,hc2,?_,?_⟩⟩,fun i a1 a2=>?_⟩
  ·simp;omega
  ·rw [hlen,Nat.mul_one]
   rw [List.take_append_of_le_length (by simp;omega),List.take_of_length_le (by simp;omega),<- hc4,List.take_take,Nat.min_eq_left (by omega)]
  ·by_cases hi:i<off
   ·rw [List.getElem_append_left (by simp;omega),List.getElem_append_left (by simp;omega),List.getElem_take,List.getElem_take]
    have:=h4 i (by omega) (by omega)
    exact ⟨this.1,Good.grown this.2 hgr fun r hr hc=>hc.2 (by cases hr;rfl)⟩
   ·rw [List.getElem_append_right (by simp;omega),List.getElem_append_right (by simp;omega),List.getElem_replicate,List.getElem_replicate]
    exact ⟨hz1,hz0 _ _⟩
 refine wpList_plain rfl fun K hK=>?_
 unfold Oper.wp
 rw [hrun]
 exact hK _ _ (h.on (hh.write hgr (.inl rfl) hok') (Fr.put (hf.mono fun _ _ hd=>ZN (o:=hQ b xs.length cap e R xs) (o':=hQ b xs.length cap e R (xs.take off++List.replicate n x0)) hgr (.inl rfl) hd) (d:=dA) trivial))
end
end
end Go.Proofs.YtokmalofdapffaaGreat
