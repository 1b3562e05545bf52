/- Part 21 of the proof. -/
import Derived.Test.YtofkoleingbbpaaGreatDoorZa20
set_option linter.all false
set_option maxRecDepth 100000
set_option maxHeartbeats 64000000
namespace Go.Proofs.YtofkoleingbbpaaGreatDoor
section
open Go.RowKit



theorem ZPj (x:Int):Fn Tryz.prog 145 [dI x] (dB false):=by
 refine zE Tryz.func145 6 ?_;((repeat' (first|refine zS ?_|refine ZA fun Kx hK=>?_|(refine hK _ _ ?_;clear hK)|(apply zV;exact yG;exact zQ)|refine ZVs ?_));all_goals ((repeat clear hK);repeat clear Kx))
 all_goals try exact xO
 (refine⟨trivial,_,rfl,?_⟩;refine ZWL ?_)
 simp
theorem ZMt (x:Int):Fn Tryz.prog 164 [dI x] (dB false):=by
 refine zE Tryz.func164 6 ?_;((repeat' (first|refine zS ?_|refine ZA fun Kx hK=>?_|(refine hK _ _ ?_;clear hK)|(apply zV;exact yG;exact zQ)|refine ZVs ?_));all_goals ((repeat clear hK);repeat clear Kx))
 all_goals try exact xO
 (refine⟨trivial,_,rfl,?_⟩;refine ZWL ?_)
 simp
theorem ZRv (x y:Int):Fn Tryz.prog 163 [dI x,dI y] (dB (decide (x<y))):=by
 have h1:=ZPj x;have h2:=ZPj y;refine zE Tryz.func163 17 ?_;((repeat' (first|refine zS ?_|refine ZA fun Kx hK=>?_|(refine hK _ _ ?_;clear hK)|(apply ZF;(focus (first|exact wN|(apply ZVt;exact wY;((first|(apply ZVm (h1) Tryz.call145;exact aD)|exact yG|fail);all_goals infer_instance))));dsimp only[ZC,z0,z1])|refine ZVs ?_));all_goals ((repeat clear hK);repeat clear Kx))
 all_goals try exact xO
 (refine⟨trivial,_,rfl,?_⟩;exact fD)
theorem ZIX {x:List Int} (h:L05.Asc x) {i j:Nat} (hi:i<x.length) (hj:j<x.length) (hij:i<j):x[i]<x[j]:=List.pairwise_iff_getElem.1 h i j hi hj hij
theorem ZTb (x:List Int) (v:Int) (hx:L05.Asc x) (hl:x.length≤1000000):Fn Tryz.prog 155 [dS ZAQ x,dI v] (dT [dA,dB (decide (v∈x))]):=by
 refine zF Tryz.func155 54 ?_;(repeat' (first|refine zS ?_|refine ZA fun Kx hK=>?_|(refine hK _ _ ?_;clear hK)|(apply ZF;(focus (first|exact wN|(apply ZVt;exact wY;((first|(apply ZVu;exact oD;exact nD;exact uD)|fail);all_goals infer_instance))));dsimp only[ZC,z0,z1])|refine ZVp ?_))
 all_goals try exact xO
 (refine ZV4 (X:=Nat × Nat) (fun p=>[(7,dI (p.1:Int)),(8,dI (p.2:Int)),(9,dA),(13,dA),(14,dA),(15,dA),(16,dA),(17,dA),(18,dA),(19,dA),(20,dA),(21,dA),(22,dA),(23,dA),(24,dA),(25,dA),(26,dA),(27,dA),(28,dA),(29,dA),(30,dA)]) (fun p=>[]) (fun p=>p.2-p.1) (fun p=>p.1≤p.2/\p.2≤x.length/\(∀k (h:k<x.length),k<p.1->x[k]<v)/\(∀k (h:k<x.length),p.2≤k->v≤x[k])) (0,x.length) ?start ?frame0 ?objs0 ?round)
 case start=>exact⟨Nat.zero_le _,Nat.le_refl _,fun k _ h=>absurd h (Nat.not_lt_zero k),fun k h h2=>by simp only at h2;omega⟩
 case frame0=>exact zFr
 case objs0=>rfl
 case round =>
  rintro⟨i,j⟩ ⟨h1,h2,h3,h4⟩;simp only at h1 h2 h3 h4;dsimp only[ZH,z0,z1];by_cases hij:i<j
  ·have hijI:(i:Int)<(j:Int):=by omega
   obtain⟨m,hm⟩:∃m,(i+j) / 2=m:=⟨_,rfl⟩;have hmi:i≤m/\m<j:=by omega
   have hml:m<x.length:=by omega
   have e1:(i:Int)+(j:Int)=((i+j:Nat):Int):=by omega
   have c1:=cvIW (i+j) (by omega);have c2:=shrW (i+j) (by omega);have c3:=cvWI m (by omega);rw[hm] at c2;obtain⟨u,hu⟩:∃u,x[m]=u:=⟨_,rfl⟩;have hls:=ZRv u v;by_cases huv:u<v
   ·rw[decide_eq_true huv] at hls;((repeat' (first|refine zS ?_|refine ZA fun Kx hK=>?_|(refine hK _ _ ?_;clear hK)|(apply ZF;(focus (first|exact wN|(apply ZVt;exact wY;((first|(exact ZIH e1 (by omega) (ZVh rfl) (ZVh rfl))|(exact ZIJ (ZVh rfl) rfl c1)|(exact ZII (ZVh rfl) c3)|(exact ZLF (ZVh rfl) ZWQ c2)|(exact Zg (R:=RI) (_gR:=inferInstance) elI hml hu (ZVh rfl) (ZVh rfl))|(apply ZVm (hls) Tryz.call163;exact aD)|exact yG|fail);all_goals infer_instance))));dsimp only[ZC,z0,z1])|(apply Zf;exact oD;(with_reducible rfl))|(apply ZB;exact oD;all_goals (intro h;try exact xD))|refine ZVr ?_|refine ZVp ?_|refine ZVx ?_|refine ZWc ?_));all_goals ((repeat clear hK);repeat clear Kx))
    all_goals try exact xO
    (refine zNx (m+1,j) ?_;(try dsimp only))
    refine⟨by omega,h2,fun k hk hkm=>?_,h4⟩;by_cases e:k=m
    ·subst e;rw[hu];exact huv
    ·have:=ZIX hx hk hml (by omega);omega
   ·rw[decide_eq_false huv] at hls;((repeat' (first|refine zS ?_|refine ZA fun Kx hK=>?_|(refine hK _ _ ?_;clear hK)|(apply ZF;(focus (first|exact wN|(apply ZVt;exact wY;((first|(exact ZIH e1 (by omega) (ZVh rfl) (ZVh rfl))|(exact ZIJ (ZVh rfl) rfl c1)|(exact ZII (ZVh rfl) c3)|(exact ZLF (ZVh rfl) ZWQ c2)|(exact Zg (R:=RI) (_gR:=inferInstance) elI hml hu (ZVh rfl) (ZVh rfl))|(apply ZVm (hls) Tryz.call163;exact aD)|exact yG|fail);all_goals infer_instance))));dsimp only[ZC,z0,z1])|(apply ZQ;exact oD;(with_reducible rfl))|(apply ZB;exact oD;all_goals (intro h;try exact xD))|refine ZVr ?_|refine ZVp ?_|refine ZVx ?_|refine ZWc ?_));all_goals ((repeat clear hK);repeat clear Kx))
    all_goals try exact xO
    (refine zNx (i,m) ?_;(try dsimp only))
    refine⟨by omega,by omega,h3,fun k hk hkm=>?_⟩;by_cases e:k=m
    ·subst e;rw[hu];omega
    ·have:=ZIX hx hml hk (by omega);omega
  ·have hijI:¬ (i:Int)<(j:Int):=by omega
   obtain rfl:i=j:=by omega
   by_cases hil:i<x.length
   ·have hilI:(i:Int)<(x.length:Int):=by omega
    obtain⟨u,hu⟩:∃u,x[i]=u:=⟨_,rfl⟩;have hn1:=ZMt u;have hn2:=ZMt v;by_cases huv:u=v
    ·have hmem:v∈x:=by rw[<- huv,<- hu];exact List.getElem_mem hil
     rw[decide_eq_true hmem];((repeat' (first|(apply zV;exact yF;exact zQ)|refine ZVj ?_|refine ZA fun Kx hK=>?_|(refine hK _ _ ?_;clear hK)|(refine ZV0 ?_;clear hK)|refine ZVk ?_ |  (apply ZF;(focus (apply SYG.no;exact ZDJ rfl rfl rfl));dsimp only[ZC,z0,z1])|(apply ZF;(focus (first|exact wN|(apply ZVt;exact wY;((first|(exact Zg (R:=RI) (_gR:=inferInstance) elI hil hu (ZVh rfl) (ZVh rfl))|exact yG|fail);all_goals infer_instance))));dsimp only[ZC,z0,z1])|((first|refine ZM rfl rfl rfl (fun h=>?_) (fun h=>?_)|refine ZL rfl rfl rfl (fun h=>?_) (fun h=>?_)|refine ZK rfl rfl rfl (fun h=>?_) (fun h=>?_)) <;> (first|(exfalso;first|omega|contradiction)|(dsimp only[z0,z1])))|(apply ZB;exact oD;all_goals (intro h;try exact xD))|refine ZVs ?_|refine ZV1 ?_));all_goals ((repeat clear hK);repeat clear Kx))
     all_goals try exact xO
     (refine⟨trivial,⟨_,rfl,ZWR (ZBh _)⟩,_,rfl,ZWL ?_⟩;first|rfl|simp[hmem])
    ·have hmem:v∉x:=fun q=>by
      obtain⟨k,hk,e⟩:=List.getElem_of_mem q;rcases Nat.lt_trichotomy k i with h|h|h
      ·have:=h3 k hk h;omega
      ·subst h;exact huv (hu ▸ e)
      ·have:=ZIX hx hil hk h;have:=h4 i hil (Nat.le_refl _);omega
     rw[decide_eq_false hmem];((repeat' (first|refine zS ?_|refine ZA fun Kx hK=>?_|(refine hK _ _ ?_;clear hK)|(refine ZV0 ?_;clear hK)|(apply ZF;(focus (first|exact wN|(apply ZVt;exact wY;((first|(exact Zg (R:=RI) (_gR:=inferInstance) elI hil hu (ZVh rfl) (ZVh rfl))|(apply ZVm (hn1) Tryz.call164;exact aD)|exact yG|fail);all_goals infer_instance))));dsimp only[ZC,z0,z1])|((first|refine ZM rfl rfl rfl (fun h=>?_) (fun h=>?_)|refine ZL rfl rfl rfl (fun h=>?_) (fun h=>?_)|refine ZK rfl rfl rfl (fun h=>?_) (fun h=>?_)) <;> (first|(exfalso;first|omega|contradiction)|(dsimp only[z0,z1])))|(apply ZB;exact oD;all_goals (intro h;try exact xD))|refine ZVs ?_|refine ZV1 ?_));all_goals ((repeat clear hK);repeat clear Kx))
     all_goals try exact xO
     (refine⟨trivial,⟨_,rfl,ZWR (ZBh _)⟩,_,rfl,ZWL ?_⟩;first|rfl|simp[hmem])
   ·have hilI:¬ (i:Int)<(x.length:Int):=by omega
    have hmem:v∉x:=fun q=>by
     obtain⟨k,hk,e⟩:=List.getElem_of_mem q;have:=h3 k hk (by omega);omega
    rw[decide_eq_false hmem];((repeat' (first|(apply zV;exact yF;exact zQ)|refine ZVj ?_|refine ZA fun Kx hK=>?_|(refine hK _ _ ?_;clear hK)|(refine ZV0 ?_;clear hK)|refine ZVk ?_ |  (apply ZF;(focus (apply SYG.no;exact ZDJ rfl rfl rfl));dsimp only[ZC,z0,z1])|(apply ZF;(focus (first|exact wN|(apply ZVt;exact wY;((first|exact yG|fail);all_goals infer_instance))));dsimp only[ZC,z0,z1])|((first|refine ZM rfl rfl rfl (fun h=>?_) (fun h=>?_)|refine ZL rfl rfl rfl (fun h=>?_) (fun h=>?_)|refine ZK rfl rfl rfl (fun h=>?_) (fun h=>?_)) <;> (first|(exfalso;first|omega|contradiction)|(dsimp only[z0,z1])))|(apply ZB;exact oD;all_goals (intro h;try exact xD))|refine ZVs ?_|refine ZV1 ?_));all_goals ((repeat clear hK);repeat clear Kx))
    all_goals try exact xO
    (refine⟨trivial,⟨_,rfl,ZWR (ZBh _)⟩,_,rfl,ZWL ?_⟩;first|rfl|simp[hmem])
theorem ZTs (x:List Int) (v:Int) (hx:L05.Asc x) (hl:x.length≤1000000):Fn Tryz.prog 135 [dS ZAQ x,dI v] (dB (decide (v∈x))):=by
 have h:=ZTb x v hx hl;refine zE Tryz.func135 14 ?_;((repeat' (first|refine zS ?_|refine ZA fun Kx hK=>?_|(refine hK _ _ ?_;clear hK)|(apply zV;(focus ((first|(apply ZVm (h) Tryz.call155;exact aD)|exact yG);all_goals infer_instance));exact zQ)|refine ZVs ?_));all_goals ((repeat clear hK);repeat clear Kx))
 all_goals try exact xO
 (refine⟨trivial,_,rfl,?_⟩;exact fD)
structure VecI (n:Int) (x:List Int):Prop where
 asc:L05.Asc x
 rng:∀v∈x,0≤v/\v<n
theorem ZQj (x:List Int) (n:Int) (h:VecI n x) (hl:x.length≤1000000):Fn Tryz.prog 103 [dS ZAQ x,dI n] (dI 0):=by
 refine zE Tryz.func103 35 ?_;(repeat' (first|refine zS ?_|refine ZA fun Kx hK=>?_|(refine hK _ _ ?_;clear hK)|(apply ZF;(focus (first|exact wN|(apply ZVt;exact wY;((first|(apply ZVu;exact oD;exact nD;exact uD)|fail);all_goals infer_instance))));dsimp only[ZC,z0,z1])|refine ZVp ?_))
 all_goals try exact xO
 (refine ZV4 (X:=Nat) (fun k=>[(9,dI (k:Int)),(4,dA),(5,dA),(6,dA),(10,dA),(11,dA),(12,dA),(13,dA),(14,dA),(15,dA),(16,dA),(17,dA),(18,dA),(19,dA),(20,dA),(21,dA),(22,dA),(23,dA),(24,dA),(25,dA),(26,dA),(27,dA),(28,dA),(29,dA),(30,dA),(31,dA),(32,dA),(33,dA),(34,dA)]) (fun k=>[]) (fun k=>x.length-k) (fun k=>k≤x.length) 0 ?start ?frame0 ?objs0 ?round)
 case start=>exact Nat.zero_le _
 case frame0=>exact zFr
 case objs0=>rfl
 case round =>
  rintro k hk;dsimp only[ZH,z0,z1];by_cases hkl:k<x.length
  ·have hlt:(k:Int)<(x.length:Int):=by omega
   obtain⟨v,hv⟩:∃v,x[k]=v:=⟨_,rfl⟩;have hvr:=h.rng v (by rw[<- hv];exact List.getElem_mem hkl);have hv0:¬ v<0:=by omega
   have hvn:¬ v ≥ n:=by omega
   by_cases hk0:k=0
   ·have hk0I:¬ (k:Int)>0:=by omega
    ((repeat' (first|refine zS ?_|refine ZA fun Kx hK=>?_|(refine hK _ _ ?_;clear hK)|(apply ZF;(focus (first|exact wN|(apply ZVt;exact wY;((first|(exact Zg (R:=RI) (_gR:=inferInstance) elI hkl hv (ZVh rfl) (ZVh rfl))|exact yG|fail);all_goals infer_instance))));dsimp only[ZC,z0,z1])|((first|refine ZM rfl rfl rfl (fun h=>?_) (fun h=>?_)|refine ZL rfl rfl rfl (fun h=>?_) (fun h=>?_)|refine ZK rfl rfl rfl (fun h=>?_) (fun h=>?_)) <;> (first|(exfalso;first|omega|contradiction)|(dsimp only[z0,z1])))|(apply ZQ;exact oD;(with_reducible rfl))|(apply ZB;exact oD;all_goals (intro h;try exact xD))|refine ZVr ?_|refine ZVp ?_|refine ZVx ?_));all_goals ((repeat clear hK);repeat clear Kx))
    all_goals try exact xO
    (refine zNx (k+1) ?_;(try dsimp only))
    omega
   ·have hk0I:(k:Int)>0:=by omega
    obtain⟨j,hj⟩:∃j,j+1=k:=⟨k-1,by omega⟩;have hjl:j<x.length:=by omega
    have e1:(k:Int)-1=(j:Int):=by omega
    obtain⟨u,hu⟩:∃u,x[j]=u:=⟨_,rfl⟩;have huv:¬ u ≥ v:=by
     have:=ZIX h.asc hjl hkl (by omega);omega
    ((repeat' (first|refine zS ?_|refine ZA fun Kx hK=>?_|(refine hK _ _ ?_;clear hK)|(apply ZF;(focus (first|exact wN|(apply ZVt;exact wY;((first|(exact Zg (R:=RI) (_gR:=inferInstance) elI hkl hv (ZVh rfl) (ZVh rfl))|(exact ZL4 e1 (by omega) (ZVh rfl) ZV5)|(exact Zg (R:=RI) (_gR:=inferInstance) elI hjl hu (ZVh rfl) (ZVh rfl))|exact yG|fail);all_goals infer_instance))));dsimp only[ZC,z0,z1])|((first|refine ZM rfl rfl rfl (fun h=>?_) (fun h=>?_)|refine ZL rfl rfl rfl (fun h=>?_) (fun h=>?_)|refine ZK rfl rfl rfl (fun h=>?_) (fun h=>?_)) <;> (first|(exfalso;first|omega|contradiction)|(dsimp only[z0,z1])))|(apply ZB;exact oD;all_goals (intro h;try exact xD))|refine ZVr ?_|refine ZVp ?_|refine ZVx ?_));all_goals ((repeat clear hK);repeat clear Kx))
    all_goals try exact xO
    (refine zNx (k+1) ?_;(try dsimp only))
    omega
  ·have hlt:¬ (k:Int)<(x.length:Int):=by omega
   ((repeat' (first|refine zS ?_|refine ZA fun Kx hK=>?_|(refine hK _ _ ?_;clear hK)|(refine ZV0 ?_;clear hK)|(apply ZF;(focus (first|exact wN|(apply ZVt;exact wY;((first|exact yG|fail);all_goals infer_instance))));dsimp only[ZC,z0,z1])|(apply ZB;exact oD;all_goals (intro h;try exact xD))|refine ZVs ?_|refine ZV1 ?_));all_goals ((repeat clear hK);repeat clear Kx))
   all_goals try exact xO
   (refine⟨trivial,_,rfl,?_⟩;exact fD)
theorem ZO2 (C:Int) (rows:List (List Int)) (hC:0≤C/\C≤4096) (hl:rows.length≤4096) (hrw:∀r∈rows,VecI C r/\r.length≤1000000):Fn Tryz.prog 102 [dS Mat (C,rows)] (dI 0):=by
 have hC1:¬ C<0:=by omega
 have hC2:¬ C>4096:=by omega
 have hlI:¬ (rows.length:Int)>4096:=by omega
 refine zE Tryz.func102 35 ?_;(repeat' (first|refine zS ?_|refine ZA fun Kx hK=>?_|(refine hK _ _ ?_;clear hK)|(apply ZF;(focus (first|exact wN|(apply ZVt;exact wY;((first|(apply Z9 ZEj;exact ZVh rfl)|(apply ZAB ZEj;exact ZVh rfl)|((first|apply ZVo|apply ZVn|apply ZVq|apply ZV6|apply ZVv) <;> exact oD)|(apply ZVy;exact tD;exact oD)|(apply ZVu;exact oD;exact nD;exact uD)|(apply ZZ;exact oD;(with_reducible rfl);exact oD)|(apply ZV3;exact oD;exact hD)|fail);all_goals infer_instance))));dsimp only[ZC,z0,z1])|((first|refine ZM rfl rfl rfl (fun h=>?_) (fun h=>?_)|refine ZL rfl rfl rfl (fun h=>?_) (fun h=>?_)|refine ZK rfl rfl rfl (fun h=>?_) (fun h=>?_)) <;> (first|(exfalso;first|omega|contradiction)|(dsimp only[z0,z1])))|(apply ZB;exact oD;all_goals (intro h;try exact xD))|refine ZVr ?_|refine ZVp ?_))
 all_goals try exact xO
 (refine ZV4 (X:=Nat) (fun k=>[(23,dI (k:Int)),(2,dA),(4,dA),(5,dA),(24,dA),(25,dA),(26,dA),(27,dA),(28,dA),(29,dA),(30,dA),(31,dA),(32,dA),(33,dA),(34,dA)]) (fun k=>[]) (fun k=>rows.length-k) (fun k=>k≤rows.length) 0 ?start ?frame0 ?objs0 ?round)
 case start=>exact Nat.zero_le _
 case frame0=>exact zFr
 case objs0=>rfl
 case round =>
  rintro k hk;dsimp only[ZH,z0,z1];by_cases hkl:k<rows.length
  ·have hlt:(k:Int)<(rows.length:Int):=by omega
   obtain⟨r,hr⟩:∃r,rows[k]=r:=⟨_,rfl⟩;have hv:=ZQj r C (hrw r (by rw[<- hr];exact List.getElem_mem hkl)).1 (hrw r (by rw[<- hr];exact List.getElem_mem hkl)).2;((repeat' (first|refine zS ?_|refine ZA fun Kx hK=>?_|(refine hK _ _ ?_;clear hK)|(apply ZF;(focus (first|exact wN|(apply ZVt;exact wY;((first|(apply Z9 ZEj;exact ZVh rfl)|(exact Zg (R:=ZAQ) (_gR:=inferInstance) ZDj hkl hr (ZVh rfl) (ZVh rfl))|(apply ZVm (hv) Tryz.call103;exact aD)|exact yG|fail);all_goals infer_instance))));dsimp only[ZC,z0,z1])|(apply ZB;exact oD;all_goals (intro h;try exact xD))|(apply ZG;exact oD;all_goals (intro h;try exact xD))|refine ZVr ?_|refine ZVp ?_|refine ZVx ?_));all_goals ((repeat clear hK);repeat clear Kx))
   all_goals try exact xO
   (refine zNx (k+1) ?_;(try dsimp only))
   omega
  ·have hlt:¬ (k:Int)<(rows.length:Int):=by omega
   ((repeat' (first|refine zS ?_|refine ZA fun Kx hK=>?_|(refine hK _ _ ?_;clear hK)|(refine ZV0 ?_;clear hK)|(apply ZF;(focus (first|exact wN|(apply ZVt;exact wY;((first|exact yG|fail);all_goals infer_instance))));dsimp only[ZC,z0,z1])|(apply ZB;exact oD;all_goals (intro h;try exact xD))|refine ZVs ?_|refine ZV1 ?_));all_goals ((repeat clear hK);repeat clear Kx))
   all_goals try exact xO
   (refine⟨trivial,_,rfl,?_⟩;exact fD)
end
section
open Go.RowKit
open L05 (Ln ZGi ZHK ZB1 RedAt Good05)
def ZAc (M:List (Int × Value × Ln)):List (Int × Ln):=M.map fun p=>(p.1,p.2.2)
theorem ZKQ (M:List (Int × Value × Ln)) (c:Int):ZB1 (ZAc M) c=(lookM M c).map (·.2):=by
 unfold ZB1 ZAc lookM;rw[List.find?_map,Option.map_map,Option.map_map];rfl
theorem ZMZ {M:List (Int × Value × Ln)} {c:Int} {p:Value × Ln} (h:lookM M c=some p):p∈M.map (·.2):=by
 unfold lookM at h;obtain⟨q,h1,rfl⟩:=Option.map_eq_some_iff.1 h;exact List.mem_map_of_mem (List.mem_of_find?_eq_some h1)
theorem ZAu {a:List Int} {n:Nat} (h:L05.Asc a) (hr:∀i∈a,0≤i/\i<(n:Int)):a.length≤n:=by
 rw[C34.asc_range h hr,List.length_map];exact Nat.le_trans (List.length_filter_le _ _) (by simp)
abbrev FrmL (n:Int) (m:List (Int × Ln)):Prop:=∀p∈m,L05.Low n p.2.2
theorem ZUl:StrT Tryz.prog 155 2:=⟨fun b off i w hi=>by
 match i,hi with
 | 0,_=>go_simp
 | 1,_=>go_simp⟩
theorem ZN3 {P:Program} {f:FuncId} {ds:List Dat} {hp1 O:List HObj} {e:Dat} (h:CallC P f ds hp1 fun d hp2=>d.le e/\∃o,hp2=o::O):CallC P f ds hp1 fun d hp2=>d=e/\hp2=O:=⟨fun P0 B w0 hp vs W hh hl hv=>by
 refine Calls.mono (h.out P0 B w0 hp vs W hh hl hv) fun e' W' ⟨v,d,hp2,he,hk,hh2,hd⟩=>?_;obtain⟨hle,o,rfl⟩:=hk;exact⟨v,e,O,he,⟨rfl,rfl⟩,hh2.drop,e.weak (hle _ _ _ hd) ZWZ⟩⟩
def ldO (b4 bm:Nat) (M:List (Int × Value × Ln)):List HObj:=[Zm b4 184 1 false (dX (.map (some bm))),hM bm kvQ (fun p:Value × Ln=>p.1) M,hKL LnR (M.map (·.2))]



theorem ZUO (b4 bm:Nat) (M:List (Int × Value × Ln)) (C n:Nat) (x:Ln) (hC:C≤4096) (hn:n≤4096) (G:Good05 C (ZAc M)) (hF:FrmL (n:Int) (ZAc M)) (h1:L05.Asc x.1) (h2:L05.Low (C:Int) x.1) (h3:L05.Pos x.1) (h4:L05.Asc x.2/\L05.Pos x.2) (h5:L05.Low (n:Int) x.2) :
  CallC Tryz.prog 132 ([dS LnR x]++[Value.pointer (some ⟨b4,0,none⟩)].map dX) (ldO b4 bm M) (fun d hp2=>d=dS LnR (ZHK (ZAc M) (C+1) 0 x)/\hp2=ldO b4 bm M):=by
 have hko:∀p∈M,ZC9 p.1:=fun p hp=>by
  have hm:(p.1,p.2.2)∈ZAc M:=List.mem_map.2 ⟨p,hp,rfl⟩;have:=G.low _ hm _ (L05.head_mem (G.hd _ hm));have:=G.pos _ hm _ (L05.head_mem (G.hd _ hm));simp only at *;unfold ZC9;omega
 have hkn:(M.map (·.1)).Nodup:=by
  have:=G.nd;unfold ZAc at this;rwa[List.map_map] at this
 refine ZN3 (ZIF ZLq Tryz.func132 rfl rfl fun hp=>?_)
 -- @kinds matrix.echelon$1
 simp only[Tryz.ntmps132,List.length_cons,List.length_nil,List.length_append,List.length_map,Nat.reduceAdd,Nat.reduceSub,List.replicate_succ,List.replicate_zero,List.cons_append,List.nil_append,List.map_cons,List.map_nil,ldO];(repeat' (first|(apply zV;exact yF;exact zQ)|refine ZVj ?_|refine ZA fun Kx hK=>?_|(refine hK _ _ ?_;clear hK)|refine ZVk ?_ |  (refine ZLJ (n:=2) (x:=Operand.tmp 0) (d:=ZEN [dS ZAQ x.1,dS ZAQ x.2]) (ZWD rfl ZN4) (ZAD (Nat.succ_pos _) rfl) fun b2=>ZRH (ds:=[dS ZAQ x.1,dS ZAQ x.2]) ?_;dsimp only[ZC,z0,z1]) |  (refine ZWF (dst:=some 3) (T:=155) ZQd (Zj rfl rfl) fun b3=>ZWP (List.Perm.swap _ _ _) ?_;dsimp only[ZC,z0,z1])|refine ZVp ?_))
 all_goals try exact xO
 (refine ZV4 (X:=Nat × Nat × Ln) (fun p=>[(4,dI (p.2.1:Int)),(5,dA),(6,dA),(7,dA),(8,dA),(9,dA),(10,dA),(11,dA),(12,dA),(13,dA),(14,dA),(15,dA),(16,dA),(17,dA),(18,dA),(19,dA),(20,dA),(21,dA),(22,dA),(23,dA),(24,dA),(25,dA),(26,dA),(27,dA),(28,dA),(29,dA),(30,dA),(31,dA),(32,dA),(33,dA),(34,dA),(35,dA),(36,dA)]) (fun p=>(ZAV b2 155 [dS ZAQ p.2.2.1,dS ZAQ p.2.2.2]::Zm b3 155 2 true (dX (.agg #[.slice none 0 0,.slice none 0 0]))::Zm b4 184 1 false (dX (.map (some bm)))::hM bm kvQ (fun p:Value × Ln=>p.1) M::hKL LnR (M.map (·.2))::hp)) (fun p=>p.1) (fun p=>RedAt [] C (ZAc M) x p.1 p.2.1 p.2.2/\L05.Low (n:Int) p.2.2.2/\ZHK (ZAc M) p.1 p.2.1 p.2.2=ZHK (ZAc M) (C+1) 0 x) (C+1,0,x) ?start ?frame0 ?objs0 ?round)
 case start=>exact⟨RedAt.start h1 h2 h3 h4,h5,rfl⟩
 case frame0=>exact zFr
 case objs0=>rfl
 case round =>
  rintro⟨f,i,y⟩ ⟨hR,hLo,hE⟩;simp only at hR hLo hE;dsimp only[ZH,z0,z1];by_cases hil:i<y.1.length
  ·have hilI:(i:Int)<(y.1.length:Int):=by omega
   obtain⟨c,hc⟩:∃c,y.1[i]=c:=⟨_,rfl⟩;have hc':y.1[i]?=some c:=by rw[List.getElem?_eq_getElem hil,hc]
   have hcm:c∈y.1:=List.mem_of_getElem? hc';have hc64:ZC9 c:=by have:=hR.low c hcm;have:=hR.pos c hcm;unfold ZC9;omega
   have hil2:i≤4096:=by have:=ZAu (n:=C) hR.asc fun v hv=>⟨hR.pos v hv,hR.low v hv⟩;omega
   obtain⟨f,rfl⟩:∃g,f=g+1:=⟨f-1,by
    cases f with
    | zero=>have:=hR.fuel c hc';have:=hR.low c hcm;omega
    | succ f=>rfl⟩
   have hlk:=ZKQ M c;cases hl:lookM M c with
   | none =>
    rw[hl] at hlk;have hE2:ZHK (ZAc M) (f+1) i y=ZHK (ZAc M) f (i+1) y:=by
     conv=>lhs;unfold ZHK
     rw[hc'];simp only[hlk,Option.map_none]
    (repeat' (first |  (refine WC.drawM (fun q=>ZAV b2 155 [dS ZAQ y.1,dS ZAQ y.2]∈q/\Zm b4 184 1 false (dX (.map (some bm)))∈q/\hM bm kvQ (fun p:Value × Ln=>p.1) M∈q/\hKL LnR (M.map (·.2))∈q) 12 1 [(0,false),(1,false),(2,false),(3,false),(4,false),(5,false),(6,false),(7,false),(8,false),(9,false),(10,true),(11,true)] [true,true,true,true,true,true,true,true,true,true,true,true,false] (by kernel_rfl) (by kernel_rfl) (by kernel_rfl) rfl (⟨mAt 0 rfl,mAt 2 rfl,mAt 3 rfl,mAt 4 rfl⟩) ?_) |  (first|refine WA.one (S:=[true,true,true,true,true,true,true,true,true,true,true,true,false]) (i:=12) (by kernel_rfl) rfl ?_|refine WA.nil (S:=[true,true,true,true,true,true,true,true,true,true,true,true,true]) (by kernel_rfl) ?_) |  (refine ZBX rfl (SW.alloc ZQd (Zj rfl rfl)) (fun _=>⟨mAt 1 rfl,mAt 3 rfl,mAt 4 rfl,mAt 5 rfl⟩) fun b5=>?_;dsimp only[ZC,z0,z1]) |  (refine ZBX rfl (ZGb ZLq (ZVh rfl) (ZVh rfl) (Zj rfl rfl)) (fun _=>⟨mAt 1 rfl,mAt 3 rfl,mAt 4 rfl,mAt 5 rfl⟩) fun _=>?_;dsimp only[ZC,z0,z1]) |  (refine WC.only5 4 (Halt5.go ?_))|(refine WM.nil ?_)|(apply WM.readL rfl;(focus (intro c hcc;apply ZVt;(exact ZY rfl);((first|(refine ZAl ZUl (ZVh rfl) (by decide))|(apply ZAY;exact ZLA;exact ZVh rfl;(first|exact hcc.1|exact mAt 0 rfl);rfl)|(apply ZBV ZQw;exact ZVh rfl;exact hcc.2.1)|(exact Zg (R:=RI) (_gR:=inferInstance) elI hil hc (ZVh rfl) (ZVh rfl))|(exact ZJb ZHE ZE1 (ZVh rfl) hcc.2.2.1 (ZVh rfl) isI hc64 hko hkn hl)|((first|apply ZVo|apply ZVn|apply ZVq|apply ZVw) <;> exact oD)|(apply ZVy;exact tD;exact oD)|(apply ZWG;exact oD;rfl)|fail);all_goals infer_instance)));dsimp only[ZC,z0,z1])|((first|apply ZVi|apply ZVl);exact yF;dsimp only[ZC,z0,z1])|refine ZVj ?_|refine ZA fun Kx hK=>?_|(refine hK _ _ ?_;clear hK)|refine ZVk ?_|((first|apply ZVi|apply ZVl);(focus ((first|(refine ZAl ZUl (ZVh rfl) (by decide))|(apply ZAY;exact ZLA;exact ZVh rfl;(first|exact hcc.1|exact mAt 0 rfl);rfl)|((first|apply ZVo|apply ZVn|apply ZVq|apply ZVw) <;> exact oD)|(apply ZVu;exact oD;exact nD;exact uD)|fail);all_goals infer_instance));dsimp only[ZC,z0,z1])|(apply ZB;exact oD;all_goals (intro h;try exact xD))|refine ZVr ?_|refine ZVp ?_))
    all_goals try exact xO
    refine⟨ZRD ?_⟩;((repeat' (first|refine zS ?_|refine ZA fun Kx hK=>?_|(refine hK _ _ ?_;clear hK)|(apply zV;exact yG;exact zQ)|(apply ZO;exact oD;all_goals (intro h;try exact xD))|refine ZV1 ?_|refine ZVx ?_|refine ThenD.x ?_|refine InBlockD.x ?_));all_goals ((repeat clear hK);repeat clear Kx))
    all_goals try exact xO
    (refine zNx (f,i+1,y) ?_;(try dsimp only))
    exact⟨hR.skip hc' (by rw[hlk];rfl),hLo,hE2 ▸ hE⟩
   | some p =>
    rw[hl] at hlk;have hpl:ZB1 (ZAc M) c=some p.2:=by rw[hlk];rfl
    have hpm:=L05.lookP_some hpl;have hE2:ZHK (ZAc M) (f+1) i y=ZHK (ZAc M) f i (ZGi y p.2):=by
     conv=>lhs;unfold ZHK
     rw[hc'];simp only[hpl]
    have hR2:=hR.add G hc' hpl;have hl1:=ZAu (n:=C) hR.asc fun v hv=>⟨hR.pos v hv,hR.low v hv⟩;have hl2:=ZAu (n:=n) hR.frm.1 fun v hv=>⟨hR.frm.2 v hv,hLo v hv⟩;have hl3:=ZAu (n:=C) (G.asc _ hpm) fun v hv=>⟨G.pos _ hpm v hv,G.low _ hpm v hv⟩;have hl4:=ZAu (n:=n) (G.frm _ hpm).1 fun v hv=>⟨(G.frm _ hpm).2 v hv,hF _ hpm v hv⟩;simp only at hl3 hl4;have hs1:=ZHP y.1 p.2.1 (by omega);have hs2:=ZHP y.2 p.2.2 (by omega);have hLo2:L05.Low (n:Int) (ZGi y p.2).2:=L05.plus_low hR.frm.1 (G.frm _ hpm).1 hLo (hF _ hpm);(repeat' (first |  (refine WC.drawM (fun q=>ZAV b2 155 [dS ZAQ y.1,dS ZAQ y.2]∈q/\Zm b4 184 1 false (dX (.map (some bm)))∈q/\hM bm kvQ (fun p:Value × Ln=>p.1) M∈q/\hKL LnR (M.map (·.2))∈q) 12 1 [(0,false),(1,false),(2,false),(3,false),(4,false),(5,false),(6,false),(7,false),(8,false),(9,false),(10,true),(11,true)] [true,true,true,true,true,true,true,true,true,true,true,true,false] (by kernel_rfl) (by kernel_rfl) (by kernel_rfl) rfl (⟨mAt 0 rfl,mAt 2 rfl,mAt 3 rfl,mAt 4 rfl⟩) ?_) |  (first|refine WA.one (S:=[true,true,true,true,true,true,true,true,true,true,true,true,false]) (i:=12) (by kernel_rfl) rfl ?_|refine WA.nil (S:=[true,true,true,true,true,true,true,true,true,true,true,true,true]) (by kernel_rfl) ?_) |  (refine ZBX rfl (SW.alloc ZQd (Zj rfl rfl)) (fun _=>⟨mAt 1 rfl,mAt 3 rfl,mAt 4 rfl,mAt 5 rfl⟩) fun b5=>?_;dsimp only[ZC,z0,z1]) |  (refine ZBX rfl (ZGb ZLq (ZVh rfl) (ZVh rfl) ZA9) (fun _=>⟨mAt 1 rfl,mAt 3 rfl,mAt 4 rfl,mAt 5 rfl⟩) fun _=>?_;dsimp only[ZC,z0,z1]) |  (refine WC.only5 4 (Halt5.go ?_))|(refine WM.nil ?_)|(apply WM.readL rfl;(focus (intro c hcc;apply ZVt;(exact ZY rfl);((first|(refine ZAl ZUl (ZVh rfl) (by decide))|(apply ZAY;exact ZLA;exact ZVh rfl;(first|exact hcc.1|exact mAt 0 rfl);rfl)|(apply ZBV ZQw;exact ZVh rfl;exact hcc.2.1)|(exact Zg (R:=RI) (_gR:=inferInstance) elI hil hc (ZVh rfl) (ZVh rfl))|(exact ZJc ZHE ZE1 (ZVh rfl) hcc.2.2.1 hcc.2.2.2 (ZVh rfl) isI hc64 hko hkn hl (ZMZ hl))|((first|apply ZVo|apply ZVn|apply ZVq|apply ZVw) <;> exact oD)|(apply ZVy;exact tD;exact oD)|(apply ZWG;exact oD;rfl)|fail);all_goals infer_instance)));dsimp only[ZC,z0,z1])|((first|apply ZVi|apply ZVl);exact yF;dsimp only[ZC,z0,z1])|refine ZVj ?_|refine ZA fun Kx hK=>?_|(refine hK _ _ ?_;clear hK)|refine ZVk ?_|((first|apply ZVi|apply ZVl);(focus ((first|(refine ZAl ZUl (ZVh rfl) (by decide))|(apply ZAY;exact ZLA;exact ZVh rfl;(first|exact hcc.1|exact mAt 0 rfl);rfl)|((first|apply ZVo|apply ZVn|apply ZVq|apply ZVw) <;> exact oD)|(apply ZVu;exact oD;exact nD;exact uD)|fail);all_goals infer_instance));dsimp only[ZC,z0,z1])|(apply ZB;exact oD;all_goals (intro h;try exact xD))|refine ZVr ?_|refine ZVp ?_))
    all_goals try exact xO
    refine⟨ZM2 (t:=5) rfl ?_⟩;simp only[z0,z1];((repeat' (first |  (apply ZWk 11;kernel_rfl;kernel_rfl;simp only[List.take_succ_cons,List.take_zero,List.drop_succ_cons,List.drop_zero])|((first|apply ZVi|apply ZVl);exact yF;dsimp only[ZC,z0,z1])|refine ZVj ?_|refine WD.nil ?_|(refine hK _ _ ?_;clear hK)|refine ZVk ?_ |  (refine ZBs ZLq (ZVh rfl) (ZWD rfl ZN4) rfl rfl ?_;dsimp only[ZC,z0,z1])|((first|apply ZVi|apply ZVl);(focus ((first|(refine ZAl ZUl (ZVh rfl) (by decide))|(apply ZAY;exact ZLA;exact ZVh rfl;exact mAt 0 rfl;rfl)|(apply ZVm (hs1) Tryz.call133;exact ZV9 (ZVh rfl) (ZV9 (ZVh rfl) (ZWJ)))|(apply ZVm (hs2) Tryz.call133;exact ZV9 (ZVh rfl) (ZV9 (ZVh rfl) (ZWJ)))|(exact ZOJ lnT (R:=RI) (S:=RI) (_gR:=inferInstance) (_gS:=inferInstance) (ZVh rfl) (ZVh rfl))|((first|apply ZVo|apply ZVn|apply ZVq|apply ZVw) <;> exact oD)|(apply ZAt lnT;exact ZVh rfl)|(apply ZBG lnT;exact ZVh rfl)|fail);all_goals infer_instance));dsimp only[ZC,z0,z1])|(apply ZO;exact oD;all_goals (intro h;try exact xD))|refine ZVr ?_|refine ZVx ?_|refine ZWc ?_));all_goals ((repeat clear hK);repeat clear Kx))
    all_goals try exact xO
    (refine zNx (f,i,ZGi y p.2) ?_;(try dsimp only))
    exact⟨hR2,hLo2,hE2 ▸ hE⟩
  ·have hilI:¬ (i:Int)<(y.1.length:Int):=by omega
   have hres:ZHK (ZAc M) f i y=y:=by
    cases f with
    | zero=>rfl
    | succ f=>unfold ZHK;rw[List.getElem?_eq_none (by omega)]
   rw[hres] at hE;((repeat' (first|(apply zV;exact yF;exact zQ)|refine ZVj ?_|refine ZA fun Kx hK=>?_|(refine hK _ _ ?_;clear hK)|(refine ZV0 ?_;clear hK)|refine ZVk ?_ |  (refine ZWP (List.Perm.swap _ _ _) (ZR ZLq rfl (ZVh rfl) (ZAD (by decide) rfl) ?_);dsimp only[ZC,z0,z1])|(apply zV;(focus ((first|(refine ZAl ZUl (ZVh rfl) (by decide))|(apply ZAY;exact ZLA;exact ZVh rfl;exact mAt 0 rfl;rfl)|(exact ZDN ZLq (ZVh rfl) (mAt 0 rfl) (by decide) rfl)|exact yG);all_goals infer_instance));exact zQ)|(apply ZB;exact oD;all_goals (intro h;try exact xD))|refine ZVs ?_|refine ZV1 ?_));all_goals ((repeat clear hK);repeat clear Kx))
   all_goals try exact xO
   exact⟨trivial,_,_::_,rfl,rfl,hE ▸ ZEc,_,rfl⟩
end
end Go.Proofs.YtofkoleingbbpaaGreatDoor
namespace Go.Proofs.YtofkoleingbbpaaGreatDoor.L05
section
theorem redP_low {b:List Int} {C:Nat} {n:Int} {m:List (Int × Ln)} (G:Good05 C m) (hF:∀p∈m,Low n p.2.2) {x0:Ln}:∀(f i:Nat) (x:Ln),RedAt b C m x0 f i x->Low n x.2->Low n (ZHK m f i x).2
 | 0,_,_,_,h=>h
 | f+1,i,x,hR,h=>by
  unfold ZHK;cases e:x.1[i]? with
  | none=>exact h
  | some c =>
   simp only;cases hl:ZB1 m c with
   | none=>exact redP_low G hF f (i+1) x (hR.skip e hl) h
   | some l =>
    have hm:=lookP_some hl;exact redP_low G hF f i (ZGi x l) (hR.add G e hl) (plus_low hR.frm.1 (G.frm _ hm).1 h (hF _ hm))
theorem low_mono {n k:Int} (h:n≤k) {a:List Int} (ha:Low n a):Low k a:=fun x hx=>by have:=ha x hx;omega
theorem echN_low {C:Nat} {rows:List (List Int)} (h1:AllAsc rows) (h2:∀r∈rows,Low (C:Int) r) (h3:∀r∈rows,Pos r):∀i,i≤rows.length->(∀p∈(ZN0 rows C i).1,Low (i:Int) p.2.2)/\∀y∈(ZN0 rows C i).2,Low (i:Int) y
 | 0,_=>⟨(fun p hp=>by cases hp),(fun p hp=>by cases hp)⟩
 | i+1,hi=>by
  obtain⟨i1,i2⟩:=echN_low h1 h2 h3 i (by omega);have P:=PInv.all (b:=[]) h1 h2 h3 i (by omega);have hil:i<rows.length:=by omega
  rw[echN_succ hil];obtain⟨⟨m,deps⟩,hs⟩:∃s,ZN0 rows C i=s:=⟨_,rfl⟩;rw[hs] at i1 i2 P ⊢;simp only at i1 i2;have hr:=List.getElem_mem hil;have hR0:RedAt [] C m (rows[i],[(i:Int)]) (C+1) 0 (rows[i],[(i:Int)]):=RedAt.start (h1 _ hr) (h2 _ hr) (h3 _ hr) ⟨List.pairwise_singleton _ _,fun x hx=>by rw[List.mem_singleton.1 hx];omega⟩;have hF:∀p∈m,Low ((i+1:Nat):Int) p.2.2:=fun p hp=>low_mono (by omega) (i1 p hp);have hy:=redP_low P.good hF (C+1) 0 _ hR0 (n:=((i+1:Nat):Int)) (fun x hx=>by
   simp only[List.mem_singleton] at hx;omega)
  have hO:=redP_out P.good (C+1) 0 _ hR0;unfold ZJI;simp only;generalize ZHK m (C+1) 0 (rows[i],[(i:Int)])=y at hy hO;cases hyc:y.1 with
  | nil =>
   simp only;refine⟨hF,fun z hz=>?_⟩;rcases List.mem_append.1 hz with hz|hz
   ·exact low_mono (by omega) (i2 z hz)
   ·rw[List.mem_singleton.1 hz];exact hy
  | cons c t =>
   simp only;refine⟨fun p hp=>?_,fun z hz=>low_mono (by omega) (i2 z hz)⟩;rcases List.mem_append.1 hp with hp|hp
   ·obtain⟨q,hq,e⟩:=ZLs hp;rw[e];split
    ·exact plus_low (P.good.frm q hq).1 hO.frm.1 (hF q hq) hy
    ·exact hF q hq
   ·rw[List.mem_singleton.1 hp];exact hy
theorem echN_deps (rows:List (List Int)) (C:Nat):∀i,i≤rows.length->(ZN0 rows C i).2.length≤i
 | 0,_=>Nat.le_refl _
 | i+1,hi=>by
  have h:=echN_deps rows C i (by omega);rw[echN_succ (by omega)];unfold ZJI;simp only;split
  ·simp only[List.length_append,List.length_singleton];omega
  ·simp only;omega
def ZK0 (m:List (Int × Ln)) (y:Ln) (c:Int) (s:List Nat):List (Int × Ln):=m.zipIdx.map fun p=>if p.2∈s/\c∈p.1.2.1 then(p.1.1,ZGi p.1.2 y) else p.1
theorem ZCd (m:List (Int × Ln)) (y:Ln) (c:Int) (s:List Nat) (j:Nat):(ZK0 m y c s)[j]?=m[j]?.map fun p=>if j∈s/\c∈p.2.1 then(p.1,ZGi p.2 y) else p:=by
 unfold ZK0;rw[List.getElem?_map,List.getElem?_zipIdx];cases m[j]? <;> simp
theorem updS_nil (m:List (Int × Ln)) (y:Ln) (c:Int):ZK0 m y c []=m:=by
 apply List.ext_getElem?;intro j;rw[ZCd];cases m[j]? <;> simp
theorem updS_all {m:List (Int × Ln)} {y:Ln} {c:Int} {s:List Nat} (h:∀j,j<m.length->j∈s):ZK0 m y c s=ZJU m y c:=by
 apply List.ext_getElem?;intro j;rw[ZCd];unfold ZJU;rw[List.getElem?_map];by_cases hj:j<m.length
 ·rw[List.getElem?_eq_getElem hj];simp[h j hj]
 ·rw[List.getElem?_eq_none (by omega)];rfl
theorem updS_skip {m:List (Int × Ln)} {y:Ln} {c:Int} {s:List Nat} {j:Nat} {p:Int × Ln} (hp:m[j]?=some p) (hc:c∉p.2.1):ZK0 m y c (s++[j])=ZK0 m y c s:=by
 apply List.ext_getElem?;intro i;rw[ZCd,ZCd];by_cases hij:i=j
 ·subst hij;rw[hp];simp[hc]
 ·cases m[i]? <;> simp[hij]
theorem updS_set {m:List (Int × Ln)} {y:Ln} {c:Int} {s:List Nat} {j:Nat} {p:Int × Ln} (hp:m[j]?=some p) (hc:c∈p.2.1):ZK0 m y c (s++[j])=(ZK0 m y c s).set j (p.1,ZGi p.2 y):=by
 apply List.ext_getElem?;intro i;rw[List.getElem?_set,ZCd,ZCd];by_cases hij:j=i
 ·subst hij;have hjl:j<(ZK0 m y c s).length:=by
   unfold ZK0;rw[List.length_map,List.length_zipIdx];exact(List.getElem?_eq_some_iff.1 hp).1
  rw[if_pos rfl,if_pos hjl,hp];simp[hc]
 ·rw[if_neg hij];have:i≠j:=fun e=>hij e.symm;cases m[i]? <;> simp[this]
theorem updS_here {m:List (Int × Ln)} {y:Ln} {c:Int} {s:List Nat} {j:Nat} (h:j∉s):(ZK0 m y c s)[j]?=m[j]?:=by
 rw[ZCd];cases m[j]? <;> simp[h]
theorem updS_len (m:List (Int × Ln)) (y:Ln) (c:Int) (s:List Nat):(ZK0 m y c s).length=m.length:=by
 unfold ZK0;rw[List.length_map,List.length_zipIdx]
theorem updS_keys (m:List (Int × Ln)) (y:Ln) (c:Int) (s:List Nat):(ZK0 m y c s).map (·.1)=m.map (·.1):=by
 apply List.ext_getElem?;intro j;rw[List.getElem?_map,List.getElem?_map,ZCd];cases m[j]? with
 | none=>rfl
 | some p=>simp only[Option.map_some];split <;> rfl
def ZSA (b:List Int) (ls:List Ln):List Int:=ls.filterMap fun l=>if ZBw l.2 b=true then some (hdI l.1) else none
theorem solP_out {rows:List (List Int)} {b:List Int} {C:Nat} (G:Good05 C (echP rows C).1):solP rows b C=if(echP rows C).2.any (fun y=>ZBw y b)=true then none else some (ZSA b (ZF7 (echP rows C).1 C)):=by
 unfold solP;congr 1;congr 1;unfold ZSA ZF7;rw[List.filterMap_filterMap];refine ZIh fun c _=>?_;cases hl:ZB1 (echP rows C).1 (c:Int) with
 | none=>rfl
 | some l =>
  have:=G.hd _ (lookP_some hl);simp only at this;simp[hdI,this]
theorem plcP_next {b:List Int} {ls:List Ln} {i:Nat} (h:i<ls.length):ZSA b (ls.take (i+1))=ZSA b (ls.take i)++if ZBw ls[i].2 b=true then[hdI ls[i].1] else[]:=by
 unfold ZSA;rw[List.take_add_one,List.filterMap_append,List.getElem?_eq_getElem h];congr 1;simp only[Option.toList_some,List.filterMap_cons,List.filterMap_nil];split <;> simp_all
theorem plcP_len (b:List Int) (ls:List Ln):(ZSA b ls).length≤ls.length:=List.length_filterMap_le ..
end
end Go.Proofs.YtofkoleingbbpaaGreatDoor.L05
