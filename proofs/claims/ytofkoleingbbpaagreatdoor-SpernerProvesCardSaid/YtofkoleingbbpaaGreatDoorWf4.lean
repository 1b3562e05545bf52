/- Part 4: walks by contracts, and plain laws. -/
import Derived.Test.YtofkoleingbbpaaGreatDoorWf3
set_option linter.unusedVariables false
set_option linter.unusedSimpArgs false
set_option linter.unusedSectionVars false
set_option maxRecDepth 100000
set_option maxHeartbeats 4000000
namespace Go.Proofs.YtofkoleingbbpaaGreatDoor
section
open Go.RowKit
open C34
theorem ZWA {β:Type} {x:List Int} {off:Nat} {s:β}:ZEA x off [s] (fun _=>true)=if ((off:Nat):Int)∈x then [s] else []:=by
 unfold ZEA
 by_cases hx:((off:Nat):Int)∈x
 ·simp [hx]
 ·simp [hx]
theorem ZKO {β:Type} {x:List Int} {p:β->Bool}:∀ (lv:List β) (off:Nat),((plc off lv p).filter fun i=>decide (i∈x)).length=((ZEA x off lv fun _=>true).filter p).length
 | [],off=>by simp [plc,ZEA]
 | s::lv,off=>by
  have h1:(s::lv)=[s]++lv:=rfl
  rw [h1,ZFR,ZFS,List.filter_append,List.filter_append,List.length_append,List.length_append,ZKO lv,ZRg,ZWA]
  congr 1
  by_cases hp:p s=true
  ·rw [if_pos hp]
   by_cases hx:((off:Nat):Int)∈x
   ·rw [if_pos hx,List.filter_cons_of_pos (by simpa using hx),List.filter_cons_of_pos hp];rfl
   ·rw [if_neg hx,List.filter_cons_of_neg (by simpa using hx)];rfl
  ·rw [if_neg hp]
   by_cases hx:((off:Nat):Int)∈x
   ·rw [if_pos hx,List.filter_cons_of_neg hp];rfl
   ·rw [if_neg hx];rfl
theorem ZH1 {α:Type} (L:List (List α)) (x:List Int):(ZAg L x).length=L.length:=by unfold ZAg;simp
theorem ZDt {α:Type} {L:List (List α)} {x:List Int} {k:Nat} (h:k<L.length):(ZAg L x)[k]'(by rw [ZH1];exact h)=ZEA x (ZAs L k) (L.getD k []) fun _=>true:=by
 unfold ZAg ZEA
 rw [List.getElem_map,List.getElem_zipIdx]
 simp only [Nat.zero_add,List.getD_eq_getElem?_getD,List.getElem?_eq_getElem h,Option.getD_some,Bool.and_true]
theorem ZM8 {β:Type} (x:List Int) (off:Nat) (U:List β) (q:β->Bool):(ZEA x off U q).Sublist U:=by
 unfold ZEA
 have h:=(List.filter_sublist (l:=U.zipIdx) (p:=fun p=>decide (((off+p.2:Nat):Int)∈x) && q p.1)).map (·.1)
 have e:U.zipIdx.map (·.1)=U:=by
  apply List.ext_getElem?
  intro i
  rw [List.getElem?_map,List.getElem?_zipIdx]
  cases U[i]? <;> rfl
 rw [e] at h
 exact h
theorem ZW9 {α:Type} [DecidableEq α] {lv:List α} (hn:lv.Nodup) (g:α):(lv.filter fun s=>decide (s=g)).length=if g∈lv then 1 else 0:=by
 induction lv with
 | nil=>simp
 | cons a lv ih =>
  have h2:=List.nodup_cons.1 hn
  have ih:=ih h2.2
  by_cases h:a=g
  ·subst h
   rw [List.filter_cons_of_pos (by simp),List.length_cons,ih,if_neg h2.1,if_pos (List.mem_cons_self ..)]
  ·rw [List.filter_cons_of_neg (by simpa using h),ih]
   by_cases hm:g∈lv
   ·rw [if_pos hm,if_pos (List.mem_cons_of_mem _ hm)]
   ·rw [if_neg hm,if_neg (fun q=>(List.mem_cons.1 q).elim (fun e=>h e.symm) hm)]
theorem ZQ5 {l:Cx} {k:Nat}:∀ (lv:Cx) (p:Option (List Vx)),AscL lv->(∀ q,p=some q->∀ s∈lv,ZAm q s<0)->(∀ s∈lv,InLv l k s)->ZIv l k p lv=0
 | [],_,_,_,_=>rfl
 | s::lv,p,ha,hp,hi=>by
  obtain ⟨h1,h2,h3⟩:=hi s (List.mem_cons_self ..)
  have ha2:=List.pairwise_cons.1 ha
  have ho:ZNm p s=false:=by
   cases p with
   | none=>rfl
   | some q =>
    have:=hp q rfl s (List.mem_cons_self ..)
    exact decide_eq_false (by omega)
  unfold ZIv
  rw [if_neg (by omega),if_neg (by omega),if_neg (by rw [h3];exact Bool.noConfusion),if_neg (by rw [ho];exact Bool.noConfusion)]
  exact ZQ5 lv (some s) ha2.2 (fun q e t ht=>by cases e;exact ha2.1 t ht) fun t ht=>hi t (List.mem_cons_of_mem _ ht)
theorem ZQ4 {l:Cx}:∀ {L:List Cx} {k:Nat},(∀ j (h:j<L.length),ZIv l (k+j) none L[j]=0)->ZPW l k L=0
 | [],_,_=>rfl
 | lv::L,k,h=>by
  unfold ZPW
  have h0:=h 0 (by simp)
  rw [Nat.add_zero] at h0
  rw [if_neg (by rw [show (lv::L)[0]=lv from rfl] at h0;omega)]
  exact ZQ4 fun j hj=>by
   have:=h (j+1) (by simpa using hj)
   rw [show k+1+j=k+(j+1) by omega]
   exact this
theorem ZWL {l:Cx} {f:Vx->Int} {L:List Cx} (h:∀ k (hk:k<L.length),ZHN l f k (ZCt L k) L[k]=true):ZMa l f 0 [] L=true:=by
 have go:∀ n k,L.length-k≤n->k≤L.length->ZMa l f k (ZCt L k) (L.drop k)=true:=fun n=>by
  induction n with
  | zero =>
   intro k h1 h2
   rw [List.drop_of_length_le (by omega)];rfl
  | succ n ih =>
   intro k h1 h2
   by_cases hk:k<L.length
   ·rw [ZGb hk,h k hk,ih (k+1) (by omega) hk];rfl
   ·rw [List.drop_of_length_le (by omega)];rfl
 exact go L.length 0 (by omega) (by omega)
theorem ZOi {l:Cx} {f:Vx->Int} {d:Nat} {L:List Cx} (h:(ZBj l).2=0) (h0:0<d) (hd:d≤8) (hc:ZDS l f d=some L):L.length=d/\(∀ k (hk:k<L.length),L[k].Nodup)/\ZFi l L=0/\ZPb l f L=0:=by
 unfold ZDS at hc
 have hwf:=ZIb (f:=f) h h0 hd
 have hA:L05.AllAsc (ZBF l f (ZAT l f d)):=fun r hr=>(hwf r hr).1
 have hLow:∀ r∈ZBF l f (ZAT l f d),L05.Low ((ZAs (ZAT l f d) d:Nat):Int) r:=fun r hr x hx=>((hwf r hr).2 x hx).2
 have hPos:∀ r∈ZBF l f (ZAT l f d),L05.Pos r:=fun r hr x hx=>((hwf r hr).2 x hx).1
 rw [L05.sol_same hA hLow hPos] at hc
 obtain ⟨x,hx,hL⟩:=Option.map_eq_some_iff.1 hc
 have hS:=L05.sol_sat hA hLow hPos hx
 have hgood:=ZGL (f:=f) h hd
 have hlen:=ZAX (l:=l) (f:=f) (d:=d)
 have hck:∀ s∈l,Asc s:=fun s hm=>(Ze.1 ((ZAA.1 (ZA4 h).1).2.2.1 s hm)).2.2.2
 subst hL
 have hl2:(ZAg (ZAT l f d) x).length=d:=by rw [ZH1,hlen]
 have hsub:∀ k,k<d->(ZEA x (ZAs (ZAT l f d) k) ((ZAT l f d).getD k []) fun _=>true).Sublist (ZC9 l ((k:Int)+1) (ZAn f (k:Int))):=fun k hk=>by
  have:=ZM8 x (ZAs (ZAT l f d) k) ((ZAT l f d).getD k []) fun _=>true
  rw [ZGt hk] at this ⊢
  exact this
 have hnd:∀ k (hk:k<(ZAg (ZAT l f d) x).length),(ZAg (ZAT l f d) x)[k].Nodup:=fun k hk=>by
  rw [ZDt (by omega)]
  exact (ZM8 _ _ _ _).nodup (hgood.nd k)
 have hin:∀ k,k<d->∀ s∈ZEA x (ZAs (ZAT l f d) k) ((ZAT l f d).getD k []) (fun _=>true),InLv l k s/\ZAn f (k:Int) s=true:=fun k hk s hs=>by
  have hm:=(hsub k hk).subset hs
  have:=ZEW (k:=k+1) h (by omega) (by omega) (by rw [show ((k+1:Nat):Int)=(k:Int)+1 by omega];exact hm)
  exact ⟨⟨this.1,this.2.1,((ZHu hck).1 this.2.2.2).2.2⟩,this.2.2.1⟩
 refine ⟨hl2,hnd,?_,?_⟩
 ·unfold ZFi
  rw [if_neg (by omega)]
  refine ZQ4 fun j hj=>?_
  rw [Nat.zero_add,ZDt (by omega)]
  refine ZQ5 _ none ?_ (fun q e=>by cases e) fun s hs=>(hin j (by omega) s hs).1
  refine List.Pairwise.sublist (hsub j (by omega)) ?_
  rw [show (j:Int)+1=((j+1:Nat):Int) by omega,ZCM h (by omega) (by omega)]
  exact (ZCD l (j+1)).filter _
 ·have hfirst:((ZEA x 0 ((ZAT l f d).getD 0 []) fun _=>true)).length % 2=1:=by
   have:=hS.sat 0 (by unfold ZBF;simp)
   have e:(ZBF l f (ZAT l f d))[0]'(by unfold ZBF;simp)=plc 0 ((ZAT l f d).getD 0 []) fun _=>true:=rfl
   rw [e] at this
   unfold L05.oddI at this
   rw [ZKO,List.filter_eq_self.2 (fun _ _=>rfl)] at this
   simpa using this
  have hrow:∀ k,1≤k->k<d->∀ g∈ZC9 l (k:Int) (ZGc f (((2 ^ k:Nat):Int)-1)),L05.oddI (ZDZ (ZVe k) (ZAT l f d) g k) x=false:=fun k h1 hk g hg=>by
   have hm:ZRs txS (Za k) (ZAT l f d) g k∈ZVS l f (ZAT l f d):=by
    unfold ZVS
    refine List.mem_flatMap.2 ⟨k-1,List.mem_range.2 (by omega),?_⟩
    rw [show k-1+1=k by omega]
    exact List.mem_map.2 ⟨g,hg,rfl⟩
   have hgi:=ZEW h h1 (by omega) hg
   rw [ZIY hgood h1 hgi.1] at hm
   obtain ⟨i,hi,e⟩:=List.getElem_of_mem hm
   have:=hS.sat (i+1) (by unfold ZBF;simpa using hi)
   have e2:(ZBF l f (ZAT l f d))[i+1]'(by unfold ZBF;simpa using hi)=(ZVS l f (ZAT l f d))[i]:=rfl
   rw [e2,e] at this
   rw [this]
   exact decide_eq_false (by rw [List.mem_singleton];omega)
  unfold ZPb
  have hK:ZMa l f 0 [] (ZAg (ZAT l f d) x)=true:=ZWL fun k hk=>by
   have hk':k<d:=by omega
   rw [ZDt (by omega)]
   unfold ZHN
   rw [Bool.and_eq_true]
   refine ⟨List.all_eq_true.2 fun s hs=>(hin k hk' s hs).2,?_⟩
   by_cases hk0:k=0
   ·rw [decide_eq_true hk0];rfl
   ·rw [decide_eq_false hk0,Bool.false_or]
    refine List.all_eq_true.2 fun g hg=>?_
    have hr:=hrow k (by omega) hk' g hg
    obtain ⟨m,rfl⟩:∃ m,k=m+1:=⟨k-1,by omega⟩
    rw [ZCx (by omega),ZDt (by omega)]
    unfold L05.oddI ZDZ at hr
    rw [List.filter_append,List.length_append,ZKO,ZKO,Nat.add_sub_cancel] at hr
    have hnp:(ZEA x (ZAs (ZAT l f d) m) ((ZAT l f d).getD m []) fun _=>true).Nodup:=(ZM8 _ _ _ _).nodup (hgood.nd m)
    rw [ZW9 hnp] at hr
    rw [beq_iff_eq]
    rw [ZUl,ZUj]
    have hr:=of_decide_eq_false hr
    have ei:(ZVe (m+1) g)=fun s=>decide (g∈Za (m+1) s):=rfl
    rw [ei] at hr
    refine decide_eq_decide.2 ?_
    by_cases hg2:g∈ZEA x (ZAs (ZAT l f d) m) ((ZAT l f d).getD m []) fun _=>true
    ·rw [if_pos hg2] at hr
     exact ⟨fun _=>hg2,fun _=>by omega⟩
    ·rw [if_neg hg2] at hr
     exact ⟨fun q=>absurd q (by omega),fun q=>absurd q hg2⟩
  rw [if_neg (by rw [hK];exact Bool.noConfusion),if_neg]
  have e0:(ZAg (ZAT l f d) x).getD 0 []=ZEA x 0 ((ZAT l f d).getD 0 []) fun _=>true:=by
   have:=ZDt (x:=x) (k:=0) (L:=ZAT l f d) (by omega)
   rw [List.getD_eq_getElem?_getD,List.getElem?_eq_getElem (by omega),Option.getD_some,this];rfl
  rw [e0,Int.tmod_eq_emod_of_nonneg (by omega)]
  omega
end
section
open Go.RowKit
def RYn:Rel Int:=fun _ _ v x=>v = .int .u8 x/\0≤x/\x≤255
instance:Good RYn:=⟨fun h _=>h,fun h _=>h,fun h=>h⟩
abbrev ZWb:Rel (List Int):=Arr RYn
theorem ZWq:ElT Tryz.prog 65 5 1 (.int .u8 0) 1 false:=⟨Tryz.underlying65,by kernel_rfl,Tryz.isAgg5,rfl⟩
theorem tyYn:TyI Tryz.prog 5 1 false:=⟨by kernel_rfl,Tryz.isAgg5⟩
theorem le_Yn {x:Int}:(dS RYn x).le (dX (.int .u8 x)):=fun _ _ _ h=>h.1
theorem ZW6 {xs:List Int}:∀ (I:Nat->Prop) (w:World) (v:Value),(dS ZWb xs).rd I w v->∀ x∈xs,0≤x/\x≤255:=fun I w v h x hx=>by
 obtain ⟨a,cap,_,_,_,h3⟩:=(h:Arr RYn I w v xs)
 obtain ⟨k,hk,rfl⟩:=List.getElem_of_mem hx
 obtain ⟨u,b,off,r1,_⟩:=h3 k hk
 exact r1.2
end
section
open Go.RowKit

theorem ZEl {P:Program} {ops:Array Oper} {hp:List HObj} {fr:List Dat} {dst:Option Tmp} {ty:TypeId} {ps:String} {af:Array Edge} {g:Option (Nat × Bool)} {T T2:TypeId} {x y:Operand} {p q c:Int} (h:p.tmod q=c) (h0:q≠0) (hx:OpD fr x (dI p)) (hy:OpD fr y (dI q)):SY P ops hp ⟨dst,.binOp .rem T x y T2,ty,ps,af,g⟩ fr (dI c):=h ▸ SY.rem hx hy h0
theorem ZFU (a b:Nat):((a:Int)).tmod (b:Int)=((a % b:Nat):Int):=by
 rw [Int.tmod_eq_emod_of_nonneg (by omega)]
 rfl
theorem ZKV {set k:Nat} (h:¬ (set >>> k) &&& 1=0):∀ n,ZHJ set n k=k
 | 0=>rfl
 | n+1=>by
  show ZHJ set n (ZGZ set k)=k
  have:ZGZ set k=k:=by unfold ZGZ;rw [if_neg h]
  rw [this];exact ZKV h n
theorem ZKU (set:Nat):∀ (n m k:Nat),ZHJ set (n+m) k=ZHJ set m (ZHJ set n k)
 | 0,m,k=>by rw [Nat.zero_add];rfl
 | n+1,m,k=>by
  rw [show n+1+m=(n+m)+1 by omega]
  show ZHJ set (n+m) (ZGZ set k)=ZHJ set m (ZHJ set n (ZGZ set k))
  exact ZKU set n m _
def ZBO (n:List Int) (i:Nat):Nat:=if n.length=0 then 0 else (n.getD (i % n.length) 0).toNat % 8
def ZHC (sets:List Nat) (n:List Int) (k:Nat):List Int:=(List.range k).map fun j=>((2 ^ ZHJ (sets.getD j 0) 8 (ZBO n j):Nat):Int)
theorem ZLO (sets:List Nat) (n:List Int) (k:Nat):ZHC sets n (k+1)=ZHC sets n k++[((2 ^ ZHJ (sets.getD k 0) 8 (ZBO n k):Nat):Int)]:=by
 unfold ZHC
 rw [List.range_succ,List.map_append]
 rfl
theorem ZIh (n:List Int) (i:Nat):ZBO n i<8:=by unfold ZBO;split <;> omega
set_option maxHeartbeats 8000000 in
theorem ZOm (vs:List Vx) (sets:List Nat) (n:List Int) (hs:∀ m∈sets,0<m/\m<256) (hl:sets.length≤100000):Fn Tryz.prog 29 [dS Lab (vs,ZBQ sets),dS ZWb n] (dS Lab (vs,ZHC sets n sets.length)):=by
 refine ZGh ZAI Tryz.func29 rfl rfl ?_
 -- @kinds law34.chosen
 simp only [Tryz.ntmps29,List.length_cons,List.length_nil,Nat.reduceAdd,Nat.reduceSub,List.replicate_succ,List.replicate_zero,List.cons_append,List.nil_append]
 refine ZU (t:=1) rfl ZW6 fun hb=>?_
 refine ZU (t:=1) rfl ZDE fun hl1=>?_
 simp only [maxLen] at hl1
 (repeat' (first|((first|apply WL.opN|apply WD.opN);exact yF;dsimp only [ZC,z0,z1])|refine WL.nil ?_|refine ZA fun Kx hK=>?_|(refine hK _ _ ?_;clear hK)|refine WC.region ?_ |  (refine WL.alloc (dst:=some 4) ZMN (ZAc rfl rfl) fun b4=>?_;dsimp only [ZC,z0,z1]) |  (refine ZCg (dst:=some 5) (zs:=[.slice none 0 0,.slice none 0 0]) ZMN (by decide) (by simp [Value.oneCell']) fun b5=>?_;dsimp only [ZC,z0,z1,List.map_cons,List.map_nil]) |  (refine ZCC ZAI (OpD.t rfl) (OpD.t rfl) rfl rfl ?_;dsimp only [ZC])|((first|apply WL.opN|apply WD.opN);(focus ((first|(refine ZP Zx (OpD.t rfl) Zh rfl rfl)|(apply SY.load;exact ZBv;exact OpD.t rfl)|(exact ZPr (OpD.t rfl))|(apply SY.len;(exact oD);(exact nD);(exact uD))|(apply SY.box;(exact oD);(exact hD))|fail);all_goals infer_instance));dsimp only [ZC,z0,z1])|refine WC.block ?_))
 rw [ZEz]
 refine Zt 3 RI ?_
 (refine WC.loopU (X:=Nat × Value) (fun x=>[(15,dI (x.1:Int)),(6,dA),(7,dA),(8,dA),(16,dA),(17,dA),(18,dA),(19,dA),(20,dA),(21,dA),(22,dA),(23,dA),(24,dA),(25,dA),(26,dA),(27,dA),(28,dA),(29,dA),(30,dA),(31,dA),(32,dA),(33,dA),(34,dA),(35,dA),(36,dA),(37,dA),(38,dA),(39,dA),(40,dA),(41,dA),(42,dA),(43,dA),(44,dA),(45,dA),(46,dA),(47,dA)]) (fun x=>(Zp x.2 3 RI (ZHC sets n x.1)::ZAV b5 25 [dS ZN vs,dX x.2]::Zr b4 25 2 true (dX (.agg #[.slice none 0 0,.slice none 0 0]))::[])) (fun x=>sets.length-x.1) (fun x=>x.1≤sets.length) (0,.slice none 0 0) ?start ?frame0 ?objs0 ?round)
 case start=>simp
 case frame0=>((try dsimp only [ZK,z0,z1]);repeat (first|exact LeF.nil|refine ZD (k:=?_)))
 case objs0=>rfl
 case round =>
  rintro ⟨i,u⟩ q1
  simp only at q1
  dsimp only [ZK,z0,z1]
  have hul:(ZHC sets n i).length≤100000:=by simp [ZHC];omega
  by_cases hi:i<sets.length
  ·have hm:=hs sets[i] (List.getElem_mem hi)
   have hk0:=ZIh n i
   have hgd:sets.getD i 0=sets[i]:=by simp [List.getD,hi]
   have hend:=ZR0 ⟨sets[i],hm.2⟩ ⟨ZBO n i,hk0⟩ (by simp only;omega)
   simp only at hend
   by_cases hn0:n.length=0
   ·have hst:ZBO n i=0:=by unfold ZBO;rw [if_pos hn0]
    (repeat' (first|((first|apply WL.opN|apply WD.opN);exact yF;dsimp only [ZC,z0,z1])|refine WL.nil ?_|refine ZA fun Kx hK=>?_|(refine hK _ _ ?_;clear hK)|refine WC.region ?_|((first|apply WL.opN|apply WD.opN);(focus ((first|(apply SY.len;exact OpD.t rfl;exact ZB2;exact ZWq.unt)|(refine ZUS elI (OpD.t rfl) (OpD.t rfl) hi)|((first|apply SY.move|apply SY.assign|apply SY.lss|apply SY.gtr|apply SY.eql|apply SY.and) <;> (exact oD))|fail);all_goals infer_instance));dsimp only [ZC,z0,z1])|(apply ZB;(exact oD);all_goals (intro h;try exact xD))|refine WC.skip ?_|refine WC.block ?_))
    all_goals try (exfalso;omega)
    (refine WC.loopU (X:=Nat × Nat) (fun x=>[(8,dI (x.2:Int)),(32,dA),(33,dA),(34,dA),(35,dA),(36,dA),(37,dA),(38,dA),(39,dA)]) (fun x=>(Zp u 3 RI (ZHC sets n i)::ZAV b5 25 [dS ZN vs,dX u]::Zr b4 25 2 true (dX (.agg #[.slice none 0 0,.slice none 0 0]))::[])) (fun x=>8-x.1) (fun x=>x.1≤8/\x.2<8/\x.2=ZHJ sets[i] x.1 (ZBO n i)) (0,ZBO n i) ?start ?frame0 ?objs0 ?round)
    case start=>exact ⟨Nat.zero_le _,hk0,rfl⟩
    case frame0=>((try dsimp only [ZK,z0,z1]);repeat (first|exact LeF.nil|refine ZD (k:=?_)))
    case objs0=>rfl
    case round =>
     rintro ⟨j,k⟩ ⟨g1,g2,g3⟩
     simp only at g1 g2 g3
     dsimp only [ZK,z0,z1]
     have hrem:((k:Int)+1).tmod 8=(((k+1) % 8:Nat):Int):=ZFU (k+1) 8
     by_cases hbz:(sets[i] >>> k) &&& 1=0
     ·have hj:j<8:=by
       refine Nat.lt_of_not_le fun h=>?_
       obtain rfl:j=8:=by omega
       rw [<- g3,hbz] at hend;cases hend
      ((repeat' (first|((first|apply WL.opN|apply WD.opN);exact yF;dsimp only [ZC,z0,z1])|refine WL.nil ?_|refine ZA fun Kx hK=>?_|(refine hK _ _ ?_;clear hK)|refine WC.region ?_|((first|apply WL.opN|apply WD.opN);(focus ((first|(refine ZJg (a:=sets[i]) (b:=k) (by omega) (OpD.t rfl) (OpD.t rfl))|(refine ZJb (m:=sets[i]) (i:=k) (by omega) (OpD.t rfl))|(exact ZEl hrem (by decide) (OpD.t rfl) OpD.i)|((first|apply SY.move|apply SY.assign|apply SY.lss|apply SY.gtr|apply SY.eql|apply SY.and) <;> (exact oD))|((first|apply SY.add|apply SY.rem) <;> first|exact oD|omega)|fail);all_goals infer_instance));dsimp only [ZC,z0,z1])|(apply ZB;(exact oD);all_goals (intro h;try exact xD))|refine WC.skip ?_|refine WC.block ?_|refine ThenD.n ?_|refine InBlockD.n ?_));all_goals (first|((repeat clear hK);(repeat clear Kx))))
      all_goals try (exfalso;omega)
      (refine ⟨(j+1,(k+1) % 8),?_,by first|omega|(simp only;omega),rfl,?_⟩;rotate_left;((try dsimp only [ZK,z0,z1]);repeat (first|exact LeF.nil|refine ZD (k:=?_)));(try dsimp only))
      refine ⟨by omega,by omega,?_⟩
      rw [ZIc,<- g3]
      unfold ZGZ
      rw [if_pos hbz]
     ·have hsh:=ZR9 ⟨k,g2⟩
      simp only at hsh
      have hkk:ZHJ sets[i] 8 (ZBO n i)=k:=by
       have:=ZKU sets[i] j (8-j) (ZBO n i)
       rw [<- g3,ZKV hbz,show j+(8-j)=8 by omega] at this
       exact this
      ((repeat' (first |  (apply WC.drawTail 5;kernel_rfl;kernel_rfl;simp only [List.take_succ_cons,List.take_zero,List.drop_succ_cons,List.drop_zero])|((first|apply WL.opN|apply WD.opN);exact yF;dsimp only [ZC,z0,z1])|refine WL.nil ?_|refine WD.nil ?_|refine ZA fun Kx hK=>?_|(refine hK _ _ ?_;clear hK)|(refine Kont.skip ?_;clear hK)|refine WC.region ?_ |  (refine ZEH (.head _) fun h1=>WL.perm (List.Perm.swap _ _ _) (WL.storeS ZBv (OpD.t rfl) (OpD.t rfl) (Z1 h1) (by simp) (WL.perm (List.Perm.swap _ _ _) ?_));dsimp only [ZC,z0,z1])|((first|apply WL.appK|apply WL.app1);(exact eD);exact OpD.t rfl;(exact oD);decide;(exact lD);(intro _;dsimp only [ZC,z0,z1]);all_goals (try infer_instance))|((first|apply WL.opN|apply WD.opN);(focus ((first|(refine ZJg (a:=sets[i]) (b:=k) (by omega) (OpD.t rfl) (OpD.t rfl))|(refine ZJb (m:=sets[i]) (i:=k) (by omega) (OpD.t rfl))|(refine ZAf Zx (OpD.t rfl) (by decide))|(refine ZAQ ZBv (OpD.t rfl) (.tail _ (.head _)) rfl)|(exact ZJf hsh (by omega) OpD.i (OpD.t rfl))|((first|apply SY.move|apply SY.assign|apply SY.lss|apply SY.gtr|apply SY.eql|apply SY.and) <;> (exact oD))|((first|apply SY.add|apply SY.rem) <;> first|exact oD|omega)|(apply SY.build1';(exact eD);((try simp only [List.map_cons,List.map_nil]);(repeat (first|exact Zl|(apply Zk;(first|exact OpD.t rfl|exact OpD.i|exact OpD.b|exact OpD.tle rfl (by first|exact ZO|exact ZL (by decide))|exact ⟨ZO⟩|exact ⟨ZL (by decide)⟩)))));rfl;rfl;(intro _;first|exact ZAW|exact ZAK|exact ZAC|exact shape_B);(exact (by simp)))|fail);all_goals infer_instance));dsimp only [ZC,z0,z1])|(apply ZB;(exact oD);all_goals (intro h;try exact xD))|refine WC.exit ?_|refine ThenD.n ?_));all_goals (first|((repeat clear hK);(repeat clear Kx))))
      all_goals try (exfalso;omega)
      (refine ⟨(i+1,_) , ?_,by first|omega|(simp only;omega),by ((try simp only);  (rw [ZLO,hgd,hkk])),?_⟩;rotate_left;((try dsimp only [ZK,z0,z1]);repeat (first|exact LeF.nil|refine ZD (k:=?_)));(try dsimp only))
      omega
   ·have hmod:i % n.length<n.length:=Nat.mod_lt _ (by omega)
    have hby:=hb n[i % n.length] (List.getElem_mem hmod)
    have hst:ZBO n i=n[i % n.length].toNat % 8:=by
     unfold ZBO
     rw [if_neg hn0]
     simp [List.getD,hmod]
    have hst8:(n[i % n.length]).tmod 8=((ZBO n i:Nat):Int):=by
     rw [hst]
     have:=ZFU n[i % n.length].toNat 8
     rw [Int.toNat_of_nonneg hby.1] at this
     exact this
    (repeat' (first|((first|apply WL.opN|apply WD.opN);exact yF;dsimp only [ZC,z0,z1])|refine WL.nil ?_|refine ZA fun Kx hK=>?_|(refine hK _ _ ?_;clear hK)|refine WC.region ?_|((first|apply WL.opN|apply WD.opN);(focus ((first|(apply SY.load;exact tyYn;exact OpD.t rfl)|(apply SY.len;exact OpD.t rfl;exact ZB2;exact ZWq.unt)|(refine ZUS elI (OpD.t rfl) (OpD.t rfl) hi)|(exact ZEl (ZFU i n.length) (by omega) (OpD.t rfl) (OpD.t rfl))|(refine SY.ix (R:=RYn) (_gR:=inferInstance) ZWq (OpD.t rfl) (OpD.t rfl) hmod)|(exact ZHR (OpD.tle rfl le_Yn) (cvU8 _ hby))|(exact ZEl hst8 (by decide) (OpD.t rfl) OpD.i)|((first|apply SY.move|apply SY.assign|apply SY.lss|apply SY.gtr|apply SY.eql|apply SY.and) <;> (exact oD))|fail);all_goals infer_instance));dsimp only [ZC,z0,z1])|(apply ZB;(exact oD);all_goals (intro h;try exact xD))|refine WC.skip ?_|refine WC.block ?_))
    all_goals try (exfalso;omega)
    (refine WC.loopU (X:=Nat × Nat) (fun x=>[(8,dI (x.2:Int)),(32,dA),(33,dA),(34,dA),(35,dA),(36,dA),(37,dA),(38,dA),(39,dA)]) (fun x=>(Zp u 3 RI (ZHC sets n i)::ZAV b5 25 [dS ZN vs,dX u]::Zr b4 25 2 true (dX (.agg #[.slice none 0 0,.slice none 0 0]))::[])) (fun x=>8-x.1) (fun x=>x.1≤8/\x.2<8/\x.2=ZHJ sets[i] x.1 (ZBO n i)) (0,ZBO n i) ?start ?frame0 ?objs0 ?round)
    case start=>exact ⟨Nat.zero_le _,hk0,rfl⟩
    case frame0=>((try dsimp only [ZK,z0,z1]);repeat (first|exact LeF.nil|refine ZD (k:=?_)))
    case objs0=>rfl
    case round =>
     rintro ⟨j,k⟩ ⟨g1,g2,g3⟩
     simp only at g1 g2 g3
     dsimp only [ZK,z0,z1]
     have hrem:((k:Int)+1).tmod 8=(((k+1) % 8:Nat):Int):=ZFU (k+1) 8
     by_cases hbz:(sets[i] >>> k) &&& 1=0
     ·have hj:j<8:=by
       refine Nat.lt_of_not_le fun h=>?_
       obtain rfl:j=8:=by omega
       rw [<- g3,hbz] at hend;cases hend
      ((repeat' (first|((first|apply WL.opN|apply WD.opN);exact yF;dsimp only [ZC,z0,z1])|refine WL.nil ?_|refine ZA fun Kx hK=>?_|(refine hK _ _ ?_;clear hK)|refine WC.region ?_|((first|apply WL.opN|apply WD.opN);(focus ((first|(refine ZJg (a:=sets[i]) (b:=k) (by omega) (OpD.t rfl) (OpD.t rfl))|(refine ZJb (m:=sets[i]) (i:=k) (by omega) (OpD.t rfl))|(exact ZEl hrem (by decide) (OpD.t rfl) OpD.i)|((first|apply SY.move|apply SY.assign|apply SY.lss|apply SY.gtr|apply SY.eql|apply SY.and) <;> (exact oD))|((first|apply SY.add|apply SY.rem) <;> first|exact oD|omega)|fail);all_goals infer_instance));dsimp only [ZC,z0,z1])|(apply ZB;(exact oD);all_goals (intro h;try exact xD))|refine WC.skip ?_|refine WC.block ?_|refine ThenD.n ?_|refine InBlockD.n ?_));all_goals (first|((repeat clear hK);(repeat clear Kx))))
      all_goals try (exfalso;omega)
      (refine ⟨(j+1,(k+1) % 8),?_,by first|omega|(simp only;omega),rfl,?_⟩;rotate_left;((try dsimp only [ZK,z0,z1]);repeat (first|exact LeF.nil|refine ZD (k:=?_)));(try dsimp only))
      refine ⟨by omega,by omega,?_⟩
      rw [ZIc,<- g3]
      unfold ZGZ
      rw [if_pos hbz]
     ·have hsh:=ZR9 ⟨k,g2⟩
      simp only at hsh
      have hkk:ZHJ sets[i] 8 (ZBO n i)=k:=by
       have:=ZKU sets[i] j (8-j) (ZBO n i)
       rw [<- g3,ZKV hbz,show j+(8-j)=8 by omega] at this
       exact this
      ((repeat' (first |  (apply WC.drawTail 5;kernel_rfl;kernel_rfl;simp only [List.take_succ_cons,List.take_zero,List.drop_succ_cons,List.drop_zero])|((first|apply WL.opN|apply WD.opN);exact yF;dsimp only [ZC,z0,z1])|refine WL.nil ?_|refine WD.nil ?_|refine ZA fun Kx hK=>?_|(refine hK _ _ ?_;clear hK)|(refine Kont.skip ?_;clear hK)|refine WC.region ?_ |  (refine ZEH (.head _) fun h1=>WL.perm (List.Perm.swap _ _ _) (WL.storeS ZBv (OpD.t rfl) (OpD.t rfl) (Z1 h1) (by simp) (WL.perm (List.Perm.swap _ _ _) ?_));dsimp only [ZC,z0,z1])|((first|apply WL.appK|apply WL.app1);(exact eD);exact OpD.t rfl;(exact oD);decide;(exact lD);(intro _;dsimp only [ZC,z0,z1]);all_goals (try infer_instance))|((first|apply WL.opN|apply WD.opN);(focus ((first|(refine ZJg (a:=sets[i]) (b:=k) (by omega) (OpD.t rfl) (OpD.t rfl))|(refine ZJb (m:=sets[i]) (i:=k) (by omega) (OpD.t rfl))|(refine ZAf Zx (OpD.t rfl) (by decide))|(refine ZAQ ZBv (OpD.t rfl) (.tail _ (.head _)) rfl)|(exact ZJf hsh (by omega) OpD.i (OpD.t rfl))|((first|apply SY.move|apply SY.assign|apply SY.lss|apply SY.gtr|apply SY.eql|apply SY.and) <;> (exact oD))|((first|apply SY.add|apply SY.rem) <;> first|exact oD|omega)|(apply SY.build1';(exact eD);((try simp only [List.map_cons,List.map_nil]);(repeat (first|exact Zl|(apply Zk;(first|exact OpD.t rfl|exact OpD.i|exact OpD.b|exact OpD.tle rfl (by first|exact ZO|exact ZL (by decide))|exact ⟨ZO⟩|exact ⟨ZL (by decide)⟩)))));rfl;rfl;(intro _;first|exact ZAW|exact ZAK|exact ZAC|exact shape_B);(exact (by simp)))|fail);all_goals infer_instance));dsimp only [ZC,z0,z1])|(apply ZB;(exact oD);all_goals (intro h;try exact xD))|refine WC.exit ?_|refine ThenD.n ?_));all_goals (first|((repeat clear hK);(repeat clear Kx))))
      all_goals try (exfalso;omega)
      (refine ⟨(i+1,_) , ?_,by first|omega|(simp only;omega),by ((try simp only);  (rw [ZLO,hgd,hkk])),?_⟩;rotate_left;((try dsimp only [ZK,z0,z1]);repeat (first|exact LeF.nil|refine ZD (k:=?_)));(try dsimp only))
      omega
  ·have hie:i=sets.length:=by omega
   subst hie
   refine WC.perm (List.Perm.swap _ _ _) (ZEF (k:=1) rfl ?_)
   dsimp only [z0,z1]
   ((repeat' (first|refine WL.nil ?_|refine ZA fun Kx hK=>?_|(refine hK _ _ ?_;clear hK)|(refine Kont.skip ?_;clear hK)|refine WC.region ?_ |  (refine ZBz (d:=dS Lab (vs,ZHC sets n sets.length)) ZAI rfl (OpD.tle rfl ZQM) ZBM ?_;dsimp only [ZC,z0,z1])|((first|apply WL.opN|apply WD.opN);(focus ((first|(refine ZCo ZAI (OpD.t rfl) (.head _) (by decide) rfl)|((first|apply SY.move|apply SY.assign|apply SY.lss|apply SY.gtr|apply SY.eql|apply SY.and) <;> (exact oD))|fail);all_goals infer_instance));dsimp only [ZC,z0,z1])|(apply ZB;(exact oD);all_goals (intro h;try exact xD))|refine WC.ret ?_|refine WC.exit ?_));all_goals (first|((repeat clear hK);(repeat clear Kx))))
   all_goals try (exfalso;omega)
   (refine ⟨trivial,_,rfl,?_⟩;exact fD)
end
section
open Go.RowKit
open C34
theorem ZTd {A:List Int} (h:∀ a∈A,1≤a/\a<256):A=ZBQ (A.map Int.toNat):=by
 unfold ZBQ
 rw [List.map_map]
 conv=>lhs;rw [<- List.map_id A]
 refine List.map_congr_left fun a ha=>?_
 have:=h a ha
 simp only [id,Function.comp_apply]
 omega
theorem ZFG (sets:List Nat) (n:List Int) (k:Nat):(ZHC sets n k).length=k:=by simp [ZHC]
theorem ZMp (sets:List Nat) (n:List Int) {i k:Nat} (h:i<k):(ZHC sets n k)[i]'(by rw [ZFG];exact h)=((2 ^ ZHJ (sets.getD i 0) 8 (ZBO n i):Nat):Int):=by simp [ZHC]
theorem ZMq {sets:List Nat} {n:List Int} {i:Nat} (hs:∀ m∈sets,0<m/\m<256) (hi:i<sets.length):ZHJ (sets.getD i 0) 8 (ZBO n i)<8/\sets[i].testBit (ZHJ (sets.getD i 0) 8 (ZBO n i))=true:=by
 have hm:=hs sets[i] (List.getElem_mem hi)
 have hgd:sets.getD i 0=sets[i]:=by simp [List.getD,hi]
 have h1:=ZR0 ⟨sets[i],hm.2⟩ ⟨ZBO n i,ZIh n i⟩ (by simp only;omega)
 simp only at h1
 rw [hgd]
 refine ⟨ZRz _ _ _ (ZIh n i),?_⟩
 rw [Nat.testBit,Nat.and_comm,h1];rfl
theorem ZVL {sets:List Nat} {n:List Int} (hs:∀ m∈sets,0<m/\m<256):∀ b∈ZHC sets n sets.length,∃ j:Nat,j<8/\b=((2 ^ j:Nat):Int):=fun b hb=>by
 obtain ⟨i,hi,rfl⟩:=List.getElem_of_mem hb
 rw [ZFG] at hi
 exact ⟨_,(ZMq (n:=n) hs hi).1,ZMp sets n hi⟩
theorem ZJE:∀ (vs:List Vx) (A B:List Int) (p:Option Vx),A.length=B.length->(∀ b∈B,1≤b/\b<256)->ZEK p vs A=0->ZEK p vs B=0
 | [],_,_,_,_,_,_=>by unfold ZEK;rfl
 | _::_,_,[],_,_,_,_=>by unfold ZEK;rfl
 | v::vs,[],b::B,_,hl,_,_=>by simp at hl
 | v::vs,a::A,b::B,p,hl,hB,h=>by
  unfold ZEK at h ⊢
  by_cases h1:ZCL v=false
  ·rw [if_pos h1] at h;cases h
  rw [if_neg h1] at h ⊢
  by_cases h2:ZQV p v
  ·rw [if_pos h2] at h;cases h
  rw [if_neg h2] at h ⊢
  by_cases h3:a<1\/256≤a
  ·rw [if_pos h3] at h;cases h
  rw [if_neg h3] at h
  have hb:=hB b (List.mem_cons_self ..)
  rw [if_neg (by omega)]
  exact ZJE vs A B (some v) (by simpa using hl) (fun c hc=>hB c (List.mem_cons_of_mem _ hc)) h
theorem ZOk {vs:List Vx} {A B:List Int} (hl:A.length=B.length) (hB:∀ b∈B,1≤b/\b<256) (h:Z9 vs A=0):Z9 vs B=0:=by
 unfold Z9 at h ⊢
 by_cases h1:4096<vs.length
 ·rw [if_pos h1] at h;cases h
 rw [if_neg h1] at h ⊢
 by_cases h2:A.length≠vs.length
 ·rw [if_pos h2] at h;cases h
 rw [if_neg h2] at h
 rw [if_neg (by omega)]
 exact ZJE vs A B none hl hB h
theorem ZV6:∀ j:Fin 8,ZMx ((2 ^ j.val:Nat):Int) (((2 ^ j.val:Nat):Int)-1)=0:=by decide +kernel
theorem ZQd {vs:List Vx} {sets:List Nat} {n:List Int} (hs:∀ m∈sets,0<m/\m<256) (hc:Z9 vs (ZBQ sets)=0):Z9 vs (ZHC sets n sets.length)=0/\ZIj vs (ZBQ sets) vs (ZHC sets n sets.length)=(true,0):=by
 have hr:=ZVL (n:=n) hs
 have hB:∀ b∈ZHC sets n sets.length,1≤b/\b<256:=fun b hb=>by
  obtain ⟨j,hj,rfl⟩:=hr b hb
  have h1:=ZM3 hj
  have h2:=ZJS j
  omega
 have hlB:(ZBQ sets).length=(ZHC sets n sets.length).length:=by rw [ZEz,ZFG]
 have h2:=ZOk hlB hB hc
 refine ⟨h2,?_⟩
 unfold ZIj
 rw [if_neg (by omega),if_neg (by omega),if_neg,if_pos rfl,ZMH hlB]
 ·intro i hi hA
  rw [ZFG] at hi
  obtain ⟨q1,q2⟩:=ZMq (n:=n) hs hi
  have hm:=hs sets[i] (List.getElem_mem hi)
  rw [ZMp sets n hi]
  have e:(ZBQ sets)[i]=((sets[i]:Nat):Int):=by simp [ZBQ]
  rw [e,ZIH (by have:=ZM3 q1;omega) (by omega)]
  intro h0
  have h0:(2 ^ ZHJ (sets.getD i 0) 8 (ZBO n i)) &&& sets[i]=0:=by omega
  have:=congrArg (fun x=>x.testBit (ZHJ (sets.getD i 0) 8 (ZBO n i))) h0
  simp only [Nat.testBit_and,Nat.testBit_two_pow_self,q2,Nat.zero_testBit,Bool.and_self] at this
  cases this
 ·unfold ZR7
  have:(ZHC sets n sets.length).any (fun m=>!decide (ZMx m (m-1)=0))=false:=by
   rw [List.any_eq_false]
   intro b hb
   obtain ⟨j,hj,rfl⟩:=hr b hb
   have:=ZV6 ⟨j,hj⟩
   simp only at this
   rw [decide_eq_true this]
   exact Bool.noConfusion
  rw [this]
  exact Bool.noConfusion
theorem ZWk {vs:List Vx} {sets:List Nat} {n:List Int} (hs:∀ m∈sets,0<m/\m<256) (hc:Z9 vs (ZBQ sets)=0) {v:Vx} (hv:ZZ vs (ZBQ sets) v≠0):SuV (ZZ vs (ZBQ sets)) (ZZ vs (ZHC sets n sets.length)) v:=by
 obtain ⟨_,hA,hva,_,_⟩:=ZAU hc
 rw [ZEz] at hA
 have hm:v∈vs:=Classical.byContradiction fun h=>hv (ZGp h)
 obtain ⟨i,hi,rfl⟩:=List.getElem_of_mem hm
 have hi2:i<sets.length:=by omega
 obtain ⟨q1,q2⟩:=ZMq (n:=n) hs hi2
 refine ⟨sets[i],_,?_,?_,(hs sets[i] (List.getElem_mem hi2)).2,q1,q2⟩
 ·rw [ZGD (ZEo hva) hi (by rw [ZEz];exact hi2)]
  simp [ZBQ]
 ·rw [ZGD (ZEo hva) hi (by rw [ZFG];exact hi2)]
  exact ZMp sets n hi2
theorem ZTK {l:Cx} {vs:List Vx} {A:List Int} (h:ZBK l vs A=0):∀ s∈l,∀ v∈s,ZZ vs A v≠0:=fun s hs v hv h0=>by
 unfold ZBK at h
 by_cases h1:(ZBj l).2≠0
 ·rw [if_pos h1] at h;exact h1 h
 rw [if_neg h1] at h
 by_cases h2:Z9 vs A≠0
 ·rw [if_pos h2] at h;exact h2 h
 rw [if_neg h2] at h
 have:ZFX l (ZZ vs A)=false:=by
  unfold ZFX
  rw [List.all_eq_false]
  refine ⟨s,hs,?_⟩
  rw [Bool.not_eq_true,Bool.not_eq_false']
  exact List.any_eq_true.2 ⟨v,hv,decide_eq_true h0⟩
 rw [if_pos this] at h
 cases h
theorem ZTL {l:Cx} {vs:List Vx} {A:List Int} (h:ZBK l vs A=0):Z9 vs A=0:=by
 unfold ZBK at h
 by_cases h1:(ZBj l).2≠0
 ·rw [if_pos h1] at h;exact absurd h h1
 rw [if_neg h1] at h
 by_cases h2:Z9 vs A≠0
 ·rw [if_pos h2] at h;exact absurd h h2
 ·exact Classical.byContradiction h2
theorem ZRj {l:Cx} {vs:List Vx} {sets:List Nat} {n:List Int} {d:Nat} {L:List Cx} (hs:∀ m∈sets,0<m/\m<256) (hF:ZGf l≤400) (hb:ZBK l vs (ZBQ sets)=0) (hd:d<3) (hc:ZDS l (ZZ vs (ZBQ sets)) (d+1)=some L) :
  L.length=d+1/\ZSV l vs (ZBQ sets) L=0/\(∀ lv∈L,lv.length≤1000/\(∀ s∈lv,s.length≤8)/\(lv.filter (ZJ9 (ZZ vs (ZHC sets n sets.length)))).length % 2=1):=by
 have heul:=ZDI hb
 have hlb:=ZTL hb
 obtain ⟨h1,h2,h3,h4⟩:=ZOi heul (by omega) (by omega) hc
 have ho:=ZTN (g:=ZZ vs (ZHC sets n sets.length)) heul h3 h4 (by omega) h2 fun s hs' v hv=>ZWk hs hlb (ZTK hb s hs' v hv)
 obtain ⟨f1,f8,fo⟩:=ZEy h3
 have hck:∀ s∈l,Asc s:=fun s hm=>(Ze.1 ((ZAA.1 (ZA4 heul).1).2.2.1 s hm)).2.2.2
 refine ⟨h1,?_,fun lv hlv=>?_⟩
 ·unfold ZSV
  rw [if_neg (by omega),if_neg (by omega)]
  exact h4
 ·obtain ⟨k,hk,rfl⟩:=List.getElem_of_mem hlv
  have hin:=fo k hk
  refine ⟨?_,fun s hs'=>by have:=hin s hs';omega,?_⟩
  ·have hle:L[k].length≤(ZAt l (k+1)).length:=List.Nodup.length_le_of_subset (h2 k hk) fun s hs'=>by
    obtain ⟨c1,c2,c3⟩:=hin s hs'
    exact (ZHu hck).2 ⟨(Ze.1 c1).2.2.2,c2,c3⟩
   have:=ZQO l (k+1)
   omega
  ·have:=ho k hk
   rw [<- this]
   congr 2
   refine List.filter_congr fun s hs'=>?_
   obtain ⟨_,c2,_⟩:=hin s hs'
   unfold ZJ9 rbV
   rw [c2,ZIO]
end
end Go.Proofs.YtofkoleingbbpaaGreatDoor
