/- Part 22: walks by contracts, and plain laws. -/
import Derived.Test.YtokmalofdapffaaGreatV20
import Derived.Test.YtokmalofdapffaaGreatV21
set_option linter.unusedVariables false
set_option linter.unusedSimpArgs false
set_option linter.unusedSectionVars false
set_option maxRecDepth 100000
set_option maxHeartbeats 4000000
namespace Go.Proofs.YtokmalofdapffaaGreat
section
open Go.RowKit

section
variable {P:Program} {f:FuncId} {fn:Func} {c:Code} {t u:Tmp} {ds:List Dat} {hp1:List HObj} {K:Dat->List HObj->Prop}
def ZSo (t u:Nat) (K:Dat->List HObj->Prop) (hp:List HObj):ZAE:=fun e f q=>(match e with|.normal|.ret=>True|_=>False)/\∃ d d' hp2,f[t]?=some d/\f[u]?=some d'/\q=hp2++hp/\K (dT [d,d']) hp2
theorem ZH2 (hf:P.funcs[f]?=some fn) (hb:fn.body=some c) (hr:fn.results=#[.tmp t,.tmp u])
  (h:∀ hp,WC P (ZSo t u K hp) c (ds++List.replicate (fn.ntmps-ds.length) (dX undef)) (hp1++hp)):CallC P f ds hp1 K:=⟨fun P0 B w0 hp vs W hh hl hv=>by
 refine calls_of_wp hf hb ?_
 have hf0:=ZBF (m:=fn.ntmps-ds.length) hl hv
 have hsz:vs.toArray.size=ds.length:=by simp [hl]
 rw [hsz]
 refine Code.wp_mono (fun e a' w' ⟨f',p',q,hh',hf'⟩=>?_) ((h hp).on hh hf0)
 obtain ⟨hx,d,d',hp2,hd,hd',rfl,hk'⟩:=q
 have hv:=hf'.rd t d hd
 have hv':=hf'.rd u d' hd'
 have hT:(dT [d,d']).rd (Imm P0 B (hp2++hp)) w' (.tuple #[a'.tmps.getD t undef,a'.tmps.getD u undef]):=⟨[a'.tmps.getD t undef,a'.tmps.getD u undef],rfl,rfl,fun i e x he hx=>by
  match i,he,hx with
  | 0,he,hx=>cases he;cases hx;exact hv
  | 1,he,hx=>cases he;cases hx;exact hv'⟩
 cases e with
 | normal=>exact ⟨hf'.defers,_,results_tmp2 hr _ _ _,_,_,hp2,rfl,hk',hh',hT⟩
 | ret=>exact ⟨hf'.defers,_,results_tmp2 hr _ _ _,_,_,hp2,rfl,hk',hh',hT⟩
 | _=>exact hx.elim⟩
end
theorem ZIs:MapT Tryz.prog 89 92 4 (.bool false):=⟨Tryz.underlying89,fun w=>by kernel_rfl⟩
abbrev vvB (b:Bool):Value:=.bool b
abbrev ZRE (o:Cx):List (List Vx × Bool):=o.map fun f=>(f,true)
abbrev ZSr (b:Nat) (o:Cx):HObj:=hM b kvK vvB (ZRE o)
theorem ZI9 (o:Cx):(ZRE o).map (·.1)=o:=by unfold ZRE;rw [List.map_map];exact List.map_id _
theorem ZNi (o:Cx) (f:List Vx):((lookM (ZRE o) f).map vvB).getD (.bool false) = .bool (decide (f∈o)):=by
 unfold lookM ZRE
 by_cases h:f∈o
 ·rw [decide_eq_true h]
  have:∃ q,(o.map fun f=>(f,true)).find? (fun p=>decide (p.1=f))=some q/\q.2=true:=by
   have h1:((o.map fun f=>(f,true)).find? (fun p=>decide (p.1=f))).isSome:=by
    rw [List.find?_isSome]
    exact ⟨(f,true),List.mem_map_of_mem h,by simp⟩
   obtain ⟨q,hq⟩:=Option.isSome_iff_exists.1 h1
   refine ⟨q,hq,?_⟩
   obtain ⟨x,_,rfl⟩:=List.mem_map.1 (List.mem_of_find?_eq_some hq)
   rfl
  obtain ⟨q,hq,hq2⟩:=this
  rw [hq];simp [hq2]
 ·rw [decide_eq_false h]
  have:(o.map fun f=>(f,true)).find? (fun p=>decide (p.1=f))=none:=by
   rw [List.find?_eq_none]
   intro p hp
   obtain ⟨x,hx,rfl⟩:=List.mem_map.1 hp
   simp only [decide_eq_true_eq]
   intro e;exact h (e ▸ hx)
  rw [this];rfl
theorem ZCZ {s:List Vx} (h:ZAL s=0):okK s:=⟨ZDA h,fun v hv=>⟨ZJs h v hv,(ZK6.1 ((Zk.1 h).2.2.1 v hv)).1⟩⟩
section
variable {ops:Array Oper} {hp:List HObj} {fr:List Dat} {d:Dat} {Q:ZAE} {rest:List Oper} {dst:Option Tmp} {ty:TypeId} {ps:String} {af:Array Edge} {g:Option (Nat × Bool)} {b:Nat} {o:Cx} {f:List Vx}
theorem ZLK {x y:Operand} (hx:OpD fr x (dX (.map (some b)))) (hm:ZSr b o∈hp) (hy:OpD fr y (dX (kvK f))) (hf:okK f) (ho:∀ g∈o,okK g) (hn:o.Nodup) :
  SY Tryz.prog ops hp ⟨dst,.lookup 89 x y false,ty,ps,af,g⟩ fr (dB (decide (f∈o))):=by
 have h:=SY.lookM (dst:=dst) (ty:=ty) (ps:=ps) (af:=af) (g:=g) (ops:=ops) ZIs ZQ6 hx hm hy isX hf (fun p hp=>by obtain ⟨x,hx,rfl⟩:=List.mem_map.1 hp;exact ho x hx) (by rw [ZI9];exact hn)
 rw [ZNi] at h
 exact h
theorem ZMT {x y c:Operand} (hx:OpD fr x (dX (.map (some b)))) (hy:OpD fr y (dX (kvK f))) (hc:OpD fr c (dX (.bool true))) (hf:okK f) (ho:∀ g∈o,okK g) (hn:o.Nodup) (hnew:f∉o)
  (h:WL Tryz.prog ops Q rest (ZB fr dst (dX undef)) (ZSr b (o++[f])::hp)) :
  WL Tryz.prog ops Q (⟨dst,.mapUpdate 89 x y c,ty,ps,af,none⟩::rest) fr (ZSr b o::hp):=by
 refine ZDy (u:=true) ZIs ZQ6 hx hy isX hc ⟨fun _ _ _ h=>h⟩ hf (fun p hp=>by obtain ⟨x,hx,rfl⟩:=List.mem_map.1 hp;exact ho x hx) (by rw [ZI9];exact hn) ?_
 have e:ZDr (ZRE o) f true=ZRE (o++[f]):=by
  rw [ZEF (fun p hp=>by obtain ⟨x,hx,rfl⟩:=List.mem_map.1 hp;intro e;exact hnew (e ▸ hx))]
  simp [ZRE]
 rw [e];exact h
end
theorem ZNO {l:Cx} (h:∀ s∈l,ZAL s=0) {k:Nat} (hk:0<k) {n:Nat} (hn:n≤l.length):∀ f∈ZJM (l.take n) k,ZAL f=0:=fun f hf=>by
 obtain ⟨s,hs,hf⟩:=ZAr.1 (((ZDR l k n hn).2 f).1 hf)
 exact (ZAp (h s (List.mem_of_mem_take hs)) hk hf).1
def ZBY (l:Cx) (k:Nat):Prop:=4096<(Zs l k).length
set_option maxHeartbeats 8000000 in
theorem ZRh (l:Cx) (k:Nat) (hk:0<k) (hg:∀ s∈l,ZAL s=0) (hl:l.length≤1000000):CallC Tryz.prog 23 [dS ZBN l,dI (k:Int)] []
  (fun d hp2=>(ZBY l k/\d=dT [dX (.slice none 0 0),dI 17]/\hp2=[])\/(¬ ZBY l k/\∃ v,d=dT [dX v,dI 0]/\hp2=[Zh v 41 ZJ (Zs l k)])):=by
 refine ZJP (K:=fun d hp2=>(ZBY l k/\d=dT [dX (.slice none 0 0),dI 17])\/(¬ ZBY l k/\∃ v o,d=dT [dX v,dI 0]/\hp2=[Zh v 41 ZJ (Zs l k),o])) ?_ ?_
 rotate_left
 ·rintro d hp2 (⟨h1,h2⟩|⟨h1,v,o,h2,rfl⟩)
  ·exact ⟨hp2,[],by simp,.inl ⟨h1,h2,rfl⟩⟩
  ·exact ⟨[o],[_],List.Perm.swap _ _ _,.inr ⟨h1,v,h2,rfl⟩⟩
 refine ZH2 Tryz.func23 rfl rfl (fun hp=>?_)
 simp only [Tryz.ntmps23,List.length_cons,List.length_nil,Nat.reduceAdd,Nat.reduceSub,List.replicate_succ,List.replicate_zero,List.cons_append,List.nil_append]
 (repeat' (first|(apply WL.opN;exact yF;dsimp only [ZB,z0,z1])|refine WL.nil ?_|refine ZA fun Kx hK=>?_|(refine hK _ _ ?_;clear hK)|refine WC.region ?_ |  (refine WL.makeMap kvK vvB fun b=>?_;dsimp only [ZB,z0,z1])|(apply WL.opN;(focus ((first|exact ZBw|fail);all_goals infer_instance));dsimp only [ZB,z0,z1])|refine WC.block ?_))
 refine ZB0 41 ZJ ?_
 (refine ZH (X:=Nat × Value × Cx) (fun x=>[(17,dI (x.1:Int)),(7,dX x.2.1),(4,dA),(5,dA),(9,dA),(10,dA),(11,dA),(13,dA),(18,dA),(19,dA),(20,dA),(21,dA),(22,dA),(23,dA),(24,dA),(25,dA),(26,dA),(27,dA),(28,dA),(29,dA),(30,dA),(31,dA),(32,dA),(33,dA),(34,dA),(35,dA),(36,dA),(37,dA),(38,dA),(39,dA),(40,dA),(41,dA),(42,dA),(43,dA),(44,dA),(45,dA),(46,dA),(47,dA),(48,dA),(49,dA),(50,dA),(51,dA),(52,dA),(53,dA),(54,dA),(55,dA),(56,dA)]) (fun x=>(Zh x.2.1 41 ZJ x.2.2::ZSr b x.2.2::hp)) (fun x=>l.length-x.1) (fun x=>x.1≤l.length/\x.2.2=ZJM (l.take x.1) k/\x.2.2.length≤4096) (0,.slice none 0 0,[]) ?start ?frame0 ?objs0 ?round)
 case start=>exact ⟨Nat.zero_le _,rfl,Nat.zero_le _⟩
 case frame0=>((try dsimp only [ZQ,z0,z1]);repeat (first|exact LeF.nil|refine ZD (k:=?_)))
 case objs0=>rfl
 case round =>
  rintro ⟨i,v,o⟩ ⟨h1,h2,h3⟩
  simp only at h1 h2 h3
  dsimp only [ZQ,z0,z1]
  by_cases hil:i<l.length
  ·by_cases hks:l[i].length<k
   ·((repeat' (first|(apply WL.opN;exact yF;dsimp only [ZB,z0,z1])|refine WL.nil ?_|refine ZA fun Kx hK=>?_|(refine hK _ _ ?_;clear hK)|(refine Kont.skip ?_;clear hK)|refine WC.region ?_|(apply WL.opN;(focus ((first|exact ZCB|exact ZCu|exact ZBw|exact ZS|fail);all_goals infer_instance));dsimp only [ZB,z0,z1])|(apply WC.condD;(exact oD);all_goals (intro h;try exact xD))|refine WC.skip ?_|refine WC.exit ?_|refine WC.block ?_|refine ThenD.n ?_));all_goals (first|((repeat clear hK);(repeat clear Kx))))
    (refine ⟨(i+1,v,o),?_,by first|omega|(simp only;omega),rfl,?_⟩;rotate_left;((try dsimp only [ZQ,z0,z1]);repeat (first|exact LeF.nil|refine ZD (k:=?_)));(try dsimp only))
    refine ⟨by omega,?_,h3⟩
    show o=_
    rw [ZFe hil,if_pos hks,h2]
   ·have hgi:=hg _ (List.getElem_mem hil)
    have hF:Fn Tryz.prog 50 [dS ZJ l[i],dI (k:Int)] (dT [dS ZBN (ZX k l[i]),dI 0]):=by
     have:=ZKa l[i] (k:Int)
     rwa [ZFf hgi hk (by omega)] at this
    have hlen:(ZX k l[i]).length≤256:=Nat.le_trans (ZCb k l[i]) (Nat.pow_le_pow_right (by decide) (ZDA hgi):2 ^ l[i].length≤2 ^ 8)
    (repeat' (first|(apply WL.opN;exact yF;dsimp only [ZB,z0,z1])|refine WL.nil ?_|refine ZA fun Kx hK=>?_|(refine hK _ _ ?_;clear hK)|refine WC.region ?_|(apply WL.opN;(focus ((first|(apply SY.call (hF) Tryz.call50;(exact aD))|exact ZCB|exact ZE0|exact ZBw|exact ZS|exact ZCq|fail);all_goals infer_instance));dsimp only [ZB,z0,z1])|(apply WC.condD;(exact oD);all_goals (intro h;try exact xD))|(apply WC.condN;(exact oD);all_goals (intro h;try exact xD))|refine WC.skip ?_|refine WC.block ?_))
    (refine ZH (X:=Nat × Value × Cx) (fun x=>[(36,dI (x.1:Int)),(7,dX x.2.1),(13,dA),(37,dA),(38,dA),(39,dA),(40,dA),(41,dA),(42,dA),(43,dA),(44,dA),(45,dA),(46,dA),(47,dA),(48,dA),(49,dA),(50,dA),(51,dA),(52,dA)]) (fun x=>(Zh x.2.1 41 ZJ x.2.2::ZSr b x.2.2::hp)) (fun x=>(ZX k l[i]).length-x.1) (fun x=>x.1≤(ZX k l[i]).length/\x.2.2=ZHy o ((ZX k l[i]).take x.1)) (0,v,o) ?start ?frame0 ?objs0 ?round)
    case start=>exact ⟨Nat.zero_le _,rfl⟩
    case frame0=>((try dsimp only [ZQ,z0,z1]);repeat (first|exact LeF.nil|refine ZD (k:=?_)))
    case objs0=>rfl
    case round =>
     rintro ⟨j,v',o'⟩ ⟨g1,g2⟩
     simp only at g1 g2
     have hol:o'.length≤5000:=by
      have:=(ZQD ((ZX k l[i]).take j) o).2
      rw [<- g2,List.length_take] at this
      omega
     have hmem:∀ f∈o',ZAL f=0:=fun f hf=>by
      rw [g2,ZHZ] at hf
      rcases hf with hf|hf
      ·rw [h2] at hf;exact ZNO hg hk h1 f hf
      ·exact (ZAp hgi hk (List.mem_of_mem_take hf)).1
     have hnd:o'.Nodup:=by
      rw [g2];refine ZEf ?_
      rw [h2];exact (ZDR l k i h1).1
     dsimp only [ZQ,z0,z1]
     by_cases hjl:j<(ZX k l[i]).length
     ·have hfj:=(ZAp hgi hk (List.getElem_mem hjl)).1
      ((repeat' (first|(apply WL.opN;exact yF;dsimp only [ZB,z0,z1])|refine WL.nil ?_|refine ZA fun Kx hK=>?_|(refine hK _ _ ?_;clear hK)|refine WC.region ?_ |  (refine WL.perm (List.Perm.swap _ _ _) ?_;refine ZMT (OpD.t rfl) (OpD.t rfl) OpD.x (ZCZ hfj) (fun g hg=>ZCZ (hmem g hg)) hnd (by assumption) ?_;refine WL.perm (List.Perm.swap _ _ _) ?_;dsimp only [ZB,z0,z1])|((first|apply Z1|apply Zv);(exact eD);exact OpD.t rfl;(exact oD);(intro _;exact hD);(exact (by simp));(exact (by simp));(first|exact ⟨by decide,by decide⟩|skip);decide;(exact lD);(intro _;dsimp only [ZB,z0,z1]);all_goals (try infer_instance))|(apply WL.opN;(focus ((first|(apply SY.call (ZRn _ (ZDA hfj)) Tryz.call51;(exact aD))|(refine ZLK (OpD.t rfl) (.tail _ (.head _)) (OpD.t rfl) (ZCZ hfj) (fun g hg=>ZCZ (hmem g hg)) hnd)|exact ZCB|exact ZOr|exact ZCu|exact ZS|fail);all_goals infer_instance));dsimp only [ZB,z0,z1])|(apply WC.condD;(exact oD);all_goals (intro h;try exact xD))|(apply WC.condN;(exact oD);all_goals (intro h;try exact xD))|refine WC.skip ?_|refine WC.block ?_|refine ThenD.n ?_));all_goals (first|((repeat clear hK);(repeat clear Kx))))
      ·rename_i v''
       (refine ⟨(j+1,v'',o'++[(ZX k l[i])[j]]),?_,by first|omega|(simp only;omega),rfl,?_⟩;rotate_left;((try dsimp only [ZQ,z0,z1]);repeat (first|exact LeF.nil|refine ZD (k:=?_)));(try dsimp only))
       refine ⟨by omega,?_⟩
       show o'++_=_
       rw [ZIu hjl,<- g2,if_neg h]
      ·(refine ⟨(j+1,v',o'),?_,by first|omega|(simp only;omega),rfl,?_⟩;rotate_left;((try dsimp only [ZQ,z0,z1]);repeat (first|exact LeF.nil|refine ZD (k:=?_)));(try dsimp only))
       refine ⟨by omega,?_⟩
       show o'=_
       rw [ZIu hjl,<- g2,if_pos h]
     ·rw [List.take_of_length_le (by omega)] at g2
      have g3:o'=ZJM (l.take (i+1)) k:=by rw [ZFe hil,if_neg hks,<- h2,g2]
      ((repeat' (first|(apply WL.opN;exact yF;dsimp only [ZB,z0,z1])|refine WL.nil ?_|refine ZA fun Kx hK=>?_|(refine hK _ _ ?_;clear hK)|(refine Kont.skip ?_;clear hK)|refine WC.region ?_|(apply WL.opN;(focus ((first|exact ZCB|exact ZHv|exact ZCu|exact ZBw|fail);all_goals infer_instance));dsimp only [ZB,z0,z1])|(apply WC.condD;(exact oD);all_goals (intro h;try exact xD))|refine WC.skip ?_|refine WC.ret ?_|refine WC.exit ?_|refine ThenD.n ?_|refine ThenD.r ?_|refine InBlockD.r ?_));all_goals (first|((repeat clear hK);(repeat clear Kx))))
      ·refine ⟨trivial,_,_,[_,_],rfl,rfl,rfl,.inl ⟨?_,rfl⟩⟩
       have:=ZNP (l:=l) (k:=k) (n:=i+1) (by omega)
       unfold ZBY
       rw [<- g3] at this
       omega
      ·(refine ⟨(i+1,v',o'),?_,by first|omega|(simp only;omega),rfl,?_⟩;rotate_left;((try dsimp only [ZQ,z0,z1]);repeat (first|exact LeF.nil|refine ZD (k:=?_)));(try dsimp only))
       exact ⟨by omega,g3,by omega⟩
  ·have hil':i=l.length:=by omega
   subst hil'
   rw [List.take_length] at h2
   ((repeat' (first|(apply WL.opN;exact yF;dsimp only [ZB,z0,z1])|refine WL.nil ?_|refine ZA fun Kx hK=>?_|(refine hK _ _ ?_;clear hK)|(refine Kont.skip ?_;clear hK)|refine WC.region ?_ |  (apply ZG0;exact OpD.t rfl;omega;intro ys hperm hsort;dsimp only [ZB,z0,z1])|(apply WL.opN;(focus ((first|exact ZCB|fail);all_goals infer_instance));dsimp only [ZB,z0,z1])|(apply WC.condD;(exact oD);all_goals (intro h;try exact xD))|refine WC.ret ?_|refine WC.exit ?_));all_goals (first|((repeat clear hK);(repeat clear Kx))))
   have hys:ys=Zs l k:=ZLr (by rw [<- h2];exact hperm) hsort
   have hlen:=ZPo l k l.length (Nat.le_refl _)
   rw [List.take_length,<- h2] at hlen
   subst hys
   refine ⟨trivial,_,_,[_,_],rfl,rfl,rfl,.inr ⟨?_,v,_,rfl,rfl⟩⟩
   unfold ZBY
   omega
end
section
open Go.RowKit

theorem FinD.t2 {hp:List HObj} {a b a' b':Dat} (h:FinD hp a a') (k:FinD hp b b'):FinD hp (dT [a,b]) (dT [a',b']):=FinD.mk fun {P0 B w0 w v} hh hd=>by
 obtain ⟨vs,rfl,hl,hv⟩:=hd
 match vs,hl with
 | [x,y],_ =>
  refine ⟨[x,y],rfl,rfl,fun i d u hd hu=>?_⟩
  match i,hd,hu with
  | 0,hd,hu=>cases hd;cases hu;exact h.out hh (hv 0 _ _ rfl rfl)
  | 1,hd,hu=>cases hd;cases hu;exact k.out hh (hv 1 _ _ rfl rfl)
instance (l:Cx) (k:Nat):Decidable (ZBY l k):=inferInstanceAs (Decidable (4096<(Zs l k).length))
theorem ZKZ (l:Cx) (k:Nat) (hk:0<k) (hg:∀ s∈l,ZAL s=0) (hl:l.length≤1000000):Fn Tryz.prog 23 [dS ZBN l,dI (k:Int)] (dT [dS ZBN (if ZBY l k then [] else Zs l k),dI (if ZBY l k then 17 else 0)]) :=
 ZL6 (ZRh l k hk hg hl) (by
  rintro d hp2 (⟨h,rfl,rfl⟩|⟨h,v,rfl,rfl⟩)
  ·rw [if_pos h,if_pos h];exact FinD.t2 (FinD.le ZE) (FinD.le (Dat.le_refl _))
  ·rw [if_neg h,if_neg h];exact FinD.t2 (FinD.row (.head _)) (FinD.le (Dat.le_refl _)))
theorem ZCn (l:Cx) (k:Int):Fn Tryz.prog 38 [dS Cpx l,dI k] (dT [dS ZBN (ZBi l k).1,dI (ZBi l k).2]):=by
 (refine Z7 Tryz.func38 rfl rfl ?_;simp only [Tryz.ntmps38,List.length_cons,List.length_nil,Nat.reduceAdd,Nat.reduceSub,List.replicate_succ,List.replicate_zero,List.cons_append,List.nil_append])
 by_cases h0:ZA8 l=0
 ·have hg:=Zr.1 h0
  by_cases hk:1≤k/\k≤8
  ·have hk':((k.toNat:Nat):Int)=k:=by omega
   have hc:=ZKZ l k.toNat (by omega) hg.2.2.1 hg.len
   rw [hk'] at hc
   ((repeat' (first|(apply WL.opN;exact yF;dsimp only [ZB,z0,z1])|refine WL.nil ?_|refine ZA fun Kx hK=>?_|(refine hK _ _ ?_;clear hK)|refine WC.region ?_|(apply ZF;(focus (first|exact wN|(apply SYG.yes;(exact wY);((first|(apply SY.call (ZBR _) Tryz.call18;(exact aD))|(apply SY.call (hc) Tryz.call23;(exact aD))|exact ZDe|exact ZCB|exact ZHv|exact ZE0|exact Z4|exact ZEK|exact ZCq|exact ZF3|fail);all_goals infer_instance))));dsimp only [ZB,z0,z1])|((first|refine ZM rfl rfl rfl (fun h=>?_) (fun h=>?_)|refine ZL rfl rfl rfl (fun h=>?_) (fun h=>?_)|refine ZK rfl rfl rfl (fun h=>?_) (fun h=>?_)) <;> (first|(exfalso;first|omega|contradiction)|(dsimp only [z0,z1])))|(apply WC.condD;(exact oD);all_goals (intro h;try exact xD))|(apply WC.condN;(exact oD);all_goals (intro h;try exact xD))|refine WC.skip ?_|refine WC.ret ?_));all_goals (first|((repeat clear hK);(repeat clear Kx))))
   unfold ZBi;rw [if_neg (by omega),if_neg (by omega)]
   by_cases ht:ZBY l k.toNat
   ·rw [if_pos ht,if_pos ht,if_pos (show 4096<(Zs l k.toNat).length from ht)];(refine ⟨trivial,⟨_,rfl,?_⟩,_,rfl,?_⟩ <;> exact fD)
   ·rw [if_neg ht,if_neg ht,if_neg (show ¬ 4096<(Zs l k.toNat).length from ht)];(refine ⟨trivial,⟨_,rfl,?_⟩,_,rfl,?_⟩ <;> exact fD)
  ·have e:ZBi l k=([],2):=by unfold ZBi;rw [if_neg (by omega),if_pos (by omega)]
   ((repeat' (first|(apply WL.opN;exact yF;dsimp only [ZB,z0,z1])|refine WL.nil ?_|refine ZA fun Kx hK=>?_|(refine hK _ _ ?_;clear hK)|refine WC.region ?_|(apply ZF;(focus (first|exact wN|(apply SYG.yes;(exact wY);((first|(apply SY.call (ZBR _) Tryz.call18;(exact aD))|exact ZDe|exact ZCB|exact ZHv|exact ZE0|exact ZEK|exact ZF3|fail);all_goals infer_instance))));dsimp only [ZB,z0,z1])|((first|refine ZM rfl rfl rfl (fun h=>?_) (fun h=>?_)|refine ZL rfl rfl rfl (fun h=>?_) (fun h=>?_)|refine ZK rfl rfl rfl (fun h=>?_) (fun h=>?_)) <;> (first|(exfalso;first|omega|contradiction)|(dsimp only [z0,z1])))|(apply Z0;(exact oD);(with_reducible rfl))|(apply WC.condD;(exact oD);all_goals (intro h;try exact xD))|(apply WC.condN;(exact oD);all_goals (intro h;try exact xD))|refine WC.skip ?_|refine WC.ret ?_|refine ThenD.r ?_));all_goals (first|((repeat clear hK);(repeat clear Kx))))
   all_goals (rw [e];(refine ⟨trivial,⟨_,rfl,?_⟩,_,rfl,?_⟩ <;> exact fD))
 ·have e:ZBi l k=([],ZA8 l):=by unfold ZBi;rw [if_pos h0]
  ((repeat' (first|(apply WL.opN;exact yF;dsimp only [ZB,z0,z1])|refine WL.nil ?_|refine ZA fun Kx hK=>?_|(refine hK _ _ ?_;clear hK)|refine WC.region ?_|(apply ZF;(focus (first|exact wN|(apply SYG.yes;(exact wY);((first|(apply SY.call (ZBR _) Tryz.call18;(exact aD))|exact ZE0|exact ZF3|fail);all_goals infer_instance))));dsimp only [ZB,z0,z1])|(apply WC.condN;(exact oD);all_goals (intro h;try exact xD))|refine WC.ret ?_|refine ThenD.r ?_));all_goals (first|((repeat clear hK);(repeat clear Kx))))
  all_goals (rw [e];(refine ⟨trivial,⟨_,rfl,?_⟩,_,rfl,?_⟩ <;> exact fD))
theorem ZFd (l:Cx):Fn Tryz.prog 8 [dS Cpx l] (dT [dI (ZKV l).1,dI (ZKV l).2]):=by
 (refine Z7 Tryz.func8 rfl rfl ?_;simp only [Tryz.ntmps8,List.length_cons,List.length_nil,Nat.reduceAdd,Nat.reduceSub,List.replicate_succ,List.replicate_zero,List.cons_append,List.nil_append])
 by_cases h0:ZA8 l=0
 ·have hg:=Zr.1 h0
  have g6:∀ k,(Zs l k).length≤2000000:=fun k=>by
   have:=ZKG l k l.length hg.short (Nat.le_refl _)
   rw [List.take_length] at this
   have:=hg.1
   omega
  (repeat' (first|(apply WL.opN;exact yF;dsimp only [ZB,z0,z1])|refine WL.nil ?_|refine ZA fun Kx hK=>?_|(refine hK _ _ ?_;clear hK)|refine WC.region ?_|(apply WL.opN;(focus ((first|(apply SY.call (ZBR _) Tryz.call18;(exact aD))|exact ZE0|exact ZF3|fail);all_goals infer_instance));dsimp only [ZB,z0,z1])|(apply WC.condN;(exact oD);all_goals (intro h;try exact xD))|refine WC.skip ?_|refine WC.block ?_))
  (refine ZH (X:=Nat × Int) (fun x=>[(6,dI ((x.1:Int)+1)),(5,dI x.2),(2,dA),(3,dA),(7,dA),(8,dA),(14,dA),(15,dA),(16,dA),(17,dA),(18,dA),(19,dA),(20,dA),(21,dA),(22,dA),(23,dA),(24,dA),(25,dA),(26,dA),(27,dA),(28,dA),(29,dA),(30,dA),(31,dA),(32,dA),(33,dA),(34,dA),(35,dA),(36,dA),(37,dA),(38,dA)]) (fun x=>[]) (fun x=>8-x.1) (fun x=>x.1≤8/\x.2=ZEs l x.1/\(List.range x.1).any (fun k=>decide (4096<(Zs l (k+1)).length))=false) (0,0) ?start ?frame0 ?objs0 ?round)
  case start=>exact ⟨Nat.zero_le _,rfl,rfl⟩
  case frame0=>((try dsimp only [ZQ,z0,z1]);repeat (first|exact LeF.nil|refine ZD (k:=?_)))
  case objs0=>rfl
  case round =>
   rintro ⟨k,m⟩ ⟨h1,h5,h2⟩
   simp only at h1 h2 h5
   have hc:Fn Tryz.prog 23 [dS ZBN l,dI ((k:Int)+1)] (dT [dS ZBN (if ZBY l (k+1) then [] else Zs l (k+1)),dI (if ZBY l (k+1) then 17 else 0)]):=ZKZ l (k+1) (by omega) hg.2.2.1 hg.len
   have h3:=ZNM l g6 k
   rw [<- h5] at h3
   have h4:=g6 (k+1)
   dsimp only [ZQ,z0,z1]
   by_cases hk8:k<8
   ·by_cases ht:ZBY l (k+1)
    ·rw [if_pos ht,if_pos ht] at hc
     ((repeat' (first|(apply WL.opN;exact yF;dsimp only [ZB,z0,z1])|refine WL.nil ?_|refine ZA fun Kx hK=>?_|(refine hK _ _ ?_;clear hK)|refine WC.region ?_|(apply WL.opN;(focus ((first|(apply SY.call (hc) Tryz.call23;(exact aD))|exact ZSR|exact ZE0|exact Z4|exact ZCq|fail);all_goals infer_instance));dsimp only [ZB,z0,z1])|(apply WC.condD;(exact oD);all_goals (intro h;try exact xD))|(apply WC.condN;(exact oD);all_goals (intro h;try exact xD))|refine WC.skip ?_|refine WC.ret ?_|refine WC.block ?_|refine ThenD.r ?_|refine InBlockD.r ?_));all_goals (first|((repeat clear hK);(repeat clear Kx))))
     unfold ZKV
     rw [if_neg (by omega),if_pos (ZJW hk8 (decide_eq_true ht))]
     (refine ⟨trivial,⟨_,rfl,?_⟩,_,rfl,?_⟩ <;> exact fD)
    ·rw [if_neg ht,if_neg ht] at hc
     ((repeat' (first|(apply WL.opN;exact yF;dsimp only [ZB,z0,z1])|refine WL.nil ?_|refine ZA fun Kx hK=>?_|(refine hK _ _ ?_;clear hK)|refine WC.region ?_|(apply WL.opN;(focus ((first|(apply SY.call (hc) Tryz.call23;(exact aD))|exact ZSR|exact ZQp|exact ZE0|exact ZCu|exact ZRJ|exact yRem|exact ZBw|exact Z4|exact ZCq|fail);all_goals infer_instance));dsimp only [ZB,z0,z1])|(apply WC.condD;(exact oD);all_goals (intro h;try exact xD))|(apply WC.condN;(exact oD);all_goals (intro h;try exact xD))|refine WC.skip ?_|refine WC.block ?_|refine ThenD.n ?_));all_goals (first|((repeat clear hK);(repeat clear Kx))))
     ·rw [ZTH] at h
      have h9:(k+1) % 2=1:=by omega
      (refine ⟨(k+1,m+(Zs l (k+1)).length),?_,by first|omega|(simp only;omega),rfl,?_⟩;rotate_left;((try dsimp only [ZQ,z0,z1]);repeat (first|exact LeF.nil|refine ZD (k:=?_)));(try dsimp only))
      refine ⟨by omega,?_,?_⟩
      ·show _=ZEs l (k+1)
       unfold ZEs
       rw [if_pos h9,h5]
      ·rw [ZDz,h2,decide_eq_false (show ¬ 4096<(Zs l (k+1)).length from ht)];rfl
     ·rw [ZTH] at h
      have h9:¬ (k+1) % 2=1:=by omega
      (refine ⟨(k+1,m-(Zs l (k+1)).length),?_,by first|omega|(simp only;omega),rfl,?_⟩;rotate_left;((try dsimp only [ZQ,z0,z1]);repeat (first|exact LeF.nil|refine ZD (k:=?_)));(try dsimp only))
      refine ⟨by omega,?_,?_⟩
      ·show _=ZEs l (k+1)
       unfold ZEs
       rw [if_neg h9,h5]
      ·rw [ZDz,h2,decide_eq_false (show ¬ 4096<(Zs l (k+1)).length from ht)];rfl
   ·((repeat' (first|(apply WL.opN;exact yF;dsimp only [ZB,z0,z1])|refine WL.nil ?_|refine ZA fun Kx hK=>?_|(refine hK _ _ ?_;clear hK)|(refine Kont.skip ?_;clear hK)|refine WC.region ?_|(apply WL.opN;(focus ((first|exact ZSR|fail);all_goals infer_instance));dsimp only [ZB,z0,z1])|(apply WC.condD;(exact oD);all_goals (intro h;try exact xD))|refine WC.ret ?_|refine WC.exit ?_));all_goals (first|((repeat clear hK);(repeat clear Kx))))
    have h9:k=8:=by omega
    subst h9
    unfold ZKV
    rw [if_neg (by omega),h2,if_neg Bool.false_ne_true,<- h5]
    (refine ⟨trivial,⟨_,rfl,?_⟩,_,rfl,?_⟩ <;> exact fD)
 ·have e:ZKV l=(0,ZA8 l):=by unfold ZKV;rw [if_pos h0]
  ((repeat' (first|(apply WL.opN;exact yF;dsimp only [ZB,z0,z1])|refine WL.nil ?_|refine ZA fun Kx hK=>?_|(refine hK _ _ ?_;clear hK)|refine WC.region ?_|(apply WL.opN;(focus ((first|(apply SY.call (ZBR _) Tryz.call18;(exact aD))|exact ZE0|exact ZF3|fail);all_goals infer_instance));dsimp only [ZB,z0,z1])|(apply WC.condN;(exact oD);all_goals (intro h;try exact xD))|refine WC.ret ?_|refine ThenD.r ?_));all_goals (first|((repeat clear hK);(repeat clear Kx))))
  all_goals (rw [e];(refine ⟨trivial,⟨_,rfl,?_⟩,_,rfl,?_⟩ <;> exact fD))
end
section
open Go.RowKit
theorem ZQo {P:Program} {o:Oper} {a:Act} {w:World} {K K':Act->World->Prop} {Q Q':Exit->Act->World->Prop} (h:∀ a w,K a w->K' a w) (hq:∀ e a w,e ≠ .normal->Q e a w->Q' e a w)
  (hh:o.wp P a w K Q):o.wp P a w K' Q':=by
 have hl:LetsOut Q->LetsOut Q':=fun ⟨a,w,x⟩=>⟨a,w,hq _ _ _ (by simp) x⟩
 unfold Oper.wp at *
 generalize (execOp a.eval o).run P w=r at *
 cases r with
 | ok n w' =>
  cases n <;> simp only [Oper.upon] at hh ⊢ <;>
   first
    | exact h _ _ hh
    | exact Calls.mono hh (fun e w'' he=>by cases e <;> first|exact h _ _ he|exact hq _ _ _ (by simp) he|exact hl he)
    | exact Rows.mono hh (fun _ _ he=>h _ _ he)
 | halt x w'=>cases x <;> simp only [Oper.upon] at hh ⊢ <;> first|exact hh|exact hq _ _ _ (by simp) hh
structure WA (P:Program) (ops:Array Oper) (Q:ZAE) (g:Nat) (S:List Bool) (fr:List Dat) (hp:List HObj):Prop where
 of ::
 out:∀ (P0:Nat->Prop) (B:Nat) (w0 w:World) (a:Act),Hp P0 B w0 hp w->Fr (Imm P0 B hp) w a fr->wpAny P .any ops (ZCN Q P0 B w0) g S.toArray a w
def ThenA (P:Program) (ops:Array Oper) (Q:ZAE) (g:Nat) (S:List Bool):ZAE:=fun e f p=>match e with|.normal=>WA P ops Q g S f p|e=>Q e f p
section
variable {P:Program} {ops:Array Oper} {hp:List HObj} {fr:List Dat} {Q:ZAE} {g:Nat} {S:List Bool}
theorem WA.id (h:WA P ops Q g S fr hp):WA P ops Q g S fr hp:=h
theorem WA.nil (hr:Region.ready .any ops S.toArray=[]) (h:Q .normal fr hp):WA P ops Q 0 S fr hp:=WA.of fun _ _ _ _ _ hh hf=>⟨hr,fr,hp,h,hh,hf⟩
theorem WA.step {i:Nat} {o:Oper} (ho:ops[i]?=some o) (h:WL P ops (ThenA P ops Q g (S.set i true)) [o] fr hp) {P0:Nat->Prop} {B:Nat} {w0 w:World} {a:Act} (hh:Hp P0 B w0 hp w) (hf:Fr (Imm P0 B hp) w a fr) :
  wpOp P ops (ZCN Q P0 B w0) i (wpAny P .any ops (ZCN Q P0 B w0) g (S.toArray.setIfInBounds i true)) a w:=by
 have h1:=h.on hh hf
 unfold wpList at h1
 unfold wpOp
 simp only [ho]
 have he:S.toArray.setIfInBounds i true=(S.set i true).toArray:=by simp
 rw [he]
 have hK:∀ a' w',wpList P ops (ZCN (ThenA P ops Q g (S.set i true)) P0 B w0) [] a' w'->wpAny P .any ops (ZCN Q P0 B w0) g (S.set i true).toArray a' w':=fun a' w' hn=>by
  obtain ⟨f,p,q,r,s⟩:=(hn:ZCN (ThenA P ops Q g (S.set i true)) P0 B w0 .normal a' w')
  exact (q:WA P ops Q g (S.set i true) f p).out _ _ _ _ _ r s
 have hQ:∀ e a' w',e ≠ .normal->ZCN (ThenA P ops Q g (S.set i true)) P0 B w0 e a' w'->ZCN Q P0 B w0 e a' w':=fun e a' w' hne ⟨f,p,q,r,s⟩=>by
  cases e with
  | normal=>exact absurd rfl hne
  | _=>exact ⟨f,p,q,r,s⟩
 split
 ·rename_i hw
  rw [if_pos hw] at h1
  rcases h1 with h1|⟨h1,a2,w2,h2⟩
  ·exact .inl (ZQo hK hQ h1)
  ·exact .inr ⟨h1,a2,w2,hQ _ _ _ (by simp) h2⟩
 ·rename_i hw
  rw [if_neg hw] at h1
  exact hK _ _ h1
theorem WA.one {l:List Oper} {i:Nat} {o:Oper} (hr:Region.ready .any l.toArray S.toArray=[i]) (ho:l[i]?=some o) (h:WL P l.toArray (ThenA P l.toArray Q g (S.set i true)) [o] fr hp):WA P l.toArray Q (g+1) S fr hp:=WA.of fun P0 B w0 w a hh hf=>by
 refine ⟨fun h0=>(by rw [hr] at h0;cases h0),fun j hj=>?_⟩
 rw [hr] at hj
 cases List.mem_singleton.1 hj
 exact WA.step (by simpa using ho) h hh hf
theorem ThenA.n (h:WA P ops Q g S fr hp):ThenA P ops Q g S .normal fr hp:=h
end
end
end Go.Proofs.YtokmalofdapffaaGreat
