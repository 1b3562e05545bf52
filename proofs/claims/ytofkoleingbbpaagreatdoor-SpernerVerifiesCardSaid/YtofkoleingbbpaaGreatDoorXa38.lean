/- Part 38: walks by contracts, and plain laws. -/
import Derived.Test.YtofkoleingbbpaaGreatDoorXa34
import Derived.Test.YtofkoleingbbpaaGreatDoorXa37
set_option linter.unusedVariables false
set_option linter.unusedSimpArgs false
set_option linter.unusedSectionVars false
set_option maxRecDepth 100000
set_option maxHeartbeats 64000000
namespace Go.Proofs.YtofkoleingbbpaaGreatDoor
section
open Go.RowKit
section
variable {P:Program}
def fin4F (t u v x:Nat) (r s q p:Dat):Z5:=fun e fr hp=>(match e with|.normal|.ret=>True|_=>False)/\(∃d,fr[t]?=some d/\FinD hp d r)/\(∃d,fr[u]?=some d/\FinD hp d s)/\(∃d,fr[v]?=some d/\FinD hp d q)/\∃d,fr[x]?=some d/\FinD hp d p
theorem ZI7 {fn:Func} {t u v x:Tmp} (h:fn.results=#[.tmp t,.tmp u,.tmp v,.tmp x]) (tmps:Array Value) (w:World):(results fn tmps).run P w = .ok (.tuple #[tmps.getD t undef,tmps.getD u undef,tmps.getD v undef,tmps.getD x undef]) w:=by
 simp[results,h]
theorem ZMu {f:FuncId} {fn:Func} {c:Code} {args:List Dat} {r s q p:Dat} {t u v x:Tmp} (hf:P.funcs[f]?=some fn) (hb:fn.body=some c) (hr:fn.results=#[.tmp t,.tmp u,.tmp v,.tmp x])
  (h:WC P (fin4F t u v x r s q p) c (args++List.replicate (fn.ntmps-args.length) (dX undef)) []):Fn P f args (dT [r,s,q,p]) :=
 ZB6 hf hb (fun e fr hp k=>by
  obtain⟨he,⟨d,hd,hfin⟩,⟨d',hd',hfin'⟩,⟨d2,hd2,hfin2⟩,d3,hd3,hfin3⟩:=k;refine⟨by cases e <;> simp_all,fun {P0 B w0 w a} hh hf'=>⟨_,ZI7 hr _ _,[a.tmps.getD t undef,a.tmps.getD u undef,a.tmps.getD v undef,a.tmps.getD x undef],rfl,rfl,fun i e y he hx=>?_⟩⟩
  match i,he,hx with
  | 0,he,hx=>cases he;cases hx;exact hfin.out hh (hf'.rd t d hd)
  | 1,he,hx=>cases he;cases hx;exact hfin'.out hh (hf'.rd u d' hd')
  | 2,he,hx=>cases he;cases hx;exact hfin2.out hh (hf'.rd v d2 hd2)
  | 3,he,hx=>cases he;cases hx;exact hfin3.out hh (hf'.rd x d3 hd3)) h
end
end
section
open Go.RowKit
open L05 (Ln ZF7 PInv Good05 ZBw solP ZR9 hdI)
section
variable {P:Program} {ops:Array Oper} {hp:List HObj} {fr:List Dat} {dst:Option Tmp} {ty:TypeId} {ps:String} {af:Array Edge} {g:Option (Nat × Bool)}
theorem ZBK {n:Nat} {x i:Operand} {t e:TypeId} {z:Value} {bytes:Nat} {ag:Bool} (E:ElT P t e n z bytes ag) {α:Type} {R:Rel α} {_gR:Good R} {xs:List α} {k:Nat} {v:α} (hk:k<xs.length) (hv:xs[k]=v) (hx:OpD fr x (dS (ArrK n R) xs)) (hi:OpD fr i (dI (k:Int))) :
  SY P ops hp ⟨dst,.indexAddr t x i,ty,ps,af,g⟩ fr (dP n true (dS R v)):=hv ▸ Zn E hx hi hk
end



theorem ZQT (C:Nat) (rows:List (List Int)) (b:List Int) (hC:C≤4096) (hn:rows.length≤4096) (h1:L05.AllAsc rows) (h2:∀r∈rows,L05.Low (C:Int) r) (h3:∀r∈rows,L05.Pos r) (hb:VecI (rows.length:Int) b) :
  Fn Tryz.prog 62 [dS Mat ((C:Int),rows),dS ZAR b] (dT [dS ZAR ((solP rows b C).getD []),dA,dB (solP rows b C).isSome,dI 0]):=by
 have hrl:∀r∈rows,r.length≤C:=fun r hr=>ZAv (n:=C) (h1 r hr) fun v hv=>⟨h3 r hr v hv,h2 r hr v hv⟩;have hbl:b.length≤rows.length:=ZAv hb.asc hb.rng;have hck:=ZO0 (C:Int) rows (by omega) (by omega) fun r hr=>⟨⟨h1 r hr,fun v hv=>⟨h3 r hr v hv,h2 r hr v hv⟩⟩,by have:=hrl r hr;omega⟩;have hvb:=ZQh b (rows.length:Int) hb (by omega);have hech:=ZTi C rows hC hn h1 h2 h3;have hP:=PInv.all (b:=[]) h1 h2 h3 rows.length (Nat.le_refl _);have hL:=L05.echN_low h1 h2 h3 rows.length (Nat.le_refl _);have hDl:=L05.echN_deps rows C rows.length (Nat.le_refl _);rw[L05.echN_all] at hP hL hDl;have G:Good05 C (L05.echP rows C).1:=hP.good;have hdep:=hP.dep;rw[L05.solP_out G];obtain⟨⟨m,deps⟩,hE⟩:∃s,L05.echP rows C=s:=⟨_,rfl⟩;rw[hE] at hech G hdep hL hDl ⊢;simp only at G hdep hL hDl hech;have hO:∀l∈ZF7 m C,L05.Asc l.2/\l.2.length≤rows.length/\l.1.head?=some (hdI l.1):=fun l hl=>by
  obtain⟨c,hc⟩:=(L05.outP_mem G).1 hl;have q1:=G.frm _ hc;have q2:=hL.1 _ hc;have q3:=G.hd _ hc;simp only at q1 q2 q3;refine⟨q1.1,ZAv q1.1 fun v hv=>⟨q1.2 v hv,q2 v hv⟩,?_⟩;unfold hdI;rw[q3];rfl
 have hol:(ZF7 m C).length≤C:=by
  unfold ZF7;exact Nat.le_trans (List.length_filterMap_le ..) (by simp)
 generalize ZF7 m C=ls at hech hO hol ⊢;refine ZMu Tryz.func62 rfl rfl ?_
 -- @kinds matrix.Solve
 simp only[Tryz.ntmps62,List.length_cons,List.length_nil,Nat.reduceAdd,Nat.reduceSub,List.replicate_succ,List.replicate_zero,List.cons_append,List.nil_append];(repeat' (first|(apply WL.opN;exact yF;dsimp only[ZC,z0,z1])|refine WL.nil ?_|refine ZA fun Kx hK=>?_|(refine hK _ _ ?_;clear hK)|refine WC.region ?_|(apply WL.opN;(focus ((first|(apply SY.call (hck) Tryz.call102;(exact aD))|(apply SY.call (hvb) Tryz.call103;(exact aD))|(apply SY.call (hech) Tryz.call104;(exact aD))|(apply ZAB ZEk;exact OpD.t rfl)|((first|apply SY.move|apply SY.assign|apply SY.lss|apply SY.neq) <;> (exact oD))|(apply SY.len;(exact oD);(exact nD);(exact uD))|(apply SY.extract;(exact oD);rfl)|(apply SY.box;(exact oD);(exact hD))|fail);all_goals infer_instance));dsimp only[ZC,z0,z1])|(apply ZG;(exact oD);all_goals (intro h;try exact xD))|refine WC.skip ?_|refine WC.block ?_))
 all_goals try (exfalso;first|contradiction|omega)
 (refine WC.loopU (X:=Nat) (fun k=>[(37,dI (k:Int)),(4,dA),(5,dA),(6,dA),(7,dA),(13,dA),(38,dA),(39,dA),(40,dA),(41,dA),(42,dA),(43,dA),(44,dA),(45,dA)]) (fun k=>[]) (fun k=>deps.length-k) (fun k=>k≤deps.length/\∀y∈deps.take k,ZBw y b=false) 0 ?start ?frame0 ?objs0 ?round)
 case start=>exact⟨Nat.zero_le _,fun y hy=>by simp at hy⟩
 case frame0=>exact zFr
 case objs0=>rfl
 case round =>
  rintro k ⟨hk,hno⟩;dsimp only[ZL,z0,z1];by_cases hkl:k<deps.length
  ·have hkI:(k:Int)<(deps.length:Int):=by omega
   obtain⟨y,hy⟩:∃y,deps[k]=y:=⟨_,rfl⟩;have hym:y∈deps:=by rw[<- hy];exact List.getElem_mem hkl
   have hyl:=ZAv (n:=rows.length) (hdep y hym).1 fun v hv=>⟨(hdep y hym).2 v hv,hL.2 y hym v hv⟩;have hod:=ZPk y b (hdep y hym).1 hb.asc (by omega);cases ho:ZBw y b with
   | true =>
    rw[ho] at hod;have hany:(deps.any fun y=>ZBw y b)=true:=List.any_eq_true.2 ⟨y,hym,ho⟩;rw[if_pos hany];((repeat' (first|(apply WL.opN;exact yF;dsimp only[ZC,z0,z1])|refine WL.nil ?_|refine ZA fun Kx hK=>?_|(refine hK _ _ ?_;clear hK)|refine WC.region ?_|(apply WL.opN;(focus ((first|(exact Zg (R:=ZAR) (_gR:=inferInstance) ZDj hkl hy (OpD.t rfl) (OpD.t rfl))|(apply SY.call (hod) Tryz.call105;(exact aD))|((first|apply SY.move|apply SY.assign|apply SY.lss|apply SY.neq) <;> (exact oD))|fail);all_goals infer_instance));dsimp only[ZC,z0,z1])|(apply Zc;(exact oD);(with_reducible rfl))|(apply ZB;(exact oD);all_goals (intro h;try exact xD))|refine WC.skip ?_|refine WC.ret ?_|refine WC.block ?_|refine ThenD.r ?_|refine InBlockD.r ?_));all_goals (first|((repeat clear hK);(repeat clear Kx))))
    all_goals try (exfalso;first|contradiction|omega)
    exact⟨trivial,⟨_,rfl,FinD.le ZN⟩,⟨_,rfl,FinD.le (ZBh _)⟩,⟨_,rfl,FinD.b rfl⟩,_,rfl,FinD.le (ZBv rfl)⟩
   | false =>
    rw[ho] at hod;((repeat' (first|(apply WL.opN;exact yF;dsimp only[ZC,z0,z1])|refine WL.nil ?_|refine ZA fun Kx hK=>?_|(refine hK _ _ ?_;clear hK)|refine WC.region ?_|(apply WL.opN;(focus ((first|(exact Zg (R:=ZAR) (_gR:=inferInstance) ZDj hkl hy (OpD.t rfl) (OpD.t rfl))|(apply SY.call (hod) Tryz.call105;(exact aD))|((first|apply SY.move|apply SY.assign|apply SY.lss|apply SY.neq) <;> (exact oD))|((first|apply SY.add) <;> first|exact oD|omega)|fail);all_goals infer_instance));dsimp only[ZC,z0,z1])|(apply ZQ;(exact oD);(with_reducible rfl))|(apply ZB;(exact oD);all_goals (intro h;try exact xD))|refine WC.skip ?_|refine WC.block ?_|refine ThenD.n ?_));all_goals (first|((repeat clear hK);(repeat clear Kx))))
    all_goals try (exfalso;first|contradiction|omega)
    (refine zNx (k+1) ?_;(try dsimp only))
    refine⟨hkl,fun z hz=>?_⟩;rw[List.take_add_one,List.getElem?_eq_getElem hkl,hy] at hz;rcases List.mem_append.1 hz with hz|hz
    ·exact hno z hz
    ·simp only[Option.toList_some,List.mem_singleton] at hz;rw[hz];exact ho
  ·have hkI:¬ (k:Int)<(deps.length:Int):=by omega
   obtain rfl:k=deps.length:=by omega
   rw[List.take_length] at hno;have hany:¬ (deps.any fun y=>ZBw y b)=true:=fun q=>by
    obtain⟨y,hy,ho⟩:=List.any_eq_true.1 q;rw[hno y hy] at ho;cases ho
   rw[if_neg hany];(repeat' (first|(apply WL.opN;exact yF;dsimp only[ZC,z0,z1])|refine WL.nil ?_|refine ZA fun Kx hK=>?_|(refine hK _ _ ?_;clear hK)|(refine Kont.skip ?_;clear hK)|refine WC.region ?_|(apply WL.opN;(focus ((first|((first|apply SY.move|apply SY.assign|apply SY.lss|apply SY.neq) <;> (exact oD))|(apply SY.len;(exact oD);(exact nD);(exact uD))|fail);all_goals infer_instance));dsimp only[ZC,z0,z1])|(apply ZB;(exact oD);all_goals (intro h;try exact xD))|refine WC.exit ?_|refine WC.block ?_))
   all_goals try (exfalso;first|contradiction|omega)
   refine Zq 3 RI ?_;(refine WC.loopU (X:=Nat × Value) (fun z=>[(48,dI (z.1:Int)),(14,dX z.2),(16,dA),(49,dA),(50,dA),(51,dA),(52,dA),(53,dA),(54,dA),(55,dA),(56,dA),(57,dA),(58,dA),(59,dA),(60,dA),(61,dA),(62,dA),(63,dA)]) (fun z=>([Zk z.2 3 RI (ZR9 b (ls.take z.1))])) (fun z=>ls.length-z.1) (fun z=>z.1≤ls.length) (0,.slice none 0 0) ?start ?frame0 ?objs0 ?round)
   case start=>exact Nat.zero_le _
   case frame0=>exact zFr
   case objs0=>rfl
   case round =>
    rintro⟨j,vo⟩ hj;simp only at hj;dsimp only[ZL,z0,z1];by_cases hjl:j<ls.length
    ·have hjI:(j:Int)<(ls.length:Int):=by omega
     obtain⟨l,hl⟩:∃l,ls[j]=l:=⟨_,rfl⟩;have hlm:l∈ls:=by rw[<- hl];exact List.getElem_mem hjl
     obtain⟨q1,q2,q3⟩:=hO l hlm;have hod:=ZPk l.2 b q1 hb.asc (by omega);have hnx:=L05.plcP_next (b:=b) hjl;rw[hl] at hnx;have hpl:=L05.plcP_len b (ls.take j);rw[List.length_take] at hpl;have h8:((ZR9 b (ls.take j)).length+1)*8≤140737488355328:=by omega
     obtain⟨c,hc⟩:∃c,hdI l.1=c:=⟨_,rfl⟩;rw[hc] at q3 hnx;have hl0:0<l.1.length:=by
      cases e:l.1 with
      | nil=>rw[e] at q3;cases q3
      | cons a t=>simp
     have hlg:l.1[0]=c:=by
      have:l.1[0]?=some c:=by rw[<- List.head?_eq_getElem?];exact q3
      exact(List.getElem?_eq_some_iff.1 this).2
     cases ho:ZBw l.2 b with
     | true =>
      rw[ho] at hod;rw[if_pos ho] at hnx;((repeat' (first|(apply WL.opN;exact yF;dsimp only[ZC,z0,z1])|refine WL.nil ?_|refine ZA fun Kx hK=>?_|(refine hK _ _ ?_;clear hK)|refine WC.region ?_ |  (refine WL.alloc (dst:=some 16) ZQb (Zj rfl rfl) fun b16=>?_;dsimp only[ZC,z0,z1]) |  (refine ZP ZLp rfl (OpD.t rfl) ZA9 ?_;dsimp only[ZC,z0,z1])|((first|apply Zs|apply Zl);(exact eD);exact OpD.t rfl;(exact oD);(intro _;exact hD);(exact(by simp));(exact(by simp));(first|exact⟨by decide,by decide⟩|skip);decide;(exact lD);(intro _;dsimp only[ZC,z0,z1]);all_goals (try infer_instance))|(apply WL.opN;(focus ((first|(refine ZBK (R:=LnR) (_gR:=inferInstance) ZPI hjl hl (OpD.t rfl) (OpD.t rfl))|(apply ZAu lnT;exact OpD.t rfl)|(apply ZBG lnT;exact OpD.t rfl)|(exact Zg (R:=RI) (_gR:=inferInstance) (k:=0) elI hl0 hlg (OpD.t rfl) OpD.i)|(apply SY.call (hod) Tryz.call105;(exact aD))|((first|apply SY.move|apply SY.assign|apply SY.lss|apply SY.neq) <;> (exact oD))|((first|apply SY.add) <;> first|exact oD|omega)|(apply ZAu lnT;exact OpD.t rfl)|(apply ZBG lnT;exact OpD.t rfl)|fail);all_goals infer_instance));dsimp only[ZC,z0,z1])|(apply Zc;(exact oD);(with_reducible rfl))|(apply ZB;(exact oD);all_goals (intro h;try exact xD))|refine WC.skip ?_|refine WC.block ?_|refine ThenD.n ?_));all_goals (first|((repeat clear hK);(repeat clear Kx))))
      all_goals try (exfalso;first|contradiction|omega)
      rw[<- hnx];(refine zNx (j+1,_) ?_;(try dsimp only))
      omega
     | false =>
      rw[ho] at hod;rw[if_neg (by rw[ho];decide),List.append_nil] at hnx;((repeat' (first|(apply WL.opN;exact yF;dsimp only[ZC,z0,z1])|refine WL.nil ?_|refine ZA fun Kx hK=>?_|(refine hK _ _ ?_;clear hK)|refine WC.region ?_ |  (refine WL.alloc (dst:=some 16) ZQb (Zj rfl rfl) fun b16=>?_;dsimp only[ZC,z0,z1]) |  (refine ZP ZLp rfl (OpD.t rfl) ZA9 ?_;dsimp only[ZC,z0,z1])|(apply WL.opN;(focus ((first|(refine ZBK (R:=LnR) (_gR:=inferInstance) ZPI hjl hl (OpD.t rfl) (OpD.t rfl))|(apply ZAu lnT;exact OpD.t rfl)|(apply ZBG lnT;exact OpD.t rfl)|(apply SY.call (hod) Tryz.call105;(exact aD))|((first|apply SY.move|apply SY.assign|apply SY.lss|apply SY.neq) <;> (exact oD))|((first|apply SY.add) <;> first|exact oD|omega)|(apply ZAu lnT;exact OpD.t rfl)|(apply ZBG lnT;exact OpD.t rfl)|fail);all_goals infer_instance));dsimp only[ZC,z0,z1])|(apply ZQ;(exact oD);(with_reducible rfl))|(apply ZB;(exact oD);all_goals (intro h;try exact xD))|refine WC.skip ?_|refine WC.block ?_|refine ThenD.n ?_));all_goals (first|((repeat clear hK);(repeat clear Kx))))
      all_goals try (exfalso;first|contradiction|omega)
      rw[<- hnx];(refine zNx (j+1,vo) ?_;(try dsimp only))
      omega
    ·have hjI:¬ (j:Int)<(ls.length:Int):=by omega
     obtain rfl:j=ls.length:=by omega
     rw[List.take_length];((repeat' (first|(apply WL.opN;exact yF;dsimp only[ZC,z0,z1])|refine WL.nil ?_|refine ZA fun Kx hK=>?_|(refine hK _ _ ?_;clear hK)|(refine Kont.skip ?_;clear hK)|refine WC.region ?_|(apply WL.opN;(focus ((first|((first|apply SY.move|apply SY.assign|apply SY.lss|apply SY.neq) <;> (exact oD))|fail);all_goals infer_instance));dsimp only[ZC,z0,z1])|(apply ZB;(exact oD);all_goals (intro h;try exact xD))|refine WC.ret ?_|refine WC.exit ?_));all_goals (first|((repeat clear hK);(repeat clear Kx))))
     all_goals try (exfalso;first|contradiction|omega)
     refine⟨trivial,⟨_,rfl,?_⟩,⟨_,rfl,FinD.le (ZBh _)⟩,⟨_,rfl,?_⟩,_,rfl,FinD.le (ZBv rfl)⟩ <;> simp only[if_neg hany,Option.getD_some,Option.isSome_some]
     ·exact ZDl (mAt 0 rfl) rfl
     ·exact FinD.b rfl
end
section
open Go.RowKit
open C34
section
variable {P:Program} {ops:Array Oper} {hp:List HObj} {fr:List Dat} {Q:Z5} {rest:List Oper} {dst:Option Tmp} {ty:TypeId} {ps:String} {af:Array Edge} {t e:TypeId} {z:Value} {bytes:Nat} {g:Option (Nat × Bool)}
theorem ZRJ {α:Type} {R:Rel α} {_gR:Good R} {len:Nat} {parts:Array (Nat × Operand)} {els:List α} (E:ElT P t e 1 z bytes false) (hx:ElsD fr R (parts.toList.map Prod.snd) els) (hparts:parts.toList=((parts.toList.map Prod.snd).zipIdx).map (fun p=>(p.2,p.1))) (hl:len=els.length) (hs:∀a,(dS R a).Shape 1 false) (hsm:els.length*1≤16777216)
  (h:∀v,WL P ops Q rest (ZC fr dst (dX v)) (Zk v e R els::hp)):WL P ops Q (⟨dst,.buildSlice t len parts,ty,ps,af,none⟩::rest) fr hp:=by
 refine WL.of fun P0 B w0 w a hh hf=>?_;obtain⟨css,hr,hcl,hcn,hel⟩:=ZBS (ops:=ops) (dst:=dst) (ty:=ty) (ps:=ps) (af:=af) (g:=none) E hx hl hparts hs hsm hh (hf.on _);refine Zr rfl hr ?_;have hx:=Ext.of_alloc w (.cells css.flatten.toArray e);have hob:∀k,(Zk (.slice (some ⟨w.heap.size,0,none⟩) els.length els.length) e R els).blk=some k->w.heap.size≤k/\k<(w.alloc (.cells css.flatten.toArray e)).heap.size:=fun k hk=>by
  cases hk;exact⟨Nat.le_refl _,by simp⟩
 have hfl:css.flatten.length=els.length*1:=by rw[ZAw (n:=1) fun u hu=>(hcn u hu).1,hcl]
 have h1:∀u∈css.flatten,u.oneCell'=true:=fun u hu=>by
  obtain⟨cs,hcs,hu'⟩:=List.mem_flatten.1 hu;exact(hcn cs hcs).2 u hu'
 refine(h _).on (hh.push (o:=Zk (.slice (some ⟨w.heap.size,0,none⟩) els.length els.length) e R els) hx hob ⟨css.flatten,by omega,⟨hfl,.inr ⟨w.heap.size,els.length,css.flatten.toArray,rfl,Nat.zero_le _,Zz w _,Nat.le_refl _,by simp only[maxLen];omega,by simpa using hfl,?_⟩⟩,fun k h h'=>?_⟩) (Fr.put (hf.mono fun d _ hd=>ZAJ hx (fun k hk=>(hob k hk).1) hd) rfl)
 ·show css.flatten.take _=css.flatten;rw[<- hfl,List.take_length]
 ·have hkc:k<css.length:=by omega
  obtain⟨u,hu,hR⟩:=hel k css[k] els[k] (List.getElem?_eq_getElem hkc) (List.getElem?_eq_getElem h');simp only[Bool.false_eq_true,if_false] at hu;have hfk:css.flatten[k]?=some u:=by
   have:=Zu (us:=css) (n:=1) (k:=k) (j:=0) (c:=u) (fun u hu=>(hcn u hu).1) hkc (by rw[hu];rfl);simpa using this
  have hku:css.flatten[k]=u:=by
   rw[List.getElem?_eq_getElem h] at hfk;exact Option.some.inj hfk
  refine⟨h1 _ (List.getElem_mem h),?_⟩;rw[hku];exact Good.ext (R:=R) (Good.weak (Good.bound hR) fun j hj=>⟨hj,fun e=>by cases e;exact absurd hj.2 (Nat.lt_irrefl _)⟩) hx
theorem ZT0 (w:World):(Instr.build 99 #[]).run Tryz.prog w = .ok (.agg #[.slice none 0 0,.slice none 0 0,.int .i64 0]) w:=by go_simp
theorem ZOE:SY Tryz.prog ops hp ⟨dst,.build 99 #[],ty,ps,af,g⟩ fr (ZEP [dX (.slice none 0 0),dX (.slice none 0 0),dI ((0:Nat):Int)]):=SY.val fun {I w a} ho=>by
 refine⟨.agg #[.slice none 0 0,.slice none 0 0,.int .i64 0],?_,[.slice none 0 0,.slice none 0 0,.int .i64 0],rfl,rfl,fun c hc=>?_,fun k c e hc he=>?_⟩
 ·unfold execOp;simp only[List.map_toArray,List.map_nil,Sem.run_bind,ZT0,Result.andThen_ok,Sem.run_pure]
 ·simp at hc;rcases hc with rfl|rfl <;> rfl
 ·match k,hc,he with
  | 0,hc,he=>cases hc;cases he;rfl
  | 1,hc,he=>cases hc;cases he;rfl
  | 2,hc,he=>cases hc;cases he;rfl
theorem ZT1 (n:Int) (a:Option Addr) (m c:Nat) (w:World):(Instr.build 105 #[(0,.int .i64 n),(1,.slice a m c)]).run Tryz.prog w = .ok (.agg #[.int .i64 n,.slice a m c]) w:=by go_simp
theorem ZOF {x y:Operand} {n:Int} {v:Value} {e':TypeId} {α:Type} {R:Rel α} {_gR:Good R} {xs:List α} (hm:Zk v e' R xs∈hp) (hx:OpD fr x (dI n)) (hy:OpD fr y (dX v)):SY Tryz.prog ops hp ⟨dst,.build 105 #[(0,x),(1,y)],ty,ps,af,g⟩ fr (ZEP [dI n,dX v]):=ZAG fun {P0 B w0 w a} hh ho=>by
 have h1:a.eval x = .int .i64 n:=hx.get (by simp[Op.operands]) ho;have h2:a.eval y=v:=hy.get (by simp[Op.operands]) ho;have hf:∃q m c,v = .slice q m c:=by
  rcases ZMe (hh.ok _ hm) with ⟨q,_⟩|⟨b,cap,q,_⟩ <;> exact⟨_,_,_,q⟩
 obtain⟨q,m,c,rfl⟩:=hf;refine⟨.agg #[.int .i64 n,.slice q m c],w,?_,Ext.refl _,[.int .i64 n,.slice q m c],rfl,rfl,fun c hc=>?_,fun k c e hc he=>?_⟩
 ·unfold execOp;simp only[List.map_toArray,List.map_cons,List.map_nil,h1,h2,Sem.run_bind,ZT1,Result.andThen_ok,Sem.run_pure]
 ·simp at hc;rcases hc with rfl|rfl <;> rfl
 ·match k,hc,he with
  | 0,hc,he=>cases hc;cases he;rfl
  | 1,hc,he=>cases hc;cases he;rfl
end
theorem ZLe {α:Type} {L:List (List α)} {lv:List α} {k:Nat} (h:k≤L.length):ZAm (L++[lv]) k=ZAm L k:=by
 unfold ZAm;rw[List.take_append_of_le_length h]
theorem ZR1 {α:Type} {L:List (List α)} {lv:List α}:ZAm (L++[lv]) (L.length+1)=ZAm L L.length+lv.length:=by
 rw[ZDY (by simp),ZLe (Nat.le_refl _)];simp
theorem ZNZ {L:List Cx} {lv:Cx}:ZCi (L++[lv])=ZCi L++[ZFL txS (ZAm L L.length) lv]:=by
 unfold ZCi;rw[List.length_append,List.length_singleton,List.range_succ,List.map_append];congr 1
 ·refine List.map_congr_left fun k hk=>?_;have hk:=List.mem_range.1 hk;rw[ZLe (by omega)];congr 1;rw[List.getD_eq_getElem?_getD,List.getD_eq_getElem?_getD,List.getElem?_append_left hk]
 ·simp only[List.map_cons,List.map_nil];rw[ZLe (Nat.le_refl _)];simp
def ZTA (x:List Int) (off:Nat) (lv:Cx):Cx:=(lv.zipIdx.filter fun q=>decide (((off+q.2:Nat):Int)∈x)).map (·.1)
theorem ZQL {x:List Int} {off:Nat} {lv:Cx} {j:Nat} (h:j<lv.length):ZTA x off (lv.take (j+1))=ZTA x off (lv.take j)++if((off+j:Nat):Int)∈x then[lv[j]] else[]:=by
 unfold ZTA;rw[C34.zip_snoc h,List.filter_append,List.map_append];congr 1;by_cases hx:((off+j:Nat):Int)∈x
 ·rw[if_pos hx,List.filter_cons_of_pos (by simpa using hx)];rfl
 ·rw[if_neg hx,List.filter_cons_of_neg (by simpa using hx)];rfl
theorem ZHu {x:List Int} {L:List Cx}:(ZBL L x).length=L.length:=by simp[ZBL]
theorem ZLR {x:List Int} {L:List Cx} {k:Nat} (h:k<L.length):(ZBL L x).take (k+1)=(ZBL L x).take k++[ZTA x (ZAm L k) L[k]]:=by
 rw[ZAQ (by rw[ZHu];exact h)];congr 2;simp[ZBL,ZTA]
def ZDI (x:List Int):List (Int × Bool):=x.foldl (fun m k=>ZCI m k true) []
theorem ZFH {x:List Int} {k:Nat} (h:k<x.length):ZDI (x.take (k+1))=ZCI (ZDI (x.take k)) x[k] true:=by
 unfold ZDI;rw[ZAQ h,List.foldl_append];rfl
theorem ZVT {K V:Type} [DecidableEq K] {m:List (K × V)} {x:K} {v:V} (h:(m.map (·.1)).Nodup):((ZCI m x v).map (·.1)).Nodup:=by
 unfold ZCI;split
 ·rw[List.map_map];have e:((fun p:K × V=>p.1) ∘ fun p=>if p.1=x then(x,v) else p)=fun p=>p.1:=by
   funext p
   simp only[Function.comp_apply];split
   ·rename_i hp;exact hp.symm
   ·rfl
  rw[e];exact h
 ·rename_i hn;rw[List.map_append,List.nodup_append];refine⟨h,by simp,fun a ha c hc e=>hn ?_⟩;have hc:c=x:=by simpa using hc
  obtain⟨p,hp,hpe⟩:=List.mem_map.1 ha;unfold lookM;rw[Option.isSome_map,List.find?_isSome];exact⟨p,hp,by simp[hpe,e,hc]⟩
theorem ZVS {K V:Type} [DecidableEq K] {m:List (K × V)} {x:K} {v:V} {p:K × V} (h:p∈ZCI m x v):p.1=x\/p∈m:=by
 unfold ZCI at h;split at h
 ·obtain⟨q,hq,rfl⟩:=List.mem_map.1 h;split
  ·exact .inl rfl
  ·exact .inr hq
 ·rcases List.mem_append.1 h with h|h
  ·exact .inr h
  ·exact .inl (by rw[List.mem_singleton.1 h])
theorem ZKn:∀(x:List Int),∀n,n≤x.length->((ZDI (x.take n)).map (·.1)).Nodup
 | x,0,_=>by simp[ZDI]
 | x,n+1,h=>by rw[ZFH (by omega)];exact ZVT (ZKn x n (by omega))
theorem ZQN:∀(x:List Int),∀n,n≤x.length->∀p∈ZDI (x.take n),p.1∈x
 | x,0,_=>by simp[ZDI]
 | x,n+1,h=>fun p hp=>by
  rw[ZFH (by omega)] at hp;rcases ZVS hp with hp|hp
  ·rw[hp];exact List.getElem_mem _
  ·exact ZQN x n (by omega) p hp
theorem ZKo (k:Int):∀(x:List Int),∀n,n≤x.length->lookM (ZDI (x.take n)) k=if k∈x.take n then some true else none
 | x,0,_=>by simp[ZDI,lookM]
 | x,n+1,h=>by
  rw[ZFH (by omega),ZCH,ZKo k x n (by omega)];have et:x.take (n+1)=x.take n++[x[n]]:=ZAQ (by omega);by_cases hk:k=x[n]
  ·rw[if_pos hk,if_pos (by rw[hk,et];exact List.mem_append_right _ (List.mem_singleton.2 rfl))]
  ·rw[if_neg hk];by_cases hm:k∈x.take n
   ·rw[if_pos hm,if_pos (by rw[et];exact List.mem_append_left _ hm)]
   ·rw[if_neg hm,if_neg fun q=>by rw[et] at q;exact(List.mem_append.1 q).elim hm fun q=>hk (List.mem_singleton.1 q)]
abbrev ZCT:Bool->Value:=fun b=>.bool b
theorem ZQO (k:Int) (x:List Int):((lookM (ZDI x) k).map ZCT).getD (.bool false) = .bool (decide (k∈x)):=by
 have h:=ZKo k x x.length (Nat.le_refl _);rw[List.take_length] at h;rw[h];by_cases hk:k∈x
 ·rw[if_pos hk,decide_eq_true hk];rfl
 ·rw[if_neg hk,decide_eq_false hk];rfl
theorem ZLc:MapT Tryz.prog 111 3 4 (.bool false):=⟨Tryz.underlying111,fun w=>by kernel_rfl⟩
theorem ZUS {l:Cx} {f:Vx->Int} (h:(ZBf l).2=0) {d:Nat} (h0:0<d) (hd:d≤8) {x:List Int} (hx:L05.solP (ZBb l f (ZAn l f d)) [0] (ZAm (ZAn l f d) d)=some x):L05.Solves (ZBb l f (ZAn l f d)) [0] (ZAm (ZAn l f d) d) x:=by
 have hw:=ZI9 (f:=f) h h0 hd;have h1:L05.AllAsc (ZBb l f (ZAn l f d)):=fun r hr=>(hw r hr).1;have h2:∀r∈ZBb l f (ZAn l f d),L05.Low ((ZAm (ZAn l f d) d:Nat):Int) r:=fun r hr v hv=>((hw r hr).2 v hv).2;have h3:∀r∈ZBb l f (ZAn l f d),L05.Pos r:=fun r hr v hv=>((hw r hr).2 v hv).1;rw[L05.sol_same h1 h2 h3] at hx;exact L05.sol_sat h1 h2 h3 hx
end
section
open Go.RowKit
open C34

variable {S:Prop}
theorem ZD8 {l:Cx} {vs:List Vx} {A:List Int} (h:ZCE l vs A=0):(ZBf l).2=0:=by
 unfold ZCE at h;by_cases h1:(ZBf l).2≠0
 ·rw[if_pos h1] at h;exact absurd h h1
 ·exact Classical.byContradiction h1
end
section
open Go.RowKit
theorem ZLh (t:Array Value) (E D:List Deferred) (x:Option Tmp) (v:Value):(⟨t,E⟩:Act).put x v=⟨((⟨t,E⟩:Act).put x v).tmps,E⟩/\(⟨t,E++D⟩:Act).put x v=⟨((⟨t,E⟩:Act).put x v).tmps,E++D⟩:=by cases x <;> exact⟨rfl,rfl⟩
theorem ZR3 {P:Program} {o:Oper} {K K':Act->World->Prop} {Q Q':Exit->Act->World->Prop} {D:List Deferred} (hK:∀t E w,K ⟨t,E⟩ w->K' ⟨t,E++D⟩ w) (hQ:∀e t E w,Q e ⟨t,E⟩ w->Q' e ⟨t,E++D⟩ w) {t:Array Value} {E:List Deferred} {w:World} (h:o.wp P ⟨t,E⟩ w K Q):o.wp P ⟨t,E++D⟩ w K' Q':=by
 unfold Oper.wp at h ⊢;have he:(⟨t,E++D⟩:Act).eval=(⟨t,E⟩:Act).eval:=funext fun x=>by cases x <;> rfl
 rw[he];have hk:∀v w',K ((⟨t,E⟩:Act).put o.dst v) w'->K' ((⟨t,E++D⟩:Act).put o.dst v) w':=fun v w' hh=>by
  obtain⟨e1,e2⟩:=ZLh t E D o.dst v;rw[e2];rw[e1] at hh;exact hK _ _ _ hh
 have hl:LetsOut Q->LetsOut Q':=fun⟨⟨t',E'⟩,w',hh⟩=>⟨⟨t',E'++D⟩,w',hQ _ _ _ _ hh⟩
 revert h
 generalize (execOp (⟨t,E⟩:Act).eval o).run P w=r;intro h
 match r,h with
 | .ok (.value v) w',h=>exact hk _ _ h
 | .ok .skip w',h=>exact hk _ _ h
 | .ok (.defer d) w',h =>
  show K' ((⟨t,d::(E++D)⟩:Act).put o.dst undef) w';have hh:K ((⟨t,d::E⟩:Act).put o.dst undef) w':=h;obtain⟨e1,e2⟩:=ZLh t (d::E) D o.dst undef;rw[show d::(E++D)=(d::E)++D from rfl,e2];rw[e1] at hh;exact hK _ _ _ hh
 | .ok (.enter f args) w',h =>
  refine Calls.mono (h:Calls P f args w' _) fun e w'' hh=>?_
  match e,hh with
  | .returned v,hh=>exact hk _ _ hh
  | .panicked ch,hh=>exact hQ _ _ _ _ hh
  | .outgrown,hh=>exact hl hh
 | .ok (.row row args) w',h=>exact Go.Rows.mono h fun v w'' hh=>hk _ _ hh
 | .halt (.panic v) w',h=>exact hQ _ _ _ _ h
theorem ZIE {P:Program} {ops:Array Oper} {Q Q':Exit->Act->World->Prop} {D:List Deferred} (hQ:∀e t E w,Q e ⟨t,E⟩ w->Q' e ⟨t,E++D⟩ w):∀(rest:List Oper) (t:Array Value) (E:List Deferred) (w:World),wpList P ops Q rest ⟨t,E⟩ w->wpList P ops Q' rest ⟨t,E++D⟩ w
 | [],t,E,w,h=>hQ _ _ _ _ h
 | o::rest,t,E,w,h=>by
  have ih:=ZIE (P:=P) (ops:=ops) (Q:=Q) (Q':=Q') (D:=D) hQ rest;unfold wpList at h ⊢;split at h
  ·rename_i hw;rw[if_pos hw];rcases h with h|⟨h1,h2⟩
   ·exact .inl (ZR3 (fun t E w=>ih t E w) hQ h)
   ·refine .inr ⟨?_,?_⟩
    ·have he:(⟨t,E++D⟩:Act).eval=(⟨t,E⟩:Act).eval:=funext fun x=>by cases x <;> rfl
     unfold Oper.asks at h1 ⊢;rw[he];exact h1
    ·obtain⟨⟨t',E'⟩,w',hh⟩:=h2;exact⟨⟨t',E'++D⟩,w',hQ _ _ _ _ hh⟩
  ·rename_i hw;rw[if_neg hw];obtain⟨e1,e2⟩:=ZLh t E D o.dst undef;rw[e2];rw[e1] at h;exact ih _ _ _ h
def ZTy (D:List Deferred) (Q:Z5) (P0:Nat->Prop) (B:Nat) (w0:World):Exit->Act->World->Prop:=fun e a w=>a.defers=D/\ZCr Q P0 B w0 e { tmps:=a.tmps,defers:=[] } w
structure WX (P:Program) (D:List Deferred) (Q:Z5) (c:Code) (fr:List Dat) (hp:List HObj):Prop where
 of ::
 out:∀(P0:Nat->Prop) (B:Nat) (w0 w:World) (a:Act),a.defers=D->Hp P0 B w0 hp w->Fr (Imm P0 B hp) w { tmps:=a.tmps,defers:=[] } fr->c.wp P (ZTy D Q P0 B w0) a w
section
variable {P:Program} {D:List Deferred} {Q:Z5} {fr fr':List Dat} {hp:List HObj}
theorem WX.id {c:Code} (h:WX P D Q c fr hp):WX P D Q c fr hp:=h
theorem WX.region {id:Nat} {l:List Oper} (h:WL P l.toArray Q l fr hp):WX P D Q (.region id l.toArray false) fr hp:=WX.of fun P0 B w0 w a hd hh hf=>by
 have:=ZIE (Q':=ZTy D Q P0 B w0) (D:=D) (fun e t E w hq=>by
  obtain⟨f,p,q,r,s⟩:=hq;have hE:E=[]:=s.defers;subst hE;exact⟨rfl,f,p,q,r,s⟩) l a.tmps [] w (h.on hh hf)
 rw[List.nil_append] at this;have ha:a=⟨a.tmps,D⟩:=by cases a;cases hd;rfl
 rw[ha];exact wp_region_lit this
theorem WX.mono {Q':Z5} {c:Code} (h:WX P D Q c fr hp) (k:∀e f p,Q e f p->Q' e f p):WX P D Q' c fr hp:=WX.of fun _ _ _ _ _ hd hh hf=>Code.wp_mono (fun _ _ _ ⟨x,f,p,q,r⟩=>⟨x,f,p,k _ _ _ q,r⟩) (h.out _ _ _ _ _ hd hh hf)
theorem WX.seq {x y:Code} (h:WX P D (ThenD (WX P D Q y) Q) x fr hp):WX P D Q (.seq x y) fr hp:=WX.of fun P0 B w0 w a hd hh hf=>wp_seq (Code.wp_mono (fun e a' w' ⟨z,f,p,q,r,s⟩=>by
 cases e with
 | normal=>exact(q:WX P D Q y f p).out _ _ _ _ _ z r s
 | _=>exact⟨z,f,p,q,r,s⟩) (h.out _ _ _ _ _ hd hh hf))
theorem ZDS {x y:Code} (h:∀K:List Dat->List HObj->Prop,(∀f p,WX P D Q y f p->Kont K f p)->WX P D (ThenD (Kont K) Q) x fr hp):WX P D Q (.seq x y) fr hp :=
 WX.seq ((h (WX P D Q y) fun _ _ h=>⟨h⟩).mono fun e f p q=>by
  cases e with
  | normal=>exact(q:Kont _ f p).out
  | _=>exact q)
theorem WX.skip (h:Q .normal fr hp):WX P D Q .skip fr hp:=WX.of fun _ _ _ _ _ hd hh hf=>wp_skip ⟨hd,fr,hp,h,hh,hf⟩
theorem WX.ret (h:Q .ret fr hp):WX P D Q .ret fr hp:=WX.of fun _ _ _ _ _ hd hh hf=>wp_ret ⟨hd,fr,hp,h,hh,hf⟩
theorem WX.exit {id:Nat} (h:Q (.exit id) fr hp):WX P D Q (.exit id) fr hp:=WX.of fun _ _ _ _ _ hd hh hf=>wp_exit ⟨hd,fr,hp,h,hh,hf⟩
theorem WX.block {id:Nat} {c:Code} (h:WX P D (InBlockD id Q) c fr hp):WX P D Q (.block id c) fr hp:=WX.of fun P0 B w0 w a hd hh hf=>wp_block (Code.wp_mono (fun e a' w' ⟨z,f,p,q,r,s⟩=>by
 cases e with
 | exit id' =>
  simp only[Exit.inBlock];simp only[InBlockD] at q;split
  ·rename_i hi;rw[if_pos hi] at q;exact⟨z,f,p,q,r,s⟩
  ·rename_i hi;rw[if_neg hi] at q;exact⟨z,f,p,q,r,s⟩
 | _=>exact⟨z,f,p,q,r,s⟩) (h.out _ _ _ _ _ hd hh hf))
theorem WX.weak {c:Code} (h:WX P D Q c fr' hp) (hl:fr.length=fr'.length) (k:∀(t:Nat) (d:Dat),fr'[t]?=some d->∃d0:Dat,fr[t]?=some d0/\d0.le d):WX P D Q c fr hp:=WX.of fun _ _ _ _ _ hd hh hf=>h.out _ _ _ _ _ hd hh (hf.weak hl k)
section
variable {c:Operand} {x y:Code} {p:Prop} {_ip:Decidable p} {b:Bool}
theorem WX.cond (hc:OpD fr c (dB b)) (ht:b=true->WX P D Q x fr hp) (hf:b=false->WX P D Q y fr hp):WX P D Q (.cond c x y) fr hp:=WX.of fun P0 B w0 w a hd hh hfr=>by
 have h1:=hc.ev hfr;have h2:a.eval c=({ tmps:=a.tmps,defers:=[] }:Act).eval c:=by cases c <;> rfl
 exact wp_cond_split (t:=b) (by rw[h2];exact h1) (fun h=>(ht h).out _ _ _ _ _ hd hh hfr) (fun h=>(hf h).out _ _ _ _ _ hd hh hfr)
theorem ZRQ (hc:OpD fr c (dB b)) (hb:b=true) (h:WX P D Q x fr hp):WX P D Q (.cond c x y) fr hp:=WX.cond hc (fun _=>h) (fun h=>by rw[hb] at h;cases h)
theorem ZRP (hc:OpD fr c (dB b)) (hb:b=false) (h:WX P D Q y fr hp):WX P D Q (.cond c x y) fr hp:=WX.cond hc (fun h=>by rw[hb] at h;cases h) (fun _=>h)
theorem ZB7 (hc:OpD fr c (dB (decide p))) (ht:p->WX P D Q x fr hp) (hf:¬ p->WX P D Q y fr hp):WX P D Q (.cond c x y) fr hp:=WX.cond hc (fun h=>ht (of_decide_eq_true h)) (fun h=>hf (of_decide_eq_false h))
theorem ZJn (hc:OpD fr c (dB (!b))) (ht:b=false->WX P D Q x fr hp) (hf:b=true->WX P D Q y fr hp):WX P D Q (.cond c x y) fr hp:=WX.cond hc (fun h=>ht (by simpa using h)) (fun h=>hf (by simpa using h))
end
theorem WX.loopU {X:Type} {c:Code} (ups:X->List (Nat × Dat)) (H:X->List HObj) (μ:X->Nat) (p:X->Prop) (x0:X) (h0:p x0) (hF:LeF fr (ZL fr (ups x0))) (hH:hp=H x0)
  (round:∀x,p x->WX P D (ThenD (fun f q=>∃x',p x'/\μ x'<μ x/\q=H x'/\LeF f (ZL fr (ups x'))) Q) c (ZL fr (ups x)) (H x)):WX P D Q (.loop c) fr hp:=by
 refine WX.of fun P0 B w0 w a hd hh hf=>?_;have hf1:=hf.weak hF.out.1 hF.out.2;subst hH;intro b k cs;have key:∀(n:Nat) (x:X) (a':Act) (w':World),μ x=n->p x->a'.defers=D->Hp P0 B w0 (H x) w'->Fr (Imm P0 B (H x)) w' { tmps:=a'.tmps,defers:=[] } (ZL fr (ups x)) ->
   ∃e a2 w2,ZTy D Q P0 B w0 e a2 w2/\Arrives P (lone (b.at a' (.code c :: .inLoop c::k)) cs w') b k cs e a2 w2:=by
  intro n;induction n using Nat.strongRecOn with
  | _ n ih =>
   intro x a' w' hn hp' hd' hh' hf';obtain⟨e,a1,w1,hq,harr⟩:=(round x hp').out _ _ _ _ _ hd' hh' hf' b (.inLoop c::k) cs;cases e with
   | normal =>
    obtain⟨z,f,q,hq,h1,h2⟩:=hq;obtain⟨x',px,hlt,rfl,hle⟩:=(hq:∃x',_);obtain⟨e2,a2,w2,hq2,harr2⟩:=ih (μ x') (hn ▸ hlt) x' a1 w1 rfl px z h1 (h2.weak hle.out.1 hle.out.2);exact⟨e2,a2,w2,hq2,.of_steps (Steps.trans harr (.one step_inLoop)) harr2⟩
   | exit id=>exact⟨_,a1,w1,hq,.pass (x:=.inLoop c) rfl (fun _ _=>.inl (by simp)) harr⟩
   | goto l=>exact⟨_,a1,w1,hq,.pass (x:=.inLoop c) rfl (fun _ _=>.inl (by simp)) harr⟩
   | ret=>exact⟨_,a1,w1,hq,.pass (x:=.inLoop c) rfl (fun _ _=>.inl (by simp)) harr⟩
   | panic ch=>exact⟨_,a1,w1,hq,.pass (x:=.inLoop c) rfl (fun _ _=>.inl (by simp)) harr⟩
   | outgrown=>exact⟨_,a1,w1,hq,.pass (x:=.inLoop c) rfl (fun _ _=>.inl (by simp)) harr⟩
 obtain⟨e,a',w',hq,harr⟩:=key _ x0 a w rfl h0 hd hh hf1;exact⟨e,a',w',hq,.of_steps (.one step_loop) harr⟩
theorem ZGi {c:Code} (h:WL P #[] (fun e f p=>e = .normal/\WX P D Q c f p) [] fr hp):WX P D Q c fr hp:=WX.of fun P0 B w0 w a hd hh hf=>by
 obtain⟨f,p,⟨_,q⟩,r,s⟩:=(h.on hh hf:ZCr _ P0 B w0 .normal _ w);have h1:=q.out P0 B w0 w a hd r s;exact h1
end
end
end Go.Proofs.YtofkoleingbbpaaGreatDoor
