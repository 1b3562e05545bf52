/- Part 24: walks by contracts, and plain laws. -/
import Derived.Test.YtekiljakcngcoaaGreatDoorV22
import Derived.Test.YtekiljakcngcoaaGreatDoorV23
set_option linter.unusedVariables false
set_option linter.unusedSimpArgs false
set_option linter.unusedSectionVars false
set_option maxRecDepth 100000
set_option maxHeartbeats 4000000
namespace Go.Proofs.YtekiljakcngcoaaGreatDoor
section
open Go.RowKit

section
variable {P:Program} {f:FuncId} {fn:Func} {c:Code} {t u:Tmp} {ds:List Dat} {hp1:List HObj} {K:Dat->List HObj->Prop}
def ZU2 (t u:Nat) (K:Dat->List HObj->Prop) (hp:List HObj):ZAW:=fun e f q=>(match e with|.normal|.ret=>True|_=>False)/\∃ d d' hp2,f[t]?=some d/\f[u]?=some d'/\q=hp2++hp/\K (dT [d,d']) hp2
theorem ZIo (hf:P.funcs[f]?=some fn) (hb:fn.body=some c) (hr:fn.results=#[.tmp t,.tmp u])
  (h:∀ hp,WC P (ZU2 t u K hp) c (ds++List.replicate (fn.ntmps-ds.length) (dX undef)) (hp1++hp)):CallC P f ds hp1 K:=⟨fun P0 B w0 hp vs W hh hl hv=>by
 refine calls_of_wp hf hb ?_
 have hf0:=ZBI (m:=fn.ntmps-ds.length) hl hv
 have hsz:vs.toArray.size=ds.length:=by simp [hl]
 rw [hsz]
 refine Code.wp_mono (fun e a' w' ⟨f',p',q,hh',hf'⟩=>?_) ((h hp).on hh hf0)
 obtain ⟨hx,d,d',hp2,hd,hd',rfl,hk'⟩:=q
 have hv:=hf'.rd t d hd
 have hv':=hf'.rd u d' hd'
 have hT:(dT [d,d']).rd (Imm P0 B (hp2++hp)) w' (.tuple #[a'.tmps.getD t undef,a'.tmps.getD u undef]):=⟨[a'.tmps.getD t undef,a'.tmps.getD u undef],rfl,rfl,fun i e x he hx=>by
  match i,he,hx with
  | 0,he,hx=>cases he;cases hx;exact hv
  | 1,he,hx=>cases he;cases hx;exact hv'⟩
 cases e with
 | normal=>exact ⟨hf'.defers,_,results_tmp2 hr _ _ _,_,_,hp2,rfl,hk',hh',hT⟩
 | ret=>exact ⟨hf'.defers,_,results_tmp2 hr _ _ _,_,_,hp2,rfl,hk',hh',hT⟩
 | _=>exact hx.elim⟩
end
theorem ZJo:MapT Tryz.prog 115 117 4 (.bool false):=⟨Tryz.underlying115,fun w=>by kernel_rfl⟩
abbrev vvB (b:Bool):Value:=.bool b
abbrev ZSr (o:Cx):List (List Vx × Bool):=o.map fun f=>(f,true)
abbrev ZU5 (b:Nat) (o:Cx):HObj:=hM b kvK vvB (ZSr o)
theorem ZJ6 (o:Cx):(ZSr o).map (·.1)=o:=by unfold ZSr;rw [List.map_map];exact List.map_id _
theorem ZOv (o:Cx) (f:List Vx):((lookM (ZSr o) f).map vvB).getD (.bool false) = .bool (decide (f∈o)):=by
 unfold lookM ZSr
 by_cases h:f∈o
 ·rw [decide_eq_true h]
  have:∃ q,(o.map fun f=>(f,true)).find? (fun p=>decide (p.1=f))=some q/\q.2=true:=by
   have h1:((o.map fun f=>(f,true)).find? (fun p=>decide (p.1=f))).isSome:=by
    rw [List.find?_isSome]
    exact ⟨(f,true),List.mem_map_of_mem h,by simp⟩
   obtain ⟨q,hq⟩:=Option.isSome_iff_exists.1 h1
   refine ⟨q,hq,?_⟩
   obtain ⟨x,_,rfl⟩:=List.mem_map.1 (List.mem_of_find?_eq_some hq)
   rfl
  obtain ⟨q,hq,hq2⟩:=this
  rw [hq];simp [hq2]
 ·rw [decide_eq_false h]
  have:(o.map fun f=>(f,true)).find? (fun p=>decide (p.1=f))=none:=by
   rw [List.find?_eq_none]
   intro p hp
   obtain ⟨x,hx,rfl⟩:=List.mem_map.1 hp
   simp only [decide_eq_true_eq]
   intro e;exact h (e ▸ hx)
  rw [this];rfl
theorem ZMD {s:List Vx} (h:Z3 s=0):okK s:=⟨ZDI h,fun v hv=>⟨ZGy h v hv,(ZMM.1 ((ZP.1 h).2.2.1 v hv)).1⟩⟩
section
variable {ops:Array Oper} {hp:List HObj} {fr:List Dat} {d:Dat} {Q:ZAW} {rest:List Oper} {dst:Option Tmp} {ty:TypeId} {ps:String} {af:Array Edge} {g:Option (Nat × Bool)} {b:Nat} {o:Cx} {f:List Vx}
theorem ZMc {x y:Operand} (hx:OpD fr x (dX (.map (some b)))) (hm:ZU5 b o∈hp) (hy:OpD fr y (dX (kvK f))) (hf:okK f) (ho:∀ g∈o,okK g) (hn:o.Nodup) :
  SY Tryz.prog ops hp ⟨dst,.lookup 115 x y false,ty,ps,af,g⟩ fr (dB (decide (f∈o))):=by
 have h:=SY.lookM (dst:=dst) (ty:=ty) (ps:=ps) (af:=af) (g:=g) (ops:=ops) ZJo ZSh hx hm hy isX hf (fun p hp=>by obtain ⟨x,hx,rfl⟩:=List.mem_map.1 hp;exact ho x hx) (by rw [ZJ6];exact hn)
 rw [ZOv] at h
 exact h
theorem ZNb {x y c:Operand} (hx:OpD fr x (dX (.map (some b)))) (hy:OpD fr y (dX (kvK f))) (hc:OpD fr c (dX (.bool true))) (hf:okK f) (ho:∀ g∈o,okK g) (hn:o.Nodup) (hnew:f∉o)
  (h:WL Tryz.prog ops Q rest (ZA fr dst (dX undef)) (ZU5 b (o++[f])::hp)) :
  WL Tryz.prog ops Q (⟨dst,.mapUpdate 115 x y c,ty,ps,af,none⟩::rest) fr (ZU5 b o::hp):=by
 refine ZEI (u:=true) ZJo ZSh hx hy isX hc ⟨fun _ _ _ h=>h⟩ hf (fun p hp=>by obtain ⟨x,hx,rfl⟩:=List.mem_map.1 hp;exact ho x hx) (by rw [ZJ6];exact hn) ?_
 have e:ZBr (ZSr o) f true=ZSr (o++[f]):=by
  rw [ZBx (fun p hp=>by obtain ⟨x,hx,rfl⟩:=List.mem_map.1 hp;intro e;exact hnew (e ▸ hx))]
  simp [ZSr]
 rw [e];exact h
end
theorem ZOa {l:Cx} (h:∀ s∈l,Z3 s=0) {k:Nat} (hk:0<k) {n:Nat} (hn:n≤l.length):∀ f∈ZKJ (l.take n) k,Z3 f=0:=fun f hf=>by
 obtain ⟨s,hs,hf⟩:=ZBF.1 (((ZDd l k n hn).2 f).1 hf)
 exact (ZCY (h s (List.mem_of_mem_take hs)) hk hf).1
def ZBt (l:Cx) (k:Nat):Prop:=4096<(ZBB l k).length
set_option maxHeartbeats 8000000 in
theorem ZTj (l:Cx) (k:Nat) (hk:0<k) (hg:∀ s∈l,Z3 s=0) (hl:l.length≤1000000):CallC Tryz.prog 36 [dS ZAe l,dI (k:Int)] []
  (fun d hp2=>(ZBt l k/\d=dT [dX (.slice none 0 0),dI 17]/\hp2=[])\/(¬ ZBt l k/\∃ v,d=dT [dX v,dI 0]/\hp2=[Zr v 28 ZI (ZBB l k)])):=by
 refine ZKK (K:=fun d hp2=>(ZBt l k/\d=dT [dX (.slice none 0 0),dI 17])\/(¬ ZBt l k/\∃ v o,d=dT [dX v,dI 0]/\hp2=[Zr v 28 ZI (ZBB l k),o])) ?_ ?_
 rotate_left
 ·rintro d hp2 (⟨h1,h2⟩|⟨h1,v,o,h2,rfl⟩)
  ·exact ⟨hp2,[],by simp,.inl ⟨h1,h2,rfl⟩⟩
  ·exact ⟨[o],[_],List.Perm.swap _ _ _,.inr ⟨h1,v,h2,rfl⟩⟩
 refine ZIo Tryz.func36 rfl rfl (fun hp=>?_)
 simp only [Tryz.ntmps36,List.length_cons,List.length_nil,Nat.reduceAdd,Nat.reduceSub,List.replicate_succ,List.replicate_zero,List.cons_append,List.nil_append]
 (repeat' (first|(apply WL.opN;exact yF;dsimp only [ZA,z0,z1])|refine WL.nil ?_|refine ZC fun Kx hK=>?_|(refine hK _ _ ?_;clear hK)|refine WC.region ?_ |  (refine WL.makeMap kvK vvB fun b=>?_;dsimp only [ZA,z0,z1])|(apply WL.opN;(focus ((first|exact ZBq|fail);all_goals infer_instance));dsimp only [ZA,z0,z1])|refine WC.block ?_))
 refine ZEF 28 ZI ?_
 (refine WC.loopU (X:=Nat × Value × Cx) (fun x=>[(17,dI (x.1:Int)),(7,dX x.2.1),(4,dA),(5,dA),(9,dA),(10,dA),(11,dA),(13,dA),(18,dA),(19,dA),(20,dA),(21,dA),(22,dA),(23,dA),(24,dA),(25,dA),(26,dA),(27,dA),(28,dA),(29,dA),(30,dA),(31,dA),(32,dA),(33,dA),(34,dA),(35,dA),(36,dA),(37,dA),(38,dA),(39,dA),(40,dA),(41,dA),(42,dA),(43,dA),(44,dA),(45,dA),(46,dA),(47,dA),(48,dA),(49,dA),(50,dA),(51,dA),(52,dA),(53,dA),(54,dA),(55,dA),(56,dA)]) (fun x=>(Zr x.2.1 28 ZI x.2.2::ZU5 b x.2.2::hp)) (fun x=>l.length-x.1) (fun x=>x.1≤l.length/\x.2.2=ZKJ (l.take x.1) k/\x.2.2.length≤4096) (0,.slice none 0 0,[]) ?start ?frame0 ?objs0 ?round)
 case start=>exact ⟨Nat.zero_le _,rfl,Nat.zero_le _⟩
 case frame0=>((try dsimp only [Za,z0,z1]);repeat (first|exact LeF.nil|refine ZF (k:=?_)))
 case objs0=>rfl
 case round =>
  rintro ⟨i,v,o⟩ ⟨h1,h2,h3⟩
  simp only at h1 h2 h3
  dsimp only [Za,z0,z1]
  by_cases hil:i<l.length
  ·by_cases hks:l[i].length<k
   ·((repeat' (first|(apply WL.opN;exact yF;dsimp only [ZA,z0,z1])|refine WL.nil ?_|refine ZC fun Kx hK=>?_|(refine hK _ _ ?_;clear hK)|(refine Kont.skip ?_;clear hK)|refine WC.region ?_|(apply WL.opN;(focus ((first|exact ZBy|exact ZCk|exact ZBq|exact Zg|fail);all_goals infer_instance));dsimp only [ZA,z0,z1])|(apply ZE;(exact oD);all_goals (intro h;try exact xD))|refine WC.skip ?_|refine WC.exit ?_|refine WC.block ?_|refine ThenD.n ?_));all_goals (first|((repeat clear hK);(repeat clear Kx))))
    (refine ⟨(i+1,v,o),?_,by first|omega|(simp only;omega),rfl,?_⟩;rotate_left;((try dsimp only [Za,z0,z1]);repeat (first|exact LeF.nil|refine ZF (k:=?_)));(try dsimp only))
    refine ⟨by omega,?_,h3⟩
    show o=_
    rw [ZGM hil,if_pos hks,h2]
   ·have hgi:=hg _ (List.getElem_mem hil)
    have hF:Fn Tryz.prog 53 [dS ZI l[i],dI (k:Int)] (dT [dS ZAe (Zw k l[i]),dI 0]):=by
     have:=ZLp l[i] (k:Int)
     rwa [ZGN hgi hk (by omega)] at this
    have hlen:(Zw k l[i]).length≤256:=Nat.le_trans (ZCB k l[i]) (Nat.pow_le_pow_right (by decide) (ZDI hgi):2 ^ l[i].length≤2 ^ 8)
    (repeat' (first|(apply WL.opN;exact yF;dsimp only [ZA,z0,z1])|refine WL.nil ?_|refine ZC fun Kx hK=>?_|(refine hK _ _ ?_;clear hK)|refine WC.region ?_|(apply WL.opN;(focus ((first|(apply SY.call (hF) Tryz.call53;(exact aD))|exact ZBy|exact ZFc|exact ZBq|exact Zg|exact ZDl|fail);all_goals infer_instance));dsimp only [ZA,z0,z1])|(apply ZE;(exact oD);all_goals (intro h;try exact xD))|(apply WC.condN;(exact oD);all_goals (intro h;try exact xD))|refine WC.skip ?_|refine WC.block ?_))
    (refine WC.loopU (X:=Nat × Value × Cx) (fun x=>[(36,dI (x.1:Int)),(7,dX x.2.1),(13,dA),(37,dA),(38,dA),(39,dA),(40,dA),(41,dA),(42,dA),(43,dA),(44,dA),(45,dA),(46,dA),(47,dA),(48,dA),(49,dA),(50,dA),(51,dA),(52,dA)]) (fun x=>(Zr x.2.1 28 ZI x.2.2::ZU5 b x.2.2::hp)) (fun x=>(Zw k l[i]).length-x.1) (fun x=>x.1≤(Zw k l[i]).length/\x.2.2=ZIm o ((Zw k l[i]).take x.1)) (0,v,o) ?start ?frame0 ?objs0 ?round)
    case start=>exact ⟨Nat.zero_le _,rfl⟩
    case frame0=>((try dsimp only [Za,z0,z1]);repeat (first|exact LeF.nil|refine ZF (k:=?_)))
    case objs0=>rfl
    case round =>
     rintro ⟨j,v',o'⟩ ⟨g1,g2⟩
     simp only at g1 g2
     have hol:o'.length≤5000:=by
      have:=(ZRa ((Zw k l[i]).take j) o).2
      rw [<- g2,List.length_take] at this
      omega
     have hmem:∀ f∈o',Z3 f=0:=fun f hf=>by
      rw [g2,ZII] at hf
      rcases hf with hf|hf
      ·rw [h2] at hf;exact ZOa hg hk h1 f hf
      ·exact (ZCY hgi hk (List.mem_of_mem_take hf)).1
     have hnd:o'.Nodup:=by
      rw [g2];refine ZFG ?_
      rw [h2];exact (ZDd l k i h1).1
     dsimp only [Za,z0,z1]
     by_cases hjl:j<(Zw k l[i]).length
     ·have hfj:=(ZCY hgi hk (List.getElem_mem hjl)).1
      ((repeat' (first|(apply WL.opN;exact yF;dsimp only [ZA,z0,z1])|refine WL.nil ?_|refine ZC fun Kx hK=>?_|(refine hK _ _ ?_;clear hK)|refine WC.region ?_ |  (refine WL.perm (List.Perm.swap _ _ _) ?_;refine ZNb (OpD.t rfl) (OpD.t rfl) OpD.x (ZMD hfj) (fun g hg=>ZMD (hmem g hg)) hnd (by assumption) ?_;refine WL.perm (List.Perm.swap _ _ _) ?_;dsimp only [ZA,z0,z1])|((first|apply ZO|apply ZM);(exact eD);exact OpD.t rfl;(exact oD);(intro _;exact hD);(exact (by simp));(exact (by simp));(first|exact ⟨by decide,by decide⟩|skip);decide;(exact lD);(intro _;dsimp only [ZA,z0,z1]);all_goals (try infer_instance))|(apply WL.opN;(focus ((first|(apply SY.call (ZTq _ (ZDI hfj)) Tryz.call69;(exact aD))|(refine ZMc (OpD.t rfl) (.tail _ (.head _)) (OpD.t rfl) (ZMD hfj) (fun g hg=>ZMD (hmem g hg)) hnd)|exact ZBy|exact ZP5|exact ZCk|exact Zg|fail);all_goals infer_instance));dsimp only [ZA,z0,z1])|(apply ZE;(exact oD);all_goals (intro h;try exact xD))|(apply WC.condN;(exact oD);all_goals (intro h;try exact xD))|refine WC.skip ?_|refine WC.block ?_|refine ThenD.n ?_));all_goals (first|((repeat clear hK);(repeat clear Kx))))
      ·rename_i v''
       (refine ⟨(j+1,v'',o'++[(Zw k l[i])[j]]),?_,by first|omega|(simp only;omega),rfl,?_⟩;rotate_left;((try dsimp only [Za,z0,z1]);repeat (first|exact LeF.nil|refine ZF (k:=?_)));(try dsimp only))
       refine ⟨by omega,?_⟩
       show o'++_=_
       rw [ZJs hjl,<- g2,if_neg h]
      ·(refine ⟨(j+1,v',o'),?_,by first|omega|(simp only;omega),rfl,?_⟩;rotate_left;((try dsimp only [Za,z0,z1]);repeat (first|exact LeF.nil|refine ZF (k:=?_)));(try dsimp only))
       refine ⟨by omega,?_⟩
       show o'=_
       rw [ZJs hjl,<- g2,if_pos h]
     ·rw [List.take_of_length_le (by omega)] at g2
      have g3:o'=ZKJ (l.take (i+1)) k:=by rw [ZGM hil,if_neg hks,<- h2,g2]
      ((repeat' (first|(apply WL.opN;exact yF;dsimp only [ZA,z0,z1])|refine WL.nil ?_|refine ZC fun Kx hK=>?_|(refine hK _ _ ?_;clear hK)|(refine Kont.skip ?_;clear hK)|refine WC.region ?_|(apply WL.opN;(focus ((first|exact ZBy|exact ZIh|exact ZCk|exact ZBq|fail);all_goals infer_instance));dsimp only [ZA,z0,z1])|(apply ZE;(exact oD);all_goals (intro h;try exact xD))|refine WC.skip ?_|refine WC.ret ?_|refine WC.exit ?_|refine ThenD.n ?_|refine ThenD.r ?_|refine InBlockD.r ?_));all_goals (first|((repeat clear hK);(repeat clear Kx))))
      ·refine ⟨trivial,_,_,[_,_],rfl,rfl,rfl,.inl ⟨?_,rfl⟩⟩
       have:=ZOb (l:=l) (k:=k) (n:=i+1) (by omega)
       unfold ZBt
       rw [<- g3] at this
       omega
      ·(refine ⟨(i+1,v',o'),?_,by first|omega|(simp only;omega),rfl,?_⟩;rotate_left;((try dsimp only [Za,z0,z1]);repeat (first|exact LeF.nil|refine ZF (k:=?_)));(try dsimp only))
       exact ⟨by omega,g3,by omega⟩
  ·have hil':i=l.length:=by omega
   subst hil'
   rw [List.take_length] at h2
   ((repeat' (first|(apply WL.opN;exact yF;dsimp only [ZA,z0,z1])|refine WL.nil ?_|refine ZC fun Kx hK=>?_|(refine hK _ _ ?_;clear hK)|(refine Kont.skip ?_;clear hK)|refine WC.region ?_ |  (apply ZLN;exact OpD.t rfl;omega;intro ys hperm hsort;dsimp only [ZA,z0,z1])|(apply WL.opN;(focus ((first|exact ZBy|fail);all_goals infer_instance));dsimp only [ZA,z0,z1])|(apply ZE;(exact oD);all_goals (intro h;try exact xD))|refine WC.ret ?_|refine WC.exit ?_));all_goals (first|((repeat clear hK);(repeat clear Kx))))
   have hys:ys=ZBB l k:=ZM4 (by rw [<- h2];exact hperm) hsort
   have hlen:=ZQ5 l k l.length (Nat.le_refl _)
   rw [List.take_length,<- h2] at hlen
   subst hys
   refine ⟨trivial,_,_,[_,_],rfl,rfl,rfl,.inr ⟨?_,v,_,rfl,rfl⟩⟩
   unfold ZBt
   omega
end
section
open Go.RowKit

theorem FinD.t2 {hp:List HObj} {a b a' b':Dat} (h:FinD hp a a') (k:FinD hp b b'):FinD hp (dT [a,b]) (dT [a',b']):=FinD.mk fun {P0 B w0 w v} hh hd=>by
 obtain ⟨vs,rfl,hl,hv⟩:=hd
 match vs,hl with
 | [x,y],_ =>
  refine ⟨[x,y],rfl,rfl,fun i d u hd hu=>?_⟩
  match i,hd,hu with
  | 0,hd,hu=>cases hd;cases hu;exact h.out hh (hv 0 _ _ rfl rfl)
  | 1,hd,hu=>cases hd;cases hu;exact k.out hh (hv 1 _ _ rfl rfl)
instance (l:Cx) (k:Nat):Decidable (ZBt l k):=inferInstanceAs (Decidable (4096<(ZBB l k).length))
theorem ZRA (l:Cx) (k:Nat) (hk:0<k) (hg:∀ s∈l,Z3 s=0) (hl:l.length≤1000000):Fn Tryz.prog 36 [dS ZAe l,dI (k:Int)] (dT [dS ZAe (if ZBt l k then [] else ZBB l k),dI (if ZBt l k then 17 else 0)]) :=
 ZNK (ZTj l k hk hg hl) (by
  rintro d hp2 (⟨h,rfl,rfl⟩|⟨h,v,rfl,rfl⟩)
  ·rw [if_pos h,if_pos h];exact FinD.t2 (FinD.le ZD) (FinD.le (Dat.le_refl _))
  ·rw [if_neg h,if_neg h];exact FinD.t2 (FinD.row (.head _)) (FinD.le (Dat.le_refl _)))
theorem ZJQ (l:Cx):Fn Tryz.prog 10 [dS Cpx l] (dT [dI (ZGw l).1,dI (ZGw l).2]):=by
 (refine ZAl Tryz.func10 rfl rfl ?_;simp only [Tryz.ntmps10,List.length_cons,List.length_nil,Nat.reduceAdd,Nat.reduceSub,List.replicate_succ,List.replicate_zero,List.cons_append,List.nil_append])
 by_cases h0:ZAr l=0
 ·have hg:=Z4.1 h0
  have g6:∀ k,(ZBB l k).length≤2000000:=fun k=>by
   have:=ZLQ l k l.length hg.short (Nat.le_refl _)
   rw [List.take_length] at this
   have:=hg.1
   omega
  (repeat' (first|(apply WL.opN;exact yF;dsimp only [ZA,z0,z1])|refine WL.nil ?_|refine ZC fun Kx hK=>?_|(refine hK _ _ ?_;clear hK)|refine WC.region ?_|(apply WL.opN;(focus ((first|(apply SY.call (ZBe _) Tryz.call32;(exact aD))|exact ZFc|exact ZG4|fail);all_goals infer_instance));dsimp only [ZA,z0,z1])|(apply WC.condN;(exact oD);all_goals (intro h;try exact xD))|refine WC.skip ?_|refine WC.block ?_))
  (refine WC.loopU (X:=Nat × Int) (fun x=>[(6,dI ((x.1:Int)+1)),(5,dI x.2),(2,dA),(3,dA),(7,dA),(8,dA),(14,dA),(15,dA),(16,dA),(17,dA),(18,dA),(19,dA),(20,dA),(21,dA),(22,dA),(23,dA),(24,dA),(25,dA),(26,dA),(27,dA),(28,dA),(29,dA),(30,dA),(31,dA),(32,dA),(33,dA),(34,dA),(35,dA),(36,dA),(37,dA),(38,dA)]) (fun x=>[]) (fun x=>8-x.1) (fun x=>x.1≤8/\x.2=ZD1 l x.1/\(List.range x.1).any (fun k=>decide (4096<(ZBB l (k+1)).length))=false) (0,0) ?start ?frame0 ?objs0 ?round)
  case start=>exact ⟨Nat.zero_le _,rfl,rfl⟩
  case frame0=>((try dsimp only [Za,z0,z1]);repeat (first|exact LeF.nil|refine ZF (k:=?_)))
  case objs0=>rfl
  case round =>
   rintro ⟨k,m⟩ ⟨h1,h5,h2⟩
   simp only at h1 h2 h5
   have hc:Fn Tryz.prog 36 [dS ZAe l,dI ((k:Int)+1)] (dT [dS ZAe (if ZBt l (k+1) then [] else ZBB l (k+1)),dI (if ZBt l (k+1) then 17 else 0)]):=ZRA l (k+1) (by omega) hg.2.2.1 hg.len
   have h3:=ZOX l g6 k
   rw [<- h5] at h3
   have h4:=g6 (k+1)
   dsimp only [Za,z0,z1]
   by_cases hk8:k<8
   ·by_cases ht:ZBt l (k+1)
    ·rw [if_pos ht,if_pos ht] at hc
     ((repeat' (first|(apply WL.opN;exact yF;dsimp only [ZA,z0,z1])|refine WL.nil ?_|refine ZC fun Kx hK=>?_|(refine hK _ _ ?_;clear hK)|refine WC.region ?_|(apply WL.opN;(focus ((first|(apply SY.call (hc) Tryz.call36;(exact aD))|exact ZVi|exact ZFc|exact Z8|exact ZDl|fail);all_goals infer_instance));dsimp only [ZA,z0,z1])|(apply ZE;(exact oD);all_goals (intro h;try exact xD))|(apply WC.condN;(exact oD);all_goals (intro h;try exact xD))|refine WC.skip ?_|refine WC.ret ?_|refine WC.block ?_|refine ThenD.r ?_|refine InBlockD.r ?_));all_goals (first|((repeat clear hK);(repeat clear Kx))))
     unfold ZGw
     rw [if_neg (by omega),if_pos (ZKV hk8 (decide_eq_true ht))]
     (refine ⟨trivial,⟨_,rfl,?_⟩,_,rfl,?_⟩ <;> exact fD)
    ·rw [if_neg ht,if_neg ht] at hc
     ((repeat' (first|(apply WL.opN;exact yF;dsimp only [ZA,z0,z1])|refine WL.nil ?_|refine ZC fun Kx hK=>?_|(refine hK _ _ ?_;clear hK)|refine WC.region ?_|(apply WL.opN;(focus ((first|(apply SY.call (hc) Tryz.call36;(exact aD))|exact ZVi|exact ZNA|exact ZFc|exact ZCk|exact ZNF|exact yRem|exact ZBq|exact Z8|exact ZDl|fail);all_goals infer_instance));dsimp only [ZA,z0,z1])|(apply ZE;(exact oD);all_goals (intro h;try exact xD))|(apply WC.condN;(exact oD);all_goals (intro h;try exact xD))|refine WC.skip ?_|refine WC.block ?_|refine ThenD.n ?_));all_goals (first|((repeat clear hK);(repeat clear Kx))))
     ·rw [ZVa] at h
      have h9:(k+1) % 2=1:=by omega
      (refine ⟨(k+1,m+(ZBB l (k+1)).length),?_,by first|omega|(simp only;omega),rfl,?_⟩;rotate_left;((try dsimp only [Za,z0,z1]);repeat (first|exact LeF.nil|refine ZF (k:=?_)));(try dsimp only))
      refine ⟨by omega,?_,?_⟩
      ·show _=ZD1 l (k+1)
       unfold ZD1
       rw [if_pos h9,h5]
      ·rw [ZEM,h2,decide_eq_false (show ¬ 4096<(ZBB l (k+1)).length from ht)];rfl
     ·rw [ZVa] at h
      have h9:¬ (k+1) % 2=1:=by omega
      (refine ⟨(k+1,m-(ZBB l (k+1)).length),?_,by first|omega|(simp only;omega),rfl,?_⟩;rotate_left;((try dsimp only [Za,z0,z1]);repeat (first|exact LeF.nil|refine ZF (k:=?_)));(try dsimp only))
      refine ⟨by omega,?_,?_⟩
      ·show _=ZD1 l (k+1)
       unfold ZD1
       rw [if_neg h9,h5]
      ·rw [ZEM,h2,decide_eq_false (show ¬ 4096<(ZBB l (k+1)).length from ht)];rfl
   ·((repeat' (first|(apply WL.opN;exact yF;dsimp only [ZA,z0,z1])|refine WL.nil ?_|refine ZC fun Kx hK=>?_|(refine hK _ _ ?_;clear hK)|(refine Kont.skip ?_;clear hK)|refine WC.region ?_|(apply WL.opN;(focus ((first|exact ZVi|fail);all_goals infer_instance));dsimp only [ZA,z0,z1])|(apply ZE;(exact oD);all_goals (intro h;try exact xD))|refine WC.ret ?_|refine WC.exit ?_));all_goals (first|((repeat clear hK);(repeat clear Kx))))
    have h9:k=8:=by omega
    subst h9
    unfold ZGw
    rw [if_neg (by omega),h2,if_neg Bool.false_ne_true,<- h5]
    (refine ⟨trivial,⟨_,rfl,?_⟩,_,rfl,?_⟩ <;> exact fD)
 ·have e:ZGw l=(0,ZAr l):=by unfold ZGw;rw [if_pos h0]
  ((repeat' (first|(apply WL.opN;exact yF;dsimp only [ZA,z0,z1])|refine WL.nil ?_|refine ZC fun Kx hK=>?_|(refine hK _ _ ?_;clear hK)|refine WC.region ?_|(apply WL.opN;(focus ((first|(apply SY.call (ZBe _) Tryz.call32;(exact aD))|exact ZFc|exact ZG4|fail);all_goals infer_instance));dsimp only [ZA,z0,z1])|(apply WC.condN;(exact oD);all_goals (intro h;try exact xD))|refine WC.ret ?_|refine ThenD.r ?_));all_goals (first|((repeat clear hK);(repeat clear Kx))))
  all_goals (rw [e];(refine ⟨trivial,⟨_,rfl,?_⟩,_,rfl,?_⟩ <;> exact fD))
end
section
open Go.RowKit
theorem ZR9 {P:Program} {o:Oper} {a:Act} {w:World} {K K':Act->World->Prop} {Q Q':Exit->Act->World->Prop} (h:∀ a w,K a w->K' a w) (hq:∀ e a w,e ≠ .normal->Q e a w->Q' e a w)
  (hh:o.wp P a w K Q):o.wp P a w K' Q':=by
 have hl:LetsOut Q->LetsOut Q':=fun ⟨a,w,x⟩=>⟨a,w,hq _ _ _ (by simp) x⟩
 unfold Oper.wp at *
 generalize (execOp a.eval o).run P w=r at *
 cases r with
 | ok n w' =>
  cases n <;> simp only [Oper.upon] at hh ⊢ <;>
   first
    | exact h _ _ hh
    | exact Calls.mono hh (fun e w'' he=>by cases e <;> first|exact h _ _ he|exact hq _ _ _ (by simp) he|exact hl he)
    | exact Rows.mono hh (fun _ _ he=>h _ _ he)
 | halt x w'=>cases x <;> simp only [Oper.upon] at hh ⊢ <;> first|exact hh|exact hq _ _ _ (by simp) hh
structure WA (P:Program) (ops:Array Oper) (Q:ZAW) (g:Nat) (S:List Bool) (fr:List Dat) (hp:List HObj):Prop where
 of ::
 out:∀ (P0:Nat->Prop) (B:Nat) (w0 w:World) (a:Act),Hp P0 B w0 hp w->Fr (Imm P0 B hp) w a fr->wpAny P .any ops (ZCE Q P0 B w0) g S.toArray a w
def ThenA (P:Program) (ops:Array Oper) (Q:ZAW) (g:Nat) (S:List Bool):ZAW:=fun e f p=>match e with|.normal=>WA P ops Q g S f p|e=>Q e f p
section
variable {P:Program} {ops:Array Oper} {hp:List HObj} {fr:List Dat} {Q:ZAW} {g:Nat} {S:List Bool}
theorem WA.id (h:WA P ops Q g S fr hp):WA P ops Q g S fr hp:=h
theorem WA.nil (hr:Region.ready .any ops S.toArray=[]) (h:Q .normal fr hp):WA P ops Q 0 S fr hp:=WA.of fun _ _ _ _ _ hh hf=>⟨hr,fr,hp,h,hh,hf⟩
theorem WA.step {i:Nat} {o:Oper} (ho:ops[i]?=some o) (h:WL P ops (ThenA P ops Q g (S.set i true)) [o] fr hp) {P0:Nat->Prop} {B:Nat} {w0 w:World} {a:Act} (hh:Hp P0 B w0 hp w) (hf:Fr (Imm P0 B hp) w a fr) :
  wpOp P ops (ZCE Q P0 B w0) i (wpAny P .any ops (ZCE Q P0 B w0) g (S.toArray.setIfInBounds i true)) a w:=by
 have h1:=h.on hh hf
 unfold wpList at h1
 unfold wpOp
 simp only [ho]
 have he:S.toArray.setIfInBounds i true=(S.set i true).toArray:=by simp
 rw [he]
 have hK:∀ a' w',wpList P ops (ZCE (ThenA P ops Q g (S.set i true)) P0 B w0) [] a' w'->wpAny P .any ops (ZCE Q P0 B w0) g (S.set i true).toArray a' w':=fun a' w' hn=>by
  obtain ⟨f,p,q,r,s⟩:=(hn:ZCE (ThenA P ops Q g (S.set i true)) P0 B w0 .normal a' w')
  exact (q:WA P ops Q g (S.set i true) f p).out _ _ _ _ _ r s
 have hQ:∀ e a' w',e ≠ .normal->ZCE (ThenA P ops Q g (S.set i true)) P0 B w0 e a' w'->ZCE Q P0 B w0 e a' w':=fun e a' w' hne ⟨f,p,q,r,s⟩=>by
  cases e with
  | normal=>exact absurd rfl hne
  | _=>exact ⟨f,p,q,r,s⟩
 split
 ·rename_i hw
  rw [if_pos hw] at h1
  rcases h1 with h1|⟨h1,a2,w2,h2⟩
  ·exact .inl (ZR9 hK hQ h1)
  ·exact .inr ⟨h1,a2,w2,hQ _ _ _ (by simp) h2⟩
 ·rename_i hw
  rw [if_neg hw] at h1
  exact hK _ _ h1
theorem WA.one {l:List Oper} {i:Nat} {o:Oper} (hr:Region.ready .any l.toArray S.toArray=[i]) (ho:l[i]?=some o) (h:WL P l.toArray (ThenA P l.toArray Q g (S.set i true)) [o] fr hp):WA P l.toArray Q (g+1) S fr hp:=WA.of fun P0 B w0 w a hh hf=>by
 refine ⟨fun h0=>(by rw [hr] at h0;cases h0),fun j hj=>?_⟩
 rw [hr] at hj
 cases List.mem_singleton.1 hj
 exact WA.step (by simpa using ho) h hh hf
theorem ThenA.n (h:WA P ops Q g S fr hp):ThenA P ops Q g S .normal fr hp:=h
end
end
section
open Go.RowKit
def ZHq (md:Region.Mode) (ops:Array Oper) (n:Nat):Bool :=
 (List.range ops.size).all fun t=>decide (t≤n) || (List.range ops.size).any fun s=>decide (n≤s) && Region.waitsFor md ops t s
theorem ZGm {md:Region.Mode} {ops:Array Oper} {n:Nat} {listed:Array Bool} (hs:Region.sinkB md ops n=true) (hc:ZHq md ops n=true) (hn:n<ops.size) (inv:HeadInv md ops n listed) :
  ∀ (d i:Nat),n-i=d->i<n->listed.getD i true=false->∀ t,n≤t->t∉Region.ready md ops listed:=by
 intro d
 induction d using Nat.strongRecOn with
 | _ d ih =>
  intro i hd hi hun t ht hr
  obtain ⟨_,ot,hot,hall⟩:=mem_ready.1 hr
  have htlt:t<ops.size:=(Array.getElem?_eq_some_iff.1 hot).1
  by_cases htn:t=n
  ·subst htn
   have h1:=List.all_eq_true.1 hs i (List.mem_range.2 hi)
   obtain ⟨j,hj,hj2⟩:=List.any_eq_true.1 h1
   simp only [Bool.and_eq_true,decide_eq_true_eq] at hj2
   obtain ⟨oj,hoj,e,he,hb,hon⟩:=Region.waitsFor_spec hj2.2
   have hjle:j≤t:=by have:=List.mem_range.1 hj;omega
   by_cases hjt:j=t
   ·subst hjt
    have:oj=ot:=Option.some.inj (hoj.symm.trans hot)
    subst this
    have h2:=hall e he hb
    rw [hon,getD_both hun] at h2
    cases h2
   ·cases hl:listed.getD j false with
    | true =>
     have h2:=inv.closed j oj hoj hl e he hb
     rw [hon,getD_both hun] at h2
     cases h2
    | false =>
     have hjs:j<listed.size:=by rw [inv.size];omega
     exact ih (t-j) (by omega) j rfl (by omega) (getD_in hjs hl) t (Nat.le_refl _) hr
  ·have h1:=List.all_eq_true.1 hc t (List.mem_range.2 htlt)
   simp only [Bool.or_eq_true,decide_eq_true_eq] at h1
   rcases h1 with h1|h1
   ·omega
   ·obtain ⟨s,hsr,hsw⟩:=List.any_eq_true.1 h1
    simp only [Bool.and_eq_true,decide_eq_true_eq] at hsw
    obtain ⟨o',ho',e,he,hb,hon⟩:=Region.waitsFor_spec hsw.2
    have:o'=ot:=Option.some.inj (ho'.symm.trans hot)
    subst this
    have h2:=hall e he hb
    rw [hon,getD_both (inv.tail s hsw.1 (List.mem_range.1 hsr))] at h2
    cases h2
section
variable {P:Program} {ops:Array Oper} {md:Region.Mode} {fr fr':List Dat} {hp:List HObj} {C:List HObj->Prop}
def sOpM (P:Program) (ops:Array Oper) (C:List HObj->Prop) (i:Nat) (K:List Dat->List HObj->Prop) (fr:List Dat) (hp:List HObj):Prop :=
 ∃ o,ops[i]?=some o/\((∃ d,(∀ hp',C hp'->SYG P ops hp' o fr d)/\K (ZA fr o.dst d) hp) \/
  ∃ (β:Type) (H:β->List HObj) (D:β->Dat),SW P ops hp H D o fr/\(∀ x,C (H x))/\∀ x,K (ZA fr o.dst (D x)) (H x))
def ZEv (P:Program) (md:Region.Mode) (ops:Array Oper) (C:List HObj->Prop) (n:Nat) (L:Array Bool->List Dat->List HObj->Prop):Nat->Array Bool->List Dat->List HObj->Prop
 | 0,listed,fr,hp=>L listed fr hp
 | f+1,listed,fr,hp =>
  Region.ready md ops listed≠[]/\∀ i∈Region.ready md ops listed,i<n/\sOpM P ops C i (ZEv P md ops C n L f (listed.setIfInBounds i true)) fr hp
theorem ZCS {n g:Nat} {L:Array Bool->List Dat->List HObj->Prop} {Q':Exit->Act->World->Prop} {P0:Nat->Prop} {B:Nat} {w0:World}:∀ (f:Nat) (listed:Array Bool) (fr:List Dat) (hp:List HObj) (a:Act) (w:World),C hp->Hp P0 B w0 hp w->Fr (Imm P0 B hp) w a fr ->
  (∀ listed fr hp a w',Hp P0 B w0 hp w'->Fr (Imm P0 B hp) w' a fr->L listed fr hp->wpAny P md ops Q' g listed a w')->ZEv P md ops C n L f listed fr hp->wpAny P md ops Q' (f+g) listed a w
 | 0,listed,fr,hp,a,w,_,hh,hf,hL,h=>by rw [Nat.zero_add];exact hL _ _ _ _ _ hh hf h
 | f+1,listed,fr,hp,a,w,hc,hh,hf,hL,h=>by
  rw [show f+1+g=(f+g)+1 by omega]
  refine ⟨fun h0=>absurd h0 h.1,fun i hi=>?_⟩
  obtain ⟨o,ho,h1⟩:=(h.2 i hi).2
  unfold wpOp
  simp only [ho]
  rcases h1 with ⟨d,hs,hk⟩|⟨β,H,D,hw,hC,hk⟩
  ·have:=(hs hp hc).step (Q:=Q') hh hf (K:=wpAny P md ops Q' (f+g) (listed.setIfInBounds i true)) fun a' w' e hf'=>ZCS f _ _ hp _ _ hc (hh.ext e) hf' hL hk
   split
   ·rename_i hw;rw [if_pos hw] at this;exact .inl this
   ·rename_i hw;rw [if_neg hw] at this;exact this
  ·have hwant:Region.wanted o (yielded ops a.tmps)=true:=by simp [Region.wanted,hw.guard]
   rw [if_pos hwant]
   exact .inl (hw.out hh (hf.on _) _ _ fun x v w' hh' hrd hd=>ZCS f _ _ (H x) _ _ (hC x) hh' (Fr.put (hf.mono fun d u hu=>hrd d u hu) hd) hL (hk x))
theorem ZKE {n i:Nat} {oi:Oper} {di:Dat} {L:Array Bool->List Dat->List HObj->Prop} (hi:ops[i]?=some oi)
  (hs:Region.sinkB md ops n=true) (hc:ZHq md ops n=true) (hn:n<ops.size) (hin:i<n)
  (hdone:∀ listed a c,L listed a c->∀ j∈Region.ready md ops listed,n≤j) :
  ∀ (f:Nat) (listed:Array Bool) (fr:List Dat) (hp:List HObj),HeadInv md ops n listed ->
   (∀ j oj,ops[j]?=some oj->j≠i->listed.getD j true=false->(∀ e∈oj.after,Region.binds md e=true->e.on≠i)->oi.apart ops oj=true) ->
   i∈Region.ready md ops listed->(∀ hp',C hp'->SYG P ops hp' oi fr di) ->
   ZEv P md ops C n L f (listed.setIfInBounds i true) (ZA fr oi.dst di) hp->ZEv P md ops C n L (f+1) listed fr hp:=by
 intro f
 induction f with
 | zero =>
  intro listed fr hp inv _ hr hy H
  have hun:=(mem_ready.1 hr).1
  refine ⟨fun h=>(by rw [h] at hr;cases hr),fun j hj=>?_⟩
  have hjn:j<n:=by
   rcases Nat.lt_or_ge j n with h|h
   ·exact h
   ·exact absurd hj (ZGm hs hc hn inv _ i rfl hin hun j h)
  refine ⟨hjn,?_⟩
  by_cases hji:j=i
  ·subst hji;exact ⟨oi,hi,.inl ⟨di,hy,H⟩⟩
  ·have:=hdone _ _ _ H j (ready_mono hj hji)
   omega
 | succ f ih =>
  intro listed fr hp inv hfree hr hy H
  have hun:=(mem_ready.1 hr).1
  refine ⟨fun h=>(by rw [h] at hr;cases hr),fun j hj=>?_⟩
  have hjn:j<n:=by
   rcases Nat.lt_or_ge j n with h|h
   ·exact h
   ·exact absurd hj (ZGm hs hc hn inv _ i rfl hin hun j h)
  refine ⟨hjn,?_⟩
  by_cases hji:j=i
  ·subst hji;exact ⟨oi,hi,.inl ⟨di,hy,H⟩⟩
  ·obtain ⟨oj',hoj',h1⟩:=(H.2 j (ready_mono hj hji)).2
   obtain ⟨hjun,oj,hoj,hall⟩:=mem_ready.1 hj
   have hoo:oj=oj':=by rw [hoj] at hoj';simpa using hoj'
   subst hoo
   have hnot:∀ e∈oj.after,Region.binds md e=true->e.on≠i:=fun e he hb heq=>by
    have h1:=hall e he hb
    rw [heq,getD_both hun] at h1
    cases h1
   obtain ⟨a1,a2,a3⟩:=Oper.apart_spec (hfree j oj hoj hji hjun hnot)
   have hfree':∀ k ok,ops[k]?=some ok->k≠i->(listed.setIfInBounds j true).getD k true=false ->
     (∀ e∈ok.after,Region.binds md e=true->e.on≠i)->oi.apart ops ok=true:=fun k ok hk hki hun hno=>by
    refine hfree k ok hk hki ?_ hno
    by_cases hjk:j=k
    ·subst hjk;exact hjun
    ·rw [getD_set_ne true hjk] at hun;exact hun
   have key:∀ (d:Dat) (hp':List HObj),ZEv P md ops C n L f ((listed.setIfInBounds i true).setIfInBounds j true) (ZA (ZA fr oi.dst di) oj.dst d) hp' ->
     ZEv P md ops C n L (f+1) (listed.setIfInBounds j true) (ZA fr oj.dst d) hp':=fun d hp' hk=>by
    refine ih (listed.setIfInBounds j true) (ZA fr oj.dst d) hp' (inv.set hj hjn) hfree' (ready_mono hr (Ne.symm hji)) (fun c hc=>(hy c hc).same (ZAG _ _ _) fun t ht=>ZAb fun e=>a3 t e ht) ?_
    rw [Array.setIfInBounds_comm _ _ hji,<- ZDO fr di d a2]
    exact hk
   refine ⟨oj,hoj,?_⟩
   rcases h1 with ⟨d,hs',hk⟩|⟨β,H',D,hw,hC,hk⟩
   ·exact .inl ⟨d,fun c hc=>(hs' c hc).same (ZAG _ _ _).symm fun t ht=>(ZAb fun e=>a1 t e ht).symm,key _ _ hk⟩
   ·exact .inr ⟨β,H',D,hw.same (ZAG _ _ _).symm fun t ht=>(ZAb fun e=>a1 t e ht).symm,hC,fun x=>key _ _ (hk x)⟩
inductive WM (P:Program) (ops:Array Oper) (C:List HObj->Prop) (Q:List Dat->List HObj->Prop):List (Nat × Bool)->List Dat->List HObj->Prop
 | nil {fr:List Dat} {hp:List HObj}:Q fr hp->WM P ops C Q [] fr hp
 | read {i:Nat} {o:Oper} {r:List (Nat × Bool)} {fr:List Dat} {hp:List HObj} {d:Dat}:ops[i]?=some o->(∀ hp',C hp'->SYG P ops hp' o fr d)->WM P ops C Q r (ZA fr o.dst d) hp->WM P ops C Q ((i,false)::r) fr hp
 | write {i:Nat} {o:Oper} {r:List (Nat × Bool)} {fr:List Dat} {hp:List HObj} {β:Type} {H:β->List HObj} {D:β->Dat}:ops[i]?=some o->SW P ops hp H D o fr->(∀ x,C (H x))->(∀ x,WM P ops C Q r (ZA fr o.dst (D x)) (H x))->WM P ops C Q ((i,true)::r) fr hp
theorem WM.id {Q:List Dat->List HObj->Prop} {r:List (Nat × Bool)} (h:WM P ops C Q r fr hp):WM P ops C Q r fr hp:=h
end
end
end Go.Proofs.YtekiljakcngcoaaGreatDoor
