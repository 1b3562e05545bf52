/- Part 39: walks by contracts, and plain laws. -/
import Derived.Test.YtofkoleingbbpaaGreatDoorXa38
set_option linter.unusedVariables false
set_option linter.unusedSimpArgs false
set_option linter.unusedSectionVars false
set_option maxRecDepth 100000
set_option maxHeartbeats 64000000
namespace Go.Proofs.YtofkoleingbbpaaGreatDoor
section
open Go.RowKit
open C34

variable {S:Prop}
theorem ZKr {l:Cx} (h:(ZBf l).2=0) {k:Nat} (h1:1≤k):(k:Int)≤8->(ZCR l (k:Int)).1.length≤1000000:=fun h8=>by
 have h4:=(ZBI h).2 k h1 (by omega);unfold ZCR;rw[if_neg (by simpa using(ZBI h).1),if_neg (by omega),Int.toNat_natCast,if_neg (by omega)];simp only;omega
theorem ZPz {α:Type} {lv:List α}:plc 0 lv (fun _=>true)=(List.range lv.length).map fun i:Nat=>(i:Int):=by
 unfold plc;rw[List.filter_eq_self.2 fun j hj=>by
  rw[List.getElem?_eq_getElem (List.mem_range.1 hj)]]
 exact List.map_congr_left fun j _=>by simp
theorem ZUt {P:Program} {QR:Exit->Act->World->Prop} {P0:Nat->Prop} {B:Nat} {w0:World} {ds:List Deferred} {Q:Z5} {c:Code} {fr:List Dat} {hp:List HObj} (h:WX P ds Q c fr hp) (k:∀e f p,Q e f p->WK (QR e) P0 B w0 ds f p):WY P QR P0 B w0 ds c fr hp:=WK.of fun a w ha hh hf=>Code.wp_mono (fun e a' w' ⟨hd,f,p,q,r,s⟩=>(k e f p q).out a' w' hd r s) (h.out P0 B w0 w a ha hh hf)
theorem ZUE {u x s r:HObj} {q:List HObj}:(u::x::s::r::q).Perm (r::s::u::x::q) :=
 (List.perm_middle (l₁:=[u,x,s]) (a:=r) (l₂:=q)).trans (List.Perm.cons r (List.perm_middle (l₁:=[u,x]) (a:=s) (l₂:=q)))
theorem ZUF {m r s u x t:HObj} {q:List HObj}:(m::r::s::u::x::t::q).Perm (s::r::u::x::t::m::q) :=
 ((List.perm_middle (l₁:=[r,s,u,x,t]) (a:=m) (l₂:=q)).symm).trans (List.Perm.swap _ _ _)
theorem ZDP {P:Program} {ops:Array Oper} {hp:List HObj} {o:Oper} {fr:List Dat} {b:Bool} (h:SY P ops hp o fr (dX (.bool b))):SY P ops hp o fr (dB b):=h
def certH (bm n:Nat) (fst:List Int) (pre:List (List Int)) (hs:List HObj):Prop:=∃v,hs=[Zk v 23 ZAR (fst::pre),ZAX bm 105 [dI (n:Int),dX v]]
theorem ZJi {P:Program} {ops:Array Oper} {hp:List HObj} {fr:List Dat} {Q:Z5} {rest:List Oper} {b:Nat} {T:TypeId} {ds:List Dat} {n t:Nat} (hp0:fr[t]?=some (dX (.pointer (some ⟨b,0,none⟩)))) (hn:0<n) (hl:ds.length=n) (h:WL P ops Q rest (fr.set t (dP n true (ZEP ds))) hp):WL P ops Q rest fr (ZAX b T ds::hp):=by
 refine WL.of fun P0 B w0 w a hh hf=>?_;obtain⟨cs,c1,c2,c3,c4⟩:=hh.ok (ZAX b T ds) (by simp);have hown:=hh.own (ZAX b T ds) (by simp) b rfl;refine h.on hh.drop ⟨hf.defers,by rw[hf.size,List.length_set],fun t' d' hd'=>?_⟩;by_cases htt:t=t'
 ·subst htt;rw[List.getElem?_set] at hd';simp only[if_true] at hd';split at hd'
  ·cases hd';have hv:a.tmps.getD t undef = .pointer (some ⟨b,0,none⟩):=hf.rd t _ hp0;rw[hv];refine⟨b,0,.agg cs.toArray,rfl,⟨⟨.inr hown.1,fun o' ho' hk=>(List.pairwise_cons.1 hh.apart).1 o' ho' b rfl hk⟩,cs,by omega,hn,c3,fun j c hc=>?_,rfl⟩,cs,rfl,c2,c3,fun k c d hc hd=>d.weak (c4 k c d hc hd) Imm.sub⟩;simp[World.cell?,c1,hc]
  ·cases hd'
 ·rw[List.getElem?_set_ne htt] at hd';exact d'.weak (hf.rd t' d' hd') Imm.sub
theorem ZNC {P0:Nat->Prop} {B:Nat} {w0 w w':World} {hp:List HObj} {f:List Dat} {d6:Dat} {R:Option (List Cx)} {k:Nat} {a:Act} (h6:f[6]?=some d6) (h6l:d6.le (dS ZFw (R.getD []))) (h7:f[7]?=some (dB R.isSome)) (h8:f[8]?=some (dI 0)) (hf2:Fr (Imm P0 B (ZHg k::hp)) w (actZ a) f) (hh':Hp P0 B w0 hp w') (hd':∀(d:Dat) (v:Value),d.rd (Imm P0 B (List.map ZHg [k]++hp)) w v->d.rd (Imm P0 B hp) w' v) :
  LeavesInM Fence.wide 0 Tryz.prog Tryz.f23 a.tmps (fun e W'=>∃v d hp2,e = .returned v/\(d=dT [dS ZFw (R.getD []),dB R.isSome,dI 0]/\hp2=[])/\Hp P0 B w0 (hp2++hp) W'/\d.rd (Imm P0 B (hp2++hp)) W' v) [] .returning w':=by
 refine⟨_,ZFC rfl _ _,_,_,[],rfl,⟨rfl,rfl⟩,hh',[a.tmps.getD 6 undef,a.tmps.getD 7 undef,a.tmps.getD 8 undef],rfl,rfl,fun j e x he hx=>?_⟩
 match j,he,hx with
 | 0,he,hx=>cases he;cases hx;exact hd' _ _ (h6l _ _ _ (hf2.rd 6 d6 h6))
 | 1,he,hx=>cases he;cases hx;exact hd' _ _ (hf2.rd 7 _ h7)
 | 2,he,hx=>cases he;cases hx;exact hd' _ _ (hf2.rd 8 _ h8)
theorem ZRb (l:Cx) (vs:List Vx) (A:List Int) (d:Nat) (h:ZCE l vs A=0) (hd:d<8) (hF:ZF8 l≤400) (hS:S->ZEs l) (hne:l≠[]\/S):CallC Tryz.prog 23 ([dS (ZSi S) l,dS Lab (vs,A),dI (d:Int)]++([]:List Value).map dX) [] (fun d' hp2=>d'=dT [dS ZFw ((ZFU l (Zd vs A) (d+1)).getD []),dB (ZFU l (Zd vs A) (d+1)).isSome,dI 0]/\hp2=[]):=⟨fun P0 B w0 hp ws W hh hl0 hv=>by
 refine(callsIn_wide (n:=0)).1 (callsIn_of_wp_marks Tryz.func23 rfl trivial ?_ rfl);refine wpIn_wide.2 ?_;have hf0:=ZCB (m:=159) hl0 hv;have hsz:ws.toArray.size=3:=by simpa using hl0
 rw[hsz];have hnt:Tryz.f23.ntmps=162:=rfl;rw[hnt];simp only[List.length_cons,List.length_nil,Nat.reduceAdd,Nat.reduceSub,List.replicate_succ,List.replicate_zero,List.cons_append,List.nil_append,List.map_nil,List.map_cons] at hf0 hh ⊢;have cB:=ZGG l vs A h;have heul:=ZD8 h;have hck:=(ZAY.1 (ZBI heul).1).2.2.1;obtain⟨f,hf⟩:∃f,Zd vs A=f:=⟨_,rfl⟩;rw[hf] at cB ⊢;obtain⟨R,hR⟩:∃R,ZFU l f (d+1)=R:=⟨_,rfl⟩;rw[hR];refine(?_:WY Tryz.prog _ P0 B w0 [] _ _ hp).out _ W rfl hh hf0;refine ZCe fun Kx hK=>?_;refine ZSk (S:=S) 0 rfl (fun P w v hv=>?_) ?_
 ·rcases hne with hne|hs
  ·exact ZSz hne (fun s hs e=>(Zi.1 (hck s hs)).1 (by rw[e];rfl)) hv
  ·exact .inr hs
 ((repeat' (first|((first|apply WL.opN|apply WD.opN);exact yF;dsimp only[ZC,z0,z1])|refine WL.nil ?_|(refine hK _ _ ?_;clear hK)|refine WC.region ?_|((first|apply ZF|apply WD.op);(focus (first|exact wN|(apply SYG.yes;(exact wY);((first|(exact SY.box (OpD.t rfl) (fun I w v h=>ZAL I w v (ZCW I w v h)))|(apply SY.box;(exact oD);(exact hD))|fail);all_goals infer_instance))));dsimp only[ZC,z0,z1])));all_goals (first|((repeat clear hK);(repeat clear Kx))))
 refine ZCe fun Kx hK=>?_;((repeat' (first|((first|apply WL.opN|apply WD.opN);exact yF;dsimp only[ZC,z0,z1])|refine WL.nil ?_|(refine hK _ _ ?_;clear hK)|refine WC.region ?_ |  (refine WL.alloc (dst:=some 9) ZFJ (Zj rfl rfl) fun b9=>?_;dsimp only[ZC,z0,z1]) |  (refine ZP ZBx rfl (OpD.t rfl) (ZAD (n:=2) (by decide) rfl) ?_;dsimp only[ZC,z0,z1])|((first|apply ZF|apply WD.op);(focus (first|exact wN|(apply SYG.yes;(exact wY);((first|(apply SY.load;exact ZAz;exact OpD.t rfl)|(apply SY.call cB Tryz.call57;exact ArgsD.cons (OpD.tle rfl ZCW) (ArgsD.cons (OpD.t rfl) ArgsD.nil))|(apply SY.extract;(exact oD);rfl)|fail);all_goals infer_instance))));dsimp only[ZC,z0,z1])));all_goals (first|((repeat clear hK);(repeat clear Kx))))
 all_goals try (exfalso;first|contradiction|omega)
 refine ZCe fun Kx hK=>?_;((repeat' (first|((first|apply WL.opN|apply WD.opN);exact yF;dsimp only[ZC,z0,z1])|refine WL.nil ?_|refine ZA fun Kx hK=>?_|(refine hK _ _ ?_;clear hK)|refine WC.region ?_|((first|apply ZF|apply WD.op);(focus (first|exact wN|(apply SYG.yes;(exact wY);((first|((first|apply SY.move|apply SY.assign|apply SY.lss|apply SY.gtr|apply SY.geq|apply SY.neq|apply SY.not) <;> (exact oD))|fail);all_goals infer_instance))));dsimp only[ZC,z0,z1])|(apply ZG;(exact oD);all_goals (intro h;try exact xD))|refine WC.skip ?_));all_goals (first|((repeat clear hK);(repeat clear Kx))))
 all_goals try (exfalso;first|contradiction|omega)
 refine ZCe fun Kx hK=>?_;((repeat' (first|((first|apply WL.opN|apply WD.opN);exact yF;dsimp only[ZC,z0,z1])|refine WL.nil ?_|refine ZA fun Kx hK=>?_|(refine hK _ _ ?_;clear hK)|refine WC.region ?_|((first|apply ZF|apply WD.op);(focus (first|exact wN|(apply SYG.yes;(exact wY);((first|((first|apply SY.move|apply SY.assign|apply SY.lss|apply SY.gtr|apply SY.geq|apply SY.neq|apply SY.not) <;> (exact oD))|(apply ZY;(exact oD);(with_reducible rfl);(exact oD))|fail);all_goals infer_instance))));dsimp only[ZC,z0,z1])|((first|refine ZK rfl rfl rfl (fun h=>?_) (fun h=>?_)|refine ZJ rfl rfl rfl (fun h=>?_) (fun h=>?_)|refine ZI rfl rfl rfl (fun h=>?_) (fun h=>?_)|refine ZW rfl rfl rfl (fun h=>?_) (fun h=>?_)|refine ZU rfl rfl rfl (fun h=>?_) (fun h=>?_)|refine ZS rfl rfl rfl (fun h=>?_) (fun h=>?_)) <;> (first|(exfalso;first|omega|contradiction)|(dsimp only[z0,z1])))|(apply ZB;(exact oD);all_goals (intro h;try exact xD))|refine WC.skip ?_));all_goals (first|((repeat clear hK);(repeat clear Kx))))
 all_goals try (exfalso;first|contradiction|omega)
 refine ZCe fun Kx hK=>?_;((repeat' (first|((first|apply WL.opN|apply WD.opN);exact yF;dsimp only[ZC,z0,z1])|refine WL.nil ?_|(refine hK _ _ ?_;clear hK)|refine WC.region ?_ |  (refine ZTU (OpD.t rfl) (by decide) fun bu=>?_;dsimp only[ZC,z0,z1])|((first|apply ZF|apply WD.op);(focus (first|exact wN|(apply SYG.yes;(exact wY);((first|(exact ZOE)|fail);all_goals infer_instance))));dsimp only[ZC,z0,z1])));all_goals (first|((repeat clear hK);(repeat clear Kx))))
 all_goals try (exfalso;first|contradiction|omega)
 refine ZCe fun Kx hK=>?_;refine Zq 145 (ZF4 kvS RI) (Zq 27 (ZA5 S) ?_);refine WC.perm ZUG ?_;(repeat' (first|((first|apply WL.opN|apply WD.opN);exact yF;dsimp only[ZC,z0,z1])|refine WL.nil ?_|refine ZA fun Kx hK=>?_|(refine hK _ _ ?_;clear hK)|refine WC.region ?_|((first|apply ZF|apply WD.op);(focus (first|exact wN|(apply SYG.yes;(exact wY);((first|((first|apply SY.add) <;> first|exact oD|omega)|fail);all_goals infer_instance))));dsimp only[ZC,z0,z1])|refine WC.block ?_))
 all_goals try (exfalso;first|contradiction|omega)
 (refine WC.loopU (X:=Nat × Value × Value) (fun x=>[(49,dI (x.1:Int)),(12,dA),(50,dA),(51,dA),(52,dA),(53,dA),(54,dA),(55,dA),(56,dA),(57,dA),(58,dA),(59,dA),(60,dA),(61,dA)]) (fun x=>(ZVa S bu x.2.1 x.2.2 (ZAn l f x.1) (ZCi (ZAn l f x.1)) (ZAm (ZAn l f x.1) x.1)++(ZIj S::hp))) (fun x=>d+1-x.1) (fun x=>x.1≤d+1) (0,.slice none 0 0,.slice none 0 0) ?start ?frame0 ?objs0 ?round)
 case start=>exact Nat.zero_le _
 case frame0=>exact zFr
 case objs0=>rfl
 case round =>
  rintro⟨k,vL,vN⟩ hk;simp only at hk;dsimp only[ZL,z0,z1];by_cases hkl:k<d+1
  ·have hkI:(k:Int)<(d:Int)+1:=by omega
   have cP:=ZKZ l f (k:Int) ⟨by omega,by omega⟩;have hk1:(k:Int)+1=((k+1:Nat):Int):=by omega
   have hlen:(ZCk l ((k+1:Nat):Int) (ZAi f (k:Int))).length≤400:=Nat.le_trans (ZDc heul (by omega) (by omega)) hF;have hnd:(ZCk l ((k+1:Nat):Int) (ZAi f (k:Int))).Nodup:=ZQR heul (by omega) (by omega);have hch:∀s∈ZCk l ((k+1:Nat):Int) (ZAi f (k:Int)),ZAC s=0:=fun s hs=>(ZEm heul (by omega) (by omega) hs).1;have hsm:S->∀s∈ZCk l ((k+1:Nat):Int) (ZAi f (k:Int)),∀v∈s,v.1<100/\v.2<100:=fun q s hs=>ZEL heul (by omega) (by omega) hS hs q;have cS:=ZJG l f ((k+1:Nat):Int) (ZAi f (k:Int)) (ZKr heul (by omega));have hsn:=ZPc (l:=l) (f:=f) (d:=k);have hof:=ZKV (f:=f) heul (d:=k) (by omega) k (Nat.le_refl _);have hoff:ZAm (ZAn l f k) k≤100000:=by
    have h2:ZF8 l*k≤400*8:=Nat.mul_le_mul hF (by omega);omega
   rw[<- hk1] at hlen hnd hch hsm cS;generalize ZCk l ((k:Int)+1) (ZAi f (k:Int))=lv at *;have hLk:=ZAP (l:=l) (f:=f) (d:=k);have e1:ZCi (ZAn l f (k+1))=ZCi (ZAn l f k)++[ZFL txS (ZAm (ZAn l f k) k) lv]:=by rw[hsn,ZNZ,hLk]
   have e2:ZAm (ZAn l f (k+1)) (k+1)=ZAm (ZAn l f k) k+lv.length:=by
    have:=ZR1 (L:=ZAn l f k) (lv:=lv);rw[hLk] at this;rw[hsn,this]
   have hMl:(ZCi (ZAn l f k)).length≤100:=by simp[ZCi,hLk];omega
   have cN:=ZNY (S:=S) bu (ZAm (ZAn l f k) k) (ZAn l f k) (ZCi (ZAn l f k)) vL vN lv hoff (by omega) (by omega) hMl hnd hch hsm;((repeat' (first |  (apply WC.drawTail (id:=10) 8;kernel_rfl;kernel_rfl;simp only[List.take_succ_cons,List.take_zero,List.drop_succ_cons,List.drop_zero])|((first|apply WL.opN|apply WD.opN);exact yF;dsimp only[ZC,z0,z1])|refine WL.nil ?_|refine WD.nil ?_|refine ZA fun Kx hK=>?_|(refine hK _ _ ?_;clear hK)|refine WC.region ?_ |  (refine ZRH (d':=dS (ZA5 S) lv) 59 (mAt 3 rfl) rfl (fun _ _ _=>gain_S) (WL.callC (hp1:=ZVa S bu vL vN (ZAn l f k) (ZCi (ZAn l f k)) (ZAm (ZAn l f k) k)) (hp:=ZIj S::hp) (caps:=[]) cN Tryz.call58 OpD.f (ArgsD.cons (OpD.t rfl) (ArgsD.cons (OpD.t rfl) ArgsD.nil)) ?_);rintro d' hp2 ⟨vL',vN',rfl⟩;dsimp only[ZC,z0,z1,List.cons_append,List.nil_append])|((first|apply ZF|apply WD.op);(focus (first|exact wN|(apply SYG.yes;(exact wY);((first|(apply SY.load;exact ZBx;exact OpD.t rfl)|(apply SY.call (cP) Tryz.call60;(exact aD))|(apply SY.call (cS) Tryz.call59;(exact aD))|((first|apply SY.move|apply SY.assign|apply SY.lss|apply SY.gtr|apply SY.geq|apply SY.neq|apply SY.not) <;> (exact oD))|((first|apply SY.add) <;> first|exact oD|omega)|fail);all_goals infer_instance))));dsimp only[ZC,z0,z1])|(apply ZB;(exact oD);all_goals (intro h;try exact xD))|refine WC.skip ?_|refine WC.block ?_|refine ThenD.n ?_));all_goals (first|((repeat clear hK);(repeat clear Kx))))
   all_goals try (exfalso;first|contradiction|omega)
   rw[<- hsn,<- e1,<- e2];(refine zNx (k+1,vL',vN') ?_;(try dsimp only))
   exact hkl
  ·have hkI:¬ (k:Int)<(d:Int)+1:=by omega
   obtain rfl:k=d+1:=by omega
   have hL:=ZGP (f:=f) heul (d:=d+1) (by omega);have hLl:=ZAP (l:=l) (f:=f) (d:=d+1);have hof:=ZKV (f:=f) heul (d:=d+1) (by omega) (d+1) (Nat.le_refl _);have hn8:ZAm (ZAn l f (d+1)) (d+1)≤3200:=by
    have h2:ZF8 l*(d+1)≤400*8:=Nat.mul_le_mul hF (by omega);omega
   have hl0:((ZAn l f (d+1)).getD 0 []).length≤400:=by
    rw[ZHE (by omega)];exact Nat.le_trans (ZDc (k:=0+1) heul (by omega) (by omega)) hF
   have hsolr:=fun x=>ZUS (f:=f) heul (d:=d+1) (by omega) (by omega) (x:=x);have hrl:=ZMn (f:=f) heul (d:=d+1) (by omega);have hrw:=ZI9 (f:=f) heul (d:=d+1) (by omega) (by omega);have hEq:=fun vu vx=>ZTk (S:=S) l f (d+1) (ZAm (ZAn l f (d+1)) (d+1)) (by omega) heul (by omega) hS vu vx;have hcert:ZFU l f (d+1)=(L05.solP (ZBb l f (ZAn l f (d+1))) [0] (ZAm (ZAn l f (d+1)) (d+1))).map (ZBL (ZAn l f (d+1))):=rfl;rw[hcert] at hR;obtain⟨n,hn⟩:∃n,ZAm (ZAn l f (d+1)) (d+1)=n:=⟨_,rfl⟩;rw[hn] at hn8 hsolr hrw hEq hR ⊢;have hrowsE:ZBb l f (ZAn l f (d+1))=plc 0 ((ZAn l f (d+1)).getD 0 []) (fun _=>true)::ZMI l f (ZAn l f (d+1)) d:=by
    unfold ZBb eqsP;rw[hLl];rfl
   obtain⟨L,hLe⟩:∃L,ZAn l f (d+1)=L:=⟨_,rfl⟩;rw[hLe] at hL hLl hl0 hsolr hrl hrw hEq hrowsE hn hR ⊢;have hL0:0<L.length:=by omega
   have el0:=ZF1 hL0;obtain⟨l0,hl0e⟩:∃l0,L.getD 0 []=l0:=⟨_,rfl⟩;rw[hl0e] at el0 hl0 hrowsE;have hpf:plc 0 l0 (fun _=>true)=(List.range l0.length).map fun i:Nat=>(i:Int):=ZPz;refine ZEt (k:=0) rfl (ZEt (k:=1) rfl (ZM1 (n:=3) (t:=11) rfl (by decide) rfl ?_));dsimp only[z0,z1];((repeat' (first|refine WL.nil ?_|refine ZA fun Kx hK=>?_|(refine hK _ _ ?_;clear hK)|(refine Kont.skip ?_;clear hK)|refine WC.region ?_|((first|apply ZF|apply WD.op);(focus (first|exact wN|(apply SYG.yes;(exact wY);((first|((first|apply SY.move|apply SY.assign|apply SY.lss|apply SY.gtr|apply SY.geq|apply SY.neq|apply SY.not) <;> (exact oD))|fail);all_goals infer_instance))));dsimp only[ZC,z0,z1])|(apply ZB;(exact oD);all_goals (intro h;try exact xD))|refine WC.exit ?_));all_goals (first|((repeat clear hK);(repeat clear Kx))))
   all_goals try (exfalso;first|contradiction|omega)
   refine ZCe fun Kx hK=>?_;((repeat' (first|((first|apply WL.opN|apply WD.opN);exact yF;dsimp only[ZC,z0,z1])|refine WL.nil ?_|(refine hK _ _ ?_;clear hK)|refine WC.region ?_));all_goals (first|((repeat clear hK);(repeat clear Kx))))
   refine ZCe fun Kx hK=>?_;refine Zq 3 RI ?_;(repeat' (first|((first|apply WL.opN|apply WD.opN);exact yF;dsimp only[ZC,z0,z1])|refine WL.nil ?_|refine ZA fun Kx hK=>?_|(refine hK _ _ ?_;clear hK)|refine WC.region ?_|((first|apply ZF|apply WD.op);(focus (first|exact wN|(apply SYG.yes;(exact wY);((first|(exact ZA4 (OpD.t rfl))|(refine ZV ZCc (OpD.t rfl) (Dat.le_refl _) rfl rfl)|(apply SY.load;exact ZUl;exact OpD.t rfl)|(refine ZCL (D:=fun z=>dP 1 false (dS (ZA5 S) z)) el0 (SY.ix (R:=ZA5 S) (_gR:=inferInstance) (k:=0) ZAK (OpD.t rfl) OpD.i hL0))|(apply SY.len;(exact oD);(exact nD);(exact uD))|fail);all_goals infer_instance))));dsimp only[ZC,z0,z1])|refine WC.block ?_))
   all_goals try (exfalso;first|contradiction|omega)
   (refine WC.loopU (X:=Nat × Value) (fun x=>[(69,dI (x.1:Int)),(13,dX x.2),(14,dA),(70,dA),(71,dA),(72,dA),(73,dA),(74,dA),(75,dA),(76,dA)]) (fun x=>(Zk x.2 3 RI ((List.range x.1).map fun i:Nat=>(i:Int))::ZIj S::hp)) (fun x=>l0.length-x.1) (fun x=>x.1≤l0.length) (0,.slice none 0 0) ?start ?frame0 ?objs0 ?round)
   case start=>exact Nat.zero_le _
   case frame0=>exact zFr
   case objs0=>rfl
   case round =>
    rintro⟨k,v⟩ hk;simp only at hk;dsimp only[ZL,z0,z1];by_cases hkl:k<l0.length
    ·have hkI:(k:Int)<(l0.length:Int):=by omega
     have hrs:((List.range (k+1)).map fun i:Nat=>(i:Int))=((List.range k).map fun i:Nat=>(i:Int))++[(k:Int)]:=by rw[List.range_succ,List.map_append];rfl
     have hrl0:((List.range k).map fun i:Nat=>(i:Int)).length=k:=by simp
     ((repeat' (first|((first|apply WL.opN|apply WD.opN);exact yF;dsimp only[ZC,z0,z1])|refine WL.nil ?_|refine ZA fun Kx hK=>?_|(refine hK _ _ ?_;clear hK)|refine WC.region ?_ |  (refine Zl elI (R:=RI) (_gR:=inferInstance) (OpD.t rfl) (OpD.t rfl) (fun _=>ZAT) (by simp) (by simp) (by decide) (by rw[hrl0];omega) fun v'=>?_;dsimp only[ZC,z0,z1])|((first|apply ZF|apply WD.op);(focus (first|exact wN|(apply SYG.yes;(exact wY);((first|((first|apply SY.move|apply SY.assign|apply SY.lss|apply SY.gtr|apply SY.geq|apply SY.neq|apply SY.not) <;> (exact oD))|((first|apply SY.add) <;> first|exact oD|omega)|fail);all_goals infer_instance))));dsimp only[ZC,z0,z1])|(apply ZB;(exact oD);all_goals (intro h;try exact xD))|refine WC.skip ?_|refine WC.block ?_|refine ThenD.n ?_));all_goals (first|((repeat clear hK);(repeat clear Kx))))
     all_goals try (exfalso;first|contradiction|omega)
     rw[<- hrs];(refine zNx (k+1,v') ?_;(try dsimp only))
     exact hkl
    ·have hkI:¬ (k:Int)<(l0.length:Int):=by omega
     obtain rfl:k=l0.length:=by omega
     rw[<- hpf];((repeat' (first|refine WL.nil ?_|refine ZA fun Kx hK=>?_|(refine hK _ _ ?_;clear hK)|(refine Kont.skip ?_;clear hK)|refine WC.region ?_|((first|apply ZF|apply WD.op);(focus (first|exact wN|(apply SYG.yes;(exact wY);((first|((first|apply SY.move|apply SY.assign|apply SY.lss|apply SY.gtr|apply SY.geq|apply SY.neq|apply SY.not) <;> (exact oD))|fail);all_goals infer_instance))));dsimp only[ZC,z0,z1])|(apply ZB;(exact oD);all_goals (intro h;try exact xD))|refine WC.exit ?_));all_goals (first|((repeat clear hK);(repeat clear Kx))))
     all_goals try (exfalso;first|contradiction|omega)
     refine ZCe fun Kx hK=>?_;refine ZIM (s:=13) rfl ?_;dsimp only[z0,z1];((repeat' (first|((first|apply WL.opN|apply WD.opN);exact yF;dsimp only[ZC,z0,z1])|refine WL.nil ?_|(refine hK _ _ ?_;clear hK)|refine WC.region ?_ |  (refine ZRJ (R:=ZAR) (_gR:=inferInstance) (els:=[plc 0 l0 (fun _=>true)]) ZDj (Zo (OpD.t rfl) Zp) rfl rfl (fun _=>ZAI) (Nat.le_of_ble_eq_true rfl) fun vR=>?_;dsimp only[ZC,z0,z1]) |  (refine ZCz (dst:=some 15) (zs:=[.int .i64 0,.slice none 0 0]) ZN0 (by decide) (by simp[Value.oneCell']) fun bm=>?_;dsimp only[ZC,z0,z1,List.map_cons,List.map_nil]) |  (refine ZBr ZHn (OpD.t rfl) (OpD.t rfl) rfl rfl ?_;dsimp only[ZC,z0,z1])|((first|apply ZF|apply WD.op);(focus (first|exact wN|(apply SYG.yes;(exact wY);((first|(exact ZA4 (OpD.t rfl))|(refine ZV ZCc (OpD.t rfl) (Dat.le_refl _) rfl rfl)|(exact ZOF (R:=ZAR) (_gR:=inferInstance) (.head _) (OpD.t rfl) (OpD.t rfl))|fail);all_goals infer_instance))));dsimp only[ZC,z0,z1])));all_goals (first|((repeat clear hK);(repeat clear Kx))))
     all_goals try (exfalso;first|contradiction|omega)
     refine WY.seq ?_;refine ZCe fun Kx hK=>?_;((repeat' (first|((first|apply WL.opN|apply WD.opN);exact yF;dsimp only[ZC,z0,z1])|refine WL.nil ?_|(refine hK _ _ ?_;clear hK)|refine WC.region ?_ |  (refine WL.callC (hp1:=[]) (caps:=[]) (ZIc S l f L (ZCi L) n) Tryz.call61 OpD.f (ArgsD.cons (OpD.t rfl) (ArgsD.cons (OpD.t rfl) ArgsD.nil)) ?_;rintro d' hp2 ⟨vu,vx,rfl,rfl⟩;dsimp only[ZC,z0,z1,List.cons_append,List.nil_append])|((first|apply ZF|apply WD.op);(focus (first|exact wN|(apply SYG.yes;(exact wY);((first|(apply SY.load;exact ZBx;exact OpD.t rfl)|fail);all_goals infer_instance))));dsimp only[ZC,z0,z1])));all_goals (first|((repeat clear hK);(repeat clear Kx))))
     all_goals try (exfalso;first|contradiction|omega)
     refine WK.perm ZUE (WY.block ?_);have hEq2:=hEq vu vx;rw[show d+1-1=d from rfl] at hEq2;have hel:(ZMI l f L d).length≤3200:=by
      rw[hrowsE,List.length_cons] at hrl;omega
     refine ZOj (hs0:=[_,_]) (hk:=[ZAq vu (dP 1 false (ZRi S L (ZCi L) n)),ZAq vx (dP 2 true (ZHa l f)),ZIj S]) (hp:=hp) (D:=fun r=>dS ZAR r) (certH bm n (plc 0 l0 (fun _=>true))) _ (OpD.t rfl) Tryz.call101 hEq2.toN ⟨vR,rfl⟩ (by repeat (first|exact FixF.nil|apply FixF.x|apply FixF.a)) (by simp) ?_ ?_
     ·rintro l' pre x hs q hlt ⟨v,rfl⟩;have hpl:((plc 0 l0 (fun _=>true))::pre).length≤3201:=by rw[List.length_cons];omega
      dsimp only[z0,z1,List.cons_append,List.nil_append];refine WR.block (WR.region rfl ?_);refine I.WL.op rfl (ZAo ZJJ (OpD.t rfl) (by decide)) ?_;dsimp only[ZC,z0,z1];refine I.WL.op rfl (ZAZ ZKx (OpD.t rfl) (mAt 1 rfl) rfl) ?_;dsimp only[ZC,z0,z1];refine I.WL.op rfl (SY.move (OpD.t rfl)) ?_;dsimp only[ZC,z0,z1];refine I.Zl ZDj (R:=ZAR) (_gR:=inferInstance) (OpD.t rfl) (OpD.t rfl) (fun _=>ZAI) (by simp) (by simp) (by decide) (by omega) fun v'=>?_;dsimp only[ZC,z0,z1];refine I.WL.op rfl (ZAo ZJJ (OpD.t rfl) (by decide)) ?_;dsimp only[ZC,z0,z1];refine I.ZFQ (.head _) fun⟨ad,c,hv'⟩=>?_;refine I.WL.perm (List.Perm.swap _ _ _) (I.WL.storeS ZKx (OpD.t rfl) (OpD.t rfl) (Zw (by rw[hv'];rfl)) (by simp) ?_);dsimp only[ZC,z0,z1];refine I.WL.perm (List.Perm.swap _ _ _) (I.WL.nil ?_);exact⟨rfl,_,⟨v',rfl⟩,rfl⟩
     ·rintro k hs ⟨v,rfl⟩;refine ZOS (ZRE ?_);rw[<- hrowsE];refine ZUt (Q:=fun e f p=>e = .ret/\p=ZHg k::hp/\(∃d6,f[6]?=some d6/\d6.le (dS ZFw (R.getD [])))/\f[7]?=some (dB R.isSome)/\f[8]?=some (dI 0)) ?_ ?_
      ·refine ZGi (WL.perm ZUF (ZL6 (k:=1) rfl (ZJi (n:=2) (t:=15) rfl (by decide) rfl (WL.drop (WL.drop (WL.drop (WL.nil ⟨rfl,?_⟩)))))));dsimp only[z0,z1];have hrows:(ZBb l f L).length≤3201:=by omega
       have h1:L05.AllAsc (ZBb l f L):=fun r hr=>(hrw r hr).1;have h2:∀r∈ZBb l f L,L05.Low (n:Int) r:=fun r hr v hv=>((hrw r hr).2 v hv).2;have h3:∀r∈ZBb l f L,L05.Pos r:=fun r hr v hv=>((hrw r hr).2 v hv).1;have hb0:VecI ((ZBb l f L).length:Int) [0]:=⟨by simp,fun v hv=>by rw[List.mem_singleton.1 hv,hrowsE,List.length_cons];omega⟩;have cSol:=ZQT n (ZBb l f L) [0] (by omega) (by omega) h1 h2 h3 hb0;obtain⟨rows,hrowsN⟩:∃rows,ZBb l f L=rows:=⟨_,rfl⟩;rw[hrowsN] at hrows hsolr hR cSol ⊢;clear h1 h2 h3 hb0 hrw hrl hrowsE hEq hEq2;have hn0:¬ (n:Int)>4096:=by omega
       have hr0:¬ (rows.length:Int)>4096:=by omega
       cases hsol:L05.solP rows [0] n with
       | none =>
        rw[hsol] at hR cSol;rw[show(Option.map (ZBL L) none:Option (List Cx))=none from rfl] at hR;subst hR;((repeat' (first|((first|apply WL.opN|apply WD.opN);exact yF;dsimp only[ZC,z0,z1])|refine WL.nil ?_|refine ZDS fun Kx hK=>?_|(refine hK _ _ ?_;clear hK)|refine WX.region ?_|((first|apply ZF|apply WD.op);(focus (first|exact wN|(apply SYG.yes;(exact wY);((first|(exact ZA4 (OpD.t rfl))|(refine ZV ZCc (OpD.t rfl) (Dat.le_refl _) rfl rfl)|(refine ZV ZJJ (OpD.t rfl) (Dat.le_refl _) rfl rfl)|(apply SY.load;exact ZKx;exact OpD.t rfl)|(apply SY.load;exact ZHn;exact OpD.t rfl)|(apply SY.len;exact OpD.t rfl;exact ZB0;exact ZDj.unt)|(apply SY.call cSol Tryz.call62;exact ArgsD.cons (OpD.tle rfl ZEd) (ArgsD.cons (OpD.t rfl) ArgsD.nil))|((first|apply SY.move|apply SY.assign|apply SY.lss|apply SY.gtr|apply SY.geq|apply SY.neq|apply SY.not) <;> (exact oD))|(apply SY.build1';(exact eD);((try simp only[List.map_cons,List.map_nil]);(repeat (first|exact Zp|(apply Zo;(first|exact OpD.t rfl|exact OpD.i|exact OpD.b|exact OpD.tle rfl (by first|exact ZN|exact ZH (by decide))|exact⟨ZN⟩|exact⟨ZH (by decide)⟩)))));rfl;rfl;(intro _;first|exact ZAf|exact ZAT|exact ZAI|exact shape_B);(exact(by simp)))|(apply ZY;(exact oD);(with_reducible rfl);(exact oD))|(apply SY.extract;(exact oD);rfl)|fail);all_goals infer_instance))));dsimp only[ZC,z0,z1])|((first|refine ZK rfl rfl rfl (fun h=>?_) (fun h=>?_)|refine ZJ rfl rfl rfl (fun h=>?_) (fun h=>?_)|refine ZI rfl rfl rfl (fun h=>?_) (fun h=>?_)|refine ZW rfl rfl rfl (fun h=>?_) (fun h=>?_)|refine ZU rfl rfl rfl (fun h=>?_) (fun h=>?_)|refine ZS rfl rfl rfl (fun h=>?_) (fun h=>?_)) <;> (first|(exfalso;first|omega|contradiction)|(dsimp only[z0,z1])))|(apply ZB7;(exact oD);all_goals (intro h;try exact xD))|(apply ZJn;(exact oD);all_goals (intro h;try exact xD))|refine WX.skip ?_|refine WX.ret ?_|refine ThenD.r ?_));all_goals (first|((repeat clear hK);(repeat clear Kx))))
        all_goals try (exfalso;first|contradiction|omega)
        exact⟨rfl,rfl,⟨_,rfl,ZN⟩,rfl,rfl⟩
       | some x =>
        have hso:=hsolr x hsol;rw[hsol] at hR cSol;rw[show(Option.map (ZBL L) (some x):Option (List Cx))=some (ZBL L x) from rfl] at hR;subst hR;rw[show(some x:Option (List Int)).getD []=x from rfl] at cSol;have hx64:∀i∈x,ZC8 i:=fun i hi=>by
         have:=hso.rng i hi;unfold ZC8;omega
        have hxl:x.length≤n:=ZAv hso.asc hso.rng;(repeat' (first|((first|apply WL.opN|apply WD.opN);exact yF;dsimp only[ZC,z0,z1])|refine WL.nil ?_|refine ZDS fun Kx hK=>?_|(refine hK _ _ ?_;clear hK)|refine WX.region ?_ |  (refine WL.makeMap kvQ ZCT fun bc=>?_;dsimp only[ZC,z0,z1])|((first|apply ZF|apply WD.op);(focus (first|exact wN|(apply SYG.yes;(exact wY);((first|(exact ZA4 (OpD.t rfl))|(refine ZV ZCc (OpD.t rfl) (Dat.le_refl _) rfl rfl)|(refine ZV ZJJ (OpD.t rfl) (Dat.le_refl _) rfl rfl)|(apply SY.load;exact ZKx;exact OpD.t rfl)|(apply SY.load;exact ZHn;exact OpD.t rfl)|(apply SY.len;exact OpD.t rfl;exact ZB0;exact ZDj.unt)|(apply SY.call cSol Tryz.call62;exact ArgsD.cons (OpD.tle rfl ZEd) (ArgsD.cons (OpD.t rfl) ArgsD.nil))|((first|apply SY.move|apply SY.assign|apply SY.lss|apply SY.gtr|apply SY.geq|apply SY.neq|apply SY.not) <;> (exact oD))|(apply SY.len;(exact oD);(exact nD);(exact uD))|(apply SY.build1';(exact eD);((try simp only[List.map_cons,List.map_nil]);(repeat (first|exact Zp|(apply Zo;(first|exact OpD.t rfl|exact OpD.i|exact OpD.b|exact OpD.tle rfl (by first|exact ZN|exact ZH (by decide))|exact⟨ZN⟩|exact⟨ZH (by decide)⟩)))));rfl;rfl;(intro _;first|exact ZAf|exact ZAT|exact ZAI|exact shape_B);(exact(by simp)))|(apply ZY;(exact oD);(with_reducible rfl);(exact oD))|(apply SY.extract;(exact oD);rfl)|fail);all_goals infer_instance))));dsimp only[ZC,z0,z1])|((first|refine ZK rfl rfl rfl (fun h=>?_) (fun h=>?_)|refine ZJ rfl rfl rfl (fun h=>?_) (fun h=>?_)|refine ZI rfl rfl rfl (fun h=>?_) (fun h=>?_)|refine ZW rfl rfl rfl (fun h=>?_) (fun h=>?_)|refine ZU rfl rfl rfl (fun h=>?_) (fun h=>?_)|refine ZS rfl rfl rfl (fun h=>?_) (fun h=>?_)) <;> (first|(exfalso;first|omega|contradiction)|(dsimp only[z0,z1])))|(apply ZB7;(exact oD);all_goals (intro h;try exact xD))|(apply ZJn;(exact oD);all_goals (intro h;try exact xD))|refine WX.skip ?_|refine WX.block ?_))
        all_goals try (exfalso;first|contradiction|omega)
        (refine WX.loopU (X:=Nat) (fun i=>[(123,dI (i:Int)),(22,dA),(124,dA),(125,dA),(126,dA),(127,dA),(128,dA),(129,dA)]) (fun i=>(hM bc kvQ ZCT (ZDI (x.take i))::ZHg k::hp)) (fun i=>x.length-i) (fun i=>i≤x.length) 0 ?start ?frame0 ?objs0 ?round)
        case start=>exact Nat.zero_le _
        case frame0=>exact zFr
        case objs0=>rfl
        case round =>
         rintro i hi;dsimp only[ZL,z0,z1];have hkeys:=ZKn x i hi;have hin:=ZQN x i hi;by_cases hil:i<x.length
         ·have hilI:(i:Int)<(x.length:Int):=by omega
          have hsn:=ZFH hil;((repeat' (first|((first|apply WL.opN|apply WD.opN);exact yF;dsimp only[ZC,z0,z1])|refine WL.nil ?_|refine ZDS fun Kx hK=>?_|(refine hK _ _ ?_;clear hK)|refine WX.region ?_ |  (refine ZBW (v:=x[i]) (u:=true) ZLc ZE2 (OpD.t rfl) (OpD.t rfl) isI OpD.b isB (hx64 _ (List.getElem_mem hil)) (fun p hp=>hx64 _ (hin p hp)) hkeys ?_;dsimp only[ZC,z0,z1])|((first|apply ZF|apply WD.op);(focus (first|exact wN|(apply SYG.yes;(exact wY);((first|((first|apply SY.move|apply SY.assign|apply SY.lss|apply SY.gtr|apply SY.geq|apply SY.neq|apply SY.not) <;> (exact oD))|((first|apply SY.add) <;> first|exact oD|omega)|(apply SY.ix;(exact eD);(exact oD);(exact oD);exact kD)|fail);all_goals infer_instance))));dsimp only[ZC,z0,z1])|(apply ZB7;(exact oD);all_goals (intro h;try exact xD))|refine WX.skip ?_|refine WX.block ?_|refine ThenD.n ?_));all_goals (first|((repeat clear hK);(repeat clear Kx))))
          all_goals try (exfalso;first|contradiction|omega)
          rw[<- hsn];(refine zNx (i+1) ?_;(try dsimp only))
          exact hil
         ·have hilI:¬ (i:Int)<(x.length:Int):=by omega
          obtain rfl:i=x.length:=by omega
          rw[List.take_length] at hkeys hin ⊢;refine ZGi (ZEu 27 Zh (WL.nil ⟨rfl,?_⟩));(repeat' (first|((first|apply WL.opN|apply WD.opN);exact yF;dsimp only[ZC,z0,z1])|refine WL.nil ?_|refine ZDS fun Kx hK=>?_|(refine hK _ _ ?_;clear hK)|(refine Kont.skip ?_;clear hK)|refine WX.region ?_|((first|apply ZF|apply WD.op);(focus (first|exact wN|(apply SYG.yes;(exact wY);((first|(exact ZA4 (OpD.t rfl))|(refine ZV ZCc (OpD.t rfl) (Dat.le_refl _) rfl rfl)|(apply SY.load;exact ZUl;exact OpD.t rfl)|(apply SY.len;exact OpD.t rfl;exact ZB0;exact ZAK.unt)|((first|apply SY.move|apply SY.assign|apply SY.lss|apply SY.gtr|apply SY.geq|apply SY.neq|apply SY.not) <;> (exact oD))|fail);all_goals infer_instance))));dsimp only[ZC,z0,z1])|(apply ZB7;(exact oD);all_goals (intro h;try exact xD))|refine WX.exit ?_|refine WX.block ?_))
          all_goals try (exfalso;first|contradiction|omega)
          (refine WX.loopU (X:=Nat × Value) (fun y=>[(135,dI (y.1:Int)),(24,dI ((ZAm L y.1:Nat):Int)),(23,dX y.2),(26,dA),(27,dA),(29,dA),(136,dA),(137,dA),(138,dA),(139,dA),(140,dA),(141,dA),(142,dA),(143,dA),(144,dA),(145,dA),(146,dA),(147,dA),(148,dA),(149,dA),(150,dA),(151,dA),(152,dA),(153,dA),(154,dA),(155,dA),(156,dA),(157,dA),(158,dA),(159,dA),(160,dA)]) (fun y=>(Zk y.2 27 Zh ((ZBL L x).take y.1)::hM bc kvQ ZCT (ZDI x)::ZHg k::hp)) (fun y=>L.length-y.1) (fun y=>y.1≤L.length) (0,.slice none 0 0) ?start ?frame0 ?objs0 ?round)
          case start=>exact Nat.zero_le _
          case frame0=>exact zFr
          case objs0=>rfl
          case round =>
           rintro⟨q,vo⟩ hq;simp only at hq;dsimp only[ZL,z0,z1];have hcl:=ZHu (x:=x) (L:=L);by_cases hql:q<L.length
           ·have hqI:(q:Int)<(L.length:Int):=by omega
            have hsn:=ZLR (x:=x) hql;have hoffn:=ZIz L (show q+1≤d+1 by omega);rw[hn,ZDY hql] at hoffn;have hlvE:=ZF1 hql;rw[<- hlvE] at hoffn;have hos:ZAm L (q+1)=ZAm L q+L[q].length:=by rw[ZDY hql,<- hlvE]
            have hlv8:∀s∈L[q],s.length≤1000:=fun s hs=>by
             rw[hlvE] at hs;have:=(hL.ok q s hs).2;omega
            obtain⟨lv,hlve⟩:∃lv,L[q]=lv:=⟨_,rfl⟩;rw[hlve] at hsn hoffn hos hlv8;refine ZGi (ZEu 22 ZM (WL.nil ⟨rfl,?_⟩));(repeat' (first|((first|apply WL.opN|apply WD.opN);exact yF;dsimp only[ZC,z0,z1])|refine WL.nil ?_|refine ZDS fun Kx hK=>?_|(refine hK _ _ ?_;clear hK)|refine WX.region ?_|((first|apply ZF|apply WD.op);(focus (first|exact wN|(apply SYG.yes;(exact wY);((first|(refine ZCL (D:=fun z=>dP 1 false (dS (ZA5 S) z)) hlve (SY.ix (R:=ZA5 S) (_gR:=inferInstance) (k:=q) ZAK (OpD.t rfl) (OpD.t rfl) hql))|((first|apply SY.move|apply SY.assign|apply SY.lss|apply SY.gtr|apply SY.geq|apply SY.neq|apply SY.not) <;> (exact oD))|(apply SY.len;(exact oD);(exact nD);(exact uD))|fail);all_goals infer_instance))));dsimp only[ZC,z0,z1])|(apply ZB7;(exact oD);all_goals (intro h;try exact xD))|refine WX.skip ?_|refine WX.block ?_))
            all_goals try (exfalso;first|contradiction|omega)
            (refine WX.loopU (X:=Nat × Value) (fun y=>[(141,dI (y.1:Int)),(24,dI ((ZAm L q+y.1:Nat):Int)),(27,dX y.2),(29,dA),(142,dA),(143,dA),(144,dA),(145,dA),(146,dA),(147,dA),(148,dA),(149,dA),(150,dA),(151,dA),(152,dA),(153,dA),(154,dA),(155,dA)]) (fun y=>(Zk y.2 22 ZM (ZTA x (ZAm L q) (lv.take y.1))::Zk vo 27 Zh ((ZBL L x).take q)::hM bc kvQ ZCT (ZDI x)::ZHg k::hp)) (fun y=>lv.length-y.1) (fun y=>y.1≤lv.length) (0,.slice none 0 0) ?start ?frame0 ?objs0 ?round)
            case start=>exact Nat.zero_le _
            case frame0=>exact zFr
            case objs0=>rfl
            case round =>
             rintro⟨m,ve⟩ hm;simp only at hm;dsimp only[ZL,z0,z1];by_cases hml:m<lv.length
             ·have hmI:(m:Int)<(lv.length:Int):=by omega
              have hsn2:=ZQL (x:=x) (off:=ZAm L q) hml;have hv34:=ZQO ((ZAm L q+m:Nat):Int) x;have h64:ZC8 ((ZAm L q+m:Nat):Int):=by unfold ZC8;omega
              have e1:((ZAm L q+m:Nat):Int)+1=((ZAm L q+(m+1):Nat):Int):=by omega
              have hb1:((ZAm L q+m:Nat):Int)≤100000:=by omega
              have hb0:0≤((ZAm L q+m:Nat):Int):=by omega
              have cCl:=ZIZ lv[m] (hlv8 _ (List.getElem_mem hml));have hsl:(ZTA x (ZAm L q) (lv.take m)).length≤10000:=by
               unfold ZTA;rw[List.length_map];refine Nat.le_trans (List.length_filter_le _ _) ?_;rw[List.length_zipIdx,List.length_take];omega
              generalize ((ZAm L q+m:Nat):Int)=om at *;by_cases hmx:om∈x
              ·rw[if_pos hmx] at hsn2;rw[decide_eq_true hmx] at hv34;((repeat' (first|((first|apply WL.opN|apply WD.opN);exact yF;dsimp only[ZC,z0,z1])|refine WL.nil ?_|refine ZDS fun Kx hK=>?_|(refine hK _ _ ?_;clear hK)|refine WX.region ?_ |  (refine Zl ZB9 (R:=ZM) (_gR:=inferInstance) (OpD.t rfl) (OpD.t rfl) (fun _=>ZAf) (by simp) (by simp) (by decide) (by omega) fun v'=>?_;dsimp only[ZC,z0,z1])|((first|apply ZF|apply WD.op);(focus (first|exact wN|(apply SYG.yes;(exact wY);((first|(exact ZDP (ZCL (D:=fun z=>dX z) hv34 (SY.lookM ZLc ZE2 (OpD.t rfl) (mAt 2 rfl) (OpD.t rfl) isI h64 (fun p hp=>hx64 _ (hin p hp)) hkeys)))|(apply SY.call cCl Tryz.call47;exact ArgsD.cons (OpD.tle rfl ZNV) ArgsD.nil)|((first|apply SY.move|apply SY.assign|apply SY.lss|apply SY.gtr|apply SY.geq|apply SY.neq|apply SY.not) <;> (exact oD))|((first|apply SY.add) <;> first|exact oD|omega)|(apply SY.ix;(exact eD);(exact oD);(exact oD);exact kD)|fail);all_goals infer_instance))));dsimp only[ZC,z0,z1])|(apply ZRQ;(exact oD);(with_reducible rfl))|(apply ZB7;(exact oD);all_goals (intro h;try exact xD))|refine WX.skip ?_|refine WX.block ?_|refine ThenD.n ?_));all_goals (first|((repeat clear hK);(repeat clear Kx))))
               all_goals try (exfalso;first|contradiction|omega)
               rw[e1,<- hsn2];(refine zNx (m+1,v') ?_;(try dsimp only))
               exact hml
              ·rw[if_neg hmx,List.append_nil] at hsn2;rw[decide_eq_false hmx] at hv34;((repeat' (first|((first|apply WL.opN|apply WD.opN);exact yF;dsimp only[ZC,z0,z1])|refine WL.nil ?_|refine ZDS fun Kx hK=>?_|(refine hK _ _ ?_;clear hK)|refine WX.region ?_|((first|apply ZF|apply WD.op);(focus (first|exact wN|(apply SYG.yes;(exact wY);((first|(exact ZDP (ZCL (D:=fun z=>dX z) hv34 (SY.lookM ZLc ZE2 (OpD.t rfl) (mAt 2 rfl) (OpD.t rfl) isI h64 (fun p hp=>hx64 _ (hin p hp)) hkeys)))|((first|apply SY.move|apply SY.assign|apply SY.lss|apply SY.gtr|apply SY.geq|apply SY.neq|apply SY.not) <;> (exact oD))|((first|apply SY.add) <;> first|exact oD|omega)|(apply SY.ix;(exact eD);(exact oD);(exact oD);exact kD)|fail);all_goals infer_instance))));dsimp only[ZC,z0,z1])|(apply ZRP;(exact oD);(with_reducible rfl))|(apply ZB7;(exact oD);all_goals (intro h;try exact xD))|refine WX.skip ?_|refine WX.block ?_|refine ThenD.n ?_));all_goals (first|((repeat clear hK);(repeat clear Kx))))
               all_goals try (exfalso;first|contradiction|omega)
               rw[e1,<- hsn2];(refine zNx (m+1,ve) ?_;(try dsimp only))
               exact hml
             ·have hmI:¬ (m:Int)<(lv.length:Int):=by omega
              obtain rfl:m=lv.length:=by omega
              rw[List.take_length];refine ZGi (ZDR (s:=27) rfl (WL.nil ⟨rfl,?_⟩));dsimp only[z0,z1];have hol:((ZBL L x).take q).length≤10:=by rw[List.length_take];omega
              ((repeat' (first|((first|apply WL.opN|apply WD.opN);exact yF;dsimp only[ZC,z0,z1])|refine WL.nil ?_|refine ZDS fun Kx hK=>?_|(refine hK _ _ ?_;clear hK)|(refine Kont.skip ?_;clear hK)|refine WX.region ?_ |  (refine Zl ZAK (R:=Zh) (_gR:=inferInstance) (OpD.t rfl) (OpD.t rfl) (fun _=>ZAI) (by simp) (by simp) (by decide) (by omega) fun v'=>?_;dsimp only[ZC,z0,z1])|((first|apply ZF|apply WD.op);(focus (first|exact wN|(apply SYG.yes;(exact wY);((first|((first|apply SY.move|apply SY.assign|apply SY.lss|apply SY.gtr|apply SY.geq|apply SY.neq|apply SY.not) <;> (exact oD))|((first|apply SY.add) <;> first|exact oD|omega)|fail);all_goals infer_instance))));dsimp only[ZC,z0,z1])|(apply ZB7;(exact oD);all_goals (intro h;try exact xD))|refine WX.exit ?_|refine ThenD.n ?_));all_goals (first|((repeat clear hK);(repeat clear Kx))))
              all_goals try (exfalso;first|contradiction|omega)
              rw[<- hsn,<- hos];(refine zNx (q+1,v') ?_;(try dsimp only))
              exact hql
           ·have hqI:¬ (q:Int)<(L.length:Int):=by omega
            obtain rfl:q=L.length:=by omega
            rw[<- hcl,List.take_length];refine ZGi (ZDR (s:=23) rfl (WL.drop (WL.nil ⟨rfl,?_⟩)));dsimp only[z0,z1];rw[hcl];((repeat' (first|((first|apply WL.opN|apply WD.opN);exact yF;dsimp only[ZC,z0,z1])|refine WL.nil ?_|refine ZDS fun Kx hK=>?_|(refine hK _ _ ?_;clear hK)|(refine Kont.skip ?_;clear hK)|refine WX.region ?_|((first|apply ZF|apply WD.op);(focus (first|exact wN|(apply SYG.yes;(exact wY);((first|((first|apply SY.move|apply SY.assign|apply SY.lss|apply SY.gtr|apply SY.geq|apply SY.neq|apply SY.not) <;> (exact oD))|fail);all_goals infer_instance))));dsimp only[ZC,z0,z1])|(apply ZB7;(exact oD);all_goals (intro h;try exact xD))|refine WX.ret ?_|refine WX.exit ?_));all_goals (first|((repeat clear hK);(repeat clear Kx))))
            all_goals try (exfalso;first|contradiction|omega)
            exact⟨rfl,rfl,⟨_,rfl,Dat.le_refl _⟩,rfl,rfl⟩
      ·rintro e f p ⟨rfl,rfl,⟨d6,h6,h6l⟩,h7,h8⟩;refine WK.of fun a w ha hh2 hf2=>?_;show LeavesInM _ _ _ _ _ _ _ _ _;rw[ha];refine ZPa (by simp) [k] w hh2 fun w' hh' hd'=>?_;exact ZNC h6 h6l h7 h8 hf2 hh' hd'⟩
theorem ZGH {S:Prop} (l:Cx) (vs:List Vx) (A:List Int) (d:Nat) (h:ZCE l vs A=0) (hd:d<8) (hF:ZF8 l≤400) (hS:S->ZEs l) (hne:l≠[]\/S):Fn Tryz.prog 23 [dS (ZSi S) l,dS Lab (vs,A),dI (d:Int)] (dT [dS ZFw ((ZFU l (Zd vs A) (d+1)).getD []),dB (ZFU l (Zd vs A) (d+1)).isSome,dI 0]) :=
 ZLy (ZRb l vs A d h hd hF hS hne) fun d' hp2 ⟨h1,h2⟩=>by subst h1 h2;exact FinD.le (Dat.le_refl _)
end
end Go.Proofs.YtofkoleingbbpaaGreatDoor
