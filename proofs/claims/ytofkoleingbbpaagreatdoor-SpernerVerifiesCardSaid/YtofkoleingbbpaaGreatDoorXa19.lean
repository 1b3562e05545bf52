/- Part 19: walks by contracts, and plain laws. -/
import Derived.Test.YtofkoleingbbpaaGreatDoorXa17
set_option linter.unusedVariables false
set_option linter.unusedSimpArgs false
set_option linter.unusedSectionVars false
set_option maxRecDepth 100000
set_option maxHeartbeats 64000000
namespace Go.Proofs.YtofkoleingbbpaaGreatDoor
section
open Go.RowKit
structure ArrT (P:Program) (T V S:TypeId):Prop where
 ix:∀b (i:Nat) w,i<8->(Instr.indexAt T (.pointer (some ⟨b,0,none⟩)) (.int .i64 (i:Int))).run P w = .ok (.pointer (some ⟨b,i*2,none⟩)) w
 sl:∀b w,(Instr.sliceAt T (.pointer (some ⟨b,0,none⟩)) none none none).run P w = .ok (.slice (some ⟨b,0,none⟩) 8 8) w
 size:(P.info? T).map (·.size)=some 16
 agg:∀w,(isAgg T).run P w = .ok true w
 und:P.underlying S=some (.slice V)
 el:(P.info? V).map (·.size)=some 2
theorem arrT:ArrT Tryz.prog 202 77 22:=by
 constructor
 ·intro b i w h;have h1:(0:Int)≤(i:Int)/\(i:Int)<8:=by omega
  go_simp
 ·intro b w;go_simp
 ·kernel_rfl
 ·exact Tryz.isAgg202
 ·exact Tryz.underlying22
 ·kernel_rfl
abbrev hA (b:Nat) (T:TypeId) (cs:List Value):HObj:=ZA2 b (.cells cs.toArray T)
theorem ZMv {P0:Nat->Prop} {B:Nat} {w0 w:World} {o:HObj} {b:Nat} {c:Obj} {hp:List HObj} (h:Hp P0 B w0 (o::hp) w) (hc:w.heap[b]?=some c) (hb:o.blk=some b:=by rfl):Hp P0 B w0 (ZA2 b c::hp) w:=by
 have hI:∀k,Imm P0 B (o::hp) k->Imm P0 B (ZA2 b c::hp) k:=fun k hk=>⟨hk.1,fun q hq=>by
  rcases List.mem_cons.1 hq with rfl|hq
  ·intro e;exact hk.2 o (by simp) (hb.trans e)
  ·exact hk.2 q (List.mem_cons_of_mem _ hq)⟩
 refine⟨h.base,h.below,fun q hq k hk=>?_,fun q hq=>?_,?_⟩
 ·rcases List.mem_cons.1 hq with rfl|hq
  ·exact h.own o (by simp) k (hb.trans hk)
  ·exact h.own q (List.mem_cons_of_mem _ hq) k hk
 ·rcases List.mem_cons.1 hq with rfl|hq
  ·exact hc
  ·exact q.weak (h.ok q (List.mem_cons_of_mem _ hq)) hI
 ·have:=List.pairwise_cons.1 h.apart;exact List.pairwise_cons.2 ⟨fun q hq k hk=>this.1 q hq k (hb.trans hk),this.2⟩
section
variable {P:Program} {ops:Array Oper} {hp:List HObj} {o:Oper} {fr:List Dat} {d d2:Dat} {Q:Z5} {rest:List Oper}
variable {dst:Option Tmp} {ty:TypeId} {ps:String} {af:Array Edge} {g:Option (Nat × Bool)} {T T2 V S:TypeId} {b off:Nat} {cs:List Value}
theorem ZOT {n:Nat} (hz:TyZ P T (.agg cs.toArray)) (hs:(dX (.agg cs.toArray)).Shape n true) (h:∀b,WL P ops Q rest (ZC fr dst (dX (.pointer (some ⟨b,0,none⟩)))) (hA b T cs::hp)) :
  WL P ops Q (⟨dst,.alloc T,ty,ps,af,none⟩::rest) fr hp :=
 WL.alloc hz hs fun b=>WL.of fun P0 B w0 w a hh hf=>by
  obtain⟨cs',u,c1,c2,c0,c3,c4,c5⟩:=hh.ok (Zm b T n true (dX (.agg cs.toArray))) (by simp);have hu:u = .agg cs.toArray:=c5;simp only[if_true] at c4;rw[hu] at c4;have hcs:cs=cs':=by injection c4 with c4;exact List.toArray_inj c4
  subst hcs;exact(h b).on (ZMv hh c1) (hf.mono fun d _ hd=>d.weak hd fun k hk=>⟨hk.1,fun q hq=>by
   rcases List.mem_cons.1 hq with rfl|hq
   ·exact hk.2 (Zm b T n true (dX (.agg cs.toArray))) (by simp)
   ·exact hk.2 q (List.mem_cons_of_mem _ hq)⟩)
theorem ZUp {x i:Operand} {k:Nat} {j:Int} (A:ArrT P T V S) (hx:OpD fr x (dX (.pointer (some ⟨b,0,none⟩)))) (hi:OpD fr i (dI j)) (hj:j=(k:Int)) (hk:k<8) :
  SY P ops hp ⟨dst,.indexAddr T x i,ty,ps,af,g⟩ fr (dX (.pointer (some ⟨b,k*2,none⟩))):=SY.val fun {I w a} ho=>by
 have h1:a.eval x=_:=hx.get (by simp[Op.operands]) ho;have h2:a.eval i=_:=hi.get (by simp[Op.operands]) ho;refine⟨_,?_,rfl⟩;unfold execOp;simp only[h1,h2,hj,Sem.run_bind,A.ix b k w hk,Result.andThen_ok,Sem.run_pure]
theorem ZQ2 {x:Operand} (W:VxT P V) (hx:OpD fr x (dX (.pointer (some ⟨b,off,none⟩)))) :
  SY P ops hp ⟨dst,.fieldAddr V x 0,ty,ps,af,g⟩ fr (dX (.pointer (some ⟨b,off,none⟩))):=SY.val fun {I w a} ho=>by
 have h1:a.eval x=_:=hx.get (by simp[Op.operands]) ho;refine⟨_,?_,rfl⟩;unfold execOp;simp only[h1,Sem.run_bind,W.fld0,Result.andThen_ok,Sem.run_pure,Nat.add_zero]
theorem ZOK {x:Operand} (A:ArrT P T V S) (hx:OpD fr x (dX (.pointer (some ⟨b,0,none⟩)))) :
  SY P ops hp ⟨dst,.slice T x none none none,ty,ps,af,g⟩ fr (dX (.slice (some ⟨b,0,none⟩) 8 8)):=SY.val fun {I w a} ho=>by
 have h1:a.eval x=_:=hx.get (by simp[Op.operands]) ho;refine⟨_,?_,rfl⟩;unfold execOp;simp only[h1,Option.map_none,Sem.run_bind,A.sl,Result.andThen_ok,Sem.run_pure]
theorem ZQ5 {x:Operand} (A:ArrT P T V S) (hx:OpD fr x (dX (.pointer (some ⟨b,0,none⟩)))) (hm:hA b T2 cs∈hp) (hl:cs.length=16) (hone:∀c∈cs,c.oneCell'=true) :
  SY P ops hp ⟨dst,.load T x,ty,ps,af,g⟩ fr (dX (.agg cs.toArray)):=ZAG fun {P0 B w0 w a} hh ho=>by
 have h1:a.eval x=_:=hx.get (by simp[Op.operands]) ho;have hb:w.heap[b]?=some (.cells cs.toArray T2):=hh.ok _ hm;have hc:Cells (fun _=>True) w b 0 16 true (.agg cs.toArray):=by
  refine⟨trivial,cs,hl,by decide,hone,fun j c hc=>?_,rfl⟩;simp[World.cell?,hb,hc]
 refine⟨_,w,?_,Ext.refl _,rfl⟩;unfold execOp;simp only[h1,Sem.run_bind,ZA8 ⟨A.size,A.agg⟩ hc,Result.andThen_ok,Sem.run_pure]
theorem ZOf {p:Tmp} {x:Operand} {u:Value} (T':TyI P T 1 false) (hp0:OpD fr (.tmp p) (dX (.pointer (some ⟨b,off,none⟩)))) (hx:OpD fr x d) (hd:IsV d u) (hu:u.oneCell'=true) (ho:off<cs.length)
  (h:WL P ops Q rest (ZC fr dst (dX undef)) (hA b T2 (cs.set off u)::hp)) :
  WL P ops Q (⟨dst,.store T (.tmp p) x,ty,ps,af,none⟩::rest) fr (hA b T2 cs::hp):=by
 refine WL.of fun P0 B w0 w a hh hf=>?_;have h1:a.eval (.tmp p)=_:=hp0.ev hf;have h2:a.eval x=u:=hd.is _ _ _ (hx.ev hf);have hb:w.heap[b]?=some (.cells cs.toArray T2):=hh.ok (hA b T2 cs) (by simp);have hset:=setCell_eq_setRow w b off cs.toArray T2 (0,0) u hb;have hc:w.cell? ⟨b,off,none⟩=some cs[off]:=by simp[World.cell?,hb,ho]
 have hfz:w.frozen? ⟨b,off,none⟩=false:=by simp[World.frozen?,hb]
 have hst:(store ((⟨b,off,none⟩:Addr).add 0) u).run P w = .ok () (w.setCell ⟨b,off,none⟩ u):=by
  rw[show((⟨b,off,none⟩:Addr).add 0)=⟨b,off,none⟩ from rfl,run_store P w _ u _ hu,hc];simp[hfz]
 have hsz:(sizeOf T).run P w = .ok 1 w:=by
  have h5:=T'.size;cases hq:P.info? T with
  | none=>rw[hq] at h5;cases h5
  | some i =>
   rw[hq] at h5;have:i.size=1:=by simpa using h5
   rw[<- this];rw[run_sizeOf w hq];simp[Program.cellsOf,hq]
 have hw:w.setCell ⟨b,off,none⟩ u=w.setRow b (cs.set off u).toArray:=by rw[hset];simp
 have hrun:(execOp a.eval ⟨dst,.store T (.tmp p) x,ty,ps,af,none⟩).run P w = .ok .skip (w.setRow b (cs.set off u).toArray):=by
  rw[<- hw];unfold execOp;simp only[h1,h2,Instr.storeAt,Instr.sureAddr,storeVar,Sem.run_bind,hsz,Result.andThen_ok,Sem.run_pure];simp[ZC5 hu,storeCells,hst]
 refine wpList_plain rfl fun K hK=>?_;unfold Oper.wp;rw[hrun];have hgr:w.grownBy (w.setRow b (cs.set off u).toArray) (hA b T2 cs).blk:=ZAM;have hok:(hA b T2 (cs.set off u)).ok (fun k=>Imm P0 B (hA b T2 cs::hp) k/\k<w.heap.size) (w.setRow b (cs.set off u).toArray):=setRow_heap w b _ _ _ _ hb;exact hK _ _ (h.on (hh.write hgr (.inl rfl) hok) (Fr.put (hf.mono fun _ _ hd=>Ze (o':=hA b T2 (cs.set off u)) hgr (.inl rfl) hd) (d:=dX undef) rfl))
theorem ZNB {I:Nat->Prop} {w:World} {ad:Addr} {n cap:Nat} {xs:List Vx} (h:ArrK 2 RV I w (.slice (some ad) n cap) xs):∀j u,(Zt xs)[j]?=some u->w.cell? (ad.add j)=some u:=by
 obtain⟨ad',cap',hv,c1,c2,c0,c3⟩:=h;cases hv;intro j u hu;have hlt:=(List.getElem?_eq_some_iff.1 hu).1;rw[Z1] at hlt;have hk:j / 2<xs.length:=by omega
 obtain⟨cs,b,off,r1,r2,r3,r4,r5,r6⟩:=c3 (j / 2) hk;cases r4;have hcs:cs=[.int .i64 xs[j / 2].1,.int .i64 xs[j / 2].2]:=by
  have h1:Value.agg cs.toArray = .agg #[.int .i64 xs[j / 2].1,.int .i64 xs[j / 2].2]:=r1;injection h1 with h1;exact List.toArray_inj h1
 subst hcs;have hg:=ZG4 hk;rw[Addr.add_lit];rcases Nat.mod_two_eq_zero_or_one j with hj|hj
 ·have e:j=j / 2*2:=by omega
  rw[e] at hu;rw[hg.1] at hu;cases hu;have:=r6 0 _ rfl;rw[show off+j=off+j / 2*2+0 by omega];exact this
 ·have e:j=j / 2*2+1:=by omega
  rw[e] at hu;rw[hg.2] at hu;cases hu;have:=r6 1 _ rfl;rw[show off+j=off+j / 2*2+1 by omega];exact this
theorem WL.copyA {x y:Operand} {s:List Vx} {T':TypeId} (A:ArrT P T V S) (hx:OpD fr x (dX (.slice (some ⟨b,0,none⟩) 8 8))) (hy:OpD fr y (dS ZM s)) (hs:s.length≤8) (hl:cs.length=16)
  (h:WL P ops Q rest (ZC fr dst (dI (s.length:Int))) (hA b T2 (Zt s++cs.drop (s.length*2))::hp)) :
  WL P ops Q (⟨dst,.call { callee:=.builtin .copy,args:=#[x,y],argTypes:=#[S,T'] },ty,ps,af,none⟩::rest) fr (hA b T2 cs::hp):=by
 refine WL.of fun P0 B w0 w a hh hf=>?_;have h1:a.eval x=_:=hx.ev hf;have h2:ArrK 2 RV (Imm P0 B (hA b T2 cs::hp)) w (a.eval y) s:=hy.ev hf;have hb:w.heap[b]?=some (.cells cs.toArray T2):=hh.ok (hA b T2 cs) (by simp);have hsz:(sizeOf V).run P w = .ok 2 w:=by
  have h5:=A.el;cases hq:P.info? V with
  | none=>rw[hq] at h5;cases h5
  | some i =>
   rw[hq] at h5;have:i.size=2:=by simpa using h5
   rw[<- this];rw[run_sizeOf w hq];simp[Program.cellsOf,hq]
 have hst:=run_storeCells_at P b 0 T2 (Zt s) 0 cs.toArray w hb (by rw[Z1];simp[hl];omega) (ZEy s);simp only[Nat.zero_add,List.take_zero,List.nil_append] at hst;have hmin:Nat.min s.length 8=s.length:=Nat.min_eq_left hs;have hrun:(execOp a.eval ⟨dst,.call { callee:=.builtin .copy,args:=#[x,y],argTypes:=#[S,T'] },ty,ps,af,none⟩).run P w = .ok (.value (.int .i64 s.length)) (w.setRow b (Zt s++cs.drop (s.length*2)).toArray):=by
  have h3:=h2;obtain⟨ad,cap,hv,c1,c2,c0,c3⟩:=h3;rw[hv] at h2;have hcopy:(Builtin.copy_ #[S,T'] ty #[.slice (some ⟨b,0,none⟩) 8 8,.slice ad s.length cap]).run P w = .ok (.int .i64 s.length) (w.setRow b (Zt s++cs.drop (s.length*2)).toArray):=by
   cases ad with
   | none =>
    have hy0:s=[]:=by
     cases s with
     | nil=>rfl
     | cons y ys=>obtain⟨_,_,_,_,_,_,hc,_⟩:=c3 0 (by simp);cases hc
    subst hy0;simp[ZCM,storeCells] at hst;simp[Builtin.copy_,run_underlying A.und,Builtin.lenOf,Builtin.firstCells,hsz,storeCells,ZCM,goInt];exact hst
   | some ad =>
    have hld:=run_loadCells_list (P:=P) w ad (Zt s) (ZNB h2);rw[Z1] at hld;rw[Z1] at hst;simp[Builtin.copy_,run_underlying A.und,Builtin.lenOf,Builtin.firstCells,hsz,hmin,hld,hst,goInt]
  unfold execOp;simp[resolve,invoke,builtin,h1,hv,hcopy,Result.andThen]
 refine Zr rfl hrun ?_;have hgr:w.grownBy (w.setRow b (Zt s++cs.drop (s.length*2)).toArray) (hA b T2 cs).blk:=ZAM;have hok:(hA b T2 (Zt s++cs.drop (s.length*2))).ok (fun k=>Imm P0 B (hA b T2 cs::hp) k/\k<w.heap.size) (w.setRow b (Zt s++cs.drop (s.length*2)).toArray):=setRow_heap w b _ _ _ _ hb;exact h.on (hh.write hgr (.inl rfl) hok) (Fr.put (hf.mono fun _ _ hd=>Ze (o':=hA b T2 (Zt s++cs.drop (s.length*2))) hgr (.inl rfl) hd) rfl)
end
end
section
open Go.RowKit

theorem tyK:TyI Tryz.prog 202 16 true:=⟨by kernel_rfl,Tryz.isAgg202⟩
theorem tzK:TyZ Tryz.prog 202 (.agg (Zt (List.replicate 8 (0,0))).toArray):=⟨by kernel_rfl⟩
theorem ZSN {cs:List Value} (h:cs.length=16) (h1:∀c∈cs,c.oneCell'=true):(dX (.agg cs.toArray)).Shape 16 true:=fun _ _ _ hu=>by
 cases (hu:_=_);exact⟨cs,h,by decide,h1,rfl,rfl⟩
theorem ZLk {l:List Vx} (h:l.length=8):(dX (.agg (Zt l).toArray)).Shape 16 true:=ZSN (by rw[Z1,h]) (ZEy l)
def ZTz (k:Nat):List Vx:=List.replicate k (-1,0)++List.replicate (8-k) (0,0)
theorem ZPg {k:Nat} (h:k<8):(Zt (ZTz k)).set (k*2) (.int .i64 (-1))=Zt (ZTz (k+1)):=by
 have:k=0\/k=1\/k=2\/k=3\/k=4\/k=5\/k=6\/k=7:=by omega
 rcases this with rfl|rfl|rfl|rfl|rfl|rfl|rfl|rfl <;> rfl
theorem ZH0:∀(l:List Vx) (k:Nat),(Zt l).drop (k*2)=Zt (l.drop k)
 | l,0=>by simp
 | [],k+1=>by simp[ZCM]
 | x::l,k+1=>by
  rw[ZA1,show(k+1)*2=k*2+2 by omega];simpa using ZH0 l k
theorem ZTw (s:List Vx) (hs:s.length≤8):Fn Tryz.prog 153 [dS ZM s] (dX (kvK s)):=by
 refine ZHo tyK Tryz.func153 rfl rfl ?_;simp only[Tryz.ntmps153,List.length_cons,List.length_nil,Nat.reduceAdd,Nat.reduceSub,List.replicate_succ,List.replicate_zero,List.cons_append,List.nil_append];refine ZA fun Kx hK=>?_;refine WC.region ?_;refine WL.alloc tzK (ZLk (by simp)) fun b2=>?_;dsimp only[ZC,z0,z1];(repeat' (first|(apply WL.opN;exact yF;dsimp only[ZC,z0,z1])|refine WL.nil ?_|refine ZA fun Kx hK=>?_|(refine hK _ _ ?_;clear hK)|refine WC.region ?_ |  (refine ZOT (n:=16) tzK (ZLk (by simp)) fun b3=>?_;dsimp only[ZC,z0,z1])|refine WC.block ?_))
 (refine WC.loopU (X:=Nat) (fun k=>[(5,dI (k:Int)),(4,dA),(6,dA),(7,dA),(8,dA),(9,dA),(10,dA),(11,dA)]) (fun k=>[hA b3 202 (Zt (ZTz k)),Zm b2 202 16 true (dX (.agg (Zt (List.replicate 8 (0,0))).toArray))]) (fun k=>8-k) (fun k=>k≤8) 0 ?start ?frame0 ?objs0 ?round)
 case start=>exact Nat.zero_le _
 case frame0=>exact zFr
 case objs0=>rfl
 case round =>
  rintro k h1;dsimp only[ZL,z0,z1];((repeat' (first|(apply WL.opN;exact yF;dsimp only[ZC,z0,z1])|refine WL.nil ?_|refine ZA fun Kx hK=>?_|(refine hK _ _ ?_;clear hK)|(refine Kont.skip ?_;clear hK)|refine WC.region ?_ |  (refine ZOf (u:=.int .i64 (-1)) tyI (OpD.t rfl) OpD.i isI rfl (by rw[Z1];simp[ZTz];omega) ?_;rw[ZPg (by omega)];dsimp only[ZC]) |  (refine WL.copyA arrT (OpD.t rfl) (OpD.t rfl) hs (by rw[Z1];simp[ZTz];omega) ?_;dsimp only[ZC,z0,z1])|(apply WL.opN;(focus ((first|(apply ZUp arrT;exact OpD.t rfl;exact OpD.t rfl;rfl;omega)|(apply ZQ2 vxT;exact OpD.t rfl)|(apply ZOK arrT;exact OpD.t rfl)|exact ZBF|exact ZBg|fail);all_goals infer_instance));dsimp only[ZC,z0,z1])|(apply ZB;(exact oD);all_goals (intro h;try exact xD))|refine WC.skip ?_|refine WC.exit ?_|refine WC.block ?_|refine ThenD.n ?_));all_goals (first|refine WL.id ?_|((repeat clear hK);(repeat clear Kx))))
  ·(refine zNx (k+1) ?_;(try dsimp only))
   omega
  ·have h8:k=8:=by omega
   subst h8;have e:Zt s++(Zt (ZTz 8)).drop (s.length*2)=Zt (ZLf s):=by
    rw[ZH0,<- ZBZ];unfold ZLf ZTz;rw[show(8:Nat)-8=0 from rfl,List.replicate_zero,List.append_nil,List.drop_replicate]
   rw[e];refine WL.op rfl (ZQ5 arrT (OpD.t rfl) (.head _) (by rw[Z1,ZE7 hs]) (ZEy _)) ?_;dsimp only[ZC,z0,z1];refine WL.perm (List.Perm.swap _ _ _) ?_;refine ZP tyK rfl (OpD.t rfl) (ZLk (ZE7 hs)) ?_;dsimp only[ZC,z0,z1];refine WL.nil (hK _ _ ?_);exact WC.ret ⟨trivial,_,rfl,ZTI rfl⟩
end
section
open Go.RowKit

theorem ZTg (b cap:Nat) (xs:List Vx) (hl:xs.length≤1000):CallC Tryz.prog 47 ([dX (ZS8 b cap xs)]++([]:List Value).map dX) [hV b xs.length cap 77 xs] fun d' hp2=>∃v,d'=dX v/\hp2=[Z0 v 77 2 RV xs,hV b xs.length cap 77 xs]:=by
 (refine ZAh Tryz.func47 rfl rfl (fun hp=>?_);simp only[Tryz.ntmps47,List.length_cons,List.length_nil,List.length_append,List.length_map,Nat.reduceAdd,Nat.reduceSub,List.replicate_succ,List.replicate_zero,List.cons_append,List.nil_append,List.map_cons,List.map_nil,List.append_assoc])
 ((repeat' (first|(apply WL.opN;exact yF;dsimp only[ZC,z0,z1])|refine WL.nil ?_|refine ZA fun Kx hK=>?_|(refine hK _ _ ?_;clear hK)|refine WC.region ?_ |  (apply ZC0 elV RV (by decide);(intro _;dsimp only[ZC,z0,z1]);all_goals (try infer_instance)) |  (apply ZRF elV;exact OpD.t rfl;exact OpD.t rfl;decide;(simp;omega);(intro _;dsimp only[ZC,z0,z1]))|(apply WL.opN;(focus ((first|(apply ZN6;exact OpD.t rfl;exact ZPJ)|fail);all_goals infer_instance));dsimp only[ZC,z0,z1])|(apply ZQ;(exact oD);(with_reducible rfl))|refine WC.skip ?_|refine WC.ret ?_));all_goals (first|((repeat clear hK);(repeat clear Kx))))
 exact⟨trivial,_,[_,_],rfl,rfl,_,rfl,by rw[List.nil_append]⟩

theorem tyFn:TyI Tryz.prog 195 1 false:=⟨by kernel_rfl,Tryz.isAgg195⟩
theorem tyFy:TyI Tryz.prog 48 1 false:=⟨by kernel_rfl,Tryz.isAgg48⟩
theorem tzFn:TyZ Tryz.prog 195 .nilFunc:=⟨by kernel_rfl⟩
abbrev ZPU (v2 v3 v4:Value) (bf:Nat):Value:=.func (.func 143) #[] [v2,v3,v4,.pointer (some ⟨bf,0,none⟩)].toArray
abbrev fromO (k:Nat) (s:List Vx) (l b cap bf:Nat) (v2 v3 v4:Value) (pre:List Vx):List HObj :=
 [hV b pre.length cap 77 pre,Zm bf 195 1 false (dX (ZPU v2 v3 v4 bf)),ZAq v2 (dP 1 false (dI k)),ZAq v3 (dP 1 false (dX (.func (.yield l) #[] #[]))),ZAq v4 (dP 1 false (dS ZM s))]
theorem ZVP {a b c d e:HObj} {js hp:List HObj}:(a::b::c::d::e::(js++hp)).Perm (js++a::b::c::d::e::hp):=by
 have:(([a,b,c,d,e]++js)++hp).Perm ((js++[a,b,c,d,e])++hp):=List.Perm.append_right _ List.perm_append_comm;simpa using this
set_option maxRecDepth 100000 in
theorem ZVA (k:Nat) (s:List Vx) (hs:s.length≤100) (hk:k≤100) (l N b cap:Nat) (hcap:k≤cap) (J:List (List Vx)->List HObj->Prop) (hY:YStep Tryz.prog l (fun x=>dS ZM x) J N) (v2 v3 v4:Value) (bf:Nat) :
  ∀(m i0:Nat) (pre:List Vx) (done:List (List Vx)) (js:List HObj),s.length-i0=m->i0≤s.length->pre.length≤k->J done js->done.length+(ZX (k-pre.length) (s.drop i0)).length≤N ->
  CallC Tryz.prog 143 ([dI (i0:Int),dX (ZS8 b cap pre)]++[v2,v3,v4,.pointer (some ⟨bf,0,none⟩)].map dX) (fromO k s l b cap bf v2 v3 v4 pre++js)
   (fun d hp2=>d=dB true/\∃js',J (done++(ZX (k-pre.length) (s.drop i0)).map (pre ++ ·)) js'/\hp2=fromO k s l b cap bf v2 v3 v4 pre++js'):=by
 intro m;induction m using Nat.strongRecOn with
 | _ m ih =>
 intro i0 pre done js hm hi0 hpk hj hN;(refine ZAh Tryz.func143 rfl rfl (fun hp=>?_);simp only[Tryz.ntmps143,List.length_cons,List.length_nil,List.length_append,List.length_map,Nat.reduceAdd,Nat.reduceSub,List.replicate_succ,List.replicate_zero,List.cons_append,List.nil_append,List.map_cons,List.map_nil,List.append_assoc])
 refine ZHq 2 rfl (.tail _ (.tail _ (.head _))) ?_;refine ZHq 3 rfl (.tail _ (.tail _ (.tail _ (.head _)))) ?_;refine ZHq 4 rfl (.tail _ (.tail _ (.tail _ (.tail _ (.head _))))) ?_;dsimp only[z0,z1];(repeat' (first |  (refine I.WC.drawW (β:=Value) 2 (fun v=>Z0 v 77 2 RV pre::hV b pre.length cap 77 pre::Zm bf 195 1 false (dX (ZPU v2 v3 v4 bf))::ZAq v2 (dP 1 false (dI k))::ZAq v3 (dP 1 false (dX (.func (.yield l) #[] #[])))::ZAq v4 (dP 1 false (dS ZM s))::(js++hp)) (fun v=>dX v) _ rfl (by kernel_rfl) (by kernel_rfl) ?_;simp only[List.take_succ_cons,List.take_zero,List.drop_succ_cons,List.drop_zero])|((first|apply WL.opN|apply WD.opN);exact yF;dsimp only[ZC,z0,z1])|refine WL.nil ?_|refine ZA fun Kx hK=>?_|(refine hK _ _ ?_;clear hK)|refine WC.region ?_|((first|apply WL.opN|apply WD.opN);(focus ((first|exact ZHe|exact ZA3|fail);all_goals infer_instance));dsimp only[ZC,z0,z1])|(apply ZB;(exact oD);all_goals (intro h;try exact xD))|refine WC.skip ?_|refine WC.block ?_))
 ·have hpk':pre.length=k:=by omega
  have h0:k-pre.length=0:=by omega
  rw[h0] at hN ⊢;have hsub:ZX 0 (s.drop i0)=[[]]:=by unfold ZX;rfl
  rw[hsub] at hN ⊢;(repeat' (first|refine WDs.nil ?_|(apply WDs.op;(focus (intro c;apply SYG.yes;(exact Za rfl);((first|(apply SY.load;exact tyFy;exact OpD.t rfl)|exact ZCX|fail);all_goals infer_instance)));dsimp only[ZC,z0,z1])))
  refine⟨SW.callC (hp1:=[_]) (H:=fun v=>[Z0 v 77 2 RV pre,hV b pre.length cap 77 pre]) (caps:=[]) (ZTg b cap pre (by omega)) Tryz.call47 OpD.f (by(exact aD)) (fun d hp2 ⟨v,h1,h2⟩=>⟨v,h1,h2⟩),fun v=>?_⟩;dsimp only[ZC,z0,z1];refine I.ZIP (s:=16) rfl ?_;dsimp only[ZC,z0,z1];refine I.WL.perm ZVP (I.WL.yield (pre:=done) (y:=pre) hY (by simp at hN;omega) hj (OpD.t rfl) (OpD.t rfl) fun js' hj'=>I.WL.perm ZVP.symm ?_);dsimp only[ZC,z0,z1];refine I.WL.op rfl (SY.assign (OpD.t rfl)) ?_;dsimp only[ZC,z0,z1];refine I.WL.nil ?_;((repeat' (first|(refine hK _ _ ?_;clear hK)|refine WC.ret ?_|refine ThenD.r ?_));all_goals (first|((repeat clear hK);(repeat clear Kx))))
  exact⟨trivial,_,_::_::_::_::_::js',rfl,rfl,rfl,js',by rw[h0,hsub];simpa using hj',rfl⟩
 ·have hlt:pre.length<k:=by omega
  obtain⟨m1,hm1⟩:∃m1,k-pre.length=m1+1:=⟨k-pre.length-1,by omega⟩;rw[hm1] at hN ⊢;(refine WC.loopU (X:=Nat × List (List Vx) × List HObj) (fun x=>[(9,dI (x.1:Int)),(8,dA),(19,dA),(20,dA),(21,dA),(22,dA),(23,dA),(24,dA),(25,dA),(26,dA),(27,dA),(28,dA),(29,dA),(30,dA),(31,dA),(32,dA),(33,dA),(34,dA),(35,dA),(36,dA)]) (fun x=>(hV b pre.length cap 77 pre::Zm bf 195 1 false (dX (ZPU v2 v3 v4 bf))::ZAq v2 (dP 1 false (dI k))::ZAq v3 (dP 1 false (dX (.func (.yield l) #[] #[])))::ZAq v4 (dP 1 false (dS ZM s))::(x.2.2++hp))) (fun x=>s.length-x.1) (fun x=>i0≤x.1/\x.1≤s.length/\J x.2.1 x.2.2/\x.2.1++(ZX (m1+1) (s.drop x.1)).map (pre ++ ·)=done++(ZX (m1+1) (s.drop i0)).map (pre ++ ·)) (i0,done,js) ?start ?frame0 ?objs0 ?round)
  case start=>exact⟨Nat.le_refl _,hi0,hj,rfl⟩
  case frame0=>exact zFr
  case objs0=>rfl
  case round =>
   rintro⟨i,dn,js1⟩ ⟨q1,q2,q3,q4⟩;simp only at q1 q2 q3 q4;dsimp only[ZL,z0,z1];((repeat' (first |  (refine WC.drawW (β:=Unit) 9 (fun _=>hV b (pre++[s[i]'(by omega)]).length cap 77 (pre++[s[i]'(by omega)])::Zm bf 195 1 false (dX (ZPU v2 v3 v4 bf))::ZAq v2 (dP 1 false (dI k))::ZAq v3 (dP 1 false (dX (.func (.yield l) #[] #[])))::ZAq v4 (dP 1 false (dS ZM s))::(js1++hp)) (fun _=>dX (ZS8 b cap (pre++[s[i]'(by omega)]))) _ rfl (by kernel_rfl) (by kernel_rfl) ?_;simp only[List.take_succ_cons,List.take_zero,List.drop_succ_cons,List.drop_zero])|((first|apply WL.opN|apply WD.opN);exact yF;dsimp only[ZC,z0,z1])|refine WL.nil ?_|refine ZA fun Kx hK=>?_|(refine hK _ _ ?_;clear hK)|(refine Kont.skip ?_;clear hK)|refine WC.region ?_|((first|apply WL.opN|apply WD.opN);(focus ((first|exact ZBF|exact ZA3|fail);all_goals infer_instance));dsimp only[ZC,z0,z1])|(apply ZB;(exact oD);all_goals (intro h;try exact xD))|refine WC.skip ?_|refine WC.ret ?_|refine WC.exit ?_|refine WC.block ?_));all_goals (first|refine WDs.id ?_|((repeat clear hK);(repeat clear Kx))))
   ·have hi:i<s.length:=by omega
    (repeat' (first|refine WDs.nil ?_|(apply WDs.op;(focus (intro c;apply SYG.yes;(exact Za rfl);((first|(apply ZBV;exact tyFn;exact OpD.t rfl;(refine HH.mem ?_ (fun _=>?_) <;> exact .tail _ (.head _)))|(refine Zn (R:=RV) (_gR:=inferInstance) (k:=i) elV ?_ ?_ hi;exact OpD.t rfl;exact OpD.t rfl)|exact ZCX|exact ZBg|exact ZDf|exact ZBQ|fail);all_goals infer_instance)));dsimp only[ZC,z0,z1])))
    refine⟨ZN3 elV (OpD.t rfl) (OpD.t rfl) (by omega),fun _=>?_⟩;dsimp only[ZC,z0,z1];have hd:=ZFp m1 s i hi;have hlen:=congrArg List.length q4;simp only[hd,List.length_append,List.length_map] at hlen;have hk1:k-(pre++[s[i]]).length=m1:=by simp;omega
    have hC:=ih (s.length-(i+1)) (by omega) (i+1) (pre++[s[i]]) dn js1 rfl (by omega) (by simp;omega) q3 (by rw[hk1];omega);rw[hk1] at hC;refine WL.callC (hp1:=fromO k s l b cap bf v2 v3 v4 (pre++[s[i]])++js1) hC Tryz.call143 (OpD.t rfl) (by(exact aD)) ?_;rintro d' hp2 ⟨rfl,js2,hj2,rfl⟩;dsimp only[ZC,z0,z1,List.cons_append,List.nil_append];refine ZLK (k:=pre.length) (by simp) ?_;rw[List.take_left' rfl];((repeat' (first|((first|apply WL.opN|apply WD.opN);exact yF;dsimp only[ZC,z0,z1])|refine WL.nil ?_|(refine hK _ _ ?_;clear hK)|refine WC.region ?_|((first|apply WL.opN|apply WD.opN);(focus ((first|exact ZLC|exact ZBg|fail);all_goals infer_instance));dsimp only[ZC,z0,z1])|(apply ZO;(exact oD);all_goals (intro h;try exact xD))|refine WC.skip ?_|refine ThenD.n ?_));all_goals (first|((repeat clear hK);(repeat clear Kx))))
    (refine zNx (i+1,dn++List.map (fun x=>pre++[s[i]]++x) (ZX m1 (List.drop (i+1) s)),js2) ?_;(try dsimp only))
    refine⟨by omega,by omega,hj2,?_⟩;rw[<- q4,hd,List.map_append,List.map_map,List.append_assoc];congr 2;apply List.map_congr_left;intro x _;simp
   ·have hi:s.length≤i:=by omega
    have hd:ZX (m1+1) (List.drop i s)=[]:=by rw[List.drop_eq_nil_of_le hi];rfl
    rw[hd] at q4;simp only[List.map_nil,List.append_nil] at q4;exact⟨trivial,_,_::_::_::_::_::js1,rfl,rfl,rfl,js1,by rw[hm1,<- q4];exact q3,rfl⟩
theorem perm2 {a b:HObj} {js hp:List HObj}:(js++a::b::hp).Perm (a::b::(js++hp)):=ZDB.symm
set_option maxRecDepth 100000 in
theorem seq_c (k:Nat) (s:List Vx) (hs:s.length≤100) (hk:k≤100) (vk vs:Value):SeqC Tryz.prog 142 [vk,vs] [ZAq vk (dP 1 false (dI k)),ZAq vs (dP 1 false (dS ZM s))] (fun x=>dS ZM x) (ZX k s):=⟨fun l J hY js hj=>by
 (refine ZDk Tryz.func142 rfl rfl (fun hp=>?_);simp only[Tryz.ntmps142,List.length_cons,List.length_nil,List.length_append,List.length_map,Nat.reduceAdd,Nat.reduceSub,List.replicate_succ,List.replicate_zero,List.cons_append,List.nil_append,List.map_cons,List.map_nil,List.append_assoc])
 refine ZL4 perm2 ?_;(repeat' (first |  (refine ZJg (d:=dP 1 false (dX (.func (.yield l) #[] #[]))) 3 rfl fun v3=>?_;dsimp only[z0,z1]) |  (refine ZHq (d:=dP 1 false (dI k)) 1 rfl (.tail _ (.tail _ (.head _))) ?_;dsimp only[z0,z1];refine WC.drawW (β:=Nat) 2 (fun b=>hV b 0 k 77 []::Zm bf 195 1 false (dX (ZPU vk v3 vs bf))::ZAq v3 (dP 1 false (dX (.func (.yield l) #[] #[])))::ZAq vk (dP 1 false (dI k))::ZAq vs (dP 1 false (dS ZM s))::(js++hp)) (fun b=>dX (.slice (some ⟨b,0,none⟩) 0 k)) _ rfl (by kernel_rfl) (by kernel_rfl) ?_;simp only[List.take_succ_cons,List.take_zero,List.drop_succ_cons,List.drop_zero])|refine WL.nil ?_|refine ZA fun Kx hK=>?_|(refine hK _ _ ?_;clear hK)|refine WC.region ?_ |  (apply WL.alloc tzFn;exact Zw rfl;(intro bf;dsimp only[ZC,z0,z1])) |  (apply ZC1 tyFn;exact OpD.t rfl;exact OpD.t rfl;exact Zw rfl;dsimp only[ZC,z0,z1])|((first|apply WL.opN|apply WD.opN);(focus ((first|(apply ZGE;repeat (first|exact ArgsX.nil|(apply ArgsX.cons;exact OpD.t rfl)))|exact ZEN|fail);all_goals infer_instance));dsimp only[ZC,z0,z1])))
 (repeat' (first|refine WDs.nil ?_|(apply WDs.op;(focus (intro c;apply SYG.yes;(exact Za rfl);((first|(apply ZBV;exact tyFn;exact OpD.t rfl;(refine HH.mem ?_ (fun _=>?_) <;> first|exact .head _|exact .tail _ (.head _)))|exact ZDf|fail);all_goals infer_instance)));dsimp only[ZC,z0,z1])))
 refine⟨ZQz elV (OpD.t rfl) rfl (by omega) (by simp only[maxLen];omega),fun b=>?_⟩;dsimp only[ZC,z0,z1];have hC:=ZVA k s hs hk l (ZX k s).length b k (Nat.le_refl _) J hY vk v3 vs bf s.length 0 [] [] js rfl (Nat.zero_le _) (Nat.zero_le _) hj (by simp);refine WL.perm (((List.Perm.swap _ _ _).cons _).cons _) ?_;refine WL.callC (hp1:=fromO k s l b k bf vk v3 vs []++js) hC Tryz.call143 (OpD.t rfl) (by(exact aD)) ?_;rintro d' hp2 ⟨rfl,js',hj',rfl⟩;simp only[List.length_nil,Nat.sub_zero,List.drop_zero,List.nil_append,List.map_id'] at hj';dsimp only[ZC,z0,z1,List.cons_append,List.nil_append];refine WL.drop (WL.drop (WL.perm (List.Perm.swap _ _ _) (WL.drop (WL.perm ZDB (WL.nil ?_)))));exact⟨trivial,js'++[_,_],by simp,js',hj',rfl⟩⟩
theorem ZTl (k:Nat) (s:List Vx):CallC Tryz.prog 113 ([dS ZM s,dI k]++([]:List Value).map dX) [] (fun d hp2=>∃vk vs,d=dX (.func (.func 142) #[] [vk,vs].toArray)/\hp2=[ZAq vk (dP 1 false (dI k)),ZAq vs (dP 1 false (dS ZM s))]):=by
 (refine ZAh Tryz.func113 rfl rfl (fun hp=>?_);simp only[Tryz.ntmps113,List.length_cons,List.length_nil,List.length_append,List.length_map,Nat.reduceAdd,Nat.reduceSub,List.replicate_succ,List.replicate_zero,List.cons_append,List.nil_append,List.map_cons,List.map_nil,List.append_assoc])
 ((repeat' (first |  (refine ZJg (d:=dP 1 false (dS ZM s)) 2 rfl fun vs=>?_;dsimp only[z0,z1];refine ZJg (d:=dP 1 false (dI k)) 3 rfl fun vk=>?_;dsimp only[z0,z1])|(apply WL.opN;exact yF;dsimp only[ZC,z0,z1])|refine WL.nil ?_|refine ZA fun Kx hK=>?_|(refine hK _ _ ?_;clear hK)|refine WC.region ?_|(apply WL.opN;(focus ((first|(apply ZGE;repeat (first|exact ArgsX.nil|(apply ArgsX.cons;exact OpD.t rfl)))|exact ZEN|fail);all_goals infer_instance));dsimp only[ZC,z0,z1])|refine WC.ret ?_));all_goals (first|((repeat clear hK);(repeat clear Kx))))
 exact⟨trivial,_,[_,_],rfl,rfl,vk,vs,rfl,rfl⟩

end
section
open Go.RowKit
section
variable {P:Program} {ops:Array Oper} {hp:List HObj} {o:Oper} {fr:List Dat} {d:Dat} {Q:Exit->Act->World->Prop} {rest:List Oper} {P0:Nat->Prop} {B:Nat} {w0 w:World} {a:Act}
theorem ZDe (hg:o.guard=none) (h:SY P ops hp o fr d) (hh:Hp P0 B w0 hp w) (hf:Fr (Imm P0 B hp) w { tmps:=a.tmps,defers:=[] } fr)
  (k:∀a' w',a'.defers=a.defers->Hp P0 B w0 hp w'->Fr (Imm P0 B hp) w' { tmps:=a'.tmps,defers:=[] } (ZC fr o.dst d)->wpList P ops Q rest a' w'):wpList P ops Q (o::rest) a w:=by
 unfold wpList;have hwant:Region.wanted o (yielded ops a.tmps)=true:=by simp[Region.wanted,hg]
 rw[if_pos hwant];refine .inl (h.out hh (a:=a) ⟨hf.size,fun t _ d hd=>hf.rd t d hd⟩ _ _ fun v w' e hd=>?_);have hf2:=Fr.put (x:=o.dst) (hf.ext e) hd;refine k (a.put o.dst v) w' ?_ (hh.ext e) ?_
 ·cases o.dst <;> rfl
 ·have e1:({ tmps:=(a.put o.dst v).tmps,defers:=[] }:Act)=({ tmps:=a.tmps,defers:=[] }:Act).put o.dst v:=by cases o.dst <;> rfl
  rw[e1];exact hf2
end
namespace I
section
variable {P:Program} {ops:Array Oper} {hp:List HObj} {fr:List Dat} {Q:Z5} {rest:List Oper}
theorem ZFQ {α:Type} {R:Rel α} {_gR:Good R} {v:Value} {e:TypeId} {xs:List α} (hm:Zk v e R xs∈hp) (h:(∃a c,v = .slice a xs.length c)->WL P ops Q rest fr hp):WL P ops Q rest fr hp:=WL.of fun _ _ _ _ _ hh hf =>
 (h (Own.len (hh.ok _ hm))).on hh hf
end
end I
end
end Go.Proofs.YtofkoleingbbpaaGreatDoor
