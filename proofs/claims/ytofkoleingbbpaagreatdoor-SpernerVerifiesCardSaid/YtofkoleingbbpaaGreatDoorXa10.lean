/- Part 10: walks by contracts, and plain laws. -/
import Derived.Test.YtofkoleingbbpaaGreatDoorProg
import Derived.Test.YtofkoleingbbpaaGreatDoorXa9
set_option linter.unusedVariables false
set_option linter.unusedSimpArgs false
set_option linter.unusedSectionVars false
set_option maxRecDepth 100000
set_option maxHeartbeats 64000000
namespace Go.Proofs.YtofkoleingbbpaaGreatDoor
section
open Go.RowKit
def ZAX (b:Nat) (T:TypeId) (ds:List Dat):HObj where
 blk:=some b
 ok:=fun P w=>∃cs:List Value,w.heap[b]?=some (.cells cs.toArray T)/\cs.length=ds.length/\(∀c∈cs,c.oneCell'=true)/\∀(k:Nat) (c:Value) (d:Dat),cs[k]?=some c->ds[k]?=some d->d.rd P w c
 weak:=fun h q=>by obtain⟨cs,h1,h2,h3,h4⟩:=h;exact⟨cs,h1,h2,h3,fun k c d hc hd=>d.weak (h4 k c d hc hd) q⟩
 bound:=fun h=>by obtain⟨cs,h1,h2,h3,h4⟩:=h;exact⟨cs,h1,h2,h3,fun k c d hc hd=>d.bound (h4 k c d hc hd)⟩
 move:=fun h hg hP hne=>by
  obtain⟨cs,h1,h2,h3,h4⟩:=h;have hlt:b<_:=(Array.getElem?_eq_some_iff.1 h1).1;refine⟨cs,(hg.block b hlt ?_).trans h1,h2,h3,fun k c d hc hd=>d.grown (h4 k c d hc hd) hg hP⟩;rcases hne with h|h
  ·cases h
  ·exact h
def ZEP (ds:List Dat):Dat where
 rd:=fun P w v=>∃cs:List Value,v = .agg cs.toArray/\cs.length=ds.length/\(∀c∈cs,c.oneCell'=true)/\∀(k:Nat) (c:Value) (d:Dat),cs[k]?=some c->ds[k]?=some d->d.rd P w c
 weak:=fun⟨cs,h1,h2,h3,h4⟩ q=>⟨cs,h1,h2,h3,fun k c d hc hd=>d.weak (h4 k c d hc hd) q⟩
 move:=fun⟨cs,h1,h2,h3,h4⟩ q=>⟨cs,h1,h2,h3,fun k c d hc hd=>d.move (h4 k c d hc hd) q⟩
 bound:=fun⟨cs,h1,h2,h3,h4⟩=>⟨cs,h1,h2,h3,fun k c d hc hd=>d.bound (h4 k c d hc hd)⟩
theorem ZAD {ds:List Dat} {n:Nat} (hn:0<n) (hl:ds.length=n):(ZEP ds).Shape n true:=fun _ _ _ h=>by
 obtain⟨cs,rfl,h2,h3,_⟩:=h;exact⟨cs,by omega,by omega,h3,rfl,rfl⟩
structure StrT (P:Program) (T:TypeId) (n:Nat):Prop where
 fld:∀b off i w,i<n->(Instr.fieldAt T (.pointer (some ⟨b,off,none⟩)) i).run P w = .ok (.pointer (some ⟨b,off+i,none⟩)) w
section
variable {P:Program} {ops:Array Oper} {hp:List HObj} {fr:List Dat} {d:Dat} {Q:Z5} {rest:List Oper}
variable {dst:Option Tmp} {ty:TypeId} {ps:String} {af:Array Edge} {g:Option (Nat × Bool)} {T T1 T2:TypeId} {b off k n:Nat} {ds ds':List Dat}
theorem ZCz {zs:List Value} (hz:TyZ P T (.agg zs.toArray)) (hn:0<zs.length) (h1:∀c∈zs,c.oneCell'=true) (h:∀b,WL P ops Q rest (ZC fr dst (dX (.pointer (some ⟨b,0,none⟩)))) (ZAX b T (zs.map dX)::hp)) :
  WL P ops Q (⟨dst,.alloc T,ty,ps,af,none⟩::rest) fr hp :=
 WL.alloc (n:=zs.length) (agg:=true) hz (fun _ _ _ q=>by cases (q:_=_);exact⟨zs,rfl,hn,h1,rfl,rfl⟩) fun b=>WL.of fun P0 B w0 w a hh hf=>by
  obtain⟨cs,u,c1,c2,c0,c3,c4,c5⟩:=hh.ok (Zm b T zs.length true (dX (.agg zs.toArray))) (by simp);have hu:u = .agg zs.toArray:=c5;simp only[if_true] at c4;rw[hu] at c4;have hcs:zs=cs:=by injection c4 with c4;exact List.toArray_inj c4
  subst hcs;have hgr:w.grownBy w (Zm b T zs.length true (dX (.agg zs.toArray))).blk:=⟨rfl,rfl,rfl,Nat.le_refl _,fun _ _ _=>rfl⟩;have hok:(ZAX b T (zs.map dX)).ok (fun k=>Imm P0 B (Zm b T zs.length true (dX (.agg zs.toArray))::hp) k/\k<w.heap.size) w :=
   ⟨zs,c1,by simp,h1,fun k c d hc hd=>by
    rw[List.getElem?_map,hc] at hd;cases hd;rfl⟩
  exact(h b).on (hh.write hgr (.inl rfl) hok) (hf.mono fun _ _ hd=>Ze (o':=ZAX b T (zs.map dX)) hgr (.inl rfl) hd)
theorem ZAo {x:Operand} {i:Nat} (S:StrT P T n) (hx:OpD fr x (dX (.pointer (some ⟨b,off,none⟩)))) (hi:i<n) :
  SY P ops hp ⟨dst,.fieldAddr T x i,ty,ps,af,g⟩ fr (dX (.pointer (some ⟨b,off+i,none⟩))):=SY.val fun {I w a} ho=>by
 have h1:a.eval x=_:=hx.get (by simp[Op.operands]) ho;refine⟨_,?_,rfl⟩;unfold execOp;simp only[h1,Sem.run_bind,S.fld b off i w hi,Result.andThen_ok,Sem.run_pure]
theorem ZSP {I:Nat->Prop} {w:World} (h:(ZAX b T2 ds).ok I w) (hk:ds[k]?=some d):∃c,w.cell? ⟨b,k,none⟩=some c/\c.oneCell'=true/\d.rd I w c:=by
 obtain⟨cs,c1,c2,c3,c4⟩:=h;have hlt:=(List.getElem?_eq_some_iff.1 hk).1;have hl:k<cs.length:=by omega
 exact⟨cs[k],by simp[World.cell?,c1,hl],c3 _ (List.getElem_mem hl),c4 k _ d (List.getElem?_eq_getElem hl) hk⟩
theorem ZAZ {x:Operand} (T':TyI P T1 1 false) (hx:OpD fr x (dX (.pointer (some ⟨b,k,none⟩)))) (hm:ZAX b T2 ds∈hp) (hk:ds[k]?=some d) :
  SY P ops hp ⟨dst,.load T1 x,ty,ps,af,g⟩ fr d:=ZAG fun {P0 B w0 w a} hh ho=>by
 have h1:a.eval x = .pointer (some ⟨b,k,none⟩):=hx.get (by simp[Op.operands]) ho;obtain⟨c,q1,q2,q3⟩:=ZSP (hh.ok _ hm) hk;have hc:Cells (fun _=>True) w b k 1 false c:=by
  refine⟨trivial,[c],rfl,by decide,by simp[q2],fun i c' hc=>?_,rfl⟩;have hi:i=0:=by
   have:=(List.getElem?_eq_some_iff.1 hc).1;simp at this;exact this
  subst hi;cases hc;exact q1
 refine⟨c,w,?_,Ext.refl _,q3⟩;unfold execOp;simp only[h1,Sem.run_bind,ZA8 T' hc,Result.andThen_ok,Sem.run_pure]
theorem ZDN {x:Operand} (T':TyI P T1 n true) (hx:OpD fr x (dX (.pointer (some ⟨b,0,none⟩)))) (hm:ZAX b T2 ds∈hp) (hn:0<n) (hl:ds.length=n) :
  SY P ops hp ⟨dst,.load T1 x,ty,ps,af,g⟩ fr (ZEP ds):=ZAG fun {P0 B w0 w a} hh ho=>by
 have h1:a.eval x = .pointer (some ⟨b,0,none⟩):=hx.get (by simp[Op.operands]) ho;obtain⟨cs,c1,c2,c3,c4⟩:=hh.ok _ hm;have hc:Cells (fun _=>True) w b 0 n true (.agg cs.toArray):=by
  refine⟨trivial,cs,by omega,hn,c3,fun j c hc=>?_,rfl⟩;simp[World.cell?,c1,hc]
 refine⟨_,w,?_,Ext.refl _,cs,rfl,c2,c3,c4⟩;unfold execOp;simp only[h1,Sem.run_bind,ZA8 T' hc,Result.andThen_ok,Sem.run_pure]
theorem WL.storeS {t:Nat} {x:Operand} (T':TyI P T1 1 false) (hp0:OpD fr (.tmp t) (dX (.pointer (some ⟨b,k,none⟩)))) (hx:OpD fr x d) (hs:d.Shape 1 false) (hk:k<ds.length)
  (h:WL P ops Q rest (ZC fr dst (dX undef)) (ZAX b T2 (ds.set k d)::hp)) :
  WL P ops Q (⟨dst,.store T1 (.tmp t) x,ty,ps,af,none⟩::rest) fr (ZAX b T2 ds::hp):=by
 refine WL.of fun P0 B w0 w a hh hf=>?_;obtain⟨cs,c1,c2,c3,c4⟩:=hh.ok (ZAX b T2 ds) (by simp);have h1:a.eval (.tmp t)=_:=hp0.ev hf;have hd:d.rd (Imm P0 B (ZAX b T2 ds::hp)) w (a.eval x):=hx.ev hf;obtain⟨us,u1,u0,u2,u3,u4⟩:=hs _ _ _ hd;obtain⟨u,rfl⟩:∃u,us=[u]:=List.length_eq_one_iff.1 u1;have hu:a.eval x=u:=by
  simp only[Bool.false_eq_true,if_false] at u4;exact(List.cons.inj u4).1.symm
 have hone:u.oneCell'=true:=u2 u (by simp);have hdu:d.rd (Imm P0 B (ZAX b T2 ds::hp)) w u:=by rw[hu] at hd;exact hd
 have hkc:k<cs.length:=by omega
 have hset:=setCell_eq_setRow w b k cs.toArray T2 (0,0) u c1;have hc:w.cell? ⟨b,k,none⟩=some cs[k]:=by simp[World.cell?,c1,hkc]
 have hfz:w.frozen? ⟨b,k,none⟩=false:=by simp[World.frozen?,c1]
 have hst:(store ((⟨b,k,none⟩:Addr).add 0) u).run P w = .ok () (w.setCell ⟨b,k,none⟩ u):=by
  rw[show((⟨b,k,none⟩:Addr).add 0)=⟨b,k,none⟩ from rfl,run_store P w _ u _ hone,hc];simp[hfz]
 have hsz:(sizeOf T1).run P w = .ok 1 w:=by
  have h5:=T'.size;cases hq:P.info? T1 with
  | none=>rw[hq] at h5;cases h5
  | some i =>
   rw[hq] at h5;have:i.size=1:=by simpa using h5
   rw[<- this];rw[run_sizeOf w hq];simp[Program.cellsOf,hq]
 have hw:w.setCell ⟨b,k,none⟩ u=w.setRow b (cs.set k u).toArray:=by rw[hset];simp
 have hrun:(execOp a.eval ⟨dst,.store T1 (.tmp t) x,ty,ps,af,none⟩).run P w = .ok .skip (w.setRow b (cs.set k u).toArray):=by
  rw[<- hw];unfold execOp;simp only[h1,hu,Instr.storeAt,Instr.sureAddr,storeVar,Sem.run_bind,hsz,Result.andThen_ok,Sem.run_pure];simp[ZC5 hone,storeCells,hst]
 refine wpList_plain rfl fun K hK=>?_;unfold Oper.wp;rw[hrun];have hgr:w.grownBy (w.setRow b (cs.set k u).toArray) (ZAX b T2 ds).blk:=ZAM;have hok:(ZAX b T2 (ds.set k d)).ok (fun j=>Imm P0 B (ZAX b T2 ds::hp) j/\j<w.heap.size) (w.setRow b (cs.set k u).toArray):=by
  refine⟨cs.set k u,setRow_heap w b _ _ _ _ c1,by simp[c2],fun c hc=>?_,fun j c e hc he=>?_⟩
  ·rcases List.mem_or_eq_of_mem_set hc with hc|rfl
   ·exact c3 c hc
   ·exact hone
  ·rw[List.getElem?_set] at hc he;by_cases hjk:k=j
   ·rw[if_pos hjk,if_pos (by omega)] at hc he;cases hc;cases he;exact d.grown (d.bound hdu) hgr fun j q hj=>hj.1.2 (ZAX b T2 ds) (by simp) q
   ·rw[if_neg hjk] at hc he;exact e.grown (e.bound (c4 j c e hc he)) hgr fun j q hj=>hj.1.2 (ZAX b T2 ds) (by simp) q
 exact hK _ _ (h.on (hh.write hgr (.inl rfl) hok) (Fr.put (hf.mono fun _ _ hd=>Ze (o':=ZAX b T2 (ds.set k d)) hgr (.inl rfl) hd) (d:=dX undef) rfl))
theorem ZBr {t:Nat} {x:Operand} (T':TyI P T1 n true) (hp0:OpD fr (.tmp t) (dX (.pointer (some ⟨b,0,none⟩)))) (hx:OpD fr x (ZEP ds')) (hl:ds.length=n) (hl':ds'.length=n)
  (h:WL P ops Q rest (ZC fr dst (dX undef)) (ZAX b T2 ds'::hp)) :
  WL P ops Q (⟨dst,.store T1 (.tmp t) x,ty,ps,af,none⟩::rest) fr (ZAX b T2 ds::hp):=by
 refine WL.of fun P0 B w0 w a hh hf=>?_;obtain⟨cs,c1,c2,c3,c4⟩:=hh.ok (ZAX b T2 ds) (by simp);have h1:a.eval (.tmp t)=_:=hp0.ev hf;obtain⟨us,u1,u2,u3,u4⟩:=(hx.ev hf:(ZEP ds').rd (Imm P0 B (ZAX b T2 ds::hp)) w (a.eval x));have hr:=ZDG (u:=a.eval x) (cs:=cs) (cs':=us) T'.size c1 (by omega) (by omega) u3 (by rw[u1];rfl);have hrun:(execOp a.eval ⟨dst,.store T1 (.tmp t) x,ty,ps,af,none⟩).run P w = .ok .skip (w.setRow b us.toArray):=by
  unfold execOp;simp only[h1,Sem.run_bind,hr,Result.andThen_ok,Sem.run_pure]
 refine wpList_plain rfl fun K hK=>?_;unfold Oper.wp;rw[hrun];have hgr:w.grownBy (w.setRow b us.toArray) (ZAX b T2 ds).blk:=ZAM;have hok:(ZAX b T2 ds').ok (fun j=>Imm P0 B (ZAX b T2 ds::hp) j/\j<w.heap.size) (w.setRow b us.toArray) :=
  ⟨us,setRow_heap w b _ _ _ _ c1,u2,u3,fun j c e hc he=>e.grown (e.bound (u4 j c e hc he)) hgr fun j q hj=>hj.1.2 (ZAX b T2 ds) (by simp) q⟩
 exact hK _ _ (h.on (hh.write hgr (.inl rfl) hok) (Fr.put (hf.mono fun _ _ hd=>Ze (o':=ZAX b T2 ds') hgr (.inl rfl) hd) (d:=dX undef) rfl))
theorem ZM1 {c:Code} {t:Nat} (hp0:fr[t]?=some (dX (.pointer (some ⟨b,0,none⟩)))) (hn:0<n) (hl:ds.length=n) (h:WC P Q c (fr.set t (dP n true (ZEP ds))) hp):WC P Q c fr (ZAX b T ds::hp):=by
 refine WC.of fun P0 B w0 w a hh hf=>?_;obtain⟨cs,c1,c2,c3,c4⟩:=hh.ok (ZAX b T ds) (by simp);have hown:=hh.own (ZAX b T ds) (by simp) b rfl;refine h.on hh.drop ⟨hf.defers,by rw[hf.size,List.length_set],fun t' d' hd'=>?_⟩;by_cases htt:t=t'
 ·subst htt;rw[List.getElem?_set] at hd';simp only[if_true] at hd';split at hd'
  ·cases hd';have hv:a.tmps.getD t undef = .pointer (some ⟨b,0,none⟩):=hf.rd t _ hp0;rw[hv];refine⟨b,0,.agg cs.toArray,rfl,⟨⟨.inr hown.1,fun o' ho' hk=>(List.pairwise_cons.1 hh.apart).1 o' ho' b rfl hk⟩,cs,by omega,hn,c3,fun j c hc=>?_,rfl⟩,cs,rfl,c2,c3,fun k c d hc hd=>d.weak (c4 k c d hc hd) Imm.sub⟩;simp[World.cell?,c1,hc]
  ·cases hd'
 ·rw[List.getElem?_set_ne htt] at hd';exact d'.weak (hf.rd t' d' hd') Imm.sub
end
def R3 {α β γ:Type} (R:Rel α) (S:Rel β) (T:Rel γ):Rel (α × β × γ):=fun P w v x=>∃u u' u'',v = .agg #[u,u',u'']/\(u.oneCell'=true/\u'.oneCell'=true/\u''.oneCell'=true)/\R P w u x.1/\S P w u' x.2.1/\T P w u'' x.2.2
instance {α β γ:Type} (R:Rel α) (S:Rel β) (T:Rel γ) [Good R] [Good S] [Good T]:Good (R3 R S T) where
 weak:=fun⟨u,u',u'',h1,h0,h2,h3,h4⟩ q=>⟨u,u',u'',h1,h0,Good.weak h2 q,Good.weak h3 q,Good.weak h4 q⟩
 move:=fun⟨u,u',u'',h1,h0,h2,h3,h4⟩ q=>⟨u,u',u'',h1,h0,Good.move h2 q,Good.move h3 q,Good.move h4 q⟩
 bound:=fun⟨u,u',u'',h1,h0,h2,h3,h4⟩=>⟨u,u',u'',h1,h0,Good.bound h2,Good.bound h3,Good.bound h4⟩
section
variable {α β γ:Type} {R:Rel α} {S:Rel β} {T:Rel γ} [Good R] [Good S] [Good T] {x:α} {y:β} {z:γ}
theorem ZCC {p:α × β × γ}:(dS (R3 R S T) p).Shape 3 true:=fun _ _ _ h=>by
 obtain⟨u,u',u'',rfl,⟨h0,h1,h2⟩,_⟩:=h;exact⟨[u,u',u''],rfl,by omega,fun c hc=>by
  simp only[List.mem_cons,List.not_mem_nil,or_false] at hc;rcases hc with rfl|rfl|rfl <;> assumption,rfl,rfl⟩
theorem ZUv:(ZEP [dS R x,dS S y,dS T z]).le (dS (R3 R S T) (x,y,z)):=fun _ _ _ h=>by
 obtain⟨cs,rfl,h2,h3,h4⟩:=h
 match cs,h2 with
 | [u,u',u''],_=>exact⟨u,u',u'',rfl,⟨h3 u (by simp),h3 u' (by simp),h3 u'' (by simp)⟩,h4 0 u _ rfl rfl,h4 1 u' _ rfl rfl,h4 2 u'' _ rfl rfl⟩
theorem ZFx {p:α × β × γ}:(dS (R3 R S T) p).le (ZEP [dS R p.1,dS S p.2.1,dS T p.2.2]):=fun _ _ _ h=>by
 obtain⟨u,u',u'',rfl,⟨h0,h1,h2⟩,h3,h4,h5⟩:=h;refine⟨[u,u',u''],rfl,rfl,fun c hc=>?_,fun k c d hc hd=>?_⟩
 ·simp only[List.mem_cons,List.not_mem_nil,or_false] at hc;rcases hc with rfl|rfl|rfl <;> assumption
 ·match k,hc,hd with
  | 0,hc,hd=>cases hc;cases hd;exact h3
  | 1,hc,hd=>cases hc;cases hd;exact h4
  | 2,hc,hd=>cases hc;cases hd;exact h5
end
end
section
open Go.RowKit

theorem elV:ElT Tryz.prog 22 77 2 (.agg #[.int .i64 0,.int .i64 0]) 16 true:=⟨Tryz.underlying22,by kernel_rfl,Tryz.isAgg77,rfl⟩
theorem ZB9:ElT Tryz.prog 27 22 1 (.slice none 0 0) 24 false:=⟨Tryz.underlying27,by kernel_rfl,Tryz.isAgg22,rfl⟩
theorem elI:ElT Tryz.prog 23 3 1 (.int .i64 0) 8 false:=⟨Tryz.underlying23,by kernel_rfl,Tryz.isAgg3,rfl⟩
theorem tyV:TyI Tryz.prog 77 2 true:=⟨by kernel_rfl,Tryz.isAgg77⟩
theorem ZSX:TyI Tryz.prog 22 1 false:=⟨by kernel_rfl,Tryz.isAgg22⟩
theorem tyI:TyI Tryz.prog 3 1 false:=⟨by kernel_rfl,Tryz.isAgg3⟩
theorem tzV:TyZ Tryz.prog 77 (.agg #[.int .i64 0,.int .i64 0]):=⟨by kernel_rfl⟩
theorem vxT:VxT Tryz.prog 77:=by
 constructor
 ·intro b off w;go_simp
 ·intro b off w;go_simp
 ·intro x y p q p' q' w;go_simp;by_cases h:p=p' <;> by_cases h':q=q' <;> simp[h,h']
 ·intro x y p q p' q' w;go_simp;by_cases h:p=p' <;> by_cases h':q=q' <;> simp[h,h']
 ·intro p q w;go_simp
 ·intro p w;go_simp
 ·intro q w;go_simp
theorem nqBB:∀(x y:Operand) (p q:Bool) w,(do eqGuard .neq 4 x y (.bool p) (.bool q);Go.binOp .neq 4 (.bool p) (.bool q)).run Tryz.prog w = .ok (.bool (p != q)) w:=by
 intro x y p q w;cases p <;> cases q <;> go_simp
theorem ZPJ:∀(x y:Operand) ad m c w,(do eqGuard .eql 22 x y (.slice ad m c) (.slice none 0 0);Go.binOp .eql 22 (.slice ad m c) (.slice none 0 0)).run Tryz.prog w = .ok (.bool ad.isNone) w:=by
 intro x y ad m c w;cases ad <;> (go_simp;try (unfold Go.binOp;simp only;unfold Op.equal Op.maxDepth Op.equalIn;simp[run_underlying Tryz.underlying22]))

end
section
open Go.RowKit
def R1 {α:Type} (R:Rel α):Rel α:=fun P w v x=>∃u,v = .agg #[u]/\u.oneCell'=true/\R P w u x
instance {α:Type} (R:Rel α) [Good R]:Good (R1 R) where
 weak:=fun⟨u,h1,h0,h2⟩ q=>⟨u,h1,h0,Good.weak h2 q⟩
 move:=fun⟨u,h1,h0,h2⟩ q=>⟨u,h1,h0,Good.move h2 q⟩
 bound:=fun⟨u,h1,h0,h2⟩=>⟨u,h1,h0,Good.bound h2⟩
abbrev Cpx:Rel (List (List (Int × Int))):=R1 Zh
theorem ZAL {α:Type} {R:Rel α} [Good R] {x:α}:(dS (R1 R) x).Shape 1 true:=fun _ _ _ h=>by
 obtain⟨u,rfl,h0,_⟩:=h;exact⟨[u],rfl,Nat.one_pos,fun c hc=>by rw[List.mem_singleton.1 hc];exact h0,rfl,rfl⟩
theorem ZJS {α:Type} {R:Rel α} [Good R] {xs:List α}:∀(I:Nat->Prop) (w:World) (v:Value),(dS (R1 (Arr R)) xs).rd I w v->xs.length≤maxLen:=fun _ _ _ h=>by obtain⟨_,_,_,h⟩:=h;exact ZDu _ _ _ h
structure CpxT (P:Program) (T:TypeId):Prop where
 fld:∀b off w,(Instr.fieldAt T (.pointer (some ⟨b,off,none⟩)) 0).run P w = .ok (.pointer (some ⟨b,off,none⟩)) w
 mkc:∀a n c w,(Instr.build T #[(0,.slice a n c)]).run P w = .ok (.agg #[.slice a n c]) w
 mkc0:∀w,(Instr.build T #[]).run P w = .ok (.agg #[.slice none 0 0]) w
theorem ZNx:CpxT Tryz.prog 29:=by
 constructor
 ·intro b off w;go_simp
 ·intro a n c w;go_simp
 ·intro w;go_simp
theorem tyC:TyI Tryz.prog 29 1 true:=⟨by kernel_rfl,Tryz.isAgg29⟩
theorem ZQv:TyI Tryz.prog 27 1 false:=⟨by kernel_rfl,Tryz.isAgg27⟩
section
variable {P:Program} {ops:Array Oper} {hp:List HObj} {fr:List Dat} {d:Dat} {Q:Z5} {rest:List Oper}
variable {dst:Option Tmp} {ty:TypeId} {ps:String} {af:Array Edge} {g:Option (Nat × Bool)} {T:TypeId} (V:CpxT P T)
include V
theorem ZDM {α:Type} {R:Rel α} {_gR:Good R} {x:Operand} {xs:α} (hx:OpD fr x (dP 1 true (dS (R1 R) xs))):SY P ops hp ⟨dst,.fieldAddr T x 0,ty,ps,af,g⟩ fr (dP 1 false (dS R xs)):=SY.val fun {I w a} ho=>by
 obtain⟨b,off,u,h1,⟨hb,cs,k1,k0,k2,k3,k4⟩,u0,hu,h0,h3⟩:=hx.get (by simp[Op.operands]) ho;simp only[if_true] at k4;rw[k4] at hu;have hcs:cs=[u0]:=by injection hu with hu;exact List.toArray_inj hu
 subst hcs;refine⟨_,?_,b,off,u0,rfl,⟨hb,[u0],rfl,Nat.one_pos,by simp[h0],fun j c hc=>k3 j c hc,rfl⟩,h3⟩;unfold execOp;simp only[h1,Sem.run_bind,V.fld,Result.andThen_ok,Sem.run_pure]
theorem ZTN {x:Operand} {b:Nat} (hx:OpD fr x (dX (.pointer (some ⟨b,0,none⟩)))):SY P ops hp ⟨dst,.fieldAddr T x 0,ty,ps,af,g⟩ fr (dX (.pointer (some ⟨b,0,none⟩))):=SY.val fun {I w a} ho=>by
 have h1:a.eval x = .pointer (some ⟨b,0,none⟩):=hx.get (by simp[Op.operands]) ho;refine⟨_,?_,rfl⟩;unfold execOp;simp only[h1,Sem.run_bind,V.fld,Result.andThen_ok,Sem.run_pure]
theorem ZSj {α:Type} {R:Rel α} {_gR:Good R} {x:Operand} {xs:List α} (hx:OpD fr x (dS (Arr R) xs)):SY P ops hp ⟨dst,.build T #[(0,x)],ty,ps,af,g⟩ fr (dS (R1 (Arr R)) xs):=SY.val fun {I w a} ho=>by
 have h1:Arr R I w (a.eval x) xs:=hx.get (by simp[Op.operands]) ho;have h2:=h1;obtain⟨ad,c,hv,_⟩:=h2;rw[hv] at h1;refine⟨.agg #[.slice ad xs.length c],?_,_,rfl,rfl,h1⟩;unfold execOp;simp only[List.map_toArray,List.map_cons,List.map_nil,hv,Sem.run_bind,V.mkc,Result.andThen_ok,Sem.run_pure]
end
theorem ZD0 {P:Program} {T:TypeId} {n:Nat} {agg:Bool} (T':TyI P T n agg) {I:Nat->Prop} {w:World} {b off:Nat} {u:Value} (h:Cells I w b off n agg u):(loadVar T ⟨b,off,none⟩).run P w = .ok u w:=by
 have h1:=ZA8 T' h;simpa[Instr.loadAt,Instr.sureAddr] using h1
theorem ZDb {P:Program} {fn:Func} {t:Tmp} {T:TypeId} {n:Nat} {agg:Bool} (T':TyI P T n agg) (hr:fn.results=#[.cell t T]) {I:Nat->Prop} {w:World} {tmps:Array Value} {b off:Nat} {u:Value} (hp:tmps.getD t undef = .pointer (some ⟨b,off,none⟩)) (h:Cells I w b off n agg u):(results fn tmps).run P w = .ok u w:=by
 have h1:=ZD0 T' h;have hp':tmps[t]?.getD undef = .pointer (some ⟨b,off,none⟩):=by simpa using hp
 simp[results,hr,hp',asAddr,h1]
theorem ZHi {P:Program} {fn:Func} {t t2:Tmp} {T:TypeId} {n:Nat} {agg:Bool} (T':TyI P T n agg) (hr:fn.results=#[.cell t T,.tmp t2]) {I:Nat->Prop} {w:World} {tmps:Array Value} {b off:Nat} {u:Value} (hp:tmps.getD t undef = .pointer (some ⟨b,off,none⟩)) (h:Cells I w b off n agg u):(results fn tmps).run P w = .ok (.tuple #[u,tmps.getD t2 undef]) w:=by
 have h1:=ZD0 T' h;have hp':tmps[t]?.getD undef = .pointer (some ⟨b,off,none⟩):=by simpa using hp
 simp[results,hr,hp',asAddr,h1]
section
variable {P:Program} {hp:List HObj} {d:Dat}
def finC1 (t:Nat) (n:Nat) (agg:Bool) (res:Dat):Z5:=fun e fr hp=>(match e with|.normal|.ret=>True|_=>False)/\∃d,fr[t]?=some (dP n agg d)/\FinD hp d res
def ZU7 (t u:Nat) (n:Nat) (agg:Bool) (r s:Dat):Z5:=fun e fr hp=>(match e with|.normal|.ret=>True|_=>False)/\(∃d,fr[t]?=some (dP n agg d)/\FinD hp d r)/\∃d,fr[u]?=some d/\FinD hp d s
theorem ZHo {f:FuncId} {fn:Func} {c:Code} {args:List Dat} {res:Dat} {t:Tmp} {T:TypeId} {n:Nat} {agg:Bool} (T':TyI P T n agg) (hf:P.funcs[f]?=some fn) (hb:fn.body=some c) (hr:fn.results=#[.cell t T])
  (h:WC P (finC1 t n agg res) c (args++List.replicate (fn.ntmps-args.length) (dX undef)) []):Fn P f args res :=
 ZB6 hf hb (fun e fr hp q=>by
  obtain⟨he,d,hd,hfin⟩:=q;refine⟨by cases e <;> simp_all,fun {P0 B w0 w a} hh hf'=>?_⟩;obtain⟨b,off,u,h1,h2,h3⟩:=hf'.rd t _ hd;exact⟨u,ZDb T' hr h1 h2,hfin.out hh h3⟩) h
theorem ZCu {f:FuncId} {fn:Func} {c:Code} {args:List Dat} {r s:Dat} {t t2:Tmp} {T:TypeId} {n:Nat} {agg:Bool} (T':TyI P T n agg) (hf:P.funcs[f]?=some fn) (hb:fn.body=some c) (hr:fn.results=#[.cell t T,.tmp t2])
  (h:WC P (ZU7 t t2 n agg r s) c (args++List.replicate (fn.ntmps-args.length) (dX undef)) []):Fn P f args (dT [r,s]) :=
 ZB6 hf hb (fun e fr hp q=>by
  obtain⟨he,⟨d,hd,hfin⟩,d',hd',hfin'⟩:=q;refine⟨by cases e <;> simp_all,fun {P0 B w0 w a} hh hf'=>?_⟩;obtain⟨b,off,u,h1,h2,h3⟩:=hf'.rd t _ hd;refine⟨_,ZHi T' hr h1 h2,[u,a.tmps.getD t2 undef],rfl,rfl,fun i e x he hx=>?_⟩
  match i,he,hx with
  | 0,he,hx=>cases he;cases hx;exact hfin.out hh h3
  | 1,he,hx=>cases he;cases hx;exact hfin'.out hh (hf'.rd t2 d' hd')) h
end
end
section
open Go.RowKit
def R2 {α β:Type} (R:Rel α) (S:Rel β):Rel (α × β):=fun P w v x=>∃u u',v = .agg #[u,u']/\u.oneCell'=true/\u'.oneCell'=true/\R P w u x.1/\S P w u' x.2
instance {α β:Type} (R:Rel α) (S:Rel β) [Good R] [Good S]:Good (R2 R S) where
 weak:=fun⟨u,u',h1,h0,h0',h2,h3⟩ q=>⟨u,u',h1,h0,h0',Good.weak h2 q,Good.weak h3 q⟩
 move:=fun⟨u,u',h1,h0,h0',h2,h3⟩ q=>⟨u,u',h1,h0,h0',Good.move h2 q,Good.move h3 q⟩
 bound:=fun⟨u,u',h1,h0,h0',h2,h3⟩=>⟨u,u',h1,h0,h0',Good.bound h2,Good.bound h3⟩
theorem ZA9 {α β:Type} {R:Rel α} {S:Rel β} [Good R] [Good S] {x:α × β}:(dS (R2 R S) x).Shape 2 true:=fun _ _ _ h=>by
 obtain⟨u,u',rfl,h0,h0',_,_⟩:=h;exact⟨[u,u'],rfl,by omega,fun c hc=>by
  simp only[List.mem_cons,List.not_mem_nil,or_false] at hc;rcases hc with rfl|rfl <;> assumption,rfl,rfl⟩
structure ColT (P:Program) (T:TypeId):Prop where
 fld0:∀b off w,(Instr.fieldAt T (.pointer (some ⟨b,off,none⟩)) 0).run P w = .ok (.pointer (some ⟨b,off+0,none⟩)) w
 fld1:∀b off w,(Instr.fieldAt T (.pointer (some ⟨b,off,none⟩)) 1).run P w = .ok (.pointer (some ⟨b,off+1,none⟩)) w
 mkp:∀a n c a' n' c' w,(Instr.build T #[(0,.slice a n c),(1,.slice a' n' c')]).run P w = .ok (.agg #[.slice a n c,.slice a' n' c']) w
section
variable {P:Program} {ops:Array Oper} {hp:List HObj} {fr:List Dat} {d:Dat} {Q:Z5} {rest:List Oper}
variable {dst:Option Tmp} {ty:TypeId} {ps:String} {af:Array Edge} {g:Option (Nat × Bool)} {T:TypeId} (V:ColT P T)
include V
theorem ZAu {α β:Type} {R:Rel α} {S:Rel β} {_gR:Good R} {_gS:Good S} {x:Operand} {p:α × β} (hx:OpD fr x (dP 2 true (dS (R2 R S) p))):SY P ops hp ⟨dst,.fieldAddr T x 0,ty,ps,af,g⟩ fr (dP 1 false (dS R p.1)):=SY.val fun {I w a} ho=>by
 obtain⟨b,off,u,h1,⟨hb,cs,k1,k0,k2,k3,k4⟩,v0,v1,hu,q0,q1,q2,q3⟩:=hx.get (by simp[Op.operands]) ho;simp only[if_true] at k4;rw[k4] at hu;have hcs:cs=[v0,v1]:=by injection hu with hu;exact List.toArray_inj hu
 subst hcs;refine⟨_,?_,b,off+0,v0,rfl,⟨hb,[v0],rfl,Nat.one_pos,by simp[q0],fun j c hc=>?_,rfl⟩,q2⟩
 ·unfold execOp;simp only[h1,Sem.run_bind,V.fld0,Result.andThen_ok,Sem.run_pure]
 ·have hj:j=0:=by have:=(List.getElem?_eq_some_iff.1 hc).1;simpa using this
  subst hj;cases hc;exact k3 0 _ rfl
theorem ZBG {α β:Type} {R:Rel α} {S:Rel β} {_gR:Good R} {_gS:Good S} {x:Operand} {p:α × β} (hx:OpD fr x (dP 2 true (dS (R2 R S) p))):SY P ops hp ⟨dst,.fieldAddr T x 1,ty,ps,af,g⟩ fr (dP 1 false (dS S p.2)):=SY.val fun {I w a} ho=>by
 obtain⟨b,off,u,h1,⟨hb,cs,k1,k0,k2,k3,k4⟩,v0,v1,hu,q0,q1,q2,q3⟩:=hx.get (by simp[Op.operands]) ho;simp only[if_true] at k4;rw[k4] at hu;have hcs:cs=[v0,v1]:=by injection hu with hu;exact List.toArray_inj hu
 subst hcs;refine⟨_,?_,b,off+1,v1,rfl,⟨hb,[v1],rfl,Nat.one_pos,by simp[q1],fun j c hc=>?_,rfl⟩,q3⟩
 ·unfold execOp;simp only[h1,Sem.run_bind,V.fld1,Result.andThen_ok,Sem.run_pure]
 ·have hj:j=0:=by have:=(List.getElem?_eq_some_iff.1 hc).1;simpa using this
  subst hj;cases hc;exact k3 1 _ rfl
end
end
section
open Go.RowKit
section
variable {P:Program} {ops:Array Oper} {hp:List HObj} {fr:List Dat} {d e:Dat} {Q:Z5} {rest:List Oper}
variable {dst:Option Tmp} {ty:TypeId} {ps:String} {af:Array Edge} {g:Option (Nat × Bool)} {T T1 T2:TypeId} {b off k n:Nat} {ds ds':List Dat}
theorem ZV {x:Operand} {i:Nat} (S:StrT P T n) (hx:OpD fr x (dP n true d)) (hle:d.le (ZEP ds)) (hl:ds.length=n) (hi:ds[i]?=some e) :
  SY P ops hp ⟨dst,.fieldAddr T x i,ty,ps,af,g⟩ fr (dP 1 false e):=SY.val fun {I w a} ho=>by
 obtain⟨b,off,u,h1,⟨hb,cs,k1,k0,k2,k3,k4⟩,hu⟩:=hx.get (by simp[Op.operands]) ho;obtain⟨us,q1,q2,q3,q4⟩:=hle _ _ _ hu;simp only[if_true] at k4;rw[k4] at q1;have hcs:cs=us:=by injection q1 with q1;exact List.toArray_inj q1
 subst hcs;have hil:i<ds.length:=(List.getElem?_eq_some_iff.1 hi).1;have hic:i<cs.length:=by omega
 refine⟨_,?_,b,off+i,cs[i],rfl,⟨hb,[cs[i]],rfl,Nat.one_pos,by simpa using k2 _ (List.getElem_mem hic),fun j c hc=>?_,rfl⟩,q4 i _ e (List.getElem?_eq_getElem hic) hi⟩
 ·unfold execOp;simp only[h1,Sem.run_bind,S.fld b off i w (by omega),Result.andThen_ok,Sem.run_pure]
 ·have hj:j=0:=by have:=(List.getElem?_eq_some_iff.1 hc).1;simpa using this
  subst hj;cases hc;exact k3 i _ (List.getElem?_eq_getElem hic)
theorem ZL6 {α:Type} {R:Rel α} {_gR:Good R} {v:Value} {xs:List α} {eT:TypeId} (hk:ds[k]?=some (dX v)) (h:WL P ops Q rest fr (ZAX b T (ds.set k (dS (Arr R) xs))::hp)):WL P ops Q rest fr (ZAX b T ds::Zk v eT R xs::hp):=WL.of fun P0 B w0 w a hh hf=>by
 obtain⟨hh1,hI1⟩:=hh.perm (List.Perm.swap _ _ _);have hA:Arr R (Imm P0 B (ZAX b T ds::hp)) w v xs:=ZD6 hh1;have hh2:=hh1.drop;have hgr:w.grownBy w (ZAX b T ds).blk:=⟨rfl,rfl,rfl,Nat.le_refl _,fun _ _ _=>rfl⟩;obtain⟨cs,c1,c2,c3,c4⟩:=hh2.ok (ZAX b T ds) (by simp);have hkl:=(List.getElem?_eq_some_iff.1 hk).1;have hkc:k<cs.length:=by omega
 have hv:cs[k]=v:=c4 k _ _ (List.getElem?_eq_getElem hkc) hk;have hok:(ZAX b T (ds.set k (dS (Arr R) xs))).ok (fun j=>Imm P0 B (ZAX b T ds::hp) j/\j<w.heap.size) w:=by
  refine⟨cs,c1,by simp[c2],c3,fun j c e hc he=>?_⟩;rw[List.getElem?_set] at he;by_cases hjk:k=j
  ·rw[if_pos hjk,if_pos hkl] at he;cases he;subst hjk;rw[List.getElem?_eq_getElem hkc] at hc;cases hc;rw[hv];exact(dS (Arr R) xs).bound hA
  ·rw[if_neg hjk] at he;exact e.bound (c4 j c e hc he)
 refine h.on (hh2.write hgr (.inl rfl) hok) (hf.mono fun d u hd=>?_);exact Ze (o:=ZAX b T ds) (o':=ZAX b T (ds.set k (dS (Arr R) xs))) hgr (.inl rfl) (d.weak hd fun j hj=>Imm.sub j ((hI1 j).1 hj))
theorem ZEt {c:Code} {α:Type} {R:Rel α} {_gR:Good R} {v:Value} {xs:List α} {eT:TypeId} (hk:ds[k]?=some (dX v)) (h:WC P Q c fr (ZAX b T (ds.set k (dS (Arr R) xs))::hp)):WC P Q c fr (ZAX b T ds::Zk v eT R xs::hp):=WC.of fun P0 B w0 w a hh hf=>by
 obtain⟨hh1,hI1⟩:=hh.perm (List.Perm.swap _ _ _);have hA:Arr R (Imm P0 B (ZAX b T ds::hp)) w v xs:=ZD6 hh1;have hh2:=hh1.drop;have hgr:w.grownBy w (ZAX b T ds).blk:=⟨rfl,rfl,rfl,Nat.le_refl _,fun _ _ _=>rfl⟩;obtain⟨cs,c1,c2,c3,c4⟩:=hh2.ok (ZAX b T ds) (by simp);have hkl:=(List.getElem?_eq_some_iff.1 hk).1;have hkc:k<cs.length:=by omega
 have hv:cs[k]=v:=c4 k _ _ (List.getElem?_eq_getElem hkc) hk;have hok:(ZAX b T (ds.set k (dS (Arr R) xs))).ok (fun j=>Imm P0 B (ZAX b T ds::hp) j/\j<w.heap.size) w:=by
  refine⟨cs,c1,by simp[c2],c3,fun j c e hc he=>?_⟩;rw[List.getElem?_set] at he;by_cases hjk:k=j
  ·rw[if_pos hjk,if_pos hkl] at he;cases he;subst hjk;rw[List.getElem?_eq_getElem hkc] at hc;cases hc;rw[hv];exact(dS (Arr R) xs).bound hA
  ·rw[if_neg hjk] at he;exact e.bound (c4 j c e hc he)
 refine h.on (hh2.write hgr (.inl rfl) hok) (hf.mono fun d u hd=>?_);exact Ze (o:=ZAX b T ds) (o':=ZAX b T (ds.set k (dS (Arr R) xs))) hgr (.inl rfl) (d.weak hd fun j hj=>Imm.sub j ((hI1 j).1 hj))
end
abbrev Lb:=List (Int × Int) × List Int
abbrev Lab:Rel Lb:=R2 ZM ZAR
theorem Zx {α β:Type} {R:Rel α} {S:Rel β} [Good R] [Good S] {p:α × β}:(dS (R2 R S) p).le (ZEP [dS R p.1,dS S p.2]):=fun _ _ _ h=>by
 obtain⟨u,u',rfl,h0,h1,h3,h4⟩:=h;refine⟨[u,u'],rfl,rfl,fun c hc=>?_,fun k c d hc hd=>?_⟩
 ·simp only[List.mem_cons,List.not_mem_nil,or_false] at hc;rcases hc with rfl|rfl <;> assumption
 ·match k,hc,hd with
  | 0,hc,hd=>cases hc;cases hd;exact h3
  | 1,hc,hd=>cases hc;cases hd;exact h4
theorem ZUu {α β:Type} {R:Rel α} {S:Rel β} [Good R] [Good S] {x:α} {y:β}:(ZEP [dS R x,dS S y]).le (dS (R2 R S) (x,y)):=fun _ _ _ h=>by
 obtain⟨cs,rfl,h2,h3,h4⟩:=h
 match cs,h2 with
 | [u,u'],_=>exact⟨u,u',rfl,h3 u (by simp),h3 u' (by simp),h4 0 u _ rfl rfl,h4 1 u' _ rfl rfl⟩
theorem ZAO:StrT Tryz.prog 25 2:=⟨fun b off i w hi=>by
 have:i=0\/i=1:=by omega
 rcases this with rfl|rfl <;> go_simp⟩
theorem ZAz:TyI Tryz.prog 25 2 true:=⟨by kernel_rfl,Tryz.isAgg25⟩
theorem ZTD:TyZ Tryz.prog 25 (.agg #[.slice none 0 0,.slice none 0 0]):=⟨by kernel_rfl⟩
abbrev Sb:=List (List (Int × Int)) × List (Int × Int) × List (List (Int × Int))
abbrev ZUs:Rel Sb:=R3 Zh ZM Zh
theorem ZJK:StrT Tryz.prog 46 3:=⟨fun b off i w hi=>by
 have:i=0\/i=1\/i=2:=by omega
 rcases this with rfl|rfl|rfl <;> go_simp⟩
theorem ZQw:TyI Tryz.prog 46 3 true:=⟨by kernel_rfl,Tryz.isAgg46⟩
theorem tzSb:TyZ Tryz.prog 46 (.agg #[.slice none 0 0,.slice none 0 0,.slice none 0 0]):=⟨by kernel_rfl⟩
theorem ZBd {u u':Value} (h0:u.oneCell'=true) (h1:u'.oneCell'=true):(dX (.agg #[u,u'])).Shape 2 true:=fun _ _ _ h=>by
 cases (h:_=_);exact⟨[u,u'],rfl,by omega,fun c hc=>by
  simp only[List.mem_cons,List.not_mem_nil,or_false] at hc;rcases hc with rfl|rfl <;> assumption,rfl,rfl⟩
theorem ZJF {u u' u'':Value} (h0:u.oneCell'=true) (h1:u'.oneCell'=true) (h2:u''.oneCell'=true):(dX (.agg #[u,u',u''])).Shape 3 true:=fun _ _ _ h=>by
 cases (h:_=_);exact⟨[u,u',u''],rfl,by omega,fun c hc=>by
  simp only[List.mem_cons,List.not_mem_nil,or_false] at hc;rcases hc with rfl|rfl|rfl <;> assumption,rfl,rfl⟩
section
variable {ops:Array Oper} {hp:List HObj} {fr:List Dat} {d e:Dat} {Q:Z5} {rest:List Oper}
variable {dst:Option Tmp} {ty:TypeId} {ps:String} {af:Array Edge} {g:Option (Nat × Bool)}
theorem ZTP {x:Operand} {xs:List (Int × Int)} (hx:OpD fr x (dS ZM xs)):SY Tryz.prog ops hp ⟨dst,.build 25 #[(0,x)],ty,ps,af,g⟩ fr (ZEP [dS ZM xs,dX (.slice none 0 0)]):=SY.val fun {I w a} ho=>by
 have h1:ZM I w (a.eval x) xs:=hx.get (by simp[Op.operands]) ho;have h1':=h1;obtain⟨ad,c,hv,_⟩:=h1';rw[hv] at h1;have hm:∀ad n c w,(Instr.build 25 #[(0,.slice ad n c)]).run Tryz.prog w = .ok (.agg #[.slice ad n c,.slice none 0 0]) w:=by intro ad n c w;go_simp
 refine⟨.agg #[.slice ad xs.length c,.slice none 0 0],?_,[_,_],rfl,rfl,by simp[Value.oneCell'],fun k c d hc hd=>?_⟩
 ·unfold execOp;simp only[List.map_toArray,List.map_cons,List.map_nil,hv,Sem.run_bind,hm,Result.andThen_ok,Sem.run_pure]
 ·match k,hc,hd with
  | 0,hc,hd=>cases hc;cases hd;exact h1
  | 1,hc,hd=>cases hc;cases hd;rfl
end
end
end Go.Proofs.YtofkoleingbbpaaGreatDoor
