/- Part 11: walks by contracts, and plain laws. -/
import Derived.Test.YtlgmojhmmbhgfaaGreatDoorVg10
set_option linter.unusedVariables false
set_option linter.unusedSimpArgs false
set_option linter.unusedSectionVars false
set_option maxRecDepth 100000
set_option maxHeartbeats 4000000
namespace Go.Proofs.YtlgmojhmmbhgfaaGreatDoor
section
open Go.RowKit
def Zp (b:Nat) (T:TypeId) (ds:List Dat):HObj where
 blk:=some b
 ok:=fun P w=>∃ cs:List Value,w.heap[b]?=some (.cells cs.toArray T)/\cs.length=ds.length/\(∀ c∈cs,c.oneCell'=true)/\∀ (k:Nat) (c:Value) (d:Dat),cs[k]?=some c->ds[k]?=some d->d.rd P w c
 weak:=fun h q=>by obtain ⟨cs,h1,h2,h3,h4⟩:=h;exact ⟨cs,h1,h2,h3,fun k c d hc hd=>d.weak (h4 k c d hc hd) q⟩
 bound:=fun h=>by obtain ⟨cs,h1,h2,h3,h4⟩:=h;exact ⟨cs,h1,h2,h3,fun k c d hc hd=>d.bound (h4 k c d hc hd)⟩
 move:=fun h hg hP hne=>by
  obtain ⟨cs,h1,h2,h3,h4⟩:=h
  have hlt:b<_:=(Array.getElem?_eq_some_iff.1 h1).1
  refine ⟨cs,(hg.block b hlt ?_).trans h1,h2,h3,fun k c d hc hd=>d.grown (h4 k c d hc hd) hg hP⟩
  rcases hne with h|h
  ·cases h
  ·exact h
def ZEC (ds:List Dat):Dat where
 rd:=fun P w v=>∃ cs:List Value,v = .agg cs.toArray/\cs.length=ds.length/\(∀ c∈cs,c.oneCell'=true)/\∀ (k:Nat) (c:Value) (d:Dat),cs[k]?=some c->ds[k]?=some d->d.rd P w c
 weak:=fun ⟨cs,h1,h2,h3,h4⟩ q=>⟨cs,h1,h2,h3,fun k c d hc hd=>d.weak (h4 k c d hc hd) q⟩
 move:=fun ⟨cs,h1,h2,h3,h4⟩ q=>⟨cs,h1,h2,h3,fun k c d hc hd=>d.move (h4 k c d hc hd) q⟩
 bound:=fun ⟨cs,h1,h2,h3,h4⟩=>⟨cs,h1,h2,h3,fun k c d hc hd=>d.bound (h4 k c d hc hd)⟩
theorem ZJW {ds:List Dat} {n:Nat} (hn:0<n) (hl:ds.length=n):(ZEC ds).Shape n true:=fun _ _ _ h=>by
 obtain ⟨cs,rfl,h2,h3,_⟩:=h
 exact ⟨cs,by omega,by omega,h3,rfl,rfl⟩
structure StrT (P:Program) (T:TypeId) (n:Nat):Prop where
 fld:∀ b off i w,i<n->(Instr.fieldAt T (.pointer (some ⟨b,off,none⟩)) i).run P w = .ok (.pointer (some ⟨b,off+i,none⟩)) w
section
variable {P:Program} {ops:Array Oper} {hp:List HObj} {fr:List Dat} {d:Dat} {Q:ZAL} {rest:List Oper}
variable {dst:Option Tmp} {ty:TypeId} {ps:String} {af:Array Edge} {g:Option (Nat × Bool)} {T T1 T2:TypeId} {b off k n:Nat} {ds ds':List Dat}
theorem ZAZ {zs:List Value} (hz:TyZ P T (.agg zs.toArray)) (hn:0<zs.length) (h1:∀ c∈zs,c.oneCell'=true) (h:∀ b,WL P ops Q rest (ZB fr dst (dX (.pointer (some ⟨b,0,none⟩)))) (Zp b T (zs.map dX)::hp)) :
  WL P ops Q (⟨dst,.alloc T,ty,ps,af,none⟩::rest) fr hp :=
 WL.alloc (n:=zs.length) (agg:=true) hz (fun _ _ _ q=>by cases (q:_=_);exact ⟨zs,rfl,hn,h1,rfl,rfl⟩) fun b=>WL.of fun P0 B w0 w a hh hf=>by
  obtain ⟨cs,u,c1,c2,c0,c3,c4,c5⟩:=hh.ok (ZQ b T zs.length true (dX (.agg zs.toArray))) (by simp)
  have hu:u = .agg zs.toArray:=c5
  simp only [if_true] at c4
  rw [hu] at c4
  have hcs:zs=cs:=by injection c4 with c4;exact List.toArray_inj c4
  subst hcs
  have hgr:w.grownBy w (ZQ b T zs.length true (dX (.agg zs.toArray))).blk:=⟨rfl,rfl,rfl,Nat.le_refl _,fun _ _ _=>rfl⟩
  have hok:(Zp b T (zs.map dX)).ok (fun k=>Imm P0 B (ZQ b T zs.length true (dX (.agg zs.toArray))::hp) k/\k<w.heap.size) w :=
   ⟨zs,c1,by simp,h1,fun k c d hc hd=>by
    rw [List.getElem?_map,hc] at hd
    cases hd
    rfl⟩
  exact (h b).on (hh.write hgr (.inl rfl) hok) (hf.mono fun _ _ hd=>ZM (o':=Zp b T (zs.map dX)) hgr (.inl rfl) hd)
theorem Ze {x:Operand} {i:Nat} (S:StrT P T n) (hx:OpD fr x (dX (.pointer (some ⟨b,off,none⟩)))) (hi:i<n) :
  SY P ops hp ⟨dst,.fieldAddr T x i,ty,ps,af,g⟩ fr (dX (.pointer (some ⟨b,off+i,none⟩))):=SY.val fun {I w a} ho=>by
 have h1:a.eval x=_:=hx.get (by simp [Op.operands]) ho
 refine ⟨_,?_,rfl⟩
 unfold execOp
 simp only [h1,Sem.run_bind,S.fld b off i w hi,Result.andThen_ok,Sem.run_pure]
theorem ZLr {I:Nat->Prop} {w:World} (h:(Zp b T2 ds).ok I w) (hk:ds[k]?=some d):∃ c,w.cell? ⟨b,k,none⟩=some c/\c.oneCell'=true/\d.rd I w c:=by
 obtain ⟨cs,c1,c2,c3,c4⟩:=h
 have hlt:=(List.getElem?_eq_some_iff.1 hk).1
 have hl:k<cs.length:=by omega
 exact ⟨cs[k],by simp [World.cell?,c1,hl],c3 _ (List.getElem_mem hl),c4 k _ d (List.getElem?_eq_getElem hl) hk⟩
theorem Zb {x:Operand} (T':TyI P T1 1 false) (hx:OpD fr x (dX (.pointer (some ⟨b,k,none⟩)))) (hm:Zp b T2 ds∈hp) (hk:ds[k]?=some d) :
  SY P ops hp ⟨dst,.load T1 x,ty,ps,af,g⟩ fr d:=ZAO fun {P0 B w0 w a} hh ho=>by
 have h1:a.eval x = .pointer (some ⟨b,k,none⟩):=hx.get (by simp [Op.operands]) ho
 obtain ⟨c,q1,q2,q3⟩:=ZLr (hh.ok _ hm) hk
 have hc:Cells (fun _=>True) w b k 1 false c:=by
  refine ⟨trivial,[c],rfl,by decide,by simp [q2],fun i c' hc=>?_,rfl⟩
  have hi:i=0:=by
   have:=(List.getElem?_eq_some_iff.1 hc).1
   simp at this;exact this
  subst hi
  cases hc
  exact q1
 refine ⟨c,w,?_,Ext.refl _,q3⟩
 unfold execOp
 simp only [h1,Sem.run_bind,ZA3 T' hc,Result.andThen_ok,Sem.run_pure]
theorem ZAr {x:Operand} (T':TyI P T1 n true) (hx:OpD fr x (dX (.pointer (some ⟨b,0,none⟩)))) (hm:Zp b T2 ds∈hp) (hn:0<n) (hl:ds.length=n) :
  SY P ops hp ⟨dst,.load T1 x,ty,ps,af,g⟩ fr (ZEC ds):=ZAO fun {P0 B w0 w a} hh ho=>by
 have h1:a.eval x = .pointer (some ⟨b,0,none⟩):=hx.get (by simp [Op.operands]) ho
 obtain ⟨cs,c1,c2,c3,c4⟩:=hh.ok _ hm
 have hc:Cells (fun _=>True) w b 0 n true (.agg cs.toArray):=by
  refine ⟨trivial,cs,by omega,hn,c3,fun j c hc=>?_,rfl⟩
  simp [World.cell?,c1,hc]
 refine ⟨_,w,?_,Ext.refl _,cs,rfl,c2,c3,c4⟩
 unfold execOp
 simp only [h1,Sem.run_bind,ZA3 T' hc,Result.andThen_ok,Sem.run_pure]
theorem Z1 {t:Nat} {x:Operand} (T':TyI P T1 1 false) (hp0:OpD fr (.tmp t) (dX (.pointer (some ⟨b,k,none⟩)))) (hx:OpD fr x d) (hs:d.Shape 1 false) (hk:k<ds.length)
  (h:WL P ops Q rest (ZB fr dst (dX undef)) (Zp b T2 (ds.set k d)::hp)) :
  WL P ops Q (⟨dst,.store T1 (.tmp t) x,ty,ps,af,none⟩::rest) fr (Zp b T2 ds::hp):=by
 refine WL.of fun P0 B w0 w a hh hf=>?_
 obtain ⟨cs,c1,c2,c3,c4⟩:=hh.ok (Zp b T2 ds) (by simp)
 have h1:a.eval (.tmp t)=_:=hp0.ev hf
 have hd:d.rd (Imm P0 B (Zp b T2 ds::hp)) w (a.eval x):=hx.ev hf
 obtain ⟨us,u1,u0,u2,u3,u4⟩:=hs _ _ _ hd
 obtain ⟨u,rfl⟩:∃ u,us=[u]:=List.length_eq_one_iff.1 u1
 have hu:a.eval x=u:=by
  simp only [Bool.false_eq_true,if_false] at u4
  exact (List.cons.inj u4).1.symm
 have hone:u.oneCell'=true:=u2 u (by simp)
 have hdu:d.rd (Imm P0 B (Zp b T2 ds::hp)) w u:=by rw [hu] at hd;exact hd
 have hkc:k<cs.length:=by omega
 have hset:=setCell_eq_setRow w b k cs.toArray T2 (0,0) u c1
 have hc:w.cell? ⟨b,k,none⟩=some cs[k]:=by simp [World.cell?,c1,hkc]
 have hfz:w.frozen? ⟨b,k,none⟩=false:=by simp [World.frozen?,c1]
 have hst:(store ((⟨b,k,none⟩:Addr).add 0) u).run P w = .ok () (w.setCell ⟨b,k,none⟩ u):=by
  rw [show ((⟨b,k,none⟩:Addr).add 0)=⟨b,k,none⟩ from rfl,run_store P w _ u _ hone,hc]
  simp [hfz]
 have hsz:(sizeOf T1).run P w = .ok 1 w:=by
  have h5:=T'.size
  cases hq:P.info? T1 with
  | none=>rw [hq] at h5;cases h5
  | some i =>
   rw [hq] at h5
   have:i.size=1:=by simpa using h5
   rw [<- this]
   rw [run_sizeOf w hq]
   simp [Program.cellsOf,hq]
 have hw:w.setCell ⟨b,k,none⟩ u=w.setRow b (cs.set k u).toArray:=by rw [hset];simp
 have hrun:(execOp a.eval ⟨dst,.store T1 (.tmp t) x,ty,ps,af,none⟩).run P w = .ok .skip (w.setRow b (cs.set k u).toArray):=by
  rw [<- hw]
  unfold execOp
  simp only [h1,hu,Instr.storeAt,Instr.sureAddr,storeVar,Sem.run_bind,hsz,Result.andThen_ok,Sem.run_pure]
  simp [ZB9 hone,storeCells,hst]
 refine wpList_plain rfl fun K hK=>?_
 unfold Oper.wp
 rw [hrun]
 have hgr:w.grownBy (w.setRow b (cs.set k u).toArray) (Zp b T2 ds).blk:=ZAj
 have hok:(Zp b T2 (ds.set k d)).ok (fun j=>Imm P0 B (Zp b T2 ds::hp) j/\j<w.heap.size) (w.setRow b (cs.set k u).toArray):=by
  refine ⟨cs.set k u,setRow_heap w b _ _ _ _ c1,by simp [c2],fun c hc=>?_,fun j c e hc he=>?_⟩
  ·rcases List.mem_or_eq_of_mem_set hc with hc|rfl
   ·exact c3 c hc
   ·exact hone
  ·rw [List.getElem?_set] at hc he
   by_cases hjk:k=j
   ·rw [if_pos hjk,if_pos (by omega)] at hc he
    cases hc;cases he
    exact d.grown (d.bound hdu) hgr fun j q hj=>hj.1.2 (Zp b T2 ds) (by simp) q
   ·rw [if_neg hjk] at hc he
    exact e.grown (e.bound (c4 j c e hc he)) hgr fun j q hj=>hj.1.2 (Zp b T2 ds) (by simp) q
 exact hK _ _ (h.on (hh.write hgr (.inl rfl) hok) (Fr.put (hf.mono fun _ _ hd=>ZM (o':=Zp b T2 (ds.set k d)) hgr (.inl rfl) hd) (d:=dX undef) rfl))
theorem ZAG {t:Nat} {x:Operand} (T':TyI P T1 n true) (hp0:OpD fr (.tmp t) (dX (.pointer (some ⟨b,0,none⟩)))) (hx:OpD fr x (ZEC ds')) (hl:ds.length=n) (hl':ds'.length=n)
  (h:WL P ops Q rest (ZB fr dst (dX undef)) (Zp b T2 ds'::hp)) :
  WL P ops Q (⟨dst,.store T1 (.tmp t) x,ty,ps,af,none⟩::rest) fr (Zp b T2 ds::hp):=by
 refine WL.of fun P0 B w0 w a hh hf=>?_
 obtain ⟨cs,c1,c2,c3,c4⟩:=hh.ok (Zp b T2 ds) (by simp)
 have h1:a.eval (.tmp t)=_:=hp0.ev hf
 obtain ⟨us,u1,u2,u3,u4⟩:=(hx.ev hf:(ZEC ds').rd (Imm P0 B (Zp b T2 ds::hp)) w (a.eval x))
 have hr:=ZB7 (u:=a.eval x) (cs:=cs) (cs':=us) T'.size c1 (by omega) (by omega) u3 (by rw [u1];rfl)
 have hrun:(execOp a.eval ⟨dst,.store T1 (.tmp t) x,ty,ps,af,none⟩).run P w = .ok .skip (w.setRow b us.toArray):=by
  unfold execOp
  simp only [h1,Sem.run_bind,hr,Result.andThen_ok,Sem.run_pure]
 refine wpList_plain rfl fun K hK=>?_
 unfold Oper.wp
 rw [hrun]
 have hgr:w.grownBy (w.setRow b us.toArray) (Zp b T2 ds).blk:=ZAj
 have hok:(Zp b T2 ds').ok (fun j=>Imm P0 B (Zp b T2 ds::hp) j/\j<w.heap.size) (w.setRow b us.toArray) :=
  ⟨us,setRow_heap w b _ _ _ _ c1,u2,u3,fun j c e hc he=>e.grown (e.bound (u4 j c e hc he)) hgr fun j q hj=>hj.1.2 (Zp b T2 ds) (by simp) q⟩
 exact hK _ _ (h.on (hh.write hgr (.inl rfl) hok) (Fr.put (hf.mono fun _ _ hd=>ZM (o':=Zp b T2 ds') hgr (.inl rfl) hd) (d:=dX undef) rfl))
end
def R3 {α β γ:Type} (R:Rel α) (S:Rel β) (T:Rel γ):Rel (α × β × γ):=fun P w v x=>∃ u u' u'',v = .agg #[u,u',u'']/\(u.oneCell'=true/\u'.oneCell'=true/\u''.oneCell'=true)/\R P w u x.1/\S P w u' x.2.1/\T P w u'' x.2.2
instance {α β γ:Type} (R:Rel α) (S:Rel β) (T:Rel γ) [Good R] [Good S] [Good T]:Good (R3 R S T) where
 weak:=fun ⟨u,u',u'',h1,h0,h2,h3,h4⟩ q=>⟨u,u',u'',h1,h0,Good.weak h2 q,Good.weak h3 q,Good.weak h4 q⟩
 move:=fun ⟨u,u',u'',h1,h0,h2,h3,h4⟩ q=>⟨u,u',u'',h1,h0,Good.move h2 q,Good.move h3 q,Good.move h4 q⟩
 bound:=fun ⟨u,u',u'',h1,h0,h2,h3,h4⟩=>⟨u,u',u'',h1,h0,Good.bound h2,Good.bound h3,Good.bound h4⟩
section
variable {α β γ:Type} {R:Rel α} {S:Rel β} {T:Rel γ} [Good R] [Good S] [Good T] {x:α} {y:β} {z:γ}
theorem Zn {p:α × β × γ}:(dS (R3 R S T) p).Shape 3 true:=fun _ _ _ h=>by
 obtain ⟨u,u',u'',rfl,⟨h0,h1,h2⟩,_⟩:=h
 exact ⟨[u,u',u''],rfl,by omega,fun c hc=>by
  simp only [List.mem_cons,List.not_mem_nil,or_false] at hc
  rcases hc with rfl|rfl|rfl <;> assumption,rfl,rfl⟩
theorem ZFy:(ZEC [dS R x,dS S y,dS T z]).le (dS (R3 R S T) (x,y,z)):=fun _ _ _ h=>by
 obtain ⟨cs,rfl,h2,h3,h4⟩:=h
 match cs,h2 with
 | [u,u',u''],_=>exact ⟨u,u',u'',rfl,⟨h3 u (by simp),h3 u' (by simp),h3 u'' (by simp)⟩,h4 0 u _ rfl rfl,h4 1 u' _ rfl rfl,h4 2 u'' _ rfl rfl⟩
theorem ZC7 {p:α × β × γ}:(dS (R3 R S T) p).le (ZEC [dS R p.1,dS S p.2.1,dS T p.2.2]):=fun _ _ _ h=>by
 obtain ⟨u,u',u'',rfl,⟨h0,h1,h2⟩,h3,h4,h5⟩:=h
 refine ⟨[u,u',u''],rfl,rfl,fun c hc=>?_,fun k c d hc hd=>?_⟩
 ·simp only [List.mem_cons,List.not_mem_nil,or_false] at hc
  rcases hc with rfl|rfl|rfl <;> assumption
 ·match k,hc,hd with
  | 0,hc,hd=>cases hc;cases hd;exact h3
  | 1,hc,hd=>cases hc;cases hd;exact h4
  | 2,hc,hd=>cases hc;cases hd;exact h5
end
end
section
open Go.RowKit
def dLow (b:Nat) (d:Dat):Dat:=⟨fun P w v=>d.rd (fun k=>P k/\k<b) w v,fun h q=>d.weak h fun k hk=>⟨q k hk.1,hk.2⟩,fun h q=>d.move h fun k hk hl=>q k hk.1 hl,fun h=>d.weak (d.bound h) fun k hk=>⟨⟨hk.1.1,hk.2⟩,hk.1.2⟩⟩
theorem ZNk {b:Nat} {d:Dat}:(dLow b d).le d:=fun _ _ _ h=>d.weak h fun _ hk=>hk.1
def ZPT (b:Nat) (d:Dat):Prop:=∀ (P:Nat->Prop) (w w':World) (v:Value),d.rd P w v->(∀ k,k<b->k<w.heap.size->w'.heap[k]?=w.heap[k]?)->d.rd P w' v
theorem ZIB {b:Nat} {d:Dat}:ZPT b (dLow b d):=fun _ _ _ _ h q=>d.move h fun k hk hl=>q k hk.2 hl
theorem ZO8 {b:Nat} {v:Value}:ZPT b (dX v):=fun _ _ _ _ h _=>h
theorem ZO6 {b:Nat} {n:Int}:ZPT b (dI n):=fun _ _ _ _ h _=>h
theorem ZO5 {b:Nat} {n:Bool}:ZPT b (dB n):=fun _ _ _ _ h _=>h
theorem ZO4 {b:Nat}:ZPT b dA:=fun _ _ _ _ _ _=>trivial
theorem ZO7 {b:Nat} {x:Int × Int}:ZPT b (dS RV x):=fun _ _ _ _ h _=>h
structure SafeO (e:TypeId) (b:Nat) (o:HObj):Prop where
 kept:∀ (P:Nat->Prop) (w w':World),o.ok P w->o.blk≠some b->(∀ k,k<b->k<w.heap.size->w'.heap[k]?=w.heap[k]?)->Lib.OthersKept e (some b) w w'->o.ok P w'
 kind:∀ (P:Nat->Prop) (w:World) (k:Nat),o.ok P w->o.blk=some k->∃ cs T fz,w.heap[k]?=some (.cells cs T fz)/\T≠e
theorem ZRG {e T:TypeId} {b c:Nat} {ds:List Dat} (hT:T≠e) (h:∀ d∈ds,ZPT b d):SafeO e b (Zp c T ds) :=
 ⟨fun _ _ _ ⟨cs,c1,c2,c3,c4⟩ hne hb hk=>⟨cs,hk c _ c1 (fun he=>hne he) (fun _ _ he=>by cases he;exact hT rfl),c2,c3,fun k u d hu hd=>h d (List.mem_of_getElem? hd) _ _ _ _ (c4 k u d hu hd) hb⟩,
  fun _ _ _ ⟨_,c1,_,_,_⟩ hk=>by cases hk;exact ⟨_,_,_,c1,hT⟩⟩
def ZHm (b:Nat) (T e:TypeId) (l:List UInt8):HObj where
 blk:=some b
 ok:=fun P w=>∃ p v,(p = .pointer none\/p = .pointer (some ⟨b,0,none⟩))/\w.heap[b]?=some (.cells #[p,v] T (0,0))/\w.ownsRowF b e 1 v (Lib.byteCells l).length (Lib.byteCells l)/\v.ownBlock≠some b/\∀ g,v.ownBlock=some g->P g
 weak:=fun h q=>by
  obtain ⟨p,v,h1,h2,h3,h4,h5⟩:=h
  exact ⟨p,v,h1,h2,h3,h4,fun g hg=>q g (h5 g hg)⟩
 bound:=fun h=>by
  obtain ⟨p,v,h1,h2,h3,h4,h5⟩:=h
  exact ⟨p,v,h1,h2,h3,h4,fun g hg=>⟨h5 g hg,(h3.lt g hg).2⟩⟩
 move:=fun {P w w' row} h hg hP hne=>by
  obtain ⟨p,v,h1,h2,h3,h4,h5⟩:=h
  have hlt:b<w.heap.size:=(Array.getElem?_eq_some_iff.1 h2).1
  refine ⟨p,v,h1,(hg.block b hlt ?_).trans h2,h3.kept hg ?_,h4,h5⟩
  ·rcases hne with h|h
   ·cases h
   ·exact h
  ·cases hv:v.ownBlock with
   | none=>exact .inl rfl
   | some g=>exact .inr fun he=>hP g he.symm (h5 g hv)
section
variable {P:Program} {ops:Array Oper} {hp:List HObj} {fr:List Dat} {Q:ZAL} {rest:List Oper}
variable {dst:Option Tmp} {ty:TypeId} {ps:String} {af:Array Edge} {g:Option (Nat × Bool)} {T e:TypeId} {b:Nat} {l:List UInt8}
theorem ZEJ (t:Nat) (h:WL P ops Q rest (fr.set t dA) hp):WL P ops Q rest fr hp:=WL.of fun P0 B w0 w a hh hf=>h.on hh (hf.weak (by simp) fun k d hd=>by
 rw [List.getElem?_set] at hd
 by_cases hk:t=k
 ·rw [if_pos hk] at hd
  split at hd
  ·rename_i hl
   cases hd
   exact ⟨fr[t],by rw [<- hk];exact List.getElem?_eq_getElem hl,ZGp _⟩
  ·cases hd
 ·rw [if_neg hk] at hd
  exact ⟨d,hd,Dat.le_refl d⟩)
theorem ZJu (hz:TyZ P T (.agg #[.pointer none,.slice none 0 0])) (h:∀ b,WL P ops Q rest (ZB (fr.map (dLow b)) dst (dX (.pointer (some ⟨b,0,none⟩)))) [ZHm b T e []]) :
  WL P ops Q (⟨dst,.alloc T,ty,ps,af,none⟩::rest) fr []:=by
 refine WL.of fun P0 B w0 w a hh hf=>?_
 have hrun:(execOp a.eval ⟨dst,.alloc T,ty,ps,af,none⟩).run P w = .ok (.value (.pointer (some ⟨w.heap.size,0,none⟩))) (w.alloc (.cells #[.pointer none,.slice none 0 0] T)):=by
  cases hq:P.info? T with
  | none=>have:=hz.out;simp [hq] at this
  | some i =>
   have hz':i.zero=some (.agg #[.pointer none,.slice none 0 0]):=by have:=hz.out;simpa [hq] using this
   unfold execOp
   simp [Instr.alloc,zeroValue,typeInfo,hq,hz',newVar,newRow]
   rfl
 refine Zl rfl hrun ?_
 have hx:=Ext.of_alloc w (.cells #[.pointer none,.slice none 0 0] T)
 have hb:∀ k,(ZHm w.heap.size T e []).blk=some k->w.heap.size≤k/\k<(w.alloc (.cells #[.pointer none,.slice none 0 0] T)).heap.size:=fun k hk=>by
  cases hk
  exact ⟨Nat.le_refl _,by simp⟩
 have hf2:Fr (Imm P0 B [ZHm w.heap.size T e []]) (w.alloc (.cells #[.pointer none,.slice none 0 0] T)) a (fr.map (dLow w.heap.size)):=by
  refine ⟨hf.defers,by simpa using hf.size,fun t d hd=>?_⟩
  rw [List.getElem?_map] at hd
  cases ht:fr[t]? with
  | none=>rw [ht] at hd;cases hd
  | some d0 =>
   rw [ht] at hd
   cases hd
   have h1:=d0.bound (hf.rd t d0 ht)
   have h2:=Dat.ext h1 hx
   refine d0.weak h2 fun k hk=>⟨⟨hk.1.1,fun q hq hqk=>?_⟩,hk.2⟩
   cases List.mem_singleton.1 hq
   cases hqk
   exact absurd hk.2 (Nat.lt_irrefl _)
 exact (h w.heap.size).on (hh.push hx hb ⟨_,_,.inl rfl,Zk w _,World.ownsRowF_nil _ _ _ _,(by simp [Value.ownBlock]),fun g hg=>by simp [Value.ownBlock] at hg⟩) (Fr.put hf2 rfl)
theorem ZRZ {P0:Nat->Prop} {B:Nat} {w0 w w':World} {l l':List UInt8} (hh:Hp P0 B w0 (ZHm b T e l::hp) w) (hs:∀ o∈hp,SafeO e b o)
  (hI:Lib.IsBuilderF T e b b (Lib.byteCells l') w') (hb:Below b w w') (hk:Lib.OthersKept e (some b) w w'):Hp P0 B w0 (ZHm b T e l'::hp) w':=by
 have hBb:=(hh.own (ZHm b T e l) (by simp) b rfl).1
 have hq:∀ k,k<b->k<w.heap.size->w'.heap[k]?=w.heap[k]?:=fun k h1 _=>hb.block k h1
 have hap:=List.pairwise_cons.1 hh.apart
 have hne:∀ o∈hp,o.blk≠some b:=fun o ho=>hap.1 o ho b rfl
 refine ⟨hh.base,?_,?_,?_,List.pairwise_cons.2 ⟨fun o ho k hk=>hap.1 o ho k hk,hap.2⟩⟩
 ·exact hh.below.trans (hb.mono hBb)
 ·intro o ho k hok
  rcases List.mem_cons.1 ho with rfl|ho
  ·cases hok
   exact ⟨hBb,Nat.lt_of_lt_of_le (hh.own (ZHm b T e l) (by simp) b rfl).2 hb.size⟩
  ·have:=hh.own o (List.mem_cons_of_mem _ ho) k hok
   exact ⟨this.1,Nat.lt_of_lt_of_le this.2 hb.size⟩
 ·intro o ho
  rcases List.mem_cons.1 ho with rfl|ho
  ·obtain ⟨p,v,hp1,hA⟩:∃ p v,(p = .pointer none\/p = .pointer (some ⟨b,0,none⟩))/\w'.heap[b]?=some (.cells #[p,v] T (0,0))/\w'.ownsRowF b e 1 v (Lib.byteCells l').length (Lib.byteCells l')/\v.ownBlock≠some b:=by
    rcases hI with ⟨_,v,h1,h2,h3⟩|⟨_,v,h1,h2,h3⟩
    ·exact ⟨_,v,.inl rfl,h1,h2,h3⟩
    ·exact ⟨_,v,.inr rfl,h1,h2,h3⟩
   refine ⟨p,v,hp1,hA.1,hA.2.1,hA.2.2,fun g hg=>⟨.inr (Nat.le_trans hBb (hA.2.1.lt g hg).1),fun q hq2 hqk=>?_⟩⟩
   rcases List.mem_cons.1 hq2 with rfl|hq2
   ·cases hqk
    exact hA.2.2 hg
   ·have hok:=hh.ok q (List.mem_cons_of_mem _ hq2)
    have hok':=(hs q hq2).kept _ _ _ hok (hne q hq2) hq hk
    obtain ⟨cs,T',fz,h1,h2⟩:=(hs q hq2).kind _ _ _ hok' hqk
    obtain ⟨c,fz',h3⟩:=Lib.ownsRowF_kind hA.2.1 g hg
    rw [h1] at h3
    cases h3
    exact h2 rfl
  ·have hok:=hh.ok o (List.mem_cons_of_mem _ ho)
   exact o.weak ((hs o ho).kept _ _ _ hok (hne o ho) hq hk) fun k hk=>⟨hk.1,fun q hq2=>by
    rcases List.mem_cons.1 hq2 with rfl|hq2
    ·exact hk.2 (ZHm b T e l) (by simp)
    ·exact hk.2 q (List.mem_cons_of_mem _ hq2)⟩
theorem ZRY {P0:Nat->Prop} {B:Nat} {w w':World} {a:Act} {l l':List UInt8} (hf:Fr (Imm P0 B (ZHm b T e l::hp)) w a fr) (hfr:∀ d∈fr,ZPT b d) (hb:Below b w w'):Fr (Imm P0 B (ZHm b T e l'::hp)) w' a fr :=
 ⟨hf.defers,hf.size,fun t d hd=>d.weak (hfr d (List.mem_of_getElem? hd) _ _ _ _ (hf.rd t d hd) fun k h1 _=>hb.block k h1) fun k hk=>⟨hk.1,fun q hq2=>by
  rcases List.mem_cons.1 hq2 with rfl|hq2
  ·exact hk.2 (ZHm b T e l) (by simp)
  ·exact hk.2 q (List.mem_cons_of_mem _ hq2)⟩⟩
theorem ZRa {I:Nat->Prop} {w:World} (h:(ZHm b T e l).ok I w):Lib.IsBuilderF T e b b (Lib.byteCells l) w:=by
 obtain ⟨p,v,hp1,h1,h2,h3,_⟩:=h
 rcases hp1 with rfl|rfl
 ·exact .inl ⟨Nat.le_refl _,v,h1,h2,h3⟩
 ·exact .inr ⟨Nat.le_refl _,v,h1,h2,h3⟩
theorem ZSH {f:FuncId} {x y:Operand} {ats:Array TypeId} {s:List UInt8}
  (hF:∀ (B b:Nat) (bs:List Value) (s:ByteArray) (w:World),Lib.IsBuilderF T e B b bs w->bs.length+s.size≤140737488355328->B≤w.heap.size->Calls P f #[.pointer (some ⟨b,0,none⟩),.string s] w fun r w'=>r = .returned (.tuple #[.int .i64 s.size,.nilIface])/\(Lib.BuilderAtF T e B b (.pointer (some ⟨b,0,none⟩)) (bs++Lib.strCells s) w'/\Below B w w'/\Lib.OthersKept e (some b) w w'))
  (hf:∀ (args:Array Value) (w:World),(callFunc f args).run P w = .ok (.enter f args) w) (hx:OpD fr x (dX (.pointer (some ⟨b,0,none⟩)))) (hy:OpD fr y (dX (.string ⟨s.toArray⟩)))
  (hlen:l.length+s.length≤140737488355328) (hfr:∀ d∈fr,ZPT b d) (hs:∀ o∈hp,SafeO e b o) (h:WL P ops Q rest (ZB fr dst dA) (ZHm b T e (l++s)::hp)) :
  WL P ops Q (⟨dst,.call { callee:=.value (.func f),args:=#[x,y],argTypes:=ats },ty,ps,af,none⟩::rest) fr (ZHm b T e l::hp):=by
 refine WL.of fun P0 B w0 w a hh hf2=>?_
 have e1:a.eval x=_:=hx.ev hf2
 have e2:a.eval y=_:=hy.ev hf2
 refine wpList_plain rfl fun K hK=>?_
 unfold Oper.wp
 have hrun:(execOp a.eval ⟨dst,.call { callee:=.value (.func f),args:=#[x,y],argTypes:=ats },ty,ps,af,none⟩).run P w = .ok (.enter f #[.pointer (some ⟨b,0,none⟩),.string ⟨s.toArray⟩]) w:=by
  unfold execOp
  have ef:a.eval (.func f) = .func (.func f) #[] #[]:=rfl
  simp only [resolve]
  simp [ef,e1,e2,Deferred.ofValue,invoke,hf]
 rw [hrun]
 have hlt:=(hh.own (ZHm b T e l) (by simp) b rfl).2
 refine (hF b b (Lib.byteCells l) ⟨s.toArray⟩ w (ZRa (hh.ok _ (by simp))) (by rw [Lib.byteCells_length];simpa [ByteArray.size] using hlen) (Nat.le_of_lt hlt)).mono fun r w' hr=>?_
 obtain ⟨rfl,hA,hb,hk⟩:=hr
 rw [show Lib.strCells ⟨s.toArray⟩=Lib.byteCells s from rfl,<- Lib.byteCells_append] at hA
 exact hK _ _ (h.on (ZRZ hh hs (.inr hA) hb hk) (Fr.put (ZRY hf2 hfr hb) (d:=dA) trivial))
theorem ZPq {f:FuncId} {x:Operand} {ats:Array TypeId}
  (hF:∀ (B b:Nat) (l:List UInt8) (w:World),Lib.IsBuilderF T e B b (Lib.byteCells l) w->B≤w.heap.size->Calls P f #[.pointer (some ⟨b,0,none⟩)] w fun r w'=>r = .returned (.string ⟨l.toArray⟩)/\(Lib.IsBuilderF T e B b (Lib.byteCells l) w'/\Below B w w'/\Lib.OthersKept e (some b) w w'))
  (hf:∀ (args:Array Value) (w:World),(callFunc f args).run P w = .ok (.enter f args) w) (hx:OpD fr x (dX (.pointer (some ⟨b,0,none⟩))))
  (hfr:∀ d∈fr,ZPT b d) (hs:∀ o∈hp,SafeO e b o) (h:WL P ops Q rest (ZB fr dst (dX (.string ⟨l.toArray⟩))) (ZHm b T e l::hp)) :
  WL P ops Q (⟨dst,.call { callee:=.value (.func f),args:=#[x],argTypes:=ats },ty,ps,af,none⟩::rest) fr (ZHm b T e l::hp):=by
 refine WL.of fun P0 B w0 w a hh hf2=>?_
 have e1:a.eval x=_:=hx.ev hf2
 refine wpList_plain rfl fun K hK=>?_
 unfold Oper.wp
 have hrun:(execOp a.eval ⟨dst,.call { callee:=.value (.func f),args:=#[x],argTypes:=ats },ty,ps,af,none⟩).run P w = .ok (.enter f #[.pointer (some ⟨b,0,none⟩)]) w:=by
  unfold execOp
  have ef:a.eval (.func f) = .func (.func f) #[] #[]:=rfl
  simp only [resolve]
  simp [ef,e1,Deferred.ofValue,invoke,hf]
 rw [hrun]
 have hlt:=(hh.own (ZHm b T e l) (by simp) b rfl).2
 refine (hF b b l w (ZRa (hh.ok _ (by simp))) (Nat.le_of_lt hlt)).mono fun r w' hr=>?_
 obtain ⟨rfl,hA,hb,hk⟩:=hr
 exact hK _ _ (h.on (ZRZ hh hs hA hb hk) (Fr.put (ZRY hf2 hfr hb) (d:=dX (.string ⟨l.toArray⟩)) rfl))
theorem ZMj {x y:Operand} {T2:TypeId} {s t:List UInt8} (hx:OpD fr x (dX (.string ⟨s.toArray⟩))) (hy:OpD fr y (dX (.string ⟨t.toArray⟩))) (hl:s.length+t.length≤4611686018427387904) :
  SY P ops hp ⟨dst,.binOp .add T x y T2,ty,ps,af,g⟩ fr (dX (.string ⟨(s++t).toArray⟩)) :=
 SY.val fun {I w a} ho=>⟨.string ⟨(s++t).toArray⟩,by
  have h1:a.eval x = .string ⟨s.toArray⟩:=hx.get (by simp [Op.operands]) ho
  have h2:a.eval y = .string ⟨t.toArray⟩:=hy.get (by simp [Op.operands]) ho
  unfold execOp
  simp [h1,h2,Go.binOp,eqGuard,Op.stringOp]
  have e1:(⟨s.toArray⟩:ByteArray).size=s.length:=by simp [ByteArray.size]
  have e2:(⟨t.toArray⟩:ByteArray).size=t.length:=by simp [ByteArray.size]
  rw [e1,e2,if_neg (by omega)]
  have e3:(⟨s.toArray⟩:ByteArray)++⟨t.toArray⟩=⟨(s++t).toArray⟩:=by
   apply ByteArray.ext
   simp
  rw [e3],rfl⟩
end
end
section
open Go.RowKit

theorem elV:ElT Tryz.prog 28 43 2 (.agg #[.int .i64 0,.int .i64 0]) 16 true:=⟨Tryz.underlying28,by kernel_rfl,Tryz.isAgg43,rfl⟩
theorem ZBx:ElT Tryz.prog 22 28 1 (.slice none 0 0) 24 false:=⟨Tryz.underlying22,by kernel_rfl,Tryz.isAgg28,rfl⟩
theorem elI:ElT Tryz.prog 50 3 1 (.int .i64 0) 8 false:=⟨Tryz.underlying50,by kernel_rfl,Tryz.isAgg3,rfl⟩
theorem tyV:TyI Tryz.prog 43 2 true:=⟨by kernel_rfl,Tryz.isAgg43⟩
theorem ZCM:TyI Tryz.prog 28 1 false:=⟨by kernel_rfl,Tryz.isAgg28⟩
theorem tyI:TyI Tryz.prog 3 1 false:=⟨by kernel_rfl,Tryz.isAgg3⟩
theorem tyE:TyI Tryz.prog 31 1 false:=⟨by kernel_rfl,Tryz.isAgg31⟩
theorem tzV:TyZ Tryz.prog 43 (.agg #[.int .i64 0,.int .i64 0]):=⟨by kernel_rfl⟩
theorem vxT:VxT Tryz.prog 43:=by
 constructor
 ·intro b off w;go_simp
 ·intro b off w;go_simp
 ·intro x y p q p' q' w;go_simp;by_cases h:p=p' <;> by_cases h':q=q' <;> simp [h,h']
 ·intro x y p q p' q' w;go_simp;by_cases h:p=p' <;> by_cases h':q=q' <;> simp [h,h']
 ·intro p q w;go_simp
 ·intro p w;go_simp
 ·intro q w;go_simp
theorem eqBB:∀ (x y:Operand) (p q:Bool) w,(do eqGuard .eql 4 x y (.bool p) (.bool q);Go.binOp .eql 4 (.bool p) (.bool q)).run Tryz.prog w = .ok (.bool (p == q)) w:=by
 intro x y p q w;cases p <;> cases q <;> go_simp
theorem nqBB:∀ (x y:Operand) (p q:Bool) w,(do eqGuard .neq 4 x y (.bool p) (.bool q);Go.binOp .neq 4 (.bool p) (.bool q)).run Tryz.prog w = .ok (.bool (p != q)) w:=by
 intro x y p q w;cases p <;> cases q <;> go_simp
theorem ZNo:∀ (x y:Operand) ad m c w,(do eqGuard .eql 28 x y (.slice ad m c) (.slice none 0 0);Go.binOp .eql 28 (.slice ad m c) (.slice none 0 0)).run Tryz.prog w = .ok (.bool ad.isNone) w:=by
 intro x y ad m c w
 cases ad <;> (go_simp;try (unfold Go.binOp;simp only;unfold Op.equal Op.maxDepth Op.equalIn;simp [run_underlying Tryz.underlying28]))

end
section
open Go.RowKit
def R1 {α:Type} (R:Rel α):Rel α:=fun P w v x=>∃ u,v = .agg #[u]/\u.oneCell'=true/\R P w u x
instance {α:Type} (R:Rel α) [Good R]:Good (R1 R) where
 weak:=fun ⟨u,h1,h0,h2⟩ q=>⟨u,h1,h0,Good.weak h2 q⟩
 move:=fun ⟨u,h1,h0,h2⟩ q=>⟨u,h1,h0,Good.move h2 q⟩
 bound:=fun ⟨u,h1,h0,h2⟩=>⟨u,h1,h0,Good.bound h2⟩
abbrev Cpx:Rel (List (List (Int × Int))):=R1 Zc
theorem Zt {α:Type} {R:Rel α} [Good R] {x:α}:(dS (R1 R) x).Shape 1 true:=fun _ _ _ h=>by
 obtain ⟨u,rfl,h0,_⟩:=h
 exact ⟨[u],rfl,Nat.one_pos,fun c hc=>by rw [List.mem_singleton.1 hc];exact h0,rfl,rfl⟩
theorem Zy {u:Value} (h0:u.oneCell'=true):(dX (.agg #[u])).Shape 1 true:=fun _ _ _ h=>by
 cases (h:_=_)
 exact ⟨[u],rfl,Nat.one_pos,fun c hc=>by rw [List.mem_singleton.1 hc];exact h0,rfl,rfl⟩
theorem ZPV {α:Type} {R:Rel α} [Good R] {xs:List α}:∀ (I:Nat->Prop) (w:World) (v:Value),(dS (R1 (Arr R)) xs).rd I w v->xs.length≤maxLen:=fun _ _ _ h=>by obtain ⟨_,_,_,h⟩:=h;exact ZFI _ _ _ h
structure CpxT (P:Program) (T:TypeId):Prop where
 fld:∀ b off w,(Instr.fieldAt T (.pointer (some ⟨b,off,none⟩)) 0).run P w = .ok (.pointer (some ⟨b,off,none⟩)) w
 mkc:∀ a n c w,(Instr.build T #[(0,.slice a n c)]).run P w = .ok (.agg #[.slice a n c]) w
 mkc0:∀ w,(Instr.build T #[]).run P w = .ok (.agg #[.slice none 0 0]) w
theorem ZCt:CpxT Tryz.prog 24:=by
 constructor
 ·intro b off w;go_simp
 ·intro a n c w;go_simp
 ·intro w;go_simp
theorem tyC:TyI Tryz.prog 24 1 true:=⟨by kernel_rfl,Tryz.isAgg24⟩
theorem tzC:TyZ Tryz.prog 24 (.agg #[.slice none 0 0]):=⟨by kernel_rfl⟩
theorem ZCl:TyI Tryz.prog 22 1 false:=⟨by kernel_rfl,Tryz.isAgg22⟩
section
variable {P:Program} {ops:Array Oper} {hp:List HObj} {fr:List Dat} {d:Dat} {Q:ZAL} {rest:List Oper}
variable {dst:Option Tmp} {ty:TypeId} {ps:String} {af:Array Edge} {g:Option (Nat × Bool)} {T:TypeId} (V:CpxT P T)
include V
theorem Zs {α:Type} {R:Rel α} {_gR:Good R} {x:Operand} {xs:α} (hx:OpD fr x (dP 1 true (dS (R1 R) xs))):SY P ops hp ⟨dst,.fieldAddr T x 0,ty,ps,af,g⟩ fr (dP 1 false (dS R xs)):=SY.val fun {I w a} ho=>by
 obtain ⟨b,off,u,h1,⟨hb,cs,k1,k0,k2,k3,k4⟩,u0,hu,h0,h3⟩:=hx.get (by simp [Op.operands]) ho
 simp only [if_true] at k4
 rw [k4] at hu
 have hcs:cs=[u0]:=by injection hu with hu;exact List.toArray_inj hu
 subst hcs
 refine ⟨_,?_,b,off,u0,rfl,⟨hb,[u0],rfl,Nat.one_pos,by simp [h0],fun j c hc=>k3 j c hc,rfl⟩,h3⟩
 unfold execOp
 simp only [h1,Sem.run_bind,V.fld,Result.andThen_ok,Sem.run_pure]
theorem ZMl {x:Operand} {b:Nat} (hx:OpD fr x (dX (.pointer (some ⟨b,0,none⟩)))):SY P ops hp ⟨dst,.fieldAddr T x 0,ty,ps,af,g⟩ fr (dX (.pointer (some ⟨b,0,none⟩))):=SY.val fun {I w a} ho=>by
 have h1:a.eval x = .pointer (some ⟨b,0,none⟩):=hx.get (by simp [Op.operands]) ho
 refine ⟨_,?_,rfl⟩
 unfold execOp
 simp only [h1,Sem.run_bind,V.fld,Result.andThen_ok,Sem.run_pure]
theorem ZRV {α:Type} {R:Rel α} {_gR:Good R} {x:Operand} {xs:List α} (hx:OpD fr x (dS (Arr R) xs)):SY P ops hp ⟨dst,.build T #[(0,x)],ty,ps,af,g⟩ fr (dS (R1 (Arr R)) xs):=SY.val fun {I w a} ho=>by
 have h1:Arr R I w (a.eval x) xs:=hx.get (by simp [Op.operands]) ho
 have h2:=h1
 obtain ⟨ad,c,hv,_⟩:=h2
 rw [hv] at h1
 refine ⟨.agg #[.slice ad xs.length c],?_,_,rfl,rfl,h1⟩
 unfold execOp
 simp only [List.map_toArray,List.map_cons,List.map_nil,hv,Sem.run_bind,V.mkc,Result.andThen_ok,Sem.run_pure]
theorem ZSB:SY P ops hp ⟨dst,.build T #[],ty,ps,af,g⟩ fr (dS Cpx []):=SY.val fun {I w a} ho=>by
 refine ⟨.agg #[.slice none 0 0],?_,_,rfl,rfl,ZCo⟩
 unfold execOp
 simp only [List.map_toArray,List.map_nil,Sem.run_bind,V.mkc0,Result.andThen_ok,Sem.run_pure]
end
theorem ZFM {P:Program} {T:TypeId} {n:Nat} {agg:Bool} (T':TyI P T n agg) {I:Nat->Prop} {w:World} {b off:Nat} {u:Value} (h:Cells I w b off n agg u):(loadVar T ⟨b,off,none⟩).run P w = .ok u w:=by
 have h1:=ZA3 T' h
 simpa [Instr.loadAt,Instr.sureAddr] using h1
theorem ZCz {P:Program} {fn:Func} {t:Tmp} {T:TypeId} {n:Nat} {agg:Bool} (T':TyI P T n agg) (hr:fn.results=#[.cell t T]) {I:Nat->Prop} {w:World} {tmps:Array Value} {b off:Nat} {u:Value} (hp:tmps.getD t undef = .pointer (some ⟨b,off,none⟩)) (h:Cells I w b off n agg u):(results fn tmps).run P w = .ok u w:=by
 have h1:=ZFM T' h
 have hp':tmps[t]?.getD undef = .pointer (some ⟨b,off,none⟩):=by simpa using hp
 simp [results,hr,hp',asAddr,h1]
theorem ZBn {P:Program} {fn:Func} {t t2:Tmp} {T:TypeId} {n:Nat} {agg:Bool} (T':TyI P T n agg) (hr:fn.results=#[.cell t T,.tmp t2]) {I:Nat->Prop} {w:World} {tmps:Array Value} {b off:Nat} {u:Value} (hp:tmps.getD t undef = .pointer (some ⟨b,off,none⟩)) (h:Cells I w b off n agg u):(results fn tmps).run P w = .ok (.tuple #[u,tmps.getD t2 undef]) w:=by
 have h1:=ZFM T' h
 have hp':tmps[t]?.getD undef = .pointer (some ⟨b,off,none⟩):=by simpa using hp
 simp [results,hr,hp',asAddr,h1]
section
variable {P:Program} {hp:List HObj} {d:Dat}
def finC1 (t:Nat) (n:Nat) (agg:Bool) (res:Dat):ZAL:=fun e fr hp=>(match e with|.normal|.ret=>True|_=>False)/\∃ d,fr[t]?=some (dP n agg d)/\FinD hp d res
def finC2 (t u:Nat) (n:Nat) (agg:Bool) (r s:Dat):ZAL:=fun e fr hp=>(match e with|.normal|.ret=>True|_=>False)/\(∃ d,fr[t]?=some (dP n agg d)/\FinD hp d r)/\∃ d,fr[u]?=some d/\FinD hp d s
theorem ZEu {f:FuncId} {fn:Func} {c:Code} {args:List Dat} {res:Dat} {t:Tmp} {T:TypeId} {n:Nat} {agg:Bool} (T':TyI P T n agg) (hf:P.funcs[f]?=some fn) (hb:fn.body=some c) (hr:fn.results=#[.cell t T])
  (h:WC P (finC1 t n agg res) c (args++List.replicate (fn.ntmps-args.length) (dX undef)) []):Fn P f args res :=
 ZCp hf hb (fun e fr hp q=>by
  obtain ⟨he,d,hd,hfin⟩:=q
  refine ⟨by cases e <;> simp_all,fun {P0 B w0 w a} hh hf'=>?_⟩
  obtain ⟨b,off,u,h1,h2,h3⟩:=hf'.rd t _ hd
  exact ⟨u,ZCz T' hr h1 h2,hfin.out hh h3⟩) h
theorem ZAB {f:FuncId} {fn:Func} {c:Code} {args:List Dat} {r s:Dat} {t t2:Tmp} {T:TypeId} {n:Nat} {agg:Bool} (T':TyI P T n agg) (hf:P.funcs[f]?=some fn) (hb:fn.body=some c) (hr:fn.results=#[.cell t T,.tmp t2])
  (h:WC P (finC2 t t2 n agg r s) c (args++List.replicate (fn.ntmps-args.length) (dX undef)) []):Fn P f args (dT [r,s]) :=
 ZCp hf hb (fun e fr hp q=>by
  obtain ⟨he,⟨d,hd,hfin⟩,d',hd',hfin'⟩:=q
  refine ⟨by cases e <;> simp_all,fun {P0 B w0 w a} hh hf'=>?_⟩
  obtain ⟨b,off,u,h1,h2,h3⟩:=hf'.rd t _ hd
  refine ⟨_,ZBn T' hr h1 h2,[u,a.tmps.getD t2 undef],rfl,rfl,fun i e x he hx=>?_⟩
  match i,he,hx with
  | 0,he,hx=>cases he;cases hx;exact hfin.out hh h3
  | 1,he,hx=>cases he;cases hx;exact hfin'.out hh (hf'.rd t2 d' hd')) h
theorem ZMh {v:Value} {e:TypeId} {α:Type} {R:Rel α} [Good R] {xs:List α} (h:ZW v e R xs∈hp):FinD hp (dX (.agg #[v])) (dS (R1 (Arr R)) xs):=FinD.mk fun {P0 B w0 w u} hh hd=>by
 cases (hd:u=_)
 have h1:=(FinD.row h).out (v:=v) hh rfl
 have h2:=h1
 obtain ⟨a,c,hv,_⟩:=h2
 subst hv
 exact ⟨_,rfl,rfl,h1⟩
end
end
section
open Go.RowKit
def R2 {α β:Type} (R:Rel α) (S:Rel β):Rel (α × β):=fun P w v x=>∃ u u',v = .agg #[u,u']/\u.oneCell'=true/\u'.oneCell'=true/\R P w u x.1/\S P w u' x.2
instance {α β:Type} (R:Rel α) (S:Rel β) [Good R] [Good S]:Good (R2 R S) where
 weak:=fun ⟨u,u',h1,h0,h0',h2,h3⟩ q=>⟨u,u',h1,h0,h0',Good.weak h2 q,Good.weak h3 q⟩
 move:=fun ⟨u,u',h1,h0,h0',h2,h3⟩ q=>⟨u,u',h1,h0,h0',Good.move h2 q,Good.move h3 q⟩
 bound:=fun ⟨u,u',h1,h0,h0',h2,h3⟩=>⟨u,u',h1,h0,h0',Good.bound h2,Good.bound h3⟩
theorem ZO9 {α β:Type} {R:Rel α} {S:Rel β} [Good R] [Good S] {x:α × β}:(dS (R2 R S) x).Shape 2 true:=fun _ _ _ h=>by
 obtain ⟨u,u',rfl,h0,h0',_,_⟩:=h
 exact ⟨[u,u'],rfl,by omega,fun c hc=>by
  simp only [List.mem_cons,List.not_mem_nil,or_false] at hc
  rcases hc with rfl|rfl <;> assumption,rfl,rfl⟩
structure ColT (P:Program) (T:TypeId):Prop where
 fld0:∀ b off w,(Instr.fieldAt T (.pointer (some ⟨b,off,none⟩)) 0).run P w = .ok (.pointer (some ⟨b,off+0,none⟩)) w
 fld1:∀ b off w,(Instr.fieldAt T (.pointer (some ⟨b,off,none⟩)) 1).run P w = .ok (.pointer (some ⟨b,off+1,none⟩)) w
 mkp:∀ a n c a' n' c' w,(Instr.build T #[(0,.slice a n c),(1,.slice a' n' c')]).run P w = .ok (.agg #[.slice a n c,.slice a' n' c']) w
end
end Go.Proofs.YtlgmojhmmbhgfaaGreatDoor
