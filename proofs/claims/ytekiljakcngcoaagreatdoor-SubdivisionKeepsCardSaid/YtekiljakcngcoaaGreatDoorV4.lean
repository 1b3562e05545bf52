/- Part 4: walks by contracts, and plain laws. -/
import Derived.Test.YtekiljakcngcoaaGreatDoorV3
set_option linter.unusedVariables false
set_option linter.unusedSimpArgs false
set_option linter.unusedSectionVars false
set_option maxRecDepth 100000
set_option maxHeartbeats 4000000
namespace Go.Proofs.YtekiljakcngcoaaGreatDoor
section
open Go.RowKit

structure UndT (P:Program) (t e:TypeId):Prop where
 out:P.underlying t=some (.slice e)
theorem ElT.unt {P:Program} {t e:TypeId} {n bytes:Nat} {z:Value} {agg:Bool} (E:ElT P t e n z bytes agg):UndT P t e:=⟨E.und⟩
structure TyZ (P:Program) (T:TypeId) (z:Value):Prop where
 out:(P.info? T).map (·.zero)=some (some z)
structure TyI (P:Program) (T:TypeId) (n:Nat) (agg:Bool):Prop where
 size:(P.info? T).map (·.size)=some n
 agg:∀ w,(isAgg T).run P w = .ok agg w
def Dat.Shape (d:Dat) (n:Nat) (agg:Bool):Prop:=∀ (I:Nat->Prop) (w:World) (u:Value),d.rd I w u->∃ cs:List Value,cs.length=n/\0<n/\(∀ c∈cs,c.oneCell'=true)/\u.cells=cs.toArray/\(if agg then u = .agg cs.toArray else cs=[u])
theorem ZCh {d:Dat} (h:∀ (I:Nat->Prop) (w:World) (u:Value),d.rd I w u->u.oneCell'=true):d.Shape 1 false:=fun I w u hu =>
 ⟨[u],rfl,Nat.one_pos,fun c hc=>by rw [List.mem_singleton.1 hc];exact h I w u hu,ZB5 (h I w u hu),rfl⟩
theorem Zv {n:Int}:(dI n).Shape 1 false:=ZCh fun _ _ _ h=>by cases (h:_=_);rfl
theorem ZN {v:Value} (hv:v.oneCell'=true):(dX v).Shape 1 false:=ZCh fun _ _ _ h=>by cases (h:_=_);exact hv
theorem Zt {α:Type} {R:Rel α} [Good R] {xs:List α}:(dS (Arr R) xs).Shape 1 false:=ZCh fun _ _ _ h=>by obtain ⟨a,c,rfl,_⟩:=h;rfl
theorem Zq {α:Type} {n:Nat} {R:Rel α} [Good R] {xs:List α}:(dS (ArrK n R) xs).Shape 1 false:=ZCh fun _ _ _ h=>by obtain ⟨a,c,rfl,_⟩:=h;rfl
theorem Zo {x:Int × Int}:(dS RV x).Shape 2 true:=fun _ _ _ h=>by cases (h:_=_);exact ⟨[.int .i64 x.1,.int .i64 x.2],rfl,by omega,by simp [Value.oneCell'],rfl,rfl⟩

section
variable {P:Program} {ops:Array Oper} {hp:List HObj} {o:Oper} {fr:List Dat} {d:Dat} {Q:ZAW} {rest:List Oper}
variable {dst:Option Tmp} {ty:TypeId} {ps:String} {af:Array Edge} {g:Option (Nat × Bool)}

theorem SYG.yes (h:WantS ops o fr true) (k:SY P ops hp o fr d):SYG P ops hp o fr d:=.inl ⟨h,k⟩
theorem ZEE (h:WantS ops o fr false):SYG P ops hp o fr (dX undef):=.inr ⟨h,rfl⟩
theorem ZJd {gi:Nat} {pol:Bool} {t:Tmp} (hg:o.guard=some (gi,pol)) (ht:(ops[gi]?).bind (·.dst)=some t):t∈o.looksAt ops:=by
 unfold Oper.looksAt
 rw [hg]
 exact List.mem_append_right _ (by simp [ht])
theorem ZK7 {gi:Nat} {pol b:Bool} {t:Tmp} (hg:o.guard=some (gi,pol)) (ht:(ops[gi]?).bind (·.dst)=some t) (hf:fr[t]?=some (dB b)):WantS ops o fr (b == pol):=WantS.mk fun I w a ho=>by
 have h1:a.tmps.getD t undef = .bool b:=ho.2 t (ZJd hg ht) _ hf
 have hlt:t<a.tmps.size:=by rw [ho.1];exact (List.getElem?_eq_some_iff.1 hf).1
 have h2:a.tmps[t]?=some (.bool b):=by
  rw [Array.getD_eq_getD_getElem?] at h1
  rw [Array.getElem?_eq_getElem hlt] at h1 ⊢
  simpa using h1
 simp [Region.wanted,hg,yielded,ht,h2]
theorem ZMU {gi:Nat} {pol:Bool} {t:Tmp} (hg:o.guard=some (gi,pol)) (ht:(ops[gi]?).bind (·.dst)=some t) {b:Bool} (hf:fr[t]?=some (dB b)) (hb:b=pol):WantS ops o fr true:=by
 subst hb
 have:=ZK7 hg ht hf
 simpa using this
theorem ZPz {gi:Nat} {t:Tmp} (hg:o.guard=some (gi,true)) (ht:(ops[gi]?).bind (·.dst)=some t) {b:Bool} (hf:fr[t]?=some (dB b)) (hb:b=false):WantS ops o fr false:=by
 subst hb
 simpa using ZK7 hg ht hf
theorem ZPy {gi:Nat} {t:Tmp} (hg:o.guard=some (gi,false)) (ht:(ops[gi]?).bind (·.dst)=some t) {b:Bool} (hf:fr[t]?=some (dB b)) (hb:b=true):WantS ops o fr false:=by
 subst hb
 simpa using ZK7 hg ht hf
theorem ThenD.n {n:List Dat->List HObj->Prop} (h:n fr hp):ThenD n Q .normal fr hp:=h
theorem InBlockD.x {id:Nat} (h:Q .normal fr hp):InBlockD id Q (.exit id) fr hp:=by simp only [InBlockD,if_true];exact h
theorem ZL {id id':Nat} (hne:id'≠id) (h:Q (.exit id') fr hp):InBlockD id Q (.exit id') fr hp:=by simp only [InBlockD,if_neg hne];exact h
theorem InBlockD.n {id:Nat} (h:Q .normal fr hp):InBlockD id Q .normal fr hp:=h
theorem InBlockD.r {id:Nat} (h:Q .ret fr hp):InBlockD id Q .ret fr hp:=h
theorem ThenD.r {n:List Dat->List HObj->Prop} (h:Q .ret fr hp):ThenD n Q .ret fr hp:=h
theorem ThenD.x {n:List Dat->List HObj->Prop} {id:Nat} (h:Q (.exit id) fr hp):ThenD n Q (.exit id) fr hp:=h

theorem SY.val (h:∀ {I:Nat->Prop} {w:World} {a:Act},On (o.looksAt ops) I w a fr->∃ v,(execOp a.eval o).run P w = .ok (.value v) w/\d.rd I w v):SY P ops hp o fr d:=SY.mk fun _ ho K Q hk=>by
 obtain ⟨v,h1,h2⟩:=h ho
 unfold Oper.wp
 rw [h1]
 exact hk v _ (Ext.refl _) h2
theorem ZAf (h:∀ {P0:Nat->Prop} {B:Nat} {w0 w:World} {a:Act},Hp P0 B w0 hp w->On (o.looksAt ops) (Imm P0 B hp) w a fr->∃ v w',(execOp a.eval o).run P w = .ok (.value v) w'/\Ext w w'/\d.rd (Imm P0 B hp) w' v):SY P ops hp o fr d:=SY.mk fun hh ho K Q hk=>by
 obtain ⟨v,w',h1,h2,h3⟩:=h hh ho
 unfold Oper.wp
 rw [h1]
 exact hk v _ h2 h3
theorem SY.mono {d':Dat} (h:SY P ops hp o fr d) (hle:d.le d'):SY P ops hp o fr d':=SY.mk fun hh ho K Q hk=>h.out hh ho K Q fun v w' e hd=>hk v w' e (hle _ _ _ hd)

theorem SY.move {x:Operand} (hx:OpD fr x d):SY P ops hp ⟨dst,.move x,ty,ps,af,g⟩ fr d :=
 SY.val fun {I w a} ho=>⟨a.eval x,by unfold execOp;simp only [Sem.run_pure],hx.get (by simp [Op.operands]) ho⟩
theorem SY.assign {x:Operand} (hx:OpD fr x d):SY P ops hp ⟨dst,.assign x,ty,ps,af,g⟩ fr d :=
 SY.val fun {I w a} ho=>⟨a.eval x,by unfold execOp;simp only [Sem.run_pure],hx.get (by simp [Op.operands]) ho⟩
theorem SY.pick {c x y:Operand} {b:Bool} (hc:OpD fr c (dB b)) (ht:b=true->OpD fr x d) (hf:b=false->OpD fr y d):SY P ops hp ⟨dst,.pick c x y,ty,ps,af,g⟩ fr d :=
 SY.val fun {I w a} ho=>by
  have h1:a.eval c = .bool b:=hc.get (by simp [Op.operands]) ho
  cases b with
  | true=>exact ⟨a.eval x,by unfold execOp;simp [h1,asBool],(ht rfl).get (by simp [Op.operands]) ho⟩
  | false=>exact ⟨a.eval y,by unfold execOp;simp [h1,asBool],(hf rfl).get (by simp [Op.operands]) ho⟩
theorem Zx {c x y:Operand} {b:Bool} (hc:OpD fr c (dB b)) (hb:b=true) (ht:OpD fr x d):SY P ops hp ⟨dst,.pick c x y,ty,ps,af,g⟩ fr d:=SY.pick hc (fun _=>ht) (fun h=>by rw [hb] at h;cases h)
theorem Z2 {c x y:Operand} {b:Bool} (hc:OpD fr c (dB b)) (hb:b=false) (hf:OpD fr y d):SY P ops hp ⟨dst,.pick c x y,ty,ps,af,g⟩ fr d:=SY.pick hc (fun h=>by rw [hb] at h;cases h) (fun _=>hf)
theorem SY.len {x:Operand} {t e:TypeId} {n:Nat} (hx:OpD fr x d) (hd:∀ (I:Nat->Prop) (w:World) (v:Value),d.rd I w v->Len v n) (hu:UndT P t e):SY P ops hp ⟨dst,.call { callee:=.builtin .len,args:=#[x],argTypes:=#[t] },ty,ps,af,g⟩ fr (dI n) :=
 SY.val fun {I w a} ho=>⟨.int .i64 n,by
  have:=hd _ _ _ (hx.get (by simp [Op.operands,Call.operands]) ho)
  unfold execOp
  simp only [resolve,invoke,builtin,Sem.run_bind,Sem.run_pure,Result.andThen_ok,List.map_toArray,List.map_cons,List.map_nil,ZIa hu.out this],rfl⟩
theorem ZKr {α:Type} {R:Rel α} [Good R] {xs:List α}:∀ (I:Nat->Prop) (w:World) (v:Value),(dS (Arr R) xs).rd I w v->Len v xs.length:=fun _ _ _ h=>Arr.len h
theorem ZMw {α:Type} {n:Nat} {R:Rel α} [Good R] {xs:List α}:∀ (I:Nat->Prop) (w:World) (v:Value),(dS (ArrK n R) xs).rd I w v->Len v xs.length:=fun _ _ _ h=>ArrK.len h
theorem ZOu {cap:Nat} {a:Option Addr} {n:Nat}:∀ (I:Nat->Prop) (w:World) (v:Value),(dX (.slice a n cap)).rd I w v->Len v n:=fun _ _ _ h=>by cases (h:_=_);exact ⟨a,cap,rfl⟩
theorem Zf {x:Operand} {t e:TypeId} {v:Value} {α:Type} {R:Rel α} {_gR:Good R} {xs:List α} (hx:OpD fr x (dX v)) {e':TypeId} (hm:Zr v e' R xs∈hp) (hu:UndT P t e):SY P ops hp ⟨dst,.call { callee:=.builtin .len,args:=#[x],argTypes:=#[t] },ty,ps,af,g⟩ fr (dI xs.length) :=
 ZAf fun {P0 B w0 w a} hh ho=>⟨.int .i64 xs.length,w,by
  have h1:a.eval x=v:=hx.get (by simp [Op.operands,Call.operands]) ho
  have:=Own.len (hh.ok _ hm)
  unfold execOp
  simp only [resolve,invoke,builtin,Sem.run_bind,Sem.run_pure,Result.andThen_ok,List.map_toArray,List.map_cons,List.map_nil,h1,ZIa hu.out this],Ext.refl _,rfl⟩
theorem ZV {x:Operand} {t e:TypeId} {v:Value} {α:Type} {n:Nat} {R:Rel α} {_gR:Good R} {xs:List α} (hx:OpD fr x (dX v)) {e':TypeId} (hm:Zp v e' n R xs∈hp) (hu:UndT P t e):SY P ops hp ⟨dst,.call { callee:=.builtin .len,args:=#[x],argTypes:=#[t] },ty,ps,af,g⟩ fr (dI xs.length) :=
 ZAf fun {P0 B w0 w a} hh ho=>⟨.int .i64 xs.length,w,by
  have h1:a.eval x=v:=hx.get (by simp [Op.operands,Call.operands]) ho
  have:=OwnK.len (hh.ok _ hm)
  unfold execOp
  simp only [resolve,invoke,builtin,Sem.run_bind,Sem.run_pure,Result.andThen_ok,List.map_toArray,List.map_cons,List.map_nil,h1,ZIa hu.out this],Ext.refl _,rfl⟩

theorem SY.ix {x i:Operand} {t e:TypeId} {z:Value} {bytes:Nat} (E:ElT P t e 1 z bytes false) {α:Type} {R:Rel α} {_gR:Good R} {xs:List α} {k:Nat} (hx:OpD fr x (dS (Arr R) xs)) (hi:OpD fr i (dI (k:Int))) (hk:k<xs.length):SY P ops hp ⟨dst,.indexAddr t x i,ty,ps,af,g⟩ fr (dP 1 false (dS R xs[k])) :=
 SY.val fun {I w a} ho=>by
  have h1:Arr R I w (a.eval x) xs:=hx.get (by simp [Op.operands]) ho
  have h2:a.eval i = .int .i64 k:=hi.get (by simp [Op.operands]) ho
  obtain ⟨ad,cap,hv,c1,c2,c3⟩:=h1
  obtain ⟨u,b,off,r1,r2,rfl,r4,r5⟩:=c3 k hk
  refine ⟨.pointer (some ⟨b,off+k*1,none⟩),?_,b,off+k*1,u,rfl,⟨r4,[u],rfl,Nat.one_pos,?_,?_,rfl⟩,r1⟩
  ·unfold execOp
   simp only [hv,h2,Sem.run_bind,ZBL (w:=w) E b off xs.length cap k .i64 hk,Result.andThen_ok,Sem.run_pure]
  ·intro c hc;rw [List.mem_singleton.1 hc];exact r2
  ·intro j c hc
   have:j=0:=by
    have:=(List.getElem?_eq_some_iff.1 hc).1
    simp at this;exact this
   subst this
   cases hc
   simpa using r5
theorem Zi {x i:Operand} {t e:TypeId} {z:Value} {bytes n:Nat} {ag:Bool} (E:ElT P t e n z bytes ag) {α:Type} {R:Rel α} {_gR:Good R} {xs:List α} {k:Nat} (hx:OpD fr x (dS (ArrK n R) xs)) (hi:OpD fr i (dI (k:Int))) (hk:k<xs.length):SY P ops hp ⟨dst,.indexAddr t x i,ty,ps,af,g⟩ fr (dP n true (dS R xs[k])) :=
 SY.val fun {I w a} ho=>by
  have h1:ArrK n R I w (a.eval x) xs:=hx.get (by simp [Op.operands]) ho
  have h2:a.eval i = .int .i64 k:=hi.get (by simp [Op.operands]) ho
  obtain ⟨ad,cap,hv,c1,c2,c0,c3⟩:=h1
  obtain ⟨cs,b,off,r1,r2,r3,rfl,r4,r5⟩:=c3 k hk
  refine ⟨.pointer (some ⟨b,off+k*n,none⟩),?_,b,off+k*n,_,rfl,⟨r4,cs,r2,c0,r3,r5,rfl⟩,r1⟩
  unfold execOp
  simp only [hv,h2,Sem.run_bind,ZBL (w:=w) E b off xs.length cap k .i64 hk,Result.andThen_ok,Sem.run_pure]
theorem ZSC {x i:Operand} {t e:TypeId} {z:Value} {bytes:Nat} (E:ElT P t e 1 z bytes false) {α:Type} {R:Rel α} {_gR:Good R} {xs:List α} {j:Int} (hx:OpD fr x (dS (Arr R) xs)) (hi:OpD fr i (dI j)) (k:Nat) (hj:j=(k:Int)) (hk:k<xs.length):SY P ops hp ⟨dst,.indexAddr t x i,ty,ps,af,g⟩ fr (dP 1 false (dS R xs[k])):=SY.ix E hx (by rw [<- hj];exact hi) hk
theorem ZDw {x i:Operand} {t e:TypeId} {z:Value} {bytes n:Nat} {ag:Bool} (E:ElT P t e n z bytes ag) {α:Type} {R:Rel α} {_gR:Good R} {xs:List α} {j:Int} (hx:OpD fr x (dS (ArrK n R) xs)) (hi:OpD fr i (dI j)) (k:Nat) (hj:j=(k:Int)) (hk:k<xs.length):SY P ops hp ⟨dst,.indexAddr t x i,ty,ps,af,g⟩ fr (dP n true (dS R xs[k])):=Zi E hx (by rw [<- hj];exact hi) hk

theorem ZA3 {T:TypeId} {n:Nat} {agg:Bool} (T':TyI P T n agg) {I:Nat->Prop} {w:World} {b off:Nat} {u:Value} (h:Cells I w b off n agg u):(Instr.loadAt T (.pointer (some ⟨b,off,none⟩))).run P w = .ok u w:=by
 obtain ⟨hb,cs,h1,h2,h3,h4,h5⟩:=h
 cases hq:P.info? T with
 | none=>have:=T'.size;simp [hq] at this
 | some i =>
  have hs:i.size=n:=by have:=T'.size;simpa [hq] using this
  cases agg with
  | true =>
   simp only [if_true] at h5
   have hl:=run_loadCells_list (P:=P) w ⟨b,off,none⟩ cs (fun j v hv=>by rw [Addr.add_lit];exact h4 j v hv)
   rw [h1] at hl
   simp [Instr.loadAt,Instr.sureAddr,loadVar,T'.agg,sizeOf,typeInfo,hq,hs,hl,h5]
  | false =>
   simp only [Bool.false_eq_true,if_false] at h5
   subst h5
   have:=h4 0 u rfl
   simp at this
   simp [Instr.loadAt,Instr.sureAddr,loadVar,T'.agg,run_load,this]
theorem SY.load {x:Operand} {T:TypeId} {n:Nat} {agg:Bool} (T':TyI P T n agg) (hx:OpD fr x (dP n agg d)):SY P ops hp ⟨dst,.load T x,ty,ps,af,g⟩ fr d :=
 SY.val fun {I w a} ho=>by
  obtain ⟨b,off,u,h1,h2,h3⟩:=hx.get (by simp [Op.operands]) ho
  refine ⟨u,?_,h3⟩
  unfold execOp
  simp only [h1,Sem.run_bind,ZA3 T' h2,Result.andThen_ok,Sem.run_pure]
theorem ZAp {w:World} {b n:Nat} {agg:Bool} {T:TypeId} {cs:List Value} {u:Value} (h:w.heap[b]?=some (.cells cs.toArray T)) (h1:cs.length=n) (h0:0<n) (h2:∀ c∈cs,c.oneCell'=true) (h3:if agg then u = .agg cs.toArray else cs=[u]) {I:Nat->Prop} (hb:I b):Cells I w b 0 n agg u :=
 ⟨hb,cs,h1,h0,h2,fun j c hc=>by rw [cell_of_row w b (0+j) _ _ _ h];simpa using hc,h3⟩
theorem ZJ {x:Operand} {T T2:TypeId} {n b:Nat} {agg:Bool} (T':TyI P T n agg) (hx:OpD fr x (dX (.pointer (some ⟨b,0,none⟩)))) (hm:Zh b T2 n agg d∈hp):SY P ops hp ⟨dst,.load T x,ty,ps,af,g⟩ fr d :=
 ZAf fun {P0 B w0 w a} hh ho=>by
  have h1:a.eval x = .pointer (some ⟨b,0,none⟩):=hx.get (by simp [Op.operands]) ho
  obtain ⟨cs,u,k1,k2,k0,k3,k4,k5⟩:=hh.ok _ hm
  refine ⟨u,w,?_,Ext.refl _,k5⟩
  unfold execOp
  simp only [h1,Sem.run_bind,ZA3 T' (ZAp (I:=fun _=>True) k1 k2 k0 k3 k4 trivial),Result.andThen_ok,Sem.run_pure]

theorem Z0 (w:World) (x:Obj):(w.alloc x).heap[w.heap.size]?=some x:=by
 show (w.heap.push x)[w.heap.size]?=_
 simp
theorem SY.box {x:Operand} {T:TypeId} {n:Nat} {agg:Bool} (hx:OpD fr x d) (hs:d.Shape n agg):SY P ops hp ⟨dst,.box T x,ty,ps,af,g⟩ fr (dP n agg d) :=
 ZAf fun {P0 B w0 w a} hh ho=>by
  have h1:=hx.get (by simp [Op.operands]) ho
  obtain ⟨cs,k1,k0,k2,k3,k4⟩:=hs _ _ _ h1
  refine ⟨.pointer (some ⟨w.heap.size,0,none⟩),w.alloc (.cells cs.toArray T),?_,Ext.of_alloc _ _,w.heap.size,0,a.eval x,rfl,ZAp (Z0 w _) k1 k0 k2 k4 (hh.fresh (Nat.le_refl _)),Dat.ext h1 (Ext.of_alloc _ _)⟩
  unfold execOp
  simp [Instr.box,newVar,newRow,k3]

theorem ZBU {α:Type} (e:TypeId) (R:Rel α) [Good R] (h:WL P ops Q rest fr (Zr (.slice none 0 0) e R ([]:List α)::hp)):WL P ops Q rest fr hp:=WL.of fun _ _ _ _ _ hh hf =>
 h.on (hh.push (Ext.refl _) (by simp [Zr,Value.ownBlock]) Own.nil) (hf.mono fun _ _ hd=>Z6 (Ext.refl _) (by simp [Zr,Value.ownBlock]) hd)
theorem ZEF {c:Code} {α:Type} (e:TypeId) (R:Rel α) [Good R] (h:WC P Q c fr (Zr (.slice none 0 0) e R ([]:List α)::hp)):WC P Q c fr hp:=WC.of fun _ _ _ _ _ hh hf =>
 h.on (hh.push (Ext.refl _) (by simp [Zr,Value.ownBlock]) Own.nil) (hf.mono fun _ _ hd=>Z6 (Ext.refl _) (by simp [Zr,Value.ownBlock]) hd)
theorem ZBz {c:Code} {α:Type} (e:TypeId) (n:Nat) (hn:0<n) (R:Rel α) [Good R] (h:WC P Q c fr (Zp (.slice none 0 0) e n R ([]:List α)::hp)):WC P Q c fr hp:=WC.of fun _ _ _ _ _ hh hf =>
 h.on (hh.push (Ext.refl _) (by simp [Zp,Value.ownBlock]) (OwnK.nil hn)) (hf.mono fun _ _ hd=>Z6 (Ext.refl _) (by simp [Zp,Value.ownBlock]) hd)
theorem WC.drop {c:Code} {o:HObj} (h:WC P Q c fr hp):WC P Q c fr (o::hp):=WC.of fun _ _ _ _ _ hh hf=>h.on hh.drop (hf.mono fun d _ hd=>d.weak hd Imm.sub)
theorem WL.drop {o:HObj} (h:WL P ops Q rest fr hp):WL P ops Q rest fr (o::hp):=WL.of fun _ _ _ _ _ hh hf=>h.on hh.drop (hf.mono fun d _ hd=>d.weak hd Imm.sub)

theorem Hp.perm {P0:Nat->Prop} {B:Nat} {w0 w:World} {hp':List HObj} (h:Hp P0 B w0 hp w) (hp1:hp.Perm hp'):Hp P0 B w0 hp' w/\∀ k,Imm P0 B hp k↔Imm P0 B hp' k:=by
 have hI:∀ k,Imm P0 B hp k↔Imm P0 B hp' k:=fun k=>⟨fun h=>⟨h.1,fun o ho=>h.2 o (hp1.mem_iff.2 ho)⟩,fun h=>⟨h.1,fun o ho=>h.2 o (hp1.mem_iff.1 ho)⟩⟩
 refine ⟨⟨h.base,h.below,fun o ho=>h.own o (hp1.mem_iff.2 ho),fun o ho=>o.weak (h.ok o (hp1.mem_iff.2 ho)) fun k hk=>(hI k).1 hk,?_⟩,hI⟩
 exact (hp1.pairwise_iff (fun {x y} hxy k hy hx=>hxy k hx hy)).1 h.apart
theorem WL.perm {hp':List HObj} (hp1:hp.Perm hp') (h:WL P ops Q rest fr hp'):WL P ops Q rest fr hp:=WL.of fun _ _ _ _ _ hh hf =>
 let ⟨h1,h2⟩:=hh.perm hp1
 h.on h1 (hf.mono fun d _ hd=>d.weak hd fun k hk=>(h2 k).1 hk)
theorem WC.perm {c:Code} {hp':List HObj} (hp1:hp.Perm hp') (h:WC P Q c fr hp'):WC P Q c fr hp:=WC.of fun _ _ _ _ _ hh hf =>
 let ⟨h1,h2⟩:=hh.perm hp1
 h.on h1 (hf.mono fun d _ hd=>d.weak hd fun k hk=>(h2 k).1 hk)

theorem Ze {c:Code} {p:Prop} {t:Nat} (ht:fr[t]?=some d) (hd:∀ (I:Nat->Prop) (w:World) (v:Value),d.rd I w v->p) (h:p->WC P Q c fr hp):WC P Q c fr hp:=WC.of fun _ _ _ _ _ hh hf=>(h (hd _ _ _ (hf.rd t d ht))).on hh hf
theorem ZTE {p:Prop} {t:Nat} (ht:fr[t]?=some d) (hd:∀ (I:Nat->Prop) (w:World) (v:Value),d.rd I w v->p) (h:p->WL P ops Q rest fr hp):WL P ops Q rest fr hp:=WL.of fun _ _ _ _ _ hh hf=>(h (hd _ _ _ (hf.rd t d ht))).on hh hf
theorem ZFe {α:Type} {R:Rel α} [Good R] {xs:List α}:∀ (I:Nat->Prop) (w:World) (v:Value),(dS (Arr R) xs).rd I w v->xs.length≤maxLen:=fun _ _ _ h=>by obtain ⟨_,_,_,h1,h2,_⟩:=h;omega
theorem ZFf {α:Type} {n:Nat} {R:Rel α} [Good R] {xs:List α}:∀ (I:Nat->Prop) (w:World) (v:Value),(dS (ArrK n R) xs).rd I w v->xs.length≤maxLen:=fun _ _ _ h=>by obtain ⟨_,_,_,h1,h2,_⟩:=h;omega
theorem ZHd {α:Type} {p:α->Prop} {D:α->Dat} (t:Nat) (ht:fr[t]?=some (dE p D)) (h:∀ x,p x->WL P ops Q rest (fr.set t (D x)) hp):WL P ops Q rest fr hp:=WL.of fun P0 B w0 w a hh hf=>by
 obtain ⟨x,hx,hd⟩:=hf.rd t _ ht
 refine (h x hx).on hh ⟨hf.defers,by rw [hf.size,List.length_set],fun t' d' hd'=>?_⟩
 by_cases htt:t=t'
 ·subst htt
  rw [List.getElem?_set] at hd'
  simp only [if_true] at hd'
  split at hd'
  ·cases hd';exact hd
  ·cases hd'
 ·rw [List.getElem?_set_ne htt] at hd'
  exact hf.rd t' d' hd'

theorem ZFN {x:Int} (h : -9223372036854775808≤x/\x≤9223372036854775807):IntKind.i64.wrap x=x:=by
 simp [IntKind.wrap,IntKind.signed,IntKind.bits];omega
theorem ZBA {op:BinOp} {x y:Operand} {T T2:TypeId} {p q:Int} {r:Value} (hx:OpD fr x (dI p)) (hy:OpD fr y (dI q)) (hr:∀ w,(Go.binOp op T (.int .i64 p) (.int .i64 q)).run P w = .ok r w) (hd:∀ (I:Nat->Prop) (w:World),d.rd I w r):SY P ops hp ⟨dst,.binOp op T x y T2,ty,ps,af,g⟩ fr d :=
 SY.val fun {I w a} ho=>by
  have h1:a.eval x = .int .i64 p:=hx.get (by simp [Op.operands]) ho
  have h2:a.eval y = .int .i64 q:=hy.get (by simp [Op.operands]) ho
  refine ⟨r,?_,hd _ _⟩
  unfold execOp
  have hg:(eqGuard op T x y (.int .i64 p) (.int .i64 q)).run P w = .ok () w:=by unfold eqGuard;split <;> simp
  simp only [h1,h2,Sem.run_bind,hg,hr,Result.andThen_ok,Sem.run_pure]
section
variable {x y:Operand} {T T2:TypeId} {p q:Int} (hx:OpD fr x (dI p)) (hy:OpD fr y (dI q))
include hx hy
theorem SY.lss:SY P ops hp ⟨dst,.binOp .lss T x y T2,ty,ps,af,g⟩ fr (dB (decide (p<q))):=ZBA hx hy (fun w=>by simp [Go.binOp,Op.intCmp]) fun _ _=>rfl
theorem SY.leq:SY P ops hp ⟨dst,.binOp .leq T x y T2,ty,ps,af,g⟩ fr (dB (decide (p≤q))):=ZBA hx hy (fun w=>by simp [Go.binOp,Op.intCmp]) fun _ _=>rfl
theorem SY.gtr:SY P ops hp ⟨dst,.binOp .gtr T x y T2,ty,ps,af,g⟩ fr (dB (decide (q<p))):=ZBA hx hy (fun w=>by simp [Go.binOp,Op.intCmp]) fun _ _=>rfl
theorem SY.geq:SY P ops hp ⟨dst,.binOp .geq T x y T2,ty,ps,af,g⟩ fr (dB (decide (q≤p))):=ZBA hx hy (fun w=>by simp [Go.binOp,Op.intCmp]) fun _ _=>rfl
theorem SY.eql:SY P ops hp ⟨dst,.binOp .eql T x y T2,ty,ps,af,g⟩ fr (dB (decide (p=q))):=ZBA hx hy (fun w=>by simp [Go.binOp,Op.intCmp];rfl) fun _ _=>rfl
theorem SY.neq:SY P ops hp ⟨dst,.binOp .neq T x y T2,ty,ps,af,g⟩ fr (dB (!decide (p=q))):=ZBA hx hy (fun w=>by simp [Go.binOp,Op.intCmp];rfl) fun _ _=>rfl
theorem SY.add (h : -9223372036854775808≤p+q/\p+q≤9223372036854775807):SY P ops hp ⟨dst,.binOp .add T x y T2,ty,ps,af,g⟩ fr (dI (p+q)):=ZBA hx hy (fun w=>by simp [Go.binOp,Op.intArith,ZFN h]) fun _ _=>rfl
theorem SY.sub (h : -9223372036854775808≤p-q/\p-q≤9223372036854775807):SY P ops hp ⟨dst,.binOp .sub T x y T2,ty,ps,af,g⟩ fr (dI (p-q)):=ZBA hx hy (fun w=>by simp [Go.binOp,Op.intArith,ZFN h]) fun _ _=>rfl
theorem SY.mul (h : -9223372036854775808≤p*q/\p*q≤9223372036854775807):SY P ops hp ⟨dst,.binOp .mul T x y T2,ty,ps,af,g⟩ fr (dI (p*q)):=ZBA hx hy (fun w=>by simp [Go.binOp,Op.intArith,ZFN h]) fun _ _=>rfl
end
theorem SY.not {x:Operand} {T:TypeId} {b:Bool} (hx:OpD fr x (dB b)):SY P ops hp ⟨dst,.unOp .not T x,ty,ps,af,g⟩ fr (dB (!b)) :=
 SY.val fun {I w a} ho=>⟨.bool (!b),by
  have h1:a.eval x = .bool b:=hx.get (by simp [Op.operands]) ho
  unfold execOp
  simp [h1,Op.unary],rfl⟩
theorem SY.extract {x:Operand} {i:Nat} {ds:List Dat} (hx:OpD fr x (dT ds)) (hd:ds[i]?=some d):SY P ops hp ⟨dst,.extract x i,ty,ps,af,g⟩ fr d :=
 SY.val fun {I w a} ho=>by
  obtain ⟨vs,h1,h2,h3⟩:=hx.get (by simp [Op.operands]) ho
  have hi:i<vs.length:=by rw [h2];exact (List.getElem?_eq_some_iff.1 hd).1
  refine ⟨vs[i],?_,h3 i d _ hd (List.getElem?_eq_getElem hi)⟩
  unfold execOp
  simp [h1,Instr.extract,hi]

structure Fn (P:Program) (f:FuncId) (args:List Dat) (res:Dat):Prop where
 out:∀ (I:Nat->Prop) (w:World) (vs:List Value),vs.length=args.length->(∀ (i:Nat) (d:Dat),args[i]?=some d->d.rd I w (vs.getD i undef)) ->
  Calls P f vs.toArray w fun e w'=>∃ v,e = .returned v/\Ext w w'/\res.rd (fun b=>I b\/w.heap.size≤b) w' v
structure ArgsD (fr:List Dat) (xs:List Operand) (ds:List Dat):Prop where
 len:xs.length=ds.length
 get:∀ (i:Nat) (x:Operand) (d:Dat),xs[i]?=some x->ds[i]?=some d->OpD fr x d
theorem ArgsD.nil {fr:List Dat}:ArgsD fr [] []:=⟨rfl,fun i x d h=>by simp at h⟩
theorem ArgsD.cons {fr:List Dat} {x:Operand} {xs:List Operand} {d:Dat} {ds:List Dat} (h:OpD fr x d) (k:ArgsD fr xs ds):ArgsD fr (x::xs) (d::ds) :=
 ⟨by simp [k.1],fun i y e hy he=>by
  cases i with
  | zero=>simp at hy he;subst hy;subst he;exact h
  | succ i=>exact k.2 i y e (by simpa using hy) (by simpa using he)⟩
theorem ZHW {f:FuncId} {args:Array Operand} {ats:Array TypeId} (hf:∀ (args:Array Value) (w:World),(callFunc f args).run P w = .ok (.enter f args) w)
  (h:∀ {P0:Nat->Prop} {B:Nat} {w0 w:World} {a:Act},Hp P0 B w0 hp w->On ((⟨dst,.call { callee:=.value (.func f),args:=args,argTypes:=ats },ty,ps,af,g⟩:Oper).looksAt ops) (Imm P0 B hp) w a fr->Calls P f (args.map a.eval) w fun e w'=>∃ v,e = .returned v/\Ext w w'/\d.rd (Imm P0 B hp) w' v) :
  SY P ops hp ⟨dst,.call { callee:=.value (.func f),args:=args,argTypes:=ats },ty,ps,af,g⟩ fr d:=SY.mk fun {P0 B w0 w a} hh ho K Q hk=>by
 have h1:=h hh ho
 unfold Oper.wp
 have:(execOp a.eval ⟨dst,.call { callee:=.value (.func f),args:=args,argTypes:=ats },ty,ps,af,g⟩).run P w = .ok (.enter f (args.map a.eval)) w:=by
  unfold execOp
  simp only [resolve]
  simp [Act.eval,Deferred.ofValue,invoke,hf]
 rw [this]
 exact h1.mono fun e w' ⟨v,he,e1,hd⟩=>by subst he;exact hk v w' e1 hd
theorem SY.call {f:FuncId} {args:Array Operand} {ats:Array TypeId} {ds:List Dat} (hF:Fn P f ds d) (hf:∀ (args:Array Value) (w:World),(callFunc f args).run P w = .ok (.enter f args) w) (ha:ArgsD fr args.toList ds) :
  SY P ops hp ⟨dst,.call { callee:=.value (.func f),args:=args,argTypes:=ats },ty,ps,af,g⟩ fr d :=
 ZHW hf fun {P0 B w0 w a} hh ho=>by
  have h1:=hF.out (Imm P0 B hp) w (args.toList.map a.eval) (by simpa using ha.1) fun i d hd=>by
   have hi:i<args.toList.length:=by rw [ha.1];exact (List.getElem?_eq_some_iff.1 hd).1
   have h2:=ha.2 i _ d (List.getElem?_eq_getElem hi) hd
   have:=h2.get (by simp only [Op.operands,Call.operands];simp) ho
   have hi':i<args.size:=by simpa using hi
   simpa [List.getD,hi'] using this
  have he:(args.toList.map a.eval).toArray=args.map a.eval:=by apply Array.ext';simp
  rw [he] at h1
  exact h1.mono fun e w' ⟨v,h1,h2,h3⟩=>⟨v,h1,h2,d.weak h3 fun k hk=>hk.elim id hh.fresh⟩
structure ArgH (hp:List HObj) (d d':Dat):Prop where
 out:∀ {P0:Nat->Prop} {B:Nat} {w0 w:World} {v:Value},Hp P0 B w0 hp w->d.rd (Imm P0 B hp) w v->d'.rd anyB w v
theorem ArgH.le {d':Dat} (h:d.le d'):ArgH hp d d':=⟨fun _ hd=>h _ _ _ (d.weak hd fun _ _=>trivial)⟩
theorem ArgH.rowK {v:Value} {e:TypeId} {n:Nat} {α:Type} {R:Rel α} {_gR:Good R} {xs:List α} (h:Zp v e n R xs∈hp):ArgH hp (dX v) (dS (ArrK n R) xs):=ArgH.mk fun hh hd=>by cases (hd:_=_);exact (ZQG (hh.ok _ h)).any
def Dat.Bare (d:Dat):Prop:=∀ (I I':Nat->Prop) (w w':World) (v:Value),d.rd I w v->d.rd I' w' v
theorem ZUb {n:Int}:(dI n).Bare:=fun _ _ _ _ _ h=>h
theorem ZSK {n:Bool}:(dB n).Bare:=fun _ _ _ _ _ h=>h
structure Kont (K:List Dat->List HObj->Prop) (f:List Dat) (p:List HObj):Prop where
 out:K f p
theorem Kont.skip {K:List Dat->List HObj->Prop} (h:Kont K fr hp):Kont K fr hp:=h
theorem WC.id {c:Code} (h:WC P Q c fr hp):WC P Q c fr hp:=h
theorem WL.id (h:WL P ops Q rest fr hp):WL P ops Q rest fr hp:=h
theorem ZC {x y:Code} (h:∀ K:List Dat->List HObj->Prop,(∀ f p,WC P Q y f p->Kont K f p)->WC P (ThenD (Kont K) Q) x fr hp):WC P Q (.seq x y) fr hp :=
 WC.seq ((h (WC P Q y) fun _ _ h=>⟨h⟩).mono fun e f p q=>by
  cases e with
  | normal=>exact (q:Kont _ f p).out
  | _=>exact q)

section
variable {c:Operand} {x y:Code} {p:Prop} {_ip:Decidable p} {b:Bool}
theorem WC.condT (hc:OpD fr c (dB b)) (hb:b=true) (h:WC P Q x fr hp):WC P Q (.cond c x y) fr hp:=WC.cond hc (fun _=>h) (fun h=>by rw [hb] at h;cases h)
theorem ZK (hc:OpD fr c (dB b)) (hb:b=false) (h:WC P Q y fr hp):WC P Q (.cond c x y) fr hp:=WC.cond hc (fun h=>by rw [hb] at h;cases h) (fun _=>h)
theorem ZE (hc:OpD fr c (dB (decide p))) (ht:p->WC P Q x fr hp) (hf:¬ p->WC P Q y fr hp):WC P Q (.cond c x y) fr hp:=WC.cond hc (fun h=>ht (of_decide_eq_true h)) (fun h=>hf (of_decide_eq_false h))
theorem WC.condN (hc:OpD fr c (dB (!decide p))) (ht:¬ p->WC P Q x fr hp) (hf:p->WC P Q y fr hp):WC P Q (.cond c x y) fr hp:=WC.cond hc (fun h=>ht (by simpa using h)) (fun h=>hf (by simpa using h))
theorem WC.condNB (hc:OpD fr c (dB (!b))) (ht:b=false->WC P Q x fr hp) (hf:b=true->WC P Q y fr hp):WC P Q (.cond c x y) fr hp:=WC.cond hc (fun h=>ht (by simpa using h)) (fun h=>hf (by simpa using h))
end
theorem ZDj {t:Nat} {e:Dat} (h:fr[t]?=some e):fr.set t e=fr:=by
 apply List.ext_getElem?
 intro j
 by_cases hj:t=j
 ·subst hj
  rw [List.getElem?_set,if_pos rfl,h]
  simp [(List.getElem?_eq_some_iff.1 h).1]
 ·rw [List.getElem?_set_ne hj]
section
variable {p:Prop} {_ip:Decidable p} {b:Bool} {gi:Nat} {pol:Bool} {t:Tmp} {K:List Dat->Prop}
theorem Zj (_hg:o.guard=some (gi,pol)) (_ht:(ops[gi]?).bind (·.dst)=some t) (hf:fr[t]?=some (dB b)) (h1:b=true->WL P ops Q (o::rest) (fr.set t (dB true)) hp) (h2:b=false->WL P ops Q (o::rest) (fr.set t (dB false)) hp):WL P ops Q (o::rest) fr hp:=by
 cases b with
 | true=>have:=h1 rfl;rwa [ZDj hf] at this
 | false=>have:=h2 rfl;rwa [ZDj hf] at this
theorem Zl (hg:o.guard=some (gi,pol)) (ht:(ops[gi]?).bind (·.dst)=some t) (hf:fr[t]?=some (dB (decide p))) (h1:p->WL P ops Q (o::rest) (fr.set t (dB true)) hp) (h2:¬ p->WL P ops Q (o::rest) (fr.set t (dB false)) hp):WL P ops Q (o::rest) fr hp :=
 Zj hg ht hf (fun h=>h1 (of_decide_eq_true h)) (fun h=>h2 (of_decide_eq_false h))
theorem Zk (hg:o.guard=some (gi,pol)) (ht:(ops[gi]?).bind (·.dst)=some t) (hf:fr[t]?=some (dB (!decide p))) (h1:¬ p->WL P ops Q (o::rest) (fr.set t (dB true)) hp) (h2:p->WL P ops Q (o::rest) (fr.set t (dB false)) hp):WL P ops Q (o::rest) fr hp :=
 Zj hg ht hf (fun h=>h1 (by simpa using h)) (fun h=>h2 (by simpa using h))
theorem Z9 (_hg:o.guard=some (gi,pol)) (_ht:(ops[gi]?).bind (·.dst)=some t) (hf:fr[t]?=some (dB b)) (h1:b=true->WD P ops hp K (o::rest) (fr.set t (dB true))) (h2:b=false->WD P ops hp K (o::rest) (fr.set t (dB false))):WD P ops hp K (o::rest) fr:=by
 cases b with
 | true=>have:=h1 rfl;rwa [ZDj hf] at this
 | false=>have:=h2 rfl;rwa [ZDj hf] at this
theorem ZAS (hg:o.guard=some (gi,pol)) (ht:(ops[gi]?).bind (·.dst)=some t) (hf:fr[t]?=some (dB (decide p))) (h1:p->WD P ops hp K (o::rest) (fr.set t (dB true))) (h2:¬ p->WD P ops hp K (o::rest) (fr.set t (dB false))):WD P ops hp K (o::rest) fr :=
 Z9 hg ht hf (fun h=>h1 (of_decide_eq_true h)) (fun h=>h2 (of_decide_eq_false h))
theorem ZAR (hg:o.guard=some (gi,pol)) (ht:(ops[gi]?).bind (·.dst)=some t) (hf:fr[t]?=some (dB (!decide p))) (h1:¬ p->WD P ops hp K (o::rest) (fr.set t (dB true))) (h2:p->WD P ops hp K (o::rest) (fr.set t (dB false))):WD P ops hp K (o::rest) fr :=
 Z9 hg ht hf (fun h=>h1 (by simpa using h)) (fun h=>h2 (by simpa using h))
end

def Za (fr:List Dat):List (Nat × Dat)->List Dat
 | []=>fr
 | (t,d)::r=>Za (fr.set t d) r
inductive LeF:List Dat->List Dat->Prop
 | nil:LeF [] []
 | cons {d e:Dat} {f f':List Dat}:d.le e->LeF f f'->LeF (d::f) (e::f')
theorem LeF.out {f f':List Dat} (h:LeF f f'):f.length=f'.length/\∀ (t:Nat) (d:Dat),f'[t]?=some d->∃ d0:Dat,f[t]?=some d0/\d0.le d:=by
 induction h with
 | nil=>exact ⟨rfl,fun t d h=>by simp at h⟩
 | cons h _ ih =>
  refine ⟨by simp [ih.1],fun t e he=>?_⟩
  cases t with
  | zero=>simp at he;subst he;exact ⟨_,rfl,h⟩
  | succ t=>simpa using ih.2 t e (by simpa using he)
theorem ZRX {a b:Int} (h:a=b):(dI a).le (dI b):=h ▸ Dat.le_refl _
theorem ZOr {d e:Dat} (h:d=e):d.le e:=h ▸ Dat.le_refl _
theorem WC.loopU {X:Type} {c:Code} (ups:X->List (Nat × Dat)) (H:X->List HObj) (μ:X->Nat) (p:X->Prop) (x0:X) (h0:p x0) (hF:LeF fr (Za fr (ups x0))) (hH:hp=H x0)
  (round:∀ x,p x->WC P (ThenD (fun f q=>∃ x',p x'/\μ x'<μ x/\q=H x'/\LeF f (Za fr (ups x'))) Q) c (Za fr (ups x)) (H x)):WC P Q (.loop c) fr hp :=
 WC.loop (fun x=>Za fr (ups x)) H μ p x0 h0 hF.out hH fun x hx=>(round x hx).mono fun e f q h=>by
  cases e with
  | normal=>obtain ⟨x',h1,h2,h3,h4⟩:=(h:∃ x',_);exact ⟨x',h1,h2,h3,h4.out.1,h4.out.2⟩
  | _=>exact h
structure FinD (hp:List HObj) (d d':Dat):Prop where
 out:∀ {P0:Nat->Prop} {B:Nat} {w0 w:World} {v:Value},Hp P0 B w0 hp w->d.rd (Imm P0 B hp) w v->d'.rd (fun b=>P0 b\/B≤b) w v
theorem FinD.le {d':Dat} (h:d.le d'):FinD hp d d':=⟨fun _ hd=>h _ _ _ (d.weak hd fun _ hk=>hk.1)⟩
theorem ZNG {d':Dat} (h:d=d'):FinD hp d d':=h ▸ FinD.le (Dat.le_refl d)
theorem ZDg {P0:Nat->Prop} {B:Nat} {w0 w:World} (hh:Hp P0 B w0 hp w) {o:HObj} (ho:o∈hp) {k:Nat} (hk:o.blk=some k):P0 k\/B≤k:=.inr (hh.own o ho k hk).1
theorem FinD.row {v:Value} {e:TypeId} {α:Type} {R:Rel α} {_gR:Good R} {xs:List α} (h:Zr v e R xs∈hp):FinD hp (dX v) (dS (Arr R) xs):=FinD.mk fun {P0 B w0 w u} hh hd=>by
 cases (hd:u=v)
 obtain ⟨us,hl,ho,he⟩:=hh.ok _ h
 obtain ⟨a,cap,hv,h1,h2,h3⟩:=ZAJ ho
 refine ⟨a,cap,hv,h1,h2,fun k hk=>?_⟩
 have hk':k<us.length:=by omega
 obtain ⟨gb,ha,hob,_,hc⟩:=h3 k us[k] (List.getElem?_eq_getElem hk')
 obtain ⟨r1,r2⟩:=he k hk' hk
 exact ⟨us[k],gb,0,Good.weak r2 (fun b hb=>hb.1.1),r1,ha,ZDg hh h hob,by rw [Nat.zero_add];exact hc⟩
theorem FinD.rowK {v:Value} {e:TypeId} {n:Nat} {α:Type} {R:Rel α} {_gR:Good R} {xs:List α} (h:Zp v e n R xs∈hp):FinD hp (dX v) (dS (ArrK n R) xs):=FinD.mk fun {P0 B w0 w u} hh hd=>by
 cases (hd:u=v)
 obtain ⟨us,hl,hu,hn,ho,he⟩:=hh.ok _ h
 obtain ⟨a,cap,hv,h1,h2,h3⟩:=ZAJ ho
 refine ⟨a,cap,hv,h1,h2,hn,fun k hk=>?_⟩
 have hk':k<us.length:=by omega
 have hmem:=hu us[k] (List.getElem_mem hk')
 have hlen:∀ u∈us,u.length=n:=fun u h=>(hu u h).1
 have hc0:0<us[k].length:=by rw [hmem.1];exact hn
 obtain ⟨gb,ha,hob,hB,_⟩:=h3 (k*n+0) us[k][0] (ZAV hlen hk' (List.getElem?_eq_getElem hc0))
 refine ⟨us[k],gb,0,Good.weak (he k hk' hk) (fun b hb=>hb.1.1),hmem.1,hmem.2,ha,ZDg hh h hob,fun j c hc=>?_⟩
 obtain ⟨g',ha',_,_,hc'⟩:=h3 (k*n+j) c (ZAV hlen hk' hc)
 rw [ha] at ha'
 cases ha'
 rw [Nat.zero_add];exact hc'
theorem FinD.i {x y:Int} (h:x=y):FinD hp (dI x) (dI y):=FinD.le (ZRX h)
theorem FinD.b {x y:Bool} (h:x=y):FinD hp (dB x) (dB y):=FinD.le (ZOr (by rw [h]))
theorem ZCV {α:Type} {R:Rel α} {_gR:Good R} {x y:α} (h:x=y):FinD hp (dS R x) (dS R y):=FinD.le (ZOr (by rw [h]))
def fin1 (t:Nat) (res:Dat):ZAW:=fun e fr hp=>(match e with|.normal|.ret=>True|_=>False)/\∃ d,fr[t]?=some d/\FinD hp d res
def fin2 (t u:Nat) (r s:Dat):ZAW:=fun e fr hp=>(match e with|.normal|.ret=>True|_=>False)/\(∃ d,fr[t]?=some d/\FinD hp d r)/\∃ d,fr[u]?=some d/\FinD hp d s
theorem ZBI {I:Nat->Prop} {w:World} {vs:List Value} {args:List Dat} {m:Nat} (hl:vs.length=args.length) (h:∀ (i:Nat) (d:Dat),args[i]?=some d->d.rd I w (vs.getD i undef)) :
  Fr I w { tmps:=vs.toArray++Array.replicate m undef,defers:=[] } (args++List.replicate m (dX undef)):=by
 refine ⟨rfl,by simp [hl],fun t d hd=>?_⟩
 by_cases ht:t<args.length
 ·rw [List.getElem?_append_left ht] at hd
  have:=h t d hd
  have ht':t<vs.length:=by omega
  simpa [Array.getD_eq_getD_getElem?,List.getD,Array.getElem?_append_left,ht'] using this
 ·rw [List.getElem?_append_right (by omega)] at hd
  have hd':=(List.getElem?_eq_some_iff.1 hd)
  obtain ⟨h1,h2⟩:=hd'
  simp at h2
  subst h2
  simp at h1
  show _=undef
  rw [Array.getD_eq_getD_getElem?,Array.getElem?_append_right (by simp;omega)]
  simp [hl,h1]
theorem hp_enter {I:Nat->Prop} {w:World}:Hp (fun b=>I b/\b<w.heap.size) w.heap.size w [] w:=⟨Nat.le_refl _,Below.refl _ _,(fun o ho=>by cases ho),(fun o ho=>by cases ho),List.Pairwise.nil⟩
theorem ZCm {f:FuncId} {fn:Func} {c:Code} {args:List Dat} {res:Dat} {Q:ZAW} (hf:P.funcs[f]?=some fn) (hb:fn.body=some c)
  (hQ:∀ (e:Exit) (fr:List Dat) (hp:List HObj),Q e fr hp->(e = .normal\/e = .ret)/\∀ {P0:Nat->Prop} {B:Nat} {w0 w:World} {a:Act},Hp P0 B w0 hp w->Fr (Imm P0 B hp) w a fr->∃ v,(results fn a.tmps).run P w = .ok v w/\res.rd (fun b=>P0 b\/B≤b) w v)
  (h:WC P Q c (args++List.replicate (fn.ntmps-args.length) (dX undef)) []):Fn P f args res:=Fn.mk fun I w vs hl hv=>by
 refine calls_of_wp hf hb ?_
 have hfr:Fr (Imm (fun b=>I b/\b<w.heap.size) w.heap.size []) w { tmps:=vs.toArray++Array.replicate (fn.ntmps-vs.toArray.size) undef,defers:=[] } (args++List.replicate (fn.ntmps-args.length) (dX undef)):=by
  have:=ZBI (m:=fn.ntmps-args.length) (I:=Imm (fun b=>I b/\b<w.heap.size) w.heap.size []) hl fun i d hd=>d.weak (d.bound (hv i d hd)) fun k hk=>⟨.inl hk,(fun o ho=>by cases ho)⟩
  simpa [hl] using this
 refine Code.wp_mono (fun e a' w' ⟨f',p',q,hh,hf'⟩=>?_) (h.on hp_enter hfr)
 obtain ⟨he,hr⟩:=hQ e f' p' q
 obtain ⟨v,h1,h2⟩:=hr hh hf'
 have hx:res.rd (fun b=>I b\/w.heap.size≤b) w' v:=res.weak h2 fun k hk=>hk.elim (fun h=>.inl h.1) .inr
 rcases he with rfl|rfl
 ·exact ⟨hf'.defers,v,h1,v,rfl,hh.below,hx⟩
 ·exact ⟨hf'.defers,v,h1,v,rfl,hh.below,hx⟩
theorem ZH {f:FuncId} {fn:Func} {c:Code} {args:List Dat} {res:Dat} {t:Tmp} (hf:P.funcs[f]?=some fn) (hb:fn.body=some c) (hr:fn.results=#[.tmp t])
  (h:WC P (fin1 t res) c (args++List.replicate (fn.ntmps-args.length) (dX undef)) []):Fn P f args res :=
 ZCm hf hb (fun e fr hp q=>by
  obtain ⟨he,d,hd,hfin⟩:=q
  refine ⟨by cases e <;> simp_all,fun {P0 B w0 w a} hh hf'=>⟨_,results_tmp hr _ _ _,hfin.out hh (hf'.rd t d hd)⟩⟩) h
theorem ZAl {f:FuncId} {fn:Func} {c:Code} {args:List Dat} {r s:Dat} {t u:Tmp} (hf:P.funcs[f]?=some fn) (hb:fn.body=some c) (hr:fn.results=#[.tmp t,.tmp u])
  (h:WC P (fin2 t u r s) c (args++List.replicate (fn.ntmps-args.length) (dX undef)) []):Fn P f args (dT [r,s]) :=
 ZCm hf hb (fun e fr hp q=>by
  obtain ⟨he,⟨d,hd,hfin⟩,d',hd',hfin'⟩:=q
  refine ⟨by cases e <;> simp_all,fun {P0 B w0 w a} hh hf'=>⟨_,results_tmp2 hr _ _ _,[a.tmps.getD t undef,a.tmps.getD u undef],rfl,rfl,fun i e x he hx=>?_⟩⟩
  match i,he,hx with
  | 0,he,hx=>cases he;cases hx;exact hfin.out hh (hf'.rd t d hd)
  | 1,he,hx=>cases he;cases hx;exact hfin'.out hh (hf'.rd u d' hd')) h
theorem Fn.mono {f:FuncId} {args:List Dat} {res res':Dat} (h:Fn P f args res) (hle:res.le res'):Fn P f args res':=Fn.mk fun I w vs hl hv=>(h.out I w vs hl hv).mono fun _ _ ⟨v,h1,h2,h3⟩=>⟨v,h1,h2,hle _ _ _ h3⟩
end

end
end Go.Proofs.YtekiljakcngcoaaGreatDoor
