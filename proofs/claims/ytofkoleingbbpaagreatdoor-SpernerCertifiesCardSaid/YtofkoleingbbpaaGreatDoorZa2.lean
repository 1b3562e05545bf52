/- Part 2 of the proof. -/
import Derived.Test.YtofkoleingbbpaaGreatDoorZa1
set_option linter.all false
set_option maxRecDepth 100000
set_option maxHeartbeats 64000000
namespace Go.Proofs.YtofkoleingbbpaaGreatDoor
section
open Go.RowKit

structure UndT (P:Program) (t e:TypeId):Prop where
 out:P.underlying t=some (.slice e)
theorem ElT.unt {P:Program} {t e:TypeId} {n bytes:Nat} {z:Value} {agg:Bool} (E:ElT P t e n z bytes agg):UndT P t e:=⟨E.und⟩
structure TyZ (P:Program) (T:TypeId) (z:Value):Prop where
 out:(P.info? T).map (·.zero)=some (some z)
structure TyI (P:Program) (T:TypeId) (n:Nat) (agg:Bool):Prop where
 size:(P.info? T).map (·.size)=some n
 agg:∀w,(isAgg T).run P w = .ok agg w
def Dat.Shape (d:Dat) (n:Nat) (agg:Bool):Prop:=∀(I:Nat->Prop) (w:World) (u:Value),d.rd I w u->∃cs:List Value,cs.length=n/\0<n/\(∀c∈cs,c.oneCell'=true)/\u.cells=cs.toArray/\(if agg then u = .agg cs.toArray else cs=[u])
theorem ZD1 {d:Dat} (h:∀(I:Nat->Prop) (w:World) (u:Value),d.rd I w u->u.oneCell'=true):d.Shape 1 false:=fun I w u hu =>
 ⟨[u],rfl,Nat.one_pos,fun c hc=>by rw[List.mem_singleton.1 hc];exact h I w u hu,ZC6 (h I w u hu),rfl⟩
theorem ZAS {n:Int}:(dI n).Shape 1 false:=ZD1 fun _ _ _ h=>by cases (h:_=_);rfl
theorem Z0 {v:Value} (hv:v.oneCell'=true):(dX v).Shape 1 false:=ZD1 fun _ _ _ h=>by cases (h:_=_);exact hv
theorem ZAI {α:Type} {R:Rel α} [Good R] {xs:List α}:(dS (Arr R) xs).Shape 1 false:=ZD1 fun _ _ _ h=>by obtain⟨a,c,rfl,_⟩:=h;rfl
theorem ZAd {α:Type} {n:Nat} {R:Rel α} [Good R] {xs:List α}:(dS (ArrK n R) xs).Shape 1 false:=ZD1 fun _ _ _ h=>by obtain⟨a,c,rfl,_⟩:=h;rfl
theorem ZBA {x:Int × Int}:(dS RV x).Shape 2 true:=fun _ _ _ h=>by cases (h:_=_);exact⟨[.int .i64 x.1,.int .i64 x.2],rfl,by omega,by simp[Value.oneCell'],rfl,rfl⟩

section
variable {P:Program} {ops:Array Oper} {hp:List HObj} {o:Oper} {fr:List Dat} {d:Dat} {Q:Z4} {rest:List Oper}
variable {dst:Option Tmp} {ty:TypeId} {ps:String} {af:Array Edge} {g:Option (Nat × Bool)}

theorem SYG.yes (h:WantS ops o fr true) (k:SY P ops hp o fr d):SYG P ops hp o fr d:=.inl ⟨h,k⟩
theorem SYG.no (h:WantS ops o fr false):SYG P ops hp o fr (dX undef):=.inr ⟨h,rfl⟩
theorem ZKH {gi:Nat} {pol:Bool} {t:Tmp} (hg:o.guard=some (gi,pol)) (ht:(ops[gi]?).bind (·.dst)=some t):t∈o.looksAt ops:=by
 unfold Oper.looksAt;rw[hg];exact List.mem_append_right _ (by simp[ht])
theorem ZLv {gi:Nat} {pol b:Bool} {t:Tmp} (hg:o.guard=some (gi,pol)) (ht:(ops[gi]?).bind (·.dst)=some t) (hf:fr[t]?=some (dB b)):WantS ops o fr (b == pol):=WantS.mk fun I w a ho=>by
 have h1:a.tmps.getD t undef = .bool b:=ho.2 t (ZKH hg ht) _ hf;have hlt:t<a.tmps.size:=by rw[ho.1];exact(List.getElem?_eq_some_iff.1 hf).1
 have h2:a.tmps[t]?=some (.bool b):=by
  rw[Array.getD_eq_getD_getElem?] at h1;rw[Array.getElem?_eq_getElem hlt] at h1 ⊢;simpa using h1
 simp[Region.wanted,hg,yielded,ht,h2]
theorem ZSg {gi:Nat} {pol:Bool} {t:Tmp} (hg:o.guard=some (gi,pol)) (ht:(ops[gi]?).bind (·.dst)=some t) {b:Bool} (hf:fr[t]?=some (dB b)) (hb:b=pol):WantS ops o fr true:=by
 subst hb;have:=ZLv hg ht hf;simpa using this
theorem ZQm {gi:Nat} {t:Tmp} (hg:o.guard=some (gi,true)) (ht:(ops[gi]?).bind (·.dst)=some t) {b:Bool} (hf:fr[t]?=some (dB b)) (hb:b=false):WantS ops o fr false:=by
 subst hb;simpa using ZLv hg ht hf
theorem ZQl {gi:Nat} {t:Tmp} (hg:o.guard=some (gi,false)) (ht:(ops[gi]?).bind (·.dst)=some t) {b:Bool} (hf:fr[t]?=some (dB b)) (hb:b=true):WantS ops o fr false:=by
 subst hb;simpa using ZLv hg ht hf
theorem ThenD.n {n:List Dat->List HObj->Prop} (h:n fr hp):ThenD n Q .normal fr hp:=h
theorem InBlockD.x {id:Nat} (h:Q .normal fr hp):InBlockD id Q (.exit id) fr hp:=by simp only[InBlockD,if_true];exact h
theorem ZCw {id id':Nat} (hne:id'≠id) (h:Q (.exit id') fr hp):InBlockD id Q (.exit id') fr hp:=by simp only[InBlockD,if_neg hne];exact h
theorem InBlockD.n {id:Nat} (h:Q .normal fr hp):InBlockD id Q .normal fr hp:=h
theorem InBlockD.r {id:Nat} (h:Q .ret fr hp):InBlockD id Q .ret fr hp:=h
theorem ThenD.r {n:List Dat->List HObj->Prop} (h:Q .ret fr hp):ThenD n Q .ret fr hp:=h
theorem ThenD.x {n:List Dat->List HObj->Prop} {id:Nat} (h:Q (.exit id) fr hp):ThenD n Q (.exit id) fr hp:=h

theorem SY.val (h:∀ {I:Nat->Prop} {w:World} {a:Act},On (o.looksAt ops) I w a fr->∃v,(execOp a.eval o).run P w = .ok (.value v) w/\d.rd I w v):SY P ops hp o fr d:=SY.mk fun _ ho K Q hk=>by
 obtain⟨v,h1,h2⟩:=h ho;unfold Oper.wp;rw[h1];exact hk v _ (ZWS _) h2
theorem ZAG (h:∀ {P0:Nat->Prop} {B:Nat} {w0 w:World} {a:Act},Hp P0 B w0 hp w->On (o.looksAt ops) (Imm P0 B hp) w a fr->∃v w',(execOp a.eval o).run P w = .ok (.value v) w'/\Ext w w'/\d.rd (Imm P0 B hp) w' v):SY P ops hp o fr d:=SY.mk fun hh ho K Q hk=>by
 obtain⟨v,w',h1,h2,h3⟩:=h hh ho;unfold Oper.wp;rw[h1];exact hk v _ h2 h3
theorem SY.mono {d':Dat} (h:SY P ops hp o fr d) (hle:d.le d'):SY P ops hp o fr d':=SY.mk fun hh ho K Q hk=>h.out hh ho K Q fun v w' e hd=>hk v w' e (hle _ _ _ hd)

theorem SY.move {x:Operand} (hx:OpD fr x d):SY P ops hp ⟨dst,.move x,ty,ps,af,g⟩ fr d :=
 SY.val fun {I w a} ho=>⟨a.eval x,by unfold execOp;simp only[Sem.run_pure],hx.get (by simp[Op.operands]) ho⟩
theorem SY.assign {x:Operand} (hx:OpD fr x d):SY P ops hp ⟨dst,.assign x,ty,ps,af,g⟩ fr d :=
 SY.val fun {I w a} ho=>⟨a.eval x,by unfold execOp;simp only[Sem.run_pure],hx.get (by simp[Op.operands]) ho⟩
theorem SY.pick {c x y:Operand} {b:Bool} (hc:OpD fr c (dB b)) (ht:b=true->OpD fr x d) (hf:b=false->OpD fr y d):SY P ops hp ⟨dst,.pick c x y,ty,ps,af,g⟩ fr d :=
 SY.val fun {I w a} ho=>by
  have h1:a.eval c = .bool b:=hc.get (by simp[Op.operands]) ho;cases b with
  | true=>exact⟨a.eval x,by unfold execOp;simp[h1,asBool],(ht rfl).get (by simp[Op.operands]) ho⟩
  | false=>exact⟨a.eval y,by unfold execOp;simp[h1,asBool],(hf rfl).get (by simp[Op.operands]) ho⟩
theorem ZU {c x y:Operand} {b:Bool} (hc:OpD fr c (dB b)) (hb:b=true) (ht:OpD fr x d):SY P ops hp ⟨dst,.pick c x y,ty,ps,af,g⟩ fr d:=SY.pick hc (fun _=>ht) (fun h=>by rw[hb] at h;cases h)
theorem ZZ {c x y:Operand} {b:Bool} (hc:OpD fr c (dB b)) (hb:b=false) (hf:OpD fr y d):SY P ops hp ⟨dst,.pick c x y,ty,ps,af,g⟩ fr d:=SY.pick hc (fun h=>by rw[hb] at h;cases h) (fun _=>hf)
theorem SY.len {x:Operand} {t e:TypeId} {n:Nat} (hx:OpD fr x d) (hd:∀(I:Nat->Prop) (w:World) (v:Value),d.rd I w v->Len v n) (hu:UndT P t e):SY P ops hp ⟨dst,.call { callee:=.builtin .len,args:=#[x],argTypes:=#[t] },ty,ps,af,g⟩ fr (dI n) :=
 SY.val fun {I w a} ho=>⟨.int .i64 n,by
  have:=hd _ _ _ (hx.get (by simp[Op.operands,Call.operands]) ho);unfold execOp;simp only[resolve,invoke,builtin,Sem.run_bind,Sem.run_pure,Result.andThen_ok,List.map_toArray,List.map_cons,List.map_nil,ZJA hu.out this],rfl⟩
theorem ZB0 {α:Type} {R:Rel α} [Good R] {xs:List α}:∀(I:Nat->Prop) (w:World) (v:Value),(dS (Arr R) xs).rd I w v->Len v xs.length:=fun _ _ _ h=>Arr.len h
theorem ZDw {α:Type} {n:Nat} {R:Rel α} [Good R] {xs:List α}:∀(I:Nat->Prop) (w:World) (v:Value),(dS (ArrK n R) xs).rd I w v->Len v xs.length:=fun _ _ _ h=>ArrK.len h
theorem ZPd {cap:Nat} {a:Option Addr} {n:Nat}:∀(I:Nat->Prop) (w:World) (v:Value),(dX (.slice a n cap)).rd I w v->Len v n:=fun _ _ _ h=>by cases (h:_=_);exact⟨a,cap,rfl⟩
theorem ZFP {x:Operand} {t e:TypeId} {v:Value} {α:Type} {R:Rel α} {_gR:Good R} {xs:List α} (hx:OpD fr x (dX v)) {e':TypeId} (hm:Zk v e' R xs∈hp) (hu:UndT P t e):SY P ops hp ⟨dst,.call { callee:=.builtin .len,args:=#[x],argTypes:=#[t] },ty,ps,af,g⟩ fr (dI xs.length) :=
 ZAG fun {P0 B w0 w a} hh ho=>⟨.int .i64 xs.length,w,by
  have h1:a.eval x=v:=hx.get (by simp[Op.operands,Call.operands]) ho;have:=Own.len (hh.ok _ hm);unfold execOp;simp only[resolve,invoke,builtin,Sem.run_bind,Sem.run_pure,Result.andThen_ok,List.map_toArray,List.map_cons,List.map_nil,h1,ZJA hu.out this],ZWS _,rfl⟩
theorem ZL2 {x:Operand} {t e:TypeId} {v:Value} {α:Type} {n:Nat} {R:Rel α} {_gR:Good R} {xs:List α} (hx:OpD fr x (dX v)) {e':TypeId} (hm:Zx v e' n R xs∈hp) (hu:UndT P t e):SY P ops hp ⟨dst,.call { callee:=.builtin .len,args:=#[x],argTypes:=#[t] },ty,ps,af,g⟩ fr (dI xs.length) :=
 ZAG fun {P0 B w0 w a} hh ho=>⟨.int .i64 xs.length,w,by
  have h1:a.eval x=v:=hx.get (by simp[Op.operands,Call.operands]) ho;have:=OwnK.len (hh.ok _ hm);unfold execOp;simp only[resolve,invoke,builtin,Sem.run_bind,Sem.run_pure,Result.andThen_ok,List.map_toArray,List.map_cons,List.map_nil,h1,ZJA hu.out this],ZWS _,rfl⟩

theorem SY.ix {x i:Operand} {t e:TypeId} {z:Value} {bytes:Nat} (E:ElT P t e 1 z bytes false) {α:Type} {R:Rel α} {_gR:Good R} {xs:List α} {k:Nat} (hx:OpD fr x (dS (Arr R) xs)) (hi:OpD fr i (dI (k:Int))) (hk:k<xs.length):SY P ops hp ⟨dst,.indexAddr t x i,ty,ps,af,g⟩ fr (dP 1 false (dS R xs[k])) :=
 SY.val fun {I w a} ho=>by
  have h1:Arr R I w (a.eval x) xs:=hx.get (by simp[Op.operands]) ho;have h2:a.eval i = .int .i64 k:=hi.get (by simp[Op.operands]) ho;obtain⟨ad,cap,hv,c1,c2,c3⟩:=h1;obtain⟨u,b,off,r1,r2,rfl,r4,r5⟩:=c3 k hk;refine⟨.pointer (some ⟨b,off+k*1,none⟩),?_,b,off+k*1,u,rfl,⟨r4,[u],rfl,Nat.one_pos,?_,?_,rfl⟩,r1⟩
  ·unfold execOp;simp only[hv,h2,Sem.run_bind,ZBP (w:=w) E b off xs.length cap k .i64 hk,Result.andThen_ok,Sem.run_pure]
  ·intro c hc;rw[List.mem_singleton.1 hc];exact r2
  ·intro j c hc;have:j=0:=by
    have:=(List.getElem?_eq_some_iff.1 hc).1;simp at this;exact this
   subst this;cases hc;simpa using r5
theorem Zy {x i:Operand} {t e:TypeId} {z:Value} {bytes n:Nat} {ag:Bool} (E:ElT P t e n z bytes ag) {α:Type} {R:Rel α} {_gR:Good R} {xs:List α} {k:Nat} (hx:OpD fr x (dS (ArrK n R) xs)) (hi:OpD fr i (dI (k:Int))) (hk:k<xs.length):SY P ops hp ⟨dst,.indexAddr t x i,ty,ps,af,g⟩ fr (dP n true (dS R xs[k])) :=
 SY.val fun {I w a} ho=>by
  have h1:ArrK n R I w (a.eval x) xs:=hx.get (by simp[Op.operands]) ho;have h2:a.eval i = .int .i64 k:=hi.get (by simp[Op.operands]) ho;obtain⟨ad,cap,hv,c1,c2,c0,c3⟩:=h1;obtain⟨cs,b,off,r1,r2,r3,rfl,r4,r5⟩:=c3 k hk;refine⟨.pointer (some ⟨b,off+k*n,none⟩),?_,b,off+k*n,_,rfl,⟨r4,cs,r2,c0,r3,r5,rfl⟩,r1⟩;unfold execOp;simp only[hv,h2,Sem.run_bind,ZBP (w:=w) E b off xs.length cap k .i64 hk,Result.andThen_ok,Sem.run_pure]
theorem ZOC {x i:Operand} {t e:TypeId} {z:Value} {bytes:Nat} (E:ElT P t e 1 z bytes false) {α:Type} {R:Rel α} {_gR:Good R} {xs:List α} {j:Int} (hx:OpD fr x (dS (Arr R) xs)) (hi:OpD fr i (dI j)) (k:Nat) (hj:j=(k:Int)) (hk:k<xs.length):SY P ops hp ⟨dst,.indexAddr t x i,ty,ps,af,g⟩ fr (dP 1 false (dS R xs[k])):=SY.ix E hx (by rw[<- hj];exact hi) hk
theorem ZGd {x i:Operand} {t e:TypeId} {z:Value} {bytes n:Nat} {ag:Bool} (E:ElT P t e n z bytes ag) {α:Type} {R:Rel α} {_gR:Good R} {xs:List α} {j:Int} (hx:OpD fr x (dS (ArrK n R) xs)) (hi:OpD fr i (dI j)) (k:Nat) (hj:j=(k:Int)) (hk:k<xs.length):SY P ops hp ⟨dst,.indexAddr t x i,ty,ps,af,g⟩ fr (dP n true (dS R xs[k])):=Zy E hx (by rw[<- hj];exact hi) hk

theorem ZA8 {T:TypeId} {n:Nat} {agg:Bool} (T':TyI P T n agg) {I:Nat->Prop} {w:World} {b off:Nat} {u:Value} (h:Cells I w b off n agg u):(Instr.loadAt T (.pointer (some ⟨b,off,none⟩))).run P w = .ok u w:=by
 obtain⟨hb,cs,h1,h2,h3,h4,h5⟩:=h;cases hq:P.info? T with
 | none=>have:=T'.size;simp[hq] at this
 | some i =>
  have hs:i.size=n:=by have:=T'.size;simpa[hq] using this
  cases agg with
  | true =>
   simp only[if_true] at h5;have hl:=run_loadCells_list (P:=P) w ⟨b,off,none⟩ cs (fun j v hv=>by rw[Addr.add_lit];exact h4 j v hv);rw[h1] at hl;simp[Instr.loadAt,Instr.sureAddr,loadVar,T'.agg,sizeOf,typeInfo,hq,hs,hl,h5]
  | false =>
   simp only[Bool.false_eq_true,if_false] at h5;subst h5;have:=h4 0 u rfl;simp at this;simp[Instr.loadAt,Instr.sureAddr,loadVar,T'.agg,run_load,this]
theorem SY.load {x:Operand} {T:TypeId} {n:Nat} {agg:Bool} (T':TyI P T n agg) (hx:OpD fr x (dP n agg d)):SY P ops hp ⟨dst,.load T x,ty,ps,af,g⟩ fr d :=
 SY.val fun {I w a} ho=>by
  obtain⟨b,off,u,h1,h2,h3⟩:=hx.get (by simp[Op.operands]) ho;refine⟨u,?_,h3⟩;unfold execOp;simp only[h1,Sem.run_bind,ZA8 T' h2,Result.andThen_ok,Sem.run_pure]
theorem ZA6 {w:World} {b n:Nat} {agg:Bool} {T:TypeId} {cs:List Value} {u:Value} (h:w.heap[b]?=some (.cells cs.toArray T)) (h1:cs.length=n) (h0:0<n) (h2:∀c∈cs,c.oneCell'=true) (h3:if agg then u = .agg cs.toArray else cs=[u]) {I:Nat->Prop} (hb:I b):Cells I w b 0 n agg u :=
 ⟨hb,cs,h1,h0,h2,fun j c hc=>by rw[cell_of_row w b (0+j) _ _ _ h];simpa using hc,h3⟩
theorem ZBV {x:Operand} {T T2:TypeId} {n b:Nat} {agg:Bool} (T':TyI P T n agg) (hx:OpD fr x (dX (.pointer (some ⟨b,0,none⟩)))) (hm:Zm b T2 n agg d∈hp):SY P ops hp ⟨dst,.load T x,ty,ps,af,g⟩ fr d :=
 ZAG fun {P0 B w0 w a} hh ho=>by
  have h1:a.eval x = .pointer (some ⟨b,0,none⟩):=hx.get (by simp[Op.operands]) ho;obtain⟨cs,u,k1,k2,k0,k3,k4,k5⟩:=hh.ok _ hm;refine⟨u,w,?_,ZWS _,k5⟩;unfold execOp;simp only[h1,Sem.run_bind,ZA8 T' (ZA6 (I:=fun _=>True) k1 k2 k0 k3 k4 trivial),Result.andThen_ok,Sem.run_pure]

theorem Zw (w:World) (x:Obj):(w.alloc x).heap[w.heap.size]?=some x:=by
 show(w.heap.push x)[w.heap.size]?=_;simp
theorem SY.box {x:Operand} {T:TypeId} {n:Nat} {agg:Bool} (hx:OpD fr x d) (hs:d.Shape n agg):SY P ops hp ⟨dst,.box T x,ty,ps,af,g⟩ fr (dP n agg d) :=
 ZAG fun {P0 B w0 w a} hh ho=>by
  have h1:=hx.get (by simp[Op.operands]) ho;obtain⟨cs,k1,k0,k2,k3,k4⟩:=hs _ _ _ h1;refine⟨.pointer (some ⟨w.heap.size,0,none⟩),w.alloc (.cells cs.toArray T),?_,ZWU _ _,w.heap.size,0,a.eval x,rfl,ZA6 (Zw w _) k1 k0 k2 k4 (hh.fresh (Nat.le_refl _)),Dat.ext h1 (ZWU _ _)⟩;unfold execOp;simp[Instr.box,newVar,newRow,k3]

theorem ZEt {α:Type} (e:TypeId) (R:Rel α) [Good R] (h:WL P ops Q rest fr (Zk (.slice none 0 0) e R ([]:List α)::hp)):WL P ops Q rest fr hp:=WL.of fun _ _ _ _ _ hh hf =>
 h.on (hh.push (ZWS _) (by simp[Zk,Value.ownBlock]) Own.nil) (hf.mono fun _ _ hd=>ZAJ (ZWS _) (by simp[Zk,Value.ownBlock]) hd)
theorem Zn {c:Code} {α:Type} (e:TypeId) (R:Rel α) [Good R] (h:WC P Q c fr (Zk (.slice none 0 0) e R ([]:List α)::hp)):WC P Q c fr hp:=WC.of fun _ _ _ _ _ hh hf =>
 h.on (hh.push (ZWS _) (by simp[Zk,Value.ownBlock]) Own.nil) (hf.mono fun _ _ hd=>ZAJ (ZWS _) (by simp[Zk,Value.ownBlock]) hd)
theorem ZCz {c:Code} {α:Type} (e:TypeId) (n:Nat) (hn:0<n) (R:Rel α) [Good R] (h:WC P Q c fr (Zx (.slice none 0 0) e n R ([]:List α)::hp)):WC P Q c fr hp:=WC.of fun _ _ _ _ _ hh hf =>
 h.on (hh.push (ZWS _) (by simp[Zx,Value.ownBlock]) (OwnK.nil hn)) (hf.mono fun _ _ hd=>ZAJ (ZWS _) (by simp[Zx,Value.ownBlock]) hd)
theorem WC.drop {c:Code} {o:HObj} (h:WC P Q c fr hp):WC P Q c fr (o::hp):=WC.of fun _ _ _ _ _ hh hf=>h.on hh.drop (hf.mono fun d _ hd=>d.weak hd ZWZ)
theorem WL.drop {o:HObj} (h:WL P ops Q rest fr hp):WL P ops Q rest fr (o::hp):=WL.of fun _ _ _ _ _ hh hf=>h.on hh.drop (hf.mono fun d _ hd=>d.weak hd ZWZ)

theorem Hp.perm {P0:Nat->Prop} {B:Nat} {w0 w:World} {hp':List HObj} (h:Hp P0 B w0 hp w) (hp1:hp.Perm hp'):Hp P0 B w0 hp' w/\∀k,Imm P0 B hp k↔Imm P0 B hp' k:=by
 have hI:∀k,Imm P0 B hp k↔Imm P0 B hp' k:=fun k=>⟨fun h=>⟨h.1,fun o ho=>h.2 o (hp1.mem_iff.2 ho)⟩,fun h=>⟨h.1,fun o ho=>h.2 o (hp1.mem_iff.1 ho)⟩⟩;refine⟨⟨h.base,h.below,fun o ho=>h.own o (hp1.mem_iff.2 ho),fun o ho=>o.weak (h.ok o (hp1.mem_iff.2 ho)) fun k hk=>(hI k).1 hk,?_⟩,hI⟩;exact(hp1.pairwise_iff (fun {x y} hxy k hy hx=>hxy k hx hy)).1 h.apart
theorem WL.perm {hp':List HObj} (hp1:hp.Perm hp') (h:WL P ops Q rest fr hp'):WL P ops Q rest fr hp:=WL.of fun _ _ _ _ _ hh hf =>
 let ⟨h1,h2⟩:=hh.perm hp1
 h.on h1 (hf.mono fun d _ hd=>d.weak hd fun k hk=>(h2 k).1 hk)
theorem WC.perm {c:Code} {hp':List HObj} (hp1:hp.Perm hp') (h:WC P Q c fr hp'):WC P Q c fr hp:=WC.of fun _ _ _ _ _ hh hf =>
 let ⟨h1,h2⟩:=hh.perm hp1
 h.on h1 (hf.mono fun d _ hd=>d.weak hd fun k hk=>(h2 k).1 hk)

theorem ZP {c:Code} {p:Prop} {t:Nat} (ht:fr[t]?=some d) (hd:∀(I:Nat->Prop) (w:World) (v:Value),d.rd I w v->p) (h:p->WC P Q c fr hp):WC P Q c fr hp:=WC.of fun _ _ _ _ _ hh hf=>(h (hd _ _ _ (hf.rd t d ht))).on hh hf
theorem ZDu {α:Type} {R:Rel α} [Good R] {xs:List α}:∀(I:Nat->Prop) (w:World) (v:Value),(dS (Arr R) xs).rd I w v->xs.length≤maxLen:=fun _ _ _ h=>by obtain⟨_,_,_,h1,h2,_⟩:=h;omega
theorem ZEG {α:Type} {n:Nat} {R:Rel α} [Good R] {xs:List α}:∀(I:Nat->Prop) (w:World) (v:Value),(dS (ArrK n R) xs).rd I w v->xs.length≤maxLen:=fun _ _ _ h=>by obtain⟨_,_,_,h1,h2,_⟩:=h;omega
theorem ZIQ {α:Type} {p:α->Prop} {D:α->Dat} (t:Nat) (ht:fr[t]?=some (dE p D)) (h:∀x,p x->WL P ops Q rest (fr.set t (D x)) hp):WL P ops Q rest fr hp:=WL.of fun P0 B w0 w a hh hf=>by
 obtain⟨x,hx,hd⟩:=hf.rd t _ ht;refine(h x hx).on hh ⟨hf.defers,by rw[hf.size,List.length_set],fun t' d' hd'=>?_⟩;by_cases htt:t=t'
 ·subst htt;rw[List.getElem?_set] at hd';simp only[if_true] at hd';split at hd'
  ·cases hd';exact hd
  ·cases hd'
 ·rw[List.getElem?_set_ne htt] at hd';exact hf.rd t' d' hd'

theorem ZCq {x:Int} (h : -9223372036854775808≤x/\x≤9223372036854775807):IntKind.i64.wrap x=x:=by
 simp[IntKind.wrap,IntKind.signed,IntKind.bits];omega
theorem ZAr {op:BinOp} {x y:Operand} {T T2:TypeId} {p q:Int} {r:Value} (hx:OpD fr x (dI p)) (hy:OpD fr y (dI q)) (hr:∀w,(Go.binOp op T (.int .i64 p) (.int .i64 q)).run P w = .ok r w) (hd:∀(I:Nat->Prop) (w:World),d.rd I w r):SY P ops hp ⟨dst,.binOp op T x y T2,ty,ps,af,g⟩ fr d :=
 SY.val fun {I w a} ho=>by
  have h1:a.eval x = .int .i64 p:=hx.get (by simp[Op.operands]) ho;have h2:a.eval y = .int .i64 q:=hy.get (by simp[Op.operands]) ho;refine⟨r,?_,hd _ _⟩;unfold execOp;have hg:(eqGuard op T x y (.int .i64 p) (.int .i64 q)).run P w = .ok () w:=by unfold eqGuard;split <;> simp
  simp only[h1,h2,Sem.run_bind,hg,hr,Result.andThen_ok,Sem.run_pure]
section
variable {x y:Operand} {T T2:TypeId} {p q:Int} (hx:OpD fr x (dI p)) (hy:OpD fr y (dI q))
include hx hy
theorem SY.lss:SY P ops hp ⟨dst,.binOp .lss T x y T2,ty,ps,af,g⟩ fr (dB (decide (p<q))):=ZAr hx hy (fun w=>by simp[Go.binOp,Op.intCmp]) fun _ _=>rfl
theorem SY.leq:SY P ops hp ⟨dst,.binOp .leq T x y T2,ty,ps,af,g⟩ fr (dB (decide (p≤q))):=ZAr hx hy (fun w=>by simp[Go.binOp,Op.intCmp]) fun _ _=>rfl
theorem SY.gtr:SY P ops hp ⟨dst,.binOp .gtr T x y T2,ty,ps,af,g⟩ fr (dB (decide (q<p))):=ZAr hx hy (fun w=>by simp[Go.binOp,Op.intCmp]) fun _ _=>rfl
theorem SY.geq:SY P ops hp ⟨dst,.binOp .geq T x y T2,ty,ps,af,g⟩ fr (dB (decide (q≤p))):=ZAr hx hy (fun w=>by simp[Go.binOp,Op.intCmp]) fun _ _=>rfl
theorem SY.eql:SY P ops hp ⟨dst,.binOp .eql T x y T2,ty,ps,af,g⟩ fr (dB (decide (p=q))):=ZAr hx hy (fun w=>by simp[Go.binOp,Op.intCmp];rfl) fun _ _=>rfl
theorem SY.neq:SY P ops hp ⟨dst,.binOp .neq T x y T2,ty,ps,af,g⟩ fr (dB (!decide (p=q))):=ZAr hx hy (fun w=>by simp[Go.binOp,Op.intCmp];rfl) fun _ _=>rfl
theorem SY.add (h : -9223372036854775808≤p+q/\p+q≤9223372036854775807):SY P ops hp ⟨dst,.binOp .add T x y T2,ty,ps,af,g⟩ fr (dI (p+q)):=ZAr hx hy (fun w=>by simp[Go.binOp,Op.intArith,ZCq h]) fun _ _=>rfl
theorem SY.sub (h : -9223372036854775808≤p-q/\p-q≤9223372036854775807):SY P ops hp ⟨dst,.binOp .sub T x y T2,ty,ps,af,g⟩ fr (dI (p-q)):=ZAr hx hy (fun w=>by simp[Go.binOp,Op.intArith,ZCq h]) fun _ _=>rfl
theorem SY.mul (h : -9223372036854775808≤p*q/\p*q≤9223372036854775807):SY P ops hp ⟨dst,.binOp .mul T x y T2,ty,ps,af,g⟩ fr (dI (p*q)):=ZAr hx hy (fun w=>by simp[Go.binOp,Op.intArith,ZCq h]) fun _ _=>rfl
end
theorem SY.not {x:Operand} {T:TypeId} {b:Bool} (hx:OpD fr x (dB b)):SY P ops hp ⟨dst,.unOp .not T x,ty,ps,af,g⟩ fr (dB (!b)) :=
 SY.val fun {I w a} ho=>⟨.bool (!b),by
  have h1:a.eval x = .bool b:=hx.get (by simp[Op.operands]) ho;unfold execOp;simp[h1,Op.unary],rfl⟩
theorem SY.extract {x:Operand} {i:Nat} {ds:List Dat} (hx:OpD fr x (dT ds)) (hd:ds[i]?=some d):SY P ops hp ⟨dst,.extract x i,ty,ps,af,g⟩ fr d :=
 SY.val fun {I w a} ho=>by
  obtain⟨vs,h1,h2,h3⟩:=hx.get (by simp[Op.operands]) ho;have hi:i<vs.length:=by rw[h2];exact(List.getElem?_eq_some_iff.1 hd).1
  refine⟨vs[i],?_,h3 i d _ hd (List.getElem?_eq_getElem hi)⟩;unfold execOp;simp[h1,Instr.extract,hi]

structure Fn (P:Program) (f:FuncId) (args:List Dat) (res:Dat):Prop where
 out:∀(I:Nat->Prop) (w:World) (vs:List Value),vs.length=args.length->(∀(i:Nat) (d:Dat),args[i]?=some d->d.rd I w (vs.getD i undef)) ->
  Calls P f vs.toArray w fun e w'=>∃v,e = .returned v/\Ext w w'/\res.rd (fun b=>I b\/w.heap.size≤b) w' v
structure ArgsD (fr:List Dat) (xs:List Operand) (ds:List Dat):Prop where
 len:xs.length=ds.length
 get:∀(i:Nat) (x:Operand) (d:Dat),xs[i]?=some x->ds[i]?=some d->OpD fr x d
theorem ArgsD.nil {fr:List Dat}:ArgsD fr [] []:=⟨rfl,fun i x d h=>by simp at h⟩
theorem ArgsD.cons {fr:List Dat} {x:Operand} {xs:List Operand} {d:Dat} {ds:List Dat} (h:OpD fr x d) (k:ArgsD fr xs ds):ArgsD fr (x::xs) (d::ds) :=
 ⟨by simp[k.1],fun i y e hy he=>by
  cases i with
  | zero=>simp at hy he;subst hy;subst he;exact h
  | succ i=>exact k.2 i y e (by simpa using hy) (by simpa using he)⟩
theorem ZGA {f:FuncId} {args:Array Operand} {ats:Array TypeId} (hf:∀(args:Array Value) (w:World),(callFunc f args).run P w = .ok (.enter f args) w)
  (h:∀ {P0:Nat->Prop} {B:Nat} {w0 w:World} {a:Act},Hp P0 B w0 hp w->On ((⟨dst,.call { callee:=.value (.func f),args:=args,argTypes:=ats },ty,ps,af,g⟩:Oper).looksAt ops) (Imm P0 B hp) w a fr->Calls P f (args.map a.eval) w fun e w'=>∃v,e = .returned v/\Ext w w'/\d.rd (Imm P0 B hp) w' v) :
  SY P ops hp ⟨dst,.call { callee:=.value (.func f),args:=args,argTypes:=ats },ty,ps,af,g⟩ fr d:=SY.mk fun {P0 B w0 w a} hh ho K Q hk=>by
 have h1:=h hh ho;unfold Oper.wp;have:(execOp a.eval ⟨dst,.call { callee:=.value (.func f),args:=args,argTypes:=ats },ty,ps,af,g⟩).run P w = .ok (.enter f (args.map a.eval)) w:=by
  unfold execOp;simp only[resolve];simp[Act.eval,Deferred.ofValue,invoke,hf]
 rw[this];exact h1.mono fun e w' ⟨v,he,e1,hd⟩=>by subst he;exact hk v w' e1 hd
theorem SY.call {f:FuncId} {args:Array Operand} {ats:Array TypeId} {ds:List Dat} (hF:Fn P f ds d) (hf:∀(args:Array Value) (w:World),(callFunc f args).run P w = .ok (.enter f args) w) (ha:ArgsD fr args.toList ds) :
  SY P ops hp ⟨dst,.call { callee:=.value (.func f),args:=args,argTypes:=ats },ty,ps,af,g⟩ fr d :=
 ZGA hf fun {P0 B w0 w a} hh ho=>by
  have h1:=hF.out (Imm P0 B hp) w (args.toList.map a.eval) (by simpa using ha.1) fun i d hd=>by
   have hi:i<args.toList.length:=by rw[ha.1];exact(List.getElem?_eq_some_iff.1 hd).1
   have h2:=ha.2 i _ d (List.getElem?_eq_getElem hi) hd;have:=h2.get (by simp only[Op.operands,Call.operands];simp) ho;have hi':i<args.size:=by simpa using hi
   simpa[List.getD,hi'] using this
  have he:(args.toList.map a.eval).toArray=args.map a.eval:=by apply Array.ext';simp
  rw[he] at h1;exact h1.mono fun e w' ⟨v,h1,h2,h3⟩=>⟨v,h1,h2,d.weak h3 fun k hk=>hk.elim id hh.fresh⟩
structure ArgH (hp:List HObj) (d d':Dat):Prop where
 out:∀ {P0:Nat->Prop} {B:Nat} {w0 w:World} {v:Value},Hp P0 B w0 hp w->d.rd (Imm P0 B hp) w v->d'.rd anyB w v
theorem ArgH.le {d':Dat} (h:d.le d'):ArgH hp d d':=⟨fun _ hd=>h _ _ _ (d.weak hd fun _ _=>trivial)⟩
def Dat.Bare (d:Dat):Prop:=∀(I I':Nat->Prop) (w w':World) (v:Value),d.rd I w v->d.rd I' w' v
theorem ZOt {n:Int}:(dI n).Bare:=fun _ _ _ _ _ h=>h
theorem ZHs {n:Bool}:(dB n).Bare:=fun _ _ _ _ _ h=>h
def ArgsH (fr:List Dat) (hp:List HObj) (xs:List Operand) (ds:List Dat):Prop:=xs.length=ds.length/\∀(i:Nat) (x:Operand) (d:Dat),xs[i]?=some x->ds[i]?=some d->∃d0,OpD fr x d0/\ArgH hp d0 d
theorem ArgsH.nil {fr:List Dat}:ArgsH fr hp [] []:=⟨rfl,fun i x d h=>by simp at h⟩
structure Kont (K:List Dat->List HObj->Prop) (f:List Dat) (p:List HObj):Prop where
 out:K f p
theorem Kont.skip {K:List Dat->List HObj->Prop} (h:Kont K fr hp):Kont K fr hp:=h
theorem WC.id {c:Code} (h:WC P Q c fr hp):WC P Q c fr hp:=h
theorem WL.id (h:WL P ops Q rest fr hp):WL P ops Q rest fr hp:=h
theorem ZA {x y:Code} (h:∀K:List Dat->List HObj->Prop,(∀f p,WC P Q y f p->Kont K f p)->WC P (ThenD (Kont K) Q) x fr hp):WC P Q (.seq x y) fr hp :=
 WC.seq ((h (WC P Q y) fun _ _ h=>⟨h⟩).mono fun e f p q=>by
  cases e with
  | normal=>exact(q:Kont _ f p).out
  | _=>exact q)

section
variable {c:Operand} {x y:Code} {p:Prop} {_ip:Decidable p} {b:Bool}
theorem Zf (hc:OpD fr c (dB b)) (hb:b=true) (h:WC P Q x fr hp):WC P Q (.cond c x y) fr hp:=ZWY hc (fun _=>h) (fun h=>by rw[hb] at h;cases h)
theorem ZQ (hc:OpD fr c (dB b)) (hb:b=false) (h:WC P Q y fr hp):WC P Q (.cond c x y) fr hp:=ZWY hc (fun h=>by rw[hb] at h;cases h) (fun _=>h)
theorem ZB (hc:OpD fr c (dB (decide p))) (ht:p->WC P Q x fr hp) (hf:¬ p->WC P Q y fr hp):WC P Q (.cond c x y) fr hp:=ZWY hc (fun h=>ht (of_decide_eq_true h)) (fun h=>hf (of_decide_eq_false h))
theorem ZG (hc:OpD fr c (dB (!decide p))) (ht:¬ p->WC P Q x fr hp) (hf:p->WC P Q y fr hp):WC P Q (.cond c x y) fr hp:=ZWY hc (fun h=>ht (by simpa using h)) (fun h=>hf (by simpa using h))
theorem ZO (hc:OpD fr c (dB (!b))) (ht:b=false->WC P Q x fr hp) (hf:b=true->WC P Q y fr hp):WC P Q (.cond c x y) fr hp:=ZWY hc (fun h=>ht (by simpa using h)) (fun h=>hf (by simpa using h))
end
theorem ZGX {t:Nat} {e:Dat} (h:fr[t]?=some e):fr.set t e=fr:=by
 apply List.ext_getElem?;intro j;by_cases hj:t=j
 ·subst hj;rw[List.getElem?_set,if_pos rfl,h];simp[(List.getElem?_eq_some_iff.1 h).1]
 ·rw[List.getElem?_set_ne hj]
section
variable {p:Prop} {_ip:Decidable p} {b:Bool} {gi:Nat} {pol:Bool} {t:Tmp} {K:List Dat->Prop}
theorem ZK (_hg:o.guard=some (gi,pol)) (_ht:(ops[gi]?).bind (·.dst)=some t) (hf:fr[t]?=some (dB b)) (h1:b=true->WL P ops Q (o::rest) (fr.set t (dB true)) hp) (h2:b=false->WL P ops Q (o::rest) (fr.set t (dB false)) hp):WL P ops Q (o::rest) fr hp:=by
 cases b with
 | true=>have:=h1 rfl;rwa[ZGX hf] at this
 | false=>have:=h2 rfl;rwa[ZGX hf] at this
theorem ZM (hg:o.guard=some (gi,pol)) (ht:(ops[gi]?).bind (·.dst)=some t) (hf:fr[t]?=some (dB (decide p))) (h1:p->WL P ops Q (o::rest) (fr.set t (dB true)) hp) (h2:¬ p->WL P ops Q (o::rest) (fr.set t (dB false)) hp):WL P ops Q (o::rest) fr hp :=
 ZK hg ht hf (fun h=>h1 (of_decide_eq_true h)) (fun h=>h2 (of_decide_eq_false h))
theorem ZL (hg:o.guard=some (gi,pol)) (ht:(ops[gi]?).bind (·.dst)=some t) (hf:fr[t]?=some (dB (!decide p))) (h1:¬ p->WL P ops Q (o::rest) (fr.set t (dB true)) hp) (h2:p->WL P ops Q (o::rest) (fr.set t (dB false)) hp):WL P ops Q (o::rest) fr hp :=
 ZK hg ht hf (fun h=>h1 (by simpa using h)) (fun h=>h2 (by simpa using h))
theorem ZV (_hg:o.guard=some (gi,pol)) (_ht:(ops[gi]?).bind (·.dst)=some t) (hf:fr[t]?=some (dB b)) (h1:b=true->WD P ops hp K (o::rest) (fr.set t (dB true))) (h2:b=false->WD P ops hp K (o::rest) (fr.set t (dB false))):WD P ops hp K (o::rest) fr:=by
 cases b with
 | true=>have:=h1 rfl;rwa[ZGX hf] at this
 | false=>have:=h2 rfl;rwa[ZGX hf] at this
theorem Za (hg:o.guard=some (gi,pol)) (ht:(ops[gi]?).bind (·.dst)=some t) (hf:fr[t]?=some (dB (decide p))) (h1:p->WD P ops hp K (o::rest) (fr.set t (dB true))) (h2:¬ p->WD P ops hp K (o::rest) (fr.set t (dB false))):WD P ops hp K (o::rest) fr :=
 ZV hg ht hf (fun h=>h1 (of_decide_eq_true h)) (fun h=>h2 (of_decide_eq_false h))
end

def ZH (fr:List Dat):List (Nat × Dat)->List Dat
 | []=>fr
 | (t,d)::r=>ZH (fr.set t d) r
inductive LeF:List Dat->List Dat->Prop
 | nil:LeF [] []
 | cons {d e:Dat} {f f':List Dat}:d.le e->LeF f f'->LeF (d::f) (e::f')
theorem LeF.out {f f':List Dat} (h:LeF f f'):f.length=f'.length/\∀(t:Nat) (d:Dat),f'[t]?=some d->∃d0:Dat,f[t]?=some d0/\d0.le d:=by
 induction h with
 | nil=>exact⟨rfl,fun t d h=>by simp at h⟩
 | cons h _ ih =>
  refine⟨by simp[ih.1],fun t e he=>?_⟩;cases t with
  | zero=>simp at he;subst he;exact⟨_,rfl,h⟩
  | succ t=>simpa using ih.2 t e (by simpa using he)
theorem ZCO {a b:Int} (h:a=b):(dI a).le (dI b):=h ▸ ZWI _
theorem ZLb {d e:Dat} (h:d=e):d.le e:=h ▸ ZWI _
theorem WC.loopU {X:Type} {c:Code} (ups:X->List (Nat × Dat)) (H:X->List HObj) (μ:X->Nat) (p:X->Prop) (x0:X) (h0:p x0) (hF:LeF fr (ZH fr (ups x0))) (hH:hp=H x0)
  (round:∀x,p x->WC P (ThenD (fun f q=>∃x',p x'/\μ x'<μ x/\q=H x'/\LeF f (ZH fr (ups x'))) Q) c (ZH fr (ups x)) (H x)):WC P Q (.loop c) fr hp :=
 WC.loop (fun x=>ZH fr (ups x)) H μ p x0 h0 hF.out hH fun x hx=>(round x hx).mono fun e f q h=>by
  cases e with
  | normal=>obtain⟨x',h1,h2,h3,h4⟩:=(h:∃x',_);exact⟨x',h1,h2,h3,h4.out.1,h4.out.2⟩
  | _=>exact h
structure FinD (hp:List HObj) (d d':Dat):Prop where
 out:∀ {P0:Nat->Prop} {B:Nat} {w0 w:World} {v:Value},Hp P0 B w0 hp w->d.rd (Imm P0 B hp) w v->d'.rd (fun b=>P0 b\/B≤b) w v
theorem FinD.le {d':Dat} (h:d.le d'):FinD hp d d':=⟨fun _ hd=>h _ _ _ (d.weak hd fun _ hk=>hk.1)⟩
theorem ZTI {d':Dat} (h:d=d'):FinD hp d d':=h ▸ FinD.le (ZWI d)
theorem ZEH {P0:Nat->Prop} {B:Nat} {w0 w:World} (hh:Hp P0 B w0 hp w) {o:HObj} (ho:o∈hp) {k:Nat} (hk:o.blk=some k):P0 k\/B≤k:=.inr (hh.own o ho k hk).1
theorem FinD.row {v:Value} {e:TypeId} {α:Type} {R:Rel α} {_gR:Good R} {xs:List α} (h:Zk v e R xs∈hp):FinD hp (dX v) (dS (Arr R) xs):=FinD.mk fun {P0 B w0 w u} hh hd=>by
 cases (hd:u=v);obtain⟨us,hl,ho,he⟩:=hh.ok _ h;obtain⟨a,cap,hv,h1,h2,h3⟩:=Z7 ho;refine⟨a,cap,hv,h1,h2,fun k hk=>?_⟩;have hk':k<us.length:=by omega
 obtain⟨gb,ha,hob,_,hc⟩:=h3 k us[k] (List.getElem?_eq_getElem hk');obtain⟨r1,r2⟩:=he k hk' hk;exact⟨us[k],gb,0,Good.weak r2 (fun b hb=>hb.1.1),r1,ha,ZEH hh h hob,by rw[Nat.zero_add];exact hc⟩
theorem FinD.rowK {v:Value} {e:TypeId} {n:Nat} {α:Type} {R:Rel α} {_gR:Good R} {xs:List α} (h:Zx v e n R xs∈hp):FinD hp (dX v) (dS (ArrK n R) xs):=FinD.mk fun {P0 B w0 w u} hh hd=>by
 cases (hd:u=v);obtain⟨us,hl,hu,hn,ho,he⟩:=hh.ok _ h;obtain⟨a,cap,hv,h1,h2,h3⟩:=Z7 ho;refine⟨a,cap,hv,h1,h2,hn,fun k hk=>?_⟩;have hk':k<us.length:=by omega
 have hmem:=hu us[k] (List.getElem_mem hk');have hlen:∀u∈us,u.length=n:=fun u h=>(hu u h).1;have hc0:0<us[k].length:=by rw[hmem.1];exact hn
 obtain⟨gb,ha,hob,hB,_⟩:=h3 (k*n+0) us[k][0] (Zt hlen hk' (List.getElem?_eq_getElem hc0));refine⟨us[k],gb,0,Good.weak (he k hk' hk) (fun b hb=>hb.1.1),hmem.1,hmem.2,ha,ZEH hh h hob,fun j c hc=>?_⟩;obtain⟨g',ha',_,_,hc'⟩:=h3 (k*n+j) c (Zt hlen hk' hc);rw[ha] at ha';cases ha';rw[Nat.zero_add];exact hc'
theorem FinD.i {x y:Int} (h:x=y):FinD hp (dI x) (dI y):=FinD.le (ZCO h)
theorem FinD.b {x y:Bool} (h:x=y):FinD hp (dB x) (dB y):=FinD.le (ZLb (by rw[h]))
def fin1 (t:Nat) (res:Dat):Z4:=fun e fr hp=>(match e with|.normal|.ret=>True|_=>False)/\∃d,fr[t]?=some d/\FinD hp d res
def fin2 (t u:Nat) (r s:Dat):Z4:=fun e fr hp=>(match e with|.normal|.ret=>True|_=>False)/\(∃d,fr[t]?=some d/\FinD hp d r)/\∃d,fr[u]?=some d/\FinD hp d s
theorem ZCA {I:Nat->Prop} {w:World} {vs:List Value} {args:List Dat} {m:Nat} (hl:vs.length=args.length) (h:∀(i:Nat) (d:Dat),args[i]?=some d->d.rd I w (vs.getD i undef)) :
  Fr I w { tmps:=vs.toArray++Array.replicate m undef,defers:=[] } (args++List.replicate m (dX undef)):=by
 refine⟨rfl,by simp[hl],fun t d hd=>?_⟩;by_cases ht:t<args.length
 ·rw[List.getElem?_append_left ht] at hd;have:=h t d hd;have ht':t<vs.length:=by omega
  simpa[Array.getD_eq_getD_getElem?,List.getD,Array.getElem?_append_left,ht'] using this
 ·rw[List.getElem?_append_right (by omega)] at hd;have hd':=(List.getElem?_eq_some_iff.1 hd);obtain⟨h1,h2⟩:=hd';simp at h2;subst h2;simp at h1;show _=undef;rw[Array.getD_eq_getD_getElem?,Array.getElem?_append_right (by simp;omega)];simp[hl,h1]
theorem hp_enter {I:Nat->Prop} {w:World}:Hp (fun b=>I b/\b<w.heap.size) w.heap.size w [] w:=⟨Nat.le_refl _,Below.refl _ _,(fun o ho=>by cases ho),(fun o ho=>by cases ho),List.Pairwise.nil⟩
theorem ZBr {f:FuncId} {fn:Func} {c:Code} {args:List Dat} {res:Dat} {Q:Z4} (hf:P.funcs[f]?=some fn) (hb:fn.body=some c)
  (hQ:∀(e:Exit) (fr:List Dat) (hp:List HObj),Q e fr hp->(e = .normal\/e = .ret)/\∀ {P0:Nat->Prop} {B:Nat} {w0 w:World} {a:Act},Hp P0 B w0 hp w->Fr (Imm P0 B hp) w a fr->∃v,(results fn a.tmps).run P w = .ok v w/\res.rd (fun b=>P0 b\/B≤b) w v)
  (h:WC P Q c (args++List.replicate (fn.ntmps-args.length) (dX undef)) []):Fn P f args res:=Fn.mk fun I w vs hl hv=>by
 refine calls_of_wp hf hb ?_;have hfr:Fr (Imm (fun b=>I b/\b<w.heap.size) w.heap.size []) w { tmps:=vs.toArray++Array.replicate (fn.ntmps-vs.toArray.size) undef,defers:=[] } (args++List.replicate (fn.ntmps-args.length) (dX undef)):=by
  have:=ZCA (m:=fn.ntmps-args.length) (I:=Imm (fun b=>I b/\b<w.heap.size) w.heap.size []) hl fun i d hd=>d.weak (d.bound (hv i d hd)) fun k hk=>⟨.inl hk,(fun o ho=>by cases ho)⟩;simpa[hl] using this
 refine Code.wp_mono (fun e a' w' ⟨f',p',q,hh,hf'⟩=>?_) (h.on hp_enter hfr);obtain⟨he,hr⟩:=hQ e f' p' q;obtain⟨v,h1,h2⟩:=hr hh hf';have hx:res.rd (fun b=>I b\/w.heap.size≤b) w' v:=res.weak h2 fun k hk=>hk.elim (fun h=>.inl h.1) .inr;rcases he with rfl|rfl
 ·exact⟨hf'.defers,v,h1,v,rfl,hh.below,hx⟩
 ·exact⟨hf'.defers,v,h1,v,rfl,hh.below,hx⟩
theorem ZE {f:FuncId} {fn:Func} {c:Code} {args:List Dat} {res:Dat} {t:Tmp} (hf:P.funcs[f]?=some fn) (hb:fn.body=some c) (hr:fn.results=#[.tmp t])
  (h:WC P (fin1 t res) c (args++List.replicate (fn.ntmps-args.length) (dX undef)) []):Fn P f args res :=
 ZBr hf hb (fun e fr hp q=>by
  obtain⟨he,d,hd,hfin⟩:=q;refine⟨by cases e <;> simp_all,fun {P0 B w0 w a} hh hf'=>⟨_,results_tmp hr _ _ _,hfin.out hh (hf'.rd t d hd)⟩⟩) h
theorem Z3 {f:FuncId} {fn:Func} {c:Code} {args:List Dat} {r s:Dat} {t u:Tmp} (hf:P.funcs[f]?=some fn) (hb:fn.body=some c) (hr:fn.results=#[.tmp t,.tmp u])
  (h:WC P (fin2 t u r s) c (args++List.replicate (fn.ntmps-args.length) (dX undef)) []):Fn P f args (dT [r,s]) :=
 ZBr hf hb (fun e fr hp q=>by
  obtain⟨he,⟨d,hd,hfin⟩,d',hd',hfin'⟩:=q;refine⟨by cases e <;> simp_all,fun {P0 B w0 w a} hh hf'=>⟨_,results_tmp2 hr _ _ _,[a.tmps.getD t undef,a.tmps.getD u undef],rfl,rfl,fun i e x he hx=>?_⟩⟩
  match i,he,hx with
  | 0,he,hx=>cases he;cases hx;exact hfin.out hh (hf'.rd t d hd)
  | 1,he,hx=>cases he;cases hx;exact hfin'.out hh (hf'.rd u d' hd')) h
theorem Fn.mono {f:FuncId} {args:List Dat} {res res':Dat} (h:Fn P f args res) (hle:res.le res'):Fn P f args res':=Fn.mk fun I w vs hl hv=>(h.out I w vs hl hv).mono fun _ _ ⟨v,h1,h2,h3⟩=>⟨v,h1,h2,hle _ _ _ h3⟩
end

end
section
open Go.RowKit

theorem z0 {α:Type} {a b:α} {l:List α}:(a::l).set 0 b=b::l:=rfl
theorem z1 {α:Type} {a b:α} {l:List α} {n:Nat}:(a::l).set (n+1) b=a::l.set n b:=rfl
theorem oD {fr:List Dat} {x:Operand} {d:Dat} (h:OpD fr x d:=by(first|exact ZVh rfl|exact ZV5|exact ZWE|exact ZWQ|exact ZWO)):OpD fr x d:=h
theorem aD {fr:List Dat} {xs:List Operand} {ds:List Dat} (h:ArgsD fr xs ds:=by(repeat (first|exact ArgsD.nil|(apply ArgsD.cons;(first|exact ZVh rfl|exact ZV5|exact ZWE|exact ZWD rfl (by first|exact ZN|exact ZJ (by decide))|exact ZWD rfl (ZCO (by omega))|exact ZWD rfl full_le|exact ZWQ|(first|exact ZWD rfl le_predOn|exact⟨ZKN Tryz.call79 fun x=>ZI0 x.1 x.2⟩)|exact ZWO|exact⟨ZN⟩|exact⟨ZJ (by decide)⟩))))):ArgsD fr xs ds:=h
theorem eD {P:Program} {t e:TypeId} {n bytes:Nat} {z:Value} {ag:Bool} (h:ElT P t e n z bytes ag:=by first|exact elV|exact ZB8|exact elI|exact elE|exact elCo|exact elC|exact ZDj|exact ZPK):ElT P t e n z bytes ag:=h
theorem uD {P:Program} {t e:TypeId} (h:UndT P t e:=by first|exact elV.unt|exact ZB8.unt|exact elI.unt|exact elE.unt|exact elCo.unt|exact elC.unt|exact ZDj.unt|exact ZPK.unt):UndT P t e:=h
theorem tD {P:Program} {t:TypeId} {n:Nat} {ag:Bool} (h:TyI P t n ag:=by first|exact tyV|exact ZSY|exact tyI|exact tyE|exact ZQx|exact tyC|exact tyF|exact tyFL|exact tyCo|exact tyCos|exact ZLA|exact ZKx|exact ZLq|exact ZQw|exact tyQ4|exact ZHn):TyI P t n ag:=h
theorem hD {d:Dat} {n:Nat} {ag:Bool} (h:d.Shape n ag:=by first|exact ZBA|exact ZAS|exact shape_B|exact ZAI|exact ZAd|exact ZLm|exact ZAL|exact shape_C0 rfl|exact ZA9|exact Z0 rfl):d.Shape n ag:=h
theorem lD {p:Prop} (h:p:=by(first|omega|(simp only[List.length_append,List.length_cons,List.length_nil];omega)|(simp;omega))):p:=h
theorem fD {hp:List HObj} {d d':Dat} (h:FinD hp d d':=by(first|exact FinD.le (ZWI _)|exact ZBi (.head _) rfl|exact ZDl (.head _) rfl|exact FinD.le ZN|exact FinD.le (ZJ (by decide)))):FinD hp d d':=h
theorem ZD {d e:Dat} {f f':List Dat} (h:d.le e:=by first|with_reducible exact ZBh _|with_reducible exact ZWI _|exact ZCO (by omega)|exact ZN|exact ZJ (by decide)|assumption|exact ZWI _|exact ZLb (by simp)) (k:LeF f f'):LeF (d::f) (e::f'):=.cons h k
theorem zFr {f f':List Dat} (h:LeF f f':=by((try dsimp only[ZH,z0,z1]);repeat (first|exact LeF.nil|refine ZD (k:=?_)))):LeF f f':=h
theorem zNx {X:Type} {p:X->Prop} {μ:X->Nat} {m:Nat} {q:List HObj} {H:X->List HObj} {f:List Dat} {F:X->List Dat} (x:X) (h:p x) (h1:μ x<m:=by first|omega|(simp only;omega)) (h2:q=H x:=by rfl) (h3:LeF f (F x):=by((try dsimp only[ZH,z0,z1]);repeat (first|exact LeF.nil|refine ZD (k:=?_)))):∃x',p x'/\μ x'<m/\q=H x'/\LeF f (F x'):=⟨x,h,h1,h2,h3⟩
theorem nD {d:Dat} {n:Nat} (h:∀(I:Nat->Prop) (w:World) (v:Value),d.rd I w v->Len v n:=by first|exact ZDw|exact ZB0|exact ZPd):∀(I:Nat->Prop) (w:World) (v:Value),d.rd I w v->Len v n:=h
theorem kD {p:Prop} (h:p:=by first|assumption|omega):p:=h
theorem xD {p:Prop} (h:False:=by first|omega|contradiction):p:=h.elim
section
variable {P:Program} {ops:Array Oper} {hp:List HObj} {o:Oper} {fr:List Dat} {d:Dat} {Q:Z4} {Q2:List Dat->Prop} {rest:List Oper} {dst:Option Tmp} {op:Op} {ty:TypeId} {ps:String} {af:Array Edge}
theorem wY (h:WantS ops o fr true:=by first|exact ZY rfl|exact ZSg rfl rfl rfl (by with_reducible rfl)):WantS ops o fr true:=h
theorem wN (h:WantS ops o fr false:=by first|exact ZQm rfl rfl rfl (by with_reducible rfl)|exact ZQl rfl rfl rfl (by with_reducible rfl)):SYG P ops hp o fr (dX undef):=SYG.no h
theorem WL.opN (h:SY P ops hp ⟨dst,op,ty,ps,af,none⟩ fr d) (k:WL P ops Q rest (ZC fr dst d) hp):WL P ops Q (⟨dst,op,ty,ps,af,none⟩::rest) fr hp:=ZF (SYG.yes (ZY rfl) h) k
theorem WD.opN (h:SY P ops hp ⟨dst,op,ty,ps,af,none⟩ fr d) (k:WD P ops hp Q2 rest (ZC fr dst d)):WD P ops hp Q2 (⟨dst,op,ty,ps,af,none⟩::rest) fr:=WD.op (SYG.yes (ZY rfl) h) k
theorem yF {g:Option (Nat × Bool)} (h:SY P ops hp ⟨dst,op,ty,ps,af,g⟩ fr d:=by first|(apply SY.move <;> exact oD)|(apply SY.assign <;> exact oD)|(apply SY.load;exact tD;exact ZVh rfl)):SY P ops hp ⟨dst,op,ty,ps,af,g⟩ fr d:=h
theorem yG {g:Option (Nat × Bool)} (h:SY P ops hp ⟨dst,op,ty,ps,af,g⟩ fr d:=by((first|((first|apply SY.move|apply SY.assign|apply SY.lss|apply SY.leq|apply SY.gtr|apply SY.geq|apply SY.eql|apply SY.neq|apply SY.and|apply SY.or|apply SY.not) <;> exact oD)|((first|apply SY.add|apply SY.sub|apply SY.mul|apply SY.rem|apply SY.quo) <;> first|exact oD|omega)|(apply SY.load;exact tD;exact oD)|(apply SY.len;exact oD;exact nD;exact uD)|(apply ZL2;exact ZVh rfl;(first|exact .head _|exact .tail _ (.head _));exact uD)|(apply ZFP;exact ZVh rfl;(first|exact .head _|exact .tail _ (.head _));exact uD)|(apply Zy;exact eD;exact oD;exact oD;exact kD)|(apply SY.ix;exact eD;exact oD;exact oD;exact kD)|(apply ZU;exact oD;(with_reducible rfl);exact oD)|(apply ZZ;exact oD;(with_reducible rfl);exact oD)|(apply SY.extract;exact oD;rfl)|(apply SY.box;exact oD;exact hD));all_goals infer_instance)):SY P ops hp ⟨dst,op,ty,ps,af,g⟩ fr d:=h
theorem zQ {t:Option Tmp} {F G:List Dat} (e:ZC F t d=G:=by(try dsimp only[ZC,z0,z1]);try exact rfl):ZC F t d=G:=e
theorem zV {G:List Dat} (h:SY P ops hp ⟨dst,op,ty,ps,af,none⟩ fr d) (e:ZC fr dst d=G) (k:WL P ops Q rest G hp):WL P ops Q (⟨dst,op,ty,ps,af,none⟩::rest) fr hp:=WL.opN h (e ▸ k)
def Imp (A B:Prop):Prop:=A->B
theorem zD {G:List Dat} (h:SY P ops hp ⟨dst,op,ty,ps,af,none⟩ fr d) (e:ZC fr dst d=G):Imp (WD P ops hp Q2 rest G) (WD P ops hp Q2 (⟨dst,op,ty,ps,af,none⟩::rest) fr):=fun k=>WD.opN h (e ▸ k)
theorem zL {G:List Dat} (h:SY P ops hp ⟨dst,op,ty,ps,af,none⟩ fr d) (e:ZC fr dst d=G):Imp (WL P ops Q rest G hp) (WL P ops Q (⟨dst,op,ty,ps,af,none⟩::rest) fr hp):=fun k=>WL.opN h (e ▸ k)
theorem zN:Imp (Q .normal fr hp) (WL P ops Q [] fr hp):=ZVj
theorem zR {id:Nat} {l:List Oper}:Imp (WL P l.toArray Q l fr hp) (WC P Q (.region id l.toArray false) fr hp):=ZVk
theorem zG {G:List Dat} (h:SYG P ops hp o fr d) (e:ZC fr o.dst d=G) (k:WL P ops Q rest G hp):WL P ops Q (o::rest) fr hp:=ZF h (e ▸ k)
theorem zS {A B:Prop} (a:A) (h:Imp A B:=by first|(apply zL;(first|(apply SY.move <;> exact oD)|(apply SY.assign <;> exact oD)|(apply SY.load;exact tD;exact ZVh rfl));exact zQ)|exact zN|exact zR|(apply zD;(first|(apply SY.move <;> exact oD)|(apply SY.assign <;> exact oD)|(apply SY.load;exact tD;exact ZVh rfl));exact zQ)):B:=h a
theorem zT {A B:Prop} (a:A) (h:Imp A B:=by first|exact zN|exact zR):B:=h a
theorem xO {p:Prop} (h:False:=by first|contradiction|omega):p:=h.elim
theorem zE {f:FuncId} {fn:Func} {c:Code} {args G:List Dat} {res:Dat} {t:Tmp} (hf:P.funcs[f]?=some fn) (n:Nat) (h:WC P (fin1 t res) c G []) (hb:fn.body=some c:=by rfl) (hr:fn.results=#[.tmp t]:=by rfl) (hn:fn.ntmps=n:=by rfl) (e:args++List.replicate (n-args.length) (dX undef)=G:=by(simp only[List.length_cons,List.length_nil,Nat.reduceAdd,Nat.reduceSub,List.replicate_succ,List.replicate_zero,List.cons_append,List.nil_append];try exact rfl)):Fn P f args res:=ZE hf hb hr (hn ▸ e ▸ h)
theorem zF {f:FuncId} {fn:Func} {c:Code} {args G:List Dat} {r s:Dat} {t u:Tmp} (hf:P.funcs[f]?=some fn) (n:Nat) (h:WC P (fin2 t u r s) c G []) (hb:fn.body=some c:=by rfl) (hr:fn.results=#[.tmp t,.tmp u]:=by rfl) (hn:fn.ntmps=n:=by rfl) (e:args++List.replicate (n-args.length) (dX undef)=G:=by(simp only[List.length_cons,List.length_nil,Nat.reduceAdd,Nat.reduceSub,List.replicate_succ,List.replicate_zero,List.cons_append,List.nil_append];try exact rfl)):Fn P f args (dT [r,s]):=Z3 hf hb hr (hn ▸ e ▸ h)
end
theorem ZCX {P:Program} {ops:Array Oper} {hp:List HObj} {o:Oper} {fr:List Dat} {d:Dat} (h:SY P ops hp o fr d:=by((first|((first|apply SY.move) <;> (first|exact ZVh rfl|exact ZV5|exact ZWE|exact ZWQ|exact ZWO))|fail);all_goals infer_instance)):SY P ops hp o fr d:=h
theorem ZBF {P:Program} {ops:Array Oper} {hp:List HObj} {o:Oper} {fr:List Dat} {d:Dat} (h:SY P ops hp o fr d:=by((first|((first|apply SY.lss) <;> (first|exact ZVh rfl|exact ZV5|exact ZWE|exact ZWQ|exact ZWO))|fail);all_goals infer_instance)):SY P ops hp o fr d:=h
theorem ZNx {P:Program} {ops:Array Oper} {hp:List HObj} {o:Oper} {fr:List Dat} {d:Dat} (h:SY P ops hp o fr d:=by((first|((first|apply SY.leq) <;> (first|exact ZVh rfl|exact ZV5|exact ZWE|exact ZWQ|exact ZWO))|fail);all_goals infer_instance)):SY P ops hp o fr d:=h
theorem ZFM {P:Program} {ops:Array Oper} {hp:List HObj} {o:Oper} {fr:List Dat} {d:Dat} (h:SY P ops hp o fr d:=by((first|((first|apply SY.gtr) <;> (first|exact ZVh rfl|exact ZV5|exact ZWE|exact ZWQ|exact ZWO))|fail);all_goals infer_instance)):SY P ops hp o fr d:=h
theorem ZNw {P:Program} {ops:Array Oper} {hp:List HObj} {o:Oper} {fr:List Dat} {d:Dat} (h:SY P ops hp o fr d:=by((first|((first|apply SY.geq) <;> (first|exact ZVh rfl|exact ZV5|exact ZWE|exact ZWQ|exact ZWO))|fail);all_goals infer_instance)):SY P ops hp o fr d:=h
theorem ZHe {P:Program} {ops:Array Oper} {hp:List HObj} {o:Oper} {fr:List Dat} {d:Dat} (h:SY P ops hp o fr d:=by((first|((first|apply SY.eql) <;> (first|exact ZVh rfl|exact ZV5|exact ZWE|exact ZWQ|exact ZWO))|(first|(apply ZGc vxT <;> (first|exact ZVh rfl|exact ZV5|exact ZWE|exact ZWQ|exact ZWO)))|(apply ZN9;(first|exact ZVh rfl|exact ZV5|exact ZWE|exact ZWQ|exact ZWO);(first|exact ZVh rfl|exact ZV5|exact ZWE|exact ZWQ|exact ZWO);exact eqBB)|fail);all_goals infer_instance)):SY P ops hp o fr d:=h
theorem ZEm {P:Program} {ops:Array Oper} {hp:List HObj} {o:Oper} {fr:List Dat} {d:Dat} (h:SY P ops hp o fr d:=by((first|((first|apply SY.neq) <;> (first|exact ZVh rfl|exact ZV5|exact ZWE|exact ZWQ|exact ZWO))|(first|(apply ZTS vxT <;> (first|exact ZVh rfl|exact ZV5|exact ZWE|exact ZWQ|exact ZWO)))|(apply SY.neqB;(first|exact ZVh rfl|exact ZV5|exact ZWE|exact ZWQ|exact ZWO);(first|exact ZVh rfl|exact ZV5|exact ZWE|exact ZWQ|exact ZWO);exact nqBB)|fail);all_goals infer_instance)):SY P ops hp o fr d:=h
theorem ZLC {P:Program} {ops:Array Oper} {hp:List HObj} {o:Oper} {fr:List Dat} {d:Dat} (h:SY P ops hp o fr d:=by((first|((first|apply SY.not) <;> (first|exact ZVh rfl|exact ZV5|exact ZWE|exact ZWQ|exact ZWO))|fail);all_goals infer_instance)):SY P ops hp o fr d:=h
theorem ZBg {P:Program} {ops:Array Oper} {hp:List HObj} {o:Oper} {fr:List Dat} {d:Dat} (h:SY P ops hp o fr d:=by((first|((first|apply SY.add) <;> first|exact ZVh rfl|exact ZV5|exact ZWE|exact ZWQ|exact ZWO|omega)|fail);all_goals infer_instance)):SY P ops hp o fr d:=h
theorem ZLx {P:Program} {ops:Array Oper} {hp:List HObj} {o:Oper} {fr:List Dat} {d:Dat} (h:SY P ops hp o fr d:=by((first|((first|apply SY.sub) <;> first|exact ZVh rfl|exact ZV5|exact ZWE|exact ZWQ|exact ZWO|omega)|fail);all_goals infer_instance)):SY P ops hp o fr d:=h
theorem yRem {P:Program} {ops:Array Oper} {hp:List HObj} {o:Oper} {fr:List Dat} {d:Dat} (h:SY P ops hp o fr d:=by((first|((first|apply SY.rem) <;> first|exact ZVh rfl|exact ZV5|exact ZWE|exact ZWQ|exact ZWO|omega)|fail);all_goals infer_instance)):SY P ops hp o fr d:=h
theorem ZDf {P:Program} {ops:Array Oper} {hp:List HObj} {o:Oper} {fr:List Dat} {d:Dat} (h:SY P ops hp o fr d:=by((first|(apply SY.load;(first|exact tyV|exact ZSY|exact tyI|exact tyE|exact ZQx|exact tyC|exact tyF|exact tyFL|exact tyCo|exact tyCos|exact ZLA|exact ZKx|exact ZLq|exact ZQw|exact tyQ4|exact ZHn);(first|exact ZVh rfl|exact ZV5|exact ZWE|exact ZWQ|exact ZWO))|fail);all_goals infer_instance)):SY P ops hp o fr d:=h
theorem ZA3 {P:Program} {ops:Array Oper} {hp:List HObj} {o:Oper} {fr:List Dat} {d:Dat} (h:SY P ops hp o fr d:=by((first|(apply SY.len;(first|exact ZVh rfl|exact ZV5|exact ZWE|exact ZWQ|exact ZWO);(first|exact ZDw|exact ZB0|exact ZPd);(first|exact elV.unt|exact ZB8.unt|exact elI.unt|exact elE.unt|exact elCo.unt|exact elC.unt|exact ZDj.unt|exact ZPK.unt))|(apply ZL2;exact ZVh rfl;(first|exact .head _|exact .tail _ (.head _));(first|exact elV.unt|exact ZB8.unt|exact elI.unt|exact elE.unt|exact elCo.unt|exact elC.unt|exact ZDj.unt|exact ZPK.unt))|(apply ZFP;exact ZVh rfl;(first|exact .head _|exact .tail _ (.head _));(first|exact elV.unt|exact ZB8.unt|exact elI.unt|exact elE.unt|exact elCo.unt|exact elC.unt|exact ZDj.unt|exact ZPK.unt))|fail);all_goals infer_instance)):SY P ops hp o fr d:=h
theorem ZS {P:Program} {ops:Array Oper} {hp:List HObj} {o:Oper} {fr:List Dat} {d:Dat} (h:SY P ops hp o fr d:=by((first|(apply Zy;(first|exact elV|exact ZB8|exact elI|exact elE|exact elCo|exact elC|exact ZDj|exact ZPK);(first|exact ZVh rfl|exact ZV5|exact ZWE|exact ZWQ|exact ZWO);(first|exact ZVh rfl|exact ZV5|exact ZWE|exact ZWQ|exact ZWO);(first|assumption|omega))|(apply SY.ix;(first|exact elV|exact ZB8|exact elI|exact elE|exact elCo|exact elC|exact ZDj|exact ZPK);(first|exact ZVh rfl|exact ZV5|exact ZWE|exact ZWQ|exact ZWO);(first|exact ZVh rfl|exact ZV5|exact ZWE|exact ZWQ|exact ZWO);(first|assumption|omega))|fail);all_goals infer_instance)):SY P ops hp o fr d:=h
theorem Z2 {P:Program} {ops:Array Oper} {hp:List HObj} {o:Oper} {fr:List Dat} {d:Dat} (h:SY P ops hp o fr d:=by((first|(first|(apply SY.fld0 vxT <;> (first|exact ZVh rfl|exact ZV5|exact ZWE|exact ZWQ|exact ZWO))|(apply SY.fld1 vxT <;> (first|exact ZVh rfl|exact ZV5|exact ZWE|exact ZWQ|exact ZWO)))|(apply ZDM ZNz;exact ZVh rfl)|fail);all_goals infer_instance)):SY P ops hp o fr d:=h
theorem yDyn {P:Program} {ops:Array Oper} {hp:List HObj} {o:Oper} {fr:List Dat} {d:Dat} (h:SY P ops hp o fr d:=by((first|(apply ZBJ;(exact ZVh rfl);exact aD)|fail);all_goals infer_instance)):SY P ops hp o fr d:=h
theorem ZBQ {P:Program} {ops:Array Oper} {hp:List HObj} {o:Oper} {fr:List Dat} {d:Dat} (h:SY P ops hp o fr d:=by((first|(apply SY.buildE;(first|exact elV|exact ZB8|exact elI|exact elE|exact elCo|exact elC|exact ZDj|exact ZPK);((try simp only[List.map_cons,List.map_nil]);(repeat (first|exact Zr|(apply Zp;(first|exact ZVh rfl|exact ZV5|exact ZWE|exact ZWD rfl (by first|exact ZN|exact ZJ (by decide))|exact⟨ZN⟩|exact⟨ZJ (by decide)⟩)))));rfl;rfl;decide;(intro _;exact ZBA);(exact(by simp)))|(apply SY.build1';(first|exact elV|exact ZB8|exact elI|exact elE|exact elCo|exact elC|exact ZDj|exact ZPK);((try simp only[List.map_cons,List.map_nil]);(repeat (first|exact Zr|(apply Zp;(first|exact ZVh rfl|exact ZV5|exact ZWE|exact ZWD rfl (by first|exact ZN|exact ZJ (by decide))|exact⟨ZN⟩|exact⟨ZJ (by decide)⟩)))));rfl;rfl;(intro _;first|exact ZAd|exact ZAS|exact ZAI|exact shape_B);(exact(by simp)))|fail);all_goals infer_instance)):SY P ops hp o fr d:=h
theorem ZCV {P:Program} {ops:Array Oper} {hp:List HObj} {o:Oper} {fr:List Dat} {d:Dat} (h:SY P ops hp o fr d:=by((first|(apply ZU;(first|exact ZVh rfl|exact ZV5|exact ZWE|exact ZWQ|exact ZWO);(with_reducible rfl);(first|exact ZVh rfl|exact ZV5|exact ZWE|exact ZWQ|exact ZWO))|(apply ZZ;(first|exact ZVh rfl|exact ZV5|exact ZWE|exact ZWQ|exact ZWO);(with_reducible rfl);(first|exact ZVh rfl|exact ZV5|exact ZWE|exact ZWQ|exact ZWO))|fail);all_goals infer_instance)):SY P ops hp o fr d:=h
theorem ZEM {P:Program} {ops:Array Oper} {hp:List HObj} {o:Oper} {fr:List Dat} {d:Dat} (h:SY P ops hp o fr d:=by((first|(apply SY.extract;(first|exact ZVh rfl|exact ZV5|exact ZWE|exact ZWQ|exact ZWO);rfl)|fail);all_goals infer_instance)):SY P ops hp o fr d:=h
theorem ZEL {P:Program} {ops:Array Oper} {hp:List HObj} {o:Oper} {fr:List Dat} {d:Dat} (h:SY P ops hp o fr d:=by((first|(apply SY.box;(first|exact ZVh rfl|exact ZV5|exact ZWE|exact ZWQ|exact ZWO);(first|exact ZBA|exact ZAS|exact shape_B|exact ZAI|exact ZAd|exact ZLm|exact ZAL|exact shape_C0 rfl|exact ZA9|exact Z0 rfl))|fail);all_goals infer_instance)):SY P ops hp o fr d:=h
end
end Go.Proofs.YtofkoleingbbpaaGreatDoor
namespace Go.Proofs.YtofkoleingbbpaaGreatDoor
def ZVi:=@WL.opN
def ZVl:=@WD.opN
def ZVm:=@SY.call
def ZVn:=@SY.assign
def ZVo:=@SY.move
def ZVq:=@SY.lss
def ZVt:=@SYG.yes
def ZVu:=@SY.len
def ZVv:=@SY.neq
def ZVw:=@SY.not
def ZVx:=@ThenD.n
def ZVy:=@SY.load
def ZVz:=@ThenD.r
def ZV0:=@Kont.skip
def ZV2:=@SY.add
def ZV3:=@SY.box
def ZV4:=@WC.loopU
def ZV6:=@SY.gtr
def ZV7:=@SY.eql
def ZV8:=@SY.ix
def ZV9:=@ArgsD.cons
def ZWA:=@SY.geq
def ZWC:=@InBlockD.r
def ZWG:=@SY.extract
def ZWH:=@FinD.i
def ZWJ:=@ArgsD.nil
def ZWK:=@SY.val
def ZWL:=@FinD.b
def ZWM:=@SY.sub
def ZWP:=@WL.perm
def ZWR:=@FinD.le
def ZWT:=@SY.leq
def ZWc:=@InBlockD.n
def ZWe:=@WC.perm
end Go.Proofs.YtofkoleingbbpaaGreatDoor
