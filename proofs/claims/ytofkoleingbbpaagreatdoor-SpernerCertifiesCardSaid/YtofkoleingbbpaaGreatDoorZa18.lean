/- Part 18 of the proof. -/
import Derived.Test.YtofkoleingbbpaaGreatDoorZa17
set_option linter.all false
set_option maxRecDepth 100000
set_option maxHeartbeats 64000000
namespace Go.Proofs.YtofkoleingbbpaaGreatDoor
section
open Go.RowKit
def RY:Rel UInt8:=fun _ _ v x=>v = .int .u8 (x.toNat:Int)
instance:Good RY:=⟨fun h _=>h,fun h _=>h,fun h=>h⟩
section
variable {I:Nat->Prop} {w:World} {v:Value} {e:TypeId} {bs:List UInt8} {n B':Nat} {xs:List Value}
theorem ZPt (h:Own 0 e RY I w v bs):w.ownsRow 0 e 1 v bs.length (Lib.byteCells bs):=by
 obtain⟨us,h1,h2,h3⟩:=h;have:us=Lib.byteCells bs:=by
  apply List.ext_getElem (by rw[Lib.byteCells_length];exact h1);intro k a b;rw[show us[k]=_ from(h3 k a (by omega)).2];simp[Lib.byteCells]
 rwa[this] at h2
theorem ZPu (h:w.ownsRow 0 e 1 v n xs) (hl:∀g,v.ownBlock=some g->B'≤g):w.ownsRow B' e 1 v n xs:=by
 obtain⟨h2,h3⟩:=h;rcases h3 with h|⟨g,cap,cur,hv,hB,rest⟩
 ·exact⟨h2,.inl h⟩
 ·exact⟨h2,.inr ⟨g,cap,cur,hv,hl g (by rw[hv];rfl),rest⟩⟩
theorem ZOv (h:w.ownsRow B' e 1 v bs.length (Lib.byteCells bs)):Own 0 e RY I w v bs:=by
 refine⟨Lib.byteCells bs,Lib.byteCells_length _,?_,fun k a b=>?_⟩
 ·obtain⟨h2,h3⟩:=h;rcases h3 with h|⟨g,cap,cur,hv,hB,rest⟩
  ·exact⟨h2,.inl h⟩
  ·exact⟨h2,.inr ⟨g,cap,cur,hv,Nat.zero_le _,rest⟩⟩
 ·have e1:(Lib.byteCells bs)[k] = .int .u8 (bs[k].toNat:Int):=by simp[Lib.byteCells]
  rw[e1];exact⟨rfl,rfl⟩
theorem ZPv {g:Nat} (h:w.ownsRow B' e 1 v n xs) (hg:v.ownBlock=some g):B'≤g/\g<w.heap.size/\∃c fz,w.heap[g]?=some (.cells c e fz):=by
 have h1:=h.lt g hg;obtain⟨h2,h3⟩:=h;rcases h3 with ⟨hv,_⟩|⟨g',cap,cur,hv,hB,hc,rest⟩
 ·rw[hv] at hg;cases hg
 ·rw[hv] at hg;cases hg;exact⟨h1.1,h1.2,_,_,hc⟩
end
def ZTJ (b:Nat) (v:Value):Prop:=∀g,v.ownBlock=some g->b≤g
def ZOQ (b:Nat) (d:Dat):Prop:=∀(P P':Nat->Prop) (w w':World) (v:Value),d.rd P w v->(∀k,k<b->k<w.heap.size->w'.heap[k]?=w.heap[k]?)->(∀k,P k->k<b->P' k)->d.rd P' w' v
theorem ZFF {b:Nat} {d:Dat}:ZOQ b (dLow b d):=fun _ _ _ _ _ h q r=>d.weak (d.move h fun k hk hl=>q k hk.2 hl) fun k hk=>⟨r k hk.1 hk.2,hk.2⟩
theorem ZJE {b:Nat} {v:Value}:ZOQ b (dX v):=fun _ _ _ _ _ h _ _=>h
theorem ZJD {b:Nat}:ZOQ b dA:=fun _ _ _ _ _ _ _ _=>trivial
structure SafeN (e:TypeId) (b:Nat) (o:HObj):Prop where
 kept:∀(P P':Nat->Prop) (w w':World),o.ok P w->(∀k,k<b->k<w.heap.size->w'.heap[k]?=w.heap[k]?)->Lib.OthersKept e none w w'->(∀k,P k->k<b->P' k)->o.ok P' w'
 kind:∀(P:Nat->Prop) (w:World) (k:Nat),o.ok P w->o.blk=some k->∃cs T fz,w.heap[k]?=some (.cells cs T fz)/\T≠e
theorem ZKk {e T:TypeId} {b c:Nat} {ds:List Dat} (hT:T≠e) (h:∀d∈ds,ZOQ b d):SafeN e b (ZAV c T ds) :=
 ⟨fun _ _ _ _ ⟨cs,c1,c2,c3,c4⟩ hb hk hP=>⟨cs,hk c _ c1 (by simp) (fun _ _ he=>by cases he;exact hT rfl),c2,c3,fun k u d hu hd=>h d (List.mem_of_getElem? hd) _ _ _ _ _ (c4 k u d hu hd) hb hP⟩,
  fun _ _ _ ⟨_,c1,_,_,_⟩ hk=>by cases hk;exact⟨_,_,_,c1,hT⟩⟩
def ZEO (b:Nat) (S:Prop):HObj where
 blk:=none
 ok:=fun P w=>b≤w.heap.size/\(LaidIn (fun k=>P k/\k<b) w\/S)
 weak:=fun h q=>⟨h.1,h.2.imp (fun l=>ZCN l fun k hk=>⟨q k hk.1,hk.2⟩) fun z=>z⟩
 bound:=fun h=>⟨h.1,h.2.imp (fun l=>ZCN (ZEF l) fun k hk=>⟨⟨hk.1.1,hk.2⟩,hk.1.2⟩) fun z=>z⟩
 move:=fun {P w w' row} h hg hP hne=>⟨Nat.le_trans h.1 hg.size,h.2.imp (fun l=>ZDt l fun k hk hl=>hg.block k hl (fun e=>hP k (by first|exact e|exact e.symm) hk.1)) id⟩
theorem ZNA (B n u:Nat) (hu:u≤1048576) (sv:Value) (xs:List Value) (w:World) (hown:w.ownsRow B 5 1 sv n xs) (hBw:B≤w.heap.size) (hlim:n+21≤140737488355328) (hq:LaidIn (fun k=>k<B) w\/u<100) :
  Calls Tryz.prog 114 #[sv,.int .i64 (u:Int),.int .i64 10] w fun e w'=>∃v',e = .returned v'/\w'.ownsRow B 5 1 v' (n+(Lib.itoa (u:Int)).length) (xs++Lib.byteCells (Lib.itoa (u:Int)))/\Below B w w'/\Lib.OthersKept 5 none w w':=by
 rcases hq with hq|hq
 ·exact Any.strconv_AppendInt_10 Tryz.laysAI B n (u:Int) (by omega) (by omega) sv xs w hown hBw hlim fun w' hb=>(ZDt hq fun k hk _=>hb.block k hk).elim fun g h=>h.2.2
 ·exact ZNB Tryz.laysAI B n u hq sv xs w hown hBw hlim
section
variable {P:Program} {ops:Array Oper} {hp:List HObj} {fr:List Dat} {Q:Z4} {rest:List Oper}
variable {dst:Option Tmp} {ty:TypeId} {ps:String} {af:Array Edge} {g:Option (Nat × Bool)} {b:Nat} {S:Prop} {bs:List UInt8} {v:Value}
theorem WC.base {c:Code} {s:List Vx} (u:Nat) (hs:s≠[]) (hu:fr[u]?=some (dS (ZCy S) s)) (h:∀b,WC P Q c (fr.map (dLow b)) [ZEO b S]):WC P Q c fr []:=WC.of fun P0 B w0 w a hh hf=>by
 have hl:=ZMV hs (hf.rd u _ hu);have hI:∀k,Imm P0 B [] k->Imm P0 B [ZEO w.heap.size S] k:=fun k hk=>⟨hk.1,fun o ho=>by rw[List.mem_singleton.1 ho];simp[ZEO]⟩;refine(h w.heap.size).on ⟨hh.base,hh.below,fun o ho k hk=>?_,fun o ho=>?_,List.pairwise_singleton _ _⟩ ⟨hf.defers,by simpa using hf.size,fun t d hd=>?_⟩
 ·rw[List.mem_singleton.1 ho] at hk;cases hk
 ·rw[List.mem_singleton.1 ho];exact⟨Nat.le_refl _,hl.imp (fun l=>ZCN (ZEF l) fun k hk=>⟨hI k hk.1,hk.2⟩) fun z=>z⟩
 ·rw[List.getElem?_map] at hd;cases ht:fr[t]? with
  | none=>rw[ht] at hd;cases hd
  | some d0 =>
   rw[ht] at hd;cases hd;exact d0.weak (d0.bound (hf.rd t d0 ht)) fun k hk=>⟨hI k hk.1,hk.2⟩
theorem ZOW {x y:Operand} {ats:Array TypeId} {u:Nat} (hu:u≤1048576) (hS:S->u<100) (hlow:ZTJ b v) (hx:OpD fr x (dX v)) (hy:OpD fr y (dI (u:Int))) (hlen:bs.length+21≤140737488355328)
  (hfr:∀d∈fr,ZOQ b d) (hs:∀o∈hp,SafeN 5 b o) (h:∀v',ZTJ b v'->WL Tryz.prog ops Q rest (ZC fr dst (dX v')) (Zk v' 5 RY (bs++Lib.itoa (u:Int))::ZEO b S::hp)) :
  WL Tryz.prog ops Q (⟨dst,.call { callee:=.value (.func 114),args:=#[x,y,.const (.int .i64 10)],argTypes:=ats },ty,ps,af,none⟩::rest) fr (Zk v 5 RY bs::ZEO b S::hp):=by
 refine WL.of fun P0 B w0 w a hh hf=>?_;have e1:a.eval x=_:=hx.ev hf;have e2:a.eval y=_:=hy.ev hf;refine wpList_plain rfl fun K hK=>?_;unfold Oper.wp;have hrun:(execOp a.eval ⟨dst,.call { callee:=.value (.func 114),args:=#[x,y,.const (.int .i64 10)],argTypes:=ats },ty,ps,af,none⟩).run Tryz.prog w = .ok (.enter 114 #[v,.int .i64 (u:Int),.int .i64 10]) w:=by
  unfold execOp;have ef:a.eval (.func 114) = .func (.func 114) #[] #[]:=rfl;have ec:a.eval (.const (.int .i64 10)) = .int .i64 10:=rfl;simp only[resolve];simp[ef,e1,e2,ec,Deferred.ofValue,invoke,Tryz.call114]
 rw[hrun];have hBh:=hh.le;obtain⟨q1,q2⟩:=hh.ok (ZEO b S) (by simp);have hb1:b≤max b B:=Nat.le_max_left _ _;have hb2:B≤max b B:=Nat.le_max_right _ _;have hM:max b B≤w.heap.size:=Nat.max_le.2 ⟨q1,hBh⟩;have hown:=ZPu (B':=max b B) (ZPt (hh.ok (Zk v 5 RY bs) (by simp))) fun g hg=>Nat.max_le.2 ⟨hlow g hg,(hh.own (Zk v 5 RY bs) (by simp) g hg).1⟩;refine(ZNA (max b B) bs.length u hu v (Lib.byteCells bs) w hown hM hlen (q2.imp (fun l=>ZCN l fun k hk=>Nat.lt_of_lt_of_le hk.2 hb1) hS)).mono fun r w' hr=>?_;obtain⟨v',rfl,hown',hbl,hoth⟩:=hr;rw[<- Lib.byteCells_append,<- List.length_append] at hown';have hkind:=fun g hg=>ZPv (g:=g) hown' hg;have hlow':ZTJ b v':=fun g hg=>Nat.le_trans hb1 (hkind g hg).1;have hsame:∀k,k<b->k<w.heap.size->w'.heap[k]?=w.heap[k]?:=fun k h1 _=>hbl.block k (Nat.lt_of_lt_of_le h1 hb1);have htr:∀k,Imm P0 B (Zk v 5 RY bs::ZEO b S::hp) k->k<b->Imm P0 B (Zk v' 5 RY (bs++Lib.itoa (u:Int))::ZEO b S::hp) k:=fun k hk hkb=>⟨hk.1,fun o ho hok=>by
  rcases List.mem_cons.1 ho with rfl|ho
  ·have:=hlow' k hok;omega
  ·exact hk.2 o (List.mem_cons_of_mem _ ho) hok⟩
 have hkept:∀o∈hp,o.ok (Imm P0 B (Zk v' 5 RY (bs++Lib.itoa (u:Int))::ZEO b S::hp)) w':=fun o ho=>(hs o ho).kept _ _ _ _ (hh.ok o (List.mem_cons_of_mem _ (List.mem_cons_of_mem _ ho))) hsame hoth htr;have hap:=List.pairwise_cons.1 hh.apart;refine hK _ _ ((h v' hlow').on ⟨hh.base,hh.below.trans (hbl.mono hb2),fun o ho k hk=>?_,fun o ho=>?_,List.pairwise_cons.2 ⟨fun o ho k hk hok=>?_,hap.2⟩⟩
  (ZWN ⟨hf.defers,hf.size,fun t d hd=>hfr d (List.mem_of_getElem? hd) _ _ _ _ _ (hf.rd t d hd) hsame htr⟩ (d:=dX v') rfl))
 ·rcases List.mem_cons.1 ho with rfl|ho
  ·exact⟨Nat.le_trans hb2 (hkind k hk).1,(hkind k hk).2.1⟩
  ·have:=hh.own o (List.mem_cons_of_mem _ ho) k hk;exact⟨this.1,Nat.lt_of_lt_of_le this.2 hbl.size⟩
 ·rcases List.mem_cons.1 ho with rfl|ho
  ·exact ZOv hown'
  ·rcases List.mem_cons.1 ho with rfl|ho
   ·exact⟨Nat.le_trans q1 hbl.size,q2.imp (fun l=>ZCN (ZDt l fun k hk hl=>hsame k hk.2 hl) fun k hk=>⟨htr k hk.1 hk.2,hk.2⟩) fun z=>z⟩
   ·exact hkept o ho
 ·rcases List.mem_cons.1 ho with rfl|ho
  ·cases hok
  ·obtain⟨cs,T',fz,h1,h2⟩:=(hs o ho).kind _ _ _ (hkept o ho) hok;obtain⟨_,_,c,fz',h3⟩:=hkind k hk;rw[h1] at h3;cases h3;exact h2 rfl
end
end
section
open Go.RowKit
section
variable {P:Program} {ops:Array Oper} {hp:List HObj} {fr:List Dat} {Q:Z4} {rest:List Oper}
variable {dst:Option Tmp} {ty:TypeId} {ps:String} {af:Array Edge} {g:Option (Nat × Bool)} {b:Nat} {S:Prop} {bs:List UInt8} {v:Value} {t e t2:TypeId} {bytes:Nat} {z:Value} {ag:Bool}
theorem ZUR {c:UInt8}:(dS RY c).Shape 1 false:=fun _ _ u h=>by
 cases (h:u=_);exact⟨[_],rfl,by decide,fun c hc=>by rw[List.mem_singleton.1 hc];rfl,rfl,rfl⟩
theorem ZL9 {s:Operand} {k:Tmp} {m:Nat} {dst2:Option Tmp} {ty2:TypeId} {ps2:String} {af2:Array Edge} (E:ElT P t e 1 z bytes ag) (c:UInt8) (hc:m=c.toNat) (hs:OpD fr s (dX v)) (hne:s ≠ .tmp k) (hkl:k<fr.length) (hby:0<bytes) (hlow:ZTJ b v)
  (hlen:(bs.length+1)*bytes≤140737488355328) (h:∀v',ZTJ b v'->WL P ops Q rest (ZC (fr.set k dA) dst2 (dX v')) (Zk v' e RY (bs++[c])::ZEO b S::hp)) :
  WL P ops Q (⟨some k,.buildSlice t 1 #[(0,.const (.int .u8 (m:Int)))],ty,ps,af,none⟩::⟨dst2,.call { callee:=.builtin .append,args:=#[s,.tmp k],argTypes:=#[t,t] },ty2,ps2,af2,none⟩::rest) fr (Zk v e RY bs::ZEO b S::hp):=by
 refine WL.of fun P0 B w0 w a hh hf=>?_;subst hc;have hxr:RY (Imm P0 B (Zk v e RY bs::ZEO b S::hp)) w (a.eval (.const (.int .u8 (c.toNat:Int)))) c:=rfl;obtain⟨cs,k1,k0,k2,k3,k4⟩:=ZUR (c:=c) (Imm P0 B (Zk v e RY bs::ZEO b S::hp)) w _ hxr;simp only[Bool.false_eq_true,if_false] at k4;subst k4;have hb:=ZBT (w:=w) E (us:=[a.eval (.const (.int .u8 (c.toNat:Int)))]) (css:=[[a.eval (.const (.int .u8 (c.toNat:Int)))]]) rfl (fun i u cs' hu hcs=>by
  cases i with
  | zero=>cases hu;cases hcs;exact⟨k3,k1⟩
  | succ i=>simp at hu) (by simp)
 refine Zo rfl (v:=.slice (some ⟨w.heap.size,0,none⟩) 1 1) (w':=w.alloc (.cells [[a.eval (.const (.int .u8 (c.toNat:Int)))]].flatten.toArray e)) ?_ ?_
 ·unfold execOp;simp only[List.map_toArray,List.map_cons,List.map_nil,Sem.run_bind];have:(Instr.buildSlice t 1 #[(0,a.eval (.const (.int .u8 (c.toNat:Int))))]).run P w = .ok (.slice (some ⟨w.heap.size,0,none⟩) 1 1) (w.alloc (.cells [[a.eval (.const (.int .u8 (c.toNat:Int)))]].flatten.toArray e)):=hb;simp only[this,Result.andThen_ok,Sem.run_pure]
 have hxe:=ZWU w (.cells [[a.eval (.const (.int .u8 (c.toNat:Int)))]].flatten.toArray e);have hh1:=hh.ext hxe;have q1:=(hh.ok (ZEO b S) (by simp)).1;have hf1:Fr (Imm P0 B (Zk v e RY bs::ZEO b S::hp)) (w.alloc (.cells [[a.eval (.const (.int .u8 (c.toNat:Int)))]].flatten.toArray e)) (a.put (some k) (.slice (some ⟨w.heap.size,0,none⟩) 1 1)) (fr.set k dA):=ZWN (x:=some k) (hf.ext hxe) (d:=dA) trivial;have hm:bs.length+[c].length≤maxLen:=by
  have:(bs.length+1)*1≤(bs.length+1)*bytes:=Nat.mul_le_mul_left _ hby;simp only[maxLen,List.length_cons,List.length_nil];omega
 obtain⟨v',w',hr,r1,r2,r3⟩:=ZC4 (ty:=ty2) (R:=RY) E hh1 (ad:=⟨w.heap.size,0,none⟩) (c:=1) (ys:=[c]) (news:=[a.eval (.const (.int .u8 (c.toNat:Int)))]) rfl (fun j u hu=>by
   rw[Addr.add_lit,cell_of_row _ _ _ _ _ _ (Zw w _),Nat.zero_add];simpa using hu) k2 (fun j h1 h2=>by
   have hj:j=0:=by simp at h1;omega
   subst hj;rfl) (by simpa using hlen) hm
 have hlow':ZTJ b v':=fun g hg=>by
  rcases r3 with r3|r3
  ·exact hlow g (r3 ▸ hg)
  ·have:=r3 g hg;exact Nat.le_trans q1 (Nat.le_trans hxe.size this)
 refine ZA0 (v:=v) (yv:=.slice (some ⟨w.heap.size,0,none⟩) 1 1) ?_ (ZB9 (by rw[hf.size];exact hkl)) hr ?_
 ·rw[ZDV hne];exact hs.ev hf
 ·exact(h v' hlow').on r1 (ZWN (x:=dst2) (hf1.mono fun d _ hd=>Zd (o:=Zk v e RY bs) (o':=Zk v' e RY (bs++[c])) r2 r3 hd) (d:=dX v') rfl)
theorem ZTT {x:Operand} (hs:P.underlying t=some (.slice e)) (he:P.underlying e=some (.int .u8)) (hd:P.underlying t2=some .string) (hx:OpD fr x (dX v)) (hm:Zk v e RY bs∈hp) (hne:0<bs.length) :
  SY P ops hp ⟨dst,.convert t t2 x,ty,ps,af,g⟩ fr (dX (.string ⟨bs.toArray⟩)):=ZAG fun {P0 B w0 w a} hh ho=>by
 have h1:a.eval x=v:=hx.get (by simp[Op.operands]) ho;obtain⟨b,cap,us,hv,_⟩:=ZFh (hh.ok _ hm) hne;refine⟨.string ⟨bs.toArray⟩,w,?_,ZWS _,rfl⟩;unfold execOp;have hr:=run_convert_bytes_back w t t2 e ⟨b,0,none⟩ cap bs hs he hd fun j hj=>by
  obtain⟨b',cap',us',hv',hl',hu',o1,o2,o3⟩:=ZFh (hh.ok _ hm) hj;rw[hv] at hv';cases hv';rw[Addr.add_lit,Nat.zero_add,o3,show us'[j]=_ from o2]
 simp only[h1,hv,Sem.run_bind,hr,Result.andThen_ok,Sem.run_pure]
end
end
section
open Go.RowKit
theorem elY:ElT Tryz.prog 65 5 1 (.int .u8 0) 1 false:=⟨Tryz.underlying65,by kernel_rfl,Tryz.isAgg5,rfl⟩
theorem ZVJ {S:Prop} {x:Int × Int}:(dS (RLS S RV) x).le (ZEN [dI x.1,dI x.2]):=fun _ _ _ h=>le_RV _ _ _ h.1
theorem ZVR {α:Type} {a b c:α} {l:List α}:(a::b::c::l).Perm (b::c::a::l):=(List.Perm.swap _ _ _).trans (List.Perm.cons _ (List.Perm.swap _ _ _))
theorem ZUW {s:List Vx} (h:s≠[]):0<(txS s).length:=by
 cases s with
 | nil=>exact absurd rfl h
 | cons v s =>
  show 0<(txV v++txS s).length;unfold txV;simp only[List.length_append,List.length_cons,List.length_nil];omega
theorem ZVS {α:Type} {a b c:α} {l:List α}:(b::c::a::l).Perm (a::b::c::l):=ZVR.symm

theorem ZTv {S:Prop} (s:List Vx) (hne:s≠[]) (hs:s.length≤1000) (hv:∀v∈s,okL v) (hS:S->∀v∈s,v.1<100/\v.2<100):Fn Tryz.prog 69 [dS (ZCy S) s] (dX (.string ⟨(txS s).toArray⟩)):=by
 refine zE Tryz.func69 29 ?_;refine WC.base (S:=S) 0 hne rfl fun b=>?_;simp only[List.map_cons,List.map_nil];refine Zn 5 RY ?_;(repeat' (first|refine zS ?_|refine ZA fun Kx hK=>?_|(refine hK _ _ ?_;clear hK)|(apply zV;(focus ((first|(apply ZVu;exact ZWD rfl ZPI;exact ZDw;exact elV.unt));all_goals infer_instance));exact zQ)|refine ZVp ?_))
 all_goals try exact xO
 (refine ZV4 (X:=Nat × Value) (fun x=>[(8,dI (x.1:Int)),(3,dX x.2),(5,dA),(9,dA),(10,dA),(11,dA),(12,dA),(13,dA),(14,dA),(15,dA),(16,dA),(17,dA),(18,dA),(19,dA),(20,dA),(21,dA),(22,dA),(23,dA),(24,dA),(25,dA),(26,dA)]) (fun x=>([Zk x.2 5 RY (txS (s.take x.1)),ZEO b S])) (fun x=>s.length-x.1) (fun x=>x.1≤s.length/\ZTJ b x.2) (0,.slice none 0 0) ?start ?frame0 ?objs0 ?round)
 case start=>exact⟨Nat.zero_le _,fun g hg=>by cases hg⟩
 case frame0=>exact zFr
 case objs0=>rfl
 case round =>
  rintro⟨k,v⟩ ⟨h1,hlow⟩;simp only at h1 hlow;dsimp only[ZH,z0,z1];by_cases hk:k<s.length
  ·have hkI:(k:Int)<(s.length:Int):=by omega
   have hvk:=hv s[k] (List.getElem_mem hk);have hSk:=fun q=>hS q s[k] (List.getElem_mem hk);have hsn:=ZSW hk;have hlt:=ZJL (s:=s.take k) fun v h=>hv v (List.mem_of_mem_take h);have htl:(s.take k).length≤1000:=by rw[List.length_take];omega
   have hl0:=ZE0 s[k].1 hvk.1;have hl1:=ZE0 s[k].2 hvk.2;obtain⟨c,hc⟩:=Int.eq_ofNat_of_zero_le hvk.1.1;obtain⟨l,hl⟩:=Int.eq_ofNat_of_zero_le hvk.2.1;unfold txV at hsn;have hc2:c≤1048576:=by have:=hvk.1.2;omega
   have hl2:l≤1048576:=by have:=hvk.2.2;omega
   have hSc:S->c<100:=fun q=>by have:=(hSk q).1;omega
   have hSl:S->l<100:=fun q=>by have:=(hSk q).2;omega
   (repeat' (first|(apply zV;exact yF;exact zQ)|refine ZVj ?_|refine ZA fun Kx hK=>?_|(refine hK _ _ ?_;clear hK)|refine ZVk ?_ |  (refine ZC0 (dst:=some 5) (zs:=[.int .i64 0,.int .i64 0]) tzVx (by decide) (by simp[Value.oneCell']) fun b5=>?_;dsimp only[ZC,z0,z1,List.map_cons,List.map_nil]) |  (refine ZBs tyV (ZVh rfl) (ZWD rfl ZVJ) rfl rfl ?_;dsimp only[ZC,z0,z1])|(apply zV;(focus ((first|(apply Zy (R:=RLS S RV) (k:=k) elV (ZWD rfl ZPI) (ZVh rfl) hk)|(refine ZAl ZVZ (ZVh rfl) (by decide))|(refine ZAY tyI (ZVh rfl) (.head _) rfl)|((first|apply ZVo|apply ZVn|apply ZVq) <;> exact oD));all_goals infer_instance));exact zQ)|(apply ZB;exact oD;all_goals (intro h;try exact xD))|refine ZVr ?_|refine ZVp ?_))
   all_goals try exact xO
   rw[hc,hl] at hsn ⊢;rw[hc] at hl0;rw[hl] at hl1;refine ZJh 10 (ZJh 11 (ZWP ZVR ?_));dsimp only[z0,z1];refine ZOW hc2 hSc hlow (ZVh rfl) (ZVh rfl) (by omega) (by(repeat (first|exact List.forall_mem_nil _|refine List.forall_mem_cons.2 ⟨(by first|exact ZFF|exact ZJE|exact safeF_I|exact safeF_B|exact ZJD),?_⟩))) (fun o ho=>by rw[List.mem_singleton.1 ho];exact ZKk (by decide) (by(repeat (first|exact List.forall_mem_nil _|refine List.forall_mem_cons.2 ⟨(by first|exact ZFF|exact ZJE|exact safeF_I|exact safeF_B|exact ZJD),?_⟩)))) fun v1 hlow1=>?_;dsimp only[ZC,z0,z1];(repeat' (first|(apply zV;exact yF;exact zQ)|refine ZVj ?_|refine ZA fun Kx hK=>?_|(refine hK _ _ ?_;clear hK)|refine ZVk ?_ |  (refine ZL9 (m:=47) elY 47 rfl (ZVh rfl) (by simp) (by simp) (by decide) hlow1 ?_ fun v2 hlow2=>?_;(focus (simp only[List.length_append];omega));dsimp only[ZC,z0,z1])|(apply zV;(focus ((first|(refine ZAl ZVZ (ZVh rfl) (by decide))|(refine ZAY tyI (ZVh rfl) (.tail _ (.tail _ (.head _))) rfl));all_goals infer_instance));exact zQ)))
   all_goals try exact xO
   refine ZOW hl2 hSl hlow2 (ZVh rfl) (ZVh rfl) (by simp only[List.length_append,List.length_cons,List.length_nil];omega) (by(repeat (first|exact List.forall_mem_nil _|refine List.forall_mem_cons.2 ⟨(by first|exact ZFF|exact ZJE|exact safeF_I|exact safeF_B|exact ZJD),?_⟩))) (fun o ho=>by rw[List.mem_singleton.1 ho];exact ZKk (by decide) (by(repeat (first|exact List.forall_mem_nil _|refine List.forall_mem_cons.2 ⟨(by first|exact ZFF|exact ZJE|exact safeF_I|exact safeF_B|exact ZJD),?_⟩)))) fun v3 hlow3=>?_;dsimp only[ZC,z0,z1];refine ZWP ZVS (WL.drop ?_);((repeat' (first|(apply zV;exact yF;exact zQ)|refine ZVj ?_|(refine hK _ _ ?_;clear hK)|refine ZVk ?_ |  (refine ZL9 (m:=32) elY 32 rfl (ZVh rfl) (by simp) (by simp) (by decide) hlow3 ?_ fun v4 hlow4=>?_;(focus (simp only[List.length_append,List.length_cons,List.length_nil];omega));dsimp only[ZC,z0,z1])|(apply zV;exact yG;exact zQ)|refine ZVx ?_));all_goals ((repeat clear hK);repeat clear Kx))
   all_goals try exact xO
   have he:txS (s.take k)++Lib.itoa (c:Int)++[47]++Lib.itoa (l:Int)++[32]=txS (s.take (k+1)):=by rw[hsn];simp only[List.append_assoc]
   rw[he];(refine zNx (k+1,_) ?_;(try dsimp only))
   exact⟨hk,hlow4⟩
  ·have hkI:¬ (k:Int)<(s.length:Int):=by omega
   obtain rfl:k=s.length:=by omega
   have hpos:=ZUW hne;rw[List.take_length];((repeat' (first|refine zS ?_|refine ZA fun Kx hK=>?_|(refine hK _ _ ?_;clear hK)|(refine ZV0 ?_;clear hK)|(apply zV;(focus ((first|(exact ZTT Tryz.underlying65 Tryz.underlying5 Tryz.underlying9 (ZVh rfl) (.head _) hpos)|exact yG);all_goals infer_instance));exact zQ)|(apply ZB;exact oD;all_goals (intro h;try exact xD))|refine ZVs ?_|refine ZV1 ?_));all_goals ((repeat clear hK);repeat clear Kx))
   all_goals try exact xO
   (refine⟨trivial,_,rfl,?_⟩;exact fD)
end
section
open Go.RowKit
def ZIj (S:Prop):HObj where
 blk:=none
 ok:=fun P w=>LaidIn P w\/S
 weak:=fun h q=>h.imp_left fun l=>ZCN l q
 bound:=fun h=>h.imp_left ZEF
 move:=fun {P w w' row} h hg hP hne=>h.imp_left fun l=>ZDt l fun k hk hl=>hg.block k hl (fun e=>hP k (by first|exact e|exact e.symm) hk)
theorem ZUx {α:Type} {R R':Rel α} {P:Nat->Prop} {w:World} {v:Value} {xs:List α} (h:∀v x,R P w v x->R' P w v x) (k:Arr R P w v xs):Arr R' P w v xs:=by
 obtain⟨a,cap,hv,h1,h2,h3⟩:=k;refine⟨a,cap,hv,h1,h2,fun k hk=>?_⟩;obtain⟨u,b,off,r1,r⟩:=h3 k hk;exact⟨u,b,off,h _ _ r1,r⟩
variable {S:Prop}
theorem gain_S {l:Cx} {P:Nat->Prop} {w:World} {v:Value} (h:(dS Zh l).rd P w v) (q:LaidIn P w\/S):(dS (ZA5 S) l).rd P w v :=
 ZUx (R:=ZI) (R':=ZCy S) (fun _ _ k=>ZSw k q) (h:Arr ZI P w v l)
theorem ZSz {l:Cx} (h1:l≠[]) (h2:∀s∈l,s≠[]) {P:Nat->Prop} {w:World} {v:Value} (h:(dS (ZSj S) l).rd P w v):LaidIn P w\/S:=by
 obtain⟨u,_,_,h3⟩:=h;obtain⟨a,cap,hv,_,_,h4⟩:=h3;have hp:=List.length_pos_iff.2 h1;obtain⟨u,b,off,r1,_⟩:=h4 0 hp;exact ZMV (h2 _ (List.getElem_mem hp)) (r1:(dS (ZCy S) _).rd P w u)
section
variable {P:Program} {ops:Array Oper} {hp:List HObj} {fr:List Dat} {d d':Dat} {Q:Z4} {rest:List Oper} {c:Code}
theorem ZSl (u:Nat) (hu:fr[u]?=some d) (hd:∀P w v,d.rd P w v->LaidIn P w\/S) (h:WC P Q c fr (ZIj S::hp)):WC P Q c fr hp:=WC.of fun P0 B w0 w a hh hf=>by
 have hg:(ZIj S).blk=none:=rfl;have hq:=hd _ _ _ (hf.rd u d hu);exact h.on (ZBU (l:=[]) hg hh hq) ⟨hf.defers,hf.size,fun t d hd=>d.weak (hf.rd t d hd) fun k=>(ZAN hg [] k).2⟩
theorem ZL0 {I:Nat->Prop} {w:World} {a:Act} (t:Nat) (hf:Fr I w a fr) (hq:LaidIn I w\/S) (ht:fr[t]?=some d) (hg:∀v,d.rd I w v->(LaidIn I w\/S)->d'.rd I w v):Fr I w a (fr.set t d'):=⟨hf.defers,by rw[hf.size,List.length_set],fun k e he=>by
 rw[List.getElem?_set] at he;by_cases hk:t=k
 ·subst hk;rw[if_pos rfl] at he;split at he
  ·cases he;exact hg _ (hf.rd t _ ht) hq
  ·cases he
 ·rw[if_neg hk] at he;exact hf.rd k e he⟩
theorem ZRI (t:Nat) (hm:ZIj S∈hp) (ht:fr[t]?=some d) (hg:∀P w v,d.rd P w v->(LaidIn P w\/S)->d'.rd P w v) (h:WL P ops Q rest (fr.set t d') hp):WL P ops Q rest fr hp:=WL.of fun _ _ _ _ _ hh hf=>h.on hh (ZL0 t hf (hh.ok _ hm) ht fun v=>hg _ _ v)
theorem ZDQ (t:Nat) (hm:ZIj S∈hp) (ht:fr[t]?=some d) (hg:∀P w v,d.rd P w v->(LaidIn P w\/S)->d'.rd P w v) (h:WC P Q c (fr.set t d') hp):WC P Q c fr hp:=WC.of fun _ _ _ _ _ hh hf=>h.on hh (ZL0 t hf (hh.ok _ hm) ht fun v=>hg _ _ v)
end
section
variable {P:Program} {ops:Array Oper} {hp:List HObj} {fr:List Dat} {d:Dat} {n:Nat} {agg:Bool}
variable {dst:Option Tmp} {ty:TypeId} {ps:String} {af:Array Edge} {g:Option (Nat × Bool)}
theorem ZA4 {x:Operand} (hx:OpD fr x (dP n agg d)):SY P ops hp ⟨dst,.nilCheck x,ty,ps,af,g⟩ fr (dP n agg d):=ZWK fun {I w a} ho=>by
 have h0:(dP n agg d).rd I w (a.eval x):=hx.get (by simp[Op.operands]) ho;obtain⟨b,off,v,h1,h2⟩:=h0;refine⟨a.eval x,?_,⟨b,off,v,h1,h2⟩⟩;unfold execOp;simp only[h1,Sem.run_pure]
end
theorem ZOS {P:Program} {hp:List HObj} {fr:List Dat} {Q:Z4} {c:Code} {b t:Nat} {M:ZUc} (ht:fr[t]?=some (dX (.map (some b)))) (h:WC P Q c (fr.set t (dS (ZF4 kvS RI) M)) hp):WC P Q c fr (hM b kvS vvI M::hp):=WC.of fun P0 B w0 w a hh hf=>by
 have hb:w.heap[b]?=some (ZAb _):=hh.ok (hM b kvS vvI M) (by simp);have hown:=hh.own (hM b kvS vvI M) (by simp) b rfl;refine h.on hh.drop ⟨hf.defers,by rw[hf.size,List.length_set],fun t' d' hd'=>?_⟩;by_cases htt:t=t'
 ·subst htt;rw[List.getElem?_set] at hd';simp only[if_true] at hd';split at hd'
  ·cases hd';have hv:a.tmps.getD t undef = .map (some b):=hf.rd t _ ht;rw[hv];refine⟨b,M.map fun p=>vvI p.2,rfl,⟨.inr hown.1,fun o' ho' hk=>(List.pairwise_cons.1 hh.apart).1 o' ho' b rfl hk⟩,by simp,?_,fun k h1 h2=>?_⟩
   ·rw[hb];congr 2;unfold ZAT;rw[List.zip_map',List.map_map];rfl
   ·simp only[List.getElem_map];exact rfl
  ·cases hd'
 ·rw[List.getElem?_set_ne htt] at hd';exact d'.weak (hf.rd t' d' hd') ZWZ
theorem ZPn {s:List Vx} (hs:ZAC s=0):∀v∈s,okL v:=fun v hv=>by
 have:=(Zi.1 hs).2.2.1 v hv;unfold ZDL at this;simp only[Bool.and_eq_true,decide_eq_true_eq] at this;unfold okL;omega
theorem ZNp {K α:Type} {kv:K->Value} {R:Rel α} [Good R] {m:List (K × α)}:(dS (ZF4 kv R) m).Shape 1 false:=fun _ _ _ h=>by
 obtain⟨b,us,rfl,_⟩:=h;exact⟨[.map (some b)],rfl,by decide,fun c hc=>by rw[List.mem_singleton.1 hc];rfl,rfl,rfl⟩
theorem ZAH {s:List Vx} (h:ZAC s=0):okS (txS s):=by
 have h1:=ZJL (ZPn h);have h2:=(Zi.1 h).2.1;unfold okS;omega
theorem ZF0 {S:Prop} {s:List Vx} (h:ZAC s=0) (hS:S->∀v∈s,v.1<100/\v.2<100):Fn Tryz.prog 69 [dS (ZCy S) s] (dX (kvS (txS s))):=by
 have h1:=(Zi.1 h).1;have h2:=(Zi.1 h).2.1;exact ZTv s (fun e=>h1 (by rw[e];rfl)) (by omega) (ZPn h) hS
end
section
open Go.RowKit
def ZNH (md:Region.Mode) (ops:Array Oper):Nat->Nat->Nat->Bool
 | 0,_,_=>false
 | d+1,j,k=>match ops[j]? with
  | none=>false
  | some o=>o.after.any fun e=>Region.binds md e && (decide (e.on=k) || ZNH md ops d e.on k)
section
variable {P:Program} {ops:Array Oper} {md:Region.Mode} {fr fr':List Dat} {hp:List HObj} {C:List HObj->Prop} {A:List Nat} {ws:List Nat}
theorem ZJ1 {n:Nat} {listed:Array Bool} (inv:HeadInv md ops n listed):∀(d j k:Nat),listed.getD j false=true->ZNH md ops d j k=true->listed.getD k false=true:=by
 intro d;induction d with
 | zero=>intro j k _ h;cases h
 | succ d ih =>
  intro j k hl h;unfold ZNH at h;cases ho:ops[j]? with
  | none=>rw[ho] at h;cases h
  | some o =>
   rw[ho] at h;simp only[Array.any_eq_true'] at h;obtain⟨e,he,h2⟩:=h;simp only[Bool.and_eq_true,Bool.or_eq_true,decide_eq_true_eq] at h2;have h3:=inv.closed j o ho hl e he h2.1;rcases h2.2 with h4|h4
   ·rw[<- h4];exact h3
   ·exact ih _ _ h3 h4
theorem ZGu {n:Nat} {listed:Array Bool} (inv:HeadInv md ops n listed) {d j k:Nat} (hr:j∈Region.ready md ops listed) (h:ZNH md ops d j k=true):listed.getD k false=true:=by
 obtain⟨_,o,ho,hall⟩:=mem_ready.1 hr;cases d with
 | zero=>cases h
 | succ d =>
  unfold ZNH at h;rw[ho] at h;simp only[Array.any_eq_true'] at h;obtain⟨e,he,h2⟩:=h;simp only[Bool.and_eq_true,Bool.or_eq_true,decide_eq_true_eq] at h2;have h3:=hall e he h2.1;rcases h2.2 with h4|h4
  ·rw[<- h4];exact h3
  ·exact ZJ1 inv _ _ _ h3 h4
def ZSf (md:Region.Mode) (ops:Array Oper) (A ws:List Nat):Bool:=ws.all fun j=>A.all fun k=>ZNH md ops 6 j k
end
end
section
open Go.RowKit
section
variable {P:Program} {ops:Array Oper} {md:Region.Mode} {fr fr':List Dat} {hp:List HObj} {C:List HObj->Prop} {A:List Nat} {ws:List Nat}
def sOpJ (P:Program) (ops:Array Oper) (C:List HObj->Prop) (A ws:List Nat) (i:Nat) (K:List Dat->List HObj->Prop) (fr:List Dat) (hp:List HObj):Prop :=
 ∃o,ops[i]?=some o/\((∃d,(∀hp',(i∈A->C hp')->SYG P ops hp' o fr d)/\K (ZC fr o.dst d) hp) \/
  (∃(β:Type) (H:β->List HObj) (D:β->Dat),(i∈ws\/∀x,C (H x))/\SW P ops hp H D o fr/\∀x,K (ZC fr o.dst (D x)) (H x)))
def ZHV (P:Program) (md:Region.Mode) (ops:Array Oper) (C:List HObj->Prop) (A ws:List Nat) (n:Nat) (L:Array Bool->List Dat->List HObj->Prop):Nat->Array Bool->List Dat->List HObj->Prop
 | 0,listed,fr,hp=>L listed fr hp
 | f+1,listed,fr,hp =>
  Region.ready md ops listed≠[]/\∀i∈Region.ready md ops listed,i<n/\sOpJ P ops C A ws i (ZHV P md ops C A ws n L f (listed.setIfInBounds i true)) fr hp
theorem ZCm {n g:Nat} {L:Array Bool->List Dat->List HObj->Prop} {Q':Exit->Act->World->Prop} {P0:Nat->Prop} {B:Nat} {w0:World} (hW:ZSf md ops A ws=true) (hAn:∀k∈A,k<ops.size):∀(f:Nat) (listed:Array Bool) (fr:List Dat) (hp:List HObj) (a:Act) (w:World),HeadInv md ops n listed->((∃k∈A,listed.getD k false=false)->C hp)->Hp P0 B w0 hp w->Fr (Imm P0 B hp) w a fr ->
  (∀listed fr hp a w',Hp P0 B w0 hp w'->Fr (Imm P0 B hp) w' a fr->L listed fr hp->wpAny P md ops Q' g listed a w')->ZHV P md ops C A ws n L f listed fr hp->wpAny P md ops Q' (f+g) listed a w
 | 0,listed,fr,hp,a,w,_,_,hh,hf,hL,h=>by rw[Nat.zero_add];exact hL _ _ _ _ _ hh hf h
 | f+1,listed,fr,hp,a,w,inv,hc,hh,hf,hL,h=>by
  rw[show f+1+g=(f+g)+1 by omega];refine⟨fun h0=>absurd h0 h.1,fun i hi=>?_⟩;obtain⟨o,ho,h1⟩:=(h.2 i hi).2;have hin:=(h.2 i hi).1;have inv':=inv.set hi hin;unfold wpOp;simp only[ho];have hgrow:∀k,(listed.setIfInBounds i true).getD k false=false->listed.getD k false=false:=fun k hk=>by
   cases q:listed.getD k false with
   | false=>rfl
   | true=>rw[getD_set_true q] at hk;cases hk
  rcases h1 with ⟨d,hs,hk⟩|⟨β,H,D,hw0,hw,hk⟩
  ·have hci:i∈A->C hp:=fun q=>hc ⟨i,q,getD_both (mem_ready.1 hi).1⟩;have:=(hs hp hci).step (Q:=Q') hh hf (K:=wpAny P md ops Q' (f+g) (listed.setIfInBounds i true)) fun a' w' e hf'=>ZCm hW hAn f _ _ hp _ _ inv' (fun⟨k,q1,q2⟩=>hc ⟨k,q1,hgrow k q2⟩) (hh.ext e) hf' hL hk;split
   ·rename_i hw;rw[if_pos hw] at this;exact .inl this
   ·rename_i hw;rw[if_neg hw] at this;exact this
  ·have hwant:Region.wanted o (yielded ops a.tmps)=true:=by simp[Region.wanted,hw.guard]
   rw[if_pos hwant];refine .inl (hw.out hh (hf.on _) _ _ fun x v w' hh' hrd hd=>ZCm hW hAn f _ _ (H x) _ _ inv' (fun⟨k,q1,q2⟩=>?_) hh' (ZWN (hf.mono fun d u hu=>hrd d u hu) hd) hL (hk x));rcases hw0 with hw0|hw0
   ·have h5:=List.all_eq_true.1 (List.all_eq_true.1 hW i hw0) k q1;have h6:=ZGu inv hi h5;rw[hgrow k q2] at h6;cases h6
   ·exact hw0 x
theorem ZK2 {n i:Nat} {oi:Oper} {di:Dat} {L:Array Bool->List Dat->List HObj->Prop} (hi:ops[i]?=some oi)
  (hs:Region.sinkB md ops n=true) (hc:ZCf md ops n=true) (hn:n<ops.size) (hin:i<n)
  (hdone:∀listed a c,L listed a c->∀j∈Region.ready md ops listed,n≤j) :
  ∀(f:Nat) (listed:Array Bool) (fr:List Dat) (hp:List HObj),HeadInv md ops n listed ->
   (∀j oj,ops[j]?=some oj->j≠i->listed.getD j true=false->(∀e∈oj.after,Region.binds md e=true->e.on≠i)->oi.apart ops oj=true) ->
   i∈Region.ready md ops listed->(∀hp',(i∈A->C hp')->SYG P ops hp' oi fr di) ->
   ZHV P md ops C A ws n L f (listed.setIfInBounds i true) (ZC fr oi.dst di) hp->ZHV P md ops C A ws n L (f+1) listed fr hp:=by
 intro f;induction f with
 | zero =>
  intro listed fr hp inv _ hr hy H;have hun:=(mem_ready.1 hr).1;refine⟨fun h=>(by rw[h] at hr;cases hr),fun j hj=>?_⟩;have hjn:j<n:=by
   rcases Nat.lt_or_ge j n with h|h
   ·exact h
   ·exact absurd hj (ZBo hs hc hn inv _ i rfl hin hun j h)
  refine⟨hjn,?_⟩;by_cases hji:j=i
  ·subst hji;exact⟨oi,hi,.inl ⟨di,hy,H⟩⟩
  ·have:=hdone _ _ _ H j (ready_mono hj hji);omega
 | succ f ih =>
  intro listed fr hp inv hfree hr hy H;have hun:=(mem_ready.1 hr).1;refine⟨fun h=>(by rw[h] at hr;cases hr),fun j hj=>?_⟩;have hjn:j<n:=by
   rcases Nat.lt_or_ge j n with h|h
   ·exact h
   ·exact absurd hj (ZBo hs hc hn inv _ i rfl hin hun j h)
  refine⟨hjn,?_⟩;by_cases hji:j=i
  ·subst hji;exact⟨oi,hi,.inl ⟨di,hy,H⟩⟩
  ·obtain⟨oj',hoj',h1⟩:=(H.2 j (ready_mono hj hji)).2;obtain⟨hjun,oj,hoj,hall⟩:=mem_ready.1 hj;have hoo:oj=oj':=by rw[hoj] at hoj';simpa using hoj'
   subst hoo;have hnot:∀e∈oj.after,Region.binds md e=true->e.on≠i:=fun e he hb heq=>by
    have h1:=hall e he hb;rw[heq,getD_both hun] at h1;cases h1
   obtain⟨a1,a2,a3⟩:=Oper.apart_spec (hfree j oj hoj hji hjun hnot);have hfree':∀k ok,ops[k]?=some ok->k≠i->(listed.setIfInBounds j true).getD k true=false ->
     (∀e∈ok.after,Region.binds md e=true->e.on≠i)->oi.apart ops ok=true:=fun k ok hk hki hun hno=>by
    refine hfree k ok hk hki ?_ hno;by_cases hjk:j=k
    ·subst hjk;exact hjun
    ·rw[getD_set_ne true hjk] at hun;exact hun
   have key:∀(d:Dat) (hp':List HObj),ZHV P md ops C A ws n L f ((listed.setIfInBounds i true).setIfInBounds j true) (ZC (ZC fr oi.dst di) oj.dst d) hp' ->
     ZHV P md ops C A ws n L (f+1) (listed.setIfInBounds j true) (ZC fr oj.dst d) hp':=fun d hp' hk=>by
    refine ih (listed.setIfInBounds j true) (ZC fr oj.dst d) hp' (inv.set hj hjn) hfree' (ready_mono hr (Ne.symm hji)) (fun c hc=>(hy c hc).same (Z5 _ _ _) fun t ht=>ZAE fun e=>a3 t e ht) ?_;rw[Array.setIfInBounds_comm _ _ hji,<- ZDH fr di d a2];exact hk
   refine⟨oj,hoj,?_⟩;rcases h1 with ⟨d,hs',hk⟩|⟨β,H',D,hw0,hw,hk⟩
   ·exact .inl ⟨d,fun c hc=>(hs' c hc).same (Z5 _ _ _).symm fun t ht=>(ZAE fun e=>a1 t e ht).symm,key _ _ hk⟩
   ·exact .inr ⟨β,H',D,hw0,hw.same (Z5 _ _ _).symm fun t ht=>(ZAE fun e=>a1 t e ht).symm,fun x=>key _ _ (hk x)⟩
inductive WMj (P:Program) (ops:Array Oper) (C:List HObj->Prop) (A ws:List Nat) (Q:List Dat->List HObj->Prop):List (Nat × Bool)->List Dat->List HObj->Prop
 | nil {fr:List Dat} {hp:List HObj}:Q fr hp->WMj P ops C A ws Q [] fr hp
 | read {i:Nat} {o:Oper} {r:List (Nat × Bool)} {fr:List Dat} {hp:List HObj} {d:Dat}:ops[i]?=some o->(∀hp',(i∈A->C hp')->SYG P ops hp' o fr d)->WMj P ops C A ws Q r (ZC fr o.dst d) hp->WMj P ops C A ws Q ((i,false)::r) fr hp
 | write {i:Nat} {o:Oper} {r:List (Nat × Bool)} {fr:List Dat} {hp:List HObj} {β:Type} {H:β->List HObj} {D:β->Dat}:ops[i]?=some o->(i∈ws\/∀x,C (H x))->SW P ops hp H D o fr->(∀x,WMj P ops C A ws Q r (ZC fr o.dst (D x)) (H x))->WMj P ops C A ws Q ((i,true)::r) fr hp
theorem ZFs {n:Nat} {Q:List Dat->List HObj->Prop} (hs:Region.sinkB md ops n=true) (hc:ZCf md ops n=true) (hn:n<ops.size) :
  ∀(l:List (Nat × Bool)) (listed:Array Bool) (fr:List Dat) (hp:List HObj),HeadInv md ops n listed->ZKW md ops n l listed=true->WMj P ops C A ws Q l fr hp ->
  ZHV P md ops C A ws n (fun listed' f p=>(∀j∈Region.ready md ops listed',n≤j)/\listed'=l.foldl (fun s p=>s.setIfInBounds p.1 true) listed/\Q f p) l.length listed fr hp
 | [],listed,fr,hp,_,hB,h=>by
  cases h;rename_i h;refine⟨fun j hj=>?_,rfl,h⟩;simp only[ZKW,List.all_eq_true,decide_eq_true_eq] at hB;exact hB j hj
 | (i,false)::r,listed,fr,hp,inv,hB,h=>by
  cases h;rename_i o d ho hy hk;simp only[ZKW,Bool.and_eq_true,decide_eq_true_eq] at hB;obtain⟨⟨⟨hin,hr⟩,hf⟩,hB'⟩:=hB;have hr':i∈Region.ready md ops listed:=by simpa using hr
  exact ZK2 ho hs hc hn hin (fun _ _ _ hL=>hL.1) r.length listed fr hp inv (Region.free_spec ho hf) hr' hy
   (ZFs hs hc hn r _ _ _ (inv.set hr' hin) hB' hk)
 | (i,true)::r,listed,fr,hp,inv,hB,h=>by
  simp only[ZKW,Bool.and_eq_true,decide_eq_true_eq] at hB;obtain⟨⟨hin,hr⟩,hB'⟩:=hB;have hr':i∈Region.ready md ops listed:=by rw[hr];simp
  cases h with
  | write ho hw0 hw hk =>
   refine⟨fun h0=>(by rw[hr] at h0;cases h0),fun j hj=>?_⟩;rw[hr] at hj;cases List.mem_singleton.1 hj;exact⟨hin,_,ho,.inr ⟨_,_,_,hw0,hw,fun x=>ZFs hs hc hn r _ _ _ (inv.set hr' hin) hB' (hk x)⟩⟩
theorem WC.drawJ {id:Nat} {l:List Oper} {Q:Z4} (C:List HObj->Prop) (n m:Nat) (A ws:List Nat) (ord:List (Nat × Bool)) (S:List Bool) (hm:P.follows .mixedOrders=true)
  (hB:(decide (n<l.toArray.size) && Region.sinkB .any l.toArray n && ZCf .any l.toArray n && ZKW .any l.toArray n ord (Array.replicate l.toArray.size false) && ZSf .any l.toArray A ws && A.all (fun k=>decide (k<l.toArray.size)))=true) (hS:ord.foldl (fun s p=>s.setIfInBounds p.1 true) (Array.replicate l.toArray.size false)=S.toArray) (hlen:l.length=ord.length+m) (hC:C hp)
  (h:WMj P l.toArray C A ws (fun f p=>WA P l.toArray Q m S f p) ord fr hp):WC P Q (.region id l.toArray true) fr hp:=by
 refine WC.of fun P0 B w0 w a hh hf=>?_;simp only[Bool.and_eq_true,decide_eq_true_eq] at hB;obtain⟨⟨⟨⟨⟨hn,hs⟩,hc⟩,hord⟩,hW⟩,hAn⟩:=hB;have hAn':∀k∈A,k<l.toArray.size:=fun k hk=>of_decide_eq_true (List.all_eq_true.1 hAn k hk);have inv0:HeadInv .any l.toArray n (Array.replicate l.toArray.size false) :=
  ⟨by simp,fun j oj _ hl=>(by rw[getD_replicate_false] at hl;cases hl),fun t _ ht=>getD_in (by simpa using ht) (getD_replicate_false _ _)⟩
 have HW:=ZFs (A:=A) (ws:=ws) hs hc hn ord _ fr hp inv0 hord h;have hx:Ext w { w with drawn:=w.drawn+1 }:=(ZWS w).drew;refine wp_region_any hm ?_;have:=ZCm (Q':=ZCs Q P0 B w0) (g:=m) hW hAn' _ _ _ hp _ _ inv0 (fun _=>hC) (hh.ext hx) (hf.ext hx) (fun listed' fr' hp' a' w' hh' hf' hL=>by
  rw[hL.2.1,hS];exact hL.2.2.out _ _ _ _ _ hh' hf') HW
 rw[show l.toArray.size=ord.length+m by simpa using hlen];rw[show(l.toArray.size)=ord.length+m by simpa using hlen] at this;exact this
theorem ZJm {l:List Oper} {Q:List Dat->List HObj->Prop} {i:Nat} {o:Oper} {r:List (Nat × Bool)} {d:Dat} (ho:l[i]?=some o) (h:∀hp',SYG P l.toArray hp' o fr d) (k:WMj P l.toArray C A ws Q r (ZC fr o.dst d) hp):WMj P l.toArray C A ws Q ((i,false)::r) fr hp:=WMj.read (by simpa using ho) (fun hp' _=>h hp') k
theorem ZJl {l:List Oper} {Q:List Dat->List HObj->Prop} {i:Nat} {o:Oper} {r:List (Nat × Bool)} {d:Dat} (hi:A.contains i=true) (ho:l[i]?=some o) (h:∀hp',C hp'->SYG P l.toArray hp' o fr d) (k:WMj P l.toArray C A ws Q r (ZC fr o.dst d) hp):WMj P l.toArray C A ws Q ((i,false)::r) fr hp:=WMj.read (by simpa using ho) (fun hp' hc=>h hp' (hc (by simpa using hi))) k
theorem ZM6 {l:List Oper} {Q:List Dat->List HObj->Prop} {i:Nat} {o:Oper} {r:List (Nat × Bool)} {β:Type} {H:β->List HObj} {D:β->Dat} (hi:ws.contains i=true) (ho:l[i]?=some o) (h:SW P l.toArray hp H D o fr) (k:∀x,WMj P l.toArray C A ws Q r (ZC fr o.dst (D x)) (H x)):WMj P l.toArray C A ws Q ((i,true)::r) fr hp:=WMj.write (by simpa using ho) (.inl (by simpa using hi)) h k
theorem ZFR {l:List Oper} {Q:List Dat->List HObj->Prop} {i:Nat} {o:Oper} {r:List (Nat × Bool)} {β:Type} {H:β->List HObj} {D:β->Dat} (ho:l[i]?=some o) (h:SW P l.toArray hp H D o fr) (hc:∀x,C (H x)) (k:∀x,WMj P l.toArray C A ws Q r (ZC fr o.dst (D x)) (H x)):WMj P l.toArray C A ws Q ((i,true)::r) fr hp:=WMj.write (by simpa using ho) (.inr hc) h k
end
end
end Go.Proofs.YtofkoleingbbpaaGreatDoor
namespace Go.Proofs.YtofkoleingbbpaaGreatDoor.C34
section
variable {α:Type}
def ZEU (L:List (List α)):List (Nat × α):=L.zipIdx.flatMap fun p=>p.1.map fun s=>(p.2,s)
def ZAj (L:List (List α)) (k:Nat):Nat:=((L.take k).map List.length).sum
def plc (off:Nat) (lv:List α) (p:α->Bool):List Int:=((List.range lv.length).filter fun j=>match lv[j]? with|none=>false|some s=>p s).map fun j=>((off+j:Nat):Int)
def ZDy [DecidableEq α] (ins:α->α->Bool) (L:List (List α)) (f:α) (k:Nat):List Int :=
 plc (ZAj L (k-1)) (L.getD (k-1) []) (fun s=>decide (s=f))++plc (ZAj L k) (L.getD k []) (ins f)
theorem ZFk (off:Nat) (a b:List α) (p:α->Bool):plc off (a++b) p=plc off a p++plc (off+a.length) b p:=by
 unfold plc;rw[List.length_append,List.range_add,List.filter_append,List.map_append];congr 1
 ·congr 1;refine List.filter_congr fun j hj=>?_;rw[List.getElem?_append_left (List.mem_range.1 hj)]
 ·rw[List.filter_map,List.map_map];have:((fun j=>match (a++b)[j]? with|none=>false|some s=>p s) ∘ fun x=>a.length+x)=fun j=>match b[j]? with|none=>false|some s=>p s:=by
   funext j
   simp only[Function.comp_apply];rw[List.getElem?_append_right (by omega),Nat.add_sub_cancel_left]
  rw[this];refine List.map_congr_left fun j _=>?_;simp only[Function.comp_apply];congr 1;omega
theorem ZGU {off:Nat} {a:List α} {p:α->Bool} (h:∀s∈a,p s=false):plc off a p=[]:=by
 unfold plc;rw[List.map_eq_nil_iff,List.filter_eq_nil_iff];intro j hj;have hj:=List.mem_range.1 hj;rw[List.getElem?_eq_getElem hj];simp[h _ (List.getElem_mem hj)]
def ZBL (L:List (List α)) (x:List Int):List (List α):=L.zipIdx.map fun p=>(p.1.zipIdx.filter fun q=>decide (((ZAj L p.2+q.2:Nat):Int)∈x)).map (·.1)
end
section

variable {α:Type}
theorem asc_range {x:List Int} {n:Nat} (h:L05.Asc x) (hr:∀i∈x,0≤i/\i<n):x=((List.range n).filter fun i:Nat=>decide ((i:Int)∈x)).map fun i:Nat=>(i:Int):=by
 refine L05.asc_ext h ?_ fun i=>?_
 ·show List.Pairwise _ _;rw[List.pairwise_map];exact(List.pairwise_lt_range.filter _).imp fun h=>by omega
 ·rw[List.mem_map];constructor
  ·intro hi;obtain⟨h1,h2⟩:=hr i hi;refine⟨i.toNat,List.mem_filter.2 ⟨List.mem_range.2 (by omega),decide_eq_true ?_⟩,by omega⟩;rw[Int.toNat_of_nonneg h1];exact hi
  ·rintro⟨j,hj,rfl⟩;exact of_decide_eq_true (List.mem_filter.1 hj).2
theorem ZLh (off:Nat) (lv:List α) (p:α->Bool):L05.Asc (plc off lv p):=by
 unfold plc;show List.Pairwise _ _;rw[List.pairwise_map];exact(List.pairwise_lt_range.filter _).imp fun h=>by omega
theorem ZHH {off:Nat} {lv:List α} {p:α->Bool} {x:Int} (h:x∈plc off lv p):(off:Int)≤x/\x<((off+lv.length:Nat):Int):=by
 unfold plc at h;obtain⟨j,hj,rfl⟩:=List.mem_map.1 h;have:=List.mem_range.1 (List.mem_filter.1 hj).1;omega
theorem ZHS (L:List (List α)):(ZEU L).length=ZAj L L.length:=by
 unfold ZEU ZAj;rw[List.take_of_length_le (Nat.le_refl _),List.length_flatMap];congr 1;apply List.ext_getElem?;intro k;rw[List.getElem?_map,List.getElem?_map,List.getElem?_zipIdx];cases L[k]? <;> simp
theorem ZDY {L:List (List α)} {k:Nat} (h:k<L.length):ZAj L (k+1)=ZAj L k+(L.getD k []).length:=by
 unfold ZAj;rw[List.take_add_one,List.getElem?_eq_getElem h,List.map_append,List.sum_append];simp[List.getD_eq_getElem?_getD,List.getElem?_eq_getElem h]
theorem ZIz (L:List (List α)) {i j:Nat} (h:i≤j):ZAj L i≤ZAj L j:=by
 obtain⟨d,rfl⟩:∃d,j=i+d:=⟨j-i,by omega⟩;unfold ZAj;rw[List.take_add,List.map_append,List.sum_append];omega
theorem ZVX [DecidableEq α] (ins:α->α->Bool) (L:List (List α)) (f:α) {k:Nat} (h1:1≤k) (h2:k<L.length):L05.Asc (ZDy ins L f k)/\∀x∈ZDy ins L f k,0≤x/\x<((ZEU L).length:Int):=by
 have ha:ZAj L k=ZAj L (k-1)+(L.getD (k-1) []).length:=by
  have:=ZDY (L:=L) (k:=k-1) (by omega);rwa[show k-1+1=k by omega] at this
 have hb:=ZDY (L:=L) h2;have hc:=ZIz L (i:=k+1) (j:=L.length) h2;rw[<- ZHS] at hc;unfold ZDy;refine⟨List.pairwise_append.2 ⟨ZLh _ _ _,ZLh _ _ _,fun x hx y hy=>?_⟩,fun x hx=>?_⟩
 ·have:=ZHH hx;have:=ZHH hy;omega
 ·rcases List.mem_append.1 hx with hx|hx
  ·have:=ZHH hx;omega
  ·have:=ZHH hx;omega
theorem ZRp (L:List (List α)) (h:0<L.length):L05.Asc (plc 0 (L.getD 0 []) fun _=>true)/\∀x∈plc 0 (L.getD 0 []) (fun _=>true),0≤x/\x<((ZEU L).length:Int):=by
 have hb:=ZDY (L:=L) h;have hc:=ZIz L (i:=1) (j:=L.length) h;rw[<- ZHS] at hc;have h0:ZAj L 0=0:=rfl;refine⟨ZLh _ _ _,fun x hx=>?_⟩;have:=ZHH hx;rw[Nat.zero_add] at hb;omega
end
section
variable {α κ:Type} [DecidableEq κ]
theorem ZAP {β:Type} {l:List β} {k:Nat} (h:k<l.length):l.take (k+1)=l.take k++[l[k]]:=List.take_succ_eq_append_getElem h
theorem zip_snoc {β:Type} {l:List β} {k:Nat} (h:k<l.length):(l.take (k+1)).zipIdx=(l.take k).zipIdx++[(l[k],k)]:=by
 rw[ZAP h,List.zipIdx_append,List.length_take,Nat.min_eq_left (by omega)];simp
def ZFK (kx:α->κ) (off:Nat) (lv:List α):List (κ × Int):=lv.zipIdx.foldl (fun m p=>ZCH m (kx p.1) ((off+p.2:Nat):Int)) []
theorem ZHG {kx:α->κ} {off:Nat} {lv:List α} {k:Nat} (h:k<lv.length):ZFK kx off (lv.take (k+1))=ZCH (ZFK kx off (lv.take k)) (kx lv[k]) ((off+k:Nat):Int):=by
 unfold ZFK;rw[zip_snoc h,List.foldl_append];rfl
theorem ZUJ {off:Nat} {s:α} {p:α->Bool}:plc off [s] p=if p s=true then[(off:Int)] else[]:=by
 unfold plc;cases h:p s <;> simp[h]
theorem ZI3 {off:Nat} {lv:List α} {p:α->Bool} {k:Nat} (h:k<lv.length):plc off (lv.take (k+1)) p=plc off (lv.take k) p++if p lv[k]=true then[((off+k:Nat):Int)] else[]:=by
 rw[ZAP h,ZFk,ZUJ,List.length_take,Nat.min_eq_left (by omega)]
theorem ZPk {lv:List α} (hn:lv.Nodup) {k:Nat} (h:k<lv.length):lv[k]∉lv.take k:=fun hm=>by
 obtain⟨j,hj,e⟩:=List.getElem_of_mem hm;rw[List.length_take] at hj;rw[List.getElem_take] at e;have:=List.pairwise_iff_getElem.1 hn j k (by omega) h (by omega);exact this e
theorem ZIy [DecidableEq α] {kx:α->κ} {off:Nat} {lv:List α} (hn:lv.Nodup) {f:α} (hi:∀s∈lv,kx s=kx f->s=f):∀n,n≤lv.length->(lookM (ZFK kx off (lv.take n)) (kx f)).toList=plc off (lv.take n) (fun s=>decide (s=f))
 | 0,_=>by simp[ZFK,lookM,plc]
 | n+1,h=>by
  rw[ZHG (by omega),ZCG,ZI3 (by omega)];have ih:=ZIy (off:=off) hn hi n (by omega);by_cases hf:lv[n]=f
  ·rw[if_pos (by rw[hf]),if_pos (by rw[hf];simp)];rw[ZGU fun s hs=>decide_eq_false fun e=>ZPk hn (k:=n) (by omega) (by rw[hf,<- e];exact hs)];rfl
  ·rw[if_neg (fun e=>hf (hi _ (List.getElem_mem _) e.symm)),if_neg (by simpa using hf),List.append_nil];exact ih
theorem ZVO [DecidableEq α] {kx:α->κ} {off:Nat} {lv:List α} (hn:lv.Nodup) (hi:∀a∈lv,∀b∈lv,kx a=kx b->a=b) {j:Nat} (hj:j<lv.length):lookM (ZFK kx off lv) (kx lv[j])=some ((off+j:Nat):Int):=by
 have h:=ZIy (off:=off) hn (f:=lv[j]) (fun s hs e=>hi s hs _ (List.getElem_mem hj) e) lv.length (Nat.le_refl _);rw[List.take_length] at h;have hm:((off+j:Nat):Int)∈plc off lv (fun s=>decide (s=lv[j])):=by
  unfold plc;refine List.mem_map.2 ⟨j,List.mem_filter.2 ⟨List.mem_range.2 hj,?_⟩,rfl⟩;rw[List.getElem?_eq_getElem hj];simp
 rw[<- h] at hm;cases hq:lookM (ZFK kx off lv) (kx lv[j]) with
 | none=>rw[hq] at hm;cases hm
 | some x=>rw[hq] at hm;rw[List.mem_singleton.1 hm]
theorem ZIx {kx:α->κ} {off:Nat} {lv:List α} (hn:lv.Nodup) (hi:∀a∈lv,∀b∈lv,kx a=kx b->a=b):∀n,n≤lv.length->(ZFK kx off (lv.take n)).map (·.1)=(lv.take n).map kx
 | 0,_=>by simp[ZFK]
 | n+1,h=>by
  have ih:=ZIx (off:=off) hn hi n (by omega);have hne:∀p∈ZFK kx off (lv.take n),p.1≠kx lv[n]:=fun p hp e=>by
   have hm:p.1∈(lv.take n).map kx:=by rw[<- ih];exact List.mem_map_of_mem hp
   obtain⟨s,hs,he⟩:=List.mem_map.1 hm;have:=hi s (List.mem_of_mem_take hs) lv[n] (List.getElem_mem _) (by rw[he,e]);exact ZPk hn (k:=n) (by omega) (this ▸ hs)
  rw[ZHG (by omega),ZDa hne,List.map_append,ih,ZAP (by omega),List.map_append];rfl
def ZQq (m:List (κ × List Int)) (x:κ) (i:Int):List (κ × List Int):=ZCH m x ((lookM m x).getD []++[i])
def ZIR (kx:α->κ) (i:Int) (fs:List α) (m:List (κ × List Int)):List (κ × List Int):=fs.foldl (fun m f=>ZQq m (kx f) i) m
def arF (kx:α->κ) (fac:α->List α) (off:Nat) (lv:List α):List (κ × List Int):=lv.zipIdx.foldl (fun m p=>ZIR kx ((off+p.2:Nat):Int) (fac p.1) m) []
theorem ZMB {kx:α->κ} {fac:α->List α} {off:Nat} {lv:List α} {k:Nat} (h:k<lv.length):arF kx fac off (lv.take (k+1))=ZIR kx ((off+k:Nat):Int) (fac lv[k]) (arF kx fac off (lv.take k)):=by
 unfold arF;rw[zip_snoc h,List.foldl_append];rfl
theorem ZOm {kx:α->κ} {i:Int} {fs:List α} {m:List (κ × List Int)} {j:Nat} (h:j<fs.length):ZIR kx i (fs.take (j+1)) m=ZQq (ZIR kx i (fs.take j) m) (kx fs[j]) i:=by
 unfold ZIR;rw[ZAP h,List.foldl_append];rfl
theorem ZRU {m:List (κ × List Int)} {x y:κ} {i:Int}:(lookM (ZQq m x i) y).getD []=(lookM m y).getD []++if y=x then[i] else[]:=by
 unfold ZQq;rw[ZCG];by_cases h:y=x
 ·subst h;rw[if_pos rfl,if_pos rfl];rfl
 ·rw[if_neg h,if_neg h,List.append_nil]
theorem ZJp [DecidableEq α] {kx:α->κ} {i:Int} {f:α}:∀(fs:List α) (m:List (κ × List Int)),fs.Nodup->(∀s∈fs,kx s=kx f->s=f)->(lookM (ZIR kx i fs m) (kx f)).getD []=(lookM m (kx f)).getD []++if f∈fs then[i] else[]
 | [],m,_,_=>by simp[ZIR]
 | s::fs,m,hn,hi=>by
  have h2:=List.nodup_cons.1 hn;have ih:=ZJp (i:=i) fs (ZQq m (kx s) i) h2.2 fun t ht=>hi t (List.mem_cons_of_mem _ ht);show(lookM (ZIR kx i fs (ZQq m (kx s) i)) (kx f)).getD []=_;rw[ih,ZRU];by_cases hs:s=f
  ·subst hs;rw[if_pos rfl,if_neg h2.1,if_pos (List.mem_cons_self ..),List.append_nil]
  ·rw[if_neg (fun e=>hs (hi s (List.mem_cons_self ..) e.symm)),List.append_nil];by_cases hf:f∈fs
   ·rw[if_pos hf,if_pos (List.mem_cons_of_mem _ hf)]
   ·rw[if_neg hf,if_neg (fun h=>(List.mem_cons.1 h).elim (fun e=>hs e.symm) hf)]
theorem ZOo [DecidableEq α] {kx:α->κ} {fac:α->List α} {off:Nat} {lv:List α} {f:α} (hf:∀s∈lv,(fac s).Nodup) (hi:∀s∈lv,∀t∈fac s,kx t=kx f->t=f):∀n,n≤lv.length->(lookM (arF kx fac off (lv.take n)) (kx f)).getD []=plc off (lv.take n) (fun s=>decide (f∈fac s))
 | 0,_=>by simp[arF,lookM,plc]
 | n+1,h=>by
  have hm:lv[n]∈lv:=List.getElem_mem _;rw[ZMB (by omega),ZJp _ _ (hf _ hm) (hi _ hm),ZOo hf hi n (by omega),ZI3 (by omega)];by_cases hq:f∈fac lv[n]
  ·rw[if_pos hq,if_pos (by simpa using hq)]
  ·rw[if_neg hq,if_neg (by simpa using hq)]
def ZQv (kx:α->κ) (fac:α->List α) (L:List (List α)) (f:α) (k:Nat):List Int :=
 (lookM (ZFK kx (ZAj L (k-1)) (L.getD (k-1) [])) (kx f)).toList++(lookM (arF kx fac (ZAj L k) (L.getD k [])) (kx f)).getD []
theorem ZSH [DecidableEq α] {kx:α->κ} {fac:α->List α} {L:List (List α)} {f:α} {k:Nat} (hn:(L.getD (k-1) []).Nodup) (h1:∀s∈L.getD (k-1) [],kx s=kx f->s=f) (hf:∀s∈L.getD k [],(fac s).Nodup) (hi:∀s∈L.getD k [],∀t∈fac s,kx t=kx f->t=f) :
  ZQv kx fac L f k=ZDy (fun f s=>decide (f∈fac s)) L f k:=by
 unfold ZQv ZDy;have e1:=ZIy (off:=ZAj L (k-1)) hn h1 _ (Nat.le_refl _);have e2:=ZOo (off:=ZAj L k) hf hi _ (Nat.le_refl _);rw[List.take_length] at e1 e2;rw[e1,e2]
end
end Go.Proofs.YtofkoleingbbpaaGreatDoor.C34
namespace Go.Proofs.YtofkoleingbbpaaGreatDoor
section
theorem ZQW {c:UInt8}:∀ {a b r r':List UInt8},(∀x∈a,x≠c)->(∀x∈b,x≠c)->a++c::r=b++c::r'->a=b/\r=r'
 | [],[],_,_,_,_,h=>⟨rfl,by simpa using h⟩
 | [],y::b,_,_,_,hb,h=>by
  simp only[List.nil_append,List.cons_append,List.cons.injEq] at h;exact absurd h.1.symm (hb y (by simp))
 | x::a,[],_,_,ha,_,h=>by
  simp only[List.nil_append,List.cons_append,List.cons.injEq] at h;exact absurd h.1 (ha x (by simp))
 | x::a,y::b,r,r',ha,hb,h=>by
  simp only[List.cons_append,List.cons.injEq] at h;obtain⟨h1,h2⟩:=ZQW (a:=a) (b:=b) (fun z hz=>ha z (by simp[hz])) (fun z hz=>hb z (by simp[hz])) h.2;exact⟨by rw[h.1,h1],h2⟩
theorem ZIb (k:Nat) (h:k<10):(UInt8.ofNat (48+k)).toNat=48+k:=by
 rw[UInt8.toNat_ofNat'];omega
def valD (l:List UInt8):Nat:=l.foldl (fun n d=>n*10+(d.toNat-48)) 0
theorem ZQi:∀u:Nat,valD (Lib.decDigits u)=u:=by
 intro u;induction u using Nat.strongRecOn with
 | _ u ih =>
  by_cases h:u<10
  ·rw[Lib.decDigits_one h];show 0*10+((UInt8.ofNat (48+u)).toNat-48)=u;rw[ZIb u h];omega
  ·rw[Lib.decDigits,dif_neg h];unfold valD at ih ⊢;rw[List.foldl_append,ih (u / 10) (by omega)];show u / 10*10+((UInt8.ofNat (48+u % 10)).toNat-48)=u;rw[ZIb _ (by omega)];omega
theorem ZRk:∀u:Nat,∀d∈Lib.decDigits u,48≤d.toNat:=by
 intro u;induction u using Nat.strongRecOn with
 | _ u ih =>
  by_cases h:u<10
  ·rw[Lib.decDigits_one h];intro d hd;rw[List.mem_singleton.1 hd,ZIb u h];omega
  ·rw[Lib.decDigits,dif_neg h];intro d hd;rcases List.mem_append.1 hd with q|q
   ·exact ih (u / 10) (by omega) d q
   ·rw[List.mem_singleton.1 q,ZIb _ (by omega)];omega
theorem ZIr {n:Int} (h:0≤n) {c:UInt8} (hc:c.toNat<48):∀x∈Lib.itoa n,x≠c:=by
 obtain⟨m,rfl⟩:=Int.eq_ofNat_of_zero_le h;rw[Lib.itoa_nonneg];intro x hx e;have:=ZRk m x hx;rw[e] at this;omega
theorem ZMU {n m:Int} (h:0≤n) (h':0≤m) (e:Lib.itoa n=Lib.itoa m):n=m:=by
 obtain⟨a,rfl⟩:=Int.eq_ofNat_of_zero_le h;obtain⟨b,rfl⟩:=Int.eq_ofNat_of_zero_le h';rw[Lib.itoa_nonneg,Lib.itoa_nonneg] at e;have:=congrArg valD e;rw[ZQi,ZQi] at this;rw[this]
theorem ZGY (v:Vx) (s:List Vx):txS (v::s)=Lib.itoa v.1++47::(Lib.itoa v.2++32::txS s):=by
 show txV v++txS s=_;unfold txV;simp
theorem ZQc:∀ {s t:List Vx},(∀v∈s,0≤v.1/\0≤v.2)->(∀v∈t,0≤v.1/\0≤v.2)->txS s=txS t->s=t
 | [],[],_,_,_=>rfl
 | [],v::t,_,_,h=>by
  rw[ZGY] at h;have:=congrArg List.length h;rw[List.length_append,List.length_cons] at this;exact absurd this (by show ¬ (0=_);omega)
 | v::s,[],_,_,h=>by
  rw[ZGY] at h;have:=congrArg List.length h;rw[List.length_append,List.length_cons] at this;exact absurd this (by show ¬ (_=0);omega)
 | v::s,u::t,hs,ht,h=>by
  rw[ZGY,ZGY] at h;have hv:=hs v (by simp);have hu:=ht u (by simp);obtain⟨h1,h2⟩:=ZQW (ZIr hv.1 (by decide)) (ZIr hu.1 (by decide)) h;obtain⟨h3,h4⟩:=ZQW (ZIr hv.2 (by decide)) (ZIr hu.2 (by decide)) h2;have e:v=u:=Prod.ext (ZMU hv.1 hu.1 h1) (ZMU hv.2 hu.2 h3);rw[e,ZQc (fun w hw=>hs w (by simp[hw])) (fun w hw=>ht w (by simp[hw])) h4]
end
end Go.Proofs.YtofkoleingbbpaaGreatDoor
