/- Part 31: walks by contracts, and plain laws. -/
import Derived.Test.YtofkoleingbbpaaGreatDoorXa30
set_option linter.unusedVariables false
set_option linter.unusedSimpArgs false
set_option linter.unusedSectionVars false
set_option maxRecDepth 100000
set_option maxHeartbeats 64000000
namespace Go.Proofs.YtofkoleingbbpaaGreatDoor
section
open Go.RowKit
def RY:Rel UInt8:=fun _ _ v x=>v = .int .u8 (x.toNat:Int)
instance:Good RY:=⟨fun h _=>h,fun h _=>h,fun h=>h⟩
section
variable {I:Nat->Prop} {w:World} {v:Value} {e:TypeId} {bs:List UInt8} {n B':Nat} {xs:List Value}
theorem ZPr (h:Own 0 e RY I w v bs):w.ownsRow 0 e 1 v bs.length (Lib.byteCells bs):=by
 obtain⟨us,h1,h2,h3⟩:=h;have:us=Lib.byteCells bs:=by
  apply List.ext_getElem (by rw[Lib.byteCells_length];exact h1);intro k a b;rw[show us[k]=_ from(h3 k a (by omega)).2];simp[Lib.byteCells]
 rwa[this] at h2
theorem ZPs (h:w.ownsRow 0 e 1 v n xs) (hl:∀g,v.ownBlock=some g->B'≤g):w.ownsRow B' e 1 v n xs:=by
 obtain⟨h2,h3⟩:=h;rcases h3 with h|⟨g,cap,cur,hv,hB,rest⟩
 ·exact⟨h2,.inl h⟩
 ·exact⟨h2,.inr ⟨g,cap,cur,hv,hl g (by rw[hv];rfl),rest⟩⟩
theorem ZOt (h:w.ownsRow B' e 1 v bs.length (Lib.byteCells bs)):Own 0 e RY I w v bs:=by
 refine⟨Lib.byteCells bs,Lib.byteCells_length _,?_,fun k a b=>?_⟩
 ·obtain⟨h2,h3⟩:=h;rcases h3 with h|⟨g,cap,cur,hv,hB,rest⟩
  ·exact⟨h2,.inl h⟩
  ·exact⟨h2,.inr ⟨g,cap,cur,hv,Nat.zero_le _,rest⟩⟩
 ·have e1:(Lib.byteCells bs)[k] = .int .u8 (bs[k].toNat:Int):=by simp[Lib.byteCells]
  rw[e1];exact⟨rfl,rfl⟩
theorem ZPt {g:Nat} (h:w.ownsRow B' e 1 v n xs) (hg:v.ownBlock=some g):B'≤g/\g<w.heap.size/\∃c fz,w.heap[g]?=some (.cells c e fz):=by
 have h1:=h.lt g hg;obtain⟨h2,h3⟩:=h;rcases h3 with ⟨hv,_⟩|⟨g',cap,cur,hv,hB,hc,rest⟩
 ·rw[hv] at hg;cases hg
 ·rw[hv] at hg;cases hg;exact⟨h1.1,h1.2,_,_,hc⟩
end
def ZTJ (b:Nat) (v:Value):Prop:=∀g,v.ownBlock=some g->b≤g
def ZOO (b:Nat) (d:Dat):Prop:=∀(P P':Nat->Prop) (w w':World) (v:Value),d.rd P w v->(∀k,k<b->k<w.heap.size->w'.heap[k]?=w.heap[k]?)->(∀k,P k->k<b->P' k)->d.rd P' w' v
theorem ZFG {b:Nat} {d:Dat}:ZOO b (dLow b d):=fun _ _ _ _ _ h q r=>d.weak (d.move h fun k hk hl=>q k hk.2 hl) fun k hk=>⟨r k hk.1 hk.2,hk.2⟩
theorem ZJE {b:Nat} {v:Value}:ZOO b (dX v):=fun _ _ _ _ _ h _ _=>h
theorem ZJD {b:Nat}:ZOO b dA:=fun _ _ _ _ _ _ _ _=>trivial
structure SafeN (e:TypeId) (b:Nat) (o:HObj):Prop where
 kept:∀(P P':Nat->Prop) (w w':World),o.ok P w->(∀k,k<b->k<w.heap.size->w'.heap[k]?=w.heap[k]?)->Lib.OthersKept e none w w'->(∀k,P k->k<b->P' k)->o.ok P' w'
 kind:∀(P:Nat->Prop) (w:World) (k:Nat),o.ok P w->o.blk=some k->∃cs T fz,w.heap[k]?=some (.cells cs T fz)/\T≠e
theorem ZKk {e T:TypeId} {b c:Nat} {ds:List Dat} (hT:T≠e) (h:∀d∈ds,ZOO b d):SafeN e b (ZAX c T ds) :=
 ⟨fun _ _ _ _ ⟨cs,c1,c2,c3,c4⟩ hb hk hP=>⟨cs,hk c _ c1 (by simp) (fun _ _ he=>by cases he;exact hT rfl),c2,c3,fun k u d hu hd=>h d (List.mem_of_getElem? hd) _ _ _ _ _ (c4 k u d hu hd) hb hP⟩,
  fun _ _ _ ⟨_,c1,_,_,_⟩ hk=>by cases hk;exact⟨_,_,_,c1,hT⟩⟩
def ZEQ (b:Nat) (S:Prop):HObj where
 blk:=none
 ok:=fun P w=>b≤w.heap.size/\(LaidIn (fun k=>P k/\k<b) w\/S)
 weak:=fun h q=>⟨h.1,h.2.imp (fun l=>ZCO l fun k hk=>⟨q k hk.1,hk.2⟩) fun z=>z⟩
 bound:=fun h=>⟨h.1,h.2.imp (fun l=>ZCO (ZEG l) fun k hk=>⟨⟨hk.1.1,hk.2⟩,hk.1.2⟩) fun z=>z⟩
 move:=fun {P w w' row} h hg hP hne=>⟨Nat.le_trans h.1 hg.size,h.2.imp (fun l=>ZDt l fun k hk hl=>hg.block k hl (fun e=>hP k (by first|exact e|exact e.symm) hk.1)) id⟩
theorem ZM8 (B n u:Nat) (hu:u≤1048576) (sv:Value) (xs:List Value) (w:World) (hown:w.ownsRow B 5 1 sv n xs) (hBw:B≤w.heap.size) (hlim:n+21≤140737488355328) (hq:LaidIn (fun k=>k<B) w\/u<100) :
  Calls Tryz.prog 114 #[sv,.int .i64 (u:Int),.int .i64 10] w fun e w'=>∃v',e = .returned v'/\w'.ownsRow B 5 1 v' (n+(Lib.itoa (u:Int)).length) (xs++Lib.byteCells (Lib.itoa (u:Int)))/\Below B w w'/\Lib.OthersKept 5 none w w':=by
 rcases hq with hq|hq
 ·exact Any.strconv_AppendInt_10 Tryz.laysAI B n (u:Int) (by omega) (by omega) sv xs w hown hBw hlim fun w' hb=>(ZDt hq fun k hk _=>hb.block k hk).elim fun g h=>h.2.2
 ·exact ZM9 Tryz.laysAI B n u hq sv xs w hown hBw hlim
section
variable {P:Program} {ops:Array Oper} {hp:List HObj} {fr:List Dat} {Q:Z5} {rest:List Oper}
variable {dst:Option Tmp} {ty:TypeId} {ps:String} {af:Array Edge} {g:Option (Nat × Bool)} {b:Nat} {S:Prop} {bs:List UInt8} {v:Value}
theorem WC.base {c:Code} {s:List Vx} (u:Nat) (hs:s≠[]) (hu:fr[u]?=some (dS (ZCx S) s)) (h:∀b,WC P Q c (fr.map (dLow b)) [ZEQ b S]):WC P Q c fr []:=WC.of fun P0 B w0 w a hh hf=>by
 have hl:=ZMT hs (hf.rd u _ hu);have hI:∀k,Imm P0 B [] k->Imm P0 B [ZEQ w.heap.size S] k:=fun k hk=>⟨hk.1,fun o ho=>by rw[List.mem_singleton.1 ho];simp[ZEQ]⟩;refine(h w.heap.size).on ⟨hh.base,hh.below,fun o ho k hk=>?_,fun o ho=>?_,List.pairwise_singleton _ _⟩ ⟨hf.defers,by simpa using hf.size,fun t d hd=>?_⟩
 ·rw[List.mem_singleton.1 ho] at hk;cases hk
 ·rw[List.mem_singleton.1 ho];exact⟨Nat.le_refl _,hl.imp (fun l=>ZCO (ZEG l) fun k hk=>⟨hI k hk.1,hk.2⟩) fun z=>z⟩
 ·rw[List.getElem?_map] at hd;cases ht:fr[t]? with
  | none=>rw[ht] at hd;cases hd
  | some d0 =>
   rw[ht] at hd;cases hd;exact d0.weak (d0.bound (hf.rd t d0 ht)) fun k hk=>⟨hI k hk.1,hk.2⟩
theorem ZOU {x y:Operand} {ats:Array TypeId} {u:Nat} (hu:u≤1048576) (hS:S->u<100) (hlow:ZTJ b v) (hx:OpD fr x (dX v)) (hy:OpD fr y (dI (u:Int))) (hlen:bs.length+21≤140737488355328)
  (hfr:∀d∈fr,ZOO b d) (hs:∀o∈hp,SafeN 5 b o) (h:∀v',ZTJ b v'->WL Tryz.prog ops Q rest (ZC fr dst (dX v')) (Zk v' 5 RY (bs++Lib.itoa (u:Int))::ZEQ b S::hp)) :
  WL Tryz.prog ops Q (⟨dst,.call { callee:=.value (.func 114),args:=#[x,y,.const (.int .i64 10)],argTypes:=ats },ty,ps,af,none⟩::rest) fr (Zk v 5 RY bs::ZEQ b S::hp):=by
 refine WL.of fun P0 B w0 w a hh hf=>?_;have e1:a.eval x=_:=hx.ev hf;have e2:a.eval y=_:=hy.ev hf;refine wpList_plain rfl fun K hK=>?_;unfold Oper.wp;have hrun:(execOp a.eval ⟨dst,.call { callee:=.value (.func 114),args:=#[x,y,.const (.int .i64 10)],argTypes:=ats },ty,ps,af,none⟩).run Tryz.prog w = .ok (.enter 114 #[v,.int .i64 (u:Int),.int .i64 10]) w:=by
  unfold execOp;have ef:a.eval (.func 114) = .func (.func 114) #[] #[]:=rfl;have ec:a.eval (.const (.int .i64 10)) = .int .i64 10:=rfl;simp only[resolve];simp[ef,e1,e2,ec,Deferred.ofValue,invoke,Tryz.call114]
 rw[hrun];have hBh:=hh.le;obtain⟨q1,q2⟩:=hh.ok (ZEQ b S) (by simp);have hb1:b≤max b B:=Nat.le_max_left _ _;have hb2:B≤max b B:=Nat.le_max_right _ _;have hM:max b B≤w.heap.size:=Nat.max_le.2 ⟨q1,hBh⟩;have hown:=ZPs (B':=max b B) (ZPr (hh.ok (Zk v 5 RY bs) (by simp))) fun g hg=>Nat.max_le.2 ⟨hlow g hg,(hh.own (Zk v 5 RY bs) (by simp) g hg).1⟩;refine(ZM8 (max b B) bs.length u hu v (Lib.byteCells bs) w hown hM hlen (q2.imp (fun l=>ZCO l fun k hk=>Nat.lt_of_lt_of_le hk.2 hb1) hS)).mono fun r w' hr=>?_;obtain⟨v',rfl,hown',hbl,hoth⟩:=hr;rw[<- Lib.byteCells_append,<- List.length_append] at hown';have hkind:=fun g hg=>ZPt (g:=g) hown' hg;have hlow':ZTJ b v':=fun g hg=>Nat.le_trans hb1 (hkind g hg).1;have hsame:∀k,k<b->k<w.heap.size->w'.heap[k]?=w.heap[k]?:=fun k h1 _=>hbl.block k (Nat.lt_of_lt_of_le h1 hb1);have htr:∀k,Imm P0 B (Zk v 5 RY bs::ZEQ b S::hp) k->k<b->Imm P0 B (Zk v' 5 RY (bs++Lib.itoa (u:Int))::ZEQ b S::hp) k:=fun k hk hkb=>⟨hk.1,fun o ho hok=>by
  rcases List.mem_cons.1 ho with rfl|ho
  ·have:=hlow' k hok;omega
  ·exact hk.2 o (List.mem_cons_of_mem _ ho) hok⟩
 have hkept:∀o∈hp,o.ok (Imm P0 B (Zk v' 5 RY (bs++Lib.itoa (u:Int))::ZEQ b S::hp)) w':=fun o ho=>(hs o ho).kept _ _ _ _ (hh.ok o (List.mem_cons_of_mem _ (List.mem_cons_of_mem _ ho))) hsame hoth htr;have hap:=List.pairwise_cons.1 hh.apart;refine hK _ _ ((h v' hlow').on ⟨hh.base,hh.below.trans (hbl.mono hb2),fun o ho k hk=>?_,fun o ho=>?_,List.pairwise_cons.2 ⟨fun o ho k hk hok=>?_,hap.2⟩⟩
  (Fr.put ⟨hf.defers,hf.size,fun t d hd=>hfr d (List.mem_of_getElem? hd) _ _ _ _ _ (hf.rd t d hd) hsame htr⟩ (d:=dX v') rfl))
 ·rcases List.mem_cons.1 ho with rfl|ho
  ·exact⟨Nat.le_trans hb2 (hkind k hk).1,(hkind k hk).2.1⟩
  ·have:=hh.own o (List.mem_cons_of_mem _ ho) k hk;exact⟨this.1,Nat.lt_of_lt_of_le this.2 hbl.size⟩
 ·rcases List.mem_cons.1 ho with rfl|ho
  ·exact ZOt hown'
  ·rcases List.mem_cons.1 ho with rfl|ho
   ·exact⟨Nat.le_trans q1 hbl.size,q2.imp (fun l=>ZCO (ZDt l fun k hk hl=>hsame k hk.2 hl) fun k hk=>⟨htr k hk.1 hk.2,hk.2⟩) fun z=>z⟩
   ·exact hkept o ho
 ·rcases List.mem_cons.1 ho with rfl|ho
  ·cases hok
  ·obtain⟨cs,T',fz,h1,h2⟩:=(hs o ho).kind _ _ _ (hkept o ho) hok;obtain⟨_,_,c,fz',h3⟩:=hkind k hk;rw[h1] at h3;cases h3;exact h2 rfl
end
end
section
open Go.RowKit
section
variable {P:Program} {ops:Array Oper} {hp:List HObj} {fr:List Dat} {Q:Z5} {rest:List Oper}
variable {dst:Option Tmp} {ty:TypeId} {ps:String} {af:Array Edge} {g:Option (Nat × Bool)} {b:Nat} {S:Prop} {bs:List UInt8} {v:Value} {t e t2:TypeId} {bytes:Nat} {z:Value} {ag:Bool}
theorem ZUR {c:UInt8}:(dS RY c).Shape 1 false:=fun _ _ u h=>by
 cases (h:u=_);exact⟨[_],rfl,by decide,fun c hc=>by rw[List.mem_singleton.1 hc];rfl,rfl,rfl⟩
theorem ZL7 {s:Operand} {k:Tmp} {m:Nat} {dst2:Option Tmp} {ty2:TypeId} {ps2:String} {af2:Array Edge} (E:ElT P t e 1 z bytes ag) (c:UInt8) (hc:m=c.toNat) (hs:OpD fr s (dX v)) (hne:s ≠ .tmp k) (hkl:k<fr.length) (hby:0<bytes) (hlow:ZTJ b v)
  (hlen:(bs.length+1)*bytes≤140737488355328) (h:∀v',ZTJ b v'->WL P ops Q rest (ZC (fr.set k dA) dst2 (dX v')) (Zk v' e RY (bs++[c])::ZEQ b S::hp)) :
  WL P ops Q (⟨some k,.buildSlice t 1 #[(0,.const (.int .u8 (m:Int)))],ty,ps,af,none⟩::⟨dst2,.call { callee:=.builtin .append,args:=#[s,.tmp k],argTypes:=#[t,t] },ty2,ps2,af2,none⟩::rest) fr (Zk v e RY bs::ZEQ b S::hp):=by
 refine WL.of fun P0 B w0 w a hh hf=>?_;subst hc;have hxr:RY (Imm P0 B (Zk v e RY bs::ZEQ b S::hp)) w (a.eval (.const (.int .u8 (c.toNat:Int)))) c:=rfl;obtain⟨cs,k1,k0,k2,k3,k4⟩:=ZUR (c:=c) (Imm P0 B (Zk v e RY bs::ZEQ b S::hp)) w _ hxr;simp only[Bool.false_eq_true,if_false] at k4;subst k4;have hb:=ZBT (w:=w) E (us:=[a.eval (.const (.int .u8 (c.toNat:Int)))]) (css:=[[a.eval (.const (.int .u8 (c.toNat:Int)))]]) rfl (fun i u cs' hu hcs=>by
  cases i with
  | zero=>cases hu;cases hcs;exact⟨k3,k1⟩
  | succ i=>simp at hu) (by simp)
 refine Zr rfl (v:=.slice (some ⟨w.heap.size,0,none⟩) 1 1) (w':=w.alloc (.cells [[a.eval (.const (.int .u8 (c.toNat:Int)))]].flatten.toArray e)) ?_ ?_
 ·unfold execOp;simp only[List.map_toArray,List.map_cons,List.map_nil,Sem.run_bind];have:(Instr.buildSlice t 1 #[(0,a.eval (.const (.int .u8 (c.toNat:Int))))]).run P w = .ok (.slice (some ⟨w.heap.size,0,none⟩) 1 1) (w.alloc (.cells [[a.eval (.const (.int .u8 (c.toNat:Int)))]].flatten.toArray e)):=hb;simp only[this,Result.andThen_ok,Sem.run_pure]
 have hxe:=Ext.of_alloc w (.cells [[a.eval (.const (.int .u8 (c.toNat:Int)))]].flatten.toArray e);have hh1:=hh.ext hxe;have q1:=(hh.ok (ZEQ b S) (by simp)).1;have hf1:Fr (Imm P0 B (Zk v e RY bs::ZEQ b S::hp)) (w.alloc (.cells [[a.eval (.const (.int .u8 (c.toNat:Int)))]].flatten.toArray e)) (a.put (some k) (.slice (some ⟨w.heap.size,0,none⟩) 1 1)) (fr.set k dA):=Fr.put (x:=some k) (hf.ext hxe) (d:=dA) trivial;have hm:bs.length+[c].length≤maxLen:=by
  have:(bs.length+1)*1≤(bs.length+1)*bytes:=Nat.mul_le_mul_left _ hby;simp only[maxLen,List.length_cons,List.length_nil];omega
 obtain⟨v',w',hr,r1,r2,r3⟩:=ZC3 (ty:=ty2) (R:=RY) E hh1 (ad:=⟨w.heap.size,0,none⟩) (c:=1) (ys:=[c]) (news:=[a.eval (.const (.int .u8 (c.toNat:Int)))]) rfl (fun j u hu=>by
   rw[Addr.add_lit,cell_of_row _ _ _ _ _ _ (Zz w _),Nat.zero_add];simpa using hu) k2 (fun j h1 h2=>by
   have hj:j=0:=by simp at h1;omega
   subst hj;rfl) (by simpa using hlen) hm
 have hlow':ZTJ b v':=fun g hg=>by
  rcases r3 with r3|r3
  ·exact hlow g (r3 ▸ hg)
  ·have:=r3 g hg;exact Nat.le_trans q1 (Nat.le_trans hxe.size this)
 refine ZA0 (v:=v) (yv:=.slice (some ⟨w.heap.size,0,none⟩) 1 1) ?_ (ZCA (by rw[hf.size];exact hkl)) hr ?_
 ·rw[ZDV hne];exact hs.ev hf
 ·exact(h v' hlow').on r1 (Fr.put (x:=dst2) (hf1.mono fun d _ hd=>Ze (o:=Zk v e RY bs) (o':=Zk v' e RY (bs++[c])) r2 r3 hd) (d:=dX v') rfl)
theorem ZTT {x:Operand} (hs:P.underlying t=some (.slice e)) (he:P.underlying e=some (.int .u8)) (hd:P.underlying t2=some .string) (hx:OpD fr x (dX v)) (hm:Zk v e RY bs∈hp) (hne:0<bs.length) :
  SY P ops hp ⟨dst,.convert t t2 x,ty,ps,af,g⟩ fr (dX (.string ⟨bs.toArray⟩)):=ZAG fun {P0 B w0 w a} hh ho=>by
 have h1:a.eval x=v:=hx.get (by simp[Op.operands]) ho;obtain⟨b,cap,us,hv,_⟩:=ZFh (hh.ok _ hm) hne;refine⟨.string ⟨bs.toArray⟩,w,?_,Ext.refl _,rfl⟩;unfold execOp;have hr:=run_convert_bytes_back w t t2 e ⟨b,0,none⟩ cap bs hs he hd fun j hj=>by
  obtain⟨b',cap',us',hv',hl',hu',o1,o2,o3⟩:=ZFh (hh.ok _ hm) hj;rw[hv] at hv';cases hv';rw[Addr.add_lit,Nat.zero_add,o3,show us'[j]=_ from o2]
 simp only[h1,hv,Sem.run_bind,hr,Result.andThen_ok,Sem.run_pure]
end
end
section
open Go.RowKit
theorem elY:ElT Tryz.prog 65 5 1 (.int .u8 0) 1 false:=⟨Tryz.underlying65,by kernel_rfl,Tryz.isAgg5,rfl⟩
theorem ZVI {S:Prop} {x:Int × Int}:(dS (RLS S RV) x).le (ZEP [dI x.1,dI x.2]):=fun _ _ _ h=>le_RV _ _ _ h.1
theorem ZVQ {α:Type} {a b c:α} {l:List α}:(a::b::c::l).Perm (b::c::a::l):=(List.Perm.swap _ _ _).trans (List.Perm.cons _ (List.Perm.swap _ _ _))
theorem ZUW {s:List Vx} (h:s≠[]):0<(txS s).length:=by
 cases s with
 | nil=>exact absurd rfl h
 | cons v s =>
  show 0<(txV v++txS s).length;unfold txV;simp only[List.length_append,List.length_cons,List.length_nil];omega
theorem ZVR {α:Type} {a b c:α} {l:List α}:(b::c::a::l).Perm (a::b::c::l):=ZVQ.symm

theorem ZTv {S:Prop} (s:List Vx) (hne:s≠[]) (hs:s.length≤1000) (hv:∀v∈s,okL v) (hS:S->∀v∈s,v.1<100/\v.2<100):Fn Tryz.prog 69 [dS (ZCx S) s] (dX (.string ⟨(txS s).toArray⟩)):=by
 (refine ZE Tryz.func69 rfl rfl ?_;simp only[Tryz.ntmps69,List.length_cons,List.length_nil,Nat.reduceAdd,Nat.reduceSub,List.replicate_succ,List.replicate_zero,List.cons_append,List.nil_append])
 refine WC.base (S:=S) 0 hne rfl fun b=>?_;simp only[List.map_cons,List.map_nil];refine Zq 5 RY ?_;(repeat' (first|(apply WL.opN;exact yF;dsimp only[ZC,z0,z1])|refine WL.nil ?_|refine ZA fun Kx hK=>?_|(refine hK _ _ ?_;clear hK)|refine WC.region ?_|(apply WL.opN;(focus ((first|(apply SY.len;exact OpD.tle rfl ZPG;exact ZDw;exact elV.unt)|fail);all_goals infer_instance));dsimp only[ZC,z0,z1])|refine WC.block ?_))
 all_goals try (exfalso;first|contradiction|omega)
 (refine WC.loopU (X:=Nat × Value) (fun x=>[(8,dI (x.1:Int)),(3,dX x.2),(5,dA),(9,dA),(10,dA),(11,dA),(12,dA),(13,dA),(14,dA),(15,dA),(16,dA),(17,dA),(18,dA),(19,dA),(20,dA),(21,dA),(22,dA),(23,dA),(24,dA),(25,dA),(26,dA)]) (fun x=>([Zk x.2 5 RY (txS (s.take x.1)),ZEQ b S])) (fun x=>s.length-x.1) (fun x=>x.1≤s.length/\ZTJ b x.2) (0,.slice none 0 0) ?start ?frame0 ?objs0 ?round)
 case start=>exact⟨Nat.zero_le _,fun g hg=>by cases hg⟩
 case frame0=>exact zFr
 case objs0=>rfl
 case round =>
  rintro⟨k,v⟩ ⟨h1,hlow⟩;simp only at h1 hlow;dsimp only[ZL,z0,z1];by_cases hk:k<s.length
  ·have hkI:(k:Int)<(s.length:Int):=by omega
   have hvk:=hv s[k] (List.getElem_mem hk);have hSk:=fun q=>hS q s[k] (List.getElem_mem hk);have hsn:=ZSV hk;have hlt:=ZJL (s:=s.take k) fun v h=>hv v (List.mem_of_mem_take h);have htl:(s.take k).length≤1000:=by rw[List.length_take];omega
   have hl0:=ZE1 s[k].1 hvk.1;have hl1:=ZE1 s[k].2 hvk.2;obtain⟨c,hc⟩:=Int.eq_ofNat_of_zero_le hvk.1.1;obtain⟨l,hl⟩:=Int.eq_ofNat_of_zero_le hvk.2.1;unfold txV at hsn;have hc2:c≤1048576:=by have:=hvk.1.2;omega
   have hl2:l≤1048576:=by have:=hvk.2.2;omega
   have hSc:S->c<100:=fun q=>by have:=(hSk q).1;omega
   have hSl:S->l<100:=fun q=>by have:=(hSk q).2;omega
   (repeat' (first|(apply WL.opN;exact yF;dsimp only[ZC,z0,z1])|refine WL.nil ?_|refine ZA fun Kx hK=>?_|(refine hK _ _ ?_;clear hK)|refine WC.region ?_ |  (refine ZCz (dst:=some 5) (zs:=[.int .i64 0,.int .i64 0]) tzVx (by decide) (by simp[Value.oneCell']) fun b5=>?_;dsimp only[ZC,z0,z1,List.map_cons,List.map_nil]) |  (refine ZBr tyV (OpD.t rfl) (OpD.tle rfl ZVI) rfl rfl ?_;dsimp only[ZC,z0,z1])|(apply WL.opN;(focus ((first|(apply Zn (R:=RLS S RV) (k:=k) elV (OpD.tle rfl ZPG) (OpD.t rfl) hk)|(refine ZAo ZVY (OpD.t rfl) (by decide))|(refine ZAZ tyI (OpD.t rfl) (.head _) rfl)|((first|apply SY.move|apply SY.assign|apply SY.lss) <;> (exact oD))|fail);all_goals infer_instance));dsimp only[ZC,z0,z1])|(apply ZB;(exact oD);all_goals (intro h;try exact xD))|refine WC.skip ?_|refine WC.block ?_))
   all_goals try (exfalso;first|contradiction|omega)
   rw[hc,hl] at hsn ⊢;rw[hc] at hl0;rw[hl] at hl1;refine ZJh 10 (ZJh 11 (WL.perm ZVQ ?_));dsimp only[z0,z1];refine ZOU hc2 hSc hlow (OpD.t rfl) (OpD.t rfl) (by omega) (by(repeat (first|exact List.forall_mem_nil _|refine List.forall_mem_cons.2 ⟨(by first|exact ZFG|exact ZJE|exact safeF_I|exact safeF_B|exact ZJD),?_⟩))) (fun o ho=>by rw[List.mem_singleton.1 ho];exact ZKk (by decide) (by(repeat (first|exact List.forall_mem_nil _|refine List.forall_mem_cons.2 ⟨(by first|exact ZFG|exact ZJE|exact safeF_I|exact safeF_B|exact ZJD),?_⟩)))) fun v1 hlow1=>?_;dsimp only[ZC,z0,z1];(repeat' (first|(apply WL.opN;exact yF;dsimp only[ZC,z0,z1])|refine WL.nil ?_|refine ZA fun Kx hK=>?_|(refine hK _ _ ?_;clear hK)|refine WC.region ?_ |  (refine ZL7 (m:=47) elY 47 rfl (OpD.t rfl) (by simp) (by simp) (by decide) hlow1 ?_ fun v2 hlow2=>?_;(focus (simp only[List.length_append];omega));dsimp only[ZC,z0,z1])|(apply WL.opN;(focus ((first|(refine ZAo ZVY (OpD.t rfl) (by decide))|(refine ZAZ tyI (OpD.t rfl) (.tail _ (.tail _ (.head _))) rfl)|fail);all_goals infer_instance));dsimp only[ZC,z0,z1])))
   all_goals try (exfalso;first|contradiction|omega)
   refine ZOU hl2 hSl hlow2 (OpD.t rfl) (OpD.t rfl) (by simp only[List.length_append,List.length_cons,List.length_nil];omega) (by(repeat (first|exact List.forall_mem_nil _|refine List.forall_mem_cons.2 ⟨(by first|exact ZFG|exact ZJE|exact safeF_I|exact safeF_B|exact ZJD),?_⟩))) (fun o ho=>by rw[List.mem_singleton.1 ho];exact ZKk (by decide) (by(repeat (first|exact List.forall_mem_nil _|refine List.forall_mem_cons.2 ⟨(by first|exact ZFG|exact ZJE|exact safeF_I|exact safeF_B|exact ZJD),?_⟩)))) fun v3 hlow3=>?_;dsimp only[ZC,z0,z1];refine WL.perm ZVR (WL.drop ?_);((repeat' (first|(apply WL.opN;exact yF;dsimp only[ZC,z0,z1])|refine WL.nil ?_|(refine hK _ _ ?_;clear hK)|refine WC.region ?_ |  (refine ZL7 (m:=32) elY 32 rfl (OpD.t rfl) (by simp) (by simp) (by decide) hlow3 ?_ fun v4 hlow4=>?_;(focus (simp only[List.length_append,List.length_cons,List.length_nil];omega));dsimp only[ZC,z0,z1])|(apply WL.opN;(focus ((first|((first|apply SY.add) <;> first|exact oD|omega)|fail);all_goals infer_instance));dsimp only[ZC,z0,z1])|refine ThenD.n ?_));all_goals (first|((repeat clear hK);(repeat clear Kx))))
   all_goals try (exfalso;first|contradiction|omega)
   have he:txS (s.take k)++Lib.itoa (c:Int)++[47]++Lib.itoa (l:Int)++[32]=txS (s.take (k+1)):=by rw[hsn];simp only[List.append_assoc]
   rw[he];(refine zNx (k+1,_) ?_;(try dsimp only))
   exact⟨hk,hlow4⟩
  ·have hkI:¬ (k:Int)<(s.length:Int):=by omega
   obtain rfl:k=s.length:=by omega
   have hpos:=ZUW hne;rw[List.take_length];((repeat' (first|(apply WL.opN;exact yF;dsimp only[ZC,z0,z1])|refine WL.nil ?_|refine ZA fun Kx hK=>?_|(refine hK _ _ ?_;clear hK)|(refine Kont.skip ?_;clear hK)|refine WC.region ?_|(apply WL.opN;(focus ((first|(exact ZTT Tryz.underlying65 Tryz.underlying5 Tryz.underlying9 (OpD.t rfl) (.head _) hpos)|((first|apply SY.move|apply SY.assign|apply SY.lss) <;> (exact oD))|fail);all_goals infer_instance));dsimp only[ZC,z0,z1])|(apply ZB;(exact oD);all_goals (intro h;try exact xD))|refine WC.ret ?_|refine WC.exit ?_));all_goals (first|((repeat clear hK);(repeat clear Kx))))
   all_goals try (exfalso;first|contradiction|omega)
   (refine⟨trivial,_,rfl,?_⟩;exact fD)
end
section
open Go.RowKit
def ZIj (S:Prop):HObj where
 blk:=none
 ok:=fun P w=>LaidIn P w\/S
 weak:=fun h q=>h.imp_left fun l=>ZCO l q
 bound:=fun h=>h.imp_left ZEG
 move:=fun {P w w' row} h hg hP hne=>h.imp_left fun l=>ZDt l fun k hk hl=>hg.block k hl (fun e=>hP k (by first|exact e|exact e.symm) hk)
theorem ZUw {α:Type} {R R':Rel α} {P:Nat->Prop} {w:World} {v:Value} {xs:List α} (h:∀v x,R P w v x->R' P w v x) (k:Arr R P w v xs):Arr R' P w v xs:=by
 obtain⟨a,cap,hv,h1,h2,h3⟩:=k;refine⟨a,cap,hv,h1,h2,fun k hk=>?_⟩;obtain⟨u,b,off,r1,r⟩:=h3 k hk;exact⟨u,b,off,h _ _ r1,r⟩
variable {S:Prop}
theorem gain_S {l:Cx} {P:Nat->Prop} {w:World} {v:Value} (h:(dS Zh l).rd P w v) (q:LaidIn P w\/S):(dS (ZA5 S) l).rd P w v :=
 ZUw (R:=ZM) (R':=ZCx S) (fun _ _ k=>ZSw k q) (h:Arr ZM P w v l)
theorem ZSz {l:Cx} (h1:l≠[]) (h2:∀s∈l,s≠[]) {P:Nat->Prop} {w:World} {v:Value} (h:(dS (ZSi S) l).rd P w v):LaidIn P w\/S:=by
 obtain⟨u,_,_,h3⟩:=h;obtain⟨a,cap,hv,_,_,h4⟩:=h3;have hp:=List.length_pos_iff.2 h1;obtain⟨u,b,off,r1,_⟩:=h4 0 hp;exact ZMT (h2 _ (List.getElem_mem hp)) (r1:(dS (ZCx S) _).rd P w u)
section
variable {P:Program} {ops:Array Oper} {hp:List HObj} {fr:List Dat} {d d':Dat} {Q:Z5} {rest:List Oper} {c:Code}
theorem ZSk (u:Nat) (hu:fr[u]?=some d) (hd:∀P w v,d.rd P w v->LaidIn P w\/S) (h:WC P Q c fr (ZIj S::hp)):WC P Q c fr hp:=WC.of fun P0 B w0 w a hh hf=>by
 have hg:(ZIj S).blk=none:=rfl;have hq:=hd _ _ _ (hf.rd u d hu);exact h.on (ZBU (l:=[]) hg hh hq) ⟨hf.defers,hf.size,fun t d hd=>d.weak (hf.rd t d hd) fun k=>(ZAN hg [] k).2⟩
theorem ZLz {I:Nat->Prop} {w:World} {a:Act} (t:Nat) (hf:Fr I w a fr) (hq:LaidIn I w\/S) (ht:fr[t]?=some d) (hg:∀v,d.rd I w v->(LaidIn I w\/S)->d'.rd I w v):Fr I w a (fr.set t d'):=⟨hf.defers,by rw[hf.size,List.length_set],fun k e he=>by
 rw[List.getElem?_set] at he;by_cases hk:t=k
 ·subst hk;rw[if_pos rfl] at he;split at he
  ·cases he;exact hg _ (hf.rd t _ ht) hq
  ·cases he
 ·rw[if_neg hk] at he;exact hf.rd k e he⟩
theorem ZRH (t:Nat) (hm:ZIj S∈hp) (ht:fr[t]?=some d) (hg:∀P w v,d.rd P w v->(LaidIn P w\/S)->d'.rd P w v) (h:WL P ops Q rest (fr.set t d') hp):WL P ops Q rest fr hp:=WL.of fun _ _ _ _ _ hh hf=>h.on hh (ZLz t hf (hh.ok _ hm) ht fun v=>hg _ _ v)
theorem ZDQ (t:Nat) (hm:ZIj S∈hp) (ht:fr[t]?=some d) (hg:∀P w v,d.rd P w v->(LaidIn P w\/S)->d'.rd P w v) (h:WC P Q c (fr.set t d') hp):WC P Q c fr hp:=WC.of fun _ _ _ _ _ hh hf=>h.on hh (ZLz t hf (hh.ok _ hm) ht fun v=>hg _ _ v)
end
section
variable {P:Program} {ops:Array Oper} {hp:List HObj} {fr:List Dat} {d:Dat} {n:Nat} {agg:Bool}
variable {dst:Option Tmp} {ty:TypeId} {ps:String} {af:Array Edge} {g:Option (Nat × Bool)}
theorem ZA4 {x:Operand} (hx:OpD fr x (dP n agg d)):SY P ops hp ⟨dst,.nilCheck x,ty,ps,af,g⟩ fr (dP n agg d):=SY.val fun {I w a} ho=>by
 have h0:(dP n agg d).rd I w (a.eval x):=hx.get (by simp[Op.operands]) ho;obtain⟨b,off,v,h1,h2⟩:=h0;refine⟨a.eval x,?_,⟨b,off,v,h1,h2⟩⟩;unfold execOp;simp only[h1,Sem.run_pure]
end
theorem ZOQ {P:Program} {hp:List HObj} {fr:List Dat} {Q:Z5} {c:Code} {b t:Nat} {M:ZUc} (ht:fr[t]?=some (dX (.map (some b)))) (h:WC P Q c (fr.set t (dS (ZF4 kvS RI) M)) hp):WC P Q c fr (hM b kvS vvI M::hp):=WC.of fun P0 B w0 w a hh hf=>by
 have hb:w.heap[b]?=some (ZAc _):=hh.ok (hM b kvS vvI M) (by simp);have hown:=hh.own (hM b kvS vvI M) (by simp) b rfl;refine h.on hh.drop ⟨hf.defers,by rw[hf.size,List.length_set],fun t' d' hd'=>?_⟩;by_cases htt:t=t'
 ·subst htt;rw[List.getElem?_set] at hd';simp only[if_true] at hd';split at hd'
  ·cases hd';have hv:a.tmps.getD t undef = .map (some b):=hf.rd t _ ht;rw[hv];refine⟨b,M.map fun p=>vvI p.2,rfl,⟨.inr hown.1,fun o' ho' hk=>(List.pairwise_cons.1 hh.apart).1 o' ho' b rfl hk⟩,by simp,?_,fun k h1 h2=>?_⟩
   ·rw[hb];congr 2;unfold ZAV;rw[List.zip_map',List.map_map];rfl
   ·simp only[List.getElem_map];exact rfl
  ·cases hd'
 ·rw[List.getElem?_set_ne htt] at hd';exact d'.weak (hf.rd t' d' hd') Imm.sub
theorem ZPl {s:List Vx} (hs:ZAC s=0):∀v∈s,okL v:=fun v hv=>by
 have:=(Zi.1 hs).2.2.1 v hv;unfold ZDL at this;simp only[Bool.and_eq_true,decide_eq_true_eq] at this;unfold okL;omega
theorem ZNn {K α:Type} {kv:K->Value} {R:Rel α} [Good R] {m:List (K × α)}:(dS (ZF4 kv R) m).Shape 1 false:=fun _ _ _ h=>by
 obtain⟨b,us,rfl,_⟩:=h;exact⟨[.map (some b)],rfl,by decide,fun c hc=>by rw[List.mem_singleton.1 hc];rfl,rfl,rfl⟩
theorem ZAH {s:List Vx} (h:ZAC s=0):okS (txS s):=by
 have h1:=ZJL (ZPl h);have h2:=(Zi.1 h).2.1;unfold okS;omega
theorem ZF0 {S:Prop} {s:List Vx} (h:ZAC s=0) (hS:S->∀v∈s,v.1<100/\v.2<100):Fn Tryz.prog 69 [dS (ZCx S) s] (dX (kvS (txS s))):=by
 have h1:=(Zi.1 h).1;have h2:=(Zi.1 h).2.1;exact ZTv s (fun e=>h1 (by rw[e];rfl)) (by omega) (ZPl h) hS
end
section
open Go.RowKit
def ZNF (md:Region.Mode) (ops:Array Oper):Nat->Nat->Nat->Bool
 | 0,_,_=>false
 | d+1,j,k=>match ops[j]? with
  | none=>false
  | some o=>o.after.any fun e=>Region.binds md e && (decide (e.on=k) || ZNF md ops d e.on k)
section
variable {P:Program} {ops:Array Oper} {md:Region.Mode} {fr fr':List Dat} {hp:List HObj} {C:List HObj->Prop} {A:List Nat} {ws:List Nat}
theorem ZJ1 {n:Nat} {listed:Array Bool} (inv:HeadInv md ops n listed):∀(d j k:Nat),listed.getD j false=true->ZNF md ops d j k=true->listed.getD k false=true:=by
 intro d;induction d with
 | zero=>intro j k _ h;cases h
 | succ d ih =>
  intro j k hl h;unfold ZNF at h;cases ho:ops[j]? with
  | none=>rw[ho] at h;cases h
  | some o =>
   rw[ho] at h;simp only[Array.any_eq_true'] at h;obtain⟨e,he,h2⟩:=h;simp only[Bool.and_eq_true,Bool.or_eq_true,decide_eq_true_eq] at h2;have h3:=inv.closed j o ho hl e he h2.1;rcases h2.2 with h4|h4
   ·rw[<- h4];exact h3
   ·exact ih _ _ h3 h4
theorem ZGv {n:Nat} {listed:Array Bool} (inv:HeadInv md ops n listed) {d j k:Nat} (hr:j∈Region.ready md ops listed) (h:ZNF md ops d j k=true):listed.getD k false=true:=by
 obtain⟨_,o,ho,hall⟩:=mem_ready.1 hr;cases d with
 | zero=>cases h
 | succ d =>
  unfold ZNF at h;rw[ho] at h;simp only[Array.any_eq_true'] at h;obtain⟨e,he,h2⟩:=h;simp only[Bool.and_eq_true,Bool.or_eq_true,decide_eq_true_eq] at h2;have h3:=hall e he h2.1;rcases h2.2 with h4|h4
  ·rw[<- h4];exact h3
  ·exact ZJ1 inv _ _ _ h3 h4
def ZSe (md:Region.Mode) (ops:Array Oper) (A ws:List Nat):Bool:=ws.all fun j=>A.all fun k=>ZNF md ops 6 j k
end
end
end Go.Proofs.YtofkoleingbbpaaGreatDoor
