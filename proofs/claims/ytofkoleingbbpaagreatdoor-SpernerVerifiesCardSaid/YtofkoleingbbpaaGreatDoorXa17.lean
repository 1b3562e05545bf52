/- Part 17: walks by contracts, and plain laws. -/
import Derived.Test.YtofkoleingbbpaaGreatDoorXa16
set_option linter.unusedVariables false
set_option linter.unusedSimpArgs false
set_option linter.unusedSectionVars false
set_option maxRecDepth 100000
set_option maxHeartbeats 64000000
namespace Go.Proofs.YtofkoleingbbpaaGreatDoor
section
abbrev CntM:=List (List Vx × Int)
def ZHc (l:Cx) (d:Nat):Cx:=(l.map (ZX d)).flatten
theorem ZGL {l:Cx} {d:Nat} {f:List Vx}:f∈ZHc l d↔f∈ZAl l d:=by
 unfold ZHc;rw[List.mem_flatten,ZB8];constructor
 ·rintro⟨x,hx,hf⟩;obtain⟨s,hs,rfl⟩:=List.mem_map.1 hx;exact⟨s,hs,hf⟩
 ·rintro⟨s,hs,hf⟩;exact⟨_,List.mem_map_of_mem hs,hf⟩
theorem ZIC {s:List Vx} (h:Asc s) (d:Nat):(ZX d s).Nodup:=List.Pairwise.imp (fun {a b} hab hc=>by
 subst hc;rw[ZGI] at hab;omega) (ZD2 d s h)
end
end Go.Proofs.YtofkoleingbbpaaGreatDoor
namespace Go.Proofs
section
open Go.Shelf
def Tryz.sortS_ren:Go.Shelf.Ren:=⟨fun|6=>154|15=>161|14=>162|28=>177|29=>178|20=>179|21=>180|22=>181|23=>182|24=>183|25=>184|26=>185|27=>186|46=>196|47=>192|48=>193|49=>197|50=>198|57=>202|n=>n,fun|22=>27|24=>22|25=>127|3=>3|39=>177|0=>0|53=>228|55=>207|4=>4|46=>222|45=>221|50=>132|5=>5|9=>9|66=>238|70=>242|76=>246|77=>156|n=>n,fun|n=>n⟩
theorem Tryz.sortS:Go.Proofs.SlLaysF.n6 Tryz.prog Tryz.sortS_ren:={
 mixed:=by kernel_rfl
 f6:=⟨Tryz.f154.name,by decide,Tryz.func154.trans (congrArg some (by kernel_rfl))⟩
 f14:=⟨Tryz.f162.name,by decide,Tryz.func162.trans (congrArg some (by kernel_rfl))⟩
 f15:=Tryz.func161.trans (congrArg some (by kernel_rfl))
 f20:=⟨Tryz.f179.name,by decide,Tryz.func179.trans (congrArg some (by kernel_rfl))⟩
 f21:=⟨Tryz.f180.name,by decide,Tryz.func180.trans (congrArg some (by kernel_rfl))⟩
 f22:=⟨Tryz.f181.name,by decide,Tryz.func181.trans (congrArg some (by kernel_rfl))⟩
 f23:=⟨Tryz.f182.name,by decide,Tryz.func182.trans (congrArg some (by kernel_rfl))⟩
 f24:=⟨Tryz.f183.name,by decide,Tryz.func183.trans (congrArg some (by kernel_rfl))⟩
 f25:=⟨Tryz.f184.name,by decide,Tryz.func184.trans (congrArg some (by kernel_rfl))⟩
 f26:=⟨Tryz.f185.name,by decide,Tryz.func185.trans (congrArg some (by kernel_rfl))⟩
 f27:=⟨Tryz.f186.name,by decide,Tryz.func186.trans (congrArg some (by kernel_rfl))⟩
 f28:=Tryz.func177.trans (congrArg some (by kernel_rfl))
 f29:=Tryz.func178.trans (congrArg some (by kernel_rfl))
 f46:=⟨Tryz.f196.name,by decide,Tryz.func196.trans (congrArg some (by kernel_rfl))⟩
 f47:=Tryz.func192.trans (congrArg some (by kernel_rfl))
 f48:=Tryz.func193.trans (congrArg some (by kernel_rfl))
 f49:=⟨Tryz.f197.name,by decide,Tryz.func197.trans (congrArg some (by kernel_rfl))⟩
 f50:=⟨Tryz.f198.name,by decide,Tryz.func198.trans (congrArg some (by kernel_rfl))⟩
 f57:=⟨Tryz.f202.name,by decide,Tryz.func202.trans (congrArg some (by kernel_rfl))⟩
 t0:=Tryz.underlying0
 a0:=Tryz.isAgg0
 z0:=Tryz.sizeOf0
 v0:=Tryz.zeroValue0
 t3:=Tryz.underlying3
 a3:=Tryz.isAgg3
 z3:=Tryz.sizeOf3
 v3:=Tryz.zeroValue3
 t4:=Tryz.underlying4
 a4:=Tryz.isAgg4
 z4:=Tryz.sizeOf4
 v4:=Tryz.zeroValue4
 t5:=Tryz.underlying5
 a5:=Tryz.isAgg5
 z5:=Tryz.sizeOf5
 v5:=Tryz.zeroValue5
 t9:=Tryz.underlying9
 a9:=Tryz.isAgg9
 z9:=Tryz.sizeOf9
 v9:=Tryz.zeroValue9
 t22:=Tryz.underlying27
 a22:=Tryz.isAgg27
 z22:=Tryz.sizeOf27
 v22:=Tryz.zeroValue27
 a24:=Tryz.isAgg22
 z24:=Tryz.sizeOf22
 t25:=Tryz.underlying127
 a25:=Tryz.isAgg127
 z25:=Tryz.sizeOf127
 v25:=Tryz.zeroValue127
 t39:=Tryz.underlying177
 a39:=Tryz.isAgg177
 z39:=Tryz.sizeOf177
 v39:=Tryz.zeroValue177
 t45:=Tryz.underlying221
 a45:=Tryz.isAgg221
 z45:=Tryz.sizeOf221
 v45:=Tryz.zeroValue221
 t46:=Tryz.underlying222
 a46:=Tryz.isAgg222
 z46:=Tryz.sizeOf222
 v46:=Tryz.zeroValue222
 t50:=Tryz.underlying132
 a50:=Tryz.isAgg132
 z50:=Tryz.sizeOf132
 v50:=Tryz.zeroValue132
 t53:=Tryz.underlying228
 a53:=Tryz.isAgg228
 z53:=Tryz.sizeOf228
 v53:=Tryz.zeroValue228
 t55:=Tryz.underlying207
 a55:=Tryz.isAgg207
 z55:=Tryz.sizeOf207
 v55:=Tryz.zeroValue207
 t66:=Tryz.underlying238
 a66:=Tryz.isAgg238
 z66:=Tryz.sizeOf238
 v66:=Tryz.zeroValue238
 t70:=Tryz.underlying242
 a70:=Tryz.isAgg242
 z70:=Tryz.sizeOf242
 v70:=Tryz.zeroValue242
 t76:=Tryz.underlying246
 a76:=Tryz.isAgg246
 z76:=Tryz.sizeOf246
 v76:=Tryz.zeroValue246
 t77:=Tryz.underlying156
 a77:=Tryz.isAgg156
 z77:=Tryz.sizeOf156
 v77:=Tryz.zeroValue156 }
end
end Go.Proofs
namespace Go.Proofs.YtofkoleingbbpaaGreatDoor
section
open Go.RowKit Go.Sort Go.Shelf
section
variable {w:World} {g n cap:Nat} {os:Array Obj} {cur:Array Value} {e:TypeId} {fz:Nat × Nat} {α:Type} [Inhabited α] {enc:α->Value}
theorem ZHA (d:Array α):w.grownBy (sortWorld enc w g 0 n d os) (some g):=by
 refine⟨rfl,rfl,rfl,by simp[sortWorld],fun k hk hne=>?_⟩;unfold sortWorld;rw[heap_grow_old _ _ (by simpa using hk)];have:g≠k:=fun e=>hne (by rw[e]);simp[putRow,mapBlock,Sort.ahead,Array.getElem?_modify,this]
theorem ZKI (d:Array α) (hb:w.heap[g]?=some (.cells cur e fz)) :
  (sortWorld enc w g 0 n d os).heap[g]?=some (.cells (putCells enc 0 d cur) e fz):=by
 have hg:g<w.heap.size:=(Array.getElem?_eq_some_iff.1 hb).1;unfold sortWorld;rw[heap_grow_old _ _ (by simpa using hg)];simp[putRow,mapBlock,Sort.ahead,Array.getElem?_modify,hb,onCells]
theorem ZIl {d:Array α} (hb:w.heap[g]?=some (.cells cur e (0,0))) (ht:cur.toList.take d.size=d.toList.map enc):Holds enc w g 0 d:=by
 intro j hj;refine⟨?_,by simp[World.frozen?,hb]⟩;have h1:(cur.toList.take d.size)[j]?=(d.toList.map enc)[j]?:=by rw[ht]
 rw[List.getElem?_take_of_lt hj] at h1;simp only[World.cell?,hb,Nat.zero_add];simp only[Option.isSome_none,Bool.false_eq_true,if_false];rw[<- Array.getElem?_toList,h1,getElem!_pos _ j hj];simp[hj]
theorem ZHl (cur:Array Value) (d:Array α) (h:d.size≤cur.size):(putCells enc 0 d cur).toList.take d.size=d.toList.map enc:=by
 apply List.ext_getElem?;intro j;by_cases hj:j<d.size
 ·rw[List.getElem?_take_of_lt hj,Array.getElem?_toList];simp[putCells,hj,show j<cur.size by omega]
 ·rw[List.getElem?_take_eq_none (by omega),List.getElem?_eq_none (by simp;omega)]
end
theorem ZHf {a b c:List Vx} (h:ZAb a b<0) (k:ZAb b c<0):ZAb a c<0:=by
 obtain⟨h1,h2⟩:=ZEA a b c (by omega) (by omega);rcases Int.lt_or_eq_of_le h1 with h3|h3
 ·exact h3
 ·have:=h2 h3;omega
theorem swoL {α:Type} (f:α->List Vx):SWO (ltOf fun x y:α=>ZAb (f x) (f y)) where
 irrefl x:=by simp[ltOf,ZBM.2 (rfl:f x=f x)]
 trans x y z h h':=by
  simp only[ltOf,decide_eq_true_eq] at *;exact ZHf h h'
 ntrans x y z h h':=by
  simp only[ltOf,decide_eq_false_iff_not] at *;have e1:=ZD9 (f x) (f y);have e2:=ZD9 (f y) (f z);have e3:=ZD9 (f x) (f z);have:=(ZEA (f z) (f y) (f x) (by omega) (by omega)).1;omega
section
variable {ops:Array Oper} {hp:List HObj} {fr:List Dat} {Q:Z5} {rest:List Oper} {dst:Option Tmp} {ty:TypeId} {ps:String} {af:Array Edge}
theorem ZRM {x:Operand} {v:Value} {e:TypeId} {xs:List (List Vx)} {ats:Array TypeId} (hx:OpD fr x (dX v)) (hlen:xs.length<4611686018427387904)
  (h:∀ys:List (List Vx),ys.Perm xs->ys.Pairwise (fun a b=>¬ ZAb b a<0)->WL Tryz.prog ops Q rest (ZC fr dst dA) (Zk v e ZM ys::hp)) :
  WL Tryz.prog ops Q (⟨dst,.call { callee:=.value (.func 154),args:=#[x,.func 80],argTypes:=ats },ty,ps,af,none⟩::rest) fr (Zk v e ZM xs::hp):=by
 refine WL.of fun P0 B w0 w a hh hf=>?_;have hok:=hh.ok (Zk v e ZM xs) (by simp);obtain⟨us,h1,h2,h3⟩:=hok;have hev:a.eval x=v:=hx.ev hf;obtain⟨hfl,hv⟩:=h2;have hrun:(execOp a.eval ⟨dst,.call { callee:=.value (.func 154),args:=#[x,.func 80],argTypes:=ats },ty,ps,af,none⟩).run Tryz.prog w = .ok (.enter 154 #[v,.func (.func 80) #[] #[]]) w:=by
  unfold execOp;simp only[resolve];have he:(#[x,Operand.func 80]:Array Operand).map a.eval=#[v,.func (.func 80) #[] #[]]:=by simp[hev];rfl
  rw[he];simp[Act.eval,Deferred.ofValue,invoke,Tryz.call154]
 by_cases hne:xs=[]
 ·subst hne;have hv0:∃p cap,v = .slice p 0 cap:=by
   rcases hv with ⟨hv,_⟩|⟨g,cap,cur,hv,_⟩
   ·exact⟨_,_,hv⟩
   ·exact⟨_,_,hv⟩
  obtain⟨p,cap,hv0⟩:=hv0;have hcon:=AnyF.slices_SortFunc_none (P:=Tryz.prog) (ρ:=Tryz.sortS_ren) { Tryz.sortS with } p cap (.func (.func 80) #[] #[]) w;change Calls Tryz.prog 154 _ _ _ at hcon;refine wpList_plain rfl fun K hK=>?_;unfold Oper.wp;rw[hrun,hv0];refine hcon.mono fun e' w' ⟨he,hw'⟩=>?_;subst he;subst hw';exact hK _ _ ((h [] (List.Perm.refl _) List.Pairwise.nil).on hh (hf.put (d:=dA) trivial))
 have hpos:0<xs.length:=List.length_pos_iff.2 hne;rcases hv with ⟨_,hz⟩|⟨g,cap,cur,hv,hB,hg,hc1,hc2,hc3,hc4⟩
 ·omega
 have hgb:g<w.heap.size:=(Array.getElem?_eq_some_iff.1 hg).1
 let J:Nat->Prop:=fun b=>Imm P0 B (Zk v e ZM xs::hp) b/\v.ownBlock≠some b
 let α:={p:Value × List Vx // p.1.oneCell'=true/\ZM J w p.1 p.2}
 let at0:Fin xs.length->α:=fun k=>⟨(us[k.1]'(by omega),xs[k.1]),h3 k.1 (by omega) k.2⟩
 haveI:Inhabited α:=⟨at0 ⟨0,hpos⟩⟩
 let enc:α->Value:=fun p=>p.1.1
 let d:Array α:=(List.ofFn at0).toArray
 have hds:d.size=xs.length:=by simp[d]
 have hdu:d.toList.map enc=us:=by
  apply List.ext_getElem (by simp[d,h1]);intro k a b;simp[d,enc,at0]
 have hdx:d.toList.map (fun p=>p.1.2)=xs:=by
  apply List.ext_getElem (by simp[d]);intro k a b;simp[d,at0]
 have hown:v.ownBlock=some g:=by rw[hv];rfl
 have hH:Holds enc w g 0 d:=ZIl hg (by rw[hds,hdu];simpa using hc4);have hgr:∀(d':Array α) (n:Nat) (os:Array Obj),w.grownBy (sortWorld enc w g 0 n d' os) (Zk v e ZM xs).blk:=fun d' n os=>by
  show w.grownBy _ v.ownBlock;rw[hown];exact ZHA d'
 have hmove:∀(p:α) (d':Array α) (n:Nat) (os:Array Obj),ZM (fun b=>J b/\b<w.heap.size) (sortWorld enc w g 0 n d' os) p.1.1 p.1.2:=fun p d' n os =>
  Good.move (Good.bound p.2.2) fun k hk hlt=>(hgr d' n os).block k hlt fun he=>hk.1.2 he.symm
 have hcon:=Any.slices_SortFunc Tryz.sortS enc (fun p=>p.2.1) (fun p q=>ZAb p.1.2 q.1.2) (swoL fun p:α=>p.1.2) 80 #[] g 0 cap d w Tryz.call80
  (fun m os dk _ p q=>M.ZUz (hmove p dk m os) (hmove q dk m os)) hH hgb (by rw[hds];exact hlen)
 change Calls Tryz.prog 154 _ _ _ at hcon;refine wpList_plain rfl fun K hK=>?_;unfold Oper.wp;rw[hrun];have hva:v = .slice (some ⟨g,0,none⟩) d.size cap:=by rw[hds];exact hv
 rw[<- hva] at hcon;refine hcon.mono fun e' w' ⟨he,d',n,os,hp1,hs,hw'⟩=>?_;subst he;subst hw';obtain⟨q1,_,q3⟩:=hp1;have hperm:d'.toList.Perm d.toList:=by
  have e1:d'.extract 0 d.size=d':=by rw[<- q1];simp
  have e2:d.extract 0 d.size=d:=by simp
  rw[e1,e2] at q3;exact q3
 have hys:(d'.toList.map fun p=>p.1.2).Perm xs:=by
  have:=hperm.map (fun p:α=>p.1.2);rwa[hdx] at this
 have hsort:(d'.toList.map fun p=>p.1.2).Pairwise (fun a b=>¬ ZAb b a<0):=by
  rw[List.pairwise_map,List.pairwise_iff_getElem];intro i j hi hj hij;have hi':i<d'.size:=by simpa using hi
  have hj':j<d'.size:=by simpa using hj
  have:=hs i j (Nat.zero_le _) hij (by omega);rw[getElem!_pos d' i hi',getElem!_pos d' j hj'] at this;simpa[ltOf] using this
 have hlen':(d'.toList.map fun p=>p.1.2).length=xs.length:=by simp;omega
 have hok:(Zk v e ZM (d'.toList.map fun p=>p.1.2)).ok (fun k=>Imm P0 B (Zk v e ZM xs::hp) k/\k<w.heap.size) (sortWorld enc w g 0 n d' os):=by
  refine⟨d'.toList.map enc,by simp,⟨by simp,.inr ⟨g,cap,putCells enc 0 d' cur,?_,hB,ZKI _ hg,by omega,hc2,by simp[putCells,hc3],?_⟩⟩,fun k a b=>?_⟩
  ·rw[hlen'];exact hv
  ·rw[hlen',Nat.mul_one,<- hds,<- q1];exact ZHl _ _ (by rw[q1,hds,hc3];omega)
  ·have hk:k<d'.toList.length:=by simpa using a
   refine⟨by rw[List.getElem_map];exact d'.toList[k].2.1,?_⟩;rw[List.getElem_map,List.getElem_map];exact Good.weak (hmove d'.toList[k] d' n os) fun b hb=>⟨⟨hb.1.1,hb.2⟩,hb.1.2⟩
 exact hK _ _ ((h _ hys hsort).on (hh.write (hgr d' n os) (.inl rfl) hok) (Fr.put (hf.mono fun _ _ hd=>Ze (o':=Zk v e ZM (d'.toList.map fun p=>p.1.2)) (hgr d' n os) (.inl rfl) hd) (d:=dA) trivial))
end
end
section
open Go.RowKit
section
variable {P:Program} {ops:Array Oper} {hp:List HObj} {o:Oper} {fr:List Dat} {d:Dat} {Q:Z5} {rest:List Oper}
variable {dst:Option Tmp} {ty:TypeId} {ps:String} {af:Array Edge} {g:Option (Nat × Bool)} {e e' t T:TypeId} {bytes b cap N:Nat} {z:Value} {ag:Bool} {α:Type} {R:Rel α} {_gR:Good R} {xs:List α} {v:Value}
abbrev hQ (b N cap:Nat) (e:TypeId) (R:Rel α) [Good R] (xs:List α):HObj:=Zk (.slice (some ⟨b,0,none⟩) N cap) e R xs
end
end
section
open Go.RowKit

theorem nil_A {α:Type} {R:Rel α} [Good R] {xs:List α} {I:Nat->Prop} {w:World} {v:Value} (h:(dS (Arr R) xs).rd I w v):∃a m c,v = .slice a m c/\(a=none->m=0):=by
 obtain⟨ad,cap,rfl,h1,h2,h3⟩:=(h:Arr R I w v xs);refine⟨_,_,_,rfl,fun hn=>?_⟩;rcases Nat.eq_zero_or_pos xs.length with hz|hz
 ·exact hz
 ·obtain⟨us,b,off,_,_,had,_,_⟩:=h3 0 hz;rw[hn] at had;cases had
end
section
open Go.RowKit

abbrev hM {K V:Type} (b:Nat) (kv:K->Value) (vv:V->Value) (m:List (K × V)):HObj:=ZA2 b (ZAc (ZAV kv vv m))
structure IsV (d:Dat) (v:Value):Prop where
 is:∀(I:Nat->Prop) (w:World) (u:Value),d.rd I w u->u=v
theorem isX {v:Value}:IsV (dX v) v:=⟨fun _ _ _ h=>h⟩
theorem isI {n:Int}:IsV (dI n) (.int .i64 n):=⟨fun _ _ _ h=>h⟩
theorem isB {b:Bool}:IsV (dB b) (.bool b):=⟨fun _ _ _ h=>h⟩
section
variable {P:Program} {ops:Array Oper} {hp:List HObj} {o:Oper} {fr:List Dat} {d d2:Dat} {Q:Z5} {rest:List Oper}
variable {dst:Option Tmp} {ty:TypeId} {ps:String} {af:Array Edge} {g:Option (Nat × Bool)} {t k e:TypeId} {z:Value} {K V:Type} {kv:K->Value} {ok:K->Prop} {vv:V->Value} {b:Nat} {m:List (K × V)}
theorem WL.makeMap (kv:K->Value) (vv:V->Value) (h:∀b,WL P ops Q rest (ZC fr dst (dX (.map (some b)))) (hM b kv vv []::hp)) :
  WL P ops Q (⟨dst,.makeMap t none,ty,ps,af,none⟩::rest) fr hp:=by
 refine WL.of fun P0 B w0 w a hh hf=>?_;have hrun:(execOp a.eval ⟨dst,.makeMap t none,ty,ps,af,none⟩).run P w = .ok (.value (.map (some w.heap.size))) (w.alloc (ZAc [])):=by
  unfold execOp;simp[Instr.makeMap,ZAc,Zb]
 refine Zr rfl hrun ?_;have hx:=Ext.of_alloc w (ZAc []);have hb:∀k,(hM w.heap.size kv vv []).blk=some k->w.heap.size≤k/\k<(w.alloc (ZAc [])).heap.size:=fun k hk=>by
  cases hk;exact⟨Nat.le_refl _,by simp⟩
 refine(h w.heap.size).on (hh.push hx hb (Zz w _)) ?_;exact Fr.put (hf.mono fun d _ hd=>ZAJ hx (fun k hk=>(hb k hk).1) hd) rfl
section
variable [DecidableEq K]
theorem SY.lookM {x y:Operand} {v:K} (T:MapT P t k e z) (H:KeyT P k kv ok) (hx:OpD fr x (dX (.map (some b)))) (hm:hM b kv vv m∈hp) (hy:OpD fr y d) (hd:IsV d (kv v)) (ho:ok v) (hok:∀p∈m,ok p.1) (hn:(m.map (·.1)).Nodup) :
  SY P ops hp ⟨dst,.lookup t x y false,ty,ps,af,g⟩ fr (dX (((Go.Proofs.YtofkoleingbbpaaGreatDoor.lookM m v).map vv).getD z)):=ZAG fun {P0 B w0 w a} hh hon=>by
 have h1:a.eval x=_:=hx.get (by simp[Op.operands]) hon;have h2:=hd.is _ _ _ (hy.get (by simp[Op.operands]) hon);refine⟨_,w,?_,Ext.refl _,rfl⟩;unfold execOp;simp only[h1,h2,Sem.run_bind,ZDF T H hok hn ho (hh.ok _ hm) false,Result.andThen_ok,Sem.run_pure];rfl
theorem ZOB {x y:Operand} {v:K} (T:MapT P t k e z) (H:KeyT P k kv ok) (hx:OpD fr x (dX (.map (some b)))) (hm:hM b kv vv m∈hp) (hy:OpD fr y d) (hd:IsV d (kv v)) (ho:ok v) (hok:∀p∈m,ok p.1) (hn:(m.map (·.1)).Nodup) :
  SY P ops hp ⟨dst,.lookup t x y true,ty,ps,af,g⟩ fr (dT [dX (((Go.Proofs.YtofkoleingbbpaaGreatDoor.lookM m v).map vv).getD z),dB (Go.Proofs.YtofkoleingbbpaaGreatDoor.lookM m v).isSome]):=ZAG fun {P0 B w0 w a} hh hon=>by
 have h1:a.eval x=_:=hx.get (by simp[Op.operands]) hon;have h2:=hd.is _ _ _ (hy.get (by simp[Op.operands]) hon);refine⟨_,w,?_,Ext.refl _,[((Go.Proofs.YtofkoleingbbpaaGreatDoor.lookM m v).map vv).getD z,.bool (Go.Proofs.YtofkoleingbbpaaGreatDoor.lookM m v).isSome],rfl,rfl,fun i e x he hx=>?_⟩
 ·unfold execOp;simp only[h1,h2,Sem.run_bind,ZDF T H hok hn ho (hh.ok _ hm) true,Result.andThen_ok,Sem.run_pure];rfl
 ·match i,he,hx with
  | 0,he,hx=>cases he;cases hx;rfl
  | 1,he,hx=>cases he;cases hx;rfl
theorem ZBW {x y c:Operand} {v:K} {u:V} (T:MapT P t k e z) (H:KeyT P k kv ok) (hx:OpD fr x (dX (.map (some b)))) (hy:OpD fr y d) (hd:IsV d (kv v)) (hc:OpD fr c d2) (hd2:IsV d2 (vv u)) (ho:ok v) (hok:∀p∈m,ok p.1) (hn:(m.map (·.1)).Nodup)
  (h:WL P ops Q rest (ZC fr dst (dX undef)) (hM b kv vv (ZCI m v u)::hp)) :
  WL P ops Q (⟨dst,.mapUpdate t x y c,ty,ps,af,none⟩::rest) fr (hM b kv vv m::hp):=by
 refine WL.of fun P0 B w0 w a hh hf=>?_;have h1:a.eval x=_:=hx.ev hf;have h2:=hd.is _ _ _ (hy.ev hf);have h3:=hd2.is _ _ _ (hc.ev hf);have hrun:(execOp a.eval ⟨dst,.mapUpdate t x y c,ty,ps,af,none⟩).run P w = .ok .skip (w.putObj b (ZAc (ZAV kv vv (ZCI m v u)))):=by
  unfold execOp;simp only[h1,h2,h3,Sem.run_bind,ZNl T H hok hn ho u (hh.ok (hM b kv vv m) (by simp)),Result.andThen_ok,Sem.run_pure];rfl
 refine wpList_plain rfl fun K hK=>?_;unfold Oper.wp;rw[hrun];exact hK _ _ (h.on (Hp.putObj hh) (Fr.put (hf.mono fun _ _ hd=>ZAs hd) (d:=dX undef) rfl))
end
theorem ZTV {x y:Operand} {v:K} (zv:V) (hz:vv zv=z) (T:MapT P t k e z) (H:KeyT P k kv ok) (hx:OpD fr x (dX (.map (some b)))) (hy:OpD fr y d) (hd:IsV d (kv v)) (ho:ok v) (hok:∀p∈m,ok p.1)
  (h1:∀(j:Nat) (hj:j<m.length),m[j].1=v->WL P ops Q rest (ZC fr dst (dT [dX (vv m[j].2),dI j])) (hM b kv vv m::hp))
  (h2:(∀p∈m,p.1≠v)->WL P ops Q rest (ZC fr dst (dT [dX z,dI m.length])) (hM b kv vv (m++[(v,zv)])::hp)) :
  WL P ops Q (⟨dst,.mapEntry t x y,ty,ps,af,none⟩::rest) fr (hM b kv vv m::hp):=by
 refine WL.of fun P0 B w0 w a hh hf=>?_;have e1:a.eval x=_:=hx.ev hf;have e2:=hd.is _ _ _ (hy.ev hf);have hT:∀ {I:Nat->Prop} {w:World} (u:Value) (n:Int),(dT [dX u,dI n]).rd I w (.tuple #[u,.int .i64 n]):=fun u n=>⟨[u,.int .i64 n],rfl,rfl,fun i e x he hx=>by
  match i,he,hx with
  | 0,he,hx=>cases he;cases hx;rfl
  | 1,he,hx=>cases he;cases hx;rfl⟩
 rcases ZQI T H hok ho (hh.ok (hM b kv vv m) (by simp)) with ⟨j,hj,hjv,hr⟩|⟨hne,hr⟩
 ·have hrun:(execOp a.eval ⟨dst,.mapEntry t x y,ty,ps,af,none⟩).run P w = .ok (.value (.tuple #[vv m[j].2,.int .i64 j])) (w.putObj b (ZAc (ZAV kv vv m))):=by
   unfold execOp;simp only[e1,e2,Sem.run_bind,hr,Result.andThen_ok,Sem.run_pure];rfl
  refine Zr rfl hrun ?_;exact(h1 j hj hjv).on (Hp.putObj hh) (Fr.put (hf.mono fun _ _ hd=>ZAs hd) (hT _ _))
 ·have hrun:(execOp a.eval ⟨dst,.mapEntry t x y,ty,ps,af,none⟩).run P w = .ok (.value (.tuple #[z,.int .i64 m.length])) (w.putObj b (ZAc (ZAV kv vv (m++[(v,zv)])))):=by
   unfold execOp;simp only[e1,e2,Sem.run_bind,hr zv hz,Result.andThen_ok,Sem.run_pure];rfl
  refine Zr rfl hrun ?_;exact(h2 hne).on (Hp.putObj hh) (Fr.put (hf.mono fun _ _ hd=>ZAs hd) (hT _ _))
theorem ZOW {x y c:Operand} {j:Nat} {u:V} (hx:OpD fr x (dX (.map (some b)))) (hy:OpD fr y (dI (j:Int))) (hc:OpD fr c d2) (hd2:IsV d2 (vv u)) (hj:j<m.length)
  (h:WL P ops Q rest (ZC fr dst (dX undef)) (hM b kv vv (m.set j (m[j].1,u))::hp)) :
  WL P ops Q (⟨dst,.entryStore t x y c,ty,ps,af,none⟩::rest) fr (hM b kv vv m::hp):=by
 refine WL.of fun P0 B w0 w a hh hf=>?_;have h1:a.eval x=_:=hx.ev hf;have h2:a.eval y = .int .i64 j:=hy.ev hf;have h3:=hd2.is _ _ _ (hc.ev hf);have hrun:(execOp a.eval ⟨dst,.entryStore t x y c,ty,ps,af,none⟩).run P w = .ok .skip (w.putObj b (ZAc (ZAV kv vv (m.set j (m[j].1,u))))):=by
  unfold execOp;simp only[h1,h2,h3,Sem.run_bind,ZHj hj u (hh.ok (hM b kv vv m) (by simp)),Result.andThen_ok,Sem.run_pure];rfl
 refine wpList_plain rfl fun K hK=>?_;unfold Oper.wp;rw[hrun];exact hK _ _ (h.on (Hp.putObj hh) (Fr.put (hf.mono fun _ _ hd=>ZAs hd) (d:=dX undef) rfl))
end
end
section
open Go.RowKit
def ZF4 {K α:Type} (kv:K->Value) (R:Rel α):Rel (List (K × α)):=fun P w v m =>
 ∃(b:Nat) (us:List Value),v = .map (some b)/\P b/\us.length=m.length/\w.heap[b]?=some (ZAc (ZAV kv id ((m.map (·.1)).zip us)))/\∀k (h:k<us.length) (h':k<m.length),R P w us[k] m[k].2
theorem ZH4 {w:World} {b:Nat} {o:Obj} (h:w.heap[b]?=some o):b<w.heap.size:=(Array.getElem?_eq_some_iff.1 h).1
instance {K α:Type} (kv:K->Value) (R:Rel α) [Good R]:Good (ZF4 kv R) where
 weak:=fun⟨b,us,h1,h2,h3,h4,h5⟩ q=>⟨b,us,h1,q b h2,h3,h4,fun k a c=>Good.weak (h5 k a c) q⟩
 move:=fun⟨b,us,h1,h2,h3,h4,h5⟩ q=>⟨b,us,h1,h2,h3,(q b h2 (ZH4 h4)).trans h4,fun k a c=>Good.move (h5 k a c) q⟩
 bound:=fun⟨b,us,h1,h2,h3,h4,h5⟩=>⟨b,us,h1,⟨h2,ZH4 h4⟩,h3,h4,fun k a c=>Good.bound (h5 k a c)⟩
section
variable {P:Program} {ops:Array Oper} {hp:List HObj} {fr:List Dat} {d:Dat}
variable {dst:Option Tmp} {ty:TypeId} {ps:String} {af:Array Edge} {g:Option (Nat × Bool)} {t k e:TypeId} {z:Value} {K α:Type} [DecidableEq K] {kv:K->Value} {ok:K->Prop} {R:Rel α} {m:List (K × α)}
theorem ZKO {m:List (K × α)} {us:List Value} (h:us.length=m.length) (x:K):(lookM m x=none/\lookM ((m.map (·.1)).zip us) x=none)\/∃(j:Nat) (h1:j<us.length) (h2:j<m.length),lookM m x=some m[j].2/\lookM ((m.map (·.1)).zip us) x=some us[j]:=by
 induction m generalizing us with
 | nil=>exact .inl ⟨rfl,by cases us <;> rfl⟩
 | cons p m ih =>
  cases us with
  | nil=>simp at h
  | cons u us =>
   by_cases hp:p.1=x
   ·refine .inr ⟨0,by simp,by simp,?_,?_⟩
    ·unfold lookM;rw[List.find?_cons_of_pos (by simpa using hp)];rfl
    ·unfold lookM;simp only[List.map_cons,List.zip_cons_cons];rw[List.find?_cons_of_pos (by simpa using hp)];rfl
   ·rcases ih (us:=us) (by simpa using h) with ⟨h1,h2⟩|⟨j,h1,h2,h3,h4⟩
    ·refine .inl ⟨?_,?_⟩
     ·unfold lookM at h1 ⊢;rw[List.find?_cons_of_neg (by simpa using hp)];exact h1
     ·unfold lookM at h2 ⊢;simp only[List.map_cons,List.zip_cons_cons];rw[List.find?_cons_of_neg (by simpa using hp)];exact h2
    ·refine .inr ⟨j+1,by simpa using h1,by simpa using h2,?_,?_⟩
     ·unfold lookM at h3 ⊢;rw[List.find?_cons_of_neg (by simpa using hp)];exact h3
     ·unfold lookM at h4 ⊢;simp only[List.map_cons,List.zip_cons_cons];rw[List.find?_cons_of_neg (by simpa using hp)];exact h4
theorem ZEq [Good R] {x y:Operand} {v:K} {a0:α} (T:MapT P t k e z) (H:KeyT P k kv ok) (hx:OpD fr x (dS (ZF4 kv R) m)) (hy:OpD fr y d) (hd:IsV d (kv v)) (ho:ok v) (hok:∀p∈m,ok p.1) (hn:(m.map (·.1)).Nodup) (hz:∀I w,R I w z a0) :
  SY P ops hp ⟨dst,.lookup t x y false,ty,ps,af,g⟩ fr (dS R ((Go.Proofs.YtofkoleingbbpaaGreatDoor.lookM m v).getD a0)):=SY.val fun {I w a} hon=>by
 obtain⟨b,us,h1,h2,h3,h4,h5⟩:=hx.get (by simp[Op.operands]) hon;have h6:=hd.is _ _ _ (hy.get (by simp[Op.operands]) hon);have hkeys:((m.map (·.1)).zip us).map (·.1)=m.map (·.1):=by rw[List.map_fst_zip];simp[h3]
 refine⟨((Go.Proofs.YtofkoleingbbpaaGreatDoor.lookM ((m.map (·.1)).zip us) v).map id).getD z,?_,?_⟩
 ·unfold execOp;simp only[h1,h6,Sem.run_bind,ZDF (vv:=id) T H (fun(p:K × Value) (hp:p∈(m.map (·.1)).zip us)=>by
   have:p.1∈m.map (·.1):=by rw[<- hkeys];exact List.mem_map_of_mem hp
   obtain⟨q,hq,he⟩:=List.mem_map.1 this;rw[<- he];exact hok q hq) (by rw[hkeys];exact hn) ho h4 false,Result.andThen_ok,Sem.run_pure]
  rfl
 ·rcases ZKO h3 v with ⟨e1,e2⟩|⟨j,j1,j2,e1,e2⟩
  ·rw[e1,e2];exact hz I w
  ·rw[e1,e2];exact h5 j j1 j2
end
theorem FinD.map {hp:List HObj} {b:Nat} {e:TypeId} {K α:Type} {kv:K->Value} {R:Rel α} {_gR:Good R} {M:List (K × Value × List α)} (hm:hM b kv (fun p:Value × List α=>p.1) M∈hp) (hr:∀p∈M,Zk p.2.1 e R p.2.2∈hp) :
  FinD hp (dX (.map (some b))) (dS (ZF4 kv (Arr R)) (M.map fun p=>(p.1,p.2.2))):=FinD.mk fun {P0 B w0 w u} hh hd=>by
 have hb:w.heap[b]?=some (ZAc _):=hh.ok _ hm;refine⟨b,M.map fun p=>p.2.1,hd,ZEI hh hm rfl,by simp,?_,fun k h1 h2=>?_⟩
 ·rw[hb];congr 2;unfold ZAV;simp only[List.map_map];rw[List.zip_map',List.map_map];rfl
 ·have hk:k<M.length:=by simpa using h1
  have:Arr R (fun b=>P0 b\/B≤b) w M[k].2.1 M[k].2.2:=(FinD.row (hr _ (List.getElem_mem hk))).out (v:=M[k].2.1) hh rfl;simpa using this
end
section
open Go.RowKit
theorem ZVH:laidOutB Tryz.prog=true:=by kernel_rfl
def ZUg (n:Int):Prop:=-9223372036854775808≤n/\n≤9223372036854775807
theorem wf64 {n:Int} (h:ZUg n):(Lit.int .i64 n).wf=true:=by
 obtain⟨h1,h2⟩:=h;show(decide (IntKind.i64.min≤n) && decide (n≤IntKind.i64.max))=true;have e1:IntKind.i64.min = -9223372036854775808:=by decide
 have e2:IntKind.i64.max=9223372036854775807:=by decide
 rw[e1,e2,decide_eq_true h1,decide_eq_true h2];rfl
def kvV (x:Int × Int):Value:=.agg #[.int .i64 x.1,.int .i64 x.2]
def okV (x:Int × Int):Prop:=ZUg x.1/\ZUg x.2
theorem ZVV:77<Tryz.prog.types.size:=of_decide_eq_true (by kernel_rfl)
theorem ZLP:Tryz.prog.cellsOf 77=2:=by kernel_rfl
theorem ZTc:Tryz.prog.cellsOf 3=1:=by kernel_rfl
theorem ZS2 (d:Nat) {x:Int × Int} (h:okV x):Tryz.prog.keyLits (d+2) 77 [.int .i64 x.1,.int .i64 x.2]=some [.int .i64 x.1,.int .i64 x.2]:=by
 obtain⟨h1,h2⟩:=h;unfold Program.keyLits;simp only[Tryz.underlying77,ZLP];simp[ZTc,Program.keyLits,Tryz.underlying3,wf64 h1,wf64 h2]
theorem ZSy:KeyT Tryz.prog 77 kvV okV where
 law:=Go.Maps.Keyed.of_law (deep_law_laid ZVH (m:=2) (by omega) ZVV (by kernel_rfl) (by rw[Tryz.underlying77]))
 lit:=fun x h=>by
  refine⟨.string (keyBytes [.int .i64 x.1,.int .i64 x.2]),?_⟩;unfold keyOf;simp only[Tryz.underlying77];have hk:Tryz.prog.keyType 77=true:=by kernel_rfl
  have hf:(kvV x).formed Tryz.prog 77=true:=by simp[kvV,Value.formed,Tryz.underlying77,ZLP]
  obtain⟨d,hd⟩:∃d,Tryz.prog.types.size=d+1:=⟨Tryz.prog.types.size-1,by have:=ZVV;omega⟩;rw[hk,hf,hd];have:=ZS2 d h;simp only[Bool.and_self,if_true];rw[show(kvV x).cells.toList=[.int .i64 x.1,.int .i64 x.2] from rfl,this];rfl
 inj:=fun x y _ _ h=>by
  unfold kvV at h;simp at h;exact Prod.ext h.1 h.2
def ZLf (s:List Vx):List Vx:=s++List.replicate (8-s.length) (-1,0)
def kvK (s:List Vx):Value:=.agg (Zt (ZLf s)).toArray
def okK (s:List Vx):Prop:=s.length≤8/\∀v∈s,okV v/\0≤v.1
theorem ZVU:202<Tryz.prog.types.size:=of_decide_eq_true (by kernel_rfl)
theorem ZOw:Tryz.prog.cellsOf 202=16:=by kernel_rfl
theorem ZE7 {s:List Vx} (h:s.length≤8):(ZLf s).length=8:=by unfold ZLf;simp;omega
theorem ZUA {s:List Vx} (h:okK s):∀v∈ZLf s,okV v:=fun v hv=>by
 unfold ZLf at hv;rcases List.mem_append.1 hv with hv|hv
 ·exact(h.2 v hv).1
 ·rw[(List.mem_replicate.1 hv).2];exact⟨by unfold ZUg;omega,by unfold ZUg;omega⟩
theorem ZMY {α β:Type} {f:α->Option β} {g:α->β}:∀(L:List α),(∀i∈L,f i=some (g i))->L.mapM f=some (L.map g)
 | [],_=>rfl
 | a::L,h=>by
  rw[List.mapM_cons,h a (by simp),ZMY L fun i hi=>h i (by simp[hi])];rfl
theorem ZMM:∀(l:List Vx) (i:Nat) (h:i<l.length),((Zt l).drop (i*2)).take 2=[.int .i64 l[i].1,.int .i64 l[i].2]
 | [],i,h=>by simp at h
 | x::l,0,_=>by simp[ZA1]
 | x::l,i+1,h=>by
  rw[ZA1,show(i+1)*2=i*2+2 by omega];simpa using ZMM l i (by simpa using h)
theorem ZVJ (d:Nat) {s:List Vx} (h:okK s):∃l,Tryz.prog.keyLits (d+3) 202 (Zt (ZLf s))=some l:=by
 have hl:(Zt (ZLf s)).length=16:=by rw[Z1,ZE7 h.1]
 unfold Program.keyLits;simp only[Tryz.underlying202,ZOw,hl];simp only[if_true,ZLP];rw[ZMY (g:=fun i=>[Lit.int .i64 ((ZLf s).getD i (0,0)).1,Lit.int .i64 ((ZLf s).getD i (0,0)).2]) _ fun i hi=>?_]
 ·exact⟨_,rfl⟩
 ·have hi':i<(ZLf s).length:=by rw[ZE7 h.1];exact List.mem_range.1 hi
  rw[ZMM _ i hi',ZS2 d (ZUA h _ (List.getElem_mem hi'))];simp[List.getD,hi']
theorem ZKA:∀ {a b:List Vx},Zt a=Zt b->a=b
 | [],[],_=>rfl
 | [],y::b,h=>by simp[ZA1,ZCM] at h
 | x::a,[],h=>by simp[ZA1,ZCM] at h
 | x::a,y::b,h=>by
  rw[ZA1,ZA1] at h;simp at h;rw[Prod.ext h.1 h.2.1,ZKA h.2.2]
theorem ZR5:∀ {a b:List Vx},(∀v∈a,0≤v.1)->(∀v∈b,0≤v.1)->ZLf a=ZLf b->a=b:=by
 have go:∀ {a b:List Vx} (i j:Nat),(∀v∈a,0≤v.1)->(∀v∈b,0≤v.1)->a++List.replicate i ((-1,0):Vx)=b++List.replicate j (-1,0)->a=b:=by
  intro a;induction a with
  | nil =>
   intro b i j _ hb h;cases b with
   | nil=>rfl
   | cons y b =>
    cases i with
    | zero=>simp at h
    | succ i =>
     rw[List.replicate_succ] at h;simp at h;have:=hb y (by simp);rw[<- h.1] at this;simp at this
  | cons x a ih =>
   intro b i j ha hb h;cases b with
   | nil =>
    cases j with
    | zero=>simp at h
    | succ j =>
     rw[List.replicate_succ] at h;simp at h;have:=ha x (by simp);rw[h.1] at this;simp at this
   | cons y b =>
    simp only[List.cons_append,List.cons.injEq] at h;rw[h.1,ih i j (fun v hv=>ha v (by simp[hv])) (fun v hv=>hb v (by simp[hv])) h.2]
 intro a b ha hb h;exact go _ _ ha hb h
theorem ZSx:KeyT Tryz.prog 202 kvK okK where
 law:=Go.Maps.Keyed.of_law (deep_law_laid ZVH (m:=3) (by omega) ZVU (by kernel_rfl) (by rw[Tryz.underlying202]))
 lit:=fun s h=>by
  obtain⟨d,hd⟩:∃d,Tryz.prog.types.size=d+2:=⟨Tryz.prog.types.size-2,by have:=ZVU;omega⟩;obtain⟨l,hl⟩:=ZVJ d h;refine⟨.string (keyBytes l),?_⟩;unfold keyOf;simp only[Tryz.underlying202];have hk:Tryz.prog.keyType 202=true:=by kernel_rfl
  have hf:(kvK s).formed Tryz.prog 202=true:=by
   simp[kvK,Value.formed,Tryz.underlying202,ZOw,Z1,ZE7 h.1]
  rw[hk,hf,hd];simp only[Bool.and_self,if_true];rw[show(kvK s).cells.toList=Zt (ZLf s) from rfl,hl];rfl
 inj:=fun x y hx hy h=>by
  unfold kvK at h;injection h with h;exact ZR5 (fun v hv=>(hx.2 v hv).2) (fun v hv=>(hy.2 v hv).2) (ZKA (List.toArray_inj h))
end
end Go.Proofs.YtofkoleingbbpaaGreatDoor
