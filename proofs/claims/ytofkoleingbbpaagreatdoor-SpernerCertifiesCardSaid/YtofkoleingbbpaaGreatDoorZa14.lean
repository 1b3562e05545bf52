/- Part 14 of the proof. -/
import Derived.Shelf.Strconv.Itoa3
import Derived.Shelf.Strings.BuilderK
import Derived.Test.YtofkoleingbbpaaGreatDoorZa13
set_option linter.all false
set_option maxRecDepth 100000
set_option maxHeartbeats 64000000
namespace Go.Proofs.YtofkoleingbbpaaGreatDoor
section
open Go.RowKit
section
variable {P:Program} {ops:Array Oper} {hp:List HObj} {fr:List Dat} {dst:Option Tmp} {ty:TypeId} {ps:String} {af:Array Edge} {t e:TypeId} {z:Value} {bytes:Nat} {ag:Bool}
theorem SW.app1 {s y:Operand} (E:ElT P t e 1 z bytes ag) {α:Type} {R:Rel α} {_gR:Good R} {v:Value} {xs ys:List α} (hs:OpD fr s (dX v)) (hy:OpD fr y (dS (Arr R) ys)) (hby:0<bytes)
  (hlen:(xs.length+ys.length)*bytes≤140737488355328) :
  SW P ops (Zk v e R xs::hp) (fun v':Value=>Zk v' e R (xs++ys)::hp) (fun v'=>dX v') ⟨dst,.call { callee:=.builtin .append,args:=#[s,y],argTypes:=#[t,t] },ty,ps,af,none⟩ fr:=⟨rfl,fun {P0 B w0 w a} hh ho K Q hk=>by
 obtain⟨ad,cap,hv,c1,c2,c3⟩:=(hy.get (by simp[Op.operands,Call.operands]) ho:Arr R _ _ _ _);have hm:xs.length+ys.length≤maxLen:=by
  have:(xs.length+ys.length)*1≤(xs.length+ys.length)*bytes:=Nat.mul_le_mul_left _ hby;simp only[maxLen];omega
 have hse:a.eval s=v:=hs.get (by simp[Op.operands,Call.operands]) ho;cases ad with
 | none =>
  have hy0:ys=[]:=by
   cases ys with
   | nil=>rfl
   | cons y ys=>obtain⟨_,_,_,_,_,hc,_⟩:=c3 0 (by simp);cases hc
  subst hy0;obtain⟨us,_,hown,_⟩:=hh.ok (Zk v e R xs) (by simp);have hrun:(execOp a.eval ⟨dst,.call { callee:=.builtin .append,args:=#[s,y],argTypes:=#[t,t] },ty,ps,af,none⟩).run P w = .ok (.value v) w:=by
   have hr:=ZBc (P:=P) (ty:=ty) (w:=w) E hown cap;have hv':a.eval y = .slice none 0 cap:=hv;unfold execOp;simp only[resolve,invoke,builtin,List.map_toArray,List.map_cons,List.map_nil,hse,hv',Sem.run_bind,Sem.run_pure,Result.andThen_ok];rw[hr];simp
  unfold Oper.wp;rw[hrun];have:=hk v v w;simp only[List.append_nil] at this;exact this hh (fun _ _ h=>h) rfl
 | some ad =>
  have hch:∀k:Nat,∃u:Value,∀h:k<ys.length,w.cell? (ad.add k)=some u/\u.oneCell'=true/\R (Imm P0 B (Zk v e R xs::hp)) w u ys[k]:=fun k=>by
   by_cases hk:k<ys.length
   ·obtain⟨u,b,off,r1,r2,r3,r4,r5⟩:=c3 k hk;cases r3;exact⟨u,fun _=>⟨by rw[Addr.add_lit];exact r5,r2,r1⟩⟩
   ·exact⟨undef,fun h=>absurd h hk⟩
  obtain⟨f,hfch⟩:=Classical.axiomOfChoice hch;obtain⟨v',w',hr,r1,r2,r3⟩:=ZC4 (ty:=ty) E hh (ad:=ad) (c:=cap) (ys:=ys) (news:=(List.range ys.length).map f) (by simp) (fun j u hu=>by
    obtain⟨hjl,hju⟩:=List.getElem?_eq_some_iff.1 hu;simp at hjl hju;subst hju;exact(hfch j hjl).1) (fun u hu=>by
    simp only[List.mem_map,List.mem_range] at hu;obtain⟨j,hj,rfl⟩:=hu;exact(hfch j hj).2.1) (fun k h1 h2=>by
    simp only[List.getElem_map,List.getElem_range];exact(hfch k h2).2.2) hlen hm
  have hrun:(execOp a.eval ⟨dst,.call { callee:=.builtin .append,args:=#[s,y],argTypes:=#[t,t] },ty,ps,af,none⟩).run P w = .ok (.value v') w':=by
   unfold execOp;simp only[resolve,invoke,builtin,List.map_toArray,List.map_cons,List.map_nil,hse,hv,Sem.run_bind,Sem.run_pure,Result.andThen_ok,hr]
  unfold Oper.wp;rw[hrun];exact hk v' v' w' r1 (fun d u hd=>Zd (o:=Zk v e R xs) (o':=Zk v' e R (xs++ys)) r2 r3 hd) rfl⟩
end
section
variable {P:Program} {ops:Array Oper} {hp:List HObj} {fr:List Dat} {d:Dat}
variable {dst:Option Tmp} {ty:TypeId} {ps:String} {af:Array Edge} {g:Option (Nat × Bool)} {t k e:TypeId} {z:Value} {K V:Type} [DecidableEq K] {kv:K->Value} {ok:K->Prop} {vv:V->Value} {m:List (K × V)} {b:Nat}
theorem ZOF {x y:Operand} {v:K} {u:V} (T:MapT P t k e z) (H:KeyT P k kv ok) (hx:OpD fr x (dX (.map (some b)))) (hm:hM b kv vv m∈hp) (hy:OpD fr y d) (hd:IsV d (kv v)) (ho:ok v) (hok:∀p∈m,ok p.1) (hn:(m.map (·.1)).Nodup) (hl:Go.Proofs.YtofkoleingbbpaaGreatDoor.lookM m v=some u) :
  SY P ops hp ⟨dst,.lookup t x y false,ty,ps,af,g⟩ fr (dX (vv u)):=by
 have:=SY.lookM (ops:=ops) (dst:=dst) (ty:=ty) (ps:=ps) (af:=af) (g:=g) T H hx hm hy hd ho hok hn;rwa[hl] at this
theorem ZOE {x y:Operand} {v:K} (T:MapT P t k e z) (H:KeyT P k kv ok) (hx:OpD fr x (dX (.map (some b)))) (hm:hM b kv vv m∈hp) (hy:OpD fr y d) (hd:IsV d (kv v)) (ho:ok v) (hok:∀p∈m,ok p.1) (hn:(m.map (·.1)).Nodup) (hl:Go.Proofs.YtofkoleingbbpaaGreatDoor.lookM m v=none) :
  SY P ops hp ⟨dst,.lookup t x y false,ty,ps,af,g⟩ fr (dX z):=by
 have:=SY.lookM (ops:=ops) (dst:=dst) (ty:=ty) (ps:=ps) (af:=af) (g:=g) T H hx hm hy hd ho hok hn;rwa[hl] at this
end
end
section
open Go.RowKit
section
variable {P:Program} {ops:Array Oper} {hp:List HObj} {fr:List Dat} {d:Dat} {Q:Z4} {rest:List Oper} {K:Dat->List HObj->Prop}
variable {dst:Option Tmp} {ty:TypeId} {ps:String} {af:Array Edge} {g:Option (Nat × Bool)} {b cap bytes:Nat} {e e2 t T T2:TypeId} {z:Value} {ag:Bool}
theorem ZDO {x:Operand} {T:TypeId} (hx:OpD fr x (dB true)):SY P ops hp ⟨dst,.unOp .not T x,ty,ps,af,g⟩ fr (dB false):=ZVw hx
end

end
section
def carB (s:List Vx) (v:Vx):List Vx:=atB s v.2.toNat
def stepR (s:List Vx) (d:Cx × List (Vx × List Vx)) (t:List Vx):Cx × List (Vx × List Vx):=(ZCb d.1 t,t.foldl (fun d v=>putS d v (carB s v)) d.2)
end
section
open Go.RowKit

abbrev CarM:=List (Vx × Value × List Vx)
structure Bld (L:List Vx) (car:Vx->List Vx) (M:CarM):Prop where
 nodup:(M.map (·.1)).Nodup
 mem:∀v,v∈M.map (·.1)↔v∈L
 car:∀p∈M,p.2.2=car p.1
 ok:∀p∈M,okV p.1
theorem Bld.nil (car:Vx->List Vx):Bld [] car []:=⟨by simp,by simp,by simp,by simp⟩
theorem Bld.put {L:List Vx} {car:Vx->List Vx} {M:CarM} (h:Bld L car M) {v:Vx} (hv:okV v) (cv:Value):Bld (L++[v]) car (ZCH M v (cv,car v)):=by
 have hk:=ZP6 M v (cv,car v);refine⟨?_,fun x=>?_,fun p hp=>?_,fun p hp=>?_⟩
 ·rw[hk];split
  ·exact h.nodup
  ·rename_i hn;rw[List.nodup_append];exact⟨h.nodup,by simp,fun a ha b hb e=>hn (by rw[<- List.mem_singleton.1 hb,<- e];exact ha)⟩
 ·rw[hk,List.mem_append,List.mem_singleton,<- h.mem];split
  ·rename_i hm;constructor
   ·exact .inl
   ·rintro(h|rfl)
    ·exact h
    ·exact hm
  ·rw[List.mem_append,List.mem_singleton]
 ·rcases ZMl hp with rfl|hp
  ·rfl
  ·exact h.car p hp
 ·rcases ZMl hp with rfl|hp
  ·exact hv
  ·exact h.ok p hp
theorem ZRu:∀n:Fin 9,ZRt 1 (n.val:Int)=((2 ^ n.val:Nat):Int):=by decide +kernel
theorem ZOL {P:Program} {ops:Array Oper} {hp:List HObj} {fr:List Dat} {dst:Option Tmp} {ty:TypeId} {ps:String} {af:Array Edge} {g:Option (Nat × Bool)} {T T2:TypeId} {x y:Operand} {p q c:Int} (h:ZRt p q=c) (h0:0≤q) (hx:OpD fr x (dI p)) (hy:OpD fr y (dI q)):SY P ops hp ⟨dst,.binOp .shl T x y T2,ty,ps,af,g⟩ fr (dI c):=h ▸ SY.shl hx hy h0
theorem ZOO {P:Program} {ops:Array Oper} {hp:List HObj} {fr:List Dat} {dst:Option Tmp} {ty:TypeId} {ps:String} {af:Array Edge} {g:Option (Nat × Bool)} {T T2:TypeId} {x y:Operand} {p q c:Int} (h:p-q=c) (h0 : -9223372036854775808≤c/\c≤9223372036854775807) (hx:OpD fr x (dI p)) (hy:OpD fr y (dI q)):SY P ops hp ⟨dst,.binOp .sub T x y T2,ty,ps,af,g⟩ fr (dI c):=h ▸ ZWM hx hy (h.symm ▸ h0)
end
section
open Go.RowKit

theorem SeqC.map {P:Program} {gf:FuncId} {lb:List Value} {hk:List HObj} {α β:Type} {D:α->Dat} {D':β->Dat} {xs:List α} (h:SeqC P gf lb hk D xs) (g:α->β) (hle:∀x,(D x).le (D' (g x))):SeqC P gf lb hk D' (xs.map g):=⟨fun l J hY js hj =>
 h.out l (fun pre=>J (pre.map g)) ⟨fun P0 B w0 hp pre js x u W hlt hj hh hu=>by
  have:=hY.out P0 B w0 hp (pre.map g) js (g x) u W (by simpa using hlt) hj hh (hle x _ _ _ hu);rw[List.map_append];exact this⟩ js (by simpa using hj)⟩
end
section
def ZES (a:Cx):List Vx:=ZC3 [] a.flatten
theorem ZE9 {a:Cx} {v:Vx}:v∈ZES a↔∃s∈a,v∈s:=by unfold ZES;rw[ZGQ];simp
theorem ZSC (a:Cx):Asc (ZES a):=ZIW (by simp[Asc])
def Apart (a b:Cx):Prop:=∀s∈a,∀t∈b,∀v∈s,v∉t
theorem Apart.symm {a b:Cx} (h:Apart a b):Apart b a:=fun s hs t ht v v1 v2=>h t ht s hs v v2 v1
end
section
open Go.RowKit

section
variable {ops:Array Oper} {hp:List HObj} {fr:List Dat} {Q:Z4} {rest:List Oper} {dst:Option Tmp} {ty:TypeId} {ps:String} {af:Array Edge}
theorem ZOb {x:Operand} {n:Nat} {ats:Array TypeId} (hx:OpD fr x (dI (n:Int))) (h0:n=0)
  (h:∀v:Value,WL Tryz.prog ops Q rest (ZC fr dst (dX v)) (Zx v 77 2 RV ([]:List Vx)::hp)) :
  WL Tryz.prog ops Q (⟨dst,.call { callee:=.value (.func 159),args:=#[.const (.slice none 0 0),x],argTypes:=ats },ty,ps,af,none⟩::rest) fr hp:=by
 subst h0;refine WL.of fun P0 B w0 w a hh hf=>?_;have hcon:=Any8.slices_Grow_room Tryz.growV none 0 0 0 w (Nat.le_refl _) (by omega) (by omega) (by omega);change Calls Tryz.prog 159 _ _ _ at hcon;have hev:a.eval x = .int .i64 ((0:Nat):Int):=hx.ev hf;have hrun:(execOp a.eval ⟨dst,.call { callee:=.value (.func 159),args:=#[.const (.slice none 0 0),x],argTypes:=ats },ty,ps,af,none⟩).run Tryz.prog w = .ok (.enter 159 #[.slice none 0 0,.int .i64 ((0:Nat):Int)]) w:=by
  unfold execOp;simp only[resolve];have he:(#[Operand.const (.slice none 0 0),x]:Array Operand).map a.eval=#[.slice none 0 0,.int .i64 ((0:Nat):Int)]:=by simp[hev];rfl
  rw[he];simp[Act.eval,Deferred.ofValue,invoke,Tryz.call159]
 refine wpList_plain rfl fun K hK=>?_;unfold Oper.wp;rw[hrun];refine hcon.mono fun e' w' ⟨he,hw'⟩=>?_;subst he;subst hw';refine hK _ _ ((ZHr 77 2 (by decide) RV (h (.slice none 0 0))).on hh (ZWN hf rfl))
end
theorem ZRg (ss:List (List Vx)) (hl:ss.flatten.length≤1000):CallC Tryz.prog 147 [dS Zh ss] [] (fun d hp2=>∃v,d=dX v/\hp2=[Zx v 77 2 RV ss.flatten]):=by
 have hstep:∀(k:Nat) (hk:k<ss.length),(ss.take (k+1)).flatten=(ss.take k).flatten++ss[k]:=fun k hk=>by rw[Ze hk,List.flatten_append];simp
 have hle:∀k:Nat,(ss.take k).flatten.length≤ss.flatten.length:=fun k=>by
  conv=>rhs;rw[<- List.take_append_drop k ss]
  rw[List.flatten_append,List.length_append];omega
 (refine ZAf Tryz.func147 rfl rfl (fun hp=>?_);simp only[Tryz.ntmps147,List.length_cons,List.length_nil,List.length_append,List.length_map,Nat.reduceAdd,Nat.reduceSub,List.replicate_succ,List.replicate_zero,List.cons_append,List.nil_append,List.map_cons,List.map_nil,List.append_assoc])
 (repeat' (first|refine zS ?_|refine ZA fun Kx hK=>?_|(refine hK _ _ ?_;clear hK)|(apply zV;(focus ((first|(apply ZVu;exact oD;exact nD;exact uD));all_goals infer_instance));exact zQ)|refine ZVp ?_))
 (first|refine ZP (t:=0) rfl ZEG fun hl0=>?_|refine ZP (t:=0) rfl ZDu fun hl0=>?_|refine ZP (t:=0) rfl ZJS fun hl0=>?_);simp only[maxLen] at hl0
 (refine ZV4 (X:=Nat) (fun k=>[(3,dI ((ss.take k).flatten.length:Int)),(11,dI (k:Int)),(5,dA),(12,dA),(13,dA),(14,dA),(15,dA),(16,dA),(17,dA),(18,dA),(19,dA),(20,dA),(21,dA),(22,dA)]) (fun k=>hp) (fun k=>ss.length-k) (fun k=>k≤ss.length) 0 ?start ?frame0 ?objs0 ?round)
 case start=>simp
 case frame0=>exact zFr
 case objs0=>rfl
 case round =>
  rintro k h1;dsimp only[ZH,z0,z1];have hk1:=hle k;by_cases hks:k<ss.length
  ·((repeat' (first|refine zS ?_|refine ZA fun Kx hK=>?_|(refine hK _ _ ?_;clear hK)|(apply zV;(focus ((first|(apply ZV2;exact ZVh rfl;exact ZVh rfl;(have:=hstep k (by omega);have h7:=hle (k+1);rw[this,List.length_append] at h7;omega))|exact yG);all_goals infer_instance));exact zQ)|(apply ZB;exact oD;all_goals (intro h;try exact xD))|refine ZVr ?_|refine ZVp ?_|refine ZVx ?_));all_goals ((repeat clear hK);repeat clear Kx))
   all_goals
    have h5:=hstep k (by omega);have h6:((ss.take (k+1)).flatten.length:Int)=(ss.take k).flatten.length+(ss[k]'(by omega)).length:=by rw[h5,List.length_append];rfl
    rw[<- h6];(refine zNx (k+1) ?_;(try dsimp only))
    omega
  ·have hk2:(ss.take k).flatten=ss.flatten:=by rw[List.take_of_length_le (by omega)]
   rw[hk2];by_cases h0:0<ss.flatten.length
   all_goals
    (repeat' (first|(apply zV;exact yF;exact zQ)|refine ZVj ?_|refine ZA fun Kx hK=>?_|(refine hK _ _ ?_;clear hK)|(refine ZV0 ?_;clear hK)|refine ZVk ?_ |  (apply ZRJ;exact ZVh rfl;exact h0;exact hl;intro vg;dsimp only[ZC,z0,z1]) |  (apply ZOb;exact ZVh rfl;exact(by omega);intro vg;dsimp only[ZC,z0,z1])|(apply zV;(focus ((first|((first|apply ZVo|apply ZVn|apply ZVq) <;> exact oD)|(apply ZVu;exact oD;exact nD;exact uD));all_goals infer_instance));exact zQ)|(apply ZB;exact oD;all_goals (intro h;try exact xD))|refine ZV1 ?_|refine ZVp ?_))
    (refine ZV4 (X:=Nat × Value) (fun x=>[(6,dX x.2),(27,dI (x.1:Int)),(8,dA),(28,dA),(29,dA),(30,dA),(31,dA),(32,dA),(33,dA),(34,dA)]) (fun x=>(Zx x.2 77 2 RV ((ss.take x.1).flatten)::hp)) (fun x=>ss.length-x.1) (fun x=>x.1≤ss.length) (0,vg) ?start ?frame0 ?objs0 ?round)
    case start=>simp
    case frame0=>exact zFr
    case objs0=>rfl
    case round =>
     rintro⟨j,u⟩ q1;dsimp only[ZH,z0,z1];simp only at q1;have q2:=hle j;have q3:∀(hj:j<ss.length),(ss.take j).flatten.length+ss[j].length≤1000:=fun hj=>by
      have h7:=hle (j+1);rw[hstep j hj,List.length_append] at h7;omega
     ((repeat' (first|(apply zV;exact yF;exact zQ)|refine ZVj ?_|refine ZA fun Kx hK=>?_|(refine hK _ _ ?_;clear hK)|(refine ZV0 ?_;clear hK)|refine ZVk ?_ |  (apply ZWW;exact elV;exact ZVh rfl;exact ZVh rfl;decide;(have:=q3 (by omega);omega);(intro _;dsimp only[ZC,z0,z1]);all_goals (try infer_instance))|(apply zV;exact yG;exact zQ)|(apply ZB;exact oD;all_goals (intro h;try exact xD))|refine ZVr ?_|refine ZVs ?_|refine ZV1 ?_|refine ZVp ?_|refine ZVx ?_));all_goals ((repeat clear hK);repeat clear Kx))
     ·(refine⟨(j+1,_) , ?_,by first|omega|(simp only;omega),by((try simp only);  (rw[hstep j (by omega)])),?_⟩;rotate_left;((try dsimp only[ZH,z0,z1]);repeat (first|exact LeF.nil|refine ZD (k:=?_)));(try dsimp only))
      omega
     ·exact⟨trivial,_,[_],rfl,rfl,u,rfl,by rw[List.take_of_length_le (by omega)]⟩
theorem ZIg {l:Cx} (h:∀s∈l,s.length≤8):l.flatten.length≤8*l.length:=by
 induction l with
 | nil=>simp
 | cons s l ih =>
  have h1:=ih fun x hx=>h x (List.mem_cons_of_mem _ hx);have h2:=h s (by simp);rw[List.flatten_cons,List.length_append,List.length_cons];omega
theorem ZLu (l:Cx) (hfl:l.flatten.length≤1000):Fn Tryz.prog 127 [dS Zh l] (dS ZI (ZES l)):=by
 refine zE Tryz.func127 10 ?_;((repeat' (first|(apply zV;exact yF;exact zQ)|refine ZVj ?_|refine ZA fun Kx hK=>?_|(refine hK _ _ ?_;clear hK)|refine ZVk ?_ |  (refine WL.callC (hp1:=[]) (caps:=[]) (ZRg l (by omega)) Tryz.call147 ZWO (ZV9 (ZVh rfl) ZWJ) ?_;rintro d' hp2 ⟨vc,rfl,rfl⟩;dsimp only[ZC,z0,z1,List.cons_append,List.nil_append]) |  (refine ZJj Tryz.call149 M.vtx_x (ZVh rfl) (by omega) ?_;intro ys hperm hsort;dsimp only[ZC,z0,z1]) |  (refine ZL7 (ZJ2 ys vc hsort (by rw[hperm.length_eq];omega)) Tryz.call150 ?_ ?_;exact aD;intro vd zs hzs;dsimp only[ZC,z0,z1])|refine ZVs ?_));all_goals ((repeat clear hK);repeat clear Kx))
 all_goals
  have hz:zs=ZES l:=asc_ext hzs.1 (ZSC l) fun u=>by rw[hzs.2,hperm.mem_iff,ZE9,List.mem_flatten]
  subst hz;(refine⟨trivial,_,rfl,?_⟩;exact fD)
def ZTF (l:Cx):List Vx × Int:=if ZBC l≠0 then([],ZBC l) else(ZES l,0)
theorem ZK1 (l:Cx) (hl:ZBC l=0->l.flatten.length≤1000):Fn Tryz.prog 91 [dS Cpx l] (dT [dS ZI (ZTF l).1,dI (ZTF l).2]):=by
 refine zF Tryz.func91 13 ?_;by_cases h0:ZBC l=0
 ·have e:ZTF l=(ZES l,0):=by unfold ZTF;rw[if_neg (by omega)]
  have c1:=ZLu l (hl h0);((repeat' (first|refine zS ?_|refine ZA fun Kx hK=>?_|(refine hK _ _ ?_;clear hK)|(apply zV;(focus ((first|(apply ZVm (ZCg _) Tryz.call43;exact aD)|(apply ZVm (c1) Tryz.call127;exact aD)|exact yG|(apply ZDM ZNz;exact ZVh rfl));all_goals infer_instance));exact zQ)|(apply ZG;exact oD;all_goals (intro h;try exact xD))|refine ZVr ?_|refine ZVs ?_));all_goals ((repeat clear hK);repeat clear Kx))
  rw[e];(refine⟨trivial,⟨_,rfl,?_⟩,_,rfl,?_⟩ <;> exact fD)
 ·have e:ZTF l=([],ZBC l):=by unfold ZTF;rw[if_pos h0]
  ((repeat' (first|refine zS ?_|refine ZA fun Kx hK=>?_|(refine hK _ _ ?_;clear hK)|(apply zV;(focus ((first|(apply ZVm (ZCg _) Tryz.call43;exact aD)|exact yG);all_goals infer_instance));exact zQ)|(apply ZG;exact oD;all_goals (intro h;try exact xD))|refine ZVs ?_|refine ZVz ?_));all_goals ((repeat clear hK);repeat clear Kx))
  rw[e];(refine⟨trivial,⟨_,rfl,?_⟩,_,rfl,?_⟩ <;> exact fD)
end
section
open Go.RowKit

theorem ZUG {a b c:HObj} {hp:List HObj}:(a::b::c::hp).Perm (c::a::b::hp):=(List.Perm.cons a (List.Perm.swap c b hp)).trans (List.Perm.swap c a _)
theorem Bld.at {L:List Vx} {car:Vx->List Vx} {M:CarM} (h:Bld L car M) {v:Vx} (hv:v∈ZC3 [] L):∃cv,(v,cv,car v)∈M:=by
 have h1:v∈L:=by
  rcases ZGQ.1 hv with h|h
  ·cases h
  ·exact h
 obtain⟨p,hp,he⟩:=List.mem_map.1 ((h.mem v).2 h1);refine⟨p.2.1,?_⟩;rw[<- he,<- h.car p hp];exact hp
section
variable {P:Program} {ops:Array Oper} {hp:List HObj} {fr:List Dat} {d:Dat} {Q:Z4} {rest:List Oper} {dst:Option Tmp} {ty:TypeId} {ps:String} {af:Array Edge} {T:TypeId} {ds:List Dat}
theorem ZTU {x:Operand} (hx:OpD fr x (ZEN ds)) (hn:0<ds.length) (h:∀b,WL P ops Q rest (ZC fr dst (dX (.pointer (some ⟨b,0,none⟩)))) (ZAV b T ds::hp)) :
  WL P ops Q (⟨dst,.box T x,ty,ps,af,none⟩::rest) fr hp :=
 ZLJ (T:=T) hx (ZAD hn rfl) fun b=>WL.of fun P0 B w0 w a hh hf=>by
  obtain⟨cs,u,c1,c2,c0,c3,c4,c5⟩:=hh.ok (Zm b T ds.length true (ZEN ds)) (by simp);simp only[if_true] at c4;obtain⟨us,q1,q2,q3,q4⟩:=c5;rw[c4] at q1;have hcs:cs=us:=by injection q1 with q1;exact List.toArray_inj q1
  subst hcs;have hgr:w.grownBy w (Zm b T ds.length true (ZEN ds)).blk:=⟨rfl,rfl,rfl,Nat.le_refl _,fun _ _ _=>rfl⟩;have hbd:=(Zm b T ds.length true (ZEN ds)).bound (hh.ok (Zm b T ds.length true (ZEN ds)) (by simp));have hok:(ZAV b T ds).ok (fun k=>Imm P0 B (Zm b T ds.length true (ZEN ds)::hp) k/\k<w.heap.size) w :=
   ⟨cs,c1,c2,c3,fun k c d hc hd=>d.bound (q4 k c d hc hd)⟩
  exact(h b).on (hh.write hgr (.inl rfl) hok) (hf.mono fun _ _ hd=>Zd (o':=ZAV b T ds) hgr (.inl rfl) hd)
end
end
section
open Go.RowKit
def dLow (b:Nat) (d:Dat):Dat:=⟨fun P w v=>d.rd (fun k=>P k/\k<b) w v,fun h q=>d.weak h fun k hk=>⟨q k hk.1,hk.2⟩,fun h q=>d.move h fun k hk hl=>q k hk.1 hl,fun h=>d.weak (d.bound h) fun k hk=>⟨⟨hk.1.1,hk.2⟩,hk.1.2⟩⟩
theorem ZPI {b:Nat} {d:Dat}:(dLow b d).le d:=fun _ _ _ h=>d.weak h fun _ hk=>hk.1
section
variable {P:Program} {ops:Array Oper} {hp:List HObj} {fr:List Dat} {Q:Z4} {rest:List Oper}
variable {dst:Option Tmp} {ty:TypeId} {ps:String} {af:Array Edge} {g:Option (Nat × Bool)} {T e:TypeId} {b:Nat} {l:List UInt8}
theorem ZJh (t:Nat) (h:WL P ops Q rest (fr.set t dA) hp):WL P ops Q rest fr hp:=WL.of fun P0 B w0 w a hh hf=>h.on hh (hf.weak (by simp) fun k d hd=>by
 rw[List.getElem?_set] at hd;by_cases hk:t=k
 ·rw[if_pos hk] at hd;split at hd
  ·rename_i hl;cases hd;exact⟨fr[t],by rw[<- hk];exact List.getElem?_eq_getElem hl,ZBh _⟩
  ·cases hd
 ·rw[if_neg hk] at hd;exact⟨d,hd,ZWI d⟩)
end
end
section
open Go.RowKit

def txV (v:Vx):List UInt8:=((Lib.itoa v.1++[47])++Lib.itoa v.2)++[32]
def txS (s:List Vx):List UInt8:=s.flatMap txV
theorem ZSW {s:List Vx} {k:Nat} (h:k<s.length):txS (s.take (k+1))=txS (s.take k)++txV s[k]:=by
 unfold txS;rw[List.take_succ_eq_append_getElem h,List.flatMap_append];simp
theorem le_RV {x:Int × Int}:(dS RV x).le (ZEN [dI x.1,dI x.2]):=fun _ _ _ h=>by
 cases (h:_=_);exact⟨[_,_],rfl,rfl,by simp[Value.oneCell'],fun k c d hc hd=>by
  match k,hc,hd with
  | 0,hc,hd=>cases hc;cases hd;rfl
  | 1,hc,hd=>cases hc;cases hd;rfl⟩
theorem ZVZ:StrT Tryz.prog 77 2:=⟨fun b off i w hi=>by
 have:i=0\/i=1:=by omega
 rcases this with rfl|rfl <;> go_simp⟩
theorem tzVx:TyZ Tryz.prog 77 (.agg [.int .i64 0,.int .i64 0].toArray):=⟨by kernel_rfl⟩
end
section
open Go.RowKit

abbrev ZUc:=List (List UInt8 × Int)
def kvS (l:List UInt8):Value:=.string ⟨l.toArray⟩
def okS (l:List UInt8):Prop:=l.length≤1000000
theorem ZBa:KeyT Tryz.prog 9 kvS okS where
 law:=Go.Maps.string_keyed Tryz.underlying9
 lit:=fun l hl=>by
  have hz:(⟨l.toArray⟩:ByteArray).size≤maxLen:=by
   unfold okS at hl;simp only[ByteArray.size,List.size_toArray,maxLen];omega
  refine⟨.string l,?_⟩;unfold keyOf kvS;simp[Tryz.underlying9,mapKey,hz]
 inj:=fun x y _ _ h=>by
  unfold kvS at h;injection h with h;injection h with h;exact List.toArray_inj h
theorem ZE2:MapT Tryz.prog 145 9 3 (.int .i64 0):=⟨Tryz.underlying145,fun w=>by kernel_rfl⟩
def ZEr (l:Cx):Prop:=∀s∈l,∀v∈s,(0≤v.1/\v.1<100)/\0≤v.2/\v.2<100
theorem ZQY {s:List Vx} (h:s.length≤8) (k:Nat):(ZT k s).length≤256:=Nat.le_trans (ZAo _ _) (Nat.pow_le_pow_right (by decide) h:2 ^ s.length≤2 ^ 8)
end
section
open Go.RowKit
structure SeqN (P:Program) (gf:FuncId) (lb:List Value) (hk:List HObj) {α:Type} (D:α->Dat) (xs:List α) (N:Nat):Prop where
 out:∀(l:Nat) (J:List α->List HObj->Prop),YStep P l D J N->∀js,J [] js->CallC P gf (dX (.func (.yield l) #[] #[])::lb.map dX) (js++hk) (fun _ hp2=>∃js',J xs js'/\hp2=js'++hk)
theorem ZQo {P:Program} {g:Operand} {p:Tmp} {assign body:Code} {Q:Exit->Act->World->Prop} {P0:Nat->Prop} {B:Nat} {w0 w:World} {a:Act} {fr:List Dat} {gf:FuncId} {lb:List Value} {hk hp hs0:List HObj} {α:Type} {D:α->Dat} {xs:List α} (H:List α->List HObj->Prop) (F0:List Dat) (F1:α->List Dat)
  (hh:Hp P0 B w0 (hs0++(hk++hp)) w) (hf:Fr (Imm P0 B (hs0++(hk++hp))) w { tmps:=a.tmps,defers:=[] } fr) (hg:OpD fr g (dX (.func (.func gf) #[] lb.toArray))) (he:ZBR P gf) {N:Nat} (hS:SeqN P gf lb hk D xs N) (h0:H [] hs0) (hF:FixF fr F0)
  (hassign:∀(l:Nat) (x:α) (q:List HObj),WR P l (fun e f q'=>e = .normal/\q'=q/\f=F1 x) assign (F0.set p (D x)) q)
  (hbody:∀(l:Nat) (pre:List α) (x:α) (hs q:List HObj),pre.length<N->H pre hs->WR P l (fun e _ q'=>e = .normal/\∃hs',H (pre++[x]) hs'/\q'=hs'++q) body (F1 x) (hs++q))
  (hpost:∀(k:Nat) (hs:List HObj) (w':World),H xs hs->Hp P0 B w0 (ZA2 k (.deferred (some []))::(hs++(hk++hp))) w'->(∀(t:Nat) (d:Dat),fr[t]?=some d->d.rd (Imm P0 B (ZA2 k (.deferred (some []))::(hs++(hk++hp)))) w' (a.tmps.getD t undef)) ->
   Q .normal { a with defers:={ target:=.collected k,args:=#[] }::a.defers } w'):(Code.rangeFunc g #[p] assign body).wp P Q a w:=by
 refine(wpIn_wide (n:=0)).1 (wpIn_rangeFunc ?_);intro fn hfn;rw[show Fence.wide.round=none from rfl];obtain⟨rec,hrec⟩:∃rec:LoopState->Option Code->Loop,rec=fun st pe=>{ state:=st,pending:=pe,fn,tmps:=a.tmps,params:=#[p],assign,body,defers:=w.heap.size }:=⟨_,rfl⟩;obtain⟨W1,hW1⟩:∃W1,(w.alloc (.deferred (some []))).alloc (.loop (rec .ready none))=W1:=⟨_,rfl⟩;have hgb:(hFr a fr).blk=none:=rfl;have hG:Hp P0 B w0 (hs0++(hk++(hFr a fr::hp))) w:=by
  have:=ZBU (l:=hs0++hk) (hp:=hp) hgb (by rw[List.append_assoc];exact hh) (by rw[List.append_assoc];exact hf.rd);rw[List.append_assoc] at this;exact this
 have hA:Hp P0 B w0 (ZA2 w.heap.size (.deferred (some []))::(hs0++(hk++(hFr a fr::hp)))) (w.alloc (.deferred (some []))) :=
  hG.push (ZWU _ _) (fun k hk=>by cases hk;simp) (World.alloc_heap_new w _)
 have hB:Hp P0 B w0 (ZA2 (w.heap.size+1) (.loop (rec .ready none))::ZA2 w.heap.size (.deferred (some []))::(hs0++(hk++(hFr a fr::hp)))) W1:=by
  rw[<- hW1];refine hA.push (ZWU _ _) (fun k hk=>by cases hk;simp) ?_;have:=World.alloc_heap_new (w.alloc (.deferred (some []))) (.loop (rec .ready none));rwa[World.size_alloc] at this
 have hJ0:(∃hs,H [] hs/\(ZA2 (w.heap.size+1) (.loop (rec .ready none))::ZA2 w.heap.size (.deferred (some []))::hs0)=ZA2 (w.heap.size+1) (.loop (rec .ready none))::ZA2 w.heap.size (.deferred (some []))::hs):=⟨hs0,h0,rfl⟩;have hY:YStep P (w.heap.size+1) D (fun pre js=>∃hs,H pre hs/\js=ZA2 (w.heap.size+1) (.loop (rec .ready none))::ZA2 w.heap.size (.deferred (some []))::hs) N:=⟨fun P0' B' w0' hpX pre js x u W hlt ⟨hs,hH,hjs⟩ hhW hu=>by
  subst hjs;have hl:W.heap[w.heap.size+1]?=some (.loop (rec .ready none)):=hhW.ok (ZA2 (w.heap.size+1) (.loop (rec .ready none))) (by simp);have hy:=run_yield (P:=P) (args:=#[u]) hl (by rw[hrec];simp);refine⟨_,_,_,_,hy,roundIn_of_wpIn trivial ?_⟩;have ha:(rec .ready none).assign=assign:=by rw[hrec]
  have hbd:(rec .ready none).body=body:=by rw[hrec]
  have ht:(rec .ready none).params=#[p]:=by rw[hrec]
  have htm:(rec .ready none).tmps=a.tmps:=by rw[hrec]
  rw[ha,hbd,ht,htm];have hfrR:Fr (Imm P0' B' (ZA2 (w.heap.size+1) (.loop (rec .ready none))::ZA2 w.heap.size (.deferred (some []))::hs++hpX)) W { tmps:=a.tmps.setIfInBounds p u,defers:=[] } (F0.set p (D x)) :=
   ZWN (x:=some p) (hF.fr hf) hu
  refine wpIn_mono (Q:=ZCs (fun e f q'=>e = .normal/\q'=ZA2 (w.heap.size+1) (.loop (rec .ready none))::ZA2 w.heap.size (.deferred (some []))::hs++hpX/\f=F1 x) P0' B' w0') ?_ ?_
  ·exact(hassign (w.heap.size+1) x _).out P0' B' w0' W _ hhW (by simpa using hfrR)
  rintro e a1 w1 ⟨f1,q1,⟨rfl,rfl,rfl⟩,hh1,hf1⟩;have hl1:w1.heap[w.heap.size+1]?=some (.loop (rec .ready none)):=hh1.ok (ZA2 (w.heap.size+1) (.loop (rec .ready none))) (by simp);refine⟨_,run_beginRound hl1 (by rw[hrec]),?_⟩;have hbz:({ rec .ready none with state:=.busy }:Loop)=rec .busy none:=by rw[hrec]
  rw[hbz];have hh2:Hp P0' B' w0' (ZA2 (w.heap.size+1) (.loop (rec .busy none))::(ZA2 w.heap.size (.deferred (some []))::(hs++hpX))) (w1.putObj (w.heap.size+1) (.loop (rec .busy none))):=ZWl (o:=.loop (rec .ready none)) hh1;have hf2:Fr (Imm P0' B' (ZA2 (w.heap.size+1) (.loop (rec .busy none))::(ZA2 w.heap.size (.deferred (some []))::(hs++hpX)))) (w1.putObj (w.heap.size+1) (.loop (rec .busy none))) a1 (F1 x):=hf1.mono fun d v hd=>ZAq (o:=.loop (rec .ready none)) hd;obtain⟨hh3,hI3⟩:=hh2.perm ZDC;refine wpIn_mono ((hbody (w.heap.size+1) pre x hs _ hlt hH).out P0' B' w0' _ _ hh3 (hf2.mono fun d v hd=>d.weak hd fun k hk=>(hI3 k).1 hk)) ?_;rintro e a3 w3 ⟨f3,q3,⟨rfl,hs',hH',rfl⟩,hh4,hf4⟩;obtain⟨hh5,_⟩:=hh4.perm ZDC.symm;have hl3:w3.heap[w.heap.size+1]?=some (.loop (rec .busy none)):=hh5.ok (ZA2 (w.heap.size+1) (.loop (rec .busy none))) (by simp);have hrz:({ rec .busy none with state:=if(none:Option Code).isNone then .ready else .done,pending:=none }:Loop)=rec .ready none:=by rw[hrec];rfl
  have hend:=run_endRound (P:=P) none hl3;rw[hrz] at hend;refine⟨_,_,hend,rfl,_,⟨hs',hH',rfl⟩,?_⟩;exact ZWl (o:=.loop (rec .busy none)) hh5⟩
 have hC:=(hS.out (w.heap.size+1) _ hY _ hJ0).out P0 B w0 (hFr a fr::hp) (.func (.yield (w.heap.size+1)) #[] #[]::lb) W1 (by simpa using hB) (by simp) (fun i d hd=>by
  cases i with
  | zero=>simp at hd;subst hd;rfl
  | succ i =>
   simp only[List.getElem?_cons_succ,List.getElem?_map] at hd;cases hq:lb[i]? with
   | none=>rw[hq] at hd;cases hd
   | some u=>rw[hq] at hd;cases hd;simp[List.getD,hq];rfl)
 refine⟨w.heap.size+1,[{ target:=.collected w.heap.size,args:=#[] }],W1,{ target:=.fn (.func gf) lb.toArray,args:=#[.func (.yield (w.heap.size+1)) #[] #[]] },W1,gf,
  (.func (.yield (w.heap.size+1)) #[] #[]::lb).toArray,W1,?_,?_,fun _ _=>trivial,?_,fun h=>by simp[Fence.wide] at h,?_⟩
 ·rw[<- hW1,hrec];exact run_enterLoop_outer _ _ _ _ _
 ·have hev0:({ tmps:=a.tmps,defers:=[] }:Act).eval g = .func (.func gf) #[] lb.toArray:=hg.ev hf;have hev:a.eval g = .func (.func gf) #[] lb.toArray:=hev0;simp only[resolve,hev];simp[go_sem]
 ·have:=he (.func (.yield (w.heap.size+1)) #[] #[]::lb).toArray W1;simp[invoke,go_sem,this]
 ·refine callsIn_wide.2 (hC.mono ?_);rintro e w2 ⟨v,d,hp2,rfl,⟨js',⟨hs,hH,rfl⟩,rfl⟩,hh2,_⟩;have hl2:w2.heap[w.heap.size+1]?=some (.loop (rec .ready none)):=hh2.ok (ZA2 (w.heap.size+1) (.loop (rec .ready none))) (by simp);have hend:=run_endLoop (P:=P) hl2 (by rw[hrec];simp);have hpn:(rec .ready none).pending=none:=by rw[hrec]
  obtain⟨rx,hrx⟩:∃rx:Loop,rx={ rec .ready none with state:=.exhausted }:=⟨_,rfl⟩;rw[<- hrx,hpn] at hend;refine⟨none,_,hend,?_⟩;have hh3:Hp P0 B w0 (ZA2 (w.heap.size+1) (.loop rx)::(ZA2 w.heap.size (.deferred (some []))::(hs++(hk++(hFr a fr::hp))))) (w2.putObj (w.heap.size+1) (.loop rx)) :=
   ZWl (o:=.loop (rec .ready none)) (by simpa using hh2)
  have hh4:=hh3.drop;have hh5:Hp P0 B w0 ((ZA2 w.heap.size (.deferred (some []))::(hs++hk))++hFr a fr::hp) (w2.putObj (w.heap.size+1) (.loop rx)):=by simpa using hh4
  obtain⟨hh6,hok⟩:=hh5.unghost hgb;have e1:(ZA2 w.heap.size (.deferred (some []))::(hs++hk))++hp=ZA2 w.heap.size (.deferred (some []))::(hs++(hk++hp)):=by simp
  rw[e1] at hh6 hok;have:=hpost w.heap.size hs _ hH hh6 hok;simpa using this
end
section
open Go.RowKit
def actZ (a:Act):Act:={ tmps:=a.tmps,defers:=[] }
structure WK (K:Act->World->Prop) (P0:Nat->Prop) (B:Nat) (w0:World) (ds:List Deferred) (fr:List Dat) (hp:List HObj):Prop where
 of ::
 out:∀(a:Act) (w:World),a.defers=ds->Hp P0 B w0 hp w->Fr (Imm P0 B hp) w (actZ a) fr->K a w
abbrev WY (P:Program) (QR:Exit->Act->World->Prop) (P0:Nat->Prop) (B:Nat) (w0:World) (ds:List Deferred) (c:Code) (fr:List Dat) (hp:List HObj):Prop:=WK (c.wp P QR) P0 B w0 ds fr hp
abbrev WV (P:Program) (ops:Array Oper) (QR:Exit->Act->World->Prop) (P0:Nat->Prop) (B:Nat) (w0:World) (ds:List Deferred) (rest:List Oper) (fr:List Dat) (hp:List HObj):Prop:=WK (wpList P ops QR rest) P0 B w0 ds fr hp
section
variable {P:Program} {ops:Array Oper} {QR:Exit->Act->World->Prop} {K:Act->World->Prop} {P0:Nat->Prop} {B:Nat} {w0:World} {ds:List Deferred} {fr fr':List Dat} {hp hp':List HObj} {o:Oper} {rest:List Oper} {d:Dat} {x y:Code}
theorem WK.perm (h:hp.Perm hp') (k:WK K P0 B w0 ds fr hp'):WK K P0 B w0 ds fr hp:=WK.of fun a w ha hh hf =>
 let ⟨h1,h2⟩:=hh.perm h
 k.out a w ha h1 (hf.mono fun d _ hd=>d.weak hd fun k hk=>(h2 k).1 hk)
theorem WK.drop {ob:HObj} (k:WK K P0 B w0 ds fr hp):WK K P0 B w0 ds fr (ob::hp):=WK.of fun a w ha hh hf=>k.out a w ha hh.drop (hf.mono fun d _ hd=>d.weak hd ZWZ)
theorem WV.op (hg:o.guard=none) (h:SY P ops hp o fr d) (k:WV P ops QR P0 B w0 ds rest (ZC fr o.dst d) hp):WV P ops QR P0 B w0 ds (o::rest) fr hp:=WK.of fun a w ha hh hf =>
 ZDe hg h hh hf fun a' w' ha' hh' hf'=>k.out a' w' (ha'.trans ha) hh' hf'
theorem WV.nil (k:WK (QR .normal) P0 B w0 ds fr hp):WV P ops QR P0 B w0 ds [] fr hp:=k
theorem WY.region {id:Nat} {l:List Oper} (h:WV P l.toArray QR P0 B w0 ds l fr hp):WY P QR P0 B w0 ds (.region id l.toArray false) fr hp:=WK.of fun a w ha hh hf=>wp_region_lit (h.out a w ha hh hf)
theorem WY.seq (h:WY P (Exit.then (y.wp P QR) QR) P0 B w0 ds x fr hp):WY P QR P0 B w0 ds (.seq x y) fr hp:=WK.of fun a w ha hh hf=>wp_seq (h.out a w ha hh hf)
theorem WY.exit {id:Nat} (h:WK (QR (.exit id)) P0 B w0 ds fr hp):WY P QR P0 B w0 ds (.exit id) fr hp:=WK.of fun a w ha hh hf=>wp_exit (h.out a w ha hh hf)
theorem WY.block {id:Nat} (h:WY P (Exit.inBlock id QR) P0 B w0 ds x fr hp):WY P QR P0 B w0 ds (.block id x) fr hp:=WK.of fun a w ha hh hf=>wp_block (h.out a w ha hh hf)
theorem ZCe (h:∀Kx:List Dat->List HObj->Prop,(∀f p,WY P QR P0 B w0 [] y f p->Kont Kx f p)->WC P (ThenD (Kont Kx) (fun _ _ _=>False)) x fr hp):WY P QR P0 B w0 [] (.seq x y) fr hp:=WK.of fun a w ha hh hf=>by
 have ha2:actZ a=a:=by cases a;cases ha;rfl
 rw[ha2] at hf;refine wp_seq (Code.wp_mono ?_ ((h (fun f p=>WY P QR P0 B w0 [] y f p) fun f p k=>⟨k⟩).on hh hf));rintro e a' w' ⟨f,p,q,hh',hf'⟩;cases e with
 | normal =>
  have hk:Kont (fun f p=>WY P QR P0 B w0 [] y f p) f p:=q;have ha3:actZ a'=a':=by
   have:=hf'.defers;cases a';cases this;rfl
  exact hk.out.out a' w' hf'.defers hh' (by rw[ha3];exact hf')
 | _=>exact(q:False).elim
theorem ZOU {id:Nat} (k:WK (QR .normal) P0 B w0 ds fr hp):WK (Exit.inBlock id QR .normal) P0 B w0 ds fr hp:=k
theorem ZRF (k:WK K P0 B w0 ds fr hp):WK (Exit.then K QR .normal) P0 B w0 ds fr hp:=k
end
theorem WY.range {P:Program} {QR:Exit->Act->World->Prop} {P0:Nat->Prop} {B:Nat} {w0:World} {ds:List Deferred} {g:Operand} {p:Tmp} {assign body:Code} {fr:List Dat} {gf:FuncId} {lb:List Value} {hk hp hs0:List HObj} {α:Type} {D:α->Dat} {xs:List α} (H:List α->List HObj->Prop) (F0:List Dat) (F1:α->List Dat)
  (hg:OpD fr g (dX (.func (.func gf) #[] lb.toArray))) (he:ZBR P gf) {N:Nat} (hS:SeqN P gf lb hk D xs N) (h0:H [] hs0) (hF:FixF fr F0)
  (hassign:∀(l:Nat) (x:α) (q:List HObj),WR P l (fun e f q'=>e = .normal/\q'=q/\f=F1 x) assign (F0.set p (D x)) q)
  (hbody:∀(l:Nat) (pre:List α) (x:α) (hs q:List HObj),pre.length<N->H pre hs->WR P l (fun e _ q'=>e = .normal/\∃hs',H (pre++[x]) hs'/\q'=hs'++q) body (F1 x) (hs++q))
  (hpost:∀(k:Nat) (hs:List HObj),H xs hs->WK (QR .normal) P0 B w0 ({ target:=.collected k,args:=#[] }::ds) fr (ZA2 k (.deferred (some []))::(hs++(hk++hp)))) :
  WY P QR P0 B w0 ds (.rangeFunc g #[p] assign body) fr (hs0++(hk++hp)):=WK.of fun a w ha hh hf=>by
 refine ZQo H F0 F1 hh hf hg he hS h0 hF hassign hbody fun k hs w' hH hh' hrd=>?_;rw[<- ha] at hpost;exact(hpost k hs hH).out _ w' rfl hh' ⟨rfl,hf.size,hrd⟩
theorem ZOl {P:Program} {QR:Exit->Act->World->Prop} {P0:Nat->Prop} {B:Nat} {w0:World} {ds:List Deferred} {g:Operand} {p q id:Nat} {ty:TypeId} {ps:String} {af:Array Edge} {body:Code} {fr:List Dat} {gf:FuncId} {lb:List Value} {hk hp hs0:List HObj} {α:Type} {D:α->Dat} {xs:List α} (H:List α->List HObj->Prop) (F0:List Dat)
  (hg:OpD fr g (dX (.func (.func gf) #[] lb.toArray))) (he:ZBR P gf) {N:Nat} (hS:SeqN P gf lb hk D xs N) (h0:H [] hs0) (hF:FixF fr F0) (hpl:p<fr.length)
  (hbody:∀(l:Nat) (pre:List α) (x:α) (hs q':List HObj),pre.length<N->H pre hs->WR P l (fun e _ q2=>e = .normal/\∃hs',H (pre++[x]) hs'/\q2=hs'++q') body ((F0.set p (D x)).set q (D x)) (hs++q'))
  (hpost:∀(k:Nat) (hs:List HObj),H xs hs->WK (QR .normal) P0 B w0 ({ target:=.collected k,args:=#[] }::ds) fr (ZA2 k (.deferred (some []))::(hs++(hk++hp)))) :
  WY P QR P0 B w0 ds (.rangeFunc g #[p] (.region id #[⟨some q,.assign (.tmp p),ty,ps,af,none⟩] false) body) fr (hs0++(hk++hp)) :=
 WY.range H F0 (fun x=>(F0.set p (D x)).set q (D x)) hg he hS h0 hF (fun l x q'=>WR.region (ops:=[_]) rfl (I.WL.op rfl (ZVn (ZVh (by
  rw[List.getElem?_set];rw[if_pos rfl,if_pos (by rw[<- hF.out.1];exact hpl)]))) (I.WL.nil ⟨rfl,rfl,rfl⟩))) hbody hpost
theorem SeqC.toN {P:Program} {gf:FuncId} {lb:List Value} {hk:List HObj} {α:Type} {D:α->Dat} {xs:List α} (h:SeqC P gf lb hk D xs):SeqN P gf lb hk D xs xs.length:=⟨h.out⟩
def markD (k:Nat):Deferred:={ target:=.collected k,args:=#[] }
def ZHg (k:Nat):HObj:=ZA2 k (.deferred (some []))
theorem ZPc {F:Fence} {n:Nat} {P:Program} {fn:Func} {tmps:Array Value} {R:Ending->World->Prop} {P0:Nat->Prop} {B:Nat} {w0:World} {hp:List HObj} {u:FrameMode} (hu:u ≠ .run) :
  ∀(ks:List Nat) (w:World),Hp P0 B w0 (ks.map ZHg++hp) w->(∀w',Hp P0 B w0 hp w'->(∀(d:Dat) (v:Value),d.rd (Imm P0 B (ks.map ZHg++hp)) w v->d.rd (Imm P0 B hp) w' v)->LeavesInM F n P fn tmps R [] u w')->LeavesInM F n P fn tmps R (ks.map markD) u w
 | [],w,hh,h=>h w hh fun _ _ hd=>hd
 | k::ks,w,hh,h=>by
  have hK:w.heap[k]?=some (.deferred (some [])):=hh.ok (ZHg k) (by simp);refine⟨hu,.inl ⟨k,_,rfl,run_takeDeferred hK,?_⟩⟩;have hh2:Hp P0 B w0 (ZA2 k (.deferred none)::(ks.map ZHg++hp)) _:=ZWl (o':=.deferred none) hh;exact ZPc hu ks _ hh2.drop fun w' hh' hd'=>h w' hh' fun d v hd=>hd' d v (d.weak (ZAq (o:=.deferred (some [])) (o':=.deferred none) hd) ZWZ)
end
section
open Go.RowKit
section
variable {P:Program} {ops:Array Oper} {md:Region.Mode} {fr fr':List Dat} {hp:List HObj} {C:List HObj->Prop}
inductive WRd (P:Program) (ops:Array Oper) (C:List HObj->Prop) (Q:List Dat->Prop):List Nat->List Dat->Prop
 | nil {fr:List Dat}:Q fr->WRd P ops C Q [] fr
 | read {i:Nat} {o:Oper} {r:List Nat} {fr:List Dat} {d:Dat}:ops[i]?=some o->(∀hp',C hp'->SYG P ops hp' o fr d)->WRd P ops C Q r (ZC fr o.dst d)->WRd P ops C Q (i::r) fr
structure W2 (P:Program) (ops:Array Oper) (C:List HObj->Prop) (R:List Dat->List HObj->Prop) (i j:Nat) (fr:List Dat) (hp:List HObj):Prop where
 out:∃oi oj,ops[i]?=some oi/\ops[j]?=some oj/\∃(β:Type) (H:β->List HObj) (D:β->Dat),SW P ops hp H D oi fr/\(∀x,C (H x))/\∀x,∃(γ:Type) (H2:γ->List HObj) (D2:γ->Dat),SW P ops (H x) H2 D2 oj (ZC fr oi.dst (D x))/\(∀y,C (H2 y))/\∀y,R (ZC (ZC fr oi.dst (D x)) oj.dst (D2 y)) (H2 y)
theorem W2.id {R:List Dat->List HObj->Prop} {i j:Nat} (h:W2 P ops C R i j fr hp):W2 P ops C R i j fr hp:=h
theorem WRd.id {Q:List Dat->Prop} {r:List Nat} (h:WRd P ops C Q r fr):WRd P ops C Q r fr:=h
theorem SW.alloc {dst:Option Tmp} {ty:TypeId} {ps:String} {af:Array Edge} {T:TypeId} {n:Nat} {agg:Bool} {z:Value} (hz:TyZ P T z) (hs:(dX z).Shape n agg) :
  SW P ops hp (fun b:Nat=>Zm b T n agg (dX z)::hp) (fun b=>dX (.pointer (some ⟨b,0,none⟩))) ⟨dst,.alloc T,ty,ps,af,none⟩ fr:=⟨rfl,fun {P0 B w0 w a} hh ho K Q hk=>by
 obtain⟨cs,k1,k0,k2,k3,k4⟩:=hs (fun _=>True) w z rfl;have hrun:(execOp a.eval ⟨dst,.alloc T,ty,ps,af,none⟩).run P w = .ok (.value (.pointer (some ⟨w.heap.size,0,none⟩))) (w.alloc (.cells cs.toArray T)):=by
  cases hq:P.info? T with
  | none=>have:=hz.out;simp[hq] at this
  | some i =>
   have hz':i.zero=some z:=by have:=hz.out;simpa[hq] using this
   unfold execOp;simp[Instr.alloc,zeroValue,typeInfo,hq,hz',newVar,newRow,k3]
 unfold Oper.wp;rw[hrun];have hx:=ZWU w (.cells cs.toArray T);have hb:∀k,(Zm w.heap.size T n agg (dX z)).blk=some k->w.heap.size≤k/\k<(w.alloc (.cells cs.toArray T)).heap.size:=fun k hk=>by
  cases hk;exact⟨Nat.le_refl _,by simp⟩
 exact hk w.heap.size _ _ (hh.push hx hb ⟨cs,z,Zw w _,k1,k0,k2,k4,rfl⟩) (fun d u hd=>ZAJ hx (fun k hk=>(hb k hk).1) hd) rfl⟩
end
end
section
open Go.RowKit
section
variable {P:Program} {ops:Array Oper} {hp:List HObj} {fr:List Dat} {d:Dat} {dst:Option Tmp} {ty:TypeId} {ps:String} {af:Array Edge} {t e:TypeId} {n:Nat} {z:Value} {bytes:Nat} {ag:Bool}
theorem ZGb {x:Operand} {t b n:Nat} {T T2:TypeId} {agg:Bool} {d0:Dat} (hT:TyI P T n agg) (hp0:OpD fr (.tmp t) (dX (.pointer (some ⟨b,0,none⟩)))) (hx:OpD fr x d) (hs:d.Shape n agg) :
  SW P ops (Zm b T2 n agg d0::hp) (fun _:Unit=>Zm b T2 n agg d::hp) (fun _=>dX undef) ⟨none,.store T (.tmp t) x,ty,ps,af,none⟩ fr:=⟨rfl,fun {P0 B w0 w a} hh ho K Q hk=>by
 obtain⟨cs,u,c1,c2,c0,c3,c4,c5⟩:=hh.ok (Zm b T2 n agg d0) (by simp);have h1:d.rd (Imm P0 B (Zm b T2 n agg d0::hp)) w (a.eval x):=hx.get (by simp[Op.operands]) ho;obtain⟨cs',k1,k0,k2,k3,k4⟩:=hs _ _ _ h1;have h2:a.eval (.tmp t) = .pointer (some ⟨b,0,none⟩):=hp0.get (by simp[Op.operands]) ho;have hr:=ZDG (u:=a.eval x) hT.size c1 c2 k1 k2 k3;have hrun:(execOp a.eval ⟨none,.store T (.tmp t) x,ty,ps,af,none⟩).run P w = .ok .skip (w.setRow b cs'.toArray):=by
  unfold execOp;simp only[h2,Sem.run_bind,hr,Result.andThen_ok,Sem.run_pure]
 unfold Oper.wp;rw[hrun];have hgr:w.grownBy (w.setRow b cs'.toArray) (Zm b T2 n agg d0).blk:=ZAM;have hok:(Zm b T2 n agg d).ok (fun k=>Imm P0 B (Zm b T2 n agg d0::hp) k/\k<w.heap.size) (w.setRow b cs'.toArray) :=
  ⟨cs',a.eval x,setRow_heap w b _ _ _ _ c1,k1,k0,k2,k4,d.grown (d.bound h1) hgr (fun k hk hc=>hc.1.2 _ (by simp) hk)⟩
 exact hk () undef _ (hh.write hgr (.inl rfl) hok) (fun d' u hd=>Zd (o':=Zm b T2 n agg d) hgr (.inl rfl) hd) rfl⟩
theorem ZM2 {Q:Z4} {c:Code} {t b n:Nat} {T:TypeId} {agg:Bool} (hp0:fr[t]?=some (dX (.pointer (some ⟨b,0,none⟩)))) (h:WC P Q c (fr.set t (dP n agg d)) hp):WC P Q c fr (Zm b T n agg d::hp):=by
 refine WC.of fun P0 B w0 w a hh hf=>?_;obtain⟨cs,u,c1,c2,c0,c3,c4,c5⟩:=hh.ok (Zm b T n agg d) (by simp);have hown:=hh.own (Zm b T n agg d) (by simp) b rfl;refine h.on hh.drop ⟨hf.defers,by rw[hf.size,List.length_set],fun t' d' hd'=>?_⟩;by_cases htt:t=t'
 ·subst htt;rw[List.getElem?_set] at hd';simp only[if_true] at hd';split at hd'
  ·cases hd';have hv:a.tmps.getD t undef = .pointer (some ⟨b,0,none⟩):=hf.rd t _ hp0;rw[hv];refine⟨b,0,u,rfl,ZA6 c1 c2 c0 c3 c4 ⟨.inr hown.1,fun o' ho' hk=>?_⟩,d.weak c5 ZWZ⟩;exact(List.pairwise_cons.1 hh.apart).1 o' ho' b rfl hk
  ·cases hd'
 ·rw[List.getElem?_set_ne htt] at hd';exact d'.weak (hf.rd t' d' hd') ZWZ
end
end
section
open Go.RowKit
section
variable {P:Program} {ops:Array Oper} {hp:List HObj} {fr:List Dat} {d e:Dat} {dst:Option Tmp} {ty:TypeId} {ps:String} {af:Array Edge} {g:Option (Nat × Bool)} {T T1 T2:TypeId} {x y:Operand}
theorem ZBB {l:Cx} (T':TyI P T1 1 true) (hx:OpD fr x (dP 1 false (dS Zh l))):SY P ops hp ⟨dst,.load T1 x,ty,ps,af,g⟩ fr (dS Cpx l):=ZWK fun {I w a} ho=>by
 obtain⟨b,off,u,h1,⟨hb,cs,k1,k0,k2,k3,k4⟩,hu⟩:=hx.get (by simp[Op.operands]) ho;simp only[Bool.false_eq_true,if_false] at k4;subst k4;have hc:Cells I w b off 1 true (.agg #[u]):=⟨hb,[u],rfl,Nat.one_pos,k2,k3,rfl⟩;refine⟨.agg #[u],?_,u,rfl,k2 u (by simp),hu⟩;unfold execOp;simp only[h1,Sem.run_bind,ZA8 T' hc,Result.andThen_ok,Sem.run_pure]
theorem ZOA {n:Nat} (S:StrT P T n) (hn:0<n) (hx:OpD fr x (dP 1 false d)):SY P ops hp ⟨dst,.fieldAddr T x 0,ty,ps,af,g⟩ fr (dP 1 false d):=ZWK fun {I w a} ho=>by
 obtain⟨b,off,u,h1,h2,h3⟩:=hx.get (by simp[Op.operands]) ho;refine⟨.pointer (some ⟨b,off,none⟩),?_,b,off,u,rfl,h2,h3⟩;unfold execOp;simp only[h1,Sem.run_bind,S.fld b off 0 w hn,Result.andThen_ok,Sem.run_pure];rfl
end
theorem strCx:StrT Tryz.prog 29 1:=⟨fun b off i w hi=>by
 have:i=0:=by omega
 subst this
 go_simp⟩
end
section
open Go.RowKit

abbrev ZHZ (l:Cx) (f:Vx->Int):Dat:=ZEN [dS Zh l,ZNL f]
theorem ZHO:StrT Tryz.prog 93 2:=⟨fun b off i w hi=>by
 match i,hi with
 | 0,_=>go_simp
 | 1,_=>go_simp⟩
theorem ZBx:TyI Tryz.prog 93 2 true:=⟨by kernel_rfl,Tryz.isAgg93⟩
def ZHh (f:Vx->Int) (k:Int) (v:Vx):Bool:=!decide (ZQu (f v) (k+1)=0)
def ZAg (f:Vx->Int) (k:Int) (s:List Vx):Bool:=!(s.any (ZHh f k))
def ZF6 (f:Vx->Int) (a:Int) (s:List Vx):Bool:=decide (ZQt (orL f s) a=a)
theorem ZR7 (l:Cx) (f:Vx->Int) (k:Int) (hk:0≤k/\k≤1000) (v:Vx):Fn Tryz.prog 100 ([dS RV v]++[dP 2 true (ZHZ l f),dP 1 false (dI k)]) (dB (ZHh f k v)):=by
 show Fn Tryz.prog 100 [dS RV v,dP 2 true (ZHZ l f),dP 1 false (dI k)] _;have hk1:0≤k+1:=by omega
 refine zE Tryz.func100 13 ?_;((repeat' (first|refine zS ?_|refine WD.nil ?_|refine ZA fun Kx hK=>?_|(refine hK _ _ ?_;clear hK)|(apply ZWB;kernel_rfl;kernel_rfl)|((first|apply ZVi|apply ZVl);(focus ((first|(refine ZW ZHO (ZVh rfl) (ZWI _) rfl rfl)|(apply ZVy;exact tyFi;exact ZVh rfl)|(apply ZBJ (x:=v);(exact ZVh rfl);exact aD)|(exact SY.shr (ZVh rfl) (ZVh rfl) hk1)|exact yG|fail);all_goals infer_instance));dsimp only[ZC,z0,z1])|refine ZVs ?_));all_goals ((repeat clear hK);repeat clear Kx))
 all_goals try exact xO
 (refine⟨trivial,_,rfl,?_⟩;exact fD)
theorem ZUC (l:Cx) (f:Vx->Int) (k:Int) (hk:0≤k/\k≤1000) (s:List Vx):Fn Tryz.prog 99 ([dS ZI s]++[dP 2 true (ZHZ l f),dP 1 false (dI k)]) (dB (ZAg f k s)):=by
 show Fn Tryz.prog 99 [dS ZI s,dP 2 true (ZHZ l f),dP 1 false (dI k)] _;refine zE Tryz.func99 9 ?_;((repeat' (first|refine zS ?_|refine ZA fun Kx hK=>?_|(refine hK _ _ ?_;clear hK)|(apply zV;(focus ((first|(apply ZBj (A:=fun v:Vx=>[dS RV v]) (r:=fun v=>dB (ZHh f k v)) Tryz.call100 (fun v=>ZR7 l f k hk v) (fun _=>ZHs);exact aD)|(apply ZVm (ZSq _ (ZHh f k)) Tryz.call83;exact aD)|exact yG);all_goals infer_instance));exact zQ)|refine ZVs ?_));all_goals ((repeat clear hK);repeat clear Kx))
 all_goals try exact xO
 (refine⟨trivial,_,rfl,?_⟩;exact fD)
abbrev dOk (q:List Vx->Bool):Dat:=ZK7 Tryz.prog (fun s:List Vx=>[dS ZI s]) (fun s=>dB (q s))
theorem ZKZ (l:Cx) (f:Vx->Int) (k:Int) (hk:0≤k/\k≤1000):Fn Tryz.prog 60 [ZHZ l f,dI k] (dOk (ZAg f k)):=by
 refine zE Tryz.func60 6 ?_;((repeat' (first|refine zS ?_|refine ZA fun Kx hK=>?_|(refine hK _ _ ?_;clear hK)|(apply zV;(focus ((first|(exact ZV3 (ZVh rfl) (ZAD (n:=2) (by decide) rfl))|(apply ZBj (A:=fun s:List Vx=>[dS ZI s]) (r:=fun s=>dB (ZAg f k s)) Tryz.call99 (fun s=>ZUC l f k hk s) (fun _=>ZHs);exact aD)|exact yG);all_goals infer_instance));exact zQ)|refine ZVs ?_));all_goals ((repeat clear hK);repeat clear Kx))
 all_goals try exact xO
 (refine⟨trivial,_,rfl,?_⟩;exact fD)
theorem ZU1 (l:Cx) (f:Vx->Int) (a:Int) (s:List Vx):Fn Tryz.prog 115 ([dS ZI s]++[dP 2 true (ZHZ l f),dP 1 false (dI a)]) (dB (ZF6 f a s)):=by
 show Fn Tryz.prog 115 [dS ZI s,dP 2 true (ZHZ l f),dP 1 false (dI a)] _;refine zE Tryz.func115 13 ?_;((repeat' (first|refine zS ?_|refine WD.nil ?_|refine ZA fun Kx hK=>?_|(refine hK _ _ ?_;clear hK)|(apply ZWB;kernel_rfl;kernel_rfl)|((first|apply ZVi|apply ZVl);(focus ((first|(refine ZW ZHO (ZVh rfl) (ZWI _) rfl rfl)|(apply ZVy;exact tyFi;exact ZVh rfl)|(apply ZVm (ZFq s f) Tryz.call45;exact aD)|exact yG|fail);all_goals infer_instance));dsimp only[ZC,z0,z1])|refine ZVs ?_));all_goals ((repeat clear hK);repeat clear Kx))
 all_goals try exact xO
 (refine⟨trivial,_,rfl,?_⟩;exact fD)
theorem two9:∀k:Fin 9,ZRt 1 (k.val:Int)=((2 ^ k.val:Nat):Int):=by decide +kernel
theorem pow9:∀k:Fin 9,2 ^ k.val≤256:=by decide +kernel
theorem ZLI {P:Program} {ops:Array Oper} {hp:List HObj} {fr:List Dat} {dst:Option Tmp} {ty:TypeId} {ps:String} {af:Array Edge} {g:Option (Nat × Bool)} {x y:Operand} {T T2:TypeId} {k:Nat} (hk:k≤8) (hx:OpD fr x (dI 1)) (hy:OpD fr y (dI (k:Int))) :
  SY P ops hp ⟨dst,.binOp .shl T x y T2,ty,ps,af,g⟩ fr (dI ((2 ^ k:Nat):Int)):=two9 ⟨k,by omega⟩ ▸ SY.shl hx hy (by simp only;omega)
theorem ZVa:TyZ Tryz.prog 3 (.int .i64 0):=⟨by kernel_rfl⟩
theorem ZJ3 (l:Cx) (f:Vx->Int) (k:Nat) (hk:k≤8):Fn Tryz.prog 70 [ZHZ l f,dI (k:Int)] (dOk (ZF6 f (((2 ^ k:Nat):Int)-1))):=by
 have hp:=pow9 ⟨k,by omega⟩;simp only at hp;generalize hN:2 ^ k=N at hp;refine zE Tryz.func70 10 ?_;((repeat' (first|(apply zV;exact yF;exact zQ)|refine ZVj ?_|refine ZA fun Kx hK=>?_|(refine hK _ _ ?_;clear hK)|refine ZVk ?_ |  (refine ZWF ZVa (Z0 rfl) fun b5=>?_;dsimp only[ZC,z0,z1]) |  (refine ZR tyI rfl (ZVh rfl) ZAS ?_;dsimp only[ZC,z0,z1])|(apply zV;(focus ((first|(exact ZV3 (ZVh rfl) (ZAD (n:=2) (by decide) rfl))|(refine hN ▸ ZLI hk ZV5 (ZVh rfl))|(apply ZBj (A:=fun s:List Vx=>[dS ZI s]) (r:=fun s=>dB (ZF6 f ((N:Int)-1) s)) Tryz.call115 (fun s=>ZU1 l f ((N:Int)-1) s) (fun _=>ZHs);exact aD)|exact yG);all_goals infer_instance));exact zQ)|refine ZVs ?_));all_goals ((repeat clear hK);repeat clear Kx))
 all_goals try exact xO
 (refine⟨trivial,_,rfl,?_⟩;exact fD)
theorem ZSu {α:Type} {l:List α} {q:α->Bool} {k:Nat} (h:k<l.length):(l.take (k+1)).filter q=(l.take k).filter q++(if q l[k]=true then[l[k]] else[]):=by
 rw[List.take_succ_eq_append_getElem h,List.filter_append];congr 1;by_cases hq:q l[k]=true
 ·rw[if_pos hq,List.filter_cons_of_pos hq];rfl
 ·rw[if_neg hq,List.filter_cons_of_neg hq];rfl
def ZCk (l:Cx) (k:Int) (q:List Vx->Bool):List (List Vx):=if k>8 then[] else(ZCR l k).1.filter q
theorem ZJG (l:Cx) (f:Vx->Int) (k:Int) (q:List Vx->Bool) (hl:k≤8->(ZCR l k).1.length≤1000000):Fn Tryz.prog 59 [ZHZ l f,dI k,dOk q] (dS Zh (ZCk l k q)):=by
 unfold ZCk;refine zE Tryz.func59 36 ?_;by_cases hk:k>8
 ·rw[if_pos hk];((repeat' (first|refine zS ?_|refine ZA fun Kx hK=>?_|(refine hK _ _ ?_;clear hK)|(apply zV;(focus ((first|(exact ZV3 (ZVh rfl) (ZAD (n:=2) (by decide) rfl))|exact yG);all_goals infer_instance));exact zQ)|(apply ZB;exact oD;all_goals (intro h;try exact xD))|refine ZVs ?_|refine ZVz ?_));all_goals ((repeat clear hK);repeat clear Kx))
  all_goals try exact xO
  (refine⟨trivial,_,rfl,?_⟩;exact fD)
 ·rw[if_neg hk];have hS:=ZJH l k;have hL:=hl (by omega);generalize (ZCR l k).1=L at hS hL;generalize (ZCR l k).2=e at hS;refine Zn 22 ZI ?_;(repeat' (first|refine zS ?_|refine ZA fun Kx hK=>?_|(refine hK _ _ ?_;clear hK)|(apply zV;(focus ((first|(exact ZV3 (ZVh rfl) (ZAD (n:=2) (by decide) rfl))|(refine ZW ZHO (ZVh rfl) (ZWI _) rfl rfl)|(exact ZBB tyC (ZVh rfl))|(apply ZVm (hS) Tryz.call98;exact aD)|((first|apply ZVo|apply ZVn|apply ZVq|apply ZV6) <;> exact oD)|(apply ZVu;exact oD;exact nD;exact uD)|(apply ZWG;exact oD;rfl));all_goals infer_instance));exact zQ)|(apply ZB;exact oD;all_goals (intro h;try exact xD))|refine ZVr ?_|refine ZVp ?_))
  all_goals try exact xO
  (refine ZV4 (X:=Nat × Value) (fun x=>[(23,dI (x.1:Int)),(9,dX x.2),(11,dA),(24,dA),(25,dA),(26,dA),(27,dA),(28,dA),(29,dA),(30,dA),(31,dA),(32,dA),(33,dA),(34,dA)]) (fun x=>([Zk x.2 22 ZI ((L.take x.1).filter q)])) (fun x=>L.length-x.1) (fun x=>x.1≤L.length) (0,.slice none 0 0) ?start ?frame0 ?objs0 ?round)
  case start=>exact Nat.zero_le _
  case frame0=>exact zFr
  case objs0=>rfl
  case round =>
   rintro⟨j,v⟩ h1;simp only at h1;dsimp only[ZH,z0,z1];by_cases hj:j<L.length
   ·have hjI:(j:Int)<(L.length:Int):=by omega
    have hsn:=ZSu (q:=q) hj;have hfl:((L.take j).filter q).length≤1000000:=by
     have:=List.length_filter_le q (L.take j);rw[List.length_take] at this;omega
    have h24:(((L.take j).filter q).length+1)*24≤140737488355328:=by omega
    by_cases hq:q L[j]=true
    ·rw[if_pos hq] at hsn;((repeat' (first|refine zS ?_|refine ZA fun Kx hK=>?_|(refine hK _ _ ?_;clear hK)|((first|apply Zq|apply Zl);exact eD;exact ZVh rfl;exact oD;(intro _;exact hD);(exact(by simp));(exact(by simp));(first|exact⟨by decide,by decide⟩|skip);decide;exact lD;(intro _;dsimp only[ZC,z0,z1]);all_goals (try infer_instance))|(apply zV;(focus ((first|(apply ZBJ (x:=L[j]);(exact ZVh rfl);exact aD)|exact yG);all_goals infer_instance));exact zQ)|(apply ZB;exact oD;all_goals (intro h;try exact xD))|(apply ZWY;exact oD;all_goals (intro h;try exact xD))|refine ZVr ?_|refine ZVp ?_|refine ZVx ?_));all_goals ((repeat clear hK);repeat clear Kx))
     all_goals try (exfalso;first|contradiction|omega|(simp[hq] at h;done))
     rw[<- hsn];(refine zNx (j+1,_) ?_;(try dsimp only))
     exact hj
    ·rw[if_neg hq,List.append_nil] at hsn;((repeat' (first|refine zS ?_|refine ZA fun Kx hK=>?_|(refine hK _ _ ?_;clear hK)|(apply zV;(focus ((first|(apply ZBJ (x:=L[j]);(exact ZVh rfl);exact aD)|exact yG);all_goals infer_instance));exact zQ)|(apply ZB;exact oD;all_goals (intro h;try exact xD))|(apply ZWY;exact oD;all_goals (intro h;try exact xD))|refine ZVr ?_|refine ZVp ?_|refine ZVx ?_));all_goals ((repeat clear hK);repeat clear Kx))
     all_goals try (exfalso;first|contradiction|omega|(simp[hq] at h;done))
     rw[<- hsn];(refine zNx (j+1,v) ?_;(try dsimp only))
     exact hj
   ·have hjI:¬ (j:Int)<(L.length:Int):=by omega
    obtain rfl:j=L.length:=by omega
    rw[List.take_length];((repeat' (first|refine zS ?_|refine ZA fun Kx hK=>?_|(refine hK _ _ ?_;clear hK)|(refine ZV0 ?_;clear hK)|(apply zV;exact yG;exact zQ)|(apply ZB;exact oD;all_goals (intro h;try exact xD))|refine ZVs ?_|refine ZV1 ?_));all_goals ((repeat clear hK);repeat clear Kx))
    all_goals try exact xO
    (refine⟨trivial,_,rfl,?_⟩;exact fD)
end
end Go.Proofs.YtofkoleingbbpaaGreatDoor
