/- Part 23: walks by contracts, and plain laws. -/
import Derived.Shelf.Strconv.Itoa3
import Derived.Shelf.Strings.BuilderK
import Derived.Test.YtofkoleingbbpaaGreatDoorXa22
set_option linter.unusedVariables false
set_option linter.unusedSimpArgs false
set_option linter.unusedSectionVars false
set_option maxRecDepth 100000
set_option maxHeartbeats 64000000
namespace Go.Proofs.YtofkoleingbbpaaGreatDoor
section
open Go.RowKit
section
variable {P:Program} {ops:Array Oper} {hp:List HObj} {fr:List Dat} {dst:Option Tmp} {ty:TypeId} {ps:String} {af:Array Edge} {t e:TypeId} {z:Value} {bytes:Nat} {ag:Bool}
theorem SW.app1 {s y:Operand} (E:ElT P t e 1 z bytes ag) {α:Type} {R:Rel α} {_gR:Good R} {v:Value} {xs ys:List α} (hs:OpD fr s (dX v)) (hy:OpD fr y (dS (Arr R) ys)) (hby:0<bytes)
  (hlen:(xs.length+ys.length)*bytes≤140737488355328) :
  SW P ops (Zk v e R xs::hp) (fun v':Value=>Zk v' e R (xs++ys)::hp) (fun v'=>dX v') ⟨dst,.call { callee:=.builtin .append,args:=#[s,y],argTypes:=#[t,t] },ty,ps,af,none⟩ fr:=⟨rfl,fun {P0 B w0 w a} hh ho K Q hk=>by
 obtain⟨ad,cap,hv,c1,c2,c3⟩:=(hy.get (by simp[Op.operands,Call.operands]) ho:Arr R _ _ _ _);have hm:xs.length+ys.length≤maxLen:=by
  have:(xs.length+ys.length)*1≤(xs.length+ys.length)*bytes:=Nat.mul_le_mul_left _ hby;simp only[maxLen];omega
 have hse:a.eval s=v:=hs.get (by simp[Op.operands,Call.operands]) ho;cases ad with
 | none =>
  have hy0:ys=[]:=by
   cases ys with
   | nil=>rfl
   | cons y ys=>obtain⟨_,_,_,_,_,hc,_⟩:=c3 0 (by simp);cases hc
  subst hy0;obtain⟨us,_,hown,_⟩:=hh.ok (Zk v e R xs) (by simp);have hrun:(execOp a.eval ⟨dst,.call { callee:=.builtin .append,args:=#[s,y],argTypes:=#[t,t] },ty,ps,af,none⟩).run P w = .ok (.value v) w:=by
   have hr:=ZBc (P:=P) (ty:=ty) (w:=w) E hown cap;have hv':a.eval y = .slice none 0 cap:=hv;unfold execOp;simp only[resolve,invoke,builtin,List.map_toArray,List.map_cons,List.map_nil,hse,hv',Sem.run_bind,Sem.run_pure,Result.andThen_ok];rw[hr];simp
  unfold Oper.wp;rw[hrun];have:=hk v v w;simp only[List.append_nil] at this;exact this hh (fun _ _ h=>h) rfl
 | some ad =>
  have hch:∀k:Nat,∃u:Value,∀h:k<ys.length,w.cell? (ad.add k)=some u/\u.oneCell'=true/\R (Imm P0 B (Zk v e R xs::hp)) w u ys[k]:=fun k=>by
   by_cases hk:k<ys.length
   ·obtain⟨u,b,off,r1,r2,r3,r4,r5⟩:=c3 k hk;cases r3;exact⟨u,fun _=>⟨by rw[Addr.add_lit];exact r5,r2,r1⟩⟩
   ·exact⟨undef,fun h=>absurd h hk⟩
  obtain⟨f,hfch⟩:=Classical.axiomOfChoice hch;obtain⟨v',w',hr,r1,r2,r3⟩:=ZC3 (ty:=ty) E hh (ad:=ad) (c:=cap) (ys:=ys) (news:=(List.range ys.length).map f) (by simp) (fun j u hu=>by
    obtain⟨hjl,hju⟩:=List.getElem?_eq_some_iff.1 hu;simp at hjl hju;subst hju;exact(hfch j hjl).1) (fun u hu=>by
    simp only[List.mem_map,List.mem_range] at hu;obtain⟨j,hj,rfl⟩:=hu;exact(hfch j hj).2.1) (fun k h1 h2=>by
    simp only[List.getElem_map,List.getElem_range];exact(hfch k h2).2.2) hlen hm
  have hrun:(execOp a.eval ⟨dst,.call { callee:=.builtin .append,args:=#[s,y],argTypes:=#[t,t] },ty,ps,af,none⟩).run P w = .ok (.value v') w':=by
   unfold execOp;simp only[resolve,invoke,builtin,List.map_toArray,List.map_cons,List.map_nil,hse,hv,Sem.run_bind,Sem.run_pure,Result.andThen_ok,hr]
  unfold Oper.wp;rw[hrun];exact hk v' v' w' r1 (fun d u hd=>Ze (o:=Zk v e R xs) (o':=Zk v' e R (xs++ys)) r2 r3 hd) rfl⟩
end
section
variable {P:Program} {ops:Array Oper} {hp:List HObj} {fr:List Dat} {d:Dat}
variable {dst:Option Tmp} {ty:TypeId} {ps:String} {af:Array Edge} {g:Option (Nat × Bool)} {t k e:TypeId} {z:Value} {K V:Type} [DecidableEq K] {kv:K->Value} {ok:K->Prop} {vv:V->Value} {m:List (K × V)} {b:Nat}
theorem ZOD {x y:Operand} {v:K} {u:V} (T:MapT P t k e z) (H:KeyT P k kv ok) (hx:OpD fr x (dX (.map (some b)))) (hm:hM b kv vv m∈hp) (hy:OpD fr y d) (hd:IsV d (kv v)) (ho:ok v) (hok:∀p∈m,ok p.1) (hn:(m.map (·.1)).Nodup) (hl:Go.Proofs.YtofkoleingbbpaaGreatDoor.lookM m v=some u) :
  SY P ops hp ⟨dst,.lookup t x y false,ty,ps,af,g⟩ fr (dX (vv u)):=by
 have:=SY.lookM (ops:=ops) (dst:=dst) (ty:=ty) (ps:=ps) (af:=af) (g:=g) T H hx hm hy hd ho hok hn;rwa[hl] at this
theorem ZOC {x y:Operand} {v:K} (T:MapT P t k e z) (H:KeyT P k kv ok) (hx:OpD fr x (dX (.map (some b)))) (hm:hM b kv vv m∈hp) (hy:OpD fr y d) (hd:IsV d (kv v)) (ho:ok v) (hok:∀p∈m,ok p.1) (hn:(m.map (·.1)).Nodup) (hl:Go.Proofs.YtofkoleingbbpaaGreatDoor.lookM m v=none) :
  SY P ops hp ⟨dst,.lookup t x y false,ty,ps,af,g⟩ fr (dX z):=by
 have:=SY.lookM (ops:=ops) (dst:=dst) (ty:=ty) (ps:=ps) (af:=af) (g:=g) T H hx hm hy hd ho hok hn;rwa[hl] at this
end
end
section
open Go.RowKit
section
variable {P:Program} {ops:Array Oper} {hp:List HObj} {fr:List Dat} {d:Dat} {Q:Z5} {rest:List Oper} {K:Dat->List HObj->Prop}
variable {dst:Option Tmp} {ty:TypeId} {ps:String} {af:Array Edge} {g:Option (Nat × Bool)} {b cap bytes:Nat} {e e2 t T T2:TypeId} {z:Value} {ag:Bool}
theorem ZDO {x:Operand} {T:TypeId} (hx:OpD fr x (dB true)):SY P ops hp ⟨dst,.unOp .not T x,ty,ps,af,g⟩ fr (dB false):=SY.not hx
end

end
section
def carB (s:List Vx) (v:Vx):List Vx:=atB s v.2.toNat
def stepR (s:List Vx) (d:Cx × List (Vx × List Vx)) (t:List Vx):Cx × List (Vx × List Vx):=(ZCb d.1 t,t.foldl (fun d v=>putS d v (carB s v)) d.2)
end
section
open Go.RowKit

abbrev CarM:=List (Vx × Value × List Vx)
structure Bld (L:List Vx) (car:Vx->List Vx) (M:CarM):Prop where
 nodup:(M.map (·.1)).Nodup
 mem:∀v,v∈M.map (·.1)↔v∈L
 car:∀p∈M,p.2.2=car p.1
 ok:∀p∈M,okV p.1
theorem Bld.nil (car:Vx->List Vx):Bld [] car []:=⟨by simp,by simp,by simp,by simp⟩
theorem Bld.put {L:List Vx} {car:Vx->List Vx} {M:CarM} (h:Bld L car M) {v:Vx} (hv:okV v) (cv:Value):Bld (L++[v]) car (ZCI M v (cv,car v)):=by
 have hk:=ZP4 M v (cv,car v);refine⟨?_,fun x=>?_,fun p hp=>?_,fun p hp=>?_⟩
 ·rw[hk];split
  ·exact h.nodup
  ·rename_i hn;rw[List.nodup_append];exact⟨h.nodup,by simp,fun a ha b hb e=>hn (by rw[<- List.mem_singleton.1 hb,<- e];exact ha)⟩
 ·rw[hk,List.mem_append,List.mem_singleton,<- h.mem];split
  ·rename_i hm;constructor
   ·exact .inl
   ·rintro(h|rfl)
    ·exact h
    ·exact hm
  ·rw[List.mem_append,List.mem_singleton]
 ·rcases ZMj hp with rfl|hp
  ·rfl
  ·exact h.car p hp
 ·rcases ZMj hp with rfl|hp
  ·exact hv
  ·exact h.ok p hp
theorem ZRt:∀n:Fin 9,ZRs 1 (n.val:Int)=((2 ^ n.val:Nat):Int):=by decide +kernel
theorem ZOJ {P:Program} {ops:Array Oper} {hp:List HObj} {fr:List Dat} {dst:Option Tmp} {ty:TypeId} {ps:String} {af:Array Edge} {g:Option (Nat × Bool)} {T T2:TypeId} {x y:Operand} {p q c:Int} (h:ZRs p q=c) (h0:0≤q) (hx:OpD fr x (dI p)) (hy:OpD fr y (dI q)):SY P ops hp ⟨dst,.binOp .shl T x y T2,ty,ps,af,g⟩ fr (dI c):=h ▸ SY.shl hx hy h0
theorem ZOM {P:Program} {ops:Array Oper} {hp:List HObj} {fr:List Dat} {dst:Option Tmp} {ty:TypeId} {ps:String} {af:Array Edge} {g:Option (Nat × Bool)} {T T2:TypeId} {x y:Operand} {p q c:Int} (h:p-q=c) (h0 : -9223372036854775808≤c/\c≤9223372036854775807) (hx:OpD fr x (dI p)) (hy:OpD fr y (dI q)):SY P ops hp ⟨dst,.binOp .sub T x y T2,ty,ps,af,g⟩ fr (dI c):=h ▸ SY.sub hx hy (h.symm ▸ h0)
end
section
open Go.RowKit

theorem SeqC.map {P:Program} {gf:FuncId} {lb:List Value} {hk:List HObj} {α β:Type} {D:α->Dat} {D':β->Dat} {xs:List α} (h:SeqC P gf lb hk D xs) (g:α->β) (hle:∀x,(D x).le (D' (g x))):SeqC P gf lb hk D' (xs.map g):=⟨fun l J hY js hj =>
 h.out l (fun pre=>J (pre.map g)) ⟨fun P0 B w0 hp pre js x u W hlt hj hh hu=>by
  have:=hY.out P0 B w0 hp (pre.map g) js (g x) u W (by simpa using hlt) hj hh (hle x _ _ _ hu);rw[List.map_append];exact this⟩ js (by simpa using hj)⟩
end
section
def ZET (a:Cx):List Vx:=ZC2 [] a.flatten
theorem ZFA {a:Cx} {v:Vx}:v∈ZET a↔∃s∈a,v∈s:=by unfold ZET;rw[ZGQ];simp
theorem ZSB (a:Cx):Asc (ZET a):=ZIW (by simp[Asc])
def Apart (a b:Cx):Prop:=∀s∈a,∀t∈b,∀v∈s,v∉t
theorem Apart.symm {a b:Cx} (h:Apart a b):Apart b a:=fun s hs t ht v v1 v2=>h t ht s hs v v2 v1
end
section
open Go.RowKit

section
variable {ops:Array Oper} {hp:List HObj} {fr:List Dat} {Q:Z5} {rest:List Oper} {dst:Option Tmp} {ty:TypeId} {ps:String} {af:Array Edge}
theorem ZOZ {x:Operand} {n:Nat} {ats:Array TypeId} (hx:OpD fr x (dI (n:Int))) (h0:n=0)
  (h:∀v:Value,WL Tryz.prog ops Q rest (ZC fr dst (dX v)) (Z0 v 77 2 RV ([]:List Vx)::hp)) :
  WL Tryz.prog ops Q (⟨dst,.call { callee:=.value (.func 159),args:=#[.const (.slice none 0 0),x],argTypes:=ats },ty,ps,af,none⟩::rest) fr hp:=by
 subst h0;refine WL.of fun P0 B w0 w a hh hf=>?_;have hcon:=Any8.slices_Grow_room Tryz.growV none 0 0 0 w (Nat.le_refl _) (by omega) (by omega) (by omega);change Calls Tryz.prog 159 _ _ _ at hcon;have hev:a.eval x = .int .i64 ((0:Nat):Int):=hx.ev hf;have hrun:(execOp a.eval ⟨dst,.call { callee:=.value (.func 159),args:=#[.const (.slice none 0 0),x],argTypes:=ats },ty,ps,af,none⟩).run Tryz.prog w = .ok (.enter 159 #[.slice none 0 0,.int .i64 ((0:Nat):Int)]) w:=by
  unfold execOp;simp only[resolve];have he:(#[Operand.const (.slice none 0 0),x]:Array Operand).map a.eval=#[.slice none 0 0,.int .i64 ((0:Nat):Int)]:=by simp[hev];rfl
  rw[he];simp[Act.eval,Deferred.ofValue,invoke,Tryz.call159]
 refine wpList_plain rfl fun K hK=>?_;unfold Oper.wp;rw[hrun];refine hcon.mono fun e' w' ⟨he,hw'⟩=>?_;subst he;subst hw';refine hK _ _ ((ZHr 77 2 (by decide) RV (h (.slice none 0 0))).on hh (Fr.put hf rfl))
end
theorem ZRf (ss:List (List Vx)) (hl:ss.flatten.length≤1000):CallC Tryz.prog 147 [dS Zh ss] [] (fun d hp2=>∃v,d=dX v/\hp2=[Z0 v 77 2 RV ss.flatten]):=by
 have hstep:∀(k:Nat) (hk:k<ss.length),(ss.take (k+1)).flatten=(ss.take k).flatten++ss[k]:=fun k hk=>by rw[Zf hk,List.flatten_append];simp
 have hle:∀k:Nat,(ss.take k).flatten.length≤ss.flatten.length:=fun k=>by
  conv=>rhs;rw[<- List.take_append_drop k ss]
  rw[List.flatten_append,List.length_append];omega
 (refine ZAh Tryz.func147 rfl rfl (fun hp=>?_);simp only[Tryz.ntmps147,List.length_cons,List.length_nil,List.length_append,List.length_map,Nat.reduceAdd,Nat.reduceSub,List.replicate_succ,List.replicate_zero,List.cons_append,List.nil_append,List.map_cons,List.map_nil,List.append_assoc])
 (repeat' (first|(apply WL.opN;exact yF;dsimp only[ZC,z0,z1])|refine WL.nil ?_|refine ZA fun Kx hK=>?_|(refine hK _ _ ?_;clear hK)|refine WC.region ?_|(apply WL.opN;(focus ((first|(apply SY.len;(exact oD);(exact nD);(exact uD))|fail);all_goals infer_instance));dsimp only[ZC,z0,z1])|refine WC.block ?_))
 (first|refine ZR (t:=0) rfl ZEH fun hl0=>?_|refine ZR (t:=0) rfl ZDu fun hl0=>?_|refine ZR (t:=0) rfl ZJS fun hl0=>?_);simp only[maxLen] at hl0
 (refine WC.loopU (X:=Nat) (fun k=>[(3,dI ((ss.take k).flatten.length:Int)),(11,dI (k:Int)),(5,dA),(12,dA),(13,dA),(14,dA),(15,dA),(16,dA),(17,dA),(18,dA),(19,dA),(20,dA),(21,dA),(22,dA)]) (fun k=>hp) (fun k=>ss.length-k) (fun k=>k≤ss.length) 0 ?start ?frame0 ?objs0 ?round)
 case start=>simp
 case frame0=>exact zFr
 case objs0=>rfl
 case round =>
  rintro k h1;dsimp only[ZL,z0,z1];have hk1:=hle k;by_cases hks:k<ss.length
  ·((repeat' (first|(apply WL.opN;exact yF;dsimp only[ZC,z0,z1])|refine WL.nil ?_|refine ZA fun Kx hK=>?_|(refine hK _ _ ?_;clear hK)|refine WC.region ?_|(apply WL.opN;(focus ((first|(apply SY.add;exact OpD.t rfl;exact OpD.t rfl;(have:=hstep k (by omega);have h7:=hle (k+1);rw[this,List.length_append] at h7;omega))|((first|apply SY.move|apply SY.assign|apply SY.lss) <;> (exact oD))|((first|apply SY.add) <;> first|exact oD|omega)|(apply SY.len;(exact oD);(exact nD);(exact uD))|(apply SY.ix;(exact eD);(exact oD);(exact oD);exact kD)|fail);all_goals infer_instance));dsimp only[ZC,z0,z1])|(apply ZB;(exact oD);all_goals (intro h;try exact xD))|refine WC.skip ?_|refine WC.block ?_|refine ThenD.n ?_));all_goals (first|((repeat clear hK);(repeat clear Kx))))
   all_goals
    have h5:=hstep k (by omega);have h6:((ss.take (k+1)).flatten.length:Int)=(ss.take k).flatten.length+(ss[k]'(by omega)).length:=by rw[h5,List.length_append];rfl
    rw[<- h6];(refine zNx (k+1) ?_;(try dsimp only))
    omega
  ·have hk2:(ss.take k).flatten=ss.flatten:=by rw[List.take_of_length_le (by omega)]
   rw[hk2];by_cases h0:0<ss.flatten.length
   all_goals
    (repeat' (first|(apply WL.opN;exact yF;dsimp only[ZC,z0,z1])|refine WL.nil ?_|refine ZA fun Kx hK=>?_|(refine hK _ _ ?_;clear hK)|(refine Kont.skip ?_;clear hK)|refine WC.region ?_ |  (apply ZRI;exact OpD.t rfl;exact h0;exact hl;intro vg;dsimp only[ZC,z0,z1]) |  (apply ZOZ;exact OpD.t rfl;exact(by omega);intro vg;dsimp only[ZC,z0,z1])|(apply WL.opN;(focus ((first|((first|apply SY.move|apply SY.assign|apply SY.lss) <;> (exact oD))|(apply SY.len;(exact oD);(exact nD);(exact uD))|fail);all_goals infer_instance));dsimp only[ZC,z0,z1])|(apply ZB;(exact oD);all_goals (intro h;try exact xD))|refine WC.exit ?_|refine WC.block ?_))
    (refine WC.loopU (X:=Nat × Value) (fun x=>[(6,dX x.2),(27,dI (x.1:Int)),(8,dA),(28,dA),(29,dA),(30,dA),(31,dA),(32,dA),(33,dA),(34,dA)]) (fun x=>(Z0 x.2 77 2 RV ((ss.take x.1).flatten)::hp)) (fun x=>ss.length-x.1) (fun x=>x.1≤ss.length) (0,vg) ?start ?frame0 ?objs0 ?round)
    case start=>simp
    case frame0=>exact zFr
    case objs0=>rfl
    case round =>
     rintro⟨j,u⟩ q1;dsimp only[ZL,z0,z1];simp only at q1;have q2:=hle j;have q3:∀(hj:j<ss.length),(ss.take j).flatten.length+ss[j].length≤1000:=fun hj=>by
      have h7:=hle (j+1);rw[hstep j hj,List.length_append] at h7;omega
     ((repeat' (first|(apply WL.opN;exact yF;dsimp only[ZC,z0,z1])|refine WL.nil ?_|refine ZA fun Kx hK=>?_|(refine hK _ _ ?_;clear hK)|(refine Kont.skip ?_;clear hK)|refine WC.region ?_ |  (apply WL.appK;exact elV;exact OpD.t rfl;exact OpD.t rfl;decide;(have:=q3 (by omega);omega);(intro _;dsimp only[ZC,z0,z1]);all_goals (try infer_instance))|(apply WL.opN;(focus ((first|((first|apply SY.move|apply SY.assign|apply SY.lss) <;> (exact oD))|((first|apply SY.add) <;> first|exact oD|omega)|(apply SY.ix;(exact eD);(exact oD);(exact oD);exact kD)|fail);all_goals infer_instance));dsimp only[ZC,z0,z1])|(apply ZB;(exact oD);all_goals (intro h;try exact xD))|refine WC.skip ?_|refine WC.ret ?_|refine WC.exit ?_|refine WC.block ?_|refine ThenD.n ?_));all_goals (first|((repeat clear hK);(repeat clear Kx))))
     ·(refine⟨(j+1,_) , ?_,by first|omega|(simp only;omega),by((try simp only);  (rw[hstep j (by omega)])),?_⟩;rotate_left;((try dsimp only[ZL,z0,z1]);repeat (first|exact LeF.nil|refine ZD (k:=?_)));(try dsimp only))
      omega
     ·exact⟨trivial,_,[_],rfl,rfl,u,rfl,by rw[List.take_of_length_le (by omega)]⟩
theorem ZIg {l:Cx} (h:∀s∈l,s.length≤8):l.flatten.length≤8*l.length:=by
 induction l with
 | nil=>simp
 | cons s l ih =>
  have h1:=ih fun x hx=>h x (List.mem_cons_of_mem _ hx);have h2:=h s (by simp);rw[List.flatten_cons,List.length_append,List.length_cons];omega
theorem ZLt (l:Cx) (hfl:l.flatten.length≤1000):Fn Tryz.prog 127 [dS Zh l] (dS ZM (ZET l)):=by
 (refine ZE Tryz.func127 rfl rfl ?_;simp only[Tryz.ntmps127,List.length_cons,List.length_nil,Nat.reduceAdd,Nat.reduceSub,List.replicate_succ,List.replicate_zero,List.cons_append,List.nil_append])
 ((repeat' (first|(apply WL.opN;exact yF;dsimp only[ZC,z0,z1])|refine WL.nil ?_|refine ZA fun Kx hK=>?_|(refine hK _ _ ?_;clear hK)|refine WC.region ?_ |  (refine WL.callC (hp1:=[]) (caps:=[]) (ZRf l (by omega)) Tryz.call147 OpD.f (ArgsD.cons (OpD.t rfl) ArgsD.nil) ?_;rintro d' hp2 ⟨vc,rfl,rfl⟩;dsimp only[ZC,z0,z1,List.cons_append,List.nil_append]) |  (refine ZJj Tryz.call149 M.vtx_x (OpD.t rfl) (by omega) ?_;intro ys hperm hsort;dsimp only[ZC,z0,z1]) |  (refine ZL5 (ZJ2 ys vc hsort (by rw[hperm.length_eq];omega)) Tryz.call150 ?_ ?_;(exact aD);intro vd zs hzs;dsimp only[ZC,z0,z1])|refine WC.ret ?_));all_goals (first|((repeat clear hK);(repeat clear Kx))))
 all_goals
  have hz:zs=ZET l:=asc_ext hzs.1 (ZSB l) fun u=>by rw[hzs.2,hperm.mem_iff,ZFA,List.mem_flatten]
  subst hz;(refine⟨trivial,_,rfl,?_⟩;exact fD)
def ZTF (l:Cx):List Vx × Int:=if ZBB l≠0 then([],ZBB l) else(ZET l,0)
theorem ZK1 (l:Cx) (hl:ZBB l=0->l.flatten.length≤1000):Fn Tryz.prog 91 [dS Cpx l] (dT [dS ZM (ZTF l).1,dI (ZTF l).2]):=by
 (refine Z9 Tryz.func91 rfl rfl ?_;simp only[Tryz.ntmps91,List.length_cons,List.length_nil,Nat.reduceAdd,Nat.reduceSub,List.replicate_succ,List.replicate_zero,List.cons_append,List.nil_append])
 by_cases h0:ZBB l=0
 ·have e:ZTF l=(ZET l,0):=by unfold ZTF;rw[if_neg (by omega)]
  have c1:=ZLt l (hl h0);((repeat' (first|(apply WL.opN;exact yF;dsimp only[ZC,z0,z1])|refine WL.nil ?_|refine ZA fun Kx hK=>?_|(refine hK _ _ ?_;clear hK)|refine WC.region ?_|(apply WL.opN;(focus ((first|(apply SY.call (ZCg _) Tryz.call43;(exact aD))|(apply SY.call (c1) Tryz.call127;(exact aD))|((first|apply SY.move|apply SY.assign|apply SY.neq) <;> (exact oD))|(apply ZDM ZNx;exact OpD.t rfl)|(apply SY.box;(exact oD);(exact hD))|fail);all_goals infer_instance));dsimp only[ZC,z0,z1])|(apply ZG;(exact oD);all_goals (intro h;try exact xD))|refine WC.skip ?_|refine WC.ret ?_));all_goals (first|((repeat clear hK);(repeat clear Kx))))
  rw[e];(refine⟨trivial,⟨_,rfl,?_⟩,_,rfl,?_⟩ <;> exact fD)
 ·have e:ZTF l=([],ZBB l):=by unfold ZTF;rw[if_pos h0]
  ((repeat' (first|(apply WL.opN;exact yF;dsimp only[ZC,z0,z1])|refine WL.nil ?_|refine ZA fun Kx hK=>?_|(refine hK _ _ ?_;clear hK)|refine WC.region ?_|(apply WL.opN;(focus ((first|(apply SY.call (ZCg _) Tryz.call43;(exact aD))|((first|apply SY.move|apply SY.assign|apply SY.neq) <;> (exact oD))|(apply SY.box;(exact oD);(exact hD))|fail);all_goals infer_instance));dsimp only[ZC,z0,z1])|(apply ZG;(exact oD);all_goals (intro h;try exact xD))|refine WC.ret ?_|refine ThenD.r ?_));all_goals (first|((repeat clear hK);(repeat clear Kx))))
  rw[e];(refine⟨trivial,⟨_,rfl,?_⟩,_,rfl,?_⟩ <;> exact fD)
end
section
open Go.RowKit

theorem ZUG {a b c:HObj} {hp:List HObj}:(a::b::c::hp).Perm (c::a::b::hp):=(List.Perm.cons a (List.Perm.swap c b hp)).trans (List.Perm.swap c a _)
theorem Bld.at {L:List Vx} {car:Vx->List Vx} {M:CarM} (h:Bld L car M) {v:Vx} (hv:v∈ZC2 [] L):∃cv,(v,cv,car v)∈M:=by
 have h1:v∈L:=by
  rcases ZGQ.1 hv with h|h
  ·cases h
  ·exact h
 obtain⟨p,hp,he⟩:=List.mem_map.1 ((h.mem v).2 h1);refine⟨p.2.1,?_⟩;rw[<- he,<- h.car p hp];exact hp
section
variable {P:Program} {ops:Array Oper} {hp:List HObj} {fr:List Dat} {d:Dat} {Q:Z5} {rest:List Oper} {dst:Option Tmp} {ty:TypeId} {ps:String} {af:Array Edge} {T:TypeId} {ds:List Dat}
theorem ZTU {x:Operand} (hx:OpD fr x (ZEP ds)) (hn:0<ds.length) (h:∀b,WL P ops Q rest (ZC fr dst (dX (.pointer (some ⟨b,0,none⟩)))) (ZAX b T ds::hp)) :
  WL P ops Q (⟨dst,.box T x,ty,ps,af,none⟩::rest) fr hp :=
 ZLJ (T:=T) hx (ZAD hn rfl) fun b=>WL.of fun P0 B w0 w a hh hf=>by
  obtain⟨cs,u,c1,c2,c0,c3,c4,c5⟩:=hh.ok (Zm b T ds.length true (ZEP ds)) (by simp);simp only[if_true] at c4;obtain⟨us,q1,q2,q3,q4⟩:=c5;rw[c4] at q1;have hcs:cs=us:=by injection q1 with q1;exact List.toArray_inj q1
  subst hcs;have hgr:w.grownBy w (Zm b T ds.length true (ZEP ds)).blk:=⟨rfl,rfl,rfl,Nat.le_refl _,fun _ _ _=>rfl⟩;have hbd:=(Zm b T ds.length true (ZEP ds)).bound (hh.ok (Zm b T ds.length true (ZEP ds)) (by simp));have hok:(ZAX b T ds).ok (fun k=>Imm P0 B (Zm b T ds.length true (ZEP ds)::hp) k/\k<w.heap.size) w :=
   ⟨cs,c1,c2,c3,fun k c d hc hd=>d.bound (q4 k c d hc hd)⟩
  exact(h b).on (hh.write hgr (.inl rfl) hok) (hf.mono fun _ _ hd=>Ze (o':=ZAX b T ds) hgr (.inl rfl) hd)
end
end
section
open Go.RowKit
def dLow (b:Nat) (d:Dat):Dat:=⟨fun P w v=>d.rd (fun k=>P k/\k<b) w v,fun h q=>d.weak h fun k hk=>⟨q k hk.1,hk.2⟩,fun h q=>d.move h fun k hk hl=>q k hk.1 hl,fun h=>d.weak (d.bound h) fun k hk=>⟨⟨hk.1.1,hk.2⟩,hk.1.2⟩⟩
theorem ZPG {b:Nat} {d:Dat}:(dLow b d).le d:=fun _ _ _ h=>d.weak h fun _ hk=>hk.1
section
variable {P:Program} {ops:Array Oper} {hp:List HObj} {fr:List Dat} {Q:Z5} {rest:List Oper}
variable {dst:Option Tmp} {ty:TypeId} {ps:String} {af:Array Edge} {g:Option (Nat × Bool)} {T e:TypeId} {b:Nat} {l:List UInt8}
theorem ZJh (t:Nat) (h:WL P ops Q rest (fr.set t dA) hp):WL P ops Q rest fr hp:=WL.of fun P0 B w0 w a hh hf=>h.on hh (hf.weak (by simp) fun k d hd=>by
 rw[List.getElem?_set] at hd;by_cases hk:t=k
 ·rw[if_pos hk] at hd;split at hd
  ·rename_i hl;cases hd;exact⟨fr[t],by rw[<- hk];exact List.getElem?_eq_getElem hl,ZBh _⟩
  ·cases hd
 ·rw[if_neg hk] at hd;exact⟨d,hd,Dat.le_refl d⟩)
end
end
section
open Go.RowKit

def txV (v:Vx):List UInt8:=((Lib.itoa v.1++[47])++Lib.itoa v.2)++[32]
def txS (s:List Vx):List UInt8:=s.flatMap txV
theorem ZSV {s:List Vx} {k:Nat} (h:k<s.length):txS (s.take (k+1))=txS (s.take k)++txV s[k]:=by
 unfold txS;rw[List.take_succ_eq_append_getElem h,List.flatMap_append];simp
theorem le_RV {x:Int × Int}:(dS RV x).le (ZEP [dI x.1,dI x.2]):=fun _ _ _ h=>by
 cases (h:_=_);exact⟨[_,_],rfl,rfl,by simp[Value.oneCell'],fun k c d hc hd=>by
  match k,hc,hd with
  | 0,hc,hd=>cases hc;cases hd;rfl
  | 1,hc,hd=>cases hc;cases hd;rfl⟩
theorem ZVY:StrT Tryz.prog 77 2:=⟨fun b off i w hi=>by
 have:i=0\/i=1:=by omega
 rcases this with rfl|rfl <;> go_simp⟩
theorem tzVx:TyZ Tryz.prog 77 (.agg [.int .i64 0,.int .i64 0].toArray):=⟨by kernel_rfl⟩
end
section
open Go.RowKit

abbrev ZUc:=List (List UInt8 × Int)
def kvS (l:List UInt8):Value:=.string ⟨l.toArray⟩
def okS (l:List UInt8):Prop:=l.length≤1000000
theorem ZBa:KeyT Tryz.prog 9 kvS okS where
 law:=Go.Maps.string_keyed Tryz.underlying9
 lit:=fun l hl=>by
  have hz:(⟨l.toArray⟩:ByteArray).size≤maxLen:=by
   unfold okS at hl;simp only[ByteArray.size,List.size_toArray,maxLen];omega
  refine⟨.string l,?_⟩;unfold keyOf kvS;simp[Tryz.underlying9,mapKey,hz]
 inj:=fun x y _ _ h=>by
  unfold kvS at h;injection h with h;injection h with h;exact List.toArray_inj h
theorem ZE3:MapT Tryz.prog 145 9 3 (.int .i64 0):=⟨Tryz.underlying145,fun w=>by kernel_rfl⟩
def ZEs (l:Cx):Prop:=∀s∈l,∀v∈s,(0≤v.1/\v.1<100)/\0≤v.2/\v.2<100
theorem ZQW {s:List Vx} (h:s.length≤8) (k:Nat):(ZX k s).length≤256:=Nat.le_trans (ZAr _ _) (Nat.pow_le_pow_right (by decide) h:2 ^ s.length≤2 ^ 8)
end
section
open Go.RowKit
structure SeqN (P:Program) (gf:FuncId) (lb:List Value) (hk:List HObj) {α:Type} (D:α->Dat) (xs:List α) (N:Nat):Prop where
 out:∀(l:Nat) (J:List α->List HObj->Prop),YStep P l D J N->∀js,J [] js->CallC P gf (dX (.func (.yield l) #[] #[])::lb.map dX) (js++hk) (fun _ hp2=>∃js',J xs js'/\hp2=js'++hk)
theorem ZQm {P:Program} {g:Operand} {p:Tmp} {assign body:Code} {Q:Exit->Act->World->Prop} {P0:Nat->Prop} {B:Nat} {w0 w:World} {a:Act} {fr:List Dat} {gf:FuncId} {lb:List Value} {hk hp hs0:List HObj} {α:Type} {D:α->Dat} {xs:List α} (H:List α->List HObj->Prop) (F0:List Dat) (F1:α->List Dat)
  (hh:Hp P0 B w0 (hs0++(hk++hp)) w) (hf:Fr (Imm P0 B (hs0++(hk++hp))) w { tmps:=a.tmps,defers:=[] } fr) (hg:OpD fr g (dX (.func (.func gf) #[] lb.toArray))) (he:ZBR P gf) {N:Nat} (hS:SeqN P gf lb hk D xs N) (h0:H [] hs0) (hF:FixF fr F0)
  (hassign:∀(l:Nat) (x:α) (q:List HObj),WR P l (fun e f q'=>e = .normal/\q'=q/\f=F1 x) assign (F0.set p (D x)) q)
  (hbody:∀(l:Nat) (pre:List α) (x:α) (hs q:List HObj),pre.length<N->H pre hs->WR P l (fun e _ q'=>e = .normal/\∃hs',H (pre++[x]) hs'/\q'=hs'++q) body (F1 x) (hs++q))
  (hpost:∀(k:Nat) (hs:List HObj) (w':World),H xs hs->Hp P0 B w0 (ZA2 k (.deferred (some []))::(hs++(hk++hp))) w'->(∀(t:Nat) (d:Dat),fr[t]?=some d->d.rd (Imm P0 B (ZA2 k (.deferred (some []))::(hs++(hk++hp)))) w' (a.tmps.getD t undef)) ->
   Q .normal { a with defers:={ target:=.collected k,args:=#[] }::a.defers } w'):(Code.rangeFunc g #[p] assign body).wp P Q a w:=by
 refine(wpIn_wide (n:=0)).1 (wpIn_rangeFunc ?_);intro fn hfn;rw[show Fence.wide.round=none from rfl];obtain⟨rec,hrec⟩:∃rec:LoopState->Option Code->Loop,rec=fun st pe=>{ state:=st,pending:=pe,fn,tmps:=a.tmps,params:=#[p],assign,body,defers:=w.heap.size }:=⟨_,rfl⟩;obtain⟨W1,hW1⟩:∃W1,(w.alloc (.deferred (some []))).alloc (.loop (rec .ready none))=W1:=⟨_,rfl⟩;have hgb:(hFr a fr).blk=none:=rfl;have hG:Hp P0 B w0 (hs0++(hk++(hFr a fr::hp))) w:=by
  have:=ZBU (l:=hs0++hk) (hp:=hp) hgb (by rw[List.append_assoc];exact hh) (by rw[List.append_assoc];exact hf.rd);rw[List.append_assoc] at this;exact this
 have hA:Hp P0 B w0 (ZA2 w.heap.size (.deferred (some []))::(hs0++(hk++(hFr a fr::hp)))) (w.alloc (.deferred (some []))) :=
  hG.push (Ext.of_alloc _ _) (fun k hk=>by cases hk;simp) (World.alloc_heap_new w _)
 have hB:Hp P0 B w0 (ZA2 (w.heap.size+1) (.loop (rec .ready none))::ZA2 w.heap.size (.deferred (some []))::(hs0++(hk++(hFr a fr::hp)))) W1:=by
  rw[<- hW1];refine hA.push (Ext.of_alloc _ _) (fun k hk=>by cases hk;simp) ?_;have:=World.alloc_heap_new (w.alloc (.deferred (some []))) (.loop (rec .ready none));rwa[World.size_alloc] at this
 have hJ0:(∃hs,H [] hs/\(ZA2 (w.heap.size+1) (.loop (rec .ready none))::ZA2 w.heap.size (.deferred (some []))::hs0)=ZA2 (w.heap.size+1) (.loop (rec .ready none))::ZA2 w.heap.size (.deferred (some []))::hs):=⟨hs0,h0,rfl⟩;have hY:YStep P (w.heap.size+1) D (fun pre js=>∃hs,H pre hs/\js=ZA2 (w.heap.size+1) (.loop (rec .ready none))::ZA2 w.heap.size (.deferred (some []))::hs) N:=⟨fun P0' B' w0' hpX pre js x u W hlt ⟨hs,hH,hjs⟩ hhW hu=>by
  subst hjs;have hl:W.heap[w.heap.size+1]?=some (.loop (rec .ready none)):=hhW.ok (ZA2 (w.heap.size+1) (.loop (rec .ready none))) (by simp);have hy:=run_yield (P:=P) (args:=#[u]) hl (by rw[hrec];simp);refine⟨_,_,_,_,hy,roundIn_of_wpIn trivial ?_⟩;have ha:(rec .ready none).assign=assign:=by rw[hrec]
  have hbd:(rec .ready none).body=body:=by rw[hrec]
  have ht:(rec .ready none).params=#[p]:=by rw[hrec]
  have htm:(rec .ready none).tmps=a.tmps:=by rw[hrec]
  rw[ha,hbd,ht,htm];have hfrR:Fr (Imm P0' B' (ZA2 (w.heap.size+1) (.loop (rec .ready none))::ZA2 w.heap.size (.deferred (some []))::hs++hpX)) W { tmps:=a.tmps.setIfInBounds p u,defers:=[] } (F0.set p (D x)) :=
   Fr.put (x:=some p) (hF.fr hf) hu
  refine wpIn_mono (Q:=ZCr (fun e f q'=>e = .normal/\q'=ZA2 (w.heap.size+1) (.loop (rec .ready none))::ZA2 w.heap.size (.deferred (some []))::hs++hpX/\f=F1 x) P0' B' w0') ?_ ?_
  ·exact(hassign (w.heap.size+1) x _).out P0' B' w0' W _ hhW (by simpa using hfrR)
  rintro e a1 w1 ⟨f1,q1,⟨rfl,rfl,rfl⟩,hh1,hf1⟩;have hl1:w1.heap[w.heap.size+1]?=some (.loop (rec .ready none)):=hh1.ok (ZA2 (w.heap.size+1) (.loop (rec .ready none))) (by simp);refine⟨_,run_beginRound hl1 (by rw[hrec]),?_⟩;have hbz:({ rec .ready none with state:=.busy }:Loop)=rec .busy none:=by rw[hrec]
  rw[hbz];have hh2:Hp P0' B' w0' (ZA2 (w.heap.size+1) (.loop (rec .busy none))::(ZA2 w.heap.size (.deferred (some []))::(hs++hpX))) (w1.putObj (w.heap.size+1) (.loop (rec .busy none))):=Hp.putObj (o:=.loop (rec .ready none)) hh1;have hf2:Fr (Imm P0' B' (ZA2 (w.heap.size+1) (.loop (rec .busy none))::(ZA2 w.heap.size (.deferred (some []))::(hs++hpX)))) (w1.putObj (w.heap.size+1) (.loop (rec .busy none))) a1 (F1 x):=hf1.mono fun d v hd=>ZAs (o:=.loop (rec .ready none)) hd;obtain⟨hh3,hI3⟩:=hh2.perm ZDB;refine wpIn_mono ((hbody (w.heap.size+1) pre x hs _ hlt hH).out P0' B' w0' _ _ hh3 (hf2.mono fun d v hd=>d.weak hd fun k hk=>(hI3 k).1 hk)) ?_;rintro e a3 w3 ⟨f3,q3,⟨rfl,hs',hH',rfl⟩,hh4,hf4⟩;obtain⟨hh5,_⟩:=hh4.perm ZDB.symm;have hl3:w3.heap[w.heap.size+1]?=some (.loop (rec .busy none)):=hh5.ok (ZA2 (w.heap.size+1) (.loop (rec .busy none))) (by simp);have hrz:({ rec .busy none with state:=if(none:Option Code).isNone then .ready else .done,pending:=none }:Loop)=rec .ready none:=by rw[hrec];rfl
  have hend:=run_endRound (P:=P) none hl3;rw[hrz] at hend;refine⟨_,_,hend,rfl,_,⟨hs',hH',rfl⟩,?_⟩;exact Hp.putObj (o:=.loop (rec .busy none)) hh5⟩
 have hC:=(hS.out (w.heap.size+1) _ hY _ hJ0).out P0 B w0 (hFr a fr::hp) (.func (.yield (w.heap.size+1)) #[] #[]::lb) W1 (by simpa using hB) (by simp) (fun i d hd=>by
  cases i with
  | zero=>simp at hd;subst hd;rfl
  | succ i =>
   simp only[List.getElem?_cons_succ,List.getElem?_map] at hd;cases hq:lb[i]? with
   | none=>rw[hq] at hd;cases hd
   | some u=>rw[hq] at hd;cases hd;simp[List.getD,hq];rfl)
 refine⟨w.heap.size+1,[{ target:=.collected w.heap.size,args:=#[] }],W1,{ target:=.fn (.func gf) lb.toArray,args:=#[.func (.yield (w.heap.size+1)) #[] #[]] },W1,gf,
  (.func (.yield (w.heap.size+1)) #[] #[]::lb).toArray,W1,?_,?_,fun _ _=>trivial,?_,fun h=>by simp[Fence.wide] at h,?_⟩
 ·rw[<- hW1,hrec];exact run_enterLoop_outer _ _ _ _ _
 ·have hev0:({ tmps:=a.tmps,defers:=[] }:Act).eval g = .func (.func gf) #[] lb.toArray:=hg.ev hf;have hev:a.eval g = .func (.func gf) #[] lb.toArray:=hev0;simp only[resolve,hev];simp[go_sem]
 ·have:=he (.func (.yield (w.heap.size+1)) #[] #[]::lb).toArray W1;simp[invoke,go_sem,this]
 ·refine callsIn_wide.2 (hC.mono ?_);rintro e w2 ⟨v,d,hp2,rfl,⟨js',⟨hs,hH,rfl⟩,rfl⟩,hh2,_⟩;have hl2:w2.heap[w.heap.size+1]?=some (.loop (rec .ready none)):=hh2.ok (ZA2 (w.heap.size+1) (.loop (rec .ready none))) (by simp);have hend:=run_endLoop (P:=P) hl2 (by rw[hrec];simp);have hpn:(rec .ready none).pending=none:=by rw[hrec]
  obtain⟨rx,hrx⟩:∃rx:Loop,rx={ rec .ready none with state:=.exhausted }:=⟨_,rfl⟩;rw[<- hrx,hpn] at hend;refine⟨none,_,hend,?_⟩;have hh3:Hp P0 B w0 (ZA2 (w.heap.size+1) (.loop rx)::(ZA2 w.heap.size (.deferred (some []))::(hs++(hk++(hFr a fr::hp))))) (w2.putObj (w.heap.size+1) (.loop rx)) :=
   Hp.putObj (o:=.loop (rec .ready none)) (by simpa using hh2)
  have hh4:=hh3.drop;have hh5:Hp P0 B w0 ((ZA2 w.heap.size (.deferred (some []))::(hs++hk))++hFr a fr::hp) (w2.putObj (w.heap.size+1) (.loop rx)):=by simpa using hh4
  obtain⟨hh6,hok⟩:=hh5.unghost hgb;have e1:(ZA2 w.heap.size (.deferred (some []))::(hs++hk))++hp=ZA2 w.heap.size (.deferred (some []))::(hs++(hk++hp)):=by simp
  rw[e1] at hh6 hok;have:=hpost w.heap.size hs _ hH hh6 hok;simpa using this
end
end Go.Proofs.YtofkoleingbbpaaGreatDoor
