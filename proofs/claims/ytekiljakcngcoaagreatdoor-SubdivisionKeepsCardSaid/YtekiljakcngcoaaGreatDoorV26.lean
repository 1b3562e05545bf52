/- Part 26: walks by contracts, and plain laws. -/
import Derived.Test.YtekiljakcngcoaaGreatDoorV25
set_option linter.unusedVariables false
set_option linter.unusedSimpArgs false
set_option linter.unusedSectionVars false
set_option maxRecDepth 100000
set_option maxHeartbeats 4000000
namespace Go.Proofs.YtekiljakcngcoaaGreatDoor
section
open Go.RowKit
section
variable {P:Program} {ops:Array Oper} {hp:List HObj} {fr:List Dat} {Q:ZAW} {rest:List Oper} {c:Code} {d:Dat} {α:Type} {R:Rel α} {e:TypeId}
theorem ZHn {x:Int × Int}:(dS RV x).Bare:=fun _ _ _ _ _ h=>h
structure CapH (hp:List HObj) (v:Value) (d:Dat):Prop where
 out:∀ {P0:Nat->Prop} {B:Nat} {w0 w:World},Hp P0 B w0 hp w->d.rd anyB w v
theorem CapH.map {K V:Type} {kv:K->Value} {vv:V->Value} {R:Rel V} [Good R] {M:List (K × V)} {b m:Nat} {T:TypeId} (h1:Zh b T 1 false (dX (.map (some m)))∈hp) (h2:hM m kv vv M∈hp) (hvv:∀ I w (y:V),R I w (vv y) y) :
  CapH hp (.pointer (some ⟨b,0,none⟩)) (dP 1 false (dS (ZHU kv R) M)):=CapH.mk fun {P0 B w0 w} hh=>by
 obtain ⟨cs,u,c1,c2,c0,c3,c4,c5⟩:=hh.ok _ h1
 have hu:u = .map (some m):=c5
 have hb:w.heap[m]?=some (ZAH _):=hh.ok _ h2
 refine ⟨b,0,u,rfl,ZAp c1 c2 c0 c3 c4 trivial,m,M.map fun p=>vv p.2,hu,trivial,by simp,?_,fun k q1 q2=>?_⟩
 ·rw [hb]
  congr 2
  unfold ZAO
  rw [List.zip_map',List.map_map]
  rfl
 ·simp only [List.getElem_map]
  exact hvv _ _ _
theorem ZQK {dst:Option Tmp} {ty:TypeId} {ps:String} {af:Array Edge} {g:Option (Nat × Bool)} {f:FuncId} {caps:List Value} {t:Tmp} {args:Array Operand} {ats:Array TypeId} {ds cds:List Dat} (hF:Fn P f (ds++cds) d) (hd:d.Bare) (he:ZAn P f) (hc:OpD fr (.tmp t) (dX (.func (.func f) #[] caps.toArray))) (ha:ArgsD fr args.toList ds)
  (hl:caps.length=cds.length) (hcap:∀ (i:Nat) (v:Value) (d:Dat),caps[i]?=some v->cds[i]?=some d->CapH hp v d) :
  SY P ops hp ⟨dst,.call { callee:=.value (.tmp t),args:=args,argTypes:=ats },ty,ps,af,g⟩ fr d:=SY.mk fun {P0 B w0 w a} hh ho K Q hk=>by
 have hv:a.eval (.tmp t) = .func (.func f) #[] caps.toArray:=hc.get (by simp [Op.operands,Call.operands]) ho
 have hal:=ha.1
 have h1:=hF.out anyB w (args.toList.map a.eval++caps) (by simp [hl];simpa using hal) fun i d hd=>by
  by_cases hi:i<ds.length
  ·rw [List.getElem?_append_left hi] at hd
   have hi':i<args.toList.length:=by omega
   have h2:=(ha.2 i _ d (List.getElem?_eq_getElem hi') hd).get (by simp only [Op.operands,Call.operands];simp) ho
   have hi2:i<args.size:=by simpa using hi'
   rw [List.getD_eq_getElem?_getD,List.getElem?_append_left (by simpa using hi2)]
   exact d.weak (by simpa [hi2] using h2) fun _ _=>trivial
  ·rw [List.getElem?_append_right (by omega)] at hd
   have hi3:i-ds.length<caps.length:=by rw [hl];exact (List.getElem?_eq_some_iff.1 hd).1
   have h2:=(hcap _ _ d (List.getElem?_eq_getElem hi3) hd).out hh
   have hlen:(args.toList.map a.eval).length=ds.length:=by rw [List.length_map,hal]
   rw [List.getD_eq_getElem?_getD,List.getElem?_append_right (by omega),hlen,List.getElem?_eq_getElem hi3]
   exact h2
 have hvs:args.map a.eval++caps.toArray=(args.toList.map a.eval++caps).toArray:=by apply Array.ext';simp
 unfold Oper.wp
 have h4:=he (args.map a.eval++caps.toArray) w
 have:(execOp a.eval ⟨dst,.call { callee:=.value (.tmp t),args:=args,argTypes:=ats },ty,ps,af,g⟩).run P w = .ok (.enter f (args.map a.eval++caps.toArray)) w:=by
  unfold execOp
  simp only [resolve]
  simp [hv,Deferred.ofValue,invoke,h4]
 rw [this,hvs]
 exact h1.mono fun e w' ⟨v,he,e1,hd'⟩=>by subst he;exact hk v w' e1 (hd _ _ _ _ _ hd')
theorem ZEA {dst:Option Tmp} {ty:TypeId} {ps:String} {af:Array Edge} {g:Option (Nat × Bool)} {f:FuncId} {cv:Value} {t:Tmp} {args:Array Operand} {ats:Array TypeId} {ds:List Dat} {cd:Dat} (hF:Fn P f (ds++[cd]) d) (hd:d.Bare) (he:ZAn P f) (hc:OpD fr (.tmp t) (dX (.func (.func f) #[] [cv].toArray))) (ha:ArgsD fr args.toList ds) (hcap:CapH hp cv cd) :
  SY P ops hp ⟨dst,.call { callee:=.value (.tmp t),args:=args,argTypes:=ats },ty,ps,af,g⟩ fr d :=
 ZQK hF hd he hc ha rfl fun i v d' h1 h2=>by
  match i,h1,h2 with
  | 0,h1,h2=>cases h1;cases h2;exact hcap
end
section
variable {P:Program} {ops:Array Oper} {hp:List HObj} {fr:List Dat} {d:Dat}
variable {dst:Option Tmp} {ty:TypeId} {ps:String} {af:Array Edge} {g:Option (Nat × Bool)} {t k e:TypeId} {z:Value} {K α:Type} [DecidableEq K] {kv:K->Value} {ok:K->Prop} {R:Rel α} {m:List (K × α)}
theorem ZIz [Good R] {x y:Operand} {v:K} {a0:α} (T:MapT P t k e z) (H:KeyT P k kv ok) (hx:OpD fr x (dS (ZHU kv R) m)) (hy:OpD fr y d) (hd:IsV d (kv v)) (ho:ok v) (hok:∀ p∈m,ok p.1) (hn:(m.map (·.1)).Nodup) (hz:∀ I w,R I w z a0) :
  SY P ops hp ⟨dst,.lookup t x y true,ty,ps,af,g⟩ fr (dT [dS R ((Go.Proofs.YtekiljakcngcoaaGreatDoor.lookM m v).getD a0),dB (Go.Proofs.YtekiljakcngcoaaGreatDoor.lookM m v).isSome]):=SY.val fun {I w a} hon=>by
 obtain ⟨b,us,h1,h2,h3,h4,h5⟩:=hx.get (by simp [Op.operands]) hon
 have h6:=hd.is _ _ _ (hy.get (by simp [Op.operands]) hon)
 have hkeys:((m.map (·.1)).zip us).map (·.1)=m.map (·.1):=by rw [List.map_fst_zip];simp [h3]
 refine ⟨.tuple #[((Go.Proofs.YtekiljakcngcoaaGreatDoor.lookM ((m.map (·.1)).zip us) v).map id).getD z,.bool (Go.Proofs.YtekiljakcngcoaaGreatDoor.lookM ((m.map (·.1)).zip us) v).isSome],?_,[((Go.Proofs.YtekiljakcngcoaaGreatDoor.lookM ((m.map (·.1)).zip us) v).map id).getD z,.bool (Go.Proofs.YtekiljakcngcoaaGreatDoor.lookM ((m.map (·.1)).zip us) v).isSome],rfl,rfl,fun i e x he hx=>?_⟩
 ·unfold execOp
  simp only [h1,h6,Sem.run_bind,ZCg (vv:=id) T H (fun (p:K × Value) (hp:p∈(m.map (·.1)).zip us)=>by
   have:p.1∈m.map (·.1):=by rw [<- hkeys];exact List.mem_map_of_mem hp
   obtain ⟨q,hq,he⟩:=List.mem_map.1 this
   rw [<- he];exact hok q hq) (by rw [hkeys];exact hn) ho h4 true,Result.andThen_ok,Sem.run_pure]
  rfl
 ·rcases ZJn h3 v with ⟨e1,e2⟩|⟨j,j1,j2,e1,e2⟩
  ·match i,he,hx with
   | 0,he,hx=>cases he;cases hx;rw [e1,e2];exact hz I w
   | 1,he,hx=>cases he;cases hx;rw [e1,e2];rfl
  ·match i,he,hx with
   | 0,he,hx=>cases he;cases hx;rw [e1,e2];exact h5 j j1 j2
   | 1,he,hx=>cases he;cases hx;rw [e1,e2];rfl
theorem ZMa [Good R] {x y:Operand} {v:K} {a0:α} (T:MapT P t k e z) (H:KeyT P k kv ok) (hx:OpD fr x (dS (ZHU kv R) m)) (hy:OpD fr y d) (hd:IsV d (kv v)) (ho:ok v) (hok:∀ p∈m,ok p.1) (hn:(m.map (·.1)).Nodup) (hz:∀ I w,R I w z a0) (hl:Go.Proofs.YtekiljakcngcoaaGreatDoor.lookM m v=none) :
  SY P ops hp ⟨dst,.lookup t x y true,ty,ps,af,g⟩ fr (dT [dS R a0,dB false]):=by
 have:=ZIz (ops:=ops) (hp:=hp) (dst:=dst) (ty:=ty) (ps:=ps) (af:=af) (g:=g) T H hx hy hd ho hok hn hz
 rwa [hl] at this
theorem ZMb [Good R] {x y:Operand} {v:K} {a0 u:α} (T:MapT P t k e z) (H:KeyT P k kv ok) (hx:OpD fr x (dS (ZHU kv R) m)) (hy:OpD fr y d) (hd:IsV d (kv v)) (ho:ok v) (hok:∀ p∈m,ok p.1) (hn:(m.map (·.1)).Nodup) (hz:∀ I w,R I w z a0) (hl:Go.Proofs.YtekiljakcngcoaaGreatDoor.lookM m v=some u) :
  SY P ops hp ⟨dst,.lookup t x y true,ty,ps,af,g⟩ fr (dT [dS R u,dB true]):=by
 have:=ZIz (ops:=ops) (hp:=hp) (dst:=dst) (ty:=ty) (ps:=ps) (af:=af) (g:=g) T H hx hy hd ho hok hn hz
 rwa [hl] at this
end
section
variable {P:Program} {ops:Array Oper} {hp:List HObj} {fr:List Dat} {d:Dat}
variable {dst:Option Tmp} {ty:TypeId} {ps:String} {af:Array Edge} {g:Option (Nat × Bool)} {t k e:TypeId} {z:Value} {K:Type} [DecidableEq K] {kv:K->Value} {ok:K->Prop} {m:List (K × Int)} {b:Nat}
abbrev vvN (n:Int):Value:=.int .i64 n
theorem ZLD {x y:Operand} {v:K} {u:Int} (T:MapT P t k e z) (H:KeyT P k kv ok) (hx:OpD fr x (dX (.map (some b)))) (hm:hM b kv vvN m∈hp) (hy:OpD fr y d) (hd:IsV d (kv v)) (ho:ok v) (hok:∀ p∈m,ok p.1) (hn:(m.map (·.1)).Nodup) (hl:Go.Proofs.YtekiljakcngcoaaGreatDoor.lookM m v=some u) :
  SY P ops hp ⟨dst,.lookup t x y false,ty,ps,af,g⟩ fr (dI u):=by
 have:=SY.lookM (ops:=ops) (dst:=dst) (ty:=ty) (ps:=ps) (af:=af) (g:=g) T H hx hm hy hd ho hok hn
 rwa [hl] at this
theorem ZMZ {x y:Operand} {v:K} {u:Int} (T:MapT P t k e z) (H:KeyT P k kv ok) (hx:OpD fr x (dX (.map (some b)))) (hm:hM b kv vvN m∈hp) (hy:OpD fr y d) (hd:IsV d (kv v)) (ho:ok v) (hok:∀ p∈m,ok p.1) (hn:(m.map (·.1)).Nodup) (hl:Go.Proofs.YtekiljakcngcoaaGreatDoor.lookM m v=some u) :
  SY P ops hp ⟨dst,.lookup t x y true,ty,ps,af,g⟩ fr (dT [dI u,dB true]):=by
 have:=ZEB (ops:=ops) (dst:=dst) (ty:=ty) (ps:=ps) (af:=af) (g:=g) T H hx hm hy hd ho hok hn
 rwa [hl] at this
theorem ZMY {x y:Operand} {v:K} (T:MapT P t k e z) (H:KeyT P k kv ok) (hx:OpD fr x (dX (.map (some b)))) (hm:hM b kv vvN m∈hp) (hy:OpD fr y d) (hd:IsV d (kv v)) (ho:ok v) (hok:∀ p∈m,ok p.1) (hn:(m.map (·.1)).Nodup) (hl:Go.Proofs.YtekiljakcngcoaaGreatDoor.lookM m v=none) :
  SY P ops hp ⟨dst,.lookup t x y true,ty,ps,af,g⟩ fr (dT [dX z,dB false]):=by
 have:=ZEB (ops:=ops) (dst:=dst) (ty:=ty) (ps:=ps) (af:=af) (g:=g) T H hx hm hy hd ho hok hn
 rwa [hl] at this
end
end
section
open Go.RowKit
section
variable {P:Program} {ops:Array Oper} {hp:List HObj} {fr:List Dat} {dst:Option Tmp} {ty:TypeId} {ps:String} {af:Array Edge} {t e:TypeId} {z:Value} {bytes:Nat} {ag:Bool}
theorem SW.app1 {s y:Operand} (E:ElT P t e 1 z bytes ag) {α:Type} {R:Rel α} {_gR:Good R} {v:Value} {xs ys:List α} (hs:OpD fr s (dX v)) (hy:OpD fr y (dS (Arr R) ys)) (hby:0<bytes)
  (hlen:(xs.length+ys.length)*bytes≤140737488355328) :
  SW P ops (Zr v e R xs::hp) (fun v':Value=>Zr v' e R (xs++ys)::hp) (fun v'=>dX v') ⟨dst,.call { callee:=.builtin .append,args:=#[s,y],argTypes:=#[t,t] },ty,ps,af,none⟩ fr:=⟨rfl,fun {P0 B w0 w a} hh ho K Q hk=>by
 obtain ⟨ad,cap,hv,c1,c2,c3⟩:=(hy.get (by simp [Op.operands,Call.operands]) ho:Arr R _ _ _ _)
 have hm:xs.length+ys.length≤maxLen:=by
  have:(xs.length+ys.length)*1≤(xs.length+ys.length)*bytes:=Nat.mul_le_mul_left _ hby
  simp only [maxLen];omega
 have hse:a.eval s=v:=hs.get (by simp [Op.operands,Call.operands]) ho
 cases ad with
 | none =>
  have hy0:ys=[]:=by
   cases ys with
   | nil=>rfl
   | cons y ys=>obtain ⟨_,_,_,_,_,hc,_⟩:=c3 0 (by simp);cases hc
  subst hy0
  obtain ⟨us,_,hown,_⟩:=hh.ok (Zr v e R xs) (by simp)
  have hrun:(execOp a.eval ⟨dst,.call { callee:=.builtin .append,args:=#[s,y],argTypes:=#[t,t] },ty,ps,af,none⟩).run P w = .ok (.value v) w:=by
   have hr:=ZB9 (P:=P) (ty:=ty) (w:=w) E hown cap
   have hv':a.eval y = .slice none 0 cap:=hv
   unfold execOp
   simp only [resolve,invoke,builtin,List.map_toArray,List.map_cons,List.map_nil,hse,hv',Sem.run_bind,Sem.run_pure,Result.andThen_ok]
   rw [hr]
   simp
  unfold Oper.wp
  rw [hrun]
  have:=hk v v w
  simp only [List.append_nil] at this
  exact this hh (fun _ _ h=>h) rfl
 | some ad =>
  have hch:∀ k:Nat,∃ u:Value,∀ h:k<ys.length,w.cell? (ad.add k)=some u/\u.oneCell'=true/\R (Imm P0 B (Zr v e R xs::hp)) w u ys[k]:=fun k=>by
   by_cases hk:k<ys.length
   ·obtain ⟨u,b,off,r1,r2,r3,r4,r5⟩:=c3 k hk
    cases r3
    exact ⟨u,fun _=>⟨by rw [Addr.add_lit];exact r5,r2,r1⟩⟩
   ·exact ⟨undef,fun h=>absurd h hk⟩
  obtain ⟨f,hfch⟩:=Classical.axiomOfChoice hch
  obtain ⟨v',w',hr,r1,r2,r3⟩:=ZCW (ty:=ty) E hh (ad:=ad) (c:=cap) (ys:=ys) (news:=(List.range ys.length).map f) (by simp) (fun j u hu=>by
    obtain ⟨hjl,hju⟩:=List.getElem?_eq_some_iff.1 hu
    simp at hjl hju
    subst hju
    exact (hfch j hjl).1) (fun u hu=>by
    simp only [List.mem_map,List.mem_range] at hu
    obtain ⟨j,hj,rfl⟩:=hu
    exact (hfch j hj).2.1) (fun k h1 h2=>by
    simp only [List.getElem_map,List.getElem_range]
    exact (hfch k h2).2.2) hlen hm
  have hrun:(execOp a.eval ⟨dst,.call { callee:=.builtin .append,args:=#[s,y],argTypes:=#[t,t] },ty,ps,af,none⟩).run P w = .ok (.value v') w':=by
   unfold execOp
   simp only [resolve,invoke,builtin,List.map_toArray,List.map_cons,List.map_nil,hse,hv,Sem.run_bind,Sem.run_pure,Result.andThen_ok,hr]
  unfold Oper.wp
  rw [hrun]
  exact hk v' v' w' r1 (fun d u hd=>ZY (o:=Zr v e R xs) (o':=Zr v' e R (xs++ys)) r2 r3 hd) rfl⟩
end
end
section
open Go.RowKit
def R2 {α β:Type} (R:Rel α) (S:Rel β):Rel (α × β):=fun P w v x=>∃ u u',v = .agg #[u,u']/\u.oneCell'=true/\u'.oneCell'=true/\R P w u x.1/\S P w u' x.2
instance {α β:Type} (R:Rel α) (S:Rel β) [Good R] [Good S]:Good (R2 R S) where
 weak:=fun ⟨u,u',h1,h0,h0',h2,h3⟩ q=>⟨u,u',h1,h0,h0',Good.weak h2 q,Good.weak h3 q⟩
 move:=fun ⟨u,u',h1,h0,h0',h2,h3⟩ q=>⟨u,u',h1,h0,h0',Good.move h2 q,Good.move h3 q⟩
 bound:=fun ⟨u,u',h1,h0,h0',h2,h3⟩=>⟨u,u',h1,h0,h0',Good.bound h2,Good.bound h3⟩
abbrev Cl:=List (Int × Int) × List (Int × Int)
structure ColT (P:Program) (T:TypeId):Prop where
 fld0:∀ b off w,(Instr.fieldAt T (.pointer (some ⟨b,off,none⟩)) 0).run P w = .ok (.pointer (some ⟨b,off+0,none⟩)) w
 fld1:∀ b off w,(Instr.fieldAt T (.pointer (some ⟨b,off,none⟩)) 1).run P w = .ok (.pointer (some ⟨b,off+1,none⟩)) w
 mkp:∀ a n c a' n' c' w,(Instr.build T #[(0,.slice a n c),(1,.slice a' n' c')]).run P w = .ok (.agg #[.slice a n c,.slice a' n' c']) w
end
section
def sgnC (s:List Vx):Int:=2*((s.length:Int).tmod 2)-1
def ZM9 (l:Cx):Int:=(l.map sgnC).sum
theorem ZR5 {l:Cx} {k:Nat} (h:∀ s∈l,s.length=k):ZM9 l=(2*((k:Int) % 2)-1)*l.length:=by
 induction l with
 | nil=>simp [ZM9]
 | cons s l ih =>
  have h1:=ih fun x hx=>h x (List.mem_cons_of_mem _ hx)
  have h2:=h s (by simp)
  have h3:ZM9 (s::l)=sgnC s+ZM9 l:=by unfold ZM9;simp
  have h4:sgnC s=2*((k:Int) % 2)-1:=by unfold sgnC;rw [h2,Int.tmod_eq_emod_of_nonneg (by omega)]
  rw [h3,h1,h4,List.length_cons,Int.natCast_add,Int.mul_add]
  omega
theorem ZSt (l:Cx):∀ k,ZM9 (upC l k)=ZD1 l k
 | 0=>rfl
 | k+1=>by
  have h1:=ZSt l k
  have h2:ZM9 (ZBB l (k+1))=(2*(((k+1:Nat):Int) % 2)-1)*(ZBB l (k+1)).length:=ZR5 fun s hs=>by
   obtain ⟨f,_,hx⟩:=ZBF.1 hs
   exact ((ZAw _ _ _).1 hx).2
  have h3:ZM9 (upC l (k+1))=ZM9 (upC l k)+ZM9 (ZBB l (k+1)):=by
   show ZM9 (upC l k++ZBB l (k+1))=_
   unfold ZM9;rw [List.map_append,List.sum_append]
  rw [h3,h1,h2]
  show _=if (k+1) % 2=1 then ZD1 l k+((ZBB l (k+1)).length:Int) else ZD1 l k-((ZBB l (k+1)).length:Int)
  by_cases h4:(k+1) % 2=1
  ·have:((k+1:Nat):Int) % 2=1:=by omega
   rw [if_pos h4,this];omega
  ·have:((k+1:Nat):Int) % 2=0:=by omega
   rw [if_neg h4,this];omega
theorem Gd.sum {l:Cx} (h:Gd l):ZM9 (upC l 5)=ZD1 l 8:=by
 rw [ZSt]
 have h6:=h.none (k:=6) (by omega)
 have h7:=h.none (k:=7) (by omega)
 have h8:=h.none (k:=8) (by omega)
 have e:∀ k,ZBB l (k+1)=[]->ZD1 l (k+1)=ZD1 l k:=fun k hk=>by
  show (if (k+1) % 2=1 then ZD1 l k+((ZBB l (k+1)).length:Int) else ZD1 l k-((ZBB l (k+1)).length:Int))=_
  rw [hk];simp
 rw [e 7 h8,e 6 h7,e 5 h6]
end
section
theorem ZGo {l:Cx} (hl:∀ s∈l,Asc s):∀ k,(upC l k).Nodup
 | 0=>by simp [upC]
 | k+1=>by
  show (upC l k++ZBB l (k+1)).Nodup
  rw [List.nodup_append]
  refine ⟨ZGo hl k,(ZEL l _).nodup,fun x hx y hy hxy=>?_⟩
  subst hxy
  obtain ⟨j,h1,h2,h3⟩:=ZK4.1 hx
  have e1:=((ZNn hl).1 h3).2.1
  have e2:=((ZNn hl).1 hy).2.1
  omega
end
section
section
variable {V:Type} [DecidableEq V]
def ZAu (m:List (V × V)) (v:V):V:=m.foldl (fun x p=>if x=p.1 then p.2 else x) v
def ZSW (m:List (V × V)) (v:V):Nat:=(m.foldl (fun (x:V × Nat) p=>if x.1=p.1 then (p.2,x.2+1) else x) (v,0)).2
theorem ZUE (m:List (V × V)) (v:V) (n:Nat):(m.foldl (fun (x:V × Nat) p=>if x.1=p.1 then (p.2,x.2+1) else x) (v,n)).1=ZAu m v:=by
 induction m generalizing v n with
 | nil=>rfl
 | cons p m ih =>
  unfold ZAu at *
  rw [List.foldl_cons,List.foldl_cons]
  by_cases h:v=p.1
  ·rw [if_pos h,if_pos h];exact ih _ _
  ·rw [if_neg h,if_neg h];exact ih _ _
theorem ZCw (m:List (V × V)) (a b v:V):ZAu (m++[(a,b)]) v=if ZAu m v=a then b else ZAu m v:=by
 unfold ZAu;rw [List.foldl_append];rfl
theorem ZEW (m:List (V × V)) (a b v:V):ZSW (m++[(a,b)]) v=if ZAu m v=a then ZSW m v+1 else ZSW m v:=by
 have h:=ZUE m v 0
 unfold ZSW
 rw [List.foldl_append]
 simp only [List.foldl_cons,List.foldl_nil]
 rw [h]
 by_cases h1:ZAu m v=a
 ·rw [if_pos h1,if_pos h1]
 ·rw [if_neg h1,if_neg h1]
inductive OkM:List (V × V)->Prop
 | nil:OkM []
 | snoc {m:List (V × V)} {a b:V} (h:OkM m) (ha:a∉m.map (·.1)) (hb:b∉m.map (·.1)) (hne:a≠b):OkM (m++[(a,b)])
theorem ZOy {m:List (V × V)} {a b v:V} (ha:a∉m.map (·.1)):lookM (m++[(a,b)]) v=if v=a then some b else lookM m v:=by
 unfold lookM
 rw [List.find?_append]
 by_cases h:v=a
 ·subst h
  rw [if_pos rfl]
  have:m.find? (fun p=>decide (p.1=v))=none:=by
   rw [List.find?_eq_none]
   intro p hp hc
   exact ha (List.mem_map.2 ⟨p,hp,of_decide_eq_true hc⟩)
  rw [this]
  simp
 ·rw [if_neg h]
  cases h1:m.find? (fun p=>decide (p.1=v)) with
  | none =>
   have:decide (a=v)=false:=decide_eq_false fun hc=>h hc.symm
   simp [this]
  | some p=>simp
theorem ZOx {m:List (V × V)} {v:V}:lookM m v=none↔v∉m.map (·.1):=by
 unfold lookM
 rw [Option.map_eq_none_iff,List.find?_eq_none]
 constructor
 ·intro h hc
  obtain ⟨p,hp,h1⟩:=List.mem_map.1 hc
  exact h p hp (decide_eq_true h1)
 ·intro h p hp hc
  exact h (List.mem_map.2 ⟨p,hp,of_decide_eq_true hc⟩)
theorem ZIU {m:List (V × V)} (h:OkM m) {v:V} (hv:v∉m.map (·.1)):ZAu m v=v/\ZSW m v=0:=by
 induction h with
 | nil=>exact ⟨rfl,rfl⟩
 | snoc h ha hb hne ih =>
  rename_i m a b
  rw [List.map_append,List.mem_append,not_or] at hv
  obtain ⟨h1,h2⟩:=ih hv.1
  have h3:v≠a:=by simpa using hv.2
  rw [ZCw,ZEW,h1,h2,if_neg h3,if_neg h3]
  exact ⟨rfl,rfl⟩
theorem ZRp {m:List (V × V)} (h:OkM m) {v u:V} (hv:lookM m v=some u):ZAu m v=ZAu m u/\ZSW m u<ZSW m v:=by
 induction h with
 | nil=>simp [lookM] at hv
 | snoc h ha hb hne ih =>
  rename_i m a b
  rw [ZOy ha] at hv
  by_cases h1:v=a
  ·rw [if_pos h1] at hv
   subst h1
   cases hv
   obtain ⟨h2,h3⟩:=ZIU h ha
   obtain ⟨h4,h5⟩:=ZIU h hb
   rw [ZCw,ZCw,ZEW,ZEW,h2,h3,h4,h5,if_pos rfl,if_neg (Ne.symm hne),if_pos rfl,if_neg (Ne.symm hne)]
   exact ⟨rfl,by omega⟩
  ·rw [if_neg h1] at hv
   obtain ⟨h2,h3⟩:=ih hv
   rw [ZCw,ZCw,ZEW,ZEW,h2]
   refine ⟨rfl,?_⟩
   by_cases h4:ZAu m u=a
   ·rw [if_pos h4,if_pos h4];omega
   ·rw [if_neg h4,if_neg h4];exact h3
theorem ZKx {m:List (V × V)} (h:OkM m) (v:V):ZAu m v∉m.map (·.1):=by
 induction h with
 | nil=>simp
 | snoc h ha hb hne ih =>
  rename_i m a b
  rw [ZCw,List.map_append,List.mem_append]
  by_cases h1:ZAu m v=a
  ·rw [if_pos h1];simp only [List.map_cons,List.map_nil,List.mem_singleton]
   exact fun hc=>hc.elim hb fun hc=>hne hc.symm
  ·rw [if_neg h1];simp only [List.map_cons,List.map_nil,List.mem_singleton]
   exact fun hc=>hc.elim ih h1
def ZEe (m:List (V × V)) (u v:V):List (V × V):=if ZAu m u=ZAu m v then m else m++[(ZAu m u,ZAu m v)]
theorem ZTp {m:List (V × V)} (h:OkM m) (u v:V):OkM (ZEe m u v):=by
 unfold ZEe
 by_cases h1:ZAu m u=ZAu m v
 ·rw [if_pos h1];exact h
 ·rw [if_neg h1];exact OkM.snoc h (ZKx h u) (ZKx h v) h1
theorem ZL1 (m:List (V × V)) (u v x:V):ZAu (ZEe m u v) x=if ZAu m x=ZAu m u then ZAu m v else ZAu m x:=by
 unfold ZEe
 by_cases h1:ZAu m u=ZAu m v
 ·rw [if_pos h1]
  by_cases h2:ZAu m x=ZAu m u
  ·rw [if_pos h2,h2,h1]
  ·rw [if_neg h2]
 ·rw [if_neg h1,ZCw]
def ZAc (m:List (V × V)) (es:List (V × V)):List (V × V):=es.foldl (fun m e=>ZEe m e.1 e.2) m
theorem ZL2 {es:List (V × V)}:∀ {m:List (V × V)},OkM m->OkM (ZAc m es):=by
 induction es with
 | nil=>intro m h;exact h
 | cons e es ih=>intro m h;exact ih (ZTp h e.1 e.2)
inductive Conn (es:List (V × V)):V->V->Prop
 | refl (u:V):Conn es u u
 | step {u v w:V} (h:Conn es u v) (e:(v,w)∈es\/(w,v)∈es):Conn es u w
theorem Conn.trans {es:List (V × V)} {u v w:V} (h:Conn es u v) (k:Conn es v w):Conn es u w:=by
 induction k with
 | refl=>exact h
 | step _ e ih=>exact ih.step e
theorem Conn.symm {es:List (V × V)} {u v:V} (h:Conn es u v):Conn es v u:=by
 induction h with
 | refl=>exact .refl _
 | step _ e ih=>exact (Conn.step (.refl _) e.symm).trans ih
theorem Conn.mono {es es':List (V × V)} (hs:∀ e∈es,e∈es') {u v:V} (h:Conn es u v):Conn es' u v:=by
 induction h with
 | refl=>exact .refl _
 | step _ e ih=>exact ih.step (e.elim (fun e=>.inl (hs _ e)) fun e=>.inr (hs _ e))
theorem ZFB (es:List (V × V)) (e:V × V):ZAc [] (es++[e])=ZEe (ZAc [] es) e.1 e.2:=by unfold ZAc;rw [List.foldl_append];rfl
theorem ZF1 {α:Type} {P:List α->Prop} (h0:P []) (h1:∀ l a,P l->P (l++[a])):∀ l,P l:=fun l=>by
 have:P l.reverse.reverse:=by
  induction l.reverse with
  | nil=>exact h0
  | cons a l ih=>rw [List.reverse_cons];exact h1 _ _ ih
 rwa [List.reverse_reverse] at this
theorem ZLg (es:List (V × V)):∀ u v,ZAu (ZAc [] es) u=ZAu (ZAc [] es) v↔Conn es u v:=by
 refine ZF1 (P:=fun es=>∀ u v,ZAu (ZAc [] es) u=ZAu (ZAc [] es) v↔Conn es u v) ?_ ?_ es
 ·intro u v
  constructor
  ·intro h
   have:u=v:=h
   subst this
   exact .refl _
  ·intro h
   induction h with
   | refl=>rfl
   | step _ e _=>simp at e
 ·intro es e ih u v
  have hm:∀ x∈es,x∈es++[e]:=fun x hx=>List.mem_append_left _ hx
  have h1:Conn (es++[e]) e.1 e.2:=.step (.refl _) (.inl (by simp))
  rw [ZFB,ZL1,ZL1]
  constructor
  ·intro h
   by_cases a1:ZAu (ZAc [] es) u=ZAu (ZAc [] es) e.1
   ·have c1:=((ih _ _).1 a1).mono hm
    by_cases a2:ZAu (ZAc [] es) v=ZAu (ZAc [] es) e.1
    ·exact c1.trans (((ih _ _).1 a2).mono hm).symm
    ·rw [if_pos a1,if_neg a2] at h
     exact (c1.trans h1).trans (((ih _ _).1 h).mono hm)
   ·by_cases a2:ZAu (ZAc [] es) v=ZAu (ZAc [] es) e.1
    ·rw [if_neg a1,if_pos a2] at h
     exact ((((ih _ _).1 h).mono hm).trans h1.symm).trans (((ih _ _).1 a2).mono hm).symm
    ·rw [if_neg a1,if_neg a2] at h
     exact ((ih _ _).1 h).mono hm
  ·intro h
   induction h with
   | refl=>rfl
   | step _ k ihk =>
    rename_i x y _
    rw [ihk]
    have hk:∀ x y:V,(x,y)∈es++[e]->(if ZAu (ZAc [] es) x=ZAu (ZAc [] es) e.1 then ZAu (ZAc [] es) e.2 else ZAu (ZAc [] es) x)=if ZAu (ZAc [] es) y=ZAu (ZAc [] es) e.1 then ZAu (ZAc [] es) e.2 else ZAu (ZAc [] es) y:=by
     intro x y hxy
     rcases List.mem_append.1 hxy with hxy|hxy
     ·have:=(ih x y).2 (.step (.refl _) (.inl hxy))
      rw [this]
     ·have he:(x,y)=e:=by simpa using hxy
      subst he
      rw [if_pos rfl]
      by_cases h3:ZAu (ZAc [] es) y=ZAu (ZAc [] es) x
      ·rw [if_pos h3]
      ·rw [if_neg h3]
    rcases k with k|k
    ·exact hk _ _ k
    ·exact (hk _ _ k).symm
end
end
section
section
variable {V:Type} [DecidableEq V]
def ZHP:List V->V->Nat
 | [],_=>0
 | y::l,x=>if y=x then 0 else ZHP l x+1
theorem ZCf {a:List V} {x:V}:ZHP (x::a) x=0:=by unfold ZHP;rw [if_pos rfl]
theorem ZFJ {a:List V} {x y:V} (h:y≠x):ZHP (y::a) x=ZHP a x+1:=by
 conv=>lhs;unfold ZHP
 rw [if_neg h]
theorem ZPS:∀ {a:List V} {x:V},x∈a->ZHP a x<a.length
 | y::a,x,h=>by
  by_cases h1:y=x
  ·subst h1;rw [ZCf];simp
  ·rw [ZFJ h1,List.length_cons]
   have:=ZPS ((List.mem_cons.1 h).resolve_left fun e=>h1 e.symm)
   omega
theorem ZIQ:∀ {a b:List V} {x:V},ZHP (a++b) x=if x∈a then ZHP a x else ZHP b x+a.length
 | [],b,x=>by simp
 | y::a,b,x=>by
  rw [List.cons_append]
  by_cases h1:y=x
  ·subst h1;rw [ZCf,ZCf,if_pos (by simp)]
  ·rw [ZFJ h1,ZFJ h1,ZIQ]
   by_cases h2:x∈a
   ·rw [if_pos h2,if_pos (List.mem_cons_of_mem _ h2)]
   ·rw [if_neg h2,if_neg,List.length_cons]
    ·omega
    ·rw [List.mem_cons,not_or];exact ⟨fun e=>h1 e.symm,h2⟩
def ZAB (rs:List V):List V:=rs.foldl (fun seen r=>if r∈seen then seen else seen++[r]) []
theorem ZHy (rs:List V) (r:V):ZAB (rs++[r])=if r∈ZAB rs then ZAB rs else ZAB rs++[r]:=by unfold ZAB;rw [List.foldl_append];rfl
theorem ZGK {rs:List V} {k:Nat} (h:k<rs.length):ZAB (rs.take (k+1))=if rs[k]∈ZAB (rs.take k) then ZAB (rs.take k) else ZAB (rs.take k)++[rs[k]]:=by rw [ZZ h,ZHy]
theorem ZBk (rs:List V):(ZAB rs).Nodup/\∀ x,x∈ZAB rs↔x∈rs:=by
 refine ZF1 (P:=fun rs=>(ZAB rs).Nodup/\∀ x,x∈ZAB rs↔x∈rs) ⟨by simp [ZAB],fun x=>by simp [ZAB]⟩ (fun l a ⟨h1,h2⟩=>?_) rs
 rw [ZHy]
 by_cases h:a∈ZAB l
 ·rw [if_pos h]
  refine ⟨h1,fun x=>?_⟩
  rw [h2,List.mem_append,List.mem_singleton]
  constructor
  ·exact .inl
  ·rintro (h3|rfl)
   ·exact h3
   ·exact (h2 _).1 h
 ·rw [if_neg h]
  refine ⟨?_,fun x=>?_⟩
  ·rw [List.nodup_append]
   refine ⟨h1,by simp,fun y hy c hc=>?_⟩
   rw [List.mem_singleton.1 hc]
   rintro rfl
   exact h hy
  ·rw [List.mem_append,List.mem_append,h2]
theorem ZLi (rs es:List V):∃ t,ZAB (rs++es)=ZAB rs++t:=by
 refine ZF1 (P:=fun es=>∃ t,ZAB (rs++es)=ZAB rs++t) ⟨[],by simp⟩ (fun l a ⟨t,ht⟩=>?_) es
 rw [<- List.append_assoc,ZHy,ht]
 by_cases h:a∈ZAB rs++t
 ·rw [if_pos h];exact ⟨t,rfl⟩
 ·rw [if_neg h];exact ⟨t++[a],by simp⟩
theorem ZGV {a b:List V} {x:V} (h:x∈a):ZHP (a++b) x=ZHP a x:=by rw [ZIQ,if_pos h]
theorem ZIA {a:List V} {x:V} (h:x∉a):ZHP a x=a.length:=by
 induction a with
 | nil=>rfl
 | cons y a ih =>
  rw [List.mem_cons,not_or] at h
  rw [ZFJ (Ne.symm h.1),ih h.2];rfl
theorem ZU7 {rs:List V} {k:Nat} (h:k<rs.length):ZHP (ZAB rs) rs[k]=ZHP (ZAB (rs.take k)) rs[k]:=by
 obtain ⟨t,ht⟩:=ZLi (rs.take (k+1)) (rs.drop (k+1))
 rw [List.take_append_drop] at ht
 have hm:rs[k]∈ZAB (rs.take (k+1)):=((ZBk _).2 _).2 (by rw [ZZ h];exact List.mem_append_right _ (by simp))
 rw [ht,ZGV hm,ZGK h]
 by_cases h1:rs[k]∈ZAB (rs.take k)
 ·rw [if_pos h1]
 ·rw [if_neg h1,ZIA h1,ZIQ,if_neg h1,ZCf];simp
theorem ZSf {a:List V} {x:V} (hx:x∈a):ZHP a x<a.length:=ZPS hx
def ZD7:Int->List V->List (V × Int)
 | _,[]=>[]
 | n,r::rs=>(r,n)::ZD7 (n+1) rs
theorem ZDJ:∀ (rs:List V) (n:Int),(ZD7 n rs).map (·.1)=rs
 | [],_=>rfl
 | r::rs,n=>by show r::(ZD7 (n+1) rs).map (·.1)=_;rw [ZDJ rs]
theorem ZRb (rs:List V) (n:Int):(ZD7 n rs).length=rs.length:=by
 have:=congrArg List.length (ZDJ rs n)
 rwa [List.length_map] at this
theorem ZMA:∀ (a b:List V) (n:Int),ZD7 n (a++b)=ZD7 n a++ZD7 (n+a.length) b
 | [],b,n=>by simp [ZD7]
 | r::a,b,n=>by
  show (r,n)::ZD7 (n+1) (a++b)=(r,n)::(ZD7 (n+1) a++_)
  rw [ZMA a b]
  have:n+1+(a.length:Int)=n+((r::a).length:Int):=by rw [List.length_cons];omega
  rw [this]
theorem ZJu:∀ (rs:List V) (n:Int) (x:V),lookM (ZD7 n rs) x=if x∈rs then some (n+(ZHP rs x:Int)) else none
 | [],n,x=>by simp [ZD7,lookM]
 | r::rs,n,x=>by
  by_cases h:r=x
  ·subst h
   rw [if_pos (by simp),ZCf]
   unfold lookM ZD7
   rw [List.find?_cons_of_pos (by simp)]
   simp
  ·have h1:=ZJu rs (n+1) x
   have e:lookM (ZD7 n (r::rs)) x=lookM (ZD7 (n+1) rs) x:=by
    unfold lookM
    conv=>lhs;unfold ZD7
    rw [List.find?_cons_of_neg (by simpa using h)]
   rw [e,h1,ZFJ h]
   by_cases h2:x∈rs
   ·rw [if_pos h2,if_pos (List.mem_cons_of_mem _ h2)]
    congr 1
    omega
   ·rw [if_neg h2,if_neg]
    rw [List.mem_cons,not_or]
    exact ⟨fun h3=>h h3.symm,h2⟩
end
def hdV (s:List Vx):Vx:=s.headD (0,0)
def ZKh (s:List Vx):List (Vx × Vx):=(s.drop 1).map fun v=>(hdV s,v)
def ZHz (l:Cx):List (Vx × Vx):=l.flatMap ZKh
def ufC (l:Cx):List (Vx × Vx):=ZAc [] (ZHz l)
def ZAj (l:Cx) (s:List Vx):Vx:=ZAu (ufC l) (hdV s)
def Zz (l:Cx):List Vx:=l.map (ZAj l)
def ZL9 (l:Cx) (s:List Vx):Nat:=ZHP (ZAB (Zz l)) (ZAj l s)
def ZBK (l:Cx):List Int:=l.map fun s=>(ZL9 l s:Int)
def ZC1 (l:Cx):Nat:=(ZAB (Zz l)).length
theorem ZOU {l:Cx} {i:Nat} (h:i<l.length):ZHz (l.take (i+1))=ZHz (l.take i)++ZKh l[i]:=by unfold ZHz;rw [ZZ h,List.flatMap_append];simp
theorem ZFo {l:Cx} {e:Vx × Vx}:e∈ZHz l↔∃ f∈l,e.1=hdV f/\e.2∈f.drop 1:=by
 unfold ZHz ZKh
 rw [List.mem_flatMap]
 constructor
 ·rintro ⟨f,hf,he⟩
  obtain ⟨v,hv,rfl⟩:=List.mem_map.1 he
  exact ⟨f,hf,rfl,hv⟩
 ·rintro ⟨f,hf,h1,h2⟩
  exact ⟨f,hf,List.mem_map.2 ⟨e.2,h2,by rw [<- h1]⟩⟩
theorem ZDs {s:List Vx} (h:0<s.length):hdV s∈s:=by
 cases s with
 | nil=>simp at h
 | cons v s=>simp [hdV]
theorem ZVG {s:List Vx} {v:Vx} (h:v∈s):v=hdV s\/v∈s.drop 1:=by
 cases s with
 | nil=>simp at h
 | cons u s=>simpa [hdV] using h
theorem ZGg {l:Cx} {s:List Vx} (hs:s∈l) {v:Vx} (hv:v∈s):ZAu (ufC l) v=ZAj l s:=by
 rcases ZVG hv with rfl|h
 ·rfl
 ·exact ((ZLg (ZHz l) _ _).2 (.step (.refl _) (.inl (ZFo.2 ⟨s,hs,rfl,h⟩)))).symm
theorem ZGh {l:Cx} {s t:List Vx} (hs:s∈l) (ht:t∈l) {v:Vx} (h1:v∈s) (h2:v∈t):ZAj l s=ZAj l t:=by rw [<- ZGg hs h1,ZGg ht h2]
theorem ZFz {l:Cx} {s:List Vx} (hs:s∈l):ZAj l s∈ZAB (Zz l):=((ZBk _).2 _).2 (List.mem_map_of_mem hs)
theorem ZVJ {l:Cx} {s:List Vx} (hs:s∈l):ZL9 l s<ZC1 l:=ZSf (ZFz hs)
theorem ZPD {l:Cx} {i:Nat} (h:i<l.length):ZL9 l l[i]=ZHP (ZAB ((Zz l).take i)) (ZAj l l[i]):=by
 have:=ZU7 (rs:=Zz l) (k:=i) (by simpa [Zz] using h)
 simpa [Zz,ZL9] using this
theorem ZMS {a b:List Nat} (h:a.Perm b) (f:Nat->Int):(a.map f).sum=(b.map f).sum:=by
 induction h with
 | nil=>rfl
 | cons x _ ih=>simp only [List.map_cons,List.sum_cons,ih]
 | swap x y l=>simp only [List.map_cons,List.sum_cons];omega
 | trans _ _ h1 h2=>exact h1.trans h2
end
section
structure PairOk (l:Cx) (x:Cl):Prop where
 mem:x.2∈l
 chk2:Z3 x.2=0
 chk1:Z3 x.1=0
 sub:x.1.Sublist x.2
 len:x.1.length+1=x.2.length
 one:∀ f∈l,ZA1 x.1 f=true->f=x.2
end
section
def ZPg (s t:List Vx):Bool:=decide (0<(ZDP s t true).length)
theorem ZPh {s t:List Vx}:ZPg s t=true↔∃ v,v∈s/\v∈t:=by
 unfold ZPg ZDP
 rw [decide_eq_true_iff,List.length_pos_iff_exists_mem]
 constructor
 ·rintro ⟨v,hv⟩
  have:=List.mem_filter.1 hv
  exact ⟨v,this.1,by simpa using this.2⟩
 ·rintro ⟨v,h1,h2⟩
  exact ⟨v,List.mem_filter.2 ⟨h1,by simpa using h2⟩⟩
def ZRi (l:Cx) (i:Nat):List Int:=l.map fun s=>if ZAj l s∈ZAB ((Zz l).take i) then (ZL9 l s:Int) else -1
def ZJt (l:Cx) (i:Nat):Nat:=(ZAB ((Zz l).take i)).length
theorem ZMF (l:Cx) (i:Nat):(ZRi l i).length=l.length:=by simp [ZRi]
theorem ZT6 {l:Cx} {i t:Nat} (h:t<l.length) (h':t<(ZRi l i).length):(ZRi l i)[t]=if ZAj l l[t]∈ZAB ((Zz l).take i) then (ZL9 l l[t]:Int) else -1:=by simp [ZRi]
theorem ZMz {l:Cx} {i:Nat} {s:List Vx} (h:ZAj l s∈ZAB ((Zz l).take i)):ZL9 l s<ZJt l i:=by
 obtain ⟨t,ht⟩:=ZLi ((Zz l).take i) ((Zz l).drop i)
 rw [List.take_append_drop] at ht
 unfold ZL9 ZJt
 rw [ht,ZGV h]
 exact ZSf h
structure Mid (l:Cx) (i:Nat) (o:List Int):Prop where
 len:o.length=l.length
 each:∀ (t:Nat) (h:t<l.length) (h':t<o.length),o[t]=(ZRi l i)[t]'(by rw [ZMF];exact h)\/(o[t]=(ZJt l i:Int)/\∃ hi:i<l.length,ZAj l l[t]=ZAj l l[i])
 own:∀ (h':i<o.length),o[i]=(ZJt l i:Int)
theorem ZT7 {l:Cx} {i t:Nat} (h:t<l.length) (h':t<(ZRi l i).length):(ZRi l i)[t]<(ZJt l i:Int) /\ -1≤(ZRi l i)[t]:=by
 rw [ZT6 h]
 by_cases h1:ZAj l l[t]∈ZAB ((Zz l).take i)
 ·rw [if_pos h1]
  have:=ZMz h1
  omega
 ·rw [if_neg h1];omega
theorem Mid.root {l:Cx} {i:Nat} {o:List Int} (M:Mid l i o) {t:Nat} (h:t<l.length) (h':t<o.length) (hi:i<l.length) (ho:o[t]=(ZJt l i:Int)):ZAj l l[t]=ZAj l l[i]:=by
 rcases M.each t h h' with h1|⟨_,_,h2⟩
 ·have:=(ZT7 (i:=i) h (by rw [ZMF];exact h)).1
  omega
 ·exact h2
theorem Mid.set {l:Cx} {i:Nat} {o:List Int} (M:Mid l i o) (hi:i<l.length) {j k:Nat} (hj:j<l.length) (hk:k<l.length) (hk':k<o.length) (ho:o[k]=(ZJt l i:Int)) (hs:ZPg l[j] l[k]=true):Mid l i (o.set j (ZJt l i:Int)) :=
 ⟨by rw [List.length_set,M.len],fun t h1 h2=>by
  have h2':t<o.length:=by simpa using h2
  rw [List.getElem_set]
  by_cases hjt:j=t
  ·subst hjt
   rw [if_pos rfl]
   obtain ⟨v,v1,v2⟩:=ZPh.1 hs
   refine .inr ⟨rfl,hi,?_⟩
   rw [ZGh (List.getElem_mem hj) (List.getElem_mem hk) v1 v2]
   exact M.root hk hk' hi ho
  ·rw [if_neg hjt];exact M.each t h1 h2',fun h'=>by
  rw [List.getElem_set]
  by_cases hji:j=i
  ·rw [if_pos hji]
  ·rw [if_neg hji];exact M.own _⟩
end
end Go.Proofs.YtekiljakcngcoaaGreatDoor
