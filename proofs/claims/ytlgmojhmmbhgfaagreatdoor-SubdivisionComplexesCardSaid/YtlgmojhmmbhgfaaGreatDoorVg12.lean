/- Part 12: walks by contracts, and plain laws. -/
import Derived.Test.YtlgmojhmmbhgfaaGreatDoorVg11
set_option linter.unusedVariables false
set_option linter.unusedSimpArgs false
set_option linter.unusedSectionVars false
set_option maxRecDepth 100000
set_option maxHeartbeats 4000000
namespace Go.Proofs.YtlgmojhmmbhgfaaGreatDoor
section
open Go.RowKit
section
variable {P:Program} {ops:Array Oper} {hp:List HObj} {fr:List Dat} {d e:Dat} {Q:ZAL} {rest:List Oper}
variable {dst:Option Tmp} {ty:TypeId} {ps:String} {af:Array Edge} {g:Option (Nat × Bool)} {T T1 T2:TypeId} {b off k n:Nat} {ds ds':List Dat}
theorem ZBD {x:Operand} {i:Nat} (S:StrT P T n) (hx:OpD fr x (dP n true d)) (hle:d.le (ZEC ds)) (hl:ds.length=n) (hi:ds[i]?=some e) :
  SY P ops hp ⟨dst,.fieldAddr T x i,ty,ps,af,g⟩ fr (dP 1 false e):=SY.val fun {I w a} ho=>by
 obtain ⟨b,off,u,h1,⟨hb,cs,k1,k0,k2,k3,k4⟩,hu⟩:=hx.get (by simp [Op.operands]) ho
 obtain ⟨us,q1,q2,q3,q4⟩:=hle _ _ _ hu
 simp only [if_true] at k4
 rw [k4] at q1
 have hcs:cs=us:=by injection q1 with q1;exact List.toArray_inj q1
 subst hcs
 have hil:i<ds.length:=(List.getElem?_eq_some_iff.1 hi).1
 have hic:i<cs.length:=by omega
 refine ⟨_,?_,b,off+i,cs[i],rfl,⟨hb,[cs[i]],rfl,Nat.one_pos,by simpa using k2 _ (List.getElem_mem hic),fun j c hc=>?_,rfl⟩,q4 i _ e (List.getElem?_eq_getElem hic) hi⟩
 ·unfold execOp
  simp only [h1,Sem.run_bind,S.fld b off i w (by omega),Result.andThen_ok,Sem.run_pure]
 ·have hj:j=0:=by have:=(List.getElem?_eq_some_iff.1 hc).1;simpa using this
  subst hj
  cases hc
  exact k3 i _ (List.getElem?_eq_getElem hic)
theorem ZKr {α:Type} {R:Rel α} {_gR:Good R} {v:Value} {xs:List α} {eT:TypeId} (hk:ds[k]?=some (dX v)) (h:WL P ops Q rest fr (Zp b T (ds.set k (dS (Arr R) xs))::hp)):WL P ops Q rest fr (Zp b T ds::ZW v eT R xs::hp):=WL.of fun P0 B w0 w a hh hf=>by
 obtain ⟨hh1,hI1⟩:=hh.perm (List.Perm.swap _ _ _)
 have hA:Arr R (Imm P0 B (Zp b T ds::hp)) w v xs:=ZBz hh1
 have hh2:=hh1.drop
 have hgr:w.grownBy w (Zp b T ds).blk:=⟨rfl,rfl,rfl,Nat.le_refl _,fun _ _ _=>rfl⟩
 obtain ⟨cs,c1,c2,c3,c4⟩:=hh2.ok (Zp b T ds) (by simp)
 have hkl:=(List.getElem?_eq_some_iff.1 hk).1
 have hkc:k<cs.length:=by omega
 have hv:cs[k]=v:=c4 k _ _ (List.getElem?_eq_getElem hkc) hk
 have hok:(Zp b T (ds.set k (dS (Arr R) xs))).ok (fun j=>Imm P0 B (Zp b T ds::hp) j/\j<w.heap.size) w:=by
  refine ⟨cs,c1,by simp [c2],c3,fun j c e hc he=>?_⟩
  rw [List.getElem?_set] at he
  by_cases hjk:k=j
  ·rw [if_pos hjk,if_pos hkl] at he
   cases he
   subst hjk
   rw [List.getElem?_eq_getElem hkc] at hc
   cases hc
   rw [hv]
   exact (dS (Arr R) xs).bound hA
  ·rw [if_neg hjk] at he
   exact e.bound (c4 j c e hc he)
 refine h.on (hh2.write hgr (.inl rfl) hok) (hf.mono fun d u hd=>?_)
 exact ZM (o:=Zp b T ds) (o':=Zp b T (ds.set k (dS (Arr R) xs))) hgr (.inl rfl) (d.weak hd fun j hj=>Imm.sub j ((hI1 j).1 hj))
theorem ZDW {c:Code} {α:Type} {R:Rel α} {_gR:Good R} {v:Value} {xs:List α} {eT:TypeId} (hk:ds[k]?=some (dX v)) (h:WC P Q c fr (Zp b T (ds.set k (dS (Arr R) xs))::hp)):WC P Q c fr (Zp b T ds::ZW v eT R xs::hp):=WC.of fun P0 B w0 w a hh hf=>by
 obtain ⟨hh1,hI1⟩:=hh.perm (List.Perm.swap _ _ _)
 have hA:Arr R (Imm P0 B (Zp b T ds::hp)) w v xs:=ZBz hh1
 have hh2:=hh1.drop
 have hgr:w.grownBy w (Zp b T ds).blk:=⟨rfl,rfl,rfl,Nat.le_refl _,fun _ _ _=>rfl⟩
 obtain ⟨cs,c1,c2,c3,c4⟩:=hh2.ok (Zp b T ds) (by simp)
 have hkl:=(List.getElem?_eq_some_iff.1 hk).1
 have hkc:k<cs.length:=by omega
 have hv:cs[k]=v:=c4 k _ _ (List.getElem?_eq_getElem hkc) hk
 have hok:(Zp b T (ds.set k (dS (Arr R) xs))).ok (fun j=>Imm P0 B (Zp b T ds::hp) j/\j<w.heap.size) w:=by
  refine ⟨cs,c1,by simp [c2],c3,fun j c e hc he=>?_⟩
  rw [List.getElem?_set] at he
  by_cases hjk:k=j
  ·rw [if_pos hjk,if_pos hkl] at he
   cases he
   subst hjk
   rw [List.getElem?_eq_getElem hkc] at hc
   cases hc
   rw [hv]
   exact (dS (Arr R) xs).bound hA
  ·rw [if_neg hjk] at he
   exact e.bound (c4 j c e hc he)
 refine h.on (hh2.write hgr (.inl rfl) hok) (hf.mono fun d u hd=>?_)
 exact ZM (o:=Zp b T ds) (o':=Zp b T (ds.set k (dS (Arr R) xs))) hgr (.inl rfl) (d.weak hd fun j hj=>Imm.sub j ((hI1 j).1 hj))
end
abbrev Sb:=List (List (Int × Int)) × List (Int × Int) × List (List (Int × Int))
abbrev ZCb:Rel Sb:=R3 Zc ZE Zc
theorem ZAe:StrT Tryz.prog 30 3:=⟨fun b off i w hi=>by
 have:i=0\/i=1\/i=2:=by omega
 rcases this with rfl|rfl|rfl <;> go_simp⟩
theorem ZAd:TyI Tryz.prog 30 3 true:=⟨by kernel_rfl,Tryz.isAgg30⟩
theorem ZCH:TyZ Tryz.prog 30 (.agg #[.slice none 0 0,.slice none 0 0,.slice none 0 0]):=⟨by kernel_rfl⟩
theorem ZLq {u u':Value} (h0:u.oneCell'=true) (h1:u'.oneCell'=true):(dX (.agg #[u,u'])).Shape 2 true:=fun _ _ _ h=>by
 cases (h:_=_)
 exact ⟨[u,u'],rfl,by omega,fun c hc=>by
  simp only [List.mem_cons,List.not_mem_nil,or_false] at hc
  rcases hc with rfl|rfl <;> assumption,rfl,rfl⟩
theorem Zj {u u' u'':Value} (h0:u.oneCell'=true) (h1:u'.oneCell'=true) (h2:u''.oneCell'=true):(dX (.agg #[u,u',u''])).Shape 3 true:=fun _ _ _ h=>by
 cases (h:_=_)
 exact ⟨[u,u',u''],rfl,by omega,fun c hc=>by
  simp only [List.mem_cons,List.not_mem_nil,or_false] at hc
  rcases hc with rfl|rfl|rfl <;> assumption,rfl,rfl⟩
section
variable {ops:Array Oper} {hp:List HObj} {fr:List Dat} {d e:Dat} {Q:ZAL} {rest:List Oper}
variable {dst:Option Tmp} {ty:TypeId} {ps:String} {af:Array Edge} {g:Option (Nat × Bool)}
theorem ZJt {x:Operand} {xs:List (List (Int × Int))} (hx:OpD fr x (dS Cpx xs)):SY Tryz.prog ops hp ⟨dst,.build 30 #[(0,x)],ty,ps,af,g⟩ fr (ZEC [dS Zc xs,dX (.slice none 0 0),dX (.slice none 0 0)]):=SY.val fun {I w a} ho=>by
 obtain ⟨u,h1,h0,h2⟩:Cpx I w (a.eval x) xs:=hx.get (by simp [Op.operands]) ho
 have h2':=h2
 obtain ⟨ad,c,hv,_⟩:=h2'
 subst hv
 have hm:∀ ad n c w,(Instr.build 30 #[(0,.agg #[.slice ad n c])]).run Tryz.prog w = .ok (.agg #[.slice ad n c,.slice none 0 0,.slice none 0 0]) w:=by intro ad n c w;go_simp
 refine ⟨.agg #[.slice ad xs.length c,.slice none 0 0,.slice none 0 0],?_,[_,_,_],rfl,rfl,by simp [Value.oneCell'],fun k c d hc hd=>?_⟩
 ·unfold execOp
  simp only [List.map_toArray,List.map_cons,List.map_nil,h1,Sem.run_bind,hm,Result.andThen_ok,Sem.run_pure]
 ·match k,hc,hd with
  | 0,hc,hd=>cases hc;cases hd;exact h2
  | 1,hc,hd=>cases hc;cases hd;rfl
  | 2,hc,hd=>cases hc;cases hd;rfl
theorem ZA9:SY Tryz.prog ops hp ⟨dst,.build 30 #[],ty,ps,af,g⟩ fr (dS ZCb ([],[],[])):=SY.val fun {I w a} ho=>by
 have hm:∀ w,(Instr.build 30 #[]).run Tryz.prog w = .ok (.agg #[.slice none 0 0,.slice none 0 0,.slice none 0 0]) w:=by intro w;go_simp
 refine ⟨.agg #[.slice none 0 0,.slice none 0 0,.slice none 0 0],?_,_,_,_,rfl,⟨rfl,rfl,rfl⟩,ZCo,ZEE (by decide),ZCo⟩
 unfold execOp
 simp only [List.map_toArray,List.map_nil,Sem.run_bind,hm,Result.andThen_ok,Sem.run_pure]
end
end
section
open Go.RowKit

def txV (v:Vx):List UInt8:=((Lib.itoa v.1++[47])++Lib.itoa v.2)++[32]
def txS (s:List Vx):List UInt8:=s.flatMap txV
theorem ZRM {s:List Vx} {k:Nat} (h:k<s.length):txS (s.take (k+1))=txS (s.take k)++txV s[k]:=by
 unfold txS
 rw [List.take_succ_eq_append_getElem h,List.flatMap_append]
 simp
theorem ZTy (n:Int) (h:0≤n/\n<100):Fn Tryz.prog 60 [dI n] (dX (.string ⟨(Lib.itoa n).toArray⟩)):=Fn.mk fun I w vs hl hv=>by
 obtain ⟨v,rfl⟩:=List.length_eq_one_iff.1 hl
 have hv0:v = .int .i64 n:=hv 0 _ rfl
 subst hv0
 obtain ⟨m,rfl⟩:=Int.eq_ofNat_of_zero_le h.1
 refine (Any.strconv_Itoa_small { Tryz.laysM171 with } m (by omega) w).mono fun r w' hr=>?_
 obtain ⟨rfl,rfl⟩:=hr
 exact ⟨_,rfl,Ext.refl _,by rw [Lib.itoa_nonneg];rfl⟩
theorem ZUM:StrT Tryz.prog 43 2:=⟨fun b off i w hi=>by
 have:i=0\/i=1:=by omega
 rcases this with rfl|rfl <;> go_simp⟩
theorem tzBld:TyZ Tryz.prog 97 (.agg #[.pointer none,.slice none 0 0]):=⟨by kernel_rfl⟩
theorem tzVx:TyZ Tryz.prog 43 (.agg [.int .i64 0,.int .i64 0].toArray):=⟨by kernel_rfl⟩
end
section
open Go.RowKit
section
variable {α:Type} {R:Rel α}
theorem ZRX [Good R] {xs:List α}:(dS (Arr R) xs).le (dS (ArrK 1 (R1 R)) xs):=fun I w v h=>by
 obtain ⟨a,cap,hv,h1,h2,h3⟩:=(h:Arr R I w v xs)
 refine ⟨a,cap,hv,h1,h2,Nat.one_pos,fun k hk=>?_⟩
 obtain ⟨u,b,off,r1,r2,r3,r4,r5⟩:=h3 k hk
 refine ⟨[u],b,off,⟨u,rfl,r2,r1⟩,rfl,fun c hc=>by rw [List.mem_singleton.1 hc];exact r2,r3,r4,fun j c hc=>?_⟩
 match j,hc with
 | 0,hc=>cases hc;rw [Nat.mul_one,Nat.add_zero];exact r5
theorem ZTz [Good R] {xs:List α}:(dS (ArrK 1 (R1 R)) xs).le (dS (Arr R) xs):=fun I w v h=>by
 obtain ⟨a,cap,hv,h1,h2,_,h3⟩:=(h:ArrK 1 (R1 R) I w v xs)
 refine ⟨a,cap,hv,h1,h2,fun k hk=>?_⟩
 obtain ⟨cs,b,off,⟨u,e,r2,r1⟩,hl,hc,r3,r4,r5⟩:=h3 k hk
 obtain ⟨c,rfl⟩:=List.length_eq_one_iff.1 hl
 have ec:c=u:=by injection e with e;have:=congrArg Array.toList e;simpa using this
 subst ec
 refine ⟨c,b,off,r1,r2,r3,r4,?_⟩
 have:=r5 0 c rfl
 rwa [Nat.mul_one,Nat.add_zero] at this
def ZNj (R:Rel α) [Good R] (xs:List α):Dat where
 rd:=fun I w v=>Arr R I w v xs/\∃ a,v = .slice (some a) xs.length xs.length
 weak:=fun ⟨h,k⟩ q=>⟨Good.weak (R:=Arr R) h q,k⟩
 move:=fun ⟨h,k⟩ q=>⟨Good.move (R:=Arr R) h q,k⟩
 bound:=fun ⟨h,k⟩=>⟨Good.bound (R:=Arr R) h,k⟩
theorem ZSh [Good R] {xs:List α}:(ZNj R xs).le (ZIv 1 (R1 R) xs):=fun I w v h=>⟨ZRX I w v h.1,h.2⟩
end
section
variable {P:Program} {ops:Array Oper} {hp:List HObj} {fr:List Dat}
variable {dst:Option Tmp} {ty:TypeId} {ps:String} {af:Array Edge} {g:Option (Nat × Bool)}
variable {t e:TypeId} {bytes:Nat} {z:Value} {ag:Bool}
theorem SY.full1 (E:ElT P t e 1 z bytes ag) {α:Type} {R:Rel α} {_gR:Good R} {len:Nat} {parts:Array (Nat × Operand)} {els:List α} (hx:ElsD fr R (parts.toList.map Prod.snd) els) (hparts:parts.toList=((parts.toList.map Prod.snd).zipIdx).map (fun p=>(p.2,p.1))) (hl:len=els.length) (hs:∀ a,(dS R a).Shape 1 false) (hsm:els.length*1≤16777216) :
  SY P ops hp ⟨dst,.buildSlice t len parts,ty,ps,af,g⟩ fr (ZNj R els):=ZAO fun {P0 B w0 w a} hh ho=>by
 obtain ⟨css,hr,hcl,hcn,hel⟩:=ZBd E hx hl hparts hs hsm hh ho
 refine ⟨_,_,hr,Ext.of_alloc _ _,⟨some ⟨w.heap.size,0,none⟩,els.length,rfl,Nat.le_refl _,by simp only [maxLen];omega,fun k hk=>?_⟩,_,rfl⟩
 have hkc:k<css.length:=by omega
 obtain ⟨u,hu,hR⟩:=hel k css[k] els[k] (List.getElem?_eq_getElem hkc) (List.getElem?_eq_getElem hk)
 simp only [Bool.false_eq_true,if_false] at hu
 have hm:=hcn css[k] (List.getElem_mem hkc)
 have h1:u.oneCell'=true:=hm.2 u (by rw [hu];simp)
 refine ⟨u,w.heap.size,0,Good.ext (R:=R) hR (Ext.of_alloc _ _),h1,rfl,hh.fresh (Nat.le_refl _),?_⟩
 rw [cell_of_row _ _ _ _ _ _ (Zk w _),Nat.zero_add]
 have:=Zm (k:=k) (j:=0) (c:=u) (fun u hu=>(hcn u hu).1) hkc (by rw [hu];rfl)
 simpa using this
theorem ZFo {s y:Operand} (E:ElT P t e 1 z bytes ag) {α:Type} {R:Rel α} {_gR:Good R} {xs ys:List α} (hs:OpD fr s (ZNj R xs)) (hy:OpD fr y (dS (Arr R) ys)) (hby:0<bytes) (hlen:(xs.length+ys.length)*bytes≤140737488355328) :
  SY P ops hp ⟨dst,.call { callee:=.builtin .append,args:=#[s,y],argTypes:=#[t,t] },ty,ps,af,g⟩ fr (dS (Arr R) (xs++ys)) :=
 (ZFp E (hs.mono ZSh) (hy.mono ZRX) hby hlen).mono ZTz
end
end
section
open Go.RowKit
section
variable {P:Program} {ops:Array Oper} {hp:List HObj} {o:Oper} {fr:List Dat} {d:Dat} {Q:Exit->Act->World->Prop} {rest:List Oper} {P0:Nat->Prop} {B:Nat} {w0 w:World} {a:Act}
theorem ZBa (hg:o.guard=none) (h:SY P ops hp o fr d) (hh:Hp P0 B w0 hp w) (hf:Fr (Imm P0 B hp) w { tmps:=a.tmps,defers:=[] } fr)
  (k:∀ a' w',a'.defers=a.defers->Hp P0 B w0 hp w'->Fr (Imm P0 B hp) w' { tmps:=a'.tmps,defers:=[] } (ZB fr o.dst d)->wpList P ops Q rest a' w'):wpList P ops Q (o::rest) a w:=by
 unfold wpList
 have hwant:Region.wanted o (yielded ops a.tmps)=true:=by simp [Region.wanted,hg]
 rw [if_pos hwant]
 refine .inl (h.out hh (a:=a) ⟨hf.size,fun t _ d hd=>hf.rd t d hd⟩ _ _ fun v w' e hd=>?_)
 have hf2:=Fr.put (x:=o.dst) (hf.ext e) hd
 refine k (a.put o.dst v) w' ?_ (hh.ext e) ?_
 ·cases o.dst <;> rfl
 ·have e1:({ tmps:=(a.put o.dst v).tmps,defers:=[] }:Act)=({ tmps:=a.tmps,defers:=[] }:Act).put o.dst v:=by cases o.dst <;> rfl
  rw [e1];exact hf2
end
namespace I
section
variable {P:Program} {ops:Array Oper} {hp:List HObj} {fr:List Dat} {Q:ZAL} {rest:List Oper}
theorem ZB5 {α:Type} {R:Rel α} {_gR:Good R} {v:Value} {e:TypeId} {xs:List α} (hm:ZW v e R xs∈hp) (h:(∃ a c,v = .slice a xs.length c)->WL P ops Q rest fr hp):WL P ops Q rest fr hp:=WL.of fun _ _ _ _ _ hh hf =>
 (h (Own.len (hh.ok _ hm))).on hh hf
end
end I
end
section
open Go.RowKit
structure YStepE (P:Program) (l:Nat) {α:Type} (D:α->Dat) (J E:List α->List HObj->Prop) (N:Nat):Prop where
 out:∀ (P0:Nat->Prop) (B:Nat) (w0:World) (hp:List HObj) (pre:List α) (js:List HObj) (x:α) (u:Value) (W:World),pre.length<N->J pre js->Hp P0 B w0 (js++hp) W->(D x).rd (Imm P0 B (js++hp)) W u ->
  YieldAt Fence.wide 0 P l #[u] W fun e W'=>∃ b:Bool,e = .returned (.bool b)/\∃ js',(if b=true then J (pre++[x]) js' else E (pre++[x]) js')/\Hp P0 B w0 (js'++hp) W'
structure SeqE (P:Program) (gf:FuncId) (lb:List Value) (hk:List HObj) {α:Type} (D:α->Dat) (xs:List α):Prop where
 out:∀ (l:Nat) (J E:List α->List HObj->Prop),YStepE P l D J E xs.length->∀ js,J [] js->CallC P gf (dX (.func (.yield l) #[] #[])::lb.map dX) (js++hk) (fun _ hp2=>∃ js',(J xs js'\/∃ pre x t,xs=pre++x::t/\E (pre++[x]) js')/\hp2=js'++hk)
theorem CallC.monoK {P:Program} {f:FuncId} {ds:List Dat} {hp1:List HObj} {K K':Dat->List HObj->Prop} (h:CallC P f ds hp1 K) (k:∀ d hp2,K d hp2->K' d hp2):CallC P f ds hp1 K' :=
 ⟨fun P0 B w0 hp vs W hh hl hv=>(h.out P0 B w0 hp vs W hh hl hv).mono fun _ _ ⟨v,d,hp2,e,hk,r⟩=>⟨v,d,hp2,e,k d hp2 hk,r⟩⟩
theorem ZFO {F:Fence} {m:Nat} {P:Program} {l:Nat} {args:Array Value} {W:World} {R R':Ending->World->Prop} (h:YieldAt F m P l args W R) (k:∀ e w,R e w->R' e w):YieldAt F m P l args W R':=by
 obtain ⟨fn,tmps,assign,body,hrun,hR⟩:=h
 exact ⟨fn,tmps,assign,body,hrun,hR.mono k⟩
theorem SeqE.seq {P:Program} {gf:FuncId} {lb:List Value} {hk:List HObj} {α:Type} {D:α->Dat} {xs:List α} (h:SeqE P gf lb hk D xs):SeqC P gf lb hk D xs:=⟨fun l J hY js hj =>
 (h.out l J (fun _ _=>False) ⟨fun P0 B w0 hp pre js x u W hn hj hh hu=>ZFO (hY.out P0 B w0 hp pre js x u W hn hj hh hu) fun _ _ ⟨he,js',hj',hh'⟩=>⟨true,he,js',hj',hh'⟩⟩ js hj).monoK fun _ _ ⟨js',h1,h2⟩=>⟨js',h1.elim id fun ⟨_,_,_,_,h3⟩=>h3.elim,h2⟩⟩
namespace I
section
variable {P:Program} {ops:Array Oper} {hp:List HObj} {fr:List Dat} {Q:ZAL} {rest:List Oper} {dst:Option Tmp} {ty:TypeId} {ps:String} {af:Array Edge} {d:Dat} {c:Code}
theorem ZMa {l:Nat} {α:Type} {D:α->Dat} {J E:List α->List HObj->Prop} {t:Tmp} {x:Operand} {ats:Array TypeId} {pre:List α} {js:List HObj} {y:α} {N:Nat} {g:Option (Nat × Bool)} (hy:YStepE P l D J E N) (hn:pre.length<N) (hj:J pre js) (ht:OpD fr (.tmp t) (dX (.func (.yield l) #[] #[]))) (hx:OpD fr x (D y))
  {P0:Nat->Prop} {B:Nat} {w0 w:World} {a:Act} (hh:Hp P0 B w0 (js++hp) w) (hf:Fr (Imm P0 B (js++hp)) w a fr) {K:Act->World->Prop} {Q:Exit->Act->World->Prop}
  (h:∀ (b:Bool) js' a' w',(if b=true then J (pre++[y]) js' else E (pre++[y]) js')->Hp P0 B w0 (js'++hp) w'->Fr (Imm P0 B (js'++hp)) w' a' (ZB fr dst (dB b))->K a' w') :
  Oper.wpIn Fence.wide 0 P ⟨dst,.call { callee:=.value (.tmp t),args:=#[x],argTypes:=ats },ty,ps,af,g⟩ a w K Q:=by
 have hgb:(hFr a fr).blk=none:=rfl
 have hG:Hp P0 B w0 (js++hFr a fr::hp) w:=ZBB hgb hh hf.rd
 have hev:a.eval (.tmp t) = .func (.yield l) #[] #[]:=ht.ev hf
 have hyy:=hy.out P0 B w0 (hFr a fr::hp) pre js y (a.eval x) w hn hj hG ((D y).weak (hx.ev hf) fun k=>(Zx hgb _ k).2)
 obtain ⟨fn,tmps,assign,body,hrun,hR⟩:=hyy
 refine ⟨fun _ _=>trivial,?_⟩
 have hr:(execOp a.eval ⟨dst,.call { callee:=.value (.tmp t),args:=#[x],argTypes:=ats },ty,ps,af,g⟩).run P w = .ok (.round l fn tmps assign body) w:=by
  unfold execOp
  simp only [resolve]
  simp [hev,Deferred.ofValue,invoke,hrun]
 rw [show Fence.wide.round=none from rfl,Oper.semAt_none,hr]
 refine ⟨fun h=>by simp [Fence.wide] at h,hR.mono fun e W' ⟨b,he,js',hj',hh'⟩=>?_⟩
 subst he
 obtain ⟨hh2,hok2⟩:=hh'.unghost hgb
 exact h b js' _ _ hj' hh2 (Fr.put (⟨hf.defers,hf.size,hok2⟩:Fr (Imm P0 B (js'++hp)) W' a fr) (d:=dB b) rfl)
theorem ZM3 {l:Nat} {α:Type} {D:α->Dat} {J E:List α->List HObj->Prop} {t gi s:Nat} {pol:Bool} {x:Operand} {ats:Array TypeId} {pre:List α} {js:List HObj} {y:α} {N:Nat} (hs:(ops[gi]?).bind (·.dst)=some s) (hb:fr[s]?=some (dB pol)) (hy:YStepE P l D J E N) (hn:pre.length<N) (hj:J pre js) (ht:OpD fr (.tmp t) (dX (.func (.yield l) #[] #[]))) (hx:OpD fr x (D y))
  (h:∀ (b:Bool) js',(if b=true then J (pre++[y]) js' else E (pre++[y]) js')->WL P ops Q rest (ZB fr dst (dB b)) (js'++hp)) :
  WL P ops Q (⟨dst,.call { callee:=.value (.tmp t),args:=#[x],argTypes:=ats },ty,ps,af,some (gi,pol)⟩::rest) fr (js++hp):=by
 refine WL.of fun P0 B w0 w a hh hf=>?_
 unfold wpListIn
 have hwant:Region.wanted ⟨dst,Op.call { callee:=.value (.tmp t),args:=#[x],argTypes:=ats },ty,ps,af,some (gi,pol)⟩ (yielded ops a.tmps)=true :=
  (ZLw rfl hs hb rfl).out _ w a (hf.on _)
 rw [if_pos hwant]
 exact ZMa hy hn hj ht hx hh hf fun b js' a' w' hj' hh' hf'=>(h b js' hj').on hh' hf'
end
end I
section
variable {P:Program} {l:Nat} {Q:ZAL} {fr:List Dat} {hp:List HObj}
theorem WR.ret (h:Q .ret fr hp):WR P l Q .ret fr hp:=WR.of fun _ _ _ _ _ hh hf=>wpIn_ret ⟨fr,hp,h,hh,hf⟩
theorem WR.cond {c:Operand} {x y:Code} {b:Bool} (hc:OpD fr c (dB b)) (ht:b=true->WR P l Q x fr hp) (hf:b=false->WR P l Q y fr hp):WR P l Q (.cond c x y) fr hp:=WR.of fun P0 B w0 w a hh hfr=>by
 refine wpIn_cond (t:=b) (hc.ev hfr) ?_
 cases b with
 | true=>exact (ht rfl).out _ _ _ _ _ hh hfr
 | false=>exact (hf rfl).out _ _ _ _ _ hh hfr
theorem ZKu {c:Code} {d:Dat} {v:Value} (t:Nat) (ht:fr[t]?=some (dX v)) (hm:ZAC v d∈hp) (h:WR P l Q c (fr.set t d) hp):WR P l Q c fr hp:=WR.of fun P0 B w0 w a hh hf=>by
 refine h.out _ _ _ _ _ hh ⟨hf.defers,by rw [hf.size,List.length_set],fun t' d' hd'=>?_⟩
 by_cases htt:t=t'
 ·subst htt
  rw [List.getElem?_set] at hd'
  simp only [if_true] at hd'
  split at hd'
  ·cases hd'
   have h1:a.tmps.getD t undef=v:=hf.rd t _ ht
   rw [h1]
   exact hh.ok _ hm
  ·cases hd'
 ·rw [List.getElem?_set_ne htt] at hd'
  exact hf.rd t' d' hd'
end
end
section
open Go.RowKit
abbrev NoDef (ops:List Oper):Prop:=(ops.all fun o=>match o.op with|.defer _=>false|_=>true)=true
theorem NoDef.at {ops:List Oper} (h:NoDef ops):∀ o∈ops,∀ c,o.op ≠ .defer c:=fun o ho c hc=>by have:=List.all_eq_true.1 h o ho;rw [hc] at this;cases this
theorem ZBZ {P:Program} {md:Region.Mode} {ops:Array Oper} {Q:Exit->Act->World->Prop} {l:Nat} (hd:∀ o∈ops.toList,∀ c,o.op ≠ .defer c):∀ {fuel:Nat} {listed:Array Bool} {a:Act} {w:World},wpAnyIn Fence.wide 0 P md ops Q fuel listed a w->wpAnyIn (Fence.wide.inRound l) 0 P md ops Q fuel listed a w
 | 0,_,_,_,h=>h
 | fuel+1,listed,a,w,h=>by
  refine ⟨h.1,fun i hi=>?_⟩
  have h1:=h.2 i hi
  unfold wpOpIn at h1 ⊢
  cases ho:ops[i]? with
  | none=>simp only [ho] at h1;exact ZBZ hd h1
  | some o =>
   simp only [ho] at h1
   have hm:o∈ops.toList:=by rw [<- Array.getElem?_toList] at ho;exact List.mem_of_getElem? ho
   show if _ then _ else _
   split
   ·rename_i hw
    rw [if_pos hw] at h1
    exact ZHA (hd o hm) (Oper.wpIn_mono (fun a w h=>ZBZ hd h) h1)
   ·rename_i hw
    rw [if_neg hw] at h1
    exact ⟨fun _ _=>trivial,ZBZ hd h1.2⟩
section
variable {P:Program} {l:Nat} {Q:ZAL} {fr:List Dat} {hp:List HObj} {c:Code} {d:Dat}
theorem WR.on (h:WR P l Q c fr hp) {P0:Nat->Prop} {B:Nat} {w0 w:World} {a:Act} (hh:Hp P0 B w0 hp w) (hf:Fr (Imm P0 B hp) w a fr):c.wpIn (Fence.wide.inRound l) 0 P (ZCE Q P0 B w0) a w:=h.out _ _ _ _ _ hh hf
theorem WR.id (h:WR P l Q c fr hp):WR P l Q c fr hp:=h
theorem WR.mono {Q':ZAL} (h:WR P l Q c fr hp) (k:∀ e f p,Q e f p->Q' e f p):WR P l Q' c fr hp:=WR.of fun _ _ _ _ _ hh hf=>wpIn_mono (h.on hh hf) fun _ _ _ ⟨f,p,q,r⟩=>⟨f,p,k _ _ _ q,r⟩
theorem ZCQ {x y:Code} (h:∀ K:List Dat->List HObj->Prop,(∀ f p,WR P l Q y f p->Kont K f p)->WR P l (ThenD (Kont K) Q) x fr hp):WR P l Q (.seq x y) fr hp :=
 WR.seq ((h (WR P l Q y) fun _ _ h=>⟨h⟩).mono fun e f p q=>by
  cases e with
  | normal=>exact (q:Kont _ f p).out
  | _=>exact q)
section
variable {cc:Operand} {x y:Code} {p:Prop} {_ip:Decidable p} {b:Bool}
theorem WR.condT (hc:OpD fr cc (dB b)) (hb:b=true) (h:WR P l Q x fr hp):WR P l Q (.cond cc x y) fr hp:=WR.cond hc (fun _=>h) (fun h=>by rw [hb] at h;cases h)
theorem ZKt (hc:OpD fr cc (dB b)) (hb:b=false) (h:WR P l Q y fr hp):WR P l Q (.cond cc x y) fr hp:=WR.cond hc (fun h=>by rw [hb] at h;cases h) (fun _=>h)
theorem ZFX (hc:OpD fr cc (dB (decide p))) (ht:p->WR P l Q x fr hp) (hf:¬ p->WR P l Q y fr hp):WR P l Q (.cond cc x y) fr hp:=WR.cond hc (fun h=>ht (of_decide_eq_true h)) (fun h=>hf (of_decide_eq_false h))
theorem WR.condN (hc:OpD fr cc (dB (!decide p))) (ht:¬ p->WR P l Q x fr hp) (hf:p->WR P l Q y fr hp):WR P l Q (.cond cc x y) fr hp:=WR.cond hc (fun h=>ht (by simpa using h)) (fun h=>hf (by simpa using h))
theorem ZTO (hc:OpD fr cc (dB (!b))) (ht:b=false->WR P l Q x fr hp) (hf:b=true->WR P l Q y fr hp):WR P l Q (.cond cc x y) fr hp:=WR.cond hc (fun h=>ht (by simpa using h)) (fun h=>hf (by simpa using h))
end
theorem WR.weak {fr':List Dat} (h:WR P l Q c fr' hp) (hl:fr.length=fr'.length) (k:∀ (t:Nat) (d:Dat),fr'[t]?=some d->∃ d0:Dat,fr[t]?=some d0/\d0.le d):WR P l Q c fr hp:=WR.of fun _ _ _ _ _ hh hf=>h.on hh (hf.weak hl k)
theorem WR.loopU {X:Type} (ups:X->List (Nat × Dat)) (H:X->List HObj) (μ:X->Nat) (p:X->Prop) (x0:X) (h0:p x0) (hF:LeF fr (ZK fr (ups x0))) (hH:hp=H x0)
  (round:∀ x,p x->WR P l (ThenD (fun f q=>∃ x',p x'/\μ x'<μ x/\q=H x'/\LeF f (ZK fr (ups x'))) Q) c (ZK fr (ups x)) (H x)):WR P l Q (.loop c) fr hp:=by
 refine WR.of fun P0 B w0 w a hh hf=>?_
 have hf1:=hf.weak hF.out.1 hF.out.2
 subst hH
 intro b k cs hro hb hr
 have key:∀ (j:Nat) (x:X) (a':Act) (w':World),μ x=j->p x->Hp P0 B w0 (H x) w'->Fr (Imm P0 B (H x)) w' a' (ZK fr (ups x)) ->
   ∃ e a2 w2,ZCE Q P0 B w0 e a2 w2/\ArrivesIn (Machine.fenced P (Fence.wide.inRound l)) P (lone (b.atR a' (.code c :: .inLoop c::k)) cs w') b k cs e a2 w2:=by
  intro j
  induction j using Nat.strongRecOn with
  | _ j ih =>
   intro x a' w' hn hp' hh' hf'
   obtain ⟨e,a1,w1,hq,harr⟩:=(round x hp').on hh' hf' b (.inLoop c::k) cs hro hb hr
   cases e with
   | normal =>
    obtain ⟨f,q,hq,h1,h2⟩:=hq
    obtain ⟨x',p1,p2,rfl,p4⟩:=(hq:∃ x',_)
    obtain ⟨e2,a2,w2,hq2,harr2⟩:=ih (μ x') (hn ▸ p2) x' a1 w1 rfl p1 h1 (h2.weak p4.out.1 p4.out.2)
    exact ⟨e2,a2,w2,hq2,.of_steps (StepsIn.trans harr (.one (fenced_calm hb hr rfl) stepR_inLoop)) harr2⟩
   | exit id=>exact ⟨_,a1,w1,hq,.pass (x:=.inLoop c) rfl (fun _ _=>.inl (by simp)) harr⟩
   | goto l=>exact ⟨_,a1,w1,hq,.pass (x:=.inLoop c) rfl (fun _ _=>.inl (by simp)) harr⟩
   | ret=>exact ⟨_,a1,w1,hq,.pass (x:=.inLoop c) rfl (fun _ _=>.inl (by simp)) harr⟩
   | panic ch=>exact ⟨_,a1,w1,hq,.pass (x:=.inLoop c) rfl (fun _ _=>.inl (by simp)) harr⟩
   | outgrown=>exact ⟨_,a1,w1,hq,.pass (x:=.inLoop c) rfl (fun _ _=>.inl (by simp)) harr⟩
 obtain ⟨e,a',w',hq,harr⟩:=key _ x0 a w rfl h0 hh hf1
 exact ⟨e,a',w',hq,.of_steps (.one (fenced_calm hb hr rfl) stepR_loop) harr⟩
theorem WR.perm {hp':List HObj} (hp1:hp.Perm hp') (h:WR P l Q c fr hp'):WR P l Q c fr hp:=WR.of fun _ _ _ _ _ hh hf =>
 let ⟨h1,h2⟩:=hh.perm hp1
 h.on h1 (hf.mono fun d _ hd=>d.weak hd fun k hk=>(h2 k).1 hk)
theorem WR.drop {o:HObj} (h:WR P l Q c fr hp):WR P l Q c fr (o::hp):=WR.of fun _ _ _ _ _ hh hf=>h.on hh.drop (hf.mono fun d _ hd=>d.weak hd Imm.sub)
theorem ZJz {p:Prop} {t:Nat} (ht:fr[t]?=some d) (hd:∀ (I:Nat->Prop) (w:World) (v:Value),d.rd I w v->p) (h:p->WR P l Q c fr hp):WR P l Q c fr hp:=WR.of fun _ _ _ _ _ hh hf=>(h (hd _ _ _ (hf.rd t d ht))).on hh hf
theorem ZTP {α:Type} (e:TypeId) (R:Rel α) [Good R] (h:WR P l Q c fr (ZW (.slice none 0 0) e R ([]:List α)::hp)):WR P l Q c fr hp:=WR.of fun _ _ _ _ _ hh hf =>
 h.on (hh.push (Ext.refl _) (by simp [ZW,Value.ownBlock]) Own.nil) (hf.mono fun _ _ hd=>Zf (Ext.refl _) (by simp [ZW,Value.ownBlock]) hd)
theorem WR.drawTail {id:Nat} {ops:List Oper} (n:Nat) (hm:P.follows .mixedOrders=true) (hB:Region.lexTailB .any ops.toArray n=true) (hd:NoDef ops)
  (h:WD P ops.toArray hp (fun f=>I.WL P ops.toArray Q (ops.drop n) f hp) (ops.take n) fr):WR P l Q (.region id ops.toArray true) fr hp:=by
 refine WR.of fun P0 B w0 w a hh hf=>?_
 simp only [Region.lexTailB,Bool.and_eq_true,decide_eq_true_eq] at hB
 obtain ⟨⟨⟨⟨hsel,hn⟩,hs⟩,hc⟩,hlex⟩:=hB
 have hn':n<ops.length:=by simpa using hn
 have htl:(ops.take n).length=n:=by simp;omega
 have hdl:(ops.drop n).length=ops.toArray.size-n:=by simp
 have inv0:HeadInv .any ops.toArray n (Array.replicate ops.toArray.size false) :=
  ⟨by simp,fun j oj _ hl=>(by rw [getD_replicate_false] at hl;cases hl),fun t _ ht=>getD_in (by simpa using ht) (getD_replicate_false _ _)⟩
 have H:=ZC0 (md:=.any) (g:=ops.toArray.size-n) hs hc hn (ops.take n) 0 _ fr (fun j hj=>by
  have hj':j<n:=by rw [htl] at hj;exact hj
  simp [hj']) (by simpa using htl) inv0 (by rw [htl];exact hlex) h
 have hx:Ext w { w with drawn:=w.drawn+1 }:=(Ext.refl w).drew
 refine wpIn_region_any (n:=0) hm (ZBZ (fun o ho c=>hd.at o (by simpa using ho) c) ?_)
 have:=I.ZBL (Q':=ZCE Q P0 B w0) (g:=ops.toArray.size-n) _ _ _ _ _ (hh.ext hx) (hf.ext hx) (fun listed fr' a' w' e hh' hf' hL=>by
  have:=I.ZBI (md:=.any) (Q':=ZCE Q P0 B w0) (ops.drop n) n listed a' w' (fun j=>by simp [List.getElem?_drop]) (by rw [hdl];exact hL.1) (hL.2.on hh' hf')
  rwa [hdl] at this) H
 rw [htl,show n+(ops.toArray.size-n)=ops.toArray.size by omega] at this
 exact this
theorem WR.drawW {id:Nat} {ops:List Oper} {β:Type} (n:Nat) (H:β->List HObj) (D:β->Dat) (ow:Oper) (how:ops[n]?=some ow) (hm:P.follows .mixedOrders=true) (hB:Region.lexTailB .any ops.toArray (n+1)=true) (hd:NoDef ops)
  (h:WDs P ops.toArray hp H (fun f=>SW P ops.toArray hp H D ow f/\∀ x,I.WL P ops.toArray Q (ops.drop (n+1)) (ZB f ow.dst (D x)) (H x)) (ops.take n) fr):WR P l Q (.region id ops.toArray true) fr hp:=by
 refine WR.of fun P0 B w0 w a hh hf=>?_
 simp only [Region.lexTailB,Bool.and_eq_true,decide_eq_true_eq] at hB
 obtain ⟨⟨⟨⟨hsel,hn⟩,hs⟩,hc⟩,hlex⟩:=hB
 have hn':n+1<ops.length:=by simpa using hn
 have htl:(ops.take n).length=n:=by simp;omega
 have hdl:(ops.drop (n+1)).length=ops.toArray.size-(n+1):=by simp
 have inv0:HeadInv .any ops.toArray (n+1) (Array.replicate ops.toArray.size false) :=
  ⟨by simp,fun j oj _ hl=>(by rw [getD_replicate_false] at hl;cases hl),fun t _ ht=>getD_in (by simpa using ht) (getD_replicate_false _ _)⟩
 obtain ⟨dd,hch⟩:=h.ch (ops.take n) 0 fr
 have HW:=ZDr (n:=n) (Lq:=fun f c=>I.WL P ops.toArray Q (ops.drop (n+1)) f (HH hp H c)) (md:=.any) (g:=ops.toArray.size-(n+1)) (ow:=ow) (m:=n) (by simpa using how) hs hc hn (ops.take n) 0 _ fr (fun j hj=>by
  have hj':j<n:=by rw [htl] at hj;exact hj
  simp [hj']) (by simpa using htl) inv0 (fun j hj=>by omega) (by rw [htl];exact hlex) hch
 have hx:Ext w { w with drawn:=w.drawn+1 }:=(Ext.refl w).drew
 refine wpIn_region_any (n:=0) hm (ZBZ (fun o ho c=>hd.at o (by simpa using ho) c) ?_)
 have:=I.ZBM (Q':=ZCE Q P0 B w0) (g:=ops.toArray.size-(n+1)) _ _ _ none _ _ (hh.ext hx) (hf.ext hx) (fun listed fr' c a' w' hh' hf' hL=>by
  have:=I.ZBI (md:=.any) (Q':=ZCE Q P0 B w0) (ops.drop (n+1)) (n+1) listed a' w' (fun j=>by simp [List.getElem?_drop]) (by rw [hdl];exact hL.1) (hL.2.on hh' hf')
  rwa [hdl] at this) HW
 rw [htl,show n+1+(ops.toArray.size-(n+1))=ops.toArray.size by omega] at this
 exact this
end
namespace I
section
variable {P:Program} {ops:Array Oper} {hp:List HObj} {fr:List Dat} {d:Dat} {Q:ZAL} {rest:List Oper} {dst:Option Tmp} {op:Op} {ty:TypeId} {ps:String} {af:Array Edge}
theorem WL.opN (h:SY P ops hp ⟨dst,op,ty,ps,af,none⟩ fr d) (k:WL P ops Q rest (ZB fr dst d) hp):WL P ops Q (⟨dst,op,ty,ps,af,none⟩::rest) fr hp:=ZJ (ZF (ZR rfl) h) k
end
end I
end
end Go.Proofs.YtlgmojhmmbhgfaaGreatDoor
