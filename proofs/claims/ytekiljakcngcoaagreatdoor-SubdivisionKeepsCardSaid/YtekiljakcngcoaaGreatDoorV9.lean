/- Part 9: walks by contracts, and plain laws. -/
import Derived.Deep.MidRow
import Derived.Test.YtekiljakcngcoaaGreatDoorV8
set_option linter.unusedVariables false
set_option linter.unusedSimpArgs false
set_option linter.unusedSectionVars false
set_option maxRecDepth 100000
set_option maxHeartbeats 4000000
namespace Go.Proofs.YtekiljakcngcoaaGreatDoor
section
open Go.RowKit
def hFr (a:Act) (fr:List Dat):HObj where
 blk:=none
 ok:=fun I w=>∀ (t:Nat) (d:Dat),fr[t]?=some d->d.rd I w (a.tmps.getD t undef)
 weak:=fun h q t d hd=>d.weak (h t d hd) q
 bound:=fun h t d hd=>d.bound (h t d hd)
 move:=fun h hg hP _ t d hd=>d.grown (h t d hd) hg hP
section
variable {P:Program} {ops:Array Oper} {hp:List HObj} {o:Oper} {fr:List Dat} {d:Dat} {Q:ZAW} {rest:List Oper}
variable {dst:Option Tmp} {ty:TypeId} {ps:String} {af:Array Edge} {g:Option (Nat × Bool)} {P0:Nat->Prop} {B:Nat} {w0 w:World}
theorem ZAC {gh:HObj} (hg:gh.blk=none) (l:List HObj) (k:Nat):Imm P0 B (l++gh::hp) k↔Imm P0 B (l++hp) k:=by
 unfold Imm
 refine and_congr Iff.rfl ⟨fun h o ho=>h o ?_,fun h o ho=>?_⟩
 ·rcases List.mem_append.1 ho with ho|ho
  ·exact List.mem_append_left _ ho
  ·exact List.mem_append_right _ (List.mem_cons_of_mem _ ho)
 ·rcases List.mem_append.1 ho with ho|ho
  ·exact h o (List.mem_append_left _ ho)
  ·rcases List.mem_cons.1 ho with rfl|ho
   ·rw [hg];simp
   ·exact h o (List.mem_append_right _ ho)
theorem ZBT {gh:HObj} (hg:gh.blk=none) {l:List HObj} (h:Hp P0 B w0 (l++hp) w) (hok:gh.ok (Imm P0 B (l++hp)) w):Hp P0 B w0 (l++gh::hp) w where
 base:=h.base
 below:=h.below
 own:=fun o ho k hk=>by
  rcases List.mem_append.1 ho with ho|ho
  ·exact h.own o (List.mem_append_left _ ho) k hk
  ·rcases List.mem_cons.1 ho with rfl|ho
   ·rw [hg] at hk;cases hk
   ·exact h.own o (List.mem_append_right _ ho) k hk
 ok:=fun o ho=>by
  rcases List.mem_append.1 ho with ho|ho
  ·exact o.weak (h.ok o (List.mem_append_left _ ho)) fun k=>(ZAC hg l k).2
  ·rcases List.mem_cons.1 ho with rfl|ho
   ·exact o.weak hok fun k=>(ZAC hg l k).2
   ·exact o.weak (h.ok o (List.mem_append_right _ ho)) fun k=>(ZAC hg l k).2
 apart:=by
  have h1:=h.apart
  rw [List.pairwise_append] at h1 ⊢
  refine ⟨h1.1,List.pairwise_cons.2 ⟨fun q _ k hk=>(by rw [hg] at hk;cases hk),h1.2.1⟩,fun o ho q hq k hk=>?_⟩
  rcases List.mem_cons.1 hq with rfl|hq
  ·rw [hg];simp
  ·exact h1.2.2 o ho q hq k hk
theorem Hp.unghost {gh:HObj} (hg:gh.blk=none) {l:List HObj} (h:Hp P0 B w0 (l++gh::hp) w):Hp P0 B w0 (l++hp) w/\gh.ok (Imm P0 B (l++hp)) w:=by
 have hm:∀ o,o∈l++hp->o∈l++gh::hp:=fun o ho=>by
  rcases List.mem_append.1 ho with ho|ho
  ·exact List.mem_append_left _ ho
  ·exact List.mem_append_right _ (List.mem_cons_of_mem _ ho)
 refine ⟨⟨h.base,h.below,fun o ho=>h.own o (hm o ho),fun o ho=>o.weak (h.ok o (hm o ho)) fun k=>(ZAC hg l k).1,?_⟩,gh.weak (h.ok gh (by simp)) fun k=>(ZAC hg l k).1⟩
 have h1:=h.apart
 rw [List.pairwise_append] at h1 ⊢
 exact ⟨h1.1,(List.pairwise_cons.1 h1.2.1).2,fun o ho q hq=>h1.2.2 o ho q (List.mem_cons_of_mem _ hq)⟩
def finI (t:Nat) (K:Dat->List HObj->Prop) (gh:HObj) (hp:List HObj):ZAW:=fun e f q=>(match e with|.normal|.ret=>True|_=>False)/\∃ d hp2,f[t]?=some d/\q=hp2++gh::hp/\K d hp2
theorem ZNY {f:FuncId} {fn:Func} {c:Code} {t:Tmp} {args:Array Operand} {ats:Array TypeId} {ds:List Dat} (hp1:List HObj) (K:Dat->List HObj->Prop) (hf:P.funcs[f]?=some fn) (hb:fn.body=some c) (hr:fn.results=#[.tmp t]) (he:ZAn P f) (ha:ArgsD fr args.toList ds)
  (hbody:∀ gh:HObj,gh.blk=none->WC P (finI t K gh hp) c (ds++List.replicate (fn.ntmps-ds.length) (dX undef)) (hp1++gh::hp))
  (hK:∀ d' hp2,K d' hp2->WL P ops Q rest (ZA fr dst d') (hp2++hp)) :
  WL P ops Q (⟨dst,.call { callee:=.value (.func f),args:=args,argTypes:=ats },ty,ps,af,none⟩::rest) fr (hp1++hp):=by
 refine WL.of fun P0 B w0 w a hh hfr=>?_
 have hrun:(execOp a.eval ⟨dst,.call { callee:=.value (.func f),args:=args,argTypes:=ats },ty,ps,af,none⟩).run P w = .ok (.enter f (args.map a.eval)) w:=by
  unfold execOp
  simp only [resolve]
  simp [Act.eval,Deferred.ofValue,invoke,he _ w]
 refine wpList_plain rfl fun KK hKK=>?_
 unfold Oper.wp
 rw [hrun]
 have hgb:(hFr a fr).blk=none:=rfl
 have hG:Hp P0 B w0 (hp1++hFr a fr::hp) w:=ZBT hgb hh hfr.rd
 have hvs:(args.map a.eval)=(args.toList.map a.eval).toArray:=by apply Array.ext';simp
 have hl:(args.toList.map a.eval).length=ds.length:=by simpa using ha.1
 have hf0:Fr (Imm P0 B (hp1++hFr a fr::hp)) w { tmps:=(args.toList.map a.eval).toArray++Array.replicate (fn.ntmps-ds.length) undef,defers:=[] } (ds++List.replicate (fn.ntmps-ds.length) (dX undef)) :=
  ZBI hl fun i d hd=>by
   have hi:i<args.toList.length:=by rw [ha.1];exact (List.getElem?_eq_some_iff.1 hd).1
   have h2:=(ha.2 i _ d (List.getElem?_eq_getElem hi) hd).ev hfr
   have hi':i<args.size:=by simpa using hi
   have:(args.toList.map a.eval).getD i undef=a.eval args.toList[i]:=by simp [List.getD,hi']
   rw [this]
   exact d.weak h2 fun k=>(ZAC hgb hp1 k).2
 have hcalls:Calls P f (args.map a.eval) w fun e w'=>∃ v,e = .returned v/\KK (a.put dst v) w':=by
  rw [hvs]
  refine calls_of_wp hf hb ?_
  have hwp:=(hbody (hFr a fr) hgb).on hG hf0
  have hsz:(args.toList.map a.eval).toArray.size=ds.length:=by simp [<- hl]
  rw [hsz]
  refine Code.wp_mono (fun e a' w' ⟨f',p',q,hh',hf'⟩=>?_) hwp
  obtain ⟨hx,d',hp2,hd',rfl,hk'⟩:=q
  obtain ⟨hh2,hok2⟩:=hh'.unghost hgb
  have hv:=d'.weak (hf'.rd t d' hd') fun k=>(ZAC hgb hp2 k).1
  have hfr2:Fr (Imm P0 B (hp2++hp)) w' a fr:=⟨hfr.defers,hfr.size,hok2⟩
  have hfin:=hKK _ _ ((hK d' hp2 hk').on hh2 (Fr.put (x:=dst) hfr2 hv))
  cases e with
  | normal=>exact ⟨hf'.defers,_,results_tmp hr _ _ _,_,rfl,hfin⟩
  | ret=>exact ⟨hf'.defers,_,results_tmp hr _ _ _,_,rfl,hfin⟩
  | _=>exact hx.elim
 exact hcalls.mono fun e w' ⟨v,hv,hk⟩=>by subst hv;exact hk
end
end
section
open Go.RowKit
def ZCU (x:Vx):List Value:=[.int .i64 x.1,.int .i64 x.2]
theorem ZK5 {P:Nat->Prop} {w:World} {us:List (List Value)} {xs:List Vx} {v:Value} (hl:us.length=xs.length) (h:∀ k (h:k<us.length) (h':k<xs.length),RV (fun b=>P b/\v.ownBlock≠some b) w (.agg us[k].toArray) xs[k]):us=xs.map ZCU:=by
 apply List.ext_getElem (by simp [hl])
 intro k h1 h2
 have:=h k h1 (by omega)
 have h3:Value.agg us[k].toArray = .agg #[.int .i64 xs[k].1,.int .i64 xs[k].2]:=this
 injection h3 with h3
 rw [List.getElem_map]
 exact List.toArray_inj h3
end
section
open Go.RowKit

def Zs (xs:List Vx):List Value:=(xs.map ZCU).flatten
theorem ZB6:Zs []=[]:=rfl
theorem ZAy (x:Vx) (l:List Vx):Zs (x::l) = .int .i64 x.1 :: .int .i64 x.2::Zs l:=rfl
theorem Zy:∀ (l:List Vx),(Zs l).length=l.length*2
 | []=>rfl
 | x::l=>by rw [ZAy];simp only [List.length_cons,Zy l];omega
theorem ZBV (a b:List Vx):Zs (a++b)=Zs a++Zs b:=by unfold Zs;rw [List.map_append,List.flatten_append]
theorem ZEZ (l:List Vx):∀ c∈Zs l,c.oneCell'=true:=fun c hc=>by
 unfold Zs at hc
 obtain ⟨u,hu,hc⟩:=List.mem_flatten.1 hc
 obtain ⟨x,_,rfl⟩:=List.mem_map.1 hu
 simp [ZCU] at hc
 rcases hc with rfl|rfl <;> rfl
theorem ZGP {l:List Vx} {k:Nat} (h:k<l.length):(Zs l)[k*2]?=some (.int .i64 l[k].1)/\(Zs l)[k*2+1]?=some (.int .i64 l[k].2):=by
 have e:l=l.take k++l[k]::l.drop (k+1):=by rw [<- List.drop_eq_getElem_cons h,List.take_append_drop]
 have hl:(Zs (l.take k)).length=k*2:=by rw [Zy,List.length_take];congr 1;omega
 have e2:Zs l=Zs (l.take k)++(.int .i64 l[k].1 :: .int .i64 l[k].2::Zs (l.drop (k+1))):=by
  conv=>lhs;rw [e]
  rw [ZBV,ZAy]
 rw [e2]
 constructor
 ·rw [List.getElem?_append_right (by omega)];simp [hl]
 ·rw [List.getElem?_append_right (by omega)];simp [hl]
def ZKL (w:World) (g cap:Nat) (e:TypeId) (xs:List Vx):Prop :=
 ∃ tl:List Value,w.heap[g]?=some (.cells (Zs xs++tl).toArray e (0,0))/\xs.length≤cap/\cap≤maxLen/\(Zs xs++tl).length=cap*2
abbrev ZSp (g cap:Nat) (xs:List Vx):Value:=.slice (some ⟨g,0,none⟩) xs.length cap
theorem ZHO {e:TypeId} {I:Nat->Prop} {w:World} {g cap:Nat} {xs:List Vx}:OwnK 0 e 2 RV I w (ZSp g cap xs) xs↔ZKL w g cap e xs:=by
 constructor
 ·rintro ⟨us,h1,h2,h0,h3,h4⟩
  have hus:=ZK5 h1 h4
  subst hus
  obtain ⟨hfl,hv⟩:=h3
  rcases hv with ⟨hz,_⟩|⟨g',cap',cur,hv,hB,hg,hc1,hc2,hc3,hc4⟩
  ·cases hz
  ·cases hv
   refine ⟨cur.toList.drop (xs.length*2),?_,hc1,hc2,?_⟩
   ·have:Zs xs++cur.toList.drop (xs.length*2)=cur.toList:=by
     unfold Zs;rw [<- hc4,List.take_append_drop]
    rw [this];exact hg
   ·have:Zs xs++cur.toList.drop (xs.length*2)=cur.toList:=by
     unfold Zs;rw [<- hc4,List.take_append_drop]
    rw [this];simpa using hc3
 ·rintro ⟨tl,hg,hc1,hc2,hc3⟩
  refine ⟨xs.map ZCU,by simp,fun u hu=>?_,by decide,⟨?_,.inr ⟨g,cap,_,rfl,Nat.zero_le _,hg,hc1,hc2,by simpa using hc3,?_⟩⟩,fun k h h'=>?_⟩
  ·obtain ⟨y,_,rfl⟩:=List.mem_map.1 hu
   exact ⟨rfl,by simp [ZCU,Value.oneCell']⟩
  ·exact Zy xs
  ·show (Zs xs++tl).take (xs.length*2)=Zs xs
   rw [<- Zy xs,List.take_left']
   rfl
  ·show Value.agg _=_
   rw [List.getElem_map]
   rfl
theorem ZA9 {g:Nat} {e:TypeId} {fz:Nat × Nat}:∀ (vs M A C:List Value) (w:World),M.length=vs.length->w.heap[g]?=some (.cells (A++M++C).toArray e fz)->(w.setCells g A.length vs).heap[g]?=some (.cells (A++vs++C).toArray e fz)
 | [],M,A,C,w,h,hg=>by
  have:M=[]:=List.eq_nil_of_length_eq_zero (by simpa using h)
  subst this;exact hg
 | v::r,[],A,C,w,h,hg=>by simp at h
 | v::r,m::M,A,C,w,h,hg=>by
  have hg':(w.setCell ⟨g,A.length,none⟩ v).heap[g]?=some (.cells ((A++[v])++M++C).toArray e fz):=by
   simp only [World.setCell,Array.getElem?_modify,if_true,hg,Option.map_some]
   simp
  have:=ZA9 r M (A++[v]) C _ (by simpa using h) hg'
  rw [World.setCells]
  have e1:(A++[v]).length=A.length+1:=by simp
  rw [e1] at this
  rw [this];simp
theorem ZPZ {w:World} {g cap:Nat} {e:TypeId} {xs:List Vx} (h:ZKL w g cap e xs) (k:Nat) (ys:List Vx) (hk:k+ys.length≤xs.length) :
  ZKL (w.setCells g (k*2) (Zs ys)) g cap e (xs.take k++ys++xs.drop (k+ys.length)):=by
 obtain ⟨tl,hg,hc1,hc2,hc3⟩:=h
 have e1:xs=xs.take k++(xs.drop k).take ys.length++xs.drop (k+ys.length):=by
  rw [List.append_assoc,<- List.drop_drop,List.take_append_drop,List.take_append_drop]
 have hA:(Zs (xs.take k)).length=k*2:=by rw [Zy,List.length_take];congr 1;omega
 have hM:(Zs ((xs.drop k).take ys.length)).length=(Zs ys).length:=by rw [Zy,Zy,List.length_take,List.length_drop];congr 1;omega
 have e2:Zs xs++tl=Zs (xs.take k)++Zs ((xs.drop k).take ys.length)++(Zs (xs.drop (k+ys.length))++tl):=by
  conv=>lhs;rw [e1]
  rw [ZBV,ZBV];simp
 rw [e2] at hg
 have:=ZA9 _ _ _ _ w hM hg
 rw [hA] at this
 have hlen:(xs.take k++ys++xs.drop (k+ys.length)).length=xs.length:=by simp;omega
 refine ⟨tl,?_,by omega,hc2,?_⟩
 ·rw [this,ZBV,ZBV];simp
 ·rw [List.length_append,Zy] at hc3 ⊢
  rw [hlen];exact hc3
theorem ZGj {w:World} {g o:Nat} {vs:List Value}:w.grownBy (w.setCells g o vs) (some g):=by
 refine ⟨World.os_setCells w g o vs,?_,World.output_setCells w g o vs,?_,fun k hk hne=>World.heap_setCells_other w g o vs hk fun e=>hne (by rw [e])⟩
 ·revert o w
  induction vs with
  | nil=>intros;rfl
  | cons v r ih=>intro w o;rw [World.setCells];exact ih
 ·revert o w
  induction vs with
  | nil=>intros;exact Nat.le_refl _
  | cons v r ih =>
   intro w o;rw [World.setCells]
   refine Nat.le_trans ?_ ih
   simp [World.setCell]
theorem ZIZ {w:World} {g cap:Nat} {e:TypeId} {xs:List Vx} (h:ZKL w g cap e xs) (j:Nat) (hj:j<xs.length*2):w.cell? ⟨g,j,none⟩=(Zs xs)[j]?/\w.frozen? ⟨g,j,none⟩=false:=by
 obtain ⟨tl,hg,_⟩:=h
 refine ⟨?_,by simp [World.frozen?,hg]⟩
 simp only [World.cell?,hg]
 simp only [Option.isSome_none,Bool.false_eq_true,if_false]
 rw [List.getElem?_toArray,List.getElem?_append_left (by rw [Zy];exact hj)]
theorem ZGk {w:World} {g cap:Nat} {e:TypeId} {xs:List Vx} (h:ZKL w g cap e xs) (o n:Nat) (hj:o+n≤xs.length*2):w.there g o n:=fun j hjn=>by
 have:=ZIZ h (o+j) (by omega)
 refine ⟨?_,this.2⟩
 rw [this.1,List.getElem?_eq_getElem (by rw [Zy];omega)]
 rfl
section
variable {P:Program} {ops:Array Oper} {hp:List HObj} {o:Oper} {fr:List Dat} {d:Dat} {Q:ZAW} {rest:List Oper}
variable {dst:Option Tmp} {ty:TypeId} {ps:String} {af:Array Edge} {g:Option (Nat × Bool)} {b cap:Nat} {e t T:TypeId} {xs:List Vx} {bytes:Nat} {z:Value} {ag:Bool}
abbrev hV (b N cap:Nat) (e:TypeId) (xs:List Vx):HObj:=Zp (.slice (some ⟨b,0,none⟩) N cap) e 2 RV xs
theorem ZDr {I:Nat->Prop} {w:World} {N:Nat}:(hV b N cap e xs).ok I w↔N=xs.length/\ZKL w b cap e xs:=by
 constructor
 ·intro h
  have hN:N=xs.length:=by
   obtain ⟨us,h1,h2,h0,⟨_,h3⟩,h4⟩:=h
   rcases h3 with ⟨hz,_⟩|⟨g,cap,cur,hv,_⟩
   ·cases hz
   ·cases hv;rfl
  subst hN
  exact ⟨rfl,ZHO.1 h⟩
 ·rintro ⟨rfl,h⟩
  exact ZHO.2 h
theorem ZQQ {c:Code} {v:Value} (hne:0<xs.length) (h:∀ b cap,v=ZSp b cap xs->xs.length≤cap->cap≤maxLen->WC P Q c fr (Zp v e 2 RV xs::hp)):WC P Q c fr (Zp v e 2 RV xs::hp):=WC.of fun P0 B w0 w a hh hf=>by
 obtain ⟨us,h1,h2,h0,⟨_,h3⟩,h4⟩:=hh.ok (Zp v e 2 RV xs) (by simp)
 rcases h3 with ⟨_,hz⟩|⟨g,cap,cur,hv,hB,hg,hc1,hc2,_⟩
 ·omega
 ·exact (h g cap hv hc1 hc2).on hh hf
theorem ZIw {x i:Operand} {n m off k:Nat} {j:Int} (E:ElT P t e 2 z bytes ag) (hx:OpD fr x (dX (.slice (some ⟨b,off,none⟩) n m))) (hi:OpD fr i (dI j)) (hj:j=(k:Int)) (hk:k<n) :
  SY P ops hp ⟨dst,.indexAddr t x i,ty,ps,af,g⟩ fr (dX (.pointer (some ⟨b,off+k*2,none⟩))):=SY.val fun {I w a} ho=>by
 have h1:a.eval x=_:=hx.get (by simp [Op.operands]) ho
 have h2:a.eval i=_:=hi.get (by simp [Op.operands]) ho
 refine ⟨_,?_,rfl⟩
 unfold execOp
 simp only [h1,h2,hj,Sem.run_bind,ZBL (w:=w) E b off n m k .i64 hk,Result.andThen_ok,Sem.run_pure]
theorem ZFk {x:Operand} {j k:Nat} (T':TyI P T 2 true) (hx:OpD fr x (dX (.pointer (some ⟨b,j,none⟩)))) {N:Nat} (hm:hV b N cap e xs∈hp) (hj:j=k*2) (hk:k<xs.length) :
  SY P ops hp ⟨dst,.load T x,ty,ps,af,g⟩ fr (dS RV xs[k]):=ZAf fun {P0 B w0 w a} hh ho=>by
 have h1:a.eval x=_:=hx.get (by simp [Op.operands]) ho
 have hrow:=(ZDr.1 (hh.ok _ hm)).2
 subst hj
 have hc:Cells (fun _=>True) w b (k*2) 2 true (.agg (ZCU xs[k]).toArray):=by
  refine ⟨trivial,ZCU xs[k],rfl,by decide,by simp [ZCU,Value.oneCell'],fun i c hc=>?_,rfl⟩
  have hi:i<2:=(List.getElem?_eq_some_iff.1 hc).1
  have hcell:=(ZIZ hrow (k*2+i) (by omega)).1
  rw [hcell]
  match i,hi,hc with
  | 0,_,hc=>cases hc;exact (ZGP hk).1
  | 1,_,hc=>cases hc;exact (ZGP hk).2
 refine ⟨_,w,?_,Ext.refl _,rfl⟩
 unfold execOp
 simp only [h1,Sem.run_bind,ZA3 T' hc,Result.andThen_ok,Sem.run_pure]
 rfl
theorem ZI5 {o:Oper} {k N:Nat} {ys:List Vx} (hg:o.guard=none) (hk:k+ys.length≤xs.length) (hrun:∀ {I:Nat->Prop} {w:World} {a:Act},Fr I w a fr->ZKL w b cap e xs->∃ out:Next,(out = .skip\/∃ r,out = .value r)/\(execOp a.eval o).run P w = .ok out (w.setCells b (k*2) (Zs ys)))
  (h:WL P ops Q rest (ZA fr o.dst dA) (hV b N cap e (xs.take k++ys++xs.drop (k+ys.length))::hp)):WL P ops Q (o::rest) fr (hV b N cap e xs::hp):=by
 refine WL.of fun P0 B w0 w a hh hf=>?_
 obtain ⟨hN,hrow⟩:=ZDr.1 (hh.ok (hV b N cap e xs) (by simp))
 obtain ⟨out,ho,hr⟩:=hrun hf hrow
 have hgr:w.grownBy (w.setCells b (k*2) (Zs ys)) (hV b N cap e xs).blk:=ZGj
 have hok:(hV b N cap e (xs.take k++ys++xs.drop (k+ys.length))).ok (fun j=>Imm P0 B (hV b N cap e xs::hp) j/\j<w.heap.size) (w.setCells b (k*2) (Zs ys)) :=
  ZDr.2 ⟨by rw [hN];simp;omega,ZPZ hrow k ys hk⟩
 refine wpList_plain hg fun K hK=>?_
 unfold Oper.wp
 rw [hr]
 have fin:∀ r:Value,K (a.put o.dst r) (w.setCells b (k*2) (Zs ys)):=fun r=>hK _ _ (h.on (hh.write hgr (.inl rfl) hok) (Fr.put (hf.mono fun _ _ hd=>ZY (o':=hV b N cap e (xs.take k++ys++xs.drop (k+ys.length))) hgr (.inl rfl) hd) (d:=dA) trivial))
 rcases ho with rfl|⟨r,rfl⟩
 ·exact fin undef
 ·exact fin r
theorem ZNd {p:Tmp} {x:Operand} {j k N:Nat} {y:Vx} (T':TyI P T 2 true) (hp0:OpD fr (.tmp p) (dX (.pointer (some ⟨b,j,none⟩)))) (hx:OpD fr x (dS RV y)) (hj:j=k*2) (hk:k<xs.length)
  (h:WL P ops Q rest (ZA fr dst dA) (hV b N cap e (xs.set k y)::hp)):WL P ops Q (⟨dst,.store T (.tmp p) x,ty,ps,af,none⟩::rest) fr (hV b N cap e xs::hp):=by
 refine ZI5 (k:=k) (ys:=[y]) rfl (by simp;omega) (fun {I w a} hf hrow=>⟨.skip,.inl rfl,?_⟩) ?_
 ·have h1:a.eval (.tmp p)=_:=hp0.ev hf
  have h2:a.eval x = .agg #[.int .i64 y.1,.int .i64 y.2]:=hx.ev hf
  subst hj
  have:=run_storeVar_mid (P:=P) w b (k*2) T #[.int .i64 y.1,.int .i64 y.2] (ZGk hrow _ _ (by simp;omega)) (by simpa using T'.size) (by simp [Value.oneCell'])
  unfold execOp
  simp only [h1,h2,Instr.storeAt,Instr.sureAddr,Sem.run_bind,Sem.run_pure,Result.andThen_ok,this]
  rfl
 ·have e1:xs.take k++[y]++xs.drop (k+[y].length)=xs.set k y:=by
   rw [List.set_eq_take_append_cons_drop,if_pos hk];simp
  rw [e1];exact h
theorem ZNT {x:Operand} {off n m k N:Nat} (hu:P.underlying t=some (.slice e)) (hz:∀ w,(zeroValue e).run P w = .ok (.agg #[.int .i64 0,.int .i64 0]) w) (hx:OpD fr x (dX (.slice (some ⟨b,off,none⟩) n m))) (hj:off=k*2) (hn:0<n) (hk:k+n=xs.length)
  (h:WL P ops Q rest (ZA fr dst dA) (hV b N cap e (xs.take k++List.replicate n (0,0))::hp)):WL P ops Q (⟨dst,.call { callee:=.builtin .clear,args:=#[x],argTypes:=#[t] },ty,ps,af,none⟩::rest) fr (hV b N cap e xs::hp):=by
 refine ZI5 (k:=k) (ys:=List.replicate n (0,0)) rfl (by simp;omega) (fun {I w a} hf hrow=>⟨.value (.tuple #[]),.inr ⟨_,rfl⟩,?_⟩) ?_
 ·have h1:a.eval x=_:=hx.ev hf
  subst hj
  have hzc:(Builtin.zeroCells #[Value.int .i64 0,.int .i64 0] n).toList=Zs (List.replicate n (0,0)):=by
   have e1:Zs (List.replicate n (0,0))=List.replicate (n*2) (.int .i64 0):=by
    clear h hn hk hx h1
    induction n with
    | zero=>rfl
    | succ n ih=>rw [List.replicate_succ,ZAy,ih,Nat.succ_mul,List.replicate_succ,List.replicate_succ]
   rw [e1]
   simp only [Builtin.zeroCells]
   apply List.ext_getElem
   ·simp
   ·intro i h1 h2
    have:i % 2<2:=Nat.mod_lt _ (by decide)
    simp
    rcases (by omega:i % 2=0\/i % 2=1) with h|h <;> simp [h]
  have hst:=run_storeCells_cells (P:=P) b (k*2) (Zs (List.replicate n (0,0))) 0 w (fun j hj=>by
   rw [Zy,List.length_replicate] at hj
   exact ((ZGk hrow (k*2) (n*2) (by omega)) j hj).1) (fun j hj=>by
   rw [Zy,List.length_replicate] at hj
   exact ((ZGk hrow (k*2) (n*2) (by omega)) j hj).2) (ZEZ _)
  obtain ⟨m',rfl⟩:∃ m,n=m+1:=⟨n-1,by omega⟩
  unfold execOp
  simp [resolve,invoke,builtin,h1,Builtin.clear_,run_underlying hu,hz,Value.cells,hzc,hst]
 ·have e1:xs.take k++List.replicate n (0,0)++xs.drop (k+(List.replicate n ((0,0):Vx)).length)=xs.take k++List.replicate n (0,0):=by
   rw [List.length_replicate,hk,List.drop_length,List.append_nil]
  rw [e1];exact h
theorem SY.fromO {x y:Operand} {off n m l:Nat} {j:Int} (E:ElT P t e 2 z bytes ag) (hx:OpD fr x (dX (.slice (some ⟨b,off,none⟩) n m))) (hy:OpD fr y (dI j)) (hj:j=(l:Int)) (hl:l<n) (hm:n≤m) :
  SY P ops hp ⟨dst,.slice t x (some y) none none,ty,ps,af,g⟩ fr (dX (.slice (some ⟨b,off+l*2,none⟩) (n-l) (m-l))):=SY.val fun {I w a} ho=>by
 have h1:a.eval x=_:=hx.get (by simp [Op.operands]) ho
 have h2:a.eval y=_:=hy.get (by simp [Op.operands]) ho
 refine ⟨_,?_,rfl⟩
 have hr:=ZDN (w:=w) (ad:=some ⟨b,off,none⟩) (len:=n) (cap:=m) (lo:=some (.int .i64 (l:Int))) (hi:=none) (l:=l) (h:=n) E (.inr ⟨_,rfl⟩) (.inl ⟨rfl,rfl⟩) (by omega) hm
 rw [if_neg (by omega)] at hr
 unfold execOp
 simp only [h1,h2,hj,Option.map_none,Option.map_some,Sem.run_bind,hr,Result.andThen_ok,Sem.run_pure]
 simp [Addr.add_lit]
theorem SY.uptoO {x y:Operand} {off n m l:Nat} {j:Int} (E:ElT P t e 2 z bytes ag) (hx:OpD fr x (dX (.slice (some ⟨b,off,none⟩) n m))) (hy:OpD fr y (dI j)) (hj:j=(l:Int)) (hl:l≤n) (hm:n≤m) (h0:0<m) :
  SY P ops hp ⟨dst,.slice t x none (some y) none,ty,ps,af,g⟩ fr (dX (.slice (some ⟨b,off,none⟩) l m)):=SY.val fun {I w a} ho=>by
 have h1:a.eval x=_:=hx.get (by simp [Op.operands]) ho
 have h2:a.eval y=_:=hy.get (by simp [Op.operands]) ho
 refine ⟨_,?_,rfl⟩
 have hr:=ZDN (w:=w) (ad:=some ⟨b,off,none⟩) (len:=n) (cap:=m) (lo:=none) (hi:=some (.int .i64 (l:Int))) (l:=0) (h:=l) E (.inl ⟨rfl,rfl⟩) (.inr ⟨_,rfl⟩) (by omega) (by omega)
 rw [if_neg (by omega)] at hr
 unfold execOp
 simp only [h1,h2,hj,Option.map_none,Option.map_some,Sem.run_bind,hr,Result.andThen_ok,Sem.run_pure]
 simp [Addr.add_lit]
end
end
section
def ZUW (xs:List Vx):Prop:=xs.Pairwise fun a b=>¬ ZA8 b a<0
def ZIq (xs:List Vx) (m:Nat) (zs:List Vx):Prop:=Asc zs/\(∀ v,v∈zs↔v∈xs.take m)/\zs.getLast?=xs[m-1]?
theorem ZQj {zs:List Vx} {l:Vx} (h:Asc zs) (hl:zs.getLast?=some l):∀ a∈zs,a=l\/ZA8 a l<0:=by
 obtain ⟨ys,rfl⟩:=List.getLast?_eq_some_iff.1 hl
 intro a ha
 rcases List.mem_append.1 ha with ha|ha
 ·exact .inr ((List.pairwise_append.1 h).2.2 a ha l (by simp))
 ·exact .inl (by simpa using ha)
theorem ZMt {xs:List Vx} (h:1≤xs.length):ZIq xs 1 (xs.take 1):=by
 match xs,h with
 | x::l,_=>exact ⟨by simp [Asc],fun v=>Iff.rfl,by simp⟩
theorem ZJa {xs zs:List Vx} {m:Nat} (hs:ZUW xs) (h:ZIq xs m zs) (h1:1≤m) (h2:m<xs.length) (hne:xs[m]≠xs[m-1]'(by omega)):ZIq xs (m+1) (zs++[xs[m]]):=by
 obtain ⟨ha,hm,hl⟩:=h
 rw [List.getElem?_eq_getElem (by omega:m-1<xs.length)] at hl
 have hlt:ZA8 (xs[m-1]'(by omega)) xs[m]<0:=by
  have h3:=(List.pairwise_iff_getElem.1 hs) (m-1) m (by omega) h2 (by omega)
  rcases ZBf (xs[m-1]'(by omega)) xs[m] with k|k|k
  ·omega
  ·omega
  ·exact absurd k.2.2.symm hne
 refine ⟨List.pairwise_append.2 ⟨ha,by simp,fun a haz b hb=>?_⟩,fun v=>?_,by simp [h2]⟩
 ·have hb':b=xs[m]:=by simpa using hb
  subst hb'
  rcases ZQj ha hl a haz with rfl|h4
  ·exact hlt
  ·exact ZBg h4 hlt
 ·rw [List.mem_append,hm,ZBW h2];simp
theorem ZJb {xs zs:List Vx} {m:Nat} (h:ZIq xs m zs) (h1:1≤m) (h2:m<xs.length) (he:xs[m]=xs[m-1]'(by omega)):ZIq xs (m+1) zs:=by
 obtain ⟨ha,hm,hl⟩:=h
 refine ⟨ha,fun v=>?_,?_⟩
 ·rw [hm,ZBW h2]
  refine ⟨.inl,fun h=>h.elim id fun h=>?_⟩
  rw [h,he,List.mem_take_iff_getElem]
  exact ⟨m-1,by omega,rfl⟩
 ·rw [hl,Nat.add_sub_cancel,List.getElem?_eq_getElem h2,List.getElem?_eq_getElem (by omega),he]
theorem ZLu {xs zs:List Vx} {m:Nat} (h:ZIq xs m zs) (h2:xs.length≤m):Asc zs/\∀ v,v∈zs↔v∈xs:=⟨h.1,fun v=>by rw [h.2.1,List.take_of_length_le h2]⟩
end
section
open Go.RowKit
structure InC (P:Program) (f:FuncId) (ds:List Dat) (hp1:List HObj) (K:Dat->List HObj->Prop):Prop where
 out:∀ hp:List HObj,∃ (fn:Func) (c:Code) (t:Tmp),P.funcs[f]?=some fn/\fn.body=some c/\fn.results=#[.tmp t]/\∀ gh:HObj,gh.blk=none->WC P (finI t K gh hp) c (ds++List.replicate (fn.ntmps-ds.length) (dX undef)) (hp1++gh::hp)
section
variable {P:Program} {ops:Array Oper} {hp:List HObj} {o:Oper} {fr:List Dat} {d:Dat} {Q:ZAW} {rest:List Oper}
variable {dst:Option Tmp} {ty:TypeId} {ps:String} {af:Array Edge} {g:Option (Nat × Bool)}
theorem ZIs {f:FuncId} {fn:Func} {c:Code} {t:Tmp} {ds:List Dat} {hp1:List HObj} {K:Dat->List HObj->Prop} (hf:P.funcs[f]?=some fn) (hb:fn.body=some c) (hr:fn.results=#[.tmp t])
  (h:∀ (hp:List HObj) (gh:HObj),gh.blk=none->WC P (finI t K gh hp) c (ds++List.replicate (fn.ntmps-ds.length) (dX undef)) (hp1++gh::hp)):InC P f ds hp1 K:=⟨fun hp=>⟨fn,c,t,hf,hb,hr,h hp⟩⟩
theorem ZSG {f:FuncId} {args:Array Operand} {ats:Array TypeId} {ds:List Dat} {hp1:List HObj} {K:Dat->List HObj->Prop} (hF:InC P f ds hp1 K) (he:ZAn P f) (ha:ArgsD fr args.toList ds)
  (hK:∀ d' hp2,K d' hp2->WL P ops Q rest (ZA fr dst d') (hp2++hp)) :
  WL P ops Q (⟨dst,.call { callee:=.value (.func f),args:=args,argTypes:=ats },ty,ps,af,none⟩::rest) fr (hp1++hp):=by
 obtain ⟨fn,c,t,hf,hb,hr,h⟩:=hF.out hp
 exact ZNY hp1 K hf hb hr he ha h hK
theorem ZLK {f:FuncId} {args:Array Operand} {ats:Array TypeId} {ds:List Dat} {o1:HObj} {e:TypeId} {n:Nat} {α:Type} {R:Rel α} {_gR:Good R} {p:List α->Prop} (hF:InC P f ds [o1] fun d' hp2=>∃ v xs,p xs/\d'=dX v/\hp2=[Zp v e n R xs]) (he:ZAn P f) (ha:ArgsD fr args.toList ds)
  (hK:∀ v xs,p xs->WL P ops Q rest (ZA fr dst (dX v)) (Zp v e n R xs::hp)) :
  WL P ops Q (⟨dst,.call { callee:=.value (.func f),args:=args,argTypes:=ats },ty,ps,af,none⟩::rest) fr (o1::hp) :=
 ZSG (hp1:=[o1]) hF he ha fun d' hp2 ⟨v,xs,hp,hd,hh⟩=>by subst hd;subst hh;exact hK v xs hp
theorem ZG8 {α:Type} (e:TypeId) (n:Nat) (hn:0<n) (R:Rel α) [Good R] (h:WL P ops Q rest fr (Zp (.slice none 0 0) e n R ([]:List α)::hp)):WL P ops Q rest fr hp:=WL.of fun _ _ _ _ _ hh hf =>
 h.on (hh.push (Ext.refl _) (by simp [Zp,Value.ownBlock]) (OwnK.nil hn)) (hf.mono fun _ _ hd=>Z6 (Ext.refl _) (by simp [Zp,Value.ownBlock]) hd)
theorem ZNZ {f:FuncId} {args:Array Operand} {ats:Array TypeId} {ds:List Dat} {e:TypeId} {n:Nat} {α:Type} {R:Rel α} {_gR:Good R} {xs:List α} (hn:0<n) (hF:InC P f ds [] fun d' hp2=>∃ v,d'=dX v/\(hp2=[Zp v e n R xs]\/v = .slice none 0 0/\xs=[]/\hp2=[])) (he:ZAn P f) (ha:ArgsD fr args.toList ds)
  (hK:∀ v,WL P ops Q rest (ZA fr dst (dX v)) (Zp v e n R xs::hp)) :
  WL P ops Q (⟨dst,.call { callee:=.value (.func f),args:=args,argTypes:=ats },ty,ps,af,none⟩::rest) fr hp :=
 ZSG (hp1:=[]) hF he ha fun d' hp2 ⟨v,hd,hh⟩=>by
  subst hd
  rcases hh with rfl|⟨rfl,rfl,rfl⟩
  ·exact hK v
  ·exact ZG8 e n hn R (hK _)
end
end
end Go.Proofs.YtekiljakcngcoaaGreatDoor
