/- Part 7: walks by contracts, and plain laws. -/
import Derived.Deep.Upon
import Derived.StillTail
import Derived.Test.YtekiljakcngcoaaGreatDoorProg
import Derived.Test.YtekiljakcngcoaaGreatDoorV6
set_option linter.unusedVariables false
set_option linter.unusedSimpArgs false
set_option linter.unusedSectionVars false
set_option maxRecDepth 100000
set_option maxHeartbeats 4000000
namespace Go.Proofs.YtekiljakcngcoaaGreatDoor
section
open Go.RowKit

section
variable {P:Program} {ops:Array Oper} {hp:List HObj} {md:Region.Mode} {w:World}

def ZFM (P:Program) (md:Region.Mode) (ops:Array Oper) (hp:List HObj) (n:Nat) (L:Array Bool->List Dat->Prop):Nat->Array Bool->List Dat->Prop
 | 0,listed,a=>L listed a
 | f+1,listed,a =>
  Region.ready md ops listed≠[]/\∀ i∈Region.ready md ops listed,i<n/\sOp P ops hp i (ZFM P md ops hp n L f (listed.setIfInBounds i true)) a

theorem ZCQ {n g:Nat} {L:Array Bool->List Dat->Prop} {Q':Exit->Act->World->Prop} {P0:Nat->Prop} {B:Nat} {w0:World}:∀ (f:Nat) (listed:Array Bool) (fr:List Dat) (a:Act) (w:World),Hp P0 B w0 hp w->Fr (Imm P0 B hp) w a fr ->
  (∀ listed fr a w',Ext w w'->Hp P0 B w0 hp w'->Fr (Imm P0 B hp) w' a fr->L listed fr->wpAny P md ops Q' g listed a w')->ZFM P md ops hp n L f listed fr->wpAny P md ops Q' (f+g) listed a w
 | 0,listed,fr,a,w,hh,hf,hL,h=>by rw [Nat.zero_add];exact hL _ _ _ _ (Ext.refl _) hh hf h
 | f+1,listed,fr,a,w,hh,hf,hL,h=>by
  rw [show f+1+g=(f+g)+1 by omega]
  refine ⟨fun h0=>absurd h0 h.1,fun i hi=>?_⟩
  have h1:=(h.2 i hi).2
  unfold sOp at h1
  unfold wpOp
  split
  ·rename_i ho;simp only [ho] at h1
   exact ZCQ f _ _ _ _ hh hf hL h1
  ·rename_i o ho;simp only [ho] at h1
   obtain ⟨d,h2,h3⟩:=h1
   have:=h2.step (Q:=Q') hh hf (K:=wpAny P md ops Q' (f+g) (listed.setIfInBounds i true)) fun a' w' e hf'=>ZCQ f _ _ _ _ (hh.ext e) hf' (fun li fr' a'' w'' e'=>hL li fr' a'' w'' (e.trans e')) h3
   split
   ·rename_i hw;rw [if_pos hw] at this;exact .inl this
   ·rename_i hw;rw [if_neg hw] at this;exact this

theorem ZIg {n i:Nat} {oi:Oper} {di:Dat} {L:Array Bool->List Dat->Prop} (hi:ops[i]?=some oi)
  (hs:Region.sinkB md ops n=true) (hc:Region.chainB md ops n=true) (hn:n<ops.size) (hin:i<n)
  (hdone:∀ listed a,L listed a->∀ j∈Region.ready md ops listed,n≤j) :
  ∀ (f:Nat) (listed:Array Bool) (fr:List Dat),HeadInv md ops n listed ->
   (∀ j oj,ops[j]?=some oj->j≠i->listed.getD j true=false->(∀ e∈oj.after,Region.binds md e=true->e.on≠i)->oi.apart ops oj=true) ->
   i∈Region.ready md ops listed->SYG P ops hp oi fr di ->
   ZFM P md ops hp n L f (listed.setIfInBounds i true) (ZA fr oi.dst di)->ZFM P md ops hp n L (f+1) listed fr:=by
 have one:∀ {K:List Dat->Prop} {fr:List Dat},SYG P ops hp oi fr di->K (ZA fr oi.dst di)->sOp P ops hp i K fr:=fun hy hk=>by unfold sOp;simp only [hi];exact ⟨di,hy,hk⟩
 intro f
 induction f with
 | zero =>
  intro listed a inv _ hr hy H
  have hun:=(mem_ready.1 hr).1
  refine ⟨fun h=>(by rw [h] at hr;cases hr),fun j hj=>?_⟩
  have hjn:j<n:=by
   rcases Nat.lt_or_ge j n with h|h
   ·exact h
   ·exact absurd hj (tail_waits hs hc hn inv _ i rfl hin hun j h)
  refine ⟨hjn,?_⟩
  by_cases hji:j=i
  ·subst hji;exact one hy H
  ·have:=hdone _ _ H j (ready_mono hj hji)
   omega
 | succ f ih =>
  intro listed a inv hfree hr hy H
  have hun:=(mem_ready.1 hr).1
  refine ⟨fun h=>(by rw [h] at hr;cases hr),fun j hj=>?_⟩
  have hjn:j<n:=by
   rcases Nat.lt_or_ge j n with h|h
   ·exact h
   ·exact absurd hj (tail_waits hs hc hn inv _ i rfl hin hun j h)
  refine ⟨hjn,?_⟩
  by_cases hji:j=i
  ·subst hji;exact one hy H
  ·have h1:=(H.2 j (ready_mono hj hji)).2
   obtain ⟨hjun,oj,hoj,hall⟩:=mem_ready.1 hj
   have hnot:∀ e∈oj.after,Region.binds md e=true->e.on≠i:=fun e he hb heq=>by
    have h1:=hall e he hb
    rw [heq,getD_both hun] at h1
    cases h1
   have h2:=ZIc hoj (hfree j oj hoj hji hjun hnot) hy h1
   have hfree':∀ k ok,ops[k]?=some ok->k≠i->(listed.setIfInBounds j true).getD k true=false ->
     (∀ e∈ok.after,Region.binds md e=true->e.on≠i)->oi.apart ops ok=true:=fun k ok hk hki hun hno=>by
    refine hfree k ok hk hki ?_ hno
    by_cases hjk:j=k
    ·subst hjk;exact hjun
    ·rw [getD_set_ne true hjk] at hun;exact hun
   refine ZF0 (fun a' h3=>ih (listed.setIfInBounds j true) a' (inv.set hj hjn) hfree' (ready_mono hr (Ne.symm hji)) h3.1 ?_) h2
   rw [Array.setIfInBounds_comm _ _ hji]
   exact h3.2

theorem ZD5 {n g:Nat} {Lq:List Dat->Prop} (hs:Region.sinkB md ops n=true) (hc:Region.chainB md ops n=true) (hn:n<ops.size) :
  ∀ (l:List Oper) (k:Nat) (listed:Array Bool) (fr:List Dat),(∀ j,j<l.length->l[j]?=ops[k+j]?)->k+l.length=n->HeadInv md ops n listed ->
  Region.lexHead md ops g l.length k listed=true->WD P ops hp Lq l fr ->
  ZFM P md ops hp n (fun listed' a'=>Region.seqB md ops g n listed'=true/\Lq a') l.length listed fr
 | [],k,listed,a,_,hk,_,hB,h=>by
  have:k=n:=by simpa using hk
  subst this
  exact ⟨by simpa [Region.lexHead] using hB,by cases h;assumption⟩
 | o::l,k,listed,a,hl,hk,inv,hB,h=>by
  have h0:ops[k]?=some o:=by simpa using (hl 0 (by simp)).symm
  simp only [List.length_cons,Region.lexHead,Bool.and_eq_true] at hB
  obtain ⟨⟨hr,hf⟩,hB'⟩:=hB
  have hkn:k<n:=by simp only [List.length_cons] at hk;omega
  have hr':k∈Region.ready md ops listed:=by simpa using hr
  cases h
  rename_i d hy hK
  exact ZIg h0 hs hc hn hkn (fun listed' a' hL=>seqB_ready hL.1) l.length listed a inv (Region.free_spec h0 hf) hr' hy
   (ZD5 hs hc hn l (k+1) _ _ (fun j hj=>by have:=hl (j+1) (by simp;omega);simpa [Nat.add_assoc,Nat.add_comm 1 j] using this) (by simp only [List.length_cons] at hk;omega) (inv.set hr' hkn) hB' hK)

theorem WC.drawTail {id:Nat} {l:List Oper} {fr:List Dat} {Q:ZAW} (n:Nat) (hm:P.follows .mixedOrders=true) (hB:Region.lexTailB .any l.toArray n=true)
  (h:WD P l.toArray hp (fun f=>WL P l.toArray Q (l.drop n) f hp) (l.take n) fr):WC P Q (.region id l.toArray true) fr hp:=by
 refine WC.of fun P0 B w0 w a hh hf=>?_
 simp only [Region.lexTailB,Bool.and_eq_true,decide_eq_true_eq] at hB
 obtain ⟨⟨⟨⟨hsel,hn⟩,hs⟩,hc⟩,hlex⟩:=hB
 have hn':n<l.length:=by simpa using hn
 have htl:(l.take n).length=n:=by simp;omega
 have hdl:(l.drop n).length=l.toArray.size-n:=by simp
 have inv0:HeadInv .any l.toArray n (Array.replicate l.toArray.size false) :=
  ⟨by simp,fun j oj _ hl=>(by rw [getD_replicate_false] at hl;cases hl),fun t _ ht=>getD_in (by simpa using ht) (getD_replicate_false _ _)⟩
 have H:=ZD5 (md:=.any) (g:=l.toArray.size-n) hs hc hn (l.take n) 0 _ fr (fun j hj=>by
  have hj':j<n:=by rw [htl] at hj;exact hj
  simp [hj']) (by simpa using htl) inv0 (by rw [htl];exact hlex) h
 have hx:Ext w { w with drawn:=w.drawn+1 }:=(Ext.refl w).drew
 refine wp_region_any hm ?_
 have:=ZCQ (Q':=ZCE Q P0 B w0) (g:=l.toArray.size-n) _ _ _ _ _ (hh.ext hx) (hf.ext hx) (fun listed fr' a' w' e hh' hf' hL=>by
  have:=wpAny_of_seq (md:=.any) (Q':=ZCE Q P0 B w0) (l.drop n) n listed a' w' (fun j=>by simp [List.getElem?_drop]) (by rw [hdl];exact hL.1) (hL.2.on hh' hf')
  rwa [hdl] at this) H
 rw [htl,show n+(l.toArray.size-n)=l.toArray.size by omega] at this
 exact this
end

section
variable {P:Program} {ops:Array Oper} {hp:List HObj} {o:Oper} {fr:List Dat} {d:Dat} {Q:ZAW} {rest:List Oper}
variable {dst:Option Tmp} {ty:TypeId} {ps:String} {af:Array Edge} {g:Option (Nat × Bool)}
variable {t e:TypeId} {n bytes:Nat} {z:Value} {ag:Bool}
theorem SY.build1' (E:ElT P t e 1 z bytes ag) {α:Type} {R:Rel α} {_gR:Good R} {len:Nat} {parts:Array (Nat × Operand)} {els:List α} (hx:ElsD fr R (parts.toList.map Prod.snd) els) (hparts:parts.toList=((parts.toList.map Prod.snd).zipIdx).map (fun p=>(p.2,p.1))) (hl:len=els.length) (hs:∀ a,(dS R a).Shape 1 false) (hsm:els.length*1≤16777216) :
  SY P ops hp ⟨dst,.buildSlice t len parts,ty,ps,af,g⟩ fr (dS (Arr R) els):=SY.build1 E hx hparts hl hs hsm
theorem ZBC {v:Value} {e:TypeId} {α:Type} {R:Rel α} {_gR:Good R} {xs ys:List α} (h:Zr v e R xs∈hp) (he:xs=ys):FinD hp (dX v) (dS (Arr R) ys):=he ▸ FinD.row h
theorem ZAQ {v:Value} {e:TypeId} {n:Nat} {α:Type} {R:Rel α} {_gR:Good R} {xs ys:List α} (h:Zp v e n R xs∈hp) (he:xs=ys):FinD hp (dX v) (dS (ArrK n R) ys):=he ▸ FinD.rowK h
theorem ZAE {n:Nat} (hn:0<n) {α:Type} {R:Rel α} [Good R] {ys:List α} (he:ys=[]):FinD hp (dX (.slice none 0 0)) (dS (ArrK n R) ys):=by subst he;exact FinD.le (ZB hn)
theorem ZW:(dX (.agg #[.int .i64 0,.int .i64 0])).Shape 2 true:=fun _ _ _ h=>by cases (h:_=_);exact ⟨[.int .i64 0,.int .i64 0],rfl,by omega,by simp [Value.oneCell'],rfl,rfl⟩
theorem Zn {x y:Operand} {T T2:TypeId} {p q:Bool} (hx:OpD fr x (dB p)) (hy:OpD fr y (dB q)) (hq:∀ (x y:Operand) (p q:Bool) w,(do eqGuard .neq T x y (.bool p) (.bool q);Go.binOp .neq T (.bool p) (.bool q)).run P w = .ok (.bool (p != q)) w):SY P ops hp ⟨dst,.binOp .neq T x y T2,ty,ps,af,g⟩ fr (dB (p != q)):=SY.val fun {I w a} ho=>by
 have h1:a.eval x = .bool p:=hx.get (by simp [Op.operands]) ho
 have h2:a.eval y = .bool q:=hy.get (by simp [Op.operands]) ho
 refine ⟨.bool (p != q),?_,rfl⟩
 have:=hq x y p q w
 unfold execOp
 simp only [h1,h2]
 rw [Sem.run_bind,this]
 simp
end

end
section
open Go.RowKit

theorem elV:ElT Tryz.prog 28 50 2 (.agg #[.int .i64 0,.int .i64 0]) 16 true:=⟨Tryz.underlying28,by kernel_rfl,Tryz.isAgg50,rfl⟩
theorem ZDz:ElT Tryz.prog 22 28 1 (.slice none 0 0) 24 false:=⟨Tryz.underlying22,by kernel_rfl,Tryz.isAgg28,rfl⟩
theorem elI:ElT Tryz.prog 39 3 1 (.int .i64 0) 8 false:=⟨Tryz.underlying39,by kernel_rfl,Tryz.isAgg3,rfl⟩
theorem tyV:TyI Tryz.prog 50 2 true:=⟨by kernel_rfl,Tryz.isAgg50⟩
theorem ZG3:TyI Tryz.prog 28 1 false:=⟨by kernel_rfl,Tryz.isAgg28⟩
theorem tyI:TyI Tryz.prog 3 1 false:=⟨by kernel_rfl,Tryz.isAgg3⟩
theorem tzV:TyZ Tryz.prog 50 (.agg #[.int .i64 0,.int .i64 0]):=⟨by kernel_rfl⟩
theorem vxT:VxT Tryz.prog 50:=by
 constructor
 ·intro b off w;go_simp
 ·intro b off w;go_simp
 ·intro x y p q p' q' w;go_simp;by_cases h:p=p' <;> by_cases h':q=q' <;> simp [h,h']
 ·intro x y p q p' q' w;go_simp;by_cases h:p=p' <;> by_cases h':q=q' <;> simp [h,h']
 ·intro p q w;go_simp
 ·intro p w;go_simp
 ·intro q w;go_simp
theorem ZCF:∀ (x y:Operand) (p q:Bool) w,(do eqGuard .neq 4 x y (.bool p) (.bool q);Go.binOp .neq 4 (.bool p) (.bool q)).run Tryz.prog w = .ok (.bool (p != q)) w:=by
 intro x y p q w;cases p <;> cases q <;> go_simp
theorem ZOW:∀ (x y:Operand) ad m c w,(do eqGuard .eql 28 x y (.slice ad m c) (.slice none 0 0);Go.binOp .eql 28 (.slice ad m c) (.slice none 0 0)).run Tryz.prog w = .ok (.bool ad.isNone) w:=by
 intro x y ad m c w
 cases ad <;> (go_simp;try (unfold Go.binOp;simp only;unfold Op.equal Op.maxDepth Op.equalIn;simp [run_underlying Tryz.underlying28]))

end
section

abbrev Vx:=Int × Int
def ZA8 (a b:Vx):Int:=if a.1<b.1 then -1 else if b.1<a.1 then 1 else if a.2<b.2 then -1 else if b.2<a.2 then 1 else 0
def ZEy (v:Vx):Bool:=decide (0≤v.1) && decide (v.1<8) && decide (0≤v.2) && decide (v.2≤1048576)
def ZA7:List Vx->List Vx->Int
 | [],[]=>0
 | [],_::_=>-1
 | _::_,[]=>1
 | x::a,y::b=>if ZA8 x y=0 then ZA7 a b else ZA8 x y
def ZNC:Option Vx->List Vx->Int
 | _,[]=>0
 | p,v::s=>if ZEy v=false then 2 else if (match p with|some u=>decide (0≤ZA8 u v)|none=>false)=true then 14 else ZNC (some v) s
def Z3 (s:List Vx):Int:=if s.length=0 then 16 else if 8<s.length then 5 else ZNC none s
def ZQB:List Vx->Vx->List Vx
 | [],v=>[v]
 | u::s,v=>if ZA8 v u<0 then v::u::s else u::ZQB s v
def ZPW (s:List Vx) (v:Vx):List Vx:=if v∈s then s else ZQB s v

theorem ZBf (a b:Vx):(ZA8 a b = -1/\ZA8 b a=1)\/(ZA8 a b=1/\ZA8 b a = -1)\/(ZA8 a b=0/\ZA8 b a=0/\a=b):=by
 obtain ⟨x,y⟩:=a
 obtain ⟨u,v⟩:=b
 simp only [ZA8,Prod.mk.injEq]
 repeat' split
 all_goals omega
theorem ZCO {a b:Vx}:ZA8 a b=0↔a=b:=by
 constructor
 ·intro h
  rcases ZBf a b with h'|h'|h'
  ·omega
  ·omega
  ·exact h'.2.2
 ·rintro rfl
  rcases ZBf a a with h'|h'|h' <;> omega
theorem ZHv (a b:Vx):ZA8 b a = - ZA8 a b:=by
 rcases ZBf a b with h'|h'|h' <;> omega
theorem ZBg {a b c:Vx} (h:ZA8 a b<0) (h':ZA8 b c<0):ZA8 a c<0:=by
 obtain ⟨x,y⟩:=a
 obtain ⟨u,v⟩:=b
 obtain ⟨p,q⟩:=c
 revert h h'
 simp only [ZA8]
 repeat' split
 all_goals omega

def Asc (s:List Vx):Prop:=s.Pairwise fun a b=>ZA8 a b<0

theorem ZCq:∀ {a b:List Vx},Asc a->Asc b->(∀ x,x∈a↔x∈b)->a=b
 | [],[],_,_,_=>rfl
 | [],y::b,_,_,h=>absurd ((h y).2 (by simp)) (by simp)
 | x::a,[],_,_,h=>absurd ((h x).1 (by simp)) (by simp)
 | x::a,y::b,ha,hb,h=>by
  unfold Asc at ha hb
  rw [List.pairwise_cons] at ha hb
  have hxy:x=y:=by
   have h1:=(h x).1 (by simp)
   have h2:=(h y).2 (by simp)
   rw [List.mem_cons] at h1 h2
   rcases h1 with h1|h1
   ·exact h1
   rcases h2 with h2|h2
   ·exact h2.symm
   have h3:=hb.1 x h1
   have h4:=ha.1 y h2
   have:=ZHv x y
   omega
  subst hxy
  congr 1
  refine ZCq ha.2 hb.2 fun z=>?_
  have hz:=h z
  rw [List.mem_cons,List.mem_cons] at hz
  have hne:∀ {l:List Vx},(∀ a∈l,ZA8 x a<0)->z∈l->z≠x:=by
   intro l hl hm he
   subst he
   have:=hl z hm
   rw [ZCO.2 rfl] at this
   omega
  constructor
  ·intro hm
   rcases hz.1 (.inr hm) with h1|h1
   ·exact absurd h1 (hne ha.1 hm)
   ·exact h1
  ·intro hm
   rcases hz.2 (.inr hm) with h1|h1
   ·exact absurd h1 (hne hb.1 hm)
   ·exact h1

theorem ZIH:∀ {s:List Vx} {v x:Vx},x∈ZQB s v↔x=v\/x∈s
 | [],v,x=>by simp [ZQB]
 | u::s,v,x=>by
  unfold ZQB
  split
  ·simp
  ·rw [List.mem_cons,ZIH,List.mem_cons]
   constructor
   ·rintro (h|h|h) <;> simp [h]
   ·rintro (h|h|h) <;> simp [h]
theorem ZL7 {s:List Vx} {v x:Vx}:x∈ZPW s v↔x=v\/x∈s:=by
 unfold ZPW
 split
 ·rename_i h
  constructor
  ·exact fun hx=>.inr hx
  ·rintro (rfl|hx)
   ·exact h
   ·exact hx
 ·exact ZIH
theorem ZLU:∀ {s:List Vx} {v:Vx},Asc s->v∉s->Asc (ZQB s v)
 | [],v,_,_=>by simp [ZQB,Asc]
 | u::s,v,hs,hv=>by
  unfold Asc at hs
  have hs':=hs
  rw [List.pairwise_cons] at hs
  unfold ZQB
  split
  ·rename_i hlt
   unfold Asc
   rw [List.pairwise_cons]
   refine ⟨fun y hy=>?_,hs'⟩
   rw [List.mem_cons] at hy
   rcases hy with rfl|hy
   ·exact hlt
   ·exact ZBg hlt (hs.1 y hy)
  ·rename_i hge
   unfold Asc
   rw [List.pairwise_cons]
   refine ⟨fun y hy=>?_,ZLU hs.2 fun h=>hv (List.mem_cons_of_mem _ h)⟩
   rw [ZIH] at hy
   rcases hy with rfl|hy
   ·have hne:y≠u:=fun h=>hv (by rw [h];simp)
    rcases ZBf u y with h|h|h
    ·omega
    ·omega
    ·exact absurd h.2.2.symm hne
   ·exact hs.1 y hy
theorem ZLV {s:List Vx} {v:Vx} (hs:Asc s):Asc (ZPW s v):=by
 unfold ZPW
 split
 ·exact hs
 ·exact ZLU hs (by assumption)

def ZCH (s:List Vx) (l:List Vx):List Vx:=l.foldl ZPW s
theorem ZCp:∀ {l s:List Vx},Asc s->Asc (ZCH s l)
 | [],_,h=>h
 | _::l,_,h=>ZCp (l:=l) (ZLV h)
theorem ZCM:∀ {l s:List Vx} {x:Vx},x∈ZCH s l↔x∈s\/x∈l
 | [],s,x=>by simp [ZCH]
 | v::l,s,x=>by
  show x∈ZCH (ZPW s v) l↔_
  rw [ZCM,ZL7,List.mem_cons]
  constructor
  ·rintro ((h|h)|h) <;> simp [h]
  ·rintro (h|h|h) <;> simp [h]

def ofV (l:List Vx):List Vx × Int:=if l.length=0 then ([],16) else if l.all ZEy=false then ([],2) else if 8<(ZCH [] l).length then ([],5) else (ZCH [] l,0)
def ZA1 (a b:List Vx):Bool:=a.all fun x=>decide (x∈b)
def Zw:Nat->List Vx->List (List Vx)
 | 0,_=>[[]]
 | _+1,[]=>[]
 | k+1,v::s=>(Zw k s).map (v :: ·)++Zw (k+1) s
def ZC0 (s:List Vx) (k:Int):List (List Vx) × Int:=if Z3 s≠0 then ([],Z3 s) else if k<1\/(s.length:Int)<k then ([],2) else (Zw k.toNat s,0)
def ZDP (a b:List Vx) (p:Bool):List Vx:=a.filter fun x=>decide (x∈b) == p
def ZAi:List Vx->Bool
 | []=>true
 | [_]=>true
 | u::v::s=>if u.1=v.1 then false else ZAi (v::s)
def ZEU (s:List Vx):Bool × Int:=if Z3 s≠0 then (false,Z3 s) else (ZAi s,0)

theorem ZAx {α:Type} {l:List α} {k:Nat} (h:k<l.length):l.drop k=l[k]::l.drop (k+1):=List.drop_eq_getElem_cons h
theorem ZZ {α:Type} {l:List α} {k:Nat} (h:k<l.length):l.take (k+1)=l.take k++[l[k]]:=List.take_succ_eq_append_getElem h
theorem ZEV (a b:List Vx) (k:Nat):ZA7 (a.drop k) (b.drop k)=if h:k<a.length then (if h':k<b.length then (if ZA8 a[k] b[k]=0 then ZA7 (a.drop (k+1)) (b.drop (k+1)) else ZA8 a[k] b[k]) else 1) else if k<b.length then -1 else 0:=by
 by_cases h:k<a.length
 ·by_cases h':k<b.length
  ·rw [dif_pos h,dif_pos h',ZAx h,ZAx h'];rfl
  ·rw [dif_pos h,dif_neg h',ZAx h,List.drop_of_length_le (l:=b) (by omega)];rfl
 ·by_cases h':k<b.length
  ·rw [dif_neg h,if_pos h',ZAx h',List.drop_of_length_le (l:=a) (by omega)];rfl
  ·rw [dif_neg h,if_neg h',List.drop_of_length_le (l:=b) (by omega),List.drop_of_length_le (l:=a) (by omega)];rfl
theorem ZJH (s:List Vx) (k:Nat) (h:k<s.length):ZNC (s.take k).getLast? (s.drop k)=if ZEy s[k]=false then 2 else if (match (s.take k).getLast? with|some u=>decide (0≤ZA8 u s[k])|none=>false)=true then 14 else ZNC (s.take (k+1)).getLast? (s.drop (k+1)):=by
 have e:(s.take (k+1)).getLast?=some s[k]:=by rw [ZZ h,List.getLast?_append];rfl
 rw [ZAx h,e]
 rfl
theorem ZEg (s:List Vx) (k:Nat) (h:k<s.length) (h0:0<k):(s.take k).getLast?=some s[k-1]:=by
 obtain ⟨j,rfl⟩:∃ j,k=j+1:=⟨k-1,by omega⟩
 rw [ZZ (by omega),List.getLast?_append];rfl

theorem ZGH {a b:List Vx} {k:Nat} (h:k<a.length) (h':k<b.length) (hc:ZA8 a[k] b[k]=0):ZA7 (a.drop k) (b.drop k)=ZA7 (a.drop (k+1)) (b.drop (k+1)):=by rw [ZEV,dif_pos h,dif_pos h',if_pos hc]
theorem ZBW {α:Type} {l:List α} {k:Nat} (h:k<l.length) {x:α}:x∈l.take (k+1)↔x∈l.take k\/x=l[k]:=by rw [ZZ h,List.mem_append,List.mem_singleton]
theorem ZLR {l:List Vx} {p:Vx->Bool} {k:Nat} (h:k<l.length):(l.take (k+1)).all p=((l.take k).all p && p l[k]):=by rw [ZZ h,List.all_append];simp only [List.all_cons,List.all_nil,Bool.and_true]
theorem ZDy:∀ {a b:List Vx},ZA7 a b=0↔a=b
 | [],[]=>by simp [ZA7]
 | [],_::_=>by simp [ZA7]
 | _::_,[]=>by simp [ZA7]
 | x::a,y::b=>by
  unfold ZA7
  by_cases h:ZA8 x y=0
  ·rw [if_pos h,ZDy]
   simp [ZCO.1 h]
  ·rw [if_neg h]
   have:x≠y:=fun e=>h (ZCO.2 e)
   simp [h,this]
theorem ZHE {s:List Vx} {k:Nat} (h0:1≤k) (h:k<s.length):ZAi (s.drop (k-1))=if (s[k-1]'(by omega)).1=s[k].1 then false else ZAi (s.drop k):=by
 obtain ⟨j,rfl⟩:∃ j,k=j+1:=⟨k-1,by omega⟩
 have e:j+1-1=j:=by omega
 simp only [e]
 rw [ZAx (by omega:j<s.length),ZAx h]
 rfl

theorem ZA4:∀ (k:Nat) (s:List Vx),s.length<k->Zw k s=[]
 | 0,_,h=>by omega
 | _+1,[],_=>rfl
 | k+1,v::s,h=>by
  simp only [List.length_cons] at h
  unfold Zw
  rw [ZA4 k s (by omega),ZA4 (k+1) s (by omega)]
  rfl
theorem ZCB:∀ (k:Nat) (s:List Vx),(Zw k s).length≤2 ^ s.length
 | 0,s=>by simp [Zw];exact Nat.one_le_two_pow
 | _+1,[]=>by simp [Zw]
 | k+1,v::s=>by
  have h1:=ZCB k s
  have h2:=ZCB (k+1) s
  unfold Zw
  rw [List.length_append,List.length_map,List.length_cons,Nat.pow_succ]
  omega
theorem ZM6 (k:Nat) (s:List Vx) (i:Nat) (h:i<s.length):Zw (k+1) (s.drop i)=(Zw k (s.drop (i+1))).map (s[i] :: ·)++Zw (k+1) (s.drop (i+1)):=by
 rw [ZAx h];rfl
theorem ZI9 {u v:Vx} {s:List Vx}:Asc (u::v::s)↔ZA8 u v<0/\Asc (v::s):=by
 unfold Asc
 rw [List.pairwise_cons]
 constructor
 ·rintro ⟨h1,h2⟩
  exact ⟨h1 v (by simp),h2⟩
 ·rintro ⟨h1,h2⟩
  refine ⟨fun y hy=>?_,h2⟩
  rw [List.mem_cons] at hy
  rcases hy with rfl|hy
  ·exact h1
  ·exact ZBg h1 ((List.pairwise_cons.1 h2).1 y hy)
theorem ZGD:∀ (s:List Vx) (p:Option Vx),ZNC p s=0↔(∀ v∈s,ZEy v=true)/\Asc (p.toList++s)
 | [],none=>by simp [ZNC,Asc]
 | [],some u=>by simp [ZNC,Asc]
 | v::s,p=>by
  unfold ZNC
  by_cases h1:ZEy v=false
  ·rw [if_pos h1]
   simp [h1]
  ·rw [if_neg h1]
   have h1':ZEy v=true:=by simpa using h1
   cases p with
   | none =>
    simp only [Bool.false_eq_true,if_false]
    rw [ZGD s (some v)]
    simp [h1']
   | some u =>
    by_cases h2:0≤ZA8 u v
    ·simp only [h2,decide_true,if_true]
     have:¬ Asc (u::v::s):=fun h=>by have:=(ZI9.1 h).1;omega
     simp [this]
    ·simp only [h2,decide_false,Bool.false_eq_true,if_false]
     rw [ZGD s (some v)]
     simp [h1',ZI9]
     omega
theorem ZP {s:List Vx}:Z3 s=0↔s.length≠0/\s.length≤8/\(∀ v∈s,ZEy v=true)/\Asc s:=by
 unfold Z3
 by_cases h1:s.length=0
 ·rw [if_pos h1];simp [h1]
 ·rw [if_neg h1]
  by_cases h2:8<s.length
  ·rw [if_pos h2]
   simp
   omega
  ·rw [if_neg h2,ZGD]
   simp only [Option.toList_none,List.nil_append]
   constructor
   ·rintro ⟨h3,h4⟩;exact ⟨h1,by omega,h3,h4⟩
   ·rintro ⟨_,_,h3,h4⟩;exact ⟨h3,h4⟩
theorem ZMM {v:Vx}:ZEy v=true↔0≤v.1/\v.1<8/\0≤v.2/\v.2≤1048576:=by
 unfold ZEy
 simp [and_assoc]

end
section
open Go.RowKit
section
variable {P:Program} {ops:Array Oper} {hp:List HObj} {o:Oper} {fr:List Dat} {d:Dat} {Q:ZAW} {rest:List Oper}
variable {dst:Option Tmp} {ty:TypeId} {ps:String} {af:Array Edge} {g:Option (Nat × Bool)}
variable {t e:TypeId} {n bytes:Nat} {z:Value} {ag:Bool}
theorem ZQ {α:Type} {R:Rel α} {_gR:Good R} {x:Operand} {xs:List Operand} {a:α} {els:List α} (h:OpD fr x (dS R a)) (k:ElsD fr R xs els):ElsD fr R (x::xs) (a::els):=ElsD.cons h k
theorem ZR {α:Type} {R:Rel α} {_gR:Good R}:ElsD fr R [] ([]:List α):=ElsD.nil
theorem ZLA {x y:Operand} (E:ElT P t e n z bytes ag) {α:Type} {R:Rel α} {_gR:Good R} {xs:List α} {j:Int} (hx:OpD fr x (dS (ArrK n R) xs)) (hy:OpD fr y (dI j)) (l:Nat) (hj:j=(l:Int)) (h1:l≤xs.length) :
  SY P ops hp ⟨dst,.slice t x (some y) none none,ty,ps,af,g⟩ fr (dS (ArrK n R) (xs.drop l)):=by
 have:=ZF4 (P:=P) (ops:=ops) (hp:=hp) (dst:=dst) (ty:=ty) (ps:=ps) (af:=af) (g:=g) (_gR:=_gR) E hx (ZBS hy hj) ZF3 h1 (Nat.le_refl _)
 rwa [List.take_of_length_le (by simp)] at this
theorem SY.buildE (E:ElT P t e n z bytes ag) {α:Type} {R:Rel α} {_gR:Good R} {len:Nat} {parts:Array (Nat × Operand)} {els:List α} (hx:ElsD fr R (parts.toList.map Prod.snd) els) (hparts:parts.toList=((parts.toList.map Prod.snd).zipIdx).map (fun p=>(p.2,p.1))) (hl:len=els.length) (hn:0<n) (hs:∀ a,(dS R a).Shape n true) (hsm:els.length*n≤16777216) :
  SY P ops hp ⟨dst,.buildSlice t len parts,ty,ps,af,g⟩ fr (dS (ArrK n R) els):=SY.buildK E hx hparts hl hn hs hsm
end

end
section
open Go.RowKit

theorem ZHQ (x:Vx):Fn Tryz.prog 89 [dS RV x] (dB (ZEy x)):=by
 (refine ZH Tryz.func89 rfl rfl ?_;simp only [Tryz.ntmps89,List.length_cons,List.length_nil,Nat.reduceAdd,Nat.reduceSub,List.replicate_succ,List.replicate_zero,List.cons_append,List.nil_append])
 ((repeat' (first|(apply WL.opN;exact yF;dsimp only [ZA,z0,z1])|refine WL.nil ?_|refine ZC fun Kx hK=>?_|(refine hK _ _ ?_;clear hK)|refine WC.region ?_|(apply ZS;(focus (first|exact wN|(apply SYG.yes;(exact wY);((first|exact ZBy|exact ZVi|exact ZS0|exact ZFO|exact Z8|exact ZFP|exact ZG4|fail);all_goals infer_instance))));dsimp only [ZA,z0,z1])|((first|refine Zl rfl rfl rfl (fun h=>?_) (fun h=>?_)|refine Zk rfl rfl rfl (fun h=>?_) (fun h=>?_)|refine Zj rfl rfl rfl (fun h=>?_) (fun h=>?_)) <;> (first|(exfalso;first|omega|contradiction)|(dsimp only [z0,z1])))|refine WC.ret ?_));all_goals (first|((repeat clear hK);(repeat clear Kx))))
 all_goals ((refine ⟨trivial,_,rfl,?_⟩;refine FinD.b ?_);unfold ZEy;simp [*])
theorem ZTx (x:Int):Fn Tryz.prog 136 [dI x] (dB false):=by
 (refine ZH Tryz.func136 rfl rfl ?_;simp only [Tryz.ntmps136,List.length_cons,List.length_nil,Nat.reduceAdd,Nat.reduceSub,List.replicate_succ,List.replicate_zero,List.cons_append,List.nil_append])
 ((repeat' (first|(apply WL.opN;exact yF;dsimp only [ZA,z0,z1])|refine WL.nil ?_|refine ZC fun Kx hK=>?_|(refine hK _ _ ?_;clear hK)|refine WC.region ?_|(apply WL.opN;(focus ((first|exact ZFc|fail);all_goals infer_instance));dsimp only [ZA,z0,z1])|refine WC.ret ?_));all_goals (first|((repeat clear hK);(repeat clear Kx))))
 all_goals ((refine ⟨trivial,_,rfl,?_⟩;refine FinD.b ?_);simp)
def ZTY (x y:Int):Int:=if x<y then -1 else if y<x then 1 else 0
theorem ZOJ (x y:Int):Fn Tryz.prog 117 [dI x,dI y] (dI (ZTY x y)):=by
 (refine ZH Tryz.func117 rfl rfl ?_;simp only [Tryz.ntmps117,List.length_cons,List.length_nil,Nat.reduceAdd,Nat.reduceSub,List.replicate_succ,List.replicate_zero,List.cons_append,List.nil_append])
 ((repeat' (first|(apply WL.opN;exact yF;dsimp only [ZA,z0,z1])|refine WL.nil ?_|refine ZC fun Kx hK=>?_|(refine hK _ _ ?_;clear hK)|refine WC.region ?_|(apply WL.opN;(focus ((first|(apply SY.call (ZTx _) Tryz.call136;(exact aD))|exact ZBy|exact ZIh|fail);all_goals infer_instance));dsimp only [ZA,z0,z1])|(apply ZK;(exact oD);(with_reducible rfl))|(apply ZE;(exact oD);all_goals (intro h;try exact xD))|refine WC.skip ?_|refine WC.ret ?_|refine ThenD.r ?_));all_goals (first|((repeat clear hK);(repeat clear Kx))))
 all_goals ((refine ⟨trivial,_,rfl,?_⟩;refine FinD.i ?_);unfold ZTY;simp [*])
 all_goals omega
def orI:List Int->Int
 | []=>0
 | x::l=>if x=0 then orI l else x
theorem ZFw {l:List Int} {k:Nat} (h:k<l.length):orI (l.drop k)=if l[k]=0 then orI (l.drop (k+1)) else l[k]:=by
 rw [List.drop_eq_getElem_cons h];rfl
theorem ZT2 (l:List Int):Fn Tryz.prog 116 [dS ZCC l] (dI (orI l)):=by
 (refine ZH Tryz.func116 rfl rfl ?_;simp only [Tryz.ntmps116,List.length_cons,List.length_nil,Nat.reduceAdd,Nat.reduceSub,List.replicate_succ,List.replicate_zero,List.cons_append,List.nil_append])
 (repeat' (first|(apply WL.opN;exact yF;dsimp only [ZA,z0,z1])|refine WL.nil ?_|refine ZC fun Kx hK=>?_|(refine hK _ _ ?_;clear hK)|refine WC.region ?_|(apply WL.opN;(focus ((first|exact ZBq|fail);all_goals infer_instance));dsimp only [ZA,z0,z1])|refine WC.block ?_))
 (first|refine Ze (t:=0) rfl ZFf fun hl0=>?_|refine Ze (t:=0) rfl ZFe fun hl0=>?_);simp only [maxLen] at hl0
 (refine WC.loopU (X:=Nat) (fun k=>[(8,dI (k:Int)),(2,dA),(5,dA),(9,dA),(10,dA),(11,dA),(12,dA),(13,dA),(14,dA),(15,dA),(16,dA)]) (fun k=>[]) (fun k=>l.length-k) (fun k=>k≤l.length/\orI l=orI (l.drop k)) 0 ?start ?frame0 ?objs0 ?round)
 case start=>exact ⟨Nat.zero_le _,rfl⟩
 case frame0=>((try dsimp only [Za,z0,z1]);repeat (first|exact LeF.nil|refine ZF (k:=?_)))
 case objs0=>rfl
 case round =>
  rintro k ⟨h1,h2⟩
  dsimp only [Za,z0,z1]
  ((repeat' (first|(apply WL.opN;exact yF;dsimp only [ZA,z0,z1])|refine WL.nil ?_|refine ZC fun Kx hK=>?_|(refine hK _ _ ?_;clear hK)|(refine Kont.skip ?_;clear hK)|refine WC.region ?_|(apply WL.opN;(focus ((first|exact ZBy|exact ZFc|exact ZCk|exact Zg|fail);all_goals infer_instance));dsimp only [ZA,z0,z1])|(apply ZE;(exact oD);all_goals (intro h;try exact xD))|(apply WC.condN;(exact oD);all_goals (intro h;try exact xD))|refine WC.skip ?_|refine WC.ret ?_|refine WC.exit ?_|refine WC.block ?_|refine ThenD.n ?_|refine ThenD.r ?_|refine InBlockD.r ?_));all_goals (first|((repeat clear hK);(repeat clear Kx))))
  ·(refine ⟨trivial,_,rfl,?_⟩;refine FinD.i ?_)
   rw [h2,ZFw (by omega),if_neg h]
  ·(refine ⟨k+1,?_,by first|omega|(simp only;omega),rfl,?_⟩;rotate_left;((try dsimp only [Za,z0,z1]);repeat (first|exact LeF.nil|refine ZF (k:=?_)));(try dsimp only))
   exact ⟨by omega,by rw [h2,ZFw (by omega),if_pos h]⟩
  ·(refine ⟨trivial,_,rfl,?_⟩;refine FinD.i ?_)
   rw [h2,List.drop_of_length_le (by omega)];rfl
theorem ZOK (x y:Vx):orI [ZTY x.1 y.1,ZTY x.2 y.2]=ZA8 x y:=by
 unfold ZA8 ZTY orI orI orI
 repeat' split
 all_goals first|rfl|omega
theorem ZIM (x y:Vx):Fn Tryz.prog 88 [dS RV x,dS RV y] (dI (ZA8 x y)):=by
 (refine ZH Tryz.func88 rfl rfl ?_;simp only [Tryz.ntmps88,List.length_cons,List.length_nil,Nat.reduceAdd,Nat.reduceSub,List.replicate_succ,List.replicate_zero,List.cons_append,List.nil_append])
 ((repeat' (first|((first|apply WL.opN|apply WD.opN);exact yF;dsimp only [ZA,z0,z1])|refine WL.nil ?_|refine WD.nil ?_|refine ZC fun Kx hK=>?_|(refine hK _ _ ?_;clear hK)|refine WC.region ?_|(apply WC.draw;kernel_rfl;kernel_rfl)|((first|apply WL.opN|apply WD.opN);(focus ((first|(apply SY.call (ZOJ _ _) Tryz.call117;(exact aD))|(apply SY.call (ZT2 [_,_]) Tryz.call116;(exact aD))|exact Z8|exact ZBj|exact ZG4|fail);all_goals infer_instance));dsimp only [ZA,z0,z1])|refine WC.ret ?_));all_goals (first|((repeat clear hK);(repeat clear Kx))))
 all_goals ((refine ⟨trivial,_,rfl,?_⟩;refine FinD.i ?_);exact ZOK _ _)
set_option maxHeartbeats 4000000 in
theorem ZJJ (s:List Vx):Fn Tryz.prog 63 [dS ZI s] (dI (Z3 s)):=by
 (refine ZH Tryz.func63 rfl rfl ?_;simp only [Tryz.ntmps63,List.length_cons,List.length_nil,Nat.reduceAdd,Nat.reduceSub,List.replicate_succ,List.replicate_zero,List.cons_append,List.nil_append])
 ((repeat' (first|((first|apply WL.opN|apply WD.opN);exact yF;dsimp only [ZA,z0,z1])|refine WL.nil ?_|refine ZC fun Kx hK=>?_|(refine hK _ _ ?_;clear hK)|refine WC.region ?_|((first|apply ZS|apply WD.op);(focus (first|exact wN|(apply SYG.yes;(exact wY);((first|exact ZIh|exact ZNA|exact ZBq|fail);all_goals infer_instance))));dsimp only [ZA,z0,z1])|(apply ZE;(exact oD);all_goals (intro h;try exact xD))|refine WC.skip ?_|refine WC.ret ?_|refine WC.block ?_|refine ThenD.r ?_|refine InBlockD.r ?_));all_goals (first|refine WC.id ?_|((repeat clear hK);(repeat clear Kx))))
 ·(refine ⟨trivial,_,rfl,?_⟩;refine FinD.i ?_)
  unfold Z3;rw [if_pos (by omega)]
 ·(refine ⟨trivial,_,rfl,?_⟩;refine FinD.i ?_)
  unfold Z3;rw [if_neg (by omega),if_pos (by omega)]
 ·rename_i h1 h2
  have hs:Z3 s=ZNC none s:=by unfold Z3;rw [if_neg (by omega),if_neg (by omega)]
  (refine WC.loopU (X:=Nat) (fun k=>[(15,dI (k:Int)),(2,dA),(3,dA),(4,dA),(16,dA),(17,dA),(18,dA),(19,dA),(20,dA),(21,dA),(22,dA),(23,dA),(24,dA),(25,dA),(26,dA),(27,dA),(28,dA),(29,dA),(30,dA),(31,dA),(32,dA),(33,dA),(34,dA),(35,dA)]) (fun k=>[]) (fun k=>s.length-k) (fun k=>k≤s.length/\Z3 s=ZNC (s.take k).getLast? (s.drop k)) 0 ?start ?frame0 ?objs0 ?round)
  case start=>exact ⟨Nat.zero_le _,by rw [hs];rfl⟩
  case frame0=>((try dsimp only [Za,z0,z1]);repeat (first|exact LeF.nil|refine ZF (k:=?_)))
  case objs0=>rfl
  case round =>
   rintro k ⟨h3,h4⟩
   dsimp only [Za,z0,z1]
   ((repeat' (first|((first|apply WL.opN|apply WD.opN);exact yF;dsimp only [ZA,z0,z1])|refine WL.nil ?_|refine WD.nil ?_|refine ZC fun Kx hK=>?_|(refine hK _ _ ?_;clear hK)|(refine Kont.skip ?_;clear hK)|refine WC.region ?_|(apply WC.draw;kernel_rfl;kernel_rfl)|(apply WL.alloc;(exact tzV);(first|exact ZN rfl|exact ZW);(intro _;dsimp only [ZA,z0,z1]))|(apply ZG;(exact tD);rfl;(exact oD);(exact hD);dsimp only [ZA,z0,z1])|((first|apply ZS|apply WD.op);(focus (first|exact wN|(apply SYG.yes;(exact wY);((first|(apply SY.call (ZIM _ _) Tryz.call88;(exact aD))|(apply SY.call (ZHQ _) Tryz.call89;(exact aD))|(apply ZDw elV (OpD.t rfl) (OpD.t rfl) (k-1);omega;omega)|exact ZD6|exact ZBy|exact ZIh|exact ZS0|exact ZP5|exact ZCk|exact ZNF|exact ZFO|exact Zg|exact ZFP|fail);all_goals infer_instance))));dsimp only [ZA,z0,z1])|((first|refine Zl rfl rfl rfl (fun h=>?_) (fun h=>?_)|refine Zk rfl rfl rfl (fun h=>?_) (fun h=>?_)|refine Zj rfl rfl rfl (fun h=>?_) (fun h=>?_)|refine ZAS rfl rfl rfl (fun h=>?_) (fun h=>?_)|refine ZAR rfl rfl rfl (fun h=>?_) (fun h=>?_)|refine Z9 rfl rfl rfl (fun h=>?_) (fun h=>?_)) <;> (first|(exfalso;first|omega|contradiction)|(dsimp only [z0,z1])))|(apply ZK;(exact oD);(with_reducible rfl))|(apply ZE;(exact oD);all_goals (intro h;try exact xD))|(apply WC.condNB;(exact oD);all_goals (intro h;try exact xD))|refine WC.skip ?_|refine WC.ret ?_|refine WC.exit ?_|refine WC.block ?_|refine ThenD.n ?_|refine ThenD.r ?_|refine InBlockD.r ?_));all_goals (first|((repeat clear hK);(repeat clear Kx))))
   all_goals try (rw [ZJH s k (by omega)] at h4)
   ·(refine ⟨trivial,_,rfl,?_⟩;refine FinD.i ?_)
    rw [h4,if_pos h]
   ·(refine ⟨trivial,_,rfl,?_⟩;refine FinD.i ?_)
    have h5:ZEy s[k]=true:=by assumption
    rw [h4,if_neg (by simp [h5]),ZEg _ _ (by omega) (by omega),if_pos (by simpa using h)]
   ·(refine ⟨k+1,?_,by first|omega|(simp only;omega),rfl,?_⟩;rotate_left;((try dsimp only [Za,z0,z1]);repeat (first|exact LeF.nil|refine ZF (k:=?_)));(try dsimp only))
    refine ⟨by omega,?_⟩
    have h5:ZEy s[k]=true:=by assumption
    rw [h4,if_neg (by simp [h5]),ZEg _ _ (by omega) (by omega),if_neg (by simpa using h)]
   ·(refine ⟨k+1,?_,by first|omega|(simp only;omega),rfl,?_⟩;rotate_left;((try dsimp only [Za,z0,z1]);repeat (first|exact LeF.nil|refine ZF (k:=?_)));(try dsimp only))
    refine ⟨by omega,?_⟩
    have h5:ZEy s[k]=true:=by assumption
    have h0:(s.take k).getLast?=none:=by
     have:k=0:=by omega
     rw [this];rfl
    rw [h4,if_neg (by simp [h5]),h0]
    rfl
   ·(refine ⟨trivial,_,rfl,?_⟩;refine FinD.i ?_)
    rw [h4,List.drop_of_length_le (by omega)]
    rfl
end
end Go.Proofs.YtekiljakcngcoaaGreatDoor
