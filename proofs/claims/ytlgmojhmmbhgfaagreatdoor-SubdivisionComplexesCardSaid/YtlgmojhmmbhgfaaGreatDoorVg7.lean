/- Part 7: walks by contracts, and plain laws. -/
import Derived.Deep.MidRow
import Derived.Test.YtlgmojhmmbhgfaaGreatDoorVg6
set_option linter.unusedVariables false
set_option linter.unusedSimpArgs false
set_option linter.unusedSectionVars false
set_option maxRecDepth 100000
set_option maxHeartbeats 4000000
namespace Go.Proofs.YtlgmojhmmbhgfaaGreatDoor
section
open Go.RowKit
structure InC (P:Program) (f:FuncId) (ds:List Dat) (hp1:List HObj) (K:Dat->List HObj->Prop):Prop where
 out:∀ hp:List HObj,∃ (fn:Func) (c:Code) (t:Tmp),P.funcs[f]?=some fn/\fn.body=some c/\fn.results=#[.tmp t]/\∀ gh:HObj,gh.blk=none->WC P (finI t K gh hp) c (ds++List.replicate (fn.ntmps-ds.length) (dX undef)) (hp1++gh::hp)
section
variable {P:Program} {ops:Array Oper} {hp:List HObj} {o:Oper} {fr:List Dat} {d:Dat} {Q:ZAL} {rest:List Oper}
variable {dst:Option Tmp} {ty:TypeId} {ps:String} {af:Array Edge} {g:Option (Nat × Bool)}
theorem ZIQ {f:FuncId} {fn:Func} {c:Code} {t:Tmp} {ds:List Dat} {hp1:List HObj} {K:Dat->List HObj->Prop} (hf:P.funcs[f]?=some fn) (hb:fn.body=some c) (hr:fn.results=#[.tmp t])
  (h:∀ (hp:List HObj) (gh:HObj),gh.blk=none->WC P (finI t K gh hp) c (ds++List.replicate (fn.ntmps-ds.length) (dX undef)) (hp1++gh::hp)):InC P f ds hp1 K:=⟨fun hp=>⟨fn,c,t,hf,hb,hr,h hp⟩⟩
theorem ZIb {f:FuncId} {args:Array Operand} {ats:Array TypeId} {ds:List Dat} {hp1:List HObj} {K:Dat->List HObj->Prop} (hF:InC P f ds hp1 K) (he:ZAf P f) (ha:ArgsD fr args.toList ds)
  (hK:∀ d' hp2,K d' hp2->WL P ops Q rest (ZB fr dst d') (hp2++hp)) :
  WL P ops Q (⟨dst,.call { callee:=.value (.func f),args:=args,argTypes:=ats },ty,ps,af,none⟩::rest) fr (hp1++hp):=by
 obtain ⟨fn,c,t,hf,hb,hr,h⟩:=hF.out hp
 exact ZFw hp1 K hf hb hr he ha h hK
theorem ZHP {f:FuncId} {args:Array Operand} {ats:Array TypeId} {ds:List Dat} {o1:HObj} {e:TypeId} {n:Nat} {α:Type} {R:Rel α} {_gR:Good R} {p:List α->Prop} (hF:InC P f ds [o1] fun d' hp2=>∃ v xs,p xs/\d'=dX v/\hp2=[ZV v e n R xs]) (he:ZAf P f) (ha:ArgsD fr args.toList ds)
  (hK:∀ v xs,p xs->WL P ops Q rest (ZB fr dst (dX v)) (ZV v e n R xs::hp)) :
  WL P ops Q (⟨dst,.call { callee:=.value (.func f),args:=args,argTypes:=ats },ty,ps,af,none⟩::rest) fr (o1::hp) :=
 ZIb (hp1:=[o1]) hF he ha fun d' hp2 ⟨v,xs,hp,hd,hh⟩=>by subst hd;subst hh;exact hK v xs hp
theorem ZDX {α:Type} (e:TypeId) (n:Nat) (hn:0<n) (R:Rel α) [Good R] (h:WL P ops Q rest fr (ZV (.slice none 0 0) e n R ([]:List α)::hp)):WL P ops Q rest fr hp:=WL.of fun _ _ _ _ _ hh hf =>
 h.on (hh.push (Ext.refl _) (by simp [ZV,Value.ownBlock]) (OwnK.nil hn)) (hf.mono fun _ _ hd=>Zf (Ext.refl _) (by simp [ZV,Value.ownBlock]) hd)
theorem ZIc {f:FuncId} {args:Array Operand} {ats:Array TypeId} {ds:List Dat} {e:TypeId} {n:Nat} {α:Type} {R:Rel α} {_gR:Good R} {xs:List α} (hn:0<n) (hF:InC P f ds [] fun d' hp2=>∃ v,d'=dX v/\(hp2=[ZV v e n R xs]\/v = .slice none 0 0/\xs=[]/\hp2=[])) (he:ZAf P f) (ha:ArgsD fr args.toList ds)
  (hK:∀ v,WL P ops Q rest (ZB fr dst (dX v)) (ZV v e n R xs::hp)) :
  WL P ops Q (⟨dst,.call { callee:=.value (.func f),args:=args,argTypes:=ats },ty,ps,af,none⟩::rest) fr hp :=
 ZIb (hp1:=[]) hF he ha fun d' hp2 ⟨v,hd,hh⟩=>by
  subst hd
  rcases hh with rfl|⟨rfl,rfl,rfl⟩
  ·exact hK v
  ·exact ZDX e n hn R (hK _)
end
end
section

abbrev Vx:=Int × Int
def ZA0 (a b:Vx):Int:=if a.1<b.1 then -1 else if b.1<a.1 then 1 else if a.2<b.2 then -1 else if b.2<a.2 then 1 else 0
def ZEt (v:Vx):Bool:=decide (0≤v.1) && decide (v.1<8) && decide (0≤v.2) && decide (v.2≤1048576)
def ZAz:List Vx->List Vx->Int
 | [],[]=>0
 | [],_::_=>-1
 | _::_,[]=>1
 | x::a,y::b=>if ZA0 x y=0 then ZAz a b else ZA0 x y
def ZMb:Option Vx->List Vx->Int
 | _,[]=>0
 | p,v::s=>if ZEt v=false then 2 else if (match p with|some u=>decide (0≤ZA0 u v)|none=>false)=true then 14 else ZMb (some v) s
def ZAJ (s:List Vx):Int:=if s.length=0 then 16 else if 8<s.length then 5 else ZMb none s
def ZFQ:List Vx->Vx->List Vx
 | [],v=>[v]
 | u::s,v=>if ZA0 v u<0 then v::u::s else u::ZFQ s v
def ZC5 (s:List Vx) (v:Vx):List Vx:=if v∈s then s else ZFQ s v

theorem ZBf (a b:Vx):(ZA0 a b = -1/\ZA0 b a=1)\/(ZA0 a b=1/\ZA0 b a = -1)\/(ZA0 a b=0/\ZA0 b a=0/\a=b):=by
 obtain ⟨x,y⟩:=a
 obtain ⟨u,v⟩:=b
 simp only [ZA0,Prod.mk.injEq]
 repeat' split
 all_goals omega
theorem ZCR {a b:Vx}:ZA0 a b=0↔a=b:=by
 constructor
 ·intro h
  rcases ZBf a b with h'|h'|h'
  ·omega
  ·omega
  ·exact h'.2.2
 ·rintro rfl
  rcases ZBf a a with h'|h'|h' <;> omega
theorem ZHe (a b:Vx):ZA0 b a = - ZA0 a b:=by
 rcases ZBf a b with h'|h'|h' <;> omega
theorem ZBg {a b c:Vx} (h:ZA0 a b<0) (h':ZA0 b c<0):ZA0 a c<0:=by
 obtain ⟨x,y⟩:=a
 obtain ⟨u,v⟩:=b
 obtain ⟨p,q⟩:=c
 revert h h'
 simp only [ZA0]
 repeat' split
 all_goals omega

def Asc (s:List Vx):Prop:=s.Pairwise fun a b=>ZA0 a b<0

theorem ZDD:∀ {a b:List Vx},Asc a->Asc b->(∀ x,x∈a↔x∈b)->a=b
 | [],[],_,_,_=>rfl
 | [],y::b,_,_,h=>absurd ((h y).2 (by simp)) (by simp)
 | x::a,[],_,_,h=>absurd ((h x).1 (by simp)) (by simp)
 | x::a,y::b,ha,hb,h=>by
  unfold Asc at ha hb
  rw [List.pairwise_cons] at ha hb
  have hxy:x=y:=by
   have h1:=(h x).1 (by simp)
   have h2:=(h y).2 (by simp)
   rw [List.mem_cons] at h1 h2
   rcases h1 with h1|h1
   ·exact h1
   rcases h2 with h2|h2
   ·exact h2.symm
   have h3:=hb.1 x h1
   have h4:=ha.1 y h2
   have:=ZHe x y
   omega
  subst hxy
  congr 1
  refine ZDD ha.2 hb.2 fun z=>?_
  have hz:=h z
  rw [List.mem_cons,List.mem_cons] at hz
  have hne:∀ {l:List Vx},(∀ a∈l,ZA0 x a<0)->z∈l->z≠x:=by
   intro l hl hm he
   subst he
   have:=hl z hm
   rw [ZCR.2 rfl] at this
   omega
  constructor
  ·intro hm
   rcases hz.1 (.inr hm) with h1|h1
   ·exact absurd h1 (hne ha.1 hm)
   ·exact h1
  ·intro hm
   rcases hz.2 (.inr hm) with h1|h1
   ·exact absurd h1 (hne hb.1 hm)
   ·exact h1

theorem ZHx:∀ {s:List Vx} {v x:Vx},x∈ZFQ s v↔x=v\/x∈s
 | [],v,x=>by simp [ZFQ]
 | u::s,v,x=>by
  unfold ZFQ
  split
  ·simp
  ·rw [List.mem_cons,ZHx,List.mem_cons]
   constructor
   ·rintro (h|h|h) <;> simp [h]
   ·rintro (h|h|h) <;> simp [h]
theorem ZLT {s:List Vx} {v x:Vx}:x∈ZC5 s v↔x=v\/x∈s:=by
 unfold ZC5
 split
 ·rename_i h
  constructor
  ·exact fun hx=>.inr hx
  ·rintro (rfl|hx)
   ·exact h
   ·exact hx
 ·exact ZHx
theorem ZKz:∀ {s:List Vx} {v:Vx},Asc s->v∉s->Asc (ZFQ s v)
 | [],v,_,_=>by simp [ZFQ,Asc]
 | u::s,v,hs,hv=>by
  unfold Asc at hs
  have hs':=hs
  rw [List.pairwise_cons] at hs
  unfold ZFQ
  split
  ·rename_i hlt
   unfold Asc
   rw [List.pairwise_cons]
   refine ⟨fun y hy=>?_,hs'⟩
   rw [List.mem_cons] at hy
   rcases hy with rfl|hy
   ·exact hlt
   ·exact ZBg hlt (hs.1 y hy)
  ·rename_i hge
   unfold Asc
   rw [List.pairwise_cons]
   refine ⟨fun y hy=>?_,ZKz hs.2 fun h=>hv (List.mem_cons_of_mem _ h)⟩
   rw [ZHx] at hy
   rcases hy with rfl|hy
   ·have hne:y≠u:=fun h=>hv (by rw [h];simp)
    rcases ZBf u y with h|h|h
    ·omega
    ·omega
    ·exact absurd h.2.2.symm hne
   ·exact hs.1 y hy
theorem ZK0 {s:List Vx} {v:Vx} (hs:Asc s):Asc (ZC5 s v):=by
 unfold ZC5
 split
 ·exact hs
 ·exact ZKz hs (by assumption)

def ZBE (s:List Vx) (l:List Vx):List Vx:=l.foldl ZC5 s
theorem ZCr:∀ {l s:List Vx},Asc s->Asc (ZBE s l)
 | [],_,h=>h
 | _::l,_,h=>ZCr (l:=l) (ZK0 h)
theorem ZBm:∀ {l s:List Vx} {x:Vx},x∈ZBE s l↔x∈s\/x∈l
 | [],s,x=>by simp [ZBE]
 | v::l,s,x=>by
  show x∈ZBE (ZC5 s v) l↔_
  rw [ZBm,ZLT,List.mem_cons]
  constructor
  ·rintro ((h|h)|h) <;> simp [h]
  ·rintro (h|h|h) <;> simp [h]

def ofV (l:List Vx):List Vx × Int:=if l.length=0 then ([],16) else if l.all ZEt=false then ([],2) else if 8<(ZBE [] l).length then ([],5) else (ZBE [] l,0)
def ZCC (a b:List Vx):Bool:=a.all fun x=>decide (x∈b)
def Zg:Nat->List Vx->List (List Vx)
 | 0,_=>[[]]
 | _+1,[]=>[]
 | k+1,v::s=>(Zg k s).map (v :: ·)++Zg (k+1) s
def ZC2 (s:List Vx) (k:Int):List (List Vx) × Int:=if ZAJ s≠0 then ([],ZAJ s) else if k<1\/(s.length:Int)<k then ([],2) else (Zg k.toNat s,0)
def ZGX (a b:List Vx) (p:Bool):List Vx:=a.filter fun x=>decide (x∈b) == p
def Z0:List Vx->Bool
 | []=>true
 | [_]=>true
 | u::v::s=>if u.1=v.1 then false else Z0 (v::s)
def ZET (s:List Vx):Bool × Int:=if ZAJ s≠0 then (false,ZAJ s) else (Z0 s,0)

theorem Zd {α:Type} {l:List α} {k:Nat} (h:k<l.length):l.drop k=l[k]::l.drop (k+1):=List.drop_eq_getElem_cons h
theorem ZP {α:Type} {l:List α} {k:Nat} (h:k<l.length):l.take (k+1)=l.take k++[l[k]]:=List.take_succ_eq_append_getElem h
theorem ZEU (a b:List Vx) (k:Nat):ZAz (a.drop k) (b.drop k)=if h:k<a.length then (if h':k<b.length then (if ZA0 a[k] b[k]=0 then ZAz (a.drop (k+1)) (b.drop (k+1)) else ZA0 a[k] b[k]) else 1) else if k<b.length then -1 else 0:=by
 by_cases h:k<a.length
 ·by_cases h':k<b.length
  ·rw [dif_pos h,dif_pos h',Zd h,Zd h'];rfl
  ·rw [dif_pos h,dif_neg h',Zd h,List.drop_of_length_le (l:=b) (by omega)];rfl
 ·by_cases h':k<b.length
  ·rw [dif_neg h,if_pos h',Zd h',List.drop_of_length_le (l:=a) (by omega)];rfl
  ·rw [dif_neg h,if_neg h',List.drop_of_length_le (l:=b) (by omega),List.drop_of_length_le (l:=a) (by omega)];rfl
theorem ZIo (s:List Vx) (k:Nat) (h:k<s.length):ZMb (s.take k).getLast? (s.drop k)=if ZEt s[k]=false then 2 else if (match (s.take k).getLast? with|some u=>decide (0≤ZA0 u s[k])|none=>false)=true then 14 else ZMb (s.take (k+1)).getLast? (s.drop (k+1)):=by
 have e:(s.take (k+1)).getLast?=some s[k]:=by rw [ZP h,List.getLast?_append];rfl
 rw [Zd h,e]
 rfl
theorem ZEd (s:List Vx) (k:Nat) (h:k<s.length) (h0:0<k):(s.take k).getLast?=some s[k-1]:=by
 obtain ⟨j,rfl⟩:∃ j,k=j+1:=⟨k-1,by omega⟩
 rw [ZP (by omega),List.getLast?_append];rfl

theorem ZF7 {a b:List Vx} {k:Nat} (h:k<a.length) (h':k<b.length) (hc:ZA0 a[k] b[k]=0):ZAz (a.drop k) (b.drop k)=ZAz (a.drop (k+1)) (b.drop (k+1)):=by rw [ZEU,dif_pos h,dif_pos h',if_pos hc]
theorem Z9 {α:Type} {l:List α} {k:Nat} (h:k<l.length) {x:α}:x∈l.take (k+1)↔x∈l.take k\/x=l[k]:=by rw [ZP h,List.mem_append,List.mem_singleton]
theorem ZM6 (s l:List Vx) (k:Nat) (h:k<l.length):ZBE s (l.take (k+1))=ZC5 (ZBE s (l.take k)) l[k]:=by rw [ZP h];unfold ZBE;rw [List.foldl_append];rfl
theorem ZLO:∀ (s:List Vx) (v:Vx),(ZFQ s v).length=s.length+1
 | [],_=>rfl
 | u::s,v=>by
  unfold ZFQ
  split
  ·simp
  ·simp [ZLO s v]
theorem ZRB (s:List Vx) (v:Vx):s.length≤(ZC5 s v).length/\(ZC5 s v).length≤s.length+1:=by
 unfold ZC5
 split
 ·omega
 ·rw [ZLO];omega
theorem ZB0:∀ (l s:List Vx),s.length≤(ZBE s l).length/\(ZBE s l).length≤s.length+l.length
 | [],s=>by simp [ZBE]
 | v::l,s=>by
  have h1:=ZRB s v
  have h2:=ZB0 l (ZC5 s v)
  show _≤(ZBE (ZC5 s v) l).length/\(ZBE (ZC5 s v) l).length≤_
  simp only [List.length_cons]
  omega
theorem ZKw {l:List Vx} {p:Vx->Bool} {k:Nat} (h:k<l.length):(l.take (k+1)).all p=((l.take k).all p && p l[k]):=by rw [ZP h,List.all_append];simp only [List.all_cons,List.all_nil,Bool.and_true]
theorem ZKG:∀ (s:List Vx) (v:Vx) (k:Nat),k≤s.length->(∀ x∈s.take k,¬ ZA0 v x<0)->ZFQ s v=s.take k++ZFQ (s.drop k) v
 | _,_,0,_,_=>rfl
 | [],_,k+1,h,_=>by simp at h
 | u::s,v,k+1,h,hx=>by
  have h1:=hx u (by simp)
  have h2:ZFQ (u::s) v=u::ZFQ s v:=by rw [ZFQ,if_neg h1]
  rw [h2,ZKG s v k (by simpa using h) (fun x hm=>hx x (by simp [hm]))]
  simp

theorem ZBe:∀ {a b:List Vx},ZAz a b=0↔a=b
 | [],[]=>by simp [ZAz]
 | [],_::_=>by simp [ZAz]
 | _::_,[]=>by simp [ZAz]
 | x::a,y::b=>by
  unfold ZAz
  by_cases h:ZA0 x y=0
  ·rw [if_pos h,ZBe]
   simp [ZCR.1 h]
  ·rw [if_neg h]
   have:x≠y:=fun e=>h (ZCR.2 e)
   simp [h,this]
theorem ZDe {s:List Vx} {k:Nat} (h0:1≤k) (h:k<s.length):Z0 (s.drop (k-1))=if (s[k-1]'(by omega)).1=s[k].1 then false else Z0 (s.drop k):=by
 obtain ⟨j,rfl⟩:∃ j,k=j+1:=⟨k-1,by omega⟩
 have e:j+1-1=j:=by omega
 simp only [e]
 rw [Zd (by omega:j<s.length),Zd h]
 rfl

theorem ZBi:∀ (k:Nat) (s:List Vx),s.length<k->Zg k s=[]
 | 0,_,h=>by omega
 | _+1,[],_=>rfl
 | k+1,v::s,h=>by
  simp only [List.length_cons] at h
  unfold Zg
  rw [ZBi k s (by omega),ZBi (k+1) s (by omega)]
  rfl
theorem ZIH:∀ (k:Nat) (s x:List Vx),x∈Zg k s->x.length=k
 | 0,_,x,h=>by simp [Zg] at h;simp [h]
 | _+1,[],x,h=>by simp [Zg] at h
 | k+1,v::s,x,h=>by
  unfold Zg at h
  rw [List.mem_append,List.mem_map] at h
  rcases h with ⟨y,hy,rfl⟩|h
  ·simp [ZIH k s y hy]
  ·exact ZIH (k+1) s x h
theorem ZCG:∀ (k:Nat) (s:List Vx),(Zg k s).length≤2 ^ s.length
 | 0,s=>by simp [Zg];exact Nat.one_le_two_pow
 | _+1,[]=>by simp [Zg]
 | k+1,v::s=>by
  have h1:=ZCG k s
  have h2:=ZCG (k+1) s
  unfold Zg
  rw [List.length_append,List.length_map,List.length_cons,Nat.pow_succ]
  omega
theorem ZHG (k:Nat) (s:List Vx) (i:Nat) (h:i<s.length):Zg (k+1) (s.drop i)=(Zg k (s.drop (i+1))).map (s[i] :: ·)++Zg (k+1) (s.drop (i+1)):=by
 rw [Zd h];rfl
theorem ZIi {u v:Vx} {s:List Vx}:Asc (u::v::s)↔ZA0 u v<0/\Asc (v::s):=by
 unfold Asc
 rw [List.pairwise_cons]
 constructor
 ·rintro ⟨h1,h2⟩
  exact ⟨h1 v (by simp),h2⟩
 ·rintro ⟨h1,h2⟩
  refine ⟨fun y hy=>?_,h2⟩
  rw [List.mem_cons] at hy
  rcases hy with rfl|hy
  ·exact h1
  ·exact ZBg h1 ((List.pairwise_cons.1 h2).1 y hy)
theorem ZF2:∀ (s:List Vx) (p:Option Vx),ZMb p s=0↔(∀ v∈s,ZEt v=true)/\Asc (p.toList++s)
 | [],none=>by simp [ZMb,Asc]
 | [],some u=>by simp [ZMb,Asc]
 | v::s,p=>by
  unfold ZMb
  by_cases h1:ZEt v=false
  ·rw [if_pos h1]
   simp [h1]
  ·rw [if_neg h1]
   have h1':ZEt v=true:=by simpa using h1
   cases p with
   | none =>
    simp only [Bool.false_eq_true,if_false]
    rw [ZF2 s (some v)]
    simp [h1']
   | some u =>
    by_cases h2:0≤ZA0 u v
    ·simp only [h2,decide_true,if_true]
     have:¬ Asc (u::v::s):=fun h=>by have:=(ZIi.1 h).1;omega
     simp [this]
    ·simp only [h2,decide_false,Bool.false_eq_true,if_false]
     rw [ZF2 s (some v)]
     simp [h1',ZIi]
     omega
theorem ZO {s:List Vx}:ZAJ s=0↔s.length≠0/\s.length≤8/\(∀ v∈s,ZEt v=true)/\Asc s:=by
 unfold ZAJ
 by_cases h1:s.length=0
 ·rw [if_pos h1];simp [h1]
 ·rw [if_neg h1]
  by_cases h2:8<s.length
  ·rw [if_pos h2]
   simp
   omega
  ·rw [if_neg h2,ZF2]
   simp only [Option.toList_none,List.nil_append]
   constructor
   ·rintro ⟨h3,h4⟩;exact ⟨h1,by omega,h3,h4⟩
   ·rintro ⟨_,_,h3,h4⟩;exact ⟨h3,h4⟩
theorem ZRD {v:Vx}:ZEt v=true↔0≤v.1/\v.1<8/\0≤v.2/\v.2≤1048576:=by
 unfold ZEt
 simp [and_assoc]

end
section
open Go.RowKit
def ZCK (x:Vx):List Value:=[.int .i64 x.1,.int .i64 x.2]
theorem ZKV {P:Nat->Prop} {w:World} {us:List (List Value)} {xs:List Vx} {v:Value} (hl:us.length=xs.length) (h:∀ k (h:k<us.length) (h':k<xs.length),RV (fun b=>P b/\v.ownBlock≠some b) w (.agg us[k].toArray) xs[k]):us=xs.map ZCK:=by
 apply List.ext_getElem (by simp [hl])
 intro k h1 h2
 have:=h k h1 (by omega)
 have h3:Value.agg us[k].toArray = .agg #[.int .i64 xs[k].1,.int .i64 xs[k].2]:=this
 injection h3 with h3
 rw [List.getElem_map]
 exact List.toArray_inj h3
end
section
open Go.RowKit

def Zo (xs:List Vx):List Value:=(xs.map ZCK).flatten
theorem ZI1:Zo []=[]:=rfl
theorem ZB6 (x:Vx) (l:List Vx):Zo (x::l) = .int .i64 x.1 :: .int .i64 x.2::Zo l:=rfl
theorem ZAP:∀ (l:List Vx),(Zo l).length=l.length*2
 | []=>rfl
 | x::l=>by rw [ZB6];simp only [List.length_cons,ZAP l];omega
theorem ZA1 (a b:List Vx):Zo (a++b)=Zo a++Zo b:=by unfold Zo;rw [List.map_append,List.flatten_append]
theorem ZI2 (l:List Vx):∀ c∈Zo l,c.oneCell'=true:=fun c hc=>by
 unfold Zo at hc
 obtain ⟨u,hu,hc⟩:=List.mem_flatten.1 hc
 obtain ⟨x,_,rfl⟩:=List.mem_map.1 hu
 simp [ZCK] at hc
 rcases hc with rfl|rfl <;> rfl
theorem ZGE {l:List Vx} {k:Nat} (h:k<l.length):(Zo l)[k*2]?=some (.int .i64 l[k].1)/\(Zo l)[k*2+1]?=some (.int .i64 l[k].2):=by
 have e:l=l.take k++l[k]::l.drop (k+1):=by rw [<- List.drop_eq_getElem_cons h,List.take_append_drop]
 have hl:(Zo (l.take k)).length=k*2:=by rw [ZAP,List.length_take];congr 1;omega
 have e2:Zo l=Zo (l.take k)++(.int .i64 l[k].1 :: .int .i64 l[k].2::Zo (l.drop (k+1))):=by
  conv=>lhs;rw [e]
  rw [ZA1,ZB6]
 rw [e2]
 constructor
 ·rw [List.getElem?_append_right (by omega)];simp [hl]
 ·rw [List.getElem?_append_right (by omega)];simp [hl]
def ZGh (w:World) (g cap:Nat) (e:TypeId) (xs:List Vx):Prop :=
 ∃ tl:List Value,w.heap[g]?=some (.cells (Zo xs++tl).toArray e (0,0))/\xs.length≤cap/\cap≤maxLen/\(Zo xs++tl).length=cap*2
abbrev ZRx (g cap:Nat) (xs:List Vx):Value:=.slice (some ⟨g,0,none⟩) xs.length cap
theorem ZHB {e:TypeId} {I:Nat->Prop} {w:World} {g cap:Nat} {xs:List Vx}:OwnK 0 e 2 RV I w (ZRx g cap xs) xs↔ZGh w g cap e xs:=by
 constructor
 ·rintro ⟨us,h1,h2,h0,h3,h4⟩
  have hus:=ZKV h1 h4
  subst hus
  obtain ⟨hfl,hv⟩:=h3
  rcases hv with ⟨hz,_⟩|⟨g',cap',cur,hv,hB,hg,hc1,hc2,hc3,hc4⟩
  ·cases hz
  ·cases hv
   refine ⟨cur.toList.drop (xs.length*2),?_,hc1,hc2,?_⟩
   ·have:Zo xs++cur.toList.drop (xs.length*2)=cur.toList:=by
     unfold Zo;rw [<- hc4,List.take_append_drop]
    rw [this];exact hg
   ·have:Zo xs++cur.toList.drop (xs.length*2)=cur.toList:=by
     unfold Zo;rw [<- hc4,List.take_append_drop]
    rw [this];simpa using hc3
 ·rintro ⟨tl,hg,hc1,hc2,hc3⟩
  refine ⟨xs.map ZCK,by simp,fun u hu=>?_,by decide,⟨?_,.inr ⟨g,cap,_,rfl,Nat.zero_le _,hg,hc1,hc2,by simpa using hc3,?_⟩⟩,fun k h h'=>?_⟩
  ·obtain ⟨y,_,rfl⟩:=List.mem_map.1 hu
   exact ⟨rfl,by simp [ZCK,Value.oneCell']⟩
  ·exact ZAP xs
  ·show (Zo xs++tl).take (xs.length*2)=Zo xs
   rw [<- ZAP xs,List.take_left']
   rfl
  ·show Value.agg _=_
   rw [List.getElem_map]
   rfl
theorem ZAX {g:Nat} {e:TypeId} {fz:Nat × Nat}:∀ (vs M A C:List Value) (w:World),M.length=vs.length->w.heap[g]?=some (.cells (A++M++C).toArray e fz)->(w.setCells g A.length vs).heap[g]?=some (.cells (A++vs++C).toArray e fz)
 | [],M,A,C,w,h,hg=>by
  have:M=[]:=List.eq_nil_of_length_eq_zero (by simpa using h)
  subst this;exact hg
 | v::r,[],A,C,w,h,hg=>by simp at h
 | v::r,m::M,A,C,w,h,hg=>by
  have hg':(w.setCell ⟨g,A.length,none⟩ v).heap[g]?=some (.cells ((A++[v])++M++C).toArray e fz):=by
   simp only [World.setCell,Array.getElem?_modify,if_true,hg,Option.map_some]
   simp
  have:=ZAX r M (A++[v]) C _ (by simpa using h) hg'
  rw [World.setCells]
  have e1:(A++[v]).length=A.length+1:=by simp
  rw [e1] at this
  rw [this];simp
theorem ZJT {w:World} {g cap:Nat} {e:TypeId} {xs:List Vx} (h:ZGh w g cap e xs) (k:Nat) (ys:List Vx) (hk:k+ys.length≤xs.length) :
  ZGh (w.setCells g (k*2) (Zo ys)) g cap e (xs.take k++ys++xs.drop (k+ys.length)):=by
 obtain ⟨tl,hg,hc1,hc2,hc3⟩:=h
 have e1:xs=xs.take k++(xs.drop k).take ys.length++xs.drop (k+ys.length):=by
  rw [List.append_assoc,<- List.drop_drop,List.take_append_drop,List.take_append_drop]
 have hA:(Zo (xs.take k)).length=k*2:=by rw [ZAP,List.length_take];congr 1;omega
 have hM:(Zo ((xs.drop k).take ys.length)).length=(Zo ys).length:=by rw [ZAP,ZAP,List.length_take,List.length_drop];congr 1;omega
 have e2:Zo xs++tl=Zo (xs.take k)++Zo ((xs.drop k).take ys.length)++(Zo (xs.drop (k+ys.length))++tl):=by
  conv=>lhs;rw [e1]
  rw [ZA1,ZA1];simp
 rw [e2] at hg
 have:=ZAX _ _ _ _ w hM hg
 rw [hA] at this
 have hlen:(xs.take k++ys++xs.drop (k+ys.length)).length=xs.length:=by simp;omega
 refine ⟨tl,?_,by omega,hc2,?_⟩
 ·rw [this,ZA1,ZA1];simp
 ·rw [List.length_append,ZAP] at hc3 ⊢
  rw [hlen];exact hc3
theorem ZCj {w:World} {g o:Nat} {vs:List Value}:w.grownBy (w.setCells g o vs) (some g):=by
 refine ⟨World.os_setCells w g o vs,?_,World.output_setCells w g o vs,?_,fun k hk hne=>World.heap_setCells_other w g o vs hk fun e=>hne (by rw [e])⟩
 ·revert o w
  induction vs with
  | nil=>intros;rfl
  | cons v r ih=>intro w o;rw [World.setCells];exact ih
 ·revert o w
  induction vs with
  | nil=>intros;exact Nat.le_refl _
  | cons v r ih =>
   intro w o;rw [World.setCells]
   refine Nat.le_trans ?_ ih
   simp [World.setCell]
theorem ZFj {w:World} {g cap:Nat} {e:TypeId} {xs:List Vx} (h:ZGh w g cap e xs) (j:Nat) (hj:j<xs.length*2):w.cell? ⟨g,j,none⟩=(Zo xs)[j]?/\w.frozen? ⟨g,j,none⟩=false:=by
 obtain ⟨tl,hg,_⟩:=h
 refine ⟨?_,by simp [World.frozen?,hg]⟩
 simp only [World.cell?,hg]
 simp only [Option.isSome_none,Bool.false_eq_true,if_false]
 rw [List.getElem?_toArray,List.getElem?_append_left (by rw [ZAP];exact hj)]
theorem ZCF {w:World} {g cap:Nat} {e:TypeId} {xs:List Vx} (h:ZGh w g cap e xs) (o n:Nat) (hj:o+n≤xs.length*2):w.there g o n:=fun j hjn=>by
 have:=ZFj h (o+j) (by omega)
 refine ⟨?_,this.2⟩
 rw [this.1,List.getElem?_eq_getElem (by rw [ZAP];omega)]
 rfl
section
variable {P:Program} {ops:Array Oper} {hp:List HObj} {o:Oper} {fr:List Dat} {d:Dat} {Q:ZAL} {rest:List Oper}
variable {dst:Option Tmp} {ty:TypeId} {ps:String} {af:Array Edge} {g:Option (Nat × Bool)} {b cap:Nat} {e t T:TypeId} {xs:List Vx} {bytes:Nat} {z:Value} {ag:Bool}
abbrev hV (b N cap:Nat) (e:TypeId) (xs:List Vx):HObj:=ZV (.slice (some ⟨b,0,none⟩) N cap) e 2 RV xs
theorem ZBb {I:Nat->Prop} {w:World} {N:Nat}:(hV b N cap e xs).ok I w↔N=xs.length/\ZGh w b cap e xs:=by
 constructor
 ·intro h
  have hN:N=xs.length:=by
   obtain ⟨us,h1,h2,h0,⟨_,h3⟩,h4⟩:=h
   rcases h3 with ⟨hz,_⟩|⟨g,cap,cur,hv,_⟩
   ·cases hz
   ·cases hv;rfl
  subst hN
  exact ⟨rfl,ZHB.1 h⟩
 ·rintro ⟨rfl,h⟩
  exact ZHB.2 h
theorem ZKk {c:Code} {v:Value} (hne:0<xs.length) (h:∀ b cap,v=ZRx b cap xs->xs.length≤cap->cap≤maxLen->WC P Q c fr (ZV v e 2 RV xs::hp)):WC P Q c fr (ZV v e 2 RV xs::hp):=WC.of fun P0 B w0 w a hh hf=>by
 obtain ⟨us,h1,h2,h0,⟨_,h3⟩,h4⟩:=hh.ok (ZV v e 2 RV xs) (by simp)
 rcases h3 with ⟨_,hz⟩|⟨g,cap,cur,hv,hB,hg,hc1,hc2,_⟩
 ·omega
 ·exact (h g cap hv hc1 hc2).on hh hf
theorem ZFq {x i:Operand} {n m off k:Nat} {j:Int} (E:ElT P t e 2 z bytes ag) (hx:OpD fr x (dX (.slice (some ⟨b,off,none⟩) n m))) (hi:OpD fr i (dI j)) (hj:j=(k:Int)) (hk:k<n) :
  SY P ops hp ⟨dst,.indexAddr t x i,ty,ps,af,g⟩ fr (dX (.pointer (some ⟨b,off+k*2,none⟩))):=SY.val fun {I w a} ho=>by
 have h1:a.eval x=_:=hx.get (by simp [Op.operands]) ho
 have h2:a.eval i=_:=hi.get (by simp [Op.operands]) ho
 refine ⟨_,?_,rfl⟩
 unfold execOp
 simp only [h1,h2,hj,Sem.run_bind,ZBO (w:=w) E b off n m k .i64 hk,Result.andThen_ok,Sem.run_pure]
theorem ZEG {x:Operand} {j k:Nat} (T':TyI P T 2 true) (hx:OpD fr x (dX (.pointer (some ⟨b,j,none⟩)))) {N:Nat} (hm:hV b N cap e xs∈hp) (hj:j=k*2) (hk:k<xs.length) :
  SY P ops hp ⟨dst,.load T x,ty,ps,af,g⟩ fr (dS RV xs[k]):=ZAO fun {P0 B w0 w a} hh ho=>by
 have h1:a.eval x=_:=hx.get (by simp [Op.operands]) ho
 have hrow:=(ZBb.1 (hh.ok _ hm)).2
 subst hj
 have hc:Cells (fun _=>True) w b (k*2) 2 true (.agg (ZCK xs[k]).toArray):=by
  refine ⟨trivial,ZCK xs[k],rfl,by decide,by simp [ZCK,Value.oneCell'],fun i c hc=>?_,rfl⟩
  have hi:i<2:=(List.getElem?_eq_some_iff.1 hc).1
  have hcell:=(ZFj hrow (k*2+i) (by omega)).1
  rw [hcell]
  match i,hi,hc with
  | 0,_,hc=>cases hc;exact (ZGE hk).1
  | 1,_,hc=>cases hc;exact (ZGE hk).2
 refine ⟨_,w,?_,Ext.refl _,rfl⟩
 unfold execOp
 simp only [h1,Sem.run_bind,ZA3 T' hc,Result.andThen_ok,Sem.run_pure]
 rfl
theorem ZDB {o:Oper} {k N:Nat} {ys:List Vx} (hg:o.guard=none) (hk:k+ys.length≤xs.length) (hrun:∀ {I:Nat->Prop} {w:World} {a:Act},Fr I w a fr->ZGh w b cap e xs->∃ out:Next,(out = .skip\/∃ r,out = .value r)/\(execOp a.eval o).run P w = .ok out (w.setCells b (k*2) (Zo ys)))
  (h:WL P ops Q rest (ZB fr o.dst dA) (hV b N cap e (xs.take k++ys++xs.drop (k+ys.length))::hp)):WL P ops Q (o::rest) fr (hV b N cap e xs::hp):=by
 refine WL.of fun P0 B w0 w a hh hf=>?_
 obtain ⟨hN,hrow⟩:=ZBb.1 (hh.ok (hV b N cap e xs) (by simp))
 obtain ⟨out,ho,hr⟩:=hrun hf hrow
 have hgr:w.grownBy (w.setCells b (k*2) (Zo ys)) (hV b N cap e xs).blk:=ZCj
 have hok:(hV b N cap e (xs.take k++ys++xs.drop (k+ys.length))).ok (fun j=>Imm P0 B (hV b N cap e xs::hp) j/\j<w.heap.size) (w.setCells b (k*2) (Zo ys)) :=
  ZBb.2 ⟨by rw [hN];simp;omega,ZJT hrow k ys hk⟩
 refine wpList_plain hg fun K hK=>?_
 unfold Oper.wp
 rw [hr]
 have fin:∀ r:Value,K (a.put o.dst r) (w.setCells b (k*2) (Zo ys)):=fun r=>hK _ _ (h.on (hh.write hgr (.inl rfl) hok) (Fr.put (hf.mono fun _ _ hd=>ZM (o':=hV b N cap e (xs.take k++ys++xs.drop (k+ys.length))) hgr (.inl rfl) hd) (d:=dA) trivial))
 rcases ho with rfl|⟨r,rfl⟩
 ·exact fin undef
 ·exact fin r
theorem ZIe {p:Tmp} {x:Operand} {j k N:Nat} {y:Vx} (T':TyI P T 2 true) (hp0:OpD fr (.tmp p) (dX (.pointer (some ⟨b,j,none⟩)))) (hx:OpD fr x (dS RV y)) (hj:j=k*2) (hk:k<xs.length)
  (h:WL P ops Q rest (ZB fr dst dA) (hV b N cap e (xs.set k y)::hp)):WL P ops Q (⟨dst,.store T (.tmp p) x,ty,ps,af,none⟩::rest) fr (hV b N cap e xs::hp):=by
 refine ZDB (k:=k) (ys:=[y]) rfl (by simp;omega) (fun {I w a} hf hrow=>⟨.skip,.inl rfl,?_⟩) ?_
 ·have h1:a.eval (.tmp p)=_:=hp0.ev hf
  have h2:a.eval x = .agg #[.int .i64 y.1,.int .i64 y.2]:=hx.ev hf
  subst hj
  have:=run_storeVar_mid (P:=P) w b (k*2) T #[.int .i64 y.1,.int .i64 y.2] (ZCF hrow _ _ (by simp;omega)) (by simpa using T'.size) (by simp [Value.oneCell'])
  unfold execOp
  simp only [h1,h2,Instr.storeAt,Instr.sureAddr,Sem.run_bind,Sem.run_pure,Result.andThen_ok,this]
  rfl
 ·have e1:xs.take k++[y]++xs.drop (k+[y].length)=xs.set k y:=by
   rw [List.set_eq_take_append_cons_drop,if_pos hk];simp
  rw [e1];exact h
theorem ZIa {x:Operand} {off n m k N:Nat} (hu:P.underlying t=some (.slice e)) (hz:∀ w,(zeroValue e).run P w = .ok (.agg #[.int .i64 0,.int .i64 0]) w) (hx:OpD fr x (dX (.slice (some ⟨b,off,none⟩) n m))) (hj:off=k*2) (hn:0<n) (hk:k+n=xs.length)
  (h:WL P ops Q rest (ZB fr dst dA) (hV b N cap e (xs.take k++List.replicate n (0,0))::hp)):WL P ops Q (⟨dst,.call { callee:=.builtin .clear,args:=#[x],argTypes:=#[t] },ty,ps,af,none⟩::rest) fr (hV b N cap e xs::hp):=by
 refine ZDB (k:=k) (ys:=List.replicate n (0,0)) rfl (by simp;omega) (fun {I w a} hf hrow=>⟨.value (.tuple #[]),.inr ⟨_,rfl⟩,?_⟩) ?_
 ·have h1:a.eval x=_:=hx.ev hf
  subst hj
  have hzc:(Builtin.zeroCells #[Value.int .i64 0,.int .i64 0] n).toList=Zo (List.replicate n (0,0)):=by
   have e1:Zo (List.replicate n (0,0))=List.replicate (n*2) (.int .i64 0):=by
    clear h hn hk hx h1
    induction n with
    | zero=>rfl
    | succ n ih=>rw [List.replicate_succ,ZB6,ih,Nat.succ_mul,List.replicate_succ,List.replicate_succ]
   rw [e1]
   simp only [Builtin.zeroCells]
   apply List.ext_getElem
   ·simp
   ·intro i h1 h2
    have:i % 2<2:=Nat.mod_lt _ (by decide)
    simp
    rcases (by omega:i % 2=0\/i % 2=1) with h|h <;> simp [h]
  have hst:=run_storeCells_cells (P:=P) b (k*2) (Zo (List.replicate n (0,0))) 0 w (fun j hj=>by
   rw [ZAP,List.length_replicate] at hj
   exact ((ZCF hrow (k*2) (n*2) (by omega)) j hj).1) (fun j hj=>by
   rw [ZAP,List.length_replicate] at hj
   exact ((ZCF hrow (k*2) (n*2) (by omega)) j hj).2) (ZI2 _)
  obtain ⟨m',rfl⟩:∃ m,n=m+1:=⟨n-1,by omega⟩
  unfold execOp
  simp [resolve,invoke,builtin,h1,Builtin.clear_,run_underlying hu,hz,Value.cells,hzc,hst]
 ·have e1:xs.take k++List.replicate n (0,0)++xs.drop (k+(List.replicate n ((0,0):Vx)).length)=xs.take k++List.replicate n (0,0):=by
   rw [List.length_replicate,hk,List.drop_length,List.append_nil]
  rw [e1];exact h
theorem SY.fromO {x y:Operand} {off n m l:Nat} {j:Int} (E:ElT P t e 2 z bytes ag) (hx:OpD fr x (dX (.slice (some ⟨b,off,none⟩) n m))) (hy:OpD fr y (dI j)) (hj:j=(l:Int)) (hl:l<n) (hm:n≤m) :
  SY P ops hp ⟨dst,.slice t x (some y) none none,ty,ps,af,g⟩ fr (dX (.slice (some ⟨b,off+l*2,none⟩) (n-l) (m-l))):=SY.val fun {I w a} ho=>by
 have h1:a.eval x=_:=hx.get (by simp [Op.operands]) ho
 have h2:a.eval y=_:=hy.get (by simp [Op.operands]) ho
 refine ⟨_,?_,rfl⟩
 have hr:=ZDP (w:=w) (ad:=some ⟨b,off,none⟩) (len:=n) (cap:=m) (lo:=some (.int .i64 (l:Int))) (hi:=none) (l:=l) (h:=n) E (.inr ⟨_,rfl⟩) (.inl ⟨rfl,rfl⟩) (by omega) hm
 rw [if_neg (by omega)] at hr
 unfold execOp
 simp only [h1,h2,hj,Option.map_none,Option.map_some,Sem.run_bind,hr,Result.andThen_ok,Sem.run_pure]
 simp [Addr.add_lit]
theorem SY.uptoO {x y:Operand} {off n m l:Nat} {j:Int} (E:ElT P t e 2 z bytes ag) (hx:OpD fr x (dX (.slice (some ⟨b,off,none⟩) n m))) (hy:OpD fr y (dI j)) (hj:j=(l:Int)) (hl:l≤n) (hm:n≤m) (h0:0<m) :
  SY P ops hp ⟨dst,.slice t x none (some y) none,ty,ps,af,g⟩ fr (dX (.slice (some ⟨b,off,none⟩) l m)):=SY.val fun {I w a} ho=>by
 have h1:a.eval x=_:=hx.get (by simp [Op.operands]) ho
 have h2:a.eval y=_:=hy.get (by simp [Op.operands]) ho
 refine ⟨_,?_,rfl⟩
 have hr:=ZDP (w:=w) (ad:=some ⟨b,off,none⟩) (len:=n) (cap:=m) (lo:=none) (hi:=some (.int .i64 (l:Int))) (l:=0) (h:=l) E (.inl ⟨rfl,rfl⟩) (.inr ⟨_,rfl⟩) (by omega) (by omega)
 rw [if_neg (by omega)] at hr
 unfold execOp
 simp only [h1,h2,hj,Option.map_none,Option.map_some,Sem.run_bind,hr,Result.andThen_ok,Sem.run_pure]
 simp [Addr.add_lit]
theorem WC.cutO {c:Code} {N k:Nat} (hk:k≤xs.length) (h:WC P Q c fr (hV b k cap e (xs.take k)::hp)):WC P Q c fr (hV b N cap e xs::hp):=WC.of fun P0 B w0 w a hh hf=>by
 obtain ⟨hN,tl,hg,hc1,hc2,hc3⟩:=ZBb.1 (hh.ok (hV b N cap e xs) (by simp))
 have hgr:w.grownBy w (hV b N cap e xs).blk:=⟨rfl,rfl,rfl,Nat.le_refl _,fun _ _ _=>rfl⟩
 have e1:Zo xs++tl=Zo (xs.take k)++(Zo (xs.drop k)++tl):=by rw [<- List.append_assoc,<- ZA1,List.take_append_drop]
 have hok:(hV b k cap e (xs.take k)).ok (fun j=>Imm P0 B (hV b N cap e xs::hp) j/\j<w.heap.size) w :=
  ZBb.2 ⟨by simp;omega,Zo (xs.drop k)++tl,by rw [<- e1];exact hg,by simp;omega,hc2,by rw [<- e1];exact hc3⟩
 exact h.on (hh.write hgr (.inl rfl) hok) (hf.mono fun _ _ hd=>ZM (o':=hV b k cap e (xs.take k)) hgr (.inl rfl) hd)
end
end
section
open Go.RowKit
theorem ZE9 {ops:Array Oper} {o:Oper} {fr:List Dat} {gi:Nat} {pol:Bool} {t:Tmp} (hg:o.guard=some (gi,pol)) (ht:(ops[gi]?).bind (·.dst)=some t) (hf:fr[t]?=some (dX undef)):WantS ops o fr false:=WantS.mk fun I w a ho=>by
 have h1:a.tmps.getD t undef=undef:=ho.2 t (ZJA hg ht) _ hf
 have hlt:t<a.tmps.size:=by rw [ho.1];exact (List.getElem?_eq_some_iff.1 hf).1
 have h2:a.tmps[t]?=some undef:=by
  rw [Array.getD_eq_getD_getElem?] at h1
  rw [Array.getElem?_eq_getElem hlt] at h1 ⊢
  simpa using h1
 simp [Region.wanted,hg,yielded,ht,h2,undef]
end
end Go.Proofs.YtlgmojhmmbhgfaaGreatDoor
namespace Go.Proofs.YtlgmojhmmbhgfaaGreatDoor.I
section
open Go.RowKit
theorem ZDM {P:Program} {o:Oper} {a:Act} {w:World} {K:Act->World->Prop} {Q:Exit->Act->World->Prop} (h:o.wp P a w K Q):o.wpIn Fence.wide 0 P a w K Q:=by
 refine ⟨fun _ _=>trivial,?_⟩
 show o.uponIn Fence.wide 0 P a K Q ((execOp a.eval o).run P w)
 unfold Oper.wp at h
 revert h
 generalize (execOp a.eval o).run P w=r
 intro h
 unfold Oper.upon at h
 unfold Oper.uponIn
 split at h
 ·exact h
 ·exact h
 ·exact h
 ·exact ⟨fun h=>by simp [Fence.wide] at h,callsIn_wide.2 h⟩
 ·exact ⟨fun h=>by simp [Fence.wide] at h,fun c cs _=>let ⟨v,w2,r,s⟩:=h c cs;⟨v,w2,r,stepsIn_wide.2 s⟩⟩
 ·exact h
 ·exact h.elim
theorem ZAc {P:Program} {ops:Array Oper} {Q:Exit->Act->World->Prop} {rest:List Oper} {o:Oper} {a:Act} {w:World} (hg:o.guard=none)
  (h:∀ K:Act->World->Prop,(∀ a w,wpListIn Fence.wide 0 P ops Q rest a w->K a w)->o.wp P a w K Q):wpListIn Fence.wide 0 P ops Q (o::rest) a w :=
 wpListIn_plain hg fun K hK=>ZDM (h K hK)
end
end Go.Proofs.YtlgmojhmmbhgfaaGreatDoor.I
