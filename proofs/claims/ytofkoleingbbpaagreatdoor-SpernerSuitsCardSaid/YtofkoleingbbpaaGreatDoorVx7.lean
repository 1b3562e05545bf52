/- Part 7: walks by contracts, and plain laws. -/
import Derived.Deep.MidRow
import Derived.Test.YtofkoleingbbpaaGreatDoorVx6
set_option linter.unusedVariables false
set_option linter.unusedSimpArgs false
set_option linter.unusedSectionVars false
set_option maxRecDepth 100000
set_option maxHeartbeats 4000000
namespace Go.Proofs.YtofkoleingbbpaaGreatDoor
section

abbrev Vx:=Int × Int
def ZAK (a b:Vx):Int:=if a.1<b.1 then -1 else if b.1<a.1 then 1 else if a.2<b.2 then -1 else if b.2<a.2 then 1 else 0
def ZDI (v:Vx):Bool:=decide (0≤v.1) && decide (v.1<8) && decide (0≤v.2) && decide (v.2≤1048576)
def ZAX:List Vx->List Vx->Int
 | [],[]=>0
 | [],_::_=>-1
 | _::_,[]=>1
 | x::a,y::b=>if ZAK x y=0 then ZAX a b else ZAK x y
def ZLW:Option Vx->List Vx->Int
 | _,[]=>0
 | p,v::s=>if ZDI v=false then 2 else if (match p with|some u=>decide (0≤ZAK u v)|none=>false)=true then 14 else ZLW (some v) s
def Z5 (s:List Vx):Int:=if s.length=0 then 16 else if 8<s.length then 5 else ZLW none s
def ZFo:List Vx->Vx->List Vx
 | [],v=>[v]
 | u::s,v=>if ZAK v u<0 then v::u::s else u::ZFo s v
def ZIa (s:List Vx) (v:Vx):List Vx:=if v∈s then s else ZFo s v

theorem ZBK (a b:Vx):(ZAK a b = -1/\ZAK b a=1)\/(ZAK a b=1/\ZAK b a = -1)\/(ZAK a b=0/\ZAK b a=0/\a=b):=by
 obtain ⟨x,y⟩:=a
 obtain ⟨u,v⟩:=b
 simp only [ZAK,Prod.mk.injEq]
 repeat' split
 all_goals omega
theorem ZBR {a b:Vx}:ZAK a b=0↔a=b:=by
 constructor
 ·intro h
  rcases ZBK a b with h'|h'|h'
  ·omega
  ·omega
  ·exact h'.2.2
 ·rintro rfl
  rcases ZBK a a with h'|h'|h' <;> omega
theorem ZGo (a b:Vx):ZAK b a = - ZAK a b:=by
 rcases ZBK a b with h'|h'|h' <;> omega
theorem ZAh {a b c:Vx} (h:ZAK a b<0) (h':ZAK b c<0):ZAK a c<0:=by
 obtain ⟨x,y⟩:=a
 obtain ⟨u,v⟩:=b
 obtain ⟨p,q⟩:=c
 revert h h'
 simp only [ZAK]
 repeat' split
 all_goals omega

def Asc (s:List Vx):Prop:=s.Pairwise fun a b=>ZAK a b<0

theorem asc_ext:∀ {a b:List Vx},Asc a->Asc b->(∀ x,x∈a↔x∈b)->a=b
 | [],[],_,_,_=>rfl
 | [],y::b,_,_,h=>absurd ((h y).2 (by simp)) (by simp)
 | x::a,[],_,_,h=>absurd ((h x).1 (by simp)) (by simp)
 | x::a,y::b,ha,hb,h=>by
  unfold Asc at ha hb
  rw [List.pairwise_cons] at ha hb
  have hxy:x=y:=by
   have h1:=(h x).1 (by simp)
   have h2:=(h y).2 (by simp)
   rw [List.mem_cons] at h1 h2
   rcases h1 with h1|h1
   ·exact h1
   rcases h2 with h2|h2
   ·exact h2.symm
   have h3:=hb.1 x h1
   have h4:=ha.1 y h2
   have:=ZGo x y
   omega
  subst hxy
  congr 1
  refine asc_ext ha.2 hb.2 fun z=>?_
  have hz:=h z
  rw [List.mem_cons,List.mem_cons] at hz
  have hne:∀ {l:List Vx},(∀ a∈l,ZAK x a<0)->z∈l->z≠x:=by
   intro l hl hm he
   subst he
   have:=hl z hm
   rw [ZBR.2 rfl] at this
   omega
  constructor
  ·intro hm
   rcases hz.1 (.inr hm) with h1|h1
   ·exact absurd h1 (hne ha.1 hm)
   ·exact h1
  ·intro hm
   rcases hz.2 (.inr hm) with h1|h1
   ·exact absurd h1 (hne hb.1 hm)
   ·exact h1

theorem ZG3:∀ {s:List Vx} {v x:Vx},x∈ZFo s v↔x=v\/x∈s
 | [],v,x=>by simp [ZFo]
 | u::s,v,x=>by
  unfold ZFo
  split
  ·simp
  ·rw [List.mem_cons,ZG3,List.mem_cons]
   constructor
   ·rintro (h|h|h) <;> simp [h]
   ·rintro (h|h|h) <;> simp [h]
theorem ZPZ {s:List Vx} {v x:Vx}:x∈ZIa s v↔x=v\/x∈s:=by
 unfold ZIa
 split
 ·rename_i h
  constructor
  ·exact fun hx=>.inr hx
  ·rintro (rfl|hx)
   ·exact h
   ·exact hx
 ·exact ZG3
theorem ZJl:∀ {s:List Vx} {v:Vx},Asc s->v∉s->Asc (ZFo s v)
 | [],v,_,_=>by simp [ZFo,Asc]
 | u::s,v,hs,hv=>by
  unfold Asc at hs
  have hs':=hs
  rw [List.pairwise_cons] at hs
  unfold ZFo
  split
  ·rename_i hlt
   unfold Asc
   rw [List.pairwise_cons]
   refine ⟨fun y hy=>?_,hs'⟩
   rw [List.mem_cons] at hy
   rcases hy with rfl|hy
   ·exact hlt
   ·exact ZAh hlt (hs.1 y hy)
  ·rename_i hge
   unfold Asc
   rw [List.pairwise_cons]
   refine ⟨fun y hy=>?_,ZJl hs.2 fun h=>hv (List.mem_cons_of_mem _ h)⟩
   rw [ZG3] at hy
   rcases hy with rfl|hy
   ·have hne:y≠u:=fun h=>hv (by rw [h];simp)
    rcases ZBK u y with h|h|h
    ·omega
    ·omega
    ·exact absurd h.2.2.symm hne
   ·exact hs.1 y hy
theorem ZO7 {s:List Vx} {v:Vx} (hs:Asc s):Asc (ZIa s v):=by
 unfold ZIa
 split
 ·exact hs
 ·exact ZJl hs (by assumption)

def ZEb (s:List Vx) (l:List Vx):List Vx:=l.foldl ZIa s
theorem ZGj:∀ {l s:List Vx},Asc s->Asc (ZEb s l)
 | [],_,h=>h
 | _::l,_,h=>ZGj (l:=l) (ZO7 h)
theorem ZEm:∀ {l s:List Vx} {x:Vx},x∈ZEb s l↔x∈s\/x∈l
 | [],s,x=>by simp [ZEb]
 | v::l,s,x=>by
  show x∈ZEb (ZIa s v) l↔_
  rw [ZEm,ZPZ,List.mem_cons]
  constructor
  ·rintro ((h|h)|h) <;> simp [h]
  ·rintro (h|h|h) <;> simp [h]

def ofV (l:List Vx):List Vx × Int:=if l.length=0 then ([],16) else if l.all ZDI=false then ([],2) else if 8<(ZEb [] l).length then ([],5) else (ZEb [] l,0)
def ZAu (a b:List Vx):Bool:=a.all fun x=>decide (x∈b)
def ZX:Nat->List Vx->List (List Vx)
 | 0,_=>[[]]
 | _+1,[]=>[]
 | k+1,v::s=>(ZX k s).map (v :: ·)++ZX (k+1) s
def ZCh (s:List Vx) (k:Int):List (List Vx) × Int:=if Z5 s≠0 then ([],Z5 s) else if k<1\/(s.length:Int)<k then ([],2) else (ZX k.toNat s,0)
def ZFb (a b:List Vx) (p:Bool):List Vx:=a.filter fun x=>decide (x∈b) == p
def ZSZ:List Vx->Bool
 | []=>true
 | [_]=>true
 | u::v::s=>if u.1=v.1 then false else ZSZ (v::s)
theorem ZAV {α:Type} {l:List α} {k:Nat} (h:k<l.length):l.drop k=l[k]::l.drop (k+1):=List.drop_eq_getElem_cons h
theorem Zc {α:Type} {l:List α} {k:Nat} (h:k<l.length):l.take (k+1)=l.take k++[l[k]]:=List.take_succ_eq_append_getElem h
theorem ZDd (a b:List Vx) (k:Nat):ZAX (a.drop k) (b.drop k)=if h:k<a.length then (if h':k<b.length then (if ZAK a[k] b[k]=0 then ZAX (a.drop (k+1)) (b.drop (k+1)) else ZAK a[k] b[k]) else 1) else if k<b.length then -1 else 0:=by
 by_cases h:k<a.length
 ·by_cases h':k<b.length
  ·rw [dif_pos h,dif_pos h',ZAV h,ZAV h'];rfl
  ·rw [dif_pos h,dif_neg h',ZAV h,List.drop_of_length_le (l:=b) (by omega)];rfl
 ·by_cases h':k<b.length
  ·rw [dif_neg h,if_pos h',ZAV h',List.drop_of_length_le (l:=a) (by omega)];rfl
  ·rw [dif_neg h,if_neg h',List.drop_of_length_le (l:=b) (by omega),List.drop_of_length_le (l:=a) (by omega)];rfl
theorem ZH4 (s:List Vx) (k:Nat) (h:k<s.length):ZLW (s.take k).getLast? (s.drop k)=if ZDI s[k]=false then 2 else if (match (s.take k).getLast? with|some u=>decide (0≤ZAK u s[k])|none=>false)=true then 14 else ZLW (s.take (k+1)).getLast? (s.drop (k+1)):=by
 have e:(s.take (k+1)).getLast?=some s[k]:=by rw [Zc h,List.getLast?_append];rfl
 rw [ZAV h,e]
 rfl
theorem ZDj (s:List Vx) (k:Nat) (h:k<s.length) (h0:0<k):(s.take k).getLast?=some s[k-1]:=by
 obtain ⟨j,rfl⟩:∃ j,k=j+1:=⟨k-1,by omega⟩
 rw [Zc (by omega),List.getLast?_append];rfl

theorem ZFA {a b:List Vx} {k:Nat} (h:k<a.length) (h':k<b.length) (hc:ZAK a[k] b[k]=0):ZAX (a.drop k) (b.drop k)=ZAX (a.drop (k+1)) (b.drop (k+1)):=by rw [ZDd,dif_pos h,dif_pos h',if_pos hc]
theorem ZA7 {α:Type} {l:List α} {k:Nat} (h:k<l.length) {x:α}:x∈l.take (k+1)↔x∈l.take k\/x=l[k]:=by rw [Zc h,List.mem_append,List.mem_singleton]
theorem ZMP (s l:List Vx) (k:Nat) (h:k<l.length):ZEb s (l.take (k+1))=ZIa (ZEb s (l.take k)) l[k]:=by rw [Zc h];unfold ZEb;rw [List.foldl_append];rfl
theorem ZJ7:∀ (s:List Vx) (v:Vx),(ZFo s v).length=s.length+1
 | [],_=>rfl
 | u::s,v=>by
  unfold ZFo
  split
  ·simp
  ·simp [ZJ7 s v]
theorem ZPr (s:List Vx) (v:Vx):s.length≤(ZIa s v).length/\(ZIa s v).length≤s.length+1:=by
 unfold ZIa
 split
 ·omega
 ·rw [ZJ7];omega
theorem ZGg:∀ (l s:List Vx),s.length≤(ZEb s l).length/\(ZEb s l).length≤s.length+l.length
 | [],s=>by simp [ZEb]
 | v::l,s=>by
  have h1:=ZPr s v
  have h2:=ZGg l (ZIa s v)
  show _≤(ZEb (ZIa s v) l).length/\(ZEb (ZIa s v) l).length≤_
  simp only [List.length_cons]
  omega
theorem ZJh {l:List Vx} {p:Vx->Bool} {k:Nat} (h:k<l.length):(l.take (k+1)).all p=((l.take k).all p && p l[k]):=by rw [Zc h,List.all_append];simp only [List.all_cons,List.all_nil,Bool.and_true]
theorem ZJE:∀ (s:List Vx) (v:Vx) (k:Nat),k≤s.length->(∀ x∈s.take k,¬ ZAK v x<0)->ZFo s v=s.take k++ZFo (s.drop k) v
 | _,_,0,_,_=>rfl
 | [],_,k+1,h,_=>by simp at h
 | u::s,v,k+1,h,hx=>by
  have h1:=hx u (by simp)
  have h2:ZFo (u::s) v=u::ZFo s v:=by rw [ZFo,if_neg h1]
  rw [h2,ZJE s v k (by simpa using h) (fun x hm=>hx x (by simp [hm]))]
  simp

theorem ZCr:∀ {a b:List Vx},ZAX a b=0↔a=b
 | [],[]=>by simp [ZAX]
 | [],_::_=>by simp [ZAX]
 | _::_,[]=>by simp [ZAX]
 | x::a,y::b=>by
  unfold ZAX
  by_cases h:ZAK x y=0
  ·rw [if_pos h,ZCr]
   simp [ZBR.1 h]
  ·rw [if_neg h]
   have:x≠y:=fun e=>h (ZBR.2 e)
   simp [h,this]
theorem ZBM:∀ (k:Nat) (s:List Vx),s.length<k->ZX k s=[]
 | 0,_,h=>by omega
 | _+1,[],_=>rfl
 | k+1,v::s,h=>by
  simp only [List.length_cons] at h
  unfold ZX
  rw [ZBM k s (by omega),ZBM (k+1) s (by omega)]
  rfl
theorem ZBn:∀ (k:Nat) (s:List Vx),(ZX k s).length≤2 ^ s.length
 | 0,s=>by simp [ZX];exact Nat.one_le_two_pow
 | _+1,[]=>by simp [ZX]
 | k+1,v::s=>by
  have h1:=ZBn k s
  have h2:=ZBn (k+1) s
  unfold ZX
  rw [List.length_append,List.length_map,List.length_cons,Nat.pow_succ]
  omega
theorem ZLQ (k:Nat) (s:List Vx) (i:Nat) (h:i<s.length):ZX (k+1) (s.drop i)=(ZX k (s.drop (i+1))).map (s[i] :: ·)++ZX (k+1) (s.drop (i+1)):=by
 rw [ZAV h];rfl
theorem ZHw {u v:Vx} {s:List Vx}:Asc (u::v::s)↔ZAK u v<0/\Asc (v::s):=by
 unfold Asc
 rw [List.pairwise_cons]
 constructor
 ·rintro ⟨h1,h2⟩
  exact ⟨h1 v (by simp),h2⟩
 ·rintro ⟨h1,h2⟩
  refine ⟨fun y hy=>?_,h2⟩
  rw [List.mem_cons] at hy
  rcases hy with rfl|hy
  ·exact h1
  ·exact ZAh h1 ((List.pairwise_cons.1 h2).1 y hy)
theorem ZE7:∀ (s:List Vx) (p:Option Vx),ZLW p s=0↔(∀ v∈s,ZDI v=true)/\Asc (p.toList++s)
 | [],none=>by simp [ZLW,Asc]
 | [],some u=>by simp [ZLW,Asc]
 | v::s,p=>by
  unfold ZLW
  by_cases h1:ZDI v=false
  ·rw [if_pos h1]
   simp [h1]
  ·rw [if_neg h1]
   have h1':ZDI v=true:=by simpa using h1
   cases p with
   | none =>
    simp only [Bool.false_eq_true,if_false]
    rw [ZE7 s (some v)]
    simp [h1']
   | some u =>
    by_cases h2:0≤ZAK u v
    ·simp only [h2,decide_true,if_true]
     have:¬ Asc (u::v::s):=fun h=>by have:=(ZHw.1 h).1;omega
     simp [this]
    ·simp only [h2,decide_false,Bool.false_eq_true,if_false]
     rw [ZE7 s (some v)]
     simp [h1',ZHw]
     omega
theorem Zf {s:List Vx}:Z5 s=0↔s.length≠0/\s.length≤8/\(∀ v∈s,ZDI v=true)/\Asc s:=by
 unfold Z5
 by_cases h1:s.length=0
 ·rw [if_pos h1];simp [h1]
 ·rw [if_neg h1]
  by_cases h2:8<s.length
  ·rw [if_pos h2]
   simp
   omega
  ·rw [if_neg h2,ZE7]
   simp only [Option.toList_none,List.nil_append]
   constructor
   ·rintro ⟨h3,h4⟩;exact ⟨h1,by omega,h3,h4⟩
   ·rintro ⟨_,_,h3,h4⟩;exact ⟨h3,h4⟩
theorem ZKO {v:Vx}:ZDI v=true↔0≤v.1/\v.1<8/\0≤v.2/\v.2≤1048576:=by
 unfold ZDI
 simp [and_assoc]

end
section
open Go.RowKit
def ZB9 (x:Vx):List Value:=[.int .i64 x.1,.int .i64 x.2]
theorem ZJR {P:Nat->Prop} {w:World} {us:List (List Value)} {xs:List Vx} {v:Value} (hl:us.length=xs.length) (h:∀ k (h:k<us.length) (h':k<xs.length),RV (fun b=>P b/\v.ownBlock≠some b) w (.agg us[k].toArray) xs[k]):us=xs.map ZB9:=by
 apply List.ext_getElem (by simp [hl])
 intro k h1 h2
 have:=h k h1 (by omega)
 have h3:Value.agg us[k].toArray = .agg #[.int .i64 xs[k].1,.int .i64 xs[k].2]:=this
 injection h3 with h3
 rw [List.getElem_map]
 exact List.toArray_inj h3
end
section
open Go.RowKit

def Zg (xs:List Vx):List Value:=(xs.map ZB9).flatten
theorem ZBj:Zg []=[]:=rfl
theorem ZAW (x:Vx) (l:List Vx):Zg (x::l) = .int .i64 x.1 :: .int .i64 x.2::Zg l:=rfl
theorem Zk:∀ (l:List Vx),(Zg l).length=l.length*2
 | []=>rfl
 | x::l=>by rw [ZAW];simp only [List.length_cons,Zk l];omega
theorem ZA5 (a b:List Vx):Zg (a++b)=Zg a++Zg b:=by unfold Zg;rw [List.map_append,List.flatten_append]
theorem ZDf (l:List Vx):∀ c∈Zg l,c.oneCell'=true:=fun c hc=>by
 unfold Zg at hc
 obtain ⟨u,hu,hc⟩:=List.mem_flatten.1 hc
 obtain ⟨x,_,rfl⟩:=List.mem_map.1 hu
 simp [ZB9] at hc
 rcases hc with rfl|rfl <;> rfl
theorem ZFF {l:List Vx} {k:Nat} (h:k<l.length):(Zg l)[k*2]?=some (.int .i64 l[k].1)/\(Zg l)[k*2+1]?=some (.int .i64 l[k].2):=by
 have e:l=l.take k++l[k]::l.drop (k+1):=by rw [<- List.drop_eq_getElem_cons h,List.take_append_drop]
 have hl:(Zg (l.take k)).length=k*2:=by rw [Zk,List.length_take];congr 1;omega
 have e2:Zg l=Zg (l.take k)++(.int .i64 l[k].1 :: .int .i64 l[k].2::Zg (l.drop (k+1))):=by
  conv=>lhs;rw [e]
  rw [ZA5,ZAW]
 rw [e2]
 constructor
 ·rw [List.getElem?_append_right (by omega)];simp [hl]
 ·rw [List.getElem?_append_right (by omega)];simp [hl]
def ZIv (w:World) (g cap:Nat) (e:TypeId) (xs:List Vx):Prop :=
 ∃ tl:List Value,w.heap[g]?=some (.cells (Zg xs++tl).toArray e (0,0))/\xs.length≤cap/\cap≤maxLen/\(Zg xs++tl).length=cap*2
abbrev ZQf (g cap:Nat) (xs:List Vx):Value:=.slice (some ⟨g,0,none⟩) xs.length cap
theorem ZGE {e:TypeId} {I:Nat->Prop} {w:World} {g cap:Nat} {xs:List Vx}:OwnK 0 e 2 RV I w (ZQf g cap xs) xs↔ZIv w g cap e xs:=by
 constructor
 ·rintro ⟨us,h1,h2,h0,h3,h4⟩
  have hus:=ZJR h1 h4
  subst hus
  obtain ⟨hfl,hv⟩:=h3
  rcases hv with ⟨hz,_⟩|⟨g',cap',cur,hv,hB,hg,hc1,hc2,hc3,hc4⟩
  ·cases hz
  ·cases hv
   refine ⟨cur.toList.drop (xs.length*2),?_,hc1,hc2,?_⟩
   ·have:Zg xs++cur.toList.drop (xs.length*2)=cur.toList:=by
     unfold Zg;rw [<- hc4,List.take_append_drop]
    rw [this];exact hg
   ·have:Zg xs++cur.toList.drop (xs.length*2)=cur.toList:=by
     unfold Zg;rw [<- hc4,List.take_append_drop]
    rw [this];simpa using hc3
 ·rintro ⟨tl,hg,hc1,hc2,hc3⟩
  refine ⟨xs.map ZB9,by simp,fun u hu=>?_,by decide,⟨?_,.inr ⟨g,cap,_,rfl,Nat.zero_le _,hg,hc1,hc2,by simpa using hc3,?_⟩⟩,fun k h h'=>?_⟩
  ·obtain ⟨y,_,rfl⟩:=List.mem_map.1 hu
   exact ⟨rfl,by simp [ZB9,Value.oneCell']⟩
  ·exact Zk xs
  ·show (Zg xs++tl).take (xs.length*2)=Zg xs
   rw [<- Zk xs,List.take_left']
   rfl
  ·show Value.agg _=_
   rw [List.getElem_map]
   rfl
theorem ZCF {g:Nat} {e:TypeId} {fz:Nat × Nat}:∀ (vs M A C:List Value) (w:World),M.length=vs.length->w.heap[g]?=some (.cells (A++M++C).toArray e fz)->(w.setCells g A.length vs).heap[g]?=some (.cells (A++vs++C).toArray e fz)
 | [],M,A,C,w,h,hg=>by
  have:M=[]:=List.eq_nil_of_length_eq_zero (by simpa using h)
  subst this;exact hg
 | v::r,[],A,C,w,h,hg=>by simp at h
 | v::r,m::M,A,C,w,h,hg=>by
  have hg':(w.setCell ⟨g,A.length,none⟩ v).heap[g]?=some (.cells ((A++[v])++M++C).toArray e fz):=by
   simp only [World.setCell,Array.getElem?_modify,if_true,hg,Option.map_some]
   simp
  have:=ZCF r M (A++[v]) C _ (by simpa using h) hg'
  rw [World.setCells]
  have e1:(A++[v]).length=A.length+1:=by simp
  rw [e1] at this
  rw [this];simp
theorem ZNn {w:World} {g cap:Nat} {e:TypeId} {xs:List Vx} (h:ZIv w g cap e xs) (k:Nat) (ys:List Vx) (hk:k+ys.length≤xs.length) :
  ZIv (w.setCells g (k*2) (Zg ys)) g cap e (xs.take k++ys++xs.drop (k+ys.length)):=by
 obtain ⟨tl,hg,hc1,hc2,hc3⟩:=h
 have e1:xs=xs.take k++(xs.drop k).take ys.length++xs.drop (k+ys.length):=by
  rw [List.append_assoc,<- List.drop_drop,List.take_append_drop,List.take_append_drop]
 have hA:(Zg (xs.take k)).length=k*2:=by rw [Zk,List.length_take];congr 1;omega
 have hM:(Zg ((xs.drop k).take ys.length)).length=(Zg ys).length:=by rw [Zk,Zk,List.length_take,List.length_drop];congr 1;omega
 have e2:Zg xs++tl=Zg (xs.take k)++Zg ((xs.drop k).take ys.length)++(Zg (xs.drop (k+ys.length))++tl):=by
  conv=>lhs;rw [e1]
  rw [ZA5,ZA5];simp
 rw [e2] at hg
 have:=ZCF _ _ _ _ w hM hg
 rw [hA] at this
 have hlen:(xs.take k++ys++xs.drop (k+ys.length)).length=xs.length:=by simp;omega
 refine ⟨tl,?_,by omega,hc2,?_⟩
 ·rw [this,ZA5,ZA5];simp
 ·rw [List.length_append,Zk] at hc3 ⊢
  rw [hlen];exact hc3
theorem ZNm {w:World} {g o:Nat} {vs:List Value}:w.grownBy (w.setCells g o vs) (some g):=by
 refine ⟨World.os_setCells w g o vs,?_,World.output_setCells w g o vs,?_,fun k hk hne=>World.heap_setCells_other w g o vs hk fun e=>hne (by rw [e])⟩
 ·revert o w
  induction vs with
  | nil=>intros;rfl
  | cons v r ih=>intro w o;rw [World.setCells];exact ih
 ·revert o w
  induction vs with
  | nil=>intros;exact Nat.le_refl _
  | cons v r ih =>
   intro w o;rw [World.setCells]
   refine Nat.le_trans ?_ ih
   simp [World.setCell]
theorem ZHE {w:World} {g cap:Nat} {e:TypeId} {xs:List Vx} (h:ZIv w g cap e xs) (j:Nat) (hj:j<xs.length*2):w.cell? ⟨g,j,none⟩=(Zg xs)[j]?/\w.frozen? ⟨g,j,none⟩=false:=by
 obtain ⟨tl,hg,_⟩:=h
 refine ⟨?_,by simp [World.frozen?,hg]⟩
 simp only [World.cell?,hg]
 simp only [Option.isSome_none,Bool.false_eq_true,if_false]
 rw [List.getElem?_toArray,List.getElem?_append_left (by rw [Zk];exact hj)]
theorem ZFY {w:World} {g cap:Nat} {e:TypeId} {xs:List Vx} (h:ZIv w g cap e xs) (o n:Nat) (hj:o+n≤xs.length*2):w.there g o n:=fun j hjn=>by
 have:=ZHE h (o+j) (by omega)
 refine ⟨?_,this.2⟩
 rw [this.1,List.getElem?_eq_getElem (by rw [Zk];omega)]
 rfl
section
variable {P:Program} {ops:Array Oper} {hp:List HObj} {o:Oper} {fr:List Dat} {d:Dat} {Q:Zu} {rest:List Oper}
variable {dst:Option Tmp} {ty:TypeId} {ps:String} {af:Array Edge} {g:Option (Nat × Bool)} {b cap:Nat} {e t T:TypeId} {xs:List Vx} {bytes:Nat} {z:Value} {ag:Bool}
abbrev hV (b N cap:Nat) (e:TypeId) (xs:List Vx):HObj:=Zm (.slice (some ⟨b,0,none⟩) N cap) e 2 RV xs
theorem ZDL {I:Nat->Prop} {w:World} {N:Nat}:(hV b N cap e xs).ok I w↔N=xs.length/\ZIv w b cap e xs:=by
 constructor
 ·intro h
  have hN:N=xs.length:=by
   obtain ⟨us,h1,h2,h0,⟨_,h3⟩,h4⟩:=h
   rcases h3 with ⟨hz,_⟩|⟨g,cap,cur,hv,_⟩
   ·cases hz
   ·cases hv;rfl
  subst hN
  exact ⟨rfl,ZGE.1 h⟩
 ·rintro ⟨rfl,h⟩
  exact ZGE.2 h
theorem ZOk {c:Code} {v:Value} (hne:0<xs.length) (h:∀ b cap,v=ZQf b cap xs->xs.length≤cap->cap≤maxLen->WC P Q c fr (Zm v e 2 RV xs::hp)):WC P Q c fr (Zm v e 2 RV xs::hp):=WC.of fun P0 B w0 w a hh hf=>by
 obtain ⟨us,h1,h2,h0,⟨_,h3⟩,h4⟩:=hh.ok (Zm v e 2 RV xs) (by simp)
 rcases h3 with ⟨_,hz⟩|⟨g,cap,cur,hv,hB,hg,hc1,hc2,_⟩
 ·omega
 ·exact (h g cap hv hc1 hc2).on hh hf
theorem ZHe {x i:Operand} {n m off k:Nat} {j:Int} (E:ElT P t e 2 z bytes ag) (hx:OpD fr x (dX (.slice (some ⟨b,off,none⟩) n m))) (hi:OpD fr i (dI j)) (hj:j=(k:Int)) (hk:k<n) :
  SY P ops hp ⟨dst,.indexAddr t x i,ty,ps,af,g⟩ fr (dX (.pointer (some ⟨b,off+k*2,none⟩))):=SY.val fun {I w a} ho=>by
 have h1:a.eval x=_:=hx.get (by simp [Op.operands]) ho
 have h2:a.eval i=_:=hi.get (by simp [Op.operands]) ho
 refine ⟨_,?_,rfl⟩
 unfold execOp
 simp only [h1,h2,hj,Sem.run_bind,ZBl (w:=w) E b off n m k .i64 hk,Result.andThen_ok,Sem.run_pure]
theorem ZEh {x:Operand} {j k:Nat} (T':TyI P T 2 true) (hx:OpD fr x (dX (.pointer (some ⟨b,j,none⟩)))) {N:Nat} (hm:hV b N cap e xs∈hp) (hj:j=k*2) (hk:k<xs.length) :
  SY P ops hp ⟨dst,.load T x,ty,ps,af,g⟩ fr (dS RV xs[k]):=ZAL fun {P0 B w0 w a} hh ho=>by
 have h1:a.eval x=_:=hx.get (by simp [Op.operands]) ho
 have hrow:=(ZDL.1 (hh.ok _ hm)).2
 subst hj
 have hc:Cells (fun _=>True) w b (k*2) 2 true (.agg (ZB9 xs[k]).toArray):=by
  refine ⟨trivial,ZB9 xs[k],rfl,by decide,by simp [ZB9,Value.oneCell'],fun i c hc=>?_,rfl⟩
  have hi:i<2:=(List.getElem?_eq_some_iff.1 hc).1
  have hcell:=(ZHE hrow (k*2+i) (by omega)).1
  rw [hcell]
  match i,hi,hc with
  | 0,_,hc=>cases hc;exact (ZFF hk).1
  | 1,_,hc=>cases hc;exact (ZFF hk).2
 refine ⟨_,w,?_,Ext.refl _,rfl⟩
 unfold execOp
 simp only [h1,Sem.run_bind,ZA9 T' hc,Result.andThen_ok,Sem.run_pure]
 rfl
theorem ZHq {o:Oper} {k N:Nat} {ys:List Vx} (hg:o.guard=none) (hk:k+ys.length≤xs.length) (hrun:∀ {I:Nat->Prop} {w:World} {a:Act},Fr I w a fr->ZIv w b cap e xs->∃ out:Next,(out = .skip\/∃ r,out = .value r)/\(execOp a.eval o).run P w = .ok out (w.setCells b (k*2) (Zg ys)))
  (h:WL P ops Q rest (ZB fr o.dst dA) (hV b N cap e (xs.take k++ys++xs.drop (k+ys.length))::hp)):WL P ops Q (o::rest) fr (hV b N cap e xs::hp):=by
 refine WL.of fun P0 B w0 w a hh hf=>?_
 obtain ⟨hN,hrow⟩:=ZDL.1 (hh.ok (hV b N cap e xs) (by simp))
 obtain ⟨out,ho,hr⟩:=hrun hf hrow
 have hgr:w.grownBy (w.setCells b (k*2) (Zg ys)) (hV b N cap e xs).blk:=ZNm
 have hok:(hV b N cap e (xs.take k++ys++xs.drop (k+ys.length))).ok (fun j=>Imm P0 B (hV b N cap e xs::hp) j/\j<w.heap.size) (w.setCells b (k*2) (Zg ys)) :=
  ZDL.2 ⟨by rw [hN];simp;omega,ZNn hrow k ys hk⟩
 refine wpList_plain hg fun K hK=>?_
 unfold Oper.wp
 rw [hr]
 have fin:∀ r:Value,K (a.put o.dst r) (w.setCells b (k*2) (Zg ys)):=fun r=>hK _ _ (h.on (hh.write hgr (.inl rfl) hok) (Fr.put (hf.mono fun _ _ hd=>ZT (o':=hV b N cap e (xs.take k++ys++xs.drop (k+ys.length))) hgr (.inl rfl) hd) (d:=dA) trivial))
 rcases ho with rfl|⟨r,rfl⟩
 ·exact fin undef
 ·exact fin r
theorem ZMI {p:Tmp} {x:Operand} {j k N:Nat} {y:Vx} (T':TyI P T 2 true) (hp0:OpD fr (.tmp p) (dX (.pointer (some ⟨b,j,none⟩)))) (hx:OpD fr x (dS RV y)) (hj:j=k*2) (hk:k<xs.length)
  (h:WL P ops Q rest (ZB fr dst dA) (hV b N cap e (xs.set k y)::hp)):WL P ops Q (⟨dst,.store T (.tmp p) x,ty,ps,af,none⟩::rest) fr (hV b N cap e xs::hp):=by
 refine ZHq (k:=k) (ys:=[y]) rfl (by simp;omega) (fun {I w a} hf hrow=>⟨.skip,.inl rfl,?_⟩) ?_
 ·have h1:a.eval (.tmp p)=_:=hp0.ev hf
  have h2:a.eval x = .agg #[.int .i64 y.1,.int .i64 y.2]:=hx.ev hf
  subst hj
  have:=run_storeVar_mid (P:=P) w b (k*2) T #[.int .i64 y.1,.int .i64 y.2] (ZFY hrow _ _ (by simp;omega)) (by simpa using T'.size) (by simp [Value.oneCell'])
  unfold execOp
  simp only [h1,h2,Instr.storeAt,Instr.sureAddr,Sem.run_bind,Sem.run_pure,Result.andThen_ok,this]
  rfl
 ·have e1:xs.take k++[y]++xs.drop (k+[y].length)=xs.set k y:=by
   rw [List.set_eq_take_append_cons_drop,if_pos hk];simp
  rw [e1];exact h
theorem ZL8 {x:Operand} {off n m k N:Nat} (hu:P.underlying t=some (.slice e)) (hz:∀ w,(zeroValue e).run P w = .ok (.agg #[.int .i64 0,.int .i64 0]) w) (hx:OpD fr x (dX (.slice (some ⟨b,off,none⟩) n m))) (hj:off=k*2) (hn:0<n) (hk:k+n=xs.length)
  (h:WL P ops Q rest (ZB fr dst dA) (hV b N cap e (xs.take k++List.replicate n (0,0))::hp)):WL P ops Q (⟨dst,.call { callee:=.builtin .clear,args:=#[x],argTypes:=#[t] },ty,ps,af,none⟩::rest) fr (hV b N cap e xs::hp):=by
 refine ZHq (k:=k) (ys:=List.replicate n (0,0)) rfl (by simp;omega) (fun {I w a} hf hrow=>⟨.value (.tuple #[]),.inr ⟨_,rfl⟩,?_⟩) ?_
 ·have h1:a.eval x=_:=hx.ev hf
  subst hj
  have hzc:(Builtin.zeroCells #[Value.int .i64 0,.int .i64 0] n).toList=Zg (List.replicate n (0,0)):=by
   have e1:Zg (List.replicate n (0,0))=List.replicate (n*2) (.int .i64 0):=by
    clear h hn hk hx h1
    induction n with
    | zero=>rfl
    | succ n ih=>rw [List.replicate_succ,ZAW,ih,Nat.succ_mul,List.replicate_succ,List.replicate_succ]
   rw [e1]
   simp only [Builtin.zeroCells]
   apply List.ext_getElem
   ·simp
   ·intro i h1 h2
    have:i % 2<2:=Nat.mod_lt _ (by decide)
    simp
    rcases (by omega:i % 2=0\/i % 2=1) with h|h <;> simp [h]
  have hst:=run_storeCells_cells (P:=P) b (k*2) (Zg (List.replicate n (0,0))) 0 w (fun j hj=>by
   rw [Zk,List.length_replicate] at hj
   exact ((ZFY hrow (k*2) (n*2) (by omega)) j hj).1) (fun j hj=>by
   rw [Zk,List.length_replicate] at hj
   exact ((ZFY hrow (k*2) (n*2) (by omega)) j hj).2) (ZDf _)
  obtain ⟨m',rfl⟩:∃ m,n=m+1:=⟨n-1,by omega⟩
  unfold execOp
  simp [resolve,invoke,builtin,h1,Builtin.clear_,run_underlying hu,hz,Value.cells,hzc,hst]
 ·have e1:xs.take k++List.replicate n (0,0)++xs.drop (k+(List.replicate n ((0,0):Vx)).length)=xs.take k++List.replicate n (0,0):=by
   rw [List.length_replicate,hk,List.drop_length,List.append_nil]
  rw [e1];exact h
theorem SY.fromO {x y:Operand} {off n m l:Nat} {j:Int} (E:ElT P t e 2 z bytes ag) (hx:OpD fr x (dX (.slice (some ⟨b,off,none⟩) n m))) (hy:OpD fr y (dI j)) (hj:j=(l:Int)) (hl:l<n) (hm:n≤m) :
  SY P ops hp ⟨dst,.slice t x (some y) none none,ty,ps,af,g⟩ fr (dX (.slice (some ⟨b,off+l*2,none⟩) (n-l) (m-l))):=SY.val fun {I w a} ho=>by
 have h1:a.eval x=_:=hx.get (by simp [Op.operands]) ho
 have h2:a.eval y=_:=hy.get (by simp [Op.operands]) ho
 refine ⟨_,?_,rfl⟩
 have hr:=ZDr (w:=w) (ad:=some ⟨b,off,none⟩) (len:=n) (cap:=m) (lo:=some (.int .i64 (l:Int))) (hi:=none) (l:=l) (h:=n) E (.inr ⟨_,rfl⟩) (.inl ⟨rfl,rfl⟩) (by omega) hm
 rw [if_neg (by omega)] at hr
 unfold execOp
 simp only [h1,h2,hj,Option.map_none,Option.map_some,Sem.run_bind,hr,Result.andThen_ok,Sem.run_pure]
 simp [Addr.add_lit]
theorem SY.uptoO {x y:Operand} {off n m l:Nat} {j:Int} (E:ElT P t e 2 z bytes ag) (hx:OpD fr x (dX (.slice (some ⟨b,off,none⟩) n m))) (hy:OpD fr y (dI j)) (hj:j=(l:Int)) (hl:l≤n) (hm:n≤m) (h0:0<m) :
  SY P ops hp ⟨dst,.slice t x none (some y) none,ty,ps,af,g⟩ fr (dX (.slice (some ⟨b,off,none⟩) l m)):=SY.val fun {I w a} ho=>by
 have h1:a.eval x=_:=hx.get (by simp [Op.operands]) ho
 have h2:a.eval y=_:=hy.get (by simp [Op.operands]) ho
 refine ⟨_,?_,rfl⟩
 have hr:=ZDr (w:=w) (ad:=some ⟨b,off,none⟩) (len:=n) (cap:=m) (lo:=none) (hi:=some (.int .i64 (l:Int))) (l:=0) (h:=l) E (.inl ⟨rfl,rfl⟩) (.inr ⟨_,rfl⟩) (by omega) (by omega)
 rw [if_neg (by omega)] at hr
 unfold execOp
 simp only [h1,h2,hj,Option.map_none,Option.map_some,Sem.run_bind,hr,Result.andThen_ok,Sem.run_pure]
 simp [Addr.add_lit]
end
end
section
open Go.RowKit
theorem ZEK {ops:Array Oper} {o:Oper} {fr:List Dat} {gi:Nat} {pol:Bool} {t:Tmp} (hg:o.guard=some (gi,pol)) (ht:(ops[gi]?).bind (·.dst)=some t) (hf:fr[t]?=some (dX undef)):WantS ops o fr false:=WantS.mk fun I w a ho=>by
 have h1:a.tmps.getD t undef=undef:=ho.2 t (ZIH hg ht) _ hf
 have hlt:t<a.tmps.size:=by rw [ho.1];exact (List.getElem?_eq_some_iff.1 hf).1
 have h2:a.tmps[t]?=some undef:=by
  rw [Array.getD_eq_getD_getElem?] at h1
  rw [Array.getElem?_eq_getElem hlt] at h1 ⊢
  simpa using h1
 simp [Region.wanted,hg,yielded,ht,h2,undef]
end
section
open Go.RowKit
section
variable {P:Program} {ops:Array Oper} {hp:List HObj} {fr:List Dat} {dst:Option Tmp} {ty:TypeId} {ps:String} {af:Array Edge} {g:Option (Nat × Bool)}
theorem ZGR {x:Operand} {A T:TypeId} {u:Value} {n:Int} (hx:OpD fr x (dX u)) (hr:∀ w,(convert A T u).run P w = .ok (.int .i64 n) w) :
  SY P ops hp ⟨dst,.convert A T x,ty,ps,af,g⟩ fr (dI n):=SY.val fun {I w a} ho=>by
 have h1:a.eval x=u:=hx.get (by simp [Op.operands]) ho
 refine ⟨.int .i64 n,?_,rfl⟩
 unfold execOp
 simp only [h1,Sem.run_bind,hr,Result.andThen_ok,Sem.run_pure]
end
end
end Go.Proofs.YtofkoleingbbpaaGreatDoor
namespace Go.Proofs.YtofkoleingbbpaaGreatDoor.I
section
open Go.RowKit
theorem ZDm {P:Program} {o:Oper} {a:Act} {w:World} {K:Act->World->Prop} {Q:Exit->Act->World->Prop} (h:o.wp P a w K Q):o.wpIn Fence.wide 0 P a w K Q:=by
 refine ⟨fun _ _=>trivial,?_⟩
 show o.uponIn Fence.wide 0 P a K Q ((execOp a.eval o).run P w)
 unfold Oper.wp at h
 revert h
 generalize (execOp a.eval o).run P w=r
 intro h
 unfold Oper.upon at h
 unfold Oper.uponIn
 split at h
 ·exact h
 ·exact h
 ·exact h
 ·exact ⟨fun h=>by simp [Fence.wide] at h,callsIn_wide.2 h⟩
 ·exact ⟨fun h=>by simp [Fence.wide] at h,fun c cs _=>let ⟨v,w2,r,s⟩:=h c cs;⟨v,w2,r,stepsIn_wide.2 s⟩⟩
 ·exact h
 ·exact h.elim
theorem ZBC {P:Program} {ops:Array Oper} {Q:Exit->Act->World->Prop} {rest:List Oper} {o:Oper} {a:Act} {w:World} (hg:o.guard=none)
  (h:∀ K:Act->World->Prop,(∀ a w,wpListIn Fence.wide 0 P ops Q rest a w->K a w)->o.wp P a w K Q):wpListIn Fence.wide 0 P ops Q (o::rest) a w :=
 wpListIn_plain hg fun K hK=>ZDm (h K hK)
end
end Go.Proofs.YtofkoleingbbpaaGreatDoor.I
