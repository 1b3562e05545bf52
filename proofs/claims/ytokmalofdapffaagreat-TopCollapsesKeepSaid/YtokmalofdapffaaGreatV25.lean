/- Part 25: walks by contracts, and plain laws. -/
import Derived.Test.YtokmalofdapffaaGreatV24
set_option linter.unusedVariables false
set_option linter.unusedSimpArgs false
set_option linter.unusedSectionVars false
set_option maxRecDepth 100000
set_option maxHeartbeats 4000000
namespace Go.Proofs.YtokmalofdapffaaGreat.L05
section
abbrev rw' (rows:List (List Int)) (k:Nat):List Int:=rows.getD k []
def pivN (rows:List (List Int)) (n:Nat) (c:Int):Option Nat:=(List.range rows.length).find? fun k=>decide (n≤k) && decide (c∈rw' rows k)
def ZCc (rows:List (List Int)) (i j:Nat):List (List Int):=(rows.set i (rw' rows j)).set j (rw' rows i)
def ZB4 (rows:List (List Int)) (n:Nat) (c:Int):List (List Int):=(List.range rows.length).map fun j=>if j≠n/\c∈rw' rows j then plus (rw' rows j) (rw' rows n) else rw' rows j
def ZQe (s:List (List Int) × Nat) (c:Nat):List (List Int) × Nat:=match pivN s.1 s.2 (c:Int) with
 | none=>s
 | some k=>(ZB4 (ZCc s.1 s.2 k) s.2 (c:Int),s.2+1)
def redR (rows:List (List Int)) (C:Nat):List (List Int) × Nat:=(List.range C).foldl ZQe (rows,0)
theorem ZOB (rows:List (List Int)) (C:Nat):redR rows (C+1)=ZQe (redR rows C) C:=by simp [redR,List.range_succ,List.foldl_append]
theorem ZN0 {rows:List (List Int)} {n:Nat} {c:Int} {k:Nat} (h:pivN rows n c=some k):n≤k/\k<rows.length/\c∈rw' rows k:=by
 have h1:=List.find?_some h
 have h2:=List.mem_of_find?_eq_some h
 simp only [Bool.and_eq_true,decide_eq_true_eq] at h1
 exact ⟨h1.1,List.mem_range.1 h2,h1.2⟩
theorem ZNz {rows:List (List Int)} {n:Nat} {c:Int} (h:pivN rows n c=none):∀ k,n≤k->k<rows.length->c∉rw' rows k:=fun k h1 h2 h3=>by
 exact List.find?_eq_none.1 h k (List.mem_range.2 h2) (by rw [decide_eq_true h1,decide_eq_true h3];rfl)
theorem ZI8 {rows:List (List Int)} {k:Nat} (h:k<rows.length):rw' rows k=rows[k]:=by simp [rw',List.getD_eq_getElem?_getD,List.getElem?_eq_getElem h]
theorem ZGe {rows:List (List Int)} {k:Nat} (h:k<rows.length):rw' rows k∈rows:=by rw [ZI8 h];exact List.getElem_mem h
theorem ZIt {rows:List (List Int)} {r:List Int} (h:r∈rows):∃ k,k<rows.length/\rw' rows k=r:=by
 obtain ⟨k,hk,e⟩:=List.getElem_of_mem h
 exact ⟨k,hk,by rw [ZI8 hk,e]⟩
theorem ZLB (rows:List (List Int)) (i j:Nat):(ZCc rows i j).length=rows.length:=by simp [ZCc]
theorem ZIZ (rows:List (List Int)) (n:Nat) (c:Int):(ZB4 rows n c).length=rows.length:=by simp [ZB4]
theorem ZQi {rows:List (List Int)} {i j k:Nat} (hk:k<rows.length):rw' (ZCc rows i j) k=if k=j then rw' rows i else if k=i then rw' rows j else rw' rows k:=by
 rw [ZI8 (by rw [ZLB];exact hk)]
 unfold ZCc
 rw [List.getElem_set]
 by_cases h1:j=k
 ·rw [if_pos h1,if_pos h1.symm]
 ·rw [if_neg h1,if_neg (fun e=>h1 e.symm),List.getElem_set]
  by_cases h2:i=k
  ·rw [if_pos h2,if_pos h2.symm]
  ·rw [if_neg h2,if_neg (fun e=>h2 e.symm),ZI8 hk]
theorem ZM0 {rows:List (List Int)} {n k:Nat} {c:Int} (hk:k<rows.length):rw' (ZB4 rows n c) k=if k≠n/\c∈rw' rows k then plus (rw' rows k) (rw' rows n) else rw' rows k:=by
 rw [ZI8 (by rw [ZIZ];exact hk)]
 unfold ZB4
 rw [List.getElem_map,List.getElem_range]
theorem ZHO {v:List Int} {h:Int} (hv:Asc v) (hm:h∈v) (hl:∀ x∈v,h≤x):v.head?=some h:=by
 cases v with
 | nil=>cases hm
 | cons y v =>
  have h1:=hl y (by simp)
  rcases List.mem_cons.1 hm with e|hm
  ·rw [e];rfl
  ·have:=(List.pairwise_cons.1 hv).1 h hm;omega
theorem ZEg {a b:List Int} (ha:Asc a) (hb:Asc b) {x:Int} (h:x∈plus a b):x∈a\/x∈b:=by
 have:=(ZAN ha hb).1 h
 by_cases h1:x∈a
 ·exact .inl h1
 ·exact .inr (Classical.byContradiction fun q=>this ⟨fun k=>absurd k h1,fun k=>absurd k q⟩)
structure RInv (W:List (List Int)) (c:Nat) (s:List (List Int) × Nat):Prop where
 asc:AllAsc s.1
 le:s.2≤s.1.length
 hd:∀ i,i<s.2->∃ h,(rw' s.1 i).head?=some h/\h<(c:Int)/\∀ j,j<s.1.length->h∈rw' s.1 j->j=i
 ord:∀ i j,i<j->j<s.2->∀ h h',(rw' s.1 i).head?=some h->(rw' s.1 j).head?=some h'->h<h'
 hi:∀ j,s.2≤j->j<s.1.length->∀ x∈rw' s.1 j,(c:Int)≤x
 sp1:∀ r∈s.1,Span W r
 sp2:∀ r∈W,Span s.1 r
theorem RInv.start {W:List (List Int)} (h1:AllAsc W) (h2:∀ r∈W,∀ x∈r,0≤x):RInv W 0 (W,0) where
 asc:=h1
 le:=Nat.zero_le _
 hd:=fun i h=>absurd h (Nat.not_lt_zero i)
 ord:=fun i j _ h=>absurd h (Nat.not_lt_zero j)
 hi:=fun j _ hj x hx=>by have:=h2 _ (ZGe hj) x hx;omega
 sp1:=fun r hr=>Span.one hr
 sp2:=fun r hr=>Span.one hr
theorem RInv.step {W:List (List Int)} (hW:AllAsc W) {c:Nat} {s:List (List Int) × Nat} (h:RInv W c s):RInv W (c+1) (ZQe s c):=by
 obtain ⟨rows,n⟩:=s
 unfold ZQe
 cases hp:pivN rows n (c:Int) with
 | none =>
  have hno:=ZNz hp
  exact ⟨h.asc,h.le,fun i hi=>by obtain ⟨a,a1,a2,a3⟩:=h.hd i hi;exact ⟨a,a1,by omega,a3⟩,h.ord,fun j h1 h2 x hx=>by
   have:=h.hi j h1 h2 x hx
   have:x≠(c:Int):=fun e=>hno j h1 h2 (e ▸ hx)
   omega,h.sp1,h.sp2⟩
 | some k =>
  obtain ⟨hnk,hk,hck⟩:=ZN0 hp
  have hn:n<rows.length:=by omega
  have hasc:∀ j,j<rows.length->Asc (rw' rows j):=fun j hj=>h.asc _ (ZGe hj)
  -- the rows behind the exchange
  have hsl:=ZLB rows n k
  have hs:=fun (j:Nat) (hj:j<rows.length)=>ZQi (i:=n) (j:=k) hj
  have hsn:rw' (ZCc rows n k) n=rw' rows k:=by
   rw [hs n hn]
   by_cases e:n=k
   ·rw [if_pos e,e]
   ·rw [if_neg e,if_pos rfl]
  have hsig:∀ j,j<rows.length->∃ m,m<rows.length/\rw' (ZCc rows n k) j=rw' rows m/\(j<n->m=j)/\(n≤j->n≤m)/\(m<n->m=j):=fun j hj=>by
   rw [hs j hj]
   by_cases e:j=k
   ·exact ⟨n,hn,by rw [if_pos e],by omega,by omega,by omega⟩
   ·rw [if_neg e]
    by_cases e2:j=n
    ·exact ⟨k,hk,by rw [if_pos e2],by omega,by omega,by omega⟩
    ·exact ⟨j,hj,by rw [if_neg e2],by omega,by omega,by omega⟩
  have hcl:=fun (j:Nat) (hj:j<rows.length)=>ZM0 (rows:=ZCc rows n k) (n:=n) (c:=(c:Int)) (k:=j) (by rw [hsl];exact hj)
  rw [hsn] at hcl
  have hlen:(ZB4 (ZCc rows n k) n (c:Int)).length=rows.length:=by rw [ZIZ,hsl]
  obtain ⟨p,hpe⟩:∃ p,rw' rows k=p:=⟨_,rfl⟩
  rw [hpe] at hcl hck
  have hpa:Asc p:=hpe ▸ hasc k hk
  have hpl:∀ x∈p,(c:Int)≤x:=fun x hx=>h.hi k hnk hk x (by simpa only [hpe] using hx)
  have hLn:rw' (ZB4 (ZCc rows n k) n (c:Int)) n=p:=by rw [hcl n hn,if_neg (fun q=>q.1 rfl),hsn,hpe]
  have hLasc:∀ j,j<rows.length->Asc (rw' (ZB4 (ZCc rows n k) n (c:Int)) j):=fun j hj=>by
   obtain ⟨m,m1,m2,_⟩:=hsig j hj
   rw [hcl j hj,m2]
   split
   ·exact Z6 (hasc m m1) hpa
   ·exact hasc m m1
  have hhead:∀ i,i<n->∀ a,(rw' rows i).head?=some a->a<(c:Int)->(rw' (ZB4 (ZCc rows n k) n (c:Int)) i).head?=some a:=fun i hi a ha hac=>by
   obtain ⟨m,m1,m2,m3,_⟩:=hsig i (by omega)
   obtain rfl:m=i:=m3 hi
   rw [hcl m (by omega),m2]
   split
   ·have hnp:a∉p:=fun q=>by have:=hpl a q;omega
    refine ZHO (Z6 (hasc m m1) hpa) ((ZAN (hasc m m1) hpa).2 fun q=>hnp (q.1 (head_mem ha))) fun x hx=>?_
    rcases ZEg (hasc m m1) hpa hx with q|q
    ·exact ZEb (hasc m m1) ha x q
    ·have:=hpl x q;omega
   ·exact ha
  have hcn:∀ j,j<rows.length->j≠n->(c:Int)∉rw' (ZB4 (ZCc rows n k) n (c:Int)) j:=fun j hj hjn=>by
   rw [hcl j hj]
   by_cases hcj:(c:Int)∈rw' (ZCc rows n k) j
   ·rw [if_pos ⟨hjn,hcj⟩]
    obtain ⟨m,m1,m2,_⟩:=hsig j hj
    rw [m2] at hcj ⊢
    rw [ZAN (hasc m m1) hpa]
    exact fun q=>q ⟨fun _=>hck,fun _=>hcj⟩
   ·rw [if_neg (fun q=>hcj q.2)]
    exact hcj
  have hold:∀ r∈rows,Span (ZB4 (ZCc rows n k) n (c:Int)) r:=fun r hr=>by
   obtain ⟨m,m1,rfl⟩:=ZIt hr
   -- where it went
   obtain ⟨j,hj,hjm⟩:∃ j,j<rows.length/\rw' (ZCc rows n k) j=rw' rows m:=by
    by_cases e:m=n
    ·exact ⟨k,hk,by rw [hs k hk,if_pos rfl,e]⟩
    ·by_cases e2:m=k
     ·exact ⟨n,hn,by rw [hsn,e2]⟩
     ·exact ⟨m,m1,by rw [hs m m1,if_neg e2,if_neg e]⟩
   have hLA:AllAsc (ZB4 (ZCc rows n k) n (c:Int)):=fun r hr=>by
    obtain ⟨q,q1,rfl⟩:=ZIt hr
    exact hLasc q (by omega)
   have hj1:Span (ZB4 (ZCc rows n k) n (c:Int)) (rw' (ZB4 (ZCc rows n k) n (c:Int)) j):=Span.one (ZGe (by omega))
   have hj2:Span (ZB4 (ZCc rows n k) n (c:Int)) p:=hLn ▸ Span.one (ZGe (by omega))
   rw [hcl j hj,hjm] at hj1
   split at hj1
   ·have:=Span.plus hLA hj1 hj2
    rw [ZAg (hasc m m1) hpa hpa,ZCa hpa,plus_nil] at this
    exact this
   ·exact hj1
  have hpW:Span W p:=hpe ▸ h.sp1 _ (ZGe hk)
  refine ⟨fun r hr=>?_,by simp only;omega,fun i hi=>?_,fun i j hij hj a a' ha ha'=>?_,fun j h1 h2 x hx=>?_,fun r hr=>?_,fun r hr=>?_⟩
  ·obtain ⟨q,q1,rfl⟩:=ZIt hr
   exact hLasc q (by simp only at q1;omega)
  ·simp only at hi ⊢
   by_cases hin:i=n
   ·subst hin
    refine ⟨(c:Int),by rw [hLn];exact ZHO hpa hck hpl,by omega,fun j hj hm=>?_⟩
    exact Classical.byContradiction fun q=>hcn j (by omega) q hm
   ·have hi:i<n:=by omega
    obtain ⟨a,a1,a2,a3⟩:=h.hd i hi
    simp only at a1 a3
    refine ⟨a,hhead i hi a a1 a2,by omega,fun j hj hm=>?_⟩
    have hj:j<rows.length:=by omega
    have hnp:a∉p:=fun q=>by have:=hpl a q;omega
    obtain ⟨m,m1,m2,_,_,m3⟩:=hsig j hj
    have:a∈rw' rows m:=by
     rw [hcl j hj,m2] at hm
     split at hm
     ·exact (ZEg (hasc m m1) hpa hm).resolve_right hnp
     ·exact hm
    have:=a3 m m1 this
    subst this
    exact (m3 hi).symm
  ·simp only at hj ha ha'
   have hi:i<n:=by omega
   obtain ⟨b,b1,b2,_⟩:=h.hd i hi
   simp only at b1
   have:=hhead i hi b b1 b2
   rw [this] at ha;cases ha
   by_cases hjn:j=n
   ·subst hjn
    rw [hLn,ZHO hpa hck hpl] at ha'
    cases ha';exact b2
   ·have hj:j<n:=by omega
    obtain ⟨b',b1',b2',_⟩:=h.hd j hj
    simp only at b1'
    have:=hhead j hj b' b1' b2'
    rw [this] at ha';cases ha'
    exact h.ord i j hij hj a a' b1 b1'
  ·simp only at h1 h2 hx
   have hj:j<rows.length:=by omega
   have hne:x≠(c:Int):=fun e=>hcn j hj (by omega) (e ▸ hx)
   obtain ⟨m,m1,m2,_,m4,_⟩:=hsig j hj
   have hm:∀ y∈rw' rows m,(c:Int)≤y:=h.hi m (m4 (by omega)) m1
   rw [hcl j hj,m2] at hx
   have:(c:Int)≤x:=by
    split at hx
    ·rcases ZEg (hasc m m1) hpa hx with q|q
     ·exact hm x q
     ·exact hpl x q
    ·exact hm x hx
   omega
  ·obtain ⟨q,q1,rfl⟩:=ZIt hr
   simp only at q1
   have hq:q<rows.length:=by omega
   obtain ⟨m,m1,m2,_⟩:=hsig q hq
   have hm:=h.sp1 _ (ZGe (rows:=rows) m1)
   simp only
   rw [hcl q hq,m2]
   split
   ·exact Span.plus hW hm hpW
   ·exact hm
  ·exact Span.trans (fun r hr=>by
    obtain ⟨q,q1,rfl⟩:=ZIt hr
    exact hLasc q (by omega)) hold (h.sp2 r hr)
theorem RInv.all {W:List (List Int)} (h1:AllAsc W) (h2:∀ r∈W,∀ x∈r,0≤x):∀ C,RInv W C (redR W C)
 | 0=>RInv.start h1 h2
 | C+1=>by rw [ZOB];exact (RInv.all h1 h2 C).step h1
theorem Span.low {W:List (List Int)} (hW:AllAsc W) {C:Int} (hl:∀ r∈W,Low C r) {v:List Int} (h:Span W v):Low C v:=by
 induction h with
 | zero=>intro x hx;cases hx
 | add hr h ih=>exact plus_low (hW _ hr) (h.asc hW) (hl _ hr) ih
def hdI (r:List Int):Int:=r.head?.getD 0
end
section
abbrev Ln:=List Int × List Int
def ZFX (x l:Ln):Ln:=(plus x.1 l.1,plus x.2 l.2)
def ZCC (m:List (Int × Ln)) (c:Int):Option Ln:=(m.find? fun p=>decide (p.1=c)).map (·.2)
def ZEu (m:List (Int × Ln)):Nat->Nat->Ln->Ln
 | 0,_,x=>x
 | f+1,i,x=>match x.1[i]? with
  | none=>x
  | some c=>match ZCC m c with
   | none=>ZEu m f (i+1) x
   | some l=>ZEu m f i (ZFX x l)
def ZGl (m:List (Int × Ln)) (y:Ln) (c:Int):List (Int × Ln):=m.map fun p=>if c∈p.2.1 then (p.1,ZFX p.2 y) else p
def ZGD (C:Nat) (s:List (Int × Ln) × List (List Int)) (p:List Int × Nat):List (Int × Ln) × List (List Int) :=
 let y:=ZEu s.1 (C+1) 0 (p.1,[(p.2:Int)])
 match y.1 with
 | []=>(s.1,s.2++[y.2])
 | c::_=>(ZGl s.1 y c++[(c,y)],s.2)
def echP (rows:List (List Int)) (C:Nat):List (Int × Ln) × List (List Int):=rows.zipIdx.foldl (ZGD C) ([],[])
def ZDs (rows:List (List Int)) (b:List Int) (C:Nat):List (List Int):=rows.zipIdx.map fun p=>wd (C:Int) p.1 (decide ((p.2:Int)∈b))
abbrev Pos (a:List Int):Prop:=∀ x∈a,0≤x
theorem ZFI {a b:List Int} (ha:Asc a) (hb:Asc b) (h1:Pos a) (h2:Pos b):Pos (plus a b):=fun x hx=>(ZEg ha hb hx).elim (h1 x) (h2 x)
theorem ZKz {c:Int}:∀ {t u v:List Int},Asc (t++c::u)->plus (t++c::u) (c::v)=t++plus u v
 | [],u,v,_=>by
  rw [List.nil_append,plus,if_neg (by omega),if_neg (by omega)];rfl
 | y::t,u,v,h=>by
  have h1:=(List.pairwise_cons.1 h).1 c (by simp)
  rw [List.cons_append,plus,if_pos h1,ZKz (List.pairwise_cons.1 h).2];rfl
structure Good05 (C:Nat) (m:List (Int × Ln)):Prop where
 nd:(m.map (·.1)).Nodup
 hd:∀ p∈m,p.2.1.head?=some p.1
 asc:∀ p∈m,Asc p.2.1
 low:∀ p∈m,Low (C:Int) p.2.1
 pos:∀ p∈m,Pos p.2.1
 one:∀ p∈m,∀ q∈m,p.1∈q.2.1->q=p
 frm:∀ p∈m,Asc p.2.2/\Pos p.2.2
theorem lookP_some {m:List (Int × Ln)} {c:Int} {l:Ln} (h:ZCC m c=some l):(c,l)∈m:=by
 unfold ZCC at h
 obtain ⟨p,h1,h2⟩:=Option.map_eq_some_iff.1 h
 have e:p.1=c:=of_decide_eq_true (by simpa using List.find?_some h1)
 have:=List.mem_of_find?_eq_some h1
 rw [<- e,<- h2];exact this
theorem lookP_none {m:List (Int × Ln)} {c:Int} (h:ZCC m c=none):∀ p∈m,p.1≠c:=fun p hp e=>by
 unfold ZCC at h
 have:=List.find?_eq_none.1 (Option.map_eq_none_iff.1 h) p hp
 exact this (decide_eq_true e)
theorem ZFp {m:List (Int × Ln)} (hn:(m.map (·.1)).Nodup) {p:Int × Ln} (hp:p∈m):ZCC m p.1=some p.2:=by
 induction m with
 | nil=>cases hp
 | cons q m ih =>
  rw [List.map_cons,List.nodup_cons] at hn
  unfold ZCC
  rw [List.find?_cons]
  rcases List.mem_cons.1 hp with rfl|hp
  ·rw [decide_eq_true rfl];rfl
  ·have:q.1≠p.1:=fun e=>hn.1 (by rw [e];exact List.mem_map_of_mem hp)
   rw [decide_eq_false this]
   exact ih hn.2 hp
def wdL (b:List Int) (C:Nat) (x:Ln):List Int:=wd (C:Int) x.1 (ZHb x.2 b)
theorem ZJ3 {b:List Int} {C:Nat} {x l:Ln} (h1:Asc x.1) (h2:Asc l.1) (h3:Low (C:Int) x.1) (h4:Low (C:Int) l.1):wdL b C (ZFX x l)=plus (wdL b C x) (wdL b C l):=by
 unfold wdL ZFX
 rw [ZQG,ZSM h1 h2 h3 h4]
structure RedAt (b:List Int) (C:Nat) (m:List (Int × Ln)) (x0:Ln) (f i:Nat) (x:Ln):Prop where
 asc0:Asc (wdL b C x0)
 asc:Asc x.1
 low:Low (C:Int) x.1
 pos:Pos x.1
 frm:Asc x.2/\Pos x.2
 le:i≤x.1.length
 fuel:∀ c,x.1[i]?=some c->(C:Int)<c+f
 no:∀ j,j<i->∀ c,x.1[j]?=some c->ZCC m c=none
 spn:∃ v,Span (m.map fun p=>wdL b C p.2) v/\wdL b C x=plus (wdL b C x0) v
theorem RedAt.start {b:List Int} {C:Nat} {m:List (Int × Ln)} {x:Ln} (h1:Asc x.1) (h2:Low (C:Int) x.1) (h3:Pos x.1) (h4:Asc x.2/\Pos x.2):RedAt b C m x (C+1) 0 x :=
 ⟨ZBq h1 h2,h1,h2,h3,h4,Nat.zero_le _,fun c hc=>by have:=h3 c (List.mem_of_getElem? hc);omega,fun j hj=>absurd hj (Nat.not_lt_zero j),[],Span.zero,(plus_nil _).symm⟩
theorem RedAt.skip {b:List Int} {C:Nat} {m:List (Int × Ln)} {x0 x:Ln} {f i:Nat} (h:RedAt b C m x0 (f+1) i x) {c:Int} (hc:x.1[i]?=some c) (hl:ZCC m c=none):RedAt b C m x0 f (i+1) x :=
 ⟨h.asc0,h.asc,h.low,h.pos,h.frm,(List.getElem?_eq_some_iff.1 hc).1,fun d hd=>by
  have h1:=h.fuel c hc
  obtain ⟨q1,q2⟩:=List.getElem?_eq_some_iff.1 hc
  obtain ⟨q3,q4⟩:=List.getElem?_eq_some_iff.1 hd
  have:=List.pairwise_iff_getElem.1 h.asc i (i+1) q1 q3 (by omega)
  omega,fun j hj d hd=>by
  by_cases e:j=i
  ·subst e;rw [hc] at hd;cases hd;exact hl
  ·exact h.no j (by omega) d hd,h.spn⟩
theorem RedAt.add {b:List Int} {C:Nat} {m:List (Int × Ln)} (G:Good05 C m) {x0 x:Ln} {f i:Nat} (h:RedAt b C m x0 (f+1) i x) {c:Int} (hc:x.1[i]?=some c) {l:Ln} (hl:ZCC m c=some l):RedAt b C m x0 f i (ZFX x l):=by
 have hm:=lookP_some hl
 have hla:=G.asc _ hm
 have hll:=G.low _ hm
 obtain ⟨hlf1,hlf2⟩:=G.frm _ hm
 have hlh:=G.hd _ hm
 simp only at hla hll hlf1 hlf2 hlh
 obtain ⟨q1,q2⟩:=List.getElem?_eq_some_iff.1 hc
 obtain ⟨v,hv⟩:∃ v,l.1=c::v:=by
  cases e:l.1 with
  | nil=>rw [e] at hlh;cases hlh
  | cons y v=>rw [e] at hlh;simp only [List.head?_cons,Option.some.injEq] at hlh;exact ⟨v,by rw [hlh]⟩
 have hx:x.1=x.1.take i++c::x.1.drop (i+1):=by
  rw [<- q2,<- List.drop_eq_getElem_cons q1,List.take_append_drop]
 have e1:(ZFX x l).1=x.1.take i++plus (x.1.drop (i+1)) v:=by
  unfold ZFX
  simp only
  rw [hv]
  conv=>lhs;rw [hx]
  exact ZKz (hx ▸ h.asc)
 have htl:(x.1.take i).length=i:=by rw [List.length_take];omega
 have hdr:∀ d∈plus (x.1.drop (i+1)) v,c<d:=by
  have ha:=h.asc
  rw [hx] at ha
  have ha2:=(List.pairwise_append.1 ha).2.1
  refine ZHe (List.pairwise_cons.1 ha2).1 ?_
  rw [hv] at hla
  exact (List.pairwise_cons.1 hla).1
 obtain ⟨v',s1,s2⟩:=h.spn
 have hB:AllAsc (m.map fun p=>wdL b C p.2):=fun r hr=>by
  obtain ⟨p,hp,rfl⟩:=List.mem_map.1 hr
  exact ZBq (G.asc p hp) (G.low p hp)
 refine ⟨h.asc0,Z6 h.asc hla,plus_low h.asc hla h.low hll,ZFI h.asc hla h.pos (G.pos _ hm),⟨Z6 h.frm.1 hlf1,ZFI h.frm.1 hlf1 h.frm.2 hlf2⟩,by rw [e1,List.length_append,htl];omega,fun d hd=>?_,fun j hj d hd=>?_,?_⟩
 ·have h1:=h.fuel c hc
  rw [e1,List.getElem?_append_right (by omega),htl,Nat.sub_self] at hd
  have:=hdr d (List.mem_of_getElem? hd)
  omega
 ·rw [e1,List.getElem?_append_left (by omega)] at hd
  refine h.no j hj d ?_
  rw [hx,List.getElem?_append_left (by omega)]
  exact hd
 ·have hsl:Span (m.map fun p=>wdL b C p.2) (wdL b C l):=Span.one (List.mem_map.2 ⟨_,hm,rfl⟩)
  have hx0:wdL b C x=plus (wdL b C x0) v':=s2
  refine ⟨plus (wdL b C l) v',Span.plus hB hsl s1,?_⟩
  have w1:Asc (wdL b C x):=ZBq h.asc h.low
  have w2:Asc (wdL b C l):=ZBq hla hll
  have w4:Asc v':=s1.asc hB
  rw [ZJ3 h.asc hla h.low hll]
  rw [hx0,ZAg h.asc0 w4 w2,ZEE w4 w2]
structure RedOut (b:List Int) (C:Nat) (m:List (Int × Ln)) (x0 y:Ln):Prop where
 asc:Asc y.1
 low:Low (C:Int) y.1
 pos:Pos y.1
 frm:Asc y.2/\Pos y.2
 no:∀ c∈y.1,ZCC m c=none
 spn:∃ v,Span (m.map fun p=>wdL b C p.2) v/\wdL b C y=plus (wdL b C x0) v
theorem RedAt.out {b:List Int} {C:Nat} {m:List (Int × Ln)} {x0 x:Ln} {f i:Nat} (h:RedAt b C m x0 f i x) (he:x.1[i]?=none):RedOut b C m x0 x :=
 ⟨h.asc,h.low,h.pos,h.frm,fun c hc=>by
  obtain ⟨j,hj⟩:=List.mem_iff_getElem?.1 hc
  obtain ⟨j1,_⟩:=List.getElem?_eq_some_iff.1 hj
  have:=List.getElem?_eq_none_iff.1 he
  exact h.no j (by omega) c hj,h.spn⟩
theorem redP_out {b:List Int} {C:Nat} {m:List (Int × Ln)} (G:Good05 C m) {x0:Ln}:∀ (f i:Nat) (x:Ln),RedAt b C m x0 f i x->RedOut b C m x0 (ZEu m f i x)
 | 0,i,x,h=>h.out (by
   cases e:x.1[i]? with
   | none=>rfl
   | some c =>
    have h1:=h.fuel c e
    have:=h.low c (List.mem_of_getElem? e)
    omega)
 | f+1,i,x,h=>by
  unfold ZEu
  cases e:x.1[i]? with
  | none=>exact h.out e
  | some c =>
   simp only
   cases hl:ZCC m c with
   | none=>exact redP_out G f (i+1) x (h.skip e hl)
   | some l=>exact redP_out G f i (ZFX x l) (h.add G e hl)
structure PInv (b:List Int) (C:Nat) (rows:List (List Int)) (i:Nat) (s:List (Int × Ln) × List (List Int)):Prop where
 good:Good05 C s.1
 dep:∀ y∈s.2,Asc y/\Pos y
 sp1:∀ p∈s.1,Span ((ZDs rows b C).take i) (wdL b C p.2)
 sp2:∀ y∈s.2,Span ((ZDs rows b C).take i) (wd (C:Int) [] (ZHb y b))
 sp3:∀ r∈(ZDs rows b C).take i,Span ((s.1.map fun p=>wdL b C p.2)++s.2.map fun y=>wd (C:Int) [] (ZHb y b)) r
theorem ZJ1 {m:List (Int × Ln)} {y:Ln} {c:Int} {p:Int × Ln} (h:p∈ZGl m y c):∃ q∈m,p=if c∈q.2.1 then (q.1,ZFX q.2 y) else q:=by
 unfold ZGl at h
 obtain ⟨q,hq,e⟩:=List.mem_map.1 h
 exact ⟨q,hq,e.symm⟩
theorem ZQm (m:List (Int × Ln)) (y:Ln) (c:Int):(ZGl m y c).map (·.1)=m.map (·.1):=by
 unfold ZGl
 rw [List.map_map]
 refine List.map_congr_left fun p _=>?_
 simp only [Function.comp_apply]
 split <;> rfl
theorem Good05.put {C:Nat} {m:List (Int × Ln)} (G:Good05 C m) {y:Ln} {c:Int} (hy1:Asc y.1) (hy2:Low (C:Int) y.1) (hy3:Pos y.1) (hy4:Asc y.2/\Pos y.2) (hno:∀ d∈y.1,ZCC m d=none) (hc:y.1.head?=some c):Good05 C (ZGl m y c++[(c,y)]):=by
 have hcy:=head_mem hc
 have hnk:∀ p∈m,p.1∉y.1:=fun p hp q=>by
  have:=hno p.1 q
  rw [ZFp G.nd hp] at this;cases this
 have hcm:∀ p∈m,p.1≠c:=fun p hp e=>hnk p hp (e ▸ hcy)
 -- what a line becomes
 have key:∀ q∈m,∃ r:Ln,(if c∈q.2.1 then (q.1,ZFX q.2 y) else q)=(q.1,r)/\Asc r.1/\Low (C:Int) r.1/\Pos r.1/\(Asc r.2/\Pos r.2)/\r.1.head?=some q.1/\c∉r.1/\(∀ p∈m,p.1∈r.1->p.1∈q.2.1):=fun q hq=>by
  have ha:=G.asc q hq
  by_cases hcq:c∈q.2.1
  ·rw [if_pos hcq]
   refine ⟨ZFX q.2 y,rfl,Z6 ha hy1,plus_low ha hy1 (G.low q hq) hy2,ZFI ha hy1 (G.pos q hq) hy3,⟨Z6 (G.frm q hq).1 hy4.1,ZFI (G.frm q hq).1 hy4.1 (G.frm q hq).2 hy4.2⟩,?_,?_,?_⟩
   ·have hh:=G.hd q hq
    have hle:=ZEb ha hh c hcq
    refine ZHO (Z6 ha hy1) ((ZAN ha hy1).2 fun k=>hnk q hq (k.1 (head_mem hh))) fun x hx=>?_
    rcases ZEg ha hy1 hx with k|k
    ·exact ZEb ha hh x k
    ·have:=ZEb hy1 hc x k;omega
   ·show c∉plus q.2.1 y.1
    rw [ZAN ha hy1]
    exact fun k=>k ⟨fun _=>hcy,fun _=>hcq⟩
   ·intro p hp k
    exact (ZEg ha hy1 k).resolve_right (hnk p hp)
  ·rw [if_neg hcq]
   exact ⟨q.2,rfl,ha,G.low q hq,G.pos q hq,G.frm q hq,G.hd q hq,hcq,fun p hp k=>k⟩
 have hall:∀ p∈ZGl m y c++[(c,y)],(∃ q∈m,∃ r:Ln,p=(q.1,r)/\Asc r.1/\Low (C:Int) r.1/\Pos r.1/\(Asc r.2/\Pos r.2)/\r.1.head?=some q.1/\c∉r.1/\(∀ p∈m,p.1∈r.1->p.1∈q.2.1)/\p=(if c∈q.2.1 then (q.1,ZFX q.2 y) else q))\/p=(c,y):=fun p hp=>by
  rcases List.mem_append.1 hp with hp|hp
  ·obtain ⟨q,hq,e⟩:=ZJ1 hp
   obtain ⟨r,r0,r1,r2,r3,r4,r5,r6,r7⟩:=key q hq
   exact .inl ⟨q,hq,r,by rw [e,r0],r1,r2,r3,r4,r5,r6,r7,e⟩
  ·exact .inr (List.mem_singleton.1 hp)
 refine ⟨?_,fun p hp=>?_,fun p hp=>?_,fun p hp=>?_,fun p hp=>?_,fun p hp q hq hpq=>?_,fun p hp=>?_⟩
 ·rw [List.map_append,ZQm]
  refine List.nodup_append.2 ⟨G.nd,by simp,fun a ha b hb e=>?_⟩
  simp only [List.map_cons,List.map_nil,List.mem_singleton] at hb
  obtain ⟨p,hp,rfl⟩:=List.mem_map.1 ha
  exact hcm p hp (by rw [e,hb])
 ·rcases hall p hp with ⟨q,hq,r,rfl,r1,r2,r3,r4,r5,r6,r7,_⟩|rfl
  ·exact r5
  ·exact hc
 ·rcases hall p hp with ⟨q,hq,r,rfl,r1,r2,r3,r4,r5,r6,r7,_⟩|rfl
  ·exact r1
  ·exact hy1
 ·rcases hall p hp with ⟨q,hq,r,rfl,r1,r2,r3,r4,r5,r6,r7,_⟩|rfl
  ·exact r2
  ·exact hy2
 ·rcases hall p hp with ⟨q,hq,r,rfl,r1,r2,r3,r4,r5,r6,r7,_⟩|rfl
  ·exact r3
  ·exact hy3
 ·rcases hall p hp with ⟨q1,hq1,r,e1,r1,r2,r3,r4,r5,r6,r7,d1⟩|e1
  ·rcases hall q hq with ⟨q2,hq2,t,e2,t1,t2,t3,t4,t5,t6,t7,d2⟩|e2
   ·have h1:p.1=q1.1:=by rw [e1]
    have h2:q.2=t:=by rw [e2]
    rw [h1,h2] at hpq
    have:=G.one q1 hq1 q2 hq2 (t7 q1 hq1 hpq)
    rw [d1,d2,this]
   ·exfalso
    have h1:p.1=q1.1:=by rw [e1]
    have h2:q.2=y:=by rw [e2]
    rw [h1,h2] at hpq
    exact hnk q1 hq1 hpq
  ·rcases hall q hq with ⟨q2,hq2,t,e2,t1,t2,t3,t4,t5,t6,t7,d2⟩|e2
   ·exfalso
    have h1:p.1=c:=by rw [e1]
    have h2:q.2=t:=by rw [e2]
    rw [h1,h2] at hpq
    exact t6 hpq
   ·rw [e1,e2]
 ·rcases hall p hp with ⟨q,hq,r,rfl,r1,r2,r3,r4,r5,r6,r7,_⟩|rfl
  ·exact r4
  ·exact hy4
theorem ZLF {rows:List (List Int)} {b:List Int} {C i:Nat} (h:i<rows.length):(ZDs rows b C)[i]?=some (wd (C:Int) rows[i] (decide ((i:Int)∈b))):=by
 unfold ZDs
 rw [List.getElem?_map,List.getElem?_zipIdx,List.getElem?_eq_getElem h]
 simp
theorem ZR2 (i:Int) (b:List Int):ZHb [i] b=decide (i∈b):=by
 unfold ZHb
 by_cases h:i∈b <;> simp [h]
theorem PInv.start (b:List Int) (C:Nat) (rows:List (List Int)):PInv b C rows 0 ([],[]) :=
 ⟨⟨List.nodup_nil,(fun p hp=>by cases hp),(fun p hp=>by cases hp),(fun p hp=>by cases hp),(fun p hp=>by cases hp),(fun p hp=>by cases hp),(fun p hp=>by cases hp)⟩,(fun p hp=>by cases hp),(fun p hp=>by cases hp),(fun p hp=>by cases hp),(fun r hr=>by simp at hr)⟩
theorem ZEJ {W:List (List Int)} {i:Nat} {r:List Int} (h:r∈W.take i):r∈W.take (i+1):=by
 rw [List.take_add_one]
 exact List.mem_append_left _ h
theorem PInv.step {b:List Int} {C:Nat} {rows:List (List Int)} (h1:AllAsc rows) (h2:∀ r∈rows,Low (C:Int) r) (h3:∀ r∈rows,Pos r) {i:Nat} (hi:i<rows.length) {s:List (Int × Ln) × List (List Int)} (h:PInv b C rows i s):PInv b C rows (i+1) (ZGD C s (rows[i],i)):=by
 obtain ⟨m,deps⟩:=s
 have hr:=List.getElem_mem hi
 have hwA:AllAsc ((ZDs rows b C).take (i+1)):=fun r hr=>by
  have:=List.mem_of_mem_take hr
  unfold ZDs at this
  obtain ⟨p,hp,rfl⟩:=List.mem_map.1 this
  have hp1:p.1∈rows:=by
   have:=List.mem_zipIdx hp
   rw [this.2.2];exact List.getElem_mem _
  exact ZBq (h1 _ hp1) (h2 _ hp1)
 have hO:=redP_out h.good (C+1) 0 (rows[i],[(i:Int)]) (RedAt.start (b:=b) (C:=C) (m:=m) (x:=(rows[i],[(i:Int)])) (h1 _ hr) (h2 _ hr) (h3 _ hr) ⟨List.pairwise_singleton _ _,fun x hx=>by rw [List.mem_singleton.1 hx];omega⟩)
 have hwx:wdL b C (rows[i],[(i:Int)])=wd (C:Int) rows[i] (decide ((i:Int)∈b)):=by unfold wdL;rw [ZR2]
 have hwi:wdL b C (rows[i],[(i:Int)])∈(ZDs rows b C).take (i+1):=by
  rw [hwx]
  refine List.mem_iff_getElem?.2 ⟨i,?_⟩
  rw [List.getElem?_take,if_pos (by omega)]
  exact ZLF hi
 unfold ZGD
 simp only
 generalize ZEu m (C+1) 0 (rows[i],[(i:Int)])=y at hO
 obtain ⟨v,v1,v2⟩:=hO.spn
 have hLA:AllAsc (m.map fun p=>wdL b C p.2):=fun r hr=>by
  obtain ⟨p,hp,rfl⟩:=List.mem_map.1 hr
  exact ZBq (h.good.asc p hp) (h.good.low p hp)
 have hva:=v1.asc hLA
 have hxa:Asc (wdL b C (rows[i],[(i:Int)])):=ZBq (h1 _ hr) (h2 _ hr)
 have hya:Asc (wdL b C y):=ZBq hO.asc hO.low
 have hvW:Span ((ZDs rows b C).take (i+1)) v:=Span.trans hwA (fun r hr=>by
  obtain ⟨p,hp,rfl⟩:=List.mem_map.1 hr
  exact (h.sp1 p hp).trans hwA fun r hr=>Span.one (ZEJ hr)) v1
 have hyW:Span ((ZDs rows b C).take (i+1)) (wdL b C y):=by rw [v2];exact Span.plus hwA (Span.one hwi) hvW
 have hback:wdL b C (rows[i],[(i:Int)])=plus (wdL b C y) v:=by rw [v2,ZAg hxa hva hva,ZCa hva,plus_nil]
 have hlast:∀ r∈(ZDs rows b C).take (i+1),r∈(ZDs rows b C).take i\/r=wdL b C (rows[i],[(i:Int)]):=fun r hr=>by
  rw [List.take_add_one,ZLF hi] at hr
  rcases List.mem_append.1 hr with hr|hr
  ·exact .inl hr
  ·simp only [Option.toList_some,List.mem_singleton] at hr
   exact .inr (by rw [hwx,hr])
 have hdA:∀ (l:List (List Int)),AllAsc (l.map fun y=>wd (C:Int) [] (ZHb y b)):=fun l r hr=>by
  obtain ⟨p,hp,rfl⟩:=List.mem_map.1 hr
  exact ZBq List.Pairwise.nil (fun x hx=>by cases hx)
 cases hy:y.1 with
 | nil =>
  simp only
  have hyw:wdL b C y=wd (C:Int) [] (ZHb y.2 b):=by unfold wdL;rw [hy]
  have hall:AllAsc ((m.map fun p=>wdL b C p.2)++(deps++[y.2]).map fun y=>wd (C:Int) [] (ZHb y b)):=fun r hr=>by
   rcases List.mem_append.1 hr with hr|hr
   ·exact hLA r hr
   ·exact hdA _ r hr
  refine ⟨h.good,fun z hz=>?_,fun p hp=>(h.sp1 p hp).trans hwA fun r hr=>Span.one (ZEJ hr),fun z hz=>?_,fun r hr=>?_⟩
  ·rcases List.mem_append.1 hz with hz|hz
   ·exact h.dep z hz
   ·rw [List.mem_singleton.1 hz];exact hO.frm
  ·rcases List.mem_append.1 hz with hz|hz
   ·exact (h.sp2 z hz).trans hwA fun r hr=>Span.one (ZEJ hr)
   ·rw [List.mem_singleton.1 hz,<- hyw];exact hyW
  ·rcases hlast r hr with hr|rfl
   ·refine (h.sp3 r hr).trans hall fun r hr=>Span.one ?_
    rcases List.mem_append.1 hr with hr|hr
    ·exact List.mem_append_left _ hr
    ·refine List.mem_append_right _ ?_
     rw [List.map_append];exact List.mem_append_left _ hr
   ·rw [hback]
    refine Span.plus hall (Span.one (List.mem_append_right _ ?_)) (v1.trans hall fun r hr=>Span.one (List.mem_append_left _ hr))
    rw [hyw];simp
 | cons c t =>
  simp only
  have hc:y.1.head?=some c:=by rw [hy];rfl
  have G:=h.good.put hO.asc hO.low hO.pos hO.frm hO.no hc
  have hyl:wdL b C y∈(ZGl m y c++[(c,y)]).map fun p=>wdL b C p.2:=by rw [List.map_append];simp
  have hall:AllAsc (((ZGl m y c++[(c,y)]).map fun p=>wdL b C p.2)++deps.map fun y=>wd (C:Int) [] (ZHb y b)):=fun r hr=>by
   rcases List.mem_append.1 hr with hr|hr
   ·obtain ⟨p,hp,rfl⟩:=List.mem_map.1 hr
    exact ZBq (G.asc p hp) (G.low p hp)
   ·exact hdA _ r hr
  -- the old lines
  have hold:∀ p∈m,Span (((ZGl m y c++[(c,y)]).map fun p=>wdL b C p.2)++deps.map fun y=>wd (C:Int) [] (ZHb y b)) (wdL b C p.2):=fun p hp=>by
   have hpa:Asc (wdL b C p.2):=ZBq (h.good.asc p hp) (h.good.low p hp)
   have hm:(if c∈p.2.1 then (p.1,ZFX p.2 y) else p)∈ZGl m y c:=List.mem_map.2 ⟨p,hp,rfl⟩
   have hs:Span (((ZGl m y c++[(c,y)]).map fun p=>wdL b C p.2)++deps.map fun y=>wd (C:Int) [] (ZHb y b)) (wdL b C (if c∈p.2.1 then (p.1,ZFX p.2 y) else p).2):=Span.one (List.mem_append_left _ (List.mem_map.2 ⟨_,List.mem_append_left _ hm,rfl⟩))
   by_cases hcp:c∈p.2.1
   ·rw [if_pos hcp] at hs
    have h5:=Span.plus hall hs (Span.one (List.mem_append_left _ hyl))
    simp only at h5
    rw [ZJ3 (h.good.asc p hp) hO.asc (h.good.low p hp) hO.low,ZAg hpa hya hya,ZCa hya,plus_nil] at h5
    exact h5
   ·rw [if_neg hcp] at hs;exact hs
  refine ⟨G,h.dep,fun p hp=>?_,fun z hz=>(h.sp2 z hz).trans hwA fun r hr=>Span.one (ZEJ hr),fun r hr=>?_⟩
  ·simp only at hp
   rcases List.mem_append.1 hp with hp|hp
   ·obtain ⟨q,hq,e⟩:=ZJ1 hp
    have hqW:Span ((ZDs rows b C).take (i+1)) (wdL b C q.2):=(h.sp1 q hq).trans hwA fun r hr=>Span.one (ZEJ hr)
    rw [e]
    split
    ·simp only
     rw [ZJ3 (h.good.asc q hq) hO.asc (h.good.low q hq) hO.low]
     exact Span.plus hwA hqW hyW
    ·exact hqW
   ·rw [List.mem_singleton.1 hp];exact hyW
  ·simp only
   have hmB:∀ r∈m.map (fun p=>wdL b C p.2),Span (((ZGl m y c++[(c,y)]).map fun p=>wdL b C p.2)++deps.map fun y=>wd (C:Int) [] (ZHb y b)) r:=fun r hr=>by
    obtain ⟨p,hp,rfl⟩:=List.mem_map.1 hr
    exact hold p hp
   rcases hlast r hr with hr|rfl
   ·refine (h.sp3 r hr).trans hall fun r hr=>?_
    rcases List.mem_append.1 hr with hr|hr
    ·exact hmB r hr
    ·exact Span.one (List.mem_append_right _ hr)
   ·rw [hback]
    exact Span.plus hall (Span.one (List.mem_append_left _ hyl)) (v1.trans hall hmB)
def ZGO (rows:List (List Int)) (C i:Nat):List (Int × Ln) × List (List Int):=(rows.zipIdx.take i).foldl (ZGD C) ([],[])
theorem echN_succ {rows:List (List Int)} {C i:Nat} (h:i<rows.length):ZGO rows C (i+1)=ZGD C (ZGO rows C i) (rows[i],i):=by
 unfold ZGO
 rw [List.take_add_one,List.foldl_append,List.getElem?_zipIdx,List.getElem?_eq_getElem h]
 simp
theorem echN_all (rows:List (List Int)) (C:Nat):ZGO rows C rows.length=echP rows C:=by
 unfold ZGO echP
 rw [List.take_of_length_le (by simp)]
theorem PInv.all {b:List Int} {C:Nat} {rows:List (List Int)} (h1:AllAsc rows) (h2:∀ r∈rows,Low (C:Int) r) (h3:∀ r∈rows,Pos r):∀ i,i≤rows.length->PInv b C rows i (ZGO rows C i)
 | 0,_=>PInv.start b C rows
 | i+1,h=>by
  rw [echN_succ (by omega)]
  exact (PInv.all h1 h2 h3 i (by omega)).step h1 h2 h3 (by omega)
end
end Go.Proofs.YtokmalofdapffaaGreat.L05
