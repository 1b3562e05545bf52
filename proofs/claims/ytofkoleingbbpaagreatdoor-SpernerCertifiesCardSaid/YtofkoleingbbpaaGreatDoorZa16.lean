/- Part 16 of the proof. -/
import Derived.Test.YtofkoleingbbpaaGreatDoorZa15
set_option linter.all false
set_option maxRecDepth 100000
set_option maxHeartbeats 64000000
namespace Go.Proofs.YtofkoleingbbpaaGreatDoor.L05
section
def ZBw (a b:List Int):Bool:=decide ((a.filter fun x=>decide (x∈b)).length % 2=1)
theorem ZLY (p:Int->Bool):∀(n:Nat) (a b:List Int),a.length+b.length≤n->((plus a b).filter p).length % 2=((a.filter p).length+(b.filter p).length) % 2:=by
 intro n;induction n with
 | zero =>
  intro a b hn;have h1:a=[]:=List.length_eq_zero_iff.1 (by omega);subst h1;rw[nil_plus];simp
 | succ n ih =>
  intro a b hn
  match a,b,hn with
  | [],b,_=>rw[nil_plus];simp
  | y::a,[],_=>rw[plus_nil];simp
  | y::a,z::b,hn =>
   simp only[List.length_cons] at hn;rw[plus];split
   ·have i1:=ih a (z::b) (by simp only[List.length_cons];omega);rw[List.filter_cons,List.filter_cons (x:=y)];split <;> (try simp only[List.length_cons]) <;> omega
   ·split
    ·have i1:=ih (y::a) b (by simp only[List.length_cons];omega);rw[List.filter_cons,List.filter_cons (x:=z)];split <;> (try simp only[List.length_cons]) <;> omega
    ·obtain rfl:y=z:=by omega
     have i1:=ih a b (by omega);rw[List.filter_cons,List.filter_cons];split <;> (try simp only[List.length_cons]) <;> omega
theorem ZMd (a a' b:List Int):ZBw (plus a a') b=(ZBw a b != ZBw a' b):=by
 unfold ZBw;have h:=ZLY (fun x=>decide (x∈b)) _ a a' (Nat.le_refl _);generalize ((plus a a').filter fun x=>decide (x∈b)).length=p at *;generalize (a.filter fun x=>decide (x∈b)).length=q at *;generalize (a'.filter fun x=>decide (x∈b)).length=r at *;by_cases h1:q % 2=1 <;> by_cases h2:r % 2=1
 ·rw[decide_eq_true h1,decide_eq_true h2,decide_eq_false (by omega)];rfl
 ·rw[decide_eq_true h1,decide_eq_false h2,decide_eq_true (by omega)];rfl
 ·rw[decide_eq_false h1,decide_eq_true h2,decide_eq_true (by omega)];rfl
 ·rw[decide_eq_false h1,decide_eq_false h2,decide_eq_false (by omega)];rfl
theorem plus_len:∀(n:Nat) (a b:List Int),a.length+b.length≤n->Asc a->Asc b->(plus a b).length+2*(a.filter fun x=>decide (x∈b)).length=a.length+b.length:=by
 intro n;induction n with
 | zero =>
  intro a b hn _ _;have h1:a=[]:=List.length_eq_zero_iff.1 (by omega);subst h1;rw[nil_plus];simp
 | succ n ih =>
  intro a b hn ha hb
  match a,b,hn,ha,hb with
  | [],b,_,_,_=>rw[nil_plus];simp
  | y::a,[],_,_,_ =>
   rw[plus_nil];have:((y::a).filter fun x=>decide (x∈([]:List Int)))=[]:=List.filter_eq_nil_iff.2 fun x _=>by simp
   rw[this];simp
  | y::a,z::b,hn,ha,hb =>
   simp only[List.length_cons] at hn;obtain⟨ha1,ha2⟩:=List.pairwise_cons.1 ha;obtain⟨hb1,hb2⟩:=List.pairwise_cons.1 hb;rw[plus];split
   ·rename_i hyz;have i1:=ih a (z::b) (by simp only[List.length_cons];omega) ha2 hb;have:y∉z::b:=fun q=>by
     rcases List.mem_cons.1 q with e|q
     ·omega
     ·have:=hb1 y q;omega
    rw[List.filter_cons,if_neg (by simpa using this)];simp only[List.length_cons] at i1 ⊢;omega
   ·rename_i hyz;split
    ·rename_i hzy;have i1:=ih (y::a) b (by simp only[List.length_cons];omega) ha hb2;have e:((y::a).filter fun x=>decide (x∈z::b))=(y::a).filter fun x=>decide (x∈b):=List.filter_congr fun x hx=>by
      have hxz:x≠z:=fun e=>by
       rcases List.mem_cons.1 hx with e'|q
       ·omega
       ·have:=ha1 x q;omega
      simp[hxz]
     rw[e];simp only[List.length_cons] at i1 ⊢;omega
    ·rename_i hzy;obtain rfl:y=z:=by omega
     have i1:=ih a b (by omega) ha2 hb2;have e:(a.filter fun x=>decide (x∈y::b))=a.filter fun x=>decide (x∈b):=List.filter_congr fun x hx=>by
      have hxz:x≠y:=fun e=>by have:=ha1 x hx;omega
      simp[hxz]
     rw[List.filter_cons,if_pos (by simp),e];simp only[List.length_cons] at i1 ⊢;omega
theorem odd_len {a b:List Int} (ha:Asc a) (hb:Asc b):ZBw a b=decide ((a.length+b.length-(plus a b).length) / 2 % 2=1):=by
 have:=plus_len _ a b (Nat.le_refl _) ha hb;unfold ZBw;rw[show(a.length+b.length-(plus a b).length) / 2=(a.filter fun x=>decide (x∈b)).length by omega]
abbrev Low (C:Int) (a:List Int):Prop:=∀x∈a,x<C
theorem plus_low {C:Int} {a b:List Int} (ha:Asc a) (hb:Asc b) (h1:Low C a) (h2:Low C b):Low C (plus a b):=fun x hx=>by
 have:=(ZAZ ha hb).1 hx;by_cases h:x∈a
 ·exact h1 x h
 ·exact h2 x (Classical.byContradiction fun q=>this ⟨fun k=>absurd k h,fun k=>absurd k q⟩)
def wd (C:Int) (r:List Int) (o:Bool):List Int:=if o=true then r++[C] else r
theorem ZB4 {C:Int} {r:List Int} {o:Bool} {x:Int}:x∈wd C r o↔x∈r\/(o=true/\x=C):=by
 unfold wd;cases o <;> simp
theorem ZBE {C:Int} {r:List Int} {o:Bool} (h:Asc r) (hl:Low C r):Asc (wd C r o):=by
 unfold wd;cases o
 ·exact h
 ·exact List.pairwise_append.2 ⟨h,List.pairwise_singleton _ _,fun x hx y hy=>by rw[List.mem_singleton.1 hy];exact hl x hx⟩
theorem ZUa {C:Int} {r s:List Int} {o p:Bool} (hr:Asc r) (hs:Asc s) (h1:Low C r) (h2:Low C s):wd C (plus r s) (o != p)=plus (wd C r o) (wd C s p):=by
 refine asc_ext (ZBE (ZAR hr hs) (plus_low hr hs h1 h2)) (ZAR (ZBE hr h1) (ZBE hs h2)) fun x=>?_;rw[ZAZ (ZBE hr h1) (ZBE hs h2),ZB4,ZB4,ZB4,ZAZ hr hs];by_cases hx:x=C
 ·subst hx;have n1:x∉r:=fun q=>by have:=h1 x q;omega
  have n2:x∉s:=fun q=>by have:=h2 x q;omega
  cases o <;> cases p <;> simp[n1,n2]
 ·simp[hx]
theorem ZUZ {C c:Int} {r:List Int} {o:Bool} (h:r.head?=some c):(wd C r o).head?=some c:=by
 unfold wd;cases r with
 | nil=>cases h
 | cons y r=>cases o <;> simpa using h
end
section
abbrev rw' (rows:List (List Int)) (k:Nat):List Int:=rows.getD k []
def pivN (rows:List (List Int)) (n:Nat) (c:Int):Option Nat:=(List.range rows.length).find? fun k=>decide (n≤k) && decide (c∈rw' rows k)
def swapI (rows:List (List Int)) (i j:Nat):List (List Int):=(rows.set i (rw' rows j)).set j (rw' rows i)
def ZBt (rows:List (List Int)) (n:Nat) (c:Int):List (List Int):=(List.range rows.length).map fun j=>if j≠n/\c∈rw' rows j then plus (rw' rows j) (rw' rows n) else rw' rows j
def stepR (s:List (List Int) × Nat) (c:Nat):List (List Int) × Nat:=match pivN s.1 s.2 (c:Int) with
 | none=>s
 | some k=>(ZBt (swapI s.1 s.2 k) s.2 (c:Int),s.2+1)
def ZSG (rows:List (List Int)) (C:Nat):List (List Int) × Nat:=(List.range C).foldl stepR (rows,0)
theorem redR_succ (rows:List (List Int)) (C:Nat):ZSG rows (C+1)=stepR (ZSG rows C) C:=by simp[ZSG,List.range_succ,List.foldl_append]
theorem pivN_some {rows:List (List Int)} {n:Nat} {c:Int} {k:Nat} (h:pivN rows n c=some k):n≤k/\k<rows.length/\c∈rw' rows k:=by
 have h1:=List.find?_some h;have h2:=List.mem_of_find?_eq_some h;simp only[Bool.and_eq_true,decide_eq_true_eq] at h1;exact⟨h1.1,List.mem_range.1 h2,h1.2⟩
theorem ZPz {rows:List (List Int)} {n:Nat} {c:Int} (h:pivN rows n c=none):∀k,n≤k->k<rows.length->c∉rw' rows k:=fun k h1 h2 h3=>by
 exact List.find?_eq_none.1 h k (List.mem_range.2 h2) (by rw[decide_eq_true h1,decide_eq_true h3];rfl)
theorem rw_get {rows:List (List Int)} {k:Nat} (h:k<rows.length):rw' rows k=rows[k]:=by simp[rw',List.getD_eq_getElem?_getD,List.getElem?_eq_getElem h]
theorem ZIA {rows:List (List Int)} {k:Nat} (h:k<rows.length):rw' rows k∈rows:=by rw[rw_get h];exact List.getElem_mem h
theorem ZH6 {rows:List (List Int)} {r:List Int} (h:r∈rows):∃k,k<rows.length/\rw' rows k=r:=by
 obtain⟨k,hk,e⟩:=List.getElem_of_mem h;exact⟨k,hk,by rw[rw_get hk,e]⟩
theorem swap_len (rows:List (List Int)) (i j:Nat):(swapI rows i j).length=rows.length:=by simp[swapI]
theorem ZJ0 (rows:List (List Int)) (n:Nat) (c:Int):(ZBt rows n c).length=rows.length:=by simp[ZBt]
theorem swap_get {rows:List (List Int)} {i j k:Nat} (hk:k<rows.length):rw' (swapI rows i j) k=if k=j then rw' rows i else if k=i then rw' rows j else rw' rows k:=by
 rw[rw_get (by rw[swap_len];exact hk)];unfold swapI;rw[List.getElem_set];by_cases h1:j=k
 ·rw[if_pos h1,if_pos h1.symm]
 ·rw[if_neg h1,if_neg (fun e=>h1 e.symm),List.getElem_set];by_cases h2:i=k
  ·rw[if_pos h2,if_pos h2.symm]
  ·rw[if_neg h2,if_neg (fun e=>h2 e.symm),rw_get hk]
theorem ZO6 {rows:List (List Int)} {n k:Nat} {c:Int} (hk:k<rows.length):rw' (ZBt rows n c) k=if k≠n/\c∈rw' rows k then plus (rw' rows k) (rw' rows n) else rw' rows k:=by
 rw[rw_get (by rw[ZJ0];exact hk)];unfold ZBt;rw[List.getElem_map,List.getElem_range]
theorem ZIk {v:List Int} {h:Int} (hv:Asc v) (hm:h∈v) (hl:∀x∈v,h≤x):v.head?=some h:=by
 cases v with
 | nil=>cases hm
 | cons y v =>
  have h1:=hl y (by simp);rcases List.mem_cons.1 hm with e|hm
  ·rw[e];rfl
  ·have:=(List.pairwise_cons.1 hv).1 h hm;omega
theorem ZFl {a b:List Int} (ha:Asc a) (hb:Asc b) {x:Int} (h:x∈plus a b):x∈a\/x∈b:=by
 have:=(ZAZ ha hb).1 h;by_cases h1:x∈a
 ·exact .inl h1
 ·exact .inr (Classical.byContradiction fun q=>this ⟨fun k=>absurd k h1,fun k=>absurd k q⟩)
structure RInv (W:List (List Int)) (c:Nat) (s:List (List Int) × Nat):Prop where
 asc:AllAsc s.1
 le:s.2≤s.1.length
 hd:∀i,i<s.2->∃h,(rw' s.1 i).head?=some h/\h<(c:Int)/\∀j,j<s.1.length->h∈rw' s.1 j->j=i
 ord:∀i j,i<j->j<s.2->∀h h',(rw' s.1 i).head?=some h->(rw' s.1 j).head?=some h'->h<h'
 hi:∀j,s.2≤j->j<s.1.length->∀x∈rw' s.1 j,(c:Int)≤x
 sp1:∀r∈s.1,Span W r
 sp2:∀r∈W,Span s.1 r
theorem RInv.start {W:List (List Int)} (h1:AllAsc W) (h2:∀r∈W,∀x∈r,0≤x):RInv W 0 (W,0) where
 asc:=h1
 le:=Nat.zero_le _
 hd:=fun i h=>absurd h (Nat.not_lt_zero i)
 ord:=fun i j _ h=>absurd h (Nat.not_lt_zero j)
 hi:=fun j _ hj x hx=>by have:=h2 _ (ZIA hj) x hx;omega
 sp1:=fun r hr=>Span.one hr
 sp2:=fun r hr=>Span.one hr
theorem RInv.step {W:List (List Int)} (hW:AllAsc W) {c:Nat} {s:List (List Int) × Nat} (h:RInv W c s):RInv W (c+1) (stepR s c):=by
 obtain⟨rows,n⟩:=s;unfold stepR;cases hp:pivN rows n (c:Int) with
 | none =>
  have hno:=ZPz hp;exact⟨h.asc,h.le,fun i hi=>by obtain⟨a,a1,a2,a3⟩:=h.hd i hi;exact⟨a,a1,by omega,a3⟩,h.ord,fun j h1 h2 x hx=>by
   have:=h.hi j h1 h2 x hx;have:x≠(c:Int):=fun e=>hno j h1 h2 (e ▸ hx);omega,h.sp1,h.sp2⟩
 | some k =>
  obtain⟨hnk,hk,hck⟩:=pivN_some hp;have hn:n<rows.length:=by omega
  have hasc:∀j,j<rows.length->Asc (rw' rows j):=fun j hj=>h.asc _ (ZIA hj)
  -- the rows behind the exchange
  have hsl:=swap_len rows n k;have hs:=fun(j:Nat) (hj:j<rows.length)=>swap_get (i:=n) (j:=k) hj;have hsn:rw' (swapI rows n k) n=rw' rows k:=by
   rw[hs n hn];by_cases e:n=k
   ·rw[if_pos e,e]
   ·rw[if_neg e,if_pos rfl]
  have hsig:∀j,j<rows.length->∃m,m<rows.length/\rw' (swapI rows n k) j=rw' rows m/\(j<n->m=j)/\(n≤j->n≤m)/\(m<n->m=j):=fun j hj=>by
   rw[hs j hj];by_cases e:j=k
   ·exact⟨n,hn,by rw[if_pos e],by omega,by omega,by omega⟩
   ·rw[if_neg e];by_cases e2:j=n
    ·exact⟨k,hk,by rw[if_pos e2],by omega,by omega,by omega⟩
    ·exact⟨j,hj,by rw[if_neg e2],by omega,by omega,by omega⟩
  have hcl:=fun(j:Nat) (hj:j<rows.length)=>ZO6 (rows:=swapI rows n k) (n:=n) (c:=(c:Int)) (k:=j) (by rw[hsl];exact hj);rw[hsn] at hcl;have hlen:(ZBt (swapI rows n k) n (c:Int)).length=rows.length:=by rw[ZJ0,hsl]
  obtain⟨p,hpe⟩:∃p,rw' rows k=p:=⟨_,rfl⟩;rw[hpe] at hcl hck;have hpa:Asc p:=hpe ▸ hasc k hk;have hpl:∀x∈p,(c:Int)≤x:=fun x hx=>h.hi k hnk hk x (by simpa only[hpe] using hx);have hLn:rw' (ZBt (swapI rows n k) n (c:Int)) n=p:=by rw[hcl n hn,if_neg (fun q=>q.1 rfl),hsn,hpe]
  have hLasc:∀j,j<rows.length->Asc (rw' (ZBt (swapI rows n k) n (c:Int)) j):=fun j hj=>by
   obtain⟨m,m1,m2,_⟩:=hsig j hj;rw[hcl j hj,m2];split
   ·exact ZAR (hasc m m1) hpa
   ·exact hasc m m1
  have hhead:∀i,i<n->∀a,(rw' rows i).head?=some a->a<(c:Int)->(rw' (ZBt (swapI rows n k) n (c:Int)) i).head?=some a:=fun i hi a ha hac=>by
   obtain⟨m,m1,m2,m3,_⟩:=hsig i (by omega);obtain rfl:m=i:=m3 hi;rw[hcl m (by omega),m2];split
   ·have hnp:a∉p:=fun q=>by have:=hpl a q;omega
    refine ZIk (ZAR (hasc m m1) hpa) ((ZAZ (hasc m m1) hpa).2 fun q=>hnp (q.1 (head_mem ha))) fun x hx=>?_;rcases ZFl (hasc m m1) hpa hx with q|q
    ·exact ZFd (hasc m m1) ha x q
    ·have:=hpl x q;omega
   ·exact ha
  have hcn:∀j,j<rows.length->j≠n->(c:Int)∉rw' (ZBt (swapI rows n k) n (c:Int)) j:=fun j hj hjn=>by
   rw[hcl j hj];by_cases hcj:(c:Int)∈rw' (swapI rows n k) j
   ·rw[if_pos ⟨hjn,hcj⟩];obtain⟨m,m1,m2,_⟩:=hsig j hj;rw[m2] at hcj ⊢;rw[ZAZ (hasc m m1) hpa];exact fun q=>q ⟨fun _=>hck,fun _=>hcj⟩
   ·rw[if_neg (fun q=>hcj q.2)];exact hcj
  have hold:∀r∈rows,Span (ZBt (swapI rows n k) n (c:Int)) r:=fun r hr=>by
   obtain⟨m,m1,rfl⟩:=ZH6 hr
   -- where it went
   obtain⟨j,hj,hjm⟩:∃j,j<rows.length/\rw' (swapI rows n k) j=rw' rows m:=by
    by_cases e:m=n
    ·exact⟨k,hk,by rw[hs k hk,if_pos rfl,e]⟩
    ·by_cases e2:m=k
     ·exact⟨n,hn,by rw[hsn,e2]⟩
     ·exact⟨m,m1,by rw[hs m m1,if_neg e2,if_neg e]⟩
   have hLA:AllAsc (ZBt (swapI rows n k) n (c:Int)):=fun r hr=>by
    obtain⟨q,q1,rfl⟩:=ZH6 hr;exact hLasc q (by omega)
   have hj1:Span (ZBt (swapI rows n k) n (c:Int)) (rw' (ZBt (swapI rows n k) n (c:Int)) j):=Span.one (ZIA (by omega));have hj2:Span (ZBt (swapI rows n k) n (c:Int)) p:=hLn ▸ Span.one (ZIA (by omega));rw[hcl j hj,hjm] at hj1;split at hj1
   ·have:=Span.plus hLA hj1 hj2;rw[ZDD (hasc m m1) hpa hpa,ZHI hpa,plus_nil] at this;exact this
   ·exact hj1
  have hpW:Span W p:=hpe ▸ h.sp1 _ (ZIA hk);refine⟨fun r hr=>?_,by simp only;omega,fun i hi=>?_,fun i j hij hj a a' ha ha'=>?_,fun j h1 h2 x hx=>?_,fun r hr=>?_,fun r hr=>?_⟩
  ·obtain⟨q,q1,rfl⟩:=ZH6 hr;exact hLasc q (by simp only at q1;omega)
  ·simp only at hi ⊢;by_cases hin:i=n
   ·subst hin;refine⟨(c:Int),by rw[hLn];exact ZIk hpa hck hpl,by omega,fun j hj hm=>?_⟩;exact Classical.byContradiction fun q=>hcn j (by omega) q hm
   ·have hi:i<n:=by omega
    obtain⟨a,a1,a2,a3⟩:=h.hd i hi;simp only at a1 a3;refine⟨a,hhead i hi a a1 a2,by omega,fun j hj hm=>?_⟩;have hj:j<rows.length:=by omega
    have hnp:a∉p:=fun q=>by have:=hpl a q;omega
    obtain⟨m,m1,m2,_,_,m3⟩:=hsig j hj;have:a∈rw' rows m:=by
     rw[hcl j hj,m2] at hm;split at hm
     ·exact(ZFl (hasc m m1) hpa hm).resolve_right hnp
     ·exact hm
    have:=a3 m m1 this;subst this;exact(m3 hi).symm
  ·simp only at hj ha ha';have hi:i<n:=by omega
   obtain⟨b,b1,b2,_⟩:=h.hd i hi;simp only at b1;have:=hhead i hi b b1 b2;rw[this] at ha;cases ha;by_cases hjn:j=n
   ·subst hjn;rw[hLn,ZIk hpa hck hpl] at ha';cases ha';exact b2
   ·have hj:j<n:=by omega
    obtain⟨b',b1',b2',_⟩:=h.hd j hj;simp only at b1';have:=hhead j hj b' b1' b2';rw[this] at ha';cases ha';exact h.ord i j hij hj a a' b1 b1'
  ·simp only at h1 h2 hx;have hj:j<rows.length:=by omega
   have hne:x≠(c:Int):=fun e=>hcn j hj (by omega) (e ▸ hx);obtain⟨m,m1,m2,_,m4,_⟩:=hsig j hj;have hm:∀y∈rw' rows m,(c:Int)≤y:=h.hi m (m4 (by omega)) m1;rw[hcl j hj,m2] at hx;have:(c:Int)≤x:=by
    split at hx
    ·rcases ZFl (hasc m m1) hpa hx with q|q
     ·exact hm x q
     ·exact hpl x q
    ·exact hm x hx
   omega
  ·obtain⟨q,q1,rfl⟩:=ZH6 hr;simp only at q1;have hq:q<rows.length:=by omega
   obtain⟨m,m1,m2,_⟩:=hsig q hq;have hm:=h.sp1 _ (ZIA (rows:=rows) m1);simp only;rw[hcl q hq,m2];split
   ·exact Span.plus hW hm hpW
   ·exact hm
  ·exact Span.trans (fun r hr=>by
    obtain⟨q,q1,rfl⟩:=ZH6 hr;exact hLasc q (by omega)) hold (h.sp2 r hr)
theorem RInv.all {W:List (List Int)} (h1:AllAsc W) (h2:∀r∈W,∀x∈r,0≤x):∀C,RInv W C (ZSG W C)
 | 0=>RInv.start h1 h2
 | C+1=>by rw[redR_succ];exact(RInv.all h1 h2 C).step h1
theorem Span.low {W:List (List Int)} (hW:AllAsc W) {C:Int} (hl:∀r∈W,Low C r) {v:List Int} (h:Span W v):Low C v:=by
 induction h with
 | zero=>intro x hx;cases hx
 | add hr h ih=>exact plus_low (hW _ hr) (h.asc hW) (hl _ hr) ih
def echR (W:List (List Int)) (C:Nat):List (List Int):=(ZSG W C).1.take (ZSG W C).2
def hdI (r:List Int):Int:=r.head?.getD 0
theorem echR_ok {W:List (List Int)} {C:Nat} (h1:AllAsc W) (h2:∀r∈W,∀x∈r,0≤x) (h3:∀r∈W,Low (C:Int) r):Red (echR W C)/\(∀r∈echR W C,Span W r)/\(∀r∈W,Span (echR W C) r)/\(echR W C).Pairwise (fun r s=>hdI r<hdI s):=by
 have h:=RInv.all h1 h2 C;unfold echR;obtain⟨⟨rows,n⟩,hs⟩:∃s,ZSG W C=s:=⟨_,rfl⟩;rw[hs] at h ⊢;have hget:∀i,i<n->i<rows.length/\∀hi:i<(rows.take n).length,(rows.take n)[i]=rw' rows i:=fun i hi=>by
  have:=h.le;simp only at this;exact⟨by omega,fun hi'=>by rw[List.getElem_take,rw_get (by omega)]⟩
 have hmem:∀r∈rows.take n,∃i,i<n/\i<rows.length/\rw' rows i=r:=fun r hr=>by
  obtain⟨i,hi,e⟩:=List.getElem_of_mem hr;have hin:i<n:=by rw[List.length_take] at hi;omega
  obtain⟨q1,q2⟩:=hget i hin;exact⟨i,hin,q1,by rw[<- e,q2]⟩
 have hasc:AllAsc (rows.take n):=fun r hr=>h.asc r (List.mem_of_mem_take hr);refine⟨⟨hasc,fun r hr e=>?_,fun r hr s hs' c hc hcs=>?_⟩,fun r hr=>h.sp1 r (List.mem_of_mem_take hr),fun r hr=>?_,?_⟩
 ·obtain⟨i,i1,i2,rfl⟩:=hmem r hr;obtain⟨a,a1,_⟩:=h.hd i i1;simp only at a1;rw[e] at a1;cases a1
 ·obtain⟨i,i1,i2,rfl⟩:=hmem r hr;obtain⟨j,j1,j2,rfl⟩:=hmem s hs';obtain⟨a,a1,_,a3⟩:=h.hd i i1;simp only at a1 a3;rw[a1] at hc;cases hc;rw[a3 j j2 hcs]
 ·refine Span.trans hasc (fun s hs'=>?_) (h.sp2 r hr);obtain⟨k,k1,rfl⟩:=ZH6 hs';simp only at k1;by_cases hkn:k<n
  ·obtain⟨q1,q2⟩:=hget k hkn;have hkt:k<(rows.take n).length:=by rw[List.length_take];omega
   rw[<- q2 hkt];exact Span.one (List.getElem_mem hkt)
  ·have hlo:=Span.low h1 h3 (h.sp1 _ hs');have hhi:=h.hi k (by simp only;omega) k1;have:rw' rows k=[]:=by
    cases e:rw' rows k with
    | nil=>rfl
    | cons y v =>
     have m:y∈rw' rows k:=by rw[e];simp
     have:=hlo y m;have:=hhi y m;omega
   rw[this];exact Span.zero
 ·refine List.pairwise_iff_getElem.2 fun i j hi hj hij=>?_;have hjn:j<n:=by rw[List.length_take] at hj;omega
  obtain⟨p1,p2⟩:=hget i (by omega);obtain⟨q1,q2⟩:=hget j hjn;rw[p2 hi,q2 hj];obtain⟨a,a1,_⟩:=h.hd i (show i<n by omega);obtain⟨b,b1,_⟩:=h.hd j hjn;simp only at a1 b1;have:=h.ord i j hij hjn a b a1 b1;simp only[hdI,a1,b1,Option.getD_some];exact this
theorem ZPb {α:Type} (key:α->Int):∀ {a b:List α},a.Pairwise (fun x y=>key x<key y)->b.Pairwise (fun x y=>key x<key y)->(∀x,x∈a↔x∈b)->a=b
 | [],[],_,_,_=>rfl
 | [],y::b,_,_,h=>absurd ((h y).2 (by simp)) (by simp)
 | x::a,[],_,_,h=>absurd ((h x).1 (by simp)) (by simp)
 | x::a,y::b,ha,hb,h=>by
  obtain⟨ha1,ha2⟩:=List.pairwise_cons.1 ha;obtain⟨hb1,hb2⟩:=List.pairwise_cons.1 hb;have hxy:x=y:=by
   rcases List.mem_cons.1 ((h x).1 (by simp)) with e|e
   ·exact e
   ·rcases List.mem_cons.1 ((h y).2 (by simp)) with e'|e'
    ·exact e'.symm
    ·have:=hb1 x e;have:=ha1 y e';omega
  subst hxy;congr 1;refine ZPb key ha2 hb2 fun z=>⟨fun hz=>?_,fun hz=>?_⟩
  ·rcases List.mem_cons.1 ((h z).1 (by simp[hz])) with e|e
   ·subst e;have:=ha1 z hz;omega
   ·exact e
  ·rcases List.mem_cons.1 ((h z).2 (by simp[hz])) with e|e
   ·subst e;have:=hb1 z hz;omega
   ·exact e
theorem ZNM {B C:List (List Int)} (hB:Red B) (hC:Red C) (h1:∀r∈B,Span C r) (h2:∀r∈C,Span B r) (k1:B.Pairwise (fun r s=>hdI r<hdI s)) (k2:C.Pairwise (fun r s=>hdI r<hdI s)):B=C :=
 ZPb hdI k1 k2 fun r=>⟨fun h=>hB.sub hC h1 h2 r h,fun h=>hC.sub hB h2 h1 r h⟩
end
section
abbrev Ln:=List Int × List Int
def ZGi (x l:Ln):Ln:=(plus x.1 l.1,plus x.2 l.2)
def ZB1 (m:List (Int × Ln)) (c:Int):Option Ln:=(m.find? fun p=>decide (p.1=c)).map (·.2)
def ZHK (m:List (Int × Ln)):Nat->Nat->Ln->Ln
 | 0,_,x=>x
 | f+1,i,x=>match x.1[i]? with
  | none=>x
  | some c=>match ZB1 m c with
   | none=>ZHK m f (i+1) x
   | some l=>ZHK m f i (ZGi x l)
def ZJU (m:List (Int × Ln)) (y:Ln) (c:Int):List (Int × Ln):=m.map fun p=>if c∈p.2.1 then(p.1,ZGi p.2 y) else p
def ZJI (C:Nat) (s:List (Int × Ln) × List (List Int)) (p:List Int × Nat):List (Int × Ln) × List (List Int) :=
 let y:=ZHK s.1 (C+1) 0 (p.1,[(p.2:Int)])
 match y.1 with
 | []=>(s.1,s.2++[y.2])
 | c::_=>(ZJU s.1 y c++[(c,y)],s.2)
def echP (rows:List (List Int)) (C:Nat):List (Int × Ln) × List (List Int):=rows.zipIdx.foldl (ZJI C) ([],[])
def solP (rows:List (List Int)) (b:List Int) (C:Nat):Option (List Int) :=
 if(echP rows C).2.any (fun y=>ZBw y b)=true then none else
  some ((List.range C).filterMap fun c:Nat=>match ZB1 (echP rows C).1 (c:Int) with
   | none=>none
   | some l=>if ZBw l.2 b=true then some (c:Int) else none)
def ZAe (rows:List (List Int)) (b:List Int) (C:Nat):List (List Int):=rows.zipIdx.map fun p=>wd (C:Int) p.1 (decide ((p.2:Int)∈b))
def solR (rows:List (List Int)) (b:List Int) (C:Nat):Option (List Int) :=
 if(echR (ZAe rows b C) (C+1)).any (fun r=>decide (hdI r=(C:Int)))=true then none else
  some (((echR (ZAe rows b C) (C+1)).filter fun r=>decide ((C:Int)∈r)).map hdI)
abbrev Pos (a:List Int):Prop:=∀x∈a,0≤x
theorem ZE8 {a b:List Int} (ha:Asc a) (hb:Asc b) (h1:Pos a) (h2:Pos b):Pos (plus a b):=fun x hx=>(ZFl ha hb hx).elim (h1 x) (h2 x)
theorem ZMk {c:Int}:∀ {t u v:List Int},Asc (t++c::u)->plus (t++c::u) (c::v)=t++plus u v
 | [],u,v,_=>by
  rw[List.nil_append,plus,if_neg (by omega),if_neg (by omega)];rfl
 | y::t,u,v,h=>by
  have h1:=(List.pairwise_cons.1 h).1 c (by simp);rw[List.cons_append,plus,if_pos h1,ZMk (List.pairwise_cons.1 h).2];rfl
structure Good05 (C:Nat) (m:List (Int × Ln)):Prop where
 nd:(m.map (·.1)).Nodup
 hd:∀p∈m,p.2.1.head?=some p.1
 asc:∀p∈m,Asc p.2.1
 low:∀p∈m,Low (C:Int) p.2.1
 pos:∀p∈m,Pos p.2.1
 one:∀p∈m,∀q∈m,p.1∈q.2.1->q=p
 frm:∀p∈m,Asc p.2.2/\Pos p.2.2
theorem lookP_some {m:List (Int × Ln)} {c:Int} {l:Ln} (h:ZB1 m c=some l):(c,l)∈m:=by
 unfold ZB1 at h;obtain⟨p,h1,h2⟩:=Option.map_eq_some_iff.1 h;have e:p.1=c:=of_decide_eq_true (by simpa using List.find?_some h1);have:=List.mem_of_find?_eq_some h1;rw[<- e,<- h2];exact this
theorem lookP_none {m:List (Int × Ln)} {c:Int} (h:ZB1 m c=none):∀p∈m,p.1≠c:=fun p hp e=>by
 unfold ZB1 at h;have:=List.find?_eq_none.1 (Option.map_eq_none_iff.1 h) p hp;exact this (decide_eq_true e)
theorem ZKP {m:List (Int × Ln)} (hn:(m.map (·.1)).Nodup) {p:Int × Ln} (hp:p∈m):ZB1 m p.1=some p.2:=by
 induction m with
 | nil=>cases hp
 | cons q m ih =>
  rw[List.map_cons,List.nodup_cons] at hn;unfold ZB1;rw[List.find?_cons];rcases List.mem_cons.1 hp with rfl|hp
  ·rw[decide_eq_true rfl];rfl
  ·have:q.1≠p.1:=fun e=>hn.1 (by rw[e];exact List.mem_map_of_mem hp);rw[decide_eq_false this];exact ih hn.2 hp
def wdL (b:List Int) (C:Nat) (x:Ln):List Int:=wd (C:Int) x.1 (ZBw x.2 b)
theorem ZLw {b:List Int} {C:Nat} {x l:Ln} (h1:Asc x.1) (h2:Asc l.1) (h3:Low (C:Int) x.1) (h4:Low (C:Int) l.1):wdL b C (ZGi x l)=plus (wdL b C x) (wdL b C l):=by
 unfold wdL ZGi;rw[ZMd,ZUa h1 h2 h3 h4]
structure RedAt (b:List Int) (C:Nat) (m:List (Int × Ln)) (x0:Ln) (f i:Nat) (x:Ln):Prop where
 asc0:Asc (wdL b C x0)
 asc:Asc x.1
 low:Low (C:Int) x.1
 pos:Pos x.1
 frm:Asc x.2/\Pos x.2
 le:i≤x.1.length
 fuel:∀c,x.1[i]?=some c->(C:Int)<c+f
 no:∀j,j<i->∀c,x.1[j]?=some c->ZB1 m c=none
 spn:∃v,Span (m.map fun p=>wdL b C p.2) v/\wdL b C x=plus (wdL b C x0) v
theorem RedAt.start {b:List Int} {C:Nat} {m:List (Int × Ln)} {x:Ln} (h1:Asc x.1) (h2:Low (C:Int) x.1) (h3:Pos x.1) (h4:Asc x.2/\Pos x.2):RedAt b C m x (C+1) 0 x :=
 ⟨ZBE h1 h2,h1,h2,h3,h4,Nat.zero_le _,fun c hc=>by have:=h3 c (List.mem_of_getElem? hc);omega,fun j hj=>absurd hj (Nat.not_lt_zero j),[],Span.zero,(plus_nil _).symm⟩
theorem RedAt.skip {b:List Int} {C:Nat} {m:List (Int × Ln)} {x0 x:Ln} {f i:Nat} (h:RedAt b C m x0 (f+1) i x) {c:Int} (hc:x.1[i]?=some c) (hl:ZB1 m c=none):RedAt b C m x0 f (i+1) x :=
 ⟨h.asc0,h.asc,h.low,h.pos,h.frm,(List.getElem?_eq_some_iff.1 hc).1,fun d hd=>by
  have h1:=h.fuel c hc;obtain⟨q1,q2⟩:=List.getElem?_eq_some_iff.1 hc;obtain⟨q3,q4⟩:=List.getElem?_eq_some_iff.1 hd;have:=List.pairwise_iff_getElem.1 h.asc i (i+1) q1 q3 (by omega);omega,fun j hj d hd=>by
  by_cases e:j=i
  ·subst e;rw[hc] at hd;cases hd;exact hl
  ·exact h.no j (by omega) d hd,h.spn⟩
theorem RedAt.add {b:List Int} {C:Nat} {m:List (Int × Ln)} (G:Good05 C m) {x0 x:Ln} {f i:Nat} (h:RedAt b C m x0 (f+1) i x) {c:Int} (hc:x.1[i]?=some c) {l:Ln} (hl:ZB1 m c=some l):RedAt b C m x0 f i (ZGi x l):=by
 have hm:=lookP_some hl;have hla:=G.asc _ hm;have hll:=G.low _ hm;obtain⟨hlf1,hlf2⟩:=G.frm _ hm;have hlh:=G.hd _ hm;simp only at hla hll hlf1 hlf2 hlh;obtain⟨q1,q2⟩:=List.getElem?_eq_some_iff.1 hc;obtain⟨v,hv⟩:∃v,l.1=c::v:=by
  cases e:l.1 with
  | nil=>rw[e] at hlh;cases hlh
  | cons y v=>rw[e] at hlh;simp only[List.head?_cons,Option.some.injEq] at hlh;exact⟨v,by rw[hlh]⟩
 have hx:x.1=x.1.take i++c::x.1.drop (i+1):=by
  rw[<- q2,<- List.drop_eq_getElem_cons q1,List.take_append_drop]
 have e1:(ZGi x l).1=x.1.take i++plus (x.1.drop (i+1)) v:=by
  unfold ZGi;simp only;rw[hv]
  conv=>lhs;rw[hx]
  exact ZMk (hx ▸ h.asc)
 have htl:(x.1.take i).length=i:=by rw[List.length_take];omega
 have hdr:∀d∈plus (x.1.drop (i+1)) v,c<d:=by
  have ha:=h.asc;rw[hx] at ha;have ha2:=(List.pairwise_append.1 ha).2.1;refine ZI4 (List.pairwise_cons.1 ha2).1 ?_;rw[hv] at hla;exact(List.pairwise_cons.1 hla).1
 obtain⟨v',s1,s2⟩:=h.spn;have hB:AllAsc (m.map fun p=>wdL b C p.2):=fun r hr=>by
  obtain⟨p,hp,rfl⟩:=List.mem_map.1 hr;exact ZBE (G.asc p hp) (G.low p hp)
 refine⟨h.asc0,ZAR h.asc hla,plus_low h.asc hla h.low hll,ZE8 h.asc hla h.pos (G.pos _ hm),⟨ZAR h.frm.1 hlf1,ZE8 h.frm.1 hlf1 h.frm.2 hlf2⟩,by rw[e1,List.length_append,htl];omega,fun d hd=>?_,fun j hj d hd=>?_,?_⟩
 ·have h1:=h.fuel c hc;rw[e1,List.getElem?_append_right (by omega),htl,Nat.sub_self] at hd;have:=hdr d (List.mem_of_getElem? hd);omega
 ·rw[e1,List.getElem?_append_left (by omega)] at hd;refine h.no j hj d ?_;rw[hx,List.getElem?_append_left (by omega)];exact hd
 ·have hsl:Span (m.map fun p=>wdL b C p.2) (wdL b C l):=Span.one (List.mem_map.2 ⟨_,hm,rfl⟩);have hx0:wdL b C x=plus (wdL b C x0) v':=s2;refine⟨plus (wdL b C l) v',Span.plus hB hsl s1,?_⟩;have w1:Asc (wdL b C x):=ZBE h.asc h.low;have w2:Asc (wdL b C l):=ZBE hla hll;have w4:Asc v':=s1.asc hB;rw[ZLw h.asc hla h.low hll];rw[hx0,ZDD h.asc0 w4 w2,ZP4 w4 w2]
structure RedOut (b:List Int) (C:Nat) (m:List (Int × Ln)) (x0 y:Ln):Prop where
 asc:Asc y.1
 low:Low (C:Int) y.1
 pos:Pos y.1
 frm:Asc y.2/\Pos y.2
 no:∀c∈y.1,ZB1 m c=none
 spn:∃v,Span (m.map fun p=>wdL b C p.2) v/\wdL b C y=plus (wdL b C x0) v
theorem RedAt.out {b:List Int} {C:Nat} {m:List (Int × Ln)} {x0 x:Ln} {f i:Nat} (h:RedAt b C m x0 f i x) (he:x.1[i]?=none):RedOut b C m x0 x :=
 ⟨h.asc,h.low,h.pos,h.frm,fun c hc=>by
  obtain⟨j,hj⟩:=List.mem_iff_getElem?.1 hc;obtain⟨j1,_⟩:=List.getElem?_eq_some_iff.1 hj;have:=List.getElem?_eq_none_iff.1 he;exact h.no j (by omega) c hj,h.spn⟩
theorem redP_out {b:List Int} {C:Nat} {m:List (Int × Ln)} (G:Good05 C m) {x0:Ln}:∀(f i:Nat) (x:Ln),RedAt b C m x0 f i x->RedOut b C m x0 (ZHK m f i x)
 | 0,i,x,h=>h.out (by
   cases e:x.1[i]? with
   | none=>rfl
   | some c =>
    have h1:=h.fuel c e;have:=h.low c (List.mem_of_getElem? e);omega)
 | f+1,i,x,h=>by
  unfold ZHK;cases e:x.1[i]? with
  | none=>exact h.out e
  | some c =>
   simp only;cases hl:ZB1 m c with
   | none=>exact redP_out G f (i+1) x (h.skip e hl)
   | some l=>exact redP_out G f i (ZGi x l) (h.add G e hl)
structure PInv (b:List Int) (C:Nat) (rows:List (List Int)) (i:Nat) (s:List (Int × Ln) × List (List Int)):Prop where
 good:Good05 C s.1
 dep:∀y∈s.2,Asc y/\Pos y
 sp1:∀p∈s.1,Span ((ZAe rows b C).take i) (wdL b C p.2)
 sp2:∀y∈s.2,Span ((ZAe rows b C).take i) (wd (C:Int) [] (ZBw y b))
 sp3:∀r∈(ZAe rows b C).take i,Span ((s.1.map fun p=>wdL b C p.2)++s.2.map fun y=>wd (C:Int) [] (ZBw y b)) r
theorem ZLs {m:List (Int × Ln)} {y:Ln} {c:Int} {p:Int × Ln} (h:p∈ZJU m y c):∃q∈m,p=if c∈q.2.1 then(q.1,ZGi q.2 y) else q:=by
 unfold ZJU at h;obtain⟨q,hq,e⟩:=List.mem_map.1 h;exact⟨q,hq,e.symm⟩
theorem ZSb (m:List (Int × Ln)) (y:Ln) (c:Int):(ZJU m y c).map (·.1)=m.map (·.1):=by
 unfold ZJU;rw[List.map_map];refine List.map_congr_left fun p _=>?_;simp only[Function.comp_apply];split <;> rfl
theorem Good05.put {C:Nat} {m:List (Int × Ln)} (G:Good05 C m) {y:Ln} {c:Int} (hy1:Asc y.1) (hy2:Low (C:Int) y.1) (hy3:Pos y.1) (hy4:Asc y.2/\Pos y.2) (hno:∀d∈y.1,ZB1 m d=none) (hc:y.1.head?=some c):Good05 C (ZJU m y c++[(c,y)]):=by
 have hcy:=head_mem hc;have hnk:∀p∈m,p.1∉y.1:=fun p hp q=>by
  have:=hno p.1 q;rw[ZKP G.nd hp] at this;cases this
 have hcm:∀p∈m,p.1≠c:=fun p hp e=>hnk p hp (e ▸ hcy)
 -- what a line becomes
 have key:∀q∈m,∃r:Ln,(if c∈q.2.1 then(q.1,ZGi q.2 y) else q)=(q.1,r)/\Asc r.1/\Low (C:Int) r.1/\Pos r.1/\(Asc r.2/\Pos r.2)/\r.1.head?=some q.1/\c∉r.1/\(∀p∈m,p.1∈r.1->p.1∈q.2.1):=fun q hq=>by
  have ha:=G.asc q hq;by_cases hcq:c∈q.2.1
  ·rw[if_pos hcq];refine⟨ZGi q.2 y,rfl,ZAR ha hy1,plus_low ha hy1 (G.low q hq) hy2,ZE8 ha hy1 (G.pos q hq) hy3,⟨ZAR (G.frm q hq).1 hy4.1,ZE8 (G.frm q hq).1 hy4.1 (G.frm q hq).2 hy4.2⟩,?_,?_,?_⟩
   ·have hh:=G.hd q hq;have hle:=ZFd ha hh c hcq;refine ZIk (ZAR ha hy1) ((ZAZ ha hy1).2 fun k=>hnk q hq (k.1 (head_mem hh))) fun x hx=>?_;rcases ZFl ha hy1 hx with k|k
    ·exact ZFd ha hh x k
    ·have:=ZFd hy1 hc x k;omega
   ·show c∉plus q.2.1 y.1;rw[ZAZ ha hy1];exact fun k=>k ⟨fun _=>hcy,fun _=>hcq⟩
   ·intro p hp k;exact(ZFl ha hy1 k).resolve_right (hnk p hp)
  ·rw[if_neg hcq];exact⟨q.2,rfl,ha,G.low q hq,G.pos q hq,G.frm q hq,G.hd q hq,hcq,fun p hp k=>k⟩
 have hall:∀p∈ZJU m y c++[(c,y)],(∃q∈m,∃r:Ln,p=(q.1,r)/\Asc r.1/\Low (C:Int) r.1/\Pos r.1/\(Asc r.2/\Pos r.2)/\r.1.head?=some q.1/\c∉r.1/\(∀p∈m,p.1∈r.1->p.1∈q.2.1)/\p=(if c∈q.2.1 then(q.1,ZGi q.2 y) else q))\/p=(c,y):=fun p hp=>by
  rcases List.mem_append.1 hp with hp|hp
  ·obtain⟨q,hq,e⟩:=ZLs hp;obtain⟨r,r0,r1,r2,r3,r4,r5,r6,r7⟩:=key q hq;exact .inl ⟨q,hq,r,by rw[e,r0],r1,r2,r3,r4,r5,r6,r7,e⟩
  ·exact .inr (List.mem_singleton.1 hp)
 refine⟨?_,fun p hp=>?_,fun p hp=>?_,fun p hp=>?_,fun p hp=>?_,fun p hp q hq hpq=>?_,fun p hp=>?_⟩
 ·rw[List.map_append,ZSb];refine List.nodup_append.2 ⟨G.nd,by simp,fun a ha b hb e=>?_⟩;simp only[List.map_cons,List.map_nil,List.mem_singleton] at hb;obtain⟨p,hp,rfl⟩:=List.mem_map.1 ha;exact hcm p hp (by rw[e,hb])
 ·rcases hall p hp with ⟨q,hq,r,rfl,r1,r2,r3,r4,r5,r6,r7,_⟩|rfl
  ·exact r5
  ·exact hc
 ·rcases hall p hp with ⟨q,hq,r,rfl,r1,r2,r3,r4,r5,r6,r7,_⟩|rfl
  ·exact r1
  ·exact hy1
 ·rcases hall p hp with ⟨q,hq,r,rfl,r1,r2,r3,r4,r5,r6,r7,_⟩|rfl
  ·exact r2
  ·exact hy2
 ·rcases hall p hp with ⟨q,hq,r,rfl,r1,r2,r3,r4,r5,r6,r7,_⟩|rfl
  ·exact r3
  ·exact hy3
 ·rcases hall p hp with ⟨q1,hq1,r,e1,r1,r2,r3,r4,r5,r6,r7,d1⟩|e1
  ·rcases hall q hq with ⟨q2,hq2,t,e2,t1,t2,t3,t4,t5,t6,t7,d2⟩|e2
   ·have h1:p.1=q1.1:=by rw[e1]
    have h2:q.2=t:=by rw[e2]
    rw[h1,h2] at hpq;have:=G.one q1 hq1 q2 hq2 (t7 q1 hq1 hpq);rw[d1,d2,this]
   ·exfalso;have h1:p.1=q1.1:=by rw[e1]
    have h2:q.2=y:=by rw[e2]
    rw[h1,h2] at hpq;exact hnk q1 hq1 hpq
  ·rcases hall q hq with ⟨q2,hq2,t,e2,t1,t2,t3,t4,t5,t6,t7,d2⟩|e2
   ·exfalso;have h1:p.1=c:=by rw[e1]
    have h2:q.2=t:=by rw[e2]
    rw[h1,h2] at hpq;exact t6 hpq
   ·rw[e1,e2]
 ·rcases hall p hp with ⟨q,hq,r,rfl,r1,r2,r3,r4,r5,r6,r7,_⟩|rfl
  ·exact r4
  ·exact hy4
theorem ZJO {rows:List (List Int)} {b:List Int} {C i:Nat} (h:i<rows.length):(ZAe rows b C)[i]?=some (wd (C:Int) rows[i] (decide ((i:Int)∈b))):=by
 unfold ZAe;rw[List.getElem?_map,List.getElem?_zipIdx,List.getElem?_eq_getElem h];simp
theorem wide_len (rows:List (List Int)) (b:List Int) (C:Nat):(ZAe rows b C).length=rows.length:=by simp[ZAe]
theorem ZT5 (i:Int) (b:List Int):ZBw [i] b=decide (i∈b):=by
 unfold ZBw;by_cases h:i∈b <;> simp[h]
theorem PInv.start (b:List Int) (C:Nat) (rows:List (List Int)):PInv b C rows 0 ([],[]) :=
 ⟨⟨List.nodup_nil,(fun p hp=>by cases hp),(fun p hp=>by cases hp),(fun p hp=>by cases hp),(fun p hp=>by cases hp),(fun p hp=>by cases hp),(fun p hp=>by cases hp)⟩,(fun p hp=>by cases hp),(fun p hp=>by cases hp),(fun p hp=>by cases hp),(fun r hr=>by simp at hr)⟩
theorem ZFH {W:List (List Int)} {i:Nat} {r:List Int} (h:r∈W.take i):r∈W.take (i+1):=by
 rw[List.take_add_one];exact List.mem_append_left _ h
theorem PInv.step {b:List Int} {C:Nat} {rows:List (List Int)} (h1:AllAsc rows) (h2:∀r∈rows,Low (C:Int) r) (h3:∀r∈rows,Pos r) {i:Nat} (hi:i<rows.length) {s:List (Int × Ln) × List (List Int)} (h:PInv b C rows i s):PInv b C rows (i+1) (ZJI C s (rows[i],i)):=by
 obtain⟨m,deps⟩:=s;have hr:=List.getElem_mem hi;have hwA:AllAsc ((ZAe rows b C).take (i+1)):=fun r hr=>by
  have:=List.mem_of_mem_take hr;unfold ZAe at this;obtain⟨p,hp,rfl⟩:=List.mem_map.1 this;have hp1:p.1∈rows:=by
   have:=List.mem_zipIdx hp;rw[this.2.2];exact List.getElem_mem _
  exact ZBE (h1 _ hp1) (h2 _ hp1)
 have hO:=redP_out h.good (C+1) 0 (rows[i],[(i:Int)]) (RedAt.start (b:=b) (C:=C) (m:=m) (x:=(rows[i],[(i:Int)])) (h1 _ hr) (h2 _ hr) (h3 _ hr) ⟨List.pairwise_singleton _ _,fun x hx=>by rw[List.mem_singleton.1 hx];omega⟩);have hwx:wdL b C (rows[i],[(i:Int)])=wd (C:Int) rows[i] (decide ((i:Int)∈b)):=by unfold wdL;rw[ZT5]
 have hwi:wdL b C (rows[i],[(i:Int)])∈(ZAe rows b C).take (i+1):=by
  rw[hwx];refine List.mem_iff_getElem?.2 ⟨i,?_⟩;rw[List.getElem?_take,if_pos (by omega)];exact ZJO hi
 unfold ZJI;simp only;generalize ZHK m (C+1) 0 (rows[i],[(i:Int)])=y at hO;obtain⟨v,v1,v2⟩:=hO.spn;have hLA:AllAsc (m.map fun p=>wdL b C p.2):=fun r hr=>by
  obtain⟨p,hp,rfl⟩:=List.mem_map.1 hr;exact ZBE (h.good.asc p hp) (h.good.low p hp)
 have hva:=v1.asc hLA;have hxa:Asc (wdL b C (rows[i],[(i:Int)])):=ZBE (h1 _ hr) (h2 _ hr);have hya:Asc (wdL b C y):=ZBE hO.asc hO.low;have hvW:Span ((ZAe rows b C).take (i+1)) v:=Span.trans hwA (fun r hr=>by
  obtain⟨p,hp,rfl⟩:=List.mem_map.1 hr;exact(h.sp1 p hp).trans hwA fun r hr=>Span.one (ZFH hr)) v1
 have hyW:Span ((ZAe rows b C).take (i+1)) (wdL b C y):=by rw[v2];exact Span.plus hwA (Span.one hwi) hvW
 have hback:wdL b C (rows[i],[(i:Int)])=plus (wdL b C y) v:=by rw[v2,ZDD hxa hva hva,ZHI hva,plus_nil]
 have hlast:∀r∈(ZAe rows b C).take (i+1),r∈(ZAe rows b C).take i\/r=wdL b C (rows[i],[(i:Int)]):=fun r hr=>by
  rw[List.take_add_one,ZJO hi] at hr;rcases List.mem_append.1 hr with hr|hr
  ·exact .inl hr
  ·simp only[Option.toList_some,List.mem_singleton] at hr;exact .inr (by rw[hwx,hr])
 have hdA:∀(l:List (List Int)),AllAsc (l.map fun y=>wd (C:Int) [] (ZBw y b)):=fun l r hr=>by
  obtain⟨p,hp,rfl⟩:=List.mem_map.1 hr;exact ZBE List.Pairwise.nil (fun x hx=>by cases hx)
 cases hy:y.1 with
 | nil =>
  simp only;have hyw:wdL b C y=wd (C:Int) [] (ZBw y.2 b):=by unfold wdL;rw[hy]
  have hall:AllAsc ((m.map fun p=>wdL b C p.2)++(deps++[y.2]).map fun y=>wd (C:Int) [] (ZBw y b)):=fun r hr=>by
   rcases List.mem_append.1 hr with hr|hr
   ·exact hLA r hr
   ·exact hdA _ r hr
  refine⟨h.good,fun z hz=>?_,fun p hp=>(h.sp1 p hp).trans hwA fun r hr=>Span.one (ZFH hr),fun z hz=>?_,fun r hr=>?_⟩
  ·rcases List.mem_append.1 hz with hz|hz
   ·exact h.dep z hz
   ·rw[List.mem_singleton.1 hz];exact hO.frm
  ·rcases List.mem_append.1 hz with hz|hz
   ·exact(h.sp2 z hz).trans hwA fun r hr=>Span.one (ZFH hr)
   ·rw[List.mem_singleton.1 hz,<- hyw];exact hyW
  ·rcases hlast r hr with hr|rfl
   ·refine(h.sp3 r hr).trans hall fun r hr=>Span.one ?_;rcases List.mem_append.1 hr with hr|hr
    ·exact List.mem_append_left _ hr
    ·refine List.mem_append_right _ ?_;rw[List.map_append];exact List.mem_append_left _ hr
   ·rw[hback];refine Span.plus hall (Span.one (List.mem_append_right _ ?_)) (v1.trans hall fun r hr=>Span.one (List.mem_append_left _ hr));rw[hyw];simp
 | cons c t =>
  simp only;have hc:y.1.head?=some c:=by rw[hy];rfl
  have G:=h.good.put hO.asc hO.low hO.pos hO.frm hO.no hc;have hyl:wdL b C y∈(ZJU m y c++[(c,y)]).map fun p=>wdL b C p.2:=by rw[List.map_append];simp
  have hall:AllAsc (((ZJU m y c++[(c,y)]).map fun p=>wdL b C p.2)++deps.map fun y=>wd (C:Int) [] (ZBw y b)):=fun r hr=>by
   rcases List.mem_append.1 hr with hr|hr
   ·obtain⟨p,hp,rfl⟩:=List.mem_map.1 hr;exact ZBE (G.asc p hp) (G.low p hp)
   ·exact hdA _ r hr
  -- the old lines
  have hold:∀p∈m,Span (((ZJU m y c++[(c,y)]).map fun p=>wdL b C p.2)++deps.map fun y=>wd (C:Int) [] (ZBw y b)) (wdL b C p.2):=fun p hp=>by
   have hpa:Asc (wdL b C p.2):=ZBE (h.good.asc p hp) (h.good.low p hp);have hm:(if c∈p.2.1 then(p.1,ZGi p.2 y) else p)∈ZJU m y c:=List.mem_map.2 ⟨p,hp,rfl⟩;have hs:Span (((ZJU m y c++[(c,y)]).map fun p=>wdL b C p.2)++deps.map fun y=>wd (C:Int) [] (ZBw y b)) (wdL b C (if c∈p.2.1 then(p.1,ZGi p.2 y) else p).2):=Span.one (List.mem_append_left _ (List.mem_map.2 ⟨_,List.mem_append_left _ hm,rfl⟩));by_cases hcp:c∈p.2.1
   ·rw[if_pos hcp] at hs;have h5:=Span.plus hall hs (Span.one (List.mem_append_left _ hyl));simp only at h5;rw[ZLw (h.good.asc p hp) hO.asc (h.good.low p hp) hO.low,ZDD hpa hya hya,ZHI hya,plus_nil] at h5;exact h5
   ·rw[if_neg hcp] at hs;exact hs
  refine⟨G,h.dep,fun p hp=>?_,fun z hz=>(h.sp2 z hz).trans hwA fun r hr=>Span.one (ZFH hr),fun r hr=>?_⟩
  ·simp only at hp;rcases List.mem_append.1 hp with hp|hp
   ·obtain⟨q,hq,e⟩:=ZLs hp;have hqW:Span ((ZAe rows b C).take (i+1)) (wdL b C q.2):=(h.sp1 q hq).trans hwA fun r hr=>Span.one (ZFH hr);rw[e];split
    ·simp only;rw[ZLw (h.good.asc q hq) hO.asc (h.good.low q hq) hO.low];exact Span.plus hwA hqW hyW
    ·exact hqW
   ·rw[List.mem_singleton.1 hp];exact hyW
  ·simp only;have hmB:∀r∈m.map (fun p=>wdL b C p.2),Span (((ZJU m y c++[(c,y)]).map fun p=>wdL b C p.2)++deps.map fun y=>wd (C:Int) [] (ZBw y b)) r:=fun r hr=>by
    obtain⟨p,hp,rfl⟩:=List.mem_map.1 hr;exact hold p hp
   rcases hlast r hr with hr|rfl
   ·refine(h.sp3 r hr).trans hall fun r hr=>?_;rcases List.mem_append.1 hr with hr|hr
    ·exact hmB r hr
    ·exact Span.one (List.mem_append_right _ hr)
   ·rw[hback];exact Span.plus hall (Span.one (List.mem_append_left _ hyl)) (v1.trans hall hmB)
def ZN0 (rows:List (List Int)) (C i:Nat):List (Int × Ln) × List (List Int):=(rows.zipIdx.take i).foldl (ZJI C) ([],[])
theorem echN_succ {rows:List (List Int)} {C i:Nat} (h:i<rows.length):ZN0 rows C (i+1)=ZJI C (ZN0 rows C i) (rows[i],i):=by
 unfold ZN0;rw[List.take_add_one,List.foldl_append,List.getElem?_zipIdx,List.getElem?_eq_getElem h];simp
theorem echN_all (rows:List (List Int)) (C:Nat):ZN0 rows C rows.length=echP rows C:=by
 unfold ZN0 echP;rw[List.take_of_length_le (by simp)]
theorem PInv.all {b:List Int} {C:Nat} {rows:List (List Int)} (h1:AllAsc rows) (h2:∀r∈rows,Low (C:Int) r) (h3:∀r∈rows,Pos r):∀i,i≤rows.length->PInv b C rows i (ZN0 rows C i)
 | 0,_=>PInv.start b C rows
 | i+1,h=>by
  rw[echN_succ (by omega)];exact(PInv.all h1 h2 h3 i (by omega)).step h1 h2 h3 (by omega)
end
section
def ZF7 (m:List (Int × Ln)) (C:Nat):List Ln:=(List.range C).filterMap fun c:Nat=>ZB1 m (c:Int)
theorem outP_mem {C:Nat} {m:List (Int × Ln)} (G:Good05 C m) {l:Ln}:l∈ZF7 m C↔∃c,(c,l)∈m:=by
 unfold ZF7;rw[List.mem_filterMap];constructor
 ·rintro⟨c,_,h⟩;exact⟨_,lookP_some h⟩
 ·rintro⟨c,h⟩;have hh:=G.hd _ h;have h1:=G.low _ h c (head_mem hh);have h2:=G.pos _ h c (head_mem hh);refine⟨c.toNat,List.mem_range.2 (by omega),?_⟩;have:=ZKP G.nd h;rw[Int.toNat_of_nonneg h2];exact this
theorem ZR5 {C:Nat} {m:List (Int × Ln)} (G:Good05 C m):(ZF7 m C).Pairwise fun a b=>hdI a.1<hdI b.1:=by
 unfold ZF7;rw[List.pairwise_filterMap];refine List.pairwise_lt_range.imp fun {c d} h l hl l' hl'=>?_;have h1:=G.hd _ (lookP_some hl);have h2:=G.hd _ (lookP_some hl');simp only at h1 h2;simp only[hdI,h1,h2,Option.getD_some];omega
theorem ZIh {α β:Type} {f g:α->Option β}:∀ {l:List α},(∀x∈l,f x=g x)->l.filterMap f=l.filterMap g
 | [],_=>rfl
 | x::l,h=>by
  rw[List.filterMap_cons,List.filterMap_cons,h x (by simp),ZIh fun y hy=>h y (by simp[hy])]
theorem sol_same {rows:List (List Int)} {b:List Int} {C:Nat} (h1:AllAsc rows) (h2:∀r∈rows,Low (C:Int) r) (h3:∀r∈rows,Pos r):solP rows b C=solR rows b C:=by
 have h:=PInv.all (b:=b) h1 h2 h3 rows.length (Nat.le_refl _);rw[echN_all] at h;have hwl:(ZAe rows b C).take rows.length=ZAe rows b C:=List.take_of_length_le (by rw[wide_len];exact Nat.le_refl _);obtain⟨G,hdep,s1,s2,s3⟩:=h;rw[hwl] at s1 s2 s3;have hW:∀r∈ZAe rows b C,Asc r/\Low ((C+1:Nat):Int) r/\Pos r:=fun r hr=>by
  unfold ZAe at hr;obtain⟨p,hp,rfl⟩:=List.mem_map.1 hr;have hp1:p.1∈rows:=by
   have:=List.mem_zipIdx hp;rw[this.2.2];exact List.getElem_mem _
  refine⟨ZBE (h1 _ hp1) (h2 _ hp1),fun x hx=>?_,fun x hx=>?_⟩
  ·rcases ZB4.1 hx with k|k
   ·have:=h2 _ hp1 x k;omega
   ·omega
  ·rcases ZB4.1 hx with k|k
   ·exact h3 _ hp1 x k
   ·omega
 have hWA:AllAsc (ZAe rows b C):=fun r hr=>(hW r hr).1;obtain⟨e1,e2,e3,e4⟩:=echR_ok (W:=ZAe rows b C) (C:=C+1) hWA (fun r hr=>(hW r hr).2.2) (fun r hr=>(hW r hr).2.1);unfold solP solR;generalize echP rows C=s at G hdep s1 s2 s3;obtain⟨m,deps⟩:=s;simp only at G hdep s1 s2 s3 ⊢;generalize echR (ZAe rows b C) (C+1)=E at e1 e2 e3 e4;cases hd:deps.any fun y=>ZBw y b with
 | true =>
  obtain⟨y,hy,hyo⟩:=List.any_eq_true.1 hd;have hs:=s2 y hy;rw[hyo] at hs;have hs':Span E (wd (C:Int) [] true):=hs.trans e1.asc e3;obtain⟨r,hr,hrc⟩:=e1.head hs' (c:=(C:Int)) rfl;rw[if_pos rfl,if_pos (List.any_eq_true.2 ⟨r,hr,by rw[hdI,hrc];simp⟩)]
 | false =>
  rw[if_neg (by decide)];have hev:∀y∈deps,ZBw y b=false:=fun y hy=>by
   cases e:ZBw y b with
   | false=>rfl
   | true =>
    have:(deps.any fun y=>ZBw y b)=true:=List.any_eq_true.2 ⟨y,hy,e⟩;rw[hd] at this;cases this
  -- the wide lines are the reference's rows
  have hO:∀r,r∈(ZF7 m C).map (wdL b C)↔∃p∈m,wdL b C p.2=r:=fun r=>by
   rw[List.mem_map];constructor
   ·rintro⟨l,hl,rfl⟩;obtain⟨c,hc⟩:=(outP_mem G).1 hl;exact⟨_,hc,rfl⟩
   ·rintro⟨⟨c,l⟩,hp,rfl⟩;exact⟨l,(outP_mem G).2 ⟨c,hp⟩,rfl⟩
  have hhd:∀p∈m,(wdL b C p.2).head?=some p.1:=fun p hp=>ZUZ (G.hd p hp);have hkl:∀p∈m,p.1<(C:Int):=fun p hp=>G.low p hp _ (head_mem (G.hd p hp));have hR:Red ((ZF7 m C).map (wdL b C)):=by
   refine⟨fun r hr=>?_,fun r hr e=>?_,fun r hr t ht c hc hct=>?_⟩
   ·obtain⟨p,hp,rfl⟩:=(hO r).1 hr;exact ZBE (G.asc p hp) (G.low p hp)
   ·obtain⟨p,hp,rfl⟩:=(hO r).1 hr;have:=hhd p hp;rw[e] at this;cases this
   ·obtain⟨p,hp,rfl⟩:=(hO r).1 hr;obtain⟨q,hq,rfl⟩:=(hO t).1 ht;rw[hhd p hp] at hc;cases hc;have hm:p.1∈q.2.1:=by
     rcases ZB4.1 hct with k|k
     ·exact k
     ·have:=hkl p hp;omega
    rw[G.one p hp q hq hm]
  have hsp1:∀r∈(ZF7 m C).map (wdL b C),Span E r:=fun r hr=>by
   obtain⟨p,hp,rfl⟩:=(hO r).1 hr;exact(s1 p hp).trans e1.asc e3
  have hsp2:∀r∈E,Span ((ZF7 m C).map (wdL b C)) r:=fun r hr=>by
   refine((e2 r hr).trans (C:=(m.map fun p=>wdL b C p.2)++deps.map fun y=>wd (C:Int) [] (ZBw y b)) (fun t ht=>?_) s3).trans hR.asc fun t ht=>?_
   ·rcases List.mem_append.1 ht with ht|ht
    ·obtain⟨p,hp,rfl⟩:=List.mem_map.1 ht;exact ZBE (G.asc p hp) (G.low p hp)
    ·obtain⟨y,hy,rfl⟩:=List.mem_map.1 ht;exact ZBE List.Pairwise.nil (fun x hx=>by cases hx)
   ·rcases List.mem_append.1 ht with ht|ht
    ·obtain⟨p,hp,rfl⟩:=List.mem_map.1 ht;exact Span.one ((hO _).2 ⟨p,hp,rfl⟩)
    ·obtain⟨y,hy,rfl⟩:=List.mem_map.1 ht;rw[hev y hy];exact Span.zero
  have hord:((ZF7 m C).map (wdL b C)).Pairwise fun r s=>hdI r<hdI s:=by
   rw[List.pairwise_map];refine(ZR5 G).imp_of_mem fun {a b'} ha hb h=>?_;obtain⟨c,hc⟩:=(outP_mem G).1 ha;obtain⟨d,hd'⟩:=(outP_mem G).1 hb;have k1:=hhd _ hc;have k2:=hhd _ hd';have k3:=G.hd _ hc;have k4:=G.hd _ hd';simp only at k1 k2 k3 k4;simp only[hdI,k3,k4,Option.getD_some] at h;simp only[hdI,k1,k2,Option.getD_some];exact h
  have hE:=ZNM hR e1 hsp1 hsp2 hord e4;rw[<- hE];rw[if_neg (fun q=>by
   obtain⟨r,hr,hrc⟩:=List.any_eq_true.1 q;obtain⟨p,hp,rfl⟩:=(hO r).1 hr;have:=of_decide_eq_true hrc;rw[hdI,hhd p hp,Option.getD_some] at this;have:=hkl p hp;omega)]
  congr 1
  -- the places
  unfold ZF7;rw[List.filter_map,List.map_map,List.filter_filterMap,List.map_filterMap];refine ZIh fun c hc=>?_;cases hl:ZB1 m (c:Int) with
  | none=>rfl
  | some l =>
   have hm:=lookP_some hl;have k1:=hhd _ hm;simp only at k1;have hCm:decide ((C:Int)∈wdL b C l)=ZBw l.2 b:=by
    have hn:(C:Int)∉l.1:=fun q=>by have:=G.low _ hm _ q;omega
    cases e:ZBw l.2 b with
    | true=>exact decide_eq_true (ZB4.2 (.inr ⟨e,rfl⟩))
    | false =>
     refine decide_eq_false fun q=>?_;rcases ZB4.1 q with k|k
     ·exact hn k
     ·rw[e] at k;cases k.1
   simp only[Function.comp_apply,Option.filter_some,hCm];cases e:ZBw l.2 b with
   | true=>simp[hdI,k1]
   | false=>simp
end
section
theorem ZR1 {E:List (List Int)} {y:List Int} (h:∀r∈E,ZBw r y=false) {v:List Int} (hv:Span E v):ZBw v y=false:=by
 induction hv with
 | zero=>rfl
 | add hr _ ih=>rw[ZMd,h _ hr,ih];rfl
theorem ZNR {p:Int->Bool} {a c:Int} (hac:a<c):∀ {l:List Int},Asc l->a∈l->c∈l->p a=true->p c=true->(∀x∈l,p x=true->x=a\/x=c)->(l.filter p).length=2:=by
 intro l hl ha hc pa pc ho;have h1:(l.filter p)=[a,c]:=by
  refine asc_ext (hl.filter _) (List.pairwise_cons.2 ⟨fun y hy=>by rw[List.mem_singleton.1 hy];exact hac,List.pairwise_singleton _ _⟩) fun x=>?_;rw[List.mem_filter];constructor
  ·rintro⟨q1,q2⟩;rcases ho x q1 q2 with rfl|rfl <;> simp
  ·intro q;simp only[List.mem_cons,List.not_mem_nil,or_false] at q;rcases q with rfl|rfl
   ·exact⟨ha,pa⟩
   ·exact⟨hc,pc⟩
 rw[h1];rfl
structure Solves (rows:List (List Int)) (b:List Int) (C:Nat) (x:List Int):Prop where
 asc:Asc x
 rng:∀c∈x,0≤c/\c<(C:Int)
 sat:∀i (h:i<rows.length),ZBw rows[i] x=decide ((i:Int)∈b)
theorem sol_sat {rows:List (List Int)} {b:List Int} {C:Nat} (h1:AllAsc rows) (h2:∀r∈rows,Low (C:Int) r) (h3:∀r∈rows,Pos r) {x:List Int} (hx:solR rows b C=some x):Solves rows b C x:=by
 have hW:∀r∈ZAe rows b C,Asc r/\Low ((C+1:Nat):Int) r/\Pos r:=fun r hr=>by
  unfold ZAe at hr;obtain⟨p,hp,rfl⟩:=List.mem_map.1 hr;have hp1:p.1∈rows:=by
   have:=List.mem_zipIdx hp;rw[this.2.2];exact List.getElem_mem _
  refine⟨ZBE (h1 _ hp1) (h2 _ hp1),fun x hx=>?_,fun x hx=>?_⟩
  ·rcases ZB4.1 hx with k|k
   ·have:=h2 _ hp1 x k;omega
   ·omega
  ·rcases ZB4.1 hx with k|k
   ·exact h3 _ hp1 x k
   ·omega
 have hWA:AllAsc (ZAe rows b C):=fun r hr=>(hW r hr).1;obtain⟨e1,e2,e3,e4⟩:=echR_ok (W:=ZAe rows b C) (C:=C+1) hWA (fun r hr=>(hW r hr).2.2) (fun r hr=>(hW r hr).2.1);unfold solR at hx;generalize echR (ZAe rows b C) (C+1)=E at e1 e2 e3 e4 hx;split at hx
 ·cases hx
 ·rename_i hno;have hno:∀r∈E,hdI r≠(C:Int):=fun r hr q=>hno (List.any_eq_true.2 ⟨r,hr,decide_eq_true q⟩);have hx:(E.filter fun r=>decide ((C:Int)∈r)).map hdI=x:=Option.some.inj hx;have hEl:∀r∈E,Low ((C+1:Nat):Int) r:=fun r hr=>Span.low hWA (fun r hr=>(hW r hr).2.1) (e2 r hr);have hEp:∀r∈E,Pos r:=fun r hr=>by
   have:∀ {v:List Int},Span (ZAe rows b C) v->Pos v:=fun {v} hv=>by
    induction hv with
    | zero=>intro x hx;cases hx
    | add hr h ih=>exact ZE8 (hWA _ hr) (h.asc hWA) ((hW _ hr).2.2) ih
   exact this (e2 r hr)
  have hhd:∀r∈E,r.head?=some (hdI r):=fun r hr=>by
   cases r with
   | nil=>exact absurd rfl (e1.pos _ hr)
   | cons y r=>rfl
  have hmem:∀c,c∈x↔∃r∈E,(C:Int)∈r/\hdI r=c:=fun c=>by
   rw[<- hx,List.mem_map];constructor
   ·rintro⟨r,hr,e⟩;obtain⟨q1,q2⟩:=List.mem_filter.1 hr;exact⟨r,q1,of_decide_eq_true q2,e⟩
   ·rintro⟨r,hr,hc,e⟩;exact⟨r,List.mem_filter.2 ⟨hr,decide_eq_true hc⟩,e⟩
  have hxr:∀c∈x,0≤c/\c<(C:Int):=fun c hc=>by
   obtain⟨r,hr,_,rfl⟩:=(hmem c).1 hc;have q1:=hEp r hr _ (head_mem (hhd r hr));have q2:=hEl r hr _ (head_mem (hhd r hr));have q3:=hno r hr;omega
  have hxa:Asc x:=by
   rw[<- hx];show List.Pairwise _ _;rw[List.pairwise_map];exact e4.filter _
  refine⟨hxa,hxr,fun i hi=>?_⟩;have hE:∀r∈E,ZBw r (wd (C:Int) x true)=false:=fun r hr=>by
   have hin:∀c∈r,c∈wd (C:Int) x true->c=hdI r\/c=(C:Int):=fun c hc hcx=>by
    rcases ZB4.1 hcx with k|k
    ·obtain⟨s,hs,_,rfl⟩:=(hmem c).1 k
     left
     rw[e1.one s hs r hr _ (hhd s hs) hc]
    ·exact .inr k.2
   unfold ZBw;by_cases hC:(C:Int)∈r
   ·have hne:=hno r hr;have hlt:hdI r<(C:Int):=by have:=hEl r hr _ (head_mem (hhd r hr));omega
    rw[ZNR (a:=hdI r) (c:=(C:Int)) hlt (e1.asc r hr) (head_mem (hhd r hr)) hC (decide_eq_true (ZB4.2 (.inl ((hmem _).2 ⟨r,hr,hC,rfl⟩)))) (decide_eq_true (ZB4.2 (.inr ⟨rfl,rfl⟩))) fun c hc q=>hin c hc (of_decide_eq_true q)];rfl
   ·have:(r.filter fun c=>decide (c∈wd (C:Int) x true))=[]:=List.filter_eq_nil_iff.2 fun c hc q=>by
     have q:=of_decide_eq_true q;rcases hin c hc q with e|e
     ·rcases ZB4.1 q with k|k
      ·obtain⟨s,hs,hCs,e2⟩:=(hmem c).1 k;have:=e1.one s hs r hr c (e2 ▸ hhd s hs) hc;rw[this] at hC;exact hC hCs
      ·exact hC (k.2 ▸ hc)
     ·exact hC (e ▸ hc)
    rw[this];rfl
  have hw:ZBw (wd (C:Int) rows[i] (decide ((i:Int)∈b))) (wd (C:Int) x true)=false:=by
   refine ZR1 hE (e3 _ ?_);exact List.mem_iff_getElem?.2 ⟨i,ZJO hi⟩
  have hri:=List.getElem_mem hi;have hn:(C:Int)∉rows[i]:=fun q=>by have:=h2 _ hri _ q;omega
  have hf:(rows[i].filter fun c=>decide (c∈wd (C:Int) x true))=rows[i].filter fun c=>decide (c∈x):=List.filter_congr fun c hc=>by
   have:c≠(C:Int):=fun e=>hn (e ▸ hc);rw[decide_eq_decide,ZB4];simp[this]
  have h0:ZBw rows[i] x=ZBw rows[i] (wd (C:Int) x true):=by unfold ZBw;rw[hf]
  rw[h0];generalize hob:decide ((i:Int)∈b)=o at hw;cases o with
  | false=>exact hw
  | true =>
   have hap:ZBw (rows[i]++[(C:Int)]) (wd (C:Int) x true) = !ZBw rows[i] (wd (C:Int) x true):=by
    unfold ZBw;rw[List.filter_append,List.length_append];have:([(C:Int)].filter fun c=>decide (c∈wd (C:Int) x true))=[(C:Int)]:=by
     rw[List.filter_cons,if_pos (decide_eq_true (ZB4.2 (.inr ⟨rfl,rfl⟩)))];rfl
    rw[this,List.length_singleton];by_cases q:(rows[i].filter fun c=>decide (c∈wd (C:Int) x true)).length % 2=1
    ·rw[decide_eq_true q,decide_eq_false (by omega)];rfl
    ·rw[decide_eq_false q,decide_eq_true (by omega)];rfl
   have h5:ZBw (rows[i]++[(C:Int)]) (wd (C:Int) x true)=false:=hw;rw[hap] at h5;cases e:ZBw rows[i] (wd (C:Int) x true) with
   | true=>rfl
   | false=>rw[e] at h5;cases h5
end
end Go.Proofs.YtofkoleingbbpaaGreatDoor.L05
namespace Go.Proofs.YtofkoleingbbpaaGreatDoor
section
open Go.RowKit
theorem ZDj:ElT Tryz.prog 103 23 1 (.slice none 0 0) 24 false:=⟨Tryz.underlying103,by kernel_rfl,Tryz.isAgg23,rfl⟩
theorem ZPK:ElT Tryz.prog 151 155 2 (.agg #[.slice none 0 0,.slice none 0 0]) 48 true:=⟨Tryz.underlying151,by kernel_rfl,Tryz.isAgg155,rfl⟩
theorem ZLA:TyI Tryz.prog 23 1 false:=⟨by kernel_rfl,Tryz.isAgg23⟩
theorem ZKx:TyI Tryz.prog 103 1 false:=⟨by kernel_rfl,Tryz.isAgg103⟩
theorem ZLq:TyI Tryz.prog 155 2 true:=⟨by kernel_rfl,Tryz.isAgg155⟩
theorem ZQw:TyI Tryz.prog 184 1 false:=⟨by kernel_rfl,Tryz.isAgg184⟩
theorem ZHn:TyI Tryz.prog 105 2 true:=⟨by kernel_rfl,Tryz.isAgg105⟩
theorem ZQd:TyZ Tryz.prog 155 (.agg #[.slice none 0 0,.slice none 0 0]):=⟨by kernel_rfl⟩
theorem tzQ3:TyZ Tryz.prog 184 (.map none):=⟨by kernel_rfl⟩
theorem ZN2:TyZ Tryz.prog 105 (.agg #[.int .i64 0,.slice none 0 0]):=⟨by kernel_rfl⟩
def ZC9 (n:Int):Prop:=-9223372036854775808≤n/\n≤9223372036854775807
theorem wf64Q {n:Int} (h:ZC9 n):(Lit.int .i64 n).wf=true:=by
 obtain⟨h1,h2⟩:=h;show(decide (IntKind.i64.min≤n) && decide (n≤IntKind.i64.max))=true;have e1:IntKind.i64.min = -9223372036854775808:=by decide
 have e2:IntKind.i64.max=9223372036854775807:=by decide
 rw[e1,e2,decide_eq_true h1,decide_eq_true h2];rfl
abbrev kvQ:Int->Value:=fun n=>Value.int .i64 n
theorem ZE1:KeyT Tryz.prog 3 kvQ ZC9 where
 law:=Go.Maps.int_keyed Tryz.underlying3
 lit:=fun n h=>⟨_,Go.Maps.keyOf_int_mk Tryz.underlying3 (wf64Q h)⟩
 inj:=fun x y _ _ h=>by injection h
theorem ZHE:MapT Tryz.prog 184 3 155 (.agg #[.slice none 0 0,.slice none 0 0]):=⟨Tryz.underlying184,fun w=>by kernel_rfl⟩
abbrev Mat:Rel (Int × List (List Int)):=R2 RI (Arr ZAQ)
abbrev LnR:Rel (List Int × List Int):=R2 ZAQ ZAQ
theorem lnT:ColT Tryz.prog 155:=by
 constructor
 ·intro b off w;go_simp
 ·intro b off w;go_simp
 ·intro a n c a' n' c' w;go_simp
structure FldT (P:Program) (T:TypeId):Prop where
 fld0:∀b off w,(Instr.fieldAt T (.pointer (some ⟨b,off,none⟩)) 0).run P w = .ok (.pointer (some ⟨b,off+0,none⟩)) w
 fld1:∀b off w,(Instr.fieldAt T (.pointer (some ⟨b,off,none⟩)) 1).run P w = .ok (.pointer (some ⟨b,off+1,none⟩)) w
theorem ZEj:FldT Tryz.prog 105:=by
 constructor
 ·intro b off w;go_simp
 ·intro b off w;go_simp
theorem ZJJ:StrT Tryz.prog 105 2:=⟨fun b off i w hi=>by
 match i,hi with
 | 0,_=>go_simp
 | 1,_=>go_simp⟩
section
variable {P:Program} {ops:Array Oper} {hp:List HObj} {fr:List Dat} {d:Dat} {Q:Z4} {rest:List Oper}
variable {dst:Option Tmp} {ty:TypeId} {ps:String} {af:Array Edge} {g:Option (Nat × Bool)} {T:TypeId}
theorem Z9 (V:FldT P T) {α β:Type} {R:Rel α} {S:Rel β} {_gR:Good R} {_gS:Good S} {x:Operand} {p:α × β} (hx:OpD fr x (dP 2 true (dS (R2 R S) p))):SY P ops hp ⟨dst,.fieldAddr T x 0,ty,ps,af,g⟩ fr (dP 1 false (dS R p.1)):=ZWK fun {I w a} ho=>by
 obtain⟨b,off,u,h1,⟨hb,cs,k1,k0,k2,k3,k4⟩,v0,v1,hu,q0,q1,q2,q3⟩:=hx.get (by simp[Op.operands]) ho;simp only[if_true] at k4;rw[k4] at hu;have hcs:cs=[v0,v1]:=by injection hu with hu;exact List.toArray_inj hu
 subst hcs;refine⟨_,?_,b,off+0,v0,rfl,⟨hb,[v0],rfl,Nat.one_pos,by simp[q0],fun j c hc=>?_,rfl⟩,q2⟩
 ·unfold execOp;simp only[h1,Sem.run_bind,V.fld0,Result.andThen_ok,Sem.run_pure]
 ·have hj:j=0:=by have:=(List.getElem?_eq_some_iff.1 hc).1;simpa using this
  subst hj;cases hc;exact k3 0 _ rfl
theorem ZAB (V:FldT P T) {α β:Type} {R:Rel α} {S:Rel β} {_gR:Good R} {_gS:Good S} {x:Operand} {p:α × β} (hx:OpD fr x (dP 2 true (dS (R2 R S) p))):SY P ops hp ⟨dst,.fieldAddr T x 1,ty,ps,af,g⟩ fr (dP 1 false (dS S p.2)):=ZWK fun {I w a} ho=>by
 obtain⟨b,off,u,h1,⟨hb,cs,k1,k0,k2,k3,k4⟩,v0,v1,hu,q0,q1,q2,q3⟩:=hx.get (by simp[Op.operands]) ho;simp only[if_true] at k4;rw[k4] at hu;have hcs:cs=[v0,v1]:=by injection hu with hu;exact List.toArray_inj hu
 subst hcs;refine⟨_,?_,b,off+1,v1,rfl,⟨hb,[v1],rfl,Nat.one_pos,by simp[q1],fun j c hc=>?_,rfl⟩,q3⟩
 ·unfold execOp;simp only[h1,Sem.run_bind,V.fld1,Result.andThen_ok,Sem.run_pure]
 ·have hj:j=0:=by have:=(List.getElem?_eq_some_iff.1 hc).1;simpa using this
  subst hj;cases hc;exact k3 1 _ rfl
theorem ZOJ (V:ColT P T) {α β:Type} {R:Rel α} {S:Rel β} {_gR:Good R} {_gS:Good S} {x y:Operand} {xs:List α} {ys:List β} (hx:OpD fr x (dS (Arr R) xs)) (hy:OpD fr y (dS (Arr S) ys)):SY P ops hp ⟨dst,.build T #[(0,x),(1,y)],ty,ps,af,g⟩ fr (dS (R2 (Arr R) (Arr S)) (xs,ys)):=ZWK fun {I w a} ho=>by
 have h1:Arr R I w (a.eval x) xs:=hx.get (by simp[Op.operands]) ho;have h2:Arr S I w (a.eval y) ys:=hy.get (by simp[Op.operands]) ho;have h1':=h1;have h2':=h2;obtain⟨ad,c,hv,_⟩:=h1';obtain⟨ad',c',hv',_⟩:=h2';rw[hv] at h1;rw[hv'] at h2;refine⟨.agg #[.slice ad xs.length c,.slice ad' ys.length c'],?_,_,_,rfl,rfl,rfl,h1,h2⟩;unfold execOp;simp only[List.map_toArray,List.map_cons,List.map_nil,hv,hv',Sem.run_bind,V.mkp,Result.andThen_ok,Sem.run_pure]
theorem Zg {x i:Operand} {t e:TypeId} {z:Value} {bytes:Nat} (E:ElT P t e 1 z bytes false) {α:Type} {R:Rel α} {_gR:Good R} {xs:List α} {k:Nat} {v:α} (hk:k<xs.length) (hv:xs[k]=v) (hx:OpD fr x (dS (Arr R) xs)) (hi:OpD fr i (dI (k:Int))) :
  SY P ops hp ⟨dst,.indexAddr t x i,ty,ps,af,g⟩ fr (dP 1 false (dS R v)):=hv ▸ ZV8 E hx hi hk
theorem ZGf {x y:Operand} {t e:TypeId} {z:Value} {bytes:Nat} {ag:Bool} (E:ElT P t e 1 z bytes ag) {α:Type} {R:Rel α} {_gR:Good R} {a:α} {xs:List α} (hx:OpD fr x (dS (Arr R) (a::xs))) (hy:OpD fr y (dI 1)) :
  SY P ops hp ⟨dst,.slice t x (some y) none none,ty,ps,af,g⟩ fr (dS (Arr R) xs):=ZQ5 (_gR:=_gR) (xs:=a::xs) E hx hy 1 rfl (by simp)
theorem ZRL {α:Type} {R:Rel α} {_gR:Good R} {t e:TypeId} {bytes:Nat} {z:Value} {ag:Bool} {k:Nat} {j:Int} {y:Operand} (E:ElT P t e 1 z bytes ag) (hy:OpD fr y (dI j)) (hj:j=(k:Int)) (hb:bytes*k≤281474976710656) (hm:k≤maxLen) (h:∀v,WL P ops Q rest (ZC fr dst (dX v)) (Zk v e R []::hp)) :
  WL P ops Q (⟨dst,.makeSlice t (.const (.int .i64 0)) y,ty,ps,af,none⟩::rest) fr hp:=by
 refine WL.of fun P0 B w0 w a hh hf=>?_;have h1:a.eval y = .int .i64 k:=by rw[<- hj];exact hy.ev hf
 obtain⟨i,hi,hz,hsz,hbt⟩:=info_parts E.info;obtain⟨w',hr,r1,r2⟩:=run_make_own (P:=P) w 0 t e i z 1 E.und hi hz hsz .i64 .i64 k (by rw[hbt];exact hb) hm (Nat.zero_le _);refine Zo rfl (v:=.slice (some ⟨w.heap.size,0,none⟩) 0 k) (w':=w') ?_ ?_
 ·unfold execOp;have hc:a.eval (.const (.int .i64 0)) = .int .i64 0:=rfl;simp only[h1,hc,Sem.run_bind,hr,Result.andThen_ok,Sem.run_pure]
 have hx:Ext w w':=⟨r2.os,r2.tape,r2.output,r2.size,fun k hk=>r2.block k hk (by simp)⟩;have hb:∀q,(Zk (.slice (some ⟨w.heap.size,0,none⟩) 0 k) e R ([]:List α)).blk=some q->w.heap.size≤q/\q<w'.heap.size:=fun q hq=>by
  cases hq;exact⟨Nat.le_refl _,(r1.lt _ rfl).2⟩
 refine(h _).on (hh.push hx hb ⟨[],rfl,r1,fun k a b=>absurd b (Nat.not_lt_zero _)⟩) ?_;exact ZWN (hf.mono fun d _ hd=>ZAJ hx (fun k hk=>(hb k hk).1) hd) rfl
end
end
end Go.Proofs.YtofkoleingbbpaaGreatDoor
