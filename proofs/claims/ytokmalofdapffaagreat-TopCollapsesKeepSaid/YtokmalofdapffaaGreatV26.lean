/- Part 26: walks by contracts, and plain laws. -/
import Derived.Test.YtokmalofdapffaaGreatV25
set_option linter.unusedVariables false
set_option linter.unusedSimpArgs false
set_option linter.unusedSectionVars false
set_option maxRecDepth 100000
set_option maxHeartbeats 4000000
namespace Go.Proofs.YtokmalofdapffaaGreat.L05
section
def cntS {α:Type}:List α->(List α->Bool)->Nat
 | [],P=>if P []=true then 1 else 0
 | a::l,P=>cntS l P+cntS l (fun y=>P (a::y))
theorem ZAk {α:Type}:∀ {l:List α} {P Q:List α->Bool},(∀ y,y.Sublist l->P y=Q y)->cntS l P=cntS l Q
 | [],P,Q,h=>by unfold cntS;rw [h [] (List.Sublist.refl _)]
 | a::l,P,Q,h=>by
  unfold cntS
  rw [ZAk fun y hy=>h y (hy.cons a),ZAk (P:=fun y=>P (a::y)) (Q:=fun y=>Q (a::y)) fun y hy=>h (a::y) (hy.cons_cons a)]
theorem ZIc {α:Type} {l m:List α} (h:l.Perm m):∀ P:List α->Bool,(∀ y z:List α,y.Perm z->P y=P z)->cntS l P=cntS m P:=by
 induction h with
 | nil=>intro P _;rfl
 | cons a _ ih=>intro P hP;unfold cntS;rw [ih P hP,ih _ fun y z hyz=>hP _ _ (hyz.cons a)]
 | swap a b l =>
  intro P hP
  have e:(fun y=>P (a::b::y))=fun y=>P (b::a::y):=funext fun y=>hP _ _ (List.Perm.swap b a y)
  show (cntS l P+cntS l (fun y=>P (a::y)))+(cntS l (fun y=>P (b::y))+cntS l (fun y=>P (b::a::y)))=(cntS l P+cntS l (fun y=>P (b::y)))+(cntS l (fun y=>P (a::y))+cntS l (fun y=>P (a::b::y)))
  rw [e];omega
 | trans _ _ ih1 ih2=>intro P hP;rw [ih1 P hP,ih2 P hP]
theorem ZEX {α:Type}:∀ (l:List α) (P Q:List α->Bool),cntS l (fun y=>P y && Q y)+cntS l (fun y=>P y && !Q y)=cntS l P
 | [],P,Q=>by
  unfold cntS
  cases hp:P [] <;> cases hq:Q [] <;> simp [hp,hq]
 | a::l,P,Q=>by
  unfold cntS
  show (cntS l _+cntS l (fun y=>P (a::y) && Q (a::y)))+(cntS l _+cntS l (fun y=>P (a::y) && !Q (a::y)))=_
  have h1:=ZEX l P Q
  have h2:=ZEX l (fun y=>P (a::y)) (fun y=>Q (a::y))
  omega
theorem ZM7 {α:Type} {l:List α} {P:List α->Bool} (h:∀ y,y.Sublist l->P y=false):cntS l P=0:=by
 rw [ZAk (Q:=fun _=>false) h]
 induction l with
 | nil=>rfl
 | cons a l ih=>unfold cntS;rw [ih fun y hy=>h y (hy.cons a)]
theorem ZD3 {α:Type}:∀ (l:List α) (a:α) (P:List α->Bool),cntS (l++[a]) P=cntS l P+cntS l (fun y=>P (y++[a]))
 | [],a,P=>rfl
 | b::l,a,P=>by
  rw [List.cons_append]
  unfold cntS
  rw [ZD3 l a P,ZD3 l a fun y=>P (b::y)]
  simp only [List.cons_append]
  omega
theorem ZHB {α β:Type} (f:α->β):∀ (l:List α) (P:List β->Bool),cntS (l.map f) P=cntS l (fun y=>P (y.map f))
 | [],P=>rfl
 | a::l,P=>by
  rw [List.map_cons]
  unfold cntS
  rw [ZHB f l P,ZHB f l fun y=>P (f a::y)]
  simp only [List.map_cons]
def ZGj (y:List (List Int)):List Int:=y.foldr plus []
theorem ZCI:∀ {y:List (List Int)},AllAsc y->Asc (ZGj y)
 | [],_=>List.Pairwise.nil
 | a::y,h=>Z6 (h a (by simp)) (ZCI fun r hr=>h r (by simp [hr]))
theorem ZFx:∀ {y:List (List Int)} {a:List Int},AllAsc y->Asc a->ZGj (y++[a])=plus (ZGj y) a
 | [],a,_,_=>by show plus a []=plus [] a;rw [plus_nil,nil_plus]
 | b::y,a,h,ha=>by
  have hy:AllAsc y:=fun r hr=>h r (by simp [hr])
  show plus b (ZGj (y++[a]))=plus (plus b (ZGj y)) a
  rw [ZFx hy ha,ZAg (h b (by simp)) (ZCI hy) ha]
theorem ZJC {B:List (List Int)}:∀ {y:List (List Int)},(∀ r∈y,r∈B)->Span B (ZGj y)
 | [],_=>Span.zero
 | a::_,h=>Span.add (h a (by simp)) (ZJC fun r hr=>h r (by simp [hr]))
theorem ZED {a b c:List Int} (ha:Asc a) (hb:Asc b) (hc:Asc c):plus a b=c↔b=plus a c:=by
 constructor
 ·intro h;rw [<- h,<- ZAg ha ha hb,ZCa ha,nil_plus]
 ·intro h;rw [h,<- ZAg ha ha hc,ZCa ha,nil_plus]
theorem ZM8 {l:List (List Int)} (hl:AllAsc l):∀ {r t:List Int},r∈l->Asc t->cntS l (fun y=>decide (ZGj y=plus r t))=cntS l (fun y=>decide (ZGj y=t)):=by
 induction l with
 | nil=>intro r t hr;cases hr
 | cons a l ih =>
  intro r t hr ht
  have ha:=hl a (by simp)
  have hl':AllAsc l:=fun r hr=>hl r (by simp [hr])
  have hsub:∀ {y:List (List Int)},y.Sublist l->Asc (ZGj y):=fun hy=>ZCI fun r hr=>hl' r (hy.subset hr)
  unfold cntS
  have e1:∀ u,Asc u->cntS l (fun y=>decide (ZGj (a::y)=u))=cntS l (fun y=>decide (ZGj y=plus a u)):=fun u hu =>
   ZAk fun y hy=>decide_eq_decide.2 (ZED ha (hsub hy) hu)
  have hr':=hl r hr
  rw [e1 _ (Z6 hr' ht),e1 _ ht]
  rcases List.mem_cons.1 hr with rfl|hr
  ·rw [<- ZAg ha ha ht,ZCa ha,nil_plus];omega
  ·have i1:=ih hl' hr ht
   have i2:=ih hl' hr (Z6 ha ht)
   rw [show plus a (plus r t)=plus r (plus a t) by rw [<- ZAg ha hr' ht,ZEE ha hr',ZAg hr' ha ht],i1,i2]
theorem ZPW {l:List (List Int)} (hl:AllAsc l) {v:List Int} (hv:Span l v):cntS l (fun y=>decide (ZGj y=v))=cntS l (fun y=>decide (ZGj y=[])):=by
 induction hv with
 | zero=>rfl
 | add hr hv ih=>rw [ZM8 hl hr (hv.asc hl),ih]
def ZOm (rows:List (List Int)):Nat:=cntS rows fun y=>decide (ZGj y=[])
theorem ZR0 {l:List (List Int)} (hl:AllAsc l) {r:List Int} (hr:Span l r):ZOm (l++[r])=2*ZOm l:=by
 have ha:=hr.asc hl
 unfold ZOm
 rw [ZD3]
 have e:cntS l (fun y=>decide (ZGj (y++[r])=[]))=cntS l (fun y=>decide (ZGj y=r)):=ZAk fun y hy=>by
  have hy':AllAsc y:=fun r hr=>hl r (hy.subset hr)
  rw [ZFx hy' ha,ZEE (ZCI hy') ha]
  have:=ZED ha (ZCI hy') (List.Pairwise.nil:Asc [])
  rw [plus_nil] at this
  exact decide_eq_decide.2 this
 rw [e,ZPW hl hr];omega
theorem ZQF {l:List (List Int)} (hl:AllAsc l) {r:List Int} (ha:Asc r) (hr:¬ Span l r):ZOm (l++[r])=ZOm l:=by
 unfold ZOm
 rw [ZD3,ZM7 (P:=fun y=>decide (ZGj (y++[r])=[]))]
 ·rfl
 intro y hy
 have hy':AllAsc y:=fun r hr=>hl r (hy.subset hr)
 rw [ZFx hy' ha,ZEE (ZCI hy') ha]
 refine decide_eq_false fun h=>hr ?_
 have:=(ZED ha (ZCI hy') (List.Pairwise.nil:Asc [])).1 h
 rw [plus_nil] at this
 rw [<- this]
 exact ZJC fun s hs=>hy.subset hs
theorem ZKu (a:List Int):ZHb a []=false:=by
 unfold ZHb
 have:(a.filter fun x=>decide (x∈([]:List Int)))=[]:=List.filter_eq_nil_iff.2 fun x _=>by simp
 rw [this];rfl
theorem ZSL (C:Nat) (x:Ln):wdL [] C x=x.1:=by
 unfold wdL wd
 rw [ZKu];rfl
theorem ZQn (rows:List (List Int)) (C:Nat):ZDs rows [] C=rows:=by
 unfold ZDs
 have:(fun p:List Int × Nat=>wd (C:Int) p.1 (decide ((p.2:Int)∈([]:List Int))))=fun p=>p.1:=funext fun p=>by simp [wd]
 rw [this]
 simp
theorem ZPw {C:Nat} {m:List (Int × Ln)} (G:Good05 C m):Red (m.map fun p=>p.2.1):=by
 refine ⟨fun r hr=>?_,fun r hr=>?_,fun r hr s hs c hc hcs=>?_⟩
 ·obtain ⟨p,hp,rfl⟩:=List.mem_map.1 hr;exact G.asc p hp
 ·obtain ⟨p,hp,rfl⟩:=List.mem_map.1 hr
  have:=G.hd p hp
  intro e;rw [e] at this;cases this
 ·obtain ⟨p,hp,rfl⟩:=List.mem_map.1 hr
  obtain ⟨q,hq,rfl⟩:=List.mem_map.1 hs
  have h1:=G.hd p hp
  rw [h1] at hc
  cases hc
  rw [G.one p hp q hq hcs]
theorem ZK3 {C:Nat} {rows:List (List Int)} (h1:AllAsc rows) (h2:∀ r∈rows,Low (C:Int) r) (h3:∀ r∈rows,Pos r):∀ i,i≤rows.length->ZOm (rows.take i)*2 ^ (ZGO rows C i).1.length=2 ^ i
 | 0,_=>rfl
 | i+1,hi=>by
  have ih:=ZK3 h1 h2 h3 i (by omega)
  have I:=PInv.all (b:=[]) h1 h2 h3 i (by omega)
  have hlt:i<rows.length:=by omega
  have hta:AllAsc (rows.take i):=fun r hr=>h1 r (List.mem_of_mem_take hr)
  have hri:=List.getElem_mem hlt
  have ht:rows.take (i+1)=rows.take i++[rows[i]]:=by
   rw [List.take_add_one,List.getElem?_eq_getElem hlt];rfl
  have hO:=redP_out (b:=[]) I.good (C+1) 0 (rows[i],[(i:Int)]) (RedAt.start (h1 _ hri) (h2 _ hri) (h3 _ hri) ⟨List.pairwise_singleton _ _,fun x hx=>by rw [List.mem_singleton.1 hx];omega⟩)
  have s1:=I.sp1
  have s3:=I.sp3
  rw [ZQn] at s1 s3
  rw [echN_succ hlt,ht]
  obtain ⟨v,v1,v2⟩:=hO.spn
  simp only [ZSL] at v1 v2 s1 s3
  have hR:=ZPw I.good
  have hvr:Span (rows.take i) v:=v1.trans hta fun r hr=>by
   obtain ⟨p,hp,rfl⟩:=List.mem_map.1 hr
   exact s1 p hp
  have hva:=hvr.asc hta
  have hra:Asc rows[i]:=h1 _ hri
  unfold ZGD
  simp only
  cases hy:(ZEu (ZGO rows C i).1 (C+1) 0 (rows[i],[(i:Int)])).1 with
  | nil =>
   simp only
   rw [hy] at v2
   have:v=rows[i]:=by
    have:=(ZED hra hva (List.Pairwise.nil:Asc [])).1 v2.symm
    rwa [plus_nil] at this
   subst this
   rw [ZR0 hta hvr]
   rw [Nat.pow_succ,<- ih,Nat.mul_comm 2,Nat.mul_right_comm]
  | cons c t =>
   simp only
   have hn:¬ Span (rows.take i) rows[i]:=fun hs=>by
    have hs2:Span ((ZGO rows C i).1.map fun p=>p.2.1) rows[i]:=hs.trans hR.asc fun r hr=>by
     refine (s3 r hr).trans hR.asc fun r hr=>?_
     rcases List.mem_append.1 hr with hr|hr
     ·exact Span.one hr
     ·obtain ⟨y,_,rfl⟩:=List.mem_map.1 hr
      rw [ZKu];exact Span.zero
    have hs3:Span ((ZGO rows C i).1.map fun p=>p.2.1) (ZEu (ZGO rows C i).1 (C+1) 0 (rows[i],[(i:Int)])).1:=by
     rw [v2];exact Span.plus hR.asc hs2 v1
    obtain ⟨r,hr,hrc⟩:=hR.head hs3 (c:=c) (by rw [hy];rfl)
    obtain ⟨p,hp,rfl⟩:=List.mem_map.1 hr
    have:=hO.no c (by rw [hy];simp)
    rw [show c=p.1 by have:=I.good.hd p hp;rw [this] at hrc;cases hrc;rfl] at this
    rw [ZFp I.good.nd hp] at this
    cases this
   rw [ZQF hta hra hn,List.length_append]
   have:(ZGl (ZGO rows C i).1 (ZEu (ZGO rows C i).1 (C+1) 0 (rows[i],[(i:Int)])) c).length=(ZGO rows C i).1.length:=by simp [ZGl]
   rw [this,List.length_singleton,Nat.pow_succ,Nat.pow_succ,<- ih,Nat.mul_assoc]
theorem ZQS {C:Nat} {rows:List (List Int)} (h1:AllAsc rows) (h2:∀ r∈rows,Low (C:Int) r) (h3:∀ r∈rows,Pos r):ZOm rows*2 ^ (echP rows C).1.length=2 ^ rows.length:=by
 have:=ZK3 h1 h2 h3 rows.length (Nat.le_refl _)
 rwa [List.take_length,echN_all] at this
end
section
theorem ZHp {z:Int}:∀ {y:List (List Int)},AllAsc y->(z∈ZGj y↔(y.filter fun r=>decide (z∈r)).length % 2=1)
 | [],_=>by simp [ZGj]
 | a::y,h=>by
  have hy:AllAsc y:=fun r hr=>h r (by simp [hr])
  show z∈plus a (ZGj y)↔_
  rw [ZAN (h a (by simp)) (ZCI hy),ZHp hy,List.filter_cons]
  by_cases hz:z∈a
  ·rw [if_pos (by simpa using hz),List.length_cons]
   simp only [hz,true_iff];omega
  ·rw [if_neg (by simpa using hz)]
   simp only [hz,false_iff,Classical.not_not]
def posN {β:Type} (p:β->Bool) (cols:List β) (n:Nat):List Int:=((List.range n).filter fun k=>(cols[k]?.map p).getD false).map fun k:Nat=>(k:Int)
theorem posN_succ {β:Type} {p:β->Bool} {cols:List β} {n:Nat} (h:n<cols.length):posN p cols (n+1)=posN p cols n++if p cols[n]=true then [(n:Int)] else []:=by
 unfold posN
 rw [List.range_succ,List.filter_append,List.map_append]
 congr 1
 rw [List.filter_cons,List.getElem?_eq_getElem h]
 simp only [Option.map_some,Option.getD_some,List.filter_nil]
 split <;> rfl
theorem ZFJ {β:Type} {p:β->Bool} {cols:List β} {n:Nat} {z:Int}:z∈posN p cols n↔∃ k:Nat,z=k/\k<n/\∃ c,cols[k]?=some c/\p c=true:=by
 unfold posN
 rw [List.mem_map]
 constructor
 ·rintro ⟨k,hk,rfl⟩
  obtain ⟨h1,h2⟩:=List.mem_filter.1 hk
  refine ⟨k,rfl,List.mem_range.1 h1,?_⟩
  cases e:cols[k]? with
  | none=>rw [e] at h2;cases h2
  | some c=>rw [e] at h2;exact ⟨c,rfl,h2⟩
 ·rintro ⟨k,rfl,h1,c,h2,h3⟩
  exact ⟨k,List.mem_filter.2 ⟨List.mem_range.2 h1,by rw [h2];exact h3⟩,rfl⟩
theorem ZK2 {β:Type} (p:β->Bool) (cols:List β) (n:Nat):Asc (posN p cols n):=by
 unfold posN
 refine List.pairwise_map.2 ?_
 refine List.Pairwise.imp ?_ (List.Pairwise.filter _ List.pairwise_lt_range)
 intro a b h;omega
theorem posN_len {β:Type} (p:β->Bool) (cols:List β) (n:Nat):(posN p cols n).length≤n:=by
 unfold posN
 rw [List.length_map]
 have:=List.length_filter_le (fun k=>(cols[k]?.map p).getD false) (List.range n)
 rwa [List.length_range] at this
def matG {α β:Type} (inc:α->β->Bool) (rows:List α) (cols:List β):List (List Int):=rows.map fun r=>posN (inc r) cols cols.length
def evC {α β:Type} (inc:α->β->Bool) (cols:List β) (y:List α):Bool:=cols.all fun c=>decide ((y.filter fun r=>inc r c).length % 2=0)
theorem evC_iff {α β:Type} {inc:α->β->Bool} {cols:List β} {y:List α}:evC inc cols y=true↔∀ c∈cols,(y.filter fun r=>inc r c).length % 2=0:=by
 unfold evC
 rw [List.all_eq_true]
 exact ⟨fun h c hc=>of_decide_eq_true (h c hc),fun h c hc=>decide_eq_true (h c hc)⟩
theorem ZKX {α β:Type} {inc:α->β->Bool} {cols:List β} {y z:List α} (h:y.Perm z):evC inc cols y=evC inc cols z:=by
 unfold evC
 congr 1
 exact funext fun c=>by rw [(h.filter fun r=>inc r c).length_eq]
def nulI {α β:Type} (inc:α->β->Bool) (rows:List α) (cols:List β):Nat:=cntS rows (evC inc cols)
theorem ZR1 {α β:Type} (inc:α->β->Bool) (rows:List α) (cols:List β):ZOm (matG inc rows cols)=nulI inc rows cols:=by
 unfold ZOm nulI matG
 rw [ZHB]
 refine ZAk fun y _=>?_
 have hA:AllAsc (y.map fun r=>posN (inc r) cols cols.length):=fun r hr=>by
  obtain ⟨a,_,rfl⟩:=List.mem_map.1 hr
  exact ZK2 _ _ _
 have hlen:∀ (k:Nat) (c:β),cols[k]?=some c->((y.map fun r=>posN (inc r) cols cols.length).filter fun r=>decide ((k:Int)∈r)).length=(y.filter fun r=>inc r c).length:=fun k c hc=>by
  rw [List.filter_map,List.length_map]
  congr 1
  refine List.filter_congr fun r _=>?_
  simp only [Function.comp_apply]
  obtain ⟨hk,_⟩:=List.getElem?_eq_some_iff.1 hc
  have:((k:Int)∈posN (inc r) cols cols.length)↔inc r c=true:=by
   rw [ZFJ]
   constructor
   ·rintro ⟨j,hj,_,d,hd,hi⟩
    obtain rfl:k=j:=by omega
    rw [hc] at hd;cases hd;exact hi
   ·intro h;exact ⟨k,rfl,hk,c,hc,h⟩
  cases hi:inc r c with
  | true=>exact decide_eq_true (this.2 hi)
  | false=>exact decide_eq_false fun q=>by rw [this.1 q] at hi;cases hi
 rw [Bool.eq_iff_iff,decide_eq_true_iff,evC_iff]
 constructor
 ·intro h c hc
  obtain ⟨k,hk⟩:=List.mem_iff_getElem?.1 hc
  have h2:=(ZHp (z:=(k:Int)) hA).2
  rw [h,hlen k c hk] at h2
  have:¬ (y.filter fun r=>inc r c).length % 2=1:=fun q=>by cases h2 q
  omega
 ·intro h
  refine List.eq_nil_iff_forall_not_mem.2 fun z hz=>?_
  have h1:=(ZHp hA).1 hz
  obtain ⟨r,hr⟩:∃ r,r∈(y.map fun r=>posN (inc r) cols cols.length).filter fun r=>decide (z∈r):=by
   cases e:(y.map fun r=>posN (inc r) cols cols.length).filter fun r=>decide (z∈r) with
   | nil=>rw [e] at h1;cases h1
   | cons a t=>exact ⟨a,by simp⟩
  obtain ⟨hr1,hr2⟩:=List.mem_filter.1 hr
  obtain ⟨a,_,rfl⟩:=List.mem_map.1 hr1
  obtain ⟨k,rfl,_,c,hc,_⟩:=ZFJ.1 (of_decide_eq_true hr2)
  rw [hlen k c hc] at h1
  have:=h c (List.mem_of_getElem? hc)
  omega
def rkG {α β:Type} (inc:α->β->Bool) (rows:List α) (cols:List β):Nat:=(echP (matG inc rows cols) cols.length).1.length
theorem mat_asc {α β:Type} (inc:α->β->Bool) (rows:List α) (cols:List β):AllAsc (matG inc rows cols):=fun r hr=>by
 obtain ⟨a,_,rfl⟩:=List.mem_map.1 hr
 exact ZK2 _ _ _
theorem mat_low {α β:Type} (inc:α->β->Bool) (rows:List α) (cols:List β):∀ r∈matG inc rows cols,Low (cols.length:Int) r:=fun r hr x hx=>by
 obtain ⟨a,_,rfl⟩:=List.mem_map.1 hr
 obtain ⟨k,rfl,h,_⟩:=ZFJ.1 hx
 omega
theorem mat_pos {α β:Type} (inc:α->β->Bool) (rows:List α) (cols:List β):∀ r∈matG inc rows cols,Pos r:=fun r hr x hx=>by
 obtain ⟨a,_,rfl⟩:=List.mem_map.1 hr
 obtain ⟨k,rfl,h,_⟩:=ZFJ.1 hx
 omega
theorem rk_nul {α β:Type} (inc:α->β->Bool) (rows:List α) (cols:List β):nulI inc rows cols*2 ^ rkG inc rows cols=2 ^ rows.length:=by
 have:=ZQS (mat_asc inc rows cols) (mat_low inc rows cols) (mat_pos inc rows cols)
 rw [ZR1] at this
 rw [show rows.length=(matG inc rows cols).length by simp [matG]]
 exact this
theorem rk_le {α β:Type} (inc:α->β->Bool) (rows:List α) (cols:List β):rkG inc rows cols≤rows.length:=by
 have h:=rk_nul inc rows cols
 by_cases h0:nulI inc rows cols=0
 ·rw [h0,Nat.zero_mul] at h
  have:=Nat.two_pow_pos rows.length
  omega
 ·have:2 ^ rkG inc rows cols≤2 ^ rows.length:=by
   rw [<- h];exact Nat.le_mul_of_pos_left _ (by omega)
  exact (Nat.pow_le_pow_iff_right (by omega)).1 this
theorem ZSD {n m:Nat} (h:2 ^ n=2 ^ m):n=m:=Nat.le_antisymm ((Nat.pow_le_pow_iff_right (a:=2) (by omega)).1 (by omega)) ((Nat.pow_le_pow_iff_right (a:=2) (by omega)).1 (by omega))
theorem mul_inj {N k n m:Nat} (h1:N*2 ^ n=2 ^ k) (h2:N*2 ^ m=2 ^ k):n=m:=by
 have h0:0<N:=Nat.pos_of_ne_zero fun e=>by
  rw [e,Nat.zero_mul] at h1
  have:=Nat.two_pow_pos k
  omega
 exact ZSD (Nat.eq_of_mul_eq_mul_left h0 (h1.trans h2.symm))
theorem perm_out {α:Type} [DecidableEq α] {l:List α} (h:l.Nodup) {a:α} (ha:a∈l):l.Perm (a::l.filter fun x=>decide (x≠a)):=by
 have h1:=List.perm_cons_erase ha
 rw [List.Nodup.erase_eq_filter h] at h1
 have e:l.filter (fun x=>x != a)=l.filter fun x=>decide (x≠a):=List.filter_congr fun x _=>by
  by_cases q:x=a <;> simp [bne,q]
 rwa [e] at h1
theorem rk_row {α β:Type} {inc:α->β->Bool} {rows rows':List α} {cols:List β} {t:α} (h:rows.Perm (t::rows')) (h0:∀ c∈cols,inc t c=false):rkG inc rows' cols=rkG inc rows cols:=by
 have e:nulI inc rows cols=2*nulI inc rows' cols:=by
  unfold nulI
  rw [ZIc h _ fun y z hyz=>ZKX hyz]
  show cntS rows' (evC inc cols)+cntS rows' (fun y=>evC inc cols (t::y))=_
  rw [ZAk (P:=fun y=>evC inc cols (t::y)) (Q:=evC inc cols) fun y _=>?_]
  ·omega
  rw [Bool.eq_iff_iff,evC_iff,evC_iff]
  have:∀ c∈cols,(t::y).filter (fun r=>inc r c)=y.filter fun r=>inc r c:=fun c hc=>by
   rw [List.filter_cons,h0 c hc];rfl
  exact ⟨fun k c hc=>by rw [<- this c hc];exact k c hc,fun k c hc=>by rw [this c hc];exact k c hc⟩
 have h1:=rk_nul inc rows cols
 have h2:=rk_nul inc rows' cols
 have hl:=h.length_eq
 rw [List.length_cons] at hl
 rw [e,hl,Nat.pow_succ,Nat.mul_comm 2,Nat.mul_right_comm] at h1
 exact mul_inj h2 (Nat.eq_of_mul_eq_mul_right (by omega) h1)
theorem rk_both {α β:Type} {inc:α->β->Bool} {rows rows':List α} {cols cols':List β} {s:α} {t:β} (h:rows.Perm (s::rows')) (hc:∀ c,c∈cols↔c=t\/c∈cols') (h1:inc s t=true) (h0:∀ c∈cols',inc s c=false):rkG inc rows cols=rkG inc rows' cols'+1:=by
 have e:nulI inc rows cols=nulI inc rows' cols':=by
  unfold nulI
  rw [ZIc h _ fun y z hyz=>ZKX hyz]
  show cntS rows' (evC inc cols)+cntS rows' (fun y=>evC inc cols (s::y))=_
  rw [<- ZEX rows' (evC inc cols') fun y=>decide ((y.filter fun r=>inc r t).length % 2=0)]
  congr 1
  ·refine ZAk fun y _=>?_
   rw [Bool.eq_iff_iff,Bool.and_eq_true,evC_iff,evC_iff,decide_eq_true_iff]
   exact ⟨fun k=>⟨fun c q=>k c ((hc c).2 (.inr q)),k t ((hc t).2 (.inl rfl))⟩,fun k c q=>by
    rcases (hc c).1 q with rfl|q
    ·exact k.2
    ·exact k.1 c q⟩
  ·refine ZAk fun y _=>?_
   rw [Bool.eq_iff_iff,Bool.and_eq_true,evC_iff,evC_iff]
   have e1:∀ c∈cols',(s::y).filter (fun r=>inc r c)=y.filter fun r=>inc r c:=fun c q=>by rw [List.filter_cons,h0 c q];rfl
   have e2:((s::y).filter fun r=>inc r t).length=(y.filter fun r=>inc r t).length+1:=by rw [List.filter_cons,if_pos h1];rfl
   constructor
   ·intro k
    refine ⟨fun c q=>by rw [<- e1 c q];exact k c ((hc c).2 (.inr q)),?_⟩
    have:=k t ((hc t).2 (.inl rfl))
    rw [e2] at this
    rw [decide_eq_false (by omega)];rfl
   ·rintro ⟨k1,k2⟩ c q
    rcases (hc c).1 q with rfl|q
    ·rw [e2]
     have:¬ (y.filter fun r=>inc r c).length % 2=0:=fun z=>by rw [decide_eq_true z] at k2;cases k2
     omega
    ·rw [e1 c q];exact k1 c q
 have h2:=rk_nul inc rows cols
 have h3:=rk_nul inc rows' cols'
 have hl:=h.length_eq
 rw [List.length_cons] at hl
 rw [e,hl] at h2
 refine mul_inj h2 ?_
 rw [Nat.pow_succ,<- Nat.mul_assoc,h3,Nat.pow_succ]
theorem rk_col {α β:Type} {inc:α->β->Bool} {rows:List α} {cols cols':List β} (h:∀ c∈cols',c∈cols) (hd:∀ y:List α,y.Sublist rows->evC inc cols' y=true->evC inc cols y=true):rkG inc rows cols'=rkG inc rows cols:=by
 have e:nulI inc rows cols'=nulI inc rows cols:=by
  refine ZAk fun y hy=>?_
  rw [Bool.eq_iff_iff]
  exact ⟨hd y hy,fun k=>evC_iff.2 fun c q=>evC_iff.1 k c (h c q)⟩
 have h2:=rk_nul inc rows cols
 have h3:=rk_nul inc rows cols'
 rw [e] at h3
 exact mul_inj h3 h2
end
section
def facL {α:Type} (s:List α):List (List α):=if 1<s.length then (List.range s.length).map s.eraseIdx else []
def incF {α:Type} [DecidableEq α] (r c:List α):Bool:=decide (r∈facL c)
theorem incF_yes {α:Type} [DecidableEq α] {r c:List α} (h:r∈facL c):incF r c=true:=decide_eq_true h
theorem incF_no {α:Type} [DecidableEq α] {r c:List α} (h:¬ r∈facL c):incF r c=false:=decide_eq_false h
theorem ZHH {α:Type} {r c:List α}:r∈facL c↔1<c.length/\∃ i,i<c.length/\r=c.eraseIdx i:=by
 unfold facL
 split
 ·rename_i h
  rw [List.mem_map]
  exact ⟨fun ⟨i,h1,h2⟩=>⟨h,i,List.mem_range.1 h1,h2.symm⟩,fun ⟨_,i,h1,h2⟩=>⟨i,List.mem_range.2 h1,h2.symm⟩⟩
 ·rename_i h
  exact ⟨fun q=>(nomatch q),fun q=>absurd q.1 h⟩
theorem facL_sub {α:Type} {r c:List α} (h:r∈facL c):r.Sublist c/\r.length+1=c.length:=by
 obtain ⟨h1,i,h2,rfl⟩:=ZHH.1 h
 exact ⟨List.eraseIdx_sublist c i,by rw [List.length_eraseIdx_of_lt h2];omega⟩
theorem ZJB {α:Type}:∀ {a b:List α},a.Sublist b->a.length+1=b.length->∃ i,i<b.length/\a=b.eraseIdx i
 | a,[],_,h=>by simp at h
 | a,y::b,hs,h=>by
  cases hs with
  | cons _ hs =>
   rw [List.length_cons] at h
   have:=List.Sublist.eq_of_length hs (by omega)
   subst this
   exact ⟨0,by simp,rfl⟩
  | cons_cons _ hs =>
   rw [List.length_cons,List.length_cons] at h
   obtain ⟨i,h1,h2⟩:=ZJB hs (by omega)
   exact ⟨i+1,by rw [List.length_cons];omega,by rw [List.eraseIdx_cons_succ,<- h2]⟩
theorem facL_of {α:Type} {r c:List α} (h:r.Sublist c) (hl:r.length+1=c.length) (h1:1<c.length):r∈facL c:=by
 obtain ⟨i,h2,h3⟩:=ZJB h hl
 exact ZHH.2 ⟨h1,i,h2,h3⟩
theorem ZFb {α:Type}:∀ {c:List α} {i:Nat} (h:i<c.length),c.Nodup->c[i]'h∉c.eraseIdx i
 | x::c,0,_,hn=>(List.nodup_cons.1 hn).1
 | x::c,i+1,h,hn=>by
  rw [List.getElem_cons_succ,List.eraseIdx_cons_succ,List.mem_cons]
  have h':i<c.length:=by simpa using h
  rintro (q|q)
  ·exact (List.nodup_cons.1 hn).1 (by rw [<- q];exact List.getElem_mem h')
  ·exact ZFb h' (List.nodup_cons.1 hn).2 q
theorem ZNK {α:Type} {c:List α} (hn:c.Nodup) {i j:Nat} (hi:i<c.length) (hj:j<c.length) (h:c.eraseIdx i=c.eraseIdx j):i=j:=by
 refine Classical.byContradiction fun hne=>ZFb hj hn ?_
 rw [<- h]
 exact List.mem_eraseIdx_iff_getElem?.2 ⟨j,fun e=>hne e.symm,List.getElem?_eq_getElem hj⟩
theorem facL_nodup {α:Type} {c:List α} (hn:c.Nodup):(facL c).Nodup:=by
 unfold facL
 split
 ·refine List.pairwise_map.2 ?_
  refine List.Pairwise.imp_of_mem ?_ List.nodup_range
  intro a b ha hb hne e
  exact hne (ZNK hn (List.mem_range.1 ha) (List.mem_range.1 hb) e)
 ·exact List.nodup_nil
theorem ZFw {α:Type}:∀ {c r:List α} {i:Nat} (_:i<c.length),r.Sublist c->(∀ x,c[i]?=some x->x∉r)->r.Sublist (c.eraseIdx i)
 | x::c,r,0,_,hs,hn=>by
  cases hs with
  | cons _ hs=>exact hs
  | cons_cons _ hs=>exact absurd (List.mem_cons_self ..) (hn _ rfl)
 | x::c,r,i+1,hi,hs,hn=>by
  have hi':i<c.length:=by simpa using hi
  rw [List.getElem?_cons_succ] at hn
  rw [List.eraseIdx_cons_succ]
  cases hs with
  | cons _ hs=>exact (ZFw hi' hs hn).cons x
  | cons_cons _ hs=>exact (ZFw hi' hs fun z hz q=>hn z hz (by simp [q])).cons_cons x
theorem ZOV {α:Type} [DecidableEq α] {c r:List α} (hn:c.Nodup) (hs:r.Sublist c):(c.filter fun x=>decide (x∈r)).length=r.length:=by
 have hr:r.Nodup:=hs.nodup hn
 have h1:r.Perm (c.filter fun x=>decide (x∈r)):=(List.perm_ext_iff_of_nodup hr (hn.filter _)).2 fun x=>by
  rw [List.mem_filter,decide_eq_true_iff]
  exact ⟨fun q=>⟨hs.subset q,q⟩,fun q=>q.2⟩
 exact h1.length_eq.symm
theorem ZRf {α:Type} [DecidableEq α] {t r:List α} (hn:t.Nodup):((facL t).filter fun c=>incF r c).length % 2=0:=by
 by_cases h:r.Sublist t/\r.length+2=t.length/\2<t.length
 ·obtain ⟨h1,h2,h3⟩:=h
  have e:facL t=(List.range t.length).map t.eraseIdx:=by unfold facL;rw [if_pos (by omega)]
  rw [e,List.filter_map,List.length_map]
  have e2:(List.range t.length).filter ((fun c=>incF r c) ∘ t.eraseIdx)=(List.range t.length).filter fun i=>!(t[i]?.map fun x=>decide (x∈r)).getD false:=List.filter_congr fun i hi=>by
   have hi:=List.mem_range.1 hi
   rw [List.getElem?_eq_getElem hi]
   simp only [Function.comp_apply,Option.map_some,Option.getD_some]
   by_cases hm:t[i]∈r
   ·rw [decide_eq_true hm]
    refine decide_eq_false fun q=>ZFb hi hn ((facL_sub q).1.subset hm)
   ·rw [decide_eq_false hm]
    have hl:(t.eraseIdx i).length+1=t.length:=by rw [List.length_eraseIdx_of_lt hi];omega
    exact decide_eq_true (facL_of (ZFw hi h1 fun z hz=>by rw [List.getElem?_eq_getElem hi] at hz;cases hz;exact hm) (by omega) (by omega))
  rw [e2]
  have e3:((List.range t.length).filter fun i=>!(t[i]?.map fun x=>decide (x∈r)).getD false).length=(t.filter fun x=>!decide (x∈r)).length:=by
   have:t=(List.range t.length).filterMap fun i=>t[i]?:=by
    refine List.ext_getElem? fun i=>?_
    have:((List.range t.length).filterMap fun i=>t[i]?)=t:=by
     have:∀ n,n≤t.length->((List.range n).filterMap fun i=>t[i]?)=t.take n:=fun n=>by
      induction n with
      | zero=>intro _;rfl
      | succ n ih =>
       intro hn
       rw [List.range_succ,List.filterMap_append,ih (by omega),List.take_add_one]
       rw [List.filterMap_cons,List.getElem?_eq_getElem (show n<t.length by omega)]
       rfl
     rw [this _ (Nat.le_refl _),List.take_length]
    rw [this]
   conv=>rhs;rw [this]
   rw [List.filter_filterMap]
   rw [<- List.length_map (f:=fun i=>i)]
   clear this e2 e
   have:∀ n,n≤t.length->(((List.range n).filter fun i=>!(t[i]?.map fun x=>decide (x∈r)).getD false).map fun i=>i).length=((List.range n).filterMap fun x=>(t[x]?).filter fun x=>!decide (x∈r)).length:=fun n=>by
    induction n with
    | zero=>intro _;rfl
    | succ n ih =>
     intro hn
     rw [List.range_succ,List.filterMap_append,List.filter_append,List.map_append,List.length_append,List.length_append,ih (by omega)]
     congr 1
     rw [List.filterMap_cons,List.filter_cons,List.getElem?_eq_getElem (by omega)]
     simp only [Option.map_some,Option.getD_some]
     by_cases hm:t[n]∈r
     ·simp [hm,Option.filter]
     ·simp [hm,Option.filter]
   exact this _ (Nat.le_refl _)
  rw [e3]
  have h4:=ZOV hn h1
  have h5:(t.filter fun x=>decide (x∈r)).length+(t.filter fun x=>!decide (x∈r)).length=t.length:=by
   clear e3 e2 e h4 h1 hn h2 h3
   induction t with
   | nil=>rfl
   | cons a t ih =>
    rw [List.filter_cons,List.filter_cons]
    by_cases hm:a∈r
    ·simp [hm];omega
    ·simp [hm];omega
  omega
 ·have:(facL t).filter (fun c=>incF r c)=[]:=List.filter_eq_nil_iff.2 fun c hc q=>h (by
   have h1:=facL_sub hc
   have q:=of_decide_eq_true q
   have h2:=facL_sub q
   have h3:=(ZHH.1 q).1
   exact ⟨h2.1.trans h1.1,by omega,by omega⟩)
  rw [this];rfl
theorem dblS {α β:Type} (R:α->β->Bool):∀ (A:List α) (B:List β),(A.map fun a=>(B.filter (R a)).length).sum=(B.map fun b=>(A.filter fun a=>R a b).length).sum
 | [],B=>by
  induction B with
  | nil=>rfl
  | cons b B ih=>rw [List.map_cons,List.sum_cons,<- ih];rfl
 | a::A,B=>by
  rw [List.map_cons,List.sum_cons,dblS R A B]
  clear dblS
  induction B with
  | nil=>rfl
  | cons b B ih =>
   rw [List.map_cons,List.sum_cons,List.map_cons,List.sum_cons,<- ih]
   by_cases h:R a b=true
   ·rw [List.filter_cons_of_pos h,List.filter_cons_of_pos (by exact h),List.length_cons,List.length_cons];omega
   ·rw [List.filter_cons_of_neg h,List.filter_cons_of_neg (by exact h)];omega
theorem ZHq {α:Type} {f:α->Nat}:∀ {A:List α},(∀ a∈A,f a % 2=0)->(A.map f).sum % 2=0
 | [],_=>rfl
 | a::A,h=>by
  have h1:=h a (by simp)
  have h2:=ZHq (A:=A) fun b hb=>h b (by simp [hb])
  rw [List.map_cons,List.sum_cons];omega
theorem col_even {α:Type} [DecidableEq α] {t s:List α} (hn:t.Nodup) (hs:s∈facL t) {y:List (List α)} (h:∀ c∈facL t,c≠s->(y.filter fun r=>incF r c).length % 2=0):(y.filter fun r=>incF r s).length % 2=0:=by
 have h1:((facL t).map fun c=>(y.filter fun r=>incF r c).length).sum % 2=0:=by
  rw [<- dblS (fun r c=>incF r c) y (facL t)]
  exact ZHq fun r _=>ZRf hn
 have hp:=(perm_out (facL_nodup hn) hs).map fun c=>(y.filter fun r=>incF r c).length
 rw [hp.sum_nat] at h1
 rw [List.map_cons,List.sum_cons] at h1
 have h2:=ZHq (f:=fun c=>(y.filter fun r=>incF r c).length) (A:=(facL t).filter fun x=>decide (x≠s)) fun c hc=>h c (List.mem_filter.1 hc).1 (of_decide_eq_true (List.mem_filter.1 hc).2)
 omega
end
end Go.Proofs.YtokmalofdapffaaGreat.L05
