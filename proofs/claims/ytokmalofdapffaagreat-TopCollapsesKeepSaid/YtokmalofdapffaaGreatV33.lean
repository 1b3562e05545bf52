/- Part 33: walks by contracts, and plain laws. -/
import Derived.Test.YtokmalofdapffaaGreatV32
set_option linter.unusedVariables false
set_option linter.unusedSimpArgs false
set_option linter.unusedSectionVars false
set_option maxRecDepth 100000
set_option maxHeartbeats 4000000
namespace Go.Proofs.YtokmalofdapffaaGreat
section
theorem ZGL {a:List Vx} (h:Asc a):a.Nodup:=List.Pairwise.imp (fun {x y} hxy e=>by
 subst e
 have:=ZB5.2 (rfl:x=x)
 omega) h
theorem ZN8 (l:List Cl) (x:Cl):(ZSE l x).Perm (x::l):=by
 have h:=List.take_append_drop (atK l x l.length) l
 unfold ZSE
 rw [List.append_assoc]
 have h2:(List.take (atK l x l.length) l++x::List.drop (atK l x l.length) l).Perm (x::(List.take (atK l x l.length) l++List.drop (atK l x l.length) l)):=List.perm_middle
 rw [h] at h2
 exact h2
theorem ZEa:∀ (m o:List Cl),(m.foldl ZSE o).Perm (m++o)
 | [],_=>List.Perm.refl _
 | x::m,o=>by
  rw [List.foldl_cons]
  refine (ZEa m _).trans ?_
  refine ((ZN8 o x).append_left m).trans ?_
  exact List.perm_middle
def ZGx (l:List Cl):Prop:=l.Pairwise fun a b=>¬ ZAB b.1 a.1<0
def ZSN (l:List Cl):Prop:=l.Pairwise fun a b=>ZAB a.1 b.1<0
theorem ZM5 {a b c:List Vx} (h1:¬ ZAB b a<0) (h2:¬ ZAB c b<0):¬ ZAB c a<0:=fun h=>by
 rcases ZBy a b with h3|h3|h3
 ·exact h2 (ZAs h h3)
 ·exact h1 h3
 ·subst h3;exact h2 h
theorem ZHA {a b:List Vx} (h:ZAB a b<0):¬ ZAB b a<0:=fun k=>by
 have:=ZAs h k
 rw [ZBE] at this
 omega
theorem ZKL (l:List Cl) (x:Cl):∀ n,n≤l.length->(∀ i (hi:i<l.length),atK l x n≤i->i<n->ZAB x.1 l[i].1<0)/\(atK l x n=0\/∃ h:atK l x n-1<l.length,¬ ZAB x.1 (l[atK l x n-1]'h).1<0)
 | 0,_=>⟨fun i _ _ h=>absurd h (Nat.not_lt_zero _),.inl rfl⟩
 | k+1,hk=>by
  have hkl:k<l.length:=hk
  have hg:l.getD k ([],[])=l[k]:=by rw [List.getD_eq_getElem?_getD,List.getElem?_eq_getElem hkl];rfl
  by_cases hc:ZAB x.1 l[k].1<0
  ·have e:atK l x (k+1)=atK l x k:=by
    show (if ZAB x.1 (l.getD k ([],[])).1<0 then _ else _)=_
    rw [hg,if_pos hc]
   rw [e]
   obtain ⟨h1,h2⟩:=ZKL l x k (by omega)
   refine ⟨fun i hi a1 a2=>?_,h2⟩
   by_cases hik:i=k
   ·subst hik;exact hc
   ·exact h1 i hi a1 (by omega)
  ·have e:atK l x (k+1)=k+1:=by
    show (if ZAB x.1 (l.getD k ([],[])).1<0 then _ else _)=_
    rw [hg,if_neg hc]
   rw [e]
   exact ⟨fun i _ a1 a2=>by omega,.inr ⟨hkl,hc⟩⟩
theorem ZN9 {l:List Cl} (h:ZGx l) (x:Cl):ZGx (ZSE l x):=by
 obtain ⟨h1,h2⟩:=ZKL l x l.length (Nat.le_refl _)
 have hle:=ZQv l x l.length
 unfold ZSE ZGx
 generalize atK l x l.length=k at *
 unfold ZGx at h
 rw [List.append_assoc,List.pairwise_append]
 have hd:∀ b∈l.drop k,ZAB x.1 b.1<0:=fun b hb=>by
  obtain ⟨i,hi,rfl⟩:=List.mem_iff_getElem.1 hb
  rw [List.getElem_drop]
  rw [List.length_drop] at hi
  exact h1 _ (by omega) (by omega) (by omega)
 have ht:∀ a∈l.take k,¬ ZAB x.1 a.1<0:=fun a ha=>by
  obtain ⟨i,hi,rfl⟩:=List.mem_iff_getElem.1 ha
  rw [List.length_take] at hi
  rw [List.getElem_take]
  rcases h2 with h2|⟨h3,h4⟩
  ·omega
  ·by_cases hik:i=k-1
   ·subst hik;exact h4
   ·exact ZM5 (List.pairwise_iff_getElem.1 h i (k-1) (by omega) h3 (by omega)) h4
 refine ⟨h.sublist (List.take_sublist _ _),?_,fun a ha b hb=>?_⟩
 ·show List.Pairwise _ (x::l.drop k)
  rw [List.pairwise_cons]
  exact ⟨fun b hb=>ZHA (hd b hb),h.sublist (List.drop_sublist _ _)⟩
 ·have hb':b=x\/b∈l.drop k:=by simpa using hb
  rcases hb' with rfl|hb'
  ·exact ht a ha
  ·exact ZM5 (ht a ha) (ZHA (hd b hb'))
theorem ZGR:∀ (m:List Cl) {o:List Cl},ZGx o->ZGx (m.foldl ZSE o)
 | [],_,h=>h
 | x::m,_,h=>by rw [List.foldl_cons];exact ZGR m (ZN9 h x)
theorem ZHj {l:Cx} {f:List Vx} {t:Cx} {x:Cl}:x∈rowK l f t↔x.2=f/\x.1∈t/\ZQu l x.1=1:=by
 unfold rowK
 rw [List.mem_map]
 constructor
 ·rintro ⟨s,hs,rfl⟩
  rw [List.mem_filter] at hs
  exact ⟨rfl,hs.1,of_decide_eq_true hs.2⟩
 ·rintro ⟨rfl,h1,h2⟩
  exact ⟨x.1,List.mem_filter.2 ⟨h1,decide_eq_true h2⟩,rfl⟩
theorem ZIw {l:Cx} {x:Cl}:x∈Zq l↔x.2∈l/\x.2.length≠1/\x.1∈ZX (x.2.length-1) x.2/\ZQu l x.1=1:=by
 unfold Zq prK
 rw [(ZEa _ _).mem_iff,List.append_nil,List.mem_flatMap]
 constructor
 ·rintro ⟨f,hf,hx⟩
  unfold ZS6 at hx
  split at hx
  ·cases hx
  ·next h =>
   obtain ⟨rfl,h1,h2⟩:=ZHj.1 hx
   exact ⟨hf,h,h1,h2⟩
 ·rintro ⟨h1,h2,h3,h4⟩
  refine ⟨x.2,h1,?_⟩
  unfold ZS6
  rw [if_neg h2]
  exact ZHj.2 ⟨rfl,h3,h4⟩
theorem ZRO {l:Cx} {t:List Vx} (h:ZQu l t=1) {f g:List Vx} (hf:f∈l) (hg:g∈l) (h1:Zb t f=true) (h2:Zb t g=true):f=g:=by
 unfold ZQu at h
 obtain ⟨a,ha⟩:=List.length_eq_one_iff.1 h
 have h3:f∈l.filter fun f=>Zb t f:=List.mem_filter.2 ⟨hf,h1⟩
 have h4:g∈l.filter fun f=>Zb t f:=List.mem_filter.2 ⟨hg,h2⟩
 rw [ha,List.mem_singleton] at h3 h4
 rw [h3,h4]
structure PairOk (l:Cx) (x:Cl):Prop where
 mem:x.2∈l
 chk2:ZAL x.2=0
 chk1:ZAL x.1=0
 sub:x.1.Sublist x.2
 len:x.1.length+1=x.2.length
 one:∀ f∈l,Zb x.1 f=true->f=x.2
theorem ZBU {l:Cx} (G:GoodX l) {x:Cl} (hx:x∈Zq l):PairOk l x:=by
 obtain ⟨h1,h2,h3,h4⟩:=ZIw.1 hx
 have hc:=G.2.2.1 _ h1
 obtain ⟨l1,l2⟩:=Zf hc
 obtain ⟨k1,k2,k3⟩:=ZAp hc (by omega) h3
 have ha2:=G.asc _ h1
 exact ⟨h1,hc,k1,k2,by omega,fun f hf hi=>ZRO h4 hf h1 hi ((ZAS (Zk.1 k1).2.2.2 ha2).1 k2)⟩
theorem ZDT {l:Cx} (G:GoodX l) {x:Cl} (hx:PairOk l x) {t:List Vx} (ht:Asc t):ZFm (ZAC l x) t=true↔ZFm l t=true/\t≠x.1/\t≠x.2:=by
 obtain ⟨m2,c2,c1,sb,ln,one⟩:=hx
 have a2:=G.asc _ m2
 have a1:=(Zk.1 c1).2.2.2
 have p1:=Zf c1
 have i12:Zb x.1 x.2=true:=(ZAS a1 a2).1 sb
 unfold ZAC
 rw [ZRy fun s hs=>by
  rcases List.mem_append.1 hs with hs|hs
  ·exact G.2.2.1 _ (List.mem_filter.1 hs).1
  ·exact (ZAp c2 (by omega) (List.mem_filter.1 hs).1).1]
 rw [ZA1,ZA1]
 constructor
 ·rintro ⟨f,hf,hi⟩
  rcases List.mem_append.1 hf with hf|hf
  ·obtain ⟨f1,f2⟩:=List.mem_filter.1 hf
   have f2:=of_decide_eq_true f2
   refine ⟨⟨f,f1,hi⟩,?_,?_⟩
   ·rintro rfl
    exact f2 (one f f1 hi)
   ·rintro rfl
    exact f2 (ZBS G m2 f1 hi).symm
  ·obtain ⟨f1,f2⟩:=List.mem_filter.1 hf
   have f2:=of_decide_eq_true f2
   obtain ⟨q1,q2,q3⟩:=ZAp c2 (by omega) f1
   have af:=(Zk.1 q1).2.2.2
   refine ⟨⟨x.2,m2,ZCF hi ((ZAS af a2).1 q2)⟩,?_,?_⟩
   ·rintro rfl
    by_cases he:x.1=f
    ·exact f2 he.symm
    ·have:=ZBe a1 af hi he
     omega
   ·rintro rfl
    have:=ZNa a2 af hi
    omega
 ·rintro ⟨⟨f,hf,hi⟩,n1,n2⟩
  by_cases hfx:f=x.2
  ·subst hfx
   have hlt:=ZBe ht a2 hi n2
   by_cases hex:∃ v∈x.2,v∉t/\v∈x.1
   ·obtain ⟨v,v1,v2,v3⟩:=hex
    have nd:=ZGL a2
    have hu:x.2.erase v∈ZX (x.2.length-1) x.2:=(Z9 _ _ _).2 ⟨List.erase_sublist,List.length_erase_of_mem v1⟩
    refine ⟨x.2.erase v,List.mem_append.2 (.inr (List.mem_filter.2 ⟨hu,decide_eq_true fun he=>?_⟩)),Z3.2 fun y hy=>?_⟩
    ·rw [<- he] at v3
     exact (nd.mem_erase_iff.1 v3).1 rfl
    ·exact nd.mem_erase_iff.2 ⟨fun e=>v2 (e ▸ hy),Z3.1 hi y hy⟩
   ·have h3:Zb x.1 t=true:=Z3.2 fun y hy=>Classical.byContradiction fun hn=>hex ⟨y,Z3.1 i12 y hy,hn,hy⟩
    have:=ZBe a1 ht h3 (fun e=>n1 e.symm)
    omega
  ·exact ⟨f,List.mem_append.2 (.inl (List.mem_filter.2 ⟨hf,decide_eq_true hfx⟩)),hi⟩
theorem ZKp {l:Cx} (G:GoodX l) {x:Cl} (hx:PairOk l x):∀ s∈(l.filter fun f=>decide (f≠x.2))++(ZX (x.2.length-1) x.2).filter (fun t=>decide (t≠x.1)),ZAL s=0:=fun s hs=>by
 have p1:=Zf hx.chk1
 have ln:=hx.len
 rcases List.mem_append.1 hs with hs|hs
 ·exact G.2.2.1 _ (List.mem_filter.1 hs).1
 ·exact (ZAp hx.chk2 (by omega) (List.mem_filter.1 hs).1).1
theorem ZFE {l:Cx} (G:GoodX l) {x:Cl} (hx:PairOk l x):∀ s∈ZAC l x,ZAL s=0:=fun s hs=>ZKp G hx s (ZCH.1 hs).1
theorem ZHS {l:Cx} (G:GoodX l) {x:Cl} (hx:PairOk l x) (k:Nat):Zs (ZAC l x) k=(Zs l k).filter fun t=>decide (t≠x.1) && decide (t≠x.2):=by
 refine ZD1 (ZA0 _ _) ((ZA0 _ _).sublist List.filter_sublist) fun t=>?_
 rw [List.mem_filter,ZER (fun s hs=>(Zk.1 (ZFE G hx s hs)).2.2.2),ZER G.asc]
 constructor
 ·rintro ⟨h1,h2,h3⟩
  obtain ⟨q1,q2,q3⟩:=(ZDT G hx h1).1 h3
  exact ⟨⟨h1,h2,q1⟩,by rw [decide_eq_true q2,decide_eq_true q3];rfl⟩
 ·rintro ⟨⟨h1,h2,h3⟩,h4⟩
  rw [Bool.and_eq_true,decide_eq_true_eq,decide_eq_true_eq] at h4
  exact ⟨h1,h2,(ZDT G hx h1).2 ⟨h3,h4.1,h4.2⟩⟩
theorem ZNE {α:Type} [DecidableEq α] {l:List α} (hn:l.Nodup) {a b:α} (hab:a≠b):(l.filter fun t=>decide (t≠a) && decide (t≠b)).length+(if a∈l then 1 else 0)+(if b∈l then 1 else 0)=l.length:=by
 induction l with
 | nil=>rfl
 | cons c l ih =>
  rw [List.nodup_cons] at hn
  have h:=ih hn.2
  by_cases h1:c=a
  ·subst h1
   rw [List.filter_cons_of_neg (by simp),if_pos (List.mem_cons_self ..),List.length_cons]
   rw [if_neg hn.1] at h
   have e:(b∈c::l)↔b∈l:=by rw [List.mem_cons];exact ⟨fun q=>q.resolve_left fun q=>hab q.symm,.inr⟩
   by_cases hb:b∈l
   ·rw [if_pos (e.2 hb)];rw [if_pos hb] at h;omega
   ·rw [if_neg fun q=>hb (e.1 q)];rw [if_neg hb] at h;omega
  ·by_cases h2:c=b
   ·subst h2
    rw [List.filter_cons_of_neg (by simp),if_pos (List.mem_cons_self ..),List.length_cons]
    rw [if_neg hn.1] at h
    have e:(a∈c::l)↔a∈l:=by rw [List.mem_cons];exact ⟨fun q=>q.resolve_left hab,.inr⟩
    by_cases ha:a∈l
    ·rw [if_pos (e.2 ha)];rw [if_pos ha] at h;omega
    ·rw [if_neg fun q=>ha (e.1 q)];rw [if_neg ha] at h;omega
   ·rw [List.filter_cons_of_pos (by simp [h1,h2]),List.length_cons,List.length_cons]
    have e1:(a∈c::l)↔a∈l:=by rw [List.mem_cons];exact ⟨fun q=>q.resolve_left fun q=>h1 q.symm,.inr⟩
    have e2:(b∈c::l)↔b∈l:=by rw [List.mem_cons];exact ⟨fun q=>q.resolve_left fun q=>h2 q.symm,.inr⟩
    simp only [e1,e2]
    omega
theorem ZHT {l:Cx} (G:GoodX l) {x:Cl} (hx:PairOk l x) (k:Nat):(Zs (ZAC l x) k).length+(if k=x.1.length then 1 else 0)+(if k=x.2.length then 1 else 0)=(Zs l k).length:=by
 have hne:x.1≠x.2:=fun e=>by have:=hx.len;rw [e] at this;omega
 have a2:=(Zk.1 hx.chk2).2.2.2
 have a1:=(Zk.1 hx.chk1).2.2.2
 have h:=ZNE (ZA0 l k).nodup hne
 rw [<- ZHS G hx] at h
 have e1:(x.1∈Zs l k)↔k=x.1.length:=by
  rw [ZER G.asc]
  exact ⟨fun q=>q.2.1.symm,fun q=>⟨a1,q.symm,ZA1.2 ⟨x.2,hx.mem,(ZAS a1 a2).1 hx.sub⟩⟩⟩
 have e2:(x.2∈Zs l k)↔k=x.2.length:=by
  rw [ZER G.asc]
  exact ⟨fun q=>q.2.1.symm,fun q=>⟨a2,q.symm,ZA1.2 ⟨x.2,hx.mem,ZCm _⟩⟩⟩
 simp only [e1,e2] at h
 exact h
def Zz (l:Cx) (k:Nat):Nat:=((List.range k).map fun i=>(Zs l (i+1)).length).sum
theorem ZA3 (l:Cx) (k:Nat):Zz l (k+1)=Zz l k+(Zs l (k+1)).length:=by
 unfold Zz
 rw [List.range_succ,List.map_append,List.sum_append]
 simp
theorem ZFz (l:Cx):∀ k,(upC l k).length=Zz l k
 | 0=>rfl
 | k+1=>by
  rw [ZA3,<- ZFz l k]
  show (upC l k++Zs l (k+1)).length=_
  rw [List.length_append]
theorem ZIi {l:Cx} (hl:AscL l) (hc:∀ s∈l,ZAL s=0):l.length≤Zz l 8:=by
 rw [<- ZFz]
 refine List.Nodup.length_le_of_subset hl.nodup fun s hs=>ZHs.2 ⟨s.length,?_,?_,ZAr.2 ⟨s,hs,(Z9 _ _ _).2 ⟨List.Sublist.refl _,rfl⟩⟩⟩
 ·exact (Zf (hc s hs)).1
 ·exact (Zf (hc s hs)).2
theorem ZGU {l:Cx} (G:GoodX l) {x:Cl} (hx:PairOk l x):∀ n,Zz (ZAC l x) n+(if x.1.length≤n then 1 else 0)+(if x.2.length≤n then 1 else 0)=Zz l n
 | 0=>by
  have h1:=Zf hx.chk1
  have h2:=Zf hx.chk2
  rw [if_neg (by omega),if_neg (by omega)]
  rfl
 | n+1=>by
  have h:=ZGU G hx n
  have k:=ZHT G hx (n+1)
  have ln:=hx.len
  rw [ZA3,ZA3]
  by_cases a:n+1=x.1.length
  ·rw [if_pos a,if_neg (by omega)] at k
   rw [if_neg (by omega),if_neg (by omega)] at h
   rw [if_pos (by omega),if_neg (by omega)]
   omega
  ·by_cases b:n+1=x.2.length
   ·rw [if_neg a,if_pos b] at k
    rw [if_pos (by omega),if_neg (by omega)] at h
    rw [if_pos (by omega),if_pos (by omega)]
    omega
   ·rw [if_neg a,if_neg b] at k
    by_cases c:x.1.length≤n
    ·rw [if_pos c,if_pos (by omega)] at h
     rw [if_pos (by omega),if_pos (by omega)]
     omega
    ·rw [if_neg c,if_neg (by omega)] at h
     rw [if_neg (by omega),if_neg (by omega)]
     omega
theorem ZCG {l:Cx} (G:GoodX l) {x:Cl} (hx:PairOk l x):Zz (ZAC l x) 8+2=Zz l 8:=by
 have h:=ZGU G hx 8
 rw [if_pos (Zf hx.chk1).2,if_pos (Zf hx.chk2).2] at h
 omega
theorem ZBf {l:Cx} (G:GoodX l) {x:Cl} (hx:PairOk l x) (hw:Zz l 8≤4098):GoodX (ZAC l x):=by
 refine ZPv (fun s hs _=>ZKp G hx s hs) ?_
 have h1:=ZIi (ZFG _) (ZFE G hx)
 have h2:=ZCG G hx
 unfold ZAC at h1 h2
 omega
def ZJN:Nat->Cx->Cx × List Cl
 | 0,l=>(l,[])
 | n+1,l=>match Zq l with
  | []=>(l,[])
  | x::_=>((ZJN n (ZAC l x)).1,x::(ZJN n (ZAC l x)).2)
theorem ZHg {l:Cx} (h:Zq l=[]):∀ n,ZJN n l=(l,[])
 | 0=>rfl
 | n+1=>by unfold ZJN;rw [h]
theorem ZFu {l:Cx} {x:Cl} {t:List Cl} (h:Zq l=x::t) (n:Nat):ZJN (n+1) l=((ZJN n (ZAC l x)).1,x::(ZJN n (ZAC l x)).2):=by
 show (match Zq l with|[]=>(l,[])|x::_=>((ZJN n (ZAC l x)).1,x::(ZJN n (ZAC l x)).2))=_
 rw [h]
def ZAV (l:Cx):Cx × List Cl:=ZJN 4096 l
end
section
def rkC (l:Cx) (d:Nat):Nat:=L05.rkG L05.incF (if d=0 then [] else Zs l d) (Zs l (d+1))
def ZF6 (l:Cx) (d:Nat):Int:=((Zs l (d+1)).length:Int)-(rkC l d:Int)-(rkC l (d+1):Int)
theorem ZCK {l:Cx} {k:Nat} {c:List Vx} (h:c∈Zs l k):c.length=k:=by
 obtain ⟨f,_,h2⟩:=ZAr.1 h
 exact ((Z9 _ _ _).1 h2).2
theorem ZES {l:Cx} {k:Nat} {c:List Vx} (h:c∈Zs l k):∃ f∈l,c.Sublist f:=by
 obtain ⟨f,h1,h2⟩:=ZAr.1 h
 exact ⟨f,h1,((Z9 _ _ _).1 h2).1⟩
theorem ZMl {l:Cx} {f c:List Vx} (hf:f∈l) (h:c.Sublist f):c∈Zs l c.length:=ZAr.2 ⟨f,hf,(Z9 _ _ _).2 ⟨h,rfl⟩⟩
theorem ZTI {l:Cx} (G:GoodX l) {f t:List Vx} (hf:f∈l) (ht:t∈l) (h:t.Sublist f):t.length=f.length:=by
 have h1:=G.2.2.2 t ht
 have h2:=h.length_le
 refine Classical.byContradiction fun hne=>?_
 have:ZAM l t=true:=List.any_eq_true.2 ⟨f,hf,by
  rw [Bool.and_eq_true]
  exact ⟨decide_eq_true (by omega),Z3.2 fun x hx=>h.subset hx⟩⟩
 rw [this] at h1;cases h1
theorem ZFg {l:Cx} {x:Cl} {k:Nat} (h1:k≠x.1.length) (h2:k≠x.2.length):((Zs l k).filter fun t=>decide (t≠x.1) && decide (t≠x.2))=Zs l k:=List.filter_eq_self.2 fun t ht=>by
 have:=ZCK ht
 rw [Bool.and_eq_true]
 exact ⟨decide_eq_true fun e=>by subst e;exact h1 this.symm,decide_eq_true fun e=>by subst e;exact h2 this.symm⟩
theorem ZKc {l:Cx} {x:Cl} (hx:PairOk l x):((Zs l x.1.length).filter fun t=>decide (t≠x.1) && decide (t≠x.2))=(Zs l x.1.length).filter fun t=>decide (t≠x.1):=List.filter_congr fun t ht=>by
 have:=ZCK ht
 have h:=hx.len
 rw [decide_eq_true (p:=t≠x.2) fun e=>by subst e;omega,Bool.and_true]
theorem ZKd {l:Cx} {x:Cl} (hx:PairOk l x):((Zs l x.2.length).filter fun t=>decide (t≠x.1) && decide (t≠x.2))=(Zs l x.2.length).filter fun t=>decide (t≠x.2):=List.filter_congr fun t ht=>by
 have:=ZCK ht
 have h:=hx.len
 rw [decide_eq_true (p:=t≠x.1) fun e=>by subst e;omega,Bool.true_and]
theorem ZOF {l:Cx} (G:GoodX l) {x:Cl} (hx:PairOk l x) (d:Nat):rkC (ZAC l x) d+(if d=x.1.length then 1 else 0)=rkC l d:=by
 have hl:=hx.len
 have h1:=Zf hx.chk1
 have hm1:x.1∈Zs l x.1.length:=ZMl hx.mem hx.sub
 have hm2:x.2∈Zs l x.2.length:=ZMl hx.mem (List.Sublist.refl _)
 have hta:=ZGL (G.asc _ hx.mem)
 unfold rkC
 rw [ZHS G hx,ZHS G hx]
 by_cases c1:d=x.1.length
 ·subst c1
  rw [if_pos rfl,if_neg (by omega),if_neg (by omega),ZKc hx,hl,ZKd hx]
  refine (L05.rk_both (s:=x.1) (t:=x.2) (L05.perm_out (ZA0 l _).nodup hm1) (fun c=>?_) ?_ fun c hc=>?_).symm
  ·rw [List.mem_filter,decide_eq_true_iff]
   by_cases e:c=x.2
   ·subst e;simp [hm2]
   ·simp [e]
  ·exact L05.incF_yes (L05.facL_of hx.sub hl (by omega))
  ·obtain ⟨q1,q2⟩:=List.mem_filter.1 hc
   refine L05.incF_no fun q=>of_decide_eq_true q2 ?_
   obtain ⟨f,hf,hs⟩:=ZES q1
   have e:=hx.one f hf (Z3.2 fun y hy=>hs.subset ((L05.facL_sub q).1.subset hy))
   subst e
   exact hs.eq_of_length (ZCK q1)
 ·rw [if_neg c1,Nat.add_zero]
  by_cases c2:d=x.2.length
  ·have c3:d+1≠x.1.length:=by omega
   have c4:d+1≠x.2.length:=by omega
   rw [ZFg c3 c4]
   subst c2
   rw [if_neg (by omega),if_neg (by omega),ZKd hx]
   refine L05.rk_row (L05.perm_out (ZA0 l _).nodup hm2) fun c hc=>L05.incF_no fun q=>?_
   obtain ⟨f,hf,hs⟩:=ZES hc
   have h2:=(L05.facL_sub q).1.trans hs
   have h3:=ZTI G hf hx.mem h2
   have h4:=hs.length_le
   have h5:=ZCK hc
   omega
  ·rw [ZFg c1 c2]
   by_cases c3:d+1=x.1.length
   ·rw [c3,ZKc hx]
    refine L05.rk_col (fun c hc=>(List.mem_filter.1 hc).1) fun y hy he=>?_
    rw [L05.evC_iff] at he ⊢
    intro c hc
    by_cases hcx:c=x.1
    ·subst hcx
     by_cases h0:x.2.length≤1
     ·omega
     refine L05.col_even hta (L05.facL_of hx.sub hl (by omega)) fun c hc2 hne=>he c (List.mem_filter.2 ⟨?_,decide_eq_true hne⟩)
     obtain ⟨s1,s2⟩:=L05.facL_sub hc2
     have:c.length=x.1.length:=by omega
     rw [<- this]
     exact ZMl hx.mem s1
    ·exact he c (List.mem_filter.2 ⟨hc,decide_eq_true hcx⟩)
   ·rw [ZFg c3 (by omega)]
theorem ZKM {l:Cx} (G:GoodX l) {x:Cl} (hx:PairOk l x) (d:Nat):ZF6 (ZAC l x) d=ZF6 l d:=by
 have h1:=ZOF G hx d
 have h2:=ZOF G hx (d+1)
 have h3:=ZHT G hx (d+1)
 have hl:=hx.len
 unfold ZF6
 split at h1 <;> split at h2 <;> split at h3 <;> (try split at h3) <;> omega
end
end Go.Proofs.YtokmalofdapffaaGreat
