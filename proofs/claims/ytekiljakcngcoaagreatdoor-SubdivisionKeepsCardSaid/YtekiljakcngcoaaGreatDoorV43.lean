/- Part 43: walks by contracts, and plain laws. -/
import Derived.Test.YtekiljakcngcoaaGreatDoorV42
set_option linter.unusedVariables false
set_option linter.unusedSimpArgs false
set_option linter.unusedSectionVars false
set_option maxRecDepth 100000
set_option maxHeartbeats 4000000
namespace Go.Proofs.YtekiljakcngcoaaGreatDoor
section
open Go.RowKit

def ZGx (fs:Cx) (s:List Vx) (v:Vx):Vx:=(v.1,ZAN 0 fs (ZIj s v))
def ZTl (fs:Cx) (s:List Vx) (d:List (Vx × List Vx)) (t:List Vx):List (Vx × List Vx):=t.foldl (fun d v=>ZPV d (ZGx fs s v) (ZIj s v)) d
def ZRz (fs:Cx) (s:List Vx) (A:Cx × List (Vx × List Vx)) (t:List Vx):Cx × List (Vx × List Vx):=(ZFy A.1 (t.map (ZGx fs s)),ZTl fs s A.2 t)
def ZVX (fs:Cx) (s:List Vx) (A:Cx × List (Vx × List Vx)) (F:Cx):Cx × List (Vx × List Vx):=F.foldl (ZRz fs s) A
def ZSy (fs l:Cx):Cx × List (Vx × List Vx):=l.foldl (fun A s=>ZVX fs s A (ZCz s)) ([],[])
def ZP0 (l:Cx):Int:=if l.all ZAi=false then 3 else if l.any (fun s=>decide (5<s.length))=true then 5 else if 4096<ZFi l then 5 else 0
def ZVh (l:Cx):Sub × Int:=if ZP0 l≠0 then (([],[],[]),ZP0 l) else (((ZSy (ZAL l) l).1,(ZSy (ZAL l) l).2.map (·.1),(ZSy (ZAL l) l).2.map (·.2)),0)
end
section
open Go.RowKit
def ZP8 (M:ZDu) (s:List Vx):Nat->Int:=fun m=>ZQD M (atB s m)
def ZTS (M:ZDu) (s:List Vx):Cx:=(ZCD (2 ^ s.length-1)).map (Z5 (ZP8 M s) s)
def ZGF (M:ZDu) (l:Cx):Cx:=l.flatMap (ZTS M)
theorem ZOF {M:ZDu} {l:Cx} {i:Nat} (h:i<l.length):ZGF M (l.take (i+1))=ZGF M (l.take i)++ZTS M l[i]:=by
 unfold ZGF
 rw [ZZ h,List.flatMap_append]
 simp
theorem ZQu {M:ZDu} {s:List Vx} (h5:s.length≤5):(ZTS M s).length=ZND s.length:=by
 unfold ZTS
 rw [List.length_map]
 exact ZTm ⟨s.length,by omega⟩
theorem ZET {M:ZDu}:∀ {l:Cx},(∀ s∈l,s.length≤5)->(ZGF M l).length=ZFi l
 | [],_=>rfl
 | s::l,h=>by
  have h1:=ZET (M:=M) (l:=l) fun t ht=>h t (by simp [ht])
  unfold ZGF at h1 ⊢
  rw [List.flatMap_cons,List.length_append,h1,ZQu (h s (by simp))]
  unfold ZFi
  rw [List.map_cons,List.sum_cons]
theorem ZPs {l:Cx} (i:Nat):ZFi (l.take i)≤ZFi l:=by
 conv=>rhs;rw [<- List.take_append_drop i l]
 unfold ZFi
 rw [List.map_append,List.sum_append]
 omega
theorem ZTk {l:Cx} {n:Nat} (h:∀ s∈l,s.length≤n):l.flatten.length≤n*l.length:=by
 induction l with
 | nil=>simp
 | cons s l ih =>
  have h1:=ih fun t ht=>h t (by simp [ht])
  have h2:=h s (by simp)
  rw [List.flatten_cons,List.length_append,List.length_cons,Nat.mul_succ]
  omega
theorem ZTR {M:ZDu} {l:Cx} (h5:∀ s∈l,s.length≤5):∀ t∈ZGF M l,t.length≤5:=fun t ht=>by
 obtain ⟨s,hs,ht⟩:=List.mem_flatMap.1 ht
 obtain ⟨bl,_,rfl⟩:=List.mem_map.1 ht
 rw [ZBO]
 exact h5 s hs
abbrev MemM:={m:Nat // m<1048576}

theorem ZLe (l:Cx) (he:ZGs l≠0):Fn Tryz.prog 7 [dS CpxL l] (dT [dS ZG6 ([],[],[]),dI (ZGs l)]):=by
 have c1:=ZFS l
 generalize ZGs l=e at *
 refine ZDT ZDp Tryz.func7 rfl rfl ?_
 simp only [Tryz.ntmps7,List.length_cons,List.length_nil,Nat.reduceAdd,Nat.reduceSub,List.replicate_succ,List.replicate_zero,List.cons_append,List.nil_append]
 ((repeat' (first|(apply WL.opN;exact yF;dsimp only [ZA,z0,z1])|refine WL.nil ?_|refine ZC fun Kx hK=>?_|(refine hK _ _ ?_;clear hK)|refine WC.region ?_ |  (refine WL.alloc (dst:=some 2) ZKA (ZA0 rfl rfl rfl) fun b2=>?_;dsimp only [ZA,z0,z1]) |  (refine ZG ZDp rfl (OpD.t rfl) ZAd ?_;dsimp only [ZA,z0,z1])|(apply WL.opN;(focus ((first|(exact SY.box (OpD.t rfl) (fun I w v h=>ZBM I w v (ZAh I w v h)))|(apply SY.call c1 Tryz.call25;exact ArgsD.cons (OpD.tle rfl ZAh) ArgsD.nil)|(exact ZHY)|((first|apply SY.move|apply SY.assign|apply SY.lss|apply SY.neq) <;> (exact oD))|fail);all_goals infer_instance));dsimp only [ZA,z0,z1])|(apply WC.condN;(exact oD);all_goals (intro h;try exact xD))|refine WC.ret ?_|refine ThenD.r ?_));all_goals (first|((repeat clear hK);(repeat clear Kx))))
 all_goals first|(refine ⟨trivial,⟨_,rfl,?_⟩,_,rfl,?_⟩ <;> exact fD)|(exfalso;first|contradiction|omega)
end
section
open Go.RowKit

def ZKI (l:Cx):Sub × Int:=if ZAr l≠0 then (([],[],[]),ZAr l) else ZVh l
end
section
def canS (n:Nat):List Vx:=(List.range n).map fun i=>(((i:Nat):Int),0)
theorem ZCe {s:List Vx} {bl:List Nat} {i:Nat} (h:i<(ZBY s bl).length):(ZBY s bl)[i]=((s[i]'(by rw [ZAF] at h;exact h)).1,((ZCA bl i 0:Nat):Int)):=by simp [ZBY]
end
section
theorem ZKY {m i:Nat}:(m >>> i) &&& 1=1↔m.testBit i=true:=by
 have h:(m >>> i) &&& 1=(m.testBit i).toNat:=by
  rw [Nat.and_one_is_mod,Nat.shiftRight_eq_div_pow,Nat.toNat_testBit]
 rw [h]
 cases m.testBit i <;> decide
theorem ZFE {s:List Vx} {m:Nat} {x:Vx}:x∈atB s m↔∃ (i:Nat) (h:i<s.length),s[i]=x/\m.testBit i=true:=by
 unfold atB
 rw [List.mem_map]
 constructor
 ·rintro ⟨⟨v,i⟩,hp,rfl⟩
  rw [List.mem_filter,decide_eq_true_eq,ZKY] at hp
  have h:=List.mem_zipIdx hp.1
  exact ⟨i,by omega,by simpa using h.2.2.symm,hp.2⟩
 ·rintro ⟨i,h,rfl,hb⟩
  refine ⟨(s[i],i),?_,rfl⟩
  rw [List.mem_filter,decide_eq_true_eq,ZKY]
  exact ⟨List.mem_zipIdx_iff_getElem?.2 (by simp [h]),hb⟩
theorem ZBG (s:List Vx) (m:Nat):(atB s m).Sublist s:=by
 unfold atB
 have h:((s.zipIdx.filter fun p=>decide ((m >>> p.2) &&& 1=1)).map (·.1)).Sublist (s.zipIdx.map (·.1)):=List.Sublist.map _ List.filter_sublist
 rwa [List.zipIdx_map_fst] at h
theorem ZE4 {s:List Vx} (h:Asc s):s.Nodup:=List.Pairwise.imp (fun {a b} hab e=>by
 subst e
 have:ZA8 a a=0:=ZCO.2 rfl
 omega) h
theorem ZJB {s:List Vx} (hs:s.Nodup) {m:Nat} (hm:m<2 ^ s.length):(atB s m).length<s.length↔m≠2 ^ s.length-1:=by
 have hl:=(ZBG s m).length_le
 constructor
 ·rintro h rfl
  have e:atB s (2 ^ s.length-1)=s:=by
   unfold atB
   rw [List.filter_eq_self.2 fun p hp=>by
    obtain ⟨v,i⟩:=p
    have h:=List.mem_zipIdx hp
    rw [decide_eq_true_eq,ZKY,Nat.testBit_two_pow_sub_one,decide_eq_true_eq]
    omega]
   exact List.zipIdx_map_fst ..
  rw [e] at h
  omega
 ·intro h
  refine Classical.byContradiction fun hn=>h ?_
  have e:atB s m=s:=(ZBG s m).eq_of_length (by omega)
  apply Nat.eq_of_testBit_eq
  intro i
  rw [Nat.testBit_two_pow_sub_one]
  by_cases hi:i<s.length
  ·rw [decide_eq_true hi]
   have:s[i]∈atB s m:=by rw [e];exact List.getElem_mem hi
   obtain ⟨j,hj,h1,h2⟩:=ZFE.1 this
   rw [(List.getElem_inj hs).1 h1] at h2
   exact h2
  ·rw [decide_eq_false hi]
   exact Nat.testBit_lt_two_pow (Nat.lt_of_lt_of_le hm (Nat.pow_le_pow_right (by decide) (by omega)))
theorem ZN8 {c:Cx}:∀ {l:List (List Vx)},(∀ s∈l,Z3 s=0/\ZCa c s=true)->ZLZ c l=0
 | [],_=>rfl
 | s::l,h=>by
  obtain ⟨h1,h2⟩:=h s (by simp)
  unfold ZLZ
  rw [if_neg (by rw [h1];decide),if_neg (by rw [h2];decide)]
  exact ZN8 fun t ht=>h t (by simp [ht])
end
section
def ZUQ (O:Cx):Prop:=∀ x∈O,∀ v∈x,0≤v.1/\0≤v.2
def ZKu:Nat->Cx->ZDu
 | _,[]=>[]
 | k,x::O=>(txS x,(k:Int))::ZKu (k+1) O
theorem ZL8:∀ (O:Cx) (k:Nat),(ZKu k O).length=O.length
 | [],_=>rfl
 | x::O,k=>by unfold ZKu;rw [List.length_cons,List.length_cons,ZL8 O]
theorem ZJr:∀ (O:Cx) (k:Nat) (x:List Vx),ZKu k (O++[x])=ZKu k O++[(txS x,((k+O.length:Nat):Int))]
 | [],k,x=>rfl
 | y::O,k,x=>by
  show (txS y,(k:Int))::ZKu (k+1) (O++[x])=(txS y,(k:Int))::ZKu (k+1) O++_
  rw [ZJr O (k+1) x,List.length_cons,show k+1+O.length=k+(O.length+1) by omega]
  rfl
theorem ZIJ:∀ (O:Cx) (k:Nat) (x:List Vx),ZAN k O x<0↔x∉O
 | [],k,x=>by simp [ZAN]
 | y::O,k,x=>by
  unfold ZAN
  by_cases h:y=x
  ·rw [if_pos h];subst h;simp
  ·rw [if_neg h,ZIJ O (k+1) x,List.mem_cons]
   constructor
   ·intro q;rintro (e|e)
    ·exact h e.symm
    ·exact q e
   ·intro q e;exact q (.inr e)
theorem ZBX:∀ (O:Cx) (k:Nat) (x:List Vx),x∈O->∃ (j:Nat) (h:j<O.length),ZAN k O x=((k+j:Nat):Int)/\O[j]=x
 | [],k,x,h=>by cases h
 | y::O,k,x,h=>by
  unfold ZAN
  by_cases e:y=x
  ·exact ⟨0,by simp,by rw [if_pos e];simp,e⟩
  ·rw [if_neg e]
   have hx:x∈O:=by
    rcases List.mem_cons.1 h with q|q
    ·exact absurd q.symm e
    ·exact q
   obtain ⟨j,h1,h2,h3⟩:=ZBX O (k+1) x hx
   exact ⟨j+1,by simpa using h1,by rw [h2];omega,by simpa using h3⟩
theorem ZFr:∀ (O:Cx) (k:Nat) (x:List Vx),ZUQ O->(∀ v∈x,0≤v.1/\0≤v.2)->lookM (ZKu k O) (txS x)=if ZAN k O x<0 then none else some (ZAN k O x)
 | [],k,x,_,_=>by
  have e:ZAN k [] x = -1:=rfl
  rw [e,if_pos (by decide)];rfl
 | y::O,k,x,hO,hx=>by
  have ih:=ZFr O (k+1) x (fun z hz=>hO z (by simp [hz])) hx
  unfold ZKu ZAN
  by_cases e:y=x
  ·subst e
   rw [if_pos rfl,if_neg (by omega)]
   unfold lookM
   rw [List.find?_cons_of_pos (by simp)]
   rfl
  ·rw [if_neg e,<- ih]
   unfold lookM
   rw [List.find?_cons_of_neg]
   simp only [decide_eq_true_eq]
   exact fun q=>e (ZPu (hO y (by simp)) hx q)
theorem ZRc (O:Cx) (x:List Vx) (hO:ZUQ O) (hx:∀ v∈x,0≤v.1/\0≤v.2):ZFg (ZKu 0 O) x=ZKu 0 (ZNj O x):=by
 unfold ZFg ZNj
 rw [ZFr O 0 x hO hx]
 by_cases h:ZAN 0 O x<0
 ·rw [if_pos h,if_neg (by simp),if_pos h,ZJr,Nat.zero_add]
  have hn:lookM (ZKu 0 O) (txS x)=none:=by rw [ZFr O 0 x hO hx,if_pos h]
  rw [ZBx (ZFs (by rw [hn];rfl)),ZL8]
 ·rw [if_neg h,if_neg h];rfl
theorem ZLP {O:Cx} {x y:List Vx}:y∈ZNj O x↔y∈O\/y=x:=by
 unfold ZNj
 by_cases h:ZAN 0 O x<0
 ·rw [if_pos h,List.mem_append,List.mem_singleton]
 ·rw [if_neg h]
  have hx:x∈O:=Classical.byContradiction fun q=>h ((ZIJ O 0 x).2 q)
  constructor
  ·exact .inl
  ·rintro (q|rfl)
   ·exact q
   ·exact hx
theorem ZLt:∀ (L O:Cx),ZUQ O->ZUQ L->L.foldl ZFg (ZKu 0 O)=ZKu 0 (L.foldl ZNj O)
 | [],_,_,_=>rfl
 | x::L,O,hO,hL=>by
  rw [List.foldl_cons,List.foldl_cons,ZRc O x hO (hL x (by simp))]
  refine ZLt L _ (fun y hy=>?_) fun y hy=>hL y (by simp [hy])
  rcases ZLP.1 hy with q|rfl
  ·exact hO y q
  ·exact hL _ (by simp)
theorem ZAs {l:Cx} {x:List Vx}:x∈ZAL l↔x∈ZFW l:=by
 have go:∀ (L O:Cx),x∈L.foldl ZNj O↔x∈O\/x∈L:=by
  intro L
  induction L with
  | nil=>intro O;simp
  | cons y L ih =>
   intro O
   rw [List.foldl_cons,ih,ZLP,List.mem_cons,or_assoc]
 unfold ZAL
 rw [go];simp
theorem ZBH {l:Cx} {x:List Vx}:x∈ZFW l↔∃ s∈l,x≠[]/\x.Sublist s:=by
 unfold ZFW ZSb
 rw [List.mem_flatMap]
 constructor
 ·rintro ⟨s,hs,hx⟩
  obtain ⟨k,hk,hx⟩:=List.mem_flatMap.1 hx
  have:=(ZAw _ _ _).1 hx
  exact ⟨s,hs,fun e=>by rw [e] at this;simp at this,this.1⟩
 ·rintro ⟨s,hs,hne,hsub⟩
  have hl:0<x.length:=List.length_pos_iff.2 hne
  refine ⟨s,hs,List.mem_flatMap.2 ⟨x.length-1,List.mem_range.2 (by have:=hsub.length_le;omega),(ZAw _ _ _).2 ⟨hsub,by omega⟩⟩⟩
section
variable {l:Cx}
theorem ZT0 (hg:∀ s∈l,Z3 s=0):ZA2 l=ZKu 0 (ZAL l):=by
 have hL:ZUQ (ZFW l):=fun x hx v hv=>by
  obtain ⟨s,hs,_,hsub⟩:=ZBH.1 hx
  have:=ZJv (hg s hs) v (hsub.subset hv)
  unfold okL at this
  omega
 exact ZLt (ZFW l) [] (fun x hx=>by cases hx) hL
theorem ZFv (hg:∀ s∈l,Z3 s=0) {x:List Vx} (hx:x∈ZFW l):ZQD (ZA2 l) x=ZAN 0 (ZAL l) x:=by
 have hp:ZUQ (ZAL l):=fun y hy v hv=>by
  obtain ⟨s,hs,_,hsub⟩:=ZBH.1 (ZAs.1 hy)
  have:=ZJv (hg s hs) v (hsub.subset hv)
  unfold okL at this
  omega
 have hr:=ZAs.2 hx
 unfold ZQD
 rw [ZT0 hg,ZFr _ _ _ hp (hp x hr),if_neg fun q=>(ZIJ _ _ _).1 q hr]
 rfl
theorem at_face {s:List Vx} {m:Nat} (hm:∃ i,i<s.length/\m.testBit i=true):atB s m≠[]:=fun e=>by
 obtain ⟨i,hi,hb⟩:=hm
 have:s[i]∈atB s m:=ZFE.2 ⟨i,hi,rfl,hb⟩
 rw [e] at this;cases this
def ordQ (n:Nat):Bool:=(ZCD (2 ^ n-1)).all fun bl=>((List.range n).all fun i=>(ZCA bl i 0).testBit i && decide (ZCA bl i 0<2 ^ n)) && (List.range n).any fun i=>decide (ZCA bl i 0=2 ^ n-1)
theorem ZT3:∀ n,1≤n->n≤5->ordQ n=true:=by
 intro n h1 h5
 have:n=1\/n=2\/n=3\/n=4\/n=5:=by omega
 rcases this with rfl|rfl|rfl|rfl|rfl <;> decide +kernel
theorem ZSn {s:List Vx} (h1:1≤s.length) (h5:s.length≤5) {bl:List Nat} (hb:bl∈ZCD (2 ^ s.length-1)):(∀ i,i<s.length->(ZCA bl i 0).testBit i=true/\ZCA bl i 0<2 ^ s.length)/\∃ i,i<s.length/\ZCA bl i 0=2 ^ s.length-1:=by
 have h:=List.all_eq_true.1 (ZT3 s.length h1 h5) bl hb
 rw [Bool.and_eq_true] at h
 refine ⟨fun i hi=>?_,?_⟩
 ·have:=List.all_eq_true.1 h.1 i (List.mem_range.2 hi)
  rw [Bool.and_eq_true] at this
  exact ⟨this.1,of_decide_eq_true this.2⟩
 ·obtain ⟨i,hi,h2⟩:=List.any_eq_true.1 h.2
  exact ⟨i,List.mem_range.1 hi,of_decide_eq_true h2⟩
def ZC4 (fs l:Cx):Cx:=l.flatMap fun s=>(ZCz s).map fun t=>t.map (ZGx fs s)
section
variable {l:Cx} (hg:∀ s∈l,Z3 s=0) (h5:∀ s∈l,s.length≤5)
include hg h5
theorem ZEf {s:List Vx} (hs:s∈l) {bl:List Nat} (hb:bl∈ZCD (2 ^ s.length-1)) {i:Nat} (hi:i<s.length):atB s (ZCA bl i 0)∈ZFW l:=by
 have h1:=(ZP.1 (hg s hs)).1
 have h2:=(ZSn (by omega) (h5 s hs) hb).1 i hi
 exact ZBH.2 ⟨s,hs,at_face ⟨i,hi,h2.1⟩,ZBG _ _⟩
theorem ZOG {s:List Vx} (hs:s∈l):ZTS (ZA2 l) s=(ZCz s).map fun t=>t.map (ZGx (ZAL l) s):=by
 unfold ZTS ZCz
 rw [List.map_map]
 refine List.map_congr_left fun bl hb=>?_
 show Z5 (ZP8 (ZA2 l) s) s bl=(ZBY s bl).map (ZGx (ZAL l) s)
 apply List.ext_getElem
 ·rw [ZBO,List.length_map,ZAF]
 ·intro i h1 h2
  have hi:i<s.length:=by rw [ZBO] at h1;exact h1
  rw [ZDh h1 hi,List.getElem_map,ZCe]
  unfold ZGx ZIj ZP8
  simp only [Int.toNat_natCast]
  rw [((ZCP (h5 s hs) hb).2 i hi).1,ZFv hg (ZEf hg h5 hs hb hi)]
theorem ZJK:ZGF (ZA2 l) l=ZC4 (ZAL l) l:=by
 unfold ZGF ZC4
 have:∀ k:Cx,(∀ s∈k,s∈l)->k.flatMap (ZTS (ZA2 l))=k.flatMap fun s=>(ZCz s).map fun t=>t.map (ZGx (ZAL l) s):=by
  intro k
  induction k with
  | nil=>intro _;rfl
  | cons s k ih =>
   intro hk
   rw [List.flatMap_cons,List.flatMap_cons,ih fun t ht=>hk t (by simp [ht]),ZOG hg h5 (hk s (by simp))]
 exact this l fun _ h=>h
theorem ZEX {f:List Vx} (hf:f∈ZC4 (ZAL l) l):∃ s∈l,∃ bl∈ZCD (2 ^ s.length-1),f=(ZBY s bl).map (ZGx (ZAL l) s):=by
 obtain ⟨s,hs,hf⟩:=List.mem_flatMap.1 hf
 obtain ⟨t,ht,rfl⟩:=List.mem_map.1 hf
 obtain ⟨bl,hbl,rfl⟩:=List.mem_map.1 ht
 exact ⟨s,hs,bl,hbl,rfl⟩
theorem ZJS {f:List Vx} {s:List Vx} (hs:s∈l) {bl:List Nat} (hb:bl∈ZCD (2 ^ s.length-1)) (he:f=(ZBY s bl).map (ZGx (ZAL l) s)) {v:Vx} (hv:v∈f):∃ (i:Nat) (hi:i<s.length),v=(s[i].1,ZAN 0 (ZAL l) (atB s (ZCA bl i 0))):=by
 rw [he] at hv
 obtain ⟨u,hu,rfl⟩:=List.mem_map.1 hv
 obtain ⟨i,hi,rfl⟩:=List.mem_iff_getElem.1 hu
 have hi':i<s.length:=by rw [ZAF] at hi;exact hi
 exact ⟨i,hi',by rw [ZCe];unfold ZGx ZIj;simp only [Int.toNat_natCast]⟩
theorem ZJR (hG:GoodX l) {f:List Vx} (hf:f∈ZC4 (ZAL l) l):ZAY (ZC4 (ZAL l) l) f=false:=by
 have:¬ ZAY (ZC4 (ZAL l) l) f=true:=fun q=>by
  obtain ⟨k,hk,hlt,hin⟩:=ZAZ.1 q
  obtain ⟨s,hs,bl,hbl,ef⟩:=ZEX hg h5 hf
  obtain ⟨s',hs',bl',hbl',ek⟩:=ZEX hg h5 hk
  have h1:=(ZP.1 (hg s hs)).1
  obtain ⟨i,hi,hfull⟩:=(ZSn (by omega) (h5 s hs) hbl).2
  have hfl:f.length=s.length:=by rw [ef,List.length_map,ZAF]
  have hkl:k.length=s'.length:=by rw [ek,List.length_map,ZAF]
  have hat:atB s (2 ^ s.length-1)=s:=(ZBG s _).eq_of_length (Classical.byContradiction fun hne=>by
   have hlt:=(ZBG s (2 ^ s.length-1)).length_le
   exact (ZJB (ZE4 (ZP.1 (hg s hs)).2.2.2) (by have:=Nat.two_pow_pos s.length;omega)).1 (by omega) rfl)
  have hfi:i<f.length:=by omega
  have hv:f[i]=(s[i].1,ZAN 0 (ZAL l) s):=by
   have hj:i<(ZBY s bl).length:=by rw [ZAF];exact hi
   have e1:f[i]?=some (s[i].1,ZAN 0 (ZAL l) s):=by
    rw [ef,List.getElem?_map,List.getElem?_eq_getElem hj,ZCe]
    unfold ZGx ZIj
    simp only [Int.toNat_natCast,Option.map_some]
    rw [hfull,hat]
   exact (List.getElem?_eq_some_iff.1 e1).2
  have hvk:f[i]∈k:=of_decide_eq_true (List.all_eq_true.1 hin _ (List.getElem_mem hfi))
  obtain ⟨j,hj,e⟩:=ZJS hg h5 hs' hbl' ek hvk
  rw [hv] at e
  have en:ZAN 0 (ZAL l) s=ZAN 0 (ZAL l) (atB s' (ZCA bl' j 0)):=congrArg Prod.snd e
  have hsk:s∈ZAL l:=ZAs.2 (ZBH.2 ⟨s,hs,fun q=>by rw [q] at h1;exact h1 rfl,List.Sublist.refl _⟩)
  have hsk':atB s' (ZCA bl' j 0)∈ZAL l:=ZAs.2 (ZEf hg h5 hs' hbl' hj)
  obtain ⟨a,a1,a2,a3⟩:=ZBX _ 0 _ hsk
  obtain ⟨b,b1,b2,b3⟩:=ZBX _ 0 _ hsk'
  have hab:a=b:=by rw [a2,b2] at en;omega
  subst hab
  have hes:s=atB s' (ZCA bl' j 0):=by rw [<- a3,b3]
  have hsub:s.Sublist s':=by rw [hes];exact ZBG _ _
  have hcov:ZAY l s=true:=ZAZ.2 ⟨s',hs',by omega,List.all_eq_true.2 fun x hx=>decide_eq_true (hsub.subset hx)⟩
  rw [hG.2.2.2 s hs] at hcov
  cases hcov
 simpa using this
end
end
end
section
def ZGr (fs:Cx) (v:Vx):List Vx:=fs.getD v.2.toNat []
theorem ZDF {α β:Type} {f g:β->α->β}:∀ (L:List α) (b:β),(∀ b,∀ x∈L,f b x=g b x)->L.foldl f b=L.foldl g b
 | [],_,_=>rfl
 | x::L,b,h=>by
  rw [List.foldl_cons,List.foldl_cons,h b x (by simp)]
  exact ZDF L _ fun b y hy=>h b y (by simp [hy])
theorem ZRG {fs:Cx} {s:List Vx} {car:Vx->List Vx} {t:List Vx} (h:∀ v∈t,car (ZGx fs s v)=ZIj s v) (d:List (Vx × List Vx)):ZTl fs s d t=(t.map (ZGx fs s)).foldl (fun d u=>ZPV d u (car u)) d:=by
 unfold ZTl
 rw [List.foldl_map]
 exact ZDF t d fun d v hv=>by rw [h v hv]
theorem ZPj {fs:Cx} {s:List Vx} {car:Vx->List Vx}:∀ (F:Cx) (A:Cx × List (Vx × List Vx)),(∀ t∈F,∀ v∈t,car (ZGx fs s v)=ZIj s v) ->
  ZVX fs s A F=((F.map fun t=>t.map (ZGx fs s)).foldl ZFy A.1,(F.map fun t=>t.map (ZGx fs s)).flatten.foldl (fun d u=>ZPV d u (car u)) A.2)
 | [],A,_=>rfl
 | t::F,A,h=>by
  have e:ZVX fs s A (t::F)=ZVX fs s (ZRz fs s A t) F:=rfl
  rw [e,ZPj F (ZRz fs s A t) fun u hu=>h u (by simp [hu])]
  unfold ZRz
  rw [ZRG (h t (by simp)),List.map_cons,List.foldl_cons,List.flatten_cons,List.foldl_append]
theorem ZP1 {fs:Cx} {car:Vx->List Vx}:∀ (l:Cx) (A:Cx × List (Vx × List Vx)),(∀ s∈l,∀ t∈ZCz s,∀ v∈t,car (ZGx fs s v)=ZIj s v) ->
  l.foldl (fun A s=>ZVX fs s A (ZCz s)) A=((ZC4 fs l).foldl ZFy A.1,(ZC4 fs l).flatten.foldl (fun d u=>ZPV d u (car u)) A.2)
 | [],A,_=>rfl
 | s::l,A,h=>by
  rw [List.foldl_cons,ZP1 l _ fun t ht=>h t (by simp [ht]),ZPj _ _ (h s (by simp))]
  unfold ZC4
  rw [List.flatMap_cons,List.foldl_append,List.flatten_append,List.foldl_append]
theorem ZR3 {s:List Vx} (h:s.length≤5) (k:Nat):(Zw k s).length≤32:=Nat.le_trans (ZCB _ _) (Nat.pow_le_pow_right (by decide) h:2 ^ s.length≤2 ^ 5)
theorem ZFp {l:Cx} (h5:∀ s∈l,s.length≤5):(ZAL l).length≤160*l.length:=by
 have h1:=ZJV (ZFW l) []
 have h2:(ZFW l).length≤160*l.length:=ZCZ ZSb 160 l fun s hs=>by
  have h3:=ZCZ (fun k=>Zw (k+1) s) 32 (List.range s.length) fun k _=>ZR3 (h5 s hs) _
  rw [List.length_range] at h3
  have:=h5 s hs
  unfold ZSb
  omega
 unfold ZAL
 simp only [List.length_nil] at h1
 omega
theorem ZHt {l:Cx}:ZGs l=if ZAr l≠0 then ZAr l else ZP0 l:=rfl
theorem ZGp {l:Cx} (he:ZP0 l=0):(∀ s∈l,ZAi s=true)/\(∀ s∈l,s.length≤5)/\ZFi l≤4096:=by
 unfold ZP0 at he
 by_cases hd:l.all ZAi=false
 ·rw [if_pos hd] at he;exact absurd he (by decide)
 rw [if_neg hd] at he
 by_cases ha:l.any (fun s=>decide (5<s.length))=true
 ·rw [if_pos ha] at he;exact absurd he (by decide)
 rw [if_neg ha] at he
 by_cases hs:4096<ZFi l
 ·rw [if_pos hs] at he;exact absurd he (by decide)
 refine ⟨fun s hs=>List.all_eq_true.1 (by simpa using hd) s hs,fun s hs=>Classical.byContradiction fun q=>ha (List.any_eq_true.2 ⟨s,hs,decide_eq_true (by omega)⟩),by omega⟩
section
variable {l:Cx}
theorem ZTK (hg:∀ s∈l,Z3 s=0) (h5:∀ s∈l,s.length≤5) {s:List Vx} (hs:s∈l) {t:List Vx} (ht:t∈ZCz s) {v:Vx} (hv:v∈t):ZGr (ZAL l) (ZGx (ZAL l) s v)=ZIj s v:=by
 obtain ⟨bl,hbl,rfl⟩:=List.mem_map.1 ht
 obtain ⟨i,hi,rfl⟩:=List.mem_iff_getElem.1 hv
 have hi':i<s.length:=by rw [ZAF] at hi;exact hi
 have hf:=ZAs.2 (ZEf hg h5 hs hbl hi')
 obtain ⟨j,h1,h2,h3⟩:=ZBX _ 0 _ hf
 rw [ZCe]
 unfold ZGr ZGx ZIj
 simp only [Int.toNat_natCast]
 rw [h2,Nat.zero_add,Int.toNat_natCast,List.getD_eq_getElem?_getD,List.getElem?_eq_getElem h1,Option.getD_some,h3]
theorem ZSz (hg:∀ s∈l,Z3 s=0) (h5:∀ s∈l,s.length≤5) (hG:GoodX l):ZSy (ZAL l) l=(ZCv (ZC4 (ZAL l) l),(ZCH [] (ZC4 (ZAL l) l).flatten).map fun u=>(u,ZGr (ZAL l) u)):=by
 unfold ZSy
 rw [ZP1 (car:=ZGr (ZAL l)) l _ fun s hs t ht v hv=>ZTK hg h5 hs ht hv]
 have h1:(ZC4 (ZAL l) l).filter (ZPt (ZC4 (ZAL l) l))=ZC4 (ZAL l) l:=List.filter_eq_self.2 fun f hf=>by
  unfold ZPt
  rw [ZJR hg h5 hG hf]
  obtain ⟨s,hs,bl,_,e⟩:=ZEX hg h5 hf
  have:=(ZP.1 (hg s hs)).1
  have hl:f.length=s.length:=by rw [e,List.length_map,ZAF]
  rw [decide_eq_true (by omega)];rfl
 have h2:=allS (ZGr (ZAL l)) (ZC4 (ZAL l) l).flatten []
 rw [List.map_nil] at h2
 unfold ZCv
 rw [h1,h2]
theorem ZLm (hg:∀ s∈l,Z3 s=0) (h5:∀ s∈l,s.length≤5) (hd:∀ s∈l,ZAi s=true) (hl:l.length≤4096) {f:List Vx} (hf:f∈ZC4 (ZAL l) l):Z3 f=0:=by
 obtain ⟨s,hs,bl,hbl,e⟩:=ZEX hg h5 hf
 obtain ⟨h1,h2,h3,h4⟩:=ZP.1 (hg s hs)
 have hlen:f.length=s.length:=by rw [e,List.length_map,ZAF]
 have hasc:=ZHi h4 (hd s hs)
 refine ZP.2 ⟨by omega,by omega,fun v hv=>?_,ZHh ?_⟩
 ·obtain ⟨i,hi,rfl⟩:=ZJS hg h5 hs hbl e hv
  have hr:=h3 _ (List.getElem_mem hi)
  obtain ⟨j,j1,j2,_⟩:=ZBX _ 0 _ (ZAs.2 (ZEf hg h5 hs hbl hi))
  have hfl:=ZFp h5
  unfold ZEy at hr ⊢
  simp only [Bool.and_eq_true,decide_eq_true_eq] at hr ⊢
  rw [j2]
  exact ⟨⟨hr.1.1,by omega⟩,by omega⟩
 ·have hm:(f.map fun v=>v.1)=s.map fun v=>v.1:=by
   rw [e,List.map_map]
   exact ZD4 s bl
  have h6:(s.map fun v=>v.1).Pairwise (· < ·):=List.pairwise_map.2 hasc
  rw [<- hm] at h6
  exact List.pairwise_map.1 h6
end
end
section
theorem fub13:∀ n:Fin 4,ZND n.val≤13:=by decide
theorem ZSs:∀ {l:Cx},(∀ s∈l,s.length≤3)->ZFi l≤13*l.length
 | [],_=>by simp [ZFi]
 | s::l,h=>by
  have ih:=ZSs fun t ht=>h t (List.mem_cons_of_mem s ht)
  have h1:=fub13 ⟨s.length,by have:=h s (by simp);omega⟩
  simp only at h1
  unfold ZFi at ih ⊢
  simp only [List.map_cons,List.sum_cons,List.length_cons]
  omega
section
variable {l:Cx} (hg:∀ s∈l,Z3 s=0) (h5:∀ s∈l,s.length≤5)
include hg h5
theorem ZQ8 {f:List Vx} (hf:f∈ZC4 (ZAL l) l):∃ s∈l,f.length=s.length/\(f.map fun v=>v.1)=s.map fun v=>v.1:=by
 obtain ⟨s,hs,bl,hbl,e⟩:=ZEX hg h5 hf
 refine ⟨s,hs,by rw [e,List.length_map,ZAF],?_⟩
 rw [e,List.map_map]
 exact ZD4 s bl
end
structure OkI (n:Nat) (d:Sub):Prop where
 good:GoodX d.1
 three:∀ s∈d.1,s.length≤3
 few:d.1.length≤n
 pts:d.2.1=ZC6 d.1
 len:d.2.2.length=d.2.1.length
 cars:∀ c∈d.2.2,Z3 c=0/\c.length≤3
 un:∀ s∈ZFW d.1,(unR d.2.1 d.2.2 s).length≤3
theorem ZVg {V:List Vx} {C:Cx} {s t:List Vx} (h:∀ x∈unR V C s,x∈t):(unR V C s).length≤t.length :=
 List.Nodup.length_le_of_subset (ZC9 (ZK3 V C s)) h
theorem ZVe {n:Nat} {d:Sub} (hd:OkI n d) {s:List Vx} (hs:s∈ZFW d.1):Z3 (unR d.2.1 d.2.2 s)=0:=by
 have h8:=hd.un s hs
 obtain ⟨f,hf,hne,hsub⟩:=ZBH.1 hs
 refine ZP.2 ⟨fun e=>?_,by omega,fun v hv=>?_,ZK3 _ _ _⟩
 ·obtain ⟨v,hv⟩:=List.exists_mem_of_ne_nil s hne
  have hp:v∈d.2.1:=by rw [hd.pts];exact ZDi.2 ⟨f,hf,hsub.subset hv⟩
  obtain ⟨k,hk,rfl⟩:=List.mem_iff_getElem.1 hp
  have hk':k<d.2.2.length:=by rw [hd.len];exact hk
  have hc:=(ZP.1 (hd.cars _ (List.getElem_mem hk')).1).1
  obtain ⟨x,hx⟩:=List.exists_mem_of_ne_nil d.2.2[k] (fun q=>hc (by rw [q];rfl))
  have:x∈unR d.2.1 d.2.2 s:=ZGZ.2 ⟨k,hk,hk',hv,hx⟩
  rw [List.length_eq_zero_iff.1 e] at this
  cases this
 ·obtain ⟨k,hk,hk',_,h2⟩:=ZGZ.1 hv
  exact (ZP.1 (hd.cars _ (List.getElem_mem hk')).1).2.2.1 v h2
theorem un_eq {n:Nat} {d:Sub} (hd:OkI n d) {s:List Vx} (hs:s∈ZFW d.1):unP d.2.1 d.2.2 s=unR d.2.1 d.2.2 s:=by
 rw [ZVd (hd.pts ▸ ZFx d.1) hd.len fun c hc=>(hd.cars c hc).1,if_neg (by have:=hd.un s hs;omega)]
theorem ZO3 (F:Cx):(ZCv F).length≤F.length:=ZTv F
theorem ZQ9 {l:Cx} (hg:∀ s∈l,Z3 s=0) (h5:∀ s∈l,s.length≤5):(ZC4 (ZAL l) l).length=ZFi l:=by
 rw [<- ZJK hg h5,ZET h5]
theorem ZO2 {l:Cx} (hg:∀ s∈l,Z3 s=0) (h5:∀ s∈l,s.length≤5) (hG:GoodX l) {f:List Vx}:f∈ZCv (ZC4 (ZAL l) l)↔f∈ZC4 (ZAL l) l:=by
 rw [ZCL]
 refine ⟨fun h=>h.1,fun h=>⟨h,?_⟩⟩
 unfold ZPt
 rw [ZJR hg h5 hG h]
 obtain ⟨s,hs,e,_⟩:=ZQ8 hg h5 h
 have:=(ZP.1 (hg s hs)).1
 rw [decide_eq_true (by omega)];rfl
end
section
def cxW (l:Cx):Cx:=ZCv (ZC4 (ZAL l) l)
def ZUO (n:Nat):Bool :=
 let l:=cxW (cxW [canS n])
 (decide (ZD1 l 8=1) && decide (ZD1 [canS n] 8=1)) && ((List.range 8).all fun k=>decide ((ZBB l (k+1)).length≤4096)) && decide ((ZC6 l).length≤100) && (List.range 8).all fun k=>decide ((ZBB [canS n] (k+1)).length≤4096)
theorem ZLl {l:Cx} (h0:ZAr l=0) (h:∀ k,k<8->(ZBB l (k+1)).length≤4096):ZGw l=(ZD1 l 8,0):=by
 unfold ZGw
 rw [if_neg (by omega),if_neg]
 intro q
 obtain ⟨k,hk,h2⟩:=List.any_eq_true.1 q
 have:=h k (List.mem_range.1 hk)
 have:=of_decide_eq_true h2
 omega
theorem ZRT {l:Cx} {n:Nat} {d:Sub} (hl:ZAr l=0) (hd:OkI n d) (h1:∀ c∈d.2.2,ZCa l c=true) (h2:∀ f∈d.1,ZCa l (unR d.2.1 d.2.2 f)=true):ZDB (okP l d.2.1 d.2.2) l d.1 d.2.1 d.2.2=0:=by
 unfold ZDB
 have hf:∀ f∈d.1,f∈ZFW d.1:=fun f hf=>ZBH.2 ⟨f,hf,fun e=>(ZP.1 (hd.good.2.2.1 f hf)).1 (by rw [e];rfl),List.Sublist.refl _⟩
 rw [if_neg (by omega),if_neg (by rw [Z4.2 hd.good];decide),if_neg (fun q=>q ⟨hd.pts,hd.len⟩),if_neg (fun q=>q (ZN8 fun c hc=>⟨(hd.cars c hc).1,h1 c hc⟩)),if_pos]
 refine List.all_eq_true.2 fun f hff=>?_
 have hk:=hf f hff
 unfold okP
 rw [un_eq hd hk,ZHD hl,if_neg (by rw [ZVe hd hk];decide),h2 f hff]
 rfl
theorem ZSe {l:Cx} {t c:List Vx} (ht:t∈l) (h:∀ x∈c,x∈t):ZCa l c=true :=
 List.any_eq_true.2 ⟨t,ht,List.all_eq_true.2 fun x hx=>decide_eq_true (h x hx)⟩
end
section
open S50 (Pv mkQ ZFF Sd psi atG sgZ)
theorem ZKi (l:Cx):∀ k,ZD1 l k=((upC l k).map fun t=>sgZ t.length).sum
 | 0=>rfl
 | k+1=>by
  have h:((ZBB l (k+1)).map fun t=>sgZ t.length).sum=if (k+1) % 2=1 then ((ZBB l (k+1)).length:Int) else -((ZBB l (k+1)).length:Int):=by
   have hl:∀ t∈ZBB l (k+1),t.length=k+1:=fun t ht=>by
    obtain ⟨f,_,h⟩:=ZBF.1 ht
    exact ((ZAw _ _ _).1 h).2
   generalize ZBB l (k+1)=L at hl
   induction L with
   | nil=>simp
   | cons t L ih =>
    rw [List.map_cons,List.sum_cons,ih fun u hu=>hl u (by simp [hu]),hl t (by simp),List.length_cons]
    unfold sgZ
    split <;> omega
  have e:upC l (k+1)=upC l k++ZBB l (k+1):=rfl
  have e2:ZD1 l (k+1)=if (k+1) % 2=1 then ZD1 l k+(ZBB l (k+1)).length else ZD1 l k-(ZBB l (k+1)).length:=rfl
  rw [e,List.map_append,List.sum_append,h,e2,ZKi l k]
  split <;> omega
theorem ZKB {l:Cx} (h8:∀ s∈l,s.length≤8) {x:List Vx}:x∈upC l 8↔∃ s∈l,x≠[]/\x.Sublist s:=by
 rw [ZK4]
 constructor
 ·rintro ⟨j,h1,_,h3⟩
  obtain ⟨s,hs,h4⟩:=ZBF.1 h3
  obtain ⟨h5,h6⟩:=(ZAw _ _ _).1 h4
  exact ⟨s,hs,fun e=>by rw [e] at h6;simp at h6;omega,h5⟩
 ·rintro ⟨s,hs,hne,h⟩
  have:=h8 s hs
  have:=h.length_le
  have:=List.length_pos_iff.2 hne
  exact ⟨x.length,by omega,by omega,ZBF.2 ⟨s,hs,(ZAw _ _ _).2 ⟨h,rfl⟩⟩⟩
theorem ZO6 {l X:Cx} (h1:∀ f∈X,∃ s∈l,f.length=s.length) (h2:∀ s∈l,∃ f∈X,f.length=s.length):ZC5 X=ZC5 l:=by
 obtain ⟨a1,a2⟩:=ZEk X
 obtain ⟨b1,b2⟩:=ZEk l
 have c1:ZC5 X≤ZC5 l:=by
  rcases a2 with a2|⟨f,hf,a2⟩
  ·rcases b2 with b2|⟨s,_,b2⟩ <;> omega
  ·obtain ⟨s,hs,e⟩:=h1 f hf
   have:=b1 s hs
   omega
 have c2:ZC5 l≤ZC5 X:=by
  rcases b2 with b2|⟨s,hs,b2⟩
  ·rcases a2 with a2|⟨f,_,a2⟩ <;> omega
  ·obtain ⟨f,hf,e⟩:=h2 s hs
   have:=a1 f hf
   omega
 omega
theorem ZPl {l X:Cx} (hl:GoodX l) (hX:GoodX X) (h1:∀ f∈X,∃ s∈l,f.length=s.length) (h2:∀ s∈l,∃ f∈X,f.length=s.length):ZDo X=ZDo l:=by
 have k:∀ {l:Cx},GoodX l->∀ s∈l,s.length≠0/\s.length≤8:=fun h s hs=>⟨(ZP.1 (h.2.2.1 s hs)).1,h.short s hs⟩
 rw [<- ZGf hX.2.2.1,<- ZGf hl.2.2.1]
 apply Bool.eq_iff_iff.2
 rw [ZGe (k hX),ZGe (k hl)]
 constructor
 ·intro h s hs t ht
  obtain ⟨f,hf,e1⟩:=h2 s hs
  obtain ⟨g,hg,e2⟩:=h2 t ht
  rw [<- e1,<- e2];exact h f hf g hg
 ·intro h s hs t ht
  obtain ⟨f,hf,e1⟩:=h1 s hs
  obtain ⟨g,hg,e2⟩:=h1 t ht
  rw [e1,e2];exact h f hf g hg
section
variable {T:Nat->List (List Pv)} {ei:List Nat->Nat->Nat} {tg:List Vx->Nat->Int} {num:List Vx->Int} {carF:Int->List Vx} {l FL X:Cx}
theorem SdX.len1 (H:SdX T ei tg num carF l FL X):∀ f∈X,∃ s∈l,f.length=s.length:=fun f hf=>by
 obtain ⟨s,hs,t,ht,rfl⟩:=(H.x f).1 hf
 obtain ⟨s1,s3⟩:=H.sd.sz s hs
 exact ⟨s,hs,by rw [List.length_map,((H.tt s1 s3).2 t ht).1]⟩
theorem SdX.len2 (H:SdX T ei tg num carF l FL X):∀ s∈l,∃ f∈X,f.length=s.length:=fun s hs=>by
 obtain ⟨s1,s3⟩:=H.sd.sz s hs
 exact ⟨_,(H.x _).2 ⟨s,hs,_,H.hd hs,rfl⟩,by rw [List.length_map,((H.tt s1 s3).2 _ (H.hd hs)).1]⟩
theorem SdX.eul (H:SdX T ei tg num carF l (upC l 8) X) (hl:GoodX l) (hX:GoodX X):ZD1 X 8=ZD1 l 8:=by
 rw [ZKi,ZKi]
 refine H.sd.sum (ZGo hX.asc 8) (fun t=>?_) (ZGo hl.asc 8)
 rw [ZKB hX.short]
 constructor
 ·rintro ⟨f,hf,hne,hsub⟩
  obtain ⟨s,hs,t0,ht0,rfl⟩:=(H.x f).1 hf
  obtain ⟨q,hq,rfl⟩:=List.sublist_map_iff.1 hsub
  exact ⟨s,hs,q,ZFF.2 ⟨fun e=>hne (by rw [e];rfl),t0,ht0,hq⟩,rfl⟩
 ·rintro ⟨s,hs,q,hq,rfl⟩
  obtain ⟨h1,t0,ht0,h2⟩:=ZFF.1 hq
  exact ⟨_,(H.x _).2 ⟨s,hs,t0,ht0,rfl⟩,by simpa using h1,h2.map _⟩
theorem SdX.dim (H:SdX T ei tg num carF l FL X):ZFU X=ZFU l:=by
 have:=ZO6 H.len1 H.len2
 rw [<- ZEj,<- ZEj,this]
theorem SdX.size (H:SdX T ei tg num carF l FL X) (hl:GoodX l) (hX:GoodX X):ZDo X=ZDo l:=ZPl hl hX H.len1 H.len2
theorem SdX.car_sub (H:SdX T ei tg num carF l FL X) {s:List Vx} (hs:s∈l) {t:List Pv} (ht:t∈T s.length) {v:Vx} (hv:v∈t.map (psi tg num s)):carF v.2∈FL/\(carF v.2).Sublist s:=by
 obtain ⟨s1,s3⟩:=H.sd.sz s hs
 obtain ⟨p,hp,rfl⟩:=List.mem_map.1 hv
 have hq:=((H.sd.pat.q s1 s3 (H.q hs ht)).2.2 p hp).1
 have hF:=H.sd.at_face hs (M:=p.2) (by omega) hq.2
 show carF (num (atG s p.2))∈FL/\(carF (num (atG s p.2))).Sublist s
 rw [H.car _ hF]
 exact ⟨hF,S50.at_sub s p.2⟩
theorem SdX.src (H:SdX T ei tg num carF l FL X) {f:List Vx} (hf:f∈X):∃ s∈l,∀ v∈f,carF v.2∈FL/\(carF v.2).Sublist s:=by
 obtain ⟨s,hs,t,ht,rfl⟩:=(H.x f).1 hf
 exact ⟨s,hs,fun v hv=>H.car_sub hs ht hv⟩
theorem ZVf {s f:List Vx} {V:List Vx} {carF:Int->List Vx} (h:∀ v∈f,(carF v.2).Sublist s):∀ x∈unR V (V.map fun u=>carF u.2) f,x∈s:=fun x hx=>by
 obtain ⟨k,hk,hk',h1,h2⟩:=ZGZ.1 hx
 rw [List.getElem_map] at h2
 exact (h _ h1).subset h2
theorem SdX.ok (H:SdX T ei tg num carF l FL X) (hl:GoodX l) (hX:GoodX X) {n:Nat} (hn:X.length≤n):OkI n (X,ZC6 X,(ZC6 X).map fun u=>carF u.2) where
 good:=hX
 three:=fun f hf=>by
  obtain ⟨s,hs,e⟩:=H.len1 f hf
  have:=(H.sd.sz s hs).2
  show f.length≤3
  omega
 few:=hn
 pts:=rfl
 len:=List.length_map ..
 cars:=fun c hc=>by
  obtain ⟨u,hu,rfl⟩:=List.mem_map.1 hc
  obtain ⟨f,hf,huf⟩:=ZDi.1 hu
  obtain ⟨s,hs,h⟩:=H.src hf
  obtain ⟨h1,h2⟩:=h u huf
  obtain ⟨_,l1,l3⟩:=H.sd.face h1
  exact ⟨ZMR (hl.2.2.1 s hs) h2 (fun e=>by rw [e] at l1;exact absurd l1 (by decide)),l3⟩
 un:=fun s' hs'=>by
  obtain ⟨f,hf,_,hsub⟩:=ZBH.1 hs'
  obtain ⟨s,hs,h⟩:=H.src hf
  have:=(H.sd.sz s hs).2
  exact Nat.le_trans (ZVg (ZVf fun v hv=>(h v (hsub.subset hv)).2)) this
theorem SdX.check (H:SdX T ei tg num carF l FL X) (hl:GoodX l) (hX:GoodX X):ZDB (okP l (ZC6 X) ((ZC6 X).map fun u=>carF u.2)) l X (ZC6 X) ((ZC6 X).map fun u=>carF u.2)=0:=by
 have hA:∀ c∈(ZC6 X).map fun u=>carF u.2,ZCa l c=true:=fun c hc=>by
  obtain ⟨u,hu,rfl⟩:=List.mem_map.1 hc
  obtain ⟨f,hf,huf⟩:=ZDi.1 hu
  obtain ⟨s,hs,h⟩:=H.src hf
  exact ZSe hs fun x hx=>(h u huf).2.subset hx
 have hB:∀ f∈X,ZCa l (unR (ZC6 X) ((ZC6 X).map fun u=>carF u.2) f)=true:=fun f hf=>by
  obtain ⟨s,hs,h⟩:=H.src hf
  exact ZSe hs (ZVf fun v hv=>(h v hv).2)
 have ok:=H.ok hl hX (Nat.le_refl X.length)
 generalize (ZC6 X).map (fun u=>carF u.2)=C at *
 exact ZRT (l:=l) (n:=X.length) (d:=(X,ZC6 X,C)) (Z4.2 hl) ok hA hB
end
theorem ZMJ {V:Type} [DecidableEq V]:∀ {a:List V},a.Nodup->∀ (i:Nat) (h:i<a.length),ZHP a a[i]=i
 | x::a,_,0,_=>ZCf
 | x::a,hn,i+1,h=>by
  have h':i<a.length:=by simpa using h
  have hx:x≠a[i]:=fun e=>(List.nodup_cons.1 hn).1 (by rw [e];exact List.getElem_mem h')
  rw [List.getElem_cons_succ,ZFJ hx,ZMJ (List.nodup_cons.1 hn).2 i h']
def ZMx (l:List Int):Int:=(l.drop 1).foldl max (l.headD 0)
theorem ZJW:∀ (l:List Int) (a m:Int),(a≤m)->(∀ x∈l,x≤m)->(a=m\/m∈l)->l.foldl max a=m
 | [],a,m,_,_,h=>by simpa using h
 | x::l,a,m,h1,h2,h3=>by
  rw [List.foldl_cons]
  have hx:=h2 x (by simp)
  refine ZJW l _ m (by omega) (fun y hy=>h2 y (by simp [hy])) ?_
  rcases h3 with h3|h3
  ·left;omega
  ·rcases List.mem_cons.1 h3 with h3|h3
   ·left;omega
   ·exact .inr h3
theorem ZTu {l:List Int} {m:Int} (h1:∀ x∈l,x≤m) (h2:m∈l):ZMx l=m:=by
 cases l with
 | nil=>cases h2
 | cons x l=>exact ZJW l x m (h1 x (by simp)) (fun y hy=>h1 y (by simp [hy])) (by rcases List.mem_cons.1 h2 with h|h;exact .inl h.symm;exact .inr h)
theorem ZL5 {l:Cx} (h:0<l.length):ZMx (ZBK l)=(ZC1 l:Int)-1:=by
 have hp:0<ZC1 l:=by
  unfold ZC1
  have:ZAj l l[0]∈ZAB (Zz l):=ZFz (List.getElem_mem h)
  exact List.length_pos_of_mem this
 refine ZTu (fun x hx=>?_) ?_
 ·obtain ⟨s,hs,rfl⟩:=List.mem_map.1 hx
  have:=ZVJ hs
  omega
 ·have hlt:ZC1 l-1<(ZAB (Zz l)).length:=by show ZC1 l-1<ZC1 l;omega
  have hm:(ZAB (Zz l))[ZC1 l-1]∈Zz l:=((ZBk _).2 _).1 (List.getElem_mem hlt)
  obtain ⟨s,hs,e⟩:=List.mem_map.1 hm
  refine List.mem_map.2 ⟨s,hs,?_⟩
  unfold ZL9
  rw [e,ZMJ (ZBk _).1]
  omega
end
end Go.Proofs.YtekiljakcngcoaaGreatDoor
