/- Part 41: walks by contracts, and plain laws. -/
import Derived.Test.YtlgmojhmmbhgfaaGreatDoorVg40
set_option linter.unusedVariables false
set_option linter.unusedSimpArgs false
set_option linter.unusedSectionVars false
set_option maxRecDepth 100000
set_option maxHeartbeats 4000000
namespace Go.Proofs.YtlgmojhmmbhgfaaGreatDoor
section
def ZTG (O:Cx):Prop:=∀ x∈O,∀ v∈x,0≤v.1/\0≤v.2
def ZKJ:Nat->Cx->ZDz
 | _,[]=>[]
 | k,x::O=>(txS x,(k:Int))::ZKJ (k+1) O
theorem ZLY:∀ (O:Cx) (k:Nat),(ZKJ k O).length=O.length
 | [],_=>rfl
 | x::O,k=>by unfold ZKJ;rw [List.length_cons,List.length_cons,ZLY O]
theorem ZJM:∀ (O:Cx) (k:Nat) (x:List Vx),ZKJ k (O++[x])=ZKJ k O++[(txS x,((k+O.length:Nat):Int))]
 | [],k,x=>rfl
 | y::O,k,x=>by
  show (txS y,(k:Int))::ZKJ (k+1) (O++[x])=(txS y,(k:Int))::ZKJ (k+1) O++_
  rw [ZJM O (k+1) x,List.length_cons,show k+1+O.length=k+(O.length+1) by omega]
  rfl
theorem ZHz:∀ (O:Cx) (k:Nat) (x:List Vx),Z3 k O x<0↔x∉O
 | [],k,x=>by simp [Z3]
 | y::O,k,x=>by
  unfold Z3
  by_cases h:y=x
  ·rw [if_pos h];subst h;simp
  ·rw [if_neg h,ZHz O (k+1) x,List.mem_cons]
   constructor
   ·intro q;rintro (e|e)
    ·exact h e.symm
    ·exact q e
   ·intro q e;exact q (.inr e)
theorem ZBW:∀ (O:Cx) (k:Nat) (x:List Vx),x∈O->∃ (j:Nat) (h:j<O.length),Z3 k O x=((k+j:Nat):Int)/\O[j]=x
 | [],k,x,h=>by cases h
 | y::O,k,x,h=>by
  unfold Z3
  by_cases e:y=x
  ·exact ⟨0,by simp,by rw [if_pos e];simp,e⟩
  ·rw [if_neg e]
   have hx:x∈O:=by
    rcases List.mem_cons.1 h with q|q
    ·exact absurd q.symm e
    ·exact q
   obtain ⟨j,h1,h2,h3⟩:=ZBW O (k+1) x hx
   exact ⟨j+1,by simpa using h1,by rw [h2];omega,by simpa using h3⟩
theorem ZFe:∀ (O:Cx) (k:Nat) (x:List Vx),ZTG O->(∀ v∈x,0≤v.1/\0≤v.2)->lookM (ZKJ k O) (txS x)=if Z3 k O x<0 then none else some (Z3 k O x)
 | [],k,x,_,_=>by
  have e:Z3 k [] x = -1:=rfl
  rw [e,if_pos (by decide)];rfl
 | y::O,k,x,hO,hx=>by
  have ih:=ZFe O (k+1) x (fun z hz=>hO z (by simp [hz])) hx
  unfold ZKJ Z3
  by_cases e:y=x
  ·subst e
   rw [if_pos rfl,if_neg (by omega)]
   unfold lookM
   rw [List.find?_cons_of_pos (by simp)]
   rfl
  ·rw [if_neg e,<- ih]
   unfold lookM
   rw [List.find?_cons_of_neg]
   simp only [decide_eq_true_eq]
   exact fun q=>e (ZPH (hO y (by simp)) hx q)
theorem ZQx (O:Cx) (x:List Vx) (hO:ZTG O) (hx:∀ v∈x,0≤v.1/\0≤v.2):ZFR (ZKJ 0 O) x=ZKJ 0 (ZGe O x):=by
 unfold ZFR ZGe
 rw [ZFe O 0 x hO hx]
 by_cases h:Z3 0 O x<0
 ·rw [if_pos h,if_neg (by simp),if_pos h,ZJM,Nat.zero_add]
  have hn:lookM (ZKJ 0 O) (txS x)=none:=by rw [ZFe O 0 x hO hx,if_pos h]
  rw [ZDp (ZFf (by rw [hn];rfl)),ZLY]
 ·rw [if_neg h,if_neg h];rfl
theorem ZKv {O:Cx} {x y:List Vx}:y∈ZGe O x↔y∈O\/y=x:=by
 unfold ZGe
 by_cases h:Z3 0 O x<0
 ·rw [if_pos h,List.mem_append,List.mem_singleton]
 ·rw [if_neg h]
  have hx:x∈O:=Classical.byContradiction fun q=>h ((ZHz O 0 x).2 q)
  constructor
  ·exact .inl
  ·rintro (q|rfl)
   ·exact q
   ·exact hx
theorem ZLH:∀ (L O:Cx),ZTG O->ZTG L->L.foldl ZFR (ZKJ 0 O)=ZKJ 0 (L.foldl ZGe O)
 | [],_,_,_=>rfl
 | x::L,O,hO,hL=>by
  rw [List.foldl_cons,List.foldl_cons,ZQx O x hO (hL x (by simp))]
  refine ZLH L _ (fun y hy=>?_) fun y hy=>hL y (by simp [hy])
  rcases ZKv.1 hy with q|rfl
  ·exact hO y q
  ·exact hL _ (by simp)
theorem ZA7 {l:Cx} {x:List Vx}:x∈Zr l↔x∈ZDx l:=by
 have go:∀ (L O:Cx),x∈L.foldl ZGe O↔x∈O\/x∈L:=by
  intro L
  induction L with
  | nil=>intro O;simp
  | cons y L ih =>
   intro O
   rw [List.foldl_cons,ih,ZKv,List.mem_cons,or_assoc]
 unfold Zr
 rw [go];simp
theorem ZBV {l:Cx} {x:List Vx}:x∈ZDx l↔∃ s∈l,x≠[]/\x.Sublist s:=by
 unfold ZDx ZRn
 rw [List.mem_flatMap]
 constructor
 ·rintro ⟨s,hs,hx⟩
  obtain ⟨k,hk,hx⟩:=List.mem_flatMap.1 hx
  have:=(ZCk _ _ _).1 hx
  exact ⟨s,hs,fun e=>by rw [e] at this;simp at this,this.1⟩
 ·rintro ⟨s,hs,hne,hsub⟩
  have hl:0<x.length:=List.length_pos_iff.2 hne
  refine ⟨s,hs,List.mem_flatMap.2 ⟨x.length-1,List.mem_range.2 (by have:=hsub.length_le;omega),(ZCk _ _ _).2 ⟨hsub,by omega⟩⟩⟩
section
variable {l:Cx}
theorem ZSv (hg:∀ s∈l,ZAJ s=0):ZBT l=ZKJ 0 (Zr l):=by
 have hL:ZTG (ZDx l):=fun x hx v hv=>by
  obtain ⟨s,hs,_,hsub⟩:=ZBV.1 hx
  have:=ZJN (hg s hs) v (hsub.subset hv)
  unfold okL at this
  omega
 exact ZLH (ZDx l) [] (fun x hx=>by cases hx) hL
theorem ZFh (hg:∀ s∈l,ZAJ s=0) {x:List Vx} (hx:x∈ZDx l):ZPW (ZBT l) x=Z3 0 (Zr l) x:=by
 have hp:ZTG (Zr l):=fun y hy v hv=>by
  obtain ⟨s,hs,_,hsub⟩:=ZBV.1 (ZA7.1 hy)
  have:=ZJN (hg s hs) v (hsub.subset hv)
  unfold okL at this
  omega
 have hr:=ZA7.2 hx
 unfold ZPW
 rw [ZSv hg,ZFe _ _ _ hp (hp x hr),if_neg fun q=>(ZHz _ _ _).1 q hr]
 rfl
theorem ZNB {s:List Vx} {m:Nat} (hm:∃ i,i<s.length/\m.testBit i=true):atB s m≠[]:=fun e=>by
 obtain ⟨i,hi,hb⟩:=hm
 have:s[i]∈atB s m:=ZE4.2 ⟨i,hi,rfl,hb⟩
 rw [e] at this;cases this
def ordQ (n:Nat):Bool:=(ZBR (2 ^ n-1)).all fun bl=>((List.range n).all fun i=>(ZBX bl i 0).testBit i && decide (ZBX bl i 0<2 ^ n)) && (List.range n).any fun i=>decide (ZBX bl i 0=2 ^ n-1)
theorem ZS0:∀ n,1≤n->n≤5->ordQ n=true:=by
 intro n h1 h5
 have:n=1\/n=2\/n=3\/n=4\/n=5:=by omega
 rcases this with rfl|rfl|rfl|rfl|rfl <;> decide +kernel
theorem ZRt {s:List Vx} (h1:1≤s.length) (h5:s.length≤5) {bl:List Nat} (hb:bl∈ZBR (2 ^ s.length-1)):(∀ i,i<s.length->(ZBX bl i 0).testBit i=true/\ZBX bl i 0<2 ^ s.length)/\∃ i,i<s.length/\ZBX bl i 0=2 ^ s.length-1:=by
 have h:=List.all_eq_true.1 (ZS0 s.length h1 h5) bl hb
 rw [Bool.and_eq_true] at h
 refine ⟨fun i hi=>?_,?_⟩
 ·have:=List.all_eq_true.1 h.1 i (List.mem_range.2 hi)
  rw [Bool.and_eq_true] at this
  exact ⟨this.1,of_decide_eq_true this.2⟩
 ·obtain ⟨i,hi,h2⟩:=List.any_eq_true.1 h.2
  exact ⟨i,List.mem_range.1 hi,of_decide_eq_true h2⟩
def ZB1 (fs l:Cx):Cx:=l.flatMap fun s=>(ZBq s).map fun t=>t.map (ZDg fs s)
section
variable {l:Cx} (hg:∀ s∈l,ZAJ s=0) (h5:∀ s∈l,s.length≤5)
include hg h5
theorem ZDh {s:List Vx} (hs:s∈l) {bl:List Nat} (hb:bl∈ZBR (2 ^ s.length-1)) {i:Nat} (hi:i<s.length):atB s (ZBX bl i 0)∈ZDx l:=by
 have h1:=(ZO.1 (hg s hs)).1
 have h2:=(ZRt (by omega) (h5 s hs) hb).1 i hi
 exact ZBV.2 ⟨s,hs,ZNB ⟨i,hi,h2.1⟩,ZBK _ _⟩
theorem ZNX {s:List Vx} (hs:s∈l):ZSR (ZBT l) s=(ZBq s).map fun t=>t.map (ZDg (Zr l) s):=by
 unfold ZSR ZBq
 rw [List.map_map]
 refine List.map_congr_left fun bl hb=>?_
 show Zz (ZPU (ZBT l) s) s bl=(ZAk s bl).map (ZDg (Zr l) s)
 apply List.ext_getElem
 ·rw [ZBS,List.length_map,Z4]
 ·intro i h1 h2
  have hi:i<s.length:=by rw [ZBS] at h1;exact h1
  rw [ZDo h1 hi,List.getElem_map,ZCi]
  unfold ZDg ZEP ZPU
  simp only [Int.toNat_natCast]
  rw [((ZBv (h5 s hs) hb).2 i hi).1,ZFh hg (ZDh hg h5 hs hb hi)]
theorem ZIq:ZF5 (ZBT l) l=ZB1 (Zr l) l:=by
 unfold ZF5 ZB1
 have:∀ k:Cx,(∀ s∈k,s∈l)->k.flatMap (ZSR (ZBT l))=k.flatMap fun s=>(ZBq s).map fun t=>t.map (ZDg (Zr l) s):=by
  intro k
  induction k with
  | nil=>intro _;rfl
  | cons s k ih =>
   intro hk
   rw [List.flatMap_cons,List.flatMap_cons,ih fun t ht=>hk t (by simp [ht]),ZNX hg h5 (hk s (by simp))]
 exact this l fun _ h=>h
theorem ZDf {f:List Vx} (hf:f∈ZB1 (Zr l) l):∃ s∈l,∃ bl∈ZBR (2 ^ s.length-1),f=(ZAk s bl).map (ZDg (Zr l) s):=by
 obtain ⟨s,hs,hf⟩:=List.mem_flatMap.1 hf
 obtain ⟨t,ht,rfl⟩:=List.mem_map.1 hf
 obtain ⟨bl,hbl,rfl⟩:=List.mem_map.1 ht
 exact ⟨s,hs,bl,hbl,rfl⟩
theorem ZIz {f:List Vx} {s:List Vx} (hs:s∈l) {bl:List Nat} (hb:bl∈ZBR (2 ^ s.length-1)) (he:f=(ZAk s bl).map (ZDg (Zr l) s)) {v:Vx} (hv:v∈f):∃ (i:Nat) (hi:i<s.length),v=(s[i].1,Z3 0 (Zr l) (atB s (ZBX bl i 0))):=by
 rw [he] at hv
 obtain ⟨u,hu,rfl⟩:=List.mem_map.1 hv
 obtain ⟨i,hi,rfl⟩:=List.mem_iff_getElem.1 hu
 have hi':i<s.length:=by rw [Z4] at hi;exact hi
 exact ⟨i,hi',by rw [ZCi];unfold ZDg ZEP;simp only [Int.toNat_natCast]⟩
theorem ZIy (hG:GoodX l) {f:List Vx} (hf:f∈ZB1 (Zr l) l):ZAU (ZB1 (Zr l) l) f=false:=by
 have:¬ ZAU (ZB1 (Zr l) l) f=true:=fun q=>by
  obtain ⟨k,hk,hlt,hin⟩:=ZAW.1 q
  obtain ⟨s,hs,bl,hbl,ef⟩:=ZDf hg h5 hf
  obtain ⟨s',hs',bl',hbl',ek⟩:=ZDf hg h5 hk
  have h1:=(ZO.1 (hg s hs)).1
  obtain ⟨i,hi,hfull⟩:=(ZRt (by omega) (h5 s hs) hbl).2
  have hfl:f.length=s.length:=by rw [ef,List.length_map,Z4]
  have hkl:k.length=s'.length:=by rw [ek,List.length_map,Z4]
  have hat:atB s (2 ^ s.length-1)=s:=(ZBK s _).eq_of_length (Classical.byContradiction fun hne=>by
   have hlt:=(ZBK s (2 ^ s.length-1)).length_le
   exact (ZIl (ZEz (ZO.1 (hg s hs)).2.2.2) (by have:=Nat.two_pow_pos s.length;omega)).1 (by omega) rfl)
  have hfi:i<f.length:=by omega
  have hv:f[i]=(s[i].1,Z3 0 (Zr l) s):=by
   have hj:i<(ZAk s bl).length:=by rw [Z4];exact hi
   have e1:f[i]?=some (s[i].1,Z3 0 (Zr l) s):=by
    rw [ef,List.getElem?_map,List.getElem?_eq_getElem hj,ZCi]
    unfold ZDg ZEP
    simp only [Int.toNat_natCast,Option.map_some]
    rw [hfull,hat]
   exact (List.getElem?_eq_some_iff.1 e1).2
  have hvk:f[i]∈k:=of_decide_eq_true (List.all_eq_true.1 hin _ (List.getElem_mem hfi))
  obtain ⟨j,hj,e⟩:=ZIz hg h5 hs' hbl' ek hvk
  rw [hv] at e
  have en:Z3 0 (Zr l) s=Z3 0 (Zr l) (atB s' (ZBX bl' j 0)):=congrArg Prod.snd e
  have hsk:s∈Zr l:=ZA7.2 (ZBV.2 ⟨s,hs,fun q=>by rw [q] at h1;exact h1 rfl,List.Sublist.refl _⟩)
  have hsk':atB s' (ZBX bl' j 0)∈Zr l:=ZA7.2 (ZDh hg h5 hs' hbl' hj)
  obtain ⟨a,a1,a2,a3⟩:=ZBW _ 0 _ hsk
  obtain ⟨b,b1,b2,b3⟩:=ZBW _ 0 _ hsk'
  have hab:a=b:=by rw [a2,b2] at en;omega
  subst hab
  have hes:s=atB s' (ZBX bl' j 0):=by rw [<- a3,b3]
  have hsub:s.Sublist s':=by rw [hes];exact ZBK _ _
  have hcov:ZAU l s=true:=ZAW.2 ⟨s',hs',by omega,List.all_eq_true.2 fun x hx=>decide_eq_true (hsub.subset hx)⟩
  rw [hG.2.2.2 s hs] at hcov
  cases hcov
 simpa using this
end
end
end
section
def ZFD (fs:Cx) (v:Vx):List Vx:=fs.getD v.2.toNat []
theorem ZDK {α β:Type} {f g:β->α->β}:∀ (L:List α) (b:β),(∀ b,∀ x∈L,f b x=g b x)->L.foldl f b=L.foldl g b
 | [],_,_=>rfl
 | x::L,b,h=>by
  rw [List.foldl_cons,List.foldl_cons,h b x (by simp)]
  exact ZDK L _ fun b y hy=>h b y (by simp [hy])
theorem ZQX {fs:Cx} {s:List Vx} {car:Vx->List Vx} {t:List Vx} (h:∀ v∈t,car (ZDg fs s v)=ZEP s v) (d:List (Vx × List Vx)):ZEX fs s d t=(t.map (ZDg fs s)).foldl (fun d u=>ZE7 d u (car u)) d:=by
 unfold ZEX
 rw [List.foldl_map]
 exact ZDK t d fun d v hv=>by rw [h v hv]
theorem ZPC {fs:Cx} {s:List Vx} {car:Vx->List Vx}:∀ (F:Cx) (A:Cx × List (Vx × List Vx)),(∀ t∈F,∀ v∈t,car (ZDg fs s v)=ZEP s v) ->
  ZHF fs s A F=((F.map fun t=>t.map (ZDg fs s)).foldl ZFL A.1,(F.map fun t=>t.map (ZDg fs s)).flatten.foldl (fun d u=>ZE7 d u (car u)) A.2)
 | [],A,_=>rfl
 | t::F,A,h=>by
  have e:ZHF fs s A (t::F)=ZHF fs s (ZJc fs s A t) F:=rfl
  rw [e,ZPC F (ZJc fs s A t) fun u hu=>h u (by simp [hu])]
  unfold ZJc
  rw [ZQX (h t (by simp)),List.map_cons,List.foldl_cons,List.flatten_cons,List.foldl_append]
theorem ZPN {fs:Cx} {car:Vx->List Vx}:∀ (l:Cx) (A:Cx × List (Vx × List Vx)),(∀ s∈l,∀ t∈ZBq s,∀ v∈t,car (ZDg fs s v)=ZEP s v) ->
  l.foldl (fun A s=>ZHF fs s A (ZBq s)) A=((ZB1 fs l).foldl ZFL A.1,(ZB1 fs l).flatten.foldl (fun d u=>ZE7 d u (car u)) A.2)
 | [],A,_=>rfl
 | s::l,A,h=>by
  rw [List.foldl_cons,ZPN l _ fun t ht=>h t (by simp [ht]),ZPC _ _ (h s (by simp))]
  unfold ZB1
  rw [List.flatMap_cons,List.foldl_append,List.flatten_append,List.foldl_append]
theorem ZRL {s:List Vx} (h:s.length≤5) (k:Nat):(Zg k s).length≤32:=Nat.le_trans (ZCG _ _) (Nat.pow_le_pow_right (by decide) h:2 ^ s.length≤2 ^ 5)
theorem ZFd {l:Cx} (h5:∀ s∈l,s.length≤5):(Zr l).length≤160*l.length:=by
 have h1:=ZGG (ZDx l) []
 have h2:(ZDx l).length≤160*l.length:=ZCB ZRn 160 l fun s hs=>by
  have h3:=ZCB (fun k=>Zg (k+1) s) 32 (List.range s.length) fun k _=>ZRL (h5 s hs) _
  rw [List.length_range] at h3
  have:=h5 s hs
  unfold ZRn
  omega
 unfold Zr
 simp only [List.length_nil] at h1
 omega
theorem ZFb {l:Cx}:ZF4 l=if ZBH l≠0 then ZBH l else ZCn l:=rfl
theorem ZEp {l:Cx} (he:ZCn l=0):(∀ s∈l,Z0 s=true)/\(∀ s∈l,s.length≤5)/\ZC6 l≤4096:=by
 unfold ZCn at he
 by_cases hd:l.all Z0=false
 ·rw [if_pos hd] at he;exact absurd he (by decide)
 rw [if_neg hd] at he
 by_cases ha:l.any (fun s=>decide (5<s.length))=true
 ·rw [if_pos ha] at he;exact absurd he (by decide)
 rw [if_neg ha] at he
 by_cases hs:4096<ZC6 l
 ·rw [if_pos hs] at he;exact absurd he (by decide)
 refine ⟨fun s hs=>List.all_eq_true.1 (by simpa using hd) s hs,fun s hs=>Classical.byContradiction fun q=>ha (List.any_eq_true.2 ⟨s,hs,decide_eq_true (by omega)⟩),by omega⟩
section
variable {l:Cx}
theorem ZNQ (hg:∀ s∈l,ZAJ s=0) (h5:∀ s∈l,s.length≤5) {s:List Vx} (hs:s∈l) {t:List Vx} (ht:t∈ZBq s) {v:Vx} (hv:v∈t):ZFD (Zr l) (ZDg (Zr l) s v)=ZEP s v:=by
 obtain ⟨bl,hbl,rfl⟩:=List.mem_map.1 ht
 obtain ⟨i,hi,rfl⟩:=List.mem_iff_getElem.1 hv
 have hi':i<s.length:=by rw [Z4] at hi;exact hi
 have hf:=ZA7.2 (ZDh hg h5 hs hbl hi')
 obtain ⟨j,h1,h2,h3⟩:=ZBW _ 0 _ hf
 rw [ZCi]
 unfold ZFD ZDg ZEP
 simp only [Int.toNat_natCast]
 rw [h2,Nat.zero_add,Int.toNat_natCast,List.getD_eq_getElem?_getD,List.getElem?_eq_getElem h1,Option.getD_some,h3]
theorem ZPO (hg:∀ s∈l,ZAJ s=0) (h5:∀ s∈l,s.length≤5) (hG:GoodX l):ZDR (Zr l) l=(ZDl (ZB1 (Zr l) l),(ZBE [] (ZB1 (Zr l) l).flatten).map fun u=>(u,ZFD (Zr l) u)):=by
 unfold ZDR
 rw [ZPN (car:=ZFD (Zr l)) l _ fun s hs t ht v hv=>ZNQ hg h5 hs ht hv]
 have h1:(ZB1 (Zr l) l).filter (ZPY (ZB1 (Zr l) l))=ZB1 (Zr l) l:=List.filter_eq_self.2 fun f hf=>by
  unfold ZPY
  rw [ZIy hg h5 hG hf]
  obtain ⟨s,hs,bl,_,e⟩:=ZDf hg h5 hf
  have:=(ZO.1 (hg s hs)).1
  have hl:f.length=s.length:=by rw [e,List.length_map,Z4]
  rw [decide_eq_true (by omega)];rfl
 have h2:=allS (ZFD (Zr l)) (ZB1 (Zr l) l).flatten []
 rw [List.map_nil] at h2
 unfold ZDl
 rw [h1,h2]
theorem ZLD (hg:∀ s∈l,ZAJ s=0) (h5:∀ s∈l,s.length≤5) (hd:∀ s∈l,Z0 s=true) (hl:l.length≤4096) {f:List Vx} (hf:f∈ZB1 (Zr l) l):ZAJ f=0:=by
 obtain ⟨s,hs,bl,hbl,e⟩:=ZDf hg h5 hf
 obtain ⟨h1,h2,h3,h4⟩:=ZO.1 (hg s hs)
 have hlen:f.length=s.length:=by rw [e,List.length_map,Z4]
 have hasc:=ZJ1 h4 (hd s hs)
 refine ZO.2 ⟨by omega,by omega,fun v hv=>?_,ZHU ?_⟩
 ·obtain ⟨i,hi,rfl⟩:=ZIz hg h5 hs hbl e hv
  have hr:=h3 _ (List.getElem_mem hi)
  obtain ⟨j,j1,j2,_⟩:=ZBW _ 0 _ (ZA7.2 (ZDh hg h5 hs hbl hi))
  have hfl:=ZFd h5
  unfold ZEt at hr ⊢
  simp only [Bool.and_eq_true,decide_eq_true_eq] at hr ⊢
  rw [j2]
  exact ⟨⟨hr.1.1,by omega⟩,by omega⟩
 ·have hm:(f.map fun v=>v.1)=s.map fun v=>v.1:=by
   rw [e,List.map_map]
   exact ZD8 s bl
  have h6:(s.map fun v=>v.1).Pairwise (· < ·):=List.pairwise_map.2 hasc
  rw [<- hm] at h6
  exact List.pairwise_map.1 h6
end
end
section
open Go.RowKit
def ZCT (fs ch:Cx):List (Vx × List Vx):=ch.zipIdx.map fun p=>(((p.2:Int),Z3 0 fs p.1),p.1)
theorem ZEj (fs ch:Cx):(ZCT fs ch).length=ch.length:=by simp [ZCT]
theorem ZGS {fs ch:Cx} {k:Nat} (h:k<(ZCT fs ch).length) (h':k<ch.length):(ZCT fs ch)[k]=(((k:Int),Z3 0 fs ch[k]),ch[k]):=by simp [ZCT]
def ZLm (d t:List (Vx × List Vx)):List (Vx × List Vx):=t.foldl (fun d p=>ZE7 d p.1 p.2) d
theorem ZOz {d t:List (Vx × List Vx)} {j:Nat} (h:j<t.length):ZLm d (t.take (j+1))=ZE7 (ZLm d (t.take j)) t[j].1 t[j].2:=by
 unfold ZLm;rw [List.take_succ_eq_append_getElem h,List.foldl_append];rfl
theorem ZH6:∀ (t d:List (Vx × List Vx)),(ZLm d t).length≤d.length+t.length
 | [],d=>by simp [ZLm]
 | p::t,d=>by
  have h1:=ZH6 t (ZE7 d p.1 p.2)
  have h2:=ZLn d p.1 p.2
  show (ZLm (ZE7 d p.1 p.2) t).length≤_
  simp only [List.length_cons]
  omega
def ZJa (A:Cx × List (Vx × List Vx)) (t:List (Vx × List Vx)):Cx × List (Vx × List Vx):=(ZFL A.1 (t.map (·.1)),ZLm A.2 t)
def ZIE (A:Cx × List (Vx × List Vx)) (F:List (List (Vx × List Vx))):Cx × List (Vx × List Vx):=F.foldl ZJa A
theorem ZPB {A:Cx × List (Vx × List Vx)} {F:List (List (Vx × List Vx))} {k:Nat} (h:k<F.length):ZIE A (F.take (k+1))=ZJa (ZIE A (F.take k)) F[k]:=by
 unfold ZIE;rw [List.take_succ_eq_append_getElem h,List.foldl_append];rfl
theorem ZIF:∀ (F:List (List (Vx × List Vx))) (A:Cx × List (Vx × List Vx)),(∀ t∈F,t.length≤5)->(ZIE A F).1.length≤A.1.length+F.length/\(ZIE A F).2.length≤A.2.length+5*F.length
 | [],A,_=>by simp [ZIE]
 | t::F,A,h=>by
  obtain ⟨h1,h2⟩:=ZIF F (ZJa A t) fun u hu=>h u (by simp [hu])
  have h3:=ZH6 t A.2
  have h4:=h t (by simp)
  have h5:=(ZLk A.1 (t.map (·.1))).2
  have e:ZIE A (t::F)=ZIE (ZJa A t) F:=rfl
  rw [e]
  simp only [List.length_cons]
  unfold ZJa at h1 h2 ⊢
  simp only at h1 h2 ⊢
  omega
def chB (fs:Cx) (s:List Vx):List (List (Vx × List Vx)):=(ZF3 s.length s []).map (ZCT fs)
theorem ZSO {fs:Cx} {s:List Vx} (h:s.length≤5):(chB fs s).length≤3125:=by
 unfold chB
 rw [List.length_map]
 have h1:=ZER s.length s [] h
 have h2:5 ^ s.length≤5 ^ 5:=Nat.pow_le_pow_right (by decide) h
 omega
theorem ZRe {fs:Cx} {s:List Vx} (h:s.length≤5):∀ t∈chB fs s,t.length≤5:=fun t ht=>by
 obtain ⟨c,hc,rfl⟩:=List.mem_map.1 ht
 rw [ZEj,ZHZ _ _ _ c hc]
 exact h
def ZFZ (fs l:Cx):Cx × List (Vx × List Vx):=l.foldl (fun A s=>ZIE A (chB fs s)) ([],[])
theorem ZIm {fs l:Cx} {i:Nat} (h:i<l.length):ZFZ fs (l.take (i+1))=ZIE (ZFZ fs (l.take i)) (chB fs l[i]):=by
 unfold ZFZ;rw [ZP h,List.foldl_append];rfl
theorem ZK1 (fs l:Cx) (h5:∀ s∈l,s.length≤5):∀ i,i≤l.length->(ZFZ fs (l.take i)).1.length≤3125*i/\(ZFZ fs (l.take i)).2.length≤15625*i
 | 0,_=>by simp [ZFZ]
 | i+1,h=>by
  have hi:i<l.length:=by omega
  obtain ⟨h1,h2⟩:=ZK1 fs l h5 i (by omega)
  have h3:=h5 _ (List.getElem_mem hi)
  have h4:=ZIF (chB fs l[i]) (ZFZ fs (l.take i)) (ZRe h3)
  have h6:=ZSO (fs:=fs) h3
  rw [ZIm hi]
  omega
def ZL8 (l:Cx):Sub × Int:=if ZBH l≠0 then (([],[],[]),ZBH l) else (((ZFZ (Zr l) l).1,(ZFZ (Zr l) l).2.map (·.1),(ZFZ (Zr l) l).2.map (·.2)),0)
theorem ZLs {l:Cx} (h5:∀ s∈l,s.length≤5):ZKS l≤120*l.length:=by
 unfold ZKS
 induction l with
 | nil=>simp
 | cons s l ih =>
  have h1:=ih fun t ht=>h5 t (by simp [ht])
  have h2:∀ n:Fin 6,ZKA n.val≤120:=by decide
  have h3:=h2 ⟨s.length,by have:=h5 s (by simp);omega⟩
  simp only at h3
  simp only [List.map_cons,List.sum_cons,List.length_cons]
  omega

theorem ZQ2 (n:Nat) (hn:n≤8):Fn Tryz.prog 36 [dI (n:Int)] (dI ((ZKA n:Nat):Int)):=by
 (refine ZG Tryz.func36 rfl rfl ?_;simp only [Tryz.ntmps36,List.length_cons,List.length_nil,Nat.reduceAdd,Nat.reduceSub,List.replicate_succ,List.replicate_zero,List.cons_append,List.nil_append])
 (repeat' (first|(apply WL.opN;exact yF;dsimp only [ZB,z0,z1])|refine WL.nil ?_|refine ZA fun Kx hK=>?_|(refine hK _ _ ?_;clear hK)|refine WC.region ?_|refine WC.block ?_))
 (refine WC.loopU (X:=Nat) (fun k=>[(3,dI ((ZKA (k+1):Nat):Int)),(4,dI ((k+2:Nat):Int)),(5,dA),(6,dA),(7,dA),(8,dA),(9,dA),(10,dA),(11,dA),(12,dA)]) (fun k=>[]) (fun k=>n-k) (fun k=>k+1≤n\/k=0) 0 ?start ?frame0 ?objs0 ?round)
 case start=>exact .inr rfl
 case frame0=>((try dsimp only [ZK,z0,z1]);repeat (first|exact LeF.nil|refine ZD (k:=?_)))
 case objs0=>rfl
 case round =>
  rintro k h1
  dsimp only [ZK,z0,z1]
  by_cases hk:k+2≤n
  ·have hb:=ZGB ⟨k+1,by omega⟩
   simp only at hb
   have hm:(ZKA (k+1):Int)*((k+2:Nat):Int)=((ZKA (k+2):Nat):Int):=by
    rw [<- Int.natCast_mul]
    congr 1
    rw [Nat.mul_comm]
    rfl
   have hb2:=ZGB ⟨k+2,by omega⟩
   simp only at hb2
   ((repeat' (first|(apply WL.opN;exact yF;dsimp only [ZB,z0,z1])|refine WL.nil ?_|refine ZA fun Kx hK=>?_|(refine hK _ _ ?_;clear hK)|refine WC.region ?_|(apply WL.opN;(focus ((first|(exact ZMq hm (by omega) (OpD.t rfl) (OpD.t rfl))|((first|apply SY.move|apply SY.assign|apply SY.leq) <;> (exact oD))|((first|apply SY.add|apply SY.mul) <;> first|exact oD|omega)|fail);all_goals infer_instance));dsimp only [ZB,z0,z1])|(apply ZC;(exact oD);all_goals (intro h;try exact xD))|refine WC.skip ?_|refine WC.block ?_|refine ThenD.n ?_));all_goals (first|((repeat clear hK);(repeat clear Kx))))
   all_goals try (exfalso;first|contradiction|omega)
   (refine ⟨k+1,?_,by first|omega|(simp only;omega),rfl,?_⟩;rotate_left;((try dsimp only [ZK,z0,z1]);repeat (first|exact LeF.nil|refine ZD (k:=?_)));(try dsimp only))
   omega
  ·((repeat' (first|(apply WL.opN;exact yF;dsimp only [ZB,z0,z1])|refine WL.nil ?_|refine ZA fun Kx hK=>?_|(refine hK _ _ ?_;clear hK)|(refine Kont.skip ?_;clear hK)|refine WC.region ?_|(apply WL.opN;(focus ((first|((first|apply SY.move|apply SY.assign|apply SY.leq) <;> (exact oD))|fail);all_goals infer_instance));dsimp only [ZB,z0,z1])|(apply ZC;(exact oD);all_goals (intro h;try exact xD))|refine WC.ret ?_|refine WC.exit ?_));all_goals (first|((repeat clear hK);(repeat clear Kx))))
   all_goals try (exfalso;first|contradiction|omega)
   (refine ⟨trivial,_,rfl,?_⟩;refine FinD.i ?_)
   have:n=0\/n=k+1:=by omega
   rcases this with rfl|rfl
   ·have:k=0:=by omega
    subst this
    rfl
   ·rfl
end
section
open Go.RowKit

set_option maxHeartbeats 4000000 in
theorem ZNK (l:Cx) (he:ZBH l≠0):Fn Tryz.prog 10 [dS CpxL l] (dT [dS ZCb ([],[],[]),dI (ZBH l)]):=by
 have c1:=ZF1 l
 generalize ZBH l=e at *
 refine ZAB ZAd Tryz.func10 rfl rfl ?_
 simp only [Tryz.ntmps10,List.length_cons,List.length_nil,Nat.reduceAdd,Nat.reduceSub,List.replicate_succ,List.replicate_zero,List.cons_append,List.nil_append]
 ((repeat' (first|((first|apply WL.opN|apply WD.opN);exact yF;dsimp only [ZB,z0,z1])|refine WL.nil ?_|refine ZA fun Kx hK=>?_|(refine hK _ _ ?_;clear hK)|refine WC.region ?_ |  (refine WL.alloc (dst:=some 2) ZCH (Zj rfl rfl rfl) fun b2=>?_;dsimp only [ZB,z0,z1]) |  (refine ZN ZAd rfl (OpD.t rfl) Zn ?_;dsimp only [ZB,z0,z1])|((first|apply WL.opN|apply WD.opN);(focus ((first|(exact SY.box (OpD.t rfl) (fun I w v h=>Zt I w v (ZAp I w v h)))|(apply SY.call c1 Tryz.call33;exact ArgsD.cons (OpD.tle rfl ZAp) ArgsD.nil)|(exact ZA9)|((first|apply SY.move|apply SY.assign|apply SY.lss|apply SY.gtr|apply SY.neq|apply SY.or) <;> (exact oD))|fail);all_goals infer_instance));dsimp only [ZB,z0,z1])|(apply ZL;(exact oD);all_goals (intro h;try exact xD))|refine WC.ret ?_|refine ThenD.r ?_));all_goals (first|((repeat clear hK);(repeat clear Kx))))
 all_goals first|(refine ⟨trivial,⟨_,rfl,?_⟩,_,rfl,?_⟩ <;> exact fD)|(exfalso;first|contradiction|omega)
set_option maxHeartbeats 4000000 in
theorem ZNJ (l:Cx) (he:ZBH l≠0):Fn Tryz.prog 11 [dS Cpx l] (dT [dS ZCb ([],[],[]),dI (ZBH l)]):=by
 have c1:=ZD2 l
 generalize ZBH l=e at *
 refine ZAB ZAd Tryz.func11 rfl rfl ?_
 simp only [Tryz.ntmps11,List.length_cons,List.length_nil,Nat.reduceAdd,Nat.reduceSub,List.replicate_succ,List.replicate_zero,List.cons_append,List.nil_append]
 ((repeat' (first|((first|apply WL.opN|apply WD.opN);exact yF;dsimp only [ZB,z0,z1])|refine WL.nil ?_|refine ZA fun Kx hK=>?_|(refine hK _ _ ?_;clear hK)|refine WC.region ?_ |  (refine WL.alloc (dst:=some 2) ZCH (Zj rfl rfl rfl) fun b2=>?_;dsimp only [ZB,z0,z1]) |  (refine ZN ZAd rfl (OpD.t rfl) Zn ?_;dsimp only [ZB,z0,z1])|((first|apply WL.opN|apply WD.opN);(focus ((first|(exact SY.box (OpD.t rfl) Zt)|(apply SY.call (c1) Tryz.call30;(exact aD))|(exact ZA9)|((first|apply SY.move|apply SY.assign|apply SY.lss|apply SY.gtr|apply SY.neq) <;> (exact oD))|fail);all_goals infer_instance));dsimp only [ZB,z0,z1])|(apply ZL;(exact oD);all_goals (intro h;try exact xD))|refine WC.ret ?_|refine ThenD.r ?_));all_goals (first|((repeat clear hK);(repeat clear Kx))))
 all_goals first|(refine ⟨trivial,⟨_,rfl,?_⟩,_,rfl,?_⟩ <;> exact fD)|(exfalso;first|contradiction|omega)
end
end Go.Proofs.YtlgmojhmmbhgfaaGreatDoor
