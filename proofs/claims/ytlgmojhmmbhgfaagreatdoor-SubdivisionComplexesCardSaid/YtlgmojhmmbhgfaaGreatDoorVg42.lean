/- Part 42: walks by contracts, and plain laws. -/
import Derived.Test.YtlgmojhmmbhgfaaGreatDoorVg41
set_option linter.unusedVariables false
set_option linter.unusedSimpArgs false
set_option linter.unusedSectionVars false
set_option maxRecDepth 100000
set_option maxHeartbeats 4000000
namespace Go.Proofs.YtlgmojhmmbhgfaaGreatDoor
section
def chM (N:Nat):Nat->Nat->List (List Nat)
 | 0,_=>[[]]
 | c+1,m=>(List.range N).flatMap fun i=>if m.testBit i then [] else (chM N c (m ||| 2 ^ i)).map ((m ||| 2 ^ i) :: ·)
theorem ZMF {α:Type} (s:List Vx) (g:Vx->List α):s.flatMap g=(List.range s.length).flatMap fun i=>g (s.getD i (0,0)):=by
 have e:s=(List.range s.length).map fun i=>s.getD i (0,0):=by
  apply List.ext_getElem
  ·simp
  ·intro i h1 h2
   simp [List.getD_eq_getElem?_getD,h1]
 conv=>lhs;rw [e,List.flatMap_map]
theorem ZGF {α β:Type} {f g:α->List β}:∀ {L:List α},(∀ x∈L,f x=g x)->L.flatMap f=L.flatMap g
 | [],_=>rfl
 | x::L,h=>by rw [List.flatMap_cons,List.flatMap_cons,h x (by simp),ZGF fun y hy=>h y (by simp [hy])]
theorem ZNV {s:List Vx} (hs:Asc s):∀ (c m:Nat),ZF3 c s (atB s m)=(chM s.length c m).map (·.map (atB s))
 | 0,m=>rfl
 | c+1,m=>by
  unfold ZF3 chM
  rw [ZMF,List.map_flatMap]
  refine ZGF fun i hi=>?_
  have hi:i<s.length:=List.mem_range.1 hi
  have hg:s.getD i (0,0)=s[i]:=by simp [List.getD_eq_getElem?_getD,hi]
  rw [hg]
  have hmem:s[i]∈atB s m↔m.testBit i=true:=by
   rw [ZE4]
   constructor
   ·rintro ⟨j,hj,e,hb⟩
    have hnd:=List.pairwise_iff_getElem.1 (ZEz hs)
    have:j=i:=by
     rcases Nat.lt_trichotomy j i with q|q|q
     ·exact absurd e (hnd j i hj hi q)
     ·exact q
     ·exact absurd e.symm (hnd i j hi hj q)
    rw [<- this];exact hb
   ·intro hb;exact ⟨i,hi,rfl,hb⟩
  by_cases hb:m.testBit i=true
  ·rw [if_pos (hmem.2 hb),if_pos hb];rfl
  ·rw [if_neg (fun q=>hb (hmem.1 q)),if_neg hb]
   have hp:ZC5 (atB s m) s[i]=atB s (m ||| 2 ^ i):=by
    refine ZDD (ZK0 (List.Pairwise.sublist (ZBK _ _) hs)) (List.Pairwise.sublist (ZBK _ _) hs) fun x=>?_
    rw [ZLT,ZE4,ZE4]
    constructor
    ·rintro (rfl|⟨j,hj,e,hb2⟩)
     ·exact ⟨i,hi,rfl,by rw [Nat.testBit_or,Nat.testBit_two_pow_self,Bool.or_true]⟩
     ·exact ⟨j,hj,e,by rw [Nat.testBit_or,hb2];rfl⟩
    ·rintro ⟨j,hj,e,hb2⟩
     rw [Nat.testBit_or,Bool.or_eq_true] at hb2
     rcases hb2 with q|q
     ·exact .inr ⟨j,hj,e,q⟩
     ·rw [Nat.testBit_two_pow] at q
      have:i=j:=of_decide_eq_true q
      subst this;exact .inl e.symm
   rw [hp,ZNV hs c,List.map_map,List.map_map]
   rfl
def chQ (n:Nat):Bool:=decide (chM n n 0=(ZGl (2 ^ n-1)).map fun bl=>(List.range n).map fun k=>orB bl (k+1)) && (ZGl (2 ^ n-1)).all fun bl=>decide (bl.length=n) && decide (orB bl n=2 ^ n-1) && (List.range n).all fun k=>(List.range n).any fun i=>(orB bl (k+1)).testBit i
theorem ZRf:∀ n,1≤n->n≤5->chQ n=true:=by
 intro n h1 h5
 have:n=1\/n=2\/n=3\/n=4\/n=5:=by omega
 rcases this with rfl|rfl|rfl|rfl|rfl <;> decide +kernel
theorem ZE5 {n:Nat} (h1:1≤n) (h5:n≤5) {bl:List Nat} (hb:bl∈ZGl (2 ^ n-1)):bl.length=n/\orB bl n=2 ^ n-1/\∀ k,k<n->∃ i,i<n/\(orB bl (k+1)).testBit i=true:=by
 have h:=ZRf n h1 h5
 unfold chQ at h
 rw [Bool.and_eq_true] at h
 have h2:=List.all_eq_true.1 h.2 bl hb
 rw [Bool.and_eq_true,Bool.and_eq_true] at h2
 refine ⟨of_decide_eq_true h2.1.1,of_decide_eq_true h2.1.2,fun k hk=>?_⟩
 obtain ⟨i,hi,h3⟩:=List.any_eq_true.1 (List.all_eq_true.1 h2.2 k (List.mem_range.2 hk))
 exact ⟨i,List.mem_range.1 hi,h3⟩
theorem ZP4 (s:List Vx):atB s 0=[]:=List.eq_nil_iff_forall_not_mem.2 fun x hx=>by
 obtain ⟨i,_,_,hb⟩:=ZE4.1 hx
 simp at hb
theorem ZRg {s:List Vx} (hc:ZAJ s=0) (h5:s.length≤5):ZF3 s.length s []=(ZGl (2 ^ s.length-1)).map fun bl=>(List.range s.length).map fun k=>atB s (orB bl (k+1)):=by
 obtain ⟨h1,_,_,h4⟩:=ZO.1 hc
 have h:=ZRf s.length (by omega) h5
 unfold chQ at h
 rw [Bool.and_eq_true] at h
 have e:=of_decide_eq_true h.1
 rw [<- ZP4 s,ZNV h4,e,List.map_map]
 refine List.map_congr_left fun bl _=>?_
 simp only [Function.comp];rw [List.map_map];rfl
def ZTo (fs l:Cx):Cx:=l.flatMap fun s=>(chB fs s).map fun t=>t.map (·.1)
theorem ZFY {l:Cx} {f:List Vx} (hf:f∈ZBw (ZBT l) l):∃ s∈l,∃ bl∈ZGl (2 ^ s.length-1),f=ZDs (ZBT l) s bl:=by
 obtain ⟨s,hs,hf⟩:=List.mem_flatMap.1 hf
 obtain ⟨bl,hbl,rfl⟩:=List.mem_map.1 hf
 exact ⟨s,hs,bl,hbl,rfl⟩
theorem ZFa {fs:Cx} {x:List Vx} (h:x∈fs) (c:Int):ZFD fs (c,Z3 0 fs x)=x:=by
 obtain ⟨j,h1,h2,h3⟩:=ZBW _ 0 _ h
 unfold ZFD
 simp only
 rw [h2,Nat.zero_add,Int.toNat_natCast,List.getD_eq_getElem?_getD,List.getElem?_eq_getElem h1,Option.getD_some,h3]
theorem ZPA {car:Vx->List Vx}:∀ (F:List (List (Vx × List Vx))) (A:Cx × List (Vx × List Vx)),(∀ t∈F,∀ p∈t,car p.1=p.2) ->
  ZIE A F=((F.map fun t=>t.map (·.1)).foldl ZFL A.1,(F.map fun t=>t.map (·.1)).flatten.foldl (fun d u=>ZE7 d u (car u)) A.2)
 | [],A,_=>rfl
 | t::F,A,h=>by
  have e:ZIE A (t::F)=ZIE (ZJa A t) F:=rfl
  have e2:ZLm A.2 t=(t.map (·.1)).foldl (fun d u=>ZE7 d u (car u)) A.2:=by
   unfold ZLm
   rw [List.foldl_map]
   exact ZDK t _ fun d p hp=>by rw [h t (by simp) p hp]
  rw [e,ZPA F (ZJa A t) fun u hu=>h u (by simp [hu])]
  unfold ZJa
  rw [e2,List.map_cons,List.foldl_cons,List.flatten_cons,List.foldl_append]
theorem ZNH {fs:Cx} {car:Vx->List Vx}:∀ (l:Cx) (A:Cx × List (Vx × List Vx)),(∀ s∈l,∀ t∈chB fs s,∀ p∈t,car p.1=p.2) ->
  l.foldl (fun A s=>ZIE A (chB fs s)) A=((ZTo fs l).foldl ZFL A.1,(ZTo fs l).flatten.foldl (fun d u=>ZE7 d u (car u)) A.2)
 | [],A,_=>rfl
 | s::l,A,h=>by
  rw [List.foldl_cons,ZNH l _ fun t ht=>h t (by simp [ht]),ZPA _ _ (h s (by simp))]
  unfold ZTo
  rw [List.flatMap_cons,List.foldl_append,List.flatten_append,List.foldl_append]
section
variable {l:Cx} (hg:∀ s∈l,ZAJ s=0) (h5:∀ s∈l,s.length≤5)
include hg h5
theorem ZDb {s:List Vx} (hs:s∈l) {bl:List Nat} (hb:bl∈ZGl (2 ^ s.length-1)) {k:Nat} (hk:k<s.length):atB s (orB bl (k+1))∈ZDx l:=by
 have h1:=(ZO.1 (hg s hs)).1
 have h2:=(ZE5 (by omega) (h5 s hs) hb).2.2 k hk
 exact ZBV.2 ⟨s,hs,ZNB h2,ZBK _ _⟩
theorem ZNG {s:List Vx} (hs:s∈l):(ZGl (2 ^ s.length-1)).map (ZDs (ZBT l) s)=(chB (Zr l) s).map fun t=>t.map (·.1):=by
 have h1:=(ZO.1 (hg s hs)).1
 unfold chB
 rw [ZRg (hg s hs) (h5 s hs),List.map_map,List.map_map]
 refine List.map_congr_left fun bl hb=>?_
 obtain ⟨o1,o2,o3⟩:=ZE5 (by omega) (h5 s hs) hb
 simp only [Function.comp]
 apply List.ext_getElem
 ·rw [ZEO,List.length_map,ZEj,List.length_map,List.length_range,o1]
 ·intro k q1 q2
  have hk:k<s.length:=by rw [ZEO,o1] at q1;exact q1
  rw [ZDa,List.getElem_map,ZGS _ (by simpa using hk)]
  simp only [List.getElem_map,List.getElem_range]
  unfold ZHW
  rw [ZFh hg (ZDb hg h5 hs hb hk)]
theorem ZNE:ZBw (ZBT l) l=ZTo (Zr l) l:=by
 unfold ZBw ZTo
 exact ZGF fun s hs=>ZNG hg h5 hs
theorem ZDZ {s:List Vx} (hs:s∈l) {bl:List Nat} (hb:bl∈ZGl (2 ^ s.length-1)):(ZDs (ZBT l) s bl).length=s.length:=by
 have h1:=(ZO.1 (hg s hs)).1
 rw [ZEO,(ZE5 (by omega) (h5 s hs) hb).1]
theorem ZJ2 {s:List Vx} (hs:s∈l) {bl:List Nat} (hb:bl∈ZGl (2 ^ s.length-1)) {k:Nat} (hk:k<s.length):ZHW (ZBT l) s bl k=((k:Int),Z3 0 (Zr l) (atB s (orB bl (k+1)))):=by
 unfold ZHW
 rw [ZFh hg (ZDb hg h5 hs hb hk)]
theorem ZK2 {s:List Vx} (hs:s∈l) {bl:List Nat} (hb:bl∈ZGl (2 ^ s.length-1)) {v:Vx} (hv:v∈ZDs (ZBT l) s bl):∃ k,k<s.length/\v=((k:Int),Z3 0 (Zr l) (atB s (orB bl (k+1)))):=by
 obtain ⟨k,hk,rfl⟩:=List.mem_iff_getElem.1 hv
 have hk':k<s.length:=by rw [ZDZ hg h5 hs hb] at hk;exact hk
 exact ⟨k,hk',by rw [ZDa,ZJ2 hg h5 hs hb hk']⟩
theorem ZND (hG:GoodX l) {f:List Vx} (hf:f∈ZBw (ZBT l) l):ZAU (ZBw (ZBT l) l) f=false:=by
 have:¬ ZAU (ZBw (ZBT l) l) f=true:=fun q=>by
  obtain ⟨k,hk,hlt,hin⟩:=ZAW.1 q
  obtain ⟨s,hs,bl,hbl,ef⟩:=ZFY hf
  obtain ⟨s',hs',bl',hbl',ek⟩:=ZFY hk
  have h1:=(ZO.1 (hg s hs)).1
  obtain ⟨o1,o2,o3⟩:=ZE5 (by omega) (h5 s hs) hbl
  have hfl:f.length=s.length:=by rw [ef,ZDZ hg h5 hs hbl]
  have hkl:k.length=s'.length:=by rw [ek,ZDZ hg h5 hs' hbl']
  have hat:atB s (2 ^ s.length-1)=s:=(ZBK s _).eq_of_length (Classical.byContradiction fun hne=>by
   have hlt:=(ZBK s (2 ^ s.length-1)).length_le
   exact (ZIl (ZEz (ZO.1 (hg s hs)).2.2.2) (by have:=Nat.two_pow_pos s.length;omega)).1 (by omega) rfl)
  have hv:(((s.length-1:Nat):Int),Z3 0 (Zr l) s)∈f:=by
   rw [ef]
   have hi:s.length-1<(ZDs (ZBT l) s bl).length:=by rw [ZDZ hg h5 hs hbl];omega
   have:=List.getElem_mem hi
   rw [ZDa,ZJ2 hg h5 hs hbl (by omega),show s.length-1+1=s.length by omega,o2,hat] at this
   exact this
  have hvk:=of_decide_eq_true (List.all_eq_true.1 hin _ hv)
  rw [ek] at hvk
  obtain ⟨j,hj,e⟩:=ZK2 hg h5 hs' hbl' hvk
  have en:Z3 0 (Zr l) s=Z3 0 (Zr l) (atB s' (orB bl' (j+1))):=congrArg Prod.snd e
  have hsk:s∈Zr l:=ZA7.2 (ZBV.2 ⟨s,hs,fun q=>by rw [q] at h1;exact h1 rfl,List.Sublist.refl _⟩)
  have hsk':atB s' (orB bl' (j+1))∈Zr l:=ZA7.2 (ZDb hg h5 hs' hbl' hj)
  have hes:s=atB s' (orB bl' (j+1)):=by rw [<- ZFa hsk 0,en,ZFa hsk' 0]
  have hsub:s.Sublist s':=by rw [hes];exact ZBK _ _
  have hcov:ZAU l s=true:=ZAW.2 ⟨s',hs',by omega,List.all_eq_true.2 fun x hx=>decide_eq_true (hsub.subset hx)⟩
  rw [hG.2.2.2 s hs] at hcov
  cases hcov
 simpa using this
theorem ZP6 (hl:l.length≤4096) {f:List Vx} (hf:f∈ZBw (ZBT l) l):ZAJ f=0:=by
 obtain ⟨s,hs,bl,hbl,e⟩:=ZFY hf
 have h1:=(ZO.1 (hg s hs)).1
 have hs5:=h5 s hs
 have hlen:f.length=s.length:=by rw [e,ZDZ hg h5 hs hbl]
 refine ZO.2 ⟨by omega,by omega,fun v hv=>?_,ZHU ?_⟩
 ·rw [e] at hv
  obtain ⟨k,hk,rfl⟩:=ZK2 hg h5 hs hbl hv
  obtain ⟨j,j1,j2,_⟩:=ZBW _ 0 _ (ZA7.2 (ZDb hg h5 hs hbl hk))
  have hfl:=ZFd h5
  unfold ZEt
  simp only [Bool.and_eq_true,decide_eq_true_eq]
  rw [j2]
  exact ⟨⟨⟨by omega,by omega⟩,by omega⟩,by omega⟩
 ·rw [e]
  refine List.pairwise_iff_getElem.2 fun i j hi hj hij=>?_
  rw [ZDa,ZDa]
  unfold ZHW
  simp only
  omega
theorem ZTT (hG:GoodX l):ZFZ (Zr l) l=(ZDl (ZBw (ZBT l) l),(ZBE [] (ZBw (ZBT l) l).flatten).map fun u=>(u,ZFD (Zr l) u)):=by
 unfold ZFZ
 rw [ZNH (car:=ZFD (Zr l)) l _ fun s hs t ht p hp=>?_,<- ZNE hg h5]
 ·have h1:(ZBw (ZBT l) l).filter (ZPY (ZBw (ZBT l) l))=ZBw (ZBT l) l:=List.filter_eq_self.2 fun f hf=>by
   unfold ZPY
   rw [ZND hg h5 hG hf]
   obtain ⟨s,hs,bl,hb,e⟩:=ZFY hf
   have:=(ZO.1 (hg s hs)).1
   have hl:f.length=s.length:=by rw [e,ZDZ hg h5 hs hb]
   rw [decide_eq_true (by omega)];rfl
  have h2:=allS (ZFD (Zr l)) (ZBw (ZBT l) l).flatten []
  rw [List.map_nil] at h2
  unfold ZDl
  rw [h1,h2]
 ·unfold chB at ht
  rw [ZRg (hg s hs) (h5 s hs),List.map_map] at ht
  obtain ⟨bl,hb,rfl⟩:=List.mem_map.1 ht
  obtain ⟨k,hk,rfl⟩:=List.mem_iff_getElem.1 hp
  simp only [Function.comp] at hk ⊢
  have hk':k<s.length:=by rw [ZEj] at hk;simpa using hk
  rw [ZGS hk (by simpa using hk')]
  simp only [List.getElem_map,List.getElem_range]
  exact ZFa (ZA7.2 (ZDb hg h5 hs hb hk')) _
end
theorem ZP7 {M:ZDz} {l:Cx} (hc:∀ s∈l,ZAJ s=0) (h5:∀ s∈l,s.length≤5):(ZBw M l).length≤541*l.length/\(ZBw M l).flatten.length≤2705*l.length:=by
 induction l with
 | nil=>simp [ZBw]
 | cons s l ih =>
  obtain ⟨i1,i2⟩:=ih (fun t ht=>hc t (by simp [ht])) fun t ht=>h5 t (by simp [ht])
  have hs5:=h5 s (by simp)
  have h1:=(ZO.1 (hc s (by simp))).1
  have h2:=ZE6 s.length hs5
  have h3:(ZGl (2 ^ s.length-1)).length≤(ZBR (2 ^ s.length-1)).length:=List.length_filter_le _ _
  have h4:∀ L:List (List Nat),(∀ bl∈L,bl.length≤5)->(L.map (ZDs M s)).flatten.length≤5*L.length:=by
   intro L
   induction L with
   | nil=>intro _;simp
   | cons bl L ih =>
    intro h
    have:=ih fun b hb=>h b (by simp [hb])
    have:=h bl (by simp)
    rw [List.map_cons,List.flatten_cons,List.length_append,ZEO,List.length_cons]
    omega
  have h6:=h4 (ZGl (2 ^ s.length-1)) fun bl hb=>by rw [(ZE5 (by omega) hs5 hb).1];exact hs5
  have e:ZBw M (s::l)=(ZGl (2 ^ s.length-1)).map (ZDs M s)++ZBw M l:=by unfold ZBw;rw [List.flatMap_cons]
  rw [e,List.length_append,List.length_map,List.flatten_append,List.length_append,List.length_cons]
  omega
open Go.RowKit in
theorem ZGi (l:Cx) (hl:l.length≤4) (h5:∀ s∈l,s.length≤5):Fn Tryz.prog 10 [dS CpxL l] (dT [dS ZCb (ZL8 l).1,dI (ZL8 l).2]):=by
 by_cases h0:ZBH l=0
 ·have hG:=ZAH.1 h0
  have hg:=hG.2.2.1
  have hsum:=ZLs h5
  obtain ⟨hb1,hb2⟩:=ZP7 (M:=ZBT l) hg h5
  have hfl:=ZFd h5
  have hOf:ofP (ZBw (ZBT l) l)=(ZDl (ZBw (ZBT l) l),0):=by
   unfold ofP
   rw [if_neg (by omega),if_neg (fun q=>q (ZGA fun f hf=>ZP6 hg h5 hG.1 hf))]
  have hR:ZL8 l=((ZDl (ZBw (ZBT l) l),ZBE [] (ZBw (ZBT l) l).flatten,(ZBE [] (ZBw (ZBT l) l).flatten).map (ZFD (Zr l))),0):=by
   unfold ZL8
   rw [if_neg (by omega),ZTT hg h5 hG]
   rw [List.map_map,List.map_map]
   congr 1
   congr 1
   congr 1
   exact List.map_id' _
  rw [hR]
  refine ZKa (ZNL l _ (ZFD (Zr l)) hG.1 h0 hg h5 (by omega) (by omega) (by omega) (fun s hs bl hb k hk=>?_) (fun v=>?_) hOf False.elim) fun d hp2 ⟨q1,q2⟩=>ZMg q1
  ·have h1:=(ZO.1 (hg s hs)).1
   have hk':k<s.length:=by rw [(ZE5 (by omega) (h5 s hs) hb).1] at hk;exact hk
   have hf:=ZA7.2 (ZDb hg h5 hs hb hk')
   have hs5:=h5 s hs
   rw [ZJ2 hg h5 hs hb hk']
   obtain ⟨j,j1,j2,j3⟩:=ZBW _ 0 _ hf
   refine ⟨⟨?_,?_⟩,ZFa hf _⟩
   ·show ZML _
    unfold ZML
    simp only
    omega
   ·show ZML _
    unfold ZML
    simp only
    rw [j2]
    omega
  ·unfold ZFD
   rw [List.getD_eq_getElem?_getD]
   cases h:(Zr l)[v.2.toNat]? with
   | none=>simp
   | some x =>
    obtain ⟨s,hs,_,hsub⟩:=ZBV.1 (ZA7.1 (List.mem_of_getElem? h))
    have:=hsub.length_le
    have:=h5 s hs
    simp only [Option.getD_some]
    omega
 ·rw [show ZL8 l=(([],[],[]),ZBH l) from if_pos h0]
  exact ZNK l h0
end
end Go.Proofs.YtlgmojhmmbhgfaaGreatDoor
