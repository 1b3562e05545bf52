/- Part 1: walks by contracts, and plain laws. -/
set_option linter.unusedVariables false
set_option linter.unusedSimpArgs false
set_option linter.unusedSectionVars false
set_option maxRecDepth 100000
set_option maxHeartbeats 4000000
namespace Go.Proofs.YtekiljakcngcoaaGreatDoor.S50
section
variable {α:Type}
def ZAk (n M:Nat):List Nat:=(List.range n).filter fun i=>decide ((M >>> i) &&& 1=1)
def atG (s:List α) (M:Nat):List α:=(s.zipIdx.filter fun p=>decide ((M >>> p.2) &&& 1=1)).map (·.1)
def eB (b:List Nat) (N:Nat):Nat:=(ZAk b.length N).foldl (fun a j=>a ||| (1 <<< b.getD j 0)) 0
theorem at_bits (d:α) (M:Nat):∀ s:List α,atG s M=(ZAk s.length M).map fun i=>s.getD i d:=by
 have key:∀ (n:Nat) (s:List α),s.length=n->atG s M=(ZAk s.length M).map fun i=>s.getD i d:=by
  intro n
  induction n with
  | zero=>intro s h;rw [List.length_eq_zero_iff.1 h];rfl
  | succ n ih =>
   intro s h
   obtain ⟨t,x,rfl⟩:∃ t x,s=t++[x]:=⟨s.dropLast,s.getLast (by intro e;rw [e] at h;cases h),(List.dropLast_concat_getLast _).symm⟩
   have ht:t.length=n:=by rw [List.length_append,List.length_singleton] at h;omega
   have e1:atG (t++[x]) M=atG t M++if (M >>> t.length) &&& 1=1 then [x] else []:=by
    unfold atG
    rw [List.zipIdx_append,List.filter_append,List.map_append]
    congr 1
    rw [Nat.zero_add,List.zipIdx_cons,List.zipIdx_nil,List.filter_cons]
    by_cases hb:(M >>> t.length) &&& 1=1
    ·rw [if_pos (decide_eq_true hb),if_pos hb];rfl
    ·rw [if_neg (fun q=>hb (of_decide_eq_true q)),if_neg hb];rfl
   rw [e1,ih t ht,List.length_append,List.length_singleton]
   unfold ZAk
   rw [List.range_succ,List.filter_append,List.map_append]
   congr 1
   ·refine List.map_congr_left fun i hi=>?_
    have hi:=List.mem_range.1 (List.mem_filter.1 hi).1
    rw [List.getD_eq_getElem?_getD,List.getD_eq_getElem?_getD,List.getElem?_append_left hi]
   ·rw [List.filter_cons]
    by_cases hb:(M >>> t.length) &&& 1=1
    ·rw [if_pos hb,if_pos (decide_eq_true hb)]
     simp
    ·rw [if_neg hb,if_neg (fun q=>hb (of_decide_eq_true q))]
     rfl
 exact fun s=>key s.length s rfl
theorem ZKZ {n M i:Nat} (h:i∈ZAk n M):i<n:=List.mem_range.1 (List.mem_filter.1 h).1
theorem ZEO (s:List α) (M:Nat):(atG s M).length=(ZAk s.length M).length:=by
 cases s with
 | nil=>rfl
 | cons x s=>rw [at_bits x M (x::s),List.length_map]
def chkE2 (m:Nat):Bool:=(List.range (2 ^ m)).all fun M=>(List.range (2 ^ (ZAk m M).length)).all fun N=>decide (ZAk m (eB (ZAk m M) N)=(ZAk (ZAk m M).length N).map fun j=>(ZAk m M).getD j 0)
theorem ZQt:∀ m,m≤3->chkE2 m=true:=by decide +kernel
theorem at_at {s:List α} (h3:s.length≤3) {M N:Nat} (hM:M<2 ^ s.length) (hN:N<2 ^ (atG s M).length):atG (atG s M) N=atG s (eB (ZAk s.length M) N):=by
 cases hs:s with
 | nil=>rfl
 | cons x t =>
  rw [<- hs]
  rw [ZEO] at hN
  have hE:=of_decide_eq_true (List.all_eq_true.1 (List.all_eq_true.1 (ZQt s.length h3) M (List.mem_range.2 hM)) N (List.mem_range.2 hN))
  rw [at_bits x N (atG s M),at_bits x (eB (ZAk s.length M) N) s,hE,List.map_map,ZEO]
  refine List.map_congr_left fun j hj=>?_
  have hj:=ZKZ hj
  simp only [Function.comp_apply]
  rw [at_bits x M s,List.getD_eq_getElem?_getD,List.getElem?_map,List.getElem?_eq_getElem hj,List.getD_eq_getElem?_getD (l:=ZAk s.length M),List.getElem?_eq_getElem hj]
  rfl
abbrev Pv:=Nat × Nat
def un (q:List Pv):Nat:=q.foldl (fun a v=>a ||| v.2) 0
def eV (ei:List Nat->Nat->Nat) (b:List Nat) (v:Pv):Pv:=(ei b v.1,eB b v.2)
def sgZ (k:Nat):Int:=if k % 2=1 then 1 else -1
def qF (Q:Nat->List (List Pv)) (n:Nat):List (List Pv):=(Q n).filter fun q=>decide (un q=2 ^ n-1)
def chkQ (Q:Nat->List (List Pv)) (ei:List Nat->Nat->Nat) (m:Nat):Bool :=
 (Q m).all (fun q=>decide (un q∈q.map (·.2)) && decide (un q<2 ^ m) && q.all fun v=>decide (0<v.2) && decide (v.2<2 ^ m) && decide (v.1<m) && decide (v.2 ||| un q=un q)) && decide (Q m).Nodup &&
 decide (((qF Q m).map fun q=>sgZ q.length).sum=sgZ m) &&
 (List.range (2 ^ m)).all fun M=>decide (M=0) || ((Q m).all (fun q=>!decide (un q=M) || (qF Q (ZAk m M).length).any fun p=>decide (q=p.map (eV ei (ZAk m M)))) &&
  (qF Q (ZAk m M).length).all fun p=>decide (p.map (eV ei (ZAk m M))∈Q m) && decide (un (p.map (eV ei (ZAk m M)))=M))
structure PatQ (Q:Nat->List (List Pv)) (ei:List Nat->Nat->Nat):Prop where
 ok:∀ m,1≤m->m≤3->chkQ Q ei m=true
section
variable {Q:Nat->List (List Pv)} {ei:List Nat->Nat->Nat} (H:PatQ Q ei) {m:Nat} (h1:1≤m) (h3:m≤3)
include H h1 h3
theorem PatQ.parts:((Q m).all (fun q=>decide (un q∈q.map (·.2)) && decide (un q<2 ^ m) && q.all fun v=>decide (0<v.2) && decide (v.2<2 ^ m) && decide (v.1<m) && decide (v.2 ||| un q=un q))=true/\(Q m).Nodup)/\((qF Q m).map fun q=>sgZ q.length).sum=sgZ m /\
  ((List.range (2 ^ m)).all fun M=>decide (M=0) || ((Q m).all (fun q=>!decide (un q=M) || (qF Q (ZAk m M).length).any fun p=>decide (q=p.map (eV ei (ZAk m M)))) &&
  (qF Q (ZAk m M).length).all fun p=>decide (p.map (eV ei (ZAk m M))∈Q m) && decide (un (p.map (eV ei (ZAk m M)))=M)))=true:=by
 have h:=H.ok m h1 h3
 unfold chkQ at h
 rw [Bool.and_eq_true,Bool.and_eq_true,Bool.and_eq_true,decide_eq_true_eq,decide_eq_true_eq] at h
 exact ⟨h.1.1,h.1.2,h.2⟩
theorem PatQ.q {q:List Pv} (hq:q∈Q m):un q∈q.map (·.2)/\un q<2 ^ m/\∀ v∈q,(0<v.2/\v.2<2 ^ m)/\v.1<m/\v.2 ||| un q=un q:=by
 have h:=List.all_eq_true.1 (H.parts h1 h3).1.1 q hq
 rw [Bool.and_eq_true,Bool.and_eq_true,decide_eq_true_eq,decide_eq_true_eq,List.all_eq_true] at h
 refine ⟨h.1.1,h.1.2,fun v hv=>?_⟩
 have:=h.2 v hv
 rw [Bool.and_eq_true,Bool.and_eq_true,Bool.and_eq_true,decide_eq_true_eq,decide_eq_true_eq,decide_eq_true_eq,decide_eq_true_eq] at this
 exact ⟨this.1.1,this.1.2,this.2⟩
theorem PatQ.pos {q:List Pv} (hq:q∈Q m):0<un q:=by
 obtain ⟨a1,_,a3⟩:=H.q h1 h3 hq
 obtain ⟨v,hv,e⟩:=List.mem_map.1 a1
 rw [<- e];exact (a3 v hv).1.1
theorem PatQ.down {q:List Pv} (hq:q∈Q m):∃ p∈qF Q (ZAk m (un q)).length,q=p.map (eV ei (ZAk m (un q))):=by
 have h0:=H.pos h1 h3 hq
 have h:=List.all_eq_true.1 (H.parts h1 h3).2.2 (un q) (List.mem_range.2 (H.q h1 h3 hq).2.1)
 rw [Bool.or_eq_true,decide_eq_true_eq,Bool.and_eq_true] at h
 have h:=(h.resolve_left (by omega)).1
 have h:=List.all_eq_true.1 h q hq
 rw [Bool.or_eq_true] at h
 have h:=h.resolve_left (by simp)
 obtain ⟨p,hp,e⟩:=List.any_eq_true.1 h
 exact ⟨p,hp,of_decide_eq_true e⟩
theorem PatQ.up {M:Nat} (hM:M<2 ^ m) (h0:M≠0) {p:List Pv} (hp:p∈qF Q (ZAk m M).length):p.map (eV ei (ZAk m M))∈Q m/\un (p.map (eV ei (ZAk m M)))=M:=by
 have h:=List.all_eq_true.1 (H.parts h1 h3).2.2 M (List.mem_range.2 hM)
 rw [Bool.or_eq_true,decide_eq_true_eq,Bool.and_eq_true] at h
 have h:=List.all_eq_true.1 (h.resolve_left h0).2 p hp
 rw [Bool.and_eq_true,decide_eq_true_eq,decide_eq_true_eq] at h
 exact h
end
end
section
variable {α:Type}
theorem ZHo {M i:Nat}:((M >>> i) &&& 1=1)↔M.testBit i=true:=by simp [Nat.testBit,Nat.and_comm]
theorem ZNt (t:List α) (x:α) (M:Nat):atG (t++[x]) M=atG t M++if M.testBit t.length=true then [x] else []:=by
 unfold atG
 rw [List.zipIdx_append,List.filter_append,List.map_append]
 congr 1
 rw [Nat.zero_add,List.zipIdx_cons,List.zipIdx_nil,List.filter_cons]
 by_cases hb:(M >>> t.length) &&& 1=1
 ·rw [if_pos (decide_eq_true hb),if_pos (ZHo.1 hb)];rfl
 ·rw [if_neg (fun q=>hb (of_decide_eq_true q)),if_neg (fun q=>hb (ZHo.2 q))];rfl
theorem ZQm (s:List α) {M N:Nat} (h:∀ i,i<s.length->M.testBit i=N.testBit i):atG s M=atG s N:=by
 unfold atG
 congr 1
 refine List.filter_congr fun p hp=>?_
 have:=(List.mem_zipIdx hp).2.1
 rw [decide_eq_decide,ZHo,ZHo,h p.2 (by omega)]
theorem at_sub (s:List α) (M:Nat):(atG s M).Sublist s:=by
 have h1:(atG s M).Sublist (s.zipIdx.map (·.1)):=List.filter_sublist.map _
 rwa [show s.zipIdx.map (·.1)=s by simp] at h1
theorem ZR2:∀ (n:Nat) (s F:List α),s.length=n->F.Sublist s->∃ M,M<2 ^ n/\atG s M=F:=by
 intro n
 induction n with
 | zero =>
  intro s F h hF
  have:=List.length_eq_zero_iff.1 h
  subst this
  exact ⟨0,by decide,(List.sublist_nil.1 hF).symm ▸ rfl⟩
 | succ n ih =>
  intro s F h hF
  obtain ⟨t,x,rfl⟩:∃ t x,s=t++[x]:=⟨s.dropLast,s.getLast (by intro e;rw [e] at h;cases h),(List.dropLast_concat_getLast _).symm⟩
  have ht:t.length=n:=by rw [List.length_append,List.length_singleton] at h;omega
  obtain ⟨F1,F2,rfl,h1,h2⟩:=List.sublist_append_iff.1 hF
  obtain ⟨M,hM,hat⟩:=ih t F1 ht h1
  have hMb:M.testBit n=false:=Nat.testBit_lt_two_pow hM
  rcases List.sublist_cons_iff.1 h2 with h2|⟨r,h2,h3⟩
  ·have:=List.sublist_nil.1 h2
   subst this
   refine ⟨M,by rw [Nat.pow_succ];omega,?_⟩
   rw [ZNt,hat,ht,hMb,if_neg (by decide)]
  ·have:=List.sublist_nil.1 h3
   subst this
   subst h2
   refine ⟨2 ^ n+M,by rw [Nat.pow_succ];omega,?_⟩
   rw [ZNt,ht,Nat.testBit_two_pow_add_eq,hMb,if_pos (by decide),<- hat]
   congr 1
   exact ZQm t fun i hi=>Nat.testBit_two_pow_add_gt (by omega) M
theorem ZQp:∀ m:Fin 4,∀ M N:Fin 8,M.val<2 ^ m.val->N.val<2 ^ m.val->ZAk m.val M.val=ZAk m.val N.val->M=N:=by decide +kernel
theorem ZN3:∀ m:Fin 4,ZAk m.val (2 ^ m.val-1)=List.range m.val:=by decide +kernel
theorem ZHp:∀ m:Fin 4,∀ M:Fin 8,M.val≠0->M.val<2 ^ m.val->0<(ZAk m.val M.val).length:=by decide +kernel
theorem pow3 {m:Nat} (h:m≤3):2 ^ m≤8:=Nat.pow_le_pow_right (n:=2) (by decide) h
theorem ZFD {β γ:Type} {f:β->γ} {P:β->Prop} (hf:∀ a b,P a->P b->f a=f b->a=b):∀ {l m:List β},(∀ a∈l,P a)->(∀ a∈m,P a)->l.map f=m.map f->l=m
 | [],[],_,_,_=>rfl
 | [],_::_,_,_,h=>by cases h
 | _::_,[],_,_,h=>by cases h
 | a::l,b::m,hl,hm,h=>by
  rw [List.map_cons,List.map_cons] at h
  obtain ⟨h1,h2⟩:=List.cons.inj h
  rw [hf a b (hl a (by simp)) (hm b (by simp)) h1,ZFD hf (fun c hc=>hl c (by simp [hc])) (fun c hc=>hm c (by simp [hc])) h2]
theorem ZTH {s:List α} (h3:s.length≤3):atG s (2 ^ s.length-1)=s:=by
 cases hs:s with
 | nil=>rfl
 | cons x t =>
  rw [<- hs]
  have:=ZN3 ⟨s.length,by omega⟩
  simp only at this
  rw [at_bits x,this]
  refine List.ext_getElem (by simp) fun i h1 h2=>?_
  rw [List.getElem_map,List.getElem_range,List.getD_eq_getElem?_getD,List.getElem?_eq_getElem h2];rfl
theorem ZUZ {s:List α} (hn:s.Nodup) (h3:s.length≤3) {M N:Nat} (hM:M<2 ^ s.length) (hN:N<2 ^ s.length) (h:atG s M=atG s N):M=N:=by
 cases hs:s with
 | nil=>subst hs;simp at hM hN;omega
 | cons x t =>
  rw [at_bits x,at_bits x] at h
  have h8:=pow3 h3
  have e:=ZFD (P:=fun i=>i<s.length) (fun a b ha hb e=>by
   rw [List.getD_eq_getElem?_getD,List.getD_eq_getElem?_getD,List.getElem?_eq_getElem ha,List.getElem?_eq_getElem hb] at e
   exact (List.getElem_inj hn).1 e) (fun i hi=>ZKZ hi) (fun i hi=>ZKZ hi) h
  have:=ZQp ⟨s.length,by omega⟩ ⟨M,by omega⟩ ⟨N,by omega⟩ hM hN e
  exact Fin.mk.inj this
structure Sd (Q:Nat->List (List Pv)) (ei:List Nat->Nat->Nat) (tg:List α->Nat->Int) (num:List α->Int) (l FL:List (List α)):Prop where
 pat:PatQ Q ei
 sz:∀ s∈l,1≤s.length/\s.length≤3
 nd:∀ s∈l,s.Nodup
 fl:∀ F,F∈FL↔∃ s∈l,F≠[]/\F.Sublist s
 inj:∀ F∈FL,∀ G∈FL,num F=num G->F=G
 tgc:∀ s∈l,∀ M,M<2 ^ s.length->∀ i,i<(ZAk s.length M).length->tg (atG s M) i=tg s (ei (ZAk s.length M) i)
 tgi:∀ F∈FL,∀ i j,i<F.length->j<F.length->tg F i=tg F j->i=j
def psi (tg:List α->Nat->Int) (num:List α->Int) (F:List α) (v:Pv):Int × Int:=(tg F v.1,num (atG F v.2))
section
variable {Q:Nat->List (List Pv)} {ei:List Nat->Nat->Nat} {tg:List α->Nat->Int} {num:List α->Int} {l FL:List (List α)} (H:Sd Q ei tg num l FL)
include H
theorem Sd.face {F:List α} (h:F∈FL):F.Nodup/\1≤F.length/\F.length≤3:=by
 obtain ⟨s,hs,h1,h2⟩:=(H.fl F).1 h
 have:=(H.sz s hs).2
 have:=h2.length_le
 have:=List.length_pos_iff.2 h1
 exact ⟨h2.nodup (H.nd s hs),by omega,by omega⟩
theorem Sd.at_face {s:List α} (hs:s∈l) {M:Nat} (h0:M≠0) (hM:M<2 ^ s.length):atG s M∈FL:=by
 refine (H.fl _).2 ⟨s,hs,fun e=>?_,at_sub s M⟩
 have h3:=(H.sz s hs).2
 have h8:=pow3 h3
 have:=ZHp ⟨s.length,by omega⟩ ⟨M,by omega⟩ h0 hM
 simp only at this
 rw [<- ZEO,e] at this
 exact Nat.lt_irrefl 0 this
theorem Sd.psi_in {s:List α} (hs:s∈l) {M:Nat} (h0:M≠0) (hM:M<2 ^ s.length) {p:List Pv} (hp:p∈qF Q (ZAk s.length M).length):(p.map (eV ei (ZAk s.length M))).map (psi tg num s)=p.map (psi tg num (atG s M)):=by
 obtain ⟨_,f1,f3⟩:=H.face (H.at_face hs h0 hM)
 rw [ZEO] at f1 f3
 rw [List.map_map]
 refine List.map_congr_left fun v hv=>?_
 have hq:=(H.pat.q f1 f3 (List.mem_filter.1 hp).1).2.2 v hv
 simp only [Function.comp_apply]
 unfold psi eV
 simp only
 rw [at_at (H.sz s hs).2 hM (by rw [ZEO];exact hq.1.2),H.tgc s hs M hM v.1 hq.2.1]
theorem Sd.down {s:List α} (hs:s∈l) {q:List Pv} (hq:q∈Q s.length):∃ F∈FL,∃ p∈qF Q F.length,q.map (psi tg num s)=p.map (psi tg num F):=by
 obtain ⟨s1,s3⟩:=H.sz s hs
 have h0:=H.pat.pos s1 s3 hq
 have hM:=(H.pat.q s1 s3 hq).2.1
 obtain ⟨p,hp,e⟩:=H.pat.down s1 s3 hq
 refine ⟨_,H.at_face hs (by omega) hM,p,by rw [ZEO];exact hp,?_⟩
 rw [<- H.psi_in hs (by omega) hM hp,<- e]
theorem Sd.up {F:List α} (hF:F∈FL) {p:List Pv} (hp:p∈qF Q F.length):∃ s∈l,∃ q∈Q s.length,q.map (psi tg num s)=p.map (psi tg num F):=by
 obtain ⟨s,hs,h1,h2⟩:=(H.fl F).1 hF
 obtain ⟨s1,s3⟩:=H.sz s hs
 obtain ⟨M,hM,rfl⟩:=ZR2 s.length s F rfl h2
 have h0:M≠0:=fun e=>h1 (by
  rw [e]
  unfold atG
  rw [List.filter_eq_nil_iff.2 fun p _=>by simp];rfl)
 rw [ZEO] at hp
 refine ⟨s,hs,_,(H.pat.up s1 s3 hM h0 hp).1,H.psi_in hs h0 hM hp⟩
theorem Sd.psi_inj {F:List α} (hF:F∈FL) {v w:Pv} (hv:(0<v.2/\v.2<2 ^ F.length)/\v.1<F.length) (hw:(0<w.2/\w.2<2 ^ F.length)/\w.1<F.length) (h:psi tg num F v=psi tg num F w):v=w:=by
 obtain ⟨f0,f1,f3⟩:=H.face hF
 obtain ⟨s,hs,h1,h2⟩:=(H.fl F).1 hF
 have key:∀ M,0<M->M<2 ^ F.length->atG F M∈FL:=fun M m1 m2=>(H.fl _).2 ⟨s,hs,fun e=>by
  have h8:=pow3 f3
  have:=ZHp ⟨F.length,by omega⟩ ⟨M,by omega⟩ (by simp;omega) m2
  simp only at this
  rw [<- ZEO,e] at this
  exact Nat.lt_irrefl 0 this,(at_sub F M).trans h2⟩
 unfold psi at h
 obtain ⟨a1,a2⟩:=Prod.mk.inj h
 have b1:=H.tgi F hF _ _ hv.2 hw.2 a1
 have b2:=ZUZ f0 f3 hv.1.2 hw.1.2 (H.inj _ (key _ hv.1.1 hv.1.2) _ (key _ hw.1.1 hw.1.2) a2)
 exact Prod.ext b1 b2
def ZUY (Q:Nat->List (List Pv)) (tg:List α->Nat->Int) (num:List α->Int) (FL:List (List α)):List (List (Int × Int)):=FL.flatMap fun F=>(qF Q F.length).map fun p=>p.map (psi tg num F)
theorem Sd.all_mem (t:List (Int × Int)):t∈ZUY Q tg num FL↔∃ s∈l,∃ q∈Q s.length,t=q.map (psi tg num s):=by
 unfold ZUY
 rw [List.mem_flatMap]
 constructor
 ·rintro ⟨F,hF,h⟩
  obtain ⟨p,hp,rfl⟩:=List.mem_map.1 h
  obtain ⟨s,hs,q,hq,e⟩:=H.up hF hp
  exact ⟨s,hs,q,hq,e.symm⟩
 ·rintro ⟨s,hs,q,hq,rfl⟩
  obtain ⟨F,hF,p,hp,e⟩:=H.down hs hq
  exact ⟨F,hF,List.mem_map.2 ⟨p,hp,e.symm⟩⟩
theorem Sd.all_nodup (hn:FL.Nodup):(ZUY Q tg num FL).Nodup:=by
 have vx:∀ F∈FL,∀ p∈qF Q F.length,∀ v∈p,(0<v.2/\v.2<2 ^ F.length)/\v.1<F.length:=fun F hF p hp v hv=>by
  obtain ⟨f0,f1,f3⟩:=H.face hF
  have:=(H.pat.q f1 f3 (List.mem_filter.1 hp).1).2.2 v hv
  exact ⟨this.1,this.2.1⟩
 unfold ZUY
 refine List.pairwise_flatMap.2 ⟨fun F hF=>?_,?_⟩
 ·obtain ⟨f0,f1,f3⟩:=H.face hF
  refine List.pairwise_map.2 (List.Pairwise.imp_of_mem ?_ ((H.pat.parts f1 f3).1.2.filter _))
  intro p p' hp hp' hne e
  exact hne (ZFD (P:=fun v:Pv=>(0<v.2/\v.2<2 ^ F.length)/\v.1<F.length) (fun a b ha hb e=>H.psi_inj hF ha hb e) (fun v hv=>vx F hF p hp v hv) (fun v hv=>vx F hF p' hp' v hv) e)
 ·refine List.Pairwise.imp_of_mem ?_ hn
  intro F G hF hG hne t ht t' ht' e
  subst e
  obtain ⟨p,hp,e1⟩:=List.mem_map.1 ht
  obtain ⟨p',hp',e2⟩:=List.mem_map.1 ht'
  have half:∀ {F G:List α},F∈FL->G∈FL->∀ {p p':List Pv},p∈qF Q F.length->p'∈qF Q G.length->p.map (psi tg num F)=p'.map (psi tg num G)->F.Sublist G:=fun {F G} hF hG {p p'} hp hp' e=>by
   obtain ⟨f0,f1,f3⟩:=H.face hF
   obtain ⟨a1,_,_⟩:=H.pat.q f1 f3 (List.mem_filter.1 hp).1
   rw [of_decide_eq_true (List.mem_filter.1 hp).2] at a1
   obtain ⟨v,hv,hve⟩:=List.mem_map.1 a1
   have hm:psi tg num F v∈p'.map (psi tg num G):=by rw [<- e];exact List.mem_map_of_mem hv
   obtain ⟨w,hw,hwe⟩:=List.mem_map.1 hm
   unfold psi at hwe
   have h2:=(Prod.mk.inj hwe).2
   rw [hve,ZTH f3] at h2
   have hwv:=vx G hG p' hp' w hw
   obtain ⟨s,hs,h1,h2'⟩:=(H.fl G).1 hG
   obtain ⟨g0,g1,g3⟩:=H.face hG
   have hin:atG G w.2∈FL:=(H.fl _).2 ⟨s,hs,fun e=>by
    have h8:=pow3 g3
    have:=ZHp ⟨G.length,by omega⟩ ⟨w.2,by omega⟩ (by simp;omega) hwv.1.2
    simp only at this
    rw [<- ZEO,e] at this
    exact Nat.lt_irrefl 0 this,(at_sub G w.2).trans h2'⟩
   rw [<- H.inj _ hin _ hF h2]
   exact at_sub G w.2
  have h1:=half hF hG hp hp' (e1.trans e2.symm)
  have h2:=half hG hF hp' hp (e2.trans e1.symm)
  exact hne (h1.eq_of_length (Nat.le_antisymm h1.length_le h2.length_le))
omit H in
theorem ZMS {β:Type} (f:β->Int) {l m:List β} (h:l.Perm m):(l.map f).sum=(m.map f).sum:=by
 induction h with
 | nil=>rfl
 | cons a _ ih=>rw [List.map_cons,List.map_cons,List.sum_cons,List.sum_cons,ih]
 | swap a b l=>simp only [List.map_cons,List.sum_cons];omega
 | trans _ _ i1 i2=>exact i1.trans i2
theorem Sd.sum {AL:List (List (Int × Int))} (hA:AL.Nodup) (hm:∀ t,t∈AL↔∃ s∈l,∃ q∈Q s.length,t=q.map (psi tg num s)) (hn:FL.Nodup):(AL.map fun t=>sgZ t.length).sum=(FL.map fun F=>sgZ F.length).sum:=by
 have hp:AL.Perm (ZUY Q tg num FL):=(List.perm_ext_iff_of_nodup hA (H.all_nodup hn)).2 fun t=>by rw [hm t,H.all_mem t]
 rw [ZMS _ hp]
 have key:∀ L:List (List α),(∀ F∈L,F∈FL)->((L.flatMap fun F=>(qF Q F.length).map fun p=>p.map (psi tg num F)).map fun t=>sgZ t.length).sum=(L.map fun F=>sgZ F.length).sum:=fun L=>by
  induction L with
  | nil=>intro _;rfl
  | cons F L ih =>
   intro hL
   obtain ⟨_,f1,f3⟩:=H.face (hL F (by simp))
   have h2:=(H.pat.parts f1 f3).2.1
   rw [List.flatMap_cons,List.map_append,List.sum_append,List.map_cons,List.sum_cons,ih fun G hG=>hL G (by simp [hG]),List.map_map]
   congr 1
   rw [<- h2]
   congr 1
   exact List.map_congr_left fun p _=>by simp
 exact key FL fun F h=>h
end
end
section
def ZUR {β:Type}:List β->List (List β)
 | []=>[[]]
 | a::l=>(ZUR l).map (a :: ·)++ZUR l
theorem ZEt {β:Type}:∀ {l x:List β},x∈ZUR l↔x.Sublist l
 | [],x=>by simp [ZUR]
 | a::l,x=>by
  unfold ZUR
  rw [List.mem_append,List.mem_map,ZEt,List.sublist_cons_iff]
  constructor
  ·rintro (⟨r,hr,rfl⟩|h)
   ·exact .inr ⟨r,rfl,ZEt.1 hr⟩
   ·exact .inl h
  ·rintro (h|⟨r,rfl,hr⟩)
   ·exact .inr h
   ·exact .inl ⟨r,ZEt.2 hr,rfl⟩
def once {β:Type} [DecidableEq β] (l:List β):List β:=l.foldr (fun a o=>if a∈o then o else a::o) []
theorem once_mem {β:Type} [DecidableEq β] {l:List β} {x:β}:x∈once l↔x∈l:=by
 induction l with
 | nil=>exact Iff.rfl
 | cons a l ih =>
  have e:once (a::l)=if a∈once l then once l else a::once l:=rfl
  rw [e,List.mem_cons,<- ih]
  by_cases h:a∈once l
  ·rw [if_pos h]
   exact ⟨.inr,fun q=>q.elim (fun e=>e ▸ h) id⟩
  ·rw [if_neg h,List.mem_cons]
def mkQ (T:Nat->List (List Pv)) (n:Nat):List (List Pv):=once (((T n).flatMap ZUR).filter fun q=>decide (q≠[]))
theorem ZFF {T:Nat->List (List Pv)} {n:Nat} {q:List Pv}:q∈mkQ T n↔q≠[]/\∃ t∈T n,q.Sublist t:=by
 unfold mkQ
 rw [once_mem,List.mem_filter,List.mem_flatMap,decide_eq_true_eq,and_comm]
 refine and_congr_right fun _=>⟨fun ⟨t,h1,h2⟩=>⟨t,h1,ZEt.1 h2⟩,fun ⟨t,h1,h2⟩=>⟨t,h1,ZEt.2 h2⟩⟩
def subQ (s:Nat):List Nat:=((List.range s).map (· + 1)).filter fun b=>decide (b &&& s=b)
def ordQ:Nat->Nat->List (List Nat)
 | 0,_=>[[]]
 | k+1,s=>if s=0 then [[]] else (subQ s).flatMap fun b=>(ordQ k (s-b)).map (b :: ·)
def snapQ:List Nat->Nat->Nat->Nat
 | [],_,m=>m
 | b::l,i,m=>if (b >>> i) &&& 1=1 then m ||| b else snapQ l i (m ||| b)
def orQ (bl:List Nat) (k:Nat):Nat:=(bl.take k).foldl (· ||| ·) 0
def Tc (n:Nat):List (List Pv):=(ordQ 6 (2 ^ n-1)).map fun bl=>(List.range n).map fun i=>(i,snapQ bl i 0)
def Tb (n:Nat):List (List Pv):=((ordQ 6 (2 ^ n-1)).filter fun bl=>decide (bl.length=n)).map fun bl=>(List.range n).map fun k=>(k,orQ bl (k+1))
def eic (b:List Nat) (i:Nat):Nat:=b.getD i 0
def eib (_:List Nat) (i:Nat):Nat:=i
theorem patC:PatQ (mkQ Tc) eic:=⟨fun m h1 h3=>by
 have key:∀ m:Fin 4,1≤m.val->chkQ (mkQ Tc) eic m.val=true:=by decide +kernel
 exact key ⟨m,by omega⟩ h1⟩
theorem patB:PatQ (mkQ Tb) eib:=⟨fun m h1 h3=>by
 have key:∀ m:Fin 4,1≤m.val->chkQ (mkQ Tb) eib m.val=true:=by decide +kernel
 exact key ⟨m,by omega⟩ h1⟩
def ZJc (T:List (List Pv)):Nat->List (List Pv)
 | 0=>T.take 1
 | k+1=>T.filter fun t=>decide (t∈ZJc T k) || t.any fun v=>(ZJc T k).any fun s=>decide (v∈s)
def ZUO (T:Nat->List (List Pv)) (n:Nat):Bool:=decide (0<(T n).length) && (T n).all fun t=>decide (t.length=n) && decide (un t=2 ^ n-1) && decide (t∈ZJc (T n) 6)
theorem chkT_c:∀ m:Fin 4,1≤m.val->ZUO Tc m.val=true:=by decide +kernel
theorem chkT_b:∀ m:Fin 4,1≤m.val->ZUO Tb m.val=true:=by decide +kernel
def chkW (T:Nat->List (List Pv)) (ei:List Nat->Nat->Nat) (n:Nat):Bool:=(List.range n).all fun i=>decide (ZAk n (2 ^ i)=[i]) && (T n).any fun t=>decide ((ei [i] 0,2 ^ i)∈t)
theorem chkW_c:∀ m:Fin 4,chkW Tc eic m.val=true:=by decide +kernel
theorem chkW_b:∀ m:Fin 4,chkW Tb eib m.val=true:=by decide +kernel
end
end Go.Proofs.YtekiljakcngcoaaGreatDoor.S50
