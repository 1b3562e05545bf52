/- Part 28: walks by contracts, and plain laws. -/
import Derived.Test.YtofkoleingbbpaaGreatDoorXa27
set_option linter.unusedVariables false
set_option linter.unusedSimpArgs false
set_option linter.unusedSectionVars false
set_option maxRecDepth 100000
set_option maxHeartbeats 64000000
namespace Go.Proofs.YtofkoleingbbpaaGreatDoor.L05
section
abbrev Ln:=List Int × List Int
def ZGj (x l:Ln):Ln:=(plus x.1 l.1,plus x.2 l.2)
def ZB1 (m:List (Int × Ln)) (c:Int):Option Ln:=(m.find? fun p=>decide (p.1=c)).map (·.2)
def ZHL (m:List (Int × Ln)):Nat->Nat->Ln->Ln
 | 0,_,x=>x
 | f+1,i,x=>match x.1[i]? with
  | none=>x
  | some c=>match ZB1 m c with
   | none=>ZHL m f (i+1) x
   | some l=>ZHL m f i (ZGj x l)
def ZJU (m:List (Int × Ln)) (y:Ln) (c:Int):List (Int × Ln):=m.map fun p=>if c∈p.2.1 then(p.1,ZGj p.2 y) else p
def ZJI (C:Nat) (s:List (Int × Ln) × List (List Int)) (p:List Int × Nat):List (Int × Ln) × List (List Int) :=
 let y:=ZHL s.1 (C+1) 0 (p.1,[(p.2:Int)])
 match y.1 with
 | []=>(s.1,s.2++[y.2])
 | c::_=>(ZJU s.1 y c++[(c,y)],s.2)
def echP (rows:List (List Int)) (C:Nat):List (Int × Ln) × List (List Int):=rows.zipIdx.foldl (ZJI C) ([],[])
def solP (rows:List (List Int)) (b:List Int) (C:Nat):Option (List Int) :=
 if(echP rows C).2.any (fun y=>ZBw y b)=true then none else
  some ((List.range C).filterMap fun c:Nat=>match ZB1 (echP rows C).1 (c:Int) with
   | none=>none
   | some l=>if ZBw l.2 b=true then some (c:Int) else none)
def ZAg (rows:List (List Int)) (b:List Int) (C:Nat):List (List Int):=rows.zipIdx.map fun p=>wd (C:Int) p.1 (decide ((p.2:Int)∈b))
def solR (rows:List (List Int)) (b:List Int) (C:Nat):Option (List Int) :=
 if(echR (ZAg rows b C) (C+1)).any (fun r=>decide (hdI r=(C:Int)))=true then none else
  some (((echR (ZAg rows b C) (C+1)).filter fun r=>decide ((C:Int)∈r)).map hdI)
abbrev Pos (a:List Int):Prop:=∀x∈a,0≤x
theorem ZE9 {a b:List Int} (ha:Asc a) (hb:Asc b) (h1:Pos a) (h2:Pos b):Pos (plus a b):=fun x hx=>(ZFl ha hb hx).elim (h1 x) (h2 x)
theorem ZMi {c:Int}:∀ {t u v:List Int},Asc (t++c::u)->plus (t++c::u) (c::v)=t++plus u v
 | [],u,v,_=>by
  rw[List.nil_append,plus,if_neg (by omega),if_neg (by omega)];rfl
 | y::t,u,v,h=>by
  have h1:=(List.pairwise_cons.1 h).1 c (by simp);rw[List.cons_append,plus,if_pos h1,ZMi (List.pairwise_cons.1 h).2];rfl
structure Good05 (C:Nat) (m:List (Int × Ln)):Prop where
 nd:(m.map (·.1)).Nodup
 hd:∀p∈m,p.2.1.head?=some p.1
 asc:∀p∈m,Asc p.2.1
 low:∀p∈m,Low (C:Int) p.2.1
 pos:∀p∈m,Pos p.2.1
 one:∀p∈m,∀q∈m,p.1∈q.2.1->q=p
 frm:∀p∈m,Asc p.2.2/\Pos p.2.2
theorem lookP_some {m:List (Int × Ln)} {c:Int} {l:Ln} (h:ZB1 m c=some l):(c,l)∈m:=by
 unfold ZB1 at h;obtain⟨p,h1,h2⟩:=Option.map_eq_some_iff.1 h;have e:p.1=c:=of_decide_eq_true (by simpa using List.find?_some h1);have:=List.mem_of_find?_eq_some h1;rw[<- e,<- h2];exact this
theorem lookP_none {m:List (Int × Ln)} {c:Int} (h:ZB1 m c=none):∀p∈m,p.1≠c:=fun p hp e=>by
 unfold ZB1 at h;have:=List.find?_eq_none.1 (Option.map_eq_none_iff.1 h) p hp;exact this (decide_eq_true e)
theorem ZKP {m:List (Int × Ln)} (hn:(m.map (·.1)).Nodup) {p:Int × Ln} (hp:p∈m):ZB1 m p.1=some p.2:=by
 induction m with
 | nil=>cases hp
 | cons q m ih =>
  rw[List.map_cons,List.nodup_cons] at hn;unfold ZB1;rw[List.find?_cons];rcases List.mem_cons.1 hp with rfl|hp
  ·rw[decide_eq_true rfl];rfl
  ·have:q.1≠p.1:=fun e=>hn.1 (by rw[e];exact List.mem_map_of_mem hp);rw[decide_eq_false this];exact ih hn.2 hp
def wdL (b:List Int) (C:Nat) (x:Ln):List Int:=wd (C:Int) x.1 (ZBw x.2 b)
theorem ZLv {b:List Int} {C:Nat} {x l:Ln} (h1:Asc x.1) (h2:Asc l.1) (h3:Low (C:Int) x.1) (h4:Low (C:Int) l.1):wdL b C (ZGj x l)=plus (wdL b C x) (wdL b C l):=by
 unfold wdL ZGj;rw[ZMb,ZUa h1 h2 h3 h4]
structure RedAt (b:List Int) (C:Nat) (m:List (Int × Ln)) (x0:Ln) (f i:Nat) (x:Ln):Prop where
 asc0:Asc (wdL b C x0)
 asc:Asc x.1
 low:Low (C:Int) x.1
 pos:Pos x.1
 frm:Asc x.2/\Pos x.2
 le:i≤x.1.length
 fuel:∀c,x.1[i]?=some c->(C:Int)<c+f
 no:∀j,j<i->∀c,x.1[j]?=some c->ZB1 m c=none
 spn:∃v,Span (m.map fun p=>wdL b C p.2) v/\wdL b C x=plus (wdL b C x0) v
theorem RedAt.start {b:List Int} {C:Nat} {m:List (Int × Ln)} {x:Ln} (h1:Asc x.1) (h2:Low (C:Int) x.1) (h3:Pos x.1) (h4:Asc x.2/\Pos x.2):RedAt b C m x (C+1) 0 x :=
 ⟨ZBE h1 h2,h1,h2,h3,h4,Nat.zero_le _,fun c hc=>by have:=h3 c (List.mem_of_getElem? hc);omega,fun j hj=>absurd hj (Nat.not_lt_zero j),[],Span.zero,(plus_nil _).symm⟩
theorem RedAt.skip {b:List Int} {C:Nat} {m:List (Int × Ln)} {x0 x:Ln} {f i:Nat} (h:RedAt b C m x0 (f+1) i x) {c:Int} (hc:x.1[i]?=some c) (hl:ZB1 m c=none):RedAt b C m x0 f (i+1) x :=
 ⟨h.asc0,h.asc,h.low,h.pos,h.frm,(List.getElem?_eq_some_iff.1 hc).1,fun d hd=>by
  have h1:=h.fuel c hc;obtain⟨q1,q2⟩:=List.getElem?_eq_some_iff.1 hc;obtain⟨q3,q4⟩:=List.getElem?_eq_some_iff.1 hd;have:=List.pairwise_iff_getElem.1 h.asc i (i+1) q1 q3 (by omega);omega,fun j hj d hd=>by
  by_cases e:j=i
  ·subst e;rw[hc] at hd;cases hd;exact hl
  ·exact h.no j (by omega) d hd,h.spn⟩
theorem RedAt.add {b:List Int} {C:Nat} {m:List (Int × Ln)} (G:Good05 C m) {x0 x:Ln} {f i:Nat} (h:RedAt b C m x0 (f+1) i x) {c:Int} (hc:x.1[i]?=some c) {l:Ln} (hl:ZB1 m c=some l):RedAt b C m x0 f i (ZGj x l):=by
 have hm:=lookP_some hl;have hla:=G.asc _ hm;have hll:=G.low _ hm;obtain⟨hlf1,hlf2⟩:=G.frm _ hm;have hlh:=G.hd _ hm;simp only at hla hll hlf1 hlf2 hlh;obtain⟨q1,q2⟩:=List.getElem?_eq_some_iff.1 hc;obtain⟨v,hv⟩:∃v,l.1=c::v:=by
  cases e:l.1 with
  | nil=>rw[e] at hlh;cases hlh
  | cons y v=>rw[e] at hlh;simp only[List.head?_cons,Option.some.injEq] at hlh;exact⟨v,by rw[hlh]⟩
 have hx:x.1=x.1.take i++c::x.1.drop (i+1):=by
  rw[<- q2,<- List.drop_eq_getElem_cons q1,List.take_append_drop]
 have e1:(ZGj x l).1=x.1.take i++plus (x.1.drop (i+1)) v:=by
  unfold ZGj;simp only;rw[hv]
  conv=>lhs;rw[hx]
  exact ZMi (hx ▸ h.asc)
 have htl:(x.1.take i).length=i:=by rw[List.length_take];omega
 have hdr:∀d∈plus (x.1.drop (i+1)) v,c<d:=by
  have ha:=h.asc;rw[hx] at ha;have ha2:=(List.pairwise_append.1 ha).2.1;refine ZI4 (List.pairwise_cons.1 ha2).1 ?_;rw[hv] at hla;exact(List.pairwise_cons.1 hla).1
 obtain⟨v',s1,s2⟩:=h.spn;have hB:AllAsc (m.map fun p=>wdL b C p.2):=fun r hr=>by
  obtain⟨p,hp,rfl⟩:=List.mem_map.1 hr;exact ZBE (G.asc p hp) (G.low p hp)
 refine⟨h.asc0,ZAS h.asc hla,plus_low h.asc hla h.low hll,ZE9 h.asc hla h.pos (G.pos _ hm),⟨ZAS h.frm.1 hlf1,ZE9 h.frm.1 hlf1 h.frm.2 hlf2⟩,by rw[e1,List.length_append,htl];omega,fun d hd=>?_,fun j hj d hd=>?_,?_⟩
 ·have h1:=h.fuel c hc;rw[e1,List.getElem?_append_right (by omega),htl,Nat.sub_self] at hd;have:=hdr d (List.mem_of_getElem? hd);omega
 ·rw[e1,List.getElem?_append_left (by omega)] at hd;refine h.no j hj d ?_;rw[hx,List.getElem?_append_left (by omega)];exact hd
 ·have hsl:Span (m.map fun p=>wdL b C p.2) (wdL b C l):=Span.one (List.mem_map.2 ⟨_,hm,rfl⟩);have hx0:wdL b C x=plus (wdL b C x0) v':=s2;refine⟨plus (wdL b C l) v',Span.plus hB hsl s1,?_⟩;have w1:Asc (wdL b C x):=ZBE h.asc h.low;have w2:Asc (wdL b C l):=ZBE hla hll;have w4:Asc v':=s1.asc hB;rw[ZLv h.asc hla h.low hll];rw[hx0,ZDC h.asc0 w4 w2,ZP2 w4 w2]
structure RedOut (b:List Int) (C:Nat) (m:List (Int × Ln)) (x0 y:Ln):Prop where
 asc:Asc y.1
 low:Low (C:Int) y.1
 pos:Pos y.1
 frm:Asc y.2/\Pos y.2
 no:∀c∈y.1,ZB1 m c=none
 spn:∃v,Span (m.map fun p=>wdL b C p.2) v/\wdL b C y=plus (wdL b C x0) v
theorem RedAt.out {b:List Int} {C:Nat} {m:List (Int × Ln)} {x0 x:Ln} {f i:Nat} (h:RedAt b C m x0 f i x) (he:x.1[i]?=none):RedOut b C m x0 x :=
 ⟨h.asc,h.low,h.pos,h.frm,fun c hc=>by
  obtain⟨j,hj⟩:=List.mem_iff_getElem?.1 hc;obtain⟨j1,_⟩:=List.getElem?_eq_some_iff.1 hj;have:=List.getElem?_eq_none_iff.1 he;exact h.no j (by omega) c hj,h.spn⟩
theorem redP_out {b:List Int} {C:Nat} {m:List (Int × Ln)} (G:Good05 C m) {x0:Ln}:∀(f i:Nat) (x:Ln),RedAt b C m x0 f i x->RedOut b C m x0 (ZHL m f i x)
 | 0,i,x,h=>h.out (by
   cases e:x.1[i]? with
   | none=>rfl
   | some c =>
    have h1:=h.fuel c e;have:=h.low c (List.mem_of_getElem? e);omega)
 | f+1,i,x,h=>by
  unfold ZHL;cases e:x.1[i]? with
  | none=>exact h.out e
  | some c =>
   simp only;cases hl:ZB1 m c with
   | none=>exact redP_out G f (i+1) x (h.skip e hl)
   | some l=>exact redP_out G f i (ZGj x l) (h.add G e hl)
structure PInv (b:List Int) (C:Nat) (rows:List (List Int)) (i:Nat) (s:List (Int × Ln) × List (List Int)):Prop where
 good:Good05 C s.1
 dep:∀y∈s.2,Asc y/\Pos y
 sp1:∀p∈s.1,Span ((ZAg rows b C).take i) (wdL b C p.2)
 sp2:∀y∈s.2,Span ((ZAg rows b C).take i) (wd (C:Int) [] (ZBw y b))
 sp3:∀r∈(ZAg rows b C).take i,Span ((s.1.map fun p=>wdL b C p.2)++s.2.map fun y=>wd (C:Int) [] (ZBw y b)) r
theorem ZLr {m:List (Int × Ln)} {y:Ln} {c:Int} {p:Int × Ln} (h:p∈ZJU m y c):∃q∈m,p=if c∈q.2.1 then(q.1,ZGj q.2 y) else q:=by
 unfold ZJU at h;obtain⟨q,hq,e⟩:=List.mem_map.1 h;exact⟨q,hq,e.symm⟩
theorem ZSa (m:List (Int × Ln)) (y:Ln) (c:Int):(ZJU m y c).map (·.1)=m.map (·.1):=by
 unfold ZJU;rw[List.map_map];refine List.map_congr_left fun p _=>?_;simp only[Function.comp_apply];split <;> rfl
theorem Good05.put {C:Nat} {m:List (Int × Ln)} (G:Good05 C m) {y:Ln} {c:Int} (hy1:Asc y.1) (hy2:Low (C:Int) y.1) (hy3:Pos y.1) (hy4:Asc y.2/\Pos y.2) (hno:∀d∈y.1,ZB1 m d=none) (hc:y.1.head?=some c):Good05 C (ZJU m y c++[(c,y)]):=by
 have hcy:=head_mem hc;have hnk:∀p∈m,p.1∉y.1:=fun p hp q=>by
  have:=hno p.1 q;rw[ZKP G.nd hp] at this;cases this
 have hcm:∀p∈m,p.1≠c:=fun p hp e=>hnk p hp (e ▸ hcy)
 -- what a line becomes
 have key:∀q∈m,∃r:Ln,(if c∈q.2.1 then(q.1,ZGj q.2 y) else q)=(q.1,r)/\Asc r.1/\Low (C:Int) r.1/\Pos r.1/\(Asc r.2/\Pos r.2)/\r.1.head?=some q.1/\c∉r.1/\(∀p∈m,p.1∈r.1->p.1∈q.2.1):=fun q hq=>by
  have ha:=G.asc q hq;by_cases hcq:c∈q.2.1
  ·rw[if_pos hcq];refine⟨ZGj q.2 y,rfl,ZAS ha hy1,plus_low ha hy1 (G.low q hq) hy2,ZE9 ha hy1 (G.pos q hq) hy3,⟨ZAS (G.frm q hq).1 hy4.1,ZE9 (G.frm q hq).1 hy4.1 (G.frm q hq).2 hy4.2⟩,?_,?_,?_⟩
   ·have hh:=G.hd q hq;have hle:=ZFd ha hh c hcq;refine ZIk (ZAS ha hy1) ((ZAa ha hy1).2 fun k=>hnk q hq (k.1 (head_mem hh))) fun x hx=>?_;rcases ZFl ha hy1 hx with k|k
    ·exact ZFd ha hh x k
    ·have:=ZFd hy1 hc x k;omega
   ·show c∉plus q.2.1 y.1;rw[ZAa ha hy1];exact fun k=>k ⟨fun _=>hcy,fun _=>hcq⟩
   ·intro p hp k;exact(ZFl ha hy1 k).resolve_right (hnk p hp)
  ·rw[if_neg hcq];exact⟨q.2,rfl,ha,G.low q hq,G.pos q hq,G.frm q hq,G.hd q hq,hcq,fun p hp k=>k⟩
 have hall:∀p∈ZJU m y c++[(c,y)],(∃q∈m,∃r:Ln,p=(q.1,r)/\Asc r.1/\Low (C:Int) r.1/\Pos r.1/\(Asc r.2/\Pos r.2)/\r.1.head?=some q.1/\c∉r.1/\(∀p∈m,p.1∈r.1->p.1∈q.2.1)/\p=(if c∈q.2.1 then(q.1,ZGj q.2 y) else q))\/p=(c,y):=fun p hp=>by
  rcases List.mem_append.1 hp with hp|hp
  ·obtain⟨q,hq,e⟩:=ZLr hp;obtain⟨r,r0,r1,r2,r3,r4,r5,r6,r7⟩:=key q hq;exact .inl ⟨q,hq,r,by rw[e,r0],r1,r2,r3,r4,r5,r6,r7,e⟩
  ·exact .inr (List.mem_singleton.1 hp)
 refine⟨?_,fun p hp=>?_,fun p hp=>?_,fun p hp=>?_,fun p hp=>?_,fun p hp q hq hpq=>?_,fun p hp=>?_⟩
 ·rw[List.map_append,ZSa];refine List.nodup_append.2 ⟨G.nd,by simp,fun a ha b hb e=>?_⟩;simp only[List.map_cons,List.map_nil,List.mem_singleton] at hb;obtain⟨p,hp,rfl⟩:=List.mem_map.1 ha;exact hcm p hp (by rw[e,hb])
 ·rcases hall p hp with ⟨q,hq,r,rfl,r1,r2,r3,r4,r5,r6,r7,_⟩|rfl
  ·exact r5
  ·exact hc
 ·rcases hall p hp with ⟨q,hq,r,rfl,r1,r2,r3,r4,r5,r6,r7,_⟩|rfl
  ·exact r1
  ·exact hy1
 ·rcases hall p hp with ⟨q,hq,r,rfl,r1,r2,r3,r4,r5,r6,r7,_⟩|rfl
  ·exact r2
  ·exact hy2
 ·rcases hall p hp with ⟨q,hq,r,rfl,r1,r2,r3,r4,r5,r6,r7,_⟩|rfl
  ·exact r3
  ·exact hy3
 ·rcases hall p hp with ⟨q1,hq1,r,e1,r1,r2,r3,r4,r5,r6,r7,d1⟩|e1
  ·rcases hall q hq with ⟨q2,hq2,t,e2,t1,t2,t3,t4,t5,t6,t7,d2⟩|e2
   ·have h1:p.1=q1.1:=by rw[e1]
    have h2:q.2=t:=by rw[e2]
    rw[h1,h2] at hpq;have:=G.one q1 hq1 q2 hq2 (t7 q1 hq1 hpq);rw[d1,d2,this]
   ·exfalso;have h1:p.1=q1.1:=by rw[e1]
    have h2:q.2=y:=by rw[e2]
    rw[h1,h2] at hpq;exact hnk q1 hq1 hpq
  ·rcases hall q hq with ⟨q2,hq2,t,e2,t1,t2,t3,t4,t5,t6,t7,d2⟩|e2
   ·exfalso;have h1:p.1=c:=by rw[e1]
    have h2:q.2=t:=by rw[e2]
    rw[h1,h2] at hpq;exact t6 hpq
   ·rw[e1,e2]
 ·rcases hall p hp with ⟨q,hq,r,rfl,r1,r2,r3,r4,r5,r6,r7,_⟩|rfl
  ·exact r4
  ·exact hy4
theorem ZJO {rows:List (List Int)} {b:List Int} {C i:Nat} (h:i<rows.length):(ZAg rows b C)[i]?=some (wd (C:Int) rows[i] (decide ((i:Int)∈b))):=by
 unfold ZAg;rw[List.getElem?_map,List.getElem?_zipIdx,List.getElem?_eq_getElem h];simp
theorem wide_len (rows:List (List Int)) (b:List Int) (C:Nat):(ZAg rows b C).length=rows.length:=by simp[ZAg]
theorem ZT5 (i:Int) (b:List Int):ZBw [i] b=decide (i∈b):=by
 unfold ZBw;by_cases h:i∈b <;> simp[h]
theorem PInv.start (b:List Int) (C:Nat) (rows:List (List Int)):PInv b C rows 0 ([],[]) :=
 ⟨⟨List.nodup_nil,(fun p hp=>by cases hp),(fun p hp=>by cases hp),(fun p hp=>by cases hp),(fun p hp=>by cases hp),(fun p hp=>by cases hp),(fun p hp=>by cases hp)⟩,(fun p hp=>by cases hp),(fun p hp=>by cases hp),(fun p hp=>by cases hp),(fun r hr=>by simp at hr)⟩
theorem ZFI {W:List (List Int)} {i:Nat} {r:List Int} (h:r∈W.take i):r∈W.take (i+1):=by
 rw[List.take_add_one];exact List.mem_append_left _ h
theorem PInv.step {b:List Int} {C:Nat} {rows:List (List Int)} (h1:AllAsc rows) (h2:∀r∈rows,Low (C:Int) r) (h3:∀r∈rows,Pos r) {i:Nat} (hi:i<rows.length) {s:List (Int × Ln) × List (List Int)} (h:PInv b C rows i s):PInv b C rows (i+1) (ZJI C s (rows[i],i)):=by
 obtain⟨m,deps⟩:=s;have hr:=List.getElem_mem hi;have hwA:AllAsc ((ZAg rows b C).take (i+1)):=fun r hr=>by
  have:=List.mem_of_mem_take hr;unfold ZAg at this;obtain⟨p,hp,rfl⟩:=List.mem_map.1 this;have hp1:p.1∈rows:=by
   have:=List.mem_zipIdx hp;rw[this.2.2];exact List.getElem_mem _
  exact ZBE (h1 _ hp1) (h2 _ hp1)
 have hO:=redP_out h.good (C+1) 0 (rows[i],[(i:Int)]) (RedAt.start (b:=b) (C:=C) (m:=m) (x:=(rows[i],[(i:Int)])) (h1 _ hr) (h2 _ hr) (h3 _ hr) ⟨List.pairwise_singleton _ _,fun x hx=>by rw[List.mem_singleton.1 hx];omega⟩);have hwx:wdL b C (rows[i],[(i:Int)])=wd (C:Int) rows[i] (decide ((i:Int)∈b)):=by unfold wdL;rw[ZT5]
 have hwi:wdL b C (rows[i],[(i:Int)])∈(ZAg rows b C).take (i+1):=by
  rw[hwx];refine List.mem_iff_getElem?.2 ⟨i,?_⟩;rw[List.getElem?_take,if_pos (by omega)];exact ZJO hi
 unfold ZJI;simp only;generalize ZHL m (C+1) 0 (rows[i],[(i:Int)])=y at hO;obtain⟨v,v1,v2⟩:=hO.spn;have hLA:AllAsc (m.map fun p=>wdL b C p.2):=fun r hr=>by
  obtain⟨p,hp,rfl⟩:=List.mem_map.1 hr;exact ZBE (h.good.asc p hp) (h.good.low p hp)
 have hva:=v1.asc hLA;have hxa:Asc (wdL b C (rows[i],[(i:Int)])):=ZBE (h1 _ hr) (h2 _ hr);have hya:Asc (wdL b C y):=ZBE hO.asc hO.low;have hvW:Span ((ZAg rows b C).take (i+1)) v:=Span.trans hwA (fun r hr=>by
  obtain⟨p,hp,rfl⟩:=List.mem_map.1 hr;exact(h.sp1 p hp).trans hwA fun r hr=>Span.one (ZFI hr)) v1
 have hyW:Span ((ZAg rows b C).take (i+1)) (wdL b C y):=by rw[v2];exact Span.plus hwA (Span.one hwi) hvW
 have hback:wdL b C (rows[i],[(i:Int)])=plus (wdL b C y) v:=by rw[v2,ZDC hxa hva hva,ZHJ hva,plus_nil]
 have hlast:∀r∈(ZAg rows b C).take (i+1),r∈(ZAg rows b C).take i\/r=wdL b C (rows[i],[(i:Int)]):=fun r hr=>by
  rw[List.take_add_one,ZJO hi] at hr;rcases List.mem_append.1 hr with hr|hr
  ·exact .inl hr
  ·simp only[Option.toList_some,List.mem_singleton] at hr;exact .inr (by rw[hwx,hr])
 have hdA:∀(l:List (List Int)),AllAsc (l.map fun y=>wd (C:Int) [] (ZBw y b)):=fun l r hr=>by
  obtain⟨p,hp,rfl⟩:=List.mem_map.1 hr;exact ZBE List.Pairwise.nil (fun x hx=>by cases hx)
 cases hy:y.1 with
 | nil =>
  simp only;have hyw:wdL b C y=wd (C:Int) [] (ZBw y.2 b):=by unfold wdL;rw[hy]
  have hall:AllAsc ((m.map fun p=>wdL b C p.2)++(deps++[y.2]).map fun y=>wd (C:Int) [] (ZBw y b)):=fun r hr=>by
   rcases List.mem_append.1 hr with hr|hr
   ·exact hLA r hr
   ·exact hdA _ r hr
  refine⟨h.good,fun z hz=>?_,fun p hp=>(h.sp1 p hp).trans hwA fun r hr=>Span.one (ZFI hr),fun z hz=>?_,fun r hr=>?_⟩
  ·rcases List.mem_append.1 hz with hz|hz
   ·exact h.dep z hz
   ·rw[List.mem_singleton.1 hz];exact hO.frm
  ·rcases List.mem_append.1 hz with hz|hz
   ·exact(h.sp2 z hz).trans hwA fun r hr=>Span.one (ZFI hr)
   ·rw[List.mem_singleton.1 hz,<- hyw];exact hyW
  ·rcases hlast r hr with hr|rfl
   ·refine(h.sp3 r hr).trans hall fun r hr=>Span.one ?_;rcases List.mem_append.1 hr with hr|hr
    ·exact List.mem_append_left _ hr
    ·refine List.mem_append_right _ ?_;rw[List.map_append];exact List.mem_append_left _ hr
   ·rw[hback];refine Span.plus hall (Span.one (List.mem_append_right _ ?_)) (v1.trans hall fun r hr=>Span.one (List.mem_append_left _ hr));rw[hyw];simp
 | cons c t =>
  simp only;have hc:y.1.head?=some c:=by rw[hy];rfl
  have G:=h.good.put hO.asc hO.low hO.pos hO.frm hO.no hc;have hyl:wdL b C y∈(ZJU m y c++[(c,y)]).map fun p=>wdL b C p.2:=by rw[List.map_append];simp
  have hall:AllAsc (((ZJU m y c++[(c,y)]).map fun p=>wdL b C p.2)++deps.map fun y=>wd (C:Int) [] (ZBw y b)):=fun r hr=>by
   rcases List.mem_append.1 hr with hr|hr
   ·obtain⟨p,hp,rfl⟩:=List.mem_map.1 hr;exact ZBE (G.asc p hp) (G.low p hp)
   ·exact hdA _ r hr
  -- the old lines
  have hold:∀p∈m,Span (((ZJU m y c++[(c,y)]).map fun p=>wdL b C p.2)++deps.map fun y=>wd (C:Int) [] (ZBw y b)) (wdL b C p.2):=fun p hp=>by
   have hpa:Asc (wdL b C p.2):=ZBE (h.good.asc p hp) (h.good.low p hp);have hm:(if c∈p.2.1 then(p.1,ZGj p.2 y) else p)∈ZJU m y c:=List.mem_map.2 ⟨p,hp,rfl⟩;have hs:Span (((ZJU m y c++[(c,y)]).map fun p=>wdL b C p.2)++deps.map fun y=>wd (C:Int) [] (ZBw y b)) (wdL b C (if c∈p.2.1 then(p.1,ZGj p.2 y) else p).2):=Span.one (List.mem_append_left _ (List.mem_map.2 ⟨_,List.mem_append_left _ hm,rfl⟩));by_cases hcp:c∈p.2.1
   ·rw[if_pos hcp] at hs;have h5:=Span.plus hall hs (Span.one (List.mem_append_left _ hyl));simp only at h5;rw[ZLv (h.good.asc p hp) hO.asc (h.good.low p hp) hO.low,ZDC hpa hya hya,ZHJ hya,plus_nil] at h5;exact h5
   ·rw[if_neg hcp] at hs;exact hs
  refine⟨G,h.dep,fun p hp=>?_,fun z hz=>(h.sp2 z hz).trans hwA fun r hr=>Span.one (ZFI hr),fun r hr=>?_⟩
  ·simp only at hp;rcases List.mem_append.1 hp with hp|hp
   ·obtain⟨q,hq,e⟩:=ZLr hp;have hqW:Span ((ZAg rows b C).take (i+1)) (wdL b C q.2):=(h.sp1 q hq).trans hwA fun r hr=>Span.one (ZFI hr);rw[e];split
    ·simp only;rw[ZLv (h.good.asc q hq) hO.asc (h.good.low q hq) hO.low];exact Span.plus hwA hqW hyW
    ·exact hqW
   ·rw[List.mem_singleton.1 hp];exact hyW
  ·simp only;have hmB:∀r∈m.map (fun p=>wdL b C p.2),Span (((ZJU m y c++[(c,y)]).map fun p=>wdL b C p.2)++deps.map fun y=>wd (C:Int) [] (ZBw y b)) r:=fun r hr=>by
    obtain⟨p,hp,rfl⟩:=List.mem_map.1 hr;exact hold p hp
   rcases hlast r hr with hr|rfl
   ·refine(h.sp3 r hr).trans hall fun r hr=>?_;rcases List.mem_append.1 hr with hr|hr
    ·exact hmB r hr
    ·exact Span.one (List.mem_append_right _ hr)
   ·rw[hback];exact Span.plus hall (Span.one (List.mem_append_left _ hyl)) (v1.trans hall hmB)
def ZNy (rows:List (List Int)) (C i:Nat):List (Int × Ln) × List (List Int):=(rows.zipIdx.take i).foldl (ZJI C) ([],[])
theorem echN_succ {rows:List (List Int)} {C i:Nat} (h:i<rows.length):ZNy rows C (i+1)=ZJI C (ZNy rows C i) (rows[i],i):=by
 unfold ZNy;rw[List.take_add_one,List.foldl_append,List.getElem?_zipIdx,List.getElem?_eq_getElem h];simp
theorem echN_all (rows:List (List Int)) (C:Nat):ZNy rows C rows.length=echP rows C:=by
 unfold ZNy echP;rw[List.take_of_length_le (by simp)]
theorem PInv.all {b:List Int} {C:Nat} {rows:List (List Int)} (h1:AllAsc rows) (h2:∀r∈rows,Low (C:Int) r) (h3:∀r∈rows,Pos r):∀i,i≤rows.length->PInv b C rows i (ZNy rows C i)
 | 0,_=>PInv.start b C rows
 | i+1,h=>by
  rw[echN_succ (by omega)];exact(PInv.all h1 h2 h3 i (by omega)).step h1 h2 h3 (by omega)
end
section
def ZF7 (m:List (Int × Ln)) (C:Nat):List Ln:=(List.range C).filterMap fun c:Nat=>ZB1 m (c:Int)
theorem outP_mem {C:Nat} {m:List (Int × Ln)} (G:Good05 C m) {l:Ln}:l∈ZF7 m C↔∃c,(c,l)∈m:=by
 unfold ZF7;rw[List.mem_filterMap];constructor
 ·rintro⟨c,_,h⟩;exact⟨_,lookP_some h⟩
 ·rintro⟨c,h⟩;have hh:=G.hd _ h;have h1:=G.low _ h c (head_mem hh);have h2:=G.pos _ h c (head_mem hh);refine⟨c.toNat,List.mem_range.2 (by omega),?_⟩;have:=ZKP G.nd h;rw[Int.toNat_of_nonneg h2];exact this
theorem ZR4 {C:Nat} {m:List (Int × Ln)} (G:Good05 C m):(ZF7 m C).Pairwise fun a b=>hdI a.1<hdI b.1:=by
 unfold ZF7;rw[List.pairwise_filterMap];refine List.pairwise_lt_range.imp fun {c d} h l hl l' hl'=>?_;have h1:=G.hd _ (lookP_some hl);have h2:=G.hd _ (lookP_some hl');simp only at h1 h2;simp only[hdI,h1,h2,Option.getD_some];omega
theorem ZIh {α β:Type} {f g:α->Option β}:∀ {l:List α},(∀x∈l,f x=g x)->l.filterMap f=l.filterMap g
 | [],_=>rfl
 | x::l,h=>by
  rw[List.filterMap_cons,List.filterMap_cons,h x (by simp),ZIh fun y hy=>h y (by simp[hy])]
theorem sol_same {rows:List (List Int)} {b:List Int} {C:Nat} (h1:AllAsc rows) (h2:∀r∈rows,Low (C:Int) r) (h3:∀r∈rows,Pos r):solP rows b C=solR rows b C:=by
 have h:=PInv.all (b:=b) h1 h2 h3 rows.length (Nat.le_refl _);rw[echN_all] at h;have hwl:(ZAg rows b C).take rows.length=ZAg rows b C:=List.take_of_length_le (by rw[wide_len];exact Nat.le_refl _);obtain⟨G,hdep,s1,s2,s3⟩:=h;rw[hwl] at s1 s2 s3;have hW:∀r∈ZAg rows b C,Asc r/\Low ((C+1:Nat):Int) r/\Pos r:=fun r hr=>by
  unfold ZAg at hr;obtain⟨p,hp,rfl⟩:=List.mem_map.1 hr;have hp1:p.1∈rows:=by
   have:=List.mem_zipIdx hp;rw[this.2.2];exact List.getElem_mem _
  refine⟨ZBE (h1 _ hp1) (h2 _ hp1),fun x hx=>?_,fun x hx=>?_⟩
  ·rcases ZB4.1 hx with k|k
   ·have:=h2 _ hp1 x k;omega
   ·omega
  ·rcases ZB4.1 hx with k|k
   ·exact h3 _ hp1 x k
   ·omega
 have hWA:AllAsc (ZAg rows b C):=fun r hr=>(hW r hr).1;obtain⟨e1,e2,e3,e4⟩:=echR_ok (W:=ZAg rows b C) (C:=C+1) hWA (fun r hr=>(hW r hr).2.2) (fun r hr=>(hW r hr).2.1);unfold solP solR;generalize echP rows C=s at G hdep s1 s2 s3;obtain⟨m,deps⟩:=s;simp only at G hdep s1 s2 s3 ⊢;generalize echR (ZAg rows b C) (C+1)=E at e1 e2 e3 e4;cases hd:deps.any fun y=>ZBw y b with
 | true =>
  obtain⟨y,hy,hyo⟩:=List.any_eq_true.1 hd;have hs:=s2 y hy;rw[hyo] at hs;have hs':Span E (wd (C:Int) [] true):=hs.trans e1.asc e3;obtain⟨r,hr,hrc⟩:=e1.head hs' (c:=(C:Int)) rfl;rw[if_pos rfl,if_pos (List.any_eq_true.2 ⟨r,hr,by rw[hdI,hrc];simp⟩)]
 | false =>
  rw[if_neg (by decide)];have hev:∀y∈deps,ZBw y b=false:=fun y hy=>by
   cases e:ZBw y b with
   | false=>rfl
   | true =>
    have:(deps.any fun y=>ZBw y b)=true:=List.any_eq_true.2 ⟨y,hy,e⟩;rw[hd] at this;cases this
  -- the wide lines are the reference's rows
  have hO:∀r,r∈(ZF7 m C).map (wdL b C)↔∃p∈m,wdL b C p.2=r:=fun r=>by
   rw[List.mem_map];constructor
   ·rintro⟨l,hl,rfl⟩;obtain⟨c,hc⟩:=(outP_mem G).1 hl;exact⟨_,hc,rfl⟩
   ·rintro⟨⟨c,l⟩,hp,rfl⟩;exact⟨l,(outP_mem G).2 ⟨c,hp⟩,rfl⟩
  have hhd:∀p∈m,(wdL b C p.2).head?=some p.1:=fun p hp=>ZUZ (G.hd p hp);have hkl:∀p∈m,p.1<(C:Int):=fun p hp=>G.low p hp _ (head_mem (G.hd p hp));have hR:Red ((ZF7 m C).map (wdL b C)):=by
   refine⟨fun r hr=>?_,fun r hr e=>?_,fun r hr t ht c hc hct=>?_⟩
   ·obtain⟨p,hp,rfl⟩:=(hO r).1 hr;exact ZBE (G.asc p hp) (G.low p hp)
   ·obtain⟨p,hp,rfl⟩:=(hO r).1 hr;have:=hhd p hp;rw[e] at this;cases this
   ·obtain⟨p,hp,rfl⟩:=(hO r).1 hr;obtain⟨q,hq,rfl⟩:=(hO t).1 ht;rw[hhd p hp] at hc;cases hc;have hm:p.1∈q.2.1:=by
     rcases ZB4.1 hct with k|k
     ·exact k
     ·have:=hkl p hp;omega
    rw[G.one p hp q hq hm]
  have hsp1:∀r∈(ZF7 m C).map (wdL b C),Span E r:=fun r hr=>by
   obtain⟨p,hp,rfl⟩:=(hO r).1 hr;exact(s1 p hp).trans e1.asc e3
  have hsp2:∀r∈E,Span ((ZF7 m C).map (wdL b C)) r:=fun r hr=>by
   refine((e2 r hr).trans (C:=(m.map fun p=>wdL b C p.2)++deps.map fun y=>wd (C:Int) [] (ZBw y b)) (fun t ht=>?_) s3).trans hR.asc fun t ht=>?_
   ·rcases List.mem_append.1 ht with ht|ht
    ·obtain⟨p,hp,rfl⟩:=List.mem_map.1 ht;exact ZBE (G.asc p hp) (G.low p hp)
    ·obtain⟨y,hy,rfl⟩:=List.mem_map.1 ht;exact ZBE List.Pairwise.nil (fun x hx=>by cases hx)
   ·rcases List.mem_append.1 ht with ht|ht
    ·obtain⟨p,hp,rfl⟩:=List.mem_map.1 ht;exact Span.one ((hO _).2 ⟨p,hp,rfl⟩)
    ·obtain⟨y,hy,rfl⟩:=List.mem_map.1 ht;rw[hev y hy];exact Span.zero
  have hord:((ZF7 m C).map (wdL b C)).Pairwise fun r s=>hdI r<hdI s:=by
   rw[List.pairwise_map];refine(ZR4 G).imp_of_mem fun {a b'} ha hb h=>?_;obtain⟨c,hc⟩:=(outP_mem G).1 ha;obtain⟨d,hd'⟩:=(outP_mem G).1 hb;have k1:=hhd _ hc;have k2:=hhd _ hd';have k3:=G.hd _ hc;have k4:=G.hd _ hd';simp only at k1 k2 k3 k4;simp only[hdI,k3,k4,Option.getD_some] at h;simp only[hdI,k1,k2,Option.getD_some];exact h
  have hE:=ZNK hR e1 hsp1 hsp2 hord e4;rw[<- hE];rw[if_neg (fun q=>by
   obtain⟨r,hr,hrc⟩:=List.any_eq_true.1 q;obtain⟨p,hp,rfl⟩:=(hO r).1 hr;have:=of_decide_eq_true hrc;rw[hdI,hhd p hp,Option.getD_some] at this;have:=hkl p hp;omega)]
  congr 1
  -- the places
  unfold ZF7;rw[List.filter_map,List.map_map,List.filter_filterMap,List.map_filterMap];refine ZIh fun c hc=>?_;cases hl:ZB1 m (c:Int) with
  | none=>rfl
  | some l =>
   have hm:=lookP_some hl;have k1:=hhd _ hm;simp only at k1;have hCm:decide ((C:Int)∈wdL b C l)=ZBw l.2 b:=by
    have hn:(C:Int)∉l.1:=fun q=>by have:=G.low _ hm _ q;omega
    cases e:ZBw l.2 b with
    | true=>exact decide_eq_true (ZB4.2 (.inr ⟨e,rfl⟩))
    | false =>
     refine decide_eq_false fun q=>?_;rcases ZB4.1 q with k|k
     ·exact hn k
     ·rw[e] at k;cases k.1
   simp only[Function.comp_apply,Option.filter_some,hCm];cases e:ZBw l.2 b with
   | true=>simp[hdI,k1]
   | false=>simp
end
section
theorem ZR0 {E:List (List Int)} {y:List Int} (h:∀r∈E,ZBw r y=false) {v:List Int} (hv:Span E v):ZBw v y=false:=by
 induction hv with
 | zero=>rfl
 | add hr _ ih=>rw[ZMb,h _ hr,ih];rfl
theorem ZNP {p:Int->Bool} {a c:Int} (hac:a<c):∀ {l:List Int},Asc l->a∈l->c∈l->p a=true->p c=true->(∀x∈l,p x=true->x=a\/x=c)->(l.filter p).length=2:=by
 intro l hl ha hc pa pc ho;have h1:(l.filter p)=[a,c]:=by
  refine asc_ext (hl.filter _) (List.pairwise_cons.2 ⟨fun y hy=>by rw[List.mem_singleton.1 hy];exact hac,List.pairwise_singleton _ _⟩) fun x=>?_;rw[List.mem_filter];constructor
  ·rintro⟨q1,q2⟩;rcases ho x q1 q2 with rfl|rfl <;> simp
  ·intro q;simp only[List.mem_cons,List.not_mem_nil,or_false] at q;rcases q with rfl|rfl
   ·exact⟨ha,pa⟩
   ·exact⟨hc,pc⟩
 rw[h1];rfl
structure Solves (rows:List (List Int)) (b:List Int) (C:Nat) (x:List Int):Prop where
 asc:Asc x
 rng:∀c∈x,0≤c/\c<(C:Int)
 sat:∀i (h:i<rows.length),ZBw rows[i] x=decide ((i:Int)∈b)
theorem sol_sat {rows:List (List Int)} {b:List Int} {C:Nat} (h1:AllAsc rows) (h2:∀r∈rows,Low (C:Int) r) (h3:∀r∈rows,Pos r) {x:List Int} (hx:solR rows b C=some x):Solves rows b C x:=by
 have hW:∀r∈ZAg rows b C,Asc r/\Low ((C+1:Nat):Int) r/\Pos r:=fun r hr=>by
  unfold ZAg at hr;obtain⟨p,hp,rfl⟩:=List.mem_map.1 hr;have hp1:p.1∈rows:=by
   have:=List.mem_zipIdx hp;rw[this.2.2];exact List.getElem_mem _
  refine⟨ZBE (h1 _ hp1) (h2 _ hp1),fun x hx=>?_,fun x hx=>?_⟩
  ·rcases ZB4.1 hx with k|k
   ·have:=h2 _ hp1 x k;omega
   ·omega
  ·rcases ZB4.1 hx with k|k
   ·exact h3 _ hp1 x k
   ·omega
 have hWA:AllAsc (ZAg rows b C):=fun r hr=>(hW r hr).1;obtain⟨e1,e2,e3,e4⟩:=echR_ok (W:=ZAg rows b C) (C:=C+1) hWA (fun r hr=>(hW r hr).2.2) (fun r hr=>(hW r hr).2.1);unfold solR at hx;generalize echR (ZAg rows b C) (C+1)=E at e1 e2 e3 e4 hx;split at hx
 ·cases hx
 ·rename_i hno;have hno:∀r∈E,hdI r≠(C:Int):=fun r hr q=>hno (List.any_eq_true.2 ⟨r,hr,decide_eq_true q⟩);have hx:(E.filter fun r=>decide ((C:Int)∈r)).map hdI=x:=Option.some.inj hx;have hEl:∀r∈E,Low ((C+1:Nat):Int) r:=fun r hr=>Span.low hWA (fun r hr=>(hW r hr).2.1) (e2 r hr);have hEp:∀r∈E,Pos r:=fun r hr=>by
   have:∀ {v:List Int},Span (ZAg rows b C) v->Pos v:=fun {v} hv=>by
    induction hv with
    | zero=>intro x hx;cases hx
    | add hr h ih=>exact ZE9 (hWA _ hr) (h.asc hWA) ((hW _ hr).2.2) ih
   exact this (e2 r hr)
  have hhd:∀r∈E,r.head?=some (hdI r):=fun r hr=>by
   cases r with
   | nil=>exact absurd rfl (e1.pos _ hr)
   | cons y r=>rfl
  have hmem:∀c,c∈x↔∃r∈E,(C:Int)∈r/\hdI r=c:=fun c=>by
   rw[<- hx,List.mem_map];constructor
   ·rintro⟨r,hr,e⟩;obtain⟨q1,q2⟩:=List.mem_filter.1 hr;exact⟨r,q1,of_decide_eq_true q2,e⟩
   ·rintro⟨r,hr,hc,e⟩;exact⟨r,List.mem_filter.2 ⟨hr,decide_eq_true hc⟩,e⟩
  have hxr:∀c∈x,0≤c/\c<(C:Int):=fun c hc=>by
   obtain⟨r,hr,_,rfl⟩:=(hmem c).1 hc;have q1:=hEp r hr _ (head_mem (hhd r hr));have q2:=hEl r hr _ (head_mem (hhd r hr));have q3:=hno r hr;omega
  have hxa:Asc x:=by
   rw[<- hx];show List.Pairwise _ _;rw[List.pairwise_map];exact e4.filter _
  refine⟨hxa,hxr,fun i hi=>?_⟩;have hE:∀r∈E,ZBw r (wd (C:Int) x true)=false:=fun r hr=>by
   have hin:∀c∈r,c∈wd (C:Int) x true->c=hdI r\/c=(C:Int):=fun c hc hcx=>by
    rcases ZB4.1 hcx with k|k
    ·obtain⟨s,hs,_,rfl⟩:=(hmem c).1 k
     left
     rw[e1.one s hs r hr _ (hhd s hs) hc]
    ·exact .inr k.2
   unfold ZBw;by_cases hC:(C:Int)∈r
   ·have hne:=hno r hr;have hlt:hdI r<(C:Int):=by have:=hEl r hr _ (head_mem (hhd r hr));omega
    rw[ZNP (a:=hdI r) (c:=(C:Int)) hlt (e1.asc r hr) (head_mem (hhd r hr)) hC (decide_eq_true (ZB4.2 (.inl ((hmem _).2 ⟨r,hr,hC,rfl⟩)))) (decide_eq_true (ZB4.2 (.inr ⟨rfl,rfl⟩))) fun c hc q=>hin c hc (of_decide_eq_true q)];rfl
   ·have:(r.filter fun c=>decide (c∈wd (C:Int) x true))=[]:=List.filter_eq_nil_iff.2 fun c hc q=>by
     have q:=of_decide_eq_true q;rcases hin c hc q with e|e
     ·rcases ZB4.1 q with k|k
      ·obtain⟨s,hs,hCs,e2⟩:=(hmem c).1 k;have:=e1.one s hs r hr c (e2 ▸ hhd s hs) hc;rw[this] at hC;exact hC hCs
      ·exact hC (k.2 ▸ hc)
     ·exact hC (e ▸ hc)
    rw[this];rfl
  have hw:ZBw (wd (C:Int) rows[i] (decide ((i:Int)∈b))) (wd (C:Int) x true)=false:=by
   refine ZR0 hE (e3 _ ?_);exact List.mem_iff_getElem?.2 ⟨i,ZJO hi⟩
  have hri:=List.getElem_mem hi;have hn:(C:Int)∉rows[i]:=fun q=>by have:=h2 _ hri _ q;omega
  have hf:(rows[i].filter fun c=>decide (c∈wd (C:Int) x true))=rows[i].filter fun c=>decide (c∈x):=List.filter_congr fun c hc=>by
   have:c≠(C:Int):=fun e=>hn (e ▸ hc);rw[decide_eq_decide,ZB4];simp[this]
  have h0:ZBw rows[i] x=ZBw rows[i] (wd (C:Int) x true):=by unfold ZBw;rw[hf]
  rw[h0];generalize hob:decide ((i:Int)∈b)=o at hw;cases o with
  | false=>exact hw
  | true =>
   have hap:ZBw (rows[i]++[(C:Int)]) (wd (C:Int) x true) = !ZBw rows[i] (wd (C:Int) x true):=by
    unfold ZBw;rw[List.filter_append,List.length_append];have:([(C:Int)].filter fun c=>decide (c∈wd (C:Int) x true))=[(C:Int)]:=by
     rw[List.filter_cons,if_pos (decide_eq_true (ZB4.2 (.inr ⟨rfl,rfl⟩)))];rfl
    rw[this,List.length_singleton];by_cases q:(rows[i].filter fun c=>decide (c∈wd (C:Int) x true)).length % 2=1
    ·rw[decide_eq_true q,decide_eq_false (by omega)];rfl
    ·rw[decide_eq_false q,decide_eq_true (by omega)];rfl
   have h5:ZBw (rows[i]++[(C:Int)]) (wd (C:Int) x true)=false:=hw;rw[hap] at h5;cases e:ZBw rows[i] (wd (C:Int) x true) with
   | true=>rfl
   | false=>rw[e] at h5;cases h5
end
end Go.Proofs.YtofkoleingbbpaaGreatDoor.L05
