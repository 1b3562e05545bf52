/- Part 3: walks by contracts, and plain laws. -/
import Derived.Test.YtekiljakcngcoaaGreatDoorV2
set_option linter.unusedVariables false
set_option linter.unusedSimpArgs false
set_option linter.unusedSectionVars false
set_option maxRecDepth 100000
set_option maxHeartbeats 4000000
namespace Go.Proofs.YtekiljakcngcoaaGreatDoor
section
open Go.RowKit

structure Dat where
 rd:(Nat->Prop)->World->Value->Prop
 weak:∀ {P P':Nat->Prop} {w:World} {v:Value},rd P w v->(∀ k,P k->P' k)->rd P' w v
 move:∀ {P:Nat->Prop} {w w':World} {v:Value},rd P w v->(∀ k,P k->k<w.heap.size->w'.heap[k]?=w.heap[k]?)->rd P w' v
 bound:∀ {P:Nat->Prop} {w:World} {v:Value},rd P w v->rd (fun k=>P k/\k<w.heap.size) w v

def dS {α:Type} (R:Rel α) [Good R] (x:α):Dat:=⟨fun P w v=>R P w v x,Good.weak,Good.move,Good.bound⟩
def dX (u:Value):Dat:=⟨fun _ _ v=>v=u,fun h _=>h,fun h _=>h,fun h=>h⟩
def dA:Dat:=⟨fun _ _ _=>True,fun h _=>h,fun h _=>h,fun h=>h⟩
def dE {α:Type} (p:α->Prop) (D:α->Dat):Dat:=⟨fun P w v=>∃ x,p x/\(D x).rd P w v,fun ⟨x,h,k⟩ q=>⟨x,h,(D x).weak k q⟩,fun ⟨x,h,k⟩ q=>⟨x,h,(D x).move k q⟩,fun ⟨x,h,k⟩=>⟨x,h,(D x).bound k⟩⟩

abbrev dI (x:Int):Dat:=dS RI x
abbrev dB (x:Bool):Dat:=dS RB x

def Dat.le (d d':Dat):Prop:=∀ (P:Nat->Prop) (w:World) (v:Value),d.rd P w v->d'.rd P w v
theorem Dat.le_refl (d:Dat):d.le d:=fun _ _ _ h=>h
theorem ZG5 (d:Dat):d.le dA:=fun _ _ _ _=>trivial
theorem Dat.le_trans {a b c:Dat} (h:a.le b) (k:b.le c):a.le c:=fun P w v x=>k P w v (h P w v x)
theorem ZD {α:Type} {R:Rel α} [Good R]:(dX (.slice none 0 0)).le (dS (Arr R) ([]:List α)):=fun _ _ _ h=>by cases (h:_=_);exact ZCG
theorem ZB {α:Type} {R:Rel α} [Good R] {n:Nat} (hn:0<n):(dX (.slice none 0 0)).le (dS (ArrK n R) ([]:List α)):=fun _ _ _ h=>by cases (h:_=_);exact ZD8 hn
theorem ZQF {n:Int}:(dX (.int .i64 n)).le (dI n):=fun _ _ _ h=>h
theorem ZQE {b:Bool}:(dX (.bool b)).le (dB b):=fun _ _ _ h=>h
def dT (ds:List Dat):Dat where
 rd:=fun P w v=>∃ vs:List Value,v = .tuple vs.toArray/\vs.length=ds.length/\∀ (i:Nat) (d:Dat) (u:Value),ds[i]?=some d->vs[i]?=some u->d.rd P w u
 weak:=fun ⟨vs,h1,h2,h3⟩ q=>⟨vs,h1,h2,fun i d u hd hu=>d.weak (h3 i d u hd hu) q⟩
 move:=fun ⟨vs,h1,h2,h3⟩ q=>⟨vs,h1,h2,fun i d u hd hu=>d.move (h3 i d u hd hu) q⟩
 bound:=fun ⟨vs,h1,h2,h3⟩=>⟨vs,h1,h2,fun i d u hd hu=>d.bound (h3 i d u hd hu)⟩

def Cells (P:Nat->Prop) (w:World) (b off n:Nat) (agg:Bool) (u:Value):Prop :=
 P b/\∃ cs:List Value,cs.length=n/\0<n/\(∀ c∈cs,c.oneCell'=true)/\(∀ j c,cs[j]?=some c->w.cell? ⟨b,off+j,none⟩=some c)/\(if agg then u = .agg cs.toArray else cs=[u])
theorem Cells.move {P:Nat->Prop} {w w':World} {b off n:Nat} {agg:Bool} {u:Value} (h:Cells P w b off n agg u) (q:∀ k,P k->k<w.heap.size->w'.heap[k]?=w.heap[k]?):Cells P w' b off n agg u:=by
 obtain ⟨hb,cs,h1,h2,h3,h4,h5⟩:=h
 exact ⟨hb,cs,h1,h2,h3,fun j c hc=>(ZDA (a:=⟨b,off+j,none⟩) (q b hb (ZBh (h4 j c hc)))).trans (h4 j c hc),h5⟩
theorem Cells.lt {P:Nat->Prop} {w:World} {b off n:Nat} {agg:Bool} {u:Value} (h:Cells P w b off n agg u):b<w.heap.size:=by
 obtain ⟨hb,cs,h1,h2,h3,h4,h5⟩:=h
 have:0<cs.length:=by omega
 exact ZBh (h4 0 _ (List.getElem?_eq_getElem this))
def dP (n:Nat) (agg:Bool) (d:Dat):Dat where
 rd:=fun P w v=>∃ b off u,v = .pointer (some ⟨b,off,none⟩)/\Cells P w b off n agg u/\d.rd P w u
 weak:=fun ⟨b,off,u,h1,h2,h3⟩ q=>⟨b,off,u,h1,⟨q b h2.1,h2.2⟩,d.weak h3 q⟩
 move:=fun ⟨b,off,u,h1,h2,h3⟩ q=>⟨b,off,u,h1,h2.move q,d.move h3 q⟩
 bound:=fun ⟨b,off,u,h1,h2,h3⟩=>⟨b,off,u,h1,⟨⟨h2.1,h2.lt⟩,h2.2⟩,d.bound h3⟩

theorem Dat.ext {d:Dat} {P:Nat->Prop} {w w':World} {v:Value} (h:d.rd P w v) (e:Ext w w'):d.rd P w' v:=d.move h fun k _ hk=>Below.block e k hk
theorem Dat.grown {d:Dat} {P:Nat->Prop} {w w':World} {row:Option Nat} {v:Value} (h:d.rd P w v) (e:w.grownBy w' row) (hr:∀ k,row=some k->¬ P k):d.rd P w' v :=
 d.move h fun k hk hlt=>e.block k hlt (fun he=>hr k he.symm hk)
theorem Ext.grown0 {w w':World} (e:Ext w w'):w.grownBy w' none:=⟨e.os,e.tape,e.output,e.size,fun k hk _=>e.block k hk⟩

structure HObj where
 blk:Option Nat
 ok:(Nat->Prop)->World->Prop
 weak:∀ {P P':Nat->Prop} {w:World},ok P w->(∀ k,P k->P' k)->ok P' w
 bound:∀ {P:Nat->Prop} {w:World},ok P w->ok (fun k=>P k/\k<w.heap.size) w
 move:∀ {P:Nat->Prop} {w w':World} {row:Option Nat},ok P w->w.grownBy w' row->(∀ k,row=some k->¬ P k)->(blk=none\/blk≠row)->ok P w'

def Zr {α:Type} (v:Value) (e:TypeId) (R:Rel α) [Good R] (xs:List α):HObj where
 blk:=v.ownBlock
 ok:=fun P w=>Own 0 e R P w v xs
 weak:=fun ⟨us,h1,h2,h3⟩ q=>⟨us,h1,h2,fun k a b=>⟨(h3 k a b).1,Good.weak (h3 k a b).2 fun _ hj=>⟨q _ hj.1,hj.2⟩⟩⟩
 bound:=fun ⟨us,h1,h2,h3⟩=>⟨us,h1,h2,fun k a b=>⟨(h3 k a b).1,Good.weak (Good.bound (h3 k a b).2) fun _ hj=>⟨⟨hj.1.1,hj.2⟩,hj.1.2⟩⟩⟩
 move:=fun h hg hP hne=>h.kept hg hne hP
def Zp {α:Type} (v:Value) (e:TypeId) (n:Nat) (R:Rel α) [Good R] (xs:List α):HObj where
 blk:=v.ownBlock
 ok:=fun P w=>OwnK 0 e n R P w v xs
 weak:=fun ⟨us,h1,h2,h0,h3,h4⟩ q=>⟨us,h1,h2,h0,h3,fun k a b=>Good.weak (h4 k a b) fun _ hj=>⟨q _ hj.1,hj.2⟩⟩
 bound:=fun ⟨us,h1,h2,h0,h3,h4⟩=>⟨us,h1,h2,h0,h3,fun k a b=>Good.weak (Good.bound (h4 k a b)) fun _ hj=>⟨⟨hj.1.1,hj.2⟩,hj.1.2⟩⟩
 move:=fun h hg hP hne=>h.kept hg hne hP
def Zh (b:Nat) (T:TypeId) (n:Nat) (agg:Bool) (d:Dat):HObj where
 blk:=some b
 ok:=fun P w=>∃ cs:List Value,∃ u,w.heap[b]?=some (.cells cs.toArray T)/\cs.length=n/\0<n/\(∀ c∈cs,c.oneCell'=true)/\(if agg then u = .agg cs.toArray else cs=[u])/\d.rd P w u
 weak:=fun h q=>by obtain ⟨cs,u,h1,h2,h0,h3,h4,h5⟩:=h;exact ⟨cs,u,h1,h2,h0,h3,h4,d.weak h5 q⟩
 bound:=fun h=>by obtain ⟨cs,u,h1,h2,h0,h3,h4,h5⟩:=h;exact ⟨cs,u,h1,h2,h0,h3,h4,d.bound h5⟩
 move:=fun h hg hP hne=>by
  obtain ⟨cs,u,h1,h2,h0,h3,h4,h5⟩:=h
  have hlt:b<_:=(Array.getElem?_eq_some_iff.1 h1).1
  refine ⟨cs,u,(hg.block b hlt ?_).trans h1,h2,h0,h3,h4,d.grown h5 hg hP⟩
  rcases hne with h|h
  ·cases h
  ·exact h

def Imm (P0:Nat->Prop) (B:Nat) (hp:List HObj):Nat->Prop:=fun b=>(P0 b\/B≤b)/\∀ o∈hp,o.blk≠some b

structure Hp (P0:Nat->Prop) (B:Nat) (w0:World) (hp:List HObj) (w:World):Prop where
 base:B≤w0.heap.size
 below:Below B w0 w
 own:∀ o∈hp,∀ k,o.blk=some k->B≤k/\k<w.heap.size
 ok:∀ o∈hp,o.ok (Imm P0 B hp) w
 apart:hp.Pairwise fun o o'=>∀ k,o.blk=some k->o'.blk≠some k

section
variable {P0:Nat->Prop} {B:Nat} {w0 w w':World} {hp:List HObj} {d:Dat} {v:Value}
theorem Hp.le (h:Hp P0 B w0 hp w):B≤w.heap.size:=Nat.le_trans h.base h.below.size
theorem Hp.ext (h:Hp P0 B w0 hp w) (e:Ext w w'):Hp P0 B w0 hp w' where
 base:=h.base
 below:=ZJD h.below h.le e
 own:=fun o ho k hk=>⟨(h.own o ho k hk).1,Nat.lt_of_lt_of_le (h.own o ho k hk).2 e.size⟩
 ok:=fun o ho=>o.move (h.ok o ho) e.grown0 (fun _ hk=>by cases hk) (by cases o.blk <;> simp)
 apart:=h.apart
theorem Hp.fresh (h:Hp P0 B w0 hp w) {b:Nat} (hb:w.heap.size≤b):Imm P0 B hp b:=⟨.inr (Nat.le_trans h.le hb),fun o ho hk=>absurd (h.own o ho b hk).2 (by omega)⟩
theorem Imm.sub {o:HObj}:∀ k,Imm P0 B (o::hp) k->Imm P0 B hp k:=fun _ h=>⟨h.1,fun o' ho'=>h.2 o' (List.mem_cons_of_mem _ ho')⟩
theorem Hp.drop {o:HObj} (h:Hp P0 B w0 (o::hp) w):Hp P0 B w0 hp w where
 base:=h.base
 below:=h.below
 own:=fun o' ho'=>h.own o' (List.mem_cons_of_mem _ ho')
 ok:=fun o' ho'=>o'.weak (h.ok o' (List.mem_cons_of_mem _ ho')) Imm.sub
 apart:=(List.pairwise_cons.1 h.apart).2
theorem Hp.push {o:HObj} (h:Hp P0 B w0 hp w) (e:Ext w w') (ho:∀ k,o.blk=some k->w.heap.size≤k/\k<w'.heap.size) (hok:o.ok (fun k=>Imm P0 B hp k/\k<w.heap.size) w'):Hp P0 B w0 (o::hp) w' where
 base:=h.base
 below:=ZJD h.below h.le e
 own:=fun o' ho' k hk=>by
  rcases List.mem_cons.1 ho' with rfl|ho'
  ·exact ⟨Nat.le_trans h.le (ho k hk).1,(ho k hk).2⟩
  ·exact (h.ext e).own o' ho' k hk
 ok:=fun o' ho'=>by
  rcases List.mem_cons.1 ho' with rfl|ho'
  ·refine o'.weak hok fun k hk=>⟨hk.1.1,fun q hq hqk=>?_⟩
   rcases List.mem_cons.1 hq with rfl|hq
   ·exact absurd (ho k hqk).1 (by omega)
   ·exact hk.1.2 q hq hqk
  ·have h1:=o'.bound (h.ok o' ho')
   have h2:=o'.move h1 e.grown0 (fun _ hk=>by cases hk) (by cases o'.blk <;> simp)
   refine o'.weak h2 fun k hk=>⟨hk.1.1,fun q hq hqk=>?_⟩
   rcases List.mem_cons.1 hq with rfl|hq
   ·exact absurd (ho k hqk).1 (by omega)
   ·exact hk.1.2 q hq hqk
 apart:=List.pairwise_cons.2 ⟨fun o' ho' k hk hk'=>absurd (h.own o' ho' k hk').2 (by have:=(ho k hk).1;omega),h.apart⟩
theorem Z6 {o:HObj} (e:Ext w w') (ho:∀ k,o.blk=some k->w.heap.size≤k) (hd:d.rd (Imm P0 B hp) w v):d.rd (Imm P0 B (o::hp)) w' v:=by
 refine d.weak (Dat.ext (d.bound hd) e) fun k hk=>⟨hk.1.1,fun q hq hqk=>?_⟩
 rcases List.mem_cons.1 hq with rfl|hq
 ·exact absurd (ho k hqk) (by omega)
 ·exact hk.1.2 q hq hqk
theorem Hp.write {o o':HObj} (h:Hp P0 B w0 (o::hp) w) (e:w.grownBy w' o.blk) (hb:o'.blk=o.blk\/∀ k,o'.blk=some k->w.heap.size≤k/\k<w'.heap.size)
  (hok:o'.ok (fun k=>Imm P0 B (o::hp) k/\k<w.heap.size) w'):Hp P0 B w0 (o'::hp) w':=by
 have hlt:∀ k,o'.blk=some k->B≤k/\k<w'.heap.size:=fun k hk=>by
  rcases hb with hb|hb
  ·rw [hb] at hk
   have:=h.own o (by simp) k hk
   exact ⟨this.1,Nat.lt_of_lt_of_le this.2 e.size⟩
  ·have:=hb k hk
   exact ⟨Nat.le_trans h.le this.1,this.2⟩
 have hap:∀ q∈hp,∀ k,o'.blk=some k->q.blk≠some k:=fun q hq k hk hqk=>by
  rcases hb with hb|hb
  ·rw [hb] at hk
   exact (List.pairwise_cons.1 h.apart).1 q hq k hk hqk
  ·exact absurd (h.own q (List.mem_cons_of_mem _ hq) k hqk).2 (by have:=(hb k hk).1;omega)
 refine ⟨h.base,h.below.grown e h.le (fun k hk=>(h.own o (by simp) k hk).1),?_,?_,List.pairwise_cons.2 ⟨fun q hq k hk hqk=>hap q hq k hk hqk,(List.pairwise_cons.1 h.apart).2⟩⟩
 ·intro q hq k hk
  rcases List.mem_cons.1 hq with rfl|hq
  ·exact hlt k hk
  ·have:=h.own q (List.mem_cons_of_mem _ hq) k hk
   exact ⟨this.1,Nat.lt_of_lt_of_le this.2 e.size⟩
 ·have key:∀ k,Imm P0 B (o::hp) k/\k<w.heap.size->Imm P0 B (o'::hp) k:=fun k hk=>⟨hk.1.1,fun q hq hqk=>by
   rcases List.mem_cons.1 hq with rfl|hq
   ·rcases hb with hb|hb
    ·exact hk.1.2 o (by simp) (by rw [<- hb];exact hqk)
    ·exact absurd (hb k hqk).1 (by omega)
   ·exact hk.1.2 q (List.mem_cons_of_mem _ hq) hqk⟩
  intro q hq
  rcases List.mem_cons.1 hq with rfl|hq
  ·exact q.weak hok key
  ·have hq':=List.mem_cons_of_mem o hq
   have h2:=q.move (row:=o.blk) (q.bound (h.ok q hq')) e (fun k hk hc=>hc.1.2 o (by simp) hk) (by
    cases hqb:q.blk with
    | none=>exact .inl rfl
    | some k=>exact .inr fun hc=>(List.pairwise_cons.1 h.apart).1 q hq k hc.symm hqb)
   exact q.weak h2 key
theorem ZY {o o':HObj} (e:w.grownBy w' o.blk) (hb:o'.blk=o.blk\/∀ k,o'.blk=some k->w.heap.size≤k) (hd:d.rd (Imm P0 B (o::hp)) w v):d.rd (Imm P0 B (o'::hp)) w' v:=by
 have h1:=d.grown (d.bound hd) e (fun k hk hc=>hc.1.2 o (by simp) hk)
 refine d.weak h1 fun k hk=>⟨hk.1.1,fun q hq hqk=>?_⟩
 rcases List.mem_cons.1 hq with rfl|hq
 ·rcases hb with hb|hb
  ·exact hk.1.2 o (by simp) (by rw [<- hb];exact hqk)
  ·exact absurd (hb k hqk) (by omega)
 ·exact hk.1.2 q (List.mem_cons_of_mem _ hq) hqk
end

structure Fr (I:Nat->Prop) (w:World) (a:Act) (fr:List Dat):Prop where
 defers:a.defers=[]
 size:a.tmps.size=fr.length
 rd:∀ (t:Nat) (d:Dat),fr[t]?=some d->d.rd I w (a.tmps.getD t undef)

def On (ts:List Tmp) (I:Nat->Prop) (w:World) (a:Act) (fr:List Dat):Prop:=a.tmps.size=fr.length/\∀ t,t∈ts->∀ d:Dat,fr[t]?=some d->d.rd I w (a.tmps.getD t undef)
theorem Fr.on {I:Nat->Prop} {w:World} {a:Act} {fr:List Dat} (h:Fr I w a fr) (ts:List Tmp):On ts I w a fr:=⟨h.size,fun t _=>h.rd t⟩

def ZA (fr:List Dat) (t:Option Tmp) (d:Dat):List Dat:=match t with|some t=>fr.set t d|none=>fr
theorem ZAG (fr:List Dat) (t:Option Tmp) (d:Dat):(ZA fr t d).length=fr.length:=by cases t <;> simp [ZA]
theorem ZDO (fr:List Dat) {x y:Option Tmp} (d d':Dat) (h:∀ k,x=some k->y≠some k):ZA (ZA fr x d) y d'=ZA (ZA fr y d') x d:=by
 cases x <;> cases y <;> simp only [ZA]
 rename_i i j
 exact List.set_comm _ _ (fun e=>h i rfl (by rw [e]))
theorem ZAb {fr:List Dat} {x:Option Tmp} {d:Dat} {t:Nat} (h:x≠some t):(ZA fr x d)[t]?=fr[t]?:=by
 cases x with
 | none=>rfl
 | some i=>exact List.getElem?_set_ne (fun e=>h (by rw [e]))

theorem Fr.mono {I I':Nat->Prop} {w w':World} {a:Act} {fr:List Dat} (h:Fr I w a fr) (k:∀ (d:Dat) (v:Value),d.rd I w v->d.rd I' w' v):Fr I' w' a fr:=⟨h.defers,h.size,fun t d hd=>k d _ (h.rd t d hd)⟩
theorem Fr.ext {I:Nat->Prop} {w w':World} {a:Act} {fr:List Dat} (h:Fr I w a fr) (e:Ext w w'):Fr I w' a fr:=h.mono fun _ _ hd=>Dat.ext hd e
theorem Fr.put {I:Nat->Prop} {w:World} {a:Act} {fr:List Dat} (h:Fr I w a fr) {x:Option Tmp} {d:Dat} {v:Value} (hd:d.rd I w v):Fr I w (a.put x v) (ZA fr x d):=by
 cases x with
 | none=>exact h
 | some i =>
  refine ⟨h.defers,by simp [Act.put,ZA,h.size],fun t d' hd'=>?_⟩
  simp only [ZA] at hd'
  simp only [Act.put]
  by_cases hti:i=t
  ·subst hti
   rw [List.getElem?_set] at hd'
   simp only [if_true] at hd'
   split at hd'
   ·rename_i hlt
    cases hd'
    have:i<a.tmps.size:=by rw [h.size];exact hlt
    simp [Array.getD_eq_getD_getElem?,this,hd]
   ·cases hd'
  ·rw [List.getElem?_set_ne hti] at hd'
   have:=h.rd t d' hd'
   simpa [Array.getD_eq_getD_getElem?,Array.getElem?_setIfInBounds,hti] using this
theorem Fr.weak {I:Nat->Prop} {w:World} {a:Act} {fr fr':List Dat} (h:Fr I w a fr) (hl:fr.length=fr'.length) (k:∀ (t:Nat) (d:Dat),fr'[t]?=some d->∃ d0:Dat,fr[t]?=some d0/\d0.le d):Fr I w a fr' :=
 ⟨h.defers,by rw [h.size,hl],fun t d hd=>let ⟨d0,h0,hle⟩:=k t d hd;hle _ _ _ (h.rd t d0 h0)⟩

def OpD0 (fr:List Dat):Operand->Dat->Prop
 | .tmp t,d=>∃ d0:Dat,fr[t]?=some d0/\d0.le d
 | .const v,d=>(dX v).le d
 | .func f,d=>(dX (.func (.func f) #[] #[])).le d
 | .global g,d=>(dX (.pointer (some ⟨g,0,none⟩))).le d
structure OpD (fr:List Dat) (x:Operand) (d:Dat):Prop where
 out:OpD0 fr x d
theorem OpD.t {fr:List Dat} {t:Tmp} {d:Dat} (h:fr[t]?=some d):OpD fr (.tmp t) d:=⟨⟨d,h,Dat.le_refl d⟩⟩
theorem OpD.tle {fr:List Dat} {t:Tmp} {d0 d:Dat} (h:fr[t]?=some d0) (hle:d0.le d):OpD fr (.tmp t) d:=⟨⟨d0,h,hle⟩⟩
theorem OpD.i {fr:List Dat} {n:Int}:OpD fr (.const (.int .i64 n)) (dI n):=⟨ZQF⟩
theorem OpD.b {fr:List Dat} {b:Bool}:OpD fr (.const (.bool b)) (dB b):=⟨ZQE⟩
theorem OpD.x {fr:List Dat} {v:Value}:OpD fr (.const v) (dX v):=⟨Dat.le_refl _⟩
theorem OpD.f {fr:List Dat} {f:FuncId}:OpD fr (.func f) (dX (.func (.func f) #[] #[])):=⟨Dat.le_refl _⟩
theorem OpD.mono {fr:List Dat} {x:Operand} {d d':Dat} (h:OpD fr x d) (hle:d.le d'):OpD fr x d':=by
 cases x with
 | tmp t=>obtain ⟨d0,h0,h1⟩:=h.out;exact ⟨⟨d0,h0,Dat.le_trans h1 hle⟩⟩
 | const v=>exact ⟨Dat.le_trans h.out hle⟩
 | func f=>exact ⟨Dat.le_trans h.out hle⟩
 | global g=>exact ⟨Dat.le_trans h.out hle⟩

theorem ZRY {ops:Array Oper} {o:Oper} {t:Tmp} (h:Operand.tmp t∈o.op.operands.toList):t∈o.looksAt ops:=by
 unfold Oper.looksAt
 exact List.mem_append_left _ (List.mem_filterMap.2 ⟨_,h,rfl⟩)
theorem OpD.get {ops:Array Oper} {o:Oper} {fr:List Dat} {x:Operand} {d:Dat} {I:Nat->Prop} {w:World} {a:Act} (h:OpD fr x d) (hm:x∈o.op.operands.toList) (ho:On (o.looksAt ops) I w a fr):d.rd I w (a.eval x):=by
 cases x with
 | tmp t =>
  obtain ⟨d0,h0,h1⟩:=h.out
  exact h1 _ _ _ (ho.2 t (ZRY hm) d0 h0)
 | const v=>exact h.out _ _ _ rfl
 | func f=>exact h.out _ _ _ rfl
 | global g=>exact h.out _ _ _ rfl

structure SY (P:Program) (ops:Array Oper) (hp:List HObj) (o:Oper) (fr:List Dat) (d:Dat):Prop where
 out:∀ {P0:Nat->Prop} {B:Nat} {w0 w:World} {a:Act},Hp P0 B w0 hp w->On (o.looksAt ops) (Imm P0 B hp) w a fr->∀ (K:Act->World->Prop) (Q:Exit->Act->World->Prop),
  (∀ v w',Ext w w'->d.rd (Imm P0 B hp) w' v->K (a.put o.dst v) w')->o.wp P a w K Q
structure WantS (ops:Array Oper) (o:Oper) (fr:List Dat) (b:Bool):Prop where
 out:∀ (I:Nat->Prop) (w:World) (a:Act),On (o.looksAt ops) I w a fr->Region.wanted o (yielded ops a.tmps)=b
def SYG (P:Program) (ops:Array Oper) (hp:List HObj) (o:Oper) (fr:List Dat) (d:Dat):Prop:=(WantS ops o fr true/\SY P ops hp o fr d)\/(WantS ops o fr false/\d=dX undef)

section
variable {P:Program} {ops:Array Oper} {hp:List HObj} {o:Oper} {fr fr':List Dat} {d:Dat}
theorem On.same {I:Nat->Prop} {w:World} {a:Act} {ts:List Tmp} (h:On ts I w a fr') (hl:fr'.length=fr.length) (hs:∀ t∈ts,fr'[t]?=fr[t]?):On ts I w a fr :=
 ⟨h.1.trans hl,fun t ht d hd=>h.2 t ht d (by rw [hs t ht];exact hd)⟩
theorem SYG.same (h:SYG P ops hp o fr d) (hl:fr'.length=fr.length) (hs:∀ t∈o.looksAt ops,fr'[t]?=fr[t]?):SYG P ops hp o fr' d:=by
 rcases h with ⟨h1,h2⟩|⟨h1,h2⟩
 ·exact .inl ⟨⟨fun I w a ho=>h1.out I w a (ho.same hl hs)⟩,⟨fun hh ho K Q hk=>h2.out hh (ho.same hl hs) K Q hk⟩⟩
 ·exact .inr ⟨⟨fun I w a ho=>h1.out I w a (ho.same hl hs)⟩,h2⟩

def sOp (P:Program) (ops:Array Oper) (hp:List HObj) (i:Nat) (K:List Dat->Prop) (fr:List Dat):Prop :=
 match ops[i]? with
 | none=>K fr
 | some o=>∃ d,SYG P ops hp o fr d/\K (ZA fr o.dst d)
theorem ZF0 {i:Nat} {K K':List Dat->Prop} (h:∀ f,K f->K' f) (hh:sOp P ops hp i K fr):sOp P ops hp i K' fr:=by
 unfold sOp at *
 split
 ·rename_i ho;simp only [ho] at hh;exact h _ hh
 ·rename_i o ho;simp only [ho] at hh;obtain ⟨d,h1,h2⟩:=hh;exact ⟨d,h1,h _ h2⟩
def ZDQ (P:Program) (md:Region.Mode) (ops:Array Oper) (hp:List HObj) (Q:List Dat->Prop):Nat->Array Bool->List Dat->Prop
 | 0,listed,fr=>Region.ready md ops listed=[]/\Q fr
 | fuel+1,listed,fr=>(Region.ready md ops listed=[]->Q fr)/\∀ i∈Region.ready md ops listed,sOp P ops hp i (ZDQ P md ops hp Q fuel (listed.setIfInBounds i true)) fr

theorem SYG.step {P0:Nat->Prop} {B:Nat} {w0 w:World} {a:Act} (h:SYG P ops hp o fr d) (hh:Hp P0 B w0 hp w) (hf:Fr (Imm P0 B hp) w a fr) {K:Act->World->Prop} {Q:Exit->Act->World->Prop}
  (hk:∀ a' w',Ext w w'->Fr (Imm P0 B hp) w' a' (ZA fr o.dst d)->K a' w'):if Region.wanted o (yielded ops a.tmps) then o.wp P a w K Q else K (a.put o.dst undef) w:=by
 rcases h with ⟨h1,h2⟩|⟨h1,rfl⟩
 ·rw [if_pos (h1.out _ _ _ (hf.on _))]
  exact h2.out hh (hf.on _) K Q fun v w' e hd=>hk _ _ e ((hf.ext e).put hd)
 ·rw [if_neg (by rw [h1.out _ _ _ (hf.on _)];exact Bool.false_ne_true)]
  exact hk _ _ (Ext.refl _) (hf.put rfl)

theorem ZBi {md:Region.Mode} {P0:Nat->Prop} {B:Nat} {w0:World} {Q:List Dat->Prop} {Q':Exit->Act->World->Prop}:∀ (fuel:Nat) (listed:Array Bool) (fr:List Dat) (a:Act) (w:World),Hp P0 B w0 hp w->Fr (Imm P0 B hp) w a fr ->
  (∀ fr' a' w',Ext w w'->Fr (Imm P0 B hp) w' a' fr'->Q fr'->Q' .normal a' w')->ZDQ P md ops hp Q fuel listed fr->wpAny P md ops Q' fuel listed a w
 | 0,_,_,_,_,_,hf,hQ,h=>⟨h.1,hQ _ _ _ (Ext.refl _) hf h.2⟩
 | fuel+1,listed,fr,a,w,hh,hf,hQ,h=>by
  refine ⟨fun h0=>hQ _ _ _ (Ext.refl _) hf (h.1 h0),fun i hi=>?_⟩
  have h1:=h.2 i hi
  unfold sOp at h1
  unfold wpOp
  split
  ·rename_i ho;simp only [ho] at h1
   exact ZBi fuel _ _ _ _ hh hf hQ h1
  ·rename_i o ho;simp only [ho] at h1
   obtain ⟨d,h2,h3⟩:=h1
   have:=h2.step (Q:=Q') hh hf (K:=wpAny P md ops Q' fuel (listed.setIfInBounds i true)) fun a' w' e hf'=>ZBi fuel _ _ _ _ (hh.ext e) hf' (fun fr' a'' w'' e'=>hQ fr' a'' w'' (e.trans e')) h3
   split
   ·rename_i hw;rw [if_pos hw] at this;exact .inl this
   ·rename_i hw;rw [if_neg hw] at this;exact this

theorem ZIc {j:Nat} {oi oj:Oper} {di:Dat} (hj:ops[j]?=some oj) (hap:oi.apart ops oj=true) {K:List Dat->Prop} (hy:SYG P ops hp oi fr di) (h:sOp P ops hp j K (ZA fr oi.dst di)) :
  sOp P ops hp j (fun f=>SYG P ops hp oi f di/\K (ZA f oi.dst di)) fr:=by
 obtain ⟨h1,h2,h3⟩:=Oper.apart_spec hap
 unfold sOp at *
 simp only [hj] at *
 obtain ⟨d,hd,hk⟩:=h
 refine ⟨d,hd.same (ZAG _ _ _).symm fun t ht=>(ZAb fun e=>h1 t e ht).symm,hy.same (ZAG _ _ _) fun t ht=>ZAb fun e=>h3 t e ht,?_⟩
 rw [<- ZDO fr di d h2]
 exact hk

theorem ZDR {md:Region.Mode} {Q:List Dat->Prop} {i:Nat} {oi:Oper} {di:Dat} (hi:ops[i]?=some oi) :
  ∀ (fuel:Nat) (listed:Array Bool) (fr:List Dat),
   (∀ j oj,ops[j]?=some oj->j≠i->listed.getD j true=false->(∀ e∈oj.after,Region.binds md e=true->e.on≠i)->oi.apart ops oj=true) ->
   i∈Region.ready md ops listed->SYG P ops hp oi fr di ->
   ZDQ P md ops hp Q fuel (listed.setIfInBounds i true) (ZA fr oi.dst di)->ZDQ P md ops hp Q (fuel+1) listed fr:=by
 have one:∀ {K:List Dat->Prop} {fr:List Dat},SYG P ops hp oi fr di->K (ZA fr oi.dst di)->sOp P ops hp i K fr:=fun hy hk=>by unfold sOp;simp only [hi];exact ⟨di,hy,hk⟩
 intro fuel
 induction fuel with
 | zero =>
  intro listed fr _ hr hy H
  refine ⟨fun h=>(by rw [h] at hr;cases hr),fun j hj=>?_⟩
  by_cases hji:j=i
  ·subst hji;exact one hy H
  ·have:=ready_mono hj hji
   rw [H.1] at this
   cases this
 | succ fuel ih =>
  intro listed fr hfree hr hy H
  refine ⟨fun h=>(by rw [h] at hr;cases hr),fun j hj=>?_⟩
  by_cases hji:j=i
  ·subst hji;exact one hy H
  ·have h1:=H.2 j (ready_mono hj hji)
   obtain ⟨hjun,oj,hoj,hall⟩:=mem_ready.1 hj
   have hnot:∀ e∈oj.after,Region.binds md e=true->e.on≠i:=fun e he hb heq=>by
    have h1:=hall e he hb
    have h0:=(mem_ready.1 hr).1
    rw [heq] at h1
    rcases Nat.lt_or_ge i listed.size with h'|h'
    ·simp [h'] at h0 h1;rw [h0] at h1;cases h1
    ·simp [Array.getElem?_eq_none h'] at h1
   have h2:=ZIc hoj (hfree j oj hoj hji hjun hnot) hy h1
   have hfree':∀ k ok,ops[k]?=some ok->k≠i->(listed.setIfInBounds j true).getD k true=false ->
     (∀ e∈ok.after,Region.binds md e=true->e.on≠i)->oi.apart ops ok=true:=fun k ok hk hki hun hno=>by
    refine hfree k ok hk hki ?_ hno
    by_cases hjk:j=k
    ·subst hjk;exact hjun
    ·rw [getD_set_ne true hjk] at hun;exact hun
   refine ZF0 (fun f h3=>ih (listed.setIfInBounds j true) f hfree' (ready_mono hr (Ne.symm hji)) h3.1 ?_) h2
   rw [Array.setIfInBounds_comm _ _ hji]
   exact h3.2

inductive WD (P:Program) (ops:Array Oper) (hp:List HObj) (Q:List Dat->Prop):List Oper->List Dat->Prop
 | nil {fr:List Dat}:Q fr->WD P ops hp Q [] fr
 | op {o:Oper} {rest:List Oper} {fr:List Dat} {d:Dat}:SYG P ops hp o fr d->WD P ops hp Q rest (ZA fr o.dst d)->WD P ops hp Q (o::rest) fr

theorem ZCj {md:Region.Mode} {Q:List Dat->Prop}:∀ (l:List Oper) (k:Nat) (listed:Array Bool) (fr:List Dat),(∀ j,l[j]?=ops[k+j]?) ->
  Region.lexFrom md ops l.length k listed=true->WD P ops hp Q l fr->ZDQ P md ops hp Q l.length listed fr
 | [],_,_,_,_,hB,h=>⟨by simpa [Region.lexFrom] using hB,by cases h;assumption⟩
 | o::l,k,listed,fr,hl,hB,h=>by
  have h0:ops[k]?=some o:=by simpa using (hl 0).symm
  simp only [List.length_cons,Region.lexFrom,Bool.and_eq_true] at hB
  obtain ⟨⟨hr,hf⟩,hB'⟩:=hB
  cases h
  rename_i d hy hK
  exact ZDR h0 l.length listed fr (Region.free_spec h0 hf) (by simpa using hr) hy
   (ZCj l (k+1) _ _ (fun j=>by have:=hl (j+1);simpa [Nat.add_assoc,Nat.add_comm 1 j] using this) hB' hK)
end

abbrev ZAW:=Exit->List Dat->List HObj->Prop
def ZCE (Q:ZAW) (P0:Nat->Prop) (B:Nat) (w0:World):Exit->Act->World->Prop:=fun e a w=>∃ fr hp,Q e fr hp/\Hp P0 B w0 hp w/\Fr (Imm P0 B hp) w a fr
structure WL (P:Program) (ops:Array Oper) (Q:ZAW) (rest:List Oper) (fr:List Dat) (hp:List HObj):Prop where
 of ::
 out:∀ (P0:Nat->Prop) (B:Nat) (w0 w:World) (a:Act),Hp P0 B w0 hp w->Fr (Imm P0 B hp) w a fr->wpList P ops (ZCE Q P0 B w0) rest a w
structure WC (P:Program) (Q:ZAW) (c:Code) (fr:List Dat) (hp:List HObj):Prop where
 of ::
 out:∀ (P0:Nat->Prop) (B:Nat) (w0 w:World) (a:Act),Hp P0 B w0 hp w->Fr (Imm P0 B hp) w a fr->c.wp P (ZCE Q P0 B w0) a w
theorem WL.on {P:Program} {ops:Array Oper} {Q:ZAW} {rest:List Oper} {fr:List Dat} {hp:List HObj} (h:WL P ops Q rest fr hp) {P0:Nat->Prop} {B:Nat} {w0 w:World} {a:Act} (hh:Hp P0 B w0 hp w) (hf:Fr (Imm P0 B hp) w a fr):wpList P ops (ZCE Q P0 B w0) rest a w:=h.out _ _ _ _ _ hh hf
theorem WC.on {P:Program} {Q:ZAW} {c:Code} {fr:List Dat} {hp:List HObj} (h:WC P Q c fr hp) {P0:Nat->Prop} {B:Nat} {w0 w:World} {a:Act} (hh:Hp P0 B w0 hp w) (hf:Fr (Imm P0 B hp) w a fr):c.wp P (ZCE Q P0 B w0) a w:=h.out _ _ _ _ _ hh hf
def ThenD (n:List Dat->List HObj->Prop) (Q:ZAW):ZAW:=fun e fr hp=>match e with|.normal=>n fr hp|e=>Q e fr hp
def InBlockD (id:Nat) (Q:ZAW):ZAW:=fun e fr hp=>match e with|.exit id'=>if id'=id then Q .normal fr hp else Q (.exit id') fr hp|e=>Q e fr hp

section
variable {P:Program} {ops:Array Oper} {hp:List HObj} {o:Oper} {fr fr':List Dat} {d:Dat} {Q:ZAW} {rest:List Oper}
theorem WL.nil (h:Q .normal fr hp):WL P ops Q [] fr hp:=WL.of fun _ _ _ _ _ hh hf=>⟨fr,hp,h,hh,hf⟩
theorem ZS (h:SYG P ops hp o fr d) (k:WL P ops Q rest (ZA fr o.dst d) hp):WL P ops Q (o::rest) fr hp:=by
 refine WL.of fun P0 B w0 w a hh hf=>?_
 have:=h.step (Q:=ZCE Q P0 B w0) hh hf (K:=wpList P ops (ZCE Q P0 B w0) rest) fun a' w' e hf'=>k.on (hh.ext e) hf'
 unfold wpList
 split
 ·rename_i hw;rw [if_pos hw] at this;exact .inl this
 ·rename_i hw;rw [if_neg hw] at this;exact this
theorem Zc (hg:o.guard=none):WantS ops o fr true:=⟨fun _ _ _ _=>by simp [Region.wanted,hg]⟩
theorem WL.op (hg:o.guard=none) (h:SY P ops hp o fr d) (k:WL P ops Q rest (ZA fr o.dst d) hp):WL P ops Q (o::rest) fr hp:=ZS (.inl ⟨Zc hg,h⟩) k
theorem WL.weak (h:WL P ops Q rest fr' hp) (hl:fr.length=fr'.length) (k:∀ (t:Nat) (d:Dat),fr'[t]?=some d->∃ d0:Dat,fr[t]?=some d0/\d0.le d):WL P ops Q rest fr hp:=WL.of fun _ _ _ _ _ hh hf=>h.on hh (hf.weak hl k)

theorem WC.region {id:Nat} {l:List Oper} (h:WL P l.toArray Q l fr hp):WC P Q (.region id l.toArray false) fr hp:=WC.of fun _ _ _ _ _ hh hf=>wp_region_lit (h.on hh hf)
theorem WC.draw {id:Nat} {l:List Oper} (hm:P.follows .mixedOrders=true) (hB:Region.lexB .any l.toArray=true) (h:WD P l.toArray hp (fun f=>Q .normal f hp) l fr):WC P Q (.region id l.toArray true) fr hp:=by
 refine WC.of fun P0 B w0 w a hh hf=>?_
 simp only [Region.lexB,Bool.and_eq_true] at hB
 have hx:Ext w { w with drawn:=w.drawn+1 }:=(Ext.refl w).drew
 refine wp_region_any hm (ZBi (Q:=fun f=>Q .normal f hp) _ _ fr _ _ (hh.ext hx) (hf.ext hx) (fun fr' a' w' e hf' hq=>⟨fr',hp,hq,(hh.ext hx).ext e,hf'⟩) ?_)
 have:=ZCj (md:=.any) l 0 (Array.replicate l.toArray.size false) fr (by simp) (by simpa using hB.2) h
 simpa using this
theorem WC.mono {Q':ZAW} {c:Code} (h:WC P Q c fr hp) (k:∀ e f p,Q e f p->Q' e f p):WC P Q' c fr hp:=WC.of fun _ _ _ _ _ hh hf=>Code.wp_mono (fun _ _ _ ⟨f,p,q,r⟩=>⟨f,p,k _ _ _ q,r⟩) (h.on hh hf)
theorem WC.seq {x y:Code} (h:WC P (ThenD (WC P Q y) Q) x fr hp):WC P Q (.seq x y) fr hp:=WC.of fun P0 B w0 w a hh hf=>wp_seq (Code.wp_mono (fun e a' w' ⟨f,p,q,r,s⟩=>by
 cases e with
 | normal=>exact (q:WC P Q y f p).on r s
 | _=>exact ⟨f,p,q,r,s⟩) (h.on hh hf))
theorem WC.skip (h:Q .normal fr hp):WC P Q .skip fr hp:=WC.of fun _ _ _ _ _ hh hf=>wp_skip ⟨fr,hp,h,hh,hf⟩
theorem WC.ret (h:Q .ret fr hp):WC P Q .ret fr hp:=WC.of fun _ _ _ _ _ hh hf=>wp_ret ⟨fr,hp,h,hh,hf⟩
theorem WC.exit {id:Nat} (h:Q (.exit id) fr hp):WC P Q (.exit id) fr hp:=WC.of fun _ _ _ _ _ hh hf=>wp_exit ⟨fr,hp,h,hh,hf⟩
theorem WC.block {id:Nat} {c:Code} (h:WC P (InBlockD id Q) c fr hp):WC P Q (.block id c) fr hp:=WC.of fun P0 B w0 w a hh hf=>wp_block (Code.wp_mono (fun e a' w' ⟨f,p,q,r,s⟩=>by
 cases e with
 | exit id' =>
  simp only [Exit.inBlock]
  simp only [InBlockD] at q
  split
  ·rename_i hi;rw [if_pos hi] at q;exact ⟨f,p,q,r,s⟩
  ·rename_i hi;rw [if_neg hi] at q;exact ⟨f,p,q,r,s⟩
 | _=>exact ⟨f,p,q,r,s⟩) (h.on hh hf))
theorem OpD.ev {fr:List Dat} {x:Operand} {d:Dat} {I:Nat->Prop} {w:World} {a:Act} (h:OpD fr x d) (ho:Fr I w a fr):d.rd I w (a.eval x):=by
 cases x with
 | tmp t =>
  obtain ⟨d0,h0,h1⟩:=h.out
  exact h1 _ _ _ (ho.rd t d0 h0)
 | const v=>exact h.out _ _ _ rfl
 | func f=>exact h.out _ _ _ rfl
 | global g=>exact h.out _ _ _ rfl
theorem WC.cond {c:Operand} {x y:Code} {b:Bool} (hc:OpD fr c (dB b)) (ht:b=true->WC P Q x fr hp) (hf:b=false->WC P Q y fr hp):WC P Q (.cond c x y) fr hp:=WC.of fun _ _ _ _ _ hh hfr =>
 wp_cond_split (t:=b) (hc.ev hfr) (fun h=>(ht h).on hh hfr) (fun h=>(hf h).on hh hfr)
theorem WC.weak {c:Code} (h:WC P Q c fr' hp) (hl:fr.length=fr'.length) (k:∀ (t:Nat) (d:Dat),fr'[t]?=some d->∃ d0:Dat,fr[t]?=some d0/\d0.le d):WC P Q c fr hp:=WC.of fun _ _ _ _ _ hh hf=>h.on hh (hf.weak hl k)
theorem WC.loop {X:Type} {c:Code} (F:X->List Dat) (H:X->List HObj) (μ:X->Nat) (p:X->Prop) (x0:X) (h0:p x0) (hF:fr.length=(F x0).length/\∀ (t:Nat) (d:Dat),(F x0)[t]?=some d->∃ d0:Dat,fr[t]?=some d0/\d0.le d) (hH:hp=H x0)
  (round:∀ x,p x->WC P (ThenD (fun f q=>∃ x',p x'/\μ x'<μ x/\q=H x'/\f.length=(F x').length/\∀ (t:Nat) (d:Dat),(F x')[t]?=some d->∃ d0:Dat,f[t]?=some d0/\d0.le d) Q) c (F x) (H x)):WC P Q (.loop c) fr hp:=by
 refine WC.of fun P0 B w0 w a hh hf=>?_
 have hf1:=hf.weak hF.1 hF.2
 subst hH
 intro b k cs
 have key:∀ (n:Nat) (x:X) (a':Act) (w':World),μ x=n->p x->Hp P0 B w0 (H x) w'->Fr (Imm P0 B (H x)) w' a' (F x) ->
   ∃ e a2 w2,ZCE Q P0 B w0 e a2 w2/\Arrives P (lone (b.at a' (.code c :: .inLoop c::k)) cs w') b k cs e a2 w2:=by
  intro n
  induction n using Nat.strongRecOn with
  | _ n ih =>
   intro x a' w' hn hp' hh' hf'
   obtain ⟨e,a1,w1,hq,harr⟩:=(round x hp').on hh' hf' b (.inLoop c::k) cs
   cases e with
   | normal =>
    obtain ⟨f,q,hq,h1,h2⟩:=hq
    obtain ⟨x',px,hlt,rfl,hl,hle⟩:=(hq:∃ x',_)
    obtain ⟨e2,a2,w2,hq2,harr2⟩:=ih (μ x') (hn ▸ hlt) x' a1 w1 rfl px h1 (h2.weak hl hle)
    exact ⟨e2,a2,w2,hq2,.of_steps (Steps.trans harr (.one step_inLoop)) harr2⟩
   | exit id=>exact ⟨_,a1,w1,hq,.pass (x:=.inLoop c) rfl (fun _ _=>.inl (by simp)) harr⟩
   | goto l=>exact ⟨_,a1,w1,hq,.pass (x:=.inLoop c) rfl (fun _ _=>.inl (by simp)) harr⟩
   | ret=>exact ⟨_,a1,w1,hq,.pass (x:=.inLoop c) rfl (fun _ _=>.inl (by simp)) harr⟩
   | panic ch=>exact ⟨_,a1,w1,hq,.pass (x:=.inLoop c) rfl (fun _ _=>.inl (by simp)) harr⟩
   | outgrown=>exact ⟨_,a1,w1,hq,.pass (x:=.inLoop c) rfl (fun _ _=>.inl (by simp)) harr⟩
 obtain ⟨e,a',w',hq,harr⟩:=key _ x0 a w rfl h0 hh hf1
 exact ⟨e,a',w',hq,.of_steps (.one step_loop) harr⟩
end

end
end Go.Proofs.YtekiljakcngcoaaGreatDoor
