/- Part 2: walks by contracts, and plain laws. -/
import Derived.BigQuiet
import Derived.Lib.Hide
import Derived.Maps.AppendAt
import Derived.OwnWalkIn
import Derived.WalkKit
set_option linter.unusedVariables false
set_option linter.unusedSimpArgs false
set_option linter.unusedSectionVars false
set_option maxRecDepth 100000
set_option maxHeartbeats 4000000
namespace Go.Proofs.YtekiljakcngcoaaGreatDoor
section
open Go.RowKit

abbrev Ext (w w':World):Prop:=Below w.heap.size w w'
theorem Ext.refl (w:World):Ext w w:=Below.refl _ _
theorem Ext.trans {a b c:World} (h:Ext a b) (k:Ext b c):Ext a c:=Below.trans h (Below.mono k h.size)
theorem Ext.drew {a w:World} (h:Ext a w):Ext a w.drew:=Below.drew h
theorem Ext.drewN {a w:World} (h:Ext a w) (n:Nat):Ext a (w.drewN n):=⟨h.os,h.tape,h.output,h.size,h.block⟩
theorem Ext.alloc {a w:World} (h:Ext a w) (o:Obj):Ext a (w.alloc o):=Below.alloc h h.size o
theorem Ext.of_alloc (w:World) (o:Obj):Ext w (w.alloc o):=(Ext.refl w).alloc o
theorem ZBh {w:World} {a:Addr} {v:Value} (h:w.cell? a=some v):a.block<w.heap.size:=World.block_lt_of_cell? w a h
theorem Ext.cell {w w':World} (h:Ext w w') {p:Addr} {v:Value} (hc:w.cell? p=some v):w'.cell? p=some v:=(Below.cell h (ZBh hc)).trans hc
theorem Ext.frozen {w w':World} (h:Ext w w') {p:Addr} (hp:p.block<w.heap.size):w'.frozen? p=w.frozen? p:=Below.frozen h hp
theorem ZJD {B:Nat} {a w w':World} (h:Below B a w) (hB:B≤w.heap.size) (e:Ext w w'):Below B a w':=Below.trans h (Below.mono e hB)

abbrev Rel (α:Type):=(Nat->Prop)->World->Value->α->Prop

class Good {α:Type} (R:Rel α):Prop where
 weak:∀ {P P':Nat->Prop} {w:World} {v:Value} {x:α},R P w v x->(∀ k,P k->P' k)->R P' w v x
 move:∀ {P:Nat->Prop} {w w':World} {v:Value} {x:α},R P w v x->(∀ k,P k->k<w.heap.size->w'.heap[k]?=w.heap[k]?)->R P w' v x
 bound:∀ {P:Nat->Prop} {w:World} {v:Value} {x:α},R P w v x->R (fun k=>P k/\k<w.heap.size) w v x

theorem Good.ext {α:Type} {R:Rel α} [Good R] {P:Nat->Prop} {w w':World} {v:Value} {x:α} (h:R P w v x) (e:Ext w w'):R P w' v x :=
 Good.move h fun k _ hk=>Below.block e k hk
theorem Good.grown {α:Type} {R:Rel α} [Good R] {P:Nat->Prop} {w w':World} {row:Option Nat} {v:Value} {x:α} (h:R P w v x) (e:w.grownBy w' row) (hr:∀ k,row=some k->¬ P k):R P w' v x :=
 Good.move h fun k hk hlt=>e.block k hlt (fun he=>hr k he.symm hk)
abbrev anyB:Nat->Prop:=fun _=>True
theorem Good.any {α:Type} {R:Rel α} [Good R] {P:Nat->Prop} {w:World} {v:Value} {x:α} (h:R P w v x):R anyB w v x:=Good.weak h fun _ _=>trivial

def RI:Rel Int:=fun _ _ v x=>v = .int .i64 x
instance:Good RI:=⟨fun h _=>h,fun h _=>h,fun h=>h⟩
def RB:Rel Bool:=fun _ _ v x=>v = .bool x
instance:Good RB:=⟨fun h _=>h,fun h _=>h,fun h=>h⟩
def RV:Rel (Int × Int):=fun _ _ v x=>v = .agg #[.int .i64 x.1,.int .i64 x.2]
instance:Good RV:=⟨fun h _=>h,fun h _=>h,fun h=>h⟩

theorem ZDA {w w':World} {a:Addr} (h:w'.heap[a.block]?=w.heap[a.block]?):w'.cell? a=w.cell? a:=World.cell?_of_block h

def Arr {α:Type} (R:Rel α):Rel (List α):=fun P w v xs =>
 ∃ a cap,v = .slice a xs.length cap/\xs.length≤cap/\cap≤maxLen /\
  ∀ k (h:k<xs.length),∃ u b off,R P w u xs[k]/\u.oneCell'=true/\a=some ⟨b,off,none⟩/\P b/\w.cell? ⟨b,off+k,none⟩=some u

instance {α:Type} (R:Rel α) [Good R]:Good (Arr R) where
 weak:=fun ⟨a,cap,hv,h1,h2,h3⟩ hP=>⟨a,cap,hv,h1,h2,fun k hk=>let ⟨u,b,off,r1,r2,r3,r4,r5⟩:=h3 k hk;⟨u,b,off,Good.weak r1 hP,r2,r3,hP b r4,r5⟩⟩
 move:=fun ⟨a,cap,hv,h1,h2,h3⟩ hm=>⟨a,cap,hv,h1,h2,fun k hk=>let ⟨u,b,off,r1,r2,r3,r4,r5⟩:=h3 k hk;⟨u,b,off,Good.move r1 hm,r2,r3,r4,(ZDA (a:=⟨b,off+k,none⟩) (hm b r4 (ZBh r5))).trans r5⟩⟩
 bound:=fun ⟨a,cap,hv,h1,h2,h3⟩=>⟨a,cap,hv,h1,h2,fun k hk=>let ⟨u,b,off,r1,r2,r3,r4,r5⟩:=h3 k hk;⟨u,b,off,Good.bound r1,r2,r3,⟨r4,ZBh r5⟩,r5⟩⟩

def ArrK {α:Type} (n:Nat) (R:Rel α):Rel (List α):=fun P w v xs =>
 ∃ a cap,v = .slice a xs.length cap/\xs.length≤cap/\cap≤maxLen/\0<n /\
  ∀ k (h:k<xs.length),∃ (cs:List Value) (b off:Nat),R P w (.agg cs.toArray) xs[k]/\cs.length=n/\(∀ c∈cs,c.oneCell'=true)/\a=some ⟨b,off,none⟩/\P b /\
   ∀ j c,cs[j]?=some c->w.cell? ⟨b,off+k*n+j,none⟩=some c

instance {α:Type} (n:Nat) (R:Rel α) [Good R]:Good (ArrK n R) where
 weak:=fun ⟨a,cap,hv,h1,h2,h0,h3⟩ hP=>⟨a,cap,hv,h1,h2,h0,fun k hk=>let ⟨u,b,off,r1,r2,r3,r4,r5,r6⟩:=h3 k hk;⟨u,b,off,Good.weak r1 hP,r2,r3,r4,hP b r5,r6⟩⟩
 move:=fun ⟨a,cap,hv,h1,h2,h0,h3⟩ hm=>⟨a,cap,hv,h1,h2,h0,fun k hk=>let ⟨u,b,off,r1,r2,r3,r4,r5,r6⟩:=h3 k hk;⟨u,b,off,Good.move r1 hm,r2,r3,r4,r5,fun j c hc=>(ZDA (a:=⟨b,off+k*n+j,none⟩) (hm b r5 (ZBh (r6 j c hc)))).trans (r6 j c hc)⟩⟩
 bound:=fun ⟨a,cap,hv,h1,h2,h0,h3⟩=>⟨a,cap,hv,h1,h2,h0,fun k hk=>let ⟨u,b,off,r1,r2,r3,r4,r5,r6⟩:=h3 k hk;⟨u,b,off,Good.bound r1,r2,r3,r4,⟨r5,by
   have hl:0<u.length:=by omega
   exact ZBh (r6 0 _ (List.getElem?_eq_getElem hl))⟩,r6⟩⟩

abbrev ZCC:Rel (List Int):=Arr RI
abbrev Rows:Rel (List (List Int)):=Arr (Arr RI)
abbrev ZI:Rel (List (Int × Int)):=ArrK 2 RV
abbrev ZAe:Rel (List (List (Int × Int))):=Arr (ArrK 2 RV)

theorem Arr.nil {α:Type} {R:Rel α} {P:Nat->Prop} {w:World} (a:Option Addr) (cap:Nat) (h:cap≤maxLen):Arr R P w (.slice a 0 cap) ([]:List α) :=
 ⟨a,cap,rfl,Nat.zero_le _,h,fun k hk=>absurd hk (Nat.not_lt_zero k)⟩
theorem ZCG {α:Type} {R:Rel α} {P:Nat->Prop} {w:World}:Arr R P w (.slice none 0 0) ([]:List α):=Arr.nil none 0 (by simp [maxLen])
theorem ArrK.nil {α:Type} {n:Nat} (hn:0<n) {R:Rel α} {P:Nat->Prop} {w:World} (a:Option Addr) (cap:Nat) (h:cap≤maxLen):ArrK n R P w (.slice a 0 cap) ([]:List α) :=
 ⟨a,cap,rfl,Nat.zero_le _,h,hn,fun k hk=>absurd hk (Nat.not_lt_zero k)⟩
theorem ZD8 {α:Type} {n:Nat} (hn:0<n) {R:Rel α} {P:Nat->Prop} {w:World}:ArrK n R P w (.slice none 0 0) ([]:List α):=ArrK.nil hn none 0 (by simp [maxLen])

theorem Arr.ext {α:Type} {R:Rel α} [Good R] {P:Nat->Prop} {w w':World} {v:Value} {xs:List α} (h:Arr R P w v xs) (e:Ext w w'):Arr R P w' v xs:=Good.ext h e
theorem ArrK.ext {α:Type} {n:Nat} {R:Rel α} [Good R] {P:Nat->Prop} {w w':World} {v:Value} {xs:List α} (h:ArrK n R P w v xs) (e:Ext w w'):ArrK n R P w' v xs:=Good.ext h e
theorem Arr.any {α:Type} {R:Rel α} [Good R] {P:Nat->Prop} {w:World} {v:Value} {xs:List α} (h:Arr R P w v xs):Arr R anyB w v xs:=Good.any h
theorem ArrK.any {α:Type} {n:Nat} {R:Rel α} [Good R] {P:Nat->Prop} {w:World} {v:Value} {xs:List α} (h:ArrK n R P w v xs):ArrK n R anyB w v xs:=Good.any h

def Len (v:Value) (n:Nat):Prop:=∃ a cap,v = .slice a n cap
theorem Arr.len {α:Type} {R:Rel α} {P:Nat->Prop} {w:World} {v:Value} {xs:List α} (h:Arr R P w v xs):Len v xs.length:=let ⟨a,cap,hv,_⟩:=h;⟨a,cap,hv⟩
theorem ArrK.len {α:Type} {n:Nat} {R:Rel α} {P:Nat->Prop} {w:World} {v:Value} {xs:List α} (h:ArrK n R P w v xs):Len v xs.length:=let ⟨a,cap,hv,_⟩:=h;⟨a,cap,hv⟩
theorem Arr.le {α:Type} {R:Rel α} {P:Nat->Prop} {w:World} {v:Value} {xs:List α} (h:Arr R P w v xs):(xs.length:Int)≤9223372036854775807:=by
 obtain ⟨a,cap,hv,h1,h2,_⟩:=h
 simp only [maxLen] at h2
 omega
theorem ArrK.le {α:Type} {n:Nat} {R:Rel α} {P:Nat->Prop} {w:World} {v:Value} {xs:List α} (h:ArrK n R P w v xs):(xs.length:Int)≤9223372036854775807:=by
 obtain ⟨a,cap,hv,h1,h2,_⟩:=h
 simp only [maxLen] at h2
 omega

def Own {α:Type} (B:Nat) (e:TypeId) (R:Rel α):Rel (List α):=fun P w v xs =>
 ∃ us:List Value,us.length=xs.length/\w.ownsRow B e 1 v xs.length us /\
  ∀ k (h:k<us.length) (h':k<xs.length),us[k].oneCell'=true/\R (fun b=>P b/\v.ownBlock≠some b) w us[k] xs[k]

def OwnK {α:Type} (B:Nat) (e:TypeId) (n:Nat) (R:Rel α):Rel (List α):=fun P w v xs =>
 ∃ us:List (List Value),us.length=xs.length/\(∀ u∈us,u.length=n/\∀ c∈u,c.oneCell'=true)/\0<n/\w.ownsRow B e n v xs.length us.flatten /\
  ∀ k (h:k<us.length) (h':k<xs.length),R (fun b=>P b/\v.ownBlock≠some b) w (.agg us[k].toArray) xs[k]

section
variable {α:Type} {R:Rel α} {P:Nat->Prop} {w:World} {v:Value} {xs:List α} {B:Nat} {e:TypeId} {n:Nat}

theorem Own.nil:Own B e R P w (.slice none 0 0) ([]:List α):=⟨[],rfl,World.ownsRow_nil w B e 1,fun k h=>absurd h (Nat.not_lt_zero k)⟩
theorem OwnK.nil (hn:0<n):OwnK B e n R P w (.slice none 0 0) ([]:List α):=⟨[],rfl,fun u hu=>by simp at hu,hn,World.ownsRow_nil w B e n,fun k h=>absurd h (Nat.not_lt_zero k)⟩

theorem ZAJ {size m:Nat} {cs:List Value} (h:w.ownsRow B e size v m cs):∃ a cap,v = .slice a m cap/\m≤cap/\cap≤maxLen /\
  ∀ j u,cs[j]?=some u->∃ g,a=some ⟨g,0,none⟩/\v.ownBlock=some g/\B≤g/\w.cell? ⟨g,j,none⟩=some u:=by
 have hlt:=h.lt
 rcases h.2 with ⟨rfl,rfl⟩|⟨g,cap,cur,rfl,hb,hg,hnc,hcm,hcs,ht⟩
 ·refine ⟨none,0,rfl,Nat.le_refl _,by simp [maxLen],fun j u hu=>?_⟩
  have:cs=[]:=List.eq_nil_of_length_eq_zero (by simpa using h.1)
  subst this;simp at hu
 ·refine ⟨some ⟨g,0,none⟩,cap,rfl,hnc,hcm,fun j u hu=>⟨g,rfl,rfl,hb,?_⟩⟩
  have:=h.cells (g:=g) rfl j u hu
  rwa [Addr.add_lit,Nat.zero_add] at this

theorem Own.arr [Good R] (h:Own B e R P w v xs):Arr R (fun k=>P k\/B≤k) w v xs:=by
 obtain ⟨us,hl,ho,he⟩:=h
 obtain ⟨a,cap,hv,h1,h2,h3⟩:=ZAJ ho
 refine ⟨a,cap,hv,h1,h2,fun k hk=>?_⟩
 have hk':k<us.length:=by omega
 obtain ⟨g,ha,_,hB,hc⟩:=h3 k us[k] (List.getElem?_eq_getElem hk')
 obtain ⟨r1,r2⟩:=he k hk' hk
 exact ⟨us[k],g,0,Good.weak r2 (fun b hb=>.inl hb.1),r1,ha,.inr hB,by rw [Nat.zero_add];exact hc⟩
theorem Own.len (h:Own B e R P w v xs):Len v xs.length:=by
 obtain ⟨us,hl,ho,he⟩:=h
 obtain ⟨a,cap,hv,_⟩:=ZAJ ho
 exact ⟨a,cap,hv⟩
theorem Own.le (h:Own B e R P w v xs):(xs.length:Int)≤9223372036854775807:=by
 obtain ⟨us,hl,ho,he⟩:=h
 obtain ⟨a,cap,hv,h1,h2,_⟩:=ZAJ ho
 simp only [maxLen] at h2;omega

theorem ZAV {us:List (List Value)} {n:Nat} (h:∀ u∈us,u.length=n):∀ {k j:Nat} (hk:k<us.length) {c:Value},us[k][j]?=some c->us.flatten[k*n+j]?=some c:=by
 induction us with
 | nil=>intro k j hk;exact absurd hk (Nat.not_lt_zero k)
 | cons u us ih =>
  intro k j hk c hc
  have hu:u.length=n:=h u (by simp)
  cases k with
  | zero =>
   simp only [List.getElem_cons_zero] at hc
   have hj:j<u.length:=(List.getElem?_eq_some_iff.1 hc).1
   rw [List.flatten_cons,Nat.zero_mul,Nat.zero_add,List.getElem?_append_left hj]
   exact hc
  | succ k =>
   have hk':k<us.length:=by simpa using hk
   have hc':us[k][j]?=some c:=by simpa using hc
   have:=ih (fun x hx=>h x (by simp [hx])) hk' hc'
   rw [List.flatten_cons,List.getElem?_append_right (by rw [hu,Nat.succ_mul];omega),hu,Nat.succ_mul]
   have e:k*n+n+j-n=k*n+j:=by omega
   rw [e];exact this

theorem ZQG [Good R] (h:OwnK B e n R P w v xs):ArrK n R (fun k=>P k\/B≤k) w v xs:=by
 obtain ⟨us,hl,hu,hn,ho,he⟩:=h
 obtain ⟨a,cap,hv,h1,h2,h3⟩:=ZAJ ho
 refine ⟨a,cap,hv,h1,h2,hn,fun k hk=>?_⟩
 have hk':k<us.length:=by omega
 have hmem:=hu us[k] (List.getElem_mem hk')
 have hlen:∀ u∈us,u.length=n:=fun u h=>(hu u h).1
 have hc0:0<us[k].length:=by rw [hmem.1];exact hn
 obtain ⟨g,ha,_,hB,_⟩:=h3 (k*n+0) us[k][0] (ZAV hlen hk' (List.getElem?_eq_getElem hc0))
 refine ⟨us[k],g,0,Good.weak (he k hk' hk) (fun b hb=>.inl hb.1),hmem.1,hmem.2,ha,.inr hB,fun j c hc=>?_⟩
 obtain ⟨g',ha',_,_,hc'⟩:=h3 (k*n+j) c (ZAV hlen hk' hc)
 rw [ha] at ha'
 cases ha'
 rw [Nat.zero_add];exact hc'
theorem OwnK.len (h:OwnK B e n R P w v xs):Len v xs.length:=by
 obtain ⟨us,hl,hu,hn,ho,he⟩:=h
 obtain ⟨a,cap,hv,_⟩:=ZAJ ho
 exact ⟨a,cap,hv⟩
theorem OwnK.le (h:OwnK B e n R P w v xs):(xs.length:Int)≤9223372036854775807:=by
 obtain ⟨us,hl,hu,hn,ho,he⟩:=h
 obtain ⟨a,cap,hv,h1,h2,_⟩:=ZAJ ho
 simp only [maxLen] at h2;omega

theorem Own.ext [Good R] (h:Own B e R P w v xs) {w':World} (x:Ext w w'):Own B e R P w' v xs:=by
 obtain ⟨us,hl,ho,he⟩:=h
 refine ⟨us,hl,?_,fun k h1 h2=>⟨(he k h1 h2).1,Good.ext (he k h1 h2).2 x⟩⟩
 exact ho.kept (row:=none) ⟨x.os,x.tape,x.output,x.size,fun k hk _=>x.block k hk⟩ (by cases hv:v.ownBlock <;> simp)
theorem OwnK.ext [Good R] (h:OwnK B e n R P w v xs) {w':World} (x:Ext w w'):OwnK B e n R P w' v xs:=by
 obtain ⟨us,hl,hu,hn,ho,he⟩:=h
 refine ⟨us,hl,hu,hn,?_,fun k h1 h2=>Good.ext (he k h1 h2) x⟩
 exact ho.kept (row:=none) ⟨x.os,x.tape,x.output,x.size,fun k hk _=>x.block k hk⟩ (by cases hv:v.ownBlock <;> simp)
end

section
variable {α:Type} {R:Rel α} {P:Nat->Prop} {w w':World} {v v' u:Value} {xs:List α} {B:Nat} {e:TypeId} {n:Nat} {row:Option Nat}
theorem Own.lt (h:Own B e R P w v xs):∀ k,v.ownBlock=some k->B≤k/\k<w.heap.size:=let ⟨_,_,ho,_⟩:=h;ho.lt
theorem OwnK.lt (h:OwnK B e n R P w v xs):∀ k,v.ownBlock=some k->B≤k/\k<w.heap.size:=let ⟨_,_,_,_,ho,_⟩:=h;ho.lt
def Sep (v u:Value):Prop:=v.ownBlock=none\/v.ownBlock≠u.ownBlock
theorem Sep.symm (h:Sep v u):Sep u v:=by
 unfold Sep at *
 cases hu:u.ownBlock with
 | none=>exact .inl rfl
 | some k=>exact .inr (fun hc=>by rcases h with h|h <;> simp_all)
theorem Own.kept [Good R] (h:Own B e R P w v xs) (hg:w.grownBy w' row) (hne:v.ownBlock=none\/v.ownBlock≠row) (hP:∀ k,row=some k->¬ P k):Own B e R P w' v xs:=by
 obtain ⟨us,hl,ho,he⟩:=h
 exact ⟨us,hl,ho.kept hg hne,fun k h1 h2=>⟨(he k h1 h2).1,Good.grown (he k h1 h2).2 hg (fun b hb hc=>hP b hb hc.1)⟩⟩
theorem OwnK.kept [Good R] (h:OwnK B e n R P w v xs) (hg:w.grownBy w' row) (hne:v.ownBlock=none\/v.ownBlock≠row) (hP:∀ k,row=some k->¬ P k):OwnK B e n R P w' v xs:=by
 obtain ⟨us,hl,hu,hn,ho,he⟩:=h
 exact ⟨us,hl,hu,hn,ho.kept hg hne,fun k h1 h2=>Good.grown (he k h1 h2) hg (fun b hb hc=>hP b hb hc.1)⟩
def slLen:Value->Nat
 | .slice _ n _=>n
 | _=>0
theorem Len.sl {v:Value} {n:Nat} (h:Len v n):slLen v=n:=by obtain ⟨a,c,rfl⟩:=h;rfl
theorem ZUN {u':Value} {nb:Nat} (h:Sep v u) (hlt:∀ k,v.ownBlock=some k->k<w.heap.size) (hat:u'.ownBlock=u.ownBlock\/u'.ownBlock=some nb) (hnb:w.heap.size≤nb):Sep v u':=by
 unfold Sep at *
 rcases hat with h'|h'
 ·rw [h'];exact h
 ·cases hv:v.ownBlock with
  | none=>exact .inl rfl
  | some k=>exact .inr (fun hc=>by rw [h'] at hc;cases hc;exact absurd (hlt _ hv) (Nat.not_lt_of_le hnb))
end

structure ElT (P:Program) (t e:TypeId) (n:Nat) (z:Value) (bytes:Nat) (agg:Bool):Prop where
 und:P.underlying t=some (.slice e)
 info:(P.info? e).map (fun i=>(i.zero,i.size,i.bytes))=some (some z,n,bytes)
 agg:∀ w,(isAgg e).run P w = .ok agg w
 zs:z.cells.size=n

section
variable {P:Program} {ops:Array Oper} {rest:List Oper} {o:Oper} {a:Act} {Q:Exit->Act->World->Prop} {w:World}

theorem Zu (hg:o.guard=none) {v:Value} {w':World} (h:(execOp a.eval o).run P w = .ok (.value v) w') (hk:wpList P ops Q rest (a.put o.dst v) w'):wpList P ops Q (o::rest) a w :=
 wpList_plain hg fun K hK=>by unfold Oper.wp;rw [h];exact hK _ _ hk

theorem ZIa {t e:TypeId} {ty:TypeId} {v:Value} {n:Nat} (hu:P.underlying t=some (.slice e)) (hv:Len v n):(Builtin.len_ #[t] ty #[v]).run P w = .ok (.int .i64 n) w:=by
 obtain ⟨x,cap,rfl⟩:=hv
 simp [Builtin.len_,goInt,run_underlying hu]

variable {t e:TypeId} {n bytes:Nat} {z:Value} {agg:Bool}

theorem ElT.size (E:ElT P t e n z bytes agg):(sizeOf e).run P w = .ok n w:=by
 obtain ⟨i,hi,hz,hs,hb⟩:=info_parts E.info
 simp [sizeOf,typeInfo,hi,hs]

theorem ZBL (E:ElT P t e n z bytes agg) (b off len cap k:Nat) (kk:IntKind) (h:k<len) :
  (Instr.indexAt t (.slice (some ⟨b,off,none⟩) len cap) (.int kk (k:Int))).run P w = .ok (.pointer (some ⟨b,off+k*n,none⟩)) w:=by
 obtain ⟨i,hi,hz,hs,hb⟩:=info_parts E.info
 have h0:(0:Int)≤k/\(k:Int)<(len:Nat):=by omega
 simp [Instr.indexAt,asIntOf,run_underlying E.und,sizeOf,typeInfo,hi,hs,h,Addr.add_lit]

theorem ZB5 {u:Value} (h:u.oneCell'=true):u.cells=#[u]:=by cases u <;> simp_all [Value.oneCell',Value.cells]

theorem ZB9 {B m:Nat} (E:ElT P t e n z bytes agg) {ty:TypeId} {v:Value} {cs:List Value} (hown:w.ownsRow B e n v m cs) (cap:Nat) :
  (Builtin.append_ #[t,t] ty #[v,.slice none 0 cap]).run P w = .ok v w:=by
 obtain ⟨i,hi,hz,hsz,hb⟩:=info_parts E.info
 rcases hown.2 with ⟨rfl,rfl⟩|⟨g,c,cur,rfl,_,_,hnc,_⟩
 ·simp [Builtin.append_,run_underlying E.und,sizeOf,typeInfo,hi,Builtin.lenOf,Builtin.firstCells]
 ·simp [Builtin.append_,run_underlying E.und,sizeOf,typeInfo,hi,Builtin.lenOf,Builtin.firstCells,hnc,storeCells]

def Bnd (x:Option Value) (dflt k:Nat):Prop:=(x=none/\k=dflt)\/∃ kk,x=some (.int kk (k:Int))

theorem ZDN (E:ElT P t e n z bytes agg) {ad:Option Addr} {len cap l h:Nat} {lo hi:Option Value} (hlo:Bnd lo 0 l) (hhi:Bnd hi len h) (h1:l≤h) (h2:h≤cap) :
  (Instr.sliceAt t (.slice ad len cap) lo hi none).run P w = .ok (.slice (if cap=l then ad else ad.map (·.add (l*n))) (h-l) (cap-l)) w:=by
 obtain ⟨i,hi',hz,hs,hb⟩:=info_parts E.info
 have a1:(0:Int)≤l/\(l:Int)≤(h:Nat):=by omega
 have a2:(0:Int)≤h/\(h:Int)≤(cap:Nat):=by omega
 rcases hlo with ⟨rfl,rfl⟩|⟨k1,rfl⟩ <;> rcases hhi with ⟨rfl,rfl⟩|⟨k2,rfl⟩ <;>
  simp [Instr.sliceAt,Instr.slice,run_underlying E.und,Instr.sliceBounds,Instr.sliceBound,asIntOf,sizeOf,typeInfo,hi',hs,h1,h2]

variable {C:World->Prop} {QA:Act->Prop}

end

end
end Go.Proofs.YtekiljakcngcoaaGreatDoor
