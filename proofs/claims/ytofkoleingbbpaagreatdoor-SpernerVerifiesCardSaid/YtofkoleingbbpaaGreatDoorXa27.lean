/- Part 27: walks by contracts, and plain laws. -/
set_option linter.unusedVariables false
set_option linter.unusedSimpArgs false
set_option linter.unusedSectionVars false
set_option maxRecDepth 100000
set_option maxHeartbeats 64000000
namespace Go.Proofs.YtofkoleingbbpaaGreatDoor.L05
section
def plus:List Int->List Int->List Int
 | [],b=>b
 | x::a,[]=>x::a
 | x::a,y::b=>if x<y then x::plus a (y::b) else if y<x then y::plus (x::a) b else plus a b
termination_by a b=>a.length+b.length
abbrev Asc (a:List Int):Prop:=a.Pairwise (· < ·)
theorem plus_nil (a:List Int):plus a []=a:=by cases a <;> rw[plus]
theorem nil_plus (a:List Int):plus [] a=a:=by rw[plus]
theorem ZUK {c:Int}:∀(n:Nat) (a b:List Int),a.length+b.length≤n->(∀x∈a,c<x)->(∀x∈b,c<x)->∀x∈plus a b,c<x:=by
 intro n;induction n with
 | zero =>
  intro a b hn ha hb x hx;have h1:a=[]:=List.length_eq_zero_iff.1 (by omega);subst h1;rw[nil_plus] at hx;exact hb x hx
 | succ n ih =>
  intro a b hn ha hb x hx
  match a,b,hn,ha,hb,hx with
  | [],b,_,_,hb,hx=>rw[nil_plus] at hx;exact hb x hx
  | y::a,[],_,ha,_,hx=>rw[plus_nil] at hx;exact ha x hx
  | y::a,z::b,hn,ha,hb,hx =>
   rw[plus] at hx;simp only[List.length_cons] at hn;split at hx
   ·rcases List.mem_cons.1 hx with rfl|hx
    ·exact ha _ (by simp)
    ·exact ih a (z::b) (by simp only[List.length_cons];omega) (fun w hw=>ha w (by simp[hw])) hb x hx
   ·split at hx
    ·rcases List.mem_cons.1 hx with rfl|hx
     ·exact hb _ (by simp)
     ·exact ih (y::a) b (by simp only[List.length_cons];omega) ha (fun w hw=>hb w (by simp[hw])) x hx
    ·exact ih a b (by omega) (fun w hw=>ha w (by simp[hw])) (fun w hw=>hb w (by simp[hw])) x hx
theorem ZI4 {c:Int} {a b:List Int} (ha:∀x∈a,c<x) (hb:∀x∈b,c<x):∀x∈plus a b,c<x:=ZUK _ a b (Nat.le_refl _) ha hb
theorem iffA {p q r:Prop} (h:r->p->False) (h2:r->q->False):(r\/¬ (p↔q))↔¬ ((r\/p)↔q):=by
 by_cases hr:r
 ·have hp:=h hr;have hq:¬ q:=h2 hr;simp[hr,hq]
 ·simp[hr]
theorem ZMh:∀(n:Nat) (a b:List Int),a.length+b.length≤n->Asc a->Asc b->Asc (plus a b)/\∀x,x∈plus a b↔¬ (x∈a↔x∈b):=by
 intro n;induction n with
 | zero =>
  intro a b hn ha hb;have h1:a=[]:=List.length_eq_zero_iff.1 (by omega);subst h1;rw[nil_plus];exact⟨hb,fun x=>by simp⟩
 | succ n ih =>
  intro a b hn ha hb
  match a,b,hn,ha,hb with
  | [],b,_,_,hb=>rw[nil_plus];exact⟨hb,fun x=>by simp⟩
  | y::a,[],_,ha,_=>rw[plus_nil];exact⟨ha,fun x=>by simp only[List.not_mem_nil,iff_false,Classical.not_not]⟩
  | y::a,z::b,hn,ha,hb =>
   simp only[List.length_cons] at hn;obtain⟨ha1,ha2⟩:=List.pairwise_cons.1 ha;obtain⟨hb1,hb2⟩:=List.pairwise_cons.1 hb;rw[plus];split
   ·rename_i hyz;obtain⟨i1,i2⟩:=ih a (z::b) (by simp only[List.length_cons];omega) ha2 hb;have hlt:∀w∈z::b,y<w:=fun w hw=>by
     rcases List.mem_cons.1 hw with rfl|hw
     ·exact hyz
     ·have:=hb1 w hw;omega
    refine⟨List.pairwise_cons.2 ⟨ZI4 ha1 hlt,i1⟩,fun x=>?_⟩;rw[List.mem_cons,i2 x,List.mem_cons (a:=x) (b:=y)];exact iffA (fun e q=>by have:=ha1 x q;omega) (fun e q=>by have:=hlt x q;omega)
   ·rename_i hyz;split
    ·rename_i hzy;obtain⟨i1,i2⟩:=ih (y::a) b (by simp only[List.length_cons];omega) ha hb2;have hlt:∀w∈y::a,z<w:=fun w hw=>by
      rcases List.mem_cons.1 hw with rfl|hw
      ·exact hzy
      ·have:=ha1 w hw;omega
     refine⟨List.pairwise_cons.2 ⟨ZI4 hlt hb1,i1⟩,fun x=>?_⟩;rw[List.mem_cons,i2 x,List.mem_cons (a:=x) (b:=z)];have:=iffA (r:=x=z) (p:=x∈b) (q:=x∈y::a) (fun e q=>by have:=hb1 x q;omega) (fun e q=>by have:=hlt x q;omega);rw[iff_comm (a:=x∈b),iff_comm (a:=x=z\/x∈b)] at this;exact this
    ·rename_i hzy;obtain rfl:y=z:=by omega
     obtain⟨i1,i2⟩:=ih a b (by omega) ha2 hb2;refine⟨i1,fun x=>?_⟩;rw[i2 x,List.mem_cons,List.mem_cons];by_cases hxy:x=y
     ·have h1:¬ x∈a:=fun q=>by have:=ha1 x q;omega
      have h2:¬ x∈b:=fun q=>by have:=hb1 x q;omega
      simp only[hxy,true_or,not_true,iff_false];rw[hxy] at h1 h2;simp only[h1,h2,not_true,not_false_eq_true]
     ·simp only[hxy,false_or]
theorem ZAS {a b:List Int} (ha:Asc a) (hb:Asc b):Asc (plus a b):=(ZMh _ a b (Nat.le_refl _) ha hb).1
theorem ZAa {a b:List Int} (ha:Asc a) (hb:Asc b) {x:Int}:x∈plus a b↔¬ (x∈a↔x∈b):=(ZMh _ a b (Nat.le_refl _) ha hb).2 x
theorem asc_ext:∀ {a b:List Int},Asc a->Asc b->(∀x,x∈a↔x∈b)->a=b
 | [],[],_,_,_=>rfl
 | [],y::b,_,_,h=>absurd ((h y).2 (by simp)) (by simp)
 | x::a,[],_,_,h=>absurd ((h x).1 (by simp)) (by simp)
 | x::a,y::b,ha,hb,h=>by
  obtain⟨ha1,ha2⟩:=List.pairwise_cons.1 ha;obtain⟨hb1,hb2⟩:=List.pairwise_cons.1 hb;have hxy:x=y:=by
   rcases List.mem_cons.1 ((h x).1 (by simp)) with e|e
   ·exact e
   ·rcases List.mem_cons.1 ((h y).2 (by simp)) with e'|e'
    ·exact e'.symm
    ·have:=hb1 x e;have:=ha1 y e';omega
  subst hxy;congr 1;refine asc_ext ha2 hb2 fun z=>⟨fun hz=>?_,fun hz=>?_⟩
  ·rcases List.mem_cons.1 ((h z).1 (by simp[hz])) with e|e
   ·subst e;have:=ha1 z hz;omega
   ·exact e
  ·rcases List.mem_cons.1 ((h z).2 (by simp[hz])) with e|e
   ·subst e;have:=hb1 z hz;omega
   ·exact e
theorem ZHJ {a:List Int} (ha:Asc a):plus a a=[]:=asc_ext (ZAS ha ha) List.Pairwise.nil fun x=>by rw[ZAa ha ha];simp
theorem ZP2 {a b:List Int} (ha:Asc a) (hb:Asc b):plus a b=plus b a:=asc_ext (ZAS ha hb) (ZAS hb ha) fun x=>by
 rw[ZAa ha hb,ZAa hb ha];exact⟨fun h q=>h q.symm,fun h q=>h q.symm⟩
theorem ZDC {a b c:List Int} (ha:Asc a) (hb:Asc b) (hc:Asc c):plus (plus a b) c=plus a (plus b c):=asc_ext (ZAS (ZAS ha hb) hc) (ZAS ha (ZAS hb hc)) fun x=>by
 rw[ZAa (ZAS ha hb) hc,ZAa ha (ZAS hb hc),ZAa ha hb,ZAa hb hc];by_cases h1:x∈a <;> by_cases h2:x∈b <;> by_cases h3:x∈c <;> simp[h1,h2,h3]
inductive Span (B:List (List Int)):List Int->Prop
 | zero:Span B []
 | add {r v:List Int}:r∈B->Span B v->Span B (plus r v)
abbrev AllAsc (B:List (List Int)):Prop:=∀r∈B,Asc r
theorem Span.asc {B:List (List Int)} (hB:AllAsc B) {v:List Int} (h:Span B v):Asc v:=by
 induction h with
 | zero=>exact List.Pairwise.nil
 | add hr _ ih=>exact ZAS (hB _ hr) ih
theorem Span.one {B:List (List Int)} {r:List Int} (h:r∈B):Span B r:=by
 have:=Span.add h Span.zero;rwa[plus_nil] at this
theorem Span.plus {B:List (List Int)} (hB:AllAsc B) {u v:List Int} (hu:Span B u) (hv:Span B v):Span B (plus u v):=by
 induction hu with
 | zero=>rw[nil_plus];exact hv
 | add hr h ih =>
  rw[ZDC (hB _ hr) (h.asc hB) (hv.asc hB)];exact Span.add hr ih
theorem Span.trans {B C:List (List Int)} (hC:AllAsc C) (h:∀r∈B,Span C r) {v:List Int} (hv:Span B v):Span C v:=by
 induction hv with
 | zero=>exact Span.zero
 | add hr _ ih=>exact Span.plus hC (h _ hr) ih
structure Red (B:List (List Int)):Prop where
 asc:AllAsc B
 pos:∀r∈B,r≠[]
 one:∀r∈B,∀s∈B,∀c,r.head?=some c->c∈s->s=r
theorem head_mem {r:List Int} {c:Int} (h:r.head?=some c):c∈r:=by
 cases r with
 | nil=>cases h
 | cons x r=>simp only[List.head?_cons,Option.some.injEq] at h;simp[h]
theorem ZFd {r:List Int} {c:Int} (hr:Asc r) (h:r.head?=some c):∀x∈r,c≤x:=by
 cases r with
 | nil=>cases h
 | cons y r =>
  simp only[List.head?_cons,Option.some.injEq] at h;subst h;intro x hx;rcases List.mem_cons.1 hx with rfl|hx
  ·exact Int.le_refl _
  ·exact Int.le_of_lt ((List.pairwise_cons.1 hr).1 x hx)
theorem ZMz {B:List (List Int)} (hB:Red B) {v:List Int} (h:Span B v):∃S:List (List Int),(∀r∈S,r∈B)/\S.Nodup/\∀n,n∈v↔(S.filter fun r=>decide (n∈r)).length % 2=1:=by
 induction h with
 | zero=>exact⟨[],(fun r hr=>by cases hr),List.nodup_nil,fun n=>by simp⟩
 | @add r v hr hv ih =>
  obtain⟨S,s1,s2,s3⟩:=ih;have hm:=fun n=>@ZAa r v (hB.asc r hr) (hv.asc hB.asc) n;by_cases hrS:r∈S
  ·refine⟨S.erase r,fun s hs=>s1 s (List.mem_of_mem_erase hs),s2.erase r,fun n=>?_⟩;rw[hm n,s3 n];have hp:=(List.perm_cons_erase hrS).filter (fun r=>decide (n∈r));have hl:=hp.length_eq;rw[List.filter_cons] at hl;by_cases hn:n∈r
   ·rw[if_pos (by simpa using hn)] at hl;simp only[List.length_cons] at hl;simp only[hn,true_iff];omega
   ·rw[if_neg (by simpa using hn)] at hl;simp only[hn,false_iff,Classical.not_not];omega
  ·refine⟨r::S,fun s hs=>?_,List.nodup_cons.2 ⟨hrS,s2⟩,fun n=>?_⟩
   ·rcases List.mem_cons.1 hs with rfl|hs
    ·exact hr
    ·exact s1 s hs
   ·rw[hm n,s3 n,List.filter_cons];by_cases hn:n∈r
    ·rw[if_pos (by simpa using hn)];simp only[List.length_cons,hn,true_iff];omega
    ·rw[if_neg (by simpa using hn)];simp only[hn,false_iff,Classical.not_not]
theorem ZLX {S:List (List Int)} (hS:S.Nodup) {r:List Int} {p:List Int->Bool} (hr:r∈S) (hp:p r=true) (ho:∀s∈S,p s=true->s=r):(S.filter p).length=1:=by
 induction S with
 | nil=>cases hr
 | cons s S ih =>
  obtain⟨n1,n2⟩:=List.nodup_cons.1 hS;rw[List.filter_cons];by_cases hs:s=r
  ·subst hs;rw[if_pos hp];have:S.filter p=[]:=List.filter_eq_nil_iff.2 fun t ht hpt=>n1 (by have:=ho t (by simp[ht]) hpt;subst this;exact ht);rw[this];rfl
  ·have hrS:r∈S:=(List.mem_cons.1 hr).resolve_left fun e=>hs e.symm;rw[if_neg (fun q=>hs (ho s (by simp) q))];exact ih n2 hrS fun t ht=>ho t (by simp[ht])
theorem Red.head {B:List (List Int)} (hB:Red B) {v:List Int} (hv:Span B v) {c:Int} (hc:v.head?=some c):∃r∈B,r.head?=some c:=by
 obtain⟨S,s1,s2,s3⟩:=ZMz hB hv;have hva:=hv.asc hB.asc;have h1:=(s3 c).1 (head_mem hc);cases hf:S.filter (fun r=>decide (c∈r)) with
 | nil=>rw[hf] at h1;simp at h1
 | cons r F =>
  have hrF:r∈S.filter (fun r=>decide (c∈r)):=by rw[hf];simp
  obtain⟨hrS,hcr⟩:=List.mem_filter.1 hrF;have hcr:c∈r:=of_decide_eq_true hcr;have hrB:=s1 r hrS;obtain⟨d,hd⟩:∃d,r.head?=some d:=by
   cases r with
   | nil=>exact absurd rfl (hB.pos _ hrB)
   | cons y r=>exact⟨y,rfl⟩
  have hdc:=ZFd (hB.asc r hrB) hd c hcr;have hdv:d∈v:=(s3 d).2 (by
   rw[ZLX s2 hrS (decide_eq_true (head_mem hd)) fun s hs q=>hB.one r hrB s (s1 s hs) d hd (of_decide_eq_true q)])
  have:=ZFd hva hc d hdv;obtain rfl:d=c:=by omega
  exact⟨r,hrB,hd⟩
theorem Red.sub {B C:List (List Int)} (hB:Red B) (hC:Red C) (h1:∀r∈B,Span C r) (h2:∀r∈C,Span B r):∀r∈B,r∈C:=by
 intro r hr;obtain⟨c,hc⟩:∃d,r.head?=some d:=by
  cases r with
  | nil=>exact absurd rfl (hB.pos _ hr)
  | cons y r=>exact⟨y,rfl⟩
 obtain⟨s,hs,hsc⟩:=hC.head (h1 r hr) hc;have hra:=hB.asc r hr;have hsa:=hC.asc s hs;have hsp:Span C (plus r s):=Span.plus hC.asc (h1 r hr) (Span.one hs);cases hp:plus r s with
 | nil =>
  have:r=s:=asc_ext hra hsa fun x=>by
   have:=@ZAa r s hra hsa x;rw[hp] at this;simp only[List.not_mem_nil,false_iff,Classical.not_not] at this;exact this
  subst this;exact hs
 | cons d v =>
  exfalso;rw[hp] at hsp;obtain⟨t,ht,htd⟩:=hC.head hsp (c:=d) rfl;obtain⟨u,hu,hud⟩:=hB.head (h2 t ht) htd;have hd:d∈plus r s:=by rw[hp];simp
  rw[ZAa hra hsa] at hd;by_cases hdr:d∈r
  ·have e:=hB.one u hu r hr d hud hdr;subst e;rw[hc] at hud;cases hud;exact hd ⟨fun _=>head_mem hsc,fun _=>hdr⟩
  ·have hds:d∈s:=Classical.byContradiction fun q=>hd ⟨fun h=>absurd h hdr,fun h=>absurd h q⟩;have e:=hC.one t ht s hs d htd hds;subst e;rw[hsc] at htd;cases htd;exact hd ⟨fun _=>hds,fun _=>head_mem hc⟩
end
section
def ZBw (a b:List Int):Bool:=decide ((a.filter fun x=>decide (x∈b)).length % 2=1)
theorem ZLY (p:Int->Bool):∀(n:Nat) (a b:List Int),a.length+b.length≤n->((plus a b).filter p).length % 2=((a.filter p).length+(b.filter p).length) % 2:=by
 intro n;induction n with
 | zero =>
  intro a b hn;have h1:a=[]:=List.length_eq_zero_iff.1 (by omega);subst h1;rw[nil_plus];simp
 | succ n ih =>
  intro a b hn
  match a,b,hn with
  | [],b,_=>rw[nil_plus];simp
  | y::a,[],_=>rw[plus_nil];simp
  | y::a,z::b,hn =>
   simp only[List.length_cons] at hn;rw[plus];split
   ·have i1:=ih a (z::b) (by simp only[List.length_cons];omega);rw[List.filter_cons,List.filter_cons (x:=y)];split <;> (try simp only[List.length_cons]) <;> omega
   ·split
    ·have i1:=ih (y::a) b (by simp only[List.length_cons];omega);rw[List.filter_cons,List.filter_cons (x:=z)];split <;> (try simp only[List.length_cons]) <;> omega
    ·obtain rfl:y=z:=by omega
     have i1:=ih a b (by omega);rw[List.filter_cons,List.filter_cons];split <;> (try simp only[List.length_cons]) <;> omega
theorem ZMb (a a' b:List Int):ZBw (plus a a') b=(ZBw a b != ZBw a' b):=by
 unfold ZBw;have h:=ZLY (fun x=>decide (x∈b)) _ a a' (Nat.le_refl _);generalize ((plus a a').filter fun x=>decide (x∈b)).length=p at *;generalize (a.filter fun x=>decide (x∈b)).length=q at *;generalize (a'.filter fun x=>decide (x∈b)).length=r at *;by_cases h1:q % 2=1 <;> by_cases h2:r % 2=1
 ·rw[decide_eq_true h1,decide_eq_true h2,decide_eq_false (by omega)];rfl
 ·rw[decide_eq_true h1,decide_eq_false h2,decide_eq_true (by omega)];rfl
 ·rw[decide_eq_false h1,decide_eq_true h2,decide_eq_true (by omega)];rfl
 ·rw[decide_eq_false h1,decide_eq_false h2,decide_eq_false (by omega)];rfl
theorem plus_len:∀(n:Nat) (a b:List Int),a.length+b.length≤n->Asc a->Asc b->(plus a b).length+2*(a.filter fun x=>decide (x∈b)).length=a.length+b.length:=by
 intro n;induction n with
 | zero =>
  intro a b hn _ _;have h1:a=[]:=List.length_eq_zero_iff.1 (by omega);subst h1;rw[nil_plus];simp
 | succ n ih =>
  intro a b hn ha hb
  match a,b,hn,ha,hb with
  | [],b,_,_,_=>rw[nil_plus];simp
  | y::a,[],_,_,_ =>
   rw[plus_nil];have:((y::a).filter fun x=>decide (x∈([]:List Int)))=[]:=List.filter_eq_nil_iff.2 fun x _=>by simp
   rw[this];simp
  | y::a,z::b,hn,ha,hb =>
   simp only[List.length_cons] at hn;obtain⟨ha1,ha2⟩:=List.pairwise_cons.1 ha;obtain⟨hb1,hb2⟩:=List.pairwise_cons.1 hb;rw[plus];split
   ·rename_i hyz;have i1:=ih a (z::b) (by simp only[List.length_cons];omega) ha2 hb;have:y∉z::b:=fun q=>by
     rcases List.mem_cons.1 q with e|q
     ·omega
     ·have:=hb1 y q;omega
    rw[List.filter_cons,if_neg (by simpa using this)];simp only[List.length_cons] at i1 ⊢;omega
   ·rename_i hyz;split
    ·rename_i hzy;have i1:=ih (y::a) b (by simp only[List.length_cons];omega) ha hb2;have e:((y::a).filter fun x=>decide (x∈z::b))=(y::a).filter fun x=>decide (x∈b):=List.filter_congr fun x hx=>by
      have hxz:x≠z:=fun e=>by
       rcases List.mem_cons.1 hx with e'|q
       ·omega
       ·have:=ha1 x q;omega
      simp[hxz]
     rw[e];simp only[List.length_cons] at i1 ⊢;omega
    ·rename_i hzy;obtain rfl:y=z:=by omega
     have i1:=ih a b (by omega) ha2 hb2;have e:(a.filter fun x=>decide (x∈y::b))=a.filter fun x=>decide (x∈b):=List.filter_congr fun x hx=>by
      have hxz:x≠y:=fun e=>by have:=ha1 x hx;omega
      simp[hxz]
     rw[List.filter_cons,if_pos (by simp),e];simp only[List.length_cons] at i1 ⊢;omega
theorem odd_len {a b:List Int} (ha:Asc a) (hb:Asc b):ZBw a b=decide ((a.length+b.length-(plus a b).length) / 2 % 2=1):=by
 have:=plus_len _ a b (Nat.le_refl _) ha hb;unfold ZBw;rw[show(a.length+b.length-(plus a b).length) / 2=(a.filter fun x=>decide (x∈b)).length by omega]
abbrev Low (C:Int) (a:List Int):Prop:=∀x∈a,x<C
theorem plus_low {C:Int} {a b:List Int} (ha:Asc a) (hb:Asc b) (h1:Low C a) (h2:Low C b):Low C (plus a b):=fun x hx=>by
 have:=(ZAa ha hb).1 hx;by_cases h:x∈a
 ·exact h1 x h
 ·exact h2 x (Classical.byContradiction fun q=>this ⟨fun k=>absurd k h,fun k=>absurd k q⟩)
def wd (C:Int) (r:List Int) (o:Bool):List Int:=if o=true then r++[C] else r
theorem ZB4 {C:Int} {r:List Int} {o:Bool} {x:Int}:x∈wd C r o↔x∈r\/(o=true/\x=C):=by
 unfold wd;cases o <;> simp
theorem ZBE {C:Int} {r:List Int} {o:Bool} (h:Asc r) (hl:Low C r):Asc (wd C r o):=by
 unfold wd;cases o
 ·exact h
 ·exact List.pairwise_append.2 ⟨h,List.pairwise_singleton _ _,fun x hx y hy=>by rw[List.mem_singleton.1 hy];exact hl x hx⟩
theorem ZUa {C:Int} {r s:List Int} {o p:Bool} (hr:Asc r) (hs:Asc s) (h1:Low C r) (h2:Low C s):wd C (plus r s) (o != p)=plus (wd C r o) (wd C s p):=by
 refine asc_ext (ZBE (ZAS hr hs) (plus_low hr hs h1 h2)) (ZAS (ZBE hr h1) (ZBE hs h2)) fun x=>?_;rw[ZAa (ZBE hr h1) (ZBE hs h2),ZB4,ZB4,ZB4,ZAa hr hs];by_cases hx:x=C
 ·subst hx;have n1:x∉r:=fun q=>by have:=h1 x q;omega
  have n2:x∉s:=fun q=>by have:=h2 x q;omega
  cases o <;> cases p <;> simp[n1,n2]
 ·simp[hx]
theorem ZUZ {C c:Int} {r:List Int} {o:Bool} (h:r.head?=some c):(wd C r o).head?=some c:=by
 unfold wd;cases r with
 | nil=>cases h
 | cons y r=>cases o <;> simpa using h
end
section
abbrev rw' (rows:List (List Int)) (k:Nat):List Int:=rows.getD k []
def pivN (rows:List (List Int)) (n:Nat) (c:Int):Option Nat:=(List.range rows.length).find? fun k=>decide (n≤k) && decide (c∈rw' rows k)
def swapI (rows:List (List Int)) (i j:Nat):List (List Int):=(rows.set i (rw' rows j)).set j (rw' rows i)
def ZBs (rows:List (List Int)) (n:Nat) (c:Int):List (List Int):=(List.range rows.length).map fun j=>if j≠n/\c∈rw' rows j then plus (rw' rows j) (rw' rows n) else rw' rows j
def stepR (s:List (List Int) × Nat) (c:Nat):List (List Int) × Nat:=match pivN s.1 s.2 (c:Int) with
 | none=>s
 | some k=>(ZBs (swapI s.1 s.2 k) s.2 (c:Int),s.2+1)
def ZSF (rows:List (List Int)) (C:Nat):List (List Int) × Nat:=(List.range C).foldl stepR (rows,0)
theorem redR_succ (rows:List (List Int)) (C:Nat):ZSF rows (C+1)=stepR (ZSF rows C) C:=by simp[ZSF,List.range_succ,List.foldl_append]
theorem pivN_some {rows:List (List Int)} {n:Nat} {c:Int} {k:Nat} (h:pivN rows n c=some k):n≤k/\k<rows.length/\c∈rw' rows k:=by
 have h1:=List.find?_some h;have h2:=List.mem_of_find?_eq_some h;simp only[Bool.and_eq_true,decide_eq_true_eq] at h1;exact⟨h1.1,List.mem_range.1 h2,h1.2⟩
theorem ZPx {rows:List (List Int)} {n:Nat} {c:Int} (h:pivN rows n c=none):∀k,n≤k->k<rows.length->c∉rw' rows k:=fun k h1 h2 h3=>by
 exact List.find?_eq_none.1 h k (List.mem_range.2 h2) (by rw[decide_eq_true h1,decide_eq_true h3];rfl)
theorem rw_get {rows:List (List Int)} {k:Nat} (h:k<rows.length):rw' rows k=rows[k]:=by simp[rw',List.getD_eq_getElem?_getD,List.getElem?_eq_getElem h]
theorem ZIA {rows:List (List Int)} {k:Nat} (h:k<rows.length):rw' rows k∈rows:=by rw[rw_get h];exact List.getElem_mem h
theorem ZH6 {rows:List (List Int)} {r:List Int} (h:r∈rows):∃k,k<rows.length/\rw' rows k=r:=by
 obtain⟨k,hk,e⟩:=List.getElem_of_mem h;exact⟨k,hk,by rw[rw_get hk,e]⟩
theorem swap_len (rows:List (List Int)) (i j:Nat):(swapI rows i j).length=rows.length:=by simp[swapI]
theorem ZJ0 (rows:List (List Int)) (n:Nat) (c:Int):(ZBs rows n c).length=rows.length:=by simp[ZBs]
theorem swap_get {rows:List (List Int)} {i j k:Nat} (hk:k<rows.length):rw' (swapI rows i j) k=if k=j then rw' rows i else if k=i then rw' rows j else rw' rows k:=by
 rw[rw_get (by rw[swap_len];exact hk)];unfold swapI;rw[List.getElem_set];by_cases h1:j=k
 ·rw[if_pos h1,if_pos h1.symm]
 ·rw[if_neg h1,if_neg (fun e=>h1 e.symm),List.getElem_set];by_cases h2:i=k
  ·rw[if_pos h2,if_pos h2.symm]
  ·rw[if_neg h2,if_neg (fun e=>h2 e.symm),rw_get hk]
theorem ZO4 {rows:List (List Int)} {n k:Nat} {c:Int} (hk:k<rows.length):rw' (ZBs rows n c) k=if k≠n/\c∈rw' rows k then plus (rw' rows k) (rw' rows n) else rw' rows k:=by
 rw[rw_get (by rw[ZJ0];exact hk)];unfold ZBs;rw[List.getElem_map,List.getElem_range]
theorem ZIk {v:List Int} {h:Int} (hv:Asc v) (hm:h∈v) (hl:∀x∈v,h≤x):v.head?=some h:=by
 cases v with
 | nil=>cases hm
 | cons y v =>
  have h1:=hl y (by simp);rcases List.mem_cons.1 hm with e|hm
  ·rw[e];rfl
  ·have:=(List.pairwise_cons.1 hv).1 h hm;omega
theorem ZFl {a b:List Int} (ha:Asc a) (hb:Asc b) {x:Int} (h:x∈plus a b):x∈a\/x∈b:=by
 have:=(ZAa ha hb).1 h;by_cases h1:x∈a
 ·exact .inl h1
 ·exact .inr (Classical.byContradiction fun q=>this ⟨fun k=>absurd k h1,fun k=>absurd k q⟩)
structure RInv (W:List (List Int)) (c:Nat) (s:List (List Int) × Nat):Prop where
 asc:AllAsc s.1
 le:s.2≤s.1.length
 hd:∀i,i<s.2->∃h,(rw' s.1 i).head?=some h/\h<(c:Int)/\∀j,j<s.1.length->h∈rw' s.1 j->j=i
 ord:∀i j,i<j->j<s.2->∀h h',(rw' s.1 i).head?=some h->(rw' s.1 j).head?=some h'->h<h'
 hi:∀j,s.2≤j->j<s.1.length->∀x∈rw' s.1 j,(c:Int)≤x
 sp1:∀r∈s.1,Span W r
 sp2:∀r∈W,Span s.1 r
theorem RInv.start {W:List (List Int)} (h1:AllAsc W) (h2:∀r∈W,∀x∈r,0≤x):RInv W 0 (W,0) where
 asc:=h1
 le:=Nat.zero_le _
 hd:=fun i h=>absurd h (Nat.not_lt_zero i)
 ord:=fun i j _ h=>absurd h (Nat.not_lt_zero j)
 hi:=fun j _ hj x hx=>by have:=h2 _ (ZIA hj) x hx;omega
 sp1:=fun r hr=>Span.one hr
 sp2:=fun r hr=>Span.one hr
theorem RInv.step {W:List (List Int)} (hW:AllAsc W) {c:Nat} {s:List (List Int) × Nat} (h:RInv W c s):RInv W (c+1) (stepR s c):=by
 obtain⟨rows,n⟩:=s;unfold stepR;cases hp:pivN rows n (c:Int) with
 | none =>
  have hno:=ZPx hp;exact⟨h.asc,h.le,fun i hi=>by obtain⟨a,a1,a2,a3⟩:=h.hd i hi;exact⟨a,a1,by omega,a3⟩,h.ord,fun j h1 h2 x hx=>by
   have:=h.hi j h1 h2 x hx;have:x≠(c:Int):=fun e=>hno j h1 h2 (e ▸ hx);omega,h.sp1,h.sp2⟩
 | some k =>
  obtain⟨hnk,hk,hck⟩:=pivN_some hp;have hn:n<rows.length:=by omega
  have hasc:∀j,j<rows.length->Asc (rw' rows j):=fun j hj=>h.asc _ (ZIA hj)
  -- the rows behind the exchange
  have hsl:=swap_len rows n k;have hs:=fun(j:Nat) (hj:j<rows.length)=>swap_get (i:=n) (j:=k) hj;have hsn:rw' (swapI rows n k) n=rw' rows k:=by
   rw[hs n hn];by_cases e:n=k
   ·rw[if_pos e,e]
   ·rw[if_neg e,if_pos rfl]
  have hsig:∀j,j<rows.length->∃m,m<rows.length/\rw' (swapI rows n k) j=rw' rows m/\(j<n->m=j)/\(n≤j->n≤m)/\(m<n->m=j):=fun j hj=>by
   rw[hs j hj];by_cases e:j=k
   ·exact⟨n,hn,by rw[if_pos e],by omega,by omega,by omega⟩
   ·rw[if_neg e];by_cases e2:j=n
    ·exact⟨k,hk,by rw[if_pos e2],by omega,by omega,by omega⟩
    ·exact⟨j,hj,by rw[if_neg e2],by omega,by omega,by omega⟩
  have hcl:=fun(j:Nat) (hj:j<rows.length)=>ZO4 (rows:=swapI rows n k) (n:=n) (c:=(c:Int)) (k:=j) (by rw[hsl];exact hj);rw[hsn] at hcl;have hlen:(ZBs (swapI rows n k) n (c:Int)).length=rows.length:=by rw[ZJ0,hsl]
  obtain⟨p,hpe⟩:∃p,rw' rows k=p:=⟨_,rfl⟩;rw[hpe] at hcl hck;have hpa:Asc p:=hpe ▸ hasc k hk;have hpl:∀x∈p,(c:Int)≤x:=fun x hx=>h.hi k hnk hk x (by simpa only[hpe] using hx);have hLn:rw' (ZBs (swapI rows n k) n (c:Int)) n=p:=by rw[hcl n hn,if_neg (fun q=>q.1 rfl),hsn,hpe]
  have hLasc:∀j,j<rows.length->Asc (rw' (ZBs (swapI rows n k) n (c:Int)) j):=fun j hj=>by
   obtain⟨m,m1,m2,_⟩:=hsig j hj;rw[hcl j hj,m2];split
   ·exact ZAS (hasc m m1) hpa
   ·exact hasc m m1
  have hhead:∀i,i<n->∀a,(rw' rows i).head?=some a->a<(c:Int)->(rw' (ZBs (swapI rows n k) n (c:Int)) i).head?=some a:=fun i hi a ha hac=>by
   obtain⟨m,m1,m2,m3,_⟩:=hsig i (by omega);obtain rfl:m=i:=m3 hi;rw[hcl m (by omega),m2];split
   ·have hnp:a∉p:=fun q=>by have:=hpl a q;omega
    refine ZIk (ZAS (hasc m m1) hpa) ((ZAa (hasc m m1) hpa).2 fun q=>hnp (q.1 (head_mem ha))) fun x hx=>?_;rcases ZFl (hasc m m1) hpa hx with q|q
    ·exact ZFd (hasc m m1) ha x q
    ·have:=hpl x q;omega
   ·exact ha
  have hcn:∀j,j<rows.length->j≠n->(c:Int)∉rw' (ZBs (swapI rows n k) n (c:Int)) j:=fun j hj hjn=>by
   rw[hcl j hj];by_cases hcj:(c:Int)∈rw' (swapI rows n k) j
   ·rw[if_pos ⟨hjn,hcj⟩];obtain⟨m,m1,m2,_⟩:=hsig j hj;rw[m2] at hcj ⊢;rw[ZAa (hasc m m1) hpa];exact fun q=>q ⟨fun _=>hck,fun _=>hcj⟩
   ·rw[if_neg (fun q=>hcj q.2)];exact hcj
  have hold:∀r∈rows,Span (ZBs (swapI rows n k) n (c:Int)) r:=fun r hr=>by
   obtain⟨m,m1,rfl⟩:=ZH6 hr
   -- where it went
   obtain⟨j,hj,hjm⟩:∃j,j<rows.length/\rw' (swapI rows n k) j=rw' rows m:=by
    by_cases e:m=n
    ·exact⟨k,hk,by rw[hs k hk,if_pos rfl,e]⟩
    ·by_cases e2:m=k
     ·exact⟨n,hn,by rw[hsn,e2]⟩
     ·exact⟨m,m1,by rw[hs m m1,if_neg e2,if_neg e]⟩
   have hLA:AllAsc (ZBs (swapI rows n k) n (c:Int)):=fun r hr=>by
    obtain⟨q,q1,rfl⟩:=ZH6 hr;exact hLasc q (by omega)
   have hj1:Span (ZBs (swapI rows n k) n (c:Int)) (rw' (ZBs (swapI rows n k) n (c:Int)) j):=Span.one (ZIA (by omega));have hj2:Span (ZBs (swapI rows n k) n (c:Int)) p:=hLn ▸ Span.one (ZIA (by omega));rw[hcl j hj,hjm] at hj1;split at hj1
   ·have:=Span.plus hLA hj1 hj2;rw[ZDC (hasc m m1) hpa hpa,ZHJ hpa,plus_nil] at this;exact this
   ·exact hj1
  have hpW:Span W p:=hpe ▸ h.sp1 _ (ZIA hk);refine⟨fun r hr=>?_,by simp only;omega,fun i hi=>?_,fun i j hij hj a a' ha ha'=>?_,fun j h1 h2 x hx=>?_,fun r hr=>?_,fun r hr=>?_⟩
  ·obtain⟨q,q1,rfl⟩:=ZH6 hr;exact hLasc q (by simp only at q1;omega)
  ·simp only at hi ⊢;by_cases hin:i=n
   ·subst hin;refine⟨(c:Int),by rw[hLn];exact ZIk hpa hck hpl,by omega,fun j hj hm=>?_⟩;exact Classical.byContradiction fun q=>hcn j (by omega) q hm
   ·have hi:i<n:=by omega
    obtain⟨a,a1,a2,a3⟩:=h.hd i hi;simp only at a1 a3;refine⟨a,hhead i hi a a1 a2,by omega,fun j hj hm=>?_⟩;have hj:j<rows.length:=by omega
    have hnp:a∉p:=fun q=>by have:=hpl a q;omega
    obtain⟨m,m1,m2,_,_,m3⟩:=hsig j hj;have:a∈rw' rows m:=by
     rw[hcl j hj,m2] at hm;split at hm
     ·exact(ZFl (hasc m m1) hpa hm).resolve_right hnp
     ·exact hm
    have:=a3 m m1 this;subst this;exact(m3 hi).symm
  ·simp only at hj ha ha';have hi:i<n:=by omega
   obtain⟨b,b1,b2,_⟩:=h.hd i hi;simp only at b1;have:=hhead i hi b b1 b2;rw[this] at ha;cases ha;by_cases hjn:j=n
   ·subst hjn;rw[hLn,ZIk hpa hck hpl] at ha';cases ha';exact b2
   ·have hj:j<n:=by omega
    obtain⟨b',b1',b2',_⟩:=h.hd j hj;simp only at b1';have:=hhead j hj b' b1' b2';rw[this] at ha';cases ha';exact h.ord i j hij hj a a' b1 b1'
  ·simp only at h1 h2 hx;have hj:j<rows.length:=by omega
   have hne:x≠(c:Int):=fun e=>hcn j hj (by omega) (e ▸ hx);obtain⟨m,m1,m2,_,m4,_⟩:=hsig j hj;have hm:∀y∈rw' rows m,(c:Int)≤y:=h.hi m (m4 (by omega)) m1;rw[hcl j hj,m2] at hx;have:(c:Int)≤x:=by
    split at hx
    ·rcases ZFl (hasc m m1) hpa hx with q|q
     ·exact hm x q
     ·exact hpl x q
    ·exact hm x hx
   omega
  ·obtain⟨q,q1,rfl⟩:=ZH6 hr;simp only at q1;have hq:q<rows.length:=by omega
   obtain⟨m,m1,m2,_⟩:=hsig q hq;have hm:=h.sp1 _ (ZIA (rows:=rows) m1);simp only;rw[hcl q hq,m2];split
   ·exact Span.plus hW hm hpW
   ·exact hm
  ·exact Span.trans (fun r hr=>by
    obtain⟨q,q1,rfl⟩:=ZH6 hr;exact hLasc q (by omega)) hold (h.sp2 r hr)
theorem RInv.all {W:List (List Int)} (h1:AllAsc W) (h2:∀r∈W,∀x∈r,0≤x):∀C,RInv W C (ZSF W C)
 | 0=>RInv.start h1 h2
 | C+1=>by rw[redR_succ];exact(RInv.all h1 h2 C).step h1
theorem Span.low {W:List (List Int)} (hW:AllAsc W) {C:Int} (hl:∀r∈W,Low C r) {v:List Int} (h:Span W v):Low C v:=by
 induction h with
 | zero=>intro x hx;cases hx
 | add hr h ih=>exact plus_low (hW _ hr) (h.asc hW) (hl _ hr) ih
def echR (W:List (List Int)) (C:Nat):List (List Int):=(ZSF W C).1.take (ZSF W C).2
def hdI (r:List Int):Int:=r.head?.getD 0
theorem echR_ok {W:List (List Int)} {C:Nat} (h1:AllAsc W) (h2:∀r∈W,∀x∈r,0≤x) (h3:∀r∈W,Low (C:Int) r):Red (echR W C)/\(∀r∈echR W C,Span W r)/\(∀r∈W,Span (echR W C) r)/\(echR W C).Pairwise (fun r s=>hdI r<hdI s):=by
 have h:=RInv.all h1 h2 C;unfold echR;obtain⟨⟨rows,n⟩,hs⟩:∃s,ZSF W C=s:=⟨_,rfl⟩;rw[hs] at h ⊢;have hget:∀i,i<n->i<rows.length/\∀hi:i<(rows.take n).length,(rows.take n)[i]=rw' rows i:=fun i hi=>by
  have:=h.le;simp only at this;exact⟨by omega,fun hi'=>by rw[List.getElem_take,rw_get (by omega)]⟩
 have hmem:∀r∈rows.take n,∃i,i<n/\i<rows.length/\rw' rows i=r:=fun r hr=>by
  obtain⟨i,hi,e⟩:=List.getElem_of_mem hr;have hin:i<n:=by rw[List.length_take] at hi;omega
  obtain⟨q1,q2⟩:=hget i hin;exact⟨i,hin,q1,by rw[<- e,q2]⟩
 have hasc:AllAsc (rows.take n):=fun r hr=>h.asc r (List.mem_of_mem_take hr);refine⟨⟨hasc,fun r hr e=>?_,fun r hr s hs' c hc hcs=>?_⟩,fun r hr=>h.sp1 r (List.mem_of_mem_take hr),fun r hr=>?_,?_⟩
 ·obtain⟨i,i1,i2,rfl⟩:=hmem r hr;obtain⟨a,a1,_⟩:=h.hd i i1;simp only at a1;rw[e] at a1;cases a1
 ·obtain⟨i,i1,i2,rfl⟩:=hmem r hr;obtain⟨j,j1,j2,rfl⟩:=hmem s hs';obtain⟨a,a1,_,a3⟩:=h.hd i i1;simp only at a1 a3;rw[a1] at hc;cases hc;rw[a3 j j2 hcs]
 ·refine Span.trans hasc (fun s hs'=>?_) (h.sp2 r hr);obtain⟨k,k1,rfl⟩:=ZH6 hs';simp only at k1;by_cases hkn:k<n
  ·obtain⟨q1,q2⟩:=hget k hkn;have hkt:k<(rows.take n).length:=by rw[List.length_take];omega
   rw[<- q2 hkt];exact Span.one (List.getElem_mem hkt)
  ·have hlo:=Span.low h1 h3 (h.sp1 _ hs');have hhi:=h.hi k (by simp only;omega) k1;have:rw' rows k=[]:=by
    cases e:rw' rows k with
    | nil=>rfl
    | cons y v =>
     have m:y∈rw' rows k:=by rw[e];simp
     have:=hlo y m;have:=hhi y m;omega
   rw[this];exact Span.zero
 ·refine List.pairwise_iff_getElem.2 fun i j hi hj hij=>?_;have hjn:j<n:=by rw[List.length_take] at hj;omega
  obtain⟨p1,p2⟩:=hget i (by omega);obtain⟨q1,q2⟩:=hget j hjn;rw[p2 hi,q2 hj];obtain⟨a,a1,_⟩:=h.hd i (show i<n by omega);obtain⟨b,b1,_⟩:=h.hd j hjn;simp only at a1 b1;have:=h.ord i j hij hjn a b a1 b1;simp only[hdI,a1,b1,Option.getD_some];exact this
theorem ZPZ {α:Type} (key:α->Int):∀ {a b:List α},a.Pairwise (fun x y=>key x<key y)->b.Pairwise (fun x y=>key x<key y)->(∀x,x∈a↔x∈b)->a=b
 | [],[],_,_,_=>rfl
 | [],y::b,_,_,h=>absurd ((h y).2 (by simp)) (by simp)
 | x::a,[],_,_,h=>absurd ((h x).1 (by simp)) (by simp)
 | x::a,y::b,ha,hb,h=>by
  obtain⟨ha1,ha2⟩:=List.pairwise_cons.1 ha;obtain⟨hb1,hb2⟩:=List.pairwise_cons.1 hb;have hxy:x=y:=by
   rcases List.mem_cons.1 ((h x).1 (by simp)) with e|e
   ·exact e
   ·rcases List.mem_cons.1 ((h y).2 (by simp)) with e'|e'
    ·exact e'.symm
    ·have:=hb1 x e;have:=ha1 y e';omega
  subst hxy;congr 1;refine ZPZ key ha2 hb2 fun z=>⟨fun hz=>?_,fun hz=>?_⟩
  ·rcases List.mem_cons.1 ((h z).1 (by simp[hz])) with e|e
   ·subst e;have:=ha1 z hz;omega
   ·exact e
  ·rcases List.mem_cons.1 ((h z).2 (by simp[hz])) with e|e
   ·subst e;have:=hb1 z hz;omega
   ·exact e
theorem ZNK {B C:List (List Int)} (hB:Red B) (hC:Red C) (h1:∀r∈B,Span C r) (h2:∀r∈C,Span B r) (k1:B.Pairwise (fun r s=>hdI r<hdI s)) (k2:C.Pairwise (fun r s=>hdI r<hdI s)):B=C :=
 ZPZ hdI k1 k2 fun r=>⟨fun h=>hB.sub hC h1 h2 r h,fun h=>hC.sub hB h2 h1 r h⟩
end
end Go.Proofs.YtofkoleingbbpaaGreatDoor.L05
