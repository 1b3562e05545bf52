/- Part 29: walks by contracts, and plain laws. -/
import Derived.Test.YtofkoleingbbpaaGreatDoorVx23
set_option linter.unusedVariables false
set_option linter.unusedSimpArgs false
set_option linter.unusedSectionVars false
set_option maxRecDepth 100000
set_option maxHeartbeats 4000000
namespace Go.Proofs.YtofkoleingbbpaaGreatDoor
section
open Go.RowKit
def hKL {α:Type} (R:Rel α) [Good R] (M:List (Value × α)):HObj where
 blk:=none
 ok:=fun I w=>∀ p∈M,(dS R p.2).rd I w p.1
 weak:=fun h q p hp=>(dS R p.2).weak (h p hp) q
 bound:=fun h p hp=>(dS R p.2).bound (h p hp)
 move:=fun h hg hP _ p hp=>(dS R p.2).grown (h p hp) hg hP
section
variable {P:Program} {ops:Array Oper} {hp:List HObj} {o:Oper} {fr:List Dat} {d d2:Dat} {Q:Zu} {rest:List Oper} {c:Code}
variable {dst:Option Tmp} {ty:TypeId} {ps:String} {af:Array Edge} {g:Option (Nat × Bool)} {t k e:TypeId} {z:Value} {K V α:Type} {kv:K->Value} {ok:K->Prop} {vv:V->Value} {b r:Nat} {m:List (K × V)} {R:Rel α}
theorem ZMA {gh:HObj} (hg:gh.blk=none) (ho:∀ I w,(∀ o∈hp,o.ok I w)->gh.ok I w) (h:WL P ops Q rest fr (gh::hp)):WL P ops Q rest fr hp:=WL.of fun _ _ _ _ _ hh hf =>
 h.on (ZAz (l:=[]) hg hh (ho _ _ fun o hm=>hh.ok o hm)) (hf.mono fun d _ hd=>d.weak hd fun k=>(Z0 hg [] k).2)
theorem ZL2 {gh:HObj} (hg:gh.blk=none) (ho:∀ I w,(∀ o∈hp,o.ok I w)->gh.ok I w) (h:WC P Q c fr (gh::hp)):WC P Q c fr hp:=WC.of fun _ _ _ _ _ hh hf =>
 h.on (ZAz (l:=[]) hg hh (ho _ _ fun o hm=>hh.ok o hm)) (hf.mono fun d _ hd=>d.weak hd fun k=>(Z0 hg [] k).2)
theorem ZGc {o:HObj} (h:WL P ops Q rest fr hp):WL P ops Q rest fr (o::hp):=WL.of fun _ _ _ _ _ hh hf=>h.on hh.drop (hf.mono fun d _ hd=>d.weak hd Imm.sub)
theorem ZOh {o:HObj} (h:WC P Q c fr hp):WC P Q c fr (o::hp):=WC.of fun _ _ _ _ _ hh hf=>h.on hh.drop (hf.mono fun d _ hd=>d.weak hd Imm.sub)
section
variable [DecidableEq K] {M:List (K × Value × α)} {_gR:Good R}
theorem ZHg {x y:Operand} {v:K} {p:Value × α} (T:MapT P t k e z) (H:KeyT P k kv ok) (hx:OpD fr x (dX (.map (some b)))) (hm:hM b kv (fun p:Value × α=>p.1) M∈hp) (hk:hKL R (M.map (·.2))∈hp) (hy:OpD fr y d) (hd:IsV d (kv v)) (ho:ok v) (hok:∀ p∈M,ok p.1) (hn:(M.map (·.1)).Nodup) (hl:Go.Proofs.YtofkoleingbbpaaGreatDoor.lookM M v=some p) (hp':p∈M.map (·.2)) :
  SY P ops hp ⟨dst,.lookup t x y true,ty,ps,af,g⟩ fr (dT [dS R p.2,dB true]):=ZAL fun {P0 B w0 w a} hh hon=>by
 have h1:a.eval x=_:=hx.get (by simp [Op.operands]) hon
 have h2:=hd.is _ _ _ (hy.get (by simp [Op.operands]) hon)
 have hr:=ZCO T H hok hn ho (hh.ok _ hm) true
 rw [hl] at hr
 refine ⟨_,w,?_,Ext.refl _,[p.1,.bool true],rfl,rfl,fun i e x he hx=>?_⟩
 ·unfold execOp
  simp only [h1,h2,Sem.run_bind,hr,Result.andThen_ok,Sem.run_pure]
  rfl
 ·match i,he,hx with
  | 0,he,hx=>cases he;cases hx;exact hh.ok _ hk p hp'
  | 1,he,hx=>cases he;cases hx;rfl
theorem ZHf {x y:Operand} {v:K} (T:MapT P t k e z) (H:KeyT P k kv ok) (hx:OpD fr x (dX (.map (some b)))) (hm:hM b kv (fun p:Value × α=>p.1) M∈hp) (hy:OpD fr y d) (hd:IsV d (kv v)) (ho:ok v) (hok:∀ p∈M,ok p.1) (hn:(M.map (·.1)).Nodup) (hl:Go.Proofs.YtofkoleingbbpaaGreatDoor.lookM M v=none) :
  SY P ops hp ⟨dst,.lookup t x y true,ty,ps,af,g⟩ fr (dT [dX z,dB false]):=by
 have h:=ZLn (P:=P) (ops:=ops) (dst:=dst) (ty:=ty) (ps:=ps) (af:=af) (g:=g) T H hx hm hy hd ho hok hn
 rw [hl] at h
 exact h
theorem ZME {x y:Operand} {s:Nat} {v:K} {u:α} (T:MapT P t k e z) (H:KeyT P k kv ok) (hx:∀ q,OpD (fr.set s (dX q)) x (dX (.map (some b)))) (hy:∀ q,OpD (fr.set s (dX q)) y d) (hd:IsV d (kv v)) (hs:fr[s]?=some (dS R u)) (hc:∀ q,OpD (fr.set s (dX q)) (.tmp s) (dX q)) (ho:ok v) (hok:∀ p∈M,ok p.1) (hn:(M.map (·.1)).Nodup)
  (h:∀ q,WL P ops Q rest (ZB (fr.set s (dX q)) dst (dX undef)) (hM b kv (fun p:Value × α=>p.1) (ZBf M v (q,u))::hKL R ((ZBf M v (q,u)).map (·.2))::hp)) :
  WL P ops Q (⟨dst,.mapUpdate t x y (.tmp s),ty,ps,af,none⟩::rest) fr (hM b kv (fun p:Value × α=>p.1) M::hKL R (M.map (·.2))::hp):=by
 refine WL.pin s hs fun q=>?_
 refine WL.perm (List.Perm.swap _ _ _) ?_
 refine ZA2 (u:=(q,u)) T H (hx q) (hy q) hd (hc q) isX ho hok hn ?_
 refine ZMA (gh:=hKL R ((ZBf M v (q,u)).map (·.2))) rfl (fun I w hall=>?_) ?_
 ·have h1:(dS R u).rd I w q:=hall (ZAM q (dS R u)) (by simp)
  have h2:(hKL R (M.map (·.2))).ok I w:=hall _ (by simp)
  intro p hp
  obtain ⟨r,hr,rfl⟩:=List.mem_map.1 hp
  unfold ZBf at hr
  split at hr
  ·obtain ⟨r',hr',rfl⟩:=List.mem_map.1 hr
   split
   ·exact h1
   ·exact h2 _ (List.mem_map_of_mem hr')
  ·rcases List.mem_append.1 hr with hr|hr
   ·exact h2 _ (List.mem_map_of_mem hr)
   ·rw [List.mem_singleton.1 hr];exact h1
 ·refine WL.perm (List.Perm.swap _ _ _) ?_
  refine WL.perm (show List.Perm _ (ZAM q (dS R u)::hKL R (M.map (·.2))::hM b kv (fun p:Value × α=>p.1) (ZBf M v (q,u))::hKL R ((ZBf M v (q,u)).map (·.2))::hp) from ?_) (ZGc (ZGc (h q)))
  exact ((List.perm_append_comm (l₁:=[hM b kv (fun p:Value × α=>p.1) (ZBf M v (q,u)),hKL R ((ZBf M v (q,u)).map (·.2))]) (l₂:=[ZAM q (dS R u),hKL R (M.map (·.2))])).append_right hp)
theorem ZLi {x:Operand} {seen:Array Nat} {j:Nat} (hx:OpD fr x (dX (.pointer (some ⟨r,0,none⟩)))) (hi:hIt b r M.length (seen.push j)∈hp) (hm:hM b kv (fun p:Value × α=>p.1) M∈hp) (hk:hKL R (M.map (·.2))∈hp) (hj:j<M.length) :
  SY P ops hp ⟨dst,.entry x,ty,ps,af,g⟩ fr (dT [dX (kv M[j].1),dS R M[j].2.2]):=SY.mk fun hh hon K Q hkk =>
 (ZLj (P:=P) (ops:=ops) (dst:=dst) (ty:=ty) (ps:=ps) (af:=af) (g:=g) (fr:=fr) hx hi hm hj).out hh hon K Q fun v w' hxt ⟨us,h3,h4,h5⟩=>hkk v w' hxt ⟨us,h3,h4,fun i e x he hx=>by
  match i,he,hx with
  | 0,he,hx=>exact h5 0 e x he hx
  | 1,he,hx =>
   cases he
   have h6:(dX M[j].2.1).rd _ w' x:=h5 1 (dX M[j].2.1) x rfl hx
   have h7:=(hh.ext hxt).ok _ hk M[j].2 (List.mem_map_of_mem (List.getElem_mem hj))
   have h8:x=M[j].2.1:=h6
   rw [h8];exact h7⟩
end
end
end
end Go.Proofs.YtofkoleingbbpaaGreatDoor
namespace Go.Proofs.YtofkoleingbbpaaGreatDoor.L05
section
def plus:List Int->List Int->List Int
 | [],b=>b
 | x::a,[]=>x::a
 | x::a,y::b=>if x<y then x::plus a (y::b) else if y<x then y::plus (x::a) b else plus a b
termination_by a b=>a.length+b.length
abbrev Asc (a:List Int):Prop:=a.Pairwise (· < ·)
theorem plus_nil (a:List Int):plus a []=a:=by cases a <;> rw [plus]
theorem nil_plus (a:List Int):plus [] a=a:=by rw [plus]
theorem ZRp {c:Int}:∀ (n:Nat) (a b:List Int),a.length+b.length≤n->(∀ x∈a,c<x)->(∀ x∈b,c<x)->∀ x∈plus a b,c<x:=by
 intro n
 induction n with
 | zero =>
  intro a b hn ha hb x hx
  have h1:a=[]:=List.length_eq_zero_iff.1 (by omega)
  subst h1
  rw [nil_plus] at hx;exact hb x hx
 | succ n ih =>
  intro a b hn ha hb x hx
  match a,b,hn,ha,hb,hx with
  | [],b,_,_,hb,hx=>rw [nil_plus] at hx;exact hb x hx
  | y::a,[],_,ha,_,hx=>rw [plus_nil] at hx;exact ha x hx
  | y::a,z::b,hn,ha,hb,hx =>
   rw [plus] at hx
   simp only [List.length_cons] at hn
   split at hx
   ·rcases List.mem_cons.1 hx with rfl|hx
    ·exact ha _ (by simp)
    ·exact ih a (z::b) (by simp only [List.length_cons];omega) (fun w hw=>ha w (by simp [hw])) hb x hx
   ·split at hx
    ·rcases List.mem_cons.1 hx with rfl|hx
     ·exact hb _ (by simp)
     ·exact ih (y::a) b (by simp only [List.length_cons];omega) ha (fun w hw=>hb w (by simp [hw])) x hx
    ·exact ih a b (by omega) (fun w hw=>ha w (by simp [hw])) (fun w hw=>hb w (by simp [hw])) x hx
theorem ZHA {c:Int} {a b:List Int} (ha:∀ x∈a,c<x) (hb:∀ x∈b,c<x):∀ x∈plus a b,c<x:=ZRp _ a b (Nat.le_refl _) ha hb
theorem iffA {p q r:Prop} (h:r->p->False) (h2:r->q->False):(r\/¬ (p↔q))↔¬ ((r\/p)↔q):=by
 by_cases hr:r
 ·have hp:=h hr;have hq:¬ q:=h2 hr
  simp [hr,hq]
 ·simp [hr]
theorem ZKL:∀ (n:Nat) (a b:List Int),a.length+b.length≤n->Asc a->Asc b->Asc (plus a b)/\∀ x,x∈plus a b↔¬ (x∈a↔x∈b):=by
 intro n
 induction n with
 | zero =>
  intro a b hn ha hb
  have h1:a=[]:=List.length_eq_zero_iff.1 (by omega)
  subst h1
  rw [nil_plus]
  exact ⟨hb,fun x=>by simp⟩
 | succ n ih =>
  intro a b hn ha hb
  match a,b,hn,ha,hb with
  | [],b,_,_,hb=>rw [nil_plus];exact ⟨hb,fun x=>by simp⟩
  | y::a,[],_,ha,_=>rw [plus_nil];exact ⟨ha,fun x=>by simp only [List.not_mem_nil,iff_false,Classical.not_not]⟩
  | y::a,z::b,hn,ha,hb =>
   simp only [List.length_cons] at hn
   obtain ⟨ha1,ha2⟩:=List.pairwise_cons.1 ha
   obtain ⟨hb1,hb2⟩:=List.pairwise_cons.1 hb
   rw [plus]
   split
   ·rename_i hyz
    obtain ⟨i1,i2⟩:=ih a (z::b) (by simp only [List.length_cons];omega) ha2 hb
    have hlt:∀ w∈z::b,y<w:=fun w hw=>by
     rcases List.mem_cons.1 hw with rfl|hw
     ·exact hyz
     ·have:=hb1 w hw;omega
    refine ⟨List.pairwise_cons.2 ⟨ZHA ha1 hlt,i1⟩,fun x=>?_⟩
    rw [List.mem_cons,i2 x,List.mem_cons (a:=x) (b:=y)]
    exact iffA (fun e q=>by have:=ha1 x q;omega) (fun e q=>by have:=hlt x q;omega)
   ·rename_i hyz
    split
    ·rename_i hzy
     obtain ⟨i1,i2⟩:=ih (y::a) b (by simp only [List.length_cons];omega) ha hb2
     have hlt:∀ w∈y::a,z<w:=fun w hw=>by
      rcases List.mem_cons.1 hw with rfl|hw
      ·exact hzy
      ·have:=ha1 w hw;omega
     refine ⟨List.pairwise_cons.2 ⟨ZHA hlt hb1,i1⟩,fun x=>?_⟩
     rw [List.mem_cons,i2 x,List.mem_cons (a:=x) (b:=z)]
     have:=iffA (r:=x=z) (p:=x∈b) (q:=x∈y::a) (fun e q=>by have:=hb1 x q;omega) (fun e q=>by have:=hlt x q;omega)
     rw [iff_comm (a:=x∈b),iff_comm (a:=x=z\/x∈b)] at this
     exact this
    ·rename_i hzy
     obtain rfl:y=z:=by omega
     obtain ⟨i1,i2⟩:=ih a b (by omega) ha2 hb2
     refine ⟨i1,fun x=>?_⟩
     rw [i2 x,List.mem_cons,List.mem_cons]
     by_cases hxy:x=y
     ·have h1:¬ x∈a:=fun q=>by have:=ha1 x q;omega
      have h2:¬ x∈b:=fun q=>by have:=hb1 x q;omega
      simp only [hxy,true_or,not_true,iff_false]
      rw [hxy] at h1 h2
      simp only [h1,h2,not_true,not_false_eq_true]
     ·simp only [hxy,false_or]
theorem Z7 {a b:List Int} (ha:Asc a) (hb:Asc b):Asc (plus a b):=(ZKL _ a b (Nat.le_refl _) ha hb).1
theorem ZAC {a b:List Int} (ha:Asc a) (hb:Asc b) {x:Int}:x∈plus a b↔¬ (x∈a↔x∈b):=(ZKL _ a b (Nat.le_refl _) ha hb).2 x
theorem asc_ext:∀ {a b:List Int},Asc a->Asc b->(∀ x,x∈a↔x∈b)->a=b
 | [],[],_,_,_=>rfl
 | [],y::b,_,_,h=>absurd ((h y).2 (by simp)) (by simp)
 | x::a,[],_,_,h=>absurd ((h x).1 (by simp)) (by simp)
 | x::a,y::b,ha,hb,h=>by
  obtain ⟨ha1,ha2⟩:=List.pairwise_cons.1 ha
  obtain ⟨hb1,hb2⟩:=List.pairwise_cons.1 hb
  have hxy:x=y:=by
   rcases List.mem_cons.1 ((h x).1 (by simp)) with e|e
   ·exact e
   ·rcases List.mem_cons.1 ((h y).2 (by simp)) with e'|e'
    ·exact e'.symm
    ·have:=hb1 x e;have:=ha1 y e';omega
  subst hxy
  congr 1
  refine asc_ext ha2 hb2 fun z=>⟨fun hz=>?_,fun hz=>?_⟩
  ·rcases List.mem_cons.1 ((h z).1 (by simp [hz])) with e|e
   ·subst e;have:=ha1 z hz;omega
   ·exact e
  ·rcases List.mem_cons.1 ((h z).2 (by simp [hz])) with e|e
   ·subst e;have:=hb1 z hz;omega
   ·exact e
theorem ZFT {a:List Int} (ha:Asc a):plus a a=[]:=asc_ext (Z7 ha ha) List.Pairwise.nil fun x=>by rw [ZAC ha ha];simp
theorem ZNf {a b:List Int} (ha:Asc a) (hb:Asc b):plus a b=plus b a:=asc_ext (Z7 ha hb) (Z7 hb ha) fun x=>by
 rw [ZAC ha hb,ZAC hb ha]
 exact ⟨fun h q=>h q.symm,fun h q=>h q.symm⟩
theorem ZCN {a b c:List Int} (ha:Asc a) (hb:Asc b) (hc:Asc c):plus (plus a b) c=plus a (plus b c):=asc_ext (Z7 (Z7 ha hb) hc) (Z7 ha (Z7 hb hc)) fun x=>by
 rw [ZAC (Z7 ha hb) hc,ZAC ha (Z7 hb hc),ZAC ha hb,ZAC hb hc]
 by_cases h1:x∈a <;> by_cases h2:x∈b <;> by_cases h3:x∈c <;> simp [h1,h2,h3]
inductive Span (B:List (List Int)):List Int->Prop
 | zero:Span B []
 | add {r v:List Int}:r∈B->Span B v->Span B (plus r v)
abbrev AllAsc (B:List (List Int)):Prop:=∀ r∈B,Asc r
theorem Span.asc {B:List (List Int)} (hB:AllAsc B) {v:List Int} (h:Span B v):Asc v:=by
 induction h with
 | zero=>exact List.Pairwise.nil
 | add hr _ ih=>exact Z7 (hB _ hr) ih
theorem Span.one {B:List (List Int)} {r:List Int} (h:r∈B):Span B r:=by
 have:=Span.add h Span.zero
 rwa [plus_nil] at this
theorem Span.plus {B:List (List Int)} (hB:AllAsc B) {u v:List Int} (hu:Span B u) (hv:Span B v):Span B (plus u v):=by
 induction hu with
 | zero=>rw [nil_plus];exact hv
 | add hr h ih =>
  rw [ZCN (hB _ hr) (h.asc hB) (hv.asc hB)]
  exact Span.add hr ih
theorem Span.trans {B C:List (List Int)} (hC:AllAsc C) (h:∀ r∈B,Span C r) {v:List Int} (hv:Span B v):Span C v:=by
 induction hv with
 | zero=>exact Span.zero
 | add hr _ ih=>exact Span.plus hC (h _ hr) ih
structure Red (B:List (List Int)):Prop where
 asc:AllAsc B
 pos:∀ r∈B,r≠[]
 one:∀ r∈B,∀ s∈B,∀ c,r.head?=some c->c∈s->s=r
theorem head_mem {r:List Int} {c:Int} (h:r.head?=some c):c∈r:=by
 cases r with
 | nil=>cases h
 | cons x r=>simp only [List.head?_cons,Option.some.injEq] at h;simp [h]
theorem ZD6 {r:List Int} {c:Int} (hr:Asc r) (h:r.head?=some c):∀ x∈r,c≤x:=by
 cases r with
 | nil=>cases h
 | cons y r =>
  simp only [List.head?_cons,Option.some.injEq] at h
  subst h
  intro x hx
  rcases List.mem_cons.1 hx with rfl|hx
  ·exact Int.le_refl _
  ·exact Int.le_of_lt ((List.pairwise_cons.1 hr).1 x hx)
theorem ZKc {B:List (List Int)} (hB:Red B) {v:List Int} (h:Span B v):∃ S:List (List Int),(∀ r∈S,r∈B)/\S.Nodup/\∀ n,n∈v↔(S.filter fun r=>decide (n∈r)).length % 2=1:=by
 induction h with
 | zero=>exact ⟨[],(fun r hr=>by cases hr),List.nodup_nil,fun n=>by simp⟩
 | @add r v hr hv ih =>
  obtain ⟨S,s1,s2,s3⟩:=ih
  have hm:=fun n=>@ZAC r v (hB.asc r hr) (hv.asc hB.asc) n
  by_cases hrS:r∈S
  ·refine ⟨S.erase r,fun s hs=>s1 s (List.mem_of_mem_erase hs),s2.erase r,fun n=>?_⟩
   rw [hm n,s3 n]
   have hp:=(List.perm_cons_erase hrS).filter (fun r=>decide (n∈r))
   have hl:=hp.length_eq
   rw [List.filter_cons] at hl
   by_cases hn:n∈r
   ·rw [if_pos (by simpa using hn)] at hl
    simp only [List.length_cons] at hl
    simp only [hn,true_iff]
    omega
   ·rw [if_neg (by simpa using hn)] at hl
    simp only [hn,false_iff,Classical.not_not]
    omega
  ·refine ⟨r::S,fun s hs=>?_,List.nodup_cons.2 ⟨hrS,s2⟩,fun n=>?_⟩
   ·rcases List.mem_cons.1 hs with rfl|hs
    ·exact hr
    ·exact s1 s hs
   ·rw [hm n,s3 n,List.filter_cons]
    by_cases hn:n∈r
    ·rw [if_pos (by simpa using hn)]
     simp only [List.length_cons,hn,true_iff]
     omega
    ·rw [if_neg (by simpa using hn)]
     simp only [hn,false_iff,Classical.not_not]
theorem ZJA {S:List (List Int)} (hS:S.Nodup) {r:List Int} {p:List Int->Bool} (hr:r∈S) (hp:p r=true) (ho:∀ s∈S,p s=true->s=r):(S.filter p).length=1:=by
 induction S with
 | nil=>cases hr
 | cons s S ih =>
  obtain ⟨n1,n2⟩:=List.nodup_cons.1 hS
  rw [List.filter_cons]
  by_cases hs:s=r
  ·subst hs
   rw [if_pos hp]
   have:S.filter p=[]:=List.filter_eq_nil_iff.2 fun t ht hpt=>n1 (by have:=ho t (by simp [ht]) hpt;subst this;exact ht)
   rw [this];rfl
  ·have hrS:r∈S:=(List.mem_cons.1 hr).resolve_left fun e=>hs e.symm
   rw [if_neg (fun q=>hs (ho s (by simp) q))]
   exact ih n2 hrS fun t ht=>ho t (by simp [ht])
theorem Red.head {B:List (List Int)} (hB:Red B) {v:List Int} (hv:Span B v) {c:Int} (hc:v.head?=some c):∃ r∈B,r.head?=some c:=by
 obtain ⟨S,s1,s2,s3⟩:=ZKc hB hv
 have hva:=hv.asc hB.asc
 have h1:=(s3 c).1 (head_mem hc)
 cases hf:S.filter (fun r=>decide (c∈r)) with
 | nil=>rw [hf] at h1;simp at h1
 | cons r F =>
  have hrF:r∈S.filter (fun r=>decide (c∈r)):=by rw [hf];simp
  obtain ⟨hrS,hcr⟩:=List.mem_filter.1 hrF
  have hcr:c∈r:=of_decide_eq_true hcr
  have hrB:=s1 r hrS
  obtain ⟨d,hd⟩:∃ d,r.head?=some d:=by
   cases r with
   | nil=>exact absurd rfl (hB.pos _ hrB)
   | cons y r=>exact ⟨y,rfl⟩
  have hdc:=ZD6 (hB.asc r hrB) hd c hcr
  have hdv:d∈v:=(s3 d).2 (by
   rw [ZJA s2 hrS (decide_eq_true (head_mem hd)) fun s hs q=>hB.one r hrB s (s1 s hs) d hd (of_decide_eq_true q)])
  have:=ZD6 hva hc d hdv
  obtain rfl:d=c:=by omega
  exact ⟨r,hrB,hd⟩
theorem Red.sub {B C:List (List Int)} (hB:Red B) (hC:Red C) (h1:∀ r∈B,Span C r) (h2:∀ r∈C,Span B r):∀ r∈B,r∈C:=by
 intro r hr
 obtain ⟨c,hc⟩:∃ d,r.head?=some d:=by
  cases r with
  | nil=>exact absurd rfl (hB.pos _ hr)
  | cons y r=>exact ⟨y,rfl⟩
 obtain ⟨s,hs,hsc⟩:=hC.head (h1 r hr) hc
 have hra:=hB.asc r hr
 have hsa:=hC.asc s hs
 have hsp:Span C (plus r s):=Span.plus hC.asc (h1 r hr) (Span.one hs)
 cases hp:plus r s with
 | nil =>
  have:r=s:=asc_ext hra hsa fun x=>by
   have:=@ZAC r s hra hsa x
   rw [hp] at this
   simp only [List.not_mem_nil,false_iff,Classical.not_not] at this
   exact this
  subst this;exact hs
 | cons d v =>
  exfalso
  rw [hp] at hsp
  obtain ⟨t,ht,htd⟩:=hC.head hsp (c:=d) rfl
  obtain ⟨u,hu,hud⟩:=hB.head (h2 t ht) htd
  have hd:d∈plus r s:=by rw [hp];simp
  rw [ZAC hra hsa] at hd
  by_cases hdr:d∈r
  ·have e:=hB.one u hu r hr d hud hdr
   subst e
   rw [hc] at hud
   cases hud
   exact hd ⟨fun _=>head_mem hsc,fun _=>hdr⟩
  ·have hds:d∈s:=Classical.byContradiction fun q=>hd ⟨fun h=>absurd h hdr,fun h=>absurd h q⟩
   have e:=hC.one t ht s hs d htd hds
   subst e
   rw [hsc] at htd
   cases htd
   exact hd ⟨fun _=>hds,fun _=>head_mem hc⟩
end
section
def ZBQ (a b:List Int):Bool:=decide ((a.filter fun x=>decide (x∈b)).length % 2=1)
theorem ZJB (p:Int->Bool):∀ (n:Nat) (a b:List Int),a.length+b.length≤n->((plus a b).filter p).length % 2=((a.filter p).length+(b.filter p).length) % 2:=by
 intro n
 induction n with
 | zero =>
  intro a b hn
  have h1:a=[]:=List.length_eq_zero_iff.1 (by omega)
  subst h1
  rw [nil_plus];simp
 | succ n ih =>
  intro a b hn
  match a,b,hn with
  | [],b,_=>rw [nil_plus];simp
  | y::a,[],_=>rw [plus_nil];simp
  | y::a,z::b,hn =>
   simp only [List.length_cons] at hn
   rw [plus]
   split
   ·have i1:=ih a (z::b) (by simp only [List.length_cons];omega)
    rw [List.filter_cons,List.filter_cons (x:=y)]
    split <;> (try simp only [List.length_cons]) <;> omega
   ·split
    ·have i1:=ih (y::a) b (by simp only [List.length_cons];omega)
     rw [List.filter_cons,List.filter_cons (x:=z)]
     split <;> (try simp only [List.length_cons]) <;> omega
    ·obtain rfl:y=z:=by omega
     have i1:=ih a b (by omega)
     rw [List.filter_cons,List.filter_cons]
     split <;> (try simp only [List.length_cons]) <;> omega
theorem ZKG (a a' b:List Int):ZBQ (plus a a') b=(ZBQ a b != ZBQ a' b):=by
 unfold ZBQ
 have h:=ZJB (fun x=>decide (x∈b)) _ a a' (Nat.le_refl _)
 generalize ((plus a a').filter fun x=>decide (x∈b)).length=p at *
 generalize (a.filter fun x=>decide (x∈b)).length=q at *
 generalize (a'.filter fun x=>decide (x∈b)).length=r at *
 by_cases h1:q % 2=1 <;> by_cases h2:r % 2=1
 ·rw [decide_eq_true h1,decide_eq_true h2,decide_eq_false (by omega)];rfl
 ·rw [decide_eq_true h1,decide_eq_false h2,decide_eq_true (by omega)];rfl
 ·rw [decide_eq_false h1,decide_eq_true h2,decide_eq_true (by omega)];rfl
 ·rw [decide_eq_false h1,decide_eq_false h2,decide_eq_false (by omega)];rfl
theorem plus_len:∀ (n:Nat) (a b:List Int),a.length+b.length≤n->Asc a->Asc b->(plus a b).length+2*(a.filter fun x=>decide (x∈b)).length=a.length+b.length:=by
 intro n
 induction n with
 | zero =>
  intro a b hn _ _
  have h1:a=[]:=List.length_eq_zero_iff.1 (by omega)
  subst h1
  rw [nil_plus];simp
 | succ n ih =>
  intro a b hn ha hb
  match a,b,hn,ha,hb with
  | [],b,_,_,_=>rw [nil_plus];simp
  | y::a,[],_,_,_ =>
   rw [plus_nil]
   have:((y::a).filter fun x=>decide (x∈([]:List Int)))=[]:=List.filter_eq_nil_iff.2 fun x _=>by simp
   rw [this];simp
  | y::a,z::b,hn,ha,hb =>
   simp only [List.length_cons] at hn
   obtain ⟨ha1,ha2⟩:=List.pairwise_cons.1 ha
   obtain ⟨hb1,hb2⟩:=List.pairwise_cons.1 hb
   rw [plus]
   split
   ·rename_i hyz
    have i1:=ih a (z::b) (by simp only [List.length_cons];omega) ha2 hb
    have:y∉z::b:=fun q=>by
     rcases List.mem_cons.1 q with e|q
     ·omega
     ·have:=hb1 y q;omega
    rw [List.filter_cons,if_neg (by simpa using this)]
    simp only [List.length_cons] at i1 ⊢
    omega
   ·rename_i hyz
    split
    ·rename_i hzy
     have i1:=ih (y::a) b (by simp only [List.length_cons];omega) ha hb2
     have e:((y::a).filter fun x=>decide (x∈z::b))=(y::a).filter fun x=>decide (x∈b):=List.filter_congr fun x hx=>by
      have hxz:x≠z:=fun e=>by
       rcases List.mem_cons.1 hx with e'|q
       ·omega
       ·have:=ha1 x q;omega
      simp [hxz]
     rw [e]
     simp only [List.length_cons] at i1 ⊢
     omega
    ·rename_i hzy
     obtain rfl:y=z:=by omega
     have i1:=ih a b (by omega) ha2 hb2
     have e:(a.filter fun x=>decide (x∈y::b))=a.filter fun x=>decide (x∈b):=List.filter_congr fun x hx=>by
      have hxz:x≠y:=fun e=>by have:=ha1 x hx;omega
      simp [hxz]
     rw [List.filter_cons,if_pos (by simp),e]
     simp only [List.length_cons] at i1 ⊢
     omega
theorem odd_len {a b:List Int} (ha:Asc a) (hb:Asc b):ZBQ a b=decide ((a.length+b.length-(plus a b).length) / 2 % 2=1):=by
 have:=plus_len _ a b (Nat.le_refl _) ha hb
 unfold ZBQ
 rw [show (a.length+b.length-(plus a b).length) / 2=(a.filter fun x=>decide (x∈b)).length by omega]
abbrev Low (C:Int) (a:List Int):Prop:=∀ x∈a,x<C
theorem plus_low {C:Int} {a b:List Int} (ha:Asc a) (hb:Asc b) (h1:Low C a) (h2:Low C b):Low C (plus a b):=fun x hx=>by
 have:=(ZAC ha hb).1 hx
 by_cases h:x∈a
 ·exact h1 x h
 ·exact h2 x (Classical.byContradiction fun q=>this ⟨fun k=>absurd k h,fun k=>absurd k q⟩)
def wd (C:Int) (r:List Int) (o:Bool):List Int:=if o=true then r++[C] else r
theorem ZBU {C:Int} {r:List Int} {o:Bool} {x:Int}:x∈wd C r o↔x∈r\/(o=true/\x=C):=by
 unfold wd
 cases o <;> simp
theorem ZAn {C:Int} {r:List Int} {o:Bool} (h:Asc r) (hl:Low C r):Asc (wd C r o):=by
 unfold wd
 cases o
 ·exact h
 ·exact List.pairwise_append.2 ⟨h,List.pairwise_singleton _ _,fun x hx y hy=>by rw [List.mem_singleton.1 hy];exact hl x hx⟩
theorem ZR3 {C:Int} {r s:List Int} {o p:Bool} (hr:Asc r) (hs:Asc s) (h1:Low C r) (h2:Low C s):wd C (plus r s) (o != p)=plus (wd C r o) (wd C s p):=by
 refine asc_ext (ZAn (Z7 hr hs) (plus_low hr hs h1 h2)) (Z7 (ZAn hr h1) (ZAn hs h2)) fun x=>?_
 rw [ZAC (ZAn hr h1) (ZAn hs h2),ZBU,ZBU,ZBU,ZAC hr hs]
 by_cases hx:x=C
 ·subst hx
  have n1:x∉r:=fun q=>by have:=h1 x q;omega
  have n2:x∉s:=fun q=>by have:=h2 x q;omega
  cases o <;> cases p <;> simp [n1,n2]
 ·simp [hx]
theorem ZR2 {C c:Int} {r:List Int} {o:Bool} (h:r.head?=some c):(wd C r o).head?=some c:=by
 unfold wd
 cases r with
 | nil=>cases h
 | cons y r=>cases o <;> simpa using h
end
end Go.Proofs.YtofkoleingbbpaaGreatDoor.L05
