/- Part 17: walks by contracts, and plain laws. -/
import Derived.DeepKeys4
import Derived.Test.YtofkoleingbbpaaGreatDoorVx16
set_option linter.unusedVariables false
set_option linter.unusedSimpArgs false
set_option linter.unusedSectionVars false
set_option maxRecDepth 100000
set_option maxHeartbeats 4000000
namespace Go.Proofs.YtofkoleingbbpaaGreatDoor
section
open Go.RowKit

def ZS:Nat->List (Value × Value)->List MapEntry
 | _,[]=>[]
 | i,p::m=>⟨p.1,p.2,i⟩::ZS (i+1) m
def ZAE (m:List (Value × Value)):Obj:=.map (ZS 0 m).toArray m.length
theorem Zt:∀ (m:List (Value × Value)) (i:Nat),(ZS i m).length=m.length
 | [],_=>rfl
 | _::m,i=>by simp [ZS,Zt m]
theorem ZAQ:∀ (m:List (Value × Value)) (i j:Nat) (h:j<m.length),(ZS i m)[j]'(by rw [Zt];exact h)=⟨m[j].1,m[j].2,i+j⟩
 | [],_,j,h=>by simp at h
 | p::m,i,0,_=>by simp [ZS]
 | p::m,i,j+1,h=>by
  simp only [ZS,List.getElem_cons_succ]
  rw [ZAQ m (i+1) j (by simpa using h)]
  congr 1;omega
theorem ZCX:∀ (m:List (Value × Value)) (i:Nat) (p:Value × Value),ZS i (m++[p])=ZS i m++[⟨p.1,p.2,i+m.length⟩]
 | [],i,p=>by simp [ZS]
 | q::m,i,p=>by
  simp only [List.cons_append,ZS,ZCX m (i+1) p,List.length_cons]
  congr 4;omega
theorem ZCu:∀ (m:List (Value × Value)) (i j:Nat) (p:Value × Value),ZS i (m.set j p)=(ZS i m).set j ⟨p.1,p.2,i+j⟩
 | [],_,_,_=>rfl
 | q::m,i,0,p=>by simp [ZS]
 | q::m,i,j+1,p=>by
  simp only [List.set_cons_succ,ZS,ZCu m (i+1) j p]
  congr 3;omega
structure KeyT (P:Program) (k:TypeId) {K:Type} (kv:K->Value) (ok:K->Prop):Prop where
 law:Go.Maps.Keyed P k
 lit:∀ x,ok x->∃ l,keyOf P k (kv x)=some l
 inj:∀ x y,ok x->ok y->kv x=kv y->x=y
structure MapT (P:Program) (t k e:TypeId) (z:Value):Prop where
 under:P.underlying t=some (.map k e)
 zero:∀ w,(zeroValue e).run P w = .ok z w
section
variable {P:Program} {k t e:TypeId} {z:Value} {K V:Type} {kv:K->Value} {ok:K->Prop} {vv:V->Value}
def Z8 (kv:K->Value) (vv:V->Value) (m:List (K × V)):List (Value × Value):=m.map fun p=>(kv p.1,vv p.2)
def lookM [DecidableEq K] (m:List (K × V)) (x:K):Option V:=(m.find? fun p=>decide (p.1=x)).map (·.2)
theorem ZGs (H:KeyT P k kv ok) {m:List (K × V)} (hm:∀ p∈m,ok p.1) {x:K} (hx:ok x) (w:World) :
  ((Instr.findKey k (kv x) (ZS 0 (Z8 kv vv m))).run P w = .ok none w/\∀ p∈m,p.1≠x) \/
  ∃ (j:Nat) (h:j<m.length),m[j].1=x/\(Instr.findKey k (kv x) (ZS 0 (Z8 kv vv m))).run P w = .ok (some (j,vv m[j].2)) w:=by
 obtain ⟨lx,hlx⟩:=H.lit x hx
 have hl:(Z8 kv vv m).length=m.length:=by simp [Z8]
 have hat:∀ (j:Nat) (h:j<m.length),(ZS 0 (Z8 kv vv m))[j]'(by rw [Zt,hl];exact h)=⟨kv m[j].1,vv m[j].2,j⟩:=fun j h=>by
  rw [ZAQ _ _ _ (by rw [hl];exact h)]
  simp [Z8]
 have hk:∀ en∈ZS 0 (Z8 kv vv m),∃ l,keyOf P k en.key=some l:=fun en hen=>by
  obtain ⟨j,hj,rfl⟩:=List.getElem_of_mem hen
  have hj':j<m.length:=by rw [Zt,hl] at hj;exact hj
  rw [hat j hj']
  exact H.lit _ (hm _ (List.getElem_mem hj'))
 rcases H.law.find w hlx _ hk with ⟨h1,h2⟩|⟨j,en,h1,h2,h3⟩
 ·refine .inl ⟨h1,fun p hp hpx=>?_⟩
  obtain ⟨j,hj,rfl⟩:=List.getElem_of_mem hp
  have hj':j<(ZS 0 (Z8 kv vv m)).length:=by rw [Zt,hl];exact hj
  refine h2 _ (List.getElem_mem hj') ?_
  rw [hat j hj,hpx]
 ·have hj:=(List.getElem?_eq_some_iff.1 h2).1
  have hj':j<m.length:=by rw [Zt,hl] at hj;exact hj
  have he:en=⟨kv m[j].1,vv m[j].2,j⟩:=by rw [<- hat j hj',(List.getElem?_eq_some_iff.1 h2).2]
  refine .inr ⟨j,hj',H.inj _ _ (hm _ (List.getElem_mem hj')) hx ?_,?_⟩
  ·rw [<- h3,he]
  ·rw [h1,he]
section
variable [DecidableEq K]
theorem ZBd {m:List (K × V)} {x:K} (h:∀ p∈m,p.1≠x):lookM m x=none:=by
 unfold lookM
 rw [List.find?_eq_none.2 (fun p hp=>by simpa using h p hp)];rfl
theorem ZCK {m:List (K × V)} (hn:(m.map (·.1)).Nodup) {j:Nat} (h:j<m.length):lookM m m[j].1=some m[j].2:=by
 induction m generalizing j with
 | nil=>simp at h
 | cons p m ih =>
  rw [List.map_cons,List.nodup_cons] at hn
  cases j with
  | zero=>simp [lookM]
  | succ j =>
   have hj:j<m.length:=by simpa using h
   have hne:¬ p.1=m[j].1:=fun e=>hn.1 (e ▸ List.mem_map_of_mem (List.getElem_mem hj))
   have:=ih hn.2 hj
   unfold lookM at this ⊢
   simp only [List.getElem_cons_succ]
   rw [List.find?_cons_of_neg (by simpa using hne)]
   exact this
def ZBf (m:List (K × V)) (x:K) (v:V):List (K × V):=if (lookM m x).isSome then m.map fun p=>if p.1=x then (x,v) else p else m++[(x,v)]
theorem ZCa {m:List (K × V)} {x:K} {v:V} (h:∀ p∈m,p.1≠x):ZBf m x v=m++[(x,v)]:=by
 unfold ZBf;rw [ZBd h];rfl
theorem ZDp {m:List (K × V)} (hn:(m.map (·.1)).Nodup) {v:V} {j:Nat} (h:j<m.length):ZBf m m[j].1 v=m.set j (m[j].1,v):=by
 unfold ZBf
 rw [ZCK hn h]
 simp only [Option.isSome_some,if_true]
 apply List.ext_getElem (by simp)
 intro i h1 h2
 have hi:i<m.length:=by simpa using h1
 rw [List.getElem_map,List.getElem_set]
 by_cases hij:j=i
 ·subst hij;simp
 ·rw [if_neg hij,if_neg]
  intro e
  refine hij ?_
  have h1:(m.map (·.1))[i]'(by simpa using hi)=(m.map (·.1))[j]'(by simpa using h):=by simpa using e
  exact ((List.getElem_inj hn).1 h1).symm
theorem ZCO (T:MapT P t k e z) (H:KeyT P k kv ok) {m:List (K × V)} (hm:∀ p∈m,ok p.1) (hn:(m.map (·.1)).Nodup) {x:K} (hx:ok x) {w:World} {b:Nat} (hb:w.heap[b]?=some (ZAE (Z8 kv vv m))) (c:Bool) :
  (Instr.lookup t (.map (some b)) (kv x) c).run P w = .ok (if c then .tuple #[((lookM m x).map vv).getD z,.bool (lookM m x).isSome] else ((lookM m x).map vv).getD z) w:=by
 obtain ⟨lx,hlx⟩:=H.lit x hx
 have hg:=MapKept.run_getObj_map (P:=P) (show w.heap[b]?=some (.map _ _) from hb)
 rcases ZGs (vv:=vv) H hm hx w with ⟨h1,h2⟩|⟨j,hj,h1,h2⟩
 ·rw [ZBd h2]
  simp [Instr.lookup,run_underlying T.under,hg,H.law.check w _ hlx,h1,T.zero,Result.andThen]
 ·subst h1
  rw [ZCK hn hj]
  simp [Instr.lookup,run_underlying T.under,hg,H.law.check w _ hlx,h2,Result.andThen]
theorem ZLL (T:MapT P t k e z) (H:KeyT P k kv ok) {m:List (K × V)} (hm:∀ p∈m,ok p.1) (hn:(m.map (·.1)).Nodup) {x:K} (hx:ok x) (v:V) {w:World} {b:Nat} (hb:w.heap[b]?=some (ZAE (Z8 kv vv m))) :
  (Instr.mapUpdate t (.map (some b)) (kv x) (vv v)).run P w = .ok () { w with heap:=w.heap.setIfInBounds b (ZAE (Z8 kv vv (ZBf m x v))) }:=by
 obtain ⟨lx,hlx⟩:=H.lit x hx
 have hl:(Z8 kv vv m).length=m.length:=by simp [Z8]
 have hg:=MapKept.run_getObj_map (P:=P) (show w.heap[b]?=some (.map _ _) from hb)
 rcases ZGs (vv:=vv) H hm hx w with ⟨h1,h2⟩|⟨j,hj,h1,h2⟩
 ·have e1:ZAE (Z8 kv vv (ZBf m x v)) = .map ((ZS 0 (Z8 kv vv m)).toArray.push ⟨kv x,vv v,(Z8 kv vv m).length⟩) ((Z8 kv vv m).length+1):=by
   rw [ZCa h2]
   unfold ZAE
   rw [show Z8 kv vv (m++[(x,v)])=Z8 kv vv m++[(kv x,vv v)] by simp [Z8],ZCX]
   simp
  rw [e1]
  simp [Instr.mapUpdate,run_underlying T.under,hg,H.law.check w _ hlx,h1,MapKept.run_setObj_map _ (show w.heap[b]?=some (.map _ _) from hb),Result.andThen]
 ·subst h1
  have hj':j<(ZS 0 (Z8 kv vv m)).length:=by rw [Zt,hl];exact hj
  have hat:(ZS 0 (Z8 kv vv m))[j]?=some ⟨kv m[j].1,vv m[j].2,0+j⟩:=by
   rw [List.getElem?_eq_getElem hj',ZAQ _ _ _ (by rw [hl];exact hj)]
   simp [Z8]
  have e1:ZAE (Z8 kv vv (ZBf m m[j].1 v)) = .map ((ZS 0 (Z8 kv vv m)).toArray.modify j fun en=>{ en with key:=kv m[j].1,val:=vv v }) (Z8 kv vv m).length:=by
   rw [ZDp hn hj]
   unfold ZAE
   rw [show Z8 kv vv (m.set j (m[j].1,v))=(Z8 kv vv m).set j (kv m[j].1,vv v) by simp [Z8,List.map_set],ZCu,List.length_set]
   congr 1
   apply Array.ext'
   rw [Array.toList_modify,ChangeMaps.modify_eq_set _ _ _ _ (by simpa using hat)]
   simp
  rw [e1]
  simp [Instr.mapUpdate,run_underlying T.under,hg,H.law.check w _ hlx,h2,hat,H.law.stays w hlx,MapKept.run_setObj_map _ (show w.heap[b]?=some (.map _ _) from hb),Result.andThen]
omit [DecidableEq K] in
theorem ZGC {m:List (K × V)} {j:Nat} (hj:j<m.length) (f:MapEntry->MapEntry) (x:K) (v:V) (hf:∀ i,f ⟨kv m[j].1,vv m[j].2,i⟩=⟨kv x,vv v,i⟩) :
  ZAE (Z8 kv vv (m.set j (x,v))) = .map ((ZS 0 (Z8 kv vv m)).toArray.modify j f) (Z8 kv vv m).length:=by
 have hl:(Z8 kv vv m).length=m.length:=by simp [Z8]
 have hj':j<(ZS 0 (Z8 kv vv m)).length:=by rw [Zt,hl];exact hj
 have hat:(ZS 0 (Z8 kv vv m))[j]?=some ⟨kv m[j].1,vv m[j].2,0+j⟩:=by
  rw [List.getElem?_eq_getElem hj',ZAQ _ _ _ (by rw [hl];exact hj)]
  simp [Z8]
 unfold ZAE
 rw [show Z8 kv vv (m.set j (x,v))=(Z8 kv vv m).set j (kv x,vv v) by simp [Z8,List.map_set],ZCu,List.length_set]
 congr 1
 apply Array.ext'
 rw [Array.toList_modify,ChangeMaps.modify_eq_set _ _ _ _ (by simpa using hat),hf]
 simp
omit [DecidableEq K] in
theorem ZNr (T:MapT P t k e z) (H:KeyT P k kv ok) {m:List (K × V)} (hm:∀ p∈m,ok p.1) {x:K} (hx:ok x) {w:World} {b:Nat} (hb:w.heap[b]?=some (ZAE (Z8 kv vv m))) :
  (∃ (j:Nat) (h:j<m.length),m[j].1=x/\(Instr.mapEntry t (.map (some b)) (kv x)).run P w = .ok (.tuple #[vv m[j].2,.int .i64 j]) { w with heap:=w.heap.setIfInBounds b (ZAE (Z8 kv vv m)) }) \/
  ((∀ p∈m,p.1≠x)/\∀ zv,vv zv=z->(Instr.mapEntry t (.map (some b)) (kv x)).run P w = .ok (.tuple #[z,.int .i64 m.length]) { w with heap:=w.heap.setIfInBounds b (ZAE (Z8 kv vv (m++[(x,zv)]))) }):=by
 obtain ⟨lx,hlx⟩:=H.lit x hx
 have hl:(Z8 kv vv m).length=m.length:=by simp [Z8]
 have hg:=MapKept.run_getObj_map (P:=P) (show w.heap[b]?=some (.map _ _) from hb)
 rcases ZGs (vv:=vv) H hm hx w with ⟨h1,h2⟩|⟨j,hj,h1,h2⟩
 ·refine .inr ⟨h2,fun zv hz=>?_⟩
  have e1:ZAE (Z8 kv vv (m++[(x,zv)])) = .map ((ZS 0 (Z8 kv vv m)).toArray.push ⟨kv x,z,(Z8 kv vv m).length⟩) ((Z8 kv vv m).length+1):=by
   unfold ZAE
   rw [show Z8 kv vv (m++[(x,zv)])=Z8 kv vv m++[(kv x,z)] by simp [Z8,hz],ZCX]
   simp
  rw [e1]
  simp [Instr.mapEntry,run_underlying T.under,hg,H.law.check w _ hlx,h1,T.zero,MapKept.run_setObj_map _ (show w.heap[b]?=some (.map _ _) from hb),Result.andThen,goInt,hl]
 ·refine .inl ⟨j,hj,h1,?_⟩
  subst h1
  have hj':j<(ZS 0 (Z8 kv vv m)).length:=by rw [Zt,hl];exact hj
  have hat:(ZS 0 (Z8 kv vv m))[j]?=some ⟨kv m[j].1,vv m[j].2,0+j⟩:=by
   rw [List.getElem?_eq_getElem hj',ZAQ _ _ _ (by rw [hl];exact hj)]
   simp [Z8]
  have e1:=ZGC (kv:=kv) (vv:=vv) hj (fun en=>{ en with key:=kv m[j].1 }) m[j].1 m[j].2 (fun _=>rfl)
  have e2:m.set j (m[j].1,m[j].2)=m:=List.set_getElem_self hj
  rw [e2] at e1
  rw [e1]
  simp [Instr.mapEntry,run_underlying T.under,hg,H.law.check w _ hlx,h2,hat,H.law.stays w hlx,MapKept.run_setObj_map _ (show w.heap[b]?=some (.map _ _) from hb),Result.andThen,goInt]
omit [DecidableEq K] in
theorem ZFs {m:List (K × V)} {j:Nat} (hj:j<m.length) (v:V) {w:World} {b:Nat} (hb:w.heap[b]?=some (ZAE (Z8 kv vv m))) :
  (Instr.entryStore t (.map (some b)) (.int .i64 j) (vv v)).run P w = .ok () { w with heap:=w.heap.setIfInBounds b (ZAE (Z8 kv vv (m.set j (m[j].1,v)))) }:=by
 have hl:(Z8 kv vv m).length=m.length:=by simp [Z8]
 have hg:=MapKept.run_getObj_map (P:=P) (show w.heap[b]?=some (.map _ _) from hb)
 have hf:(ZS 0 (Z8 kv vv m)).findIdx? (fun en=>(en.born:Int) == (j:Int))=some j:=by
  have hlen:(ZS 0 (Z8 kv vv m)).length=m.length:=by rw [Zt,hl]
  have hat:∀ (i:Nat) (h:i<m.length),(ZS 0 (Z8 kv vv m))[i]'(by rw [hlen];exact h)=⟨kv m[i].1,vv m[i].2,i⟩:=fun i h=>by
   rw [ZAQ _ _ _ (by rw [hl];exact h)]
   simp [Z8]
  rw [List.findIdx?_eq_some_iff_getElem]
  refine ⟨by rw [hlen];exact hj,?_,fun i hi=>?_⟩
  ·rw [hat j hj];exact beq_self_eq_true _
  ·rw [hat i (by omega)];show ¬ ((i:Int) == (j:Int))=true;rw [beq_iff_eq];omega
 rw [ZGC hj (fun en=>{ en with val:=vv v }) m[j].1 v (fun _=>rfl)]
 simp [Instr.entryStore,hg,asInt,asIntOf,hf,MapKept.run_setObj_map _ (show w.heap[b]?=some (.map _ _) from hb),Result.andThen]
end
end
end
section
theorem ZCt (v:Vx):∀ b:List Vx,(v∉b/\(b.dropWhile fun x=>decide (x≠v))=[])\/∃ pre c,b=pre++v::c/\v∉pre/\(b.dropWhile fun x=>decide (x≠v))=v::c
 | []=>.inl ⟨by simp,rfl⟩
 | x::b=>by
  by_cases hx:x=v
  ·subst hx
   exact .inr ⟨[],b,rfl,by simp,by rw [List.dropWhile_cons_of_neg (by simp)]⟩
  ·rw [List.dropWhile_cons_of_pos (by simpa using hx)]
   rcases ZCt v b with ⟨h1,h2⟩|⟨pre,c,h1,h2,h3⟩
   ·exact .inl ⟨by simp [h1,Ne.symm hx],h2⟩
   ·exact .inr ⟨x::pre,c,by rw [h1];rfl,by simp [h2,Ne.symm hx],h3⟩
theorem ZPC (v:Vx):ZAK v v=0:=ZBR.2 rfl
theorem ZBu:∀ (a b:List Vx),Asc a->Asc b->ZBP a b=ZAu a b
 | [],b,_,_=>rfl
 | v::a,b,ha,hb=>by
  have ha':=ha
  unfold Asc at ha'
  rw [List.pairwise_cons] at ha'
  unfold ZBP
  rcases ZCt v b with ⟨h1,h2⟩|⟨pre,c,h1,h2,h3⟩
  ·rw [if_pos h2]
   unfold ZAu
   simp [h1]
  ·rw [h3,if_neg (by simp)]
   have hb':=hb
   unfold Asc at hb'
   rw [h1,List.pairwise_append] at hb'
   rw [ZBu a (v::c) ha'.2 hb'.2.1]
   have hv:v∈b:=by rw [h1];simp
   unfold ZAu
   rw [List.all_cons,decide_eq_true hv,Bool.true_and,Bool.eq_iff_iff,List.all_eq_true,List.all_eq_true]
   constructor
   ·intro h x hx
    have:=h x hx
    simp only [decide_eq_true_eq] at this ⊢
    rw [h1];exact List.mem_append.2 (.inr this)
   ·intro h x hx
    have:=h x hx
    simp only [decide_eq_true_eq] at this ⊢
    rw [h1] at this
    rcases List.mem_append.1 this with hp|hp
    ·have h5:=hb'.2.2 x hp v (by simp)
     have h6:=ZAh h5 (ha'.1 x hx)
     rw [ZPC] at h6;omega
    ·exact hp
def ZKi (m:List (Vx × List Int)) (v:Vx) (i:Int):List (Vx × List Int):=ZBf m v ((lookM m v).getD []++[i])
def ZNG (m:List (Vx × List Int)) (s:List Vx) (i:Int):List (Vx × List Int):=s.foldl (fun m v=>ZKi m v i) m
def ZHV (l:Cx):List (Vx × List Int):=(l.zipIdx).foldl (fun m p=>ZNG m p.1 (p.2:Int)) []
theorem ZIL {m:List (Vx × List Int)} {s:List Vx} {i:Int} {j:Nat} (h:j<s.length):ZNG m (s.take (j+1)) i=ZKi (ZNG m (s.take j) i) s[j] i:=by
 unfold ZNG;rw [Zc h,List.foldl_append];rfl
theorem ZFL {l:Cx} {i:Nat} (h:i<l.length):ZHV (l.take (i+1))=ZNG (ZHV (l.take i)) l[i] (i:Int):=by
 unfold ZHV
 rw [Zc h,List.zipIdx_append,List.foldl_append]
 simp [List.length_take,Nat.min_eq_left (Nat.le_of_lt h)]
def atM (m:List (Vx × List Int)) (v:Vx):List Int:=(lookM m v).getD []
theorem ZBe {K V:Type} [DecidableEq K] {m:List (K × V)} {x y:K} {v:V}:lookM (ZBf m x v) y=if y=x then some v else lookM m y:=by
 unfold ZBf
 by_cases h:(lookM m x).isSome
 ·rw [if_pos h]
  induction m with
  | nil=>simp [lookM] at h
  | cons p m ih =>
   rw [List.map_cons]
   by_cases hp:p.1=x
   ·rw [if_pos hp]
    by_cases hy:y=x
    ·rw [if_pos hy];unfold lookM
     rw [List.find?_cons_of_pos (by simp [hy])];rfl
    ·rw [if_neg hy];unfold lookM
     rw [List.find?_cons_of_neg (by simpa using Ne.symm hy),List.find?_cons_of_neg (by rw [hp];simpa using Ne.symm hy)]
     clear ih h hp
     induction m with
     | nil=>rfl
     | cons q m ih =>
      rw [List.map_cons]
      by_cases hq:q.1=x
      ·rw [if_pos hq,List.find?_cons_of_neg (by simpa using Ne.symm hy),List.find?_cons_of_neg (by rw [hq];simpa using Ne.symm hy)]
       exact ih
      ·rw [if_neg hq]
       by_cases hqy:q.1=y
       ·rw [List.find?_cons_of_pos (by simpa using hqy),List.find?_cons_of_pos (by simpa using hqy)]
       ·rw [List.find?_cons_of_neg (by simpa using hqy),List.find?_cons_of_neg (by simpa using hqy)]
        exact ih
   ·rw [if_neg hp]
    have h':(lookM m x).isSome:=by
     unfold lookM at h ⊢
     rwa [List.find?_cons_of_neg (by simpa using hp)] at h
    have:=ih h'
    unfold lookM at this ⊢
    by_cases hpy:p.1=y
    ·have hyx:y≠x:=fun e=>hp (hpy.trans e)
     rw [List.find?_cons_of_pos (by simpa using hpy),if_neg hyx,List.find?_cons_of_pos (by simpa using hpy)]
    ·rw [List.find?_cons_of_neg (by simpa using hpy),List.find?_cons_of_neg (by simpa using hpy)]
     exact this
 ·rw [if_neg h]
  have h0:lookM m x=none:=by simpa using h
  unfold lookM at h0 ⊢
  rw [List.find?_append]
  by_cases hy:y=x
  ·subst hy
   rw [if_pos rfl]
   have:m.find? (fun p=>decide (p.1=y))=none:=by simpa using h0
   rw [this];simp
  ·rw [if_neg hy,List.find?_cons_of_neg (by simpa using Ne.symm hy)]
   simp
theorem ZO8 {m:List (Vx × List Int)} {v u:Vx} {i:Int}:atM (ZKi m v i) u=if u=v then atM m v++[i] else atM m u:=by
 unfold atM ZKi
 rw [ZBe]
 split <;> rfl
theorem ZKF {i j:Int} {v:Vx}:∀ {s:List Vx} {m:List (Vx × List Int)},j∈atM (ZNG m s i) v↔j∈atM m v\/(j=i/\v∈s)
 | [],m=>by simp [ZNG]
 | u::s,m=>by
  show j∈atM (ZNG (ZKi m u i) s i) v↔_
  rw [ZKF (s:=s),ZO8]
  by_cases hv:v=u
  ·subst hv
   rw [if_pos rfl,List.mem_append,List.mem_singleton,List.mem_cons]
   constructor
   ·rintro ((h|h)|h)
    ·exact .inl h
    ·exact .inr ⟨h,.inl rfl⟩
    ·exact .inr ⟨h.1,.inr h.2⟩
   ·rintro (h|h)
    ·exact .inl (.inl h)
    ·exact .inl (.inr h.1)
  ·rw [if_neg hv,List.mem_cons];simp [hv]
theorem ZDl {l:Cx} {j:Int} {v:Vx}:∀ {n:Nat},n≤l.length->(j∈atM (ZHV (l.take n)) v↔∃ (k:Nat) (h:k<l.length),k<n/\j=k/\v∈l[k])
 | 0,_=>by simp [ZHV,atM,lookM]
 | n+1,hn=>by
  rw [ZFL (by omega),ZKF,ZDl (by omega)]
  constructor
  ·rintro (⟨k,h,h1,h2,h3⟩|⟨h1,h2⟩)
   ·exact ⟨k,h,by omega,h2,h3⟩
   ·exact ⟨n,by omega,by omega,h1,h2⟩
  ·rintro ⟨k,h,h1,h2,h3⟩
   by_cases hk:k=n
   ·subst hk;exact .inr ⟨h2,h3⟩
   ·exact .inl ⟨k,h,by omega,h2,h3⟩
theorem ZG2 {l:Cx} {j:Int} {v:Vx}:j∈atM (ZHV l) v↔∃ (k:Nat) (h:k<l.length),j=k/\v∈l[k]:=by
 have:=ZDl (l:=l) (j:=j) (v:=v) (Nat.le_refl _)
 rw [List.take_length] at this
 rw [this]
 exact ⟨fun ⟨k,h,_,h2,h3⟩=>⟨k,h,h2,h3⟩,fun ⟨k,h,h2,h3⟩=>⟨k,h,h,h2,h3⟩⟩
theorem ZQ6 {l:Cx} {v:Vx}:∀ i∈atM (ZHV l) v,0≤i/\i<l.length:=fun i hi=>by
 obtain ⟨k,h,rfl,_⟩:=ZG2.1 hi
 omega
theorem ZQK {l:Cx} (h:∀ s∈l,Z5 s=0) {s:List Vx} (hs:Z5 s=0) {v:Vx} (hv:v∈s):(atM (ZHV l) v).any (ZPE l s)=ZDB l s:=by
 have asc:∀ s∈l,Asc s:=fun s hs=>(Zf.1 (h s hs)).2.2.2
 rw [Bool.eq_iff_iff,List.any_eq_true,ZER]
 constructor
 ·rintro ⟨i,hi,hc⟩
  obtain ⟨k,hk,rfl,_⟩:=ZG2.1 hi
  have hm:=List.getElem_mem hk
  unfold ZPE at hc
  rw [Int.toNat_natCast,show l.getD k []=l[k] by simp [List.getD,hk],Bool.and_eq_true,decide_eq_true_eq,ZBu _ _ (Zf.1 hs).2.2.2 (asc _ hm)] at hc
  exact ⟨l[k],hm,hc.1,hc.2⟩
 ·rintro ⟨x,hx,h1,h2⟩
  obtain ⟨k,hk,rfl⟩:=List.getElem_of_mem hx
  refine ⟨(k:Int),ZG2.2 ⟨k,hk,rfl,?_⟩,?_⟩
  ·unfold ZAu at h2
   have:=List.all_eq_true.1 h2 v hv
   simpa using this
  ·unfold ZPE
   rw [Int.toNat_natCast,show l.getD k []=l[k] by simp [List.getD,hk],Bool.and_eq_true,decide_eq_true_eq,ZBu _ _ (Zf.1 hs).2.2.2 (asc _ hx)]
   exact ⟨h1,h2⟩
end
section
theorem ZK9 {a b:List Vx} {p:Bool} {x:Vx}:x∈ZFb a b p↔x∈a/\decide (x∈b)=p:=by unfold ZFb;rw [List.mem_filter];simp
theorem ZGJ {a b:List Vx} {p:Bool}:(ZFb a b p).Sublist a:=List.filter_sublist
theorem ZKn {a b:List Vx} {p:Bool} (h:Asc a):Asc (ZFb a b p):=List.Pairwise.sublist ZGJ h
theorem ZP3 {a s:List Vx} (ha:Z5 a=0) (hs:s.Sublist a) (hne:s≠[]):Z5 s=0:=by
 obtain ⟨h1,h2,h3,h4⟩:=Zf.1 ha
 refine Zf.2 ⟨fun h=>hne (List.eq_nil_of_length_eq_zero h),Nat.le_trans hs.length_le h2,fun v hv=>h3 v (hs.subset hv),List.Pairwise.sublist hs h4⟩
theorem ZSs {s:List Vx} (h:0<s.length):s≠[]:=fun e=>by subst e;simp at h
end
section
theorem ZAm:∀ (k:Nat) (s x:List Vx),x∈ZX k s↔x.Sublist s/\x.length=k
 | 0,s,x=>by
  have:ZX 0 s=[[]]:=by unfold ZX;rfl
  rw [this,List.mem_singleton]
  constructor
  ·rintro rfl;exact ⟨List.nil_sublist _,rfl⟩
  ·rintro ⟨_,h⟩;exact List.eq_nil_of_length_eq_zero h
 | k+1,[],x=>by
  simp only [ZX,List.not_mem_nil,List.sublist_nil,false_iff]
  rintro ⟨rfl,h⟩;simp at h
 | k+1,v::s,x=>by
  unfold ZX
  rw [List.mem_append,List.mem_map,ZAm (k+1) s x]
  constructor
  ·rintro (⟨y,hy,rfl⟩|⟨h1,h2⟩)
   ·obtain ⟨h1,h2⟩:=(ZAm k s y).1 hy
    exact ⟨h1.cons_cons v,by simp [h2]⟩
   ·exact ⟨h1.cons v,h2⟩
  ·rintro ⟨h1,h2⟩
   rcases List.sublist_cons_iff.1 h1 with h|⟨y,rfl,h⟩
   ·exact .inr ⟨h,h2⟩
   ·exact .inl ⟨y,(ZAm k s y).2 ⟨h,by simpa using h2⟩,rfl⟩
theorem ZLS (s:List Vx):(ZX 0 s).length=1:=by unfold ZX;rfl
theorem ZLR (k:Nat) (v:Vx) (s:List Vx):(ZX (k+1) (v::s)).length=(ZX k s).length+(ZX (k+1) s).length:=by
 conv=>lhs;unfold ZX
 rw [List.length_append,List.length_map]
theorem ZMk (v:Vx) (a b:List Vx):ZAX (v::a) (v::b)=ZAX a b:=by
 conv=>lhs;unfold ZAX
 rw [if_pos (ZBR.2 rfl)]
theorem ZC2:∀ (k:Nat) (s:List Vx),Asc s->(ZX k s).Pairwise fun a b=>ZAX a b = -1
 | 0,s,_=>by unfold ZX;exact List.pairwise_singleton _ _
 | k+1,[],_=>by unfold ZX;exact List.Pairwise.nil
 | k+1,v::s,h=>by
  obtain ⟨h1,h2⟩:=List.pairwise_cons.1 h
  unfold ZX
  rw [List.pairwise_append]
  refine ⟨List.pairwise_map.2 (List.Pairwise.imp (fun {a b} hab=>by rw [ZMk];exact hab) (ZC2 k s h2)),ZC2 (k+1) s h2,fun a ha b hb=>?_⟩
  obtain ⟨a',_,rfl⟩:=List.mem_map.1 ha
  obtain ⟨hb1,hb2⟩:=(ZAm _ _ _).1 hb
  match b,hb1,hb2 with
  | w::b',hb1,_ =>
   have hw:w∈s:=hb1.subset (by simp)
   have hvw:=h1 w hw
   have:=ZD4 v w
   unfold ZAX
   rw [if_neg (by omega)]
   omega
theorem ZAl {a s:List Vx} {k:Nat} (hs:Z5 s=0) (hk:0<k) (h:a∈ZX k s):Z5 a=0/\a.Sublist s/\a.length=k:=by
 obtain ⟨h1,h2⟩:=(ZAm _ _ _).1 h
 exact ⟨ZP3 hs h1 (ZSs (by omega)),h1,h2⟩
theorem ZDR {s:List Vx} (hs:Z5 s=0) {k:Nat} (h1:0<k) (h2:k≤s.length):ZCh s k=(ZX k s,0):=by
 unfold ZCh
 rw [if_neg (by simp [hs]),if_neg (by omega)]
 simp
end
section
open Go.RowKit

def twI (l:Cx) (i k:Nat):Bool:=decide (i≠k) && ZAu (l.getD i []) (l.getD k [])
theorem ZDc {n:Nat} {p:Nat->Bool}:(List.range (n+1)).any p=((List.range n).any p || p n):=by rw [List.range_succ,List.any_append];simp
theorem ZI2 {n k:Nat} {p:Nat->Bool} (hk:k<n) (h:p k=true):(List.range n).any p=true:=List.any_eq_true.2 ⟨k,List.mem_range.2 hk,h⟩
theorem ZCv {l:Cx} {k:Nat} (h:k<l.length):l.getD k []=l[k]:=by simp [List.getD,h]
theorem ZRC (l:Cx):Fn Tryz.prog 48 [dS Cpx l] (dI (ZAy l)):=by
 (refine ZE Tryz.func48 rfl rfl ?_;simp only [Tryz.ntmps48,List.length_cons,List.length_nil,Nat.reduceAdd,Nat.reduceSub,List.replicate_succ,List.replicate_zero,List.cons_append,List.nil_append])
 ((repeat' (first|((first|apply WL.opN|apply WD.opN);exact yF;dsimp only [ZB,z0,z1])|refine WL.nil ?_|refine ZA fun Kx hK=>?_|(refine hK _ _ ?_;clear hK)|refine WC.region ?_|((first|apply ZF|apply WD.op);(focus (first|exact wN|(apply SYG.yes;(exact wY);((first|exact ZGN|exact ZBg|exact Z3|exact ZFl|fail);all_goals infer_instance))));dsimp only [ZB,z0,z1])|(apply ZC;(exact oD);all_goals (intro h;try exact xD))|refine WC.skip ?_|refine WC.ret ?_|refine WC.block ?_|refine ThenD.r ?_));all_goals (first|refine WC.id ?_|((repeat clear hK);(repeat clear Kx))))
 ·(refine ⟨trivial,_,rfl,?_⟩;refine FinD.i ?_)
  unfold ZAy;rw [if_pos (by omega)]
 ·have hs:ZAy l=if ZEQ none l≠0 then ZEQ none l else if ZCi l=true then 7 else 0:=by unfold ZAy;rw [if_neg (by omega)]
  (refine WC.loopU (X:=Nat) (fun k=>[(4,dI (k:Int)),(2,dA),(5,dA),(13,dA),(14,dA),(15,dA),(16,dA),(17,dA),(18,dA),(19,dA),(20,dA),(21,dA),(22,dA),(23,dA),(24,dA),(25,dA),(26,dA),(27,dA),(28,dA),(29,dA),(30,dA),(31,dA),(32,dA),(33,dA),(34,dA),(35,dA),(36,dA),(37,dA),(38,dA),(39,dA),(40,dA),(41,dA)]) (fun k=>[]) (fun k=>l.length-k) (fun k=>k≤l.length/\ZEQ none l=ZEQ (l.take k).getLast? (l.drop k)) 0 ?start ?frame0 ?objs0 ?round)
  case start=>exact ⟨Nat.zero_le _,rfl⟩
  case frame0=>((try dsimp only [ZK,z0,z1]);repeat (first|exact LeF.nil|refine ZD (k:=?_)))
  case objs0=>rfl
  case round =>
   rintro k ⟨h3,h4⟩
   dsimp only [ZK,z0,z1]
   ((repeat' (first|((first|apply WL.opN|apply WD.opN);exact yF;dsimp only [ZB,z0,z1])|refine WL.nil ?_|refine WD.nil ?_|refine ZA fun Kx hK=>?_|(refine hK _ _ ?_;clear hK)|(refine Kont.skip ?_;clear hK)|refine WC.region ?_|(apply WC.draw;kernel_rfl;kernel_rfl)|((first|apply ZF|apply WD.op);(focus (first|exact wN|(apply SYG.yes;(exact wY);((first|(apply SY.call (ZQN _ _) Tryz.call77;(exact aD))|(apply SY.call (chk_c _) Tryz.call53;(exact aD))|(apply ZQG ZFC (OpD.t rfl) (OpD.t rfl) (k-1);omega;omega)|exact ZDv|exact ZBx|exact ZGN|exact ZOS|exact ZEu|exact ZC5|exact ZR5|exact ZEg|exact ZBg|exact ZV|exact ZDY|fail);all_goals infer_instance))));dsimp only [ZB,z0,z1])|((first|refine ZN rfl rfl rfl (fun h=>?_) (fun h=>?_)|refine ZM rfl rfl rfl (fun h=>?_) (fun h=>?_)|refine ZL rfl rfl rfl (fun h=>?_) (fun h=>?_)|refine Za rfl rfl rfl (fun h=>?_) (fun h=>?_)|refine ZZ rfl rfl rfl (fun h=>?_) (fun h=>?_)|refine ZW rfl rfl rfl (fun h=>?_) (fun h=>?_)) <;> (first|(exfalso;first|omega|contradiction)|(dsimp only [z0,z1])))|(apply ZY;(exact oD);(with_reducible rfl))|(apply ZC;(exact oD);all_goals (intro h;try exact xD))|(apply ZG;(exact oD);all_goals (intro h;try exact xD))|refine WC.skip ?_|refine WC.ret ?_|refine WC.exit ?_|refine WC.block ?_|refine ThenD.n ?_|refine ThenD.r ?_|refine InBlockD.r ?_));all_goals (first|refine WC.id ?_|((repeat clear hK);(repeat clear Kx))))
   all_goals try (rw [ZH5 l k (by omega)] at h4)
   ·(refine ⟨trivial,_,rfl,?_⟩;refine FinD.i ?_)
    rw [hs,h4,if_pos h,if_pos h]
   ·(refine ⟨trivial,_,rfl,?_⟩;refine FinD.i ?_)
    have h5:¬ Z5 l[k]≠0:=by omega
    rw [if_neg h5,ZDE _ _ (by omega) (by omega),if_pos (by simpa using h)] at h4
    rw [hs,h4];rfl
   ·(refine ⟨k+1,?_,by first|omega|(simp only;omega),rfl,?_⟩;rotate_left;((try dsimp only [ZK,z0,z1]);repeat (first|exact LeF.nil|refine ZD (k:=?_)));(try dsimp only))
    refine ⟨by omega,?_⟩
    have h5:¬ Z5 l[k]≠0:=by omega
    rw [h4,if_neg h5,ZDE _ _ (by omega) (by omega),if_neg (by simpa using h)]
   ·(refine ⟨k+1,?_,by first|omega|(simp only;omega),rfl,?_⟩;rotate_left;((try dsimp only [ZK,z0,z1]);repeat (first|exact LeF.nil|refine ZD (k:=?_)));(try dsimp only))
    refine ⟨by omega,?_⟩
    have h5:¬ Z5 l[k]≠0:=by omega
    have h0:(l.take k).getLast?=none:=by
     have:k=0:=by omega
     rw [this];rfl
    rw [h4,if_neg h5,h0]
    rfl
   ·rw [List.drop_of_length_le (by omega)] at h4
    have h4':ZEQ none l=0:=h4
    have hs':ZAy l=if ZCi l=true then 7 else 0:=by rw [hs,if_neg (by omega)]
    clear hs h4
    (refine WC.loopU (X:=Nat) (fun i=>[(6,dI (i:Int)),(2,dA),(7,dA),(42,dA),(43,dA),(44,dA),(45,dA),(46,dA),(47,dA),(48,dA),(49,dA),(50,dA),(51,dA),(52,dA),(53,dA),(54,dA),(55,dA),(56,dA),(57,dA),(58,dA),(59,dA),(60,dA),(61,dA),(62,dA),(63,dA),(64,dA),(65,dA),(66,dA),(67,dA)]) (fun i=>[]) (fun i=>l.length-i) (fun i=>i≤l.length/\(List.range i).any (fun i=>(List.range l.length).any (twI l i))=false) 0 ?start ?frame0 ?objs0 ?round)
    case start=>exact ⟨Nat.zero_le _,rfl⟩
    case frame0=>((try dsimp only [ZK,z0,z1]);repeat (first|exact LeF.nil|refine ZD (k:=?_)))
    case objs0=>rfl
    case round =>
     rintro i ⟨h5,h6⟩
     dsimp only [ZK,z0,z1]
     ((repeat' (first|((first|apply WL.opN|apply WD.opN);exact yF;dsimp only [ZB,z0,z1])|refine WL.nil ?_|refine ZA fun Kx hK=>?_|(refine hK _ _ ?_;clear hK)|(refine Kont.skip ?_;clear hK)|refine WC.region ?_|((first|apply ZF|apply WD.op);(focus (first|exact wN|(apply SYG.yes;(exact wY);((first|exact ZBx|exact ZBg|fail);all_goals infer_instance))));dsimp only [ZB,z0,z1])|(apply ZC;(exact oD);all_goals (intro h;try exact xD))|refine WC.skip ?_|refine WC.ret ?_|refine WC.exit ?_|refine WC.block ?_));all_goals (first|refine WC.id ?_|((repeat clear hK);(repeat clear Kx))))
     ·(refine WC.loopU (X:=Nat) (fun j=>[(7,dI (j:Int)),(2,dA),(48,dA),(49,dA),(50,dA),(51,dA),(52,dA),(53,dA),(54,dA),(55,dA),(56,dA),(57,dA),(58,dA),(59,dA),(60,dA),(61,dA),(62,dA),(63,dA),(64,dA),(65,dA),(66,dA),(67,dA)]) (fun j=>[]) (fun j=>l.length-j) (fun j=>j≤l.length/\(List.range j).any (twI l i)=false) 0 ?start ?frame0 ?objs0 ?round)
      case start=>exact ⟨Nat.zero_le _,rfl⟩
      case frame0=>((try dsimp only [ZK,z0,z1]);repeat (first|exact LeF.nil|refine ZD (k:=?_)))
      case objs0=>rfl
      case round =>
       rintro j ⟨h7,h8⟩
       dsimp only [ZK,z0,z1]
       ((repeat' (first|((first|apply WL.opN|apply WD.opN);exact yF;dsimp only [ZB,z0,z1])|refine WL.nil ?_|refine WD.nil ?_|refine ZA fun Kx hK=>?_|(refine hK _ _ ?_;clear hK)|(refine Kont.skip ?_;clear hK)|refine WC.region ?_|(apply WC.draw;kernel_rfl;kernel_rfl)|((first|apply ZF|apply WD.op);(focus (first|exact wN|(apply SYG.yes;(exact wY);((first|(apply SY.call (ZPQ _ _) Tryz.call87;(exact aD))|exact ZDv|exact ZBx|exact ZEu|exact ZC5|exact ZEg|exact ZBg|exact ZV|exact ZDY|fail);all_goals infer_instance))));dsimp only [ZB,z0,z1])|((first|refine ZN rfl rfl rfl (fun h=>?_) (fun h=>?_)|refine ZM rfl rfl rfl (fun h=>?_) (fun h=>?_)|refine ZL rfl rfl rfl (fun h=>?_) (fun h=>?_)|refine Za rfl rfl rfl (fun h=>?_) (fun h=>?_)|refine ZZ rfl rfl rfl (fun h=>?_) (fun h=>?_)|refine ZW rfl rfl rfl (fun h=>?_) (fun h=>?_)) <;> (first|(exfalso;first|omega|contradiction)|(dsimp only [z0,z1])))|(apply ZY;(exact oD);(with_reducible rfl))|(apply ZC;(exact oD);all_goals (intro h;try exact xD))|(apply WC.cond;(exact oD);all_goals (intro h;try exact xD))|refine WC.skip ?_|refine WC.ret ?_|refine WC.exit ?_|refine WC.block ?_|refine ThenD.n ?_|refine ThenD.r ?_|refine InBlockD.r ?_));all_goals (first|((repeat clear hK);(repeat clear Kx))))
       ·(refine ⟨trivial,_,rfl,?_⟩;refine FinD.i ?_)
        have e:twI l i j=true:=by
         unfold twI
         rw [ZCv (by omega),ZCv (by omega),h,decide_eq_true (by omega)];rfl
        rw [hs',if_pos (show ZCi l=true from ZI2 (k:=i) (by omega) (ZI2 (k:=j) (by omega) e))]
       ·(refine ⟨j+1,?_,by first|omega|(simp only;omega),rfl,?_⟩;rotate_left;((try dsimp only [ZK,z0,z1]);repeat (first|exact LeF.nil|refine ZD (k:=?_)));(try dsimp only))
        refine ⟨by omega,?_⟩
        rw [ZDc,h8]
        unfold twI
        rw [ZCv (by omega),ZCv (by omega),h,Bool.and_false];rfl
       ·(refine ⟨j+1,?_,by first|omega|(simp only;omega),rfl,?_⟩;rotate_left;((try dsimp only [ZK,z0,z1]);repeat (first|exact LeF.nil|refine ZD (k:=?_)));(try dsimp only))
        refine ⟨by omega,?_⟩
        rw [ZDc,h8]
        unfold twI
        rw [decide_eq_false (by omega)];rfl
       ·rw [show j=l.length by omega] at h8
        (refine ⟨i+1,?_,by first|omega|(simp only;omega),rfl,?_⟩;rotate_left;((try dsimp only [ZK,z0,z1]);repeat (first|exact LeF.nil|refine ZD (k:=?_)));(try dsimp only))
        refine ⟨by omega,?_⟩
        rw [ZDc,h6,h8];rfl
     ·rw [show i=l.length by omega] at h6
      (refine ⟨trivial,_,rfl,?_⟩;refine FinD.i ?_)
      have e:ZCi l=false:=h6
      rw [hs',e];rfl
theorem ZJq:∀ (l:Cx) (p:Option (List Vx)),ZEQ p l=0->∀ s∈l,Z5 s=0
 | [],_,_,s,hs=>by simp at hs
 | x::l,p,h,s,hs=>by
  unfold ZEQ at h
  by_cases h1:Z5 x≠0
  ·rw [if_pos h1] at h;exact absurd h h1
  ·rw [if_neg h1] at h
   rcases List.mem_cons.1 hs with rfl|hs
   ·omega
   ·refine ZJq l (some x) ?_ s hs
    revert h
    split
    ·intro h;omega
    ·exact id
theorem ZMe {l:Cx} (h:ZAy l=0):l.length≤4096/\ZEQ none l=0/\ZCi l=false/\∀ s∈l,Z5 s=0:=by
 unfold ZAy at h
 by_cases h1:4096<l.length
 ·rw [if_pos h1] at h;omega
 rw [if_neg h1] at h
 by_cases h2:ZEQ none l≠0
 ·rw [if_pos h2] at h;exact absurd h h2
 rw [if_neg h2] at h
 refine ⟨by omega,by omega,?_,ZJq l none (by omega)⟩
 cases h3:ZCi l with
 | false=>rfl
 | true=>rw [h3,if_pos rfl] at h;omega
end
end Go.Proofs.YtofkoleingbbpaaGreatDoor
