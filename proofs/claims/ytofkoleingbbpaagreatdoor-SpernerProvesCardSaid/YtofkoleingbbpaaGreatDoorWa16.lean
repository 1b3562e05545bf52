/- Part 16: walks by contracts, and plain laws. -/
import Derived.DeepKeys4
import Derived.Test.YtofkoleingbbpaaGreatDoorWa15
set_option linter.unusedVariables false
set_option linter.unusedSimpArgs false
set_option linter.unusedSectionVars false
set_option maxRecDepth 100000
set_option maxHeartbeats 4000000
namespace Go.Proofs.YtofkoleingbbpaaGreatDoor
section
open Go.RowKit

def Zj:Nat->List (Value × Value)->List MapEntry
 | _,[]=>[]
 | i,p::m=>⟨p.1,p.2,i⟩::Zj (i+1) m
def ZAr (m:List (Value × Value)):Obj:=.map (Zj 0 m).toArray m.length
theorem ZAM:∀ (m:List (Value × Value)) (i:Nat),(Zj i m).length=m.length
 | [],_=>rfl
 | _::m,i=>by simp [Zj,ZAM m]
theorem ZBB:∀ (m:List (Value × Value)) (i j:Nat) (h:j<m.length),(Zj i m)[j]'(by rw [ZAM];exact h)=⟨m[j].1,m[j].2,i+j⟩
 | [],_,j,h=>by simp at h
 | p::m,i,0,_=>by simp [Zj]
 | p::m,i,j+1,h=>by
  simp only [Zj,List.getElem_cons_succ]
  rw [ZBB m (i+1) j (by simpa using h)]
  congr 1;omega
theorem ZEL:∀ (m:List (Value × Value)) (i:Nat) (p:Value × Value),Zj i (m++[p])=Zj i m++[⟨p.1,p.2,i+m.length⟩]
 | [],i,p=>by simp [Zj]
 | q::m,i,p=>by
  simp only [List.cons_append,Zj,ZEL m (i+1) p,List.length_cons]
  congr 4;omega
theorem ZEw:∀ (m:List (Value × Value)) (i j:Nat) (p:Value × Value),Zj i (m.set j p)=(Zj i m).set j ⟨p.1,p.2,i+j⟩
 | [],_,_,_=>rfl
 | q::m,i,0,p=>by simp [Zj]
 | q::m,i,j+1,p=>by
  simp only [List.set_cons_succ,Zj,ZEw m (i+1) j p]
  congr 3;omega
structure KeyT (P:Program) (k:TypeId) {K:Type} (kv:K->Value) (ok:K->Prop):Prop where
 law:Go.Maps.Keyed P k
 lit:∀ x,ok x->∃ l,keyOf P k (kv x)=some l
 inj:∀ x y,ok x->ok y->kv x=kv y->x=y
structure MapT (P:Program) (t k e:TypeId) (z:Value):Prop where
 under:P.underlying t=some (.map k e)
 zero:∀ w,(zeroValue e).run P w = .ok z w
section
variable {P:Program} {k t e:TypeId} {z:Value} {K V:Type} {kv:K->Value} {ok:K->Prop} {vv:V->Value}
def ZAj (kv:K->Value) (vv:V->Value) (m:List (K × V)):List (Value × Value):=m.map fun p=>(kv p.1,vv p.2)
def lookM [DecidableEq K] (m:List (K × V)) (x:K):Option V:=(m.find? fun p=>decide (p.1=x)).map (·.2)
theorem ZJ0 (H:KeyT P k kv ok) {m:List (K × V)} (hm:∀ p∈m,ok p.1) {x:K} (hx:ok x) (w:World) :
  ((Instr.findKey k (kv x) (Zj 0 (ZAj kv vv m))).run P w = .ok none w/\∀ p∈m,p.1≠x) \/
  ∃ (j:Nat) (h:j<m.length),m[j].1=x/\(Instr.findKey k (kv x) (Zj 0 (ZAj kv vv m))).run P w = .ok (some (j,vv m[j].2)) w:=by
 obtain ⟨lx,hlx⟩:=H.lit x hx
 have hl:(ZAj kv vv m).length=m.length:=by simp [ZAj]
 have hat:∀ (j:Nat) (h:j<m.length),(Zj 0 (ZAj kv vv m))[j]'(by rw [ZAM,hl];exact h)=⟨kv m[j].1,vv m[j].2,j⟩:=fun j h=>by
  rw [ZBB _ _ _ (by rw [hl];exact h)]
  simp [ZAj]
 have hk:∀ en∈Zj 0 (ZAj kv vv m),∃ l,keyOf P k en.key=some l:=fun en hen=>by
  obtain ⟨j,hj,rfl⟩:=List.getElem_of_mem hen
  have hj':j<m.length:=by rw [ZAM,hl] at hj;exact hj
  rw [hat j hj']
  exact H.lit _ (hm _ (List.getElem_mem hj'))
 rcases H.law.find w hlx _ hk with ⟨h1,h2⟩|⟨j,en,h1,h2,h3⟩
 ·refine .inl ⟨h1,fun p hp hpx=>?_⟩
  obtain ⟨j,hj,rfl⟩:=List.getElem_of_mem hp
  have hj':j<(Zj 0 (ZAj kv vv m)).length:=by rw [ZAM,hl];exact hj
  refine h2 _ (List.getElem_mem hj') ?_
  rw [hat j hj,hpx]
 ·have hj:=(List.getElem?_eq_some_iff.1 h2).1
  have hj':j<m.length:=by rw [ZAM,hl] at hj;exact hj
  have he:en=⟨kv m[j].1,vv m[j].2,j⟩:=by rw [<- hat j hj',(List.getElem?_eq_some_iff.1 h2).2]
  refine .inr ⟨j,hj',H.inj _ _ (hm _ (List.getElem_mem hj')) hx ?_,?_⟩
  ·rw [<- h3,he]
  ·rw [h1,he]
section
variable [DecidableEq K]
theorem ZCv {m:List (K × V)} {x:K} (h:∀ p∈m,p.1≠x):lookM m x=none:=by
 unfold lookM
 rw [List.find?_eq_none.2 (fun p hp=>by simpa using h p hp)];rfl
theorem ZDz {m:List (K × V)} (hn:(m.map (·.1)).Nodup) {j:Nat} (h:j<m.length):lookM m m[j].1=some m[j].2:=by
 induction m generalizing j with
 | nil=>simp at h
 | cons p m ih =>
  rw [List.map_cons,List.nodup_cons] at hn
  cases j with
  | zero=>simp [lookM]
  | succ j =>
   have hj:j<m.length:=by simpa using h
   have hne:¬ p.1=m[j].1:=fun e=>hn.1 (e ▸ List.mem_map_of_mem (List.getElem_mem hj))
   have:=ih hn.2 hj
   unfold lookM at this ⊢
   simp only [List.getElem_cons_succ]
   rw [List.find?_cons_of_neg (by simpa using hne)]
   exact this
def ZCy (m:List (K × V)) (x:K) (v:V):List (K × V):=if (lookM m x).isSome then m.map fun p=>if p.1=x then (x,v) else p else m++[(x,v)]
theorem ZER {m:List (K × V)} {x:K} {v:V} (h:∀ p∈m,p.1≠x):ZCy m x v=m++[(x,v)]:=by
 unfold ZCy;rw [ZCv h];rfl
theorem ZGT {m:List (K × V)} (hn:(m.map (·.1)).Nodup) {v:V} {j:Nat} (h:j<m.length):ZCy m m[j].1 v=m.set j (m[j].1,v):=by
 unfold ZCy
 rw [ZDz hn h]
 simp only [Option.isSome_some,if_true]
 apply List.ext_getElem (by simp)
 intro i h1 h2
 have hi:i<m.length:=by simpa using h1
 rw [List.getElem_map,List.getElem_set]
 by_cases hij:j=i
 ·subst hij;simp
 ·rw [if_neg hij,if_neg]
  intro e
  refine hij ?_
  have h1:(m.map (·.1))[i]'(by simpa using hi)=(m.map (·.1))[j]'(by simpa using h):=by simpa using e
  exact ((List.getElem_inj hn).1 h1).symm
theorem ZD2 (T:MapT P t k e z) (H:KeyT P k kv ok) {m:List (K × V)} (hm:∀ p∈m,ok p.1) (hn:(m.map (·.1)).Nodup) {x:K} (hx:ok x) {w:World} {b:Nat} (hb:w.heap[b]?=some (ZAr (ZAj kv vv m))) (c:Bool) :
  (Instr.lookup t (.map (some b)) (kv x) c).run P w = .ok (if c then .tuple #[((lookM m x).map vv).getD z,.bool (lookM m x).isSome] else ((lookM m x).map vv).getD z) w:=by
 obtain ⟨lx,hlx⟩:=H.lit x hx
 have hg:=MapKept.run_getObj_map (P:=P) (show w.heap[b]?=some (.map _ _) from hb)
 rcases ZJ0 (vv:=vv) H hm hx w with ⟨h1,h2⟩|⟨j,hj,h1,h2⟩
 ·rw [ZCv h2]
  simp [Instr.lookup,run_underlying T.under,hg,H.law.check w _ hlx,h1,T.zero,Result.andThen]
 ·subst h1
  rw [ZDz hn hj]
  simp [Instr.lookup,run_underlying T.under,hg,H.law.check w _ hlx,h2,Result.andThen]
theorem ZPL (T:MapT P t k e z) (H:KeyT P k kv ok) {m:List (K × V)} (hm:∀ p∈m,ok p.1) (hn:(m.map (·.1)).Nodup) {x:K} (hx:ok x) (v:V) {w:World} {b:Nat} (hb:w.heap[b]?=some (ZAr (ZAj kv vv m))) :
  (Instr.mapUpdate t (.map (some b)) (kv x) (vv v)).run P w = .ok () { w with heap:=w.heap.setIfInBounds b (ZAr (ZAj kv vv (ZCy m x v))) }:=by
 obtain ⟨lx,hlx⟩:=H.lit x hx
 have hl:(ZAj kv vv m).length=m.length:=by simp [ZAj]
 have hg:=MapKept.run_getObj_map (P:=P) (show w.heap[b]?=some (.map _ _) from hb)
 rcases ZJ0 (vv:=vv) H hm hx w with ⟨h1,h2⟩|⟨j,hj,h1,h2⟩
 ·have e1:ZAr (ZAj kv vv (ZCy m x v)) = .map ((Zj 0 (ZAj kv vv m)).toArray.push ⟨kv x,vv v,(ZAj kv vv m).length⟩) ((ZAj kv vv m).length+1):=by
   rw [ZER h2]
   unfold ZAr
   rw [show ZAj kv vv (m++[(x,v)])=ZAj kv vv m++[(kv x,vv v)] by simp [ZAj],ZEL]
   simp
  rw [e1]
  simp [Instr.mapUpdate,run_underlying T.under,hg,H.law.check w _ hlx,h1,MapKept.run_setObj_map _ (show w.heap[b]?=some (.map _ _) from hb),Result.andThen]
 ·subst h1
  have hj':j<(Zj 0 (ZAj kv vv m)).length:=by rw [ZAM,hl];exact hj
  have hat:(Zj 0 (ZAj kv vv m))[j]?=some ⟨kv m[j].1,vv m[j].2,0+j⟩:=by
   rw [List.getElem?_eq_getElem hj',ZBB _ _ _ (by rw [hl];exact hj)]
   simp [ZAj]
  have e1:ZAr (ZAj kv vv (ZCy m m[j].1 v)) = .map ((Zj 0 (ZAj kv vv m)).toArray.modify j fun en=>{ en with key:=kv m[j].1,val:=vv v }) (ZAj kv vv m).length:=by
   rw [ZGT hn hj]
   unfold ZAr
   rw [show ZAj kv vv (m.set j (m[j].1,v))=(ZAj kv vv m).set j (kv m[j].1,vv v) by simp [ZAj,List.map_set],ZEw,List.length_set]
   congr 1
   apply Array.ext'
   rw [Array.toList_modify,ChangeMaps.modify_eq_set _ _ _ _ (by simpa using hat)]
   simp
  rw [e1]
  simp [Instr.mapUpdate,run_underlying T.under,hg,H.law.check w _ hlx,h2,hat,H.law.stays w hlx,MapKept.run_setObj_map _ (show w.heap[b]?=some (.map _ _) from hb),Result.andThen]
omit [DecidableEq K] in
theorem ZJO {m:List (K × V)} {j:Nat} (hj:j<m.length) (f:MapEntry->MapEntry) (x:K) (v:V) (hf:∀ i,f ⟨kv m[j].1,vv m[j].2,i⟩=⟨kv x,vv v,i⟩) :
  ZAr (ZAj kv vv (m.set j (x,v))) = .map ((Zj 0 (ZAj kv vv m)).toArray.modify j f) (ZAj kv vv m).length:=by
 have hl:(ZAj kv vv m).length=m.length:=by simp [ZAj]
 have hj':j<(Zj 0 (ZAj kv vv m)).length:=by rw [ZAM,hl];exact hj
 have hat:(Zj 0 (ZAj kv vv m))[j]?=some ⟨kv m[j].1,vv m[j].2,0+j⟩:=by
  rw [List.getElem?_eq_getElem hj',ZBB _ _ _ (by rw [hl];exact hj)]
  simp [ZAj]
 unfold ZAr
 rw [show ZAj kv vv (m.set j (x,v))=(ZAj kv vv m).set j (kv x,vv v) by simp [ZAj,List.map_set],ZEw,List.length_set]
 congr 1
 apply Array.ext'
 rw [Array.toList_modify,ChangeMaps.modify_eq_set _ _ _ _ (by simpa using hat),hf]
 simp
omit [DecidableEq K] in
theorem ZR1 (T:MapT P t k e z) (H:KeyT P k kv ok) {m:List (K × V)} (hm:∀ p∈m,ok p.1) {x:K} (hx:ok x) {w:World} {b:Nat} (hb:w.heap[b]?=some (ZAr (ZAj kv vv m))) :
  (∃ (j:Nat) (h:j<m.length),m[j].1=x/\(Instr.mapEntry t (.map (some b)) (kv x)).run P w = .ok (.tuple #[vv m[j].2,.int .i64 j]) { w with heap:=w.heap.setIfInBounds b (ZAr (ZAj kv vv m)) }) \/
  ((∀ p∈m,p.1≠x)/\∀ zv,vv zv=z->(Instr.mapEntry t (.map (some b)) (kv x)).run P w = .ok (.tuple #[z,.int .i64 m.length]) { w with heap:=w.heap.setIfInBounds b (ZAr (ZAj kv vv (m++[(x,zv)]))) }):=by
 obtain ⟨lx,hlx⟩:=H.lit x hx
 have hl:(ZAj kv vv m).length=m.length:=by simp [ZAj]
 have hg:=MapKept.run_getObj_map (P:=P) (show w.heap[b]?=some (.map _ _) from hb)
 rcases ZJ0 (vv:=vv) H hm hx w with ⟨h1,h2⟩|⟨j,hj,h1,h2⟩
 ·refine .inr ⟨h2,fun zv hz=>?_⟩
  have e1:ZAr (ZAj kv vv (m++[(x,zv)])) = .map ((Zj 0 (ZAj kv vv m)).toArray.push ⟨kv x,z,(ZAj kv vv m).length⟩) ((ZAj kv vv m).length+1):=by
   unfold ZAr
   rw [show ZAj kv vv (m++[(x,zv)])=ZAj kv vv m++[(kv x,z)] by simp [ZAj,hz],ZEL]
   simp
  rw [e1]
  simp [Instr.mapEntry,run_underlying T.under,hg,H.law.check w _ hlx,h1,T.zero,MapKept.run_setObj_map _ (show w.heap[b]?=some (.map _ _) from hb),Result.andThen,goInt,hl]
 ·refine .inl ⟨j,hj,h1,?_⟩
  subst h1
  have hj':j<(Zj 0 (ZAj kv vv m)).length:=by rw [ZAM,hl];exact hj
  have hat:(Zj 0 (ZAj kv vv m))[j]?=some ⟨kv m[j].1,vv m[j].2,0+j⟩:=by
   rw [List.getElem?_eq_getElem hj',ZBB _ _ _ (by rw [hl];exact hj)]
   simp [ZAj]
  have e1:=ZJO (kv:=kv) (vv:=vv) hj (fun en=>{ en with key:=kv m[j].1 }) m[j].1 m[j].2 (fun _=>rfl)
  have e2:m.set j (m[j].1,m[j].2)=m:=List.set_getElem_self hj
  rw [e2] at e1
  rw [e1]
  simp [Instr.mapEntry,run_underlying T.under,hg,H.law.check w _ hlx,h2,hat,H.law.stays w hlx,MapKept.run_setObj_map _ (show w.heap[b]?=some (.map _ _) from hb),Result.andThen,goInt]
omit [DecidableEq K] in
theorem ZI4 {m:List (K × V)} {j:Nat} (hj:j<m.length) (v:V) {w:World} {b:Nat} (hb:w.heap[b]?=some (ZAr (ZAj kv vv m))) :
  (Instr.entryStore t (.map (some b)) (.int .i64 j) (vv v)).run P w = .ok () { w with heap:=w.heap.setIfInBounds b (ZAr (ZAj kv vv (m.set j (m[j].1,v)))) }:=by
 have hl:(ZAj kv vv m).length=m.length:=by simp [ZAj]
 have hg:=MapKept.run_getObj_map (P:=P) (show w.heap[b]?=some (.map _ _) from hb)
 have hf:(Zj 0 (ZAj kv vv m)).findIdx? (fun en=>(en.born:Int) == (j:Int))=some j:=by
  have hlen:(Zj 0 (ZAj kv vv m)).length=m.length:=by rw [ZAM,hl]
  have hat:∀ (i:Nat) (h:i<m.length),(Zj 0 (ZAj kv vv m))[i]'(by rw [hlen];exact h)=⟨kv m[i].1,vv m[i].2,i⟩:=fun i h=>by
   rw [ZBB _ _ _ (by rw [hl];exact h)]
   simp [ZAj]
  rw [List.findIdx?_eq_some_iff_getElem]
  refine ⟨by rw [hlen];exact hj,?_,fun i hi=>?_⟩
  ·rw [hat j hj];exact beq_self_eq_true _
  ·rw [hat i (by omega)];show ¬ ((i:Int) == (j:Int))=true;rw [beq_iff_eq];omega
 rw [ZJO hj (fun en=>{ en with val:=vv v }) m[j].1 v (fun _=>rfl)]
 simp [Instr.entryStore,hg,asInt,asIntOf,hf,MapKept.run_setObj_map _ (show w.heap[b]?=some (.map _ _) from hb),Result.andThen]
end
end
end
section
theorem ZEv (v:Vx):∀ b:List Vx,(v∉b/\(b.dropWhile fun x=>decide (x≠v))=[])\/∃ pre c,b=pre++v::c/\v∉pre/\(b.dropWhile fun x=>decide (x≠v))=v::c
 | []=>.inl ⟨by simp,rfl⟩
 | x::b=>by
  by_cases hx:x=v
  ·subst hx
   exact .inr ⟨[],b,rfl,by simp,by rw [List.dropWhile_cons_of_neg (by simp)]⟩
  ·rw [List.dropWhile_cons_of_pos (by simpa using hx)]
   rcases ZEv v b with ⟨h1,h2⟩|⟨pre,c,h1,h2,h3⟩
   ·exact .inl ⟨by simp [h1,Ne.symm hx],h2⟩
   ·exact .inr ⟨x::pre,c,by rw [h1];rfl,by simp [h2,Ne.symm hx],h3⟩
theorem ZTQ (v:Vx):ZAe v v=0:=ZCE.2 rfl
theorem ZDJ:∀ (a b:List Vx),Asc a->Asc b->ZCi a b=Zw a b
 | [],b,_,_=>rfl
 | v::a,b,ha,hb=>by
  have ha':=ha
  unfold Asc at ha'
  rw [List.pairwise_cons] at ha'
  unfold ZCi
  rcases ZEv v b with ⟨h1,h2⟩|⟨pre,c,h1,h2,h3⟩
  ·rw [if_pos h2]
   unfold Zw
   simp [h1]
  ·rw [h3,if_neg (by simp)]
   have hb':=hb
   unfold Asc at hb'
   rw [h1,List.pairwise_append] at hb'
   rw [ZDJ a (v::c) ha'.2 hb'.2.1]
   have hv:v∈b:=by rw [h1];simp
   unfold Zw
   rw [List.all_cons,decide_eq_true hv,Bool.true_and,Bool.eq_iff_iff,List.all_eq_true,List.all_eq_true]
   constructor
   ·intro h x hx
    have:=h x hx
    simp only [decide_eq_true_eq] at this ⊢
    rw [h1];exact List.mem_append.2 (.inr this)
   ·intro h x hx
    have:=h x hx
    simp only [decide_eq_true_eq] at this ⊢
    rw [h1] at this
    rcases List.mem_append.1 this with hp|hp
    ·have h5:=hb'.2.2 x hp v (by simp)
     have h6:=ZBd h5 (ha'.1 x hx)
     rw [ZTQ] at h6;omega
    ·exact hp
def ZOc (m:List (Vx × List Int)) (v:Vx) (i:Int):List (Vx × List Int):=ZCy m v ((lookM m v).getD []++[i])
def ZQ8 (m:List (Vx × List Int)) (s:List Vx) (i:Int):List (Vx × List Int):=s.foldl (fun m v=>ZOc m v i) m
def ZKq (l:Cx):List (Vx × List Int):=(l.zipIdx).foldl (fun m p=>ZQ8 m p.1 (p.2:Int)) []
theorem ZLi {m:List (Vx × List Int)} {s:List Vx} {i:Int} {j:Nat} (h:j<s.length):ZQ8 m (s.take (j+1)) i=ZOc (ZQ8 m (s.take j) i) s[j] i:=by
 unfold ZQ8;rw [Zd h,List.foldl_append];rfl
theorem ZII {l:Cx} {i:Nat} (h:i<l.length):ZKq (l.take (i+1))=ZQ8 (ZKq (l.take i)) l[i] (i:Int):=by
 unfold ZKq
 rw [Zd h,List.zipIdx_append,List.foldl_append]
 simp [List.length_take,Nat.min_eq_left (Nat.le_of_lt h)]
def atM (m:List (Vx × List Int)) (v:Vx):List Int:=(lookM m v).getD []
theorem ZCw {K V:Type} [DecidableEq K] {m:List (K × V)} {x y:K} {v:V}:lookM (ZCy m x v) y=if y=x then some v else lookM m y:=by
 unfold ZCy
 by_cases h:(lookM m x).isSome
 ·rw [if_pos h]
  induction m with
  | nil=>simp [lookM] at h
  | cons p m ih =>
   rw [List.map_cons]
   by_cases hp:p.1=x
   ·rw [if_pos hp]
    by_cases hy:y=x
    ·rw [if_pos hy];unfold lookM
     rw [List.find?_cons_of_pos (by simp [hy])];rfl
    ·rw [if_neg hy];unfold lookM
     rw [List.find?_cons_of_neg (by simpa using Ne.symm hy),List.find?_cons_of_neg (by rw [hp];simpa using Ne.symm hy)]
     clear ih h hp
     induction m with
     | nil=>rfl
     | cons q m ih =>
      rw [List.map_cons]
      by_cases hq:q.1=x
      ·rw [if_pos hq,List.find?_cons_of_neg (by simpa using Ne.symm hy),List.find?_cons_of_neg (by rw [hq];simpa using Ne.symm hy)]
       exact ih
      ·rw [if_neg hq]
       by_cases hqy:q.1=y
       ·rw [List.find?_cons_of_pos (by simpa using hqy),List.find?_cons_of_pos (by simpa using hqy)]
       ·rw [List.find?_cons_of_neg (by simpa using hqy),List.find?_cons_of_neg (by simpa using hqy)]
        exact ih
   ·rw [if_neg hp]
    have h':(lookM m x).isSome:=by
     unfold lookM at h ⊢
     rwa [List.find?_cons_of_neg (by simpa using hp)] at h
    have:=ih h'
    unfold lookM at this ⊢
    by_cases hpy:p.1=y
    ·have hyx:y≠x:=fun e=>hp (hpy.trans e)
     rw [List.find?_cons_of_pos (by simpa using hpy),if_neg hyx,List.find?_cons_of_pos (by simpa using hpy)]
    ·rw [List.find?_cons_of_neg (by simpa using hpy),List.find?_cons_of_neg (by simpa using hpy)]
     exact this
 ·rw [if_neg h]
  have h0:lookM m x=none:=by simpa using h
  unfold lookM at h0 ⊢
  rw [List.find?_append]
  by_cases hy:y=x
  ·subst hy
   rw [if_pos rfl]
   have:m.find? (fun p=>decide (p.1=y))=none:=by simpa using h0
   rw [this];simp
  ·rw [if_neg hy,List.find?_cons_of_neg (by simpa using Ne.symm hy)]
   simp
theorem ZTJ {m:List (Vx × List Int)} {v u:Vx} {i:Int}:atM (ZOc m v i) u=if u=v then atM m v++[i] else atM m u:=by
 unfold atM ZOc
 rw [ZCw]
 split <;> rfl
theorem ZN3 {i j:Int} {v:Vx}:∀ {s:List Vx} {m:List (Vx × List Int)},j∈atM (ZQ8 m s i) v↔j∈atM m v\/(j=i/\v∈s)
 | [],m=>by simp [ZQ8]
 | u::s,m=>by
  show j∈atM (ZQ8 (ZOc m u i) s i) v↔_
  rw [ZN3 (s:=s),ZTJ]
  by_cases hv:v=u
  ·subst hv
   rw [if_pos rfl,List.mem_append,List.mem_singleton,List.mem_cons]
   constructor
   ·rintro ((h|h)|h)
    ·exact .inl h
    ·exact .inr ⟨h,.inl rfl⟩
    ·exact .inr ⟨h.1,.inr h.2⟩
   ·rintro (h|h)
    ·exact .inl (.inl h)
    ·exact .inl (.inr h.1)
  ·rw [if_neg hv,List.mem_cons];simp [hv]
theorem ZGN {l:Cx} {j:Int} {v:Vx}:∀ {n:Nat},n≤l.length->(j∈atM (ZKq (l.take n)) v↔∃ (k:Nat) (h:k<l.length),k<n/\j=k/\v∈l[k])
 | 0,_=>by simp [ZKq,atM,lookM]
 | n+1,hn=>by
  rw [ZII (by omega),ZN3,ZGN (by omega)]
  constructor
  ·rintro (⟨k,h,h1,h2,h3⟩|⟨h1,h2⟩)
   ·exact ⟨k,h,by omega,h2,h3⟩
   ·exact ⟨n,by omega,by omega,h1,h2⟩
  ·rintro ⟨k,h,h1,h2,h3⟩
   by_cases hk:k=n
   ·subst hk;exact .inr ⟨h2,h3⟩
   ·exact .inl ⟨k,h,by omega,h2,h3⟩
theorem ZKE {l:Cx} {j:Int} {v:Vx}:j∈atM (ZKq l) v↔∃ (k:Nat) (h:k<l.length),j=k/\v∈l[k]:=by
 have:=ZGN (l:=l) (j:=j) (v:=v) (Nat.le_refl _)
 rw [List.take_length] at this
 rw [this]
 exact ⟨fun ⟨k,h,_,h2,h3⟩=>⟨k,h,h2,h3⟩,fun ⟨k,h,h2,h3⟩=>⟨k,h,h,h2,h3⟩⟩
theorem ZVE {l:Cx} {v:Vx}:∀ i∈atM (ZKq l) v,0≤i/\i<l.length:=fun i hi=>by
 obtain ⟨k,h,rfl,_⟩:=ZKE.1 hi
 omega
theorem ZUW {l:Cx} (h:∀ s∈l,Z5 s=0) {s:List Vx} (hs:Z5 s=0) {v:Vx} (hv:v∈s):(atM (ZKq l) v).any (ZTS l s)=ZFJ l s:=by
 have asc:∀ s∈l,Asc s:=fun s hs=>(Ze.1 (h s hs)).2.2.2
 rw [Bool.eq_iff_iff,List.any_eq_true,ZHE]
 constructor
 ·rintro ⟨i,hi,hc⟩
  obtain ⟨k,hk,rfl,_⟩:=ZKE.1 hi
  have hm:=List.getElem_mem hk
  unfold ZTS at hc
  rw [Int.toNat_natCast,show l.getD k []=l[k] by simp [List.getD,hk],Bool.and_eq_true,decide_eq_true_eq,ZDJ _ _ (Ze.1 hs).2.2.2 (asc _ hm)] at hc
  exact ⟨l[k],hm,hc.1,hc.2⟩
 ·rintro ⟨x,hx,h1,h2⟩
  obtain ⟨k,hk,rfl⟩:=List.getElem_of_mem hx
  refine ⟨(k:Int),ZKE.2 ⟨k,hk,rfl,?_⟩,?_⟩
  ·unfold Zw at h2
   have:=List.all_eq_true.1 h2 v hv
   simpa using this
  ·unfold ZTS
   rw [Int.toNat_natCast,show l.getD k []=l[k] by simp [List.getD,hk],Bool.and_eq_true,decide_eq_true_eq,ZDJ _ _ (Ze.1 hs).2.2.2 (asc _ hx)]
   exact ⟨h1,h2⟩
end
section
theorem ZFP {a b:List Vx} {p:Bool} {x:Vx}:x∈ZE6 a b p↔x∈a/\decide (x∈b)=p:=by unfold ZE6;rw [List.mem_filter];simp
theorem ZD6 {a b:List Vx} {p:Bool}:(ZE6 a b p).Sublist a:=List.filter_sublist
theorem ZFD {a b:List Vx} {p:Bool} (h:Asc a):Asc (ZE6 a b p):=List.Pairwise.sublist ZD6 h
theorem ZUD {a s:List Vx} (ha:Z5 a=0) (hs:s.Sublist a) (hne:s≠[]):Z5 s=0:=by
 obtain ⟨h1,h2,h3,h4⟩:=Ze.1 ha
 refine Ze.2 ⟨fun h=>hne (List.eq_nil_of_length_eq_zero h),Nat.le_trans hs.length_le h2,fun v hv=>h3 v (hs.subset hv),List.Pairwise.sublist hs h4⟩
theorem ZXA {s:List Vx} (h:0<s.length):s≠[]:=fun e=>by subst e;simp at h
end
section
theorem ZAo:∀ (k:Nat) (s x:List Vx),x∈Za k s↔x.Sublist s/\x.length=k
 | 0,s,x=>by
  have:Za 0 s=[[]]:=by unfold Za;rfl
  rw [this,List.mem_singleton]
  constructor
  ·rintro rfl;exact ⟨List.nil_sublist _,rfl⟩
  ·rintro ⟨_,h⟩;exact List.eq_nil_of_length_eq_zero h
 | k+1,[],x=>by
  simp only [Za,List.not_mem_nil,List.sublist_nil,false_iff]
  rintro ⟨rfl,h⟩;simp at h
 | k+1,v::s,x=>by
  unfold Za
  rw [List.mem_append,List.mem_map,ZAo (k+1) s x]
  constructor
  ·rintro (⟨y,hy,rfl⟩|⟨h1,h2⟩)
   ·obtain ⟨h1,h2⟩:=(ZAo k s y).1 hy
    exact ⟨h1.cons_cons v,by simp [h2]⟩
   ·exact ⟨h1.cons v,h2⟩
  ·rintro ⟨h1,h2⟩
   rcases List.sublist_cons_iff.1 h1 with h|⟨y,rfl,h⟩
   ·exact .inr ⟨h,h2⟩
   ·exact .inl ⟨y,(ZAo k s y).2 ⟨h,by simpa using h2⟩,rfl⟩
theorem ZPS (s:List Vx):(Za 0 s).length=1:=by unfold Za;rfl
theorem ZPR (k:Nat) (v:Vx) (s:List Vx):(Za (k+1) (v::s)).length=(Za k s).length+(Za (k+1) s).length:=by
 conv=>lhs;unfold Za
 rw [List.length_append,List.length_map]
theorem ZQh (v:Vx) (a b:List Vx):ZAm (v::a) (v::b)=ZAm a b:=by
 conv=>lhs;unfold ZAm
 rw [if_pos (ZCE.2 rfl)]
theorem ZE8:∀ (k:Nat) (s:List Vx),Asc s->(Za k s).Pairwise fun a b=>ZAm a b = -1
 | 0,s,_=>by unfold Za;exact List.pairwise_singleton _ _
 | k+1,[],_=>by unfold Za;exact List.Pairwise.nil
 | k+1,v::s,h=>by
  obtain ⟨h1,h2⟩:=List.pairwise_cons.1 h
  unfold Za
  rw [List.pairwise_append]
  refine ⟨List.pairwise_map.2 (List.Pairwise.imp (fun {a b} hab=>by rw [ZQh];exact hab) (ZE8 k s h2)),ZE8 (k+1) s h2,fun a ha b hb=>?_⟩
  obtain ⟨a',_,rfl⟩:=List.mem_map.1 ha
  obtain ⟨hb1,hb2⟩:=(ZAo _ _ _).1 hb
  match b,hb1,hb2 with
  | w::b',hb1,_ =>
   have hw:w∈s:=hb1.subset (by simp)
   have hvw:=h1 w hw
   have:=ZGn v w
   unfold ZAm
   rw [if_neg (by omega)]
   omega
theorem ZBZ {a s:List Vx} {k:Nat} (hs:Z5 s=0) (hk:0<k) (h:a∈Za k s):Z5 a=0/\a.Sublist s/\a.length=k:=by
 obtain ⟨h1,h2⟩:=(ZAo _ _ _).1 h
 exact ⟨ZUD hs h1 (ZXA (by omega)),h1,h2⟩
theorem ZFt {s:List Vx} (hs:Z5 s=0) {k:Nat} (h1:0<k) (h2:k≤s.length):ZEd s k=(Za k s,0):=by
 unfold ZEd
 rw [if_neg (by simp [hs]),if_neg (by omega)]
 simp
end
section
open Go.RowKit

theorem ZAp {n:Nat} {p:Nat->Bool}:(List.range (n+1)).any p=((List.range n).any p || p n):=by rw [List.range_succ,List.any_append];simp
theorem ZC3 {n k:Nat} {p:Nat->Bool} (hk:k<n) (h:p k=true):(List.range n).any p=true:=List.any_eq_true.2 ⟨k,List.mem_range.2 hk,h⟩
theorem ZA6 {l:Cx} {k:Nat} (h:k<l.length):l.getD k []=l[k]:=by simp [List.getD,h]
theorem ZNd:∀ (l:Cx) (p:Option (List Vx)),ZDs p l=0->∀ s∈l,Z5 s=0
 | [],_,_,s,hs=>by simp at hs
 | x::l,p,h,s,hs=>by
  unfold ZDs at h
  by_cases h1:Z5 x≠0
  ·rw [if_pos h1] at h;exact absurd h h1
  ·rw [if_neg h1] at h
   rcases List.mem_cons.1 hs with rfl|hs
   ·omega
   ·refine ZNd l (some x) ?_ s hs
    revert h
    split
    ·intro h;omega
    ·exact id
theorem ZHy {l:Cx} (h:ZAl l=0):l.length≤4096/\ZDs none l=0/\ZBP l=false/\∀ s∈l,Z5 s=0:=by
 unfold ZAl at h
 by_cases h1:4096<l.length
 ·rw [if_pos h1] at h;omega
 rw [if_neg h1] at h
 by_cases h2:ZDs none l≠0
 ·rw [if_pos h2] at h;exact absurd h h2
 rw [if_neg h2] at h
 refine ⟨by omega,by omega,?_,ZNd l none (by omega)⟩
 cases h3:ZBP l with
 | false=>rfl
 | true=>rw [h3,if_pos rfl] at h;omega
end
section
theorem ZJq:∀ (l:Cx) (p:Option (List Vx)),ZDs p l=0->AscL l/\(∀ u,p=some u->∀ s∈l,ZAm u s<0)/\∀ s∈l,Z5 s=0
 | [],p,_=>⟨by simp [AscL],by simp,by simp⟩
 | s::l,p,h=>by
  unfold ZDs at h
  by_cases h1:Z5 s≠0
  ·rw [if_pos h1] at h;exact absurd h h1
  rw [if_neg h1] at h
  have key:ZDs (some s) l=0/\∀ u,p=some u->ZAm u s<0:=by
   cases p with
   | none=>exact ⟨by simpa using h,fun u hu=>by cases hu⟩
   | some u =>
    by_cases h2:0≤ZAm u s
    ·simp only [h2,decide_true,if_true] at h
     exact absurd h (by decide)
    ·simp only [h2,decide_false,Bool.false_eq_true,if_false] at h
     exact ⟨h,fun u' hu=>by cases hu;omega⟩
  obtain ⟨h3,h4,h5⟩:=ZJq l (some s) key.1
  have h6:=h4 s rfl
  refine ⟨List.pairwise_cons.2 ⟨h6,h3⟩,fun u hu x hx=>?_,fun x hx=>?_⟩
  ·have h7:=key.2 u hu
   rcases List.mem_cons.1 hx with rfl|hx
   ·exact h7
   ·exact ZF8 h7 (h6 x hx)
  ·rcases List.mem_cons.1 hx with rfl|hx
   ·omega
   ·exact h5 x hx
theorem ZQb:∀ (l:Cx) (p:Option (List Vx)),AscL l->(∀ u,p=some u->∀ s∈l,ZAm u s<0)->(∀ s∈l,Z5 s=0)->ZDs p l=0
 | [],p,_,_,_=>rfl
 | s::l,p,ha,hp,hc=>by
  unfold ZDs
  rw [if_neg (by have:=hc s (by simp);omega),if_neg ?_]
  ·unfold AscL at ha
   rw [List.pairwise_cons] at ha
   exact ZQb l (some s) ha.2 (fun u hu x hx=>by cases hu;exact ha.1 x hx) fun x hx=>hc x (by simp [hx])
  ·cases p with
   | none=>simp
   | some u =>
    have:=hp u rfl s (by simp)
    simp only [decide_eq_true_eq];omega
theorem ZQ9 {a b:List Vx} (ha:Asc a) (hb:Asc b) (h:Zw a b=true) (hne:a≠b):a.length<b.length:=by
 have hsub:∀ x∈a,x∈b:=fun x hx=>by
  have:=List.all_eq_true.1 h x hx
  simpa using this
 have e:ZE6 b a true=a:=asc_ext (ZFD hb) ha fun x=>by
  rw [ZFP]
  constructor
  ·intro ⟨_,h⟩;simpa using h
  ·intro hx;exact ⟨hsub x hx,by simpa using hx⟩
 have hs:a.Sublist b:=by rw [<- e];exact ZD6
 rcases Nat.lt_or_ge a.length b.length with h1|h1
 ·exact h1
 ·exact absurd (hs.eq_of_length_le h1) hne
theorem ZIl {l:Cx} (ha:AscL l) (hc:∀ s∈l,Z5 s=0):ZBP l=l.any fun s=>ZFJ l s:=by
 have asc:∀ s∈l,Asc s:=fun s hs=>(Ze.1 (hc s hs)).2.2.2
 rw [Bool.eq_iff_iff]
 unfold ZBP
 simp only [List.any_eq_true,List.mem_range,Bool.and_eq_true,decide_eq_true_eq,ZHE]
 constructor
 ·rintro ⟨i,hi,k,hk,hne,h⟩
  rw [ZA6 hi,ZA6 hk] at h
  have hmi:=List.getElem_mem hi
  have hmk:=List.getElem_mem hk
  refine ⟨l[i],hmi,l[k],hmk,ZQ9 (asc _ hmi) (asc _ hmk) h fun e=>?_,h⟩
  have hp:=List.pairwise_iff_getElem.1 ha.nodup
  rcases Nat.lt_or_gt_of_ne hne with h1|h1
  ·exact hp i k hi hk h1 e
  ·exact hp k i hk hi h1 e.symm
 ·rintro ⟨s,hs,x,hx,hlt,h⟩
  obtain ⟨i,hi,rfl⟩:=List.getElem_of_mem hs
  obtain ⟨k,hk,rfl⟩:=List.getElem_of_mem hx
  exact ⟨i,hi,k,hk,fun e=>by subst e;omega,by rw [ZA6 hi,ZA6 hk];exact h⟩
def GoodX (l:Cx):Prop:=l.length≤4096/\AscL l/\(∀ s∈l,Z5 s=0)/\∀ s∈l,ZFJ l s=false
theorem ZAA {l:Cx}:ZAl l=0↔GoodX l:=by
 unfold GoodX
 constructor
 ·intro h
  obtain ⟨h1,h2,h3,h4⟩:=ZHy h
  obtain ⟨h5,_,h6⟩:=ZJq l none h2
  rw [ZIl h5 h6,List.any_eq_false] at h3
  exact ⟨h1,h5,h6,fun s hs=>by simpa using h3 s hs⟩
 ·rintro ⟨h1,h2,h3,h4⟩
  unfold ZAl
  have h5:ZDs none l=0:=ZQb l none h2 (fun u hu=>by cases hu) h3
  have h6:ZBP l=false:=by
   rw [ZIl h2 h3,List.any_eq_false]
   exact fun s hs=>by simp [h4 s hs]
  rw [if_neg (by omega),if_neg (by omega),if_neg (by simp [h6])]
theorem ZCf:∀ {l:Cx} {k:Nat} {x:List Vx},x∈ZAt l k↔∃ f∈l,x∈Za k f:=by
 have go:∀ (l out:Cx) (k:Nat) (x:List Vx),x∈l.foldl (fun out f=>if f.length<k then out else (Za k f).foldl ZDL out) out↔x∈out\/∃ f∈l,x∈Za k f:=by
  intro l
  induction l with
  | nil=>intro out k x;simp
  | cons f l ih =>
   intro out k x
   rw [List.foldl_cons,ih]
   have e:x∈(if f.length<k then out else (Za k f).foldl ZDL out)↔x∈out\/x∈Za k f:=by
    split
    ·rename_i h;rw [ZA0 k f h];simp
    ·rw [ZID];exact or_comm
   rw [e]
   constructor
   ·rintro ((h|h)|⟨g,hg,h⟩)
    ·exact .inl h
    ·exact .inr ⟨f,by simp,h⟩
    ·exact .inr ⟨g,by simp [hg],h⟩
   ·rintro (h|⟨g,hg,h⟩)
    ·exact .inl (.inl h)
    ·rcases List.mem_cons.1 hg with rfl|hg
     ·exact .inl (.inr h)
     ·exact .inr ⟨g,hg,h⟩
 intro l k x
 unfold ZAt
 rw [go];simp
theorem ZCD (l:Cx) (k:Nat):AscL (ZAt l k):=by
 have go:∀ (l out:Cx),AscL out->AscL (l.foldl (fun out f=>if f.length<k then out else (Za k f).foldl ZDL out) out):=by
  intro l
  induction l with
  | nil=>intro out h;exact h
  | cons f l ih =>
   intro out h
   rw [List.foldl_cons]
   refine ih _ ?_
   split
   ·exact h
   ·exact ZIC h
 exact go l [] (by simp [AscL])
def ZKr (out:Cx) (l:Cx):Cx:=l.foldl (fun out f=>if f∈out then out else out++[f]) out
def ZMX (l:Cx) (k:Nat):Cx:=l.foldl (fun out f=>if f.length<k then out else ZKr out (Za k f)) []
theorem ZLs {out l:Cx} {j:Nat} (h:j<l.length):ZKr out (l.take (j+1))=if l[j]∈ZKr out (l.take j) then ZKr out (l.take j) else ZKr out (l.take j)++[l[j]]:=by
 unfold ZKr;rw [Zd h,List.foldl_append];rfl
theorem ZKH:∀ {l out:Cx} {x:List Vx},x∈ZKr out l↔x∈out\/x∈l
 | [],out,x=>by simp [ZKr]
 | f::l,out,x=>by
  show x∈ZKr (if f∈out then out else out++[f]) l↔_
  rw [ZKH (l:=l)]
  split
  ·rename_i h
   rw [List.mem_cons]
   constructor
   ·rintro (h1|h1)
    ·exact .inl h1
    ·exact .inr (.inr h1)
   ·rintro (h1|h1|h1)
    ·exact .inl h1
    ·rw [h1];exact .inl h
    ·exact .inr h1
  ·rw [List.mem_append,List.mem_singleton,List.mem_cons,or_assoc]
theorem ZGv:∀ {l out:Cx},out.Nodup->(ZKr out l).Nodup
 | [],out,h=>h
 | f::l,out,h=>by
  show (ZKr (if f∈out then out else out++[f]) l).Nodup
  refine ZGv (l:=l) ?_
  split
  ·exact h
  ·rename_i hf
   rw [List.nodup_append]
   exact ⟨h,by simp,fun a ha b hb=>by rw [List.mem_singleton.1 hb];exact fun e=>hf (e ▸ ha)⟩
theorem ZTk (l out:Cx):out.length≤(ZKr out l).length/\(ZKr out l).length≤out.length+l.length:=by
 induction l generalizing out with
 | nil=>simp [ZKr]
 | cons f l ih =>
  have h:=ih (if f∈out then out else out++[f])
  have e:ZKr out (f::l)=ZKr (if f∈out then out else out++[f]) l:=rfl
  rw [e]
  split at h <;> (simp only [List.length_append,List.length_cons,List.length_nil] at h ⊢;rename_i hf;first|rw [if_pos hf]|rw [if_neg hf]) <;> omega
theorem ZH9 {l:Cx} {k i:Nat} (h:i<l.length):ZMX (l.take (i+1)) k=if l[i].length<k then ZMX (l.take i) k else ZKr (ZMX (l.take i) k) (Za k l[i]):=by
 unfold ZMX;rw [Zd h,List.foldl_append];rfl
theorem ZFK (l:Cx) (k:Nat):∀ n,n≤l.length->(ZMX (l.take n) k).Nodup/\∀ x,x∈ZMX (l.take n) k↔x∈ZAt (l.take n) k
 | 0,_=>by simp [ZMX,ZAt]
 | n+1,hn=>by
  obtain ⟨h1,h2⟩:=ZFK l k n (by omega)
  have h3:∀ x,x∈ZAt (l.take (n+1)) k↔x∈ZAt (l.take n) k\/x∈Za k l[n]:=fun x=>by
   rw [ZCf,ZCf,Zd (by omega)]
   constructor
   ·rintro ⟨f,hf,hx⟩
    rcases List.mem_append.1 hf with hf|hf
    ·exact .inl ⟨f,hf,hx⟩
    ·rw [List.mem_singleton.1 hf] at hx;exact .inr hx
   ·rintro (⟨f,hf,hx⟩|hx)
    ·exact ⟨f,List.mem_append.2 (.inl hf),hx⟩
    ·exact ⟨l[n],List.mem_append.2 (.inr (List.mem_singleton.2 rfl)),hx⟩
  rw [ZH9 (by omega)]
  split
  ·rename_i hs
   refine ⟨h1,fun x=>?_⟩
   rw [h3,h2,ZA0 k _ hs];simp
  ·refine ⟨ZGv h1,fun x=>?_⟩
   rw [h3,ZKH,h2]
theorem ZTY (l:Cx) (k n:Nat) (hn:n≤l.length):(ZMX (l.take n) k).length=(ZAt (l.take n) k).length:=by
 obtain ⟨h1,h2⟩:=ZFK l k n hn
 exact ((List.perm_ext_iff_of_nodup h1 (ZCD _ k).nodup).2 h2).length_eq
theorem ZQw {l:Cx} {k n:Nat} (hn:n≤l.length):(ZMX (l.take n) k).length≤(ZAt l k).length:=by
 obtain ⟨h1,h2⟩:=ZFK l k n hn
 have hsub:∀ x∈ZMX (l.take n) k,x∈ZAt l k:=fun x hx=>by
  obtain ⟨f,hf,hx⟩:=ZCf.1 ((h2 x).1 hx)
  exact ZCf.2 ⟨f,List.mem_of_mem_take hf,hx⟩
 have hp:(ZMX (l.take n) k).Perm ((ZAt l k).filter fun x=>decide (x∈ZMX (l.take n) k)) :=
  (List.perm_ext_iff_of_nodup h1 ((ZCD l k).nodup.filter _)).2 fun x=>by
   rw [List.mem_filter,decide_eq_true_eq]
   exact ⟨fun hx=>⟨hsub x hx,hx⟩,fun hx=>hx.2⟩
 rw [hp.length_eq]
 exact List.length_filter_le _ _
theorem ZPQ {l ys:Cx} {k:Nat} (hp:ys.Perm (ZMX l k)) (hs:SortL ys):ys=ZAt l k:=by
 have h:=ZFK l k l.length (Nat.le_refl _)
 rw [List.take_length] at h
 refine ZNZ ?_ (ZCD l k) fun x=>by rw [hp.mem_iff];exact h.2 x
 have hn:ys.Nodup:=hp.nodup_iff.2 h.1
 refine List.Pairwise.imp₂ (fun a b h1 h2=>?_) hs hn
 rcases ZJH a b with h3|h3|h3
 ·exact h3
 ·exact absurd h3 h1
 ·exact absurd h3 h2
end
section
open Go.RowKit

section
variable {P:Program} {ops:Array Oper} {hp:List HObj} {fr:List Dat} {dst:Option Tmp} {ty:TypeId} {ps:String} {af:Array Edge} {g:Option (Nat × Bool)}
theorem ZU4 {x y:Operand} {m n:Int} {ats:Array TypeId} (hx:OpD fr x (dI m)) (hy:OpD fr y (dI n)):SY P ops hp ⟨dst,.call { callee:=.builtin .min,args:=#[x,y],argTypes:=ats },ty,ps,af,g⟩ fr (dI (if n<m then n else m)) :=
 SY.val fun {I w a} ho=>⟨.int .i64 (if n<m then n else m),by
  have h1:a.eval x = .int .i64 m:=hx.get (by simp [Op.operands,Call.operands]) ho
  have h2:a.eval y = .int .i64 n:=hy.get (by simp [Op.operands,Call.operands]) ho
  unfold execOp
  simp [resolve,invoke,builtin,h1,h2,Builtin.min_,Builtin.min2],rfl⟩
end
end
section
open Go.RowKit

def ZUA (k:Nat) (out:Cx) (f:List Vx):Cx:=if f.length<k then out else (Za k f).foldl ZDL out
theorem ZQN (c:Cx) (k:Nat):ZAt c k=c.foldl (ZUA k) []:=rfl
theorem ZEn {l:Cx} {k i:Nat} (h:i<l.length):ZAt (l.take (i+1)) k=ZUA k (ZAt (l.take i) k) l[i]:=by
 rw [ZQN,ZQN,Zd h,List.foldl_append];rfl
theorem ZSG {k:Nat} {out:Cx} {f:List Vx} (h:f.length≤8):(ZUA k out f).length≤out.length+256:=by
 unfold ZUA
 split
 ·omega
 ·have h1:=ZEN (Za k f) out
  have h2:=Nat.le_trans (ZA9 k f) (Nat.pow_le_pow_right (by decide) h:2 ^ f.length≤2 ^ 8)
  omega
theorem ZFC:∀ (l:Cx) (k i:Nat),(∀ f∈l,f.length≤8)->i≤l.length->(ZAt (l.take i) k).length≤256*i
 | l,k,0,_,_=>by simp [ZAt]
 | l,k,i+1,h,hi=>by
  rw [ZEn (by omega)]
  have h1:=ZSG (k:=k) (out:=ZAt (l.take i) k) (h _ (List.getElem_mem (show i<l.length by omega)))
  have h2:=ZFC l k i h (by omega)
  omega
def ZDA (l:Cx) (k:Int):Cx × Int:=if ZAl l≠0 then ([],ZAl l) else if k<1\/8<k then ([],2) else if 4096<(ZAt l k.toNat).length then ([],17) else (ZAt l k.toNat,0)
theorem ZPU (k:Nat):((k:Int)+1).tmod 2=(((k+1) % 2:Nat):Int):=by rw [Int.tmod_eq_emod_of_nonneg (by omega)];omega
def ZIt (l:Cx):Nat->Int
 | 0=>0
 | k+1=>if (k+1) % 2=1 then ZIt l k+(ZAt l (k+1)).length else ZIt l k-(ZAt l (k+1)).length
def ZBj (l:Cx):Int × Int:=if ZAl l≠0 then (0,ZAl l) else if (List.range 8).any (fun k=>decide (4096<(ZAt l (k+1)).length))=true then (0,17) else (ZIt l 8,0)
theorem ZJw (l:Cx) (h:∀ k,(ZAt l k).length≤2000000):∀ k,ZIt l k≤2000000*k /\ -(2000000*(k:Int))≤ZIt l k
 | 0=>by simp [ZIt]
 | k+1=>by
  have h1:=ZJw l h k
  have h2:=h (k+1)
  unfold ZIt
  split <;> omega
end
section
theorem GoodX.asc {l:Cx} (h:GoodX l):∀ s∈l,Asc s:=fun s hs=>(Ze.1 (h.2.2.1 s hs)).2.2.2
theorem ZQR {l:Cx} {s:List Vx} (h:∀ f∈l,Asc f) (hs:Asc s):l.filter (ZCi s)=ZJn l s:=List.filter_congr fun f hf=>ZDJ s f hs (h f hf)
theorem ZO1 {l:Cx} {s:List Vx}:ZA8 l s=decide (0<(ZJn l s).length):=by
 unfold ZA8 ZJn
 rw [Bool.eq_iff_iff,List.any_eq_true,decide_eq_true_eq,List.length_pos_iff_exists_mem]
 constructor
 ·rintro ⟨x,hx,h⟩;exact ⟨x,List.mem_filter.2 ⟨hx,h⟩⟩
 ·rintro ⟨x,h⟩;exact ⟨x,(List.mem_filter.1 h).1,(List.mem_filter.1 h).2⟩
end
end Go.Proofs.YtofkoleingbbpaaGreatDoor
