/- Part 10 of the proof. -/
import Derived.DeepKeys4
import Derived.Test.YtofkoleingbbpaaGreatDoorZa9
set_option linter.all false
set_option maxRecDepth 100000
set_option maxHeartbeats 64000000
namespace Go.Proofs.YtofkoleingbbpaaGreatDoor
section
open Go.RowKit

def Zb:Nat->List (Value × Value)->List MapEntry
 | _,[]=>[]
 | i,p::m=>⟨p.1,p.2,i⟩::Zb (i+1) m
def ZAb (m:List (Value × Value)):Obj:=.map (Zb 0 m).toArray m.length
theorem ZAF:∀(m:List (Value × Value)) (i:Nat),(Zb i m).length=m.length
 | [],_=>rfl
 | _::m,i=>by simp[Zb,ZAF m]
theorem ZAs:∀(m:List (Value × Value)) (i j:Nat) (h:j<m.length),(Zb i m)[j]'(by rw[ZAF];exact h)=⟨m[j].1,m[j].2,i+j⟩
 | [],_,j,h=>by simp at h
 | p::m,i,0,_=>by simp[Zb]
 | p::m,i,j+1,h=>by
  simp only[Zb,List.getElem_cons_succ];rw[ZAs m (i+1) j (by simpa using h)];congr 1;omega
theorem ZDU:∀(m:List (Value × Value)) (i:Nat) (p:Value × Value),Zb i (m++[p])=Zb i m++[⟨p.1,p.2,i+m.length⟩]
 | [],i,p=>by simp[Zb]
 | q::m,i,p=>by
  simp only[List.cons_append,Zb,ZDU m (i+1) p,List.length_cons];congr 4;omega
theorem ZDr:∀(m:List (Value × Value)) (i j:Nat) (p:Value × Value),Zb i (m.set j p)=(Zb i m).set j ⟨p.1,p.2,i+j⟩
 | [],_,_,_=>rfl
 | q::m,i,0,p=>by simp[Zb]
 | q::m,i,j+1,p=>by
  simp only[List.set_cons_succ,Zb,ZDr m (i+1) j p];congr 3;omega
structure KeyT (P:Program) (k:TypeId) {K:Type} (kv:K->Value) (ok:K->Prop):Prop where
 law:Go.Maps.Keyed P k
 lit:∀x,ok x->∃l,keyOf P k (kv x)=some l
 inj:∀x y,ok x->ok y->kv x=kv y->x=y
structure MapT (P:Program) (t k e:TypeId) (z:Value):Prop where
 under:P.underlying t=some (.map k e)
 zero:∀w,(zeroValue e).run P w = .ok z w
section
variable {P:Program} {k t e:TypeId} {z:Value} {K V:Type} {kv:K->Value} {ok:K->Prop} {vv:V->Value}
def ZAT (kv:K->Value) (vv:V->Value) (m:List (K × V)):List (Value × Value):=m.map fun p=>(kv p.1,vv p.2)
def lookM [DecidableEq K] (m:List (K × V)) (x:K):Option V:=(m.find? fun p=>decide (p.1=x)).map (·.2)
theorem ZIf (H:KeyT P k kv ok) {m:List (K × V)} (hm:∀p∈m,ok p.1) {x:K} (hx:ok x) (w:World) :
  ((Instr.findKey k (kv x) (Zb 0 (ZAT kv vv m))).run P w = .ok none w/\∀p∈m,p.1≠x) \/
  ∃(j:Nat) (h:j<m.length),m[j].1=x/\(Instr.findKey k (kv x) (Zb 0 (ZAT kv vv m))).run P w = .ok (some (j,vv m[j].2)) w:=by
 obtain⟨lx,hlx⟩:=H.lit x hx;have hl:(ZAT kv vv m).length=m.length:=by simp[ZAT]
 have hat:∀(j:Nat) (h:j<m.length),(Zb 0 (ZAT kv vv m))[j]'(by rw[ZAF,hl];exact h)=⟨kv m[j].1,vv m[j].2,j⟩:=fun j h=>by
  rw[ZAs _ _ _ (by rw[hl];exact h)];simp[ZAT]
 have hk:∀en∈Zb 0 (ZAT kv vv m),∃l,keyOf P k en.key=some l:=fun en hen=>by
  obtain⟨j,hj,rfl⟩:=List.getElem_of_mem hen;have hj':j<m.length:=by rw[ZAF,hl] at hj;exact hj
  rw[hat j hj'];exact H.lit _ (hm _ (List.getElem_mem hj'))
 rcases H.law.find w hlx _ hk with ⟨h1,h2⟩|⟨j,en,h1,h2,h3⟩
 ·refine .inl ⟨h1,fun p hp hpx=>?_⟩;obtain⟨j,hj,rfl⟩:=List.getElem_of_mem hp;have hj':j<(Zb 0 (ZAT kv vv m)).length:=by rw[ZAF,hl];exact hj
  refine h2 _ (List.getElem_mem hj') ?_;rw[hat j hj,hpx]
 ·have hj:=(List.getElem?_eq_some_iff.1 h2).1;have hj':j<m.length:=by rw[ZAF,hl] at hj;exact hj
  have he:en=⟨kv m[j].1,vv m[j].2,j⟩:=by rw[<- hat j hj',(List.getElem?_eq_some_iff.1 h2).2]
  refine .inr ⟨j,hj',H.inj _ _ (hm _ (List.getElem_mem hj')) hx ?_,?_⟩
  ·rw[<- h3,he]
  ·rw[h1,he]
section
variable [DecidableEq K]
theorem ZCF {m:List (K × V)} {x:K} (h:∀p∈m,p.1≠x):lookM m x=none:=by
 unfold lookM;rw[List.find?_eq_none.2 (fun p hp=>by simpa using h p hp)];rfl
theorem ZDB {m:List (K × V)} (hn:(m.map (·.1)).Nodup) {j:Nat} (h:j<m.length):lookM m m[j].1=some m[j].2:=by
 induction m generalizing j with
 | nil=>simp at h
 | cons p m ih =>
  rw[List.map_cons,List.nodup_cons] at hn;cases j with
  | zero=>simp[lookM]
  | succ j =>
   have hj:j<m.length:=by simpa using h
   have hne:¬ p.1=m[j].1:=fun e=>hn.1 (e ▸ List.mem_map_of_mem (List.getElem_mem hj));have:=ih hn.2 hj;unfold lookM at this ⊢;simp only[List.getElem_cons_succ];rw[List.find?_cons_of_neg (by simpa using hne)];exact this
def ZCH (m:List (K × V)) (x:K) (v:V):List (K × V):=if(lookM m x).isSome then m.map fun p=>if p.1=x then(x,v) else p else m++[(x,v)]
theorem ZDa {m:List (K × V)} {x:K} {v:V} (h:∀p∈m,p.1≠x):ZCH m x v=m++[(x,v)]:=by
 unfold ZCH;rw[ZCF h];rfl
theorem ZFA {m:List (K × V)} (hn:(m.map (·.1)).Nodup) {v:V} {j:Nat} (h:j<m.length):ZCH m m[j].1 v=m.set j (m[j].1,v):=by
 unfold ZCH;rw[ZDB hn h];simp only[Option.isSome_some,if_true];apply List.ext_getElem (by simp);intro i h1 h2;have hi:i<m.length:=by simpa using h1
 rw[List.getElem_map,List.getElem_set];by_cases hij:j=i
 ·subst hij;simp
 ·rw[if_neg hij,if_neg];intro e;refine hij ?_;have h1:(m.map (·.1))[i]'(by simpa using hi)=(m.map (·.1))[j]'(by simpa using h):=by simpa using e
  exact((List.getElem_inj hn).1 h1).symm
theorem ZDF (T:MapT P t k e z) (H:KeyT P k kv ok) {m:List (K × V)} (hm:∀p∈m,ok p.1) (hn:(m.map (·.1)).Nodup) {x:K} (hx:ok x) {w:World} {b:Nat} (hb:w.heap[b]?=some (ZAb (ZAT kv vv m))) (c:Bool) :
  (Instr.lookup t (.map (some b)) (kv x) c).run P w = .ok (if c then .tuple #[((lookM m x).map vv).getD z,.bool (lookM m x).isSome] else((lookM m x).map vv).getD z) w:=by
 obtain⟨lx,hlx⟩:=H.lit x hx;have hg:=MapKept.run_getObj_map (P:=P) (show w.heap[b]?=some (.map _ _) from hb);rcases ZIf (vv:=vv) H hm hx w with ⟨h1,h2⟩|⟨j,hj,h1,h2⟩
 ·rw[ZCF h2];simp[Instr.lookup,run_underlying T.under,hg,H.law.check w _ hlx,h1,T.zero,Result.andThen]
 ·subst h1;rw[ZDB hn hj];simp[Instr.lookup,run_underlying T.under,hg,H.law.check w _ hlx,h2,Result.andThen]
theorem ZNn (T:MapT P t k e z) (H:KeyT P k kv ok) {m:List (K × V)} (hm:∀p∈m,ok p.1) (hn:(m.map (·.1)).Nodup) {x:K} (hx:ok x) (v:V) {w:World} {b:Nat} (hb:w.heap[b]?=some (ZAb (ZAT kv vv m))) :
  (Instr.mapUpdate t (.map (some b)) (kv x) (vv v)).run P w = .ok () { w with heap:=w.heap.setIfInBounds b (ZAb (ZAT kv vv (ZCH m x v))) }:=by
 obtain⟨lx,hlx⟩:=H.lit x hx;have hl:(ZAT kv vv m).length=m.length:=by simp[ZAT]
 have hg:=MapKept.run_getObj_map (P:=P) (show w.heap[b]?=some (.map _ _) from hb);rcases ZIf (vv:=vv) H hm hx w with ⟨h1,h2⟩|⟨j,hj,h1,h2⟩
 ·have e1:ZAb (ZAT kv vv (ZCH m x v)) = .map ((Zb 0 (ZAT kv vv m)).toArray.push ⟨kv x,vv v,(ZAT kv vv m).length⟩) ((ZAT kv vv m).length+1):=by
   rw[ZDa h2];unfold ZAb;rw[show ZAT kv vv (m++[(x,v)])=ZAT kv vv m++[(kv x,vv v)] by simp[ZAT],ZDU];simp
  rw[e1];simp[Instr.mapUpdate,run_underlying T.under,hg,H.law.check w _ hlx,h1,MapKept.run_setObj_map _ (show w.heap[b]?=some (.map _ _) from hb),Result.andThen]
 ·subst h1;have hj':j<(Zb 0 (ZAT kv vv m)).length:=by rw[ZAF,hl];exact hj
  have hat:(Zb 0 (ZAT kv vv m))[j]?=some ⟨kv m[j].1,vv m[j].2,0+j⟩:=by
   rw[List.getElem?_eq_getElem hj',ZAs _ _ _ (by rw[hl];exact hj)];simp[ZAT]
  have e1:ZAb (ZAT kv vv (ZCH m m[j].1 v)) = .map ((Zb 0 (ZAT kv vv m)).toArray.modify j fun en=>{ en with key:=kv m[j].1,val:=vv v }) (ZAT kv vv m).length:=by
   rw[ZFA hn hj];unfold ZAb;rw[show ZAT kv vv (m.set j (m[j].1,v))=(ZAT kv vv m).set j (kv m[j].1,vv v) by simp[ZAT,List.map_set],ZDr,List.length_set];congr 1;apply Array.ext';rw[Array.toList_modify,ChangeMaps.modify_eq_set _ _ _ _ (by simpa using hat)];simp
  rw[e1];simp[Instr.mapUpdate,run_underlying T.under,hg,H.law.check w _ hlx,h2,hat,H.law.stays w hlx,MapKept.run_setObj_map _ (show w.heap[b]?=some (.map _ _) from hb),Result.andThen]
omit [DecidableEq K] in
theorem ZH5 {m:List (K × V)} {j:Nat} (hj:j<m.length) (f:MapEntry->MapEntry) (x:K) (v:V) (hf:∀i,f ⟨kv m[j].1,vv m[j].2,i⟩=⟨kv x,vv v,i⟩) :
  ZAb (ZAT kv vv (m.set j (x,v))) = .map ((Zb 0 (ZAT kv vv m)).toArray.modify j f) (ZAT kv vv m).length:=by
 have hl:(ZAT kv vv m).length=m.length:=by simp[ZAT]
 have hj':j<(Zb 0 (ZAT kv vv m)).length:=by rw[ZAF,hl];exact hj
 have hat:(Zb 0 (ZAT kv vv m))[j]?=some ⟨kv m[j].1,vv m[j].2,0+j⟩:=by
  rw[List.getElem?_eq_getElem hj',ZAs _ _ _ (by rw[hl];exact hj)];simp[ZAT]
 unfold ZAb;rw[show ZAT kv vv (m.set j (x,v))=(ZAT kv vv m).set j (kv x,vv v) by simp[ZAT,List.map_set],ZDr,List.length_set];congr 1;apply Array.ext';rw[Array.toList_modify,ChangeMaps.modify_eq_set _ _ _ _ (by simpa using hat),hf];simp
omit [DecidableEq K] in
theorem ZQK (T:MapT P t k e z) (H:KeyT P k kv ok) {m:List (K × V)} (hm:∀p∈m,ok p.1) {x:K} (hx:ok x) {w:World} {b:Nat} (hb:w.heap[b]?=some (ZAb (ZAT kv vv m))) :
  (∃(j:Nat) (h:j<m.length),m[j].1=x/\(Instr.mapEntry t (.map (some b)) (kv x)).run P w = .ok (.tuple #[vv m[j].2,.int .i64 j]) { w with heap:=w.heap.setIfInBounds b (ZAb (ZAT kv vv m)) }) \/
  ((∀p∈m,p.1≠x)/\∀zv,vv zv=z->(Instr.mapEntry t (.map (some b)) (kv x)).run P w = .ok (.tuple #[z,.int .i64 m.length]) { w with heap:=w.heap.setIfInBounds b (ZAb (ZAT kv vv (m++[(x,zv)]))) }):=by
 obtain⟨lx,hlx⟩:=H.lit x hx;have hl:(ZAT kv vv m).length=m.length:=by simp[ZAT]
 have hg:=MapKept.run_getObj_map (P:=P) (show w.heap[b]?=some (.map _ _) from hb);rcases ZIf (vv:=vv) H hm hx w with ⟨h1,h2⟩|⟨j,hj,h1,h2⟩
 ·refine .inr ⟨h2,fun zv hz=>?_⟩;have e1:ZAb (ZAT kv vv (m++[(x,zv)])) = .map ((Zb 0 (ZAT kv vv m)).toArray.push ⟨kv x,z,(ZAT kv vv m).length⟩) ((ZAT kv vv m).length+1):=by
   unfold ZAb;rw[show ZAT kv vv (m++[(x,zv)])=ZAT kv vv m++[(kv x,z)] by simp[ZAT,hz],ZDU];simp
  rw[e1];simp[Instr.mapEntry,run_underlying T.under,hg,H.law.check w _ hlx,h1,T.zero,MapKept.run_setObj_map _ (show w.heap[b]?=some (.map _ _) from hb),Result.andThen,goInt,hl]
 ·refine .inl ⟨j,hj,h1,?_⟩;subst h1;have hj':j<(Zb 0 (ZAT kv vv m)).length:=by rw[ZAF,hl];exact hj
  have hat:(Zb 0 (ZAT kv vv m))[j]?=some ⟨kv m[j].1,vv m[j].2,0+j⟩:=by
   rw[List.getElem?_eq_getElem hj',ZAs _ _ _ (by rw[hl];exact hj)];simp[ZAT]
  have e1:=ZH5 (kv:=kv) (vv:=vv) hj (fun en=>{ en with key:=kv m[j].1 }) m[j].1 m[j].2 (fun _=>rfl);have e2:m.set j (m[j].1,m[j].2)=m:=List.set_getElem_self hj;rw[e2] at e1;rw[e1];simp[Instr.mapEntry,run_underlying T.under,hg,H.law.check w _ hlx,h2,hat,H.law.stays w hlx,MapKept.run_setObj_map _ (show w.heap[b]?=some (.map _ _) from hb),Result.andThen,goInt]
omit [DecidableEq K] in
theorem ZHj {m:List (K × V)} {j:Nat} (hj:j<m.length) (v:V) {w:World} {b:Nat} (hb:w.heap[b]?=some (ZAb (ZAT kv vv m))) :
  (Instr.entryStore t (.map (some b)) (.int .i64 j) (vv v)).run P w = .ok () { w with heap:=w.heap.setIfInBounds b (ZAb (ZAT kv vv (m.set j (m[j].1,v)))) }:=by
 have hl:(ZAT kv vv m).length=m.length:=by simp[ZAT]
 have hg:=MapKept.run_getObj_map (P:=P) (show w.heap[b]?=some (.map _ _) from hb);have hf:(Zb 0 (ZAT kv vv m)).findIdx? (fun en=>(en.born:Int) == (j:Int))=some j:=by
  have hlen:(Zb 0 (ZAT kv vv m)).length=m.length:=by rw[ZAF,hl]
  have hat:∀(i:Nat) (h:i<m.length),(Zb 0 (ZAT kv vv m))[i]'(by rw[hlen];exact h)=⟨kv m[i].1,vv m[i].2,i⟩:=fun i h=>by
   rw[ZAs _ _ _ (by rw[hl];exact h)];simp[ZAT]
  rw[List.findIdx?_eq_some_iff_getElem];refine⟨by rw[hlen];exact hj,?_,fun i hi=>?_⟩
  ·rw[hat j hj];exact beq_self_eq_true _
  ·rw[hat i (by omega)];show ¬ ((i:Int) == (j:Int))=true;rw[beq_iff_eq];omega
 rw[ZH5 hj (fun en=>{ en with val:=vv v }) m[j].1 v (fun _=>rfl)];simp[Instr.entryStore,hg,asInt,asIntOf,hf,MapKept.run_setObj_map _ (show w.heap[b]?=some (.map _ _) from hb),Result.andThen]
end
end
end
section
theorem ZDq (v:Vx):∀b:List Vx,(v∉b/\(b.dropWhile fun x=>decide (x≠v))=[])\/∃pre c,b=pre++v::c/\v∉pre/\(b.dropWhile fun x=>decide (x≠v))=v::c
 | []=>.inl ⟨by simp,rfl⟩
 | x::b=>by
  by_cases hx:x=v
  ·subst hx;exact .inr ⟨[],b,rfl,by simp,by rw[List.dropWhile_cons_of_neg (by simp)]⟩
  ·rw[List.dropWhile_cons_of_pos (by simpa using hx)];rcases ZDq v b with ⟨h1,h2⟩|⟨pre,c,h1,h2,h3⟩
   ·exact .inl ⟨by simp[h1,Ne.symm hx],h2⟩
   ·exact .inr ⟨x::pre,c,by rw[h1];rfl,by simp[h2,Ne.symm hx],h3⟩
theorem ZRf (v:Vx):ZAW v v=0:=ZBy.2 rfl
theorem ZCa:∀(a b:List Vx),Asc a->Asc b->ZBv a b=Z8 a b
 | [],b,_,_=>rfl
 | v::a,b,ha,hb=>by
  have ha':=ha;unfold Asc at ha';rw[List.pairwise_cons] at ha';unfold ZBv;rcases ZDq v b with ⟨h1,h2⟩|⟨pre,c,h1,h2,h3⟩
  ·rw[if_pos h2];unfold Z8;simp[h1]
  ·rw[h3,if_neg (by simp)];have hb':=hb;unfold Asc at hb';rw[h1,List.pairwise_append] at hb';rw[ZCa a (v::c) ha'.2 hb'.2.1];have hv:v∈b:=by rw[h1];simp
   unfold Z8;rw[List.all_cons,decide_eq_true hv,Bool.true_and,Bool.eq_iff_iff,List.all_eq_true,List.all_eq_true];constructor
   ·intro h x hx;have:=h x hx;simp only[decide_eq_true_eq] at this ⊢;rw[h1];exact List.mem_append.2 (.inr this)
   ·intro h x hx;have:=h x hx;simp only[decide_eq_true_eq] at this ⊢;rw[h1] at this;rcases List.mem_append.1 this with hp|hp
    ·have h5:=hb'.2.2 x hp v (by simp);have h6:=ZBD h5 (ha'.1 x hx);rw[ZRf] at h6;omega
    ·exact hp
def ZM8 (m:List (Vx × List Int)) (v:Vx) (i:Int):List (Vx × List Int):=ZCH m v ((lookM m v).getD []++[i])
def ZPZ (m:List (Vx × List Int)) (s:List Vx) (i:Int):List (Vx × List Int):=s.foldl (fun m v=>ZM8 m v i) m
def ZJR (l:Cx):List (Vx × List Int):=(l.zipIdx).foldl (fun m p=>ZPZ m p.1 (p.2:Int)) []
theorem ZKL {m:List (Vx × List Int)} {s:List Vx} {i:Int} {j:Nat} (h:j<s.length):ZPZ m (s.take (j+1)) i=ZM8 (ZPZ m (s.take j) i) s[j] i:=by
 unfold ZPZ;rw[Ze h,List.foldl_append];rfl
theorem ZHB {l:Cx} {i:Nat} (h:i<l.length):ZJR (l.take (i+1))=ZPZ (ZJR (l.take i)) l[i] (i:Int):=by
 unfold ZJR;rw[Ze h,List.zipIdx_append,List.foldl_append];simp[List.length_take,Nat.min_eq_left (Nat.le_of_lt h)]
def atM (m:List (Vx × List Int)) (v:Vx):List Int:=(lookM m v).getD []
theorem ZCG {K V:Type} [DecidableEq K] {m:List (K × V)} {x y:K} {v:V}:lookM (ZCH m x v) y=if y=x then some v else lookM m y:=by
 unfold ZCH;by_cases h:(lookM m x).isSome
 ·rw[if_pos h];induction m with
  | nil=>simp[lookM] at h
  | cons p m ih =>
   rw[List.map_cons];by_cases hp:p.1=x
   ·rw[if_pos hp];by_cases hy:y=x
    ·rw[if_pos hy];unfold lookM;rw[List.find?_cons_of_pos (by simp[hy])];rfl
    ·rw[if_neg hy];unfold lookM;rw[List.find?_cons_of_neg (by simpa using Ne.symm hy),List.find?_cons_of_neg (by rw[hp];simpa using Ne.symm hy)];clear ih h hp;induction m with
     | nil=>rfl
     | cons q m ih =>
      rw[List.map_cons];by_cases hq:q.1=x
      ·rw[if_pos hq,List.find?_cons_of_neg (by simpa using Ne.symm hy),List.find?_cons_of_neg (by rw[hq];simpa using Ne.symm hy)];exact ih
      ·rw[if_neg hq];by_cases hqy:q.1=y
       ·rw[List.find?_cons_of_pos (by simpa using hqy),List.find?_cons_of_pos (by simpa using hqy)]
       ·rw[List.find?_cons_of_neg (by simpa using hqy),List.find?_cons_of_neg (by simpa using hqy)];exact ih
   ·rw[if_neg hp];have h':(lookM m x).isSome:=by
     unfold lookM at h ⊢;rwa[List.find?_cons_of_neg (by simpa using hp)] at h
    have:=ih h';unfold lookM at this ⊢;by_cases hpy:p.1=y
    ·have hyx:y≠x:=fun e=>hp (hpy.trans e);rw[List.find?_cons_of_pos (by simpa using hpy),if_neg hyx,List.find?_cons_of_pos (by simpa using hpy)]
    ·rw[List.find?_cons_of_neg (by simpa using hpy),List.find?_cons_of_neg (by simpa using hpy)];exact this
 ·rw[if_neg h];have h0:lookM m x=none:=by simpa using h
  unfold lookM at h0 ⊢;rw[List.find?_append];by_cases hy:y=x
  ·subst hy;rw[if_pos rfl];have:m.find? (fun p=>decide (p.1=y))=none:=by simpa using h0
   rw[this];simp
  ·rw[if_neg hy,List.find?_cons_of_neg (by simpa using Ne.symm hy)];simp
theorem ZRa {m:List (Vx × List Int)} {v u:Vx} {i:Int}:atM (ZM8 m v i) u=if u=v then atM m v++[i] else atM m u:=by
 unfold atM ZM8;rw[ZCG];split <;> rfl
theorem ZMc {i j:Int} {v:Vx}:∀ {s:List Vx} {m:List (Vx × List Int)},j∈atM (ZPZ m s i) v↔j∈atM m v\/(j=i/\v∈s)
 | [],m=>by simp[ZPZ]
 | u::s,m=>by
  show j∈atM (ZPZ (ZM8 m u i) s i) v↔_;rw[ZMc (s:=s),ZRa];by_cases hv:v=u
  ·subst hv;rw[if_pos rfl,List.mem_append,List.mem_singleton,List.mem_cons];constructor
   ·rintro((h|h)|h)
    ·exact .inl h
    ·exact .inr ⟨h,.inl rfl⟩
    ·exact .inr ⟨h.1,.inr h.2⟩
   ·rintro(h|h)
    ·exact .inl (.inl h)
    ·exact .inl (.inr h.1)
  ·rw[if_neg hv,List.mem_cons];simp[hv]
theorem ZE3 {l:Cx} {j:Int} {v:Vx}:∀ {n:Nat},n≤l.length->(j∈atM (ZJR (l.take n)) v↔∃(k:Nat) (h:k<l.length),k<n/\j=k/\v∈l[k])
 | 0,_=>by simp[ZJR,atM,lookM]
 | n+1,hn=>by
  rw[ZHB (by omega),ZMc,ZE3 (by omega)];constructor
  ·rintro(⟨k,h,h1,h2,h3⟩|⟨h1,h2⟩)
   ·exact⟨k,h,by omega,h2,h3⟩
   ·exact⟨n,by omega,by omega,h1,h2⟩
  ·rintro⟨k,h,h1,h2,h3⟩;by_cases hk:k=n
   ·subst hk;exact .inr ⟨h2,h3⟩
   ·exact .inl ⟨k,h,by omega,h2,h3⟩
theorem ZIu {l:Cx} {j:Int} {v:Vx}:j∈atM (ZJR l) v↔∃(k:Nat) (h:k<l.length),j=k/\v∈l[k]:=by
 have:=ZE3 (l:=l) (j:=j) (v:=v) (Nat.le_refl _);rw[List.take_length] at this;rw[this];exact⟨fun⟨k,h,_,h2,h3⟩=>⟨k,h,h2,h3⟩,fun⟨k,h,h2,h3⟩=>⟨k,h,h,h2,h3⟩⟩
theorem ZTa {l:Cx} {v:Vx}:∀i∈atM (ZJR l) v,0≤i/\i<l.length:=fun i hi=>by
 obtain⟨k,h,rfl,_⟩:=ZIu.1 hi;omega
theorem ZSn {l:Cx} (h:∀s∈l,ZAC s=0) {s:List Vx} (hs:ZAC s=0) {v:Vx} (hv:v∈s):(atM (ZJR l) v).any (ZRh l s)=ZEA l s:=by
 have asc:∀s∈l,Asc s:=fun s hs=>(Zi.1 (h s hs)).2.2.2;rw[Bool.eq_iff_iff,List.any_eq_true,ZFy];constructor
 ·rintro⟨i,hi,hc⟩;obtain⟨k,hk,rfl,_⟩:=ZIu.1 hi;have hm:=List.getElem_mem hk;unfold ZRh at hc;rw[Int.toNat_natCast,show l.getD k []=l[k] by simp[List.getD,hk],Bool.and_eq_true,decide_eq_true_eq,ZCa _ _ (Zi.1 hs).2.2.2 (asc _ hm)] at hc;exact⟨l[k],hm,hc.1,hc.2⟩
 ·rintro⟨x,hx,h1,h2⟩;obtain⟨k,hk,rfl⟩:=List.getElem_of_mem hx;refine⟨(k:Int),ZIu.2 ⟨k,hk,rfl,?_⟩,?_⟩
  ·unfold Z8 at h2;have:=List.all_eq_true.1 h2 v hv;simpa using this
  ·unfold ZRh;rw[Int.toNat_natCast,show l.getD k []=l[k] by simp[List.getD,hk],Bool.and_eq_true,decide_eq_true_eq,ZCa _ _ (Zi.1 hs).2.2.2 (asc _ hx)];exact⟨h1,h2⟩
end
section
theorem ZFf {a b:List Vx} {p:Bool} {x:Vx}:x∈ZEk a b p↔x∈a/\decide (x∈b)=p:=by unfold ZEk;rw[List.mem_filter];simp
theorem ZEJ {a b:List Vx} {p:Bool}:(ZEk a b p).Sublist a:=List.filter_sublist
theorem ZFS {a b:List Vx} {p:Bool} (h:Asc a):Asc (ZEk a b p):=List.Pairwise.sublist ZEJ h
theorem ZSR {a s:List Vx} (ha:ZAC a=0) (hs:s.Sublist a) (hne:s≠[]):ZAC s=0:=by
 obtain⟨h1,h2,h3,h4⟩:=Zi.1 ha;refine Zi.2 ⟨fun h=>hne (List.eq_nil_of_length_eq_zero h),Nat.le_trans hs.length_le h2,fun v hv=>h3 v (hs.subset hv),List.Pairwise.sublist hs h4⟩
theorem ZVM {s:List Vx} (h:0<s.length):s≠[]:=fun e=>by subst e;simp at h
end
section
theorem ZAy:∀(k:Nat) (s x:List Vx),x∈ZT k s↔x.Sublist s/\x.length=k
 | 0,s,x=>by
  have:ZT 0 s=[[]]:=by unfold ZT;rfl
  rw[this,List.mem_singleton];constructor
  ·rintro rfl;exact⟨List.nil_sublist _,rfl⟩
  ·rintro⟨_,h⟩;exact List.eq_nil_of_length_eq_zero h
 | k+1,[],x=>by
  simp only[ZT,List.not_mem_nil,List.sublist_nil,false_iff];rintro⟨rfl,h⟩;simp at h
 | k+1,v::s,x=>by
  unfold ZT;rw[List.mem_append,List.mem_map,ZAy (k+1) s x];constructor
  ·rintro(⟨y,hy,rfl⟩|⟨h1,h2⟩)
   ·obtain⟨h1,h2⟩:=(ZAy k s y).1 hy;exact⟨h1.cons_cons v,by simp[h2]⟩
   ·exact⟨h1.cons v,h2⟩
  ·rintro⟨h1,h2⟩;rcases List.sublist_cons_iff.1 h1 with h|⟨y,rfl,h⟩
   ·exact .inr ⟨h,h2⟩
   ·exact .inl ⟨y,(ZAy k s y).2 ⟨h,by simpa using h2⟩,rfl⟩
theorem ZNs (s:List Vx):(ZT 0 s).length=1:=by unfold ZT;rfl
theorem ZNr (k:Nat) (v:Vx) (s:List Vx):(ZT (k+1) (v::s)).length=(ZT k s).length+(ZT (k+1) s).length:=by
 conv=>lhs;unfold ZT
 rw[List.length_append,List.length_map]
theorem ZO9 (v:Vx) (a b:List Vx):ZAa (v::a) (v::b)=ZAa a b:=by
 conv=>lhs;unfold ZAa
 rw[if_pos (ZBy.2 rfl)]
theorem ZD2:∀(k:Nat) (s:List Vx),Asc s->(ZT k s).Pairwise fun a b=>ZAa a b = -1
 | 0,s,_=>by unfold ZT;exact List.pairwise_singleton _ _
 | k+1,[],_=>by unfold ZT;exact List.Pairwise.nil
 | k+1,v::s,h=>by
  obtain⟨h1,h2⟩:=List.pairwise_cons.1 h;unfold ZT;rw[List.pairwise_append];refine⟨List.pairwise_map.2 (List.Pairwise.imp (fun {a b} hab=>by rw[ZO9];exact hab) (ZD2 k s h2)),ZD2 (k+1) s h2,fun a ha b hb=>?_⟩;obtain⟨a',_,rfl⟩:=List.mem_map.1 ha;obtain⟨hb1,hb2⟩:=(ZAy _ _ _).1 hb
  match b,hb1,hb2 with
  | w::b',hb1,_ =>
   have hw:w∈s:=hb1.subset (by simp);have hvw:=h1 w hw;have:=ZFZ v w;unfold ZAa;rw[if_neg (by omega)];omega
theorem ZA7 {a s:List Vx} {k:Nat} (hs:ZAC s=0) (hk:0<k) (h:a∈ZT k s):ZAC a=0/\a.Sublist s/\a.length=k:=by
 obtain⟨h1,h2⟩:=(ZAy _ _ _).1 h;exact⟨ZSR hs h1 (ZVM (by omega)),h1,h2⟩
theorem ZEg {s:List Vx} (hs:ZAC s=0) {k:Nat} (h1:0<k) (h2:k≤s.length):ZDg s k=(ZT k s,0):=by
 unfold ZDg;rw[if_neg (by simp[hs]),if_neg (by omega)];simp
end
section
open Go.RowKit

theorem ZBH {n:Nat} {p:Nat->Bool}:(List.range (n+1)).any p=((List.range n).any p || p n):=by rw[List.range_succ,List.any_append];simp
theorem ZEd {n k:Nat} {p:Nat->Bool} (hk:k<n) (h:p k=true):(List.range n).any p=true:=List.any_eq_true.2 ⟨k,List.mem_range.2 hk,h⟩
theorem ZBz {l:Cx} {k:Nat} (h:k<l.length):l.getD k []=l[k]:=by simp[List.getD,h]
theorem ZMI:∀(l:Cx) (p:Option (List Vx)),ZEe p l=0->∀s∈l,ZAC s=0
 | [],_,_,s,hs=>by simp at hs
 | x::l,p,h,s,hs=>by
  unfold ZEe at h;by_cases h1:ZAC x≠0
  ·rw[if_pos h1] at h;exact absurd h h1
  ·rw[if_neg h1] at h;rcases List.mem_cons.1 hs with rfl|hs
   ·omega
   ·refine ZMI l (some x) ?_ s hs
    revert h
    split
    ·intro h;omega
    ·exact id
theorem ZGp {l:Cx} (h:ZBC l=0):l.length≤4096/\ZEe none l=0/\ZB3 l=false/\∀s∈l,ZAC s=0:=by
 unfold ZBC at h;by_cases h1:4096<l.length
 ·rw[if_pos h1] at h;omega
 rw[if_neg h1] at h;by_cases h2:ZEe none l≠0
 ·rw[if_pos h2] at h;exact absurd h h2
 rw[if_neg h2] at h;refine⟨by omega,by omega,?_,ZMI l none (by omega)⟩;cases h3:ZB3 l with
 | false=>rfl
 | true=>rw[h3,if_pos rfl] at h;omega
end
section
theorem ZIY:∀(l:Cx) (p:Option (List Vx)),ZEe p l=0->AscL l/\(∀u,p=some u->∀s∈l,ZAa u s<0)/\∀s∈l,ZAC s=0
 | [],p,_=>⟨by simp[AscL],by simp,by simp⟩
 | s::l,p,h=>by
  unfold ZEe at h;by_cases h1:ZAC s≠0
  ·rw[if_pos h1] at h;exact absurd h h1
  rw[if_neg h1] at h;have key:ZEe (some s) l=0/\∀u,p=some u->ZAa u s<0:=by
   cases p with
   | none=>exact⟨by simpa using h,fun u hu=>by cases hu⟩
   | some u =>
    by_cases h2:0≤ZAa u s
    ·simp only[h2,decide_true,if_true] at h;exact absurd h (by decide)
    ·simp only[h2,decide_false,Bool.false_eq_true,if_false] at h;exact⟨h,fun u' hu=>by cases hu;omega⟩
  obtain⟨h3,h4,h5⟩:=ZIY l (some s) key.1;have h6:=h4 s rfl;refine⟨List.pairwise_cons.2 ⟨h6,h3⟩,fun u hu x hx=>?_,fun x hx=>?_⟩
  ·have h7:=key.2 u hu;rcases List.mem_cons.1 hx with rfl|hx
   ·exact h7
   ·exact ZEv h7 (h6 x hx)
  ·rcases List.mem_cons.1 hx with rfl|hx
   ·omega
   ·exact h5 x hx
theorem ZO4:∀(l:Cx) (p:Option (List Vx)),AscL l->(∀u,p=some u->∀s∈l,ZAa u s<0)->(∀s∈l,ZAC s=0)->ZEe p l=0
 | [],p,_,_,_=>rfl
 | s::l,p,ha,hp,hc=>by
  unfold ZEe;rw[if_neg (by have:=hc s (by simp);omega),if_neg ?_]
  ·unfold AscL at ha;rw[List.pairwise_cons] at ha;exact ZO4 l (some s) ha.2 (fun u hu x hx=>by cases hu;exact ha.1 x hx) fun x hx=>hc x (by simp[hx])
  ·cases p with
   | none=>simp
   | some u =>
    have:=hp u rfl s (by simp);simp only[decide_eq_true_eq];omega
theorem ZPa {a b:List Vx} (ha:Asc a) (hb:Asc b) (h:Z8 a b=true) (hne:a≠b):a.length<b.length:=by
 have hsub:∀x∈a,x∈b:=fun x hx=>by
  have:=List.all_eq_true.1 h x hx;simpa using this
 have e:ZEk b a true=a:=asc_ext (ZFS hb) ha fun x=>by
  rw[ZFf];constructor
  ·intro ⟨_,h⟩;simpa using h
  ·intro hx;exact⟨hsub x hx,by simpa using hx⟩
 have hs:a.Sublist b:=by rw[<- e];exact ZEJ
 rcases Nat.lt_or_ge a.length b.length with h1|h1
 ·exact h1
 ·exact absurd (hs.eq_of_length_le h1) hne
theorem ZHR {l:Cx} (ha:AscL l) (hc:∀s∈l,ZAC s=0):ZB3 l=l.any fun s=>ZEA l s:=by
 have asc:∀s∈l,Asc s:=fun s hs=>(Zi.1 (hc s hs)).2.2.2;rw[Bool.eq_iff_iff];unfold ZB3;simp only[List.any_eq_true,List.mem_range,Bool.and_eq_true,decide_eq_true_eq,ZFy];constructor
 ·rintro⟨i,hi,k,hk,hne,h⟩;rw[ZBz hi,ZBz hk] at h;have hmi:=List.getElem_mem hi;have hmk:=List.getElem_mem hk;refine⟨l[i],hmi,l[k],hmk,ZPa (asc _ hmi) (asc _ hmk) h fun e=>?_,h⟩;have hp:=List.pairwise_iff_getElem.1 ha.nodup;rcases Nat.lt_or_gt_of_ne hne with h1|h1
  ·exact hp i k hi hk h1 e
  ·exact hp k i hk hi h1 e.symm
 ·rintro⟨s,hs,x,hx,hlt,h⟩;obtain⟨i,hi,rfl⟩:=List.getElem_of_mem hs;obtain⟨k,hk,rfl⟩:=List.getElem_of_mem hx;exact⟨i,hi,k,hk,fun e=>by subst e;omega,by rw[ZBz hi,ZBz hk];exact h⟩
def GoodX (l:Cx):Prop:=l.length≤4096/\AscL l/\(∀s∈l,ZAC s=0)/\∀s∈l,ZEA l s=false
theorem ZAX {l:Cx}:ZBC l=0↔GoodX l:=by
 unfold GoodX;constructor
 ·intro h;obtain⟨h1,h2,h3,h4⟩:=ZGp h;obtain⟨h5,_,h6⟩:=ZIY l none h2;rw[ZHR h5 h6,List.any_eq_false] at h3;exact⟨h1,h5,h6,fun s hs=>by simpa using h3 s hs⟩
 ·rintro⟨h1,h2,h3,h4⟩;unfold ZBC;have h5:ZEe none l=0:=ZO4 l none h2 (fun u hu=>by cases hu) h3;have h6:ZB3 l=false:=by
   rw[ZHR h2 h3,List.any_eq_false];exact fun s hs=>by simp[h4 s hs]
  rw[if_neg (by omega),if_neg (by omega),if_neg (by simp[h6])]
theorem ZB7:∀ {l:Cx} {k:Nat} {x:List Vx},x∈ZAi l k↔∃f∈l,x∈ZT k f:=by
 have go:∀(l out:Cx) (k:Nat) (x:List Vx),x∈l.foldl (fun out f=>if f.length<k then out else(ZT k f).foldl ZCb out) out↔x∈out\/∃f∈l,x∈ZT k f:=by
  intro l;induction l with
  | nil=>intro out k x;simp
  | cons f l ih =>
   intro out k x;rw[List.foldl_cons,ih];have e:x∈(if f.length<k then out else(ZT k f).foldl ZCb out)↔x∈out\/x∈ZT k f:=by
    split
    ·rename_i h;rw[ZAh k f h];simp
    ·rw[ZG5];exact or_comm
   rw[e];constructor
   ·rintro((h|h)|⟨g,hg,h⟩)
    ·exact .inl h
    ·exact .inr ⟨f,by simp,h⟩
    ·exact .inr ⟨g,by simp[hg],h⟩
   ·rintro(h|⟨g,hg,h⟩)
    ·exact .inl (.inl h)
    ·rcases List.mem_cons.1 hg with rfl|hg
     ·exact .inl (.inr h)
     ·exact .inr ⟨g,hg,h⟩
 intro l k x;unfold ZAi;rw[go];simp
theorem ZCZ (l:Cx) (k:Nat):AscL (ZAi l k):=by
 have go:∀(l out:Cx),AscL out->AscL (l.foldl (fun out f=>if f.length<k then out else(ZT k f).foldl ZCb out) out):=by
  intro l;induction l with
  | nil=>intro out h;exact h
  | cons f l ih =>
   intro out h;rw[List.foldl_cons];refine ih _ ?_;split
   ·exact h
   ·exact ZG4 h
 exact go l [] (by simp[AscL])
def ZJT (out:Cx) (l:Cx):Cx:=l.foldl (fun out f=>if f∈out then out else out++[f]) out
def ZK8 (l:Cx) (k:Nat):Cx:=l.foldl (fun out f=>if f.length<k then out else ZJT out (ZT k f)) []
theorem ZKT {out l:Cx} {j:Nat} (h:j<l.length):ZJT out (l.take (j+1))=if l[j]∈ZJT out (l.take j) then ZJT out (l.take j) else ZJT out (l.take j)++[l[j]]:=by
 unfold ZJT;rw[Ze h,List.foldl_append];rfl
theorem ZIw:∀ {l out:Cx} {x:List Vx},x∈ZJT out l↔x∈out\/x∈l
 | [],out,x=>by simp[ZJT]
 | f::l,out,x=>by
  show x∈ZJT (if f∈out then out else out++[f]) l↔_;rw[ZIw (l:=l)];split
  ·rename_i h;rw[List.mem_cons];constructor
   ·rintro(h1|h1)
    ·exact .inl h1
    ·exact .inr (.inr h1)
   ·rintro(h1|h1|h1)
    ·exact .inl h1
    ·rw[h1];exact .inl h
    ·exact .inr h1
  ·rw[List.mem_append,List.mem_singleton,List.mem_cons,or_assoc]
theorem ZFg:∀ {l out:Cx},out.Nodup->(ZJT out l).Nodup
 | [],out,h=>h
 | f::l,out,h=>by
  show(ZJT (if f∈out then out else out++[f]) l).Nodup;refine ZFg (l:=l) ?_;split
  ·exact h
  ·rename_i hf;rw[List.nodup_append];exact⟨h,by simp,fun a ha b hb=>by rw[List.mem_singleton.1 hb];exact fun e=>hf (e ▸ ha)⟩
theorem ZR0 (l out:Cx):out.length≤(ZJT out l).length/\(ZJT out l).length≤out.length+l.length:=by
 induction l generalizing out with
 | nil=>simp[ZJT]
 | cons f l ih =>
  have h:=ih (if f∈out then out else out++[f]);have e:ZJT out (f::l)=ZJT (if f∈out then out else out++[f]) l:=rfl;rw[e];split at h <;> (simp only[List.length_append,List.length_cons,List.length_nil] at h ⊢;rename_i hf;first|rw[if_pos hf]|rw[if_neg hf]) <;> omega
theorem ZG2 {l:Cx} {k i:Nat} (h:i<l.length):ZK8 (l.take (i+1)) k=if l[i].length<k then ZK8 (l.take i) k else ZJT (ZK8 (l.take i) k) (ZT k l[i]):=by
 unfold ZK8;rw[Ze h,List.foldl_append];rfl
theorem ZEB (l:Cx) (k:Nat):∀n,n≤l.length->(ZK8 (l.take n) k).Nodup/\∀x,x∈ZK8 (l.take n) k↔x∈ZAi (l.take n) k
 | 0,_=>by simp[ZK8,ZAi]
 | n+1,hn=>by
  obtain⟨h1,h2⟩:=ZEB l k n (by omega);have h3:∀x,x∈ZAi (l.take (n+1)) k↔x∈ZAi (l.take n) k\/x∈ZT k l[n]:=fun x=>by
   rw[ZB7,ZB7,Ze (by omega)];constructor
   ·rintro⟨f,hf,hx⟩;rcases List.mem_append.1 hf with hf|hf
    ·exact .inl ⟨f,hf,hx⟩
    ·rw[List.mem_singleton.1 hf] at hx;exact .inr hx
   ·rintro(⟨f,hf,hx⟩|hx)
    ·exact⟨f,List.mem_append.2 (.inl hf),hx⟩
    ·exact⟨l[n],List.mem_append.2 (.inr (List.mem_singleton.2 rfl)),hx⟩
  rw[ZG2 (by omega)];split
  ·rename_i hs;refine⟨h1,fun x=>?_⟩;rw[h3,h2,ZAh k _ hs];simp
  ·refine⟨ZFg h1,fun x=>?_⟩;rw[h3,ZIw,h2]
theorem ZRn (l:Cx) (k n:Nat) (hn:n≤l.length):(ZK8 (l.take n) k).length=(ZAi (l.take n) k).length:=by
 obtain⟨h1,h2⟩:=ZEB l k n hn;exact((List.perm_ext_iff_of_nodup h1 (ZCZ _ k).nodup).2 h2).length_eq
theorem ZPO {l:Cx} {k n:Nat} (hn:n≤l.length):(ZK8 (l.take n) k).length≤(ZAi l k).length:=by
 obtain⟨h1,h2⟩:=ZEB l k n hn;have hsub:∀x∈ZK8 (l.take n) k,x∈ZAi l k:=fun x hx=>by
  obtain⟨f,hf,hx⟩:=ZB7.1 ((h2 x).1 hx);exact ZB7.2 ⟨f,List.mem_of_mem_take hf,hx⟩
 have hp:(ZK8 (l.take n) k).Perm ((ZAi l k).filter fun x=>decide (x∈ZK8 (l.take n) k)) :=
  (List.perm_ext_iff_of_nodup h1 ((ZCZ l k).nodup.filter _)).2 fun x=>by
   rw[List.mem_filter,decide_eq_true_eq];exact⟨fun hx=>⟨hsub x hx,hx⟩,fun hx=>hx.2⟩
 rw[hp.length_eq];exact List.length_filter_le _ _
theorem ZNq {l ys:Cx} {k:Nat} (hp:ys.Perm (ZK8 l k)) (hs:SortL ys):ys=ZAi l k:=by
 have h:=ZEB l k l.length (Nat.le_refl _);rw[List.take_length] at h;refine ZMD ?_ (ZCZ l k) fun x=>by rw[hp.mem_iff];exact h.2 x
 have hn:ys.Nodup:=hp.nodup_iff.2 h.1;refine List.Pairwise.imp₂ (fun a b h1 h2=>?_) hs hn;rcases ZHw a b with h3|h3|h3
 ·exact h3
 ·exact absurd h3 h1
 ·exact absurd h3 h2
end
section
open Go.RowKit

section
variable {P:Program} {ops:Array Oper} {hp:List HObj} {fr:List Dat} {dst:Option Tmp} {ty:TypeId} {ps:String} {af:Array Edge} {g:Option (Nat × Bool)}
theorem ZTO {x y:Operand} {m n:Int} {ats:Array TypeId} (hx:OpD fr x (dI m)) (hy:OpD fr y (dI n)):SY P ops hp ⟨dst,.call { callee:=.builtin .min,args:=#[x,y],argTypes:=ats },ty,ps,af,g⟩ fr (dI (if n<m then n else m)) :=
 ZWK fun {I w a} ho=>⟨.int .i64 (if n<m then n else m),by
  have h1:a.eval x = .int .i64 m:=hx.get (by simp[Op.operands,Call.operands]) ho;have h2:a.eval y = .int .i64 n:=hy.get (by simp[Op.operands,Call.operands]) ho;unfold execOp;simp[resolve,invoke,builtin,h1,h2,Builtin.min_,Builtin.min2],rfl⟩
end
end
section
open Go.RowKit

def ZSP (k:Nat) (out:Cx) (f:List Vx):Cx:=if f.length<k then out else(ZT k f).foldl ZCb out
theorem ZOn (c:Cx) (k:Nat):ZAi c k=c.foldl (ZSP k) []:=rfl
theorem ZDm {l:Cx} {k i:Nat} (h:i<l.length):ZAi (l.take (i+1)) k=ZSP k (ZAi (l.take i) k) l[i]:=by
 rw[ZOn,ZOn,Ze h,List.foldl_append];rfl
theorem ZQX {k:Nat} {out:Cx} {f:List Vx} (h:f.length≤8):(ZSP k out f).length≤out.length+256:=by
 unfold ZSP;split
 ·omega
 ·have h1:=ZDW (ZT k f) out;have h2:=Nat.le_trans (ZAo k f) (Nat.pow_le_pow_right (by decide) h:2 ^ f.length≤2 ^ 8);omega
theorem ZD6:∀(l:Cx) (k i:Nat),(∀f∈l,f.length≤8)->i≤l.length->(ZAi (l.take i) k).length≤256*i
 | l,k,0,_,_=>by simp[ZAi]
 | l,k,i+1,h,hi=>by
  rw[ZDm (by omega)];have h1:=ZQX (k:=k) (out:=ZAi (l.take i) k) (h _ (List.getElem_mem (show i<l.length by omega)));have h2:=ZD6 l k i h (by omega);omega
def ZCR (l:Cx) (k:Int):Cx × Int:=if ZBC l≠0 then([],ZBC l) else if k<1\/8<k then([],2) else if 4096<(ZAi l k.toNat).length then([],17) else(ZAi l k.toNat,0)
theorem ZNu (k:Nat):((k:Int)+1).tmod 2=(((k+1) % 2:Nat):Int):=by rw[Int.tmod_eq_emod_of_nonneg (by omega)];omega
def ZHa (l:Cx):Nat->Int
 | 0=>0
 | k+1=>if(k+1) % 2=1 then ZHa l k+(ZAi l (k+1)).length else ZHa l k-(ZAi l (k+1)).length
def ZBf (l:Cx):Int × Int:=if ZBC l≠0 then(0,ZBC l) else if(List.range 8).any (fun k=>decide (4096<(ZAi l (k+1)).length))=true then(0,17) else(ZHa l 8,0)
theorem ZId (l:Cx) (h:∀k,(ZAi l k).length≤2000000):∀k,ZHa l k≤2000000*k /\ -(2000000*(k:Int))≤ZHa l k
 | 0=>by simp[ZHa]
 | k+1=>by
  have h1:=ZId l h k;have h2:=h (k+1);unfold ZHa;split <;> omega
end
section
theorem GoodX.asc {l:Cx} (h:GoodX l):∀s∈l,Asc s:=fun s hs=>(Zi.1 (h.2.2.1 s hs)).2.2.2
theorem ZOq {l:Cx} {s:List Vx} (h:∀f∈l,Asc f) (hs:Asc s):l.filter (ZBv s)=ZIV l s:=List.filter_congr fun f hf=>ZCa s f hs (h f hf)
theorem ZNV {l:Cx} {s:List Vx}:ZBm l s=decide (0<(ZIV l s).length):=by
 unfold ZBm ZIV;rw[Bool.eq_iff_iff,List.any_eq_true,decide_eq_true_eq,List.length_pos_iff_exists_mem];constructor
 ·rintro⟨x,hx,h⟩;exact⟨x,List.mem_filter.2 ⟨hx,h⟩⟩
 ·rintro⟨x,h⟩;exact⟨x,(List.mem_filter.1 h).1,(List.mem_filter.1 h).2⟩
end
section
abbrev CntM:=List (List Vx × Int)
def ZHb (l:Cx) (d:Nat):Cx:=(l.map (ZT d)).flatten
theorem ZGL {l:Cx} {d:Nat} {f:List Vx}:f∈ZHb l d↔f∈ZAi l d:=by
 unfold ZHb;rw[List.mem_flatten,ZB7];constructor
 ·rintro⟨x,hx,hf⟩;obtain⟨s,hs,rfl⟩:=List.mem_map.1 hx;exact⟨s,hs,hf⟩
 ·rintro⟨s,hs,hf⟩;exact⟨_,List.mem_map_of_mem hs,hf⟩
theorem ZIC {s:List Vx} (h:Asc s) (d:Nat):(ZT d s).Nodup:=List.Pairwise.imp (fun {a b} hab hc=>by
 subst hc;rw[ZGI] at hab;omega) (ZD2 d s h)
end
end Go.Proofs.YtofkoleingbbpaaGreatDoor
namespace Go.Proofs
section
open Go.Shelf
def Tryz.sortS_ren:Go.Shelf.Ren:=⟨fun|6=>154|15=>161|14=>162|28=>177|29=>178|20=>179|21=>180|22=>181|23=>182|24=>183|25=>184|26=>185|27=>186|46=>196|47=>192|48=>193|49=>197|50=>198|57=>202|n=>n,fun|22=>27|24=>22|25=>127|3=>3|39=>177|0=>0|53=>228|55=>207|4=>4|46=>222|45=>221|50=>132|5=>5|9=>9|66=>238|70=>242|76=>246|77=>156|n=>n,fun|n=>n⟩
theorem Tryz.sortS:Go.Proofs.SlLaysF.n6 Tryz.prog Tryz.sortS_ren:={
 mixed:=by kernel_rfl
 f6:=⟨Tryz.f154.name,by decide,Tryz.func154.trans (congrArg some (by kernel_rfl))⟩
 f14:=⟨Tryz.f162.name,by decide,Tryz.func162.trans (congrArg some (by kernel_rfl))⟩
 f15:=Tryz.func161.trans (congrArg some (by kernel_rfl))
 f20:=⟨Tryz.f179.name,by decide,Tryz.func179.trans (congrArg some (by kernel_rfl))⟩
 f21:=⟨Tryz.f180.name,by decide,Tryz.func180.trans (congrArg some (by kernel_rfl))⟩
 f22:=⟨Tryz.f181.name,by decide,Tryz.func181.trans (congrArg some (by kernel_rfl))⟩
 f23:=⟨Tryz.f182.name,by decide,Tryz.func182.trans (congrArg some (by kernel_rfl))⟩
 f24:=⟨Tryz.f183.name,by decide,Tryz.func183.trans (congrArg some (by kernel_rfl))⟩
 f25:=⟨Tryz.f184.name,by decide,Tryz.func184.trans (congrArg some (by kernel_rfl))⟩
 f26:=⟨Tryz.f185.name,by decide,Tryz.func185.trans (congrArg some (by kernel_rfl))⟩
 f27:=⟨Tryz.f186.name,by decide,Tryz.func186.trans (congrArg some (by kernel_rfl))⟩
 f28:=Tryz.func177.trans (congrArg some (by kernel_rfl))
 f29:=Tryz.func178.trans (congrArg some (by kernel_rfl))
 f46:=⟨Tryz.f196.name,by decide,Tryz.func196.trans (congrArg some (by kernel_rfl))⟩
 f47:=Tryz.func192.trans (congrArg some (by kernel_rfl))
 f48:=Tryz.func193.trans (congrArg some (by kernel_rfl))
 f49:=⟨Tryz.f197.name,by decide,Tryz.func197.trans (congrArg some (by kernel_rfl))⟩
 f50:=⟨Tryz.f198.name,by decide,Tryz.func198.trans (congrArg some (by kernel_rfl))⟩
 f57:=⟨Tryz.f202.name,by decide,Tryz.func202.trans (congrArg some (by kernel_rfl))⟩
 t0:=Tryz.underlying0
 a0:=Tryz.isAgg0
 z0:=Tryz.sizeOf0
 v0:=Tryz.zeroValue0
 t3:=Tryz.underlying3
 a3:=Tryz.isAgg3
 z3:=Tryz.sizeOf3
 v3:=Tryz.zeroValue3
 t4:=Tryz.underlying4
 a4:=Tryz.isAgg4
 z4:=Tryz.sizeOf4
 v4:=Tryz.zeroValue4
 t5:=Tryz.underlying5
 a5:=Tryz.isAgg5
 z5:=Tryz.sizeOf5
 v5:=Tryz.zeroValue5
 t9:=Tryz.underlying9
 a9:=Tryz.isAgg9
 z9:=Tryz.sizeOf9
 v9:=Tryz.zeroValue9
 t22:=Tryz.underlying27
 a22:=Tryz.isAgg27
 z22:=Tryz.sizeOf27
 v22:=Tryz.zeroValue27
 a24:=Tryz.isAgg22
 z24:=Tryz.sizeOf22
 t25:=Tryz.underlying127
 a25:=Tryz.isAgg127
 z25:=Tryz.sizeOf127
 v25:=Tryz.zeroValue127
 t39:=Tryz.underlying177
 a39:=Tryz.isAgg177
 z39:=Tryz.sizeOf177
 v39:=Tryz.zeroValue177
 t45:=Tryz.underlying221
 a45:=Tryz.isAgg221
 z45:=Tryz.sizeOf221
 v45:=Tryz.zeroValue221
 t46:=Tryz.underlying222
 a46:=Tryz.isAgg222
 z46:=Tryz.sizeOf222
 v46:=Tryz.zeroValue222
 t50:=Tryz.underlying132
 a50:=Tryz.isAgg132
 z50:=Tryz.sizeOf132
 v50:=Tryz.zeroValue132
 t53:=Tryz.underlying228
 a53:=Tryz.isAgg228
 z53:=Tryz.sizeOf228
 v53:=Tryz.zeroValue228
 t55:=Tryz.underlying207
 a55:=Tryz.isAgg207
 z55:=Tryz.sizeOf207
 v55:=Tryz.zeroValue207
 t66:=Tryz.underlying238
 a66:=Tryz.isAgg238
 z66:=Tryz.sizeOf238
 v66:=Tryz.zeroValue238
 t70:=Tryz.underlying242
 a70:=Tryz.isAgg242
 z70:=Tryz.sizeOf242
 v70:=Tryz.zeroValue242
 t76:=Tryz.underlying246
 a76:=Tryz.isAgg246
 z76:=Tryz.sizeOf246
 v76:=Tryz.zeroValue246
 t77:=Tryz.underlying156
 a77:=Tryz.isAgg156
 z77:=Tryz.sizeOf156
 v77:=Tryz.zeroValue156 }
end
end Go.Proofs
namespace Go.Proofs.YtofkoleingbbpaaGreatDoor
section
open Go.RowKit Go.Sort Go.Shelf
section
variable {w:World} {g n cap:Nat} {os:Array Obj} {cur:Array Value} {e:TypeId} {fz:Nat × Nat} {α:Type} [Inhabited α] {enc:α->Value}
theorem ZG9 (d:Array α):w.grownBy (sortWorld enc w g 0 n d os) (some g):=by
 refine⟨rfl,rfl,rfl,by simp[sortWorld],fun k hk hne=>?_⟩;unfold sortWorld;rw[heap_grow_old _ _ (by simpa using hk)];have:g≠k:=fun e=>hne (by rw[e]);simp[putRow,mapBlock,Sort.ahead,Array.getElem?_modify,this]
theorem ZKI (d:Array α) (hb:w.heap[g]?=some (.cells cur e fz)) :
  (sortWorld enc w g 0 n d os).heap[g]?=some (.cells (putCells enc 0 d cur) e fz):=by
 have hg:g<w.heap.size:=(Array.getElem?_eq_some_iff.1 hb).1;unfold sortWorld;rw[heap_grow_old _ _ (by simpa using hg)];simp[putRow,mapBlock,Sort.ahead,Array.getElem?_modify,hb,onCells]
theorem ZIl {d:Array α} (hb:w.heap[g]?=some (.cells cur e (0,0))) (ht:cur.toList.take d.size=d.toList.map enc):Holds enc w g 0 d:=by
 intro j hj;refine⟨?_,by simp[World.frozen?,hb]⟩;have h1:(cur.toList.take d.size)[j]?=(d.toList.map enc)[j]?:=by rw[ht]
 rw[List.getElem?_take_of_lt hj] at h1;simp only[World.cell?,hb,Nat.zero_add];simp only[Option.isSome_none,Bool.false_eq_true,if_false];rw[<- Array.getElem?_toList,h1,getElem!_pos _ j hj];simp[hj]
theorem ZHl (cur:Array Value) (d:Array α) (h:d.size≤cur.size):(putCells enc 0 d cur).toList.take d.size=d.toList.map enc:=by
 apply List.ext_getElem?;intro j;by_cases hj:j<d.size
 ·rw[List.getElem?_take_of_lt hj,Array.getElem?_toList];simp[putCells,hj,show j<cur.size by omega]
 ·rw[List.getElem?_take_eq_none (by omega),List.getElem?_eq_none (by simp;omega)]
end
theorem ZHf {a b c:List Vx} (h:ZAa a b<0) (k:ZAa b c<0):ZAa a c<0:=by
 obtain⟨h1,h2⟩:=ZD9 a b c (by omega) (by omega);rcases Int.lt_or_eq_of_le h1 with h3|h3
 ·exact h3
 ·have:=h2 h3;omega
theorem swoL {α:Type} (f:α->List Vx):SWO (ltOf fun x y:α=>ZAa (f x) (f y)) where
 irrefl x:=by simp[ltOf,ZBM.2 (rfl:f x=f x)]
 trans x y z h h':=by
  simp only[ltOf,decide_eq_true_eq] at *;exact ZHf h h'
 ntrans x y z h h':=by
  simp only[ltOf,decide_eq_false_iff_not] at *;have e1:=ZD8 (f x) (f y);have e2:=ZD8 (f y) (f z);have e3:=ZD8 (f x) (f z);have:=(ZD9 (f z) (f y) (f x) (by omega) (by omega)).1;omega
section
variable {ops:Array Oper} {hp:List HObj} {fr:List Dat} {Q:Z4} {rest:List Oper} {dst:Option Tmp} {ty:TypeId} {ps:String} {af:Array Edge}
theorem ZRN {x:Operand} {v:Value} {e:TypeId} {xs:List (List Vx)} {ats:Array TypeId} (hx:OpD fr x (dX v)) (hlen:xs.length<4611686018427387904)
  (h:∀ys:List (List Vx),ys.Perm xs->ys.Pairwise (fun a b=>¬ ZAa b a<0)->WL Tryz.prog ops Q rest (ZC fr dst dA) (Zk v e ZI ys::hp)) :
  WL Tryz.prog ops Q (⟨dst,.call { callee:=.value (.func 154),args:=#[x,.func 80],argTypes:=ats },ty,ps,af,none⟩::rest) fr (Zk v e ZI xs::hp):=by
 refine WL.of fun P0 B w0 w a hh hf=>?_;have hok:=hh.ok (Zk v e ZI xs) (by simp);obtain⟨us,h1,h2,h3⟩:=hok;have hev:a.eval x=v:=hx.ev hf;obtain⟨hfl,hv⟩:=h2;have hrun:(execOp a.eval ⟨dst,.call { callee:=.value (.func 154),args:=#[x,.func 80],argTypes:=ats },ty,ps,af,none⟩).run Tryz.prog w = .ok (.enter 154 #[v,.func (.func 80) #[] #[]]) w:=by
  unfold execOp;simp only[resolve];have he:(#[x,Operand.func 80]:Array Operand).map a.eval=#[v,.func (.func 80) #[] #[]]:=by simp[hev];rfl
  rw[he];simp[Act.eval,Deferred.ofValue,invoke,Tryz.call154]
 by_cases hne:xs=[]
 ·subst hne;have hv0:∃p cap,v = .slice p 0 cap:=by
   rcases hv with ⟨hv,_⟩|⟨g,cap,cur,hv,_⟩
   ·exact⟨_,_,hv⟩
   ·exact⟨_,_,hv⟩
  obtain⟨p,cap,hv0⟩:=hv0;have hcon:=AnyF.slices_SortFunc_none (P:=Tryz.prog) (ρ:=Tryz.sortS_ren) { Tryz.sortS with } p cap (.func (.func 80) #[] #[]) w;change Calls Tryz.prog 154 _ _ _ at hcon;refine wpList_plain rfl fun K hK=>?_;unfold Oper.wp;rw[hrun,hv0];refine hcon.mono fun e' w' ⟨he,hw'⟩=>?_;subst he;subst hw';exact hK _ _ ((h [] (List.Perm.refl _) List.Pairwise.nil).on hh (hf.put (d:=dA) trivial))
 have hpos:0<xs.length:=List.length_pos_iff.2 hne;rcases hv with ⟨_,hz⟩|⟨g,cap,cur,hv,hB,hg,hc1,hc2,hc3,hc4⟩
 ·omega
 have hgb:g<w.heap.size:=(Array.getElem?_eq_some_iff.1 hg).1
 let J:Nat->Prop:=fun b=>Imm P0 B (Zk v e ZI xs::hp) b/\v.ownBlock≠some b
 let α:={p:Value × List Vx // p.1.oneCell'=true/\ZI J w p.1 p.2}
 let at0:Fin xs.length->α:=fun k=>⟨(us[k.1]'(by omega),xs[k.1]),h3 k.1 (by omega) k.2⟩
 haveI:Inhabited α:=⟨at0 ⟨0,hpos⟩⟩
 let enc:α->Value:=fun p=>p.1.1
 let d:Array α:=(List.ofFn at0).toArray
 have hds:d.size=xs.length:=by simp[d]
 have hdu:d.toList.map enc=us:=by
  apply List.ext_getElem (by simp[d,h1]);intro k a b;simp[d,enc,at0]
 have hdx:d.toList.map (fun p=>p.1.2)=xs:=by
  apply List.ext_getElem (by simp[d]);intro k a b;simp[d,at0]
 have hown:v.ownBlock=some g:=by rw[hv];rfl
 have hH:Holds enc w g 0 d:=ZIl hg (by rw[hds,hdu];simpa using hc4);have hgr:∀(d':Array α) (n:Nat) (os:Array Obj),w.grownBy (sortWorld enc w g 0 n d' os) (Zk v e ZI xs).blk:=fun d' n os=>by
  show w.grownBy _ v.ownBlock;rw[hown];exact ZG9 d'
 have hmove:∀(p:α) (d':Array α) (n:Nat) (os:Array Obj),ZI (fun b=>J b/\b<w.heap.size) (sortWorld enc w g 0 n d' os) p.1.1 p.1.2:=fun p d' n os =>
  Good.move (Good.bound p.2.2) fun k hk hlt=>(hgr d' n os).block k hlt fun he=>hk.1.2 he.symm
 have hcon:=Any.slices_SortFunc Tryz.sortS enc (fun p=>p.2.1) (fun p q=>ZAa p.1.2 q.1.2) (swoL fun p:α=>p.1.2) 80 #[] g 0 cap d w Tryz.call80
  (fun m os dk _ p q=>M.ZU0 (hmove p dk m os) (hmove q dk m os)) hH hgb (by rw[hds];exact hlen)
 change Calls Tryz.prog 154 _ _ _ at hcon;refine wpList_plain rfl fun K hK=>?_;unfold Oper.wp;rw[hrun];have hva:v = .slice (some ⟨g,0,none⟩) d.size cap:=by rw[hds];exact hv
 rw[<- hva] at hcon;refine hcon.mono fun e' w' ⟨he,d',n,os,hp1,hs,hw'⟩=>?_;subst he;subst hw';obtain⟨q1,_,q3⟩:=hp1;have hperm:d'.toList.Perm d.toList:=by
  have e1:d'.extract 0 d.size=d':=by rw[<- q1];simp
  have e2:d.extract 0 d.size=d:=by simp
  rw[e1,e2] at q3;exact q3
 have hys:(d'.toList.map fun p=>p.1.2).Perm xs:=by
  have:=hperm.map (fun p:α=>p.1.2);rwa[hdx] at this
 have hsort:(d'.toList.map fun p=>p.1.2).Pairwise (fun a b=>¬ ZAa b a<0):=by
  rw[List.pairwise_map,List.pairwise_iff_getElem];intro i j hi hj hij;have hi':i<d'.size:=by simpa using hi
  have hj':j<d'.size:=by simpa using hj
  have:=hs i j (Nat.zero_le _) hij (by omega);rw[getElem!_pos d' i hi',getElem!_pos d' j hj'] at this;simpa[ltOf] using this
 have hlen':(d'.toList.map fun p=>p.1.2).length=xs.length:=by simp;omega
 have hok:(Zk v e ZI (d'.toList.map fun p=>p.1.2)).ok (fun k=>Imm P0 B (Zk v e ZI xs::hp) k/\k<w.heap.size) (sortWorld enc w g 0 n d' os):=by
  refine⟨d'.toList.map enc,by simp,⟨by simp,.inr ⟨g,cap,putCells enc 0 d' cur,?_,hB,ZKI _ hg,by omega,hc2,by simp[putCells,hc3],?_⟩⟩,fun k a b=>?_⟩
  ·rw[hlen'];exact hv
  ·rw[hlen',Nat.mul_one,<- hds,<- q1];exact ZHl _ _ (by rw[q1,hds,hc3];omega)
  ·have hk:k<d'.toList.length:=by simpa using a
   refine⟨by rw[List.getElem_map];exact d'.toList[k].2.1,?_⟩;rw[List.getElem_map,List.getElem_map];exact Good.weak (hmove d'.toList[k] d' n os) fun b hb=>⟨⟨hb.1.1,hb.2⟩,hb.1.2⟩
 exact hK _ _ ((h _ hys hsort).on (hh.write (hgr d' n os) (.inl rfl) hok) (ZWN (hf.mono fun _ _ hd=>Zd (o':=Zk v e ZI (d'.toList.map fun p=>p.1.2)) (hgr d' n os) (.inl rfl) hd) (d:=dA) trivial))
end
end
section
open Go.RowKit
section
variable {P:Program} {ops:Array Oper} {hp:List HObj} {o:Oper} {fr:List Dat} {d:Dat} {Q:Z4} {rest:List Oper}
variable {dst:Option Tmp} {ty:TypeId} {ps:String} {af:Array Edge} {g:Option (Nat × Bool)} {e e' t T:TypeId} {bytes b cap N:Nat} {z:Value} {ag:Bool} {α:Type} {R:Rel α} {_gR:Good R} {xs:List α} {v:Value}
abbrev hQ (b N cap:Nat) (e:TypeId) (R:Rel α) [Good R] (xs:List α):HObj:=Zk (.slice (some ⟨b,0,none⟩) N cap) e R xs
end
end
section
open Go.RowKit

theorem nil_A {α:Type} {R:Rel α} [Good R] {xs:List α} {I:Nat->Prop} {w:World} {v:Value} (h:(dS (Arr R) xs).rd I w v):∃a m c,v = .slice a m c/\(a=none->m=0):=by
 obtain⟨ad,cap,rfl,h1,h2,h3⟩:=(h:Arr R I w v xs);refine⟨_,_,_,rfl,fun hn=>?_⟩;rcases Nat.eq_zero_or_pos xs.length with hz|hz
 ·exact hz
 ·obtain⟨us,b,off,_,_,had,_,_⟩:=h3 0 hz;rw[hn] at had;cases had
end
section
open Go.RowKit

abbrev hM {K V:Type} (b:Nat) (kv:K->Value) (vv:V->Value) (m:List (K × V)):HObj:=ZA2 b (ZAb (ZAT kv vv m))
structure IsV (d:Dat) (v:Value):Prop where
 is:∀(I:Nat->Prop) (w:World) (u:Value),d.rd I w u->u=v
theorem isX {v:Value}:IsV (dX v) v:=⟨fun _ _ _ h=>h⟩
theorem isI {n:Int}:IsV (dI n) (.int .i64 n):=⟨fun _ _ _ h=>h⟩
theorem isB {b:Bool}:IsV (dB b) (.bool b):=⟨fun _ _ _ h=>h⟩
section
variable {P:Program} {ops:Array Oper} {hp:List HObj} {o:Oper} {fr:List Dat} {d d2:Dat} {Q:Z4} {rest:List Oper}
variable {dst:Option Tmp} {ty:TypeId} {ps:String} {af:Array Edge} {g:Option (Nat × Bool)} {t k e:TypeId} {z:Value} {K V:Type} {kv:K->Value} {ok:K->Prop} {vv:V->Value} {b:Nat} {m:List (K × V)}
theorem WL.makeMap (kv:K->Value) (vv:V->Value) (h:∀b,WL P ops Q rest (ZC fr dst (dX (.map (some b)))) (hM b kv vv []::hp)) :
  WL P ops Q (⟨dst,.makeMap t none,ty,ps,af,none⟩::rest) fr hp:=by
 refine WL.of fun P0 B w0 w a hh hf=>?_;have hrun:(execOp a.eval ⟨dst,.makeMap t none,ty,ps,af,none⟩).run P w = .ok (.value (.map (some w.heap.size))) (w.alloc (ZAb [])):=by
  unfold execOp;simp[Instr.makeMap,ZAb,Zb]
 refine Zo rfl hrun ?_;have hx:=ZWU w (ZAb []);have hb:∀k,(hM w.heap.size kv vv []).blk=some k->w.heap.size≤k/\k<(w.alloc (ZAb [])).heap.size:=fun k hk=>by
  cases hk;exact⟨Nat.le_refl _,by simp⟩
 refine(h w.heap.size).on (hh.push hx hb (Zw w _)) ?_;exact ZWN (hf.mono fun d _ hd=>ZAJ hx (fun k hk=>(hb k hk).1) hd) rfl
section
variable [DecidableEq K]
theorem SY.lookM {x y:Operand} {v:K} (T:MapT P t k e z) (H:KeyT P k kv ok) (hx:OpD fr x (dX (.map (some b)))) (hm:hM b kv vv m∈hp) (hy:OpD fr y d) (hd:IsV d (kv v)) (ho:ok v) (hok:∀p∈m,ok p.1) (hn:(m.map (·.1)).Nodup) :
  SY P ops hp ⟨dst,.lookup t x y false,ty,ps,af,g⟩ fr (dX (((Go.Proofs.YtofkoleingbbpaaGreatDoor.lookM m v).map vv).getD z)):=ZAG fun {P0 B w0 w a} hh hon=>by
 have h1:a.eval x=_:=hx.get (by simp[Op.operands]) hon;have h2:=hd.is _ _ _ (hy.get (by simp[Op.operands]) hon);refine⟨_,w,?_,ZWS _,rfl⟩;unfold execOp;simp only[h1,h2,Sem.run_bind,ZDF T H hok hn ho (hh.ok _ hm) false,Result.andThen_ok,Sem.run_pure];rfl
theorem ZOD {x y:Operand} {v:K} (T:MapT P t k e z) (H:KeyT P k kv ok) (hx:OpD fr x (dX (.map (some b)))) (hm:hM b kv vv m∈hp) (hy:OpD fr y d) (hd:IsV d (kv v)) (ho:ok v) (hok:∀p∈m,ok p.1) (hn:(m.map (·.1)).Nodup) :
  SY P ops hp ⟨dst,.lookup t x y true,ty,ps,af,g⟩ fr (dT [dX (((Go.Proofs.YtofkoleingbbpaaGreatDoor.lookM m v).map vv).getD z),dB (Go.Proofs.YtofkoleingbbpaaGreatDoor.lookM m v).isSome]):=ZAG fun {P0 B w0 w a} hh hon=>by
 have h1:a.eval x=_:=hx.get (by simp[Op.operands]) hon;have h2:=hd.is _ _ _ (hy.get (by simp[Op.operands]) hon);refine⟨_,w,?_,ZWS _,[((Go.Proofs.YtofkoleingbbpaaGreatDoor.lookM m v).map vv).getD z,.bool (Go.Proofs.YtofkoleingbbpaaGreatDoor.lookM m v).isSome],rfl,rfl,fun i e x he hx=>?_⟩
 ·unfold execOp;simp only[h1,h2,Sem.run_bind,ZDF T H hok hn ho (hh.ok _ hm) true,Result.andThen_ok,Sem.run_pure];rfl
 ·match i,he,hx with
  | 0,he,hx=>cases he;cases hx;rfl
  | 1,he,hx=>cases he;cases hx;rfl
theorem ZBW {x y c:Operand} {v:K} {u:V} (T:MapT P t k e z) (H:KeyT P k kv ok) (hx:OpD fr x (dX (.map (some b)))) (hy:OpD fr y d) (hd:IsV d (kv v)) (hc:OpD fr c d2) (hd2:IsV d2 (vv u)) (ho:ok v) (hok:∀p∈m,ok p.1) (hn:(m.map (·.1)).Nodup)
  (h:WL P ops Q rest (ZC fr dst (dX undef)) (hM b kv vv (ZCH m v u)::hp)) :
  WL P ops Q (⟨dst,.mapUpdate t x y c,ty,ps,af,none⟩::rest) fr (hM b kv vv m::hp):=by
 refine WL.of fun P0 B w0 w a hh hf=>?_;have h1:a.eval x=_:=hx.ev hf;have h2:=hd.is _ _ _ (hy.ev hf);have h3:=hd2.is _ _ _ (hc.ev hf);have hrun:(execOp a.eval ⟨dst,.mapUpdate t x y c,ty,ps,af,none⟩).run P w = .ok .skip (w.putObj b (ZAb (ZAT kv vv (ZCH m v u)))):=by
  unfold execOp;simp only[h1,h2,h3,Sem.run_bind,ZNn T H hok hn ho u (hh.ok (hM b kv vv m) (by simp)),Result.andThen_ok,Sem.run_pure];rfl
 refine wpList_plain rfl fun K hK=>?_;unfold Oper.wp;rw[hrun];exact hK _ _ (h.on (ZWl hh) (ZWN (hf.mono fun _ _ hd=>ZAq hd) (d:=dX undef) rfl))
end
theorem ZTV {x y:Operand} {v:K} (zv:V) (hz:vv zv=z) (T:MapT P t k e z) (H:KeyT P k kv ok) (hx:OpD fr x (dX (.map (some b)))) (hy:OpD fr y d) (hd:IsV d (kv v)) (ho:ok v) (hok:∀p∈m,ok p.1)
  (h1:∀(j:Nat) (hj:j<m.length),m[j].1=v->WL P ops Q rest (ZC fr dst (dT [dX (vv m[j].2),dI j])) (hM b kv vv m::hp))
  (h2:(∀p∈m,p.1≠v)->WL P ops Q rest (ZC fr dst (dT [dX z,dI m.length])) (hM b kv vv (m++[(v,zv)])::hp)) :
  WL P ops Q (⟨dst,.mapEntry t x y,ty,ps,af,none⟩::rest) fr (hM b kv vv m::hp):=by
 refine WL.of fun P0 B w0 w a hh hf=>?_;have e1:a.eval x=_:=hx.ev hf;have e2:=hd.is _ _ _ (hy.ev hf);have hT:∀ {I:Nat->Prop} {w:World} (u:Value) (n:Int),(dT [dX u,dI n]).rd I w (.tuple #[u,.int .i64 n]):=fun u n=>⟨[u,.int .i64 n],rfl,rfl,fun i e x he hx=>by
  match i,he,hx with
  | 0,he,hx=>cases he;cases hx;rfl
  | 1,he,hx=>cases he;cases hx;rfl⟩
 rcases ZQK T H hok ho (hh.ok (hM b kv vv m) (by simp)) with ⟨j,hj,hjv,hr⟩|⟨hne,hr⟩
 ·have hrun:(execOp a.eval ⟨dst,.mapEntry t x y,ty,ps,af,none⟩).run P w = .ok (.value (.tuple #[vv m[j].2,.int .i64 j])) (w.putObj b (ZAb (ZAT kv vv m))):=by
   unfold execOp;simp only[e1,e2,Sem.run_bind,hr,Result.andThen_ok,Sem.run_pure];rfl
  refine Zo rfl hrun ?_;exact(h1 j hj hjv).on (ZWl hh) (ZWN (hf.mono fun _ _ hd=>ZAq hd) (hT _ _))
 ·have hrun:(execOp a.eval ⟨dst,.mapEntry t x y,ty,ps,af,none⟩).run P w = .ok (.value (.tuple #[z,.int .i64 m.length])) (w.putObj b (ZAb (ZAT kv vv (m++[(v,zv)])))):=by
   unfold execOp;simp only[e1,e2,Sem.run_bind,hr zv hz,Result.andThen_ok,Sem.run_pure];rfl
  refine Zo rfl hrun ?_;exact(h2 hne).on (ZWl hh) (ZWN (hf.mono fun _ _ hd=>ZAq hd) (hT _ _))
theorem ZOY {x y c:Operand} {j:Nat} {u:V} (hx:OpD fr x (dX (.map (some b)))) (hy:OpD fr y (dI (j:Int))) (hc:OpD fr c d2) (hd2:IsV d2 (vv u)) (hj:j<m.length)
  (h:WL P ops Q rest (ZC fr dst (dX undef)) (hM b kv vv (m.set j (m[j].1,u))::hp)) :
  WL P ops Q (⟨dst,.entryStore t x y c,ty,ps,af,none⟩::rest) fr (hM b kv vv m::hp):=by
 refine WL.of fun P0 B w0 w a hh hf=>?_;have h1:a.eval x=_:=hx.ev hf;have h2:a.eval y = .int .i64 j:=hy.ev hf;have h3:=hd2.is _ _ _ (hc.ev hf);have hrun:(execOp a.eval ⟨dst,.entryStore t x y c,ty,ps,af,none⟩).run P w = .ok .skip (w.putObj b (ZAb (ZAT kv vv (m.set j (m[j].1,u))))):=by
  unfold execOp;simp only[h1,h2,h3,Sem.run_bind,ZHj hj u (hh.ok (hM b kv vv m) (by simp)),Result.andThen_ok,Sem.run_pure];rfl
 refine wpList_plain rfl fun K hK=>?_;unfold Oper.wp;rw[hrun];exact hK _ _ (h.on (ZWl hh) (ZWN (hf.mono fun _ _ hd=>ZAq hd) (d:=dX undef) rfl))
end
end
section
open Go.RowKit
def ZF4 {K α:Type} (kv:K->Value) (R:Rel α):Rel (List (K × α)):=fun P w v m =>
 ∃(b:Nat) (us:List Value),v = .map (some b)/\P b/\us.length=m.length/\w.heap[b]?=some (ZAb (ZAT kv id ((m.map (·.1)).zip us)))/\∀k (h:k<us.length) (h':k<m.length),R P w us[k] m[k].2
theorem ZH4 {w:World} {b:Nat} {o:Obj} (h:w.heap[b]?=some o):b<w.heap.size:=(Array.getElem?_eq_some_iff.1 h).1
instance {K α:Type} (kv:K->Value) (R:Rel α) [Good R]:Good (ZF4 kv R) where
 weak:=fun⟨b,us,h1,h2,h3,h4,h5⟩ q=>⟨b,us,h1,q b h2,h3,h4,fun k a c=>Good.weak (h5 k a c) q⟩
 move:=fun⟨b,us,h1,h2,h3,h4,h5⟩ q=>⟨b,us,h1,h2,h3,(q b h2 (ZH4 h4)).trans h4,fun k a c=>Good.move (h5 k a c) q⟩
 bound:=fun⟨b,us,h1,h2,h3,h4,h5⟩=>⟨b,us,h1,⟨h2,ZH4 h4⟩,h3,h4,fun k a c=>Good.bound (h5 k a c)⟩
section
variable {P:Program} {ops:Array Oper} {hp:List HObj} {fr:List Dat} {d:Dat}
variable {dst:Option Tmp} {ty:TypeId} {ps:String} {af:Array Edge} {g:Option (Nat × Bool)} {t k e:TypeId} {z:Value} {K α:Type} [DecidableEq K] {kv:K->Value} {ok:K->Prop} {R:Rel α} {m:List (K × α)}
theorem ZKO {m:List (K × α)} {us:List Value} (h:us.length=m.length) (x:K):(lookM m x=none/\lookM ((m.map (·.1)).zip us) x=none)\/∃(j:Nat) (h1:j<us.length) (h2:j<m.length),lookM m x=some m[j].2/\lookM ((m.map (·.1)).zip us) x=some us[j]:=by
 induction m generalizing us with
 | nil=>exact .inl ⟨rfl,by cases us <;> rfl⟩
 | cons p m ih =>
  cases us with
  | nil=>simp at h
  | cons u us =>
   by_cases hp:p.1=x
   ·refine .inr ⟨0,by simp,by simp,?_,?_⟩
    ·unfold lookM;rw[List.find?_cons_of_pos (by simpa using hp)];rfl
    ·unfold lookM;simp only[List.map_cons,List.zip_cons_cons];rw[List.find?_cons_of_pos (by simpa using hp)];rfl
   ·rcases ih (us:=us) (by simpa using h) with ⟨h1,h2⟩|⟨j,h1,h2,h3,h4⟩
    ·refine .inl ⟨?_,?_⟩
     ·unfold lookM at h1 ⊢;rw[List.find?_cons_of_neg (by simpa using hp)];exact h1
     ·unfold lookM at h2 ⊢;simp only[List.map_cons,List.zip_cons_cons];rw[List.find?_cons_of_neg (by simpa using hp)];exact h2
    ·refine .inr ⟨j+1,by simpa using h1,by simpa using h2,?_,?_⟩
     ·unfold lookM at h3 ⊢;rw[List.find?_cons_of_neg (by simpa using hp)];exact h3
     ·unfold lookM at h4 ⊢;simp only[List.map_cons,List.zip_cons_cons];rw[List.find?_cons_of_neg (by simpa using hp)];exact h4
theorem ZEp [Good R] {x y:Operand} {v:K} {a0:α} (T:MapT P t k e z) (H:KeyT P k kv ok) (hx:OpD fr x (dS (ZF4 kv R) m)) (hy:OpD fr y d) (hd:IsV d (kv v)) (ho:ok v) (hok:∀p∈m,ok p.1) (hn:(m.map (·.1)).Nodup) (hz:∀I w,R I w z a0) :
  SY P ops hp ⟨dst,.lookup t x y false,ty,ps,af,g⟩ fr (dS R ((Go.Proofs.YtofkoleingbbpaaGreatDoor.lookM m v).getD a0)):=ZWK fun {I w a} hon=>by
 obtain⟨b,us,h1,h2,h3,h4,h5⟩:=hx.get (by simp[Op.operands]) hon;have h6:=hd.is _ _ _ (hy.get (by simp[Op.operands]) hon);have hkeys:((m.map (·.1)).zip us).map (·.1)=m.map (·.1):=by rw[List.map_fst_zip];simp[h3]
 refine⟨((Go.Proofs.YtofkoleingbbpaaGreatDoor.lookM ((m.map (·.1)).zip us) v).map id).getD z,?_,?_⟩
 ·unfold execOp;simp only[h1,h6,Sem.run_bind,ZDF (vv:=id) T H (fun(p:K × Value) (hp:p∈(m.map (·.1)).zip us)=>by
   have:p.1∈m.map (·.1):=by rw[<- hkeys];exact List.mem_map_of_mem hp
   obtain⟨q,hq,he⟩:=List.mem_map.1 this;rw[<- he];exact hok q hq) (by rw[hkeys];exact hn) ho h4 false,Result.andThen_ok,Sem.run_pure]
  rfl
 ·rcases ZKO h3 v with ⟨e1,e2⟩|⟨j,j1,j2,e1,e2⟩
  ·rw[e1,e2];exact hz I w
  ·rw[e1,e2];exact h5 j j1 j2
end
theorem FinD.map {hp:List HObj} {b:Nat} {e:TypeId} {K α:Type} {kv:K->Value} {R:Rel α} {_gR:Good R} {M:List (K × Value × List α)} (hm:hM b kv (fun p:Value × List α=>p.1) M∈hp) (hr:∀p∈M,Zk p.2.1 e R p.2.2∈hp) :
  FinD hp (dX (.map (some b))) (dS (ZF4 kv (Arr R)) (M.map fun p=>(p.1,p.2.2))):=FinD.mk fun {P0 B w0 w u} hh hd=>by
 have hb:w.heap[b]?=some (ZAb _):=hh.ok _ hm;refine⟨b,M.map fun p=>p.2.1,hd,ZEH hh hm rfl,by simp,?_,fun k h1 h2=>?_⟩
 ·rw[hb];congr 2;unfold ZAT;simp only[List.map_map];rw[List.zip_map',List.map_map];rfl
 ·have hk:k<M.length:=by simpa using h1
  have:Arr R (fun b=>P0 b\/B≤b) w M[k].2.1 M[k].2.2:=(FinD.row (hr _ (List.getElem_mem hk))).out (v:=M[k].2.1) hh rfl;simpa using this
end
end Go.Proofs.YtofkoleingbbpaaGreatDoor
namespace Go.Proofs.YtofkoleingbbpaaGreatDoor
def ZWm:=@WL.makeMap
end Go.Proofs.YtofkoleingbbpaaGreatDoor
