/- Part 16: walks by contracts, and plain laws. -/
import Derived.DeepKeys4
import Derived.Test.YtofkoleingbbpaaGreatDoorXa15
set_option linter.unusedVariables false
set_option linter.unusedSimpArgs false
set_option linter.unusedSectionVars false
set_option maxRecDepth 100000
set_option maxHeartbeats 64000000
namespace Go.Proofs.YtofkoleingbbpaaGreatDoor
section
open Go.RowKit

def Zb:Nat->List (Value × Value)->List MapEntry
 | _,[]=>[]
 | i,p::m=>⟨p.1,p.2,i⟩::Zb (i+1) m
def ZAc (m:List (Value × Value)):Obj:=.map (Zb 0 m).toArray m.length
theorem ZAF:∀(m:List (Value × Value)) (i:Nat),(Zb i m).length=m.length
 | [],_=>rfl
 | _::m,i=>by simp[Zb,ZAF m]
theorem ZAt:∀(m:List (Value × Value)) (i j:Nat) (h:j<m.length),(Zb i m)[j]'(by rw[ZAF];exact h)=⟨m[j].1,m[j].2,i+j⟩
 | [],_,j,h=>by simp at h
 | p::m,i,0,_=>by simp[Zb]
 | p::m,i,j+1,h=>by
  simp only[Zb,List.getElem_cons_succ];rw[ZAt m (i+1) j (by simpa using h)];congr 1;omega
theorem ZDU:∀(m:List (Value × Value)) (i:Nat) (p:Value × Value),Zb i (m++[p])=Zb i m++[⟨p.1,p.2,i+m.length⟩]
 | [],i,p=>by simp[Zb]
 | q::m,i,p=>by
  simp only[List.cons_append,Zb,ZDU m (i+1) p,List.length_cons];congr 4;omega
theorem ZDr:∀(m:List (Value × Value)) (i j:Nat) (p:Value × Value),Zb i (m.set j p)=(Zb i m).set j ⟨p.1,p.2,i+j⟩
 | [],_,_,_=>rfl
 | q::m,i,0,p=>by simp[Zb]
 | q::m,i,j+1,p=>by
  simp only[List.set_cons_succ,Zb,ZDr m (i+1) j p];congr 3;omega
structure KeyT (P:Program) (k:TypeId) {K:Type} (kv:K->Value) (ok:K->Prop):Prop where
 law:Go.Maps.Keyed P k
 lit:∀x,ok x->∃l,keyOf P k (kv x)=some l
 inj:∀x y,ok x->ok y->kv x=kv y->x=y
structure MapT (P:Program) (t k e:TypeId) (z:Value):Prop where
 under:P.underlying t=some (.map k e)
 zero:∀w,(zeroValue e).run P w = .ok z w
section
variable {P:Program} {k t e:TypeId} {z:Value} {K V:Type} {kv:K->Value} {ok:K->Prop} {vv:V->Value}
def ZAV (kv:K->Value) (vv:V->Value) (m:List (K × V)):List (Value × Value):=m.map fun p=>(kv p.1,vv p.2)
def lookM [DecidableEq K] (m:List (K × V)) (x:K):Option V:=(m.find? fun p=>decide (p.1=x)).map (·.2)
theorem ZIf (H:KeyT P k kv ok) {m:List (K × V)} (hm:∀p∈m,ok p.1) {x:K} (hx:ok x) (w:World) :
  ((Instr.findKey k (kv x) (Zb 0 (ZAV kv vv m))).run P w = .ok none w/\∀p∈m,p.1≠x) \/
  ∃(j:Nat) (h:j<m.length),m[j].1=x/\(Instr.findKey k (kv x) (Zb 0 (ZAV kv vv m))).run P w = .ok (some (j,vv m[j].2)) w:=by
 obtain⟨lx,hlx⟩:=H.lit x hx;have hl:(ZAV kv vv m).length=m.length:=by simp[ZAV]
 have hat:∀(j:Nat) (h:j<m.length),(Zb 0 (ZAV kv vv m))[j]'(by rw[ZAF,hl];exact h)=⟨kv m[j].1,vv m[j].2,j⟩:=fun j h=>by
  rw[ZAt _ _ _ (by rw[hl];exact h)];simp[ZAV]
 have hk:∀en∈Zb 0 (ZAV kv vv m),∃l,keyOf P k en.key=some l:=fun en hen=>by
  obtain⟨j,hj,rfl⟩:=List.getElem_of_mem hen;have hj':j<m.length:=by rw[ZAF,hl] at hj;exact hj
  rw[hat j hj'];exact H.lit _ (hm _ (List.getElem_mem hj'))
 rcases H.law.find w hlx _ hk with ⟨h1,h2⟩|⟨j,en,h1,h2,h3⟩
 ·refine .inl ⟨h1,fun p hp hpx=>?_⟩;obtain⟨j,hj,rfl⟩:=List.getElem_of_mem hp;have hj':j<(Zb 0 (ZAV kv vv m)).length:=by rw[ZAF,hl];exact hj
  refine h2 _ (List.getElem_mem hj') ?_;rw[hat j hj,hpx]
 ·have hj:=(List.getElem?_eq_some_iff.1 h2).1;have hj':j<m.length:=by rw[ZAF,hl] at hj;exact hj
  have he:en=⟨kv m[j].1,vv m[j].2,j⟩:=by rw[<- hat j hj',(List.getElem?_eq_some_iff.1 h2).2]
  refine .inr ⟨j,hj',H.inj _ _ (hm _ (List.getElem_mem hj')) hx ?_,?_⟩
  ·rw[<- h3,he]
  ·rw[h1,he]
section
variable [DecidableEq K]
theorem ZCG {m:List (K × V)} {x:K} (h:∀p∈m,p.1≠x):lookM m x=none:=by
 unfold lookM;rw[List.find?_eq_none.2 (fun p hp=>by simpa using h p hp)];rfl
theorem ZDA {m:List (K × V)} (hn:(m.map (·.1)).Nodup) {j:Nat} (h:j<m.length):lookM m m[j].1=some m[j].2:=by
 induction m generalizing j with
 | nil=>simp at h
 | cons p m ih =>
  rw[List.map_cons,List.nodup_cons] at hn;cases j with
  | zero=>simp[lookM]
  | succ j =>
   have hj:j<m.length:=by simpa using h
   have hne:¬ p.1=m[j].1:=fun e=>hn.1 (e ▸ List.mem_map_of_mem (List.getElem_mem hj));have:=ih hn.2 hj;unfold lookM at this ⊢;simp only[List.getElem_cons_succ];rw[List.find?_cons_of_neg (by simpa using hne)];exact this
def ZCI (m:List (K × V)) (x:K) (v:V):List (K × V):=if(lookM m x).isSome then m.map fun p=>if p.1=x then(x,v) else p else m++[(x,v)]
theorem ZDa {m:List (K × V)} {x:K} {v:V} (h:∀p∈m,p.1≠x):ZCI m x v=m++[(x,v)]:=by
 unfold ZCI;rw[ZCG h];rfl
theorem ZFB {m:List (K × V)} (hn:(m.map (·.1)).Nodup) {v:V} {j:Nat} (h:j<m.length):ZCI m m[j].1 v=m.set j (m[j].1,v):=by
 unfold ZCI;rw[ZDA hn h];simp only[Option.isSome_some,if_true];apply List.ext_getElem (by simp);intro i h1 h2;have hi:i<m.length:=by simpa using h1
 rw[List.getElem_map,List.getElem_set];by_cases hij:j=i
 ·subst hij;simp
 ·rw[if_neg hij,if_neg];intro e;refine hij ?_;have h1:(m.map (·.1))[i]'(by simpa using hi)=(m.map (·.1))[j]'(by simpa using h):=by simpa using e
  exact((List.getElem_inj hn).1 h1).symm
theorem ZDF (T:MapT P t k e z) (H:KeyT P k kv ok) {m:List (K × V)} (hm:∀p∈m,ok p.1) (hn:(m.map (·.1)).Nodup) {x:K} (hx:ok x) {w:World} {b:Nat} (hb:w.heap[b]?=some (ZAc (ZAV kv vv m))) (c:Bool) :
  (Instr.lookup t (.map (some b)) (kv x) c).run P w = .ok (if c then .tuple #[((lookM m x).map vv).getD z,.bool (lookM m x).isSome] else((lookM m x).map vv).getD z) w:=by
 obtain⟨lx,hlx⟩:=H.lit x hx;have hg:=MapKept.run_getObj_map (P:=P) (show w.heap[b]?=some (.map _ _) from hb);rcases ZIf (vv:=vv) H hm hx w with ⟨h1,h2⟩|⟨j,hj,h1,h2⟩
 ·rw[ZCG h2];simp[Instr.lookup,run_underlying T.under,hg,H.law.check w _ hlx,h1,T.zero,Result.andThen]
 ·subst h1;rw[ZDA hn hj];simp[Instr.lookup,run_underlying T.under,hg,H.law.check w _ hlx,h2,Result.andThen]
theorem ZNl (T:MapT P t k e z) (H:KeyT P k kv ok) {m:List (K × V)} (hm:∀p∈m,ok p.1) (hn:(m.map (·.1)).Nodup) {x:K} (hx:ok x) (v:V) {w:World} {b:Nat} (hb:w.heap[b]?=some (ZAc (ZAV kv vv m))) :
  (Instr.mapUpdate t (.map (some b)) (kv x) (vv v)).run P w = .ok () { w with heap:=w.heap.setIfInBounds b (ZAc (ZAV kv vv (ZCI m x v))) }:=by
 obtain⟨lx,hlx⟩:=H.lit x hx;have hl:(ZAV kv vv m).length=m.length:=by simp[ZAV]
 have hg:=MapKept.run_getObj_map (P:=P) (show w.heap[b]?=some (.map _ _) from hb);rcases ZIf (vv:=vv) H hm hx w with ⟨h1,h2⟩|⟨j,hj,h1,h2⟩
 ·have e1:ZAc (ZAV kv vv (ZCI m x v)) = .map ((Zb 0 (ZAV kv vv m)).toArray.push ⟨kv x,vv v,(ZAV kv vv m).length⟩) ((ZAV kv vv m).length+1):=by
   rw[ZDa h2];unfold ZAc;rw[show ZAV kv vv (m++[(x,v)])=ZAV kv vv m++[(kv x,vv v)] by simp[ZAV],ZDU];simp
  rw[e1];simp[Instr.mapUpdate,run_underlying T.under,hg,H.law.check w _ hlx,h1,MapKept.run_setObj_map _ (show w.heap[b]?=some (.map _ _) from hb),Result.andThen]
 ·subst h1;have hj':j<(Zb 0 (ZAV kv vv m)).length:=by rw[ZAF,hl];exact hj
  have hat:(Zb 0 (ZAV kv vv m))[j]?=some ⟨kv m[j].1,vv m[j].2,0+j⟩:=by
   rw[List.getElem?_eq_getElem hj',ZAt _ _ _ (by rw[hl];exact hj)];simp[ZAV]
  have e1:ZAc (ZAV kv vv (ZCI m m[j].1 v)) = .map ((Zb 0 (ZAV kv vv m)).toArray.modify j fun en=>{ en with key:=kv m[j].1,val:=vv v }) (ZAV kv vv m).length:=by
   rw[ZFB hn hj];unfold ZAc;rw[show ZAV kv vv (m.set j (m[j].1,v))=(ZAV kv vv m).set j (kv m[j].1,vv v) by simp[ZAV,List.map_set],ZDr,List.length_set];congr 1;apply Array.ext';rw[Array.toList_modify,ChangeMaps.modify_eq_set _ _ _ _ (by simpa using hat)];simp
  rw[e1];simp[Instr.mapUpdate,run_underlying T.under,hg,H.law.check w _ hlx,h2,hat,H.law.stays w hlx,MapKept.run_setObj_map _ (show w.heap[b]?=some (.map _ _) from hb),Result.andThen]
omit [DecidableEq K] in
theorem ZH5 {m:List (K × V)} {j:Nat} (hj:j<m.length) (f:MapEntry->MapEntry) (x:K) (v:V) (hf:∀i,f ⟨kv m[j].1,vv m[j].2,i⟩=⟨kv x,vv v,i⟩) :
  ZAc (ZAV kv vv (m.set j (x,v))) = .map ((Zb 0 (ZAV kv vv m)).toArray.modify j f) (ZAV kv vv m).length:=by
 have hl:(ZAV kv vv m).length=m.length:=by simp[ZAV]
 have hj':j<(Zb 0 (ZAV kv vv m)).length:=by rw[ZAF,hl];exact hj
 have hat:(Zb 0 (ZAV kv vv m))[j]?=some ⟨kv m[j].1,vv m[j].2,0+j⟩:=by
  rw[List.getElem?_eq_getElem hj',ZAt _ _ _ (by rw[hl];exact hj)];simp[ZAV]
 unfold ZAc;rw[show ZAV kv vv (m.set j (x,v))=(ZAV kv vv m).set j (kv x,vv v) by simp[ZAV,List.map_set],ZDr,List.length_set];congr 1;apply Array.ext';rw[Array.toList_modify,ChangeMaps.modify_eq_set _ _ _ _ (by simpa using hat),hf];simp
omit [DecidableEq K] in
theorem ZQI (T:MapT P t k e z) (H:KeyT P k kv ok) {m:List (K × V)} (hm:∀p∈m,ok p.1) {x:K} (hx:ok x) {w:World} {b:Nat} (hb:w.heap[b]?=some (ZAc (ZAV kv vv m))) :
  (∃(j:Nat) (h:j<m.length),m[j].1=x/\(Instr.mapEntry t (.map (some b)) (kv x)).run P w = .ok (.tuple #[vv m[j].2,.int .i64 j]) { w with heap:=w.heap.setIfInBounds b (ZAc (ZAV kv vv m)) }) \/
  ((∀p∈m,p.1≠x)/\∀zv,vv zv=z->(Instr.mapEntry t (.map (some b)) (kv x)).run P w = .ok (.tuple #[z,.int .i64 m.length]) { w with heap:=w.heap.setIfInBounds b (ZAc (ZAV kv vv (m++[(x,zv)]))) }):=by
 obtain⟨lx,hlx⟩:=H.lit x hx;have hl:(ZAV kv vv m).length=m.length:=by simp[ZAV]
 have hg:=MapKept.run_getObj_map (P:=P) (show w.heap[b]?=some (.map _ _) from hb);rcases ZIf (vv:=vv) H hm hx w with ⟨h1,h2⟩|⟨j,hj,h1,h2⟩
 ·refine .inr ⟨h2,fun zv hz=>?_⟩;have e1:ZAc (ZAV kv vv (m++[(x,zv)])) = .map ((Zb 0 (ZAV kv vv m)).toArray.push ⟨kv x,z,(ZAV kv vv m).length⟩) ((ZAV kv vv m).length+1):=by
   unfold ZAc;rw[show ZAV kv vv (m++[(x,zv)])=ZAV kv vv m++[(kv x,z)] by simp[ZAV,hz],ZDU];simp
  rw[e1];simp[Instr.mapEntry,run_underlying T.under,hg,H.law.check w _ hlx,h1,T.zero,MapKept.run_setObj_map _ (show w.heap[b]?=some (.map _ _) from hb),Result.andThen,goInt,hl]
 ·refine .inl ⟨j,hj,h1,?_⟩;subst h1;have hj':j<(Zb 0 (ZAV kv vv m)).length:=by rw[ZAF,hl];exact hj
  have hat:(Zb 0 (ZAV kv vv m))[j]?=some ⟨kv m[j].1,vv m[j].2,0+j⟩:=by
   rw[List.getElem?_eq_getElem hj',ZAt _ _ _ (by rw[hl];exact hj)];simp[ZAV]
  have e1:=ZH5 (kv:=kv) (vv:=vv) hj (fun en=>{ en with key:=kv m[j].1 }) m[j].1 m[j].2 (fun _=>rfl);have e2:m.set j (m[j].1,m[j].2)=m:=List.set_getElem_self hj;rw[e2] at e1;rw[e1];simp[Instr.mapEntry,run_underlying T.under,hg,H.law.check w _ hlx,h2,hat,H.law.stays w hlx,MapKept.run_setObj_map _ (show w.heap[b]?=some (.map _ _) from hb),Result.andThen,goInt]
omit [DecidableEq K] in
theorem ZHj {m:List (K × V)} {j:Nat} (hj:j<m.length) (v:V) {w:World} {b:Nat} (hb:w.heap[b]?=some (ZAc (ZAV kv vv m))) :
  (Instr.entryStore t (.map (some b)) (.int .i64 j) (vv v)).run P w = .ok () { w with heap:=w.heap.setIfInBounds b (ZAc (ZAV kv vv (m.set j (m[j].1,v)))) }:=by
 have hl:(ZAV kv vv m).length=m.length:=by simp[ZAV]
 have hg:=MapKept.run_getObj_map (P:=P) (show w.heap[b]?=some (.map _ _) from hb);have hf:(Zb 0 (ZAV kv vv m)).findIdx? (fun en=>(en.born:Int) == (j:Int))=some j:=by
  have hlen:(Zb 0 (ZAV kv vv m)).length=m.length:=by rw[ZAF,hl]
  have hat:∀(i:Nat) (h:i<m.length),(Zb 0 (ZAV kv vv m))[i]'(by rw[hlen];exact h)=⟨kv m[i].1,vv m[i].2,i⟩:=fun i h=>by
   rw[ZAt _ _ _ (by rw[hl];exact h)];simp[ZAV]
  rw[List.findIdx?_eq_some_iff_getElem];refine⟨by rw[hlen];exact hj,?_,fun i hi=>?_⟩
  ·rw[hat j hj];exact beq_self_eq_true _
  ·rw[hat i (by omega)];show ¬ ((i:Int) == (j:Int))=true;rw[beq_iff_eq];omega
 rw[ZH5 hj (fun en=>{ en with val:=vv v }) m[j].1 v (fun _=>rfl)];simp[Instr.entryStore,hg,asInt,asIntOf,hf,MapKept.run_setObj_map _ (show w.heap[b]?=some (.map _ _) from hb),Result.andThen]
end
end
end
section
theorem ZDq (v:Vx):∀b:List Vx,(v∉b/\(b.dropWhile fun x=>decide (x≠v))=[])\/∃pre c,b=pre++v::c/\v∉pre/\(b.dropWhile fun x=>decide (x≠v))=v::c
 | []=>.inl ⟨by simp,rfl⟩
 | x::b=>by
  by_cases hx:x=v
  ·subst hx;exact .inr ⟨[],b,rfl,by simp,by rw[List.dropWhile_cons_of_neg (by simp)]⟩
  ·rw[List.dropWhile_cons_of_pos (by simpa using hx)];rcases ZDq v b with ⟨h1,h2⟩|⟨pre,c,h1,h2,h3⟩
   ·exact .inl ⟨by simp[h1,Ne.symm hx],h2⟩
   ·exact .inr ⟨x::pre,c,by rw[h1];rfl,by simp[h2,Ne.symm hx],h3⟩
theorem ZRe (v:Vx):ZAd v v=0:=ZBy.2 rfl
theorem ZCa:∀(a b:List Vx),Asc a->Asc b->ZBu a b=Z8 a b
 | [],b,_,_=>rfl
 | v::a,b,ha,hb=>by
  have ha':=ha;unfold Asc at ha';rw[List.pairwise_cons] at ha';unfold ZBu;rcases ZDq v b with ⟨h1,h2⟩|⟨pre,c,h1,h2,h3⟩
  ·rw[if_pos h2];unfold Z8;simp[h1]
  ·rw[h3,if_neg (by simp)];have hb':=hb;unfold Asc at hb';rw[h1,List.pairwise_append] at hb';rw[ZCa a (v::c) ha'.2 hb'.2.1];have hv:v∈b:=by rw[h1];simp
   unfold Z8;rw[List.all_cons,decide_eq_true hv,Bool.true_and,Bool.eq_iff_iff,List.all_eq_true,List.all_eq_true];constructor
   ·intro h x hx;have:=h x hx;simp only[decide_eq_true_eq] at this ⊢;rw[h1];exact List.mem_append.2 (.inr this)
   ·intro h x hx;have:=h x hx;simp only[decide_eq_true_eq] at this ⊢;rw[h1] at this;rcases List.mem_append.1 this with hp|hp
    ·have h5:=hb'.2.2 x hp v (by simp);have h6:=ZBC h5 (ha'.1 x hx);rw[ZRe] at h6;omega
    ·exact hp
def ZM6 (m:List (Vx × List Int)) (v:Vx) (i:Int):List (Vx × List Int):=ZCI m v ((lookM m v).getD []++[i])
def ZPX (m:List (Vx × List Int)) (s:List Vx) (i:Int):List (Vx × List Int):=s.foldl (fun m v=>ZM6 m v i) m
def ZJR (l:Cx):List (Vx × List Int):=(l.zipIdx).foldl (fun m p=>ZPX m p.1 (p.2:Int)) []
theorem ZKL {m:List (Vx × List Int)} {s:List Vx} {i:Int} {j:Nat} (h:j<s.length):ZPX m (s.take (j+1)) i=ZM6 (ZPX m (s.take j) i) s[j] i:=by
 unfold ZPX;rw[Zf h,List.foldl_append];rfl
theorem ZHC {l:Cx} {i:Nat} (h:i<l.length):ZJR (l.take (i+1))=ZPX (ZJR (l.take i)) l[i] (i:Int):=by
 unfold ZJR;rw[Zf h,List.zipIdx_append,List.foldl_append];simp[List.length_take,Nat.min_eq_left (Nat.le_of_lt h)]
def atM (m:List (Vx × List Int)) (v:Vx):List Int:=(lookM m v).getD []
theorem ZCH {K V:Type} [DecidableEq K] {m:List (K × V)} {x y:K} {v:V}:lookM (ZCI m x v) y=if y=x then some v else lookM m y:=by
 unfold ZCI;by_cases h:(lookM m x).isSome
 ·rw[if_pos h];induction m with
  | nil=>simp[lookM] at h
  | cons p m ih =>
   rw[List.map_cons];by_cases hp:p.1=x
   ·rw[if_pos hp];by_cases hy:y=x
    ·rw[if_pos hy];unfold lookM;rw[List.find?_cons_of_pos (by simp[hy])];rfl
    ·rw[if_neg hy];unfold lookM;rw[List.find?_cons_of_neg (by simpa using Ne.symm hy),List.find?_cons_of_neg (by rw[hp];simpa using Ne.symm hy)];clear ih h hp;induction m with
     | nil=>rfl
     | cons q m ih =>
      rw[List.map_cons];by_cases hq:q.1=x
      ·rw[if_pos hq,List.find?_cons_of_neg (by simpa using Ne.symm hy),List.find?_cons_of_neg (by rw[hq];simpa using Ne.symm hy)];exact ih
      ·rw[if_neg hq];by_cases hqy:q.1=y
       ·rw[List.find?_cons_of_pos (by simpa using hqy),List.find?_cons_of_pos (by simpa using hqy)]
       ·rw[List.find?_cons_of_neg (by simpa using hqy),List.find?_cons_of_neg (by simpa using hqy)];exact ih
   ·rw[if_neg hp];have h':(lookM m x).isSome:=by
     unfold lookM at h ⊢;rwa[List.find?_cons_of_neg (by simpa using hp)] at h
    have:=ih h';unfold lookM at this ⊢;by_cases hpy:p.1=y
    ·have hyx:y≠x:=fun e=>hp (hpy.trans e);rw[List.find?_cons_of_pos (by simpa using hpy),if_neg hyx,List.find?_cons_of_pos (by simpa using hpy)]
    ·rw[List.find?_cons_of_neg (by simpa using hpy),List.find?_cons_of_neg (by simpa using hpy)];exact this
 ·rw[if_neg h];have h0:lookM m x=none:=by simpa using h
  unfold lookM at h0 ⊢;rw[List.find?_append];by_cases hy:y=x
  ·subst hy;rw[if_pos rfl];have:m.find? (fun p=>decide (p.1=y))=none:=by simpa using h0
   rw[this];simp
  ·rw[if_neg hy,List.find?_cons_of_neg (by simpa using Ne.symm hy)];simp
theorem ZRZ {m:List (Vx × List Int)} {v u:Vx} {i:Int}:atM (ZM6 m v i) u=if u=v then atM m v++[i] else atM m u:=by
 unfold atM ZM6;rw[ZCH];split <;> rfl
theorem ZMa {i j:Int} {v:Vx}:∀ {s:List Vx} {m:List (Vx × List Int)},j∈atM (ZPX m s i) v↔j∈atM m v\/(j=i/\v∈s)
 | [],m=>by simp[ZPX]
 | u::s,m=>by
  show j∈atM (ZPX (ZM6 m u i) s i) v↔_;rw[ZMa (s:=s),ZRZ];by_cases hv:v=u
  ·subst hv;rw[if_pos rfl,List.mem_append,List.mem_singleton,List.mem_cons];constructor
   ·rintro((h|h)|h)
    ·exact .inl h
    ·exact .inr ⟨h,.inl rfl⟩
    ·exact .inr ⟨h.1,.inr h.2⟩
   ·rintro(h|h)
    ·exact .inl (.inl h)
    ·exact .inl (.inr h.1)
  ·rw[if_neg hv,List.mem_cons];simp[hv]
theorem ZE4 {l:Cx} {j:Int} {v:Vx}:∀ {n:Nat},n≤l.length->(j∈atM (ZJR (l.take n)) v↔∃(k:Nat) (h:k<l.length),k<n/\j=k/\v∈l[k])
 | 0,_=>by simp[ZJR,atM,lookM]
 | n+1,hn=>by
  rw[ZHC (by omega),ZMa,ZE4 (by omega)];constructor
  ·rintro(⟨k,h,h1,h2,h3⟩|⟨h1,h2⟩)
   ·exact⟨k,h,by omega,h2,h3⟩
   ·exact⟨n,by omega,by omega,h1,h2⟩
  ·rintro⟨k,h,h1,h2,h3⟩;by_cases hk:k=n
   ·subst hk;exact .inr ⟨h2,h3⟩
   ·exact .inl ⟨k,h,by omega,h2,h3⟩
theorem ZIu {l:Cx} {j:Int} {v:Vx}:j∈atM (ZJR l) v↔∃(k:Nat) (h:k<l.length),j=k/\v∈l[k]:=by
 have:=ZE4 (l:=l) (j:=j) (v:=v) (Nat.le_refl _);rw[List.take_length] at this;rw[this];exact⟨fun⟨k,h,_,h2,h3⟩=>⟨k,h,h2,h3⟩,fun⟨k,h,h2,h3⟩=>⟨k,h,h,h2,h3⟩⟩
theorem ZTa {l:Cx} {v:Vx}:∀i∈atM (ZJR l) v,0≤i/\i<l.length:=fun i hi=>by
 obtain⟨k,h,rfl,_⟩:=ZIu.1 hi;omega
theorem ZSm {l:Cx} (h:∀s∈l,ZAC s=0) {s:List Vx} (hs:ZAC s=0) {v:Vx} (hv:v∈s):(atM (ZJR l) v).any (ZRg l s)=ZEB l s:=by
 have asc:∀s∈l,Asc s:=fun s hs=>(Zi.1 (h s hs)).2.2.2;rw[Bool.eq_iff_iff,List.any_eq_true,ZFy];constructor
 ·rintro⟨i,hi,hc⟩;obtain⟨k,hk,rfl,_⟩:=ZIu.1 hi;have hm:=List.getElem_mem hk;unfold ZRg at hc;rw[Int.toNat_natCast,show l.getD k []=l[k] by simp[List.getD,hk],Bool.and_eq_true,decide_eq_true_eq,ZCa _ _ (Zi.1 hs).2.2.2 (asc _ hm)] at hc;exact⟨l[k],hm,hc.1,hc.2⟩
 ·rintro⟨x,hx,h1,h2⟩;obtain⟨k,hk,rfl⟩:=List.getElem_of_mem hx;refine⟨(k:Int),ZIu.2 ⟨k,hk,rfl,?_⟩,?_⟩
  ·unfold Z8 at h2;have:=List.all_eq_true.1 h2 v hv;simpa using this
  ·unfold ZRg;rw[Int.toNat_natCast,show l.getD k []=l[k] by simp[List.getD,hk],Bool.and_eq_true,decide_eq_true_eq,ZCa _ _ (Zi.1 hs).2.2.2 (asc _ hx)];exact⟨h1,h2⟩
end
section
theorem ZFf {a b:List Vx} {p:Bool} {x:Vx}:x∈ZEl a b p↔x∈a/\decide (x∈b)=p:=by unfold ZEl;rw[List.mem_filter];simp
theorem ZEK {a b:List Vx} {p:Bool}:(ZEl a b p).Sublist a:=List.filter_sublist
theorem ZFS {a b:List Vx} {p:Bool} (h:Asc a):Asc (ZEl a b p):=List.Pairwise.sublist ZEK h
theorem ZSQ {a s:List Vx} (ha:ZAC a=0) (hs:s.Sublist a) (hne:s≠[]):ZAC s=0:=by
 obtain⟨h1,h2,h3,h4⟩:=Zi.1 ha;refine Zi.2 ⟨fun h=>hne (List.eq_nil_of_length_eq_zero h),Nat.le_trans hs.length_le h2,fun v hv=>h3 v (hs.subset hv),List.Pairwise.sublist hs h4⟩
theorem ZVL {s:List Vx} (h:0<s.length):s≠[]:=fun e=>by subst e;simp at h
end
section
theorem ZAy:∀(k:Nat) (s x:List Vx),x∈ZX k s↔x.Sublist s/\x.length=k
 | 0,s,x=>by
  have:ZX 0 s=[[]]:=by unfold ZX;rfl
  rw[this,List.mem_singleton];constructor
  ·rintro rfl;exact⟨List.nil_sublist _,rfl⟩
  ·rintro⟨_,h⟩;exact List.eq_nil_of_length_eq_zero h
 | k+1,[],x=>by
  simp only[ZX,List.not_mem_nil,List.sublist_nil,false_iff];rintro⟨rfl,h⟩;simp at h
 | k+1,v::s,x=>by
  unfold ZX;rw[List.mem_append,List.mem_map,ZAy (k+1) s x];constructor
  ·rintro(⟨y,hy,rfl⟩|⟨h1,h2⟩)
   ·obtain⟨h1,h2⟩:=(ZAy k s y).1 hy;exact⟨h1.cons_cons v,by simp[h2]⟩
   ·exact⟨h1.cons v,h2⟩
  ·rintro⟨h1,h2⟩;rcases List.sublist_cons_iff.1 h1 with h|⟨y,rfl,h⟩
   ·exact .inr ⟨h,h2⟩
   ·exact .inl ⟨y,(ZAy k s y).2 ⟨h,by simpa using h2⟩,rfl⟩
theorem ZNq (s:List Vx):(ZX 0 s).length=1:=by unfold ZX;rfl
theorem ZNp (k:Nat) (v:Vx) (s:List Vx):(ZX (k+1) (v::s)).length=(ZX k s).length+(ZX (k+1) s).length:=by
 conv=>lhs;unfold ZX
 rw[List.length_append,List.length_map]
theorem ZO7 (v:Vx) (a b:List Vx):ZAb (v::a) (v::b)=ZAb a b:=by
 conv=>lhs;unfold ZAb
 rw[if_pos (ZBy.2 rfl)]
theorem ZD2:∀(k:Nat) (s:List Vx),Asc s->(ZX k s).Pairwise fun a b=>ZAb a b = -1
 | 0,s,_=>by unfold ZX;exact List.pairwise_singleton _ _
 | k+1,[],_=>by unfold ZX;exact List.Pairwise.nil
 | k+1,v::s,h=>by
  obtain⟨h1,h2⟩:=List.pairwise_cons.1 h;unfold ZX;rw[List.pairwise_append];refine⟨List.pairwise_map.2 (List.Pairwise.imp (fun {a b} hab=>by rw[ZO7];exact hab) (ZD2 k s h2)),ZD2 (k+1) s h2,fun a ha b hb=>?_⟩;obtain⟨a',_,rfl⟩:=List.mem_map.1 ha;obtain⟨hb1,hb2⟩:=(ZAy _ _ _).1 hb
  match b,hb1,hb2 with
  | w::b',hb1,_ =>
   have hw:w∈s:=hb1.subset (by simp);have hvw:=h1 w hw;have:=ZFZ v w;unfold ZAb;rw[if_neg (by omega)];omega
theorem ZA7 {a s:List Vx} {k:Nat} (hs:ZAC s=0) (hk:0<k) (h:a∈ZX k s):ZAC a=0/\a.Sublist s/\a.length=k:=by
 obtain⟨h1,h2⟩:=(ZAy _ _ _).1 h;exact⟨ZSQ hs h1 (ZVL (by omega)),h1,h2⟩
theorem ZEh {s:List Vx} (hs:ZAC s=0) {k:Nat} (h1:0<k) (h2:k≤s.length):ZDg s k=(ZX k s,0):=by
 unfold ZDg;rw[if_neg (by simp[hs]),if_neg (by omega)];simp
end
section
open Go.RowKit

theorem ZBH {n:Nat} {p:Nat->Bool}:(List.range (n+1)).any p=((List.range n).any p || p n):=by rw[List.range_succ,List.any_append];simp
theorem ZEe {n k:Nat} {p:Nat->Bool} (hk:k<n) (h:p k=true):(List.range n).any p=true:=List.any_eq_true.2 ⟨k,List.mem_range.2 hk,h⟩
theorem ZBz {l:Cx} {k:Nat} (h:k<l.length):l.getD k []=l[k]:=by simp[List.getD,h]
theorem ZMG:∀(l:Cx) (p:Option (List Vx)),ZEf p l=0->∀s∈l,ZAC s=0
 | [],_,_,s,hs=>by simp at hs
 | x::l,p,h,s,hs=>by
  unfold ZEf at h;by_cases h1:ZAC x≠0
  ·rw[if_pos h1] at h;exact absurd h h1
  ·rw[if_neg h1] at h;rcases List.mem_cons.1 hs with rfl|hs
   ·omega
   ·refine ZMG l (some x) ?_ s hs
    revert h
    split
    ·intro h;omega
    ·exact id
theorem ZGq {l:Cx} (h:ZBB l=0):l.length≤4096/\ZEf none l=0/\ZB3 l=false/\∀s∈l,ZAC s=0:=by
 unfold ZBB at h;by_cases h1:4096<l.length
 ·rw[if_pos h1] at h;omega
 rw[if_neg h1] at h;by_cases h2:ZEf none l≠0
 ·rw[if_pos h2] at h;exact absurd h h2
 rw[if_neg h2] at h;refine⟨by omega,by omega,?_,ZMG l none (by omega)⟩;cases h3:ZB3 l with
 | false=>rfl
 | true=>rw[h3,if_pos rfl] at h;omega
end
section
theorem ZIY:∀(l:Cx) (p:Option (List Vx)),ZEf p l=0->AscL l/\(∀u,p=some u->∀s∈l,ZAb u s<0)/\∀s∈l,ZAC s=0
 | [],p,_=>⟨by simp[AscL],by simp,by simp⟩
 | s::l,p,h=>by
  unfold ZEf at h;by_cases h1:ZAC s≠0
  ·rw[if_pos h1] at h;exact absurd h h1
  rw[if_neg h1] at h;have key:ZEf (some s) l=0/\∀u,p=some u->ZAb u s<0:=by
   cases p with
   | none=>exact⟨by simpa using h,fun u hu=>by cases hu⟩
   | some u =>
    by_cases h2:0≤ZAb u s
    ·simp only[h2,decide_true,if_true] at h;exact absurd h (by decide)
    ·simp only[h2,decide_false,Bool.false_eq_true,if_false] at h;exact⟨h,fun u' hu=>by cases hu;omega⟩
  obtain⟨h3,h4,h5⟩:=ZIY l (some s) key.1;have h6:=h4 s rfl;refine⟨List.pairwise_cons.2 ⟨h6,h3⟩,fun u hu x hx=>?_,fun x hx=>?_⟩
  ·have h7:=key.2 u hu;rcases List.mem_cons.1 hx with rfl|hx
   ·exact h7
   ·exact ZEw h7 (h6 x hx)
  ·rcases List.mem_cons.1 hx with rfl|hx
   ·omega
   ·exact h5 x hx
theorem ZO2:∀(l:Cx) (p:Option (List Vx)),AscL l->(∀u,p=some u->∀s∈l,ZAb u s<0)->(∀s∈l,ZAC s=0)->ZEf p l=0
 | [],p,_,_,_=>rfl
 | s::l,p,ha,hp,hc=>by
  unfold ZEf;rw[if_neg (by have:=hc s (by simp);omega),if_neg ?_]
  ·unfold AscL at ha;rw[List.pairwise_cons] at ha;exact ZO2 l (some s) ha.2 (fun u hu x hx=>by cases hu;exact ha.1 x hx) fun x hx=>hc x (by simp[hx])
  ·cases p with
   | none=>simp
   | some u =>
    have:=hp u rfl s (by simp);simp only[decide_eq_true_eq];omega
theorem ZPY {a b:List Vx} (ha:Asc a) (hb:Asc b) (h:Z8 a b=true) (hne:a≠b):a.length<b.length:=by
 have hsub:∀x∈a,x∈b:=fun x hx=>by
  have:=List.all_eq_true.1 h x hx;simpa using this
 have e:ZEl b a true=a:=asc_ext (ZFS hb) ha fun x=>by
  rw[ZFf];constructor
  ·intro ⟨_,h⟩;simpa using h
  ·intro hx;exact⟨hsub x hx,by simpa using hx⟩
 have hs:a.Sublist b:=by rw[<- e];exact ZEK
 rcases Nat.lt_or_ge a.length b.length with h1|h1
 ·exact h1
 ·exact absurd (hs.eq_of_length_le h1) hne
theorem ZHS {l:Cx} (ha:AscL l) (hc:∀s∈l,ZAC s=0):ZB3 l=l.any fun s=>ZEB l s:=by
 have asc:∀s∈l,Asc s:=fun s hs=>(Zi.1 (hc s hs)).2.2.2;rw[Bool.eq_iff_iff];unfold ZB3;simp only[List.any_eq_true,List.mem_range,Bool.and_eq_true,decide_eq_true_eq,ZFy];constructor
 ·rintro⟨i,hi,k,hk,hne,h⟩;rw[ZBz hi,ZBz hk] at h;have hmi:=List.getElem_mem hi;have hmk:=List.getElem_mem hk;refine⟨l[i],hmi,l[k],hmk,ZPY (asc _ hmi) (asc _ hmk) h fun e=>?_,h⟩;have hp:=List.pairwise_iff_getElem.1 ha.nodup;rcases Nat.lt_or_gt_of_ne hne with h1|h1
  ·exact hp i k hi hk h1 e
  ·exact hp k i hk hi h1 e.symm
 ·rintro⟨s,hs,x,hx,hlt,h⟩;obtain⟨i,hi,rfl⟩:=List.getElem_of_mem hs;obtain⟨k,hk,rfl⟩:=List.getElem_of_mem hx;exact⟨i,hi,k,hk,fun e=>by subst e;omega,by rw[ZBz hi,ZBz hk];exact h⟩
def GoodX (l:Cx):Prop:=l.length≤4096/\AscL l/\(∀s∈l,ZAC s=0)/\∀s∈l,ZEB l s=false
theorem ZAY {l:Cx}:ZBB l=0↔GoodX l:=by
 unfold GoodX;constructor
 ·intro h;obtain⟨h1,h2,h3,h4⟩:=ZGq h;obtain⟨h5,_,h6⟩:=ZIY l none h2;rw[ZHS h5 h6,List.any_eq_false] at h3;exact⟨h1,h5,h6,fun s hs=>by simpa using h3 s hs⟩
 ·rintro⟨h1,h2,h3,h4⟩;unfold ZBB;have h5:ZEf none l=0:=ZO2 l none h2 (fun u hu=>by cases hu) h3;have h6:ZB3 l=false:=by
   rw[ZHS h2 h3,List.any_eq_false];exact fun s hs=>by simp[h4 s hs]
  rw[if_neg (by omega),if_neg (by omega),if_neg (by simp[h6])]
theorem ZB8:∀ {l:Cx} {k:Nat} {x:List Vx},x∈ZAl l k↔∃f∈l,x∈ZX k f:=by
 have go:∀(l out:Cx) (k:Nat) (x:List Vx),x∈l.foldl (fun out f=>if f.length<k then out else(ZX k f).foldl ZCb out) out↔x∈out\/∃f∈l,x∈ZX k f:=by
  intro l;induction l with
  | nil=>intro out k x;simp
  | cons f l ih =>
   intro out k x;rw[List.foldl_cons,ih];have e:x∈(if f.length<k then out else(ZX k f).foldl ZCb out)↔x∈out\/x∈ZX k f:=by
    split
    ·rename_i h;rw[ZAk k f h];simp
    ·rw[ZG6];exact or_comm
   rw[e];constructor
   ·rintro((h|h)|⟨g,hg,h⟩)
    ·exact .inl h
    ·exact .inr ⟨f,by simp,h⟩
    ·exact .inr ⟨g,by simp[hg],h⟩
   ·rintro(h|⟨g,hg,h⟩)
    ·exact .inl (.inl h)
    ·rcases List.mem_cons.1 hg with rfl|hg
     ·exact .inl (.inr h)
     ·exact .inr ⟨g,hg,h⟩
 intro l k x;unfold ZAl;rw[go];simp
theorem ZCZ (l:Cx) (k:Nat):AscL (ZAl l k):=by
 have go:∀(l out:Cx),AscL out->AscL (l.foldl (fun out f=>if f.length<k then out else(ZX k f).foldl ZCb out) out):=by
  intro l;induction l with
  | nil=>intro out h;exact h
  | cons f l ih =>
   intro out h;rw[List.foldl_cons];refine ih _ ?_;split
   ·exact h
   ·exact ZG5 h
 exact go l [] (by simp[AscL])
def ZJT (out:Cx) (l:Cx):Cx:=l.foldl (fun out f=>if f∈out then out else out++[f]) out
def ZK8 (l:Cx) (k:Nat):Cx:=l.foldl (fun out f=>if f.length<k then out else ZJT out (ZX k f)) []
theorem ZKT {out l:Cx} {j:Nat} (h:j<l.length):ZJT out (l.take (j+1))=if l[j]∈ZJT out (l.take j) then ZJT out (l.take j) else ZJT out (l.take j)++[l[j]]:=by
 unfold ZJT;rw[Zf h,List.foldl_append];rfl
theorem ZIw:∀ {l out:Cx} {x:List Vx},x∈ZJT out l↔x∈out\/x∈l
 | [],out,x=>by simp[ZJT]
 | f::l,out,x=>by
  show x∈ZJT (if f∈out then out else out++[f]) l↔_;rw[ZIw (l:=l)];split
  ·rename_i h;rw[List.mem_cons];constructor
   ·rintro(h1|h1)
    ·exact .inl h1
    ·exact .inr (.inr h1)
   ·rintro(h1|h1|h1)
    ·exact .inl h1
    ·rw[h1];exact .inl h
    ·exact .inr h1
  ·rw[List.mem_append,List.mem_singleton,List.mem_cons,or_assoc]
theorem ZFg:∀ {l out:Cx},out.Nodup->(ZJT out l).Nodup
 | [],out,h=>h
 | f::l,out,h=>by
  show(ZJT (if f∈out then out else out++[f]) l).Nodup;refine ZFg (l:=l) ?_;split
  ·exact h
  ·rename_i hf;rw[List.nodup_append];exact⟨h,by simp,fun a ha b hb=>by rw[List.mem_singleton.1 hb];exact fun e=>hf (e ▸ ha)⟩
theorem ZRz (l out:Cx):out.length≤(ZJT out l).length/\(ZJT out l).length≤out.length+l.length:=by
 induction l generalizing out with
 | nil=>simp[ZJT]
 | cons f l ih =>
  have h:=ih (if f∈out then out else out++[f]);have e:ZJT out (f::l)=ZJT (if f∈out then out else out++[f]) l:=rfl;rw[e];split at h <;> (simp only[List.length_append,List.length_cons,List.length_nil] at h ⊢;rename_i hf;first|rw[if_pos hf]|rw[if_neg hf]) <;> omega
theorem ZG3 {l:Cx} {k i:Nat} (h:i<l.length):ZK8 (l.take (i+1)) k=if l[i].length<k then ZK8 (l.take i) k else ZJT (ZK8 (l.take i) k) (ZX k l[i]):=by
 unfold ZK8;rw[Zf h,List.foldl_append];rfl
theorem ZEC (l:Cx) (k:Nat):∀n,n≤l.length->(ZK8 (l.take n) k).Nodup/\∀x,x∈ZK8 (l.take n) k↔x∈ZAl (l.take n) k
 | 0,_=>by simp[ZK8,ZAl]
 | n+1,hn=>by
  obtain⟨h1,h2⟩:=ZEC l k n (by omega);have h3:∀x,x∈ZAl (l.take (n+1)) k↔x∈ZAl (l.take n) k\/x∈ZX k l[n]:=fun x=>by
   rw[ZB8,ZB8,Zf (by omega)];constructor
   ·rintro⟨f,hf,hx⟩;rcases List.mem_append.1 hf with hf|hf
    ·exact .inl ⟨f,hf,hx⟩
    ·rw[List.mem_singleton.1 hf] at hx;exact .inr hx
   ·rintro(⟨f,hf,hx⟩|hx)
    ·exact⟨f,List.mem_append.2 (.inl hf),hx⟩
    ·exact⟨l[n],List.mem_append.2 (.inr (List.mem_singleton.2 rfl)),hx⟩
  rw[ZG3 (by omega)];split
  ·rename_i hs;refine⟨h1,fun x=>?_⟩;rw[h3,h2,ZAk k _ hs];simp
  ·refine⟨ZFg h1,fun x=>?_⟩;rw[h3,ZIw,h2]
theorem ZRm (l:Cx) (k n:Nat) (hn:n≤l.length):(ZK8 (l.take n) k).length=(ZAl (l.take n) k).length:=by
 obtain⟨h1,h2⟩:=ZEC l k n hn;exact((List.perm_ext_iff_of_nodup h1 (ZCZ _ k).nodup).2 h2).length_eq
theorem ZPM {l:Cx} {k n:Nat} (hn:n≤l.length):(ZK8 (l.take n) k).length≤(ZAl l k).length:=by
 obtain⟨h1,h2⟩:=ZEC l k n hn;have hsub:∀x∈ZK8 (l.take n) k,x∈ZAl l k:=fun x hx=>by
  obtain⟨f,hf,hx⟩:=ZB8.1 ((h2 x).1 hx);exact ZB8.2 ⟨f,List.mem_of_mem_take hf,hx⟩
 have hp:(ZK8 (l.take n) k).Perm ((ZAl l k).filter fun x=>decide (x∈ZK8 (l.take n) k)) :=
  (List.perm_ext_iff_of_nodup h1 ((ZCZ l k).nodup.filter _)).2 fun x=>by
   rw[List.mem_filter,decide_eq_true_eq];exact⟨fun hx=>⟨hsub x hx,hx⟩,fun hx=>hx.2⟩
 rw[hp.length_eq];exact List.length_filter_le _ _
theorem ZNo {l ys:Cx} {k:Nat} (hp:ys.Perm (ZK8 l k)) (hs:SortL ys):ys=ZAl l k:=by
 have h:=ZEC l k l.length (Nat.le_refl _);rw[List.take_length] at h;refine ZMB ?_ (ZCZ l k) fun x=>by rw[hp.mem_iff];exact h.2 x
 have hn:ys.Nodup:=hp.nodup_iff.2 h.1;refine List.Pairwise.imp₂ (fun a b h1 h2=>?_) hs hn;rcases ZHw a b with h3|h3|h3
 ·exact h3
 ·exact absurd h3 h1
 ·exact absurd h3 h2
end
section
open Go.RowKit

section
variable {P:Program} {ops:Array Oper} {hp:List HObj} {fr:List Dat} {dst:Option Tmp} {ty:TypeId} {ps:String} {af:Array Edge} {g:Option (Nat × Bool)}
theorem ZTO {x y:Operand} {m n:Int} {ats:Array TypeId} (hx:OpD fr x (dI m)) (hy:OpD fr y (dI n)):SY P ops hp ⟨dst,.call { callee:=.builtin .min,args:=#[x,y],argTypes:=ats },ty,ps,af,g⟩ fr (dI (if n<m then n else m)) :=
 SY.val fun {I w a} ho=>⟨.int .i64 (if n<m then n else m),by
  have h1:a.eval x = .int .i64 m:=hx.get (by simp[Op.operands,Call.operands]) ho;have h2:a.eval y = .int .i64 n:=hy.get (by simp[Op.operands,Call.operands]) ho;unfold execOp;simp[resolve,invoke,builtin,h1,h2,Builtin.min_,Builtin.min2],rfl⟩
end
end
section
open Go.RowKit

def ZSO (k:Nat) (out:Cx) (f:List Vx):Cx:=if f.length<k then out else(ZX k f).foldl ZCb out
theorem ZOl (c:Cx) (k:Nat):ZAl c k=c.foldl (ZSO k) []:=rfl
theorem ZDm {l:Cx} {k i:Nat} (h:i<l.length):ZAl (l.take (i+1)) k=ZSO k (ZAl (l.take i) k) l[i]:=by
 rw[ZOl,ZOl,Zf h,List.foldl_append];rfl
theorem ZQV {k:Nat} {out:Cx} {f:List Vx} (h:f.length≤8):(ZSO k out f).length≤out.length+256:=by
 unfold ZSO;split
 ·omega
 ·have h1:=ZDW (ZX k f) out;have h2:=Nat.le_trans (ZAr k f) (Nat.pow_le_pow_right (by decide) h:2 ^ f.length≤2 ^ 8);omega
theorem ZD7:∀(l:Cx) (k i:Nat),(∀f∈l,f.length≤8)->i≤l.length->(ZAl (l.take i) k).length≤256*i
 | l,k,0,_,_=>by simp[ZAl]
 | l,k,i+1,h,hi=>by
  rw[ZDm (by omega)];have h1:=ZQV (k:=k) (out:=ZAl (l.take i) k) (h _ (List.getElem_mem (show i<l.length by omega)));have h2:=ZD7 l k i h (by omega);omega
def ZCR (l:Cx) (k:Int):Cx × Int:=if ZBB l≠0 then([],ZBB l) else if k<1\/8<k then([],2) else if 4096<(ZAl l k.toNat).length then([],17) else(ZAl l k.toNat,0)
theorem ZNs (k:Nat):((k:Int)+1).tmod 2=(((k+1) % 2:Nat):Int):=by rw[Int.tmod_eq_emod_of_nonneg (by omega)];omega
def ZHb (l:Cx):Nat->Int
 | 0=>0
 | k+1=>if(k+1) % 2=1 then ZHb l k+(ZAl l (k+1)).length else ZHb l k-(ZAl l (k+1)).length
def ZBf (l:Cx):Int × Int:=if ZBB l≠0 then(0,ZBB l) else if(List.range 8).any (fun k=>decide (4096<(ZAl l (k+1)).length))=true then(0,17) else(ZHb l 8,0)
theorem ZId (l:Cx) (h:∀k,(ZAl l k).length≤2000000):∀k,ZHb l k≤2000000*k /\ -(2000000*(k:Int))≤ZHb l k
 | 0=>by simp[ZHb]
 | k+1=>by
  have h1:=ZId l h k;have h2:=h (k+1);unfold ZHb;split <;> omega
end
section
theorem GoodX.asc {l:Cx} (h:GoodX l):∀s∈l,Asc s:=fun s hs=>(Zi.1 (h.2.2.1 s hs)).2.2.2
theorem ZOo {l:Cx} {s:List Vx} (h:∀f∈l,Asc f) (hs:Asc s):l.filter (ZBu s)=ZIV l s:=List.filter_congr fun f hf=>ZCa s f hs (h f hf)
theorem ZNT {l:Cx} {s:List Vx}:ZBm l s=decide (0<(ZIV l s).length):=by
 unfold ZBm ZIV;rw[Bool.eq_iff_iff,List.any_eq_true,decide_eq_true_eq,List.length_pos_iff_exists_mem];constructor
 ·rintro⟨x,hx,h⟩;exact⟨x,List.mem_filter.2 ⟨hx,h⟩⟩
 ·rintro⟨x,h⟩;exact⟨x,(List.mem_filter.1 h).1,(List.mem_filter.1 h).2⟩
end
end Go.Proofs.YtofkoleingbbpaaGreatDoor
