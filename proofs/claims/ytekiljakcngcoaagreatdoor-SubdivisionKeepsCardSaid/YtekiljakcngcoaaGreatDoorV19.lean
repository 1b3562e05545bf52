/- Part 19: walks by contracts, and plain laws. -/
import Derived.DeepKeys4
import Derived.Test.YtekiljakcngcoaaGreatDoorV18
set_option linter.unusedVariables false
set_option linter.unusedSimpArgs false
set_option linter.unusedSectionVars false
set_option maxRecDepth 100000
set_option maxHeartbeats 4000000
namespace Go.Proofs.YtekiljakcngcoaaGreatDoor
section
open Go.RowKit

def Zd:Nat->List (Value × Value)->List MapEntry
 | _,[]=>[]
 | i,p::m=>⟨p.1,p.2,i⟩::Zd (i+1) m
def ZAH (m:List (Value × Value)):Obj:=.map (Zd 0 m).toArray m.length
theorem Z7:∀ (m:List (Value × Value)) (i:Nat),(Zd i m).length=m.length
 | [],_=>rfl
 | _::m,i=>by simp [Zd,Z7 m]
theorem ZAq:∀ (m:List (Value × Value)) (i j:Nat) (h:j<m.length),(Zd i m)[j]'(by rw [Z7];exact h)=⟨m[j].1,m[j].2,i+j⟩
 | [],_,j,h=>by simp at h
 | p::m,i,0,_=>by simp [Zd]
 | p::m,i,j+1,h=>by
  simp only [Zd,List.getElem_cons_succ]
  rw [ZAq m (i+1) j (by simpa using h)]
  congr 1;omega
theorem ZCt:∀ (m:List (Value × Value)) (i:Nat) (p:Value × Value),Zd i (m++[p])=Zd i m++[⟨p.1,p.2,i+m.length⟩]
 | [],i,p=>by simp [Zd]
 | q::m,i,p=>by
  simp only [List.cons_append,Zd,ZCt m (i+1) p,List.length_cons]
  congr 4;omega
theorem ZDE:∀ (m:List (Value × Value)) (i j:Nat) (p:Value × Value),Zd i (m.set j p)=(Zd i m).set j ⟨p.1,p.2,i+j⟩
 | [],_,_,_=>rfl
 | q::m,i,0,p=>by simp [Zd]
 | q::m,i,j+1,p=>by
  simp only [List.set_cons_succ,Zd,ZDE m (i+1) j p]
  congr 3;omega
structure KeyT (P:Program) (k:TypeId) {K:Type} (kv:K->Value) (ok:K->Prop):Prop where
 law:Go.Maps.Keyed P k
 lit:∀ x,ok x->∃ l,keyOf P k (kv x)=some l
 inj:∀ x y,ok x->ok y->kv x=kv y->x=y
structure MapT (P:Program) (t k e:TypeId) (z:Value):Prop where
 under:P.underlying t=some (.map k e)
 zero:∀ w,(zeroValue e).run P w = .ok z w
section
variable {P:Program} {k t e:TypeId} {z:Value} {K V:Type} {kv:K->Value} {ok:K->Prop} {vv:V->Value}
def ZAO (kv:K->Value) (vv:V->Value) (m:List (K × V)):List (Value × Value):=m.map fun p=>(kv p.1,vv p.2)
def lookM [DecidableEq K] (m:List (K × V)) (x:K):Option V:=(m.find? fun p=>decide (p.1=x)).map (·.2)
theorem ZH3 (H:KeyT P k kv ok) {m:List (K × V)} (hm:∀ p∈m,ok p.1) {x:K} (hx:ok x) (w:World) :
  ((Instr.findKey k (kv x) (Zd 0 (ZAO kv vv m))).run P w = .ok none w/\∀ p∈m,p.1≠x) \/
  ∃ (j:Nat) (h:j<m.length),m[j].1=x/\(Instr.findKey k (kv x) (Zd 0 (ZAO kv vv m))).run P w = .ok (some (j,vv m[j].2)) w:=by
 obtain ⟨lx,hlx⟩:=H.lit x hx
 have hl:(ZAO kv vv m).length=m.length:=by simp [ZAO]
 have hat:∀ (j:Nat) (h:j<m.length),(Zd 0 (ZAO kv vv m))[j]'(by rw [Z7,hl];exact h)=⟨kv m[j].1,vv m[j].2,j⟩:=fun j h=>by
  rw [ZAq _ _ _ (by rw [hl];exact h)]
  simp [ZAO]
 have hk:∀ en∈Zd 0 (ZAO kv vv m),∃ l,keyOf P k en.key=some l:=fun en hen=>by
  obtain ⟨j,hj,rfl⟩:=List.getElem_of_mem hen
  have hj':j<m.length:=by rw [Z7,hl] at hj;exact hj
  rw [hat j hj']
  exact H.lit _ (hm _ (List.getElem_mem hj'))
 rcases H.law.find w hlx _ hk with ⟨h1,h2⟩|⟨j,en,h1,h2,h3⟩
 ·refine .inl ⟨h1,fun p hp hpx=>?_⟩
  obtain ⟨j,hj,rfl⟩:=List.getElem_of_mem hp
  have hj':j<(Zd 0 (ZAO kv vv m)).length:=by rw [Z7,hl];exact hj
  refine h2 _ (List.getElem_mem hj') ?_
  rw [hat j hj,hpx]
 ·have hj:=(List.getElem?_eq_some_iff.1 h2).1
  have hj':j<m.length:=by rw [Z7,hl] at hj;exact hj
  have he:en=⟨kv m[j].1,vv m[j].2,j⟩:=by rw [<- hat j hj',(List.getElem?_eq_some_iff.1 h2).2]
  refine .inr ⟨j,hj',H.inj _ _ (hm _ (List.getElem_mem hj')) hx ?_,?_⟩
  ·rw [<- h3,he]
  ·rw [h1,he]
section
variable [DecidableEq K]
theorem ZFC {m:List (K × V)} {x:K} (h:∀ p∈m,p.1≠x):lookM m x=none:=by
 unfold lookM
 rw [List.find?_eq_none.2 (fun p hp=>by simpa using h p hp)];rfl
theorem lookM_some {m:List (K × V)} (hn:(m.map (·.1)).Nodup) {j:Nat} (h:j<m.length):lookM m m[j].1=some m[j].2:=by
 induction m generalizing j with
 | nil=>simp at h
 | cons p m ih =>
  rw [List.map_cons,List.nodup_cons] at hn
  cases j with
  | zero=>simp [lookM]
  | succ j =>
   have hj:j<m.length:=by simpa using h
   have hne:¬ p.1=m[j].1:=fun e=>hn.1 (e ▸ List.mem_map_of_mem (List.getElem_mem hj))
   have:=ih hn.2 hj
   unfold lookM at this ⊢
   simp only [List.getElem_cons_succ]
   rw [List.find?_cons_of_neg (by simpa using hne)]
   exact this
def ZBr (m:List (K × V)) (x:K) (v:V):List (K × V):=if (lookM m x).isSome then m.map fun p=>if p.1=x then (x,v) else p else m++[(x,v)]
theorem ZBx {m:List (K × V)} {x:K} {v:V} (h:∀ p∈m,p.1≠x):ZBr m x v=m++[(x,v)]:=by
 unfold ZBr;rw [ZFC h];rfl
theorem ZML {m:List (K × V)} (hn:(m.map (·.1)).Nodup) {v:V} {j:Nat} (h:j<m.length):ZBr m m[j].1 v=m.set j (m[j].1,v):=by
 unfold ZBr
 rw [lookM_some hn h]
 simp only [Option.isSome_some,if_true]
 apply List.ext_getElem (by simp)
 intro i h1 h2
 have hi:i<m.length:=by simpa using h1
 rw [List.getElem_map,List.getElem_set]
 by_cases hij:j=i
 ·subst hij;simp
 ·rw [if_neg hij,if_neg]
  intro e
  refine hij ?_
  have h1:(m.map (·.1))[i]'(by simpa using hi)=(m.map (·.1))[j]'(by simpa using h):=by simpa using e
  exact ((List.getElem_inj hn).1 h1).symm
theorem ZCg (T:MapT P t k e z) (H:KeyT P k kv ok) {m:List (K × V)} (hm:∀ p∈m,ok p.1) (hn:(m.map (·.1)).Nodup) {x:K} (hx:ok x) {w:World} {b:Nat} (hb:w.heap[b]?=some (ZAH (ZAO kv vv m))) (c:Bool) :
  (Instr.lookup t (.map (some b)) (kv x) c).run P w = .ok (if c then .tuple #[((lookM m x).map vv).getD z,.bool (lookM m x).isSome] else ((lookM m x).map vv).getD z) w:=by
 obtain ⟨lx,hlx⟩:=H.lit x hx
 have hg:=MapKept.run_getObj_map (P:=P) (show w.heap[b]?=some (.map _ _) from hb)
 rcases ZH3 (vv:=vv) H hm hx w with ⟨h1,h2⟩|⟨j,hj,h1,h2⟩
 ·rw [ZFC h2]
  simp [Instr.lookup,run_underlying T.under,hg,H.law.check w _ hlx,h1,T.zero,Result.andThen]
 ·subst h1
  rw [lookM_some hn hj]
  simp [Instr.lookup,run_underlying T.under,hg,H.law.check w _ hlx,h2,Result.andThen]
theorem ZHR (T:MapT P t k e z) (H:KeyT P k kv ok) {m:List (K × V)} (hm:∀ p∈m,ok p.1) (hn:(m.map (·.1)).Nodup) {x:K} (hx:ok x) (v:V) {w:World} {b:Nat} (hb:w.heap[b]?=some (ZAH (ZAO kv vv m))) :
  (Instr.mapUpdate t (.map (some b)) (kv x) (vv v)).run P w = .ok () { w with heap:=w.heap.setIfInBounds b (ZAH (ZAO kv vv (ZBr m x v))) }:=by
 obtain ⟨lx,hlx⟩:=H.lit x hx
 have hl:(ZAO kv vv m).length=m.length:=by simp [ZAO]
 have hg:=MapKept.run_getObj_map (P:=P) (show w.heap[b]?=some (.map _ _) from hb)
 rcases ZH3 (vv:=vv) H hm hx w with ⟨h1,h2⟩|⟨j,hj,h1,h2⟩
 ·have e1:ZAH (ZAO kv vv (ZBr m x v)) = .map ((Zd 0 (ZAO kv vv m)).toArray.push ⟨kv x,vv v,(ZAO kv vv m).length⟩) ((ZAO kv vv m).length+1):=by
   rw [ZBx h2]
   unfold ZAH
   rw [show ZAO kv vv (m++[(x,v)])=ZAO kv vv m++[(kv x,vv v)] by simp [ZAO],ZCt]
   simp
  rw [e1]
  simp [Instr.mapUpdate,run_underlying T.under,hg,H.law.check w _ hlx,h1,MapKept.run_setObj_map _ (show w.heap[b]?=some (.map _ _) from hb),Result.andThen]
 ·subst h1
  have hj':j<(Zd 0 (ZAO kv vv m)).length:=by rw [Z7,hl];exact hj
  have hat:(Zd 0 (ZAO kv vv m))[j]?=some ⟨kv m[j].1,vv m[j].2,0+j⟩:=by
   rw [List.getElem?_eq_getElem hj',ZAq _ _ _ (by rw [hl];exact hj)]
   simp [ZAO]
  have e1:ZAH (ZAO kv vv (ZBr m m[j].1 v)) = .map ((Zd 0 (ZAO kv vv m)).toArray.modify j fun en=>{ en with key:=kv m[j].1,val:=vv v }) (ZAO kv vv m).length:=by
   rw [ZML hn hj]
   unfold ZAH
   rw [show ZAO kv vv (m.set j (m[j].1,v))=(ZAO kv vv m).set j (kv m[j].1,vv v) by simp [ZAO,List.map_set],ZDE,List.length_set]
   congr 1
   apply Array.ext'
   rw [Array.toList_modify,ChangeMaps.modify_eq_set _ _ _ _ (by simpa using hat)]
   simp
  rw [e1]
  simp [Instr.mapUpdate,run_underlying T.under,hg,H.law.check w _ hlx,h2,hat,H.law.stays w hlx,MapKept.run_setObj_map _ (show w.heap[b]?=some (.map _ _) from hb),Result.andThen]
omit [DecidableEq K] in
theorem ZHL {m:List (K × V)} {j:Nat} (hj:j<m.length) (f:MapEntry->MapEntry) (x:K) (v:V) (hf:∀ i,f ⟨kv m[j].1,vv m[j].2,i⟩=⟨kv x,vv v,i⟩) :
  ZAH (ZAO kv vv (m.set j (x,v))) = .map ((Zd 0 (ZAO kv vv m)).toArray.modify j f) (ZAO kv vv m).length:=by
 have hl:(ZAO kv vv m).length=m.length:=by simp [ZAO]
 have hj':j<(Zd 0 (ZAO kv vv m)).length:=by rw [Z7,hl];exact hj
 have hat:(Zd 0 (ZAO kv vv m))[j]?=some ⟨kv m[j].1,vv m[j].2,0+j⟩:=by
  rw [List.getElem?_eq_getElem hj',ZAq _ _ _ (by rw [hl];exact hj)]
  simp [ZAO]
 unfold ZAH
 rw [show ZAO kv vv (m.set j (x,v))=(ZAO kv vv m).set j (kv x,vv v) by simp [ZAO,List.map_set],ZDE,List.length_set]
 congr 1
 apply Array.ext'
 rw [Array.toList_modify,ChangeMaps.modify_eq_set _ _ _ _ (by simpa using hat),hf]
 simp
omit [DecidableEq K] in
theorem ZPb (T:MapT P t k e z) (H:KeyT P k kv ok) {m:List (K × V)} (hm:∀ p∈m,ok p.1) {x:K} (hx:ok x) {w:World} {b:Nat} (hb:w.heap[b]?=some (ZAH (ZAO kv vv m))) :
  (∃ (j:Nat) (h:j<m.length),m[j].1=x/\(Instr.mapEntry t (.map (some b)) (kv x)).run P w = .ok (.tuple #[vv m[j].2,.int .i64 j]) { w with heap:=w.heap.setIfInBounds b (ZAH (ZAO kv vv m)) }) \/
  ((∀ p∈m,p.1≠x)/\∀ zv,vv zv=z->(Instr.mapEntry t (.map (some b)) (kv x)).run P w = .ok (.tuple #[z,.int .i64 m.length]) { w with heap:=w.heap.setIfInBounds b (ZAH (ZAO kv vv (m++[(x,zv)]))) }):=by
 obtain ⟨lx,hlx⟩:=H.lit x hx
 have hl:(ZAO kv vv m).length=m.length:=by simp [ZAO]
 have hg:=MapKept.run_getObj_map (P:=P) (show w.heap[b]?=some (.map _ _) from hb)
 rcases ZH3 (vv:=vv) H hm hx w with ⟨h1,h2⟩|⟨j,hj,h1,h2⟩
 ·refine .inr ⟨h2,fun zv hz=>?_⟩
  have e1:ZAH (ZAO kv vv (m++[(x,zv)])) = .map ((Zd 0 (ZAO kv vv m)).toArray.push ⟨kv x,z,(ZAO kv vv m).length⟩) ((ZAO kv vv m).length+1):=by
   unfold ZAH
   rw [show ZAO kv vv (m++[(x,zv)])=ZAO kv vv m++[(kv x,z)] by simp [ZAO,hz],ZCt]
   simp
  rw [e1]
  simp [Instr.mapEntry,run_underlying T.under,hg,H.law.check w _ hlx,h1,T.zero,MapKept.run_setObj_map _ (show w.heap[b]?=some (.map _ _) from hb),Result.andThen,goInt,hl]
 ·refine .inl ⟨j,hj,h1,?_⟩
  subst h1
  have hj':j<(Zd 0 (ZAO kv vv m)).length:=by rw [Z7,hl];exact hj
  have hat:(Zd 0 (ZAO kv vv m))[j]?=some ⟨kv m[j].1,vv m[j].2,0+j⟩:=by
   rw [List.getElem?_eq_getElem hj',ZAq _ _ _ (by rw [hl];exact hj)]
   simp [ZAO]
  have e1:=ZHL (kv:=kv) (vv:=vv) hj (fun en=>{ en with key:=kv m[j].1 }) m[j].1 m[j].2 (fun _=>rfl)
  have e2:m.set j (m[j].1,m[j].2)=m:=List.set_getElem_self hj
  rw [e2] at e1
  rw [e1]
  simp [Instr.mapEntry,run_underlying T.under,hg,H.law.check w _ hlx,h2,hat,H.law.stays w hlx,MapKept.run_setObj_map _ (show w.heap[b]?=some (.map _ _) from hb),Result.andThen,goInt]
omit [DecidableEq K] in
theorem ZGz {m:List (K × V)} {j:Nat} (hj:j<m.length) (v:V) {w:World} {b:Nat} (hb:w.heap[b]?=some (ZAH (ZAO kv vv m))) :
  (Instr.entryStore t (.map (some b)) (.int .i64 j) (vv v)).run P w = .ok () { w with heap:=w.heap.setIfInBounds b (ZAH (ZAO kv vv (m.set j (m[j].1,v)))) }:=by
 have hl:(ZAO kv vv m).length=m.length:=by simp [ZAO]
 have hg:=MapKept.run_getObj_map (P:=P) (show w.heap[b]?=some (.map _ _) from hb)
 have hf:(Zd 0 (ZAO kv vv m)).findIdx? (fun en=>(en.born:Int) == (j:Int))=some j:=by
  have hlen:(Zd 0 (ZAO kv vv m)).length=m.length:=by rw [Z7,hl]
  have hat:∀ (i:Nat) (h:i<m.length),(Zd 0 (ZAO kv vv m))[i]'(by rw [hlen];exact h)=⟨kv m[i].1,vv m[i].2,i⟩:=fun i h=>by
   rw [ZAq _ _ _ (by rw [hl];exact h)]
   simp [ZAO]
  rw [List.findIdx?_eq_some_iff_getElem]
  refine ⟨by rw [hlen];exact hj,?_,fun i hi=>?_⟩
  ·rw [hat j hj];exact beq_self_eq_true _
  ·rw [hat i (by omega)];show ¬ ((i:Int) == (j:Int))=true;rw [beq_iff_eq];omega
 rw [ZHL hj (fun en=>{ en with val:=vv v }) m[j].1 v (fun _=>rfl)]
 simp [Instr.entryStore,hg,asInt,asIntOf,hf,MapKept.run_setObj_map _ (show w.heap[b]?=some (.map _ _) from hb),Result.andThen]
end
end
end
section
open Go.RowKit

abbrev hM {K V:Type} (b:Nat) (kv:K->Value) (vv:V->Value) (m:List (K × V)):HObj:=ZAt b (ZAH (ZAO kv vv m))
structure IsV (d:Dat) (v:Value):Prop where
 is:∀ (I:Nat->Prop) (w:World) (u:Value),d.rd I w u->u=v
theorem isX {v:Value}:IsV (dX v) v:=⟨fun _ _ _ h=>h⟩
theorem isI {n:Int}:IsV (dI n) (.int .i64 n):=⟨fun _ _ _ h=>h⟩
section
variable {P:Program} {ops:Array Oper} {hp:List HObj} {o:Oper} {fr:List Dat} {d d2:Dat} {Q:ZAW} {rest:List Oper}
variable {dst:Option Tmp} {ty:TypeId} {ps:String} {af:Array Edge} {g:Option (Nat × Bool)} {t k e:TypeId} {z:Value} {K V:Type} {kv:K->Value} {ok:K->Prop} {vv:V->Value} {b:Nat} {m:List (K × V)}
theorem WL.makeMap (kv:K->Value) (vv:V->Value) (h:∀ b,WL P ops Q rest (ZA fr dst (dX (.map (some b)))) (hM b kv vv []::hp)) :
  WL P ops Q (⟨dst,.makeMap t none,ty,ps,af,none⟩::rest) fr hp:=by
 refine WL.of fun P0 B w0 w a hh hf=>?_
 have hrun:(execOp a.eval ⟨dst,.makeMap t none,ty,ps,af,none⟩).run P w = .ok (.value (.map (some w.heap.size))) (w.alloc (ZAH [])):=by
  unfold execOp
  simp [Instr.makeMap,ZAH,Zd]
 refine Zu rfl hrun ?_
 have hx:=Ext.of_alloc w (ZAH [])
 have hb:∀ k,(hM w.heap.size kv vv []).blk=some k->w.heap.size≤k/\k<(w.alloc (ZAH [])).heap.size:=fun k hk=>by
  cases hk
  exact ⟨Nat.le_refl _,by simp⟩
 refine (h w.heap.size).on (hh.push hx hb (Z0 w _)) ?_
 exact Fr.put (hf.mono fun d _ hd=>Z6 hx (fun k hk=>(hb k hk).1) hd) rfl
section
variable [DecidableEq K]
theorem SY.lookM {x y:Operand} {v:K} (T:MapT P t k e z) (H:KeyT P k kv ok) (hx:OpD fr x (dX (.map (some b)))) (hm:hM b kv vv m∈hp) (hy:OpD fr y d) (hd:IsV d (kv v)) (ho:ok v) (hok:∀ p∈m,ok p.1) (hn:(m.map (·.1)).Nodup) :
  SY P ops hp ⟨dst,.lookup t x y false,ty,ps,af,g⟩ fr (dX (((Go.Proofs.YtekiljakcngcoaaGreatDoor.lookM m v).map vv).getD z)):=ZAf fun {P0 B w0 w a} hh hon=>by
 have h1:a.eval x=_:=hx.get (by simp [Op.operands]) hon
 have h2:=hd.is _ _ _ (hy.get (by simp [Op.operands]) hon)
 refine ⟨_,w,?_,Ext.refl _,rfl⟩
 unfold execOp
 simp only [h1,h2,Sem.run_bind,ZCg T H hok hn ho (hh.ok _ hm) false,Result.andThen_ok,Sem.run_pure]
 rfl
theorem ZEB {x y:Operand} {v:K} (T:MapT P t k e z) (H:KeyT P k kv ok) (hx:OpD fr x (dX (.map (some b)))) (hm:hM b kv vv m∈hp) (hy:OpD fr y d) (hd:IsV d (kv v)) (ho:ok v) (hok:∀ p∈m,ok p.1) (hn:(m.map (·.1)).Nodup) :
  SY P ops hp ⟨dst,.lookup t x y true,ty,ps,af,g⟩ fr (dT [dX (((Go.Proofs.YtekiljakcngcoaaGreatDoor.lookM m v).map vv).getD z),dB (Go.Proofs.YtekiljakcngcoaaGreatDoor.lookM m v).isSome]):=ZAf fun {P0 B w0 w a} hh hon=>by
 have h1:a.eval x=_:=hx.get (by simp [Op.operands]) hon
 have h2:=hd.is _ _ _ (hy.get (by simp [Op.operands]) hon)
 refine ⟨_,w,?_,Ext.refl _,[((Go.Proofs.YtekiljakcngcoaaGreatDoor.lookM m v).map vv).getD z,.bool (Go.Proofs.YtekiljakcngcoaaGreatDoor.lookM m v).isSome],rfl,rfl,fun i e x he hx=>?_⟩
 ·unfold execOp
  simp only [h1,h2,Sem.run_bind,ZCg T H hok hn ho (hh.ok _ hm) true,Result.andThen_ok,Sem.run_pure]
  rfl
 ·match i,he,hx with
  | 0,he,hx=>cases he;cases hx;rfl
  | 1,he,hx=>cases he;cases hx;rfl
theorem ZEI {x y c:Operand} {v:K} {u:V} (T:MapT P t k e z) (H:KeyT P k kv ok) (hx:OpD fr x (dX (.map (some b)))) (hy:OpD fr y d) (hd:IsV d (kv v)) (hc:OpD fr c d2) (hd2:IsV d2 (vv u)) (ho:ok v) (hok:∀ p∈m,ok p.1) (hn:(m.map (·.1)).Nodup)
  (h:WL P ops Q rest (ZA fr dst (dX undef)) (hM b kv vv (ZBr m v u)::hp)) :
  WL P ops Q (⟨dst,.mapUpdate t x y c,ty,ps,af,none⟩::rest) fr (hM b kv vv m::hp):=by
 refine WL.of fun P0 B w0 w a hh hf=>?_
 have h1:a.eval x=_:=hx.ev hf
 have h2:=hd.is _ _ _ (hy.ev hf)
 have h3:=hd2.is _ _ _ (hc.ev hf)
 have hrun:(execOp a.eval ⟨dst,.mapUpdate t x y c,ty,ps,af,none⟩).run P w = .ok .skip (w.putObj b (ZAH (ZAO kv vv (ZBr m v u)))):=by
  unfold execOp
  simp only [h1,h2,h3,Sem.run_bind,ZHR T H hok hn ho u (hh.ok (hM b kv vv m) (by simp)),Result.andThen_ok,Sem.run_pure]
  rfl
 refine wpList_plain rfl fun K hK=>?_
 unfold Oper.wp
 rw [hrun]
 exact hK _ _ (h.on (Hp.putObj hh) (Fr.put (hf.mono fun _ _ hd=>ZAg hd) (d:=dX undef) rfl))
end
theorem ZTD {x y:Operand} {v:K} (zv:V) (hz:vv zv=z) (T:MapT P t k e z) (H:KeyT P k kv ok) (hx:OpD fr x (dX (.map (some b)))) (hy:OpD fr y d) (hd:IsV d (kv v)) (ho:ok v) (hok:∀ p∈m,ok p.1)
  (h1:∀ (j:Nat) (hj:j<m.length),m[j].1=v->WL P ops Q rest (ZA fr dst (dT [dX (vv m[j].2),dI j])) (hM b kv vv m::hp))
  (h2:(∀ p∈m,p.1≠v)->WL P ops Q rest (ZA fr dst (dT [dX z,dI m.length])) (hM b kv vv (m++[(v,zv)])::hp)) :
  WL P ops Q (⟨dst,.mapEntry t x y,ty,ps,af,none⟩::rest) fr (hM b kv vv m::hp):=by
 refine WL.of fun P0 B w0 w a hh hf=>?_
 have e1:a.eval x=_:=hx.ev hf
 have e2:=hd.is _ _ _ (hy.ev hf)
 have hT:∀ {I:Nat->Prop} {w:World} (u:Value) (n:Int),(dT [dX u,dI n]).rd I w (.tuple #[u,.int .i64 n]):=fun u n=>⟨[u,.int .i64 n],rfl,rfl,fun i e x he hx=>by
  match i,he,hx with
  | 0,he,hx=>cases he;cases hx;rfl
  | 1,he,hx=>cases he;cases hx;rfl⟩
 rcases ZPb T H hok ho (hh.ok (hM b kv vv m) (by simp)) with ⟨j,hj,hjv,hr⟩|⟨hne,hr⟩
 ·have hrun:(execOp a.eval ⟨dst,.mapEntry t x y,ty,ps,af,none⟩).run P w = .ok (.value (.tuple #[vv m[j].2,.int .i64 j])) (w.putObj b (ZAH (ZAO kv vv m))):=by
   unfold execOp
   simp only [e1,e2,Sem.run_bind,hr,Result.andThen_ok,Sem.run_pure]
   rfl
  refine Zu rfl hrun ?_
  exact (h1 j hj hjv).on (Hp.putObj hh) (Fr.put (hf.mono fun _ _ hd=>ZAg hd) (hT _ _))
 ·have hrun:(execOp a.eval ⟨dst,.mapEntry t x y,ty,ps,af,none⟩).run P w = .ok (.value (.tuple #[z,.int .i64 m.length])) (w.putObj b (ZAH (ZAO kv vv (m++[(v,zv)])))):=by
   unfold execOp
   simp only [e1,e2,Sem.run_bind,hr zv hz,Result.andThen_ok,Sem.run_pure]
   rfl
  refine Zu rfl hrun ?_
  exact (h2 hne).on (Hp.putObj hh) (Fr.put (hf.mono fun _ _ hd=>ZAg hd) (hT _ _))
theorem ZNW {x y c:Operand} {j:Nat} {u:V} (hx:OpD fr x (dX (.map (some b)))) (hy:OpD fr y (dI (j:Int))) (hc:OpD fr c d2) (hd2:IsV d2 (vv u)) (hj:j<m.length)
  (h:WL P ops Q rest (ZA fr dst (dX undef)) (hM b kv vv (m.set j (m[j].1,u))::hp)) :
  WL P ops Q (⟨dst,.entryStore t x y c,ty,ps,af,none⟩::rest) fr (hM b kv vv m::hp):=by
 refine WL.of fun P0 B w0 w a hh hf=>?_
 have h1:a.eval x=_:=hx.ev hf
 have h2:a.eval y = .int .i64 j:=hy.ev hf
 have h3:=hd2.is _ _ _ (hc.ev hf)
 have hrun:(execOp a.eval ⟨dst,.entryStore t x y c,ty,ps,af,none⟩).run P w = .ok .skip (w.putObj b (ZAH (ZAO kv vv (m.set j (m[j].1,u))))):=by
  unfold execOp
  simp only [h1,h2,h3,Sem.run_bind,ZGz hj u (hh.ok (hM b kv vv m) (by simp)),Result.andThen_ok,Sem.run_pure]
  rfl
 refine wpList_plain rfl fun K hK=>?_
 unfold Oper.wp
 rw [hrun]
 exact hK _ _ (h.on (Hp.putObj hh) (Fr.put (hf.mono fun _ _ hd=>ZAg hd) (d:=dX undef) rfl))
theorem ZNM {x:Operand} {ats:TypeId} (T:MapT P ats k e z) (hx:OpD fr x (dX (.map (some b)))) (hm:hM b kv vv m∈hp) :
  SY P ops hp ⟨dst,.call { callee:=.builtin .len,args:=#[x],argTypes:=#[ats] },ty,ps,af,g⟩ fr (dI (m.length:Int)):=ZAf fun {P0 B w0 w a} hh hon=>by
 have h1:a.eval x=_:=hx.get (by simp [Op.operands,Call.operands]) hon
 have hb:w.heap[b]?=some (.map _ _):=hh.ok _ hm
 refine ⟨.int .i64 m.length,w,?_,Ext.refl _,rfl⟩
 have hr:(Builtin.len_ #[ats] ty #[.map (some b)]).run P w = .ok (.int .i64 m.length) w:=by
  simp [Builtin.len_,run_underlying T.under,MapKept.run_getObj_map hb,Result.andThen,goInt,Z7,ZAO]
 unfold execOp
 simp [resolve,invoke,builtin,h1,hr,Result.andThen]
end
end
section
open Go.RowKit
def ZHU {K α:Type} (kv:K->Value) (R:Rel α):Rel (List (K × α)):=fun P w v m =>
 ∃ (b:Nat) (us:List Value),v = .map (some b)/\P b/\us.length=m.length/\w.heap[b]?=some (ZAH (ZAO kv id ((m.map (·.1)).zip us)))/\∀ k (h:k<us.length) (h':k<m.length),R P w us[k] m[k].2
theorem ZHK {w:World} {b:Nat} {o:Obj} (h:w.heap[b]?=some o):b<w.heap.size:=(Array.getElem?_eq_some_iff.1 h).1
instance {K α:Type} (kv:K->Value) (R:Rel α) [Good R]:Good (ZHU kv R) where
 weak:=fun ⟨b,us,h1,h2,h3,h4,h5⟩ q=>⟨b,us,h1,q b h2,h3,h4,fun k a c=>Good.weak (h5 k a c) q⟩
 move:=fun ⟨b,us,h1,h2,h3,h4,h5⟩ q=>⟨b,us,h1,h2,h3,(q b h2 (ZHK h4)).trans h4,fun k a c=>Good.move (h5 k a c) q⟩
 bound:=fun ⟨b,us,h1,h2,h3,h4,h5⟩=>⟨b,us,h1,⟨h2,ZHK h4⟩,h3,h4,fun k a c=>Good.bound (h5 k a c)⟩
section
variable {P:Program} {ops:Array Oper} {hp:List HObj} {fr:List Dat} {d:Dat}
variable {dst:Option Tmp} {ty:TypeId} {ps:String} {af:Array Edge} {g:Option (Nat × Bool)} {t k e:TypeId} {z:Value} {K α:Type} [DecidableEq K] {kv:K->Value} {ok:K->Prop} {R:Rel α} {m:List (K × α)}
theorem ZJn {m:List (K × α)} {us:List Value} (h:us.length=m.length) (x:K):(lookM m x=none/\lookM ((m.map (·.1)).zip us) x=none)\/∃ (j:Nat) (h1:j<us.length) (h2:j<m.length),lookM m x=some m[j].2/\lookM ((m.map (·.1)).zip us) x=some us[j]:=by
 induction m generalizing us with
 | nil=>exact .inl ⟨rfl,by cases us <;> rfl⟩
 | cons p m ih =>
  cases us with
  | nil=>simp at h
  | cons u us =>
   by_cases hp:p.1=x
   ·refine .inr ⟨0,by simp,by simp,?_,?_⟩
    ·unfold lookM;rw [List.find?_cons_of_pos (by simpa using hp)];rfl
    ·unfold lookM;simp only [List.map_cons,List.zip_cons_cons];rw [List.find?_cons_of_pos (by simpa using hp)];rfl
   ·rcases ih (us:=us) (by simpa using h) with ⟨h1,h2⟩|⟨j,h1,h2,h3,h4⟩
    ·refine .inl ⟨?_,?_⟩
     ·unfold lookM at h1 ⊢;rw [List.find?_cons_of_neg (by simpa using hp)];exact h1
     ·unfold lookM at h2 ⊢;simp only [List.map_cons,List.zip_cons_cons];rw [List.find?_cons_of_neg (by simpa using hp)];exact h2
    ·refine .inr ⟨j+1,by simpa using h1,by simpa using h2,?_,?_⟩
     ·unfold lookM at h3 ⊢;rw [List.find?_cons_of_neg (by simpa using hp)];exact h3
     ·unfold lookM at h4 ⊢;simp only [List.map_cons,List.zip_cons_cons];rw [List.find?_cons_of_neg (by simpa using hp)];exact h4
theorem ZED [Good R] {x y:Operand} {v:K} {a0:α} (T:MapT P t k e z) (H:KeyT P k kv ok) (hx:OpD fr x (dS (ZHU kv R) m)) (hy:OpD fr y d) (hd:IsV d (kv v)) (ho:ok v) (hok:∀ p∈m,ok p.1) (hn:(m.map (·.1)).Nodup) (hz:∀ I w,R I w z a0) :
  SY P ops hp ⟨dst,.lookup t x y false,ty,ps,af,g⟩ fr (dS R ((Go.Proofs.YtekiljakcngcoaaGreatDoor.lookM m v).getD a0)):=SY.val fun {I w a} hon=>by
 obtain ⟨b,us,h1,h2,h3,h4,h5⟩:=hx.get (by simp [Op.operands]) hon
 have h6:=hd.is _ _ _ (hy.get (by simp [Op.operands]) hon)
 have hkeys:((m.map (·.1)).zip us).map (·.1)=m.map (·.1):=by rw [List.map_fst_zip];simp [h3]
 refine ⟨((Go.Proofs.YtekiljakcngcoaaGreatDoor.lookM ((m.map (·.1)).zip us) v).map id).getD z,?_,?_⟩
 ·unfold execOp
  simp only [h1,h6,Sem.run_bind,ZCg (vv:=id) T H (fun (p:K × Value) (hp:p∈(m.map (·.1)).zip us)=>by
   have:p.1∈m.map (·.1):=by rw [<- hkeys];exact List.mem_map_of_mem hp
   obtain ⟨q,hq,he⟩:=List.mem_map.1 this
   rw [<- he];exact hok q hq) (by rw [hkeys];exact hn) ho h4 false,Result.andThen_ok,Sem.run_pure]
  rfl
 ·rcases ZJn h3 v with ⟨e1,e2⟩|⟨j,j1,j2,e1,e2⟩
  ·rw [e1,e2];exact hz I w
  ·rw [e1,e2];exact h5 j j1 j2
end
theorem FinD.map {hp:List HObj} {b:Nat} {e:TypeId} {K α:Type} {kv:K->Value} {R:Rel α} {_gR:Good R} {M:List (K × Value × List α)} (hm:hM b kv (fun p:Value × List α=>p.1) M∈hp) (hr:∀ p∈M,Zr p.2.1 e R p.2.2∈hp) :
  FinD hp (dX (.map (some b))) (dS (ZHU kv (Arr R)) (M.map fun p=>(p.1,p.2.2))):=FinD.mk fun {P0 B w0 w u} hh hd=>by
 have hb:w.heap[b]?=some (ZAH _):=hh.ok _ hm
 refine ⟨b,M.map fun p=>p.2.1,hd,ZDg hh hm rfl,by simp,?_,fun k h1 h2=>?_⟩
 ·rw [hb]
  congr 2
  unfold ZAO
  simp only [List.map_map]
  rw [List.zip_map',List.map_map]
  rfl
 ·have hk:k<M.length:=by simpa using h1
  have:Arr R (fun b=>P0 b\/B≤b) w M[k].2.1 M[k].2.2:=(FinD.row (hr _ (List.getElem_mem hk))).out (v:=M[k].2.1) hh rfl
  simpa using this
end
section
theorem ZDD (v:Vx):∀ b:List Vx,(v∉b/\(b.dropWhile fun x=>decide (x≠v))=[])\/∃ pre c,b=pre++v::c/\v∉pre/\(b.dropWhile fun x=>decide (x≠v))=v::c
 | []=>.inl ⟨by simp,rfl⟩
 | x::b=>by
  by_cases hx:x=v
  ·subst hx
   exact .inr ⟨[],b,rfl,by simp,by rw [List.dropWhile_cons_of_neg (by simp)]⟩
  ·rw [List.dropWhile_cons_of_pos (by simpa using hx)]
   rcases ZDD v b with ⟨h1,h2⟩|⟨pre,c,h1,h2,h3⟩
   ·exact .inl ⟨by simp [h1,Ne.symm hx],h2⟩
   ·exact .inr ⟨x::pre,c,by rw [h1];rfl,by simp [h2,Ne.symm hx],h3⟩
theorem ZQw (v:Vx):ZA8 v v=0:=ZCO.2 rfl
theorem ZCJ:∀ (a b:List Vx),Asc a->Asc b->ZBp a b=ZA1 a b
 | [],b,_,_=>rfl
 | v::a,b,ha,hb=>by
  have ha':=ha
  unfold Asc at ha'
  rw [List.pairwise_cons] at ha'
  unfold ZBp
  rcases ZDD v b with ⟨h1,h2⟩|⟨pre,c,h1,h2,h3⟩
  ·rw [if_pos h2]
   unfold ZA1
   simp [h1]
  ·rw [h3,if_neg (by simp)]
   have hb':=hb
   unfold Asc at hb'
   rw [h1,List.pairwise_append] at hb'
   rw [ZCJ a (v::c) ha'.2 hb'.2.1]
   have hv:v∈b:=by rw [h1];simp
   unfold ZA1
   rw [List.all_cons,decide_eq_true hv,Bool.true_and,Bool.eq_iff_iff,List.all_eq_true,List.all_eq_true]
   constructor
   ·intro h x hx
    have:=h x hx
    simp only [decide_eq_true_eq] at this ⊢
    rw [h1];exact List.mem_append.2 (.inr this)
   ·intro h x hx
    have:=h x hx
    simp only [decide_eq_true_eq] at this ⊢
    rw [h1] at this
    rcases List.mem_append.1 this with hp|hp
    ·have h5:=hb'.2.2 x hp v (by simp)
     have h6:=ZBg h5 (ha'.1 x hx)
     rw [ZQw] at h6;omega
    ·exact hp
def ZMf (m:List (Vx × List Int)) (v:Vx) (i:Int):List (Vx × List Int):=ZBr m v ((lookM m v).getD []++[i])
def ZOo (m:List (Vx × List Int)) (s:List Vx) (i:Int):List (Vx × List Int):=s.foldl (fun m v=>ZMf m v i) m
def ZIl (l:Cx):List (Vx × List Int):=(l.zipIdx).foldl (fun m p=>ZOo m p.1 (p.2:Int)) []
theorem ZJi {m:List (Vx × List Int)} {s:List Vx} {i:Int} {j:Nat} (h:j<s.length):ZOo m (s.take (j+1)) i=ZMf (ZOo m (s.take j) i) s[j] i:=by
 unfold ZOo;rw [ZZ h,List.foldl_append];rfl
theorem ZGW {l:Cx} {i:Nat} (h:i<l.length):ZIl (l.take (i+1))=ZOo (ZIl (l.take i)) l[i] (i:Int):=by
 unfold ZIl
 rw [ZZ h,List.zipIdx_append,List.foldl_append]
 simp [List.length_take,Nat.min_eq_left (Nat.le_of_lt h)]
def atM (m:List (Vx × List Int)) (v:Vx):List Int:=(lookM m v).getD []
theorem ZHJ {K V:Type} [DecidableEq K] {m:List (K × V)} {x y:K} {v:V}:lookM (ZBr m x v) y=if y=x then some v else lookM m y:=by
 unfold ZBr
 by_cases h:(lookM m x).isSome
 ·rw [if_pos h]
  induction m with
  | nil=>simp [lookM] at h
  | cons p m ih =>
   rw [List.map_cons]
   by_cases hp:p.1=x
   ·rw [if_pos hp]
    by_cases hy:y=x
    ·rw [if_pos hy];unfold lookM
     rw [List.find?_cons_of_pos (by simp [hy])];rfl
    ·rw [if_neg hy];unfold lookM
     rw [List.find?_cons_of_neg (by simpa using Ne.symm hy),List.find?_cons_of_neg (by rw [hp];simpa using Ne.symm hy)]
     clear ih h hp
     induction m with
     | nil=>rfl
     | cons q m ih =>
      rw [List.map_cons]
      by_cases hq:q.1=x
      ·rw [if_pos hq,List.find?_cons_of_neg (by simpa using Ne.symm hy),List.find?_cons_of_neg (by rw [hq];simpa using Ne.symm hy)]
       exact ih
      ·rw [if_neg hq]
       by_cases hqy:q.1=y
       ·rw [List.find?_cons_of_pos (by simpa using hqy),List.find?_cons_of_pos (by simpa using hqy)]
       ·rw [List.find?_cons_of_neg (by simpa using hqy),List.find?_cons_of_neg (by simpa using hqy)]
        exact ih
   ·rw [if_neg hp]
    have h':(lookM m x).isSome:=by
     unfold lookM at h ⊢
     rwa [List.find?_cons_of_neg (by simpa using hp)] at h
    have:=ih h'
    unfold lookM at this ⊢
    by_cases hpy:p.1=y
    ·have hyx:y≠x:=fun e=>hp (hpy.trans e)
     rw [List.find?_cons_of_pos (by simpa using hpy),if_neg hyx,List.find?_cons_of_pos (by simpa using hpy)]
    ·rw [List.find?_cons_of_neg (by simpa using hpy),List.find?_cons_of_neg (by simpa using hpy)]
     exact this
 ·rw [if_neg h]
  have h0:lookM m x=none:=by simpa using h
  unfold lookM at h0 ⊢
  rw [List.find?_append]
  by_cases hy:y=x
  ·subst hy
   rw [if_pos rfl]
   have:m.find? (fun p=>decide (p.1=y))=none:=by simpa using h0
   rw [this];simp
  ·rw [if_neg hy,List.find?_cons_of_neg (by simpa using Ne.symm hy)]
   simp
theorem ZQl {m:List (Vx × List Int)} {v u:Vx} {i:Int}:atM (ZMf m v i) u=if u=v then atM m v++[i] else atM m u:=by
 unfold atM ZMf
 rw [ZHJ]
 split <;> rfl
theorem ZL6 {i j:Int} {v:Vx}:∀ {s:List Vx} {m:List (Vx × List Int)},j∈atM (ZOo m s i) v↔j∈atM m v\/(j=i/\v∈s)
 | [],m=>by simp [ZOo]
 | u::s,m=>by
  show j∈atM (ZOo (ZMf m u i) s i) v↔_
  rw [ZL6 (s:=s),ZQl]
  by_cases hv:v=u
  ·subst hv
   rw [if_pos rfl,List.mem_append,List.mem_singleton,List.mem_cons]
   constructor
   ·rintro ((h|h)|h)
    ·exact .inl h
    ·exact .inr ⟨h,.inl rfl⟩
    ·exact .inr ⟨h.1,.inr h.2⟩
   ·rintro (h|h)
    ·exact .inl (.inl h)
    ·exact .inl (.inr h.1)
  ·rw [if_neg hv,List.mem_cons];simp [hv]
theorem ZEi {l:Cx} {j:Int} {v:Vx}:∀ {n:Nat},n≤l.length->(j∈atM (ZIl (l.take n)) v↔∃ (k:Nat) (h:k<l.length),k<n/\j=k/\v∈l[k])
 | 0,_=>by simp [ZIl,atM,lookM]
 | n+1,hn=>by
  rw [ZGW (by omega),ZL6,ZEi (by omega)]
  constructor
  ·rintro (⟨k,h,h1,h2,h3⟩|⟨h1,h2⟩)
   ·exact ⟨k,h,by omega,h2,h3⟩
   ·exact ⟨n,by omega,by omega,h1,h2⟩
  ·rintro ⟨k,h,h1,h2,h3⟩
   by_cases hk:k=n
   ·subst hk;exact .inr ⟨h2,h3⟩
   ·exact .inl ⟨k,h,by omega,h2,h3⟩
theorem ZIG {l:Cx} {j:Int} {v:Vx}:j∈atM (ZIl l) v↔∃ (k:Nat) (h:k<l.length),j=k/\v∈l[k]:=by
 have:=ZEi (l:=l) (j:=j) (v:=v) (Nat.le_refl _)
 rw [List.take_length] at this
 rw [this]
 exact ⟨fun ⟨k,h,_,h2,h3⟩=>⟨k,h,h2,h3⟩,fun ⟨k,h,h2,h3⟩=>⟨k,h,h,h2,h3⟩⟩
theorem ZKX {l:Cx} {v:Vx}:∀ i∈atM (ZIl l) v,0≤i/\i<l.length:=fun i hi=>by
 obtain ⟨k,h,rfl,_⟩:=ZIG.1 hi
 omega
theorem ZLS {l:Cx} (h:∀ s∈l,Z3 s=0) {s:List Vx} (hs:Z3 s=0) {v:Vx} (hv:v∈s):(atM (ZIl l) v).any (ZQy l s)=ZAY l s:=by
 have asc:∀ s∈l,Asc s:=fun s hs=>(ZP.1 (h s hs)).2.2.2
 rw [Bool.eq_iff_iff,List.any_eq_true,ZAZ]
 constructor
 ·rintro ⟨i,hi,hc⟩
  obtain ⟨k,hk,rfl,_⟩:=ZIG.1 hi
  have hm:=List.getElem_mem hk
  unfold ZQy at hc
  rw [Int.toNat_natCast,show l.getD k []=l[k] by simp [List.getD,hk],Bool.and_eq_true,decide_eq_true_eq,ZCJ _ _ (ZP.1 hs).2.2.2 (asc _ hm)] at hc
  exact ⟨l[k],hm,hc.1,hc.2⟩
 ·rintro ⟨x,hx,h1,h2⟩
  obtain ⟨k,hk,rfl⟩:=List.getElem_of_mem hx
  refine ⟨(k:Int),ZIG.2 ⟨k,hk,rfl,?_⟩,?_⟩
  ·unfold ZA1 at h2
   have:=List.all_eq_true.1 h2 v hv
   simpa using this
  ·unfold ZQy
   rw [Int.toNat_natCast,show l.getD k []=l[k] by simp [List.getD,hk],Bool.and_eq_true,decide_eq_true_eq,ZCJ _ _ (ZP.1 hs).2.2.2 (asc _ hx)]
   exact ⟨h1,h2⟩
end
end Go.Proofs.YtekiljakcngcoaaGreatDoor
