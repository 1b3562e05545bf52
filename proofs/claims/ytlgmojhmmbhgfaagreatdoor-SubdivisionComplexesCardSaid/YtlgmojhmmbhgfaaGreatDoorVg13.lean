/- Part 13: walks by contracts, and plain laws. -/
import Derived.DeepKeys4
import Derived.Test.YtlgmojhmmbhgfaaGreatDoorVg11
set_option linter.unusedVariables false
set_option linter.unusedSimpArgs false
set_option linter.unusedSectionVars false
set_option maxRecDepth 100000
set_option maxHeartbeats 4000000
namespace Go.Proofs.YtlgmojhmmbhgfaaGreatDoor
section
open Go.RowKit

def ZU:Nat->List (Value × Value)->List MapEntry
 | _,[]=>[]
 | i,p::m=>⟨p.1,p.2,i⟩::ZU (i+1) m
def ZAM (m:List (Value × Value)):Obj:=.map (ZU 0 m).toArray m.length
theorem Z2:∀ (m:List (Value × Value)) (i:Nat),(ZU i m).length=m.length
 | [],_=>rfl
 | _::m,i=>by simp [ZU,Z2 m]
theorem ZAq:∀ (m:List (Value × Value)) (i j:Nat) (h:j<m.length),(ZU i m)[j]'(by rw [Z2];exact h)=⟨m[j].1,m[j].2,i+j⟩
 | [],_,j,h=>by simp at h
 | p::m,i,0,_=>by simp [ZU]
 | p::m,i,j+1,h=>by
  simp only [ZU,List.getElem_cons_succ]
  rw [ZAq m (i+1) j (by simpa using h)]
  congr 1;omega
theorem ZCu:∀ (m:List (Value × Value)) (i:Nat) (p:Value × Value),ZU i (m++[p])=ZU i m++[⟨p.1,p.2,i+m.length⟩]
 | [],i,p=>by simp [ZU]
 | q::m,i,p=>by
  simp only [List.cons_append,ZU,ZCu m (i+1) p,List.length_cons]
  congr 4;omega
theorem ZDI:∀ (m:List (Value × Value)) (i j:Nat) (p:Value × Value),ZU i (m.set j p)=(ZU i m).set j ⟨p.1,p.2,i+j⟩
 | [],_,_,_=>rfl
 | q::m,i,0,p=>by simp [ZU]
 | q::m,i,j+1,p=>by
  simp only [List.set_cons_succ,ZU,ZDI m (i+1) j p]
  congr 3;omega
structure KeyT (P:Program) (k:TypeId) {K:Type} (kv:K->Value) (ok:K->Prop):Prop where
 law:Go.Maps.Keyed P k
 lit:∀ x,ok x->∃ l,keyOf P k (kv x)=some l
 inj:∀ x y,ok x->ok y->kv x=kv y->x=y
structure MapT (P:Program) (t k e:TypeId) (z:Value):Prop where
 under:P.underlying t=some (.map k e)
 zero:∀ w,(zeroValue e).run P w = .ok z w
section
variable {P:Program} {k t e:TypeId} {z:Value} {K V:Type} {kv:K->Value} {ok:K->Prop} {vv:V->Value}
def ZAR (kv:K->Value) (vv:V->Value) (m:List (K × V)):List (Value × Value):=m.map fun p=>(kv p.1,vv p.2)
def lookM [DecidableEq K] (m:List (K × V)) (x:K):Option V:=(m.find? fun p=>decide (p.1=x)).map (·.2)
theorem ZHk (H:KeyT P k kv ok) {m:List (K × V)} (hm:∀ p∈m,ok p.1) {x:K} (hx:ok x) (w:World) :
  ((Instr.findKey k (kv x) (ZU 0 (ZAR kv vv m))).run P w = .ok none w/\∀ p∈m,p.1≠x) \/
  ∃ (j:Nat) (h:j<m.length),m[j].1=x/\(Instr.findKey k (kv x) (ZU 0 (ZAR kv vv m))).run P w = .ok (some (j,vv m[j].2)) w:=by
 obtain ⟨lx,hlx⟩:=H.lit x hx
 have hl:(ZAR kv vv m).length=m.length:=by simp [ZAR]
 have hat:∀ (j:Nat) (h:j<m.length),(ZU 0 (ZAR kv vv m))[j]'(by rw [Z2,hl];exact h)=⟨kv m[j].1,vv m[j].2,j⟩:=fun j h=>by
  rw [ZAq _ _ _ (by rw [hl];exact h)]
  simp [ZAR]
 have hk:∀ en∈ZU 0 (ZAR kv vv m),∃ l,keyOf P k en.key=some l:=fun en hen=>by
  obtain ⟨j,hj,rfl⟩:=List.getElem_of_mem hen
  have hj':j<m.length:=by rw [Z2,hl] at hj;exact hj
  rw [hat j hj']
  exact H.lit _ (hm _ (List.getElem_mem hj'))
 rcases H.law.find w hlx _ hk with ⟨h1,h2⟩|⟨j,en,h1,h2,h3⟩
 ·refine .inl ⟨h1,fun p hp hpx=>?_⟩
  obtain ⟨j,hj,rfl⟩:=List.getElem_of_mem hp
  have hj':j<(ZU 0 (ZAR kv vv m)).length:=by rw [Z2,hl];exact hj
  refine h2 _ (List.getElem_mem hj') ?_
  rw [hat j hj,hpx]
 ·have hj:=(List.getElem?_eq_some_iff.1 h2).1
  have hj':j<m.length:=by rw [Z2,hl] at hj;exact hj
  have he:en=⟨kv m[j].1,vv m[j].2,j⟩:=by rw [<- hat j hj',(List.getElem?_eq_some_iff.1 h2).2]
  refine .inr ⟨j,hj',H.inj _ _ (hm _ (List.getElem_mem hj')) hx ?_,?_⟩
  ·rw [<- h3,he]
  ·rw [h1,he]
section
variable [DecidableEq K]
theorem ZE3 {m:List (K × V)} {x:K} (h:∀ p∈m,p.1≠x):lookM m x=none:=by
 unfold lookM
 rw [List.find?_eq_none.2 (fun p hp=>by simpa using h p hp)];rfl
theorem lookM_some {m:List (K × V)} (hn:(m.map (·.1)).Nodup) {j:Nat} (h:j<m.length):lookM m m[j].1=some m[j].2:=by
 induction m generalizing j with
 | nil=>simp at h
 | cons p m ih =>
  rw [List.map_cons,List.nodup_cons] at hn
  cases j with
  | zero=>simp [lookM]
  | succ j =>
   have hj:j<m.length:=by simpa using h
   have hne:¬ p.1=m[j].1:=fun e=>hn.1 (e ▸ List.mem_map_of_mem (List.getElem_mem hj))
   have:=ih hn.2 hj
   unfold lookM at this ⊢
   simp only [List.getElem_cons_succ]
   rw [List.find?_cons_of_neg (by simpa using hne)]
   exact this
def ZBy (m:List (K × V)) (x:K) (v:V):List (K × V):=if (lookM m x).isSome then m.map fun p=>if p.1=x then (x,v) else p else m++[(x,v)]
theorem ZDp {m:List (K × V)} {x:K} {v:V} (h:∀ p∈m,p.1≠x):ZBy m x v=m++[(x,v)]:=by
 unfold ZBy;rw [ZE3 h];rfl
theorem ZLl {m:List (K × V)} (hn:(m.map (·.1)).Nodup) {v:V} {j:Nat} (h:j<m.length):ZBy m m[j].1 v=m.set j (m[j].1,v):=by
 unfold ZBy
 rw [lookM_some hn h]
 simp only [Option.isSome_some,if_true]
 apply List.ext_getElem (by simp)
 intro i h1 h2
 have hi:i<m.length:=by simpa using h1
 rw [List.getElem_map,List.getElem_set]
 by_cases hij:j=i
 ·subst hij;simp
 ·rw [if_neg hij,if_neg]
  intro e
  refine hij ?_
  have h1:(m.map (·.1))[i]'(by simpa using hi)=(m.map (·.1))[j]'(by simpa using h):=by simpa using e
  exact ((List.getElem_inj hn).1 h1).symm
theorem ZDq (T:MapT P t k e z) (H:KeyT P k kv ok) {m:List (K × V)} (hm:∀ p∈m,ok p.1) (hn:(m.map (·.1)).Nodup) {x:K} (hx:ok x) {w:World} {b:Nat} (hb:w.heap[b]?=some (ZAM (ZAR kv vv m))) (c:Bool) :
  (Instr.lookup t (.map (some b)) (kv x) c).run P w = .ok (if c then .tuple #[((lookM m x).map vv).getD z,.bool (lookM m x).isSome] else ((lookM m x).map vv).getD z) w:=by
 obtain ⟨lx,hlx⟩:=H.lit x hx
 have hg:=MapKept.run_getObj_map (P:=P) (show w.heap[b]?=some (.map _ _) from hb)
 rcases ZHk (vv:=vv) H hm hx w with ⟨h1,h2⟩|⟨j,hj,h1,h2⟩
 ·rw [ZE3 h2]
  simp [Instr.lookup,run_underlying T.under,hg,H.law.check w _ hlx,h1,T.zero,Result.andThen]
 ·subst h1
  rw [lookM_some hn hj]
  simp [Instr.lookup,run_underlying T.under,hg,H.law.check w _ hlx,h2,Result.andThen]
theorem ZHD (T:MapT P t k e z) (H:KeyT P k kv ok) {m:List (K × V)} (hm:∀ p∈m,ok p.1) (hn:(m.map (·.1)).Nodup) {x:K} (hx:ok x) (v:V) {w:World} {b:Nat} (hb:w.heap[b]?=some (ZAM (ZAR kv vv m))) :
  (Instr.mapUpdate t (.map (some b)) (kv x) (vv v)).run P w = .ok () { w with heap:=w.heap.setIfInBounds b (ZAM (ZAR kv vv (ZBy m x v))) }:=by
 obtain ⟨lx,hlx⟩:=H.lit x hx
 have hl:(ZAR kv vv m).length=m.length:=by simp [ZAR]
 have hg:=MapKept.run_getObj_map (P:=P) (show w.heap[b]?=some (.map _ _) from hb)
 rcases ZHk (vv:=vv) H hm hx w with ⟨h1,h2⟩|⟨j,hj,h1,h2⟩
 ·have e1:ZAM (ZAR kv vv (ZBy m x v)) = .map ((ZU 0 (ZAR kv vv m)).toArray.push ⟨kv x,vv v,(ZAR kv vv m).length⟩) ((ZAR kv vv m).length+1):=by
   rw [ZDp h2]
   unfold ZAM
   rw [show ZAR kv vv (m++[(x,v)])=ZAR kv vv m++[(kv x,vv v)] by simp [ZAR],ZCu]
   simp
  rw [e1]
  simp [Instr.mapUpdate,run_underlying T.under,hg,H.law.check w _ hlx,h1,MapKept.run_setObj_map _ (show w.heap[b]?=some (.map _ _) from hb),Result.andThen]
 ·subst h1
  have hj':j<(ZU 0 (ZAR kv vv m)).length:=by rw [Z2,hl];exact hj
  have hat:(ZU 0 (ZAR kv vv m))[j]?=some ⟨kv m[j].1,vv m[j].2,0+j⟩:=by
   rw [List.getElem?_eq_getElem hj',ZAq _ _ _ (by rw [hl];exact hj)]
   simp [ZAR]
  have e1:ZAM (ZAR kv vv (ZBy m m[j].1 v)) = .map ((ZU 0 (ZAR kv vv m)).toArray.modify j fun en=>{ en with key:=kv m[j].1,val:=vv v }) (ZAR kv vv m).length:=by
   rw [ZLl hn hj]
   unfold ZAM
   rw [show ZAR kv vv (m.set j (m[j].1,v))=(ZAR kv vv m).set j (kv m[j].1,vv v) by simp [ZAR,List.map_set],ZDI,List.length_set]
   congr 1
   apply Array.ext'
   rw [Array.toList_modify,ChangeMaps.modify_eq_set _ _ _ _ (by simpa using hat)]
   simp
  rw [e1]
  simp [Instr.mapUpdate,run_underlying T.under,hg,H.law.check w _ hlx,h2,hat,H.law.stays w hlx,MapKept.run_setObj_map _ (show w.heap[b]?=some (.map _ _) from hb),Result.andThen]
omit [DecidableEq K] in
theorem ZG8 {m:List (K × V)} {j:Nat} (hj:j<m.length) (f:MapEntry->MapEntry) (x:K) (v:V) (hf:∀ i,f ⟨kv m[j].1,vv m[j].2,i⟩=⟨kv x,vv v,i⟩) :
  ZAM (ZAR kv vv (m.set j (x,v))) = .map ((ZU 0 (ZAR kv vv m)).toArray.modify j f) (ZAR kv vv m).length:=by
 have hl:(ZAR kv vv m).length=m.length:=by simp [ZAR]
 have hj':j<(ZU 0 (ZAR kv vv m)).length:=by rw [Z2,hl];exact hj
 have hat:(ZU 0 (ZAR kv vv m))[j]?=some ⟨kv m[j].1,vv m[j].2,0+j⟩:=by
  rw [List.getElem?_eq_getElem hj',ZAq _ _ _ (by rw [hl];exact hj)]
  simp [ZAR]
 unfold ZAM
 rw [show ZAR kv vv (m.set j (x,v))=(ZAR kv vv m).set j (kv x,vv v) by simp [ZAR,List.map_set],ZDI,List.length_set]
 congr 1
 apply Array.ext'
 rw [Array.toList_modify,ChangeMaps.modify_eq_set _ _ _ _ (by simpa using hat),hf]
 simp
omit [DecidableEq K] in
theorem ZO3 (T:MapT P t k e z) (H:KeyT P k kv ok) {m:List (K × V)} (hm:∀ p∈m,ok p.1) {x:K} (hx:ok x) {w:World} {b:Nat} (hb:w.heap[b]?=some (ZAM (ZAR kv vv m))) :
  (∃ (j:Nat) (h:j<m.length),m[j].1=x/\(Instr.mapEntry t (.map (some b)) (kv x)).run P w = .ok (.tuple #[vv m[j].2,.int .i64 j]) { w with heap:=w.heap.setIfInBounds b (ZAM (ZAR kv vv m)) }) \/
  ((∀ p∈m,p.1≠x)/\∀ zv,vv zv=z->(Instr.mapEntry t (.map (some b)) (kv x)).run P w = .ok (.tuple #[z,.int .i64 m.length]) { w with heap:=w.heap.setIfInBounds b (ZAM (ZAR kv vv (m++[(x,zv)]))) }):=by
 obtain ⟨lx,hlx⟩:=H.lit x hx
 have hl:(ZAR kv vv m).length=m.length:=by simp [ZAR]
 have hg:=MapKept.run_getObj_map (P:=P) (show w.heap[b]?=some (.map _ _) from hb)
 rcases ZHk (vv:=vv) H hm hx w with ⟨h1,h2⟩|⟨j,hj,h1,h2⟩
 ·refine .inr ⟨h2,fun zv hz=>?_⟩
  have e1:ZAM (ZAR kv vv (m++[(x,zv)])) = .map ((ZU 0 (ZAR kv vv m)).toArray.push ⟨kv x,z,(ZAR kv vv m).length⟩) ((ZAR kv vv m).length+1):=by
   unfold ZAM
   rw [show ZAR kv vv (m++[(x,zv)])=ZAR kv vv m++[(kv x,z)] by simp [ZAR,hz],ZCu]
   simp
  rw [e1]
  simp [Instr.mapEntry,run_underlying T.under,hg,H.law.check w _ hlx,h1,T.zero,MapKept.run_setObj_map _ (show w.heap[b]?=some (.map _ _) from hb),Result.andThen,goInt,hl]
 ·refine .inl ⟨j,hj,h1,?_⟩
  subst h1
  have hj':j<(ZU 0 (ZAR kv vv m)).length:=by rw [Z2,hl];exact hj
  have hat:(ZU 0 (ZAR kv vv m))[j]?=some ⟨kv m[j].1,vv m[j].2,0+j⟩:=by
   rw [List.getElem?_eq_getElem hj',ZAq _ _ _ (by rw [hl];exact hj)]
   simp [ZAR]
  have e1:=ZG8 (kv:=kv) (vv:=vv) hj (fun en=>{ en with key:=kv m[j].1 }) m[j].1 m[j].2 (fun _=>rfl)
  have e2:m.set j (m[j].1,m[j].2)=m:=List.set_getElem_self hj
  rw [e2] at e1
  rw [e1]
  simp [Instr.mapEntry,run_underlying T.under,hg,H.law.check w _ hlx,h2,hat,H.law.stays w hlx,MapKept.run_setObj_map _ (show w.heap[b]?=some (.map _ _) from hb),Result.andThen,goInt]
omit [DecidableEq K] in
theorem ZGm {m:List (K × V)} {j:Nat} (hj:j<m.length) (v:V) {w:World} {b:Nat} (hb:w.heap[b]?=some (ZAM (ZAR kv vv m))) :
  (Instr.entryStore t (.map (some b)) (.int .i64 j) (vv v)).run P w = .ok () { w with heap:=w.heap.setIfInBounds b (ZAM (ZAR kv vv (m.set j (m[j].1,v)))) }:=by
 have hl:(ZAR kv vv m).length=m.length:=by simp [ZAR]
 have hg:=MapKept.run_getObj_map (P:=P) (show w.heap[b]?=some (.map _ _) from hb)
 have hf:(ZU 0 (ZAR kv vv m)).findIdx? (fun en=>(en.born:Int) == (j:Int))=some j:=by
  have hlen:(ZU 0 (ZAR kv vv m)).length=m.length:=by rw [Z2,hl]
  have hat:∀ (i:Nat) (h:i<m.length),(ZU 0 (ZAR kv vv m))[i]'(by rw [hlen];exact h)=⟨kv m[i].1,vv m[i].2,i⟩:=fun i h=>by
   rw [ZAq _ _ _ (by rw [hl];exact h)]
   simp [ZAR]
  rw [List.findIdx?_eq_some_iff_getElem]
  refine ⟨by rw [hlen];exact hj,?_,fun i hi=>?_⟩
  ·rw [hat j hj];exact beq_self_eq_true _
  ·rw [hat i (by omega)];show ¬ ((i:Int) == (j:Int))=true;rw [beq_iff_eq];omega
 rw [ZG8 hj (fun en=>{ en with val:=vv v }) m[j].1 v (fun _=>rfl)]
 simp [Instr.entryStore,hg,asInt,asIntOf,hf,MapKept.run_setObj_map _ (show w.heap[b]?=some (.map _ _) from hb),Result.andThen]
end
end
end
section
open Go.RowKit

abbrev hM {K V:Type} (b:Nat) (kv:K->Value) (vv:V->Value) (m:List (K × V)):HObj:=ZA2 b (ZAM (ZAR kv vv m))
structure IsV (d:Dat) (v:Value):Prop where
 is:∀ (I:Nat->Prop) (w:World) (u:Value),d.rd I w u->u=v
theorem isX {v:Value}:IsV (dX v) v:=⟨fun _ _ _ h=>h⟩
section
variable {P:Program} {ops:Array Oper} {hp:List HObj} {o:Oper} {fr:List Dat} {d d2:Dat} {Q:ZAL} {rest:List Oper}
variable {dst:Option Tmp} {ty:TypeId} {ps:String} {af:Array Edge} {g:Option (Nat × Bool)} {t k e:TypeId} {z:Value} {K V:Type} {kv:K->Value} {ok:K->Prop} {vv:V->Value} {b:Nat} {m:List (K × V)}
theorem WL.makeMap (kv:K->Value) (vv:V->Value) (h:∀ b,WL P ops Q rest (ZB fr dst (dX (.map (some b)))) (hM b kv vv []::hp)) :
  WL P ops Q (⟨dst,.makeMap t none,ty,ps,af,none⟩::rest) fr hp:=by
 refine WL.of fun P0 B w0 w a hh hf=>?_
 have hrun:(execOp a.eval ⟨dst,.makeMap t none,ty,ps,af,none⟩).run P w = .ok (.value (.map (some w.heap.size))) (w.alloc (ZAM [])):=by
  unfold execOp
  simp [Instr.makeMap,ZAM,ZU]
 refine Zl rfl hrun ?_
 have hx:=Ext.of_alloc w (ZAM [])
 have hb:∀ k,(hM w.heap.size kv vv []).blk=some k->w.heap.size≤k/\k<(w.alloc (ZAM [])).heap.size:=fun k hk=>by
  cases hk
  exact ⟨Nat.le_refl _,by simp⟩
 refine (h w.heap.size).on (hh.push hx hb (Zk w _)) ?_
 exact Fr.put (hf.mono fun d _ hd=>Zf hx (fun k hk=>(hb k hk).1) hd) rfl
section
variable [DecidableEq K]
theorem SY.lookM {x y:Operand} {v:K} (T:MapT P t k e z) (H:KeyT P k kv ok) (hx:OpD fr x (dX (.map (some b)))) (hm:hM b kv vv m∈hp) (hy:OpD fr y d) (hd:IsV d (kv v)) (ho:ok v) (hok:∀ p∈m,ok p.1) (hn:(m.map (·.1)).Nodup) :
  SY P ops hp ⟨dst,.lookup t x y false,ty,ps,af,g⟩ fr (dX (((Go.Proofs.YtlgmojhmmbhgfaaGreatDoor.lookM m v).map vv).getD z)):=ZAO fun {P0 B w0 w a} hh hon=>by
 have h1:a.eval x=_:=hx.get (by simp [Op.operands]) hon
 have h2:=hd.is _ _ _ (hy.get (by simp [Op.operands]) hon)
 refine ⟨_,w,?_,Ext.refl _,rfl⟩
 unfold execOp
 simp only [h1,h2,Sem.run_bind,ZDq T H hok hn ho (hh.ok _ hm) false,Result.andThen_ok,Sem.run_pure]
 rfl
theorem ZIV {x y:Operand} {v:K} (T:MapT P t k e z) (H:KeyT P k kv ok) (hx:OpD fr x (dX (.map (some b)))) (hm:hM b kv vv m∈hp) (hy:OpD fr y d) (hd:IsV d (kv v)) (ho:ok v) (hok:∀ p∈m,ok p.1) (hn:(m.map (·.1)).Nodup) :
  SY P ops hp ⟨dst,.lookup t x y true,ty,ps,af,g⟩ fr (dT [dX (((Go.Proofs.YtlgmojhmmbhgfaaGreatDoor.lookM m v).map vv).getD z),dB (Go.Proofs.YtlgmojhmmbhgfaaGreatDoor.lookM m v).isSome]):=ZAO fun {P0 B w0 w a} hh hon=>by
 have h1:a.eval x=_:=hx.get (by simp [Op.operands]) hon
 have h2:=hd.is _ _ _ (hy.get (by simp [Op.operands]) hon)
 refine ⟨_,w,?_,Ext.refl _,[((Go.Proofs.YtlgmojhmmbhgfaaGreatDoor.lookM m v).map vv).getD z,.bool (Go.Proofs.YtlgmojhmmbhgfaaGreatDoor.lookM m v).isSome],rfl,rfl,fun i e x he hx=>?_⟩
 ·unfold execOp
  simp only [h1,h2,Sem.run_bind,ZDq T H hok hn ho (hh.ok _ hm) true,Result.andThen_ok,Sem.run_pure]
  rfl
 ·match i,he,hx with
  | 0,he,hx=>cases he;cases hx;rfl
  | 1,he,hx=>cases he;cases hx;rfl
theorem ZM0 {x y c:Operand} {v:K} {u:V} (T:MapT P t k e z) (H:KeyT P k kv ok) (hx:OpD fr x (dX (.map (some b)))) (hy:OpD fr y d) (hd:IsV d (kv v)) (hc:OpD fr c d2) (hd2:IsV d2 (vv u)) (ho:ok v) (hok:∀ p∈m,ok p.1) (hn:(m.map (·.1)).Nodup)
  (h:WL P ops Q rest (ZB fr dst (dX undef)) (hM b kv vv (ZBy m v u)::hp)) :
  WL P ops Q (⟨dst,.mapUpdate t x y c,ty,ps,af,none⟩::rest) fr (hM b kv vv m::hp):=by
 refine WL.of fun P0 B w0 w a hh hf=>?_
 have h1:a.eval x=_:=hx.ev hf
 have h2:=hd.is _ _ _ (hy.ev hf)
 have h3:=hd2.is _ _ _ (hc.ev hf)
 have hrun:(execOp a.eval ⟨dst,.mapUpdate t x y c,ty,ps,af,none⟩).run P w = .ok .skip (w.putObj b (ZAM (ZAR kv vv (ZBy m v u)))):=by
  unfold execOp
  simp only [h1,h2,h3,Sem.run_bind,ZHD T H hok hn ho u (hh.ok (hM b kv vv m) (by simp)),Result.andThen_ok,Sem.run_pure]
  rfl
 refine wpList_plain rfl fun K hK=>?_
 unfold Oper.wp
 rw [hrun]
 exact hK _ _ (h.on (Hp.putObj hh) (Fr.put (hf.mono fun _ _ hd=>ZAg hd) (d:=dX undef) rfl))
end
theorem ZSF {x y:Operand} {v:K} (zv:V) (hz:vv zv=z) (T:MapT P t k e z) (H:KeyT P k kv ok) (hx:OpD fr x (dX (.map (some b)))) (hy:OpD fr y d) (hd:IsV d (kv v)) (ho:ok v) (hok:∀ p∈m,ok p.1)
  (h1:∀ (j:Nat) (hj:j<m.length),m[j].1=v->WL P ops Q rest (ZB fr dst (dT [dX (vv m[j].2),dI j])) (hM b kv vv m::hp))
  (h2:(∀ p∈m,p.1≠v)->WL P ops Q rest (ZB fr dst (dT [dX z,dI m.length])) (hM b kv vv (m++[(v,zv)])::hp)) :
  WL P ops Q (⟨dst,.mapEntry t x y,ty,ps,af,none⟩::rest) fr (hM b kv vv m::hp):=by
 refine WL.of fun P0 B w0 w a hh hf=>?_
 have e1:a.eval x=_:=hx.ev hf
 have e2:=hd.is _ _ _ (hy.ev hf)
 have hT:∀ {I:Nat->Prop} {w:World} (u:Value) (n:Int),(dT [dX u,dI n]).rd I w (.tuple #[u,.int .i64 n]):=fun u n=>⟨[u,.int .i64 n],rfl,rfl,fun i e x he hx=>by
  match i,he,hx with
  | 0,he,hx=>cases he;cases hx;rfl
  | 1,he,hx=>cases he;cases hx;rfl⟩
 rcases ZO3 T H hok ho (hh.ok (hM b kv vv m) (by simp)) with ⟨j,hj,hjv,hr⟩|⟨hne,hr⟩
 ·have hrun:(execOp a.eval ⟨dst,.mapEntry t x y,ty,ps,af,none⟩).run P w = .ok (.value (.tuple #[vv m[j].2,.int .i64 j])) (w.putObj b (ZAM (ZAR kv vv m))):=by
   unfold execOp
   simp only [e1,e2,Sem.run_bind,hr,Result.andThen_ok,Sem.run_pure]
   rfl
  refine Zl rfl hrun ?_
  exact (h1 j hj hjv).on (Hp.putObj hh) (Fr.put (hf.mono fun _ _ hd=>ZAg hd) (hT _ _))
 ·have hrun:(execOp a.eval ⟨dst,.mapEntry t x y,ty,ps,af,none⟩).run P w = .ok (.value (.tuple #[z,.int .i64 m.length])) (w.putObj b (ZAM (ZAR kv vv (m++[(v,zv)])))):=by
   unfold execOp
   simp only [e1,e2,Sem.run_bind,hr zv hz,Result.andThen_ok,Sem.run_pure]
   rfl
  refine Zl rfl hrun ?_
  exact (h2 hne).on (Hp.putObj hh) (Fr.put (hf.mono fun _ _ hd=>ZAg hd) (hT _ _))
theorem ZMx {x y c:Operand} {j:Nat} {u:V} (hx:OpD fr x (dX (.map (some b)))) (hy:OpD fr y (dI (j:Int))) (hc:OpD fr c d2) (hd2:IsV d2 (vv u)) (hj:j<m.length)
  (h:WL P ops Q rest (ZB fr dst (dX undef)) (hM b kv vv (m.set j (m[j].1,u))::hp)) :
  WL P ops Q (⟨dst,.entryStore t x y c,ty,ps,af,none⟩::rest) fr (hM b kv vv m::hp):=by
 refine WL.of fun P0 B w0 w a hh hf=>?_
 have h1:a.eval x=_:=hx.ev hf
 have h2:a.eval y = .int .i64 j:=hy.ev hf
 have h3:=hd2.is _ _ _ (hc.ev hf)
 have hrun:(execOp a.eval ⟨dst,.entryStore t x y c,ty,ps,af,none⟩).run P w = .ok .skip (w.putObj b (ZAM (ZAR kv vv (m.set j (m[j].1,u))))):=by
  unfold execOp
  simp only [h1,h2,h3,Sem.run_bind,ZGm hj u (hh.ok (hM b kv vv m) (by simp)),Result.andThen_ok,Sem.run_pure]
  rfl
 refine wpList_plain rfl fun K hK=>?_
 unfold Oper.wp
 rw [hrun]
 exact hK _ _ (h.on (Hp.putObj hh) (Fr.put (hf.mono fun _ _ hd=>ZAg hd) (d:=dX undef) rfl))
theorem ZSA {x:Operand} {ats:TypeId} (T:MapT P ats k e z) (hx:OpD fr x (dX (.map (some b)))) (hm:hM b kv vv m∈hp) :
  SY P ops hp ⟨dst,.call { callee:=.builtin .len,args:=#[x],argTypes:=#[ats] },ty,ps,af,g⟩ fr (dI (m.length:Int)):=ZAO fun {P0 B w0 w a} hh hon=>by
 have h1:a.eval x=_:=hx.get (by simp [Op.operands,Call.operands]) hon
 have hb:w.heap[b]?=some (.map _ _):=hh.ok _ hm
 refine ⟨.int .i64 m.length,w,?_,Ext.refl _,rfl⟩
 have hr:(Builtin.len_ #[ats] ty #[.map (some b)]).run P w = .ok (.int .i64 m.length) w:=by
  simp [Builtin.len_,run_underlying T.under,MapKept.run_getObj_map hb,Result.andThen,goInt,Z2,ZAR]
 unfold execOp
 simp [resolve,invoke,builtin,h1,hr,Result.andThen]
end
end
section
open Go.RowKit
def ZKc {K α:Type} (kv:K->Value) (R:Rel α):Rel (List (K × α)):=fun P w v m =>
 ∃ (b:Nat) (us:List Value),v = .map (some b)/\P b/\us.length=m.length/\w.heap[b]?=some (ZAM (ZAR kv id ((m.map (·.1)).zip us)))/\∀ k (h:k<us.length) (h':k<m.length),R P w us[k] m[k].2
theorem ZG7 {w:World} {b:Nat} {o:Obj} (h:w.heap[b]?=some o):b<w.heap.size:=(Array.getElem?_eq_some_iff.1 h).1
instance {K α:Type} (kv:K->Value) (R:Rel α) [Good R]:Good (ZKc kv R) where
 weak:=fun ⟨b,us,h1,h2,h3,h4,h5⟩ q=>⟨b,us,h1,q b h2,h3,h4,fun k a c=>Good.weak (h5 k a c) q⟩
 move:=fun ⟨b,us,h1,h2,h3,h4,h5⟩ q=>⟨b,us,h1,h2,h3,(q b h2 (ZG7 h4)).trans h4,fun k a c=>Good.move (h5 k a c) q⟩
 bound:=fun ⟨b,us,h1,h2,h3,h4,h5⟩=>⟨b,us,h1,⟨h2,ZG7 h4⟩,h3,h4,fun k a c=>Good.bound (h5 k a c)⟩
section
variable {P:Program} {ops:Array Oper} {hp:List HObj} {fr:List Dat} {d:Dat}
variable {dst:Option Tmp} {ty:TypeId} {ps:String} {af:Array Edge} {g:Option (Nat × Bool)} {t k e:TypeId} {z:Value} {K α:Type} [DecidableEq K] {kv:K->Value} {ok:K->Prop} {R:Rel α} {m:List (K × α)}
theorem ZON {m:List (K × α)} {us:List Value} (h:us.length=m.length) (x:K):(lookM m x=none/\lookM ((m.map (·.1)).zip us) x=none)\/∃ (j:Nat) (h1:j<us.length) (h2:j<m.length),lookM m x=some m[j].2/\lookM ((m.map (·.1)).zip us) x=some us[j]:=by
 induction m generalizing us with
 | nil=>exact .inl ⟨rfl,by cases us <;> rfl⟩
 | cons p m ih =>
  cases us with
  | nil=>simp at h
  | cons u us =>
   by_cases hp:p.1=x
   ·refine .inr ⟨0,by simp,by simp,?_,?_⟩
    ·unfold lookM;rw [List.find?_cons_of_pos (by simpa using hp)];rfl
    ·unfold lookM;simp only [List.map_cons,List.zip_cons_cons];rw [List.find?_cons_of_pos (by simpa using hp)];rfl
   ·rcases ih (us:=us) (by simpa using h) with ⟨h1,h2⟩|⟨j,h1,h2,h3,h4⟩
    ·refine .inl ⟨?_,?_⟩
     ·unfold lookM at h1 ⊢;rw [List.find?_cons_of_neg (by simpa using hp)];exact h1
     ·unfold lookM at h2 ⊢;simp only [List.map_cons,List.zip_cons_cons];rw [List.find?_cons_of_neg (by simpa using hp)];exact h2
    ·refine .inr ⟨j+1,by simpa using h1,by simpa using h2,?_,?_⟩
     ·unfold lookM at h3 ⊢;rw [List.find?_cons_of_neg (by simpa using hp)];exact h3
     ·unfold lookM at h4 ⊢;simp only [List.map_cons,List.zip_cons_cons];rw [List.find?_cons_of_neg (by simpa using hp)];exact h4
theorem ZFW [Good R] {x y:Operand} {v:K} {a0:α} (T:MapT P t k e z) (H:KeyT P k kv ok) (hx:OpD fr x (dS (ZKc kv R) m)) (hy:OpD fr y d) (hd:IsV d (kv v)) (ho:ok v) (hok:∀ p∈m,ok p.1) (hn:(m.map (·.1)).Nodup) (hz:∀ I w,R I w z a0) :
  SY P ops hp ⟨dst,.lookup t x y false,ty,ps,af,g⟩ fr (dS R ((Go.Proofs.YtlgmojhmmbhgfaaGreatDoor.lookM m v).getD a0)):=SY.val fun {I w a} hon=>by
 obtain ⟨b,us,h1,h2,h3,h4,h5⟩:=hx.get (by simp [Op.operands]) hon
 have h6:=hd.is _ _ _ (hy.get (by simp [Op.operands]) hon)
 have hkeys:((m.map (·.1)).zip us).map (·.1)=m.map (·.1):=by rw [List.map_fst_zip];simp [h3]
 refine ⟨((Go.Proofs.YtlgmojhmmbhgfaaGreatDoor.lookM ((m.map (·.1)).zip us) v).map id).getD z,?_,?_⟩
 ·unfold execOp
  simp only [h1,h6,Sem.run_bind,ZDq (vv:=id) T H (fun (p:K × Value) (hp:p∈(m.map (·.1)).zip us)=>by
   have:p.1∈m.map (·.1):=by rw [<- hkeys];exact List.mem_map_of_mem hp
   obtain ⟨q,hq,he⟩:=List.mem_map.1 this
   rw [<- he];exact hok q hq) (by rw [hkeys];exact hn) ho h4 false,Result.andThen_ok,Sem.run_pure]
  rfl
 ·rcases ZON h3 v with ⟨e1,e2⟩|⟨j,j1,j2,e1,e2⟩
  ·rw [e1,e2];exact hz I w
  ·rw [e1,e2];exact h5 j j1 j2
end
theorem FinD.map {hp:List HObj} {b:Nat} {e:TypeId} {K α:Type} {kv:K->Value} {R:Rel α} {_gR:Good R} {M:List (K × Value × List α)} (hm:hM b kv (fun p:Value × List α=>p.1) M∈hp) (hr:∀ p∈M,ZW p.2.1 e R p.2.2∈hp) :
  FinD hp (dX (.map (some b))) (dS (ZKc kv (Arr R)) (M.map fun p=>(p.1,p.2.2))):=FinD.mk fun {P0 B w0 w u} hh hd=>by
 have hb:w.heap[b]?=some (ZAM _):=hh.ok _ hm
 refine ⟨b,M.map fun p=>p.2.1,hd,ZDn hh hm rfl,by simp,?_,fun k h1 h2=>?_⟩
 ·rw [hb]
  congr 2
  unfold ZAR
  simp only [List.map_map]
  rw [List.zip_map',List.map_map]
  rfl
 ·have hk:k<M.length:=by simpa using h1
  have:Arr R (fun b=>P0 b\/B≤b) w M[k].2.1 M[k].2.2:=(FinD.row (hr _ (List.getElem_mem hk))).out (v:=M[k].2.1) hh rfl
  simpa using this
end
section
open Go.RowKit
abbrev hIt (b r n:Nat) (seen:Array Nat):HObj:=ZA2 r (.mapIter (some b) n seen n)
section
variable {P:Program} {w:World}
theorem ZEm {r:Nat} {a:Option Nat} {b:Nat} {c:Array Nat} {d:Nat} (h:w.heap[r]?=some (.mapIter a b c d)):(getObj r).run P w = .ok (.mapIter a b c d) w:=by simp [getObj,Sem.run,h]
theorem ZH9 {r:Nat} {a:Option Nat} {b:Nat} {c:Array Nat} {d:Nat} (o':Obj) (h:w.heap[r]?=some (.mapIter a b c d)):(setObj r o').run P w = .ok () (w.putObj r o'):=by simp [setObj,Sem.run,h,World.putObj]
theorem ZJU {ty:TypeId} {b r since c0 clock:Nat} {seen:Array Nat} {es:Array MapEntry} (hb:w.heap[b]?=some (.map es clock)) (hr:w.heap[r]?=some (.mapIter (some b) since seen c0)) (hold:∀ x∈es.toList,x.born<since) (hsc:since≤c0) :
  ((leftOf es seen).size=0/\(Instr.next (.pointer (some ⟨r,0,none⟩)) false ty).run P w = .ok (.tuple #[.bool false]) w) \/
  ∃ e∈(leftOf es seen).toList,∃ w1:World,(w1=w\/w1=w.drew)/\(Instr.next (.pointer (some ⟨r,0,none⟩)) false ty).run P w = .ok (.tuple #[.bool true,e.key,e.val]) (w1.putObj r (.mapIter (some b) since (seen.push e.born) clock)):=by
 simp only [Instr.next,Sem.run_bind,ZEm hr,MapKept.run_getObj_map hb,Result.andThen,next_test_false seen es since c0 hold hsc,Bool.false_eq_true,if_false]
 unfold leftOf
 have hmem:∀ x∈(Array.filter (fun e=>!seen.contains e.born) es).toList,x.born<since:=fun x hx=>hold x (by simp at hx ⊢;exact hx.1)
 generalize Array.filter (fun e=>!seen.contains e.born) es=L at hmem ⊢
 have e1:L.filter (fun x=>decide (x.born<since))=L:=Array.filter_eq_self.2 (fun x hx=>by simpa using hmem x (by simpa using hx))
 have e2:L.filter (fun x=>decide (x.born ≥ since))=#[]:=by
  rw [Array.filter_eq_empty_iff]
  intro x hx
  have:=hmem x (by simpa using hx)
  simp
  omega
 simp only [e1,e2,Array.append_empty]
 by_cases h0:L.size=0
 ·left
  have:L=#[]:=Array.eq_empty_of_size_eq_zero h0
  subst this
  refine ⟨rfl,?_⟩
  simp [choose,Sem.run,Question.forced]
 ·right
  have hne:L.isEmpty=false:=by simp [Array.isEmpty,h0]
  simp only [hne,Bool.false_eq_true,if_false,Array.empty_append,Array.size_map]
  have hch:∃ (j:Nat) (w1:World),j<L.size/\(w1=w\/w1=w.drew)/\(choose (Question.mapNext L.size)).run P w = .ok j w1:=by
   by_cases hf:L.size≤1
   ·exact ⟨0,w,by omega,.inl rfl,by simp [choose,Sem.run,Question.forced,hf]⟩
   ·exact ⟨_,w.drew,Nat.mod_lt _ (by omega),.inr rfl,by
     simp only [choose,Sem.run,Question.forced,decide_eq_true_eq,hf,if_false,Question.cut]
     rfl⟩
  obtain ⟨j,w1,hj,hal,hrun⟩:=hch
  refine ⟨L[j],by simp,w1,hal,?_⟩
  have hr1:w1.heap[r]?=some (.mapIter (some b) since seen c0):=by rcases hal with rfl|rfl <;> exact hr
  simp only [hrun,Array.getElem?_map,Array.getElem?_eq_getElem hj,Option.map_some,Sem.run_bind,ZH9 _ hr1,Result.andThen]
  rfl
end
section
variable {P:Program} {ops:Array Oper} {hp:List HObj} {o:Oper} {fr:List Dat} {d d2:Dat} {Q:ZAL} {rest:List Oper}
variable {dst:Option Tmp} {ty:TypeId} {ps:String} {af:Array Edge} {g:Option (Nat × Bool)} {t k e:TypeId} {z:Value} {K V:Type} {kv:K->Value} {ok:K->Prop} {vv:V->Value} {b r:Nat} {m:List (K × V)} {seen:Array Nat}
theorem ZId {x:Operand} (T:MapT P t k e z) (hx:OpD fr x (dX (.map (some b)))) (hm:hM b kv vv m∈hp)
  (h:∀ r,WL P ops Q rest (ZB fr dst (dX (.pointer (some ⟨r,0,none⟩)))) (hIt b r m.length #[]::hp)) :
  WL P ops Q (⟨dst,.range t x,ty,ps,af,none⟩::rest) fr hp:=by
 refine WL.of fun P0 B w0 w a hh hf=>?_
 have h1:a.eval x=_:=hx.ev hf
 have hb:w.heap[b]?=some (.map (ZU 0 (ZAR kv vv m)).toArray (ZAR kv vv m).length):=hh.ok _ hm
 have hl:(ZAR kv vv m).length=m.length:=by simp [ZAR]
 rw [hl] at hb
 have hrun:(execOp a.eval ⟨dst,.range t x,ty,ps,af,none⟩).run P w = .ok (.value (.pointer (some ⟨w.heap.size,0,none⟩))) (w.alloc (.mapIter (some b) m.length #[] m.length)):=by
  unfold execOp
  simp only [h1,Sem.run_bind,run_range_map w t k e b _ _ T.under hb,Result.andThen_ok,Sem.run_pure]
 refine Zl rfl hrun ?_
 have hx:=Ext.of_alloc w (.mapIter (some b) m.length #[] m.length)
 have hb:∀ k,(hIt b w.heap.size m.length #[]).blk=some k->w.heap.size≤k/\k<(w.alloc (.mapIter (some b) m.length #[] m.length)).heap.size:=fun k hk=>by
  cases hk
  exact ⟨Nat.le_refl _,by simp⟩
 refine (h w.heap.size).on (hh.push hx hb (Zk w _)) ?_
 exact Fr.put (hf.mono fun d _ hd=>Zf hx (fun k hk=>(hb k hk).1) hd) rfl
theorem ZKs {x:Operand} (hx:OpD fr x (dX (.pointer (some ⟨r,0,none⟩)))) (hm:hM b kv vv m∈hp)
  (h1:(∀ j,j<m.length->j∈seen)->WL P ops Q rest (ZB fr dst (dT [dB false])) (hIt b r m.length seen::hp))
  (h2:∀ (j:Nat) (hj:j<m.length),j∉seen->WL P ops Q rest (ZB fr dst (dT [dB true,dX (kv m[j].1),dX (vv m[j].2)])) (hIt b r m.length (seen.push j)::hp)) :
  WL P ops Q (⟨dst,.next x false,ty,ps,af,none⟩::rest) fr (hIt b r m.length seen::hp):=by
 refine WL.of fun P0 B w0 w a hh hf=>?_
 have e1:a.eval x=_:=hx.ev hf
 have hl:(ZAR kv vv m).length=m.length:=by simp [ZAR]
 have hb:w.heap[b]?=some (.map (ZU 0 (ZAR kv vv m)).toArray (ZAR kv vv m).length):=hh.ok (hM b kv vv m) (List.mem_cons_of_mem _ hm)
 rw [hl] at hb
 have hr:w.heap[r]?=some (.mapIter (some b) m.length seen m.length):=hh.ok (hIt b r m.length seen) (by simp)
 have hlen:(ZU 0 (ZAR kv vv m)).length=m.length:=by rw [Z2,hl]
 have hat:∀ (i:Nat) (h:i<m.length),(ZU 0 (ZAR kv vv m))[i]'(by rw [hlen];exact h)=⟨kv m[i].1,vv m[i].2,i⟩:=fun i h=>by
  rw [ZAq _ _ _ (by rw [hl];exact h)]
  simp [ZAR]
 have hold:∀ x∈((ZU 0 (ZAR kv vv m)).toArray).toList,x.born<m.length:=fun x hx=>by
  obtain ⟨i,hi,rfl⟩:=List.getElem_of_mem (by simpa using hx:x∈ZU 0 (ZAR kv vv m))
  rw [hlen] at hi
  rw [hat i hi];exact hi
 rcases ZJU (P:=P) (ty:=ty) hb hr hold (Nat.le_refl _) with ⟨hleft,hrun⟩|⟨en,hen,w1,hw1,hrun⟩
 ·have hr':(execOp a.eval ⟨dst,.next x false,ty,ps,af,none⟩).run P w = .ok (.value (.tuple #[.bool false])) w:=by
   unfold execOp
   simp only [e1,Sem.run_bind,hrun,Result.andThen_ok,Sem.run_pure]
  refine Zl rfl hr' ?_
  refine (h1 fun j hj=>?_).on hh (Fr.put hf ⟨[.bool false],rfl,rfl,fun i e x he hx=>by
   match i,he,hx with
   | 0,he,hx=>cases he;cases hx;rfl⟩)
  have h0:leftOf (ZU 0 (ZAR kv vv m)).toArray seen=#[]:=Array.eq_empty_of_size_eq_zero hleft
  unfold leftOf at h0
  rw [Array.filter_eq_empty_iff] at h0
  have hmem:(ZU 0 (ZAR kv vv m))[j]'(by rw [hlen];exact hj)∈(ZU 0 (ZAR kv vv m)).toArray:=by simp
  have:=h0 _ hmem
  rw [hat j hj] at this
  simpa using this
 ·have hen':en∈ZU 0 (ZAR kv vv m)/\en.born∉seen:=by
   unfold leftOf at hen
   simpa using hen
  obtain ⟨hen1,hen2⟩:=hen'
  obtain ⟨j,hj,rfl⟩:=List.getElem_of_mem hen1
  rw [hlen] at hj
  rw [hat j hj] at hrun hen2
  have hr':(execOp a.eval ⟨dst,.next x false,ty,ps,af,none⟩).run P w = .ok (.value (.tuple #[.bool true,kv m[j].1,vv m[j].2])) (w1.putObj r (.mapIter (some b) m.length (seen.push j) m.length)):=by
   unfold execOp
   simp only [e1,Sem.run_bind,hrun,Result.andThen_ok,Sem.run_pure]
  refine Zl rfl hr' ?_
  have hx1:Ext w w1:=by
   rcases hw1 with rfl|rfl
   ·exact Ext.refl _
   ·exact (Ext.refl _).drew
  have hT:∀ {I:Nat->Prop} {w:World},(dT [dB true,dX (kv m[j].1),dX (vv m[j].2)]).rd I w (.tuple #[.bool true,kv m[j].1,vv m[j].2]):=⟨[.bool true,kv m[j].1,vv m[j].2],rfl,rfl,fun i e x he hx=>by
   match i,he,hx with
   | 0,he,hx=>cases he;cases hx;rfl
   | 1,he,hx=>cases he;cases hx;rfl
   | 2,he,hx=>cases he;cases hx;rfl⟩
  exact (h2 j hj hen2).on (Hp.putObj (hh.ext hx1)) (Fr.put ((hf.ext hx1).mono fun _ _ hd=>ZAg hd) hT)
theorem ZIS {x:Operand} {j:Nat} (hx:OpD fr x (dX (.pointer (some ⟨r,0,none⟩)))) (hi:hIt b r m.length (seen.push j)∈hp) (hm:hM b kv vv m∈hp) (hj:j<m.length) :
  SY P ops hp ⟨dst,.entry x,ty,ps,af,g⟩ fr (dT [dX (kv m[j].1),dX (vv m[j].2)]):=ZAO fun {P0 B w0 w a} hh hon=>by
 have e1:a.eval x=_:=hx.get (by simp [Op.operands]) hon
 have hl:(ZAR kv vv m).length=m.length:=by simp [ZAR]
 have hb:w.heap[b]?=some (.map (ZU 0 (ZAR kv vv m)).toArray (ZAR kv vv m).length):=hh.ok (hM b kv vv m) hm
 rw [hl] at hb
 have hr:w.heap[r]?=some (.mapIter (some b) m.length (seen.push j) m.length):=hh.ok (hIt b r m.length (seen.push j)) hi
 have hlen:(ZU 0 (ZAR kv vv m)).length=m.length:=by rw [Z2,hl]
 have hat:∀ (i:Nat) (h:i<m.length),(ZU 0 (ZAR kv vv m))[i]'(by rw [hlen];exact h)=⟨kv m[i].1,vv m[i].2,i⟩:=fun i h=>by
  rw [ZAq _ _ _ (by rw [hl];exact h)]
  simp [ZAR]
 have hf:(ZU 0 (ZAR kv vv m)).toArray.find? (·.born == j)=some ⟨kv m[j].1,vv m[j].2,j⟩:=by
  rw [<- Array.find?_toList]
  rw [List.find?_eq_some_iff_getElem]
  refine ⟨by simp,j,by simp;rw [hlen];exact hj,by simpa using hat j hj,fun i hi=>?_⟩
  have:=hat i (by omega)
  simp [this];omega
 refine ⟨.tuple #[kv m[j].1,vv m[j].2],w,?_,Ext.refl _,[kv m[j].1,vv m[j].2],rfl,rfl,fun i e x he hx=>?_⟩
 ·unfold execOp
  have:(Instr.entry (.pointer (some ⟨r,0,none⟩))).run P w = .ok (.tuple #[kv m[j].1,vv m[j].2]) w:=by
   simp only [Instr.entry,Sem.run_bind,ZEm hr,MapKept.run_getObj_map hb,Result.andThen,Array.back?_push,bne_self_eq_false,Bool.false_eq_true,if_false,hf]
   rfl
  simp only [e1,Sem.run_bind,this,Result.andThen_ok,Sem.run_pure]
 ·match i,he,hx with
  | 0,he,hx=>cases he;cases hx;rfl
  | 1,he,hx=>cases he;cases hx;rfl
end
end
section
open Go.RowKit
theorem laidK:laidOutB Tryz.prog=true:=by kernel_rfl
def ZML (n:Int):Prop:=-9223372036854775808≤n/\n≤9223372036854775807
theorem wf64 {n:Int} (h:ZML n):(Lit.int .i64 n).wf=true:=by
 obtain ⟨h1,h2⟩:=h
 show (decide (IntKind.i64.min≤n) && decide (n≤IntKind.i64.max))=true
 have e1:IntKind.i64.min = -9223372036854775808:=by decide
 have e2:IntKind.i64.max=9223372036854775807:=by decide
 rw [e1,e2,decide_eq_true h1,decide_eq_true h2];rfl
def kvV (x:Int × Int):Value:=.agg #[.int .i64 x.1,.int .i64 x.2]
def okV (x:Int × Int):Prop:=ZML x.1/\ZML x.2
theorem ZUI:43<Tryz.prog.types.size:=of_decide_eq_true (by kernel_rfl)
theorem ZNS:Tryz.prog.cellsOf 43=2:=by kernel_rfl
theorem ZSM:Tryz.prog.cellsOf 3=1:=by kernel_rfl
theorem ZT5 (d:Nat) {x:Int × Int} (h:okV x):Tryz.prog.keyLits (d+2) 43 [.int .i64 x.1,.int .i64 x.2]=some [.int .i64 x.1,.int .i64 x.2]:=by
 obtain ⟨h1,h2⟩:=h
 unfold Program.keyLits
 simp only [Tryz.underlying43,ZNS]
 simp [ZSM,Program.keyLits,Tryz.underlying3,wf64 h1,wf64 h2]
theorem ZGN:KeyT Tryz.prog 43 kvV okV where
 law:=Go.Maps.Keyed.of_law (deep_law_laid laidK (m:=2) (by omega) ZUI (by kernel_rfl) (by rw [Tryz.underlying43]))
 lit:=fun x h=>by
  refine ⟨.string (keyBytes [.int .i64 x.1,.int .i64 x.2]),?_⟩
  unfold keyOf
  simp only [Tryz.underlying43]
  have hk:Tryz.prog.keyType 43=true:=by kernel_rfl
  have hf:(kvV x).formed Tryz.prog 43=true:=by simp [kvV,Value.formed,Tryz.underlying43,ZNS]
  obtain ⟨d,hd⟩:∃ d,Tryz.prog.types.size=d+1:=⟨Tryz.prog.types.size-1,by have:=ZUI;omega⟩
  rw [hk,hf,hd]
  have:=ZT5 d h
  simp only [Bool.and_self,if_true]
  rw [show (kvV x).cells.toList=[.int .i64 x.1,.int .i64 x.2] from rfl,this]
  rfl
 inj:=fun x y _ _ h=>by
  unfold kvV at h
  simp at h
  exact Prod.ext h.1 h.2
end
end Go.Proofs.YtlgmojhmmbhgfaaGreatDoor
