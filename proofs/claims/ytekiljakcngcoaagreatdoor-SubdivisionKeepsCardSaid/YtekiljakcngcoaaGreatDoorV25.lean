/- Part 25: walks by contracts, and plain laws. -/
import Derived.Test.YtekiljakcngcoaaGreatDoorV24
set_option linter.unusedVariables false
set_option linter.unusedSimpArgs false
set_option linter.unusedSectionVars false
set_option maxRecDepth 100000
set_option maxHeartbeats 4000000
namespace Go.Proofs.YtekiljakcngcoaaGreatDoor
section
open Go.RowKit
abbrev hIt (b r n:Nat) (seen:Array Nat):HObj:=ZAt r (.mapIter (some b) n seen n)
section
variable {P:Program} {w:World}
theorem ZEs {r:Nat} {a:Option Nat} {b:Nat} {c:Array Nat} {d:Nat} (h:w.heap[r]?=some (.mapIter a b c d)):(getObj r).run P w = .ok (.mapIter a b c d) w:=by simp [getObj,Sem.run,h]
theorem ZIb {r:Nat} {a:Option Nat} {b:Nat} {c:Array Nat} {d:Nat} (o':Obj) (h:w.heap[r]?=some (.mapIter a b c d)):(setObj r o').run P w = .ok () (w.putObj r o'):=by simp [setObj,Sem.run,h,World.putObj]
theorem ZJ4 {ty:TypeId} {b r since c0 clock:Nat} {seen:Array Nat} {es:Array MapEntry} (hb:w.heap[b]?=some (.map es clock)) (hr:w.heap[r]?=some (.mapIter (some b) since seen c0)) (hold:∀ x∈es.toList,x.born<since) (hsc:since≤c0) :
  ((leftOf es seen).size=0/\(Instr.next (.pointer (some ⟨r,0,none⟩)) false ty).run P w = .ok (.tuple #[.bool false]) w) \/
  ∃ e∈(leftOf es seen).toList,∃ w1:World,(w1=w\/w1=w.drew)/\(Instr.next (.pointer (some ⟨r,0,none⟩)) false ty).run P w = .ok (.tuple #[.bool true,e.key,e.val]) (w1.putObj r (.mapIter (some b) since (seen.push e.born) clock)):=by
 simp only [Instr.next,Sem.run_bind,ZEs hr,MapKept.run_getObj_map hb,Result.andThen,next_test_false seen es since c0 hold hsc,Bool.false_eq_true,if_false]
 unfold leftOf
 have hmem:∀ x∈(Array.filter (fun e=>!seen.contains e.born) es).toList,x.born<since:=fun x hx=>hold x (by simp at hx ⊢;exact hx.1)
 generalize Array.filter (fun e=>!seen.contains e.born) es=L at hmem ⊢
 have e1:L.filter (fun x=>decide (x.born<since))=L:=Array.filter_eq_self.2 (fun x hx=>by simpa using hmem x (by simpa using hx))
 have e2:L.filter (fun x=>decide (x.born ≥ since))=#[]:=by
  rw [Array.filter_eq_empty_iff]
  intro x hx
  have:=hmem x (by simpa using hx)
  simp
  omega
 simp only [e1,e2,Array.append_empty]
 by_cases h0:L.size=0
 ·left
  have:L=#[]:=Array.eq_empty_of_size_eq_zero h0
  subst this
  refine ⟨rfl,?_⟩
  simp [choose,Sem.run,Question.forced]
 ·right
  have hne:L.isEmpty=false:=by simp [Array.isEmpty,h0]
  simp only [hne,Bool.false_eq_true,if_false,Array.empty_append,Array.size_map]
  have hch:∃ (j:Nat) (w1:World),j<L.size/\(w1=w\/w1=w.drew)/\(choose (Question.mapNext L.size)).run P w = .ok j w1:=by
   by_cases hf:L.size≤1
   ·exact ⟨0,w,by omega,.inl rfl,by simp [choose,Sem.run,Question.forced,hf]⟩
   ·exact ⟨_,w.drew,Nat.mod_lt _ (by omega),.inr rfl,by
     simp only [choose,Sem.run,Question.forced,decide_eq_true_eq,hf,if_false,Question.cut]
     rfl⟩
  obtain ⟨j,w1,hj,hal,hrun⟩:=hch
  refine ⟨L[j],by simp,w1,hal,?_⟩
  have hr1:w1.heap[r]?=some (.mapIter (some b) since seen c0):=by rcases hal with rfl|rfl <;> exact hr
  simp only [hrun,Array.getElem?_map,Array.getElem?_eq_getElem hj,Option.map_some,Sem.run_bind,ZIb _ hr1,Result.andThen]
  rfl
end
section
variable {P:Program} {ops:Array Oper} {hp:List HObj} {o:Oper} {fr:List Dat} {d d2:Dat} {Q:ZAW} {rest:List Oper}
variable {dst:Option Tmp} {ty:TypeId} {ps:String} {af:Array Edge} {g:Option (Nat × Bool)} {t k e:TypeId} {z:Value} {K V:Type} {kv:K->Value} {ok:K->Prop} {vv:V->Value} {b r:Nat} {m:List (K × V)} {seen:Array Nat}
theorem ZI3 {x:Operand} (T:MapT P t k e z) (hx:OpD fr x (dX (.map (some b)))) (hm:hM b kv vv m∈hp)
  (h:∀ r,WL P ops Q rest (ZA fr dst (dX (.pointer (some ⟨r,0,none⟩)))) (hIt b r m.length #[]::hp)) :
  WL P ops Q (⟨dst,.range t x,ty,ps,af,none⟩::rest) fr hp:=by
 refine WL.of fun P0 B w0 w a hh hf=>?_
 have h1:a.eval x=_:=hx.ev hf
 have hb:w.heap[b]?=some (.map (Zd 0 (ZAO kv vv m)).toArray (ZAO kv vv m).length):=hh.ok _ hm
 have hl:(ZAO kv vv m).length=m.length:=by simp [ZAO]
 rw [hl] at hb
 have hrun:(execOp a.eval ⟨dst,.range t x,ty,ps,af,none⟩).run P w = .ok (.value (.pointer (some ⟨w.heap.size,0,none⟩))) (w.alloc (.mapIter (some b) m.length #[] m.length)):=by
  unfold execOp
  simp only [h1,Sem.run_bind,run_range_map w t k e b _ _ T.under hb,Result.andThen_ok,Sem.run_pure]
 refine Zu rfl hrun ?_
 have hx:=Ext.of_alloc w (.mapIter (some b) m.length #[] m.length)
 have hb:∀ k,(hIt b w.heap.size m.length #[]).blk=some k->w.heap.size≤k/\k<(w.alloc (.mapIter (some b) m.length #[] m.length)).heap.size:=fun k hk=>by
  cases hk
  exact ⟨Nat.le_refl _,by simp⟩
 refine (h w.heap.size).on (hh.push hx hb (Z0 w _)) ?_
 exact Fr.put (hf.mono fun d _ hd=>Z6 hx (fun k hk=>(hb k hk).1) hd) rfl
theorem ZLM {x:Operand} (hx:OpD fr x (dX (.pointer (some ⟨r,0,none⟩)))) (hm:hM b kv vv m∈hp)
  (h1:(∀ j,j<m.length->j∈seen)->WL P ops Q rest (ZA fr dst (dT [dB false])) (hIt b r m.length seen::hp))
  (h2:∀ (j:Nat) (hj:j<m.length),j∉seen->WL P ops Q rest (ZA fr dst (dT [dB true,dX (kv m[j].1),dX (vv m[j].2)])) (hIt b r m.length (seen.push j)::hp)) :
  WL P ops Q (⟨dst,.next x false,ty,ps,af,none⟩::rest) fr (hIt b r m.length seen::hp):=by
 refine WL.of fun P0 B w0 w a hh hf=>?_
 have e1:a.eval x=_:=hx.ev hf
 have hl:(ZAO kv vv m).length=m.length:=by simp [ZAO]
 have hb:w.heap[b]?=some (.map (Zd 0 (ZAO kv vv m)).toArray (ZAO kv vv m).length):=hh.ok (hM b kv vv m) (List.mem_cons_of_mem _ hm)
 rw [hl] at hb
 have hr:w.heap[r]?=some (.mapIter (some b) m.length seen m.length):=hh.ok (hIt b r m.length seen) (by simp)
 have hlen:(Zd 0 (ZAO kv vv m)).length=m.length:=by rw [Z7,hl]
 have hat:∀ (i:Nat) (h:i<m.length),(Zd 0 (ZAO kv vv m))[i]'(by rw [hlen];exact h)=⟨kv m[i].1,vv m[i].2,i⟩:=fun i h=>by
  rw [ZAq _ _ _ (by rw [hl];exact h)]
  simp [ZAO]
 have hold:∀ x∈((Zd 0 (ZAO kv vv m)).toArray).toList,x.born<m.length:=fun x hx=>by
  obtain ⟨i,hi,rfl⟩:=List.getElem_of_mem (by simpa using hx:x∈Zd 0 (ZAO kv vv m))
  rw [hlen] at hi
  rw [hat i hi];exact hi
 rcases ZJ4 (P:=P) (ty:=ty) hb hr hold (Nat.le_refl _) with ⟨hleft,hrun⟩|⟨en,hen,w1,hw1,hrun⟩
 ·have hr':(execOp a.eval ⟨dst,.next x false,ty,ps,af,none⟩).run P w = .ok (.value (.tuple #[.bool false])) w:=by
   unfold execOp
   simp only [e1,Sem.run_bind,hrun,Result.andThen_ok,Sem.run_pure]
  refine Zu rfl hr' ?_
  refine (h1 fun j hj=>?_).on hh (Fr.put hf ⟨[.bool false],rfl,rfl,fun i e x he hx=>by
   match i,he,hx with
   | 0,he,hx=>cases he;cases hx;rfl⟩)
  have h0:leftOf (Zd 0 (ZAO kv vv m)).toArray seen=#[]:=Array.eq_empty_of_size_eq_zero hleft
  unfold leftOf at h0
  rw [Array.filter_eq_empty_iff] at h0
  have hmem:(Zd 0 (ZAO kv vv m))[j]'(by rw [hlen];exact hj)∈(Zd 0 (ZAO kv vv m)).toArray:=by simp
  have:=h0 _ hmem
  rw [hat j hj] at this
  simpa using this
 ·have hen':en∈Zd 0 (ZAO kv vv m)/\en.born∉seen:=by
   unfold leftOf at hen
   simpa using hen
  obtain ⟨hen1,hen2⟩:=hen'
  obtain ⟨j,hj,rfl⟩:=List.getElem_of_mem hen1
  rw [hlen] at hj
  rw [hat j hj] at hrun hen2
  have hr':(execOp a.eval ⟨dst,.next x false,ty,ps,af,none⟩).run P w = .ok (.value (.tuple #[.bool true,kv m[j].1,vv m[j].2])) (w1.putObj r (.mapIter (some b) m.length (seen.push j) m.length)):=by
   unfold execOp
   simp only [e1,Sem.run_bind,hrun,Result.andThen_ok,Sem.run_pure]
  refine Zu rfl hr' ?_
  have hx1:Ext w w1:=by
   rcases hw1 with rfl|rfl
   ·exact Ext.refl _
   ·exact (Ext.refl _).drew
  have hT:∀ {I:Nat->Prop} {w:World},(dT [dB true,dX (kv m[j].1),dX (vv m[j].2)]).rd I w (.tuple #[.bool true,kv m[j].1,vv m[j].2]):=⟨[.bool true,kv m[j].1,vv m[j].2],rfl,rfl,fun i e x he hx=>by
   match i,he,hx with
   | 0,he,hx=>cases he;cases hx;rfl
   | 1,he,hx=>cases he;cases hx;rfl
   | 2,he,hx=>cases he;cases hx;rfl⟩
  exact (h2 j hj hen2).on (Hp.putObj (hh.ext hx1)) (Fr.put ((hf.ext hx1).mono fun _ _ hd=>ZAg hd) hT)
theorem ZIu {x:Operand} {j:Nat} (hx:OpD fr x (dX (.pointer (some ⟨r,0,none⟩)))) (hi:hIt b r m.length (seen.push j)∈hp) (hm:hM b kv vv m∈hp) (hj:j<m.length) :
  SY P ops hp ⟨dst,.entry x,ty,ps,af,g⟩ fr (dT [dX (kv m[j].1),dX (vv m[j].2)]):=ZAf fun {P0 B w0 w a} hh hon=>by
 have e1:a.eval x=_:=hx.get (by simp [Op.operands]) hon
 have hl:(ZAO kv vv m).length=m.length:=by simp [ZAO]
 have hb:w.heap[b]?=some (.map (Zd 0 (ZAO kv vv m)).toArray (ZAO kv vv m).length):=hh.ok (hM b kv vv m) hm
 rw [hl] at hb
 have hr:w.heap[r]?=some (.mapIter (some b) m.length (seen.push j) m.length):=hh.ok (hIt b r m.length (seen.push j)) hi
 have hlen:(Zd 0 (ZAO kv vv m)).length=m.length:=by rw [Z7,hl]
 have hat:∀ (i:Nat) (h:i<m.length),(Zd 0 (ZAO kv vv m))[i]'(by rw [hlen];exact h)=⟨kv m[i].1,vv m[i].2,i⟩:=fun i h=>by
  rw [ZAq _ _ _ (by rw [hl];exact h)]
  simp [ZAO]
 have hf:(Zd 0 (ZAO kv vv m)).toArray.find? (·.born == j)=some ⟨kv m[j].1,vv m[j].2,j⟩:=by
  rw [<- Array.find?_toList]
  rw [List.find?_eq_some_iff_getElem]
  refine ⟨by simp,j,by simp;rw [hlen];exact hj,by simpa using hat j hj,fun i hi=>?_⟩
  have:=hat i (by omega)
  simp [this];omega
 refine ⟨.tuple #[kv m[j].1,vv m[j].2],w,?_,Ext.refl _,[kv m[j].1,vv m[j].2],rfl,rfl,fun i e x he hx=>?_⟩
 ·unfold execOp
  have:(Instr.entry (.pointer (some ⟨r,0,none⟩))).run P w = .ok (.tuple #[kv m[j].1,vv m[j].2]) w:=by
   simp only [Instr.entry,Sem.run_bind,ZEs hr,MapKept.run_getObj_map hb,Result.andThen,Array.back?_push,bne_self_eq_false,Bool.false_eq_true,if_false,hf]
   rfl
  simp only [e1,Sem.run_bind,this,Result.andThen_ok,Sem.run_pure]
 ·match i,he,hx with
  | 0,he,hx=>cases he;cases hx;rfl
  | 1,he,hx=>cases he;cases hx;rfl
end
end
section
abbrev CntM:=List (List Vx × Int)
def ZSc (l:Cx) (d:Nat):Cx:=(l.map (Zw d)).flatten
theorem ZRC {l:Cx} {d:Nat} {f:List Vx}:f∈ZSc l d↔f∈ZBB l d:=by
 unfold ZSc
 rw [List.mem_flatten,ZBF]
 constructor
 ·rintro ⟨x,hx,hf⟩
  obtain ⟨s,hs,rfl⟩:=List.mem_map.1 hx
  exact ⟨s,hs,hf⟩
 ·rintro ⟨s,hs,hf⟩
  exact ⟨_,List.mem_map_of_mem hs,hf⟩
theorem ZHS {f s:List Vx} (hf:Asc f) (hs:Asc s):f.Sublist s↔ZA1 f s=true:=by
 constructor
 ·intro h
  unfold ZA1
  rw [List.all_eq_true]
  intro x hx
  simpa using h.subset hx
 ·intro h
  have hsub:∀ x∈f,x∈s:=fun x hx=>by
   have:=List.all_eq_true.1 h x hx
   simpa using this
  have e:ZDP s f true=f:=ZCq (ZG9 hs) hf fun x=>by
   rw [ZHM]
   constructor
   ·intro ⟨_,h⟩;simpa using h
   ·intro hx;exact ⟨hsub x hx,by simpa using hx⟩
  rw [<- e];exact ZFL
end
section
open Go.RowKit

abbrev vvI (n:Int):Value:=.int .i64 n
end
section
open Go.RowKit

abbrev vc:Vx:=(2,0)
abbrev vd:Vx:=(3,0)
end
section
open Go.RowKit

def ZHs:Nat->Nat->Nat
 | _,0=>1
 | 0,_+1=>0
 | n+1,k+1=>ZHs n k+ZHs n (k+1)
theorem ZCx:∀ (s:List Vx) (k:Nat),(Zw k s).length=ZHs s.length k
 | s,0=>by rw [ZM8];cases s <;> rfl
 | [],k+1=>by rw [ZA4 _ _ (by simp)];rfl
 | v::s,k+1=>by rw [ZM7,ZCx s k,ZCx s (k+1)];rfl
theorem ZTv (l:Cx):(ZCv l).length≤l.length:=List.Nodup.length_le_of_subset (ZFu l).nodup fun _ hx=>(ZCL.1 hx).1
end
section
theorem ZRR {l:Cx} {s:List Vx}:ZCa l s=true↔∃ f∈l,ZA1 s f=true:=by unfold ZCa;rw [List.any_eq_true]
theorem ZGE {s:List Vx} (h:Z3 s=0):0<s.length/\s.length≤8:=by
 obtain ⟨h1,h2,_⟩:=ZP.1 h
 exact ⟨by omega,h2⟩
theorem ZNn {l:Cx} (hl:∀ s∈l,Asc s) {k:Nat} {x:List Vx}:x∈ZBB l k↔Asc x/\x.length=k/\ZCa l x=true:=by
 rw [ZBF,ZRR]
 constructor
 ·rintro ⟨f,hf,hx⟩
  obtain ⟨h1,h2⟩:=(ZAw _ _ _).1 hx
  have ha:Asc x:=List.Pairwise.sublist h1 (hl f hf)
  exact ⟨ha,h2,f,hf,(ZHS ha (hl f hf)).1 h1⟩
 ·rintro ⟨ha,h2,f,hf,h⟩
  exact ⟨f,hf,(ZAw _ _ _).2 ⟨(ZHS ha (hl f hf)).2 h,h2⟩⟩
theorem ZNm {l:Cx} {k B:Nat} (h:∀ s∈l,(Zw k s).length≤B):(ZBB l k).length≤B*l.length:=by
 have h1:(ZBB l k).length≤(ZSc l k).length:=List.Nodup.length_le_of_subset (ZEL l _).nodup fun x hx=>ZRC.2 hx
 have h2:∀ l:Cx,(∀ s∈l,(Zw k s).length≤B)->(ZSc l k).length≤B*l.length:=by
  intro l
  induction l with
  | nil=>intro _;simp [ZSc]
  | cons s l ih =>
   intro h
   have h3:=ih fun x hx=>h x (List.mem_cons_of_mem _ hx)
   have h4:=h s (by simp)
   have h5:(ZSc (s::l) k).length=(Zw k s).length+(ZSc l k).length:=by unfold ZSc;simp
   rw [h5,List.length_cons,Nat.mul_add,Nat.mul_one]
   omega
 exact Nat.le_trans h1 (h2 l h)
theorem ZLd:∀ n≤5,∀ k≤5,ZHs n k≤10:=by decide
structure Gd (l:Cx):Prop where
 good:GoodX l
 few:l.length≤30
 five:∀ s∈l,s.length≤5
theorem Gd.all {l:Cx} (h:Gd l) (k:Nat):(ZBB l k).length≤300:=by
 have:=ZNm (l:=l) (k:=k) (B:=10) fun s hs=>by
  have h5:=h.five s hs
  by_cases hk:k≤5
  ·rw [ZCx];exact ZLd _ h5 _ hk
  ·rw [ZA4 k s (by omega)];simp
 have:=h.few
 omega
theorem Gd.zero {l:Cx} (h:Gd l):ZAr l=0:=Z4.2 h.good
theorem Gd.none {l:Cx} (h:Gd l) {k:Nat} (hk:5<k):ZBB l k=[]:=by
 apply List.eq_nil_iff_forall_not_mem.2
 intro x hx
 obtain ⟨f,hf,hx⟩:=ZBF.1 hx
 rw [ZA4 k f (by have:=h.five f hf;omega)] at hx
 simp at hx
def upC (l:Cx):Nat->Cx
 | 0=>[]
 | k+1=>upC l k++ZBB l (k+1)
theorem ZK4 {l:Cx} {x:List Vx}:∀ {k:Nat},x∈upC l k↔∃ j,1≤j/\j≤k/\x∈ZBB l j
 | 0=>by
  constructor
  ·intro h;simp [upC] at h
  ·rintro ⟨j,h1,h2,_⟩;omega
 | k+1=>by
  unfold upC
  rw [List.mem_append,ZK4]
  constructor
  ·rintro (⟨j,h1,h2,h3⟩|h)
   ·exact ⟨j,h1,by omega,h3⟩
   ·exact ⟨k+1,by omega,Nat.le_refl _,h⟩
  ·rintro ⟨j,h1,h2,h3⟩
   by_cases hj:j=k+1
   ·subst hj;exact .inr h3
   ·exact .inl ⟨j,h1,by omega,h3⟩
theorem ZUp {l:Cx} (h:GoodX l) (hl:∀ k,(ZBB l (k+1)).length≤4096):ZGw l=(ZD1 l 8,0):=by
 unfold ZGw
 rw [Z4.2 h,if_neg (by omega:¬ (0:Int)≠0),if_neg]
 intro hc
 rw [List.any_eq_true] at hc
 obtain ⟨k,_,h2⟩:=hc
 have:=of_decide_eq_true h2
 have:=hl k
 omega
theorem Gd.eul {l:Cx} (h:Gd l):ZGw l=(ZD1 l 8,0):=ZUp h.good fun k=>Nat.le_trans (h.all _) (by decide)
end
section
def ZC6 (a:Cx):List Vx:=ZCH [] a.flatten
theorem ZDi {a:Cx} {v:Vx}:v∈ZC6 a↔∃ s∈a,v∈s:=by unfold ZC6;rw [ZCM];simp
theorem ZFx (a:Cx):Asc (ZC6 a):=ZCp (by simp [Asc])
def Apart (a b:Cx):Prop:=∀ s∈a,∀ t∈b,∀ v∈s,v∉t
theorem Apart.symm {a b:Cx} (h:Apart a b):Apart b a:=fun s hs t ht v v1 v2=>h t ht s hs v v2 v1
end
end Go.Proofs.YtekiljakcngcoaaGreatDoor
namespace Go.Proofs.YtekiljakcngcoaaGreatDoor.M
section
open Go.RowKit

section
variable {P:Program} {ops:Array Oper} {hp:List HObj} {fr:List Dat} {dst:Option Tmp} {ty:TypeId} {ps:String} {af:Array Edge} {g:Option (Nat × Bool)} {t e:TypeId} {n bytes:Nat} {z:Value} {ag:Bool}
theorem SY.buildE (E:ElT P t e n z bytes ag) {α:Type} {R:Rel α} {_gR:Good R} {len:Nat} {parts:Array (Nat × Operand)} {els:List α} (hx:ElsD fr R (parts.toList.map Prod.snd) els) (hparts:parts.toList=((parts.toList.map Prod.snd).zipIdx).map (fun p=>(p.2,p.1))) (hl:len=els.length) (hn:0<n) (hs:∀ a,(dS R a).Shape n true) (hsm:els.length*n≤16777216) :
  SY P ops hp ⟨dst,.buildSlice t len parts,ty,ps,af,g⟩ fr (dS (ArrK n R) els):=SY.buildK E hx hparts hl hn hs hsm
end
theorem ZLf (x y:Vx):ZA7 [x] [y]=ZA8 x y:=by
 unfold ZA7
 by_cases h:ZA8 x y=0
 ·rw [if_pos h,h];rfl
 ·rw [if_neg h]
theorem vtx_p (x y:Vx):Fn Tryz.prog 95 [dS RV x,dS RV y] (dI (ZA8 x y)):=by
 (refine ZH Tryz.func95 rfl rfl ?_;simp only [Tryz.ntmps95,List.length_cons,List.length_nil,Nat.reduceAdd,Nat.reduceSub,List.replicate_succ,List.replicate_zero,List.cons_append,List.nil_append])
 ((repeat' (first|(apply ZS;(focus (apply SYG.yes;(exact Zc rfl);(first|(apply SY.assign <;> (exact oD))|(apply SY.load;(exact tD);(exact OpD.t rfl)))));dsimp only [ZA,z0,z1])|refine WL.nil ?_|refine ZC fun Kx hK=>?_|(refine hK _ _ ?_;clear hK)|refine WC.region ?_|(apply ZS;(focus (apply SYG.yes;(exact Zc rfl);((first|(apply SY.call (ZJN [x] [y]) Tryz.call61;(exact aD))|(apply SY.buildE;(exact eD);((try simp only [List.map_cons,List.map_nil]);(repeat (first|exact ZR|(apply ZQ;(first|exact OpD.t rfl|exact OpD.i|exact OpD.b|exact OpD.tle rfl (by first|exact ZD|exact ZB (by decide))|exact ⟨ZD⟩|exact ⟨ZB (by decide)⟩)))));rfl;rfl;decide;(intro _;exact Zo);(exact (by simp)))|(apply SY.box;(exact oD);(exact hD))|fail);all_goals infer_instance)));dsimp only [ZA,z0,z1])|refine WC.ret ?_));all_goals (first|((repeat clear hK);(repeat clear Kx))))
 all_goals (rw [ZLf];(refine ⟨trivial,_,rfl,?_⟩;refine FinD.i ?_);try rfl)
theorem vtx_x (x y:Vx) (w:World):Calls Tryz.prog 95 #[.agg #[.int .i64 x.1,.int .i64 x.2],.agg #[.int .i64 y.1,.int .i64 y.2]] w fun e w'=>e = .returned (.int .i64 (ZA8 x y))/\∃ q os',w'=Go.Sort.grow (w.drewN q) os':=by
 have:=(vtx_p x y).out (fun _=>True) w [.agg #[.int .i64 x.1,.int .i64 x.2],.agg #[.int .i64 y.1,.int .i64 y.2]] rfl (fun i d hd=>by
  match i with
  | 0=>cases hd;rfl
  | 1=>cases hd;rfl
  | i+2=>simp at hd)
 exact this.mono fun e w' ⟨v,h1,h2,h3⟩=>⟨by rw [h1];exact congrArg _ h3,h2.grow⟩
end
end Go.Proofs.YtekiljakcngcoaaGreatDoor.M
namespace Go.Proofs.YtekiljakcngcoaaGreatDoor
section
open Go.RowKit

section
variable {ops:Array Oper} {hp:List HObj} {fr:List Dat} {Q:ZAW} {rest:List Oper} {dst:Option Tmp} {ty:TypeId} {ps:String} {af:Array Edge}
theorem ZNX {x:Operand} {n:Nat} {ats:Array TypeId} (hx:OpD fr x (dI (n:Int))) (h0:n=0)
  (h:∀ v:Value,WL Tryz.prog ops Q rest (ZA fr dst (dX v)) (Zp v 50 2 RV ([]:List Vx)::hp)) :
  WL Tryz.prog ops Q (⟨dst,.call { callee:=.value (.func 126),args:=#[.const (.slice none 0 0),x],argTypes:=ats },ty,ps,af,none⟩::rest) fr hp:=by
 subst h0
 refine WL.of fun P0 B w0 w a hh hf=>?_
 have hcon:=Any8.slices_Grow_room Tryz.growV none 0 0 0 w (Nat.le_refl _) (by omega) (by omega) (by omega)
 change Calls Tryz.prog 126 _ _ _ at hcon
 have hev:a.eval x = .int .i64 ((0:Nat):Int):=hx.ev hf
 have hrun:(execOp a.eval ⟨dst,.call { callee:=.value (.func 126),args:=#[.const (.slice none 0 0),x],argTypes:=ats },ty,ps,af,none⟩).run Tryz.prog w = .ok (.enter 126 #[.slice none 0 0,.int .i64 ((0:Nat):Int)]) w:=by
  unfold execOp
  simp only [resolve]
  have he:(#[Operand.const (.slice none 0 0),x]:Array Operand).map a.eval=#[.slice none 0 0,.int .i64 ((0:Nat):Int)]:=by simp [hev];rfl
  rw [he]
  simp [Act.eval,Deferred.ofValue,invoke,Tryz.call126]
 refine wpList_plain rfl fun K hK=>?_
 unfold Oper.wp
 rw [hrun]
 refine hcon.mono fun e' w' ⟨he,hw'⟩=>?_
 subst he
 subst hw'
 refine hK _ _ ((ZG8 50 2 (by decide) RV (h (.slice none 0 0))).on hh (Fr.put hf rfl))
end
set_option maxHeartbeats 4000000 in
theorem ZQx (ss:List (List Vx)) (hl:ss.flatten.length≤1000):CallC Tryz.prog 94 [dS ZAe ss] [] (fun d hp2=>∃ v,d=dX v/\hp2=[Zp v 50 2 RV ss.flatten]):=by
 have hstep:∀ (k:Nat) (hk:k<ss.length),(ss.take (k+1)).flatten=(ss.take k).flatten++ss[k]:=fun k hk=>by rw [ZZ hk,List.flatten_append];simp
 have hle:∀ k:Nat,(ss.take k).flatten.length≤ss.flatten.length:=fun k=>by
  conv=>rhs;rw [<- List.take_append_drop k ss]
  rw [List.flatten_append,List.length_append];omega
 (refine ZAD Tryz.func94 rfl rfl (fun hp=>?_);simp only [Tryz.ntmps94,List.length_cons,List.length_nil,List.length_append,List.length_map,Nat.reduceAdd,Nat.reduceSub,List.replicate_succ,List.replicate_zero,List.cons_append,List.nil_append,List.map_cons,List.map_nil,List.append_assoc])
 (repeat' (first|(apply WL.opN;exact yF;dsimp only [ZA,z0,z1])|refine WL.nil ?_|refine ZC fun Kx hK=>?_|(refine hK _ _ ?_;clear hK)|refine WC.region ?_|(apply WL.opN;(focus ((first|(apply SY.len;(exact oD);(exact nD);(exact uD))|fail);all_goals infer_instance));dsimp only [ZA,z0,z1])|refine WC.block ?_))
 (first|refine Ze (t:=0) rfl ZFf fun hl0=>?_|refine Ze (t:=0) rfl ZFe fun hl0=>?_|refine Ze (t:=0) rfl ZQC fun hl0=>?_);simp only [maxLen] at hl0
 (refine WC.loopU (X:=Nat) (fun k=>[(3,dI ((ss.take k).flatten.length:Int)),(11,dI (k:Int)),(5,dA),(12,dA),(13,dA),(14,dA),(15,dA),(16,dA),(17,dA),(18,dA),(19,dA),(20,dA),(21,dA),(22,dA)]) (fun k=>hp) (fun k=>ss.length-k) (fun k=>k≤ss.length) 0 ?start ?frame0 ?objs0 ?round)
 case start=>simp
 case frame0=>((try dsimp only [Za,z0,z1]);repeat (first|exact LeF.nil|refine ZF (k:=?_)))
 case objs0=>rfl
 case round =>
  rintro k h1
  dsimp only [Za,z0,z1]
  have hk1:=hle k
  by_cases hks:k<ss.length
  ·((repeat' (first|(apply WL.opN;exact yF;dsimp only [ZA,z0,z1])|refine WL.nil ?_|refine ZC fun Kx hK=>?_|(refine hK _ _ ?_;clear hK)|refine WC.region ?_|(apply WL.opN;(focus ((first|(apply SY.add;exact OpD.t rfl;exact OpD.t rfl;(have:=hstep k (by omega);have h7:=hle (k+1);rw [this,List.length_append] at h7;omega))|((first|apply SY.move|apply SY.assign|apply SY.lss) <;> (exact oD))|((first|apply SY.add) <;> first|exact oD|omega)|(apply SY.len;(exact oD);(exact nD);(exact uD))|(apply SY.ix;(exact eD);(exact oD);(exact oD);exact kD)|fail);all_goals infer_instance));dsimp only [ZA,z0,z1])|(apply ZE;(exact oD);all_goals (intro h;try exact xD))|refine WC.skip ?_|refine WC.block ?_|refine ThenD.n ?_));all_goals (first|((repeat clear hK);(repeat clear Kx))))
   all_goals
    have h5:=hstep k (by omega)
    have h6:((ss.take (k+1)).flatten.length:Int)=(ss.take k).flatten.length+(ss[k]'(by omega)).length:=by rw [h5,List.length_append];rfl
    rw [<- h6]
    (refine ⟨k+1,?_,by first|omega|(simp only;omega),rfl,?_⟩;rotate_left;((try dsimp only [Za,z0,z1]);repeat (first|exact LeF.nil|refine ZF (k:=?_)));(try dsimp only))
    omega
  ·have hk2:(ss.take k).flatten=ss.flatten:=by rw [List.take_of_length_le (by omega)]
   rw [hk2]
   by_cases h0:0<ss.flatten.length
   all_goals
    (repeat' (first|(apply WL.opN;exact yF;dsimp only [ZA,z0,z1])|refine WL.nil ?_|refine ZC fun Kx hK=>?_|(refine hK _ _ ?_;clear hK)|(refine Kont.skip ?_;clear hK)|refine WC.region ?_ |  (apply ZQU;exact OpD.t rfl;exact h0;exact hl;intro vg;dsimp only [ZA,z0,z1]) |  (apply ZNX;exact OpD.t rfl;exact (by omega);intro vg;dsimp only [ZA,z0,z1])|(apply WL.opN;(focus ((first|((first|apply SY.move|apply SY.assign|apply SY.lss) <;> (exact oD))|(apply SY.len;(exact oD);(exact nD);(exact uD))|fail);all_goals infer_instance));dsimp only [ZA,z0,z1])|(apply ZE;(exact oD);all_goals (intro h;try exact xD))|refine WC.exit ?_|refine WC.block ?_))
    (refine WC.loopU (X:=Nat × Value) (fun x=>[(6,dX x.2),(27,dI (x.1:Int)),(8,dA),(28,dA),(29,dA),(30,dA),(31,dA),(32,dA),(33,dA),(34,dA)]) (fun x=>(Zp x.2 50 2 RV ((ss.take x.1).flatten)::hp)) (fun x=>ss.length-x.1) (fun x=>x.1≤ss.length) (0,vg) ?start ?frame0 ?objs0 ?round)
    case start=>simp
    case frame0=>((try dsimp only [Za,z0,z1]);repeat (first|exact LeF.nil|refine ZF (k:=?_)))
    case objs0=>rfl
    case round =>
     rintro ⟨j,u⟩ q1
     dsimp only [Za,z0,z1]
     simp only at q1
     have q2:=hle j
     have q3:∀ (hj:j<ss.length),(ss.take j).flatten.length+ss[j].length≤1000:=fun hj=>by
      have h7:=hle (j+1)
      rw [hstep j hj,List.length_append] at h7
      omega
     ((repeat' (first|(apply WL.opN;exact yF;dsimp only [ZA,z0,z1])|refine WL.nil ?_|refine ZC fun Kx hK=>?_|(refine hK _ _ ?_;clear hK)|(refine Kont.skip ?_;clear hK)|refine WC.region ?_ |  (apply WL.appK;exact elV;exact OpD.t rfl;exact OpD.t rfl;decide;(have:=q3 (by omega);omega);(intro _;dsimp only [ZA,z0,z1]);all_goals (try infer_instance))|(apply WL.opN;(focus ((first|((first|apply SY.move|apply SY.assign|apply SY.lss) <;> (exact oD))|((first|apply SY.add) <;> first|exact oD|omega)|(apply SY.ix;(exact eD);(exact oD);(exact oD);exact kD)|fail);all_goals infer_instance));dsimp only [ZA,z0,z1])|(apply ZE;(exact oD);all_goals (intro h;try exact xD))|refine WC.skip ?_|refine WC.ret ?_|refine WC.exit ?_|refine WC.block ?_|refine ThenD.n ?_));all_goals (first|((repeat clear hK);(repeat clear Kx))))
     ·(refine ⟨(j+1,_) , ?_,by first|omega|(simp only;omega),by ((try simp only);  (rw [hstep j (by omega)])),?_⟩;rotate_left;((try dsimp only [Za,z0,z1]);repeat (first|exact LeF.nil|refine ZF (k:=?_)));(try dsimp only))
      omega
     ·exact ⟨trivial,_,[_],rfl,rfl,u,rfl,by rw [List.take_of_length_le (by omega)]⟩
theorem ZLs {l:Cx} (h:∀ s∈l,s.length≤8):l.flatten.length≤8*l.length:=by
 induction l with
 | nil=>simp
 | cons s l ih =>
  have h1:=ih fun x hx=>h x (List.mem_cons_of_mem _ hx)
  have h2:=h s (by simp)
  rw [List.flatten_cons,List.length_append,List.length_cons]
  omega
set_option maxHeartbeats 4000000 in
theorem ZK6 (l:Cx) (hfl:l.flatten.length≤1000):Fn Tryz.prog 71 [dS ZAe l] (dS ZI (ZC6 l)):=by
 (refine ZH Tryz.func71 rfl rfl ?_;simp only [Tryz.ntmps71,List.length_cons,List.length_nil,Nat.reduceAdd,Nat.reduceSub,List.replicate_succ,List.replicate_zero,List.cons_append,List.nil_append])
 ((repeat' (first|(apply WL.opN;exact yF;dsimp only [ZA,z0,z1])|refine WL.nil ?_|refine ZC fun Kx hK=>?_|(refine hK _ _ ?_;clear hK)|refine WC.region ?_ |  (refine ZAT (hp1:=[]) (caps:=[]) (ZQx l (by omega)) Tryz.call94 OpD.f (ArgsD.cons (OpD.t rfl) ArgsD.nil) ?_;rintro d' hp2 ⟨vc,rfl,rfl⟩;dsimp only [ZA,z0,z1,List.cons_append,List.nil_append]) |  (refine ZEJ Tryz.call95 M.vtx_x (OpD.t rfl) (by omega) ?_;intro ys hperm hsort;dsimp only [ZA,z0,z1]) |  (refine ZLK (ZJO ys vc hsort (by rw [hperm.length_eq];omega)) Tryz.call96 ?_ ?_;(exact aD);intro vd zs hzs;dsimp only [ZA,z0,z1])|refine WC.ret ?_));all_goals (first|((repeat clear hK);(repeat clear Kx))))
 all_goals
  have hz:zs=ZC6 l:=ZCq hzs.1 (ZFx l) fun u=>by rw [hzs.2,hperm.mem_iff,ZDi,List.mem_flatten]
  subst hz
  (refine ⟨trivial,_,rfl,?_⟩;exact fD)
def ZSw (l:Cx):List Vx × Int:=if ZAr l≠0 then ([],ZAr l) else (ZC6 l,0)
theorem ZKC (l:Cx) (hl:ZAr l=0->l.flatten.length≤1000):Fn Tryz.prog 37 [dS Cpx l] (dT [dS ZI (ZSw l).1,dI (ZSw l).2]):=by
 (refine ZAl Tryz.func37 rfl rfl ?_;simp only [Tryz.ntmps37,List.length_cons,List.length_nil,Nat.reduceAdd,Nat.reduceSub,List.replicate_succ,List.replicate_zero,List.cons_append,List.nil_append])
 by_cases h0:ZAr l=0
 ·have e:ZSw l=(ZC6 l,0):=by unfold ZSw;rw [if_neg (by omega)]
  have c1:=ZK6 l (hl h0)
  ((repeat' (first|(apply WL.opN;exact yF;dsimp only [ZA,z0,z1])|refine WL.nil ?_|refine ZC fun Kx hK=>?_|(refine hK _ _ ?_;clear hK)|refine WC.region ?_|(apply WL.opN;(focus ((first|(apply SY.call (ZBe _) Tryz.call32;(exact aD))|(apply SY.call (c1) Tryz.call71;(exact aD))|((first|apply SY.move|apply SY.assign|apply SY.neq) <;> (exact oD))|(apply Zb ZAA;exact OpD.t rfl)|(apply SY.box;(exact oD);(exact hD))|fail);all_goals infer_instance));dsimp only [ZA,z0,z1])|(apply WC.condN;(exact oD);all_goals (intro h;try exact xD))|refine WC.skip ?_|refine WC.ret ?_));all_goals (first|((repeat clear hK);(repeat clear Kx))))
  rw [e];(refine ⟨trivial,⟨_,rfl,?_⟩,_,rfl,?_⟩ <;> exact fD)
 ·have e:ZSw l=([],ZAr l):=by unfold ZSw;rw [if_pos h0]
  ((repeat' (first|(apply WL.opN;exact yF;dsimp only [ZA,z0,z1])|refine WL.nil ?_|refine ZC fun Kx hK=>?_|(refine hK _ _ ?_;clear hK)|refine WC.region ?_|(apply WL.opN;(focus ((first|(apply SY.call (ZBe _) Tryz.call32;(exact aD))|((first|apply SY.move|apply SY.assign|apply SY.neq) <;> (exact oD))|(apply SY.box;(exact oD);(exact hD))|fail);all_goals infer_instance));dsimp only [ZA,z0,z1])|(apply WC.condN;(exact oD);all_goals (intro h;try exact xD))|refine WC.ret ?_|refine ThenD.r ?_));all_goals (first|((repeat clear hK);(repeat clear Kx))))
  rw [e];(refine ⟨trivial,⟨_,rfl,?_⟩,_,rfl,?_⟩ <;> exact fD)
end
end Go.Proofs.YtekiljakcngcoaaGreatDoor
