/- Part 30: walks by contracts, and plain laws. -/
import Derived.Test.YtekiljakcngcoaaGreatDoorV29
set_option linter.unusedVariables false
set_option linter.unusedSimpArgs false
set_option linter.unusedSectionVars false
set_option maxRecDepth 100000
set_option maxHeartbeats 4000000
namespace Go.Proofs.YtekiljakcngcoaaGreatDoor
section
open Go.RowKit
def dLow (b:Nat) (d:Dat):Dat:=⟨fun P w v=>d.rd (fun k=>P k/\k<b) w v,fun h q=>d.weak h fun k hk=>⟨q k hk.1,hk.2⟩,fun h q=>d.move h fun k hk hl=>q k hk.1 hl,fun h=>d.weak (d.bound h) fun k hk=>⟨⟨hk.1.1,hk.2⟩,hk.1.2⟩⟩
theorem ZKe {b:Nat} {d:Dat}:(dLow b d).le d:=fun _ _ _ h=>d.weak h fun _ hk=>hk.1
def ZTB (b:Nat) (d:Dat):Prop:=∀ (P:Nat->Prop) (w w':World) (v:Value),d.rd P w v->(∀ k,k<b->k<w.heap.size->w'.heap[k]?=w.heap[k]?)->d.rd P w' v
theorem ZId {b:Nat} {d:Dat}:ZTB b (dLow b d):=fun _ _ _ _ h q=>d.move h fun k hk hl=>q k hk.2 hl
theorem ZPd {b:Nat} {v:Value}:ZTB b (dX v):=fun _ _ _ _ h _=>h
theorem ZPc {b:Nat}:ZTB b dA:=fun _ _ _ _ _ _=>trivial
structure SafeO (e:TypeId) (b:Nat) (o:HObj):Prop where
 kept:∀ (P:Nat->Prop) (w w':World),o.ok P w->o.blk≠some b->(∀ k,k<b->k<w.heap.size->w'.heap[k]?=w.heap[k]?)->Lib.OthersKept e (some b) w w'->o.ok P w'
 kind:∀ (P:Nat->Prop) (w:World) (k:Nat),o.ok P w->o.blk=some k->∃ cs T fz,w.heap[k]?=some (.cells cs T fz)/\T≠e
theorem ZRs {e T:TypeId} {b c:Nat} {ds:List Dat} (hT:T≠e) (h:∀ d∈ds,ZTB b d):SafeO e b (ZAP c T ds) :=
 ⟨fun _ _ _ ⟨cs,c1,c2,c3,c4⟩ hne hb hk=>⟨cs,hk c _ c1 (fun he=>hne he) (fun _ _ he=>by cases he;exact hT rfl),c2,c3,fun k u d hu hd=>h d (List.mem_of_getElem? hd) _ _ _ _ (c4 k u d hu hd) hb⟩,
  fun _ _ _ ⟨_,c1,_,_,_⟩ hk=>by cases hk;exact ⟨_,_,_,c1,hT⟩⟩
def ZH7 (b:Nat) (T e:TypeId) (l:List UInt8):HObj where
 blk:=some b
 ok:=fun P w=>∃ p v,(p = .pointer none\/p = .pointer (some ⟨b,0,none⟩))/\w.heap[b]?=some (.cells #[p,v] T (0,0))/\w.ownsRowF b e 1 v (Lib.byteCells l).length (Lib.byteCells l)/\v.ownBlock≠some b/\∀ g,v.ownBlock=some g->P g
 weak:=fun h q=>by
  obtain ⟨p,v,h1,h2,h3,h4,h5⟩:=h
  exact ⟨p,v,h1,h2,h3,h4,fun g hg=>q g (h5 g hg)⟩
 bound:=fun h=>by
  obtain ⟨p,v,h1,h2,h3,h4,h5⟩:=h
  exact ⟨p,v,h1,h2,h3,h4,fun g hg=>⟨h5 g hg,(h3.lt g hg).2⟩⟩
 move:=fun {P w w' row} h hg hP hne=>by
  obtain ⟨p,v,h1,h2,h3,h4,h5⟩:=h
  have hlt:b<w.heap.size:=(Array.getElem?_eq_some_iff.1 h2).1
  refine ⟨p,v,h1,(hg.block b hlt ?_).trans h2,h3.kept hg ?_,h4,h5⟩
  ·rcases hne with h|h
   ·cases h
   ·exact h
  ·cases hv:v.ownBlock with
   | none=>exact .inl rfl
   | some g=>exact .inr fun he=>hP g he.symm (h5 g hv)
section
variable {P:Program} {ops:Array Oper} {hp:List HObj} {fr:List Dat} {Q:ZAW} {rest:List Oper}
variable {dst:Option Tmp} {ty:TypeId} {ps:String} {af:Array Edge} {g:Option (Nat × Bool)} {T e:TypeId} {b:Nat} {l:List UInt8}
theorem ZEH (t:Nat) (h:WL P ops Q rest (fr.set t dA) hp):WL P ops Q rest fr hp:=WL.of fun P0 B w0 w a hh hf=>h.on hh (hf.weak (by simp) fun k d hd=>by
 rw [List.getElem?_set] at hd
 by_cases hk:t=k
 ·rw [if_pos hk] at hd
  split at hd
  ·rename_i hl
   cases hd
   exact ⟨fr[t],by rw [<- hk];exact List.getElem?_eq_getElem hl,ZG5 _⟩
  ·cases hd
 ·rw [if_neg hk] at hd
  exact ⟨d,hd,Dat.le_refl d⟩)
theorem ZKR (hz:TyZ P T (.agg #[.pointer none,.slice none 0 0])) (h:∀ b,WL P ops Q rest (ZA (fr.map (dLow b)) dst (dX (.pointer (some ⟨b,0,none⟩)))) [ZH7 b T e []]) :
  WL P ops Q (⟨dst,.alloc T,ty,ps,af,none⟩::rest) fr []:=by
 refine WL.of fun P0 B w0 w a hh hf=>?_
 have hrun:(execOp a.eval ⟨dst,.alloc T,ty,ps,af,none⟩).run P w = .ok (.value (.pointer (some ⟨w.heap.size,0,none⟩))) (w.alloc (.cells #[.pointer none,.slice none 0 0] T)):=by
  cases hq:P.info? T with
  | none=>have:=hz.out;simp [hq] at this
  | some i =>
   have hz':i.zero=some (.agg #[.pointer none,.slice none 0 0]):=by have:=hz.out;simpa [hq] using this
   unfold execOp
   simp [Instr.alloc,zeroValue,typeInfo,hq,hz',newVar,newRow]
   rfl
 refine Zu rfl hrun ?_
 have hx:=Ext.of_alloc w (.cells #[.pointer none,.slice none 0 0] T)
 have hb:∀ k,(ZH7 w.heap.size T e []).blk=some k->w.heap.size≤k/\k<(w.alloc (.cells #[.pointer none,.slice none 0 0] T)).heap.size:=fun k hk=>by
  cases hk
  exact ⟨Nat.le_refl _,by simp⟩
 have hf2:Fr (Imm P0 B [ZH7 w.heap.size T e []]) (w.alloc (.cells #[.pointer none,.slice none 0 0] T)) a (fr.map (dLow w.heap.size)):=by
  refine ⟨hf.defers,by simpa using hf.size,fun t d hd=>?_⟩
  rw [List.getElem?_map] at hd
  cases ht:fr[t]? with
  | none=>rw [ht] at hd;cases hd
  | some d0 =>
   rw [ht] at hd
   cases hd
   have h1:=d0.bound (hf.rd t d0 ht)
   have h2:=Dat.ext h1 hx
   refine d0.weak h2 fun k hk=>⟨⟨hk.1.1,fun q hq hqk=>?_⟩,hk.2⟩
   cases List.mem_singleton.1 hq
   cases hqk
   exact absurd hk.2 (Nat.lt_irrefl _)
 exact (h w.heap.size).on (hh.push hx hb ⟨_,_,.inl rfl,Z0 w _,World.ownsRowF_nil _ _ _ _,(by simp [Value.ownBlock]),fun g hg=>by simp [Value.ownBlock] at hg⟩) (Fr.put hf2 rfl)
theorem ZSM {P0:Nat->Prop} {B:Nat} {w0 w w':World} {l l':List UInt8} (hh:Hp P0 B w0 (ZH7 b T e l::hp) w) (hs:∀ o∈hp,SafeO e b o)
  (hI:Lib.IsBuilderF T e b b (Lib.byteCells l') w') (hb:Below b w w') (hk:Lib.OthersKept e (some b) w w'):Hp P0 B w0 (ZH7 b T e l'::hp) w':=by
 have hBb:=(hh.own (ZH7 b T e l) (by simp) b rfl).1
 have hq:∀ k,k<b->k<w.heap.size->w'.heap[k]?=w.heap[k]?:=fun k h1 _=>hb.block k h1
 have hap:=List.pairwise_cons.1 hh.apart
 have hne:∀ o∈hp,o.blk≠some b:=fun o ho=>hap.1 o ho b rfl
 refine ⟨hh.base,?_,?_,?_,List.pairwise_cons.2 ⟨fun o ho k hk=>hap.1 o ho k hk,hap.2⟩⟩
 ·exact hh.below.trans (hb.mono hBb)
 ·intro o ho k hok
  rcases List.mem_cons.1 ho with rfl|ho
  ·cases hok
   exact ⟨hBb,Nat.lt_of_lt_of_le (hh.own (ZH7 b T e l) (by simp) b rfl).2 hb.size⟩
  ·have:=hh.own o (List.mem_cons_of_mem _ ho) k hok
   exact ⟨this.1,Nat.lt_of_lt_of_le this.2 hb.size⟩
 ·intro o ho
  rcases List.mem_cons.1 ho with rfl|ho
  ·obtain ⟨p,v,hp1,hA⟩:∃ p v,(p = .pointer none\/p = .pointer (some ⟨b,0,none⟩))/\w'.heap[b]?=some (.cells #[p,v] T (0,0))/\w'.ownsRowF b e 1 v (Lib.byteCells l').length (Lib.byteCells l')/\v.ownBlock≠some b:=by
    rcases hI with ⟨_,v,h1,h2,h3⟩|⟨_,v,h1,h2,h3⟩
    ·exact ⟨_,v,.inl rfl,h1,h2,h3⟩
    ·exact ⟨_,v,.inr rfl,h1,h2,h3⟩
   refine ⟨p,v,hp1,hA.1,hA.2.1,hA.2.2,fun g hg=>⟨.inr (Nat.le_trans hBb (hA.2.1.lt g hg).1),fun q hq2 hqk=>?_⟩⟩
   rcases List.mem_cons.1 hq2 with rfl|hq2
   ·cases hqk
    exact hA.2.2 hg
   ·have hok:=hh.ok q (List.mem_cons_of_mem _ hq2)
    have hok':=(hs q hq2).kept _ _ _ hok (hne q hq2) hq hk
    obtain ⟨cs,T',fz,h1,h2⟩:=(hs q hq2).kind _ _ _ hok' hqk
    obtain ⟨c,fz',h3⟩:=Lib.ownsRowF_kind hA.2.1 g hg
    rw [h1] at h3
    cases h3
    exact h2 rfl
  ·have hok:=hh.ok o (List.mem_cons_of_mem _ ho)
   exact o.weak ((hs o ho).kept _ _ _ hok (hne o ho) hq hk) fun k hk=>⟨hk.1,fun q hq2=>by
    rcases List.mem_cons.1 hq2 with rfl|hq2
    ·exact hk.2 (ZH7 b T e l) (by simp)
    ·exact hk.2 q (List.mem_cons_of_mem _ hq2)⟩
theorem ZSL {P0:Nat->Prop} {B:Nat} {w w':World} {a:Act} {l l':List UInt8} (hf:Fr (Imm P0 B (ZH7 b T e l::hp)) w a fr) (hfr:∀ d∈fr,ZTB b d) (hb:Below b w w'):Fr (Imm P0 B (ZH7 b T e l'::hp)) w' a fr :=
 ⟨hf.defers,hf.size,fun t d hd=>d.weak (hfr d (List.mem_of_getElem? hd) _ _ _ _ (hf.rd t d hd) fun k h1 _=>hb.block k h1) fun k hk=>⟨hk.1,fun q hq2=>by
  rcases List.mem_cons.1 hq2 with rfl|hq2
  ·exact hk.2 (ZH7 b T e l) (by simp)
  ·exact hk.2 q (List.mem_cons_of_mem _ hq2)⟩⟩
theorem ZSN {I:Nat->Prop} {w:World} (h:(ZH7 b T e l).ok I w):Lib.IsBuilderF T e b b (Lib.byteCells l) w:=by
 obtain ⟨p,v,hp1,h1,h2,h3,_⟩:=h
 rcases hp1 with rfl|rfl
 ·exact .inl ⟨Nat.le_refl _,v,h1,h2,h3⟩
 ·exact .inr ⟨Nat.le_refl _,v,h1,h2,h3⟩
theorem ZTF {f:FuncId} {x y:Operand} {ats:Array TypeId} {s:List UInt8}
  (hF:∀ (B b:Nat) (bs:List Value) (s:ByteArray) (w:World),Lib.IsBuilderF T e B b bs w->bs.length+s.size≤140737488355328->B≤w.heap.size->Calls P f #[.pointer (some ⟨b,0,none⟩),.string s] w fun r w'=>r = .returned (.tuple #[.int .i64 s.size,.nilIface])/\(Lib.BuilderAtF T e B b (.pointer (some ⟨b,0,none⟩)) (bs++Lib.strCells s) w'/\Below B w w'/\Lib.OthersKept e (some b) w w'))
  (hf:∀ (args:Array Value) (w:World),(callFunc f args).run P w = .ok (.enter f args) w) (hx:OpD fr x (dX (.pointer (some ⟨b,0,none⟩)))) (hy:OpD fr y (dX (.string ⟨s.toArray⟩)))
  (hlen:l.length+s.length≤140737488355328) (hfr:∀ d∈fr,ZTB b d) (hs:∀ o∈hp,SafeO e b o) (h:WL P ops Q rest (ZA fr dst dA) (ZH7 b T e (l++s)::hp)) :
  WL P ops Q (⟨dst,.call { callee:=.value (.func f),args:=#[x,y],argTypes:=ats },ty,ps,af,none⟩::rest) fr (ZH7 b T e l::hp):=by
 refine WL.of fun P0 B w0 w a hh hf2=>?_
 have e1:a.eval x=_:=hx.ev hf2
 have e2:a.eval y=_:=hy.ev hf2
 refine wpList_plain rfl fun K hK=>?_
 unfold Oper.wp
 have hrun:(execOp a.eval ⟨dst,.call { callee:=.value (.func f),args:=#[x,y],argTypes:=ats },ty,ps,af,none⟩).run P w = .ok (.enter f #[.pointer (some ⟨b,0,none⟩),.string ⟨s.toArray⟩]) w:=by
  unfold execOp
  have ef:a.eval (.func f) = .func (.func f) #[] #[]:=rfl
  simp only [resolve]
  simp [ef,e1,e2,Deferred.ofValue,invoke,hf]
 rw [hrun]
 have hlt:=(hh.own (ZH7 b T e l) (by simp) b rfl).2
 refine (hF b b (Lib.byteCells l) ⟨s.toArray⟩ w (ZSN (hh.ok _ (by simp))) (by rw [Lib.byteCells_length];simpa [ByteArray.size] using hlen) (Nat.le_of_lt hlt)).mono fun r w' hr=>?_
 obtain ⟨rfl,hA,hb,hk⟩:=hr
 rw [show Lib.strCells ⟨s.toArray⟩=Lib.byteCells s from rfl,<- Lib.byteCells_append] at hA
 exact hK _ _ (h.on (ZSM hh hs (.inr hA) hb hk) (Fr.put (ZSL hf2 hfr hb) (d:=dA) trivial))
theorem ZQZ {f:FuncId} {x:Operand} {ats:Array TypeId}
  (hF:∀ (B b:Nat) (l:List UInt8) (w:World),Lib.IsBuilderF T e B b (Lib.byteCells l) w->B≤w.heap.size->Calls P f #[.pointer (some ⟨b,0,none⟩)] w fun r w'=>r = .returned (.string ⟨l.toArray⟩)/\(Lib.IsBuilderF T e B b (Lib.byteCells l) w'/\Below B w w'/\Lib.OthersKept e (some b) w w'))
  (hf:∀ (args:Array Value) (w:World),(callFunc f args).run P w = .ok (.enter f args) w) (hx:OpD fr x (dX (.pointer (some ⟨b,0,none⟩))))
  (hfr:∀ d∈fr,ZTB b d) (hs:∀ o∈hp,SafeO e b o) (h:WL P ops Q rest (ZA fr dst (dX (.string ⟨l.toArray⟩))) (ZH7 b T e l::hp)) :
  WL P ops Q (⟨dst,.call { callee:=.value (.func f),args:=#[x],argTypes:=ats },ty,ps,af,none⟩::rest) fr (ZH7 b T e l::hp):=by
 refine WL.of fun P0 B w0 w a hh hf2=>?_
 have e1:a.eval x=_:=hx.ev hf2
 refine wpList_plain rfl fun K hK=>?_
 unfold Oper.wp
 have hrun:(execOp a.eval ⟨dst,.call { callee:=.value (.func f),args:=#[x],argTypes:=ats },ty,ps,af,none⟩).run P w = .ok (.enter f #[.pointer (some ⟨b,0,none⟩)]) w:=by
  unfold execOp
  have ef:a.eval (.func f) = .func (.func f) #[] #[]:=rfl
  simp only [resolve]
  simp [ef,e1,Deferred.ofValue,invoke,hf]
 rw [hrun]
 have hlt:=(hh.own (ZH7 b T e l) (by simp) b rfl).2
 refine (hF b b l w (ZSN (hh.ok _ (by simp))) (Nat.le_of_lt hlt)).mono fun r w' hr=>?_
 obtain ⟨rfl,hA,hb,hk⟩:=hr
 exact hK _ _ (h.on (ZSM hh hs hA hb hk) (Fr.put (ZSL hf2 hfr hb) (d:=dX (.string ⟨l.toArray⟩)) rfl))
theorem ZHV {x y:Operand} {T2:TypeId} {s t:List UInt8} (hx:OpD fr x (dX (.string ⟨s.toArray⟩))) (hy:OpD fr y (dX (.string ⟨t.toArray⟩))) (hl:s.length+t.length≤4611686018427387904) :
  SY P ops hp ⟨dst,.binOp .add T x y T2,ty,ps,af,g⟩ fr (dX (.string ⟨(s++t).toArray⟩)) :=
 SY.val fun {I w a} ho=>⟨.string ⟨(s++t).toArray⟩,by
  have h1:a.eval x = .string ⟨s.toArray⟩:=hx.get (by simp [Op.operands]) ho
  have h2:a.eval y = .string ⟨t.toArray⟩:=hy.get (by simp [Op.operands]) ho
  unfold execOp
  simp [h1,h2,Go.binOp,eqGuard,Op.stringOp]
  have e1:(⟨s.toArray⟩:ByteArray).size=s.length:=by simp [ByteArray.size]
  have e2:(⟨t.toArray⟩:ByteArray).size=t.length:=by simp [ByteArray.size]
  rw [e1,e2,if_neg (by omega)]
  have e3:(⟨s.toArray⟩:ByteArray)++⟨t.toArray⟩=⟨(s++t).toArray⟩:=by
   apply ByteArray.ext
   simp
  rw [e3],rfl⟩
end
end
section
open Go.RowKit
section
variable {P:Program} {ops:Array Oper} {hp:List HObj} {fr:List Dat} {d e:Dat} {Q:ZAW} {rest:List Oper}
variable {dst:Option Tmp} {ty:TypeId} {ps:String} {af:Array Edge} {g:Option (Nat × Bool)} {T T1 T2:TypeId} {b off k n:Nat} {ds ds':List Dat}
theorem ZB2 {x:Operand} {i:Nat} (S:StrT P T n) (hx:OpD fr x (dP n true d)) (hle:d.le (ZGJ ds)) (hl:ds.length=n) (hi:ds[i]?=some e) :
  SY P ops hp ⟨dst,.fieldAddr T x i,ty,ps,af,g⟩ fr (dP 1 false e):=SY.val fun {I w a} ho=>by
 obtain ⟨b,off,u,h1,⟨hb,cs,k1,k0,k2,k3,k4⟩,hu⟩:=hx.get (by simp [Op.operands]) ho
 obtain ⟨us,q1,q2,q3,q4⟩:=hle _ _ _ hu
 simp only [if_true] at k4
 rw [k4] at q1
 have hcs:cs=us:=by injection q1 with q1;exact List.toArray_inj q1
 subst hcs
 have hil:i<ds.length:=(List.getElem?_eq_some_iff.1 hi).1
 have hic:i<cs.length:=by omega
 refine ⟨_,?_,b,off+i,cs[i],rfl,⟨hb,[cs[i]],rfl,Nat.one_pos,by simpa using k2 _ (List.getElem_mem hic),fun j c hc=>?_,rfl⟩,q4 i _ e (List.getElem?_eq_getElem hic) hi⟩
 ·unfold execOp
  simp only [h1,Sem.run_bind,S.fld b off i w (by omega),Result.andThen_ok,Sem.run_pure]
 ·have hj:j=0:=by have:=(List.getElem?_eq_some_iff.1 hc).1;simpa using this
  subst hj
  cases hc
  exact k3 i _ (List.getElem?_eq_getElem hic)
theorem ZQW {α:Type} {R:Rel α} {_gR:Good R} {v:Value} {xs:List α} {eT:TypeId} (hk:ds[k]?=some (dX v)) (h:WL P ops Q rest fr (ZAP b T (ds.set k (dS (Arr R) xs))::hp)):WL P ops Q rest fr (ZAP b T ds::Zr v eT R xs::hp):=WL.of fun P0 B w0 w a hh hf=>by
 obtain ⟨hh1,hI1⟩:=hh.perm (List.Perm.swap _ _ _)
 have hA:Arr R (Imm P0 B (ZAP b T ds::hp)) w v xs:=ZCn hh1
 have hh2:=hh1.drop
 have hgr:w.grownBy w (ZAP b T ds).blk:=⟨rfl,rfl,rfl,Nat.le_refl _,fun _ _ _=>rfl⟩
 obtain ⟨cs,c1,c2,c3,c4⟩:=hh2.ok (ZAP b T ds) (by simp)
 have hkl:=(List.getElem?_eq_some_iff.1 hk).1
 have hkc:k<cs.length:=by omega
 have hv:cs[k]=v:=c4 k _ _ (List.getElem?_eq_getElem hkc) hk
 have hok:(ZAP b T (ds.set k (dS (Arr R) xs))).ok (fun j=>Imm P0 B (ZAP b T ds::hp) j/\j<w.heap.size) w:=by
  refine ⟨cs,c1,by simp [c2],c3,fun j c e hc he=>?_⟩
  rw [List.getElem?_set] at he
  by_cases hjk:k=j
  ·rw [if_pos hjk,if_pos hkl] at he
   cases he
   subst hjk
   rw [List.getElem?_eq_getElem hkc] at hc
   cases hc
   rw [hv]
   exact (dS (Arr R) xs).bound hA
  ·rw [if_neg hjk] at he
   exact e.bound (c4 j c e hc he)
 refine h.on (hh2.write hgr (.inl rfl) hok) (hf.mono fun d u hd=>?_)
 exact ZY (o:=ZAP b T ds) (o':=ZAP b T (ds.set k (dS (Arr R) xs))) hgr (.inl rfl) (d.weak hd fun j hj=>Imm.sub j ((hI1 j).1 hj))
theorem ZLE {c:Code} {α:Type} {R:Rel α} {_gR:Good R} {v:Value} {xs:List α} {eT:TypeId} (hk:ds[k]?=some (dX v)) (h:WC P Q c fr (ZAP b T (ds.set k (dS (Arr R) xs))::hp)):WC P Q c fr (ZAP b T ds::Zr v eT R xs::hp):=WC.of fun P0 B w0 w a hh hf=>by
 obtain ⟨hh1,hI1⟩:=hh.perm (List.Perm.swap _ _ _)
 have hA:Arr R (Imm P0 B (ZAP b T ds::hp)) w v xs:=ZCn hh1
 have hh2:=hh1.drop
 have hgr:w.grownBy w (ZAP b T ds).blk:=⟨rfl,rfl,rfl,Nat.le_refl _,fun _ _ _=>rfl⟩
 obtain ⟨cs,c1,c2,c3,c4⟩:=hh2.ok (ZAP b T ds) (by simp)
 have hkl:=(List.getElem?_eq_some_iff.1 hk).1
 have hkc:k<cs.length:=by omega
 have hv:cs[k]=v:=c4 k _ _ (List.getElem?_eq_getElem hkc) hk
 have hok:(ZAP b T (ds.set k (dS (Arr R) xs))).ok (fun j=>Imm P0 B (ZAP b T ds::hp) j/\j<w.heap.size) w:=by
  refine ⟨cs,c1,by simp [c2],c3,fun j c e hc he=>?_⟩
  rw [List.getElem?_set] at he
  by_cases hjk:k=j
  ·rw [if_pos hjk,if_pos hkl] at he
   cases he
   subst hjk
   rw [List.getElem?_eq_getElem hkc] at hc
   cases hc
   rw [hv]
   exact (dS (Arr R) xs).bound hA
  ·rw [if_neg hjk] at he
   exact e.bound (c4 j c e hc he)
 refine h.on (hh2.write hgr (.inl rfl) hok) (hf.mono fun d u hd=>?_)
 exact ZY (o:=ZAP b T ds) (o':=ZAP b T (ds.set k (dS (Arr R) xs))) hgr (.inl rfl) (d.weak hd fun j hj=>Imm.sub j ((hI1 j).1 hj))
end
abbrev Sb:=List (List (Int × Int)) × List (Int × Int) × List (List (Int × Int))
abbrev ZG6:Rel Sb:=R3 ZAe ZI ZAe
theorem ZCi:StrT Tryz.prog 30 3:=⟨fun b off i w hi=>by
 have:i=0\/i=1\/i=2:=by omega
 rcases this with rfl|rfl|rfl <;> go_simp⟩
theorem ZDp:TyI Tryz.prog 30 3 true:=⟨by kernel_rfl,Tryz.isAgg30⟩
theorem ZKA:TyZ Tryz.prog 30 (.agg #[.slice none 0 0,.slice none 0 0,.slice none 0 0]):=⟨by kernel_rfl⟩
theorem ZRv {u u':Value} (h0:u.oneCell'=true) (h1:u'.oneCell'=true):(dX (.agg #[u,u'])).Shape 2 true:=fun _ _ _ h=>by
 cases (h:_=_)
 exact ⟨[u,u'],rfl,by omega,fun c hc=>by
  simp only [List.mem_cons,List.not_mem_nil,or_false] at hc
  rcases hc with rfl|rfl <;> assumption,rfl,rfl⟩
theorem ZA0 {u u' u'':Value} (h0:u.oneCell'=true) (h1:u'.oneCell'=true) (h2:u''.oneCell'=true):(dX (.agg #[u,u',u''])).Shape 3 true:=fun _ _ _ h=>by
 cases (h:_=_)
 exact ⟨[u,u',u''],rfl,by omega,fun c hc=>by
  simp only [List.mem_cons,List.not_mem_nil,or_false] at hc
  rcases hc with rfl|rfl|rfl <;> assumption,rfl,rfl⟩
section
variable {ops:Array Oper} {hp:List HObj} {fr:List Dat} {d e:Dat} {Q:ZAW} {rest:List Oper}
variable {dst:Option Tmp} {ty:TypeId} {ps:String} {af:Array Edge} {g:Option (Nat × Bool)}
theorem ZNO {x:Operand} {xs:List (List (Int × Int))} (hx:OpD fr x (dS Cpx xs)):SY Tryz.prog ops hp ⟨dst,.build 30 #[(0,x)],ty,ps,af,g⟩ fr (ZGJ [dS ZAe xs,dX (.slice none 0 0),dX (.slice none 0 0)]):=SY.val fun {I w a} ho=>by
 obtain ⟨u,h1,h0,h2⟩:Cpx I w (a.eval x) xs:=hx.get (by simp [Op.operands]) ho
 have h2':=h2
 obtain ⟨ad,c,hv,_⟩:=h2'
 subst hv
 have hm:∀ ad n c w,(Instr.build 30 #[(0,.agg #[.slice ad n c])]).run Tryz.prog w = .ok (.agg #[.slice ad n c,.slice none 0 0,.slice none 0 0]) w:=by intro ad n c w;go_simp
 refine ⟨.agg #[.slice ad xs.length c,.slice none 0 0,.slice none 0 0],?_,[_,_,_],rfl,rfl,by simp [Value.oneCell'],fun k c d hc hd=>?_⟩
 ·unfold execOp
  simp only [List.map_toArray,List.map_cons,List.map_nil,h1,Sem.run_bind,hm,Result.andThen_ok,Sem.run_pure]
 ·match k,hc,hd with
  | 0,hc,hd=>cases hc;cases hd;exact h2
  | 1,hc,hd=>cases hc;cases hd;rfl
  | 2,hc,hd=>cases hc;cases hd;rfl
theorem ZHY:SY Tryz.prog ops hp ⟨dst,.build 30 #[],ty,ps,af,g⟩ fr (dS ZG6 ([],[],[])):=SY.val fun {I w a} ho=>by
 have hm:∀ w,(Instr.build 30 #[]).run Tryz.prog w = .ok (.agg #[.slice none 0 0,.slice none 0 0,.slice none 0 0]) w:=by intro w;go_simp
 refine ⟨.agg #[.slice none 0 0,.slice none 0 0,.slice none 0 0],?_,_,_,_,rfl,⟨rfl,rfl,rfl⟩,ZCG,ZD8 (by decide),ZCG⟩
 unfold execOp
 simp only [List.map_toArray,List.map_nil,Sem.run_bind,hm,Result.andThen_ok,Sem.run_pure]
end
end
section
open Go.RowKit

def txV (v:Vx):List UInt8:=((Lib.itoa v.1++[47])++Lib.itoa v.2)++[32]
def txS (s:List Vx):List UInt8:=s.flatMap txV
theorem ZR6 {s:List Vx} {k:Nat} (h:k<s.length):txS (s.take (k+1))=txS (s.take k)++txV s[k]:=by
 unfold txS
 rw [List.take_succ_eq_append_getElem h,List.flatMap_append]
 simp
theorem ZU8 (n:Int) (h:0≤n/\n<100):Fn Tryz.prog 56 [dI n] (dX (.string ⟨(Lib.itoa n).toArray⟩)):=Fn.mk fun I w vs hl hv=>by
 obtain ⟨v,rfl⟩:=List.length_eq_one_iff.1 hl
 have hv0:v = .int .i64 n:=hv 0 _ rfl
 subst hv0
 obtain ⟨m,rfl⟩:=Int.eq_ofNat_of_zero_le h.1
 refine (Any.strconv_Itoa_small { Tryz.laysM171 with } m (by omega) w).mono fun r w' hr=>?_
 obtain ⟨rfl,rfl⟩:=hr
 exact ⟨_,rfl,Ext.refl _,by rw [Lib.itoa_nonneg];rfl⟩
theorem ZVZ:StrT Tryz.prog 50 2:=⟨fun b off i w hi=>by
 have:i=0\/i=1:=by omega
 rcases this with rfl|rfl <;> go_simp⟩
theorem tzBld:TyZ Tryz.prog 98 (.agg #[.pointer none,.slice none 0 0]):=⟨by kernel_rfl⟩
theorem tzVx:TyZ Tryz.prog 50 (.agg [.int .i64 0,.int .i64 0].toArray):=⟨by kernel_rfl⟩
end
section
open Go.RowKit
structure YStepE (P:Program) (l:Nat) {α:Type} (D:α->Dat) (J E:List α->List HObj->Prop) (N:Nat):Prop where
 out:∀ (P0:Nat->Prop) (B:Nat) (w0:World) (hp:List HObj) (pre:List α) (js:List HObj) (x:α) (u:Value) (W:World),pre.length<N->J pre js->Hp P0 B w0 (js++hp) W->(D x).rd (Imm P0 B (js++hp)) W u ->
  YieldAt Fence.wide 0 P l #[u] W fun e W'=>∃ b:Bool,e = .returned (.bool b)/\∃ js',(if b=true then J (pre++[x]) js' else E (pre++[x]) js')/\Hp P0 B w0 (js'++hp) W'
theorem CallC.monoK {P:Program} {f:FuncId} {ds:List Dat} {hp1:List HObj} {K K':Dat->List HObj->Prop} (h:CallC P f ds hp1 K) (k:∀ d hp2,K d hp2->K' d hp2):CallC P f ds hp1 K' :=
 ⟨fun P0 B w0 hp vs W hh hl hv=>(h.out P0 B w0 hp vs W hh hl hv).mono fun _ _ ⟨v,d,hp2,e,hk,r⟩=>⟨v,d,hp2,e,k d hp2 hk,r⟩⟩
theorem ZKH {F:Fence} {m:Nat} {P:Program} {l:Nat} {args:Array Value} {W:World} {R R':Ending->World->Prop} (h:YieldAt F m P l args W R) (k:∀ e w,R e w->R' e w):YieldAt F m P l args W R':=by
 obtain ⟨fn,tmps,assign,body,hrun,hR⟩:=h
 exact ⟨fn,tmps,assign,body,hrun,hR.mono k⟩
namespace I
section
variable {P:Program} {ops:Array Oper} {hp:List HObj} {fr:List Dat} {Q:ZAW} {rest:List Oper} {dst:Option Tmp} {ty:TypeId} {ps:String} {af:Array Edge} {d:Dat} {c:Code}
theorem ZNB {l:Nat} {α:Type} {D:α->Dat} {J E:List α->List HObj->Prop} {t:Tmp} {x:Operand} {ats:Array TypeId} {pre:List α} {js:List HObj} {y:α} {N:Nat} {g:Option (Nat × Bool)} (hy:YStepE P l D J E N) (hn:pre.length<N) (hj:J pre js) (ht:OpD fr (.tmp t) (dX (.func (.yield l) #[] #[]))) (hx:OpD fr x (D y))
  {P0:Nat->Prop} {B:Nat} {w0 w:World} {a:Act} (hh:Hp P0 B w0 (js++hp) w) (hf:Fr (Imm P0 B (js++hp)) w a fr) {K:Act->World->Prop} {Q:Exit->Act->World->Prop}
  (h:∀ (b:Bool) js' a' w',(if b=true then J (pre++[y]) js' else E (pre++[y]) js')->Hp P0 B w0 (js'++hp) w'->Fr (Imm P0 B (js'++hp)) w' a' (ZA fr dst (dB b))->K a' w') :
  Oper.wpIn Fence.wide 0 P ⟨dst,.call { callee:=.value (.tmp t),args:=#[x],argTypes:=ats },ty,ps,af,g⟩ a w K Q:=by
 have hgb:(hFr a fr).blk=none:=rfl
 have hG:Hp P0 B w0 (js++hFr a fr::hp) w:=ZBT hgb hh hf.rd
 have hev:a.eval (.tmp t) = .func (.yield l) #[] #[]:=ht.ev hf
 have hyy:=hy.out P0 B w0 (hFr a fr::hp) pre js y (a.eval x) w hn hj hG ((D y).weak (hx.ev hf) fun k=>(ZAC hgb _ k).2)
 obtain ⟨fn,tmps,assign,body,hrun,hR⟩:=hyy
 refine ⟨fun _ _=>trivial,?_⟩
 have hr:(execOp a.eval ⟨dst,.call { callee:=.value (.tmp t),args:=#[x],argTypes:=ats },ty,ps,af,g⟩).run P w = .ok (.round l fn tmps assign body) w:=by
  unfold execOp
  simp only [resolve]
  simp [hev,Deferred.ofValue,invoke,hrun]
 rw [show Fence.wide.round=none from rfl,Oper.semAt_none,hr]
 refine ⟨fun h=>by simp [Fence.wide] at h,hR.mono fun e W' ⟨b,he,js',hj',hh'⟩=>?_⟩
 subst he
 obtain ⟨hh2,hok2⟩:=hh'.unghost hgb
 exact h b js' _ _ hj' hh2 (Fr.put (⟨hf.defers,hf.size,hok2⟩:Fr (Imm P0 B (js'++hp)) W' a fr) (d:=dB b) rfl)
theorem ZNg {l:Nat} {α:Type} {D:α->Dat} {J E:List α->List HObj->Prop} {t gi s:Nat} {pol:Bool} {x:Operand} {ats:Array TypeId} {pre:List α} {js:List HObj} {y:α} {N:Nat} (hs:(ops[gi]?).bind (·.dst)=some s) (hb:fr[s]?=some (dB pol)) (hy:YStepE P l D J E N) (hn:pre.length<N) (hj:J pre js) (ht:OpD fr (.tmp t) (dX (.func (.yield l) #[] #[]))) (hx:OpD fr x (D y))
  (h:∀ (b:Bool) js',(if b=true then J (pre++[y]) js' else E (pre++[y]) js')->WL P ops Q rest (ZA fr dst (dB b)) (js'++hp)) :
  WL P ops Q (⟨dst,.call { callee:=.value (.tmp t),args:=#[x],argTypes:=ats },ty,ps,af,some (gi,pol)⟩::rest) fr (js++hp):=by
 refine WL.of fun P0 B w0 w a hh hf=>?_
 unfold wpListIn
 have hwant:Region.wanted ⟨dst,Op.call { callee:=.value (.tmp t),args:=#[x],argTypes:=ats },ty,ps,af,some (gi,pol)⟩ (yielded ops a.tmps)=true :=
  (ZMU rfl hs hb rfl).out _ w a (hf.on _)
 rw [if_pos hwant]
 exact ZNB hy hn hj ht hx hh hf fun b js' a' w' hj' hh' hf'=>(h b js' hj').on hh' hf'
end
end I
section
variable {P:Program} {l:Nat} {Q:ZAW} {fr:List Dat} {hp:List HObj}
theorem WR.cond {c:Operand} {x y:Code} {b:Bool} (hc:OpD fr c (dB b)) (ht:b=true->WR P l Q x fr hp) (hf:b=false->WR P l Q y fr hp):WR P l Q (.cond c x y) fr hp:=WR.of fun P0 B w0 w a hh hfr=>by
 refine wpIn_cond (t:=b) (hc.ev hfr) ?_
 cases b with
 | true=>exact (ht rfl).out _ _ _ _ _ hh hfr
 | false=>exact (hf rfl).out _ _ _ _ _ hh hfr
theorem ZLO {c:Code} {d:Dat} {v:Value} (t:Nat) (ht:fr[t]?=some (dX v)) (hm:ZAI v d∈hp) (h:WR P l Q c (fr.set t d) hp):WR P l Q c fr hp:=WR.of fun P0 B w0 w a hh hf=>by
 refine h.out _ _ _ _ _ hh ⟨hf.defers,by rw [hf.size,List.length_set],fun t' d' hd'=>?_⟩
 by_cases htt:t=t'
 ·subst htt
  rw [List.getElem?_set] at hd'
  simp only [if_true] at hd'
  split at hd'
  ·cases hd'
   have h1:a.tmps.getD t undef=v:=hf.rd t _ ht
   rw [h1]
   exact hh.ok _ hm
  ·cases hd'
 ·rw [List.getElem?_set_ne htt] at hd'
  exact hf.rd t' d' hd'
end
end
section
open Go.RowKit
abbrev NoDef (ops:List Oper):Prop:=(ops.all fun o=>match o.op with|.defer _=>false|_=>true)=true
theorem NoDef.at {ops:List Oper} (h:NoDef ops):∀ o∈ops,∀ c,o.op ≠ .defer c:=fun o ho c hc=>by have:=List.all_eq_true.1 h o ho;rw [hc] at this;cases this
theorem ZBZ {P:Program} {md:Region.Mode} {ops:Array Oper} {Q:Exit->Act->World->Prop} {l:Nat} (hd:∀ o∈ops.toList,∀ c,o.op ≠ .defer c):∀ {fuel:Nat} {listed:Array Bool} {a:Act} {w:World},wpAnyIn Fence.wide 0 P md ops Q fuel listed a w->wpAnyIn (Fence.wide.inRound l) 0 P md ops Q fuel listed a w
 | 0,_,_,_,h=>h
 | fuel+1,listed,a,w,h=>by
  refine ⟨h.1,fun i hi=>?_⟩
  have h1:=h.2 i hi
  unfold wpOpIn at h1 ⊢
  cases ho:ops[i]? with
  | none=>simp only [ho] at h1;exact ZBZ hd h1
  | some o =>
   simp only [ho] at h1
   have hm:o∈ops.toList:=by rw [<- Array.getElem?_toList] at ho;exact List.mem_of_getElem? ho
   show if _ then _ else _
   split
   ·rename_i hw
    rw [if_pos hw] at h1
    exact ZHN (hd o hm) (Oper.wpIn_mono (fun a w h=>ZBZ hd h) h1)
   ·rename_i hw
    rw [if_neg hw] at h1
    exact ⟨fun _ _=>trivial,ZBZ hd h1.2⟩
section
variable {P:Program} {l:Nat} {Q:ZAW} {fr:List Dat} {hp:List HObj} {c:Code} {d:Dat}
theorem WR.on (h:WR P l Q c fr hp) {P0:Nat->Prop} {B:Nat} {w0 w:World} {a:Act} (hh:Hp P0 B w0 hp w) (hf:Fr (Imm P0 B hp) w a fr):c.wpIn (Fence.wide.inRound l) 0 P (ZCE Q P0 B w0) a w:=h.out _ _ _ _ _ hh hf
theorem WR.id (h:WR P l Q c fr hp):WR P l Q c fr hp:=h
theorem WR.mono {Q':ZAW} (h:WR P l Q c fr hp) (k:∀ e f p,Q e f p->Q' e f p):WR P l Q' c fr hp:=WR.of fun _ _ _ _ _ hh hf=>wpIn_mono (h.on hh hf) fun _ _ _ ⟨f,p,q,r⟩=>⟨f,p,k _ _ _ q,r⟩
theorem ZB4 {x y:Code} (h:∀ K:List Dat->List HObj->Prop,(∀ f p,WR P l Q y f p->Kont K f p)->WR P l (ThenD (Kont K) Q) x fr hp):WR P l Q (.seq x y) fr hp :=
 WR.seq ((h (WR P l Q y) fun _ _ h=>⟨h⟩).mono fun e f p q=>by
  cases e with
  | normal=>exact (q:Kont _ f p).out
  | _=>exact q)
section
variable {cc:Operand} {x y:Code} {p:Prop} {_ip:Decidable p} {b:Bool}
theorem ZCo (hc:OpD fr cc (dB b)) (hb:b=false) (h:WR P l Q y fr hp):WR P l Q (.cond cc x y) fr hp:=WR.cond hc (fun h=>by rw [hb] at h;cases h) (fun _=>h)
theorem ZDW (hc:OpD fr cc (dB (decide p))) (ht:p->WR P l Q x fr hp) (hf:¬ p->WR P l Q y fr hp):WR P l Q (.cond cc x y) fr hp:=WR.cond hc (fun h=>ht (of_decide_eq_true h)) (fun h=>hf (of_decide_eq_false h))
end
theorem WR.weak {fr':List Dat} (h:WR P l Q c fr' hp) (hl:fr.length=fr'.length) (k:∀ (t:Nat) (d:Dat),fr'[t]?=some d->∃ d0:Dat,fr[t]?=some d0/\d0.le d):WR P l Q c fr hp:=WR.of fun _ _ _ _ _ hh hf=>h.on hh (hf.weak hl k)
theorem WR.loopU {X:Type} (ups:X->List (Nat × Dat)) (H:X->List HObj) (μ:X->Nat) (p:X->Prop) (x0:X) (h0:p x0) (hF:LeF fr (Za fr (ups x0))) (hH:hp=H x0)
  (round:∀ x,p x->WR P l (ThenD (fun f q=>∃ x',p x'/\μ x'<μ x/\q=H x'/\LeF f (Za fr (ups x'))) Q) c (Za fr (ups x)) (H x)):WR P l Q (.loop c) fr hp:=by
 refine WR.of fun P0 B w0 w a hh hf=>?_
 have hf1:=hf.weak hF.out.1 hF.out.2
 subst hH
 intro b k cs hro hb hr
 have key:∀ (j:Nat) (x:X) (a':Act) (w':World),μ x=j->p x->Hp P0 B w0 (H x) w'->Fr (Imm P0 B (H x)) w' a' (Za fr (ups x)) ->
   ∃ e a2 w2,ZCE Q P0 B w0 e a2 w2/\ArrivesIn (Machine.fenced P (Fence.wide.inRound l)) P (lone (b.atR a' (.code c :: .inLoop c::k)) cs w') b k cs e a2 w2:=by
  intro j
  induction j using Nat.strongRecOn with
  | _ j ih =>
   intro x a' w' hn hp' hh' hf'
   obtain ⟨e,a1,w1,hq,harr⟩:=(round x hp').on hh' hf' b (.inLoop c::k) cs hro hb hr
   cases e with
   | normal =>
    obtain ⟨f,q,hq,h1,h2⟩:=hq
    obtain ⟨x',p1,p2,rfl,p4⟩:=(hq:∃ x',_)
    obtain ⟨e2,a2,w2,hq2,harr2⟩:=ih (μ x') (hn ▸ p2) x' a1 w1 rfl p1 h1 (h2.weak p4.out.1 p4.out.2)
    exact ⟨e2,a2,w2,hq2,.of_steps (StepsIn.trans harr (.one (fenced_calm hb hr rfl) stepR_inLoop)) harr2⟩
   | exit id=>exact ⟨_,a1,w1,hq,.pass (x:=.inLoop c) rfl (fun _ _=>.inl (by simp)) harr⟩
   | goto l=>exact ⟨_,a1,w1,hq,.pass (x:=.inLoop c) rfl (fun _ _=>.inl (by simp)) harr⟩
   | ret=>exact ⟨_,a1,w1,hq,.pass (x:=.inLoop c) rfl (fun _ _=>.inl (by simp)) harr⟩
   | panic ch=>exact ⟨_,a1,w1,hq,.pass (x:=.inLoop c) rfl (fun _ _=>.inl (by simp)) harr⟩
   | outgrown=>exact ⟨_,a1,w1,hq,.pass (x:=.inLoop c) rfl (fun _ _=>.inl (by simp)) harr⟩
 obtain ⟨e,a',w',hq,harr⟩:=key _ x0 a w rfl h0 hh hf1
 exact ⟨e,a',w',hq,.of_steps (.one (fenced_calm hb hr rfl) stepR_loop) harr⟩
theorem WR.perm {hp':List HObj} (hp1:hp.Perm hp') (h:WR P l Q c fr hp'):WR P l Q c fr hp:=WR.of fun _ _ _ _ _ hh hf =>
 let ⟨h1,h2⟩:=hh.perm hp1
 h.on h1 (hf.mono fun d _ hd=>d.weak hd fun k hk=>(h2 k).1 hk)
theorem WR.drop {o:HObj} (h:WR P l Q c fr hp):WR P l Q c fr (o::hp):=WR.of fun _ _ _ _ _ hh hf=>h.on hh.drop (hf.mono fun d _ hd=>d.weak hd Imm.sub)
theorem ZKU {p:Prop} {t:Nat} (ht:fr[t]?=some d) (hd:∀ (I:Nat->Prop) (w:World) (v:Value),d.rd I w v->p) (h:p->WR P l Q c fr hp):WR P l Q c fr hp:=WR.of fun _ _ _ _ _ hh hf=>(h (hd _ _ _ (hf.rd t d ht))).on hh hf
theorem WR.drawTail {id:Nat} {ops:List Oper} (n:Nat) (hm:P.follows .mixedOrders=true) (hB:Region.lexTailB .any ops.toArray n=true) (hd:NoDef ops)
  (h:WD P ops.toArray hp (fun f=>I.WL P ops.toArray Q (ops.drop n) f hp) (ops.take n) fr):WR P l Q (.region id ops.toArray true) fr hp:=by
 refine WR.of fun P0 B w0 w a hh hf=>?_
 simp only [Region.lexTailB,Bool.and_eq_true,decide_eq_true_eq] at hB
 obtain ⟨⟨⟨⟨hsel,hn⟩,hs⟩,hc⟩,hlex⟩:=hB
 have hn':n<ops.length:=by simpa using hn
 have htl:(ops.take n).length=n:=by simp;omega
 have hdl:(ops.drop n).length=ops.toArray.size-n:=by simp
 have inv0:HeadInv .any ops.toArray n (Array.replicate ops.toArray.size false) :=
  ⟨by simp,fun j oj _ hl=>(by rw [getD_replicate_false] at hl;cases hl),fun t _ ht=>getD_in (by simpa using ht) (getD_replicate_false _ _)⟩
 have H:=ZD5 (md:=.any) (g:=ops.toArray.size-n) hs hc hn (ops.take n) 0 _ fr (fun j hj=>by
  have hj':j<n:=by rw [htl] at hj;exact hj
  simp [hj']) (by simpa using htl) inv0 (by rw [htl];exact hlex) h
 have hx:Ext w { w with drawn:=w.drawn+1 }:=(Ext.refl w).drew
 refine wpIn_region_any (n:=0) hm (ZBZ (fun o ho c=>hd.at o (by simpa using ho) c) ?_)
 have:=I.ZBu (Q':=ZCE Q P0 B w0) (g:=ops.toArray.size-n) _ _ _ _ _ (hh.ext hx) (hf.ext hx) (fun listed fr' a' w' e hh' hf' hL=>by
  have:=I.ZBm (md:=.any) (Q':=ZCE Q P0 B w0) (ops.drop n) n listed a' w' (fun j=>by simp [List.getElem?_drop]) (by rw [hdl];exact hL.1) (hL.2.on hh' hf')
  rwa [hdl] at this) H
 rw [htl,show n+(ops.toArray.size-n)=ops.toArray.size by omega] at this
 exact this
theorem WR.drawW {id:Nat} {ops:List Oper} {β:Type} (n:Nat) (H:β->List HObj) (D:β->Dat) (ow:Oper) (how:ops[n]?=some ow) (hm:P.follows .mixedOrders=true) (hB:Region.lexTailB .any ops.toArray (n+1)=true) (hd:NoDef ops)
  (h:WDs P ops.toArray hp H (fun f=>SW P ops.toArray hp H D ow f/\∀ x,I.WL P ops.toArray Q (ops.drop (n+1)) (ZA f ow.dst (D x)) (H x)) (ops.take n) fr):WR P l Q (.region id ops.toArray true) fr hp:=by
 refine WR.of fun P0 B w0 w a hh hf=>?_
 simp only [Region.lexTailB,Bool.and_eq_true,decide_eq_true_eq] at hB
 obtain ⟨⟨⟨⟨hsel,hn⟩,hs⟩,hc⟩,hlex⟩:=hB
 have hn':n+1<ops.length:=by simpa using hn
 have htl:(ops.take n).length=n:=by simp;omega
 have hdl:(ops.drop (n+1)).length=ops.toArray.size-(n+1):=by simp
 have inv0:HeadInv .any ops.toArray (n+1) (Array.replicate ops.toArray.size false) :=
  ⟨by simp,fun j oj _ hl=>(by rw [getD_replicate_false] at hl;cases hl),fun t _ ht=>getD_in (by simpa using ht) (getD_replicate_false _ _)⟩
 obtain ⟨dd,hch⟩:=h.ch (ops.take n) 0 fr
 have HW:=ZDk (n:=n) (Lq:=fun f c=>I.WL P ops.toArray Q (ops.drop (n+1)) f (HH hp H c)) (md:=.any) (g:=ops.toArray.size-(n+1)) (ow:=ow) (m:=n) (by simpa using how) hs hc hn (ops.take n) 0 _ fr (fun j hj=>by
  have hj':j<n:=by rw [htl] at hj;exact hj
  simp [hj']) (by simpa using htl) inv0 (fun j hj=>by omega) (by rw [htl];exact hlex) hch
 have hx:Ext w { w with drawn:=w.drawn+1 }:=(Ext.refl w).drew
 refine wpIn_region_any (n:=0) hm (ZBZ (fun o ho c=>hd.at o (by simpa using ho) c) ?_)
 have:=I.ZBJ (Q':=ZCE Q P0 B w0) (g:=ops.toArray.size-(n+1)) _ _ _ none _ _ (hh.ext hx) (hf.ext hx) (fun listed fr' c a' w' hh' hf' hL=>by
  have:=I.ZBm (md:=.any) (Q':=ZCE Q P0 B w0) (ops.drop (n+1)) (n+1) listed a' w' (fun j=>by simp [List.getElem?_drop]) (by rw [hdl];exact hL.1) (hL.2.on hh' hf')
  rwa [hdl] at this) HW
 rw [htl,show n+1+(ops.toArray.size-(n+1))=ops.toArray.size by omega] at this
 exact this
end
namespace I
section
variable {P:Program} {ops:Array Oper} {hp:List HObj} {fr:List Dat} {d:Dat} {Q:ZAW} {rest:List Oper} {dst:Option Tmp} {op:Op} {ty:TypeId} {ps:String} {af:Array Edge}
theorem WL.opN (h:SY P ops hp ⟨dst,op,ty,ps,af,none⟩ fr d) (k:WL P ops Q rest (ZA fr dst d) hp):WL P ops Q (⟨dst,op,ty,ps,af,none⟩::rest) fr hp:=ZS (SYG.yes (Zc rfl) h) k
end
end I
end
end Go.Proofs.YtekiljakcngcoaaGreatDoor
