/- Part 7: walks by contracts, and plain laws. -/
import Derived.Deep.MidRow
import Derived.Test.YtokmalofdapffaaGreatV6
set_option linter.unusedVariables false
set_option linter.unusedSimpArgs false
set_option linter.unusedSectionVars false
set_option maxRecDepth 100000
set_option maxHeartbeats 4000000
namespace Go.Proofs.YtokmalofdapffaaGreat
section
open Go.RowKit

def ZT (xs:List Vx):List Value:=(xs.map ZLc).flatten
theorem ZB6:ZT []=[]:=rfl
theorem ZAl (x:Vx) (l:List Vx):ZT (x::l) = .int .i64 x.1 :: .int .i64 x.2::ZT l:=rfl
theorem ZY:∀ (l:List Vx),(ZT l).length=l.length*2
 | []=>rfl
 | x::l=>by rw [ZAl];simp only [List.length_cons,ZY l];omega
theorem ZAq (a b:List Vx):ZT (a++b)=ZT a++ZT b:=by unfold ZT;rw [List.map_append,List.flatten_append]
theorem ZCX (l:List Vx):∀ c∈ZT l,c.oneCell'=true:=fun c hc=>by
 unfold ZT at hc
 obtain ⟨u,hu,hc⟩:=List.mem_flatten.1 hc
 obtain ⟨x,_,rfl⟩:=List.mem_map.1 hu
 simp [ZLc] at hc
 rcases hc with rfl|rfl <;> rfl
theorem ZNT {l:List Vx} {k:Nat} (h:k<l.length):(ZT l)[k*2]?=some (.int .i64 l[k].1)/\(ZT l)[k*2+1]?=some (.int .i64 l[k].2):=by
 have e:l=l.take k++l[k]::l.drop (k+1):=by rw [<- List.drop_eq_getElem_cons h,List.take_append_drop]
 have hl:(ZT (l.take k)).length=k*2:=by rw [ZY,List.length_take];congr 1;omega
 have e2:ZT l=ZT (l.take k)++(.int .i64 l[k].1 :: .int .i64 l[k].2::ZT (l.drop (k+1))):=by
  conv=>lhs;rw [e]
  rw [ZAq,ZAl]
 rw [e2]
 constructor
 ·rw [List.getElem?_append_right (by omega)];simp [hl]
 ·rw [List.getElem?_append_right (by omega)];simp [hl]
def ZH9 (w:World) (g cap:Nat) (e:TypeId) (xs:List Vx):Prop :=
 ∃ tl:List Value,w.heap[g]?=some (.cells (ZT xs++tl).toArray e (0,0))/\xs.length≤cap/\cap≤maxLen/\(ZT xs++tl).length=cap*2
abbrev ZRD (g cap:Nat) (xs:List Vx):Value:=.slice (some ⟨g,0,none⟩) xs.length cap
theorem ZGZ {e:TypeId} {I:Nat->Prop} {w:World} {g cap:Nat} {xs:List Vx}:OwnK 0 e 2 RV I w (ZRD g cap xs) xs↔ZH9 w g cap e xs:=by
 constructor
 ·rintro ⟨us,h1,h2,h0,h3,h4⟩
  have hus:=ZOY h1 h4
  subst hus
  obtain ⟨hfl,hv⟩:=h3
  rcases hv with ⟨hz,_⟩|⟨g',cap',cur,hv,hB,hg,hc1,hc2,hc3,hc4⟩
  ·cases hz
  ·cases hv
   refine ⟨cur.toList.drop (xs.length*2),?_,hc1,hc2,?_⟩
   ·have:ZT xs++cur.toList.drop (xs.length*2)=cur.toList:=by
     unfold ZT;rw [<- hc4,List.take_append_drop]
    rw [this];exact hg
   ·have:ZT xs++cur.toList.drop (xs.length*2)=cur.toList:=by
     unfold ZT;rw [<- hc4,List.take_append_drop]
    rw [this];simpa using hc3
 ·rintro ⟨tl,hg,hc1,hc2,hc3⟩
  refine ⟨xs.map ZLc,by simp,fun u hu=>?_,by decide,⟨?_,.inr ⟨g,cap,_,rfl,Nat.zero_le _,hg,hc1,hc2,by simpa using hc3,?_⟩⟩,fun k h h'=>?_⟩
  ·obtain ⟨y,_,rfl⟩:=List.mem_map.1 hu
   exact ⟨rfl,by simp [ZLc,Value.oneCell']⟩
  ·exact ZY xs
  ·show (ZT xs++tl).take (xs.length*2)=ZT xs
   rw [<- ZY xs,List.take_left']
   rfl
  ·show Value.agg _=_
   rw [List.getElem_map]
   rfl
theorem ZAt {g:Nat} {e:TypeId} {fz:Nat × Nat}:∀ (vs M A C:List Value) (w:World),M.length=vs.length->w.heap[g]?=some (.cells (A++M++C).toArray e fz)->(w.setCells g A.length vs).heap[g]?=some (.cells (A++vs++C).toArray e fz)
 | [],M,A,C,w,h,hg=>by
  have:M=[]:=List.eq_nil_of_length_eq_zero (by simpa using h)
  subst this;exact hg
 | v::r,[],A,C,w,h,hg=>by simp at h
 | v::r,m::M,A,C,w,h,hg=>by
  have hg':(w.setCell ⟨g,A.length,none⟩ v).heap[g]?=some (.cells ((A++[v])++M++C).toArray e fz):=by
   simp only [World.setCell,Array.getElem?_modify,if_true,hg,Option.map_some]
   simp
  have:=ZAt r M (A++[v]) C _ (by simpa using h) hg'
  rw [World.setCells]
  have e1:(A++[v]).length=A.length+1:=by simp
  rw [e1] at this
  rw [this];simp
theorem ZI4 {w:World} {g cap:Nat} {e:TypeId} {xs:List Vx} (h:ZH9 w g cap e xs) (k:Nat) (ys:List Vx) (hk:k+ys.length≤xs.length) :
  ZH9 (w.setCells g (k*2) (ZT ys)) g cap e (xs.take k++ys++xs.drop (k+ys.length)):=by
 obtain ⟨tl,hg,hc1,hc2,hc3⟩:=h
 have e1:xs=xs.take k++(xs.drop k).take ys.length++xs.drop (k+ys.length):=by
  rw [List.append_assoc,<- List.drop_drop,List.take_append_drop,List.take_append_drop]
 have hA:(ZT (xs.take k)).length=k*2:=by rw [ZY,List.length_take];congr 1;omega
 have hM:(ZT ((xs.drop k).take ys.length)).length=(ZT ys).length:=by rw [ZY,ZY,List.length_take,List.length_drop];congr 1;omega
 have e2:ZT xs++tl=ZT (xs.take k)++ZT ((xs.drop k).take ys.length)++(ZT (xs.drop (k+ys.length))++tl):=by
  conv=>lhs;rw [e1]
  rw [ZAq,ZAq];simp
 rw [e2] at hg
 have:=ZAt _ _ _ _ w hM hg
 rw [hA] at this
 have hlen:(xs.take k++ys++xs.drop (k+ys.length)).length=xs.length:=by simp;omega
 refine ⟨tl,?_,by omega,hc2,?_⟩
 ·rw [this,ZAq,ZAq];simp
 ·rw [List.length_append,ZY] at hc3 ⊢
  rw [hlen];exact hc3
theorem ZEG {w:World} {g o:Nat} {vs:List Value}:w.grownBy (w.setCells g o vs) (some g):=by
 refine ⟨World.os_setCells w g o vs,?_,World.output_setCells w g o vs,?_,fun k hk hne=>World.heap_setCells_other w g o vs hk fun e=>hne (by rw [e])⟩
 ·revert o w
  induction vs with
  | nil=>intros;rfl
  | cons v r ih=>intro w o;rw [World.setCells];exact ih
 ·revert o w
  induction vs with
  | nil=>intros;exact Nat.le_refl _
  | cons v r ih =>
   intro w o;rw [World.setCells]
   refine Nat.le_trans ?_ ih
   simp [World.setCell]
theorem ZHk {w:World} {g cap:Nat} {e:TypeId} {xs:List Vx} (h:ZH9 w g cap e xs) (j:Nat) (hj:j<xs.length*2):w.cell? ⟨g,j,none⟩=(ZT xs)[j]?/\w.frozen? ⟨g,j,none⟩=false:=by
 obtain ⟨tl,hg,_⟩:=h
 refine ⟨?_,by simp [World.frozen?,hg]⟩
 simp only [World.cell?,hg]
 simp only [Option.isSome_none,Bool.false_eq_true,if_false]
 rw [List.getElem?_toArray,List.getElem?_append_left (by rw [ZY];exact hj)]
theorem ZI3 {w:World} {g cap:Nat} {e:TypeId} {xs:List Vx} (h:ZH9 w g cap e xs) (o n:Nat) (hj:o+n≤xs.length*2):w.there g o n:=fun j hjn=>by
 have:=ZHk h (o+j) (by omega)
 refine ⟨?_,this.2⟩
 rw [this.1,List.getElem?_eq_getElem (by rw [ZY];omega)]
 rfl
section
variable {P:Program} {ops:Array Oper} {hp:List HObj} {o:Oper} {fr:List Dat} {d:Dat} {Q:ZAE} {rest:List Oper}
variable {dst:Option Tmp} {ty:TypeId} {ps:String} {af:Array Edge} {g:Option (Nat × Bool)} {b cap:Nat} {e t T:TypeId} {xs:List Vx} {bytes:Nat} {z:Value} {ag:Bool}
abbrev hV (b N cap:Nat) (e:TypeId) (xs:List Vx):HObj:=Zg (.slice (some ⟨b,0,none⟩) N cap) e 2 RV xs
theorem ZC8 {I:Nat->Prop} {w:World} {N:Nat}:(hV b N cap e xs).ok I w↔N=xs.length/\ZH9 w b cap e xs:=by
 constructor
 ·intro h
  have hN:N=xs.length:=by
   obtain ⟨us,h1,h2,h0,⟨_,h3⟩,h4⟩:=h
   rcases h3 with ⟨hz,_⟩|⟨g,cap,cur,hv,_⟩
   ·cases hz
   ·cases hv;rfl
  subst hN
  exact ⟨rfl,ZGZ.1 h⟩
 ·rintro ⟨rfl,h⟩
  exact ZGZ.2 h
theorem ZO6 {c:Code} {v:Value} (hne:0<xs.length) (h:∀ b cap,v=ZRD b cap xs->xs.length≤cap->cap≤maxLen->WC P Q c fr (Zg v e 2 RV xs::hp)):WC P Q c fr (Zg v e 2 RV xs::hp):=WC.of fun P0 B w0 w a hh hf=>by
 obtain ⟨us,h1,h2,h0,⟨_,h3⟩,h4⟩:=hh.ok (Zg v e 2 RV xs) (by simp)
 rcases h3 with ⟨_,hz⟩|⟨g,cap,cur,hv,hB,hg,hc1,hc2,_⟩
 ·omega
 ·exact (h g cap hv hc1 hc2).on hh hf
theorem ZMZ {o:Oper} {k N:Nat} {ys:List Vx} (hg:o.guard=none) (hk:k+ys.length≤xs.length) (hrun:∀ {I:Nat->Prop} {w:World} {a:Act},Fr I w a fr->ZH9 w b cap e xs->∃ out:Next,(out = .skip\/∃ r,out = .value r)/\(execOp a.eval o).run P w = .ok out (w.setCells b (k*2) (ZT ys)))
  (h:WL P ops Q rest (ZB fr o.dst dA) (hV b N cap e (xs.take k++ys++xs.drop (k+ys.length))::hp)):WL P ops Q (o::rest) fr (hV b N cap e xs::hp):=by
 refine WL.of fun P0 B w0 w a hh hf=>?_
 obtain ⟨hN,hrow⟩:=ZC8.1 (hh.ok (hV b N cap e xs) (by simp))
 obtain ⟨out,ho,hr⟩:=hrun hf hrow
 have hgr:w.grownBy (w.setCells b (k*2) (ZT ys)) (hV b N cap e xs).blk:=ZEG
 have hok:(hV b N cap e (xs.take k++ys++xs.drop (k+ys.length))).ok (fun j=>Imm P0 B (hV b N cap e xs::hp) j/\j<w.heap.size) (w.setCells b (k*2) (ZT ys)) :=
  ZC8.2 ⟨by rw [hN];simp;omega,ZI4 hrow k ys hk⟩
 refine wpList_plain hg fun K hK=>?_
 unfold Oper.wp
 rw [hr]
 have fin:∀ r:Value,K (a.put o.dst r) (w.setCells b (k*2) (ZT ys)):=fun r=>hK _ _ (h.on (hh.write hgr (.inl rfl) hok) (Fr.put (hf.mono fun _ _ hd=>ZN (o':=hV b N cap e (xs.take k++ys++xs.drop (k+ys.length))) hgr (.inl rfl) hd) (d:=dA) trivial))
 rcases ho with rfl|⟨r,rfl⟩
 ·exact fin undef
 ·exact fin r
theorem ZMN {x:Operand} {off n m k N:Nat} (hu:P.underlying t=some (.slice e)) (hz:∀ w,(zeroValue e).run P w = .ok (.agg #[.int .i64 0,.int .i64 0]) w) (hx:OpD fr x (dX (.slice (some ⟨b,off,none⟩) n m))) (hj:off=k*2) (hn:0<n) (hk:k+n=xs.length)
  (h:WL P ops Q rest (ZB fr dst dA) (hV b N cap e (xs.take k++List.replicate n (0,0))::hp)):WL P ops Q (⟨dst,.call { callee:=.builtin .clear,args:=#[x],argTypes:=#[t] },ty,ps,af,none⟩::rest) fr (hV b N cap e xs::hp):=by
 refine ZMZ (k:=k) (ys:=List.replicate n (0,0)) rfl (by simp;omega) (fun {I w a} hf hrow=>⟨.value (.tuple #[]),.inr ⟨_,rfl⟩,?_⟩) ?_
 ·have h1:a.eval x=_:=hx.ev hf
  subst hj
  have hzc:(Builtin.zeroCells #[Value.int .i64 0,.int .i64 0] n).toList=ZT (List.replicate n (0,0)):=by
   have e1:ZT (List.replicate n (0,0))=List.replicate (n*2) (.int .i64 0):=by
    clear h hn hk hx h1
    induction n with
    | zero=>rfl
    | succ n ih=>rw [List.replicate_succ,ZAl,ih,Nat.succ_mul,List.replicate_succ,List.replicate_succ]
   rw [e1]
   simp only [Builtin.zeroCells]
   apply List.ext_getElem
   ·simp
   ·intro i h1 h2
    have:i % 2<2:=Nat.mod_lt _ (by decide)
    simp
    rcases (by omega:i % 2=0\/i % 2=1) with h|h <;> simp [h]
  have hst:=run_storeCells_cells (P:=P) b (k*2) (ZT (List.replicate n (0,0))) 0 w (fun j hj=>by
   rw [ZY,List.length_replicate] at hj
   exact ((ZI3 hrow (k*2) (n*2) (by omega)) j hj).1) (fun j hj=>by
   rw [ZY,List.length_replicate] at hj
   exact ((ZI3 hrow (k*2) (n*2) (by omega)) j hj).2) (ZCX _)
  obtain ⟨m',rfl⟩:∃ m,n=m+1:=⟨n-1,by omega⟩
  unfold execOp
  simp [resolve,invoke,builtin,h1,Builtin.clear_,run_underlying hu,hz,Value.cells,hzc,hst]
 ·have e1:xs.take k++List.replicate n (0,0)++xs.drop (k+(List.replicate n ((0,0):Vx)).length)=xs.take k++List.replicate n (0,0):=by
   rw [List.length_replicate,hk,List.drop_length,List.append_nil]
  rw [e1];exact h
theorem SY.uptoO {x y:Operand} {off n m l:Nat} {j:Int} (E:ElT P t e 2 z bytes ag) (hx:OpD fr x (dX (.slice (some ⟨b,off,none⟩) n m))) (hy:OpD fr y (dI j)) (hj:j=(l:Int)) (hl:l≤n) (hm:n≤m) (h0:0<m) :
  SY P ops hp ⟨dst,.slice t x none (some y) none,ty,ps,af,g⟩ fr (dX (.slice (some ⟨b,off,none⟩) l m)):=SY.val fun {I w a} ho=>by
 have h1:a.eval x=_:=hx.get (by simp [Op.operands]) ho
 have h2:a.eval y=_:=hy.get (by simp [Op.operands]) ho
 refine ⟨_,?_,rfl⟩
 have hr:=ZBh (w:=w) (ad:=some ⟨b,off,none⟩) (len:=n) (cap:=m) (lo:=none) (hi:=some (.int .i64 (l:Int))) (l:=0) (h:=l) E (.inl ⟨rfl,rfl⟩) (.inr ⟨_,rfl⟩) (by omega) (by omega)
 rw [if_neg (by omega)] at hr
 unfold execOp
 simp only [h1,h2,hj,Option.map_none,Option.map_some,Sem.run_bind,hr,Result.andThen_ok,Sem.run_pure]
 simp [Addr.add_lit]
end
end
section
open Go.RowKit
theorem ZGm {ops:Array Oper} {o:Oper} {fr:List Dat} {gi:Nat} {pol:Bool} {t:Tmp} (hg:o.guard=some (gi,pol)) (ht:(ops[gi]?).bind (·.dst)=some t) (hf:fr[t]?=some (dX undef)):WantS ops o fr false:=WantS.mk fun I w a ho=>by
 have h1:a.tmps.getD t undef=undef:=ho.2 t (ZIl hg ht) _ hf
 have hlt:t<a.tmps.size:=by rw [ho.1];exact (List.getElem?_eq_some_iff.1 hf).1
 have h2:a.tmps[t]?=some undef:=by
  rw [Array.getD_eq_getD_getElem?] at h1
  rw [Array.getElem?_eq_getElem hlt] at h1 ⊢
  simpa using h1
 simp [Region.wanted,hg,yielded,ht,h2,undef]
end
section
open Go.RowKit
section
variable {P:Program} {ops:Array Oper} {hp:List HObj} {fr:List Dat} {dst:Option Tmp} {ty:TypeId} {ps:String} {af:Array Edge} {g:Option (Nat × Bool)}
theorem ZGr {x:Operand} {A T:TypeId} {u:Value} {n:Int} (hx:OpD fr x (dX u)) (hr:∀ w,(convert A T u).run P w = .ok (.int .i64 n) w) :
  SY P ops hp ⟨dst,.convert A T x,ty,ps,af,g⟩ fr (dI n):=SY.val fun {I w a} ho=>by
 have h1:a.eval x=u:=hx.get (by simp [Op.operands]) ho
 refine ⟨.int .i64 n,?_,rfl⟩
 unfold execOp
 simp only [h1,Sem.run_bind,hr,Result.andThen_ok,Sem.run_pure]
end
end
end Go.Proofs.YtokmalofdapffaaGreat
namespace Go.Proofs.YtokmalofdapffaaGreat.I
section
open Go.RowKit
theorem ZBg {P:Program} {o:Oper} {a:Act} {w:World} {K:Act->World->Prop} {Q:Exit->Act->World->Prop} (h:o.wp P a w K Q):o.wpIn Fence.wide 0 P a w K Q:=by
 refine ⟨fun _ _=>trivial,?_⟩
 show o.uponIn Fence.wide 0 P a K Q ((execOp a.eval o).run P w)
 unfold Oper.wp at h
 revert h
 generalize (execOp a.eval o).run P w=r
 intro h
 unfold Oper.upon at h
 unfold Oper.uponIn
 split at h
 ·exact h
 ·exact h
 ·exact h
 ·exact ⟨fun h=>by simp [Fence.wide] at h,callsIn_wide.2 h⟩
 ·exact ⟨fun h=>by simp [Fence.wide] at h,fun c cs _=>let ⟨v,w2,r,s⟩:=h c cs;⟨v,w2,r,stepsIn_wide.2 s⟩⟩
 ·exact h
 ·exact h.elim
theorem ZCA {P:Program} {ops:Array Oper} {Q:Exit->Act->World->Prop} {rest:List Oper} {o:Oper} {a:Act} {w:World} (hg:o.guard=none)
  (h:∀ K:Act->World->Prop,(∀ a w,wpListIn Fence.wide 0 P ops Q rest a w->K a w)->o.wp P a w K Q):wpListIn Fence.wide 0 P ops Q (o::rest) a w :=
 wpListIn_plain hg fun K hK=>ZBg (h K hK)
end
section
open Go.RowKit
theorem ZBL {P:Program} {ops:Array Oper} {Q:Exit->Act->World->Prop} {rest:List Oper} {o:Oper} {a:Act} {w:World} (hg:o.guard=none) {v:Value} {w':World} (h:(execOp a.eval o).run P w = .ok (.value v) w') (hk:wpListIn Fence.wide 0 P ops Q rest (a.put o.dst v) w'):wpListIn Fence.wide 0 P ops Q (o::rest) a w :=
 ZCA hg fun K hK=>by unfold Oper.wp;rw [h];exact hK _ _ hk
open Go.RowKit



structure WL (P:Program) (ops:Array Oper) (Q:ZAE) (rest:List Oper) (fr:List Dat) (hp:List HObj):Prop where
 of ::
 out:∀ (P0:Nat->Prop) (B:Nat) (w0 w:World) (a:Act),Hp P0 B w0 hp w->Fr (Imm P0 B hp) w a fr->wpListIn Fence.wide 0 P ops (ZCN Q P0 B w0) rest a w
theorem WL.on {P:Program} {ops:Array Oper} {Q:ZAE} {rest:List Oper} {fr:List Dat} {hp:List HObj} (h:WL P ops Q rest fr hp) {P0:Nat->Prop} {B:Nat} {w0 w:World} {a:Act} (hh:Hp P0 B w0 hp w) (hf:Fr (Imm P0 B hp) w a fr):wpListIn Fence.wide 0 P ops (ZCN Q P0 B w0) rest a w:=h.out _ _ _ _ _ hh hf
section
variable {P:Program} {ops:Array Oper} {hp:List HObj} {o:Oper} {fr fr':List Dat} {d:Dat} {Q:ZAE} {rest:List Oper}
theorem WL.nil (h:Q .normal fr hp):WL P ops Q [] fr hp:=WL.of fun _ _ _ _ _ hh hf=>⟨fr,hp,h,hh,hf⟩
theorem ZF {P:Program} {ops:Array Oper} {hp:List HObj} {o:Oper} {fr:List Dat} {d:Dat} {Q:ZAE} {rest:List Oper} (h:SYG P ops hp o fr d) (k:WL P ops Q rest (ZB fr o.dst d) hp):WL P ops Q (o::rest) fr hp:=by
 refine WL.of fun P0 B w0 w a hh hf=>?_
 have:=h.step (Q:=ZCN Q P0 B w0) hh hf (K:=wpListIn Fence.wide 0 P ops (ZCN Q P0 B w0) rest) fun a' w' e hf'=>k.on (hh.ext e) hf'
 unfold wpListIn
 split
 ·rename_i hw;rw [if_pos hw] at this;exact ZBg this
 ·rename_i hw;rw [if_neg hw] at this;exact ⟨fun _ _=>trivial,this⟩
theorem WL.op (hg:o.guard=none) (h:SY P ops hp o fr d) (k:WL P ops Q rest (ZB fr o.dst d) hp):WL P ops Q (o::rest) fr hp:=ZF (.inl ⟨ZP hg,h⟩) k
theorem WL.weak (h:WL P ops Q rest fr' hp) (hl:fr.length=fr'.length) (k:∀ (t:Nat) (d:Dat),fr'[t]?=some d->∃ d0:Dat,fr[t]?=some d0/\d0.le d):WL P ops Q rest fr hp:=WL.of fun _ _ _ _ _ hh hf=>h.on hh (hf.weak hl k)

end


open Go.RowKit

section
variable {P:Program} {ops:Array Oper} {hp:List HObj} {o:Oper} {fr:List Dat} {d:Dat} {Q:ZAE} {rest:List Oper}
variable {dst:Option Tmp} {ty:TypeId} {ps:String} {af:Array Edge} {g:Option (Nat × Bool)}

theorem WL.drop {o:HObj} (h:WL P ops Q rest fr hp):WL P ops Q rest fr (o::hp):=WL.of fun _ _ _ _ _ hh hf=>h.on hh.drop (hf.mono fun d _ hd=>d.weak hd Imm.sub)

theorem WL.perm {hp':List HObj} (hp1:hp.Perm hp') (h:WL P ops Q rest fr hp'):WL P ops Q rest fr hp:=WL.of fun _ _ _ _ _ hh hf =>
 let ⟨h1,h2⟩:=hh.perm hp1
 h.on h1 (hf.mono fun d _ hd=>d.weak hd fun k hk=>(h2 k).1 hk)
theorem WL.id (h:WL P ops Q rest fr hp):WL P ops Q rest fr hp:=h

end


open Go.RowKit

section
variable {P:Program} {ops:Array Oper} {hp:List HObj} {o:Oper} {fr:List Dat} {d:Dat} {Q:ZAE} {rest:List Oper}
variable {dst:Option Tmp} {ty:TypeId} {ps:String} {af:Array Edge} {g:Option (Nat × Bool)}

theorem WL.alloc {T:TypeId} {n:Nat} {agg:Bool} {z:Value} (hz:TyZ P T z) (hs:(dX z).Shape n agg)
  (h:∀ b,WL P ops Q rest (ZB fr dst (dX (.pointer (some ⟨b,0,none⟩)))) (ZO b T n agg (dX z)::hp)):WL P ops Q (⟨dst,.alloc T,ty,ps,af,none⟩::rest) fr hp:=by
 refine WL.of fun P0 B w0 w a hh hf=>?_
 obtain ⟨cs,k1,k0,k2,k3,k4⟩:=hs (fun _=>True) w z rfl
 have hrun:(execOp a.eval ⟨dst,.alloc T,ty,ps,af,none⟩).run P w = .ok (.value (.pointer (some ⟨w.heap.size,0,none⟩))) (w.alloc (.cells cs.toArray T)):=by
  cases hq:P.info? T with
  | none=>have:=hz.out;simp [hq] at this
  | some i =>
   have hz':i.zero=some z:=by have:=hz.out;simpa [hq] using this
   unfold execOp
   simp [Instr.alloc,zeroValue,typeInfo,hq,hz',newVar,newRow,k3]
 refine ZBL rfl hrun ?_
 have hx:=Ext.of_alloc w (.cells cs.toArray T)
 have hb:∀ k,(ZO w.heap.size T n agg (dX z)).blk=some k->w.heap.size≤k/\k<(w.alloc (.cells cs.toArray T)).heap.size:=fun k hk=>by
  cases hk
  exact ⟨Nat.le_refl _,by simp⟩
 refine (h w.heap.size).on (hh.push hx hb ⟨cs,z,Zx w _,k1,k0,k2,k4,rfl⟩) ?_
 exact Fr.put (hf.mono fun d _ hd=>Z8 hx (fun k hk=>(hb k hk).1) hd) rfl

theorem ZAf {x:Operand} {t b n:Nat} {T T2:TypeId} {agg:Bool} {d0:Dat} (hT:TyI P T n agg) (hp0:OpD fr (.tmp t) (dX (.pointer (some ⟨b,0,none⟩)))) (hx:OpD fr x d) (hs:d.Shape n agg)
  (h:WL P ops Q rest (ZB fr dst (dX undef)) (ZO b T2 n agg d::hp)):WL P ops Q (⟨dst,.store T (.tmp t) x,ty,ps,af,none⟩::rest) fr (ZO b T2 n agg d0::hp):=by
 refine WL.of fun P0 B w0 w a hh hf=>?_
 obtain ⟨cs,u,c1,c2,c0,c3,c4,c5⟩:=hh.ok (ZO b T2 n agg d0) (by simp)
 have h1:=hx.ev hf
 obtain ⟨cs',k1,k0,k2,k3,k4⟩:=hs _ _ _ h1
 have h2:a.eval (.tmp t) = .pointer (some ⟨b,0,none⟩):=hp0.ev hf
 have hr:=ZBW (u:=a.eval x) hT.size c1 c2 k1 k2 k3
 have hrun:(execOp a.eval ⟨dst,.store T (.tmp t) x,ty,ps,af,none⟩).run P w = .ok .skip (w.setRow b cs'.toArray):=by
  unfold execOp
  simp only [h2,Sem.run_bind,hr,Result.andThen_ok,Sem.run_pure]
 refine ZCA rfl fun K hK=>?_
 unfold Oper.wp
 rw [hrun]
 have hgr:w.grownBy (w.setRow b cs'.toArray) (ZO b T2 n agg d0).blk:=ZAH
 have hok:(ZO b T2 n agg d).ok (fun k=>Imm P0 B (ZO b T2 n agg d0::hp) k/\k<w.heap.size) (w.setRow b cs'.toArray) :=
  ⟨cs',a.eval x,setRow_heap w b _ _ _ _ c1,k1,k0,k2,k4,d.grown (d.bound h1) hgr (fun k hk hc=>hc.1.2 _ (by simp) hk)⟩
 exact hK _ _ (h.on (hh.write hgr (.inl rfl) hok) (Fr.put (hf.mono fun _ _ hd=>ZN (o':=ZO b T2 n agg d) hgr (.inl rfl) hd) (d:=dX undef) rfl))
theorem ZC2 {t b n:Nat} {T:TypeId} {agg:Bool} (hp0:fr[t]?=some (dX (.pointer (some ⟨b,0,none⟩)))) (h:WL P ops Q rest (fr.set t (dP n agg d)) hp):WL P ops Q rest fr (ZO b T n agg d::hp):=by
 refine WL.of fun P0 B w0 w a hh hf=>?_
 obtain ⟨cs,u,c1,c2,c0,c3,c4,c5⟩:=hh.ok (ZO b T n agg d) (by simp)
 have hown:=hh.own (ZO b T n agg d) (by simp) b rfl
 refine h.on hh.drop ⟨hf.defers,by rw [hf.size,List.length_set],fun t' d' hd'=>?_⟩
 by_cases htt:t=t'
 ·subst htt
  rw [List.getElem?_set] at hd'
  simp only [if_true] at hd'
  split at hd'
  ·cases hd'
   have hv:a.tmps.getD t undef = .pointer (some ⟨b,0,none⟩):=hf.rd t _ hp0
   rw [hv]
   refine ⟨b,0,u,rfl,ZAF c1 c2 c0 c3 c4 ⟨.inr hown.1,fun o' ho' hk=>?_⟩,d.weak c5 Imm.sub⟩
   exact (List.pairwise_cons.1 hh.apart).1 o' ho' b rfl hk
  ·cases hd'
 ·rw [List.getElem?_set_ne htt] at hd'
  exact d'.weak (hf.rd t' d' hd') Imm.sub
theorem ZI {x:Operand} {t b n:Nat} {T T2:TypeId} {agg:Bool} {d0:Dat} (hT:TyI P T n agg) (hp0:fr[t]?=some (dX (.pointer (some ⟨b,0,none⟩)))) (hx:OpD fr x d) (hs:d.Shape n agg)
  (h:WL P ops Q rest (fr.set t (dP n agg d)) hp):WL P ops Q (⟨none,.store T (.tmp t) x,ty,ps,af,none⟩::rest) fr (ZO b T2 n agg d0::hp) :=
 ZAf hT (OpD.t hp0) hx hs (ZC2 hp0 h)
end


open Go.RowKit

section
variable {P:Program} {ops:Array Oper} {hp:List HObj} {o:Oper} {fr:List Dat} {d:Dat} {Q:ZAE} {rest:List Oper}
variable {dst:Option Tmp} {ty:TypeId} {ps:String} {af:Array Edge} {g:Option (Nat × Bool)}
variable {t e:TypeId} {n bytes:Nat} {z:Value} {ag:Bool}

theorem ZAy {a:Act} {w w':World} {s y:Operand} {v yv v':Value} {dst2:Option Tmp} {ty2:TypeId} {Qa:Exit->Act->World->Prop} (hs:a.eval s=v) (hy:a.eval y=yv) (hr:(Builtin.append_ #[t,t] ty2 #[v,yv]).run P w = .ok v' w') (hk:wpListIn Fence.wide 0 P ops Qa rest (a.put dst2 v') w') :
  wpListIn Fence.wide 0 P ops Qa (⟨dst2,.call { callee:=.builtin .append,args:=#[s,y],argTypes:=#[t,t] },ty2,ps,af,none⟩::rest) a w:=by
 refine ZBL rfl (v:=v') (w':=w') ?_ hk
 unfold execOp
 simp only [resolve,invoke,builtin,List.map_toArray,List.map_cons,List.map_nil,hs,hy,Sem.run_bind,Sem.run_pure,Result.andThen_ok,hr]

theorem Z1 {s x:Operand} {k:Tmp} {dst2:Option Tmp} {ty2:TypeId} {ps2:String} {af2:Array Edge} (E:ElT P t e n z bytes ag) {α:Type} {R:Rel α} {_gR:Good R} {v:Value} {xs:List α} {y:α} (hs:OpD fr s (dX v)) (hx:OpD fr x (dS R y)) (hsh:∀ a,(dS R a).Shape n true) (hne:s ≠ .tmp k) (hkl:k<fr.length) (hn:0<n/\n≤16777216) (hby:0<bytes)
  (hlen:(xs.length+1)*bytes≤140737488355328) (h:∀ v',WL P ops Q rest (ZB (fr.set k dA) dst2 (dX v')) (Zg v' e n R (xs++[y])::hp)) :
  WL P ops Q (⟨some k,.buildSlice t 1 #[(0,x)],ty,ps,af,none⟩::⟨dst2,.call { callee:=.builtin .append,args:=#[s,.tmp k],argTypes:=#[t,t] },ty2,ps2,af2,none⟩::rest) fr (Zg v e n R xs::hp):=by
 refine WL.of fun P0 B w0 w a hh hf=>?_
 have hxr:=hx.ev hf
 obtain ⟨cs,k1,k0,k2,k3,k4⟩:=hsh y _ _ _ hxr
 simp only [if_true] at k4
 have hb:=ZA7 (w:=w) E (us:=[a.eval x]) (css:=[cs]) rfl (fun i u cs' hu hcs=>by
  cases i with
  | zero=>cases hu;cases hcs;exact ⟨k3,k1⟩
  | succ i=>simp at hu) (by simp;omega)
 refine ZBL rfl (v:=.slice (some ⟨w.heap.size,0,none⟩) 1 1) (w':=w.alloc (.cells [cs].flatten.toArray e)) ?_ ?_
 ·unfold execOp
  simp only [List.map_toArray,List.map_cons,List.map_nil,Sem.run_bind]
  have:(Instr.buildSlice t 1 #[(0,a.eval x)]).run P w = .ok (.slice (some ⟨w.heap.size,0,none⟩) 1 1) (w.alloc (.cells [cs].flatten.toArray e)):=hb
  simp only [this,Result.andThen_ok,Sem.run_pure]
 have hxe:=Ext.of_alloc w (.cells [cs].flatten.toArray e)
 have hh1:=hh.ext hxe
 have hf1:Fr (Imm P0 B (Zg v e n R xs::hp)) (w.alloc (.cells [cs].flatten.toArray e)) (a.put (some k) (.slice (some ⟨w.heap.size,0,none⟩) 1 1)) (fr.set k dA):=Fr.put (x:=some k) (hf.ext hxe) (d:=dA) trivial
 have hm:xs.length+[y].length≤maxLen:=by
  have:(xs.length+1)*1≤(xs.length+1)*bytes:=Nat.mul_le_mul_left _ hby
  simp only [maxLen,List.length_cons,List.length_nil];omega
 obtain ⟨v',w',hr,r1,r2,r3⟩:=ZC3 (ty:=ty2) E hh1 (ad:=⟨w.heap.size,0,none⟩) (c:=1) (ys:=[y]) (news:=[cs]) rfl (fun j u hu=>by
   rw [Addr.add_lit,cell_of_row _ _ _ _ _ _ (Zx w _),Nat.zero_add]
   simpa using hu) (fun u hu=>by rw [List.mem_singleton.1 hu];exact ⟨k1,k2⟩) (fun j h1 h2=>by
   have hj:j=0:=by simp at h1;omega
   subst hj
   have:=Good.ext (R:=R) hxr hxe
   rw [k4] at this
   exact this) (by simpa using hlen) hm
 refine ZAy (v:=v) (yv:=.slice (some ⟨w.heap.size,0,none⟩) 1 1) ?_ (ZBr (by rw [hf.size];exact hkl)) hr ?_
 ·rw [ZCi hne];exact hs.ev hf
 ·exact (h v').on r1 (Fr.put (x:=dst2) (hf1.mono fun d _ hd=>ZN (o:=Zg v e n R xs) (o':=Zg v' e n R (xs++[y])) r2 r3 hd) (d:=dX v') rfl)
theorem Zv {s x:Operand} {k:Tmp} {dst2:Option Tmp} {ty2:TypeId} {ps2:String} {af2:Array Edge} (E:ElT P t e 1 z bytes ag) {α:Type} {R:Rel α} {_gR:Good R} {v:Value} {xs:List α} {y:α} (hs:OpD fr s (dX v)) (hx:OpD fr x (dS R y)) (hsh:∀ a,(dS R a).Shape 1 false) (hne:s ≠ .tmp k) (hkl:k<fr.length) (hby:0<bytes)
  (hlen:(xs.length+1)*bytes≤140737488355328) (h:∀ v',WL P ops Q rest (ZB (fr.set k dA) dst2 (dX v')) (Zh v' e R (xs++[y])::hp)) :
  WL P ops Q (⟨some k,.buildSlice t 1 #[(0,x)],ty,ps,af,none⟩::⟨dst2,.call { callee:=.builtin .append,args:=#[s,.tmp k],argTypes:=#[t,t] },ty2,ps2,af2,none⟩::rest) fr (Zh v e R xs::hp):=by
 refine WL.of fun P0 B w0 w a hh hf=>?_
 have hxr:=hx.ev hf
 obtain ⟨cs,k1,k0,k2,k3,k4⟩:=hsh y _ _ _ hxr
 simp only [Bool.false_eq_true,if_false] at k4
 subst k4
 have hb:=ZA7 (w:=w) E (us:=[a.eval x]) (css:=[[a.eval x]]) rfl (fun i u cs' hu hcs=>by
  cases i with
  | zero=>cases hu;cases hcs;exact ⟨k3,k1⟩
  | succ i=>simp at hu) (by simp)
 refine ZBL rfl (v:=.slice (some ⟨w.heap.size,0,none⟩) 1 1) (w':=w.alloc (.cells [[a.eval x]].flatten.toArray e)) ?_ ?_
 ·unfold execOp
  simp only [List.map_toArray,List.map_cons,List.map_nil,Sem.run_bind]
  have:(Instr.buildSlice t 1 #[(0,a.eval x)]).run P w = .ok (.slice (some ⟨w.heap.size,0,none⟩) 1 1) (w.alloc (.cells [[a.eval x]].flatten.toArray e)):=hb
  simp only [this,Result.andThen_ok,Sem.run_pure]
 have hxe:=Ext.of_alloc w (.cells [[a.eval x]].flatten.toArray e)
 have hh1:=hh.ext hxe
 have hf1:Fr (Imm P0 B (Zh v e R xs::hp)) (w.alloc (.cells [[a.eval x]].flatten.toArray e)) (a.put (some k) (.slice (some ⟨w.heap.size,0,none⟩) 1 1)) (fr.set k dA):=Fr.put (x:=some k) (hf.ext hxe) (d:=dA) trivial
 have hm:xs.length+[y].length≤maxLen:=by
  have:(xs.length+1)*1≤(xs.length+1)*bytes:=Nat.mul_le_mul_left _ hby
  simp only [maxLen,List.length_cons,List.length_nil];omega
 obtain ⟨v',w',hr,r1,r2,r3⟩:=ZD0 (ty:=ty2) E hh1 (ad:=⟨w.heap.size,0,none⟩) (c:=1) (ys:=[y]) (news:=[a.eval x]) rfl (fun j u hu=>by
   rw [Addr.add_lit,cell_of_row _ _ _ _ _ _ (Zx w _),Nat.zero_add]
   simpa using hu) k2 (fun j h1 h2=>by
   have hj:j=0:=by simp at h1;omega
   subst hj
   exact Good.ext (R:=R) hxr hxe) (by simpa using hlen) hm
 refine ZAy (v:=v) (yv:=.slice (some ⟨w.heap.size,0,none⟩) 1 1) ?_ (ZBr (by rw [hf.size];exact hkl)) hr ?_
 ·rw [ZCi hne];exact hs.ev hf
 ·exact (h v').on r1 (Fr.put (x:=dst2) (hf1.mono fun d _ hd=>ZN (o:=Zh v e R xs) (o':=Zh v' e R (xs++[y])) r2 r3 hd) (d:=dX v') rfl)

theorem ZKD {α:Type} {R:Rel α} {_gR:Good R} {v:Value} {xs:List α} {s:Tmp} (hs:fr[s]?=some (dX v)) (h:WL P ops Q rest (fr.set s (dS (ArrK n R) xs)) hp):WL P ops Q rest fr (Zg v e n R xs::hp):=WL.of fun _ _ _ _ _ hh hf=>h.on hh.drop (ZD5 hf hs (d:=dS (ArrK n R) xs) (ZH8 hh))
end


open Go.RowKit

section
variable {P:Program} {ops:Array Oper} {hp:List HObj} {md:Region.Mode} {w:World}

theorem ZBn {P:Program} {md:Region.Mode} {ops:Array Oper} {hp:List HObj} {n g:Nat} {L:Array Bool->List Dat->Prop} {Q':Exit->Act->World->Prop} {P0:Nat->Prop} {B:Nat} {w0:World}:∀ (f:Nat) (listed:Array Bool) (fr:List Dat) (a:Act) (w:World),Hp P0 B w0 hp w->Fr (Imm P0 B hp) w a fr ->
  (∀ listed fr a w',Ext w w'->Hp P0 B w0 hp w'->Fr (Imm P0 B hp) w' a fr->L listed fr->wpAnyIn Fence.wide 0 P md ops Q' g listed a w')->ZEj P md ops hp n L f listed fr->wpAnyIn Fence.wide 0 P md ops Q' (f+g) listed a w
 | 0,listed,fr,a,w,hh,hf,hL,h=>by rw [Nat.zero_add];exact hL _ _ _ _ (Ext.refl _) hh hf h
 | f+1,listed,fr,a,w,hh,hf,hL,h=>by
  rw [show f+1+g=(f+g)+1 by omega]
  refine ⟨fun h0=>absurd h0 h.1,fun i hi=>?_⟩
  have h1:=(h.2 i hi).2
  unfold sOp at h1
  unfold wpOpIn
  split
  ·rename_i ho;simp only [ho] at h1
   exact ZBn f _ _ _ _ hh hf hL h1
  ·rename_i o ho;simp only [ho] at h1
   obtain ⟨d,h2,h3⟩:=h1
   have:=h2.step (Q:=Q') hh hf (K:=wpAnyIn Fence.wide 0 P md ops Q' (f+g) (listed.setIfInBounds i true)) fun a' w' e hf'=>ZBn f _ _ _ _ (hh.ext e) hf' (fun li fr' a'' w'' e'=>hL li fr' a'' w'' (e.trans e')) h3
   split
   ·rename_i hw;rw [if_pos hw] at this;exact ZBg this
   ·rename_i hw;rw [if_neg hw] at this;exact ⟨fun _ _=>trivial,this⟩
theorem ZBc {P:Program} {md:Region.Mode} {ops:Array Oper} {Q':Exit->Act->World->Prop}:∀ (l:List Oper) (k:Nat) (listed:Array Bool) (a:Act) (w:World),(∀ j,l[j]?=ops[k+j]?) ->
  Region.seqB md ops l.length k listed=true->wpListIn Fence.wide 0 P ops Q' l a w->wpAnyIn Fence.wide 0 P md ops Q' l.length listed a w
 | [],_,_,_,_,_,hB,h=>⟨by simpa [Region.seqB] using hB,h⟩
 | o::l,k,listed,a,w,hl,hB,h=>by
  have h0:ops[k]?=some o:=by simpa using (hl 0).symm
  simp only [List.length_cons,Region.seqB,Bool.and_eq_true,decide_eq_true_eq] at hB
  refine ⟨fun h1=>(by rw [hB.1] at h1;cases h1),fun i hi=>?_⟩
  rw [hB.1] at hi
  have hik:i=k:=by simpa using hi
  subst hik
  have hw:wpOpIn Fence.wide 0 P ops Q' i (wpListIn Fence.wide 0 P ops Q' l) a w:=by unfold wpOpIn;simp only [h0];exact h
  exact wpOpIn_mono (fun a' w' h'=>ZBc l (i+1) _ a' w' (fun j=>by have:=hl (j+1);simpa [Nat.add_assoc,Nat.add_comm 1 j] using this) hB.2 h') hw
theorem WC.drawTail {id:Nat} {l:List Oper} {fr:List Dat} {Q:ZAE} (n:Nat) (hm:P.follows .mixedOrders=true) (hB:Region.lexTailB .any l.toArray n=true)
  (h:WD P l.toArray hp (fun f=>WL P l.toArray Q (l.drop n) f hp) (l.take n) fr):WC P Q (.region id l.toArray true) fr hp:=by
 refine WC.of fun P0 B w0 w a hh hf=>?_
 simp only [Region.lexTailB,Bool.and_eq_true,decide_eq_true_eq] at hB
 obtain ⟨⟨⟨⟨hsel,hn⟩,hs⟩,hc⟩,hlex⟩:=hB
 have hn':n<l.length:=by simpa using hn
 have htl:(l.take n).length=n:=by simp;omega
 have hdl:(l.drop n).length=l.toArray.size-n:=by simp
 have inv0:HeadInv .any l.toArray n (Array.replicate l.toArray.size false) :=
  ⟨by simp,fun j oj _ hl=>(by rw [getD_replicate_false] at hl;cases hl),fun t _ ht=>getD_in (by simpa using ht) (getD_replicate_false _ _)⟩
 have H:=ZDu (md:=.any) (g:=l.toArray.size-n) hs hc hn (l.take n) 0 _ fr (fun j hj=>by
  have hj':j<n:=by rw [htl] at hj;exact hj
  simp [hj']) (by simpa using htl) inv0 (by rw [htl];exact hlex) h
 have hx:Ext w { w with drawn:=w.drawn+1 }:=(Ext.refl w).drew
 refine wpIn_wide.1 (wpIn_region_any (n:=0) hm ?_)
 have:=ZBn (Q':=ZCN Q P0 B w0) (g:=l.toArray.size-n) _ _ _ _ _ (hh.ext hx) (hf.ext hx) (fun listed fr' a' w' e hh' hf' hL=>by
  have:=ZBc (md:=.any) (Q':=ZCN Q P0 B w0) (l.drop n) n listed a' w' (fun j=>by simp [List.getElem?_drop]) (by rw [hdl];exact hL.1) (hL.2.on hh' hf')
  rwa [hdl] at this) H
 rw [htl,show n+(l.toArray.size-n)=l.toArray.size by omega] at this
 exact this
end



open Go.RowKit


open Go.RowKit

open Go.RowKit

open Go.RowKit


end
end Go.Proofs.YtokmalofdapffaaGreat.I
