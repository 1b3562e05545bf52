/- Part 14: walks by contracts, and plain laws. -/
import Derived.RangeFuncSeq
import Derived.Test.YtekiljakcngcoaaGreatDoorV13
set_option linter.unusedVariables false
set_option linter.unusedSimpArgs false
set_option linter.unusedSectionVars false
set_option maxRecDepth 100000
set_option maxHeartbeats 4000000
namespace Go.Proofs.YtekiljakcngcoaaGreatDoor.I
section
open Go.RowKit
theorem ZBa {P:Program} {ops:Array Oper} {Q:Exit->Act->World->Prop} {rest:List Oper} {o:Oper} {a:Act} {w:World} (hg:o.guard=none) {v:Value} {w':World} (h:(execOp a.eval o).run P w = .ok (.value v) w') (hk:wpListIn Fence.wide 0 P ops Q rest (a.put o.dst v) w'):wpListIn Fence.wide 0 P ops Q (o::rest) a w :=
 ZA5 hg fun K hK=>by unfold Oper.wp;rw [h];exact hK _ _ hk
open Go.RowKit



structure WL (P:Program) (ops:Array Oper) (Q:ZAW) (rest:List Oper) (fr:List Dat) (hp:List HObj):Prop where
 of ::
 out:∀ (P0:Nat->Prop) (B:Nat) (w0 w:World) (a:Act),Hp P0 B w0 hp w->Fr (Imm P0 B hp) w a fr->wpListIn Fence.wide 0 P ops (ZCE Q P0 B w0) rest a w
theorem WL.on {P:Program} {ops:Array Oper} {Q:ZAW} {rest:List Oper} {fr:List Dat} {hp:List HObj} (h:WL P ops Q rest fr hp) {P0:Nat->Prop} {B:Nat} {w0 w:World} {a:Act} (hh:Hp P0 B w0 hp w) (hf:Fr (Imm P0 B hp) w a fr):wpListIn Fence.wide 0 P ops (ZCE Q P0 B w0) rest a w:=h.out _ _ _ _ _ hh hf
section
variable {P:Program} {ops:Array Oper} {hp:List HObj} {o:Oper} {fr fr':List Dat} {d:Dat} {Q:ZAW} {rest:List Oper}
theorem WL.nil (h:Q .normal fr hp):WL P ops Q [] fr hp:=WL.of fun _ _ _ _ _ hh hf=>⟨fr,hp,h,hh,hf⟩
theorem ZS {P:Program} {ops:Array Oper} {hp:List HObj} {o:Oper} {fr:List Dat} {d:Dat} {Q:ZAW} {rest:List Oper} (h:SYG P ops hp o fr d) (k:WL P ops Q rest (ZA fr o.dst d) hp):WL P ops Q (o::rest) fr hp:=by
 refine WL.of fun P0 B w0 w a hh hf=>?_
 have:=h.step (Q:=ZCE Q P0 B w0) hh hf (K:=wpListIn Fence.wide 0 P ops (ZCE Q P0 B w0) rest) fun a' w' e hf'=>k.on (hh.ext e) hf'
 unfold wpListIn
 split
 ·rename_i hw;rw [if_pos hw] at this;exact ZDL this
 ·rename_i hw;rw [if_neg hw] at this;exact ⟨fun _ _=>trivial,this⟩
theorem WL.op (hg:o.guard=none) (h:SY P ops hp o fr d) (k:WL P ops Q rest (ZA fr o.dst d) hp):WL P ops Q (o::rest) fr hp:=ZS (.inl ⟨Zc hg,h⟩) k
theorem WL.weak (h:WL P ops Q rest fr' hp) (hl:fr.length=fr'.length) (k:∀ (t:Nat) (d:Dat),fr'[t]?=some d->∃ d0:Dat,fr[t]?=some d0/\d0.le d):WL P ops Q rest fr hp:=WL.of fun _ _ _ _ _ hh hf=>h.on hh (hf.weak hl k)

end


open Go.RowKit

section
variable {P:Program} {ops:Array Oper} {hp:List HObj} {o:Oper} {fr:List Dat} {d:Dat} {Q:ZAW} {rest:List Oper}
variable {dst:Option Tmp} {ty:TypeId} {ps:String} {af:Array Edge} {g:Option (Nat × Bool)}

theorem WL.drop {o:HObj} (h:WL P ops Q rest fr hp):WL P ops Q rest fr (o::hp):=WL.of fun _ _ _ _ _ hh hf=>h.on hh.drop (hf.mono fun d _ hd=>d.weak hd Imm.sub)

theorem WL.perm {hp':List HObj} (hp1:hp.Perm hp') (h:WL P ops Q rest fr hp'):WL P ops Q rest fr hp:=WL.of fun _ _ _ _ _ hh hf =>
 let ⟨h1,h2⟩:=hh.perm hp1
 h.on h1 (hf.mono fun d _ hd=>d.weak hd fun k hk=>(h2 k).1 hk)
theorem WL.id (h:WL P ops Q rest fr hp):WL P ops Q rest fr hp:=h
section
variable {p:Prop} {_ip:Decidable p} {b:Bool} {gi:Nat} {pol:Bool} {t:Tmp} {K:List Dat->Prop}
theorem Zj (_hg:o.guard=some (gi,pol)) (_ht:(ops[gi]?).bind (·.dst)=some t) (hf:fr[t]?=some (dB b)) (h1:b=true->WL P ops Q (o::rest) (fr.set t (dB true)) hp) (h2:b=false->WL P ops Q (o::rest) (fr.set t (dB false)) hp):WL P ops Q (o::rest) fr hp:=by
 cases b with
 | true=>have:=h1 rfl;rwa [ZDj hf] at this
 | false=>have:=h2 rfl;rwa [ZDj hf] at this
end

end


open Go.RowKit

section
variable {P:Program} {ops:Array Oper} {hp:List HObj} {o:Oper} {fr:List Dat} {d:Dat} {Q:ZAW} {rest:List Oper}
variable {dst:Option Tmp} {ty:TypeId} {ps:String} {af:Array Edge} {g:Option (Nat × Bool)}

theorem WL.alloc {T:TypeId} {n:Nat} {agg:Bool} {z:Value} (hz:TyZ P T z) (hs:(dX z).Shape n agg)
  (h:∀ b,WL P ops Q rest (ZA fr dst (dX (.pointer (some ⟨b,0,none⟩)))) (Zh b T n agg (dX z)::hp)):WL P ops Q (⟨dst,.alloc T,ty,ps,af,none⟩::rest) fr hp:=by
 refine WL.of fun P0 B w0 w a hh hf=>?_
 obtain ⟨cs,k1,k0,k2,k3,k4⟩:=hs (fun _=>True) w z rfl
 have hrun:(execOp a.eval ⟨dst,.alloc T,ty,ps,af,none⟩).run P w = .ok (.value (.pointer (some ⟨w.heap.size,0,none⟩))) (w.alloc (.cells cs.toArray T)):=by
  cases hq:P.info? T with
  | none=>have:=hz.out;simp [hq] at this
  | some i =>
   have hz':i.zero=some z:=by have:=hz.out;simpa [hq] using this
   unfold execOp
   simp [Instr.alloc,zeroValue,typeInfo,hq,hz',newVar,newRow,k3]
 refine ZBa rfl hrun ?_
 have hx:=Ext.of_alloc w (.cells cs.toArray T)
 have hb:∀ k,(Zh w.heap.size T n agg (dX z)).blk=some k->w.heap.size≤k/\k<(w.alloc (.cells cs.toArray T)).heap.size:=fun k hk=>by
  cases hk
  exact ⟨Nat.le_refl _,by simp⟩
 refine (h w.heap.size).on (hh.push hx hb ⟨cs,z,Z0 w _,k1,k0,k2,k4,rfl⟩) ?_
 exact Fr.put (hf.mono fun d _ hd=>Z6 hx (fun k hk=>(hb k hk).1) hd) rfl

theorem ZAK {x:Operand} {t b n:Nat} {T T2:TypeId} {agg:Bool} {d0:Dat} (hT:TyI P T n agg) (hp0:OpD fr (.tmp t) (dX (.pointer (some ⟨b,0,none⟩)))) (hx:OpD fr x d) (hs:d.Shape n agg)
  (h:WL P ops Q rest (ZA fr dst (dX undef)) (Zh b T2 n agg d::hp)):WL P ops Q (⟨dst,.store T (.tmp t) x,ty,ps,af,none⟩::rest) fr (Zh b T2 n agg d0::hp):=by
 refine WL.of fun P0 B w0 w a hh hf=>?_
 obtain ⟨cs,u,c1,c2,c0,c3,c4,c5⟩:=hh.ok (Zh b T2 n agg d0) (by simp)
 have h1:=hx.ev hf
 obtain ⟨cs',k1,k0,k2,k3,k4⟩:=hs _ _ _ h1
 have h2:a.eval (.tmp t) = .pointer (some ⟨b,0,none⟩):=hp0.ev hf
 have hr:=ZB1 (u:=a.eval x) hT.size c1 c2 k1 k2 k3
 have hrun:(execOp a.eval ⟨dst,.store T (.tmp t) x,ty,ps,af,none⟩).run P w = .ok .skip (w.setRow b cs'.toArray):=by
  unfold execOp
  simp only [h2,Sem.run_bind,hr,Result.andThen_ok,Sem.run_pure]
 refine ZA5 rfl fun K hK=>?_
 unfold Oper.wp
 rw [hrun]
 have hgr:w.grownBy (w.setRow b cs'.toArray) (Zh b T2 n agg d0).blk:=ZAM
 have hok:(Zh b T2 n agg d).ok (fun k=>Imm P0 B (Zh b T2 n agg d0::hp) k/\k<w.heap.size) (w.setRow b cs'.toArray) :=
  ⟨cs',a.eval x,setRow_heap w b _ _ _ _ c1,k1,k0,k2,k4,d.grown (d.bound h1) hgr (fun k hk hc=>hc.1.2 _ (by simp) hk)⟩
 exact hK _ _ (h.on (hh.write hgr (.inl rfl) hok) (Fr.put (hf.mono fun _ _ hd=>ZY (o':=Zh b T2 n agg d) hgr (.inl rfl) hd) (d:=dX undef) rfl))
end


open Go.RowKit

section
variable {P:Program} {ops:Array Oper} {hp:List HObj} {o:Oper} {fr:List Dat} {d:Dat} {Q:ZAW} {rest:List Oper}
variable {dst:Option Tmp} {ty:TypeId} {ps:String} {af:Array Edge} {g:Option (Nat × Bool)}
variable {t e:TypeId} {n bytes:Nat} {z:Value} {ag:Bool}

theorem ZA6 {a:Act} {w w':World} {s y:Operand} {v yv v':Value} {dst2:Option Tmp} {ty2:TypeId} {Qa:Exit->Act->World->Prop} (hs:a.eval s=v) (hy:a.eval y=yv) (hr:(Builtin.append_ #[t,t] ty2 #[v,yv]).run P w = .ok v' w') (hk:wpListIn Fence.wide 0 P ops Qa rest (a.put dst2 v') w') :
  wpListIn Fence.wide 0 P ops Qa (⟨dst2,.call { callee:=.builtin .append,args:=#[s,y],argTypes:=#[t,t] },ty2,ps,af,none⟩::rest) a w:=by
 refine ZBa rfl (v:=v') (w':=w') ?_ hk
 unfold execOp
 simp only [resolve,invoke,builtin,List.map_toArray,List.map_cons,List.map_nil,hs,hy,Sem.run_bind,Sem.run_pure,Result.andThen_ok,hr]

theorem ZO {s x:Operand} {k:Tmp} {dst2:Option Tmp} {ty2:TypeId} {ps2:String} {af2:Array Edge} (E:ElT P t e n z bytes ag) {α:Type} {R:Rel α} {_gR:Good R} {v:Value} {xs:List α} {y:α} (hs:OpD fr s (dX v)) (hx:OpD fr x (dS R y)) (hsh:∀ a,(dS R a).Shape n true) (hne:s ≠ .tmp k) (hkl:k<fr.length) (hn:0<n/\n≤16777216) (hby:0<bytes)
  (hlen:(xs.length+1)*bytes≤140737488355328) (h:∀ v',WL P ops Q rest (ZA (fr.set k dA) dst2 (dX v')) (Zp v' e n R (xs++[y])::hp)) :
  WL P ops Q (⟨some k,.buildSlice t 1 #[(0,x)],ty,ps,af,none⟩::⟨dst2,.call { callee:=.builtin .append,args:=#[s,.tmp k],argTypes:=#[t,t] },ty2,ps2,af2,none⟩::rest) fr (Zp v e n R xs::hp):=by
 refine WL.of fun P0 B w0 w a hh hf=>?_
 have hxr:=hx.ev hf
 obtain ⟨cs,k1,k0,k2,k3,k4⟩:=hsh y _ _ _ hxr
 simp only [if_true] at k4
 have hb:=ZBP (w:=w) E (us:=[a.eval x]) (css:=[cs]) rfl (fun i u cs' hu hcs=>by
  cases i with
  | zero=>cases hu;cases hcs;exact ⟨k3,k1⟩
  | succ i=>simp at hu) (by simp;omega)
 refine ZBa rfl (v:=.slice (some ⟨w.heap.size,0,none⟩) 1 1) (w':=w.alloc (.cells [cs].flatten.toArray e)) ?_ ?_
 ·unfold execOp
  simp only [List.map_toArray,List.map_cons,List.map_nil,Sem.run_bind]
  have:(Instr.buildSlice t 1 #[(0,a.eval x)]).run P w = .ok (.slice (some ⟨w.heap.size,0,none⟩) 1 1) (w.alloc (.cells [cs].flatten.toArray e)):=hb
  simp only [this,Result.andThen_ok,Sem.run_pure]
 have hxe:=Ext.of_alloc w (.cells [cs].flatten.toArray e)
 have hh1:=hh.ext hxe
 have hf1:Fr (Imm P0 B (Zp v e n R xs::hp)) (w.alloc (.cells [cs].flatten.toArray e)) (a.put (some k) (.slice (some ⟨w.heap.size,0,none⟩) 1 1)) (fr.set k dA):=Fr.put (x:=some k) (hf.ext hxe) (d:=dA) trivial
 have hm:xs.length+[y].length≤maxLen:=by
  have:(xs.length+1)*1≤(xs.length+1)*bytes:=Nat.mul_le_mul_left _ hby
  simp only [maxLen,List.length_cons,List.length_nil];omega
 obtain ⟨v',w',hr,r1,r2,r3⟩:=ZEN (ty:=ty2) E hh1 (ad:=⟨w.heap.size,0,none⟩) (c:=1) (ys:=[y]) (news:=[cs]) rfl (fun j u hu=>by
   rw [Addr.add_lit,cell_of_row _ _ _ _ _ _ (Z0 w _),Nat.zero_add]
   simpa using hu) (fun u hu=>by rw [List.mem_singleton.1 hu];exact ⟨k1,k2⟩) (fun j h1 h2=>by
   have hj:j=0:=by simp at h1;omega
   subst hj
   have:=Good.ext (R:=R) hxr hxe
   rw [k4] at this
   exact this) (by simpa using hlen) hm
 refine ZA6 (v:=v) (yv:=.slice (some ⟨w.heap.size,0,none⟩) 1 1) ?_ (ZBv (by rw [hf.size];exact hkl)) hr ?_
 ·rw [ZCu hne];exact hs.ev hf
 ·exact (h v').on r1 (Fr.put (x:=dst2) (hf1.mono fun d _ hd=>ZY (o:=Zp v e n R xs) (o':=Zp v' e n R (xs++[y])) r2 r3 hd) (d:=dX v') rfl)
theorem ZM {s x:Operand} {k:Tmp} {dst2:Option Tmp} {ty2:TypeId} {ps2:String} {af2:Array Edge} (E:ElT P t e 1 z bytes ag) {α:Type} {R:Rel α} {_gR:Good R} {v:Value} {xs:List α} {y:α} (hs:OpD fr s (dX v)) (hx:OpD fr x (dS R y)) (hsh:∀ a,(dS R a).Shape 1 false) (hne:s ≠ .tmp k) (hkl:k<fr.length) (hby:0<bytes)
  (hlen:(xs.length+1)*bytes≤140737488355328) (h:∀ v',WL P ops Q rest (ZA (fr.set k dA) dst2 (dX v')) (Zr v' e R (xs++[y])::hp)) :
  WL P ops Q (⟨some k,.buildSlice t 1 #[(0,x)],ty,ps,af,none⟩::⟨dst2,.call { callee:=.builtin .append,args:=#[s,.tmp k],argTypes:=#[t,t] },ty2,ps2,af2,none⟩::rest) fr (Zr v e R xs::hp):=by
 refine WL.of fun P0 B w0 w a hh hf=>?_
 have hxr:=hx.ev hf
 obtain ⟨cs,k1,k0,k2,k3,k4⟩:=hsh y _ _ _ hxr
 simp only [Bool.false_eq_true,if_false] at k4
 subst k4
 have hb:=ZBP (w:=w) E (us:=[a.eval x]) (css:=[[a.eval x]]) rfl (fun i u cs' hu hcs=>by
  cases i with
  | zero=>cases hu;cases hcs;exact ⟨k3,k1⟩
  | succ i=>simp at hu) (by simp)
 refine ZBa rfl (v:=.slice (some ⟨w.heap.size,0,none⟩) 1 1) (w':=w.alloc (.cells [[a.eval x]].flatten.toArray e)) ?_ ?_
 ·unfold execOp
  simp only [List.map_toArray,List.map_cons,List.map_nil,Sem.run_bind]
  have:(Instr.buildSlice t 1 #[(0,a.eval x)]).run P w = .ok (.slice (some ⟨w.heap.size,0,none⟩) 1 1) (w.alloc (.cells [[a.eval x]].flatten.toArray e)):=hb
  simp only [this,Result.andThen_ok,Sem.run_pure]
 have hxe:=Ext.of_alloc w (.cells [[a.eval x]].flatten.toArray e)
 have hh1:=hh.ext hxe
 have hf1:Fr (Imm P0 B (Zr v e R xs::hp)) (w.alloc (.cells [[a.eval x]].flatten.toArray e)) (a.put (some k) (.slice (some ⟨w.heap.size,0,none⟩) 1 1)) (fr.set k dA):=Fr.put (x:=some k) (hf.ext hxe) (d:=dA) trivial
 have hm:xs.length+[y].length≤maxLen:=by
  have:(xs.length+1)*1≤(xs.length+1)*bytes:=Nat.mul_le_mul_left _ hby
  simp only [maxLen,List.length_cons,List.length_nil];omega
 obtain ⟨v',w',hr,r1,r2,r3⟩:=ZCW (ty:=ty2) E hh1 (ad:=⟨w.heap.size,0,none⟩) (c:=1) (ys:=[y]) (news:=[a.eval x]) rfl (fun j u hu=>by
   rw [Addr.add_lit,cell_of_row _ _ _ _ _ _ (Z0 w _),Nat.zero_add]
   simpa using hu) k2 (fun j h1 h2=>by
   have hj:j=0:=by simp at h1;omega
   subst hj
   exact Good.ext (R:=R) hxr hxe) (by simpa using hlen) hm
 refine ZA6 (v:=v) (yv:=.slice (some ⟨w.heap.size,0,none⟩) 1 1) ?_ (ZBv (by rw [hf.size];exact hkl)) hr ?_
 ·rw [ZCu hne];exact hs.ev hf
 ·exact (h v').on r1 (Fr.put (x:=dst2) (hf1.mono fun d _ hd=>ZY (o:=Zr v e R xs) (o':=Zr v' e R (xs++[y])) r2 r3 hd) (d:=dX v') rfl)

theorem ZLL {α:Type} {R:Rel α} {_gR:Good R} {v:Value} {xs:List α} {s:Tmp} (hs:fr[s]?=some (dX v)) (h:WL P ops Q rest (fr.set s (dS (Arr R) xs)) hp):WL P ops Q rest fr (Zr v e R xs::hp):=WL.of fun _ _ _ _ _ hh hf=>h.on hh.drop (ZDH hf hs (d:=dS (Arr R) xs) (ZCn hh))
theorem ZHc {α:Type} {R:Rel α} {_gR:Good R} {v:Value} {xs:List α} {s:Tmp} (hs:fr[s]?=some (dX v)) (h:WL P ops Q rest (fr.set s (dS (ArrK n R) xs)) hp):WL P ops Q rest fr (Zp v e n R xs::hp):=WL.of fun _ _ _ _ _ hh hf=>h.on hh.drop (ZDH hf hs (d:=dS (ArrK n R) xs) (ZD9 hh))
end


open Go.RowKit

section
variable {P:Program} {ops:Array Oper} {hp:List HObj} {md:Region.Mode} {w:World}

theorem ZBu {P:Program} {md:Region.Mode} {ops:Array Oper} {hp:List HObj} {n g:Nat} {L:Array Bool->List Dat->Prop} {Q':Exit->Act->World->Prop} {P0:Nat->Prop} {B:Nat} {w0:World}:∀ (f:Nat) (listed:Array Bool) (fr:List Dat) (a:Act) (w:World),Hp P0 B w0 hp w->Fr (Imm P0 B hp) w a fr ->
  (∀ listed fr a w',Ext w w'->Hp P0 B w0 hp w'->Fr (Imm P0 B hp) w' a fr->L listed fr->wpAnyIn Fence.wide 0 P md ops Q' g listed a w')->ZFM P md ops hp n L f listed fr->wpAnyIn Fence.wide 0 P md ops Q' (f+g) listed a w
 | 0,listed,fr,a,w,hh,hf,hL,h=>by rw [Nat.zero_add];exact hL _ _ _ _ (Ext.refl _) hh hf h
 | f+1,listed,fr,a,w,hh,hf,hL,h=>by
  rw [show f+1+g=(f+g)+1 by omega]
  refine ⟨fun h0=>absurd h0 h.1,fun i hi=>?_⟩
  have h1:=(h.2 i hi).2
  unfold sOp at h1
  unfold wpOpIn
  split
  ·rename_i ho;simp only [ho] at h1
   exact ZBu f _ _ _ _ hh hf hL h1
  ·rename_i o ho;simp only [ho] at h1
   obtain ⟨d,h2,h3⟩:=h1
   have:=h2.step (Q:=Q') hh hf (K:=wpAnyIn Fence.wide 0 P md ops Q' (f+g) (listed.setIfInBounds i true)) fun a' w' e hf'=>ZBu f _ _ _ _ (hh.ext e) hf' (fun li fr' a'' w'' e'=>hL li fr' a'' w'' (e.trans e')) h3
   split
   ·rename_i hw;rw [if_pos hw] at this;exact ZDL this
   ·rename_i hw;rw [if_neg hw] at this;exact ⟨fun _ _=>trivial,this⟩
theorem ZBm {P:Program} {md:Region.Mode} {ops:Array Oper} {Q':Exit->Act->World->Prop}:∀ (l:List Oper) (k:Nat) (listed:Array Bool) (a:Act) (w:World),(∀ j,l[j]?=ops[k+j]?) ->
  Region.seqB md ops l.length k listed=true->wpListIn Fence.wide 0 P ops Q' l a w->wpAnyIn Fence.wide 0 P md ops Q' l.length listed a w
 | [],_,_,_,_,_,hB,h=>⟨by simpa [Region.seqB] using hB,h⟩
 | o::l,k,listed,a,w,hl,hB,h=>by
  have h0:ops[k]?=some o:=by simpa using (hl 0).symm
  simp only [List.length_cons,Region.seqB,Bool.and_eq_true,decide_eq_true_eq] at hB
  refine ⟨fun h1=>(by rw [hB.1] at h1;cases h1),fun i hi=>?_⟩
  rw [hB.1] at hi
  have hik:i=k:=by simpa using hi
  subst hik
  have hw:wpOpIn Fence.wide 0 P ops Q' i (wpListIn Fence.wide 0 P ops Q' l) a w:=by unfold wpOpIn;simp only [h0];exact h
  exact wpOpIn_mono (fun a' w' h'=>ZBm l (i+1) _ a' w' (fun j=>by have:=hl (j+1);simpa [Nat.add_assoc,Nat.add_comm 1 j] using this) hB.2 h') hw
end



open Go.RowKit


open Go.RowKit

open Go.RowKit

open Go.RowKit


end
end Go.Proofs.YtekiljakcngcoaaGreatDoor.I
namespace Go.Proofs.YtekiljakcngcoaaGreatDoor
section
open Go.RowKit
def ZAt (b:Nat) (o:Obj):HObj where
 blk:=some b
 ok:=fun _ w=>w.heap[b]?=some o
 weak:=fun h _=>h
 bound:=fun h=>h
 move:=fun {P w w' row} h hg _ hne=>by
  have hlt:b<w.heap.size:=(Array.getElem?_eq_some_iff.1 h).1
  refine (hg.block b hlt ?_).trans h
  rcases hne with h|h
  ·cases h
  ·exact h
def ZAI (v:Value) (d:Dat):HObj where
 blk:=none
 ok:=fun I w=>d.rd I w v
 weak:=fun h q=>d.weak h q
 bound:=fun h=>d.bound h
 move:=fun h hg hP _=>d.grown h hg hP
structure YStep (P:Program) (l:Nat) {α:Type} (D:α->Dat) (J:List α->List HObj->Prop) (N:Nat):Prop where
 out:∀ (P0:Nat->Prop) (B:Nat) (w0:World) (hp:List HObj) (pre:List α) (js:List HObj) (x:α) (u:Value) (W:World),pre.length<N->J pre js->Hp P0 B w0 (js++hp) W->(D x).rd (Imm P0 B (js++hp)) W u ->
  YieldAt Fence.wide 0 P l #[u] W fun e W'=>e = .returned (.bool true)/\∃ js',J (pre++[x]) js'/\Hp P0 B w0 (js'++hp) W'
structure CallC (P:Program) (f:FuncId) (ds:List Dat) (hp1:List HObj) (K:Dat->List HObj->Prop):Prop where
 out:∀ (P0:Nat->Prop) (B:Nat) (w0:World) (hp:List HObj) (vs:List Value) (W:World),Hp P0 B w0 (hp1++hp) W->vs.length=ds.length ->
  (∀ (i:Nat) (d:Dat),ds[i]?=some d->d.rd (Imm P0 B (hp1++hp)) W (vs.getD i undef)) ->
  Calls P f vs.toArray W fun e W'=>∃ v d hp2,e = .returned v/\K d hp2/\Hp P0 B w0 (hp2++hp) W'/\d.rd (Imm P0 B (hp2++hp)) W' v
structure SeqC (P:Program) (gf:FuncId) (lb:List Value) (hk:List HObj) {α:Type} (D:α->Dat) (xs:List α):Prop where
 out:∀ (l:Nat) (J:List α->List HObj->Prop),YStep P l D J xs.length->∀ js,J [] js->CallC P gf (dX (.func (.yield l) #[] #[])::lb.map dX) (js++hk) (fun _ hp2=>∃ js',J xs js'/\hp2=js'++hk)

section
variable {P:Program} {f:FuncId} {fn:Func} {c:Code} {t:Tmp} {ds:List Dat} {hp1:List HObj} {K:Dat->List HObj->Prop}
def finC (t:Nat) (K:Dat->List HObj->Prop) (hp:List HObj):ZAW:=fun e f q=>(match e with|.normal|.ret=>True|_=>False)/\∃ d hp2,f[t]?=some d/\q=hp2++hp/\K d hp2
def finC0 (K:Dat->List HObj->Prop) (hp:List HObj):ZAW:=fun e _ q=>(match e with|.normal|.ret=>True|_=>False)/\∃ hp2,q=hp2++hp/\K dA hp2
theorem ZAD (hf:P.funcs[f]?=some fn) (hb:fn.body=some c) (hr:fn.results=#[.tmp t])
  (h:∀ hp,WC P (finC t K hp) c (ds++List.replicate (fn.ntmps-ds.length) (dX undef)) (hp1++hp)):CallC P f ds hp1 K:=⟨fun P0 B w0 hp vs W hh hl hv=>by
 refine calls_of_wp hf hb ?_
 have hf0:=ZBI (m:=fn.ntmps-ds.length) hl hv
 have hsz:vs.toArray.size=ds.length:=by simp [hl]
 rw [hsz]
 refine Code.wp_mono (fun e a' w' ⟨f',p',q,hh',hf'⟩=>?_) ((h hp).on hh hf0)
 obtain ⟨hx,d',hp2,hd',rfl,hk'⟩:=q
 have hv:=hf'.rd t d' hd'
 cases e with
 | normal=>exact ⟨hf'.defers,_,results_tmp hr _ _ _,_,d',hp2,rfl,hk',hh',hv⟩
 | ret=>exact ⟨hf'.defers,_,results_tmp hr _ _ _,_,d',hp2,rfl,hk',hh',hv⟩
 | _=>exact hx.elim⟩
theorem ZFQ (hf:P.funcs[f]?=some fn) (hb:fn.body=some c) (hr:fn.results=#[])
  (h:∀ hp,WC P (finC0 K hp) c (ds++List.replicate (fn.ntmps-ds.length) (dX undef)) (hp1++hp)):CallC P f ds hp1 K:=⟨fun P0 B w0 hp vs W hh hl hv=>by
 refine calls_of_wp hf hb ?_
 have hf0:=ZBI (m:=fn.ntmps-ds.length) hl hv
 have hsz:vs.toArray.size=ds.length:=by simp [hl]
 rw [hsz]
 refine Code.wp_mono (fun e a' w' ⟨f',p',q,hh',hf'⟩=>?_) ((h hp).on hh hf0)
 obtain ⟨hx,hp2,rfl,hk'⟩:=q
 cases e with
 | normal=>exact ⟨hf'.defers,_,results_none hr _ _ _,_,dA,hp2,rfl,hk',hh',trivial⟩
 | ret=>exact ⟨hf'.defers,_,results_none hr _ _ _,_,dA,hp2,rfl,hk',hh',trivial⟩
 | _=>exact hx.elim⟩
end
section
variable {P:Program} {ops:Array Oper} {hp:List HObj} {fr:List Dat} {Q:ZAW} {rest:List Oper} {dst:Option Tmp} {ty:TypeId} {ps:String} {af:Array Edge} {d:Dat} {c:Code}
theorem ZF5 (t:Nat) (ht:fr[t]?=some d) (h:∀ v,WC P Q c (fr.set t (dX v)) (ZAI v d::hp)):WC P Q c fr hp:=WC.of fun P0 B w0 w a hh hf=>by
 have hg:(ZAI (a.tmps.getD t undef) d).blk=none:=rfl
 have hd:=hf.rd t d ht
 refine (h (a.tmps.getD t undef)).on (ZBT (l:=[]) hg hh hd) ⟨hf.defers,by rw [hf.size,List.length_set],fun t' d' hd'=>?_⟩
 by_cases htt:t=t'
 ·subst htt
  rw [List.getElem?_set] at hd'
  simp only [if_true] at hd'
  split at hd'
  ·cases hd';rfl
  ·cases hd'
 ·rw [List.getElem?_set_ne htt] at hd'
  exact d'.weak (hf.rd t' d' hd') fun k=>(ZAC hg [] k).2
theorem ZF6 {v:Value} (t:Nat) (ht:fr[t]?=some (dX v)) (hm:ZAI v d∈hp) (h:WC P Q c (fr.set t d) hp):WC P Q c fr hp:=WC.of fun P0 B w0 w a hh hf=>by
 refine h.on hh ⟨hf.defers,by rw [hf.size,List.length_set],fun t' d' hd'=>?_⟩
 by_cases htt:t=t'
 ·subst htt
  rw [List.getElem?_set] at hd'
  simp only [if_true] at hd'
  split at hd'
  ·cases hd'
   have h1:a.tmps.getD t undef=v:=hf.rd t _ ht
   rw [h1]
   exact hh.ok _ hm
  ·cases hd'
 ·rw [List.getElem?_set_ne htt] at hd'
  exact hf.rd t' d' hd'
theorem ZLG {hp':List HObj} (hp1:hp.Perm hp') (h:WC P Q c fr hp'):WC P Q c fr hp:=WC.of fun _ _ _ _ _ hh hf =>
 let ⟨h1,h2⟩:=hh.perm hp1
 h.on h1 (hf.mono fun d _ hd=>d.weak hd fun k hk=>(h2 k).1 hk)
def ArgsX (fr:List Dat) (xs:List Operand) (vs:List Value):Prop:=xs.length=vs.length/\∀ (i:Nat) (x:Operand) (v:Value),xs[i]?=some x->vs[i]?=some v->OpD fr x (dX v)
theorem ArgsX.nil:ArgsX fr [] []:=⟨rfl,fun i x v h=>by simp at h⟩
theorem ArgsX.cons {x:Operand} {xs:List Operand} {v:Value} {vs:List Value} (h:OpD fr x (dX v)) (k:ArgsX fr xs vs):ArgsX fr (x::xs) (v::vs) :=
 ⟨by simp [k.1],fun i y u hy hu=>by
  cases i with
  | zero=>simp at hy hu;subst hy;subst hu;exact h
  | succ i=>exact k.2 i y u (by simpa using hy) (by simpa using hu)⟩
theorem ZDU {f:FuncId} {caps:Array Operand} {vs:List Value} {g:Option (Nat × Bool)} (ha:ArgsX fr caps.toList vs) :
  SY P ops hp ⟨dst,.makeFunc (.func f) #[] caps,ty,ps,af,g⟩ fr (dX (.func (.func f) #[] vs.toArray)):=SY.val fun {I w a} ho=>by
 refine ⟨.func (.func f) #[] (caps.map a.eval),by unfold execOp;simp [Instr.makeFunc],?_⟩
 show Value.func _ _ _=Value.func _ _ _
 congr 1
 apply Array.ext'
 rw [Array.toList_map]
 show caps.toList.map a.eval=vs
 apply List.ext_getElem (by simpa using ha.1)
 intro i h1 h2
 have hi:i<caps.toList.length:=by simpa using h1
 have h3:a.eval caps.toList[i]=vs[i]:=(ha.2 i _ _ (List.getElem?_eq_getElem hi) (List.getElem?_eq_getElem h2)).get (by simp only [Op.operands];simp) ho
 simpa using h3
theorem ZRr {x:Operand} {T:TypeId} {w:World} {a:Act} {g:Option (Nat × Bool)} {cs:List Value} (h:(a.eval x).cells=cs.toArray) :
  (execOp a.eval ⟨dst,.box T x,ty,ps,af,g⟩).run P w = .ok (.value (.pointer (some ⟨w.heap.size,0,none⟩))) (w.alloc (.cells cs.toArray T)):=by
 unfold execOp
 simp [Instr.box,newVar,newRow,h]
theorem ZHb {x:Operand} {T:TypeId} {n:Nat} {agg:Bool} (hx:OpD fr x d) (hs:d.Shape n agg) (h:∀ b,WL P ops Q rest (ZA fr dst (dX (.pointer (some ⟨b,0,none⟩)))) (Zh b T n agg d::hp)) :
  WL P ops Q (⟨dst,.box T x,ty,ps,af,none⟩::rest) fr hp:=by
 refine WL.of fun P0 B w0 w a hh hf=>?_
 have h1:=hx.ev hf
 obtain ⟨cs,k1,k0,k2,k3,k4⟩:=hs _ _ _ h1
 refine Zu rfl (ZRr k3) ?_
 have hx:=Ext.of_alloc w (.cells cs.toArray T)
 have hb:∀ k,(Zh w.heap.size T n agg d).blk=some k->w.heap.size≤k/\k<(w.alloc (.cells cs.toArray T)).heap.size:=fun k hk=>by
  cases hk
  exact ⟨Nat.le_refl _,by simp⟩
 refine (h w.heap.size).on (hh.push hx hb ⟨cs,a.eval x,Z0 w _,k1,k0,k2,k4,?_⟩) ?_
 ·exact Dat.ext (d.bound h1) hx
 exact Fr.put (hf.mono fun d _ hd=>Z6 hx (fun k hk=>(hb k hk).1) hd) rfl
theorem ZGC {f:FuncId} {caps:List Value} {cl:Operand} {args:Array Operand} {ats:Array TypeId} {ds1:List Dat} {hp1:List HObj} {K:Dat->List HObj->Prop} {P0:Nat->Prop} {B:Nat} {w0 w:World} {a:Act} (hF:CallC P f (ds1++caps.map dX) hp1 K) (he:ZAn P f) (hc:OpD fr cl (dX (.func (.func f) #[] caps.toArray))) (ha:ArgsD fr args.toList ds1)
  (hh:Hp P0 B w0 (hp1++hp) w) (hfr:Fr (Imm P0 B (hp1++hp)) w a fr) {KK:Act->World->Prop} {QQ:Exit->Act->World->Prop}
  (hKK:∀ d' hp2 a' w',K d' hp2->Hp P0 B w0 (hp2++hp) w'->Fr (Imm P0 B (hp2++hp)) w' a' (ZA fr dst d')->KK a' w') :
  Oper.wp P ⟨dst,.call { callee:=.value cl,args:=args,argTypes:=ats },ty,ps,af,none⟩ a w KK QQ:=by
 have hev:a.eval cl = .func (.func f) #[] caps.toArray:=hc.ev hfr
 have h4:=he (args.map a.eval++caps.toArray) w
 have hrun:(execOp a.eval ⟨dst,.call { callee:=.value cl,args:=args,argTypes:=ats },ty,ps,af,none⟩).run P w = .ok (.enter f (args.map a.eval++caps.toArray)) w:=by
  unfold execOp
  simp only [resolve]
  simp [hev,Deferred.ofValue,invoke,h4]
 unfold Oper.wp
 rw [hrun]
 have hgb:(hFr a fr).blk=none:=rfl
 have hG:Hp P0 B w0 (hp1++hFr a fr::hp) w:=ZBT hgb hh hfr.rd
 have hvs:args.map a.eval++caps.toArray=(args.toList.map a.eval++caps).toArray:=by apply Array.ext';simp
 have hal:args.size=ds1.length:=by simpa using ha.1
 have hl:(args.toList.map a.eval++caps).length=(ds1++caps.map dX).length:=by simp [hal]
 have hcalls:=hF.out P0 B w0 (hFr a fr::hp) (args.toList.map a.eval++caps) w hG hl fun i d hd=>by
  by_cases hi:i<ds1.length
  ·rw [List.getElem?_append_left hi] at hd
   have hi':i<args.toList.length:=by simpa [hal] using hi
   have h2:=(ha.2 i _ d (List.getElem?_eq_getElem hi') hd).ev hfr
   have hi2:i<args.size:=by simpa using hi'
   have:(args.toList.map a.eval++caps).getD i undef=a.eval args.toList[i]:=by
    rw [List.getD_eq_getElem?_getD,List.getElem?_append_left (by simpa using hi2)]
    simp [hi2]
   rw [this]
   exact d.weak h2 fun k=>(ZAC hgb hp1 k).2
  ·rw [List.getElem?_append_right (by omega)] at hd
   rw [List.getD_eq_getElem?_getD,List.getElem?_append_right (by simp;omega)]
   have hlen:(args.toList.map a.eval).length=ds1.length:=by simp [hal]
   rw [hlen]
   rw [List.getElem?_map] at hd
   cases hq:caps[i-ds1.length]? with
   | none=>rw [hq] at hd;cases hd
   | some u=>rw [hq] at hd;cases hd;rfl
 rw [hvs]
 exact hcalls.mono fun e w' ⟨v,d',hp2,hv,hk,hh',hd'⟩=>by
  subst hv
  obtain ⟨hh2,hok2⟩:=hh'.unghost hgb
  have hfr2:Fr (Imm P0 B (hp2++hp)) w' a fr:=⟨hfr.defers,hfr.size,hok2⟩
  exact hKK _ _ _ _ hk hh2 (Fr.put (x:=dst) hfr2 (d'.weak hd' fun k=>(ZAC hgb hp2 k).1))
theorem ZAT {f:FuncId} {caps:List Value} {cl:Operand} {args:Array Operand} {ats:Array TypeId} {ds1:List Dat} {hp1:List HObj} {K:Dat->List HObj->Prop} (hF:CallC P f (ds1++caps.map dX) hp1 K) (he:ZAn P f) (hc:OpD fr cl (dX (.func (.func f) #[] caps.toArray))) (ha:ArgsD fr args.toList ds1)
  (hK:∀ d' hp2,K d' hp2->WL P ops Q rest (ZA fr dst d') (hp2++hp)) :
  WL P ops Q (⟨dst,.call { callee:=.value cl,args:=args,argTypes:=ats },ty,ps,af,none⟩::rest) fr (hp1++hp) :=
 WL.of fun _ _ _ _ _ hh hfr=>wpList_plain rfl fun _ hKK=>ZGC hF he hc ha hh hfr fun d' hp2 _ _ hk hh2 hf2=>hKK _ _ ((hK d' hp2 hk).on hh2 hf2)
end
namespace I
section
variable {P:Program} {ops:Array Oper} {hp:List HObj} {fr:List Dat} {Q:ZAW} {rest:List Oper} {dst:Option Tmp} {ty:TypeId} {ps:String} {af:Array Edge} {d:Dat} {c:Code}
theorem ZAT {f:FuncId} {caps:List Value} {cl:Operand} {args:Array Operand} {ats:Array TypeId} {ds1:List Dat} {hp1:List HObj} {K:Dat->List HObj->Prop} (hF:CallC P f (ds1++caps.map dX) hp1 K) (he:ZAn P f) (hc:OpD fr cl (dX (.func (.func f) #[] caps.toArray))) (ha:ArgsD fr args.toList ds1)
  (hK:∀ d' hp2,K d' hp2->WL P ops Q rest (ZA fr dst d') (hp2++hp)) :
  WL P ops Q (⟨dst,.call { callee:=.value cl,args:=args,argTypes:=ats },ty,ps,af,none⟩::rest) fr (hp1++hp) :=
 WL.of fun _ _ _ _ _ hh hfr=>ZA5 rfl fun _ hKK=>ZGC hF he hc ha hh hfr fun d' hp2 _ _ hk hh2 hf2=>hKK _ _ ((hK d' hp2 hk).on hh2 hf2)
theorem WL.yield {l:Nat} {α:Type} {D:α->Dat} {J:List α->List HObj->Prop} {t:Tmp} {x:Operand} {ats:Array TypeId} {pre:List α} {js:List HObj} {y:α} {N:Nat} (hy:YStep P l D J N) (hn:pre.length<N) (hj:J pre js) (ht:OpD fr (.tmp t) (dX (.func (.yield l) #[] #[]))) (hx:OpD fr x (D y))
  (h:∀ js',J (pre++[y]) js'->WL P ops Q rest (ZA fr dst (dB true)) (js'++hp)) :
  WL P ops Q (⟨dst,.call { callee:=.value (.tmp t),args:=#[x],argTypes:=ats },ty,ps,af,none⟩::rest) fr (js++hp):=by
 refine WL.of fun P0 B w0 w a hh hf=>?_
 have hgb:(hFr a fr).blk=none:=rfl
 have hG:Hp P0 B w0 (js++hFr a fr::hp) w:=ZBT hgb hh hf.rd
 have hev:a.eval (.tmp t) = .func (.yield l) #[] #[]:=ht.ev hf
 have hyy:=hy.out P0 B w0 (hFr a fr::hp) pre js y (a.eval x) w hn hj hG ((D y).weak (hx.ev hf) fun k=>(ZAC hgb _ k).2)
 obtain ⟨fn,tmps,assign,body,hrun,hR⟩:=hyy
 refine wpListIn_plain rfl fun K hK=>?_
 refine ⟨fun _ _=>trivial,?_⟩
 have hr:(execOp a.eval ⟨dst,.call { callee:=.value (.tmp t),args:=#[x],argTypes:=ats },ty,ps,af,none⟩).run P w = .ok (.round l fn tmps assign body) w:=by
  unfold execOp
  simp only [resolve]
  simp [hev,Deferred.ofValue,invoke,hrun]
 rw [show Fence.wide.round=none from rfl,Oper.semAt_none,hr]
 refine ⟨fun h=>by simp [Fence.wide] at h,hR.mono fun e W' ⟨he,js',hj',hh'⟩=>?_⟩
 subst he
 obtain ⟨hh2,hok2⟩:=hh'.unghost hgb
 exact hK _ _ ((h js' hj').on hh2 (Fr.put (⟨hf.defers,hf.size,hok2⟩:Fr (Imm P0 B (js'++hp)) W' a fr) (d:=dB true) rfl))
end
end I
end
end Go.Proofs.YtekiljakcngcoaaGreatDoor
