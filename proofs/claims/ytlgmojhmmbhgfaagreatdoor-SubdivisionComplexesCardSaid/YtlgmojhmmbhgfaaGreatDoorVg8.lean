/- Part 8: walks by contracts, and plain laws. -/
import Derived.Test.YtlgmojhmmbhgfaaGreatDoorVg7
set_option linter.unusedVariables false
set_option linter.unusedSimpArgs false
set_option linter.unusedSectionVars false
set_option maxRecDepth 100000
set_option maxHeartbeats 4000000
namespace Go.Proofs.YtlgmojhmmbhgfaaGreatDoor.I
section
open Go.RowKit
theorem ZAQ {P:Program} {ops:Array Oper} {Q:Exit->Act->World->Prop} {rest:List Oper} {o:Oper} {a:Act} {w:World} (hg:o.guard=none) {v:Value} {w':World} (h:(execOp a.eval o).run P w = .ok (.value v) w') (hk:wpListIn Fence.wide 0 P ops Q rest (a.put o.dst v) w'):wpListIn Fence.wide 0 P ops Q (o::rest) a w :=
 ZAc hg fun K hK=>by unfold Oper.wp;rw [h];exact hK _ _ hk
open Go.RowKit



structure WL (P:Program) (ops:Array Oper) (Q:ZAL) (rest:List Oper) (fr:List Dat) (hp:List HObj):Prop where
 of ::
 out:∀ (P0:Nat->Prop) (B:Nat) (w0 w:World) (a:Act),Hp P0 B w0 hp w->Fr (Imm P0 B hp) w a fr->wpListIn Fence.wide 0 P ops (ZCE Q P0 B w0) rest a w
theorem WL.on {P:Program} {ops:Array Oper} {Q:ZAL} {rest:List Oper} {fr:List Dat} {hp:List HObj} (h:WL P ops Q rest fr hp) {P0:Nat->Prop} {B:Nat} {w0 w:World} {a:Act} (hh:Hp P0 B w0 hp w) (hf:Fr (Imm P0 B hp) w a fr):wpListIn Fence.wide 0 P ops (ZCE Q P0 B w0) rest a w:=h.out _ _ _ _ _ hh hf
section
variable {P:Program} {ops:Array Oper} {hp:List HObj} {o:Oper} {fr fr':List Dat} {d:Dat} {Q:ZAL} {rest:List Oper}
theorem WL.nil (h:Q .normal fr hp):WL P ops Q [] fr hp:=WL.of fun _ _ _ _ _ hh hf=>⟨fr,hp,h,hh,hf⟩
theorem ZJ {P:Program} {ops:Array Oper} {hp:List HObj} {o:Oper} {fr:List Dat} {d:Dat} {Q:ZAL} {rest:List Oper} (h:SYG P ops hp o fr d) (k:WL P ops Q rest (ZB fr o.dst d) hp):WL P ops Q (o::rest) fr hp:=by
 refine WL.of fun P0 B w0 w a hh hf=>?_
 have:=h.step (Q:=ZCE Q P0 B w0) hh hf (K:=wpListIn Fence.wide 0 P ops (ZCE Q P0 B w0) rest) fun a' w' e hf'=>k.on (hh.ext e) hf'
 unfold wpListIn
 split
 ·rename_i hw;rw [if_pos hw] at this;exact ZDM this
 ·rename_i hw;rw [if_neg hw] at this;exact ⟨fun _ _=>trivial,this⟩
theorem WL.op (hg:o.guard=none) (h:SY P ops hp o fr d) (k:WL P ops Q rest (ZB fr o.dst d) hp):WL P ops Q (o::rest) fr hp:=ZJ (.inl ⟨ZR hg,h⟩) k
theorem WL.weak (h:WL P ops Q rest fr' hp) (hl:fr.length=fr'.length) (k:∀ (t:Nat) (d:Dat),fr'[t]?=some d->∃ d0:Dat,fr[t]?=some d0/\d0.le d):WL P ops Q rest fr hp:=WL.of fun _ _ _ _ _ hh hf=>h.on hh (hf.weak hl k)

theorem WC.region {id:Nat} {l:List Oper} (h:WL P l.toArray Q l fr hp):WC P Q (.region id l.toArray false) fr hp:=WC.of fun _ _ _ _ _ hh hf=>wpIn_wide.1 (wpIn_region_lit (n:=0) (h.on hh hf))
end


open Go.RowKit

section
variable {P:Program} {ops:Array Oper} {hp:List HObj} {o:Oper} {fr:List Dat} {d:Dat} {Q:ZAL} {rest:List Oper}
variable {dst:Option Tmp} {ty:TypeId} {ps:String} {af:Array Edge} {g:Option (Nat × Bool)}

theorem ZBG {α:Type} (e:TypeId) (R:Rel α) [Good R] (h:WL P ops Q rest fr (ZW (.slice none 0 0) e R ([]:List α)::hp)):WL P ops Q rest fr hp:=WL.of fun _ _ _ _ _ hh hf =>
 h.on (hh.push (Ext.refl _) (by simp [ZW,Value.ownBlock]) Own.nil) (hf.mono fun _ _ hd=>Zf (Ext.refl _) (by simp [ZW,Value.ownBlock]) hd)
theorem WL.drop {o:HObj} (h:WL P ops Q rest fr hp):WL P ops Q rest fr (o::hp):=WL.of fun _ _ _ _ _ hh hf=>h.on hh.drop (hf.mono fun d _ hd=>d.weak hd Imm.sub)

theorem WL.perm {hp':List HObj} (hp1:hp.Perm hp') (h:WL P ops Q rest fr hp'):WL P ops Q rest fr hp:=WL.of fun _ _ _ _ _ hh hf =>
 let ⟨h1,h2⟩:=hh.perm hp1
 h.on h1 (hf.mono fun d _ hd=>d.weak hd fun k hk=>(h2 k).1 hk)
theorem ZJy {p:Prop} {t:Nat} (ht:fr[t]?=some d) (hd:∀ (I:Nat->Prop) (w:World) (v:Value),d.rd I w v->p) (h:p->WL P ops Q rest fr hp):WL P ops Q rest fr hp:=WL.of fun _ _ _ _ _ hh hf=>(h (hd _ _ _ (hf.rd t d ht))).on hh hf
theorem ZEL {α:Type} {p:α->Prop} {D:α->Dat} (t:Nat) (ht:fr[t]?=some (dE p D)) (h:∀ x,p x->WL P ops Q rest (fr.set t (D x)) hp):WL P ops Q rest fr hp:=WL.of fun P0 B w0 w a hh hf=>by
 obtain ⟨x,hx,hd⟩:=hf.rd t _ ht
 refine (h x hx).on hh ⟨hf.defers,by rw [hf.size,List.length_set],fun t' d' hd'=>?_⟩
 by_cases htt:t=t'
 ·subst htt
  rw [List.getElem?_set] at hd'
  simp only [if_true] at hd'
  split at hd'
  ·cases hd';exact hd
  ·cases hd'
 ·rw [List.getElem?_set_ne htt] at hd'
  exact hf.rd t' d' hd'

theorem WL.id (h:WL P ops Q rest fr hp):WL P ops Q rest fr hp:=h
section
variable {p:Prop} {_ip:Decidable p} {b:Bool} {gi:Nat} {pol:Bool} {t:Tmp} {K:List Dat->Prop}
theorem ZT (_hg:o.guard=some (gi,pol)) (_ht:(ops[gi]?).bind (·.dst)=some t) (hf:fr[t]?=some (dB b)) (h1:b=true->WL P ops Q (o::rest) (fr.set t (dB true)) hp) (h2:b=false->WL P ops Q (o::rest) (fr.set t (dB false)) hp):WL P ops Q (o::rest) fr hp:=by
 cases b with
 | true=>have:=h1 rfl;rwa [ZBo hf] at this
 | false=>have:=h2 rfl;rwa [ZBo hf] at this
theorem Za (hg:o.guard=some (gi,pol)) (ht:(ops[gi]?).bind (·.dst)=some t) (hf:fr[t]?=some (dB (decide p))) (h1:p->WL P ops Q (o::rest) (fr.set t (dB true)) hp) (h2:¬ p->WL P ops Q (o::rest) (fr.set t (dB false)) hp):WL P ops Q (o::rest) fr hp :=
 ZT hg ht hf (fun h=>h1 (of_decide_eq_true h)) (fun h=>h2 (of_decide_eq_false h))
theorem ZZ (hg:o.guard=some (gi,pol)) (ht:(ops[gi]?).bind (·.dst)=some t) (hf:fr[t]?=some (dB (!decide p))) (h1:¬ p->WL P ops Q (o::rest) (fr.set t (dB true)) hp) (h2:p->WL P ops Q (o::rest) (fr.set t (dB false)) hp):WL P ops Q (o::rest) fr hp :=
 ZT hg ht hf (fun h=>h1 (by simpa using h)) (fun h=>h2 (by simpa using h))
end

end


open Go.RowKit

section
variable {P:Program} {ops:Array Oper} {hp:List HObj} {o:Oper} {fr:List Dat} {d:Dat} {Q:ZAL} {rest:List Oper}
variable {dst:Option Tmp} {ty:TypeId} {ps:String} {af:Array Edge} {g:Option (Nat × Bool)}

theorem WL.alloc {T:TypeId} {n:Nat} {agg:Bool} {z:Value} (hz:TyZ P T z) (hs:(dX z).Shape n agg)
  (h:∀ b,WL P ops Q rest (ZB fr dst (dX (.pointer (some ⟨b,0,none⟩)))) (ZQ b T n agg (dX z)::hp)):WL P ops Q (⟨dst,.alloc T,ty,ps,af,none⟩::rest) fr hp:=by
 refine WL.of fun P0 B w0 w a hh hf=>?_
 obtain ⟨cs,k1,k0,k2,k3,k4⟩:=hs (fun _=>True) w z rfl
 have hrun:(execOp a.eval ⟨dst,.alloc T,ty,ps,af,none⟩).run P w = .ok (.value (.pointer (some ⟨w.heap.size,0,none⟩))) (w.alloc (.cells cs.toArray T)):=by
  cases hq:P.info? T with
  | none=>have:=hz.out;simp [hq] at this
  | some i =>
   have hz':i.zero=some z:=by have:=hz.out;simpa [hq] using this
   unfold execOp
   simp [Instr.alloc,zeroValue,typeInfo,hq,hz',newVar,newRow,k3]
 refine ZAQ rfl hrun ?_
 have hx:=Ext.of_alloc w (.cells cs.toArray T)
 have hb:∀ k,(ZQ w.heap.size T n agg (dX z)).blk=some k->w.heap.size≤k/\k<(w.alloc (.cells cs.toArray T)).heap.size:=fun k hk=>by
  cases hk
  exact ⟨Nat.le_refl _,by simp⟩
 refine (h w.heap.size).on (hh.push hx hb ⟨cs,z,Zk w _,k1,k0,k2,k4,rfl⟩) ?_
 exact Fr.put (hf.mono fun d _ hd=>Zf hx (fun k hk=>(hb k hk).1) hd) rfl

theorem Zw {x:Operand} {t b n:Nat} {T T2:TypeId} {agg:Bool} {d0:Dat} (hT:TyI P T n agg) (hp0:OpD fr (.tmp t) (dX (.pointer (some ⟨b,0,none⟩)))) (hx:OpD fr x d) (hs:d.Shape n agg)
  (h:WL P ops Q rest (ZB fr dst (dX undef)) (ZQ b T2 n agg d::hp)):WL P ops Q (⟨dst,.store T (.tmp t) x,ty,ps,af,none⟩::rest) fr (ZQ b T2 n agg d0::hp):=by
 refine WL.of fun P0 B w0 w a hh hf=>?_
 obtain ⟨cs,u,c1,c2,c0,c3,c4,c5⟩:=hh.ok (ZQ b T2 n agg d0) (by simp)
 have h1:=hx.ev hf
 obtain ⟨cs',k1,k0,k2,k3,k4⟩:=hs _ _ _ h1
 have h2:a.eval (.tmp t) = .pointer (some ⟨b,0,none⟩):=hp0.ev hf
 have hr:=ZB7 (u:=a.eval x) hT.size c1 c2 k1 k2 k3
 have hrun:(execOp a.eval ⟨dst,.store T (.tmp t) x,ty,ps,af,none⟩).run P w = .ok .skip (w.setRow b cs'.toArray):=by
  unfold execOp
  simp only [h2,Sem.run_bind,hr,Result.andThen_ok,Sem.run_pure]
 refine ZAc rfl fun K hK=>?_
 unfold Oper.wp
 rw [hrun]
 have hgr:w.grownBy (w.setRow b cs'.toArray) (ZQ b T2 n agg d0).blk:=ZAj
 have hok:(ZQ b T2 n agg d).ok (fun k=>Imm P0 B (ZQ b T2 n agg d0::hp) k/\k<w.heap.size) (w.setRow b cs'.toArray) :=
  ⟨cs',a.eval x,setRow_heap w b _ _ _ _ c1,k1,k0,k2,k4,d.grown (d.bound h1) hgr (fun k hk hc=>hc.1.2 _ (by simp) hk)⟩
 exact hK _ _ (h.on (hh.write hgr (.inl rfl) hok) (Fr.put (hf.mono fun _ _ hd=>ZM (o':=ZQ b T2 n agg d) hgr (.inl rfl) hd) (d:=dX undef) rfl))
theorem ZDA {t b n:Nat} {T:TypeId} {agg:Bool} (hp0:fr[t]?=some (dX (.pointer (some ⟨b,0,none⟩)))) (h:WL P ops Q rest (fr.set t (dP n agg d)) hp):WL P ops Q rest fr (ZQ b T n agg d::hp):=by
 refine WL.of fun P0 B w0 w a hh hf=>?_
 obtain ⟨cs,u,c1,c2,c0,c3,c4,c5⟩:=hh.ok (ZQ b T n agg d) (by simp)
 have hown:=hh.own (ZQ b T n agg d) (by simp) b rfl
 refine h.on hh.drop ⟨hf.defers,by rw [hf.size,List.length_set],fun t' d' hd'=>?_⟩
 by_cases htt:t=t'
 ·subst htt
  rw [List.getElem?_set] at hd'
  simp only [if_true] at hd'
  split at hd'
  ·cases hd'
   have hv:a.tmps.getD t undef = .pointer (some ⟨b,0,none⟩):=hf.rd t _ hp0
   rw [hv]
   refine ⟨b,0,u,rfl,ZAi c1 c2 c0 c3 c4 ⟨.inr hown.1,fun o' ho' hk=>?_⟩,d.weak c5 Imm.sub⟩
   exact (List.pairwise_cons.1 hh.apart).1 o' ho' b rfl hk
  ·cases hd'
 ·rw [List.getElem?_set_ne htt] at hd'
  exact d'.weak (hf.rd t' d' hd') Imm.sub
theorem ZN {x:Operand} {t b n:Nat} {T T2:TypeId} {agg:Bool} {d0:Dat} (hT:TyI P T n agg) (hp0:fr[t]?=some (dX (.pointer (some ⟨b,0,none⟩)))) (hx:OpD fr x d) (hs:d.Shape n agg)
  (h:WL P ops Q rest (fr.set t (dP n agg d)) hp):WL P ops Q (⟨none,.store T (.tmp t) x,ty,ps,af,none⟩::rest) fr (ZQ b T2 n agg d0::hp) :=
 Zw hT (OpD.t hp0) hx hs (ZDA hp0 h)
theorem ZCd {x:Operand} {t b n:Nat} {T T2:TypeId} {agg:Bool} {d0:Dat} {o1:HObj} (hT:TyI P T n agg) (hp0:fr[t]?=some (dX (.pointer (some ⟨b,0,none⟩)))) (hx:OpD fr x d) (hs:d.Shape n agg)
  (h:WL P ops Q rest (fr.set t (dP n agg d)) (o1::hp)):WL P ops Q (⟨none,.store T (.tmp t) x,ty,ps,af,none⟩::rest) fr (o1::ZQ b T2 n agg d0::hp) :=
 WL.perm (List.Perm.swap _ _ _) (ZN hT hp0 hx hs h)
theorem ZGt {x:Operand} {t b n:Nat} {T T2:TypeId} {agg:Bool} {d0:Dat} {o1 o2:HObj} (hT:TyI P T n agg) (hp0:fr[t]?=some (dX (.pointer (some ⟨b,0,none⟩)))) (hx:OpD fr x d) (hs:d.Shape n agg)
  (h:WL P ops Q rest (fr.set t (dP n agg d)) (o1::o2::hp)):WL P ops Q (⟨none,.store T (.tmp t) x,ty,ps,af,none⟩::rest) fr (o1::o2::ZQ b T2 n agg d0::hp) :=
 WL.perm ((List.Perm.swap _ _ _).cons _ |>.trans (List.Perm.swap _ _ _)) (ZN hT hp0 hx hs h)

end


open Go.RowKit

section
variable {P:Program} {ops:Array Oper} {hp:List HObj} {o:Oper} {fr:List Dat} {d:Dat} {Q:ZAL} {rest:List Oper}
variable {dst:Option Tmp} {ty:TypeId} {ps:String} {af:Array Edge} {g:Option (Nat × Bool)}
variable {t e:TypeId} {n bytes:Nat} {z:Value} {ag:Bool}

theorem ZAI {a:Act} {w w':World} {s y:Operand} {v yv v':Value} {dst2:Option Tmp} {ty2:TypeId} {Qa:Exit->Act->World->Prop} (hs:a.eval s=v) (hy:a.eval y=yv) (hr:(Builtin.append_ #[t,t] ty2 #[v,yv]).run P w = .ok v' w') (hk:wpListIn Fence.wide 0 P ops Qa rest (a.put dst2 v') w') :
  wpListIn Fence.wide 0 P ops Qa (⟨dst2,.call { callee:=.builtin .append,args:=#[s,y],argTypes:=#[t,t] },ty2,ps,af,none⟩::rest) a w:=by
 refine ZAQ rfl (v:=v') (w':=w') ?_ hk
 unfold execOp
 simp only [resolve,invoke,builtin,List.map_toArray,List.map_cons,List.map_nil,hs,hy,Sem.run_bind,Sem.run_pure,Result.andThen_ok,hr]

theorem ZBJ {s x:Operand} {k:Tmp} {dst2:Option Tmp} {ty2:TypeId} {ps2:String} {af2:Array Edge} (E:ElT P t e n z bytes ag) {α:Type} {R:Rel α} {_gR:Good R} {v:Value} {xs:List α} {y:α} (hs:OpD fr s (dX v)) (hx:OpD fr x (dS R y)) (hsh:∀ a,(dS R a).Shape n true) (hne:s ≠ .tmp k) (hkl:k<fr.length) (hn:0<n/\n≤16777216) (hby:0<bytes)
  (hlen:(xs.length+1)*bytes≤140737488355328) (h:∀ v',WL P ops Q rest (ZB (fr.set k dA) dst2 (dX v')) (ZV v' e n R (xs++[y])::hp)) :
  WL P ops Q (⟨some k,.buildSlice t 1 #[(0,x)],ty,ps,af,none⟩::⟨dst2,.call { callee:=.builtin .append,args:=#[s,.tmp k],argTypes:=#[t,t] },ty2,ps2,af2,none⟩::rest) fr (ZV v e n R xs::hp):=by
 refine WL.of fun P0 B w0 w a hh hf=>?_
 have hxr:=hx.ev hf
 obtain ⟨cs,k1,k0,k2,k3,k4⟩:=hsh y _ _ _ hxr
 simp only [if_true] at k4
 have hb:=ZAo (w:=w) E (us:=[a.eval x]) (css:=[cs]) rfl (fun i u cs' hu hcs=>by
  cases i with
  | zero=>cases hu;cases hcs;exact ⟨k3,k1⟩
  | succ i=>simp at hu) (by simp;omega)
 refine ZAQ rfl (v:=.slice (some ⟨w.heap.size,0,none⟩) 1 1) (w':=w.alloc (.cells [cs].flatten.toArray e)) ?_ ?_
 ·unfold execOp
  simp only [List.map_toArray,List.map_cons,List.map_nil,Sem.run_bind]
  have:(Instr.buildSlice t 1 #[(0,a.eval x)]).run P w = .ok (.slice (some ⟨w.heap.size,0,none⟩) 1 1) (w.alloc (.cells [cs].flatten.toArray e)):=hb
  simp only [this,Result.andThen_ok,Sem.run_pure]
 have hxe:=Ext.of_alloc w (.cells [cs].flatten.toArray e)
 have hh1:=hh.ext hxe
 have hf1:Fr (Imm P0 B (ZV v e n R xs::hp)) (w.alloc (.cells [cs].flatten.toArray e)) (a.put (some k) (.slice (some ⟨w.heap.size,0,none⟩) 1 1)) (fr.set k dA):=Fr.put (x:=some k) (hf.ext hxe) (d:=dA) trivial
 have hm:xs.length+[y].length≤maxLen:=by
  have:(xs.length+1)*1≤(xs.length+1)*bytes:=Nat.mul_le_mul_left _ hby
  simp only [maxLen,List.length_cons,List.length_nil];omega
 obtain ⟨v',w',hr,r1,r2,r3⟩:=ZCe (ty:=ty2) E hh1 (ad:=⟨w.heap.size,0,none⟩) (c:=1) (ys:=[y]) (news:=[cs]) rfl (fun j u hu=>by
   rw [Addr.add_lit,cell_of_row _ _ _ _ _ _ (Zk w _),Nat.zero_add]
   simpa using hu) (fun u hu=>by rw [List.mem_singleton.1 hu];exact ⟨k1,k2⟩) (fun j h1 h2=>by
   have hj:j=0:=by simp at h1;omega
   subst hj
   have:=Good.ext (R:=R) hxr hxe
   rw [k4] at this
   exact this) (by simpa using hlen) hm
 refine ZAI (v:=v) (yv:=.slice (some ⟨w.heap.size,0,none⟩) 1 1) ?_ (ZAu (by rw [hf.size];exact hkl)) hr ?_
 ·rw [ZCA hne];exact hs.ev hf
 ·exact (h v').on r1 (Fr.put (x:=dst2) (hf1.mono fun d _ hd=>ZM (o:=ZV v e n R xs) (o':=ZV v' e n R (xs++[y])) r2 r3 hd) (d:=dX v') rfl)
theorem ZA6 {s x:Operand} {k:Tmp} {dst2:Option Tmp} {ty2:TypeId} {ps2:String} {af2:Array Edge} (E:ElT P t e 1 z bytes ag) {α:Type} {R:Rel α} {_gR:Good R} {v:Value} {xs:List α} {y:α} (hs:OpD fr s (dX v)) (hx:OpD fr x (dS R y)) (hsh:∀ a,(dS R a).Shape 1 false) (hne:s ≠ .tmp k) (hkl:k<fr.length) (hby:0<bytes)
  (hlen:(xs.length+1)*bytes≤140737488355328) (h:∀ v',WL P ops Q rest (ZB (fr.set k dA) dst2 (dX v')) (ZW v' e R (xs++[y])::hp)) :
  WL P ops Q (⟨some k,.buildSlice t 1 #[(0,x)],ty,ps,af,none⟩::⟨dst2,.call { callee:=.builtin .append,args:=#[s,.tmp k],argTypes:=#[t,t] },ty2,ps2,af2,none⟩::rest) fr (ZW v e R xs::hp):=by
 refine WL.of fun P0 B w0 w a hh hf=>?_
 have hxr:=hx.ev hf
 obtain ⟨cs,k1,k0,k2,k3,k4⟩:=hsh y _ _ _ hxr
 simp only [Bool.false_eq_true,if_false] at k4
 subst k4
 have hb:=ZAo (w:=w) E (us:=[a.eval x]) (css:=[[a.eval x]]) rfl (fun i u cs' hu hcs=>by
  cases i with
  | zero=>cases hu;cases hcs;exact ⟨k3,k1⟩
  | succ i=>simp at hu) (by simp)
 refine ZAQ rfl (v:=.slice (some ⟨w.heap.size,0,none⟩) 1 1) (w':=w.alloc (.cells [[a.eval x]].flatten.toArray e)) ?_ ?_
 ·unfold execOp
  simp only [List.map_toArray,List.map_cons,List.map_nil,Sem.run_bind]
  have:(Instr.buildSlice t 1 #[(0,a.eval x)]).run P w = .ok (.slice (some ⟨w.heap.size,0,none⟩) 1 1) (w.alloc (.cells [[a.eval x]].flatten.toArray e)):=hb
  simp only [this,Result.andThen_ok,Sem.run_pure]
 have hxe:=Ext.of_alloc w (.cells [[a.eval x]].flatten.toArray e)
 have hh1:=hh.ext hxe
 have hf1:Fr (Imm P0 B (ZW v e R xs::hp)) (w.alloc (.cells [[a.eval x]].flatten.toArray e)) (a.put (some k) (.slice (some ⟨w.heap.size,0,none⟩) 1 1)) (fr.set k dA):=Fr.put (x:=some k) (hf.ext hxe) (d:=dA) trivial
 have hm:xs.length+[y].length≤maxLen:=by
  have:(xs.length+1)*1≤(xs.length+1)*bytes:=Nat.mul_le_mul_left _ hby
  simp only [maxLen,List.length_cons,List.length_nil];omega
 obtain ⟨v',w',hr,r1,r2,r3⟩:=ZBp (ty:=ty2) E hh1 (ad:=⟨w.heap.size,0,none⟩) (c:=1) (ys:=[y]) (news:=[a.eval x]) rfl (fun j u hu=>by
   rw [Addr.add_lit,cell_of_row _ _ _ _ _ _ (Zk w _),Nat.zero_add]
   simpa using hu) k2 (fun j h1 h2=>by
   have hj:j=0:=by simp at h1;omega
   subst hj
   exact Good.ext (R:=R) hxr hxe) (by simpa using hlen) hm
 refine ZAI (v:=v) (yv:=.slice (some ⟨w.heap.size,0,none⟩) 1 1) ?_ (ZAu (by rw [hf.size];exact hkl)) hr ?_
 ·rw [ZCA hne];exact hs.ev hf
 ·exact (h v').on r1 (Fr.put (x:=dst2) (hf1.mono fun d _ hd=>ZM (o:=ZW v e R xs) (o':=ZW v' e R (xs++[y])) r2 r3 hd) (d:=dX v') rfl)

theorem WL.appK {s y:Operand} {dst2:Option Tmp} {ty2:TypeId} {ps2:String} {af2:Array Edge} (E:ElT P t e n z bytes ag) {α:Type} {R:Rel α} {_gR:Good R} {v:Value} {xs ys:List α} (hs:OpD fr s (dX v)) (hy:OpD fr y (dS (ArrK n R) ys)) (hby:0<bytes)
  (hlen:(xs.length+ys.length)*bytes≤140737488355328) (h:∀ v',WL P ops Q rest (ZB fr dst2 (dX v')) (ZV v' e n R (xs++ys)::hp)) :
  WL P ops Q (⟨dst2,.call { callee:=.builtin .append,args:=#[s,y],argTypes:=#[t,t] },ty2,ps2,af2,none⟩::rest) fr (ZV v e n R xs::hp):=by
 refine WL.of fun P0 B w0 w a hh hf=>?_
 obtain ⟨ad,cap,hv,c1,c2,c0,c3⟩:=(hy.ev hf:ArrK n R _ _ _ _)
 have hm:xs.length+ys.length≤maxLen:=by
  have:(xs.length+ys.length)*1≤(xs.length+ys.length)*bytes:=Nat.mul_le_mul_left _ hby
  simp only [maxLen];omega
 cases ad with
 | none =>
  have hy0:ys=[]:=by
   cases ys with
   | nil=>rfl
   | cons y ys=>obtain ⟨_,_,_,_,_,_,hc,_⟩:=c3 0 (by simp);cases hc
  subst hy0
  obtain ⟨us,_,_,_,ho,_⟩:=hh.ok (ZV v e n R xs) (by simp)
  refine ZAI (v:=v) (yv:=_) (hs.ev hf) hv (ZAn E ho cap) ?_
  have:=h v
  rw [List.append_nil] at this
  exact this.on hh (Fr.put hf rfl)
 | some ad =>
  have hch:∀ k:Nat,∃ cs:List Value,∀ h:k<ys.length,cs.length=n/\(∀ c∈cs,c.oneCell'=true)/\(∀ j c,cs[j]?=some c->w.cell? (ad.add (k*n+j))=some c)/\R (Imm P0 B (ZV v e n R xs::hp)) w (.agg cs.toArray) ys[k]:=fun k=>by
   by_cases hk:k<ys.length
   ·obtain ⟨cs,b,off,r1,r2,r3,r4,r5,r6⟩:=c3 k hk
    cases r4
    exact ⟨cs,fun _=>⟨r2,r3,fun j c hc=>by rw [Addr.add_lit,<- Nat.add_assoc];exact r6 j c hc,r1⟩⟩
   ·exact ⟨[],fun h=>absurd h hk⟩
  obtain ⟨f,hfch⟩:=Classical.axiomOfChoice hch
  have hmem:∀ u∈(List.range ys.length).map f,∃ j,j<ys.length/\u=f j:=fun u hu=>by
   simp only [List.mem_map,List.mem_range] at hu
   obtain ⟨j,hj,rfl⟩:=hu
   exact ⟨j,hj,rfl⟩
  obtain ⟨v',w',hr,r1,r2,r3⟩:=ZCe (ty:=ty2) E hh (ad:=ad) (c:=cap) (ys:=ys) (news:=(List.range ys.length).map f) (by simp) (fun j u hu=>by
    have hlt:=(List.getElem?_eq_some_iff.1 hu).1
    have hfl:((List.range ys.length).map f).flatten.length=ys.length*n:=by
     rw [ZBN (n:=n) fun u hu=>by obtain ⟨j,hj,rfl⟩:=hmem u hu;exact (hfch j hj).1];simp
    rw [hfl] at hlt
    have hq:j / n<ys.length:=(Nat.div_lt_iff_lt_mul c0).2 hlt
    have hr:j % n<n:=Nat.mod_lt _ c0
    have hj:j=(j / n)*n+j % n:=by rw [Nat.mul_comm];exact (Nat.div_add_mod j n).symm
    have hlen':=(hfch (j / n) hq).1
    have hg:=Zm (us:=(List.range ys.length).map f) (n:=n) (k:=j / n) (j:=j % n) (fun u hu=>by obtain ⟨j,hj,rfl⟩:=hmem u hu;exact (hfch j hj).1) (by simpa using hq) (c:=(f (j / n))[j % n]'(by omega)) (by simp)
    rw [<- hj,hu] at hg
    cases hg
    have:=(hfch (j / n) hq).2.2.1 (j % n) _ (List.getElem?_eq_getElem (by omega))
    rw [<- hj] at this
    exact this)
   (fun u hu=>by obtain ⟨j,hj,rfl⟩:=hmem u hu;exact ⟨(hfch j hj).1,(hfch j hj).2.1⟩) (fun k h1 h2=>by
    simp only [List.getElem_map,List.getElem_range]
    exact (hfch k h2).2.2.2) hlen hm
  refine ZAI (v:=v) (yv:=_) (hs.ev hf) hv hr ?_
  exact (h v').on r1 (Fr.put (x:=dst2) (hf.mono fun d _ hd=>ZM (o:=ZV v e n R xs) (o':=ZV v' e n R (xs++ys)) r2 r3 hd) (d:=dX v') rfl)
theorem WL.app1 {s y:Operand} {dst2:Option Tmp} {ty2:TypeId} {ps2:String} {af2:Array Edge} (E:ElT P t e 1 z bytes ag) {α:Type} {R:Rel α} {_gR:Good R} {v:Value} {xs ys:List α} (hs:OpD fr s (dX v)) (hy:OpD fr y (dS (Arr R) ys)) (hby:0<bytes)
  (hlen:(xs.length+ys.length)*bytes≤140737488355328) (h:∀ v',WL P ops Q rest (ZB fr dst2 (dX v')) (ZW v' e R (xs++ys)::hp)) :
  WL P ops Q (⟨dst2,.call { callee:=.builtin .append,args:=#[s,y],argTypes:=#[t,t] },ty2,ps2,af2,none⟩::rest) fr (ZW v e R xs::hp):=by
 refine WL.of fun P0 B w0 w a hh hf=>?_
 obtain ⟨ad,cap,hv,c1,c2,c3⟩:=(hy.ev hf:Arr R _ _ _ _)
 have hm:xs.length+ys.length≤maxLen:=by
  have:(xs.length+ys.length)*1≤(xs.length+ys.length)*bytes:=Nat.mul_le_mul_left _ hby
  simp only [maxLen];omega
 cases ad with
 | none =>
  have hy0:ys=[]:=by
   cases ys with
   | nil=>rfl
   | cons y ys=>obtain ⟨_,_,_,_,_,hc,_⟩:=c3 0 (by simp);cases hc
  subst hy0
  obtain ⟨us,_,ho,_⟩:=hh.ok (ZW v e R xs) (by simp)
  refine ZAI (v:=v) (yv:=_) (hs.ev hf) hv (ZAn E ho cap) ?_
  have:=h v
  rw [List.append_nil] at this
  exact this.on hh (Fr.put hf rfl)
 | some ad =>
  have hch:∀ k:Nat,∃ u:Value,∀ h:k<ys.length,w.cell? (ad.add k)=some u/\u.oneCell'=true/\R (Imm P0 B (ZW v e R xs::hp)) w u ys[k]:=fun k=>by
   by_cases hk:k<ys.length
   ·obtain ⟨u,b,off,r1,r2,r3,r4,r5⟩:=c3 k hk
    cases r3
    exact ⟨u,fun _=>⟨by rw [Addr.add_lit];exact r5,r2,r1⟩⟩
   ·exact ⟨undef,fun h=>absurd h hk⟩
  obtain ⟨f,hfch⟩:=Classical.axiomOfChoice hch
  obtain ⟨v',w',hr,r1,r2,r3⟩:=ZBp (ty:=ty2) E hh (ad:=ad) (c:=cap) (ys:=ys) (news:=(List.range ys.length).map f) (by simp) (fun j u hu=>by
    obtain ⟨hjl,hju⟩:=List.getElem?_eq_some_iff.1 hu
    simp at hjl hju
    subst hju
    exact (hfch j hjl).1) (fun u hu=>by
    simp only [List.mem_map,List.mem_range] at hu
    obtain ⟨j,hj,rfl⟩:=hu
    exact (hfch j hj).2.1) (fun k h1 h2=>by
    simp only [List.getElem_map,List.getElem_range]
    exact (hfch k h2).2.2) hlen hm
  refine ZAI (v:=v) (yv:=_) (hs.ev hf) hv hr ?_
  exact (h v').on r1 (Fr.put (x:=dst2) (hf.mono fun d _ hd=>ZM (o:=ZW v e R xs) (o':=ZW v' e R (xs++ys)) r2 r3 hd) (d:=dX v') rfl)
theorem ZCc (E:ElT P t e n z bytes ag) {α:Type} (R:Rel α) [Good R] (hn:0<n) (h:∀ v,WL P ops Q rest (ZB fr dst (dX v)) (ZV v e n R ([]:List α)::hp)):WL P ops Q (⟨dst,.buildSlice t 0 #[],ty,ps,af,none⟩::rest) fr hp:=by
 refine WL.of fun P0 B w0 w a hh hf=>?_
 have hb:=ZAo (w:=w) E (us:=[]) (css:=[]) rfl (fun i u cs' hu hcs=>by simp at hu) (by simp)
 refine ZAQ rfl (v:=.slice (some ⟨w.heap.size,0,none⟩) 0 0) (w':=w.alloc (.cells #[] e)) ?_ ?_
 ·unfold execOp
  simp only [List.map_toArray,List.map_nil,Sem.run_bind]
  have:(Instr.buildSlice t 0 #[]).run P w = .ok (.slice (some ⟨w.heap.size,0,none⟩) 0 0) (w.alloc (.cells #[] e)):=hb
  simp only [this,Result.andThen_ok,Sem.run_pure]
 have hx:=Ext.of_alloc w (.cells #[] e)
 have hob:∀ k,(ZV (.slice (some ⟨w.heap.size,0,none⟩) 0 0) e n R ([]:List α)).blk=some k->w.heap.size≤k/\k<(w.alloc (.cells #[] e)).heap.size:=fun k hk=>by
  cases hk
  exact ⟨Nat.le_refl _,by simp⟩
 refine (h _).on (hh.push (o:=ZV (.slice (some ⟨w.heap.size,0,none⟩) 0 0) e n R ([]:List α)) hx hob ⟨[],rfl,fun u hu=>by simp at hu,hn,?_,fun k h=>absurd h (Nat.not_lt_zero k)⟩) (Fr.put (hf.mono fun d _ hd=>Zf hx (fun k hk=>(hob k hk).1) hd) rfl)
 refine ⟨by simp,.inr ⟨w.heap.size,0,#[],rfl,Nat.zero_le _,Zk w _,by simp,by simp [maxLen],by simp,by simp⟩⟩
theorem ZEx (E:ElT P t e 1 z bytes ag) {α:Type} (R:Rel α) [Good R] (h:∀ v,WL P ops Q rest (ZB fr dst (dX v)) (ZW v e R ([]:List α)::hp)):WL P ops Q (⟨dst,.buildSlice t 0 #[],ty,ps,af,none⟩::rest) fr hp:=by
 refine WL.of fun P0 B w0 w a hh hf=>?_
 have hb:=ZAo (w:=w) E (us:=[]) (css:=[]) rfl (fun i u cs' hu hcs=>by simp at hu) (by simp)
 refine ZAQ rfl (v:=.slice (some ⟨w.heap.size,0,none⟩) 0 0) (w':=w.alloc (.cells #[] e)) ?_ ?_
 ·unfold execOp
  simp only [List.map_toArray,List.map_nil,Sem.run_bind]
  have:(Instr.buildSlice t 0 #[]).run P w = .ok (.slice (some ⟨w.heap.size,0,none⟩) 0 0) (w.alloc (.cells #[] e)):=hb
  simp only [this,Result.andThen_ok,Sem.run_pure]
 have hx:=Ext.of_alloc w (.cells #[] e)
 have hob:∀ k,(ZW (.slice (some ⟨w.heap.size,0,none⟩) 0 0) e R ([]:List α)).blk=some k->w.heap.size≤k/\k<(w.alloc (.cells #[] e)).heap.size:=fun k hk=>by
  cases hk
  exact ⟨Nat.le_refl _,by simp⟩
 refine (h _).on (hh.push (o:=ZW (.slice (some ⟨w.heap.size,0,none⟩) 0 0) e R ([]:List α)) hx hob ⟨[],rfl,?_,fun k h=>absurd h (Nat.not_lt_zero k)⟩) (Fr.put (hf.mono fun d _ hd=>Zf hx (fun k hk=>(hob k hk).1) hd) rfl)
 refine ⟨by simp,.inr ⟨w.heap.size,0,#[],rfl,Nat.zero_le _,Zk w _,by simp,by simp [maxLen],by simp,by simp⟩⟩
theorem ZKq {α:Type} {R:Rel α} {_gR:Good R} {v:Value} {xs:List α} {s:Tmp} (hs:fr[s]?=some (dX v)) (h:WL P ops Q rest (fr.set s (dS (Arr R) xs)) hp):WL P ops Q rest fr (ZW v e R xs::hp):=WL.of fun _ _ _ _ _ hh hf=>h.on hh.drop (ZCD hf hs (d:=dS (Arr R) xs) (ZBz hh))
theorem ZHQ {α:Type} {R:Rel α} {_gR:Good R} {v:Value} {xs:List α} {s:Tmp} (hs:fr[s]?=some (dX v)) (h:WL P ops Q rest (fr.set s (dS (ArrK n R) xs)) hp):WL P ops Q rest fr (ZV v e n R xs::hp):=WL.of fun _ _ _ _ _ hh hf=>h.on hh.drop (ZCD hf hs (d:=dS (ArrK n R) xs) (ZCa hh))
end


open Go.RowKit

section
variable {P:Program} {ops:Array Oper} {hp:List HObj} {md:Region.Mode} {w:World}

theorem ZBL {P:Program} {md:Region.Mode} {ops:Array Oper} {hp:List HObj} {n g:Nat} {L:Array Bool->List Dat->Prop} {Q':Exit->Act->World->Prop} {P0:Nat->Prop} {B:Nat} {w0:World}:∀ (f:Nat) (listed:Array Bool) (fr:List Dat) (a:Act) (w:World),Hp P0 B w0 hp w->Fr (Imm P0 B hp) w a fr ->
  (∀ listed fr a w',Ext w w'->Hp P0 B w0 hp w'->Fr (Imm P0 B hp) w' a fr->L listed fr->wpAnyIn Fence.wide 0 P md ops Q' g listed a w')->ZFA P md ops hp n L f listed fr->wpAnyIn Fence.wide 0 P md ops Q' (f+g) listed a w
 | 0,listed,fr,a,w,hh,hf,hL,h=>by rw [Nat.zero_add];exact hL _ _ _ _ (Ext.refl _) hh hf h
 | f+1,listed,fr,a,w,hh,hf,hL,h=>by
  rw [show f+1+g=(f+g)+1 by omega]
  refine ⟨fun h0=>absurd h0 h.1,fun i hi=>?_⟩
  have h1:=(h.2 i hi).2
  unfold sOp at h1
  unfold wpOpIn
  split
  ·rename_i ho;simp only [ho] at h1
   exact ZBL f _ _ _ _ hh hf hL h1
  ·rename_i o ho;simp only [ho] at h1
   obtain ⟨d,h2,h3⟩:=h1
   have:=h2.step (Q:=Q') hh hf (K:=wpAnyIn Fence.wide 0 P md ops Q' (f+g) (listed.setIfInBounds i true)) fun a' w' e hf'=>ZBL f _ _ _ _ (hh.ext e) hf' (fun li fr' a'' w'' e'=>hL li fr' a'' w'' (e.trans e')) h3
   split
   ·rename_i hw;rw [if_pos hw] at this;exact ZDM this
   ·rename_i hw;rw [if_neg hw] at this;exact ⟨fun _ _=>trivial,this⟩
theorem ZBI {P:Program} {md:Region.Mode} {ops:Array Oper} {Q':Exit->Act->World->Prop}:∀ (l:List Oper) (k:Nat) (listed:Array Bool) (a:Act) (w:World),(∀ j,l[j]?=ops[k+j]?) ->
  Region.seqB md ops l.length k listed=true->wpListIn Fence.wide 0 P ops Q' l a w->wpAnyIn Fence.wide 0 P md ops Q' l.length listed a w
 | [],_,_,_,_,_,hB,h=>⟨by simpa [Region.seqB] using hB,h⟩
 | o::l,k,listed,a,w,hl,hB,h=>by
  have h0:ops[k]?=some o:=by simpa using (hl 0).symm
  simp only [List.length_cons,Region.seqB,Bool.and_eq_true,decide_eq_true_eq] at hB
  refine ⟨fun h1=>(by rw [hB.1] at h1;cases h1),fun i hi=>?_⟩
  rw [hB.1] at hi
  have hik:i=k:=by simpa using hi
  subst hik
  have hw:wpOpIn Fence.wide 0 P ops Q' i (wpListIn Fence.wide 0 P ops Q' l) a w:=by unfold wpOpIn;simp only [h0];exact h
  exact wpOpIn_mono (fun a' w' h'=>ZBI l (i+1) _ a' w' (fun j=>by have:=hl (j+1);simpa [Nat.add_assoc,Nat.add_comm 1 j] using this) hB.2 h') hw
theorem WC.drawTail {id:Nat} {l:List Oper} {fr:List Dat} {Q:ZAL} (n:Nat) (hm:P.follows .mixedOrders=true) (hB:Region.lexTailB .any l.toArray n=true)
  (h:WD P l.toArray hp (fun f=>WL P l.toArray Q (l.drop n) f hp) (l.take n) fr):WC P Q (.region id l.toArray true) fr hp:=by
 refine WC.of fun P0 B w0 w a hh hf=>?_
 simp only [Region.lexTailB,Bool.and_eq_true,decide_eq_true_eq] at hB
 obtain ⟨⟨⟨⟨hsel,hn⟩,hs⟩,hc⟩,hlex⟩:=hB
 have hn':n<l.length:=by simpa using hn
 have htl:(l.take n).length=n:=by simp;omega
 have hdl:(l.drop n).length=l.toArray.size-n:=by simp
 have inv0:HeadInv .any l.toArray n (Array.replicate l.toArray.size false) :=
  ⟨by simp,fun j oj _ hl=>(by rw [getD_replicate_false] at hl;cases hl),fun t _ ht=>getD_in (by simpa using ht) (getD_replicate_false _ _)⟩
 have H:=ZC0 (md:=.any) (g:=l.toArray.size-n) hs hc hn (l.take n) 0 _ fr (fun j hj=>by
  have hj':j<n:=by rw [htl] at hj;exact hj
  simp [hj']) (by simpa using htl) inv0 (by rw [htl];exact hlex) h
 have hx:Ext w { w with drawn:=w.drawn+1 }:=(Ext.refl w).drew
 refine wpIn_wide.1 (wpIn_region_any (n:=0) hm ?_)
 have:=ZBL (Q':=ZCE Q P0 B w0) (g:=l.toArray.size-n) _ _ _ _ _ (hh.ext hx) (hf.ext hx) (fun listed fr' a' w' e hh' hf' hL=>by
  have:=ZBI (md:=.any) (Q':=ZCE Q P0 B w0) (l.drop n) n listed a' w' (fun j=>by simp [List.getElem?_drop]) (by rw [hdl];exact hL.1) (hL.2.on hh' hf')
  rwa [hdl] at this) H
 rw [htl,show n+(l.toArray.size-n)=l.toArray.size by omega] at this
 exact this
end



open Go.RowKit


open Go.RowKit
section
variable {P:Program} {ops:Array Oper} {hp:List HObj} {o:Oper} {fr:List Dat} {d:Dat} {Q:ZAL} {rest:List Oper}
variable {dst:Option Tmp} {ty:TypeId} {ps:String} {af:Array Edge} {g:Option (Nat × Bool)} {P0:Nat->Prop} {B:Nat} {w0 w:World}
theorem ZFw {f:FuncId} {fn:Func} {c:Code} {t:Tmp} {args:Array Operand} {ats:Array TypeId} {ds:List Dat} (hp1:List HObj) (K:Dat->List HObj->Prop) (hf:P.funcs[f]?=some fn) (hb:fn.body=some c) (hr:fn.results=#[.tmp t]) (he:ZAf P f) (ha:ArgsD fr args.toList ds)
  (hbody:∀ gh:HObj,gh.blk=none->WC P (finI t K gh hp) c (ds++List.replicate (fn.ntmps-ds.length) (dX undef)) (hp1++gh::hp))
  (hK:∀ d' hp2,K d' hp2->WL P ops Q rest (ZB fr dst d') (hp2++hp)) :
  WL P ops Q (⟨dst,.call { callee:=.value (.func f),args:=args,argTypes:=ats },ty,ps,af,none⟩::rest) fr (hp1++hp):=by
 refine WL.of fun P0 B w0 w a hh hfr=>?_
 have hrun:(execOp a.eval ⟨dst,.call { callee:=.value (.func f),args:=args,argTypes:=ats },ty,ps,af,none⟩).run P w = .ok (.enter f (args.map a.eval)) w:=by
  unfold execOp
  simp only [resolve]
  simp [Act.eval,Deferred.ofValue,invoke,he _ w]
 refine ZAc rfl fun KK hKK=>?_
 unfold Oper.wp
 rw [hrun]
 have hgb:(hFr a fr).blk=none:=rfl
 have hG:Hp P0 B w0 (hp1++hFr a fr::hp) w:=ZBB hgb hh hfr.rd
 have hvs:(args.map a.eval)=(args.toList.map a.eval).toArray:=by apply Array.ext';simp
 have hl:(args.toList.map a.eval).length=ds.length:=by simpa using ha.1
 have hf0:Fr (Imm P0 B (hp1++hFr a fr::hp)) w { tmps:=(args.toList.map a.eval).toArray++Array.replicate (fn.ntmps-ds.length) undef,defers:=[] } (ds++List.replicate (fn.ntmps-ds.length) (dX undef)) :=
  ZA8 hl fun i d hd=>by
   have hi:i<args.toList.length:=by rw [ha.1];exact (List.getElem?_eq_some_iff.1 hd).1
   have h2:=(ha.2 i _ d (List.getElem?_eq_getElem hi) hd).ev hfr
   have hi':i<args.size:=by simpa using hi
   have:(args.toList.map a.eval).getD i undef=a.eval args.toList[i]:=by simp [List.getD,hi']
   rw [this]
   exact d.weak h2 fun k=>(Zx hgb hp1 k).2
 have hcalls:Calls P f (args.map a.eval) w fun e w'=>∃ v,e = .returned v/\KK (a.put dst v) w':=by
  rw [hvs]
  refine calls_of_wp hf hb ?_
  have hwp:=(hbody (hFr a fr) hgb).on hG hf0
  have hsz:(args.toList.map a.eval).toArray.size=ds.length:=by simp [<- hl]
  rw [hsz]
  refine Code.wp_mono (fun e a' w' ⟨f',p',q,hh',hf'⟩=>?_) hwp
  obtain ⟨hx,d',hp2,hd',rfl,hk'⟩:=q
  obtain ⟨hh2,hok2⟩:=hh'.unghost hgb
  have hv:=d'.weak (hf'.rd t d' hd') fun k=>(Zx hgb hp2 k).1
  have hfr2:Fr (Imm P0 B (hp2++hp)) w' a fr:=⟨hfr.defers,hfr.size,hok2⟩
  have hfin:=hKK _ _ ((hK d' hp2 hk').on hh2 (Fr.put (x:=dst) hfr2 hv))
  cases e with
  | normal=>exact ⟨hf'.defers,_,results_tmp hr _ _ _,_,rfl,hfin⟩
  | ret=>exact ⟨hf'.defers,_,results_tmp hr _ _ _,_,rfl,hfin⟩
  | _=>exact hx.elim
 exact hcalls.mono fun e w' ⟨v,hv,hk⟩=>by subst hv;exact hk
end

open Go.RowKit
section
variable {P:Program} {ops:Array Oper} {hp:List HObj} {o:Oper} {fr:List Dat} {d:Dat} {Q:ZAL} {rest:List Oper}
variable {dst:Option Tmp} {ty:TypeId} {ps:String} {af:Array Edge} {g:Option (Nat × Bool)}
theorem ZIb {f:FuncId} {args:Array Operand} {ats:Array TypeId} {ds:List Dat} {hp1:List HObj} {K:Dat->List HObj->Prop} (hF:InC P f ds hp1 K) (he:ZAf P f) (ha:ArgsD fr args.toList ds)
  (hK:∀ d' hp2,K d' hp2->WL P ops Q rest (ZB fr dst d') (hp2++hp)) :
  WL P ops Q (⟨dst,.call { callee:=.value (.func f),args:=args,argTypes:=ats },ty,ps,af,none⟩::rest) fr (hp1++hp):=by
 obtain ⟨fn,c,t,hf,hb,hr,h⟩:=hF.out hp
 exact ZFw hp1 K hf hb hr he ha h hK
theorem ZHP {f:FuncId} {args:Array Operand} {ats:Array TypeId} {ds:List Dat} {o1:HObj} {e:TypeId} {n:Nat} {α:Type} {R:Rel α} {_gR:Good R} {p:List α->Prop} (hF:InC P f ds [o1] fun d' hp2=>∃ v xs,p xs/\d'=dX v/\hp2=[ZV v e n R xs]) (he:ZAf P f) (ha:ArgsD fr args.toList ds)
  (hK:∀ v xs,p xs->WL P ops Q rest (ZB fr dst (dX v)) (ZV v e n R xs::hp)) :
  WL P ops Q (⟨dst,.call { callee:=.value (.func f),args:=args,argTypes:=ats },ty,ps,af,none⟩::rest) fr (o1::hp) :=
 ZIb (hp1:=[o1]) hF he ha fun d' hp2 ⟨v,xs,hp,hd,hh⟩=>by subst hd;subst hh;exact hK v xs hp
theorem ZDX {α:Type} (e:TypeId) (n:Nat) (hn:0<n) (R:Rel α) [Good R] (h:WL P ops Q rest fr (ZV (.slice none 0 0) e n R ([]:List α)::hp)):WL P ops Q rest fr hp:=WL.of fun _ _ _ _ _ hh hf =>
 h.on (hh.push (Ext.refl _) (by simp [ZV,Value.ownBlock]) (OwnK.nil hn)) (hf.mono fun _ _ hd=>Zf (Ext.refl _) (by simp [ZV,Value.ownBlock]) hd)
theorem ZIc {f:FuncId} {args:Array Operand} {ats:Array TypeId} {ds:List Dat} {e:TypeId} {n:Nat} {α:Type} {R:Rel α} {_gR:Good R} {xs:List α} (hn:0<n) (hF:InC P f ds [] fun d' hp2=>∃ v,d'=dX v/\(hp2=[ZV v e n R xs]\/v = .slice none 0 0/\xs=[]/\hp2=[])) (he:ZAf P f) (ha:ArgsD fr args.toList ds)
  (hK:∀ v,WL P ops Q rest (ZB fr dst (dX v)) (ZV v e n R xs::hp)) :
  WL P ops Q (⟨dst,.call { callee:=.value (.func f),args:=args,argTypes:=ats },ty,ps,af,none⟩::rest) fr hp :=
 ZIb (hp1:=[]) hF he ha fun d' hp2 ⟨v,hd,hh⟩=>by
  subst hd
  rcases hh with rfl|⟨rfl,rfl,rfl⟩
  ·exact hK v
  ·exact ZDX e n hn R (hK _)
end

open Go.RowKit

section
variable {P:Program} {ops:Array Oper} {hp:List HObj} {o:Oper} {fr:List Dat} {d:Dat} {Q:ZAL} {rest:List Oper}
variable {dst:Option Tmp} {ty:TypeId} {ps:String} {af:Array Edge} {g:Option (Nat × Bool)} {b cap:Nat} {e t T:TypeId} {xs:List Vx} {bytes:Nat} {z:Value} {ag:Bool}
theorem ZDB {o:Oper} {k N:Nat} {ys:List Vx} (hg:o.guard=none) (hk:k+ys.length≤xs.length) (hrun:∀ {I:Nat->Prop} {w:World} {a:Act},Fr I w a fr->ZGh w b cap e xs->∃ out:Next,(out = .skip\/∃ r,out = .value r)/\(execOp a.eval o).run P w = .ok out (w.setCells b (k*2) (Zo ys)))
  (h:WL P ops Q rest (ZB fr o.dst dA) (hV b N cap e (xs.take k++ys++xs.drop (k+ys.length))::hp)):WL P ops Q (o::rest) fr (hV b N cap e xs::hp):=by
 refine WL.of fun P0 B w0 w a hh hf=>?_
 obtain ⟨hN,hrow⟩:=ZBb.1 (hh.ok (hV b N cap e xs) (by simp))
 obtain ⟨out,ho,hr⟩:=hrun hf hrow
 have hgr:w.grownBy (w.setCells b (k*2) (Zo ys)) (hV b N cap e xs).blk:=ZCj
 have hok:(hV b N cap e (xs.take k++ys++xs.drop (k+ys.length))).ok (fun j=>Imm P0 B (hV b N cap e xs::hp) j/\j<w.heap.size) (w.setCells b (k*2) (Zo ys)) :=
  ZBb.2 ⟨by rw [hN];simp;omega,ZJT hrow k ys hk⟩
 refine ZAc hg fun K hK=>?_
 unfold Oper.wp
 rw [hr]
 have fin:∀ r:Value,K (a.put o.dst r) (w.setCells b (k*2) (Zo ys)):=fun r=>hK _ _ (h.on (hh.write hgr (.inl rfl) hok) (Fr.put (hf.mono fun _ _ hd=>ZM (o':=hV b N cap e (xs.take k++ys++xs.drop (k+ys.length))) hgr (.inl rfl) hd) (d:=dA) trivial))
 rcases ho with rfl|⟨r,rfl⟩
 ·exact fin undef
 ·exact fin r
theorem ZIe {p:Tmp} {x:Operand} {j k N:Nat} {y:Vx} (T':TyI P T 2 true) (hp0:OpD fr (.tmp p) (dX (.pointer (some ⟨b,j,none⟩)))) (hx:OpD fr x (dS RV y)) (hj:j=k*2) (hk:k<xs.length)
  (h:WL P ops Q rest (ZB fr dst dA) (hV b N cap e (xs.set k y)::hp)):WL P ops Q (⟨dst,.store T (.tmp p) x,ty,ps,af,none⟩::rest) fr (hV b N cap e xs::hp):=by
 refine ZDB (k:=k) (ys:=[y]) rfl (by simp;omega) (fun {I w a} hf hrow=>⟨.skip,.inl rfl,?_⟩) ?_
 ·have h1:a.eval (.tmp p)=_:=hp0.ev hf
  have h2:a.eval x = .agg #[.int .i64 y.1,.int .i64 y.2]:=hx.ev hf
  subst hj
  have:=run_storeVar_mid (P:=P) w b (k*2) T #[.int .i64 y.1,.int .i64 y.2] (ZCF hrow _ _ (by simp;omega)) (by simpa using T'.size) (by simp [Value.oneCell'])
  unfold execOp
  simp only [h1,h2,Instr.storeAt,Instr.sureAddr,Sem.run_bind,Sem.run_pure,Result.andThen_ok,this]
  rfl
 ·have e1:xs.take k++[y]++xs.drop (k+[y].length)=xs.set k y:=by
   rw [List.set_eq_take_append_cons_drop,if_pos hk];simp
  rw [e1];exact h
theorem ZIa {x:Operand} {off n m k N:Nat} (hu:P.underlying t=some (.slice e)) (hz:∀ w,(zeroValue e).run P w = .ok (.agg #[.int .i64 0,.int .i64 0]) w) (hx:OpD fr x (dX (.slice (some ⟨b,off,none⟩) n m))) (hj:off=k*2) (hn:0<n) (hk:k+n=xs.length)
  (h:WL P ops Q rest (ZB fr dst dA) (hV b N cap e (xs.take k++List.replicate n (0,0))::hp)):WL P ops Q (⟨dst,.call { callee:=.builtin .clear,args:=#[x],argTypes:=#[t] },ty,ps,af,none⟩::rest) fr (hV b N cap e xs::hp):=by
 refine ZDB (k:=k) (ys:=List.replicate n (0,0)) rfl (by simp;omega) (fun {I w a} hf hrow=>⟨.value (.tuple #[]),.inr ⟨_,rfl⟩,?_⟩) ?_
 ·have h1:a.eval x=_:=hx.ev hf
  subst hj
  have hzc:(Builtin.zeroCells #[Value.int .i64 0,.int .i64 0] n).toList=Zo (List.replicate n (0,0)):=by
   have e1:Zo (List.replicate n (0,0))=List.replicate (n*2) (.int .i64 0):=by
    clear h hn hk hx h1
    induction n with
    | zero=>rfl
    | succ n ih=>rw [List.replicate_succ,ZB6,ih,Nat.succ_mul,List.replicate_succ,List.replicate_succ]
   rw [e1]
   simp only [Builtin.zeroCells]
   apply List.ext_getElem
   ·simp
   ·intro i h1 h2
    have:i % 2<2:=Nat.mod_lt _ (by decide)
    simp
    rcases (by omega:i % 2=0\/i % 2=1) with h|h <;> simp [h]
  have hst:=run_storeCells_cells (P:=P) b (k*2) (Zo (List.replicate n (0,0))) 0 w (fun j hj=>by
   rw [ZAP,List.length_replicate] at hj
   exact ((ZCF hrow (k*2) (n*2) (by omega)) j hj).1) (fun j hj=>by
   rw [ZAP,List.length_replicate] at hj
   exact ((ZCF hrow (k*2) (n*2) (by omega)) j hj).2) (ZI2 _)
  obtain ⟨m',rfl⟩:∃ m,n=m+1:=⟨n-1,by omega⟩
  unfold execOp
  simp [resolve,invoke,builtin,h1,Builtin.clear_,run_underlying hu,hz,Value.cells,hzc,hst]
 ·have e1:xs.take k++List.replicate n (0,0)++xs.drop (k+(List.replicate n ((0,0):Vx)).length)=xs.take k++List.replicate n (0,0):=by
   rw [List.length_replicate,hk,List.drop_length,List.append_nil]
  rw [e1];exact h
end

end
end Go.Proofs.YtlgmojhmmbhgfaaGreatDoor.I
