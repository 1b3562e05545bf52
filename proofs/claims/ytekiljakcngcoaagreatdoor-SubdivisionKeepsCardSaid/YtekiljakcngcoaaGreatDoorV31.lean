/- Part 31: walks by contracts, and plain laws. -/
import Derived.Test.YtekiljakcngcoaaGreatDoorV30
set_option linter.unusedVariables false
set_option linter.unusedSimpArgs false
set_option linter.unusedSectionVars false
set_option maxRecDepth 100000
set_option maxHeartbeats 4000000
namespace Go.Proofs.YtekiljakcngcoaaGreatDoor
section
open Go.RowKit
def ZAm {K α:Type} (R:Rel α) [Good R] (M:List (K × Value × α)):HObj where
 blk:=none
 ok:=fun I w=>∀ p∈M,R I w p.2.1 p.2.2
 weak:=fun h q p hp=>Good.weak (h p hp) q
 bound:=fun h p hp=>Good.bound (h p hp)
 move:=fun h hg hP _ p hp=>(dS R p.2.2).grown (h p hp) hg hP
abbrev hMC {K α:Type} (b:Nat) (kv:K->Value) (M:List (K × Value × α)):HObj:=hM b kv (fun u:Value × α=>u.1) M
theorem ZIT {K V:Type} [DecidableEq K] {m:List (K × V)} {x:K} {v:V} {p:K × V} (h:p∈ZBr m x v):p=(x,v)\/p∈m:=by
 unfold ZBr at h
 split at h
 ·obtain ⟨q,hq,rfl⟩:=List.mem_map.1 h
  split
  ·exact .inl rfl
  ·exact .inr hq
 ·rcases List.mem_append.1 h with h|h
  ·exact .inr h
  ·exact .inl (List.mem_singleton.1 h)
theorem ZFY {K V:Type} [DecidableEq K] {m:List (K × V)} {x:K}:(lookM m x).isSome=true↔x∈m.map (·.1):=by
 unfold lookM
 rw [Option.isSome_map,List.find?_isSome]
 constructor
 ·rintro ⟨p,hp,he⟩
  exact List.mem_map.2 ⟨p,hp,of_decide_eq_true he⟩
 ·intro h
  obtain ⟨p,hp,he⟩:=List.mem_map.1 h
  exact ⟨p,hp,decide_eq_true he⟩
theorem ZPU {K V:Type} [DecidableEq K] (m:List (K × V)) (x:K) (v:V):(ZBr m x v).map (·.1)=if x∈m.map (·.1) then m.map (·.1) else m.map (·.1)++[x]:=by
 unfold ZBr
 by_cases h:x∈m.map (·.1)
 ·rw [if_pos (ZFY.2 h),if_pos h,List.map_map]
  refine List.map_congr_left fun p _=>?_
  show (if p.1=x then (x,v) else p).1=p.1
  split
  ·rename_i e;exact e.symm
  ·rfl
 ·rw [if_neg fun q=>h (ZFY.1 q),if_neg h,List.map_append]
  rfl
section
variable {P:Program} {ops:Array Oper} {hp:List HObj} {fr:List Dat} {d:Dat} {Q:ZAW} {rest:List Oper}
variable {dst:Option Tmp} {ty:TypeId} {ps:String} {af:Array Edge} {g:Option (Nat × Bool)} {t k e:TypeId} {z:Value} {K α:Type} [DecidableEq K] {kv:K->Value} {ok:K->Prop} {R:Rel α} [Good R] {b:Nat} {M:List (K × Value × α)}
theorem ZAz {x:Operand} {ad:Addr} (hx:OpD fr x (dX (.pointer (some ad)))):SY P ops hp ⟨dst,.nilCheck x,ty,ps,af,g⟩ fr (dX (.pointer (some ad))):=SY.val fun {I w a} ho=>by
 have h1:a.eval x = .pointer (some ad):=hx.get (by simp [Op.operands]) ho
 refine ⟨.pointer (some ad),?_,rfl⟩
 unfold execOp
 simp only [h1,Sem.run_pure]
theorem ZK9 {P0:Nat->Prop} {B:Nat} {w0 w:World} {v:K} {u:α} {cv:Value} (hh:Hp P0 B w0 (hMC b kv M::ZAm R M::hp) w) (hu:R (Imm P0 B (hMC b kv M::ZAm R M::hp)) w cv u) :
  Hp P0 B w0 (hMC b kv (ZBr M v (cv,u))::ZAm R (ZBr M v (cv,u))::hp) (w.putObj b (ZAH (ZAO kv (fun u:Value × α=>u.1) (ZBr M v (cv,u))))) /\
   ∀ (d:Dat) (y:Value),d.rd (Imm P0 B (hMC b kv M::ZAm R M::hp)) w y->d.rd (Imm P0 B (hMC b kv (ZBr M v (cv,u))::ZAm R (ZBr M v (cv,u))::hp)) (w.putObj b (ZAH (ZAO kv (fun u:Value × α=>u.1) (ZBr M v (cv,u))))) y:=by
 have h1:Hp P0 B w0 (hMC b kv (ZBr M v (cv,u))::ZAm R M::hp) (w.putObj b (ZAH (ZAO kv (fun u:Value × α=>u.1) (ZBr M v (cv,u))))):=Hp.putObj hh
 have hg:(ZAm R (ZBr M v (cv,u))).blk=none:=rfl
 have hg0:(ZAm R M).blk=none:=rfl
 have hrd:∀ (d:Dat) (y:Value),d.rd (Imm P0 B (hMC b kv M::ZAm R M::hp)) w y->d.rd (Imm P0 B ([hMC b kv (ZBr M v (cv,u))]++ZAm R M::hp)) (w.putObj b (ZAH (ZAO kv (fun u:Value × α=>u.1) (ZBr M v (cv,u))))) y:=fun d y hd=>ZAg hd
 have hv:(ZAm R (ZBr M v (cv,u))).ok (Imm P0 B ([hMC b kv (ZBr M v (cv,u))]++ZAm R M::hp)) (w.putObj b (ZAH (ZAO kv (fun u:Value × α=>u.1) (ZBr M v (cv,u))))):=fun p hp=>by
  rcases ZIT hp with rfl|hp
  ·exact hrd (dS R u) cv hu
  ·exact h1.ok (ZAm R M) (by simp) p hp
 have h2:=ZBT (l:=[hMC b kv (ZBr M v (cv,u))]) hg h1 hv
 obtain ⟨h3,hI3⟩:=h2.perm (show ([hMC b kv (ZBr M v (cv,u))]++ZAm R (ZBr M v (cv,u))::ZAm R M::hp).Perm (ZAm R M::hMC b kv (ZBr M v (cv,u))::ZAm R (ZBr M v (cv,u))::hp) from
  ((List.Perm.cons _ (List.Perm.swap _ _ _)).trans (List.Perm.swap _ _ _)))
 refine ⟨h3.drop,fun d y hd=>?_⟩
 have h4:=hrd d y hd
 exact d.weak h4 fun k hk=>(ZAC hg0 [hMC b kv (ZBr M v (cv,u)),ZAm R (ZBr M v (cv,u))] k).1 ((ZAC hg [hMC b kv (ZBr M v (cv,u))] k).2 hk)
theorem ZJ5 {x y c:Operand} {v:K} {u:α} {w:World} {a:Act} (T:MapT P t k e z) (H:KeyT P k kv ok) (h1:a.eval x = .map (some b)) (h2:a.eval y=kv v) (ho:ok v) (hok:∀ p∈M,ok p.1) (hn:(M.map (·.1)).Nodup) (hb:w.heap[b]?=some (ZAH (ZAO kv (fun u:Value × α=>u.1) M))) :
  (execOp a.eval ⟨dst,.mapUpdate t x y c,ty,ps,af,g⟩).run P w = .ok .skip (w.putObj b (ZAH (ZAO kv (fun u:Value × α=>u.1) (ZBr M v (a.eval c,u))))):=by
 have h3:=ZHR (vv:=fun u:Value × α=>u.1) T H hok hn ho (a.eval c,u) hb
 simp only at h3
 unfold execOp
 simp only [h1,h2,Sem.run_bind,h3,Result.andThen_ok,Sem.run_pure]
 rfl
theorem ZHe {x y c:Operand} {v:K} {u:α} (T:MapT P t k e z) (H:KeyT P k kv ok) (hx:OpD fr x (dX (.map (some b)))) (hy:OpD fr y d) (hd:IsV d (kv v)) (hc:OpD fr c (dS R u)) (ho:ok v) (hok:∀ p∈M,ok p.1) (hn:(M.map (·.1)).Nodup)
  (h:∀ cv,WL P ops Q rest (ZA fr dst (dX undef)) (hMC b kv (ZBr M v (cv,u))::ZAm R (ZBr M v (cv,u))::hp)) :
  WL P ops Q (⟨dst,.mapUpdate t x y c,ty,ps,af,none⟩::rest) fr (hMC b kv M::ZAm R M::hp):=by
 refine WL.of fun P0 B w0 w a hh hf=>?_
 have hrun:=ZJ5 (dst:=dst) (ty:=ty) (ps:=ps) (af:=af) (g:=none) (c:=c) (u:=u) T H (hx.ev hf) (hd.is _ _ _ (hy.ev hf)) ho hok hn (hh.ok (hMC b kv M) (by simp))
 obtain ⟨h1,h2⟩:=ZK9 (v:=v) hh (hc.ev hf)
 refine wpList_plain rfl fun K hK=>?_
 unfold Oper.wp
 rw [hrun]
 exact hK _ _ ((h _).on h1 (Fr.put (hf.mono h2) (d:=dX undef) rfl))
theorem I.ZHe {x y c:Operand} {v:K} {u:α} (T:MapT P t k e z) (H:KeyT P k kv ok) (hx:OpD fr x (dX (.map (some b)))) (hy:OpD fr y d) (hd:IsV d (kv v)) (hc:OpD fr c (dS R u)) (ho:ok v) (hok:∀ p∈M,ok p.1) (hn:(M.map (·.1)).Nodup)
  (h:∀ cv,I.WL P ops Q rest (ZA fr dst (dX undef)) (hMC b kv (ZBr M v (cv,u))::ZAm R (ZBr M v (cv,u))::hp)) :
  I.WL P ops Q (⟨dst,.mapUpdate t x y c,ty,ps,af,none⟩::rest) fr (hMC b kv M::ZAm R M::hp):=by
 refine I.WL.of fun P0 B w0 w a hh hf=>?_
 have hrun:=ZJ5 (dst:=dst) (ty:=ty) (ps:=ps) (af:=af) (g:=none) (c:=c) (u:=u) T H (hx.ev hf) (hd.is _ _ _ (hy.ev hf)) ho hok hn (hh.ok (hMC b kv M) (by simp))
 obtain ⟨h1,h2⟩:=ZK9 (v:=v) hh (hc.ev hf)
 refine ZA5 rfl fun K hK=>?_
 unfold Oper.wp
 rw [hrun]
 exact hK _ _ ((h _).on h1 (Fr.put (hf.mono h2) (d:=dX undef) rfl))
theorem ZEC {x y:Operand} {v:K} (T:MapT P t k e z) (H:KeyT P k kv ok) (hx:OpD fr x (dX (.map (some b)))) (hm:hMC b kv M∈hp) (hv:ZAm R M∈hp) (hy:OpD fr y d) (hd:IsV d (kv v)) (ho:ok v) (hok:∀ p∈M,ok p.1) (hn:(M.map (·.1)).Nodup) {cv:Value} {u:α} (hl:(v,cv,u)∈M) :
  SY P ops hp ⟨dst,.lookup t x y false,ty,ps,af,g⟩ fr (dS R u):=ZAf fun {P0 B w0 w a} hh hon=>by
 have h1:a.eval x=_:=hx.get (by simp [Op.operands]) hon
 have h2:=hd.is _ _ _ (hy.get (by simp [Op.operands]) hon)
 have h3:Go.Proofs.YtekiljakcngcoaaGreatDoor.lookM M v=some (cv,u):=by
  obtain ⟨j,hj,he⟩:=List.getElem_of_mem hl
  have:=Go.Proofs.YtekiljakcngcoaaGreatDoor.lookM_some hn hj
  rw [he] at this
  exact this
 refine ⟨cv,w,?_,Ext.refl _,hh.ok _ hv _ hl⟩
 unfold execOp
 simp only [h1,h2,Sem.run_bind,ZCg T H hok hn ho (hh.ok _ hm) false,h3,Result.andThen_ok,Sem.run_pure]
 rfl
theorem ZNa (t:Nat) (ht:fr[t]?=some d) (h:∀ v,WL P ops Q rest (fr.set t (dX v)) (ZAI v d::hp)):WL P ops Q rest fr hp:=WL.of fun P0 B w0 w a hh hf=>by
 have hg:(ZAI (a.tmps.getD t undef) d).blk=none:=rfl
 have hd:=hf.rd t d ht
 refine (h (a.tmps.getD t undef)).on (ZBT (l:=[]) hg hh hd) ⟨hf.defers,by rw [hf.size,List.length_set],fun t' d' hd'=>?_⟩
 by_cases htt:t=t'
 ·subst htt
  rw [List.getElem?_set] at hd'
  simp only [if_true] at hd'
  split at hd'
  ·cases hd';rfl
  ·cases hd'
 ·rw [List.getElem?_set_ne htt] at hd'
  exact d'.weak (hf.rd t' d' hd') fun k=>(ZAC hg [] k).2
end
namespace I
section
variable {P:Program} {ops:Array Oper} {hp:List HObj} {fr:List Dat} {d e:Dat} {Q:ZAW} {rest:List Oper}
variable {dst:Option Tmp} {ty:TypeId} {ps:String} {af:Array Edge} {g:Option (Nat × Bool)} {T T1 T2:TypeId} {b off k n:Nat} {ds ds':List Dat}
theorem ZB3 {t:Nat} {x:Operand} (T':TyI P T1 1 false) (hp0:OpD fr (.tmp t) (dX (.pointer (some ⟨b,k,none⟩)))) (hx:OpD fr x d) (hs:d.Shape 1 false) (hk:k<ds.length)
  (h:WL P ops Q rest (ZA fr dst (dX undef)) (ZAP b T2 (ds.set k d)::hp)) :
  WL P ops Q (⟨dst,.store T1 (.tmp t) x,ty,ps,af,none⟩::rest) fr (ZAP b T2 ds::hp):=by
 refine WL.of fun P0 B w0 w a hh hf=>?_
 obtain ⟨cs,c1,c2,c3,c4⟩:=hh.ok (ZAP b T2 ds) (by simp)
 have h1:a.eval (.tmp t)=_:=hp0.ev hf
 have hd:d.rd (Imm P0 B (ZAP b T2 ds::hp)) w (a.eval x):=hx.ev hf
 obtain ⟨us,u1,u0,u2,u3,u4⟩:=hs _ _ _ hd
 obtain ⟨u,rfl⟩:∃ u,us=[u]:=List.length_eq_one_iff.1 u1
 have hu:a.eval x=u:=by
  simp only [Bool.false_eq_true,if_false] at u4
  exact (List.cons.inj u4).1.symm
 have hone:u.oneCell'=true:=u2 u (by simp)
 have hdu:d.rd (Imm P0 B (ZAP b T2 ds::hp)) w u:=by rw [hu] at hd;exact hd
 have hkc:k<cs.length:=by omega
 have hset:=setCell_eq_setRow w b k cs.toArray T2 (0,0) u c1
 have hc:w.cell? ⟨b,k,none⟩=some cs[k]:=by simp [World.cell?,c1,hkc]
 have hfz:w.frozen? ⟨b,k,none⟩=false:=by simp [World.frozen?,c1]
 have hst:(store ((⟨b,k,none⟩:Addr).add 0) u).run P w = .ok () (w.setCell ⟨b,k,none⟩ u):=by
  rw [show ((⟨b,k,none⟩:Addr).add 0)=⟨b,k,none⟩ from rfl,run_store P w _ u _ hone,hc]
  simp [hfz]
 have hsz:(sizeOf T1).run P w = .ok 1 w:=by
  have h5:=T'.size
  cases hq:P.info? T1 with
  | none=>rw [hq] at h5;cases h5
  | some i =>
   rw [hq] at h5
   have:i.size=1:=by simpa using h5
   rw [<- this]
   rw [run_sizeOf w hq]
   simp [Program.cellsOf,hq]
 have hw:w.setCell ⟨b,k,none⟩ u=w.setRow b (cs.set k u).toArray:=by rw [hset];simp
 have hrun:(execOp a.eval ⟨dst,.store T1 (.tmp t) x,ty,ps,af,none⟩).run P w = .ok .skip (w.setRow b (cs.set k u).toArray):=by
  rw [<- hw]
  unfold execOp
  simp only [h1,hu,Instr.storeAt,Instr.sureAddr,storeVar,Sem.run_bind,hsz,Result.andThen_ok,Sem.run_pure]
  simp [ZB5 hone,storeCells,hst]
 refine ZA5 rfl fun K hK=>?_
 unfold Oper.wp
 rw [hrun]
 have hgr:w.grownBy (w.setRow b (cs.set k u).toArray) (ZAP b T2 ds).blk:=ZAM
 have hok:(ZAP b T2 (ds.set k d)).ok (fun j=>Imm P0 B (ZAP b T2 ds::hp) j/\j<w.heap.size) (w.setRow b (cs.set k u).toArray):=by
  refine ⟨cs.set k u,setRow_heap w b _ _ _ _ c1,by simp [c2],fun c hc=>?_,fun j c e hc he=>?_⟩
  ·rcases List.mem_or_eq_of_mem_set hc with hc|rfl
   ·exact c3 c hc
   ·exact hone
  ·rw [List.getElem?_set] at hc he
   by_cases hjk:k=j
   ·rw [if_pos hjk,if_pos (by omega)] at hc he
    cases hc;cases he
    exact d.grown (d.bound hdu) hgr fun j q hj=>hj.1.2 (ZAP b T2 ds) (by simp) q
   ·rw [if_neg hjk] at hc he
    exact e.grown (e.bound (c4 j c e hc he)) hgr fun j q hj=>hj.1.2 (ZAP b T2 ds) (by simp) q
 exact hK _ _ (h.on (hh.write hgr (.inl rfl) hok) (Fr.put (hf.mono fun _ _ hd=>ZY (o':=ZAP b T2 (ds.set k d)) hgr (.inl rfl) hd) (d:=dX undef) rfl))
end
end I
end
section
open Go.RowKit
structure SG (P:Program) (ops:Array Oper) (hp:List HObj) {β:Type} (H:β->List HObj) (D:β->Dat) (o:Oper) (fr:List Dat):Prop where
 want:WantS ops o fr true
 out:∀ {P0:Nat->Prop} {B:Nat} {w0 w:World} {a:Act},Hp P0 B w0 hp w->On (o.looksAt ops) (Imm P0 B hp) w a fr->∀ (K:Act->World->Prop) (Q:Exit->Act->World->Prop),
  (∀ (x:β) (v:Value) (w':World),Hp P0 B w0 (H x) w'->(∀ (d:Dat) (u:Value),d.rd (Imm P0 B hp) w u->d.rd (Imm P0 B (H x)) w' u)->(D x).rd (Imm P0 B (H x)) w' v->K (a.put o.dst v) w')->o.wp P a w K Q
section
variable {P:Program} {ops:Array Oper} {hp:List HObj} {md:Region.Mode} {β:Type} {H:β->List HObj} {D:β->Dat} {dd:Nat->Dat} {m:Nat} {fr fr':List Dat} {o:Oper}
theorem SG.same (h:SG P ops hp H D o fr) (hl:fr'.length=fr.length) (hs:∀ t∈o.looksAt ops,fr'[t]?=fr[t]?):SG P ops hp H D o fr':=⟨⟨fun I w a ho=>h.want.out I w a (ho.same hl hs)⟩,fun hh ho K Q hk=>h.out hh (ho.same hl hs) K Q hk⟩
def sOpG (P:Program) (ops:Array Oper) (hp:List HObj) {β:Type} (H:β->List HObj) (D:β->Dat) (dd:Nat->Dat) (m:Nat) (i:Nat) (K:List Dat->Option β->Prop) (fr:List Dat) (c:Option β):Prop :=
 ∃ o,ops[i]?=some o/\((i=m/\c=none/\SG P ops hp H D o fr/\∀ x,K (ZA fr o.dst (D x)) (some x))\/(i≠m/\(∀ c,SYG P ops (HH hp H c) o fr (dd i))/\K (ZA fr o.dst (dd i)) c))
def ZGq (P:Program) (md:Region.Mode) (ops:Array Oper) (hp:List HObj) {β:Type} (H:β->List HObj) (D:β->Dat) (dd:Nat->Dat) (m n:Nat) (L:Array Bool->List Dat->Option β->Prop):Nat->Array Bool->List Dat->Option β->Prop
 | 0,listed,fr,c=>L listed fr c
 | f+1,listed,fr,c =>
  Region.ready md ops listed≠[]/\∀ i∈Region.ready md ops listed,i<n/\sOpG P ops hp H D dd m i (ZGq P md ops hp H D dd m n L f (listed.setIfInBounds i true)) fr c
theorem ZCR {n g:Nat} {L:Array Bool->List Dat->Option β->Prop} {Q':Exit->Act->World->Prop} {P0:Nat->Prop} {B:Nat} {w0:World}:∀ (f:Nat) (listed:Array Bool) (fr:List Dat) (c:Option β) (a:Act) (w:World),Hp P0 B w0 (HH hp H c) w->Fr (Imm P0 B (HH hp H c)) w a fr ->
  (∀ listed fr c a w',Hp P0 B w0 (HH hp H c) w'->Fr (Imm P0 B (HH hp H c)) w' a fr->L listed fr c->wpAny P md ops Q' g listed a w')->ZGq P md ops hp H D dd m n L f listed fr c->wpAny P md ops Q' (f+g) listed a w
 | 0,listed,fr,c,a,w,hh,hf,hL,h=>by rw [Nat.zero_add];exact hL _ _ _ _ _ hh hf h
 | f+1,listed,fr,c,a,w,hh,hf,hL,h=>by
  rw [show f+1+g=(f+g)+1 by omega]
  refine ⟨fun h0=>absurd h0 h.1,fun i hi=>?_⟩
  obtain ⟨o,ho,h1⟩:=(h.2 i hi).2
  unfold wpOp
  simp only [ho]
  rcases h1 with ⟨hm,hc,hw,hk⟩|⟨hm,hs,hk⟩
  ·subst hc
   have hwant:Region.wanted o (yielded ops a.tmps)=true:=hw.want.out _ _ _ (hf.on _)
   rw [if_pos hwant]
   refine .inl (hw.out hh (hf.on _) _ _ fun x v w' hh' hrd hd=>?_)
   exact ZCR f _ _ (some x) _ _ hh' (Fr.put (hf.mono fun d u hu=>hrd d u hu) hd) hL (hk x)
  ·have:=(hs c).step (Q:=Q') hh hf (K:=wpAny P md ops Q' (f+g) (listed.setIfInBounds i true)) fun a' w' e hf'=>ZCR f _ _ c _ _ (hh.ext e) hf' hL hk
   split
   ·rename_i hw;rw [if_pos hw] at this;exact .inl this
   ·rename_i hw;rw [if_neg hw] at this;exact this
theorem ZKD {n i:Nat} {oi:Oper} {L:Array Bool->List Dat->Option β->Prop} (hi:ops[i]?=some oi) (him:i≠m)
  (hs:Region.sinkB md ops n=true) (hc:Region.chainB md ops n=true) (hn:n<ops.size) (hin:i<n)
  (hdone:∀ listed a c,L listed a c->∀ j∈Region.ready md ops listed,n≤j) :
  ∀ (f:Nat) (listed:Array Bool) (fr:List Dat) (c:Option β),HeadInv md ops n listed ->
   (∀ j oj,ops[j]?=some oj->j≠i->listed.getD j true=false->(∀ e∈oj.after,Region.binds md e=true->e.on≠i)->oi.apart ops oj=true) ->
   i∈Region.ready md ops listed->(∀ c,SYG P ops (HH hp H c) oi fr (dd i)) ->
   ZGq P md ops hp H D dd m n L f (listed.setIfInBounds i true) (ZA fr oi.dst (dd i)) c->ZGq P md ops hp H D dd m n L (f+1) listed fr c:=by
 intro f
 induction f with
 | zero =>
  intro listed fr c inv _ hr hy H
  have hun:=(mem_ready.1 hr).1
  refine ⟨fun h=>(by rw [h] at hr;cases hr),fun j hj=>?_⟩
  have hjn:j<n:=by
   rcases Nat.lt_or_ge j n with h|h
   ·exact h
   ·exact absurd hj (tail_waits hs hc hn inv _ i rfl hin hun j h)
  refine ⟨hjn,?_⟩
  by_cases hji:j=i
  ·subst hji;exact ⟨oi,hi,.inr ⟨him,hy,H⟩⟩
  ·have:=hdone _ _ _ H j (ready_mono hj hji)
   omega
 | succ f ih =>
  intro listed fr c inv hfree hr hy H
  have hun:=(mem_ready.1 hr).1
  refine ⟨fun h=>(by rw [h] at hr;cases hr),fun j hj=>?_⟩
  have hjn:j<n:=by
   rcases Nat.lt_or_ge j n with h|h
   ·exact h
   ·exact absurd hj (tail_waits hs hc hn inv _ i rfl hin hun j h)
  refine ⟨hjn,?_⟩
  by_cases hji:j=i
  ·subst hji;exact ⟨oi,hi,.inr ⟨him,hy,H⟩⟩
  ·obtain ⟨oj',hoj',h1⟩:=(H.2 j (ready_mono hj hji)).2
   obtain ⟨hjun,oj,hoj,hall⟩:=mem_ready.1 hj
   have hoo:oj=oj':=by rw [hoj] at hoj';simpa using hoj'
   subst hoo
   have hnot:∀ e∈oj.after,Region.binds md e=true->e.on≠i:=fun e he hb heq=>by
    have h1:=hall e he hb
    rw [heq,getD_both hun] at h1
    cases h1
   obtain ⟨a1,a2,a3⟩:=Oper.apart_spec (hfree j oj hoj hji hjun hnot)
   have hfree':∀ k ok,ops[k]?=some ok->k≠i->(listed.setIfInBounds j true).getD k true=false ->
     (∀ e∈ok.after,Region.binds md e=true->e.on≠i)->oi.apart ops ok=true:=fun k ok hk hki hun hno=>by
    refine hfree k ok hk hki ?_ hno
    by_cases hjk:j=k
    ·subst hjk;exact hjun
    ·rw [getD_set_ne true hjk] at hun;exact hun
   have key:∀ (d:Dat) (c':Option β),ZGq P md ops hp _ D dd m n L f ((listed.setIfInBounds i true).setIfInBounds j true) (ZA (ZA fr oi.dst (dd i)) oj.dst d) c' ->
     ZGq P md ops hp _ D dd m n L (f+1) (listed.setIfInBounds j true) (ZA fr oj.dst d) c':=fun d c' hk=>by
    refine ih (listed.setIfInBounds j true) (ZA fr oj.dst d) c' (inv.set hj hjn) hfree' (ready_mono hr (Ne.symm hji)) (fun c=>(hy c).same (ZAG _ _ _) fun t ht=>ZAb fun e=>a3 t e ht) ?_
    rw [Array.setIfInBounds_comm _ _ hji,<- ZDO fr (dd i) d a2]
    exact hk
   refine ⟨oj,hoj,?_⟩
   rcases h1 with ⟨hm,hcn,hw,hk⟩|⟨hm,hs',hk⟩
   ·exact .inl ⟨hm,hcn,hw.same (ZAG _ _ _).symm fun t ht=>(ZAb fun e=>a1 t e ht).symm,fun x=>key _ _ (hk x)⟩
   ·exact .inr ⟨hm,fun c=>(hs' c).same (ZAG _ _ _).symm fun t ht=>(ZAb fun e=>a1 t e ht).symm,key _ _ hk⟩
theorem ZHT {n g:Nat} {Lq:List Dat->Option β->Prop} {ow:Oper} (how:ops[m]?=some ow) (hs:Region.sinkB md ops (m+1)=true) (hc:Region.chainB md ops (m+1)=true) (hn:m+1<ops.size) :
  ∀ (l:List Oper) (k:Nat) (listed:Array Bool) (fr:List Dat),(∀ j,j<l.length->l[j]?=ops[k+j]?)->k+l.length=m->HeadInv md ops (m+1) listed->(∀ j,j<k->listed.getD j true=true) ->
  Region.lexHead md ops g (l.length+1) k listed=true->ChD P ops hp H dd (fun fr=>SG P ops hp H D ow fr/\∀ x,Lq (ZA fr ow.dst (D x)) (some x)) l k fr ->
  ZGq P md ops hp H D dd m (m+1) (fun listed' a' c'=>Region.seqB md ops g (m+1) listed'=true/\Lq a' c') (l.length+1) listed fr none
 | [],k,listed,fr,hl,hk,inv,hbefore,hB,h=>by
  have hkm:k=m:=by simpa using hk
  subst hkm
  simp only [List.length_nil,Region.lexHead,Bool.and_eq_true] at hB
  obtain ⟨⟨hr,hf⟩,hB'⟩:=hB
  have hr':k∈Region.ready md ops listed:=by simpa using hr
  have hun:=(mem_ready.1 hr').1
  refine ⟨fun h0=>(by rw [h0] at hr';cases hr'),fun i hi=>?_⟩
  have hile:i<k+1:=by
   rcases Nat.lt_or_ge i (k+1) with h1|h1
   ·exact h1
   ·exact absurd hi (tail_waits hs hc hn inv _ k rfl (by omega) hun i h1)
  have hik:i=k:=by
   rcases Nat.lt_or_ge i k with h1|h1
   ·have h2:=(mem_ready.1 hi).1
    rw [hbefore i h1] at h2
    cases h2
   ·omega
  subst hik
  exact ⟨by omega,ow,how,.inl ⟨rfl,rfl,h.1,fun x=>⟨hB',h.2 x⟩⟩⟩
 | o::l,k,listed,fr,hl,hk,inv,hbefore,hB,h=>by
  have h0:ops[k]?=some o:=by simpa using (hl 0 (by simp)).symm
  simp only [List.length_cons] at hB
  rw [Region.lexHead] at hB
  simp only [Bool.and_eq_true] at hB
  obtain ⟨⟨hr,hf⟩,hB'⟩:=hB
  have hkn:k<m:=by simp only [List.length_cons] at hk;omega
  have hr':k∈Region.ready md ops listed:=by simpa using hr
  have hklt:k<listed.size:=by rw [inv.size];omega
  exact ZKD h0 (by omega) hs hc hn (by omega) (fun listed' a' c' hL=>seqB_ready hL.1) (l.length+1) listed fr none inv (Region.free_spec h0 hf) hr' h.1
   (ZHT (n:=n) how hs hc hn l (k+1) _ _ (fun j hj=>by have:=hl (j+1) (by simp;omega);simpa [Nat.add_assoc,Nat.add_comm 1 j] using this) (by simp only [List.length_cons] at hk;omega) (inv.set hr' (by omega))
    (fun j hj=>by
     by_cases hjk:k=j
     ·subst hjk;simp [hklt]
     ·rw [getD_set_ne true hjk];exact hbefore j (by omega)) hB' h.2)
theorem WC.drawG {id:Nat} {l:List Oper} {Q:ZAW} (n:Nat) (H:β->List HObj) (D:β->Dat) (ow:Oper) (how:l[n]?=some ow) (hm:P.follows .mixedOrders=true) (hB:Region.lexTailB .any l.toArray (n+1)=true)
  (h:WDs P l.toArray hp H (fun f=>SG P l.toArray hp H D ow f/\∀ x,WL P l.toArray Q (l.drop (n+1)) (ZA f ow.dst (D x)) (H x)) (l.take n) fr):WC P Q (.region id l.toArray true) fr hp:=by
 refine WC.of fun P0 B w0 w a hh hf=>?_
 simp only [Region.lexTailB,Bool.and_eq_true,decide_eq_true_eq] at hB
 obtain ⟨⟨⟨⟨hsel,hn⟩,hs⟩,hc⟩,hlex⟩:=hB
 have hn':n+1<l.length:=by simpa using hn
 have htl:(l.take n).length=n:=by simp;omega
 have hdl:(l.drop (n+1)).length=l.toArray.size-(n+1):=by simp
 have inv0:HeadInv .any l.toArray (n+1) (Array.replicate l.toArray.size false) :=
  ⟨by simp,fun j oj _ hl=>(by rw [getD_replicate_false] at hl;cases hl),fun t _ ht=>getD_in (by simpa using ht) (getD_replicate_false _ _)⟩
 obtain ⟨dd,hch⟩:=h.ch (l.take n) 0 fr
 have HW:=ZHT (n:=n) (Lq:=fun f c=>WL P l.toArray Q (l.drop (n+1)) f (HH hp H c)) (md:=.any) (g:=l.toArray.size-(n+1)) (ow:=ow) (m:=n) (by simpa using how) hs hc hn (l.take n) 0 _ fr (fun j hj=>by
  have hj':j<n:=by rw [htl] at hj;exact hj
  simp [hj']) (by simpa using htl) inv0 (fun j hj=>by omega) (by rw [htl];exact hlex) hch
 have hx:Ext w { w with drawn:=w.drawn+1 }:=(Ext.refl w).drew
 refine wp_region_any hm ?_
 have:=ZCR (Q':=ZCE Q P0 B w0) (g:=l.toArray.size-(n+1)) _ _ _ none _ _ (hh.ext hx) (hf.ext hx) (fun listed fr' c a' w' hh' hf' hL=>by
  have:=wpAny_of_seq (md:=.any) (Q':=ZCE Q P0 B w0) (l.drop (n+1)) (n+1) listed a' w' (fun j=>by simp [List.getElem?_drop]) (by rw [hdl];exact hL.1) (hL.2.on hh' hf')
  rwa [hdl] at this) HW
 rw [htl,show n+1+(l.toArray.size-(n+1))=l.toArray.size by omega] at this
 exact this
end
section
variable {P:Program} {ops:Array Oper} {hp:List HObj} {fr:List Dat} {dst:Option Tmp} {ty:TypeId} {ps:String} {af:Array Edge} {t e:TypeId} {z:Value} {bytes:Nat} {ag:Bool} {gd:Option (Nat × Bool)}
abbrev ZS2 {α:Type} (v:Value) (xs:List α):Type:={p:Nat × Nat // v = .slice (some ⟨p.1,0,none⟩) xs.length p.2/\xs.length+1≤p.2} ⊕ Value
abbrev ZRI {α:Type} (R:Rel α) [Good R] (e:TypeId) (v:Value) (xs:List α) (y:α) (hp:List HObj):ZS2 v xs->List HObj
 | .inl p=>hQ p.1.1 (xs.length+1) p.1.2 e R (xs++[y])::hp
 | .inr v'=>Zr v' e R (xs++[y])::Zr v e R xs::hp
abbrev ZRH {α:Type} {v:Value} {xs:List α}:ZS2 v xs->Dat
 | .inl p=>dX (.slice (some ⟨p.1.1,0,none⟩) (xs.length+1) p.1.2)
 | .inr v'=>dX v'
theorem ZKM {s y:Operand} (E:ElT P t e 1 z bytes ag) {α:Type} {R:Rel α} {_gR:Good R} {v:Value} {xs:List α} {y0:α}
  (hw:WantS ops ⟨dst,.call { callee:=.builtin .append,args:=#[s,y],argTypes:=#[t,t] },ty,ps,af,gd⟩ fr true)
  (hs:OpD fr s (dX v)) (hy:OpD fr y (dS (Arr R) [y0])) (hby:0<bytes) (hlen:(xs.length+1)*bytes≤140737488355328) :
  SG P ops (Zr v e R xs::hp) (ZRI R e v xs y0 hp) (ZRH (v:=v) (xs:=xs)) ⟨dst,.call { callee:=.builtin .append,args:=#[s,y],argTypes:=#[t,t] },ty,ps,af,gd⟩ fr:=⟨hw,fun {P0 B w0 w a} hh ho K Q hk=>by
 obtain ⟨ad,cap0,hv0,c1,c2,c3⟩:=(hy.get (by simp [Op.operands,Call.operands]) ho:Arr R _ _ _ _)
 obtain ⟨yv,yb,yoff,hyr,hone,had,hyb,hyc⟩:=c3 0 (by simp)
 simp only [List.getElem_cons_zero] at hyr
 subst had
 have hse:a.eval s=v:=hs.get (by simp [Op.operands,Call.operands]) ho
 have hm:xs.length+1≤maxLen:=by
  have:(xs.length+1)*1≤(xs.length+1)*bytes:=Nat.mul_le_mul_left _ hby
  simp only [maxLen];omega
 have hcell:∀ j u,[yv][j]?=some u->w.cell? ((⟨yb,yoff,none⟩:Addr).add j)=some u:=fun j u hu=>by
  have hj:j=0:=by have:=(List.getElem?_eq_some_iff.1 hu).1;simpa using this
  subst hj
  cases hu
  rw [Addr.add_lit]
  exact hyc
 have hones:∀ u∈[yv],u.oneCell'=true:=fun u hu=>by rw [List.mem_singleton.1 hu];exact hone
 have hrun:∀ (v':Value) (w':World),(Builtin.append_ #[t,t] ty #[v,.slice (some ⟨yb,yoff,none⟩) 1 cap0]).run P w = .ok v' w'->(execOp a.eval ⟨dst,.call { callee:=.builtin .append,args:=#[s,y],argTypes:=#[t,t] },ty,ps,af,gd⟩).run P w = .ok (.value v') w':=fun v' w' hr=>by
  have hv1:a.eval y = .slice (some ⟨yb,yoff,none⟩) 1 cap0:=hv0
  unfold execOp
  simp only [resolve,invoke,builtin,List.map_toArray,List.map_cons,List.map_nil,hse,hv1,Sem.run_bind,Sem.run_pure,Result.andThen_ok,hr]
 obtain ⟨i0,hi,hz,hsz,hbt⟩:=info_parts E.info
 obtain ⟨us,u1,⟨u2,u3⟩,u4⟩:=(Zr v e R xs).bound (hh.ok (Zr v e R xs) (by simp))
 rcases u3 with ⟨hv,hz0⟩|⟨g,cap,cur,hv,hB,hg,hc1,hc2,hc3,hc4⟩
 ·have hx0:xs=[]:=by
   apply List.eq_nil_of_length_eq_zero
   omega
  subst hx0
  obtain ⟨v',w',hr,r1,r2,r3⟩:=ZCW (ty:=ty) E hh (ad:=⟨yb,yoff,none⟩) (c:=cap0) (ys:=[y0]) (news:=[yv]) rfl hcell hones (fun j h1 h2=>by
    have hj:j=0:=by simp at h1;omega
    subst hj
    exact hyr) (by simpa using hlen) (by simpa using hm)
  unfold Oper.wp
  rw [hrun _ _ hr]
  subst hv
  have h2:Hp P0 B w0 (Zr (.slice none 0 0) e R []::Zr v' e R ([]++[y0])::hp) w':=r1.push (Ext.refl _) (by simp [Zr,Value.ownBlock]) Own.nil
  obtain ⟨h3,hI⟩:=h2.perm (List.Perm.swap _ _ _)
  refine hk (.inr v') v' w' h3 (fun d u hd=>?_) rfl
  have h4:=Z6 (o:=Zr (.slice none 0 0) e R []) (hp:=Zr v' e R ([]++[y0])::hp) (Ext.refl w') (by simp [Zr,Value.ownBlock]) (ZY (o:=Zr (.slice none 0 0) e R []) (o':=Zr v' e R ([]++[y0])) r2 r3 hd)
  exact d.weak h4 fun k hk=>(hI k).1 hk
 ·subst hv
  rw [Nat.mul_one] at hc3 hc4
  have hlu:us.length=xs.length:=u1
  have hcl:xs.length≤cur.toList.length:=by simp;omega
  have hold:∀ j u,us[j]?=some u->w.cell? ((⟨g,0,none⟩:Addr).add j)=some u:=fun j u hj=>by
   have hlt:=(List.getElem?_eq_some_iff.1 hj).1
   rw [<- hc4,List.getElem?_take,if_pos (by omega)] at hj
   rw [Addr.add_lit,Nat.zero_add]
   simp only [World.cell?,hg]
   simpa using hj
  by_cases hroom:xs.length+1≤cap
  ·have hin:xs.length<cur.size:=by omega
   have hr:=run_append_room_cells (P:=P) w t ty e i0 E.und hi g 0 xs.length cap ⟨yb,yoff,none⟩ 1 cap0 [yv] (by simp [hsz]) hcell hones hroom (fun j hj=>by
    have hj0:j=0:=by simp at hj;omega
    subst hj0
    rw [hsz]
    simp [World.cell?,hg,hin]) (fun j hj=>by simp [World.frozen?,hg])
   rw [hsz,Nat.zero_add,Nat.mul_one] at hr
   unfold Oper.wp
   rw [hrun _ _ hr]
   have hgr:w.grownBy (w.setCells g xs.length [yv]) (some g):=ZGj
   have hsplit:cur=(cur.toList.take xs.length++(cur.toList.drop xs.length).take 1++cur.toList.drop (xs.length+1)).toArray:=by
    apply Array.ext'
    show cur.toList=_
    rw [List.append_assoc,<- List.drop_drop,List.take_append_drop,List.take_append_drop]
   have hg2:(w.setCells g xs.length [yv]).heap[g]?=some (.cells (cur.toList.take xs.length++[yv]++cur.toList.drop (xs.length+1)).toArray e (0,0)):=by
    have:=ZA9 (g:=g) (e:=e) (fz:=(0,0)) [yv] ((cur.toList.drop xs.length).take 1) (cur.toList.take xs.length) (cur.toList.drop (xs.length+1)) w (by simp;omega) (by rw [<- hsplit];exact hg)
    rwa [List.length_take,Nat.min_eq_left hcl] at this
   have hmv:∀ (u:Value) (q:α),R (fun j=>(Imm P0 B (Zr (.slice (some ⟨g,0,none⟩) xs.length cap) e R xs::hp) j/\j<w.heap.size)/\j≠g) w u q->R (fun j=>(Imm P0 B (Zr (.slice (some ⟨g,0,none⟩) xs.length cap) e R xs::hp) j/\j<w.heap.size)/\(Value.slice (some ⟨g,0,none⟩) (xs.length+1) cap).ownBlock≠some j) (w.setCells g xs.length [yv]) u q:=fun u q hq =>
    Good.weak (Good.move hq fun j hj hlt=>hgr.block j hlt fun he=>hj.2 (by cases he;rfl)) fun j hj=>⟨hj.1,fun he=>hj.2 (by cases he;rfl)⟩
   have hok:(hQ g (xs.length+1) cap e R (xs++[y0])).ok (fun j=>Imm P0 B (Zr (.slice (some ⟨g,0,none⟩) xs.length cap) e R xs::hp) j/\j<w.heap.size) (w.setCells g xs.length [yv]):=by
    have hl2:(us++[yv]).length=(xs++[y0]).length:=by rw [List.length_append,List.length_append,hlu];rfl
    refine ⟨us++[yv],hl2,⟨by rw [hl2,Nat.mul_one],.inr ⟨g,cap,_,by rw [List.length_append];rfl,Nat.zero_le _,hg2,by rw [List.length_append];exact hroom,hc2,?_,?_⟩⟩,fun j h1 h2=>?_⟩
    ·rw [List.size_toArray]
     simp only [List.length_append,List.length_take,List.length_drop,List.length_singleton,Array.length_toList]
     omega
    ·rw [Nat.mul_one,hc4,List.length_append,List.length_singleton,<- hlu]
     show ((us++[yv])++_).take _=_
     rw [List.take_left' (by simp)]
    ·by_cases hj:j<us.length
     ·rw [List.getElem_append_left hj,List.getElem_append_left (by omega)]
      obtain ⟨q1,q2⟩:=u4 j hj (by omega)
      exact ⟨q1,hmv _ _ (Good.weak q2 fun b hb=>⟨hb.1,fun he=>hb.2 (by rw [he];rfl)⟩)⟩
     ·have hj2:j=us.length:=by simp at h1;omega
      subst hj2
      rw [List.getElem_append_right (Nat.le_refl _),List.getElem_append_right (by omega)]
      simp only [Nat.sub_self,hlu,List.getElem_cons_zero]
      exact ⟨hone,hmv _ _ (Good.weak (Good.bound hyr) fun b hb=>⟨hb,fun he=>hb.1.2 (Zr (.slice (some ⟨g,0,none⟩) xs.length cap) e R xs) (by simp) (by rw [he];rfl)⟩)⟩
   exact hk (.inl ⟨(g,cap),rfl,hroom⟩) _ _ (hh.write hgr (.inl rfl) hok) (fun d u hd=>ZY (o:=Zr (.slice (some ⟨g,0,none⟩) xs.length cap) e R xs) (o':=hQ g (xs.length+1) cap e R (xs++[y0])) hgr (.inl rfl) hd) rfl
  ·obtain ⟨v',w',hr,r1,r2⟩:=run_append_arg_grows (P:=P) w t ty e i0 z 1 bytes E.und hi hz hsz hbt E.zs Nat.one_pos ⟨g,0,none⟩ xs.length cap us (by omega) hold ⟨yb,yoff,none⟩ 1 cap0 [yv] rfl hcell (by omega) hm hlen
   unfold Oper.wp
   rw [hrun _ _ hr]
   have hx2:Ext w w':=⟨r2.os,r2.tape,r2.output,r2.size,fun k hk=>r2.block k hk (by simp)⟩
   have hob:∀ k,(Zr v' e R (xs++[y0])).blk=some k->w.heap.size≤k/\k<w'.heap.size:=fun k hk=>r1.lt k hk
   have hok:(Zr v' e R (xs++[y0])).ok (fun k=>Imm P0 B (Zr (.slice (some ⟨g,0,none⟩) xs.length cap) e R xs::hp) k/\k<w.heap.size) w':=by
    have hl2:(xs++[y0]).length=xs.length+1:=by simp
    have hbk:∀ b,v'.ownBlock=some b->w.heap.size≤b:=fun b hb=>(hob b hb).1
    obtain ⟨q1,q2⟩:=r1
    refine ⟨us++[yv],by simp [hlu],⟨by rw [hl2];exact q1,?_⟩,fun j h1 h2=>?_⟩
    ·rw [hl2]
     rcases q2 with ⟨z1,z2⟩|⟨g',c',cur',z1,_,z3⟩
     ·exact .inl ⟨z1,z2⟩
     ·exact .inr ⟨g',c',cur',z1,Nat.zero_le _,z3⟩
    ·by_cases hj:j<us.length
     ·rw [List.getElem_append_left hj,List.getElem_append_left (by omega)]
      obtain ⟨p1,p2⟩:=u4 j hj (by omega)
      exact ⟨p1,Good.ext (R:=R) (Good.weak p2 fun b hb=>⟨hb.1,fun he=>Nat.lt_irrefl _ (Nat.lt_of_lt_of_le hb.1.2 (hbk b he))⟩) hx2⟩
     ·have hj2:j=us.length:=by simp at h1;omega
      subst hj2
      rw [List.getElem_append_right (Nat.le_refl _),List.getElem_append_right (by omega)]
      simp only [Nat.sub_self,hlu,List.getElem_cons_zero]
      exact ⟨hone,Good.ext (R:=R) (Good.weak (Good.bound hyr) fun b hb=>⟨hb,fun he=>Nat.lt_irrefl _ (Nat.lt_of_lt_of_le hb.2 (hbk b he))⟩) hx2⟩
   exact hk (.inr v') v' w' (hh.push hx2 hob hok) (fun d u hd=>Z6 (o:=Zr v' e R (xs++[y0])) hx2 (fun k hk=>(hob k hk).1) hd) rfl⟩
end
end
section
theorem ZDx {a:Nat} (h:a<9223372036854775808):(BitVec.ofInt 64 (a:Int)).toNat=a:=by
 rw [BitVec.ofInt_natCast,BitVec.toNat_ofNat]
 exact Nat.mod_eq_of_lt (by omega)
theorem ZEx {a:Nat} (h:a<9223372036854775808):IntKind.i64.wrap (a:Int)=(a:Int):=ZFN (by omega)
theorem ZEb {a b:Nat} (ha:a<9223372036854775808) (hb:b<9223372036854775808):ZKn (a:Int) (b:Int)=((a &&& b:Nat):Int):=by
 unfold ZKn
 rw [BitVec.toNat_and,ZDx ha,ZDx hb]
 exact ZEx (Nat.lt_of_le_of_lt Nat.and_le_left ha)
theorem or_lt {a b:Nat} (ha:a<9223372036854775808) (hb:b<9223372036854775808):a ||| b<9223372036854775808 :=
 Nat.or_lt_two_pow (n:=63) ha hb
theorem ZIC {a b:Nat} (ha:a<9223372036854775808) (hb:b<9223372036854775808):ior (a:Int) (b:Int)=((a ||| b:Nat):Int):=by
 unfold ior
 rw [BitVec.toNat_or,ZDx ha,ZDx hb]
 exact ZEx (or_lt ha hb)
theorem ZN6 (x y:BitVec 64):x &&& ~~~ y=x ^^^ (x &&& y):=by
 apply BitVec.eq_of_getLsbD_eq
 intro i hi
 simp only [BitVec.getLsbD_and,BitVec.getLsbD_not,BitVec.getLsbD_xor]
 cases x.getLsbD i <;> cases y.getLsbD i <;> simp [hi]
theorem ZJh {a b:Nat} (ha:a<9223372036854775808) (hb:b<9223372036854775808):ZDG (a:Int) (b:Int)=((a ^^^ (a &&& b):Nat):Int):=by
 unfold ZDG
 rw [ZN6,BitVec.toNat_xor,BitVec.toNat_and,ZDx ha,ZDx hb]
 exact ZEx (Nat.xor_lt_two_pow (n:=63) ha (Nat.lt_of_le_of_lt Nat.and_le_left ha))
theorem ZRw {a k:Nat} (hk:k≤64):ishr (a:Int) (k:Int)=((a >>> k:Nat):Int):=by
 unfold ishr
 rw [Int.toNat_natCast,Nat.min_eq_left hk,Nat.shiftRight_eq_div_pow]
 have:(2:Int) ^ k=((2 ^ k:Nat):Int):=by rw [Int.natCast_pow];rfl
 rw [this]
 exact Int.ofNat_fdiv a (2 ^ k) |>.symm
theorem ZO1 {n all rest b:Nat} (h1:all ||| rest=2 ^ n-1) (h2:all &&& rest=0) (hb:b<2 ^ n):b &&& rest=b↔all &&& b=0:=by
 have key:∀ i,(all.testBit i || rest.testBit i)=decide (i<n):=fun i=>by rw [<- Nat.testBit_or,h1,Nat.testBit_two_pow_sub_one]
 have dis:∀ i,(all.testBit i && rest.testBit i)=false:=fun i=>by rw [<- Nat.testBit_and,h2,Nat.zero_testBit]
 constructor
 ·intro h
  apply Nat.eq_of_testBit_eq
  intro i
  have e:=congrArg (fun x=>x.testBit i) h
  simp only [Nat.testBit_and] at e
  rw [Nat.testBit_and,Nat.zero_testBit]
  have d:=dis i
  cases ha:all.testBit i <;> cases hr:rest.testBit i <;> cases hbi:b.testBit i <;> simp_all
 ·intro h
  apply Nat.eq_of_testBit_eq
  intro i
  have e:=congrArg (fun x=>x.testBit i) h
  simp only [Nat.testBit_and,Nat.zero_testBit] at e
  rw [Nat.testBit_and]
  have k:=key i
  by_cases hi:i<n
  ·rw [decide_eq_true hi] at k
   cases ha:all.testBit i <;> cases hr:rest.testBit i <;> cases hbi:b.testBit i <;> simp_all
  ·have:b.testBit i=false:=Nat.testBit_lt_two_pow (Nat.lt_of_lt_of_le hb (Nat.pow_le_pow_right (by decide) (by omega)))
   rw [this];rfl
end
end Go.Proofs.YtekiljakcngcoaaGreatDoor
