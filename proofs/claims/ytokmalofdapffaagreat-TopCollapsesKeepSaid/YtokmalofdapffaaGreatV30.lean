/- Part 30: walks by contracts, and plain laws. -/
import Derived.Test.YtokmalofdapffaaGreatV28
set_option linter.unusedVariables false
set_option linter.unusedSimpArgs false
set_option linter.unusedSectionVars false
set_option maxRecDepth 100000
set_option maxHeartbeats 4000000
namespace Go.Proofs.YtokmalofdapffaaGreat
section
open Go.RowKit
def hKL {α:Type} (R:Rel α) [Good R] (M:List (Value × α)):HObj where
 blk:=none
 ok:=fun I w=>∀ p∈M,(dS R p.2).rd I w p.1
 weak:=fun h q p hp=>(dS R p.2).weak (h p hp) q
 bound:=fun h p hp=>(dS R p.2).bound (h p hp)
 move:=fun h hg hP _ p hp=>(dS R p.2).grown (h p hp) hg hP
section
variable {P:Program} {ops:Array Oper} {hp:List HObj} {o:Oper} {fr:List Dat} {d d2:Dat} {Q:ZAE} {rest:List Oper} {c:Code}
variable {dst:Option Tmp} {ty:TypeId} {ps:String} {af:Array Edge} {g:Option (Nat × Bool)} {t k e:TypeId} {z:Value} {K V α:Type} {kv:K->Value} {ok:K->Prop} {vv:V->Value} {b r:Nat} {m:List (K × V)} {R:Rel α}
theorem ZRN (s:Nat) (ht:fr[s]?=some d) (h:∀ v,WL P ops Q rest (fr.set s (dX v)) (ZAW v d::hp)):WL P ops Q rest fr hp:=WL.of fun P0 B w0 w a hh hf=>by
 have hg:(ZAW (a.tmps.getD s undef) d).blk=none:=rfl
 have hd:=hf.rd s d ht
 refine (h (a.tmps.getD s undef)).on (ZAz (l:=[]) hg hh hd) ⟨hf.defers,by rw [hf.size,List.length_set],fun t' d' hd'=>?_⟩
 by_cases htt:s=t'
 ·subst htt
  rw [List.getElem?_set] at hd'
  simp only [if_true] at hd'
  split at hd'
  ·cases hd';rfl
  ·cases hd'
 ·rw [List.getElem?_set_ne htt] at hd'
  exact d'.weak (hf.rd t' d' hd') fun k=>(ZAI hg [] k).2
theorem ZMP {gh:HObj} (hg:gh.blk=none) (ho:∀ I w,(∀ o∈hp,o.ok I w)->gh.ok I w) (h:WL P ops Q rest fr (gh::hp)):WL P ops Q rest fr hp:=WL.of fun _ _ _ _ _ hh hf =>
 h.on (ZAz (l:=[]) hg hh (ho _ _ fun o hm=>hh.ok o hm)) (hf.mono fun d _ hd=>d.weak hd fun k=>(ZAI hg [] k).2)
theorem ZML {gh:HObj} (hg:gh.blk=none) (ho:∀ I w,(∀ o∈hp,o.ok I w)->gh.ok I w) (h:WC P Q c fr (gh::hp)):WC P Q c fr hp:=WC.of fun _ _ _ _ _ hh hf =>
 h.on (ZAz (l:=[]) hg hh (ho _ _ fun o hm=>hh.ok o hm)) (hf.mono fun d _ hd=>d.weak hd fun k=>(ZAI hg [] k).2)
theorem ZGz {o:HObj} (h:WL P ops Q rest fr hp):WL P ops Q rest fr (o::hp):=WL.of fun _ _ _ _ _ hh hf=>h.on hh.drop (hf.mono fun d _ hd=>d.weak hd Imm.sub)
theorem ZO3 {o:HObj} (h:WC P Q c fr hp):WC P Q c fr (o::hp):=WC.of fun _ _ _ _ _ hh hf=>h.on hh.drop (hf.mono fun d _ hd=>d.weak hd Imm.sub)
section
variable [DecidableEq K] {M:List (K × Value × α)} {_gR:Good R}
theorem ZID {x y:Operand} {v:K} {p:Value × α} (T:MapT P t k e z) (H:KeyT P k kv ok) (hx:OpD fr x (dX (.map (some b)))) (hm:hM b kv (fun p:Value × α=>p.1) M∈hp) (hk:hKL R (M.map (·.2))∈hp) (hy:OpD fr y d) (hd:IsV d (kv v)) (ho:ok v) (hok:∀ p∈M,ok p.1) (hn:(M.map (·.1)).Nodup) (hl:Go.Proofs.YtokmalofdapffaaGreat.lookM M v=some p) (hp':p∈M.map (·.2)) :
  SY P ops hp ⟨dst,.lookup t x y true,ty,ps,af,g⟩ fr (dT [dS R p.2,dB true]):=ZAn fun {P0 B w0 w a} hh hon=>by
 have h1:a.eval x=_:=hx.get (by simp [Op.operands]) hon
 have h2:=hd.is _ _ _ (hy.get (by simp [Op.operands]) hon)
 have hr:=ZDZ T H hok hn ho (hh.ok _ hm) true
 rw [hl] at hr
 refine ⟨_,w,?_,Ext.refl _,[p.1,.bool true],rfl,rfl,fun i e x he hx=>?_⟩
 ·unfold execOp
  simp only [h1,h2,Sem.run_bind,hr,Result.andThen_ok,Sem.run_pure]
  rfl
 ·match i,he,hx with
  | 0,he,hx=>cases he;cases hx;exact hh.ok _ hk p hp'
  | 1,he,hx=>cases he;cases hx;rfl
theorem ZIC {x y:Operand} {v:K} (T:MapT P t k e z) (H:KeyT P k kv ok) (hx:OpD fr x (dX (.map (some b)))) (hm:hM b kv (fun p:Value × α=>p.1) M∈hp) (hy:OpD fr y d) (hd:IsV d (kv v)) (ho:ok v) (hok:∀ p∈M,ok p.1) (hn:(M.map (·.1)).Nodup) (hl:Go.Proofs.YtokmalofdapffaaGreat.lookM M v=none) :
  SY P ops hp ⟨dst,.lookup t x y true,ty,ps,af,g⟩ fr (dT [dX z,dB false]):=by
 have h:=ZFQ (P:=P) (ops:=ops) (dst:=dst) (ty:=ty) (ps:=ps) (af:=af) (g:=g) T H hx hm hy hd ho hok hn
 rw [hl] at h
 exact h
theorem ZMS {x y:Operand} {s:Nat} {v:K} {u:α} (T:MapT P t k e z) (H:KeyT P k kv ok) (hx:∀ q,OpD (fr.set s (dX q)) x (dX (.map (some b)))) (hy:∀ q,OpD (fr.set s (dX q)) y d) (hd:IsV d (kv v)) (hs:fr[s]?=some (dS R u)) (hc:∀ q,OpD (fr.set s (dX q)) (.tmp s) (dX q)) (ho:ok v) (hok:∀ p∈M,ok p.1) (hn:(M.map (·.1)).Nodup)
  (h:∀ q,WL P ops Q rest (ZB (fr.set s (dX q)) dst (dX undef)) (hM b kv (fun p:Value × α=>p.1) (ZDr M v (q,u))::hKL R ((ZDr M v (q,u)).map (·.2))::hp)) :
  WL P ops Q (⟨dst,.mapUpdate t x y (.tmp s),ty,ps,af,none⟩::rest) fr (hM b kv (fun p:Value × α=>p.1) M::hKL R (M.map (·.2))::hp):=by
 refine ZRN s hs fun q=>?_
 refine WL.perm (List.Perm.swap _ _ _) ?_
 refine ZDy (u:=(q,u)) T H (hx q) (hy q) hd (hc q) isX ho hok hn ?_
 refine ZMP (gh:=hKL R ((ZDr M v (q,u)).map (·.2))) rfl (fun I w hall=>?_) ?_
 ·have h1:(dS R u).rd I w q:=hall (ZAW q (dS R u)) (by simp)
  have h2:(hKL R (M.map (·.2))).ok I w:=hall _ (by simp)
  intro p hp
  obtain ⟨r,hr,rfl⟩:=List.mem_map.1 hp
  unfold ZDr at hr
  split at hr
  ·obtain ⟨r',hr',rfl⟩:=List.mem_map.1 hr
   split
   ·exact h1
   ·exact h2 _ (List.mem_map_of_mem hr')
  ·rcases List.mem_append.1 hr with hr|hr
   ·exact h2 _ (List.mem_map_of_mem hr)
   ·rw [List.mem_singleton.1 hr];exact h1
 ·refine WL.perm (List.Perm.swap _ _ _) ?_
  refine WL.perm (show List.Perm _ (ZAW q (dS R u)::hKL R (M.map (·.2))::hM b kv (fun p:Value × α=>p.1) (ZDr M v (q,u))::hKL R ((ZDr M v (q,u)).map (·.2))::hp) from ?_) (ZGz (ZGz (h q)))
  exact ((List.perm_append_comm (l₁:=[hM b kv (fun p:Value × α=>p.1) (ZDr M v (q,u)),hKL R ((ZDr M v (q,u)).map (·.2))]) (l₂:=[ZAW q (dS R u),hKL R (M.map (·.2))])).append_right hp)
theorem ZME {x:Operand} {seen:Array Nat} {j:Nat} (hx:OpD fr x (dX (.pointer (some ⟨r,0,none⟩)))) (hi:hIt b r M.length (seen.push j)∈hp) (hm:hM b kv (fun p:Value × α=>p.1) M∈hp) (hk:hKL R (M.map (·.2))∈hp) (hj:j<M.length) :
  SY P ops hp ⟨dst,.entry x,ty,ps,af,g⟩ fr (dT [dX (kv M[j].1),dS R M[j].2.2]):=SY.mk fun hh hon K Q hkk =>
 (ZMF (P:=P) (ops:=ops) (dst:=dst) (ty:=ty) (ps:=ps) (af:=af) (g:=g) (fr:=fr) hx hi hm hj).out hh hon K Q fun v w' hxt ⟨us,h3,h4,h5⟩=>hkk v w' hxt ⟨us,h3,h4,fun i e x he hx=>by
  match i,he,hx with
  | 0,he,hx=>exact h5 0 e x he hx
  | 1,he,hx =>
   cases he
   have h6:(dX M[j].2.1).rd _ w' x:=h5 1 (dX M[j].2.1) x rfl hx
   have h7:=(hh.ext hxt).ok _ hk M[j].2 (List.mem_map_of_mem (List.getElem_mem hj))
   have h8:x=M[j].2.1:=h6
   rw [h8];exact h7⟩
end
end
end
end Go.Proofs.YtokmalofdapffaaGreat
namespace Go.Proofs.YtokmalofdapffaaGreat.L05
section
def ZFr (m:List (Int × Ln)) (C:Nat):List Ln:=(List.range C).filterMap fun c:Nat=>ZCC m (c:Int)
theorem ZQI {C:Nat} {m:List (Int × Ln)} (G:Good05 C m) {l:Ln}:l∈ZFr m C↔∃ c,(c,l)∈m:=by
 unfold ZFr
 rw [List.mem_filterMap]
 constructor
 ·rintro ⟨c,_,h⟩
  exact ⟨_,lookP_some h⟩
 ·rintro ⟨c,h⟩
  have hh:=G.hd _ h
  have h1:=G.low _ h c (head_mem hh)
  have h2:=G.pos _ h c (head_mem hh)
  refine ⟨c.toNat,List.mem_range.2 (by omega),?_⟩
  have:=ZFp G.nd h
  rw [Int.toNat_of_nonneg h2]
  exact this
theorem ZQJ {C:Nat} {m:List (Int × Ln)} (G:Good05 C m):(ZFr m C).Pairwise fun a b=>hdI a.1<hdI b.1:=by
 unfold ZFr
 rw [List.pairwise_filterMap]
 refine List.pairwise_lt_range.imp fun {c d} h l hl l' hl'=>?_
 have h1:=G.hd _ (lookP_some hl)
 have h2:=G.hd _ (lookP_some hl')
 simp only at h1 h2
 simp only [hdI,h1,h2,Option.getD_some]
 omega
end
end Go.Proofs.YtokmalofdapffaaGreat.L05
namespace Go.Proofs.YtokmalofdapffaaGreat
section
open Go.RowKit
theorem ZHw:ElT Tryz.prog 64 27 1 (.slice none 0 0) 24 false:=⟨Tryz.underlying64,by kernel_rfl,Tryz.isAgg27,rfl⟩
theorem ZOk:ElT Tryz.prog 130 134 2 (.agg #[.slice none 0 0,.slice none 0 0]) 48 true:=⟨Tryz.underlying130,by kernel_rfl,Tryz.isAgg134,rfl⟩
theorem ZOp:TyI Tryz.prog 27 1 false:=⟨by kernel_rfl,Tryz.isAgg27⟩
theorem ZTJ:TyI Tryz.prog 64 1 false:=⟨by kernel_rfl,Tryz.isAgg64⟩
theorem ZLD:TyI Tryz.prog 134 2 true:=⟨by kernel_rfl,Tryz.isAgg134⟩
theorem ZOq:TyI Tryz.prog 158 1 false:=⟨by kernel_rfl,Tryz.isAgg158⟩
theorem ZJ0:TyI Tryz.prog 66 2 true:=⟨by kernel_rfl,Tryz.isAgg66⟩
theorem ZQl:TyZ Tryz.prog 134 (.agg #[.slice none 0 0,.slice none 0 0]):=⟨by kernel_rfl⟩
theorem tzQ3:TyZ Tryz.prog 158 (.map none):=⟨by kernel_rfl⟩
theorem ZRG:TyZ Tryz.prog 66 (.agg #[.int .i64 0,.slice none 0 0]):=⟨by kernel_rfl⟩
def ZBs (n:Int):Prop:=-9223372036854775808≤n/\n≤9223372036854775807
theorem wf64Q {n:Int} (h:ZBs n):(Lit.int .i64 n).wf=true:=by
 obtain ⟨h1,h2⟩:=h
 show (decide (IntKind.i64.min≤n) && decide (n≤IntKind.i64.max))=true
 have e1:IntKind.i64.min = -9223372036854775808:=by decide
 have e2:IntKind.i64.max=9223372036854775807:=by decide
 rw [e1,e2,decide_eq_true h1,decide_eq_true h2];rfl
abbrev kvQ:Int->Value:=fun n=>Value.int .i64 n
theorem ZD6:KeyT Tryz.prog 3 kvQ ZBs where
 law:=Go.Maps.int_keyed Tryz.underlying3
 lit:=fun n h=>⟨_,Go.Maps.keyOf_int_mk Tryz.underlying3 (wf64Q h)⟩
 inj:=fun x y _ _ h=>by injection h
theorem ZFq:MapT Tryz.prog 158 3 134 (.agg #[.slice none 0 0,.slice none 0 0]):=⟨Tryz.underlying158,fun w=>by kernel_rfl⟩
abbrev Mat:Rel (Int × List (List Int)):=R2 RI (Arr ZBk)
abbrev LnR:Rel (List Int × List Int):=R2 ZBk ZBk
theorem lnT:ColT Tryz.prog 134:=by
 constructor
 ·intro b off w;go_simp
 ·intro b off w;go_simp
 ·intro a n c a' n' c' w;go_simp
structure FldT (P:Program) (T:TypeId):Prop where
 fld0:∀ b off w,(Instr.fieldAt T (.pointer (some ⟨b,off,none⟩)) 0).run P w = .ok (.pointer (some ⟨b,off+0,none⟩)) w
 fld1:∀ b off w,(Instr.fieldAt T (.pointer (some ⟨b,off,none⟩)) 1).run P w = .ok (.pointer (some ⟨b,off+1,none⟩)) w
theorem ZRx:FldT Tryz.prog 66:=by
 constructor
 ·intro b off w;go_simp
 ·intro b off w;go_simp
theorem ZTG:StrT Tryz.prog 66 2:=⟨fun b off i w hi=>by
 match i,hi with
 | 0,_=>go_simp
 | 1,_=>go_simp⟩
section
variable {P:Program} {ops:Array Oper} {hp:List HObj} {fr:List Dat} {d:Dat} {Q:ZAE} {rest:List Oper}
variable {dst:Option Tmp} {ty:TypeId} {ps:String} {af:Array Edge} {g:Option (Nat × Bool)} {T:TypeId}
theorem ZE3 (V:FldT P T) {α β:Type} {R:Rel α} {S:Rel β} {_gR:Good R} {_gS:Good S} {x:Operand} {p:α × β} (hx:OpD fr x (dP 2 true (dS (R2 R S) p))):SY P ops hp ⟨dst,.fieldAddr T x 0,ty,ps,af,g⟩ fr (dP 1 false (dS R p.1)):=SY.val fun {I w a} ho=>by
 obtain ⟨b,off,u,h1,⟨hb,cs,k1,k0,k2,k3,k4⟩,v0,v1,hu,q0,q1,q2,q3⟩:=hx.get (by simp [Op.operands]) ho
 simp only [if_true] at k4
 rw [k4] at hu
 have hcs:cs=[v0,v1]:=by injection hu with hu;exact List.toArray_inj hu
 subst hcs
 refine ⟨_,?_,b,off+0,v0,rfl,⟨hb,[v0],rfl,Nat.one_pos,by simp [q0],fun j c hc=>?_,rfl⟩,q2⟩
 ·unfold execOp
  simp only [h1,Sem.run_bind,V.fld0,Result.andThen_ok,Sem.run_pure]
 ·have hj:j=0:=by have:=(List.getElem?_eq_some_iff.1 hc).1;simpa using this
  subst hj
  cases hc
  exact k3 0 _ rfl
theorem ZGt (V:FldT P T) {α β:Type} {R:Rel α} {S:Rel β} {_gR:Good R} {_gS:Good S} {x:Operand} {p:α × β} (hx:OpD fr x (dP 2 true (dS (R2 R S) p))):SY P ops hp ⟨dst,.fieldAddr T x 1,ty,ps,af,g⟩ fr (dP 1 false (dS S p.2)):=SY.val fun {I w a} ho=>by
 obtain ⟨b,off,u,h1,⟨hb,cs,k1,k0,k2,k3,k4⟩,v0,v1,hu,q0,q1,q2,q3⟩:=hx.get (by simp [Op.operands]) ho
 simp only [if_true] at k4
 rw [k4] at hu
 have hcs:cs=[v0,v1]:=by injection hu with hu;exact List.toArray_inj hu
 subst hcs
 refine ⟨_,?_,b,off+1,v1,rfl,⟨hb,[v1],rfl,Nat.one_pos,by simp [q1],fun j c hc=>?_,rfl⟩,q3⟩
 ·unfold execOp
  simp only [h1,Sem.run_bind,V.fld1,Result.andThen_ok,Sem.run_pure]
 ·have hj:j=0:=by have:=(List.getElem?_eq_some_iff.1 hc).1;simpa using this
  subst hj
  cases hc
  exact k3 1 _ rfl
theorem ZMK (V:ColT P T) {α β:Type} {R:Rel α} {S:Rel β} {_gR:Good R} {_gS:Good S} {x y:Operand} {xs:List α} {ys:List β} (hx:OpD fr x (dS (Arr R) xs)) (hy:OpD fr y (dS (Arr S) ys)):SY P ops hp ⟨dst,.build T #[(0,x),(1,y)],ty,ps,af,g⟩ fr (dS (R2 (Arr R) (Arr S)) (xs,ys)):=SY.val fun {I w a} ho=>by
 have h1:Arr R I w (a.eval x) xs:=hx.get (by simp [Op.operands]) ho
 have h2:Arr S I w (a.eval y) ys:=hy.get (by simp [Op.operands]) ho
 have h1':=h1
 have h2':=h2
 obtain ⟨ad,c,hv,_⟩:=h1'
 obtain ⟨ad',c',hv',_⟩:=h2'
 rw [hv] at h1
 rw [hv'] at h2
 refine ⟨.agg #[.slice ad xs.length c,.slice ad' ys.length c'],?_,_,_,rfl,rfl,rfl,h1,h2⟩
 unfold execOp
 simp only [List.map_toArray,List.map_cons,List.map_nil,hv,hv',Sem.run_bind,V.mkp,Result.andThen_ok,Sem.run_pure]
theorem ZAK {x i:Operand} {t e:TypeId} {z:Value} {bytes:Nat} (E:ElT P t e 1 z bytes false) {α:Type} {R:Rel α} {_gR:Good R} {xs:List α} {k:Nat} {v:α} (hk:k<xs.length) (hv:xs[k]=v) (hx:OpD fr x (dS (Arr R) xs)) (hi:OpD fr i (dI (k:Int))) :
  SY P ops hp ⟨dst,.indexAddr t x i,ty,ps,af,g⟩ fr (dP 1 false (dS R v)):=hv ▸ SY.ix E hx hi hk
theorem ZFR {x y:Operand} {t e:TypeId} {z:Value} {bytes:Nat} {ag:Bool} (E:ElT P t e 1 z bytes ag) {α:Type} {R:Rel α} {_gR:Good R} {a:α} {xs:List α} (hx:OpD fr x (dS (Arr R) (a::xs))) (hy:OpD fr y (dI 1)) :
  SY P ops hp ⟨dst,.slice t x (some y) none none,ty,ps,af,g⟩ fr (dS (Arr R) xs):=ZOy (_gR:=_gR) (xs:=a::xs) E hx hy 1 rfl (by simp)
theorem ZPD {α:Type} {R:Rel α} {_gR:Good R} {t e:TypeId} {bytes:Nat} {z:Value} {ag:Bool} {k:Nat} {j:Int} {y:Operand} (E:ElT P t e 1 z bytes ag) (hy:OpD fr y (dI j)) (hj:j=(k:Int)) (hb:bytes*k≤281474976710656) (hm:k≤maxLen) (h:∀ v,WL P ops Q rest (ZB fr dst (dX v)) (Zh v e R []::hp)) :
  WL P ops Q (⟨dst,.makeSlice t (.const (.int .i64 0)) y,ty,ps,af,none⟩::rest) fr hp:=by
 refine WL.of fun P0 B w0 w a hh hf=>?_
 have h1:a.eval y = .int .i64 k:=by rw [<- hj];exact hy.ev hf
 obtain ⟨i,hi,hz,hsz,hbt⟩:=info_parts E.info
 obtain ⟨w',hr,r1,r2⟩:=run_make_own (P:=P) w 0 t e i z 1 E.und hi hz hsz .i64 .i64 k (by rw [hbt];exact hb) hm (Nat.zero_le _)
 refine Zi rfl (v:=.slice (some ⟨w.heap.size,0,none⟩) 0 k) (w':=w') ?_ ?_
 ·unfold execOp
  have hc:a.eval (.const (.int .i64 0)) = .int .i64 0:=rfl
  simp only [h1,hc,Sem.run_bind,hr,Result.andThen_ok,Sem.run_pure]
 have hx:Ext w w':=⟨r2.os,r2.tape,r2.output,r2.size,fun k hk=>r2.block k hk (by simp)⟩
 have hb:∀ q,(Zh (.slice (some ⟨w.heap.size,0,none⟩) 0 k) e R ([]:List α)).blk=some q->w.heap.size≤q/\q<w'.heap.size:=fun q hq=>by
  cases hq
  exact ⟨Nat.le_refl _,(r1.lt _ rfl).2⟩
 refine (h _).on (hh.push hx hb ⟨[],rfl,r1,fun k a b=>absurd b (Nat.not_lt_zero _)⟩) ?_
 exact Fr.put (hf.mono fun d _ hd=>Z8 hx (fun k hk=>(hb k hk).1) hd) rfl
end
end
section
open Go.RowKit
open L05 (plus ZHb)



set_option maxHeartbeats 8000000 in
theorem ZHo (a b:List Int) (hl:a.length+b.length≤100000):Fn Tryz.prog 122 [dS ZBk a,dS ZBk b] (dS ZBk (plus a b)):=by
 have hk:(a.length:Int)+(b.length:Int)=((a.length+b.length:Nat):Int):=by omega
 (refine ZG Tryz.func122 rfl rfl ?_;simp only [Tryz.ntmps122,List.length_cons,List.length_nil,Nat.reduceAdd,Nat.reduceSub,List.replicate_succ,List.replicate_zero,List.cons_append,List.nil_append])
 (repeat' (first|((first|apply WL.opN|apply WD.opN);exact yF;dsimp only [ZB,z0,z1])|refine WL.nil ?_|refine ZA fun Kx hK=>?_|(refine hK _ _ ?_;clear hK)|refine WC.region ?_ |  (refine ZPD (R:=RI) (_gR:=inferInstance) (k:=a.length+b.length) elI (OpD.t rfl) hk (by omega) (by simp only [maxLen];omega) fun v=>?_;dsimp only [ZB,z0,z1])|((first|apply ZF|apply WD.op);(focus (first|exact wN|(apply SYG.yes;(exact wY);((first|((first|apply SY.add) <;> first|exact oD|omega)|(apply SY.len;(exact oD);(exact nD);(exact uD))|fail);all_goals infer_instance))));dsimp only [ZB,z0,z1])|refine WC.block ?_))
 all_goals try (exfalso;first|contradiction|omega)
 (refine ZH (X:=Value × List Int × List Int × List Int) (fun x=>[(0,dS ZBk x.2.2.1),(1,dS ZBk x.2.2.2),(5,dX x.1),(12,dA),(13,dA),(14,dA),(15,dA),(16,dA),(17,dA),(18,dA),(19,dA),(20,dA),(21,dA),(22,dA),(23,dA),(24,dA),(25,dA),(26,dA),(27,dA),(28,dA),(29,dA),(30,dA),(31,dA),(32,dA),(33,dA),(34,dA),(35,dA),(36,dA),(37,dA),(38,dA),(39,dA),(40,dA),(41,dA),(42,dA),(43,dA),(44,dA),(45,dA),(46,dA),(47,dA),(48,dA),(49,dA),(50,dA),(51,dA),(52,dA),(53,dA),(54,dA),(55,dA)]) (fun x=>[Zh x.1 3 RI x.2.1]) (fun x=>x.2.2.1.length+x.2.2.2.length) (fun x=>x.2.1.length+x.2.2.1.length+x.2.2.2.length≤a.length+b.length/\x.2.1++plus x.2.2.1 x.2.2.2=plus a b) (v,[],a,b) ?start ?frame0 ?objs0 ?round)
 case start=>exact ⟨by simp,rfl⟩
 case frame0=>((try dsimp only [ZQ,z0,z1]);repeat (first|exact LeF.nil|refine ZD (k:=?_)))
 case objs0=>rfl
 case round =>
  rintro ⟨vo,out,c,d⟩ ⟨h1,h2⟩
  simp only at h1 h2
  dsimp only [ZQ,z0,z1]
  have h8:(out.length+1)*8≤140737488355328:=by omega
  cases c with
  | nil =>
   have hd0:¬ (([]:List Int).length:Int)>0:=by simp
   have h9:(out.length+([]:List Int).length)*8≤140737488355328:=by simp;omega
   have h10:((out++([]:List Int)).length+d.length)*8≤140737488355328:=by simp at h1 ⊢;omega
   rw [L05.nil_plus] at h2
   have h11:out++[]++d=plus a b:=by rw [List.append_nil];exact h2
   ((repeat' (first|((first|apply WL.opN|apply WD.opN);exact yF;dsimp only [ZB,z0,z1])|refine WL.nil ?_|refine ZA fun Kx hK=>?_|(refine hK _ _ ?_;clear hK)|(refine Kont.skip ?_;clear hK)|refine WC.region ?_|((first|apply WL.appK|apply WL.app1);(exact eD);exact OpD.t rfl;(exact oD);decide;(exact lD);(intro _;dsimp only [ZB,z0,z1]);all_goals (try infer_instance))|((first|apply ZF|apply WD.op);(focus (first|exact wN|(apply SYG.yes;(exact wY);((first|((first|apply SY.move|apply SY.assign|apply SY.lss|apply SY.gtr) <;> (exact oD))|(apply SY.len;(exact oD);(exact nD);(exact uD))|(apply Zj;(exact oD);(with_reducible rfl);(exact oD))|fail);all_goals infer_instance))));dsimp only [ZB,z0,z1])|((first|refine ZM rfl rfl rfl (fun h=>?_) (fun h=>?_)|refine ZL rfl rfl rfl (fun h=>?_) (fun h=>?_)|refine ZK rfl rfl rfl (fun h=>?_) (fun h=>?_)|refine Zp rfl rfl rfl (fun h=>?_) (fun h=>?_)|refine Zo rfl rfl rfl (fun h=>?_) (fun h=>?_)|refine Zl rfl rfl rfl (fun h=>?_) (fun h=>?_)) <;> (first|(exfalso;first|omega|contradiction)|(dsimp only [z0,z1])))|(apply Za;(exact oD);(with_reducible rfl))|refine WC.ret ?_|refine WC.exit ?_));all_goals (first|((repeat clear hK);(repeat clear Kx))))
   all_goals try (exfalso;first|contradiction|omega)
   rw [h11]
   (refine ⟨trivial,_,rfl,?_⟩;exact fD)
  | cons x c =>
   have hc0:(((x::c).length:Nat):Int)>0:=by simp
   cases d with
   | nil =>
    have hd0:¬ (([]:List Int).length:Int)>0:=by simp
    rw [L05.plus_nil] at h2
    have h9:(out.length+(x::c).length)*8≤140737488355328:=by simp only [List.length_cons] at h1 ⊢;omega
    have h10:((out++(x::c)).length+([]:List Int).length)*8≤140737488355328:=by simp only [List.length_append,List.length_cons,List.length_nil] at h1 ⊢;omega
    have h11:out++(x::c)++[]=plus a b:=by rw [List.append_nil];exact h2
    ((repeat' (first|((first|apply WL.opN|apply WD.opN);exact yF;dsimp only [ZB,z0,z1])|refine WL.nil ?_|refine ZA fun Kx hK=>?_|(refine hK _ _ ?_;clear hK)|(refine Kont.skip ?_;clear hK)|refine WC.region ?_|((first|apply WL.appK|apply WL.app1);(exact eD);exact OpD.t rfl;(exact oD);decide;(exact lD);(intro _;dsimp only [ZB,z0,z1]);all_goals (try infer_instance))|((first|apply ZF|apply WD.op);(focus (first|exact wN|(apply SYG.yes;(exact wY);((first|((first|apply SY.move|apply SY.assign|apply SY.lss|apply SY.gtr) <;> (exact oD))|(apply SY.len;(exact oD);(exact nD);(exact uD))|(apply Zn;(exact oD);(with_reducible rfl);(exact oD))|fail);all_goals infer_instance))));dsimp only [ZB,z0,z1])|((first|refine ZM rfl rfl rfl (fun h=>?_) (fun h=>?_)|refine ZL rfl rfl rfl (fun h=>?_) (fun h=>?_)|refine ZK rfl rfl rfl (fun h=>?_) (fun h=>?_)|refine Zp rfl rfl rfl (fun h=>?_) (fun h=>?_)|refine Zo rfl rfl rfl (fun h=>?_) (fun h=>?_)|refine Zl rfl rfl rfl (fun h=>?_) (fun h=>?_)) <;> (first|(exfalso;first|omega|contradiction)|(dsimp only [z0,z1])))|(apply WC.condD;(exact oD);all_goals (intro h;try exact xD))|refine WC.ret ?_|refine WC.exit ?_));all_goals (first|((repeat clear hK);(repeat clear Kx))))
    all_goals try (exfalso;first|contradiction|omega)
    rw [h11]
    (refine ⟨trivial,_,rfl,?_⟩;exact fD)
   | cons y d =>
    have hd0:(((y::d).length:Nat):Int)>0:=by simp
    have k1:0<(x::c).length:=by simp
    have km1:(x::c).length=c.length+1:=rfl
    have km2:(y::d).length=d.length+1:=rfl
    have k2:0<(y::d).length:=by simp
    rw [L05.plus] at h2
    simp only [List.length_cons] at h1
    by_cases hxy:x<y
    ·rw [if_pos hxy] at h2
     ((repeat' (first |  (refine WC.drawM (fun _=>True) 9 1 [(0,false),(1,false),(2,false),(3,false),(4,false),(6,false),(7,false),(5,true),(8,false)] [true,true,true,true,true,true,true,true,true,false] (by kernel_rfl) (by kernel_rfl) (by kernel_rfl) rfl (trivial) ?_) |  (first|refine WA.one (S:=[true,true,true,true,true,true,true,true,true,false]) (i:=9) (by kernel_rfl) rfl ?_|refine WA.nil (S:=[true,true,true,true,true,true,true,true,true,true]) (by kernel_rfl) ?_) |  (refine ZAx rfl (SW.app1 elI (R:=RI) (_gR:=inferInstance) (OpD.t rfl) (OpD.t rfl) (by decide) h8) (fun _=>trivial) fun v2=>?_;dsimp only [ZB,z0,z1])|(refine WM.nil ?_)|(apply WM.readL rfl;(focus (intro c hcc;apply SYG.yes;(exact ZP rfl);((first|(exact ZAK (R:=RI) (_gR:=inferInstance) (k:=0) elI k1 rfl (OpD.t rfl) OpD.i)|(exact ZAK (R:=RI) (_gR:=inferInstance) (k:=0) elI k2 rfl (OpD.t rfl) OpD.i)|(exact ZFR (R:=RI) (_gR:=inferInstance) elI (OpD.t rfl) OpD.i)|((first|apply SY.move|apply SY.assign|apply SY.lss|apply SY.gtr) <;> (exact oD))|(apply SY.load;(exact tD);(exact oD))|(apply SY.build1';(exact eD);((try simp only [List.map_cons,List.map_nil]);(repeat (first|exact Zu|(apply Zt;(first|exact OpD.t rfl|exact OpD.i|exact OpD.b|exact OpD.tle rfl (by first|exact ZE|exact ZC (by decide))|exact ⟨ZE⟩|exact ⟨ZC (by decide)⟩)))));rfl;rfl;(intro _;first|exact ZAU|exact ZAc|exact ZAh|exact shape_B);(exact (by simp)))|fail);all_goals infer_instance)));dsimp only [ZB,z0,z1])|((first|apply WL.opN|apply WD.opN);exact yF;dsimp only [ZB,z0,z1])|refine WL.nil ?_|refine WD.nil ?_|refine ZA fun Kx hK=>?_|(refine hK _ _ ?_;clear hK)|refine WC.region ?_|(apply WC.draw;kernel_rfl;kernel_rfl)|((first|apply ZF|apply WD.op);(focus (first|exact wN|(apply SYG.yes;(exact wY);((first|(exact ZAK (R:=RI) (_gR:=inferInstance) (k:=0) elI k1 rfl (OpD.t rfl) OpD.i)|(exact ZAK (R:=RI) (_gR:=inferInstance) (k:=0) elI k2 rfl (OpD.t rfl) OpD.i)|((first|apply SY.move|apply SY.assign|apply SY.lss|apply SY.gtr) <;> (exact oD))|(apply SY.len;(exact oD);(exact nD);(exact uD))|(apply Zn;(exact oD);(with_reducible rfl);(exact oD))|fail);all_goals infer_instance))));dsimp only [ZB,z0,z1])|((first|refine ZM rfl rfl rfl (fun h=>?_) (fun h=>?_)|refine ZL rfl rfl rfl (fun h=>?_) (fun h=>?_)|refine ZK rfl rfl rfl (fun h=>?_) (fun h=>?_)|refine Zp rfl rfl rfl (fun h=>?_) (fun h=>?_)|refine Zo rfl rfl rfl (fun h=>?_) (fun h=>?_)|refine Zl rfl rfl rfl (fun h=>?_) (fun h=>?_)) <;> (first|(exfalso;first|omega|contradiction)|(dsimp only [z0,z1])))|(apply WC.condD;(exact oD);all_goals (intro h;try exact xD))|refine WC.skip ?_|refine WC.block ?_|refine ThenD.n ?_|refine InBlockD.n ?_));all_goals (first|((repeat clear hK);(repeat clear Kx))))
     all_goals try (exfalso;first|contradiction|omega)
     (refine ⟨(_,out++[x],c,y::d),?_,by first|omega|(simp only;omega),rfl,?_⟩;rotate_left;((try dsimp only [ZQ,z0,z1]);repeat (first|exact LeF.nil|refine ZD (k:=?_)));(try dsimp only))
     exact ⟨by simp;omega,by rw [List.append_assoc];exact h2⟩
    ·rw [if_neg hxy] at h2
     by_cases hyx:y<x
     ·rw [if_pos hyx] at h2
      have hgt:x>y:=hyx
      ((repeat' (first |  (refine WC.drawM (fun _=>True) 9 1 [(0,false),(1,false),(2,false),(3,false),(4,false),(6,false),(7,false),(5,true),(8,false)] [true,true,true,true,true,true,true,true,true,false] (by kernel_rfl) (by kernel_rfl) (by kernel_rfl) rfl (trivial) ?_) |  (first|refine WA.one (S:=[true,true,true,true,true,true,true,true,true,false]) (i:=9) (by kernel_rfl) rfl ?_|refine WA.nil (S:=[true,true,true,true,true,true,true,true,true,true]) (by kernel_rfl) ?_) |  (refine ZAx rfl (SW.app1 elI (R:=RI) (_gR:=inferInstance) (OpD.t rfl) (OpD.t rfl) (by decide) h8) (fun _=>trivial) fun v2=>?_;dsimp only [ZB,z0,z1])|(refine WM.nil ?_)|(apply WM.readL rfl;(focus (intro c hcc;apply SYG.yes;(exact ZP rfl);((first|(exact ZAK (R:=RI) (_gR:=inferInstance) (k:=0) elI k1 rfl (OpD.t rfl) OpD.i)|(exact ZAK (R:=RI) (_gR:=inferInstance) (k:=0) elI k2 rfl (OpD.t rfl) OpD.i)|(exact ZFR (R:=RI) (_gR:=inferInstance) elI (OpD.t rfl) OpD.i)|((first|apply SY.move|apply SY.assign|apply SY.lss|apply SY.gtr) <;> (exact oD))|(apply SY.load;(exact tD);(exact oD))|(apply SY.build1';(exact eD);((try simp only [List.map_cons,List.map_nil]);(repeat (first|exact Zu|(apply Zt;(first|exact OpD.t rfl|exact OpD.i|exact OpD.b|exact OpD.tle rfl (by first|exact ZE|exact ZC (by decide))|exact ⟨ZE⟩|exact ⟨ZC (by decide)⟩)))));rfl;rfl;(intro _;first|exact ZAU|exact ZAc|exact ZAh|exact shape_B);(exact (by simp)))|fail);all_goals infer_instance)));dsimp only [ZB,z0,z1])|((first|apply WL.opN|apply WD.opN);exact yF;dsimp only [ZB,z0,z1])|refine WL.nil ?_|refine WD.nil ?_|refine ZA fun Kx hK=>?_|(refine hK _ _ ?_;clear hK)|refine WC.region ?_|(apply WC.draw;kernel_rfl;kernel_rfl)|((first|apply ZF|apply WD.op);(focus (first|exact wN|(apply SYG.yes;(exact wY);((first|(exact ZAK (R:=RI) (_gR:=inferInstance) (k:=0) elI k1 rfl (OpD.t rfl) OpD.i)|(exact ZAK (R:=RI) (_gR:=inferInstance) (k:=0) elI k2 rfl (OpD.t rfl) OpD.i)|((first|apply SY.move|apply SY.assign|apply SY.lss|apply SY.gtr) <;> (exact oD))|(apply SY.len;(exact oD);(exact nD);(exact uD))|(apply Zn;(exact oD);(with_reducible rfl);(exact oD))|fail);all_goals infer_instance))));dsimp only [ZB,z0,z1])|((first|refine ZM rfl rfl rfl (fun h=>?_) (fun h=>?_)|refine ZL rfl rfl rfl (fun h=>?_) (fun h=>?_)|refine ZK rfl rfl rfl (fun h=>?_) (fun h=>?_)|refine Zp rfl rfl rfl (fun h=>?_) (fun h=>?_)|refine Zo rfl rfl rfl (fun h=>?_) (fun h=>?_)|refine Zl rfl rfl rfl (fun h=>?_) (fun h=>?_)) <;> (first|(exfalso;first|omega|contradiction)|(dsimp only [z0,z1])))|(apply WC.condD;(exact oD);all_goals (intro h;try exact xD))|refine WC.skip ?_|refine WC.block ?_|refine ThenD.n ?_|refine InBlockD.n ?_));all_goals (first|((repeat clear hK);(repeat clear Kx))))
      all_goals try (exfalso;first|contradiction|omega)
      (refine ⟨(_,out++[y],x::c,d),?_,by first|omega|(simp only;omega),rfl,?_⟩;rotate_left;((try dsimp only [ZQ,z0,z1]);repeat (first|exact LeF.nil|refine ZD (k:=?_)));(try dsimp only))
      exact ⟨by simp;omega,by rw [List.append_assoc];exact h2⟩
     ·rw [if_neg hyx] at h2
      have hgt:¬ x>y:=hyx
      ((repeat' (first|((first|apply WL.opN|apply WD.opN);exact yF;dsimp only [ZB,z0,z1])|refine WL.nil ?_|refine WD.nil ?_|refine ZA fun Kx hK=>?_|(refine hK _ _ ?_;clear hK)|refine WC.region ?_|(apply WC.draw;kernel_rfl;kernel_rfl)|((first|apply ZF|apply WD.op);(focus (first|exact wN|(apply SYG.yes;(exact wY);((first|(exact ZAK (R:=RI) (_gR:=inferInstance) (k:=0) elI k1 rfl (OpD.t rfl) OpD.i)|(exact ZAK (R:=RI) (_gR:=inferInstance) (k:=0) elI k2 rfl (OpD.t rfl) OpD.i)|(exact ZFR (R:=RI) (_gR:=inferInstance) elI (OpD.t rfl) OpD.i)|((first|apply SY.move|apply SY.assign|apply SY.lss|apply SY.gtr) <;> (exact oD))|(apply SY.len;(exact oD);(exact nD);(exact uD))|(apply Zn;(exact oD);(with_reducible rfl);(exact oD))|fail);all_goals infer_instance))));dsimp only [ZB,z0,z1])|((first|refine ZM rfl rfl rfl (fun h=>?_) (fun h=>?_)|refine ZL rfl rfl rfl (fun h=>?_) (fun h=>?_)|refine ZK rfl rfl rfl (fun h=>?_) (fun h=>?_)|refine Zp rfl rfl rfl (fun h=>?_) (fun h=>?_)|refine Zo rfl rfl rfl (fun h=>?_) (fun h=>?_)|refine Zl rfl rfl rfl (fun h=>?_) (fun h=>?_)) <;> (first|(exfalso;first|omega|contradiction)|(dsimp only [z0,z1])))|(apply WC.condD;(exact oD);all_goals (intro h;try exact xD))|refine WC.skip ?_|refine WC.block ?_|refine ThenD.n ?_|refine InBlockD.n ?_));all_goals (first|((repeat clear hK);(repeat clear Kx))))
      all_goals try (exfalso;first|contradiction|omega)
      (refine ⟨(_,out,c,d),?_,by first|omega|(simp only;omega),rfl,?_⟩;rotate_left;((try dsimp only [ZQ,z0,z1]);repeat (first|exact LeF.nil|refine ZD (k:=?_)));(try dsimp only))
      exact ⟨by omega,h2⟩
section
variable {P:Program} {ops:Array Oper} {hp:List HObj} {fr:List Dat} {dst:Option Tmp} {ty:TypeId} {ps:String} {af:Array Edge} {g:Option (Nat × Bool)} {T T2:TypeId} {x y:Operand} {p q c:Int}
theorem ZO2 (h:p-q=c) (hr : -9223372036854775808≤c/\c≤9223372036854775807) (hx:OpD fr x (dI p)) (hy:OpD fr y (dI q)):SY P ops hp ⟨dst,.binOp .sub T x y T2,ty,ps,af,g⟩ fr (dI c):=h ▸ SY.sub hx hy (h ▸ hr)
theorem ZJ4 (h:p+q=c) (hr : -9223372036854775808≤c/\c≤9223372036854775807) (hx:OpD fr x (dI p)) (hy:OpD fr y (dI q)):SY P ops hp ⟨dst,.binOp .add T x y T2,ty,ps,af,g⟩ fr (dI c):=h ▸ SY.add hx hy (h ▸ hr)
end
end
end Go.Proofs.YtokmalofdapffaaGreat
