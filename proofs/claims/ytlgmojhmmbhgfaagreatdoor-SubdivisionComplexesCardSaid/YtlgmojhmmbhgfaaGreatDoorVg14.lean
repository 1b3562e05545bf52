/- Part 14: walks by contracts, and plain laws. -/
import Derived.Test.YtlgmojhmmbhgfaaGreatDoorVg12
import Derived.Test.YtlgmojhmmbhgfaaGreatDoorVg13
set_option linter.unusedVariables false
set_option linter.unusedSimpArgs false
set_option linter.unusedSectionVars false
set_option maxRecDepth 100000
set_option maxHeartbeats 4000000
namespace Go.Proofs.YtlgmojhmmbhgfaaGreatDoor
section
open Go.RowKit
def ZAm {K α:Type} (R:Rel α) [Good R] (M:List (K × Value × α)):HObj where
 blk:=none
 ok:=fun I w=>∀ p∈M,R I w p.2.1 p.2.2
 weak:=fun h q p hp=>Good.weak (h p hp) q
 bound:=fun h p hp=>Good.bound (h p hp)
 move:=fun h hg hP _ p hp=>(dS R p.2.2).grown (h p hp) hg hP
abbrev hMC {K α:Type} (b:Nat) (kv:K->Value) (M:List (K × Value × α)):HObj:=hM b kv (fun u:Value × α=>u.1) M
theorem ZH5 {K V:Type} [DecidableEq K] {m:List (K × V)} {x:K} {v:V} {p:K × V} (h:p∈ZBy m x v):p=(x,v)\/p∈m:=by
 unfold ZBy at h
 split at h
 ·obtain ⟨q,hq,rfl⟩:=List.mem_map.1 h
  split
  ·exact .inl rfl
  ·exact .inr hq
 ·rcases List.mem_append.1 h with h|h
  ·exact .inr h
  ·exact .inl (List.mem_singleton.1 h)
theorem ZFK {K V:Type} [DecidableEq K] {m:List (K × V)} {x:K}:(lookM m x).isSome=true↔x∈m.map (·.1):=by
 unfold lookM
 rw [Option.isSome_map,List.find?_isSome]
 constructor
 ·rintro ⟨p,hp,he⟩
  exact List.mem_map.2 ⟨p,hp,of_decide_eq_true he⟩
 ·intro h
  obtain ⟨p,hp,he⟩:=List.mem_map.1 h
  exact ⟨p,hp,decide_eq_true he⟩
theorem ZOv {K V:Type} [DecidableEq K] (m:List (K × V)) (x:K) (v:V):(ZBy m x v).map (·.1)=if x∈m.map (·.1) then m.map (·.1) else m.map (·.1)++[x]:=by
 unfold ZBy
 by_cases h:x∈m.map (·.1)
 ·rw [if_pos (ZFK.2 h),if_pos h,List.map_map]
  refine List.map_congr_left fun p _=>?_
  show (if p.1=x then (x,v) else p).1=p.1
  split
  ·rename_i e;exact e.symm
  ·rfl
 ·rw [if_neg fun q=>h (ZFK.1 q),if_neg h,List.map_append]
  rfl
section
variable {P:Program} {ops:Array Oper} {hp:List HObj} {fr:List Dat} {d:Dat} {Q:ZAL} {rest:List Oper}
variable {dst:Option Tmp} {ty:TypeId} {ps:String} {af:Array Edge} {g:Option (Nat × Bool)} {t k e:TypeId} {z:Value} {K α:Type} [DecidableEq K] {kv:K->Value} {ok:K->Prop} {R:Rel α} [Good R] {b:Nat} {M:List (K × Value × α)}
theorem ZBk {x:Operand} {ad:Addr} (hx:OpD fr x (dX (.pointer (some ad)))):SY P ops hp ⟨dst,.nilCheck x,ty,ps,af,g⟩ fr (dX (.pointer (some ad))):=SY.val fun {I w a} ho=>by
 have h1:a.eval x = .pointer (some ad):=hx.get (by simp [Op.operands]) ho
 refine ⟨.pointer (some ad),?_,rfl⟩
 unfold execOp
 simp only [h1,Sem.run_pure]
theorem ZKb {P0:Nat->Prop} {B:Nat} {w0 w:World} {v:K} {u:α} {cv:Value} (hh:Hp P0 B w0 (hMC b kv M::ZAm R M::hp) w) (hu:R (Imm P0 B (hMC b kv M::ZAm R M::hp)) w cv u) :
  Hp P0 B w0 (hMC b kv (ZBy M v (cv,u))::ZAm R (ZBy M v (cv,u))::hp) (w.putObj b (ZAM (ZAR kv (fun u:Value × α=>u.1) (ZBy M v (cv,u))))) /\
   ∀ (d:Dat) (y:Value),d.rd (Imm P0 B (hMC b kv M::ZAm R M::hp)) w y->d.rd (Imm P0 B (hMC b kv (ZBy M v (cv,u))::ZAm R (ZBy M v (cv,u))::hp)) (w.putObj b (ZAM (ZAR kv (fun u:Value × α=>u.1) (ZBy M v (cv,u))))) y:=by
 have h1:Hp P0 B w0 (hMC b kv (ZBy M v (cv,u))::ZAm R M::hp) (w.putObj b (ZAM (ZAR kv (fun u:Value × α=>u.1) (ZBy M v (cv,u))))):=Hp.putObj hh
 have hg:(ZAm R (ZBy M v (cv,u))).blk=none:=rfl
 have hg0:(ZAm R M).blk=none:=rfl
 have hrd:∀ (d:Dat) (y:Value),d.rd (Imm P0 B (hMC b kv M::ZAm R M::hp)) w y->d.rd (Imm P0 B ([hMC b kv (ZBy M v (cv,u))]++ZAm R M::hp)) (w.putObj b (ZAM (ZAR kv (fun u:Value × α=>u.1) (ZBy M v (cv,u))))) y:=fun d y hd=>ZAg hd
 have hv:(ZAm R (ZBy M v (cv,u))).ok (Imm P0 B ([hMC b kv (ZBy M v (cv,u))]++ZAm R M::hp)) (w.putObj b (ZAM (ZAR kv (fun u:Value × α=>u.1) (ZBy M v (cv,u))))):=fun p hp=>by
  rcases ZH5 hp with rfl|hp
  ·exact hrd (dS R u) cv hu
  ·exact h1.ok (ZAm R M) (by simp) p hp
 have h2:=ZBB (l:=[hMC b kv (ZBy M v (cv,u))]) hg h1 hv
 obtain ⟨h3,hI3⟩:=h2.perm (show ([hMC b kv (ZBy M v (cv,u))]++ZAm R (ZBy M v (cv,u))::ZAm R M::hp).Perm (ZAm R M::hMC b kv (ZBy M v (cv,u))::ZAm R (ZBy M v (cv,u))::hp) from
  ((List.Perm.cons _ (List.Perm.swap _ _ _)).trans (List.Perm.swap _ _ _)))
 refine ⟨h3.drop,fun d y hd=>?_⟩
 have h4:=hrd d y hd
 exact d.weak h4 fun k hk=>(Zx hg0 [hMC b kv (ZBy M v (cv,u)),ZAm R (ZBy M v (cv,u))] k).1 ((Zx hg [hMC b kv (ZBy M v (cv,u))] k).2 hk)
theorem ZJV {x y c:Operand} {v:K} {u:α} {w:World} {a:Act} (T:MapT P t k e z) (H:KeyT P k kv ok) (h1:a.eval x = .map (some b)) (h2:a.eval y=kv v) (ho:ok v) (hok:∀ p∈M,ok p.1) (hn:(M.map (·.1)).Nodup) (hb:w.heap[b]?=some (ZAM (ZAR kv (fun u:Value × α=>u.1) M))) :
  (execOp a.eval ⟨dst,.mapUpdate t x y c,ty,ps,af,g⟩).run P w = .ok .skip (w.putObj b (ZAM (ZAR kv (fun u:Value × α=>u.1) (ZBy M v (a.eval c,u))))):=by
 have h3:=ZHD (vv:=fun u:Value × α=>u.1) T H hok hn ho (a.eval c,u) hb
 simp only at h3
 unfold execOp
 simp only [h1,h2,Sem.run_bind,h3,Result.andThen_ok,Sem.run_pure]
 rfl
theorem ZHR {x y c:Operand} {v:K} {u:α} (T:MapT P t k e z) (H:KeyT P k kv ok) (hx:OpD fr x (dX (.map (some b)))) (hy:OpD fr y d) (hd:IsV d (kv v)) (hc:OpD fr c (dS R u)) (ho:ok v) (hok:∀ p∈M,ok p.1) (hn:(M.map (·.1)).Nodup)
  (h:∀ cv,WL P ops Q rest (ZB fr dst (dX undef)) (hMC b kv (ZBy M v (cv,u))::ZAm R (ZBy M v (cv,u))::hp)) :
  WL P ops Q (⟨dst,.mapUpdate t x y c,ty,ps,af,none⟩::rest) fr (hMC b kv M::ZAm R M::hp):=by
 refine WL.of fun P0 B w0 w a hh hf=>?_
 have hrun:=ZJV (dst:=dst) (ty:=ty) (ps:=ps) (af:=af) (g:=none) (c:=c) (u:=u) T H (hx.ev hf) (hd.is _ _ _ (hy.ev hf)) ho hok hn (hh.ok (hMC b kv M) (by simp))
 obtain ⟨h1,h2⟩:=ZKb (v:=v) hh (hc.ev hf)
 refine wpList_plain rfl fun K hK=>?_
 unfold Oper.wp
 rw [hrun]
 exact hK _ _ ((h _).on h1 (Fr.put (hf.mono h2) (d:=dX undef) rfl))
theorem I.ZHR {x y c:Operand} {v:K} {u:α} (T:MapT P t k e z) (H:KeyT P k kv ok) (hx:OpD fr x (dX (.map (some b)))) (hy:OpD fr y d) (hd:IsV d (kv v)) (hc:OpD fr c (dS R u)) (ho:ok v) (hok:∀ p∈M,ok p.1) (hn:(M.map (·.1)).Nodup)
  (h:∀ cv,I.WL P ops Q rest (ZB fr dst (dX undef)) (hMC b kv (ZBy M v (cv,u))::ZAm R (ZBy M v (cv,u))::hp)) :
  I.WL P ops Q (⟨dst,.mapUpdate t x y c,ty,ps,af,none⟩::rest) fr (hMC b kv M::ZAm R M::hp):=by
 refine I.WL.of fun P0 B w0 w a hh hf=>?_
 have hrun:=ZJV (dst:=dst) (ty:=ty) (ps:=ps) (af:=af) (g:=none) (c:=c) (u:=u) T H (hx.ev hf) (hd.is _ _ _ (hy.ev hf)) ho hok hn (hh.ok (hMC b kv M) (by simp))
 obtain ⟨h1,h2⟩:=ZKb (v:=v) hh (hc.ev hf)
 refine ZAc rfl fun K hK=>?_
 unfold Oper.wp
 rw [hrun]
 exact hK _ _ ((h _).on h1 (Fr.put (hf.mono h2) (d:=dX undef) rfl))
theorem ZIW {x y:Operand} {v:K} (T:MapT P t k e z) (H:KeyT P k kv ok) (hx:OpD fr x (dX (.map (some b)))) (hm:hMC b kv M∈hp) (hv:ZAm R M∈hp) (hy:OpD fr y d) (hd:IsV d (kv v)) (ho:ok v) (hok:∀ p∈M,ok p.1) (hn:(M.map (·.1)).Nodup) {cv:Value} {u:α} (hl:(v,cv,u)∈M) :
  SY P ops hp ⟨dst,.lookup t x y false,ty,ps,af,g⟩ fr (dS R u):=ZAO fun {P0 B w0 w a} hh hon=>by
 have h1:a.eval x=_:=hx.get (by simp [Op.operands]) hon
 have h2:=hd.is _ _ _ (hy.get (by simp [Op.operands]) hon)
 have h3:Go.Proofs.YtlgmojhmmbhgfaaGreatDoor.lookM M v=some (cv,u):=by
  obtain ⟨j,hj,he⟩:=List.getElem_of_mem hl
  have:=Go.Proofs.YtlgmojhmmbhgfaaGreatDoor.lookM_some hn hj
  rw [he] at this
  exact this
 refine ⟨cv,w,?_,Ext.refl _,hh.ok _ hv _ hl⟩
 unfold execOp
 simp only [h1,h2,Sem.run_bind,ZDq T H hok hn ho (hh.ok _ hm) false,h3,Result.andThen_ok,Sem.run_pure]
 rfl
theorem ZMz (t:Nat) (ht:fr[t]?=some d) (h:∀ v,WL P ops Q rest (fr.set t (dX v)) (ZAC v d::hp)):WL P ops Q rest fr hp:=WL.of fun P0 B w0 w a hh hf=>by
 have hg:(ZAC (a.tmps.getD t undef) d).blk=none:=rfl
 have hd:=hf.rd t d ht
 refine (h (a.tmps.getD t undef)).on (ZBB (l:=[]) hg hh hd) ⟨hf.defers,by rw [hf.size,List.length_set],fun t' d' hd'=>?_⟩
 by_cases htt:t=t'
 ·subst htt
  rw [List.getElem?_set] at hd'
  simp only [if_true] at hd'
  split at hd'
  ·cases hd';rfl
  ·cases hd'
 ·rw [List.getElem?_set_ne htt] at hd'
  exact d'.weak (hf.rd t' d' hd') fun k=>(Zx hg [] k).2
end
namespace I
section
variable {P:Program} {ops:Array Oper} {hp:List HObj} {fr:List Dat} {d e:Dat} {Q:ZAL} {rest:List Oper}
variable {dst:Option Tmp} {ty:TypeId} {ps:String} {af:Array Edge} {g:Option (Nat × Bool)} {T T1 T2:TypeId} {b off k n:Nat} {ds ds':List Dat}
theorem Z1 {t:Nat} {x:Operand} (T':TyI P T1 1 false) (hp0:OpD fr (.tmp t) (dX (.pointer (some ⟨b,k,none⟩)))) (hx:OpD fr x d) (hs:d.Shape 1 false) (hk:k<ds.length)
  (h:WL P ops Q rest (ZB fr dst (dX undef)) (Zp b T2 (ds.set k d)::hp)) :
  WL P ops Q (⟨dst,.store T1 (.tmp t) x,ty,ps,af,none⟩::rest) fr (Zp b T2 ds::hp):=by
 refine WL.of fun P0 B w0 w a hh hf=>?_
 obtain ⟨cs,c1,c2,c3,c4⟩:=hh.ok (Zp b T2 ds) (by simp)
 have h1:a.eval (.tmp t)=_:=hp0.ev hf
 have hd:d.rd (Imm P0 B (Zp b T2 ds::hp)) w (a.eval x):=hx.ev hf
 obtain ⟨us,u1,u0,u2,u3,u4⟩:=hs _ _ _ hd
 obtain ⟨u,rfl⟩:∃ u,us=[u]:=List.length_eq_one_iff.1 u1
 have hu:a.eval x=u:=by
  simp only [Bool.false_eq_true,if_false] at u4
  exact (List.cons.inj u4).1.symm
 have hone:u.oneCell'=true:=u2 u (by simp)
 have hdu:d.rd (Imm P0 B (Zp b T2 ds::hp)) w u:=by rw [hu] at hd;exact hd
 have hkc:k<cs.length:=by omega
 have hset:=setCell_eq_setRow w b k cs.toArray T2 (0,0) u c1
 have hc:w.cell? ⟨b,k,none⟩=some cs[k]:=by simp [World.cell?,c1,hkc]
 have hfz:w.frozen? ⟨b,k,none⟩=false:=by simp [World.frozen?,c1]
 have hst:(store ((⟨b,k,none⟩:Addr).add 0) u).run P w = .ok () (w.setCell ⟨b,k,none⟩ u):=by
  rw [show ((⟨b,k,none⟩:Addr).add 0)=⟨b,k,none⟩ from rfl,run_store P w _ u _ hone,hc]
  simp [hfz]
 have hsz:(sizeOf T1).run P w = .ok 1 w:=by
  have h5:=T'.size
  cases hq:P.info? T1 with
  | none=>rw [hq] at h5;cases h5
  | some i =>
   rw [hq] at h5
   have:i.size=1:=by simpa using h5
   rw [<- this]
   rw [run_sizeOf w hq]
   simp [Program.cellsOf,hq]
 have hw:w.setCell ⟨b,k,none⟩ u=w.setRow b (cs.set k u).toArray:=by rw [hset];simp
 have hrun:(execOp a.eval ⟨dst,.store T1 (.tmp t) x,ty,ps,af,none⟩).run P w = .ok .skip (w.setRow b (cs.set k u).toArray):=by
  rw [<- hw]
  unfold execOp
  simp only [h1,hu,Instr.storeAt,Instr.sureAddr,storeVar,Sem.run_bind,hsz,Result.andThen_ok,Sem.run_pure]
  simp [ZB9 hone,storeCells,hst]
 refine ZAc rfl fun K hK=>?_
 unfold Oper.wp
 rw [hrun]
 have hgr:w.grownBy (w.setRow b (cs.set k u).toArray) (Zp b T2 ds).blk:=ZAj
 have hok:(Zp b T2 (ds.set k d)).ok (fun j=>Imm P0 B (Zp b T2 ds::hp) j/\j<w.heap.size) (w.setRow b (cs.set k u).toArray):=by
  refine ⟨cs.set k u,setRow_heap w b _ _ _ _ c1,by simp [c2],fun c hc=>?_,fun j c e hc he=>?_⟩
  ·rcases List.mem_or_eq_of_mem_set hc with hc|rfl
   ·exact c3 c hc
   ·exact hone
  ·rw [List.getElem?_set] at hc he
   by_cases hjk:k=j
   ·rw [if_pos hjk,if_pos (by omega)] at hc he
    cases hc;cases he
    exact d.grown (d.bound hdu) hgr fun j q hj=>hj.1.2 (Zp b T2 ds) (by simp) q
   ·rw [if_neg hjk] at hc he
    exact e.grown (e.bound (c4 j c e hc he)) hgr fun j q hj=>hj.1.2 (Zp b T2 ds) (by simp) q
 exact hK _ _ (h.on (hh.write hgr (.inl rfl) hok) (Fr.put (hf.mono fun _ _ hd=>ZM (o':=Zp b T2 (ds.set k d)) hgr (.inl rfl) hd) (d:=dX undef) rfl))
end
end I
end
section
open Go.RowKit
section
variable {P:Program} {ops:Array Oper} {hp:List HObj} {o:Oper} {fr:List Dat} {d:Dat} {Q:ZAL} {rest:List Oper}
variable {dst:Option Tmp} {ty:TypeId} {ps:String} {af:Array Edge} {g:Option (Nat × Bool)} {e e' t T:TypeId} {bytes b cap N:Nat} {z:Value} {ag:Bool} {α:Type} {R:Rel α} {_gR:Good R} {xs:List α} {v:Value}
abbrev hQ (b N cap:Nat) (e:TypeId) (R:Rel α) [Good R] (xs:List α):HObj:=ZW (.slice (some ⟨b,0,none⟩) N cap) e R xs
theorem ZKj {c:Code} {v:Value} (hne:0<xs.length) (h:∀ b cap,v = .slice (some ⟨b,0,none⟩) xs.length cap->xs.length≤cap->cap≤maxLen->WC P Q c fr (ZW v e R xs::hp)):WC P Q c fr (ZW v e R xs::hp):=WC.of fun P0 B w0 w a hh hf=>by
 obtain ⟨us,h1,⟨h2,h3⟩,h4⟩:=hh.ok (ZW v e R xs) (by simp)
 rcases h3 with ⟨_,hz⟩|⟨g,cap,cur,hv,hB,hg,hc1,hc2,hc3,hc4⟩
 ·omega
 ·exact (h g cap hv hc1 hc2).on hh hf
theorem ZIU {x i:Operand} {n m off k:Nat} {j:Int} (E:ElT P t e 1 z bytes ag) (hx:OpD fr x (dX (.slice (some ⟨b,off,none⟩) n m))) (hi:OpD fr i (dI j)) (hj:j=(k:Int)) (hk:k<n) :
  SY P ops hp ⟨dst,.indexAddr t x i,ty,ps,af,g⟩ fr (dX (.pointer (some ⟨b,off+k,none⟩))):=SY.val fun {I w a} ho=>by
 have h1:a.eval x=_:=hx.get (by simp [Op.operands]) ho
 have h2:a.eval i=_:=hi.get (by simp [Op.operands]) ho
 refine ⟨.pointer (some ⟨b,off+k*1,none⟩),?_,by rw [Nat.mul_one];rfl⟩
 unfold execOp
 simp only [h1,h2,hj,Sem.run_bind,ZBO (w:=w) E b off n m k .i64 hk,Result.andThen_ok,Sem.run_pure]
theorem ZFV {x:Operand} {j k:Nat} (T':TyI P T 1 false) (hx:OpD fr x (dX (.pointer (some ⟨b,j,none⟩)))) (hm:hQ b N cap e' R xs∈hp) (hj:j=k) (hk:k<xs.length) :
  SY P ops hp ⟨dst,.load T x,ty,ps,af,g⟩ fr (dS R xs[k]):=by
 subst hj
 exact ZKg T' hx hm hk
theorem ZM1 {p:Tmp} {x:Operand} {j k:Nat} {y:α} (T':TyI P T 1 false) (hp0:OpD fr (.tmp p) (dX (.pointer (some ⟨b,j,none⟩)))) (hx:OpD fr x (dS R y)) (hs:(dS R y).Shape 1 false) (hj:j=k) (hk:k<xs.length)
  (h:WL P ops Q rest (ZB fr dst dA) (hQ b N cap e R (xs.set k y)::hp)):WL P ops Q (⟨dst,.store T (.tmp p) x,ty,ps,af,none⟩::rest) fr (hQ b N cap e R xs::hp):=by
 subst hj
 exact ZEN T' hp0 hx hs hk h
theorem SY.fromQ {x y:Operand} {off n m l:Nat} {j:Int} (E:ElT P t e 1 z bytes ag) (hx:OpD fr x (dX (.slice (some ⟨b,off,none⟩) n m))) (hy:OpD fr y (dI j)) (hj:j=(l:Int)) (hl:l<n) (hm:n≤m) :
  SY P ops hp ⟨dst,.slice t x (some y) none none,ty,ps,af,g⟩ fr (dX (.slice (some ⟨b,off+l,none⟩) (n-l) (m-l))):=SY.val fun {I w a} ho=>by
 have h1:a.eval x=_:=hx.get (by simp [Op.operands]) ho
 have h2:a.eval y=_:=hy.get (by simp [Op.operands]) ho
 refine ⟨_,?_,rfl⟩
 have hr:=ZDP (w:=w) (ad:=some ⟨b,off,none⟩) (len:=n) (cap:=m) (lo:=some (.int .i64 (l:Int))) (hi:=none) (l:=l) (h:=n) E (.inr ⟨_,rfl⟩) (.inl ⟨rfl,rfl⟩) (by omega) hm
 rw [if_neg (by omega)] at hr
 unfold execOp
 simp only [h1,h2,hj,Option.map_none,Option.map_some,Sem.run_bind,hr,Result.andThen_ok,Sem.run_pure]
 simp [Addr.add_lit]
theorem SY.uptoQ {x y:Operand} {off n m l:Nat} {j:Int} (E:ElT P t e 1 z bytes ag) (hx:OpD fr x (dX (.slice (some ⟨b,off,none⟩) n m))) (hy:OpD fr y (dI j)) (hj:j=(l:Int)) (hl:l≤n) (hm:n≤m) (h0:0<m) :
  SY P ops hp ⟨dst,.slice t x none (some y) none,ty,ps,af,g⟩ fr (dX (.slice (some ⟨b,off,none⟩) l m)):=SY.val fun {I w a} ho=>by
 have h1:a.eval x=_:=hx.get (by simp [Op.operands]) ho
 have h2:a.eval y=_:=hy.get (by simp [Op.operands]) ho
 refine ⟨_,?_,rfl⟩
 have hr:=ZDP (w:=w) (ad:=some ⟨b,off,none⟩) (len:=n) (cap:=m) (lo:=none) (hi:=some (.int .i64 (l:Int))) (l:=0) (h:=l) E (.inl ⟨rfl,rfl⟩) (.inr ⟨_,rfl⟩) (by omega) (by omega)
 rw [if_neg (by omega)] at hr
 unfold execOp
 simp only [h1,h2,hj,Option.map_none,Option.map_some,Sem.run_bind,hr,Result.andThen_ok,Sem.run_pure]
 simp [Addr.add_lit]
theorem ZMw {k:Nat} (hk:k≤xs.length) (h:WL P ops Q rest fr (hQ b k cap e R (xs.take k)::hp)):WL P ops Q rest fr (hQ b N cap e R xs::hp):=WL.of fun P0 B w0 w a hh hf=>by
 obtain ⟨us,h1,⟨h2,h3⟩,h4⟩:=(hQ b N cap e R xs).bound (hh.ok (hQ b N cap e R xs) (by simp))
 have hgr:w.grownBy w (hQ b N cap e R xs).blk:=⟨rfl,rfl,rfl,Nat.le_refl _,fun _ _ _=>rfl⟩
 have hok:(hQ b k cap e R (xs.take k)).ok (fun j=>Imm P0 B (hQ b N cap e R xs::hp) j/\j<w.heap.size) w:=by
  rcases h3 with ⟨hc,_⟩|⟨g,cap',cur,hv,hB,hg,hc1,hc2,hc3,hc4⟩
  ·cases hc
  ·cases hv
   refine ⟨us.take k,by simp [h1],⟨by simp;omega,.inr ⟨_,_,cur,?_,hB,hg,by simp;omega,hc2,hc3,?_⟩⟩,fun i a1 a2=>?_⟩
   ·simp [Nat.min_eq_left hk]
   ·rw [List.length_take,Nat.min_eq_left hk,Nat.mul_one]
    rw [Nat.mul_one] at hc4
    rw [<- hc4,List.take_take,Nat.min_eq_left hk]
   ·rw [List.getElem_take,List.getElem_take]
    rw [List.length_take] at a1 a2
    exact h4 i (by omega) (by omega)
 exact h.on (hh.write hgr (.inl rfl) hok) (hf.mono fun _ _ hd=>ZM (o':=hQ b k cap e R (xs.take k)) hgr (.inl rfl) hd)
theorem ZM2 {l:Nat} {x y:Operand} {j:Int} (E:ElT P t e 1 z bytes ag) (hx:OpD fr x (dX (.slice (some ⟨b,0,none⟩) N cap))) (hy:OpD fr y (dI j)) (hj:j=(l:Int)) (hl:l≤N) (hm:N≤cap) (h0:0<cap) (hk:l≤xs.length)
  (h:WL P ops Q rest (ZB fr dst (dX (.slice (some ⟨b,0,none⟩) l cap))) (hQ b l cap e R (xs.take l)::hp)):WL P ops Q (⟨dst,.slice t x none (some y) none,ty,ps,af,none⟩::rest) fr (hQ b N cap e R xs::hp) :=
 WL.op rfl (SY.uptoQ E hx hy hj hl hm h0) (ZMw hk h)
theorem ZMv {x:Operand} {off n m k:Nat} {x0:α} (hu:P.underlying t=some (.slice e)) (hz:∀ w,(zeroValue e).run P w = .ok z w) (hz1:z.oneCell'=true) (hz0:∀ I w,R I w z x0) (hx:OpD fr x (dX (.slice (some ⟨b,off,none⟩) n m))) (hj:off=k) (hn:0<n) (hk:k+n=xs.length)
  (h:WL P ops Q rest (ZB fr dst dA) (hQ b N cap e R (xs.take k++List.replicate n x0)::hp)):WL P ops Q (⟨dst,.call { callee:=.builtin .clear,args:=#[x],argTypes:=#[t] },ty,ps,af,none⟩::rest) fr (hQ b N cap e R xs::hp):=by
 refine WL.of fun P0 B w0 w a hh hf=>?_
 subst hj
 have hok:=(hQ b N cap e R xs).bound (hh.ok (hQ b N cap e R xs) (by simp))
 obtain ⟨us,h1,⟨h2,h3⟩,h4⟩:=hok
 rcases h3 with ⟨hc,_⟩|⟨g,cap',cur,hv,hB,hg,hc1,hc2,hc3,hc4⟩
 ·cases hc
 cases hv
 rw [Nat.mul_one] at hc3 hc4
 have hval:a.eval x=_:=hx.ev hf
 have hcl:off+n≤cur.toList.length:=by simp;omega
 have hzc:(Builtin.zeroCells #[z] n).toList=List.replicate n z:=by
  simp only [Builtin.zeroCells]
  apply List.ext_getElem
  ·simp
  ·intro i h1 h2
   simp [Nat.mod_one]
 have hcell:∀ j<n,w.cell? ⟨b,off+j,none⟩≠none/\w.frozen? ⟨b,off+j,none⟩=false:=fun j hj=>by
  have:off+j<cur.size:=by omega
  exact ⟨by simp [World.cell?,hg,this],by simp [World.frozen?,hg]⟩
 have hst:=run_storeCells_cells (P:=P) b off (List.replicate n z) 0 w (fun j hj=>by
   rw [List.length_replicate] at hj
   rw [Nat.add_zero]
   exact Option.isSome_iff_ne_none.2 (hcell j hj).1) (fun j hj=>by
   rw [List.length_replicate] at hj
   rw [Nat.add_zero]
   exact (hcell j hj).2) (fun c hc=>by rw [(List.mem_replicate.1 hc).2];exact hz1)
 have hrun:(execOp a.eval ⟨dst,.call { callee:=.builtin .clear,args:=#[x],argTypes:=#[t] },ty,ps,af,none⟩).run P w = .ok (.value (.tuple #[])) (w.setCells b off (List.replicate n z)):=by
  obtain ⟨m',rfl⟩:∃ m,n=m+1:=⟨n-1,by omega⟩
  unfold execOp
  simp [resolve,invoke,builtin,hval,Builtin.clear_,run_underlying hu,hz,ZB9 hz1,hzc,hst]
 have hsplit:cur=(cur.toList.take off++(cur.toList.drop off).take n++cur.toList.drop (off+n)).toArray:=by
  apply Array.ext'
  simp [<- List.drop_drop]
 have hg2:(w.setCells b off (List.replicate n z)).heap[b]?=some (.cells (cur.toList.take off++List.replicate n z++cur.toList.drop (off+n)).toArray e (0,0)):=by
  have:=ZAX (g:=b) (e:=e) (fz:=(0,0)) (List.replicate n z) ((cur.toList.drop off).take n) (cur.toList.take off) (cur.toList.drop (off+n)) w (by simp;omega) (by rw [<- hsplit];exact hg)
  rwa [List.length_take,Nat.min_eq_left (by omega)] at this
 have hgr:w.grownBy (w.setCells b off (List.replicate n z)) (some b):=ZCj
 have hok':(hQ b xs.length cap e R (xs.take off++List.replicate n x0)).ok (fun j=>Imm P0 B (hQ b xs.length cap e R xs::hp) j/\j<w.heap.size) (w.setCells b off (List.replicate n z)):=by
  have hlen:(xs.take off++List.replicate n x0).length=xs.length:=by simp;omega
  have hlu:(us.take off++List.replicate n z).length=xs.length:=by simp;omega
  refine ⟨us.take off++List.replicate n z,by rw [hlen,hlu],⟨by rw [hlu,hlen,Nat.mul_one],.inr ⟨_,_,_,by rw [hlen],hB,hg2,by rw [hlen];exact hc1,hc2,?_,?_⟩⟩,fun i a1 a2=>?_⟩
  ·simp;omega
  ·rw [hlen,Nat.mul_one]
   rw [List.take_append_of_le_length (by simp;omega),List.take_of_length_le (by simp;omega),<- hc4,List.take_take,Nat.min_eq_left (by omega)]
  ·by_cases hi:i<off
   ·rw [List.getElem_append_left (by simp;omega),List.getElem_append_left (by simp;omega),List.getElem_take,List.getElem_take]
    have:=h4 i (by omega) (by omega)
    exact ⟨this.1,Good.grown this.2 hgr fun r hr hc=>hc.2 (by cases hr;rfl)⟩
   ·rw [List.getElem_append_right (by simp;omega),List.getElem_append_right (by simp;omega),List.getElem_replicate,List.getElem_replicate]
    exact ⟨hz1,hz0 _ _⟩
 refine wpList_plain rfl fun K hK=>?_
 unfold Oper.wp
 rw [hrun]
 exact hK _ _ (h.on (hh.write hgr (.inl rfl) hok') (Fr.put (hf.mono fun _ _ hd=>ZM (o:=hQ b xs.length cap e R xs) (o':=hQ b xs.length cap e R (xs.take off++List.replicate n x0)) hgr (.inl rfl) hd) (d:=dA) trivial))
end
end
section
open Go.RowKit
section
variable {P:Program} {ops:Array Oper} {hp:List HObj} {fr:List Dat} {Q:ZAL} {rest:List Oper}
variable {dst:Option Tmp} {ty:TypeId} {ps:String} {af:Array Edge} {e t:TypeId} {bytes:Nat} {z:Value} {ag:Bool}
theorem ZSG {s x:Operand} {k:Tmp} {dst2:Option Tmp} {ty2:TypeId} {ps2:String} {af2:Array Edge} (E:ElT P t e 1 z bytes ag) {α:Type} {R:Rel α} {_gR:Good R} {v:Value} {xs:List α} {y:α} (hs:OpD fr s (dX v)) (hx:OpD fr x (dS R y)) (hsh:∀ a,(dS R a).Shape 1 false) (hne:s ≠ .tmp k) (hkl:k<fr.length) (hby:0<bytes)
  (hlen:(xs.length+1)*bytes≤140737488355328)
  (same:∀ b cap,v = .slice (some ⟨b,0,none⟩) xs.length cap->xs.length+1≤cap->WL P ops Q rest (ZB (fr.set k dA) dst2 (dX (.slice (some ⟨b,0,none⟩) (xs.length+1) cap))) (hQ b (xs.length+1) cap e R (xs++[y])::hp))
  (new:∀ v',WL P ops Q rest (ZB (fr.set k dA) dst2 (dX v')) (ZW v' e R (xs++[y])::ZW v e R xs::hp)) :
  WL P ops Q (⟨some k,.buildSlice t 1 #[(0,x)],ty,ps,af,none⟩::⟨dst2,.call { callee:=.builtin .append,args:=#[s,.tmp k],argTypes:=#[t,t] },ty2,ps2,af2,none⟩::rest) fr (ZW v e R xs::hp):=by
 refine WL.of fun P0 B w0 w a hh hf=>?_
 have hxr:=hx.ev hf
 obtain ⟨cs,k1,k0,k2,k3,k4⟩:=hsh y _ _ _ hxr
 simp only [Bool.false_eq_true,if_false] at k4
 subst k4
 have hb:=ZAo (w:=w) E (us:=[a.eval x]) (css:=[[a.eval x]]) rfl (fun i u cs' hu hcs=>by
  cases i with
  | zero=>cases hu;cases hcs;exact ⟨k3,k1⟩
  | succ i=>simp at hu) (by simp)
 refine Zl rfl (v:=.slice (some ⟨w.heap.size,0,none⟩) 1 1) (w':=w.alloc (.cells [[a.eval x]].flatten.toArray e)) ?_ ?_
 ·unfold execOp
  simp only [List.map_toArray,List.map_cons,List.map_nil,Sem.run_bind]
  have:(Instr.buildSlice t 1 #[(0,a.eval x)]).run P w = .ok (.slice (some ⟨w.heap.size,0,none⟩) 1 1) (w.alloc (.cells [[a.eval x]].flatten.toArray e)):=hb
  simp only [this,Result.andThen_ok,Sem.run_pure]
 have hxe:=Ext.of_alloc w (.cells [[a.eval x]].flatten.toArray e)
 have hh1:=hh.ext hxe
 have hf1:Fr (Imm P0 B (ZW v e R xs::hp)) (w.alloc (.cells [[a.eval x]].flatten.toArray e)) (a.put (some k) (.slice (some ⟨w.heap.size,0,none⟩) 1 1)) (fr.set k dA):=Fr.put (x:=some k) (hf.ext hxe) (d:=dA) trivial
 have hm:xs.length+1≤maxLen:=by
  have:(xs.length+1)*1≤(xs.length+1)*bytes:=Nat.mul_le_mul_left _ hby
  simp only [maxLen];omega
 have hone:(a.eval x).oneCell'=true:=k2 _ (by simp)
 have hcell:∀ j u,[a.eval x][j]?=some u->(w.alloc (.cells [[a.eval x]].flatten.toArray e)).cell? ((⟨w.heap.size,0,none⟩:Addr).add j)=some u:=fun j u hu=>by
  rw [Addr.add_lit,cell_of_row _ _ _ _ _ _ (Zk w _),Nat.zero_add]
  simpa using hu
 have hev:(a.put (some k) (.slice (some ⟨w.heap.size,0,none⟩) 1 1)).eval s=v:=by rw [ZCA hne];exact hs.ev hf
 have hyr:R (Imm P0 B (ZW v e R xs::hp)) (w.alloc (.cells [[a.eval x]].flatten.toArray e)) (a.eval x) y:=Good.ext (R:=R) hxr hxe
 obtain ⟨i0,hi,hz,hsz,hbt⟩:=info_parts E.info
 generalize w.alloc (.cells [[a.eval x]].flatten.toArray e)=w1 at *
 obtain ⟨us,u1,⟨u2,u3⟩,u4⟩:=(ZW v e R xs).bound (hh1.ok (ZW v e R xs) (by simp))
 rcases u3 with ⟨hv,hz0⟩|⟨g,cap,cur,hv,hB,hg,hc1,hc2,hc3,hc4⟩
 ·have hx0:xs=[]:=by
   apply List.eq_nil_of_length_eq_zero
   omega
  subst hx0
  obtain ⟨v',w',hr,r1,r2,r3⟩:=ZBp (ty:=ty2) E hh1 (ad:=⟨w.heap.size,0,none⟩) (c:=1) (ys:=[y]) (news:=[a.eval x]) rfl hcell k2 (fun j h1 h2=>by
    have hj:j=0:=by simp at h1;omega
    subst hj
    exact hyr) (by simpa using hlen) (by simpa using hm)
  refine ZAI (v:=v) (yv:=.slice (some ⟨w.heap.size,0,none⟩) 1 1) hev (ZAu (by rw [hf.size];exact hkl)) hr ?_
  subst hv
  have h2:Hp P0 B w0 (ZW (.slice none 0 0) e R []::ZW v' e R ([]++[y])::hp) w':=r1.push (Ext.refl _) (by simp [ZW,Value.ownBlock]) Own.nil
  have h3:=WL.perm (List.Perm.swap _ _ _) (new v')
  exact h3.on h2 (Fr.put (x:=dst2) (hf1.mono fun d _ hd=>Zf (Ext.refl _) (by simp [ZW,Value.ownBlock]) (ZM (o:=ZW (.slice none 0 0) e R []) (o':=ZW v' e R ([]++[y])) r2 r3 hd)) (d:=dX v') rfl)
 ·subst hv
  rw [Nat.mul_one] at hc3 hc4
  have hlu:us.length=xs.length:=u1
  have hcl:xs.length≤cur.toList.length:=by simp;omega
  have hold:∀ j u,us[j]?=some u->w1.cell? ((⟨g,0,none⟩:Addr).add j)=some u:=fun j u hj=>by
   have hlt:=(List.getElem?_eq_some_iff.1 hj).1
   rw [<- hc4,List.getElem?_take,if_pos (by omega)] at hj
   rw [Addr.add_lit,Nat.zero_add]
   simp only [World.cell?,hg]
   simpa using hj
  by_cases hroom:xs.length+1≤cap
  ·have hin:xs.length<cur.size:=by omega
   have hr:=run_append_room_cells (P:=P) w1 t ty2 e i0 E.und hi g 0 xs.length cap ⟨w.heap.size,0,none⟩ 1 1 [a.eval x] (by simp [hsz]) hcell k2 hroom (fun j hj=>by
    have hj0:j=0:=by simp at hj;omega
    subst hj0
    rw [hsz]
    simp [World.cell?,hg,hin]) (fun j hj=>by simp [World.frozen?,hg])
   rw [hsz,Nat.zero_add,Nat.mul_one] at hr
   refine ZAI (v:=_) (yv:=.slice (some ⟨w.heap.size,0,none⟩) 1 1) hev (ZAu (by rw [hf.size];exact hkl)) hr ?_
   have hgr:w1.grownBy (w1.setCells g xs.length [a.eval x]) (some g):=ZCj
   have hsplit:cur=(cur.toList.take xs.length++(cur.toList.drop xs.length).take 1++cur.toList.drop (xs.length+1)).toArray:=by
    apply Array.ext'
    show cur.toList=_
    rw [List.append_assoc,<- List.drop_drop,List.take_append_drop,List.take_append_drop]
   have hg2:(w1.setCells g xs.length [a.eval x]).heap[g]?=some (.cells (cur.toList.take xs.length++[a.eval x]++cur.toList.drop (xs.length+1)).toArray e (0,0)):=by
    have:=ZAX (g:=g) (e:=e) (fz:=(0,0)) [a.eval x] ((cur.toList.drop xs.length).take 1) (cur.toList.take xs.length) (cur.toList.drop (xs.length+1)) w1 (by simp;omega) (by rw [<- hsplit];exact hg)
    rwa [List.length_take,Nat.min_eq_left hcl] at this
   have hmv:∀ (u:Value) (q:α),R (fun j=>(Imm P0 B (ZW (.slice (some ⟨g,0,none⟩) xs.length cap) e R xs::hp) j/\j<w1.heap.size)/\j≠g) w1 u q->R (fun j=>(Imm P0 B (ZW (.slice (some ⟨g,0,none⟩) xs.length cap) e R xs::hp) j/\j<w1.heap.size)/\(Value.slice (some ⟨g,0,none⟩) (xs.length+1) cap).ownBlock≠some j) (w1.setCells g xs.length [a.eval x]) u q:=fun u q hq =>
    Good.weak (Good.move hq fun j hj hlt=>hgr.block j hlt fun he=>hj.2 (by cases he;rfl)) fun j hj=>⟨hj.1,fun he=>hj.2 (by cases he;rfl)⟩
   have hok:(hQ g (xs.length+1) cap e R (xs++[y])).ok (fun j=>Imm P0 B (ZW (.slice (some ⟨g,0,none⟩) xs.length cap) e R xs::hp) j/\j<w1.heap.size) (w1.setCells g xs.length [a.eval x]):=by
    have hl2:(us++[a.eval x]).length=(xs++[y]).length:=by rw [List.length_append,List.length_append,hlu];rfl
    refine ⟨us++[a.eval x],hl2,⟨by rw [hl2,Nat.mul_one],.inr ⟨g,cap,_,by rw [List.length_append];rfl,Nat.zero_le _,hg2,by rw [List.length_append];exact hroom,hc2,?_,?_⟩⟩,fun j h1 h2=>?_⟩
    ·rw [List.size_toArray]
     simp only [List.length_append,List.length_take,List.length_drop,List.length_singleton,Array.length_toList]
     omega
    ·rw [Nat.mul_one,hc4,List.length_append,List.length_singleton,<- hlu]
     show ((us++[a.eval x])++_).take _=_
     rw [List.take_left' (by simp)]
    ·by_cases hj:j<us.length
     ·rw [List.getElem_append_left hj,List.getElem_append_left (by omega)]
      obtain ⟨q1,q2⟩:=u4 j hj (by omega)
      exact ⟨q1,hmv _ _ (Good.weak q2 fun b hb=>⟨hb.1,fun he=>hb.2 (by rw [he];rfl)⟩)⟩
     ·have hj2:j=us.length:=by simp at h1;omega
      subst hj2
      rw [List.getElem_append_right (Nat.le_refl _),List.getElem_append_right (by omega)]
      simp only [Nat.sub_self,hlu,List.getElem_cons_zero]
      exact ⟨hone,hmv _ _ (Good.weak (Good.bound hyr) fun b hb=>⟨hb,fun he=>hb.1.2 (ZW (.slice (some ⟨g,0,none⟩) xs.length cap) e R xs) (by simp) (by rw [he];rfl)⟩)⟩
   exact (same g cap rfl hroom).on (hh1.write hgr (.inl rfl) hok) (Fr.put (x:=dst2) (hf1.mono fun d _ hd=>ZM (o:=ZW (.slice (some ⟨g,0,none⟩) xs.length cap) e R xs) (o':=hQ g (xs.length+1) cap e R (xs++[y])) hgr (.inl rfl) hd) (d:=dX _) rfl)
  ·obtain ⟨v',w',hr,r1,r2⟩:=run_append_arg_grows (P:=P) w1 t ty2 e i0 z 1 bytes E.und hi hz hsz hbt E.zs Nat.one_pos ⟨g,0,none⟩ xs.length cap us (by omega) hold ⟨w.heap.size,0,none⟩ 1 1 [a.eval x] rfl hcell (by omega) hm hlen
   refine ZAI (v:=_) (yv:=.slice (some ⟨w.heap.size,0,none⟩) 1 1) hev (ZAu (by rw [hf.size];exact hkl)) hr ?_
   have hx2:Ext w1 w':=⟨r2.os,r2.tape,r2.output,r2.size,fun k hk=>r2.block k hk (by simp)⟩
   have hob:∀ k,(ZW v' e R (xs++[y])).blk=some k->w1.heap.size≤k/\k<w'.heap.size:=fun k hk=>r1.lt k hk
   have hok:(ZW v' e R (xs++[y])).ok (fun k=>Imm P0 B (ZW (.slice (some ⟨g,0,none⟩) xs.length cap) e R xs::hp) k/\k<w1.heap.size) w':=by
    have hl2:(xs++[y]).length=xs.length+1:=by simp
    have hbk:∀ b,v'.ownBlock=some b->w1.heap.size≤b:=fun b hb=>(hob b hb).1
    obtain ⟨q1,q2⟩:=r1
    refine ⟨us++[a.eval x],by simp [hlu],⟨by rw [hl2];exact q1,?_⟩,fun j h1 h2=>?_⟩
    ·rw [hl2]
     rcases q2 with ⟨z1,z2⟩|⟨g',c',cur',z1,_,z3⟩
     ·exact .inl ⟨z1,z2⟩
     ·exact .inr ⟨g',c',cur',z1,Nat.zero_le _,z3⟩
    ·by_cases hj:j<us.length
     ·rw [List.getElem_append_left hj,List.getElem_append_left (by omega)]
      obtain ⟨p1,p2⟩:=u4 j hj (by omega)
      exact ⟨p1,Good.ext (R:=R) (Good.weak p2 fun b hb=>⟨hb.1,fun he=>Nat.lt_irrefl _ (Nat.lt_of_lt_of_le hb.1.2 (hbk b he))⟩) hx2⟩
     ·have hj2:j=us.length:=by simp at h1;omega
      subst hj2
      rw [List.getElem_append_right (Nat.le_refl _),List.getElem_append_right (by omega)]
      simp only [Nat.sub_self,hlu,List.getElem_cons_zero]
      exact ⟨hone,Good.ext (R:=R) (Good.weak (Good.bound hyr) fun b hb=>⟨hb,fun he=>Nat.lt_irrefl _ (Nat.lt_of_lt_of_le hb.2 (hbk b he))⟩) hx2⟩
   exact (new v').on (hh1.push hx2 hob hok) (Fr.put (x:=dst2) (hf1.mono fun d _ hd=>Zf hx2 (fun k hk=>(hob k hk).1) hd) (d:=dX v') rfl)
end
end
end Go.Proofs.YtlgmojhmmbhgfaaGreatDoor
