/- Part 10: walks by contracts, and plain laws. -/
import Derived.Test.YtokmalofdapffaaGreatProg
import Derived.Test.YtokmalofdapffaaGreatV9
set_option linter.unusedVariables false
set_option linter.unusedSimpArgs false
set_option linter.unusedSectionVars false
set_option maxRecDepth 100000
set_option maxHeartbeats 4000000
namespace Go.Proofs.YtokmalofdapffaaGreat
section
open Go.RowKit
def ZBd (b:Nat) (T:TypeId) (ds:List Dat):HObj where
 blk:=some b
 ok:=fun P w=>∃ cs:List Value,w.heap[b]?=some (.cells cs.toArray T)/\cs.length=ds.length/\(∀ c∈cs,c.oneCell'=true)/\∀ (k:Nat) (c:Value) (d:Dat),cs[k]?=some c->ds[k]?=some d->d.rd P w c
 weak:=fun h q=>by obtain ⟨cs,h1,h2,h3,h4⟩:=h;exact ⟨cs,h1,h2,h3,fun k c d hc hd=>d.weak (h4 k c d hc hd) q⟩
 bound:=fun h=>by obtain ⟨cs,h1,h2,h3,h4⟩:=h;exact ⟨cs,h1,h2,h3,fun k c d hc hd=>d.bound (h4 k c d hc hd)⟩
 move:=fun h hg hP hne=>by
  obtain ⟨cs,h1,h2,h3,h4⟩:=h
  have hlt:b<_:=(Array.getElem?_eq_some_iff.1 h1).1
  refine ⟨cs,(hg.block b hlt ?_).trans h1,h2,h3,fun k c d hc hd=>d.grown (h4 k c d hc hd) hg hP⟩
  rcases hne with h|h
  ·cases h
  ·exact h
def ZKR (ds:List Dat):Dat where
 rd:=fun P w v=>∃ cs:List Value,v = .agg cs.toArray/\cs.length=ds.length/\(∀ c∈cs,c.oneCell'=true)/\∀ (k:Nat) (c:Value) (d:Dat),cs[k]?=some c->ds[k]?=some d->d.rd P w c
 weak:=fun ⟨cs,h1,h2,h3,h4⟩ q=>⟨cs,h1,h2,h3,fun k c d hc hd=>d.weak (h4 k c d hc hd) q⟩
 move:=fun ⟨cs,h1,h2,h3,h4⟩ q=>⟨cs,h1,h2,h3,fun k c d hc hd=>d.move (h4 k c d hc hd) q⟩
 bound:=fun ⟨cs,h1,h2,h3,h4⟩=>⟨cs,h1,h2,h3,fun k c d hc hd=>d.bound (h4 k c d hc hd)⟩
theorem ZJA {ds:List Dat} {n:Nat} (hn:0<n) (hl:ds.length=n):(ZKR ds).Shape n true:=fun _ _ _ h=>by
 obtain ⟨cs,rfl,h2,h3,_⟩:=h
 exact ⟨cs,by omega,by omega,h3,rfl,rfl⟩
structure StrT (P:Program) (T:TypeId) (n:Nat):Prop where
 fld:∀ b off i w,i<n->(Instr.fieldAt T (.pointer (some ⟨b,off,none⟩)) i).run P w = .ok (.pointer (some ⟨b,off+i,none⟩)) w
section
variable {P:Program} {ops:Array Oper} {hp:List HObj} {fr:List Dat} {d:Dat} {Q:ZAE} {rest:List Oper}
variable {dst:Option Tmp} {ty:TypeId} {ps:String} {af:Array Edge} {g:Option (Nat × Bool)} {T T1 T2:TypeId} {b off k n:Nat} {ds ds':List Dat}
theorem ZIH {zs:List Value} (hz:TyZ P T (.agg zs.toArray)) (hn:0<zs.length) (h1:∀ c∈zs,c.oneCell'=true) (h:∀ b,WL P ops Q rest (ZB fr dst (dX (.pointer (some ⟨b,0,none⟩)))) (ZBd b T (zs.map dX)::hp)) :
  WL P ops Q (⟨dst,.alloc T,ty,ps,af,none⟩::rest) fr hp :=
 WL.alloc (n:=zs.length) (agg:=true) hz (fun _ _ _ q=>by cases (q:_=_);exact ⟨zs,rfl,hn,h1,rfl,rfl⟩) fun b=>WL.of fun P0 B w0 w a hh hf=>by
  obtain ⟨cs,u,c1,c2,c0,c3,c4,c5⟩:=hh.ok (ZO b T zs.length true (dX (.agg zs.toArray))) (by simp)
  have hu:u = .agg zs.toArray:=c5
  simp only [if_true] at c4
  rw [hu] at c4
  have hcs:zs=cs:=by injection c4 with c4;exact List.toArray_inj c4
  subst hcs
  have hgr:w.grownBy w (ZO b T zs.length true (dX (.agg zs.toArray))).blk:=⟨rfl,rfl,rfl,Nat.le_refl _,fun _ _ _=>rfl⟩
  have hok:(ZBd b T (zs.map dX)).ok (fun k=>Imm P0 B (ZO b T zs.length true (dX (.agg zs.toArray))::hp) k/\k<w.heap.size) w :=
   ⟨zs,c1,by simp,h1,fun k c d hc hd=>by
    rw [List.getElem?_map,hc] at hd
    cases hd
    rfl⟩
  exact (h b).on (hh.write hgr (.inl rfl) hok) (hf.mono fun _ _ hd=>ZN (o':=ZBd b T (zs.map dX)) hgr (.inl rfl) hd)
theorem ZC0 {x:Operand} {i:Nat} (S:StrT P T n) (hx:OpD fr x (dX (.pointer (some ⟨b,off,none⟩)))) (hi:i<n) :
  SY P ops hp ⟨dst,.fieldAddr T x i,ty,ps,af,g⟩ fr (dX (.pointer (some ⟨b,off+i,none⟩))):=SY.val fun {I w a} ho=>by
 have h1:a.eval x=_:=hx.get (by simp [Op.operands]) ho
 refine ⟨_,?_,rfl⟩
 unfold execOp
 simp only [h1,Sem.run_bind,S.fld b off i w hi,Result.andThen_ok,Sem.run_pure]
theorem ZQg {I:Nat->Prop} {w:World} (h:(ZBd b T2 ds).ok I w) (hk:ds[k]?=some d):∃ c,w.cell? ⟨b,k,none⟩=some c/\c.oneCell'=true/\d.rd I w c:=by
 obtain ⟨cs,c1,c2,c3,c4⟩:=h
 have hlt:=(List.getElem?_eq_some_iff.1 hk).1
 have hl:k<cs.length:=by omega
 exact ⟨cs[k],by simp [World.cell?,c1,hl],c3 _ (List.getElem_mem hl),c4 k _ d (List.getElem?_eq_getElem hl) hk⟩
theorem ZCE {x:Operand} (T':TyI P T1 1 false) (hx:OpD fr x (dX (.pointer (some ⟨b,k,none⟩)))) (hm:ZBd b T2 ds∈hp) (hk:ds[k]?=some d) :
  SY P ops hp ⟨dst,.load T1 x,ty,ps,af,g⟩ fr d:=ZAn fun {P0 B w0 w a} hh ho=>by
 have h1:a.eval x = .pointer (some ⟨b,k,none⟩):=hx.get (by simp [Op.operands]) ho
 obtain ⟨c,q1,q2,q3⟩:=ZQg (hh.ok _ hm) hk
 have hc:Cells (fun _=>True) w b k 1 false c:=by
  refine ⟨trivial,[c],rfl,by decide,by simp [q2],fun i c' hc=>?_,rfl⟩
  have hi:i=0:=by
   have:=(List.getElem?_eq_some_iff.1 hc).1
   simp at this;exact this
  subst hi
  cases hc
  exact q1
 refine ⟨c,w,?_,Ext.refl _,q3⟩
 unfold execOp
 simp only [h1,Sem.run_bind,ZBJ T' hc,Result.andThen_ok,Sem.run_pure]
theorem ZGv {x:Operand} (T':TyI P T1 n true) (hx:OpD fr x (dX (.pointer (some ⟨b,0,none⟩)))) (hm:ZBd b T2 ds∈hp) (hn:0<n) (hl:ds.length=n) :
  SY P ops hp ⟨dst,.load T1 x,ty,ps,af,g⟩ fr (ZKR ds):=ZAn fun {P0 B w0 w a} hh ho=>by
 have h1:a.eval x = .pointer (some ⟨b,0,none⟩):=hx.get (by simp [Op.operands]) ho
 obtain ⟨cs,c1,c2,c3,c4⟩:=hh.ok _ hm
 have hc:Cells (fun _=>True) w b 0 n true (.agg cs.toArray):=by
  refine ⟨trivial,cs,by omega,hn,c3,fun j c hc=>?_,rfl⟩
  simp [World.cell?,c1,hc]
 refine ⟨_,w,?_,Ext.refl _,cs,rfl,c2,c3,c4⟩
 unfold execOp
 simp only [h1,Sem.run_bind,ZBJ T' hc,Result.andThen_ok,Sem.run_pure]
theorem ZFV {t:Nat} {x:Operand} (T':TyI P T1 n true) (hp0:OpD fr (.tmp t) (dX (.pointer (some ⟨b,0,none⟩)))) (hx:OpD fr x (ZKR ds')) (hl:ds.length=n) (hl':ds'.length=n)
  (h:WL P ops Q rest (ZB fr dst (dX undef)) (ZBd b T2 ds'::hp)) :
  WL P ops Q (⟨dst,.store T1 (.tmp t) x,ty,ps,af,none⟩::rest) fr (ZBd b T2 ds::hp):=by
 refine WL.of fun P0 B w0 w a hh hf=>?_
 obtain ⟨cs,c1,c2,c3,c4⟩:=hh.ok (ZBd b T2 ds) (by simp)
 have h1:a.eval (.tmp t)=_:=hp0.ev hf
 obtain ⟨us,u1,u2,u3,u4⟩:=(hx.ev hf:(ZKR ds').rd (Imm P0 B (ZBd b T2 ds::hp)) w (a.eval x))
 have hr:=ZBW (u:=a.eval x) (cs:=cs) (cs':=us) T'.size c1 (by omega) (by omega) u3 (by rw [u1];rfl)
 have hrun:(execOp a.eval ⟨dst,.store T1 (.tmp t) x,ty,ps,af,none⟩).run P w = .ok .skip (w.setRow b us.toArray):=by
  unfold execOp
  simp only [h1,Sem.run_bind,hr,Result.andThen_ok,Sem.run_pure]
 refine wpList_plain rfl fun K hK=>?_
 unfold Oper.wp
 rw [hrun]
 have hgr:w.grownBy (w.setRow b us.toArray) (ZBd b T2 ds).blk:=ZAH
 have hok:(ZBd b T2 ds').ok (fun j=>Imm P0 B (ZBd b T2 ds::hp) j/\j<w.heap.size) (w.setRow b us.toArray) :=
  ⟨us,setRow_heap w b _ _ _ _ c1,u2,u3,fun j c e hc he=>e.grown (e.bound (u4 j c e hc he)) hgr fun j q hj=>hj.1.2 (ZBd b T2 ds) (by simp) q⟩
 exact hK _ _ (h.on (hh.write hgr (.inl rfl) hok) (Fr.put (hf.mono fun _ _ hd=>ZN (o':=ZBd b T2 ds') hgr (.inl rfl) hd) (d:=dX undef) rfl))
end
def R3 {α β γ:Type} (R:Rel α) (S:Rel β) (T:Rel γ):Rel (α × β × γ):=fun P w v x=>∃ u u' u'',v = .agg #[u,u',u'']/\(u.oneCell'=true/\u'.oneCell'=true/\u''.oneCell'=true)/\R P w u x.1/\S P w u' x.2.1/\T P w u'' x.2.2
instance {α β γ:Type} (R:Rel α) (S:Rel β) (T:Rel γ) [Good R] [Good S] [Good T]:Good (R3 R S T) where
 weak:=fun ⟨u,u',u'',h1,h0,h2,h3,h4⟩ q=>⟨u,u',u'',h1,h0,Good.weak h2 q,Good.weak h3 q,Good.weak h4 q⟩
 move:=fun ⟨u,u',u'',h1,h0,h2,h3,h4⟩ q=>⟨u,u',u'',h1,h0,Good.move h2 q,Good.move h3 q,Good.move h4 q⟩
 bound:=fun ⟨u,u',u'',h1,h0,h2,h3,h4⟩=>⟨u,u',u'',h1,h0,Good.bound h2,Good.bound h3,Good.bound h4⟩
end
section
open Go.RowKit

theorem elV:ElT Tryz.prog 41 47 2 (.agg #[.int .i64 0,.int .i64 0]) 16 true:=⟨Tryz.underlying41,by kernel_rfl,Tryz.isAgg47,rfl⟩
theorem ZDv:ElT Tryz.prog 22 41 1 (.slice none 0 0) 24 false:=⟨Tryz.underlying22,by kernel_rfl,Tryz.isAgg41,rfl⟩
theorem elI:ElT Tryz.prog 27 3 1 (.int .i64 0) 8 false:=⟨Tryz.underlying27,by kernel_rfl,Tryz.isAgg3,rfl⟩
theorem elE:ElT Tryz.prog 169 28 1 (.int .i64 0) 8 false:=⟨Tryz.underlying169,by kernel_rfl,Tryz.isAgg28,rfl⟩
theorem tyV:TyI Tryz.prog 47 2 true:=⟨by kernel_rfl,Tryz.isAgg47⟩
theorem ZJO:TyI Tryz.prog 41 1 false:=⟨by kernel_rfl,Tryz.isAgg41⟩
theorem tyI:TyI Tryz.prog 3 1 false:=⟨by kernel_rfl,Tryz.isAgg3⟩
theorem tyE:TyI Tryz.prog 28 1 false:=⟨by kernel_rfl,Tryz.isAgg28⟩
theorem tzV:TyZ Tryz.prog 47 (.agg #[.int .i64 0,.int .i64 0]):=⟨by kernel_rfl⟩
theorem vxT:VxT Tryz.prog 47:=by
 constructor
 ·intro b off w;go_simp
 ·intro b off w;go_simp
 ·intro x y p q p' q' w;go_simp;by_cases h:p=p' <;> by_cases h':q=q' <;> simp [h,h']
 ·intro x y p q p' q' w;go_simp;by_cases h:p=p' <;> by_cases h':q=q' <;> simp [h,h']
 ·intro p q w;go_simp
 ·intro p w;go_simp
 ·intro q w;go_simp
theorem ZNJ:∀ (x y:Operand) ad m c w,(do eqGuard .eql 41 x y (.slice ad m c) (.slice none 0 0);Go.binOp .eql 41 (.slice ad m c) (.slice none 0 0)).run Tryz.prog w = .ok (.bool ad.isNone) w:=by
 intro x y ad m c w
 cases ad <;> (go_simp;try (unfold Go.binOp;simp only;unfold Op.equal Op.maxDepth Op.equalIn;simp [run_underlying Tryz.underlying41]))

end
section
open Go.RowKit
def R1 {α:Type} (R:Rel α):Rel α:=fun P w v x=>∃ u,v = .agg #[u]/\u.oneCell'=true/\R P w u x
instance {α:Type} (R:Rel α) [Good R]:Good (R1 R) where
 weak:=fun ⟨u,h1,h0,h2⟩ q=>⟨u,h1,h0,Good.weak h2 q⟩
 move:=fun ⟨u,h1,h0,h2⟩ q=>⟨u,h1,h0,Good.move h2 q⟩
 bound:=fun ⟨u,h1,h0,h2⟩=>⟨u,h1,h0,Good.bound h2⟩
abbrev Cpx:Rel (List (List (Int × Int))):=R1 ZBN
theorem ZAT {α:Type} {R:Rel α} [Good R] {x:α}:(dS (R1 R) x).Shape 1 true:=fun _ _ _ h=>by
 obtain ⟨u,rfl,h0,_⟩:=h
 exact ⟨[u],rfl,Nat.one_pos,fun c hc=>by rw [List.mem_singleton.1 hc];exact h0,rfl,rfl⟩
theorem Ze {u:Value} (h0:u.oneCell'=true):(dX (.agg #[u])).Shape 1 true:=fun _ _ _ h=>by
 cases (h:_=_)
 exact ⟨[u],rfl,Nat.one_pos,fun c hc=>by rw [List.mem_singleton.1 hc];exact h0,rfl,rfl⟩
theorem ZRq {α:Type} {R:Rel α} [Good R] {xs:List α}:∀ (I:Nat->Prop) (w:World) (v:Value),(dS (R1 (Arr R)) xs).rd I w v->xs.length≤maxLen:=fun _ _ _ h=>by obtain ⟨_,_,_,h⟩:=h;exact ZF5 _ _ _ h
structure CpxT (P:Program) (T:TypeId):Prop where
 fld:∀ b off w,(Instr.fieldAt T (.pointer (some ⟨b,off,none⟩)) 0).run P w = .ok (.pointer (some ⟨b,off,none⟩)) w
 mkc:∀ a n c w,(Instr.build T #[(0,.slice a n c)]).run P w = .ok (.agg #[.slice a n c]) w
 mkc0:∀ w,(Instr.build T #[]).run P w = .ok (.agg #[.slice none 0 0]) w
theorem ZA9:CpxT Tryz.prog 24:=by
 constructor
 ·intro b off w;go_simp
 ·intro a n c w;go_simp
 ·intro w;go_simp
theorem tyC:TyI Tryz.prog 24 1 true:=⟨by kernel_rfl,Tryz.isAgg24⟩
theorem tzC:TyZ Tryz.prog 24 (.agg #[.slice none 0 0]):=⟨by kernel_rfl⟩
theorem ZH1:TyI Tryz.prog 22 1 false:=⟨by kernel_rfl,Tryz.isAgg22⟩
section
variable {P:Program} {ops:Array Oper} {hp:List HObj} {fr:List Dat} {d:Dat} {Q:ZAE} {rest:List Oper}
variable {dst:Option Tmp} {ty:TypeId} {ps:String} {af:Array Edge} {g:Option (Nat × Bool)} {T:TypeId} (V:CpxT P T)
include V
theorem ZAd {α:Type} {R:Rel α} {_gR:Good R} {x:Operand} {xs:α} (hx:OpD fr x (dP 1 true (dS (R1 R) xs))):SY P ops hp ⟨dst,.fieldAddr T x 0,ty,ps,af,g⟩ fr (dP 1 false (dS R xs)):=SY.val fun {I w a} ho=>by
 obtain ⟨b,off,u,h1,⟨hb,cs,k1,k0,k2,k3,k4⟩,u0,hu,h0,h3⟩:=hx.get (by simp [Op.operands]) ho
 simp only [if_true] at k4
 rw [k4] at hu
 have hcs:cs=[u0]:=by injection hu with hu;exact List.toArray_inj hu
 subst hcs
 refine ⟨_,?_,b,off,u0,rfl,⟨hb,[u0],rfl,Nat.one_pos,by simp [h0],fun j c hc=>k3 j c hc,rfl⟩,h3⟩
 unfold execOp
 simp only [h1,Sem.run_bind,V.fld,Result.andThen_ok,Sem.run_pure]
theorem ZCe {x:Operand} {b:Nat} (hx:OpD fr x (dX (.pointer (some ⟨b,0,none⟩)))):SY P ops hp ⟨dst,.fieldAddr T x 0,ty,ps,af,g⟩ fr (dX (.pointer (some ⟨b,0,none⟩))):=SY.val fun {I w a} ho=>by
 have h1:a.eval x = .pointer (some ⟨b,0,none⟩):=hx.get (by simp [Op.operands]) ho
 refine ⟨_,?_,rfl⟩
 unfold execOp
 simp only [h1,Sem.run_bind,V.fld,Result.andThen_ok,Sem.run_pure]
theorem ZCV {α:Type} {R:Rel α} {_gR:Good R} {x:Operand} {xs:List α} (hx:OpD fr x (dS (Arr R) xs)):SY P ops hp ⟨dst,.build T #[(0,x)],ty,ps,af,g⟩ fr (dS (R1 (Arr R)) xs):=SY.val fun {I w a} ho=>by
 have h1:Arr R I w (a.eval x) xs:=hx.get (by simp [Op.operands]) ho
 have h2:=h1
 obtain ⟨ad,c,hv,_⟩:=h2
 rw [hv] at h1
 refine ⟨.agg #[.slice ad xs.length c],?_,_,rfl,rfl,h1⟩
 unfold execOp
 simp only [List.map_toArray,List.map_cons,List.map_nil,hv,Sem.run_bind,V.mkc,Result.andThen_ok,Sem.run_pure]
theorem ZAm:SY P ops hp ⟨dst,.build T #[],ty,ps,af,g⟩ fr (dS Cpx []):=SY.val fun {I w a} ho=>by
 refine ⟨.agg #[.slice none 0 0],?_,_,rfl,rfl,ZDJ⟩
 unfold execOp
 simp only [List.map_toArray,List.map_nil,Sem.run_bind,V.mkc0,Result.andThen_ok,Sem.run_pure]
end
theorem ZDB {P:Program} {T:TypeId} {n:Nat} {agg:Bool} (T':TyI P T n agg) {I:Nat->Prop} {w:World} {b off:Nat} {u:Value} (h:Cells I w b off n agg u):(loadVar T ⟨b,off,none⟩).run P w = .ok u w:=by
 have h1:=ZBJ T' h
 simpa [Instr.loadAt,Instr.sureAddr] using h1
theorem ZBH {P:Program} {fn:Func} {t:Tmp} {T:TypeId} {n:Nat} {agg:Bool} (T':TyI P T n agg) (hr:fn.results=#[.cell t T]) {I:Nat->Prop} {w:World} {tmps:Array Value} {b off:Nat} {u:Value} (hp:tmps.getD t undef = .pointer (some ⟨b,off,none⟩)) (h:Cells I w b off n agg u):(results fn tmps).run P w = .ok u w:=by
 have h1:=ZDB T' h
 have hp':tmps[t]?.getD undef = .pointer (some ⟨b,off,none⟩):=by simpa using hp
 simp [results,hr,hp',asAddr,h1]
theorem ZDh {P:Program} {fn:Func} {t t2:Tmp} {T:TypeId} {n:Nat} {agg:Bool} (T':TyI P T n agg) (hr:fn.results=#[.cell t T,.tmp t2]) {I:Nat->Prop} {w:World} {tmps:Array Value} {b off:Nat} {u:Value} (hp:tmps.getD t undef = .pointer (some ⟨b,off,none⟩)) (h:Cells I w b off n agg u):(results fn tmps).run P w = .ok (.tuple #[u,tmps.getD t2 undef]) w:=by
 have h1:=ZDB T' h
 have hp':tmps[t]?.getD undef = .pointer (some ⟨b,off,none⟩):=by simpa using hp
 simp [results,hr,hp',asAddr,h1]
section
variable {P:Program} {hp:List HObj} {d:Dat}
def finC1 (t:Nat) (n:Nat) (agg:Bool) (res:Dat):ZAE:=fun e fr hp=>(match e with|.normal|.ret=>True|_=>False)/\∃ d,fr[t]?=some (dP n agg d)/\FinD hp d res
def finC2 (t u:Nat) (n:Nat) (agg:Bool) (r s:Dat):ZAE:=fun e fr hp=>(match e with|.normal|.ret=>True|_=>False)/\(∃ d,fr[t]?=some (dP n agg d)/\FinD hp d r)/\∃ d,fr[u]?=some d/\FinD hp d s
theorem ZEL {f:FuncId} {fn:Func} {c:Code} {args:List Dat} {res:Dat} {t:Tmp} {T:TypeId} {n:Nat} {agg:Bool} (T':TyI P T n agg) (hf:P.funcs[f]?=some fn) (hb:fn.body=some c) (hr:fn.results=#[.cell t T])
  (h:WC P (finC1 t n agg res) c (args++List.replicate (fn.ntmps-args.length) (dX undef)) []):Fn P f args res :=
 ZCD hf hb (fun e fr hp q=>by
  obtain ⟨he,d,hd,hfin⟩:=q
  refine ⟨by cases e <;> simp_all,fun {P0 B w0 w a} hh hf'=>?_⟩
  obtain ⟨b,off,u,h1,h2,h3⟩:=hf'.rd t _ hd
  exact ⟨u,ZBH T' hr h1 h2,hfin.out hh h3⟩) h
theorem ZCS {f:FuncId} {fn:Func} {c:Code} {args:List Dat} {r s:Dat} {t t2:Tmp} {T:TypeId} {n:Nat} {agg:Bool} (T':TyI P T n agg) (hf:P.funcs[f]?=some fn) (hb:fn.body=some c) (hr:fn.results=#[.cell t T,.tmp t2])
  (h:WC P (finC2 t t2 n agg r s) c (args++List.replicate (fn.ntmps-args.length) (dX undef)) []):Fn P f args (dT [r,s]) :=
 ZCD hf hb (fun e fr hp q=>by
  obtain ⟨he,⟨d,hd,hfin⟩,d',hd',hfin'⟩:=q
  refine ⟨by cases e <;> simp_all,fun {P0 B w0 w a} hh hf'=>?_⟩
  obtain ⟨b,off,u,h1,h2,h3⟩:=hf'.rd t _ hd
  refine ⟨_,ZDh T' hr h1 h2,[u,a.tmps.getD t2 undef],rfl,rfl,fun i e x he hx=>?_⟩
  match i,he,hx with
  | 0,he,hx=>cases he;cases hx;exact hfin.out hh h3
  | 1,he,hx=>cases he;cases hx;exact hfin'.out hh (hf'.rd t2 d' hd')) h
theorem ZH4 {v:Value} {e:TypeId} {α:Type} {R:Rel α} [Good R] {xs:List α} (h:Zh v e R xs∈hp):FinD hp (dX (.agg #[v])) (dS (R1 (Arr R)) xs):=FinD.mk fun {P0 B w0 w u} hh hd=>by
 cases (hd:u=_)
 have h1:=(FinD.row h).out (v:=v) hh rfl
 have h2:=h1
 obtain ⟨a,c,hv,_⟩:=h2
 subst hv
 exact ⟨_,rfl,rfl,h1⟩
end
end
section
open Go.RowKit
def R2 {α β:Type} (R:Rel α) (S:Rel β):Rel (α × β):=fun P w v x=>∃ u u',v = .agg #[u,u']/\u.oneCell'=true/\u'.oneCell'=true/\R P w u x.1/\S P w u' x.2
instance {α β:Type} (R:Rel α) (S:Rel β) [Good R] [Good S]:Good (R2 R S) where
 weak:=fun ⟨u,u',h1,h0,h0',h2,h3⟩ q=>⟨u,u',h1,h0,h0',Good.weak h2 q,Good.weak h3 q⟩
 move:=fun ⟨u,u',h1,h0,h0',h2,h3⟩ q=>⟨u,u',h1,h0,h0',Good.move h2 q,Good.move h3 q⟩
 bound:=fun ⟨u,u',h1,h0,h0',h2,h3⟩=>⟨u,u',h1,h0,h0',Good.bound h2,Good.bound h3⟩
abbrev Col:Rel (List (Int × Int) × List (Int × Int)):=R2 ZJ ZJ
abbrev Cols:Rel (List (List (Int × Int) × List (Int × Int))):=ArrK 2 Col
abbrev Cl:=List (Int × Int) × List (Int × Int)
theorem Zy {α β:Type} {R:Rel α} {S:Rel β} [Good R] [Good S] {x:α × β}:(dS (R2 R S) x).Shape 2 true:=fun _ _ _ h=>by
 obtain ⟨u,u',rfl,h0,h0',_,_⟩:=h
 exact ⟨[u,u'],rfl,by omega,fun c hc=>by
  simp only [List.mem_cons,List.not_mem_nil,or_false] at hc
  rcases hc with rfl|rfl <;> assumption,rfl,rfl⟩
structure ColT (P:Program) (T:TypeId):Prop where
 fld0:∀ b off w,(Instr.fieldAt T (.pointer (some ⟨b,off,none⟩)) 0).run P w = .ok (.pointer (some ⟨b,off+0,none⟩)) w
 fld1:∀ b off w,(Instr.fieldAt T (.pointer (some ⟨b,off,none⟩)) 1).run P w = .ok (.pointer (some ⟨b,off+1,none⟩)) w
 mkp:∀ a n c a' n' c' w,(Instr.build T #[(0,.slice a n c),(1,.slice a' n' c')]).run P w = .ok (.agg #[.slice a n c,.slice a' n' c']) w
theorem ZBj:ColT Tryz.prog 43:=by
 constructor
 ·intro b off w;go_simp
 ·intro b off w;go_simp
 ·intro a n c a' n' c' w;go_simp
theorem ZKU:ElT Tryz.prog 31 43 2 (.agg #[.slice none 0 0,.slice none 0 0]) 48 true:=⟨Tryz.underlying31,by kernel_rfl,Tryz.isAgg43,rfl⟩
theorem ZRF:TyI Tryz.prog 43 2 true:=⟨by kernel_rfl,Tryz.isAgg43⟩
theorem ZOX:TyI Tryz.prog 31 1 false:=⟨by kernel_rfl,Tryz.isAgg31⟩
theorem ZTL:TyZ Tryz.prog 43 (.agg #[.slice none 0 0,.slice none 0 0]):=⟨by kernel_rfl⟩
section
variable {P:Program} {ops:Array Oper} {hp:List HObj} {fr:List Dat} {d:Dat} {Q:ZAE} {rest:List Oper}
variable {dst:Option Tmp} {ty:TypeId} {ps:String} {af:Array Edge} {g:Option (Nat × Bool)} {T:TypeId} (V:ColT P T)
include V
theorem Zc {α β:Type} {R:Rel α} {S:Rel β} {_gR:Good R} {_gS:Good S} {x:Operand} {p:α × β} (hx:OpD fr x (dP 2 true (dS (R2 R S) p))):SY P ops hp ⟨dst,.fieldAddr T x 0,ty,ps,af,g⟩ fr (dP 1 false (dS R p.1)):=SY.val fun {I w a} ho=>by
 obtain ⟨b,off,u,h1,⟨hb,cs,k1,k0,k2,k3,k4⟩,v0,v1,hu,q0,q1,q2,q3⟩:=hx.get (by simp [Op.operands]) ho
 simp only [if_true] at k4
 rw [k4] at hu
 have hcs:cs=[v0,v1]:=by injection hu with hu;exact List.toArray_inj hu
 subst hcs
 refine ⟨_,?_,b,off+0,v0,rfl,⟨hb,[v0],rfl,Nat.one_pos,by simp [q0],fun j c hc=>?_,rfl⟩,q2⟩
 ·unfold execOp
  simp only [h1,Sem.run_bind,V.fld0,Result.andThen_ok,Sem.run_pure]
 ·have hj:j=0:=by have:=(List.getElem?_eq_some_iff.1 hc).1;simpa using this
  subst hj
  cases hc
  exact k3 0 _ rfl
theorem Zm {α β:Type} {R:Rel α} {S:Rel β} {_gR:Good R} {_gS:Good S} {x:Operand} {p:α × β} (hx:OpD fr x (dP 2 true (dS (R2 R S) p))):SY P ops hp ⟨dst,.fieldAddr T x 1,ty,ps,af,g⟩ fr (dP 1 false (dS S p.2)):=SY.val fun {I w a} ho=>by
 obtain ⟨b,off,u,h1,⟨hb,cs,k1,k0,k2,k3,k4⟩,v0,v1,hu,q0,q1,q2,q3⟩:=hx.get (by simp [Op.operands]) ho
 simp only [if_true] at k4
 rw [k4] at hu
 have hcs:cs=[v0,v1]:=by injection hu with hu;exact List.toArray_inj hu
 subst hcs
 refine ⟨_,?_,b,off+1,v1,rfl,⟨hb,[v1],rfl,Nat.one_pos,by simp [q1],fun j c hc=>?_,rfl⟩,q3⟩
 ·unfold execOp
  simp only [h1,Sem.run_bind,V.fld1,Result.andThen_ok,Sem.run_pure]
 ·have hj:j=0:=by have:=(List.getElem?_eq_some_iff.1 hc).1;simpa using this
  subst hj
  cases hc
  exact k3 1 _ rfl
theorem ZCr {x y:Operand} {xs ys:List (Int × Int)} (hx:OpD fr x (dS ZJ xs)) (hy:OpD fr y (dS ZJ ys)):SY P ops hp ⟨dst,.build T #[(0,x),(1,y)],ty,ps,af,g⟩ fr (dS Col (xs,ys)):=SY.val fun {I w a} ho=>by
 have h1:ZJ I w (a.eval x) xs:=hx.get (by simp [Op.operands]) ho
 have h2:ZJ I w (a.eval y) ys:=hy.get (by simp [Op.operands]) ho
 have h1':=h1
 have h2':=h2
 obtain ⟨ad,c,hv,_⟩:=h1'
 obtain ⟨ad',c',hv',_⟩:=h2'
 rw [hv] at h1
 rw [hv'] at h2
 refine ⟨.agg #[.slice ad xs.length c,.slice ad' ys.length c'],?_,_,_,rfl,rfl,rfl,h1,h2⟩
 unfold execOp
 simp only [List.map_toArray,List.map_cons,List.map_nil,hv,hv',Sem.run_bind,V.mkp,Result.andThen_ok,Sem.run_pure]
end
theorem ZGB {P:Program} {fn:Func} {t t2 t3:Tmp} {T:TypeId} {n:Nat} {agg:Bool} (T':TyI P T n agg) (hr:fn.results=#[.cell t T,.tmp t2,.tmp t3]) {I:Nat->Prop} {w:World} {tmps:Array Value} {b off:Nat} {u:Value} (hp:tmps.getD t undef = .pointer (some ⟨b,off,none⟩)) (h:Cells I w b off n agg u):(results fn tmps).run P w = .ok (.tuple #[u,tmps.getD t2 undef,tmps.getD t3 undef]) w:=by
 have h1:=ZDB T' h
 have hp':tmps[t]?.getD undef = .pointer (some ⟨b,off,none⟩):=by simpa using hp
 simp [results,hr,hp',asAddr,h1]
section
variable {P:Program} {hp:List HObj} {d:Dat}
def finC3 (t u v:Nat) (n:Nat) (agg:Bool) (r s q:Dat):ZAE:=fun e fr hp=>(match e with|.normal|.ret=>True|_=>False)/\(∃ d,fr[t]?=some (dP n agg d)/\FinD hp d r)/\(∃ d,fr[u]?=some d/\FinD hp d s)/\∃ d,fr[v]?=some d/\FinD hp d q
theorem ZLI {f:FuncId} {fn:Func} {c:Code} {args:List Dat} {r s q:Dat} {t t2 t3:Tmp} {T:TypeId} {n:Nat} {agg:Bool} (T':TyI P T n agg) (hf:P.funcs[f]?=some fn) (hb:fn.body=some c) (hr:fn.results=#[.cell t T,.tmp t2,.tmp t3])
  (h:WC P (finC3 t t2 t3 n agg r s q) c (args++List.replicate (fn.ntmps-args.length) (dX undef)) []):Fn P f args (dT [r,s,q]) :=
 ZCD hf hb (fun e fr hp k=>by
  obtain ⟨he,⟨d,hd,hfin⟩,⟨d',hd',hfin'⟩,d2,hd2,hfin2⟩:=k
  refine ⟨by cases e <;> simp_all,fun {P0 B w0 w a} hh hf'=>?_⟩
  obtain ⟨b,off,u,h1,h2,h3⟩:=hf'.rd t _ hd
  refine ⟨_,ZGB T' hr h1 h2,[u,a.tmps.getD t2 undef,a.tmps.getD t3 undef],rfl,rfl,fun i e x he hx=>?_⟩
  match i,he,hx with
  | 0,he,hx=>cases he;cases hx;exact hfin.out hh h3
  | 1,he,hx=>cases he;cases hx;exact hfin'.out hh (hf'.rd t2 d' hd')
  | 2,he,hx=>cases he;cases hx;exact hfin2.out hh (hf'.rd t3 d2 hd2)) h
end
end
section
open Go.RowKit
section
variable {P:Program} {ops:Array Oper} {hp:List HObj} {fr:List Dat} {d e:Dat} {Q:ZAE} {rest:List Oper}
variable {dst:Option Tmp} {ty:TypeId} {ps:String} {af:Array Edge} {g:Option (Nat × Bool)} {T T1 T2:TypeId} {b off k n:Nat} {ds ds':List Dat}
theorem ZO4 {c:Code} {α:Type} {R:Rel α} {_gR:Good R} {v:Value} {xs:List α} {eT:TypeId} (hk:ds[k]?=some (dX v)) (h:WC P Q c fr (ZBd b T (ds.set k (dS (Arr R) xs))::hp)):WC P Q c fr (ZBd b T ds::Zh v eT R xs::hp):=WC.of fun P0 B w0 w a hh hf=>by
 obtain ⟨hh1,hI1⟩:=hh.perm (List.Perm.swap _ _ _)
 have hA:Arr R (Imm P0 B (ZBd b T ds::hp)) w v xs:=ZDM hh1
 have hh2:=hh1.drop
 have hgr:w.grownBy w (ZBd b T ds).blk:=⟨rfl,rfl,rfl,Nat.le_refl _,fun _ _ _=>rfl⟩
 obtain ⟨cs,c1,c2,c3,c4⟩:=hh2.ok (ZBd b T ds) (by simp)
 have hkl:=(List.getElem?_eq_some_iff.1 hk).1
 have hkc:k<cs.length:=by omega
 have hv:cs[k]=v:=c4 k _ _ (List.getElem?_eq_getElem hkc) hk
 have hok:(ZBd b T (ds.set k (dS (Arr R) xs))).ok (fun j=>Imm P0 B (ZBd b T ds::hp) j/\j<w.heap.size) w:=by
  refine ⟨cs,c1,by simp [c2],c3,fun j c e hc he=>?_⟩
  rw [List.getElem?_set] at he
  by_cases hjk:k=j
  ·rw [if_pos hjk,if_pos hkl] at he
   cases he
   subst hjk
   rw [List.getElem?_eq_getElem hkc] at hc
   cases hc
   rw [hv]
   exact (dS (Arr R) xs).bound hA
  ·rw [if_neg hjk] at he
   exact e.bound (c4 j c e hc he)
 refine h.on (hh2.write hgr (.inl rfl) hok) (hf.mono fun d u hd=>?_)
 exact ZN (o:=ZBd b T ds) (o':=ZBd b T (ds.set k (dS (Arr R) xs))) hgr (.inl rfl) (d.weak hd fun j hj=>Imm.sub j ((hI1 j).1 hj))
end
end
end Go.Proofs.YtokmalofdapffaaGreat
