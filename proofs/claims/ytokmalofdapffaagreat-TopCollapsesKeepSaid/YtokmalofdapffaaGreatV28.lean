/- Part 28: walks by contracts, and plain laws. -/
import Derived.Deep.OwnRows
import Derived.Test.YtokmalofdapffaaGreatV27
set_option linter.unusedVariables false
set_option linter.unusedSimpArgs false
set_option linter.unusedSectionVars false
set_option maxRecDepth 100000
set_option maxHeartbeats 4000000
namespace Go.Proofs.YtokmalofdapffaaGreat
section
open Go.RowKit
section
variable {P:Program} {ops:Array Oper} {hp:List HObj} {fr:List Dat} {d:Dat} {dst:Option Tmp} {ty:TypeId} {ps:String} {af:Array Edge} {t e:TypeId} {n:Nat} {z:Value} {bytes:Nat} {ag:Bool}
theorem ZCT {x:Operand} {t b n:Nat} {T T2:TypeId} {agg:Bool} {d0:Dat} (hT:TyI P T n agg) (hp0:OpD fr (.tmp t) (dX (.pointer (some ⟨b,0,none⟩)))) (hx:OpD fr x d) (hs:d.Shape n agg) :
  SW P ops (ZO b T2 n agg d0::hp) (fun _:Unit=>ZO b T2 n agg d::hp) (fun _=>dX undef) ⟨none,.store T (.tmp t) x,ty,ps,af,none⟩ fr:=⟨rfl,fun {P0 B w0 w a} hh ho K Q hk=>by
 obtain ⟨cs,u,c1,c2,c0,c3,c4,c5⟩:=hh.ok (ZO b T2 n agg d0) (by simp)
 have h1:d.rd (Imm P0 B (ZO b T2 n agg d0::hp)) w (a.eval x):=hx.get (by simp [Op.operands]) ho
 obtain ⟨cs',k1,k0,k2,k3,k4⟩:=hs _ _ _ h1
 have h2:a.eval (.tmp t) = .pointer (some ⟨b,0,none⟩):=hp0.get (by simp [Op.operands]) ho
 have hr:=ZBW (u:=a.eval x) hT.size c1 c2 k1 k2 k3
 have hrun:(execOp a.eval ⟨none,.store T (.tmp t) x,ty,ps,af,none⟩).run P w = .ok .skip (w.setRow b cs'.toArray):=by
  unfold execOp
  simp only [h2,Sem.run_bind,hr,Result.andThen_ok,Sem.run_pure]
 unfold Oper.wp
 rw [hrun]
 have hgr:w.grownBy (w.setRow b cs'.toArray) (ZO b T2 n agg d0).blk:=ZAH
 have hok:(ZO b T2 n agg d).ok (fun k=>Imm P0 B (ZO b T2 n agg d0::hp) k/\k<w.heap.size) (w.setRow b cs'.toArray) :=
  ⟨cs',a.eval x,setRow_heap w b _ _ _ _ c1,k1,k0,k2,k4,d.grown (d.bound h1) hgr (fun k hk hc=>hc.1.2 _ (by simp) hk)⟩
 exact hk () undef _ (hh.write hgr (.inl rfl) hok) (fun d' u hd=>ZN (o':=ZO b T2 n agg d) hgr (.inl rfl) hd) rfl⟩
theorem SW.appK {s y:Operand} (E:ElT P t e n z bytes ag) {α:Type} {R:Rel α} {_gR:Good R} {v:Value} {xs ys:List α} (hs:OpD fr s (dX v)) (hy:OpD fr y (dS (ArrK n R) ys)) (hby:0<bytes)
  (hlen:(xs.length+ys.length)*bytes≤140737488355328) :
  SW P ops (Zg v e n R xs::hp) (fun v':Value=>Zg v' e n R (xs++ys)::hp) (fun v'=>dX v') ⟨dst,.call { callee:=.builtin .append,args:=#[s,y],argTypes:=#[t,t] },ty,ps,af,none⟩ fr:=⟨rfl,fun {P0 B w0 w a} hh ho K Q hk=>by
 obtain ⟨ad,cap,hv,c1,c2,c0,c3⟩:=(hy.get (by simp [Op.operands,Call.operands]) ho:ArrK n R _ _ _ _)
 have hm:xs.length+ys.length≤maxLen:=by
  have:(xs.length+ys.length)*1≤(xs.length+ys.length)*bytes:=Nat.mul_le_mul_left _ hby
  simp only [maxLen];omega
 have hse:a.eval s=v:=hs.get (by simp [Op.operands,Call.operands]) ho
 cases ad with
 | none =>
  have hy0:ys=[]:=by
   cases ys with
   | nil=>rfl
   | cons y ys=>obtain ⟨_,_,_,_,_,_,hc,_⟩:=c3 0 (by simp);cases hc
  subst hy0
  obtain ⟨us,_,_,_,hown,_⟩:=hh.ok (Zg v e n R xs) (by simp)
  have hrun:(execOp a.eval ⟨dst,.call { callee:=.builtin .append,args:=#[s,y],argTypes:=#[t,t] },ty,ps,af,none⟩).run P w = .ok (.value v) w:=by
   have hr:=ZBI (P:=P) (ty:=ty) (w:=w) E hown cap
   have hv':a.eval y = .slice none 0 cap:=hv
   unfold execOp
   simp only [resolve,invoke,builtin,List.map_toArray,List.map_cons,List.map_nil,hse,hv',Sem.run_bind,Sem.run_pure,Result.andThen_ok]
   rw [hr]
   simp
  unfold Oper.wp
  rw [hrun]
  have:=hk v v w
  simp only [List.append_nil] at this
  exact this hh (fun _ _ h=>h) rfl
 | some ad =>
  have hch:∀ k:Nat,∃ cs:List Value,∀ h:k<ys.length,cs.length=n/\(∀ c∈cs,c.oneCell'=true)/\(∀ j c,cs[j]?=some c->w.cell? (ad.add (k*n+j))=some c)/\R (Imm P0 B (Zg v e n R xs::hp)) w (.agg cs.toArray) ys[k]:=fun k=>by
   by_cases hk:k<ys.length
   ·obtain ⟨cs,b,off,r1,r2,r3,r4,r5,r6⟩:=c3 k hk
    cases r4
    exact ⟨cs,fun _=>⟨r2,r3,fun j c hc=>by rw [Addr.add_lit,<- Nat.add_assoc];exact r6 j c hc,r1⟩⟩
   ·exact ⟨[],fun h=>absurd h hk⟩
  obtain ⟨f,hfch⟩:=Classical.axiomOfChoice hch
  have hmem:∀ u∈(List.range ys.length).map f,∃ j,j<ys.length/\u=f j:=fun u hu=>by
   simp only [List.mem_map,List.mem_range] at hu
   obtain ⟨j,hj,rfl⟩:=hu
   exact ⟨j,hj,rfl⟩
  obtain ⟨v',w',hr,r1,r2,r3⟩:=ZC3 (ty:=ty) E hh (ad:=ad) (c:=cap) (ys:=ys) (news:=(List.range ys.length).map f) (by simp) (fun j u hu=>by
    have hlt:=(List.getElem?_eq_some_iff.1 hu).1
    have hfl:((List.range ys.length).map f).flatten.length=ys.length*n:=by
     rw [ZDn (n:=n) fun u hu=>by obtain ⟨j,hj,rfl⟩:=hmem u hu;exact (hfch j hj).1];simp
    rw [hfl] at hlt
    have hq:j / n<ys.length:=(Nat.div_lt_iff_lt_mul c0).2 hlt
    have hr:j % n<n:=Nat.mod_lt _ c0
    have hj:j=(j / n)*n+j % n:=by rw [Nat.mul_comm];exact (Nat.div_add_mod j n).symm
    have hlen':=(hfch (j / n) hq).1
    have hg:=ZAJ (us:=(List.range ys.length).map f) (n:=n) (k:=j / n) (j:=j % n) (fun u hu=>by obtain ⟨j,hj,rfl⟩:=hmem u hu;exact (hfch j hj).1) (by simpa using hq) (c:=(f (j / n))[j % n]'(by omega)) (by simp)
    rw [<- hj,hu] at hg
    cases hg
    have:=(hfch (j / n) hq).2.2.1 (j % n) _ (List.getElem?_eq_getElem (by omega))
    rw [<- hj] at this
    exact this)
   (fun u hu=>by obtain ⟨j,hj,rfl⟩:=hmem u hu;exact ⟨(hfch j hj).1,(hfch j hj).2.1⟩) (fun k h1 h2=>by
    simp only [List.getElem_map,List.getElem_range]
    exact (hfch k h2).2.2.2) hlen hm
  have hrun:(execOp a.eval ⟨dst,.call { callee:=.builtin .append,args:=#[s,y],argTypes:=#[t,t] },ty,ps,af,none⟩).run P w = .ok (.value v') w':=by
   unfold execOp
   simp only [resolve,invoke,builtin,List.map_toArray,List.map_cons,List.map_nil,hse,hv,Sem.run_bind,Sem.run_pure,Result.andThen_ok,hr]
  unfold Oper.wp
  rw [hrun]
  exact hk v' v' w' r1 (fun d u hd=>ZN (o:=Zg v e n R xs) (o':=Zg v' e n R (xs++ys)) r2 r3 hd) rfl⟩
theorem ZGG {Q:ZAE} {c:Code} {t b n:Nat} {T:TypeId} {agg:Bool} (hp0:fr[t]?=some (dX (.pointer (some ⟨b,0,none⟩)))) (h:WC P Q c (fr.set t (dP n agg d)) hp):WC P Q c fr (ZO b T n agg d::hp):=by
 refine WC.of fun P0 B w0 w a hh hf=>?_
 obtain ⟨cs,u,c1,c2,c0,c3,c4,c5⟩:=hh.ok (ZO b T n agg d) (by simp)
 have hown:=hh.own (ZO b T n agg d) (by simp) b rfl
 refine h.on hh.drop ⟨hf.defers,by rw [hf.size,List.length_set],fun t' d' hd'=>?_⟩
 by_cases htt:t=t'
 ·subst htt
  rw [List.getElem?_set] at hd'
  simp only [if_true] at hd'
  split at hd'
  ·cases hd'
   have hv:a.tmps.getD t undef = .pointer (some ⟨b,0,none⟩):=hf.rd t _ hp0
   rw [hv]
   refine ⟨b,0,u,rfl,ZAF c1 c2 c0 c3 c4 ⟨.inr hown.1,fun o' ho' hk=>?_⟩,d.weak c5 Imm.sub⟩
   exact (List.pairwise_cons.1 hh.apart).1 o' ho' b rfl hk
  ·cases hd'
 ·rw [List.getElem?_set_ne htt] at hd'
  exact d'.weak (hf.rd t' d' hd') Imm.sub
end
end
section
open Go.RowKit
theorem mAt {hp:List HObj} {o:HObj} (i:Nat) (h:hp[i]?=some o):o∈hp:=List.mem_of_getElem? h
theorem ZKx:∀ {hp:List HObj} {i:Nat} {o:HObj},hp[i]?=some o->hp.Perm (o::hp.eraseIdx i)
 | [],i,o,h=>by simp at h
 | a::hp,0,o,h=>by cases h;exact List.Perm.refl _
 | a::hp,i+1,o,h=>by
  have:=ZKx (hp:=hp) (i:=i) (o:=o) (by simpa using h)
  exact (List.Perm.cons a this).trans (List.Perm.swap _ _ _)
theorem ZIx:∀ {hp:List HObj} {i:Nat} (_:i<hp.length) (o':HObj),(o'::hp.eraseIdx i).Perm (hp.set i o')
 | [],i,h,o'=>by simp at h
 | a::hp,0,h,o'=>List.Perm.refl _
 | a::hp,i+1,h,o'=>by
  have:=ZIx (hp:=hp) (i:=i) (by simpa using h) o'
  exact (List.Perm.swap _ _ _).trans (List.Perm.cons a this)
section
variable {P:Program} {ops:Array Oper} {hp hp':List HObj} {o:Oper} {fr:List Dat} {d d2:Dat} {Q:ZAE} {rest:List Oper} {c:Code} {β:Type} {D:β->Dat}
theorem SW.perm {H H':β->List HObj} (h1:hp.Perm hp') (h2:∀ x,(H x).Perm (H' x)) (k:SW P ops hp' H D o fr):SW P ops hp H' D o fr:=⟨k.guard,fun {P0 B w0 w a} hh hon K Q hk=>by
 obtain ⟨hh1,hI⟩:=hh.perm h1
 refine k.out hh1 ⟨hon.1,fun t ht d hd=>d.weak (hon.2 t ht d hd) fun j hj=>(hI j).1 hj⟩ K Q fun x v w' hw hrd hd=>?_
 obtain ⟨hh2,hI2⟩:=hw.perm (h2 x)
 exact hk x v w' hh2 (fun d u hu=>d.weak (hrd d u (d.weak hu fun j hj=>(hI j).1 hj)) fun j hj=>(hI2 j).1 hj) ((D x).weak hd fun j hj=>(hI2 j).1 hj)⟩
theorem SW.at (i:Nat) {ob:HObj} {H:β->HObj} (hi:hp[i]?=some ob) (k:∀ q:List HObj,SW P ops (ob::q) (fun x=>H x::q) D o fr):SW P ops hp (fun x=>hp.set i (H x)) D o fr :=
 SW.perm (ZKx hi) (fun x=>ZIx (List.getElem?_eq_some_iff.1 hi).1 (H x)) (k _)
theorem ZTE {α:Type} {R:Rel α} {_gR:Good R} {v:Value} {e:TypeId} {xs:List α} {I:Nat->Prop} {w:World} (h:(Zh v e R xs).ok I w):v.oneCell'=true:=by
 rcases ZQK h with ⟨rfl,_⟩|⟨b,cap,rfl,_⟩ <;> rfl
theorem ZKE {α:Type} {R:Rel α} {_gR:Good R} {v:Value} {e:TypeId} {xs:List α} (hm:Zh v e R xs∈hp) (h:v.oneCell'=true->WL P ops Q rest fr hp):WL P ops Q rest fr hp:=WL.of fun _ _ _ _ _ hh hf=>(h (ZTE (hh.ok _ hm))).on hh hf
end
section
variable {P:Program} {ops:Array Oper} {hp:List HObj} {fr:List Dat} {d:Dat} {dst:Option Tmp} {ty:TypeId} {ps:String} {af:Array Edge} {T T1 T2 e:TypeId} {b k:Nat} {ds:List Dat}
theorem SW.storeS {t:Nat} {x:Operand} (T':TyI P T1 1 false) (hp0:OpD fr (.tmp t) (dX (.pointer (some ⟨b,k,none⟩)))) (hx:OpD fr x d) (hs:d.Shape 1 false) (hk:k<ds.length) :
  SW P ops (ZBd b T2 ds::hp) (fun _:Unit=>ZBd b T2 (ds.set k d)::hp) (fun _=>dX undef) ⟨dst,.store T1 (.tmp t) x,ty,ps,af,none⟩ fr:=⟨rfl,fun {P0 B w0 w a} hh hon KK QQ hkk=>by
 obtain ⟨cs,c1,c2,c3,c4⟩:=hh.ok (ZBd b T2 ds) (by simp)
 have h1:a.eval (.tmp t)=_:=hp0.get (by simp [Op.operands]) hon
 have hd:d.rd (Imm P0 B (ZBd b T2 ds::hp)) w (a.eval x):=hx.get (by simp [Op.operands]) hon
 obtain ⟨us,u1,u0,u2,u3,u4⟩:=hs _ _ _ hd
 obtain ⟨u,rfl⟩:∃ u,us=[u]:=List.length_eq_one_iff.1 u1
 have hu:a.eval x=u:=by
  simp only [Bool.false_eq_true,if_false] at u4
  exact (List.cons.inj u4).1.symm
 have hone:u.oneCell'=true:=u2 u (by simp)
 have hdu:d.rd (Imm P0 B (ZBd b T2 ds::hp)) w u:=by rw [hu] at hd;exact hd
 have hkc:k<cs.length:=by omega
 have hset:=setCell_eq_setRow w b k cs.toArray T2 (0,0) u c1
 have hc:w.cell? ⟨b,k,none⟩=some cs[k]:=by simp [World.cell?,c1,hkc]
 have hfz:w.frozen? ⟨b,k,none⟩=false:=by simp [World.frozen?,c1]
 have hst:(store ((⟨b,k,none⟩:Addr).add 0) u).run P w = .ok () (w.setCell ⟨b,k,none⟩ u):=by
  rw [show ((⟨b,k,none⟩:Addr).add 0)=⟨b,k,none⟩ from rfl,run_store P w _ u _ hone,hc]
  simp [hfz]
 have hsz:(sizeOf T1).run P w = .ok 1 w:=by
  have h5:=T'.size
  cases hq:P.info? T1 with
  | none=>rw [hq] at h5;cases h5
  | some i =>
   rw [hq] at h5
   have:i.size=1:=by simpa using h5
   rw [<- this]
   rw [run_sizeOf w hq]
   simp [Program.cellsOf,hq]
 have hw:w.setCell ⟨b,k,none⟩ u=w.setRow b (cs.set k u).toArray:=by rw [hset];simp
 have hrun:(execOp a.eval ⟨dst,.store T1 (.tmp t) x,ty,ps,af,none⟩).run P w = .ok .skip (w.setRow b (cs.set k u).toArray):=by
  rw [<- hw]
  unfold execOp
  simp only [h1,hu,Instr.storeAt,Instr.sureAddr,storeVar,Sem.run_bind,hsz,Result.andThen_ok,Sem.run_pure]
  simp [ZB3 hone,storeCells,hst]
 unfold Oper.wp
 rw [hrun]
 have hgr:w.grownBy (w.setRow b (cs.set k u).toArray) (ZBd b T2 ds).blk:=ZAH
 have hok:(ZBd b T2 (ds.set k d)).ok (fun j=>Imm P0 B (ZBd b T2 ds::hp) j/\j<w.heap.size) (w.setRow b (cs.set k u).toArray):=by
  refine ⟨cs.set k u,setRow_heap w b _ _ _ _ c1,by simp [c2],fun c hc=>?_,fun j c e hc he=>?_⟩
  ·rcases List.mem_or_eq_of_mem_set hc with hc|rfl
   ·exact c3 c hc
   ·exact hone
  ·rw [List.getElem?_set] at hc he
   by_cases hjk:k=j
   ·rw [if_pos hjk,if_pos (by omega)] at hc he
    cases hc;cases he
    exact d.grown (d.bound hdu) hgr fun j q hj=>hj.1.2 (ZBd b T2 ds) (by simp) q
   ·rw [if_neg hjk] at hc he
    exact e.grown (e.bound (c4 j c e hc he)) hgr fun j q hj=>hj.1.2 (ZBd b T2 ds) (by simp) q
 exact hkk () _ _ (hh.write hgr (.inl rfl) hok) (fun d' u hd=>ZN (o':=ZBd b T2 (ds.set k d)) hgr (.inl rfl) hd) rfl⟩
theorem SW.storeR {α:Type} {R:Rel α} {_gR:Good R} {xs:List α} {v:Value} {p:Tmp} {x:Operand} {k:Nat} {y:α} (T':TyI P T 1 false) (hp0:OpD fr (.tmp p) (dX (ZBm v k))) (hx:OpD fr x (dS R y)) (hs:(dS R y).Shape 1 false) (hk:k<xs.length) :
  SW P ops (Zh v e R xs::hp) (fun _:Unit=>Zh v e R (xs.set k y)::hp) (fun _=>dX undef) ⟨dst,.store T (.tmp p) x,ty,ps,af,none⟩ fr:=⟨rfl,fun {P0 B w0 w a} hh hon KK QQ hkk=>by
 have hok:=hh.ok (Zh v e R xs) (by simp)
 have hy:R (Imm P0 B (Zh v e R xs::hp)) w (a.eval x) y:=hx.get (by simp [Op.operands]) hon
 obtain ⟨cs,k1,k0,k2,k3,k4⟩:=hs _ _ _ hy
 have h1:a.eval (.tmp p)=ZBm v k:=hp0.get (by simp [Op.operands]) hon
 have hone:(a.eval x).oneCell'=true:=by
  have:cs=[a.eval x]:=by simpa using k4
  subst this
  exact k2 _ (by simp)
 have hy':R (fun j=>(Imm P0 B (Zh v e R xs::hp) j/\j<w.heap.size)/\v.ownBlock≠some j) w (a.eval x) y :=
  Good.weak (Good.bound hy) fun j hj=>⟨hj,hj.1.2 (Zh v e R xs) (by simp)⟩
 obtain ⟨b,cap,hv,hst,hok',hgr,hob⟩:=ZNu (P:=P) ((Zh v e R xs).bound hok) hk hone hy'
 have hrun:(execOp a.eval ⟨dst,.store T (.tmp p) x,ty,ps,af,none⟩).run P w = .ok .skip (w.setCell ⟨b,k,none⟩ (a.eval x)):=by
  have he:a.eval (.tmp p) = .pointer (some ⟨b,k,none⟩):=by rw [h1,hv];rfl
  unfold execOp
  have hsz:(sizeOf T).run P w = .ok 1 w:=by
   have h5:=T'.size
   cases hq:P.info? T with
   | none=>rw [hq] at h5;cases h5
   | some i =>
    rw [hq] at h5
    have:i.size=1:=by simpa using h5
    rw [<- this]
    rw [run_sizeOf w hq]
    simp [Program.cellsOf,hq]
  simp only [he,Instr.storeAt,Instr.sureAddr,storeVar,Sem.run_bind,hsz,Result.andThen_ok,Sem.run_pure]
  simp [ZB3 hone,storeCells,hst]
 unfold Oper.wp
 rw [hrun]
 have hgr':w.grownBy (w.setCell ⟨b,k,none⟩ (a.eval x)) (Zh v e R xs).blk:=by
  show w.grownBy _ v.ownBlock
  rw [hob];exact hgr
 exact hkk () _ _ (hh.write hgr' (.inl rfl) hok') (fun d' u hd=>ZN (o':=Zh v e R (xs.set k y)) hgr' (.inl rfl) hd) rfl⟩
end
end
section
open Go.RowKit
theorem ZNk (z:Value) (n:Nat):(madeCells #[z] n).toList=List.replicate n z:=by
 unfold madeCells
 apply List.ext_getElem (by simp)
 intro i h1 h2
 simp [Nat.mod_one]
end
section
open Go.RowKit
def upV {ι β:Type} [DecidableEq ι] (u:ι->β) (i:ι) (v:β):ι->β:=fun j=>if j=i then v else u j
theorem ZLE {ι β:Type} [DecidableEq ι] {u:ι->β} {i:ι} {v:β}:upV u i v i=v:=if_pos rfl
theorem ZRH {ι β:Type} [DecidableEq ι] {u:ι->β} {i j:ι} {v:β} (h:j≠i):upV u i v j=u j:=if_neg h
section
variable {ι α:Type} [DecidableEq ι] {u:ι->Value} {e:TypeId} {R:Rel α} {c:ι->List α} {L:List ι} {i:ι} {A B:List HObj}
def gR (L:List ι) (u:ι->Value) (e:TypeId) (R:Rel α) [Good R] (c:ι->List α):List HObj:=L.map fun i=>Zh (u i) e R (c i)
omit [DecidableEq ι] in
theorem ZQ3 [Good R] (h:i∈L):Zh (u i) e R (c i)∈gR L u e R c:=List.mem_map.2 ⟨i,h,rfl⟩
theorem ZNY [Good R] (h:i∈L):(gR L u e R c).Perm (Zh (u i) e R (c i)::gR (L.erase i) u e R c):=by
 have:=(List.perm_cons_erase h).map fun i=>Zh (u i) e R (c i)
 simpa [gR] using this
theorem ZRi [Good R] (hn:L.Nodup) (h:i∈L) {u':ι->Value} {c':ι->List α} (hu:∀ j,j≠i->u' j=u j) (hc:∀ j,j≠i->c' j=c j):(Zh (u' i) e R (c' i)::gR (L.erase i) u e R c).Perm (gR L u' e R c'):=by
 refine List.Perm.trans (List.Perm.cons _ ?_) (ZNY h).symm
 have:gR (L.erase i) u e R c=gR (L.erase i) u' e R c':=by
  unfold gR
  refine List.map_congr_left fun j hj=>?_
  have hne:j≠i:=fun e=>by subst e;exact (List.Nodup.not_mem_erase hn) hj
  rw [hu j hne,hc j hne]
 rw [this]
theorem ZQ4 [Good R] (h:i∈L):(A++(gR L u e R c++B)).Perm (Zh (u i) e R (c i)::(A++(gR (L.erase i) u e R c++B))):=by
 refine ((List.Perm.append_right B (ZNY h)).append_left A).trans ?_
 exact List.perm_middle
theorem gR_in [Good R] (hn:L.Nodup) (h:i∈L) {u':ι->Value} {c':ι->List α} (hu:∀ j,j≠i->u' j=u j) (hc:∀ j,j≠i->c' j=c j):(Zh (u' i) e R (c' i)::(A++(gR (L.erase i) u e R c++B))).Perm (A++(gR L u' e R c'++B)):=by
 refine List.perm_middle.symm.trans ?_
 exact (List.Perm.append_right B (ZRi hn h hu hc)).append_left A
omit [DecidableEq ι] in
theorem ZGH [Good R] {P:Program} {Q:ZAE} {cd:Code} {fr:List Dat} {hp:List HObj} (e:TypeId):∀ L:List ι,WC P Q cd fr (gR L (fun _=>.slice none 0 0) e R (fun _=>([]:List α))++hp)->WC P Q cd fr hp
 | [],h=>h
 | _::L,h=>ZGH e L (ZB0 e R h)
end
section
variable {P:Program} {ops:Array Oper} {hp:List HObj} {fr:List Dat} {d:Dat} {Q:ZAE} {rest:List Oper}
variable {dst:Option Tmp} {ty:TypeId} {ps:String} {af:Array Edge} {bytes:Nat} {e t T:TypeId} {α:Type} {R:Rel α} {_gR:Good R}
theorem SW.gApp {ι:Type} [DecidableEq ι] {L:List ι} {i:ι} {u:ι->Value} {c c':ι->List α} {A B:List HObj} {s x:Operand} {z:Value} {ag:Bool} (E:ElT P t e 1 z bytes ag) {y:α} (hn:L.Nodup) (hi:i∈L) (hc1:c' i=c i++[y]) (hc2:∀ j,j≠i->c' j=c j) (hs:OpD fr s (dX (u i))) (hx:OpD fr x (dS (Arr R) [y])) (hby:0<bytes) (hlen:((c i).length+1)*bytes≤140737488355328) :
  SW P ops (A++(gR L u e R c++B)) (fun v'=>A++(gR L (upV u i v') e R c'++B)) (fun v'=>dX v') ⟨dst,.call { callee:=.builtin .append,args:=#[s,x],argTypes:=#[t,t] },ty,ps,af,none⟩ fr :=
 SW.perm (ZQ4 hi) (fun v'=>by
  have hp:=gR_in (R:=R) (A:=A) (B:=B) (u:=u) (u':=upV u i v') (e:=e) (c:=c) (c':=c') hn hi (fun j hj=>ZRH hj) hc2
  rw [ZLE,hc1] at hp
  exact hp) (SW.app1 E hs hx hby hlen)
theorem ZI1 {u:Nat->Value} {n k:Nat} {v:Value} (_:k<n):((List.range n).map u).set k v=(List.range n).map (upV u k v):=by
 apply List.ext_getElem (by simp)
 intro j h1 h2
 rw [List.getElem_set]
 simp only [List.getElem_map,List.getElem_range]
 by_cases hj:k=j
 ·subst hj;rw [if_pos rfl,ZLE]
 ·rw [if_neg hj,ZRH (fun e=>hj e.symm)]
theorem ZII {n k:Nat} {u:Nat->Value} {v w:Value} {c:Nat->List α} {B:List HObj} {e2:TypeId} {p q:Tmp} (T':TyI P T 1 false) (hk:k<n) (hp0:OpD fr (.tmp p) (dX (ZBm w k))) (hx:fr[q]?=some (dX v))
  (hh:WL P ops Q rest (ZB fr dst (dX undef)) ([Zh w e ZDf ((List.range n).map (upV u k v))]++(gR (List.range n) (upV u k v) e2 R c++B))) :
  WL P ops Q (⟨dst,.store T (.tmp p) (.tmp q),ty,ps,af,none⟩::rest) fr ([Zh w e ZDf ((List.range n).map u)]++(gR (List.range n) (upV u k v) e2 R c++B)):=by
 have hm:Zh v e2 R (c k)∈([Zh w e ZDf ((List.range n).map u)]++(gR (List.range n) (upV u k v) e2 R c++B)):=by
  refine List.mem_append_right _ (List.mem_append_left _ ?_)
  have:=ZQ3 (R:=R) (u:=upV u k v) (e:=e2) (c:=c) (L:=List.range n) (i:=k) (List.mem_range.2 hk)
  rwa [ZLE] at this
 refine ZKE hm fun hone=>ZEP (SW.storeR (R:=ZDf) (_gR:=inferInstance) T' hp0 (OpD.tle hx (ZSy hone)) ZOJ (by simpa using hk)) fun _=>?_
 rw [ZI1 hk]
 exact hh
theorem ZFU {n:Nat} {j:Int} {y y':Operand} (E:ElT P t e 1 (.slice none 0 0) bytes false) (hy:OpD fr y (dI j)) (hy':OpD fr y' (dI j)) (hj:j=(n:Int)) (hb:bytes*n≤281474976710656) (hm:n≤1000000000) (h:∀ v,WL P ops Q rest (ZB fr dst (dX v)) (Zh v e ZDf ((List.range n).map fun _=>Value.slice none 0 0)::hp)) :
  WL P ops Q (⟨dst,.makeSlice t y y',ty,ps,af,none⟩::rest) fr hp:=by
 refine WL.of fun P0 B w0 w a hh hf=>?_
 have h1:a.eval y = .int .i64 n:=by rw [<- hj];exact hy.ev hf
 have h2:a.eval y' = .int .i64 n:=by rw [<- hj];exact hy'.ev hf
 have hr:=run_make_row' (P:=P) t e (.slice none 0 0) bytes E.und E.info rfl .i64 .i64 n hb (by omega) w
 refine Zi rfl (v:=.slice (some ⟨w.heap.size,0,none⟩) n n) (w':=w.alloc (.cells (madeCells #[.slice none 0 0] n) e)) ?_ ?_
 ·unfold execOp
  simp only [h1,h2,Sem.run_bind,hr,Result.andThen_ok,Sem.run_pure]
 have hx:=Ext.of_alloc w (.cells (madeCells #[.slice none 0 0] n) e)
 have hb':∀ q,(Zh (.slice (some ⟨w.heap.size,0,none⟩) n n) e ZDf ((List.range n).map fun _=>Value.slice none 0 0)).blk=some q->w.heap.size≤q/\q<(w.alloc (.cells (madeCells #[.slice none 0 0] n) e)).heap.size:=fun q hq=>by
  cases hq
  exact ⟨Nat.le_refl _,by simp⟩
 refine (h _).on (hh.push hx hb' ?_) (Fr.put (hf.mono fun d _ hd=>Z8 hx (fun k hk=>(hb' k hk).1) hd) rfl)
 refine ⟨List.replicate n (.slice none 0 0),by simp,⟨by simp,.inr ⟨w.heap.size,n,madeCells #[.slice none 0 0] n,by simp,Nat.zero_le _,Zx w _,by simp,by simp only [maxLen];omega,by simp [size_madeCells],?_⟩⟩,fun k a b=>?_⟩
 ·rw [ZNk,List.length_map,List.length_range,Nat.mul_one,List.take_of_length_le (by simp)]
 ·simp only [List.getElem_replicate,List.getElem_map]
  exact ⟨rfl,rfl,rfl⟩
end
end
section
open Go.RowKit
structure SeqN (P:Program) (gf:FuncId) (lb:List Value) (hk:List HObj) {α:Type} (D:α->Dat) (xs:List α) (N:Nat):Prop where
 out:∀ (l:Nat) (J:List α->List HObj->Prop),YStep P l D J N->∀ js,J [] js->CallC P gf (dX (.func (.yield l) #[] #[])::lb.map dX) (js++hk) (fun _ hp2=>∃ js',J xs js'/\hp2=js'++hk)
theorem ZOf {P:Program} {g:Operand} {p:Tmp} {assign body:Code} {Q:Exit->Act->World->Prop} {P0:Nat->Prop} {B:Nat} {w0 w:World} {a:Act} {fr:List Dat} {gf:FuncId} {lb:List Value} {hk hp hs0:List HObj} {α:Type} {D:α->Dat} {xs:List α} (H:List α->List HObj->Prop) (F0:List Dat) (F1:α->List Dat)
  (hh:Hp P0 B w0 (hs0++(hk++hp)) w) (hf:Fr (Imm P0 B (hs0++(hk++hp))) w { tmps:=a.tmps,defers:=[] } fr) (hg:OpD fr g (dX (.func (.func gf) #[] lb.toArray))) (he:ZAw P gf) {N:Nat} (hS:SeqN P gf lb hk D xs N) (h0:H [] hs0) (hF:FixF fr F0)
  (hassign:∀ (l:Nat) (x:α) (q:List HObj),WR P l (fun e f q'=>e = .normal/\q'=q/\f=F1 x) assign (F0.set p (D x)) q)
  (hbody:∀ (l:Nat) (pre:List α) (x:α) (hs q:List HObj),pre.length<N->H pre hs->WR P l (fun e _ q'=>e = .normal/\∃ hs',H (pre++[x]) hs'/\q'=hs'++q) body (F1 x) (hs++q))
  (hpost:∀ (k:Nat) (hs:List HObj) (w':World),H xs hs->Hp P0 B w0 (Z2 k (.deferred (some []))::(hs++(hk++hp))) w'->(∀ (t:Nat) (d:Dat),fr[t]?=some d->d.rd (Imm P0 B (Z2 k (.deferred (some []))::(hs++(hk++hp)))) w' (a.tmps.getD t undef)) ->
   Q .normal { a with defers:={ target:=.collected k,args:=#[] }::a.defers } w'):(Code.rangeFunc g #[p] assign body).wp P Q a w:=by
 refine (wpIn_wide (n:=0)).1 (wpIn_rangeFunc ?_)
 intro fn hfn
 rw [show Fence.wide.round=none from rfl]
 obtain ⟨rec,hrec⟩:∃ rec:LoopState->Option Code->Loop,rec=fun st pe=>{ state:=st,pending:=pe,fn,tmps:=a.tmps,params:=#[p],assign,body,defers:=w.heap.size }:=⟨_,rfl⟩
 obtain ⟨W1,hW1⟩:∃ W1,(w.alloc (.deferred (some []))).alloc (.loop (rec .ready none))=W1:=⟨_,rfl⟩
 have hgb:(hFr a fr).blk=none:=rfl
 have hG:Hp P0 B w0 (hs0++(hk++(hFr a fr::hp))) w:=by
  have:=ZAz (l:=hs0++hk) (hp:=hp) hgb (by rw [List.append_assoc];exact hh) (by rw [List.append_assoc];exact hf.rd)
  rw [List.append_assoc] at this
  exact this
 have hA:Hp P0 B w0 (Z2 w.heap.size (.deferred (some []))::(hs0++(hk++(hFr a fr::hp)))) (w.alloc (.deferred (some []))) :=
  hG.push (Ext.of_alloc _ _) (fun k hk=>by cases hk;simp) (World.alloc_heap_new w _)
 have hB:Hp P0 B w0 (Z2 (w.heap.size+1) (.loop (rec .ready none))::Z2 w.heap.size (.deferred (some []))::(hs0++(hk++(hFr a fr::hp)))) W1:=by
  rw [<- hW1]
  refine hA.push (Ext.of_alloc _ _) (fun k hk=>by cases hk;simp) ?_
  have:=World.alloc_heap_new (w.alloc (.deferred (some []))) (.loop (rec .ready none))
  rwa [World.size_alloc] at this
 have hJ0:(∃ hs,H [] hs/\(Z2 (w.heap.size+1) (.loop (rec .ready none))::Z2 w.heap.size (.deferred (some []))::hs0)=Z2 (w.heap.size+1) (.loop (rec .ready none))::Z2 w.heap.size (.deferred (some []))::hs):=⟨hs0,h0,rfl⟩
 have hY:YStep P (w.heap.size+1) D (fun pre js=>∃ hs,H pre hs/\js=Z2 (w.heap.size+1) (.loop (rec .ready none))::Z2 w.heap.size (.deferred (some []))::hs) N:=⟨fun P0' B' w0' hpX pre js x u W hlt ⟨hs,hH,hjs⟩ hhW hu=>by
  subst hjs
  have hl:W.heap[w.heap.size+1]?=some (.loop (rec .ready none)):=hhW.ok (Z2 (w.heap.size+1) (.loop (rec .ready none))) (by simp)
  have hy:=run_yield (P:=P) (args:=#[u]) hl (by rw [hrec];simp)
  refine ⟨_,_,_,_,hy,roundIn_of_wpIn trivial ?_⟩
  have ha:(rec .ready none).assign=assign:=by rw [hrec]
  have hbd:(rec .ready none).body=body:=by rw [hrec]
  have ht:(rec .ready none).params=#[p]:=by rw [hrec]
  have htm:(rec .ready none).tmps=a.tmps:=by rw [hrec]
  rw [ha,hbd,ht,htm]
  have hfrR:Fr (Imm P0' B' (Z2 (w.heap.size+1) (.loop (rec .ready none))::Z2 w.heap.size (.deferred (some []))::hs++hpX)) W { tmps:=a.tmps.setIfInBounds p u,defers:=[] } (F0.set p (D x)) :=
   Fr.put (x:=some p) (hF.fr hf) hu
  refine wpIn_mono (Q:=ZCN (fun e f q'=>e = .normal/\q'=Z2 (w.heap.size+1) (.loop (rec .ready none))::Z2 w.heap.size (.deferred (some []))::hs++hpX/\f=F1 x) P0' B' w0') ?_ ?_
  ·exact (hassign (w.heap.size+1) x _).out P0' B' w0' W _ hhW (by simpa using hfrR)
  rintro e a1 w1 ⟨f1,q1,⟨rfl,rfl,rfl⟩,hh1,hf1⟩
  have hl1:w1.heap[w.heap.size+1]?=some (.loop (rec .ready none)):=hh1.ok (Z2 (w.heap.size+1) (.loop (rec .ready none))) (by simp)
  refine ⟨_,run_beginRound hl1 (by rw [hrec]),?_⟩
  have hbz:({ rec .ready none with state:=.busy }:Loop)=rec .busy none:=by rw [hrec]
  rw [hbz]
  have hh2:Hp P0' B' w0' (Z2 (w.heap.size+1) (.loop (rec .busy none))::(Z2 w.heap.size (.deferred (some []))::(hs++hpX))) (w1.putObj (w.heap.size+1) (.loop (rec .busy none))):=Hp.putObj (o:=.loop (rec .ready none)) hh1
  have hf2:Fr (Imm P0' B' (Z2 (w.heap.size+1) (.loop (rec .busy none))::(Z2 w.heap.size (.deferred (some []))::(hs++hpX)))) (w1.putObj (w.heap.size+1) (.loop (rec .busy none))) a1 (F1 x):=hf1.mono fun d v hd=>ZAO (o:=.loop (rec .ready none)) hd
  obtain ⟨hh3,hI3⟩:=hh2.perm ZBG
  refine wpIn_mono ((hbody (w.heap.size+1) pre x hs _ hlt hH).out P0' B' w0' _ _ hh3 (hf2.mono fun d v hd=>d.weak hd fun k hk=>(hI3 k).1 hk)) ?_
  rintro e a3 w3 ⟨f3,q3,⟨rfl,hs',hH',rfl⟩,hh4,hf4⟩
  obtain ⟨hh5,_⟩:=hh4.perm ZBG.symm
  have hl3:w3.heap[w.heap.size+1]?=some (.loop (rec .busy none)):=hh5.ok (Z2 (w.heap.size+1) (.loop (rec .busy none))) (by simp)
  have hrz:({ rec .busy none with state:=if (none:Option Code).isNone then .ready else .done,pending:=none }:Loop)=rec .ready none:=by rw [hrec];rfl
  have hend:=run_endRound (P:=P) none hl3
  rw [hrz] at hend
  refine ⟨_,_,hend,rfl,_,⟨hs',hH',rfl⟩,?_⟩
  exact Hp.putObj (o:=.loop (rec .busy none)) hh5⟩
 have hC:=(hS.out (w.heap.size+1) _ hY _ hJ0).out P0 B w0 (hFr a fr::hp) (.func (.yield (w.heap.size+1)) #[] #[]::lb) W1 (by simpa using hB) (by simp) (fun i d hd=>by
  cases i with
  | zero=>simp at hd;subst hd;rfl
  | succ i =>
   simp only [List.getElem?_cons_succ,List.getElem?_map] at hd
   cases hq:lb[i]? with
   | none=>rw [hq] at hd;cases hd
   | some u=>rw [hq] at hd;cases hd;simp [List.getD,hq];rfl)
 refine ⟨w.heap.size+1,[{ target:=.collected w.heap.size,args:=#[] }],W1,{ target:=.fn (.func gf) lb.toArray,args:=#[.func (.yield (w.heap.size+1)) #[] #[]] },W1,gf,
  (.func (.yield (w.heap.size+1)) #[] #[]::lb).toArray,W1,?_,?_,fun _ _=>trivial,?_,fun h=>by simp [Fence.wide] at h,?_⟩
 ·rw [<- hW1,hrec];exact run_enterLoop_outer _ _ _ _ _
 ·have hev0:({ tmps:=a.tmps,defers:=[] }:Act).eval g = .func (.func gf) #[] lb.toArray:=hg.ev hf
  have hev:a.eval g = .func (.func gf) #[] lb.toArray:=hev0
  simp only [resolve,hev]
  simp [go_sem]
 ·have:=he (.func (.yield (w.heap.size+1)) #[] #[]::lb).toArray W1
  simp [invoke,go_sem,this]
 ·refine callsIn_wide.2 (hC.mono ?_)
  rintro e w2 ⟨v,d,hp2,rfl,⟨js',⟨hs,hH,rfl⟩,rfl⟩,hh2,_⟩
  have hl2:w2.heap[w.heap.size+1]?=some (.loop (rec .ready none)):=hh2.ok (Z2 (w.heap.size+1) (.loop (rec .ready none))) (by simp)
  have hend:=run_endLoop (P:=P) hl2 (by rw [hrec];simp)
  have hpn:(rec .ready none).pending=none:=by rw [hrec]
  obtain ⟨rx,hrx⟩:∃ rx:Loop,rx={ rec .ready none with state:=.exhausted }:=⟨_,rfl⟩
  rw [<- hrx,hpn] at hend
  refine ⟨none,_,hend,?_⟩
  have hh3:Hp P0 B w0 (Z2 (w.heap.size+1) (.loop rx)::(Z2 w.heap.size (.deferred (some []))::(hs++(hk++(hFr a fr::hp))))) (w2.putObj (w.heap.size+1) (.loop rx)) :=
   Hp.putObj (o:=.loop (rec .ready none)) (by simpa using hh2)
  have hh4:=hh3.drop
  have hh5:Hp P0 B w0 ((Z2 w.heap.size (.deferred (some []))::(hs++hk))++hFr a fr::hp) (w2.putObj (w.heap.size+1) (.loop rx)):=by simpa using hh4
  obtain ⟨hh6,hok⟩:=hh5.unghost hgb
  have e1:(Z2 w.heap.size (.deferred (some []))::(hs++hk))++hp=Z2 w.heap.size (.deferred (some []))::(hs++(hk++hp)):=by simp
  rw [e1] at hh6 hok
  have:=hpost w.heap.size hs _ hH hh6 hok
  simpa using this
end
end Go.Proofs.YtokmalofdapffaaGreat
