/- Part 33: walks by contracts, and plain laws. -/
import Derived.Test.YtlgmojhmmbhgfaaGreatDoorVg31
import Derived.Test.YtlgmojhmmbhgfaaGreatDoorVg32
set_option linter.unusedVariables false
set_option linter.unusedSimpArgs false
set_option linter.unusedSectionVars false
set_option maxRecDepth 100000
set_option maxHeartbeats 4000000
namespace Go.Proofs.YtlgmojhmmbhgfaaGreatDoor
section
open Go.RowKit
section
variable {P:Program} {ops:Array Oper} {hp:List HObj} {fr:List Dat} {d:Dat} {dst:Option Tmp} {ty:TypeId} {ps:String} {af:Array Edge} {t e:TypeId} {n:Nat} {z:Value} {bytes:Nat} {ag:Bool}
theorem ZIR {x:Operand} {t b n:Nat} {T T2:TypeId} {agg:Bool} {d0:Dat} (hT:TyI P T n agg) (hp0:OpD fr (.tmp t) (dX (.pointer (some ⟨b,0,none⟩)))) (hx:OpD fr x d) (hs:d.Shape n agg) :
  SW P ops (ZQ b T2 n agg d0::hp) (fun _:Unit=>ZQ b T2 n agg d::hp) (fun _=>dX undef) ⟨none,.store T (.tmp t) x,ty,ps,af,none⟩ fr:=⟨rfl,fun {P0 B w0 w a} hh ho K Q hk=>by
 obtain ⟨cs,u,c1,c2,c0,c3,c4,c5⟩:=hh.ok (ZQ b T2 n agg d0) (by simp)
 have h1:d.rd (Imm P0 B (ZQ b T2 n agg d0::hp)) w (a.eval x):=hx.get (by simp [Op.operands]) ho
 obtain ⟨cs',k1,k0,k2,k3,k4⟩:=hs _ _ _ h1
 have h2:a.eval (.tmp t) = .pointer (some ⟨b,0,none⟩):=hp0.get (by simp [Op.operands]) ho
 have hr:=ZB7 (u:=a.eval x) hT.size c1 c2 k1 k2 k3
 have hrun:(execOp a.eval ⟨none,.store T (.tmp t) x,ty,ps,af,none⟩).run P w = .ok .skip (w.setRow b cs'.toArray):=by
  unfold execOp
  simp only [h2,Sem.run_bind,hr,Result.andThen_ok,Sem.run_pure]
 unfold Oper.wp
 rw [hrun]
 have hgr:w.grownBy (w.setRow b cs'.toArray) (ZQ b T2 n agg d0).blk:=ZAj
 have hok:(ZQ b T2 n agg d).ok (fun k=>Imm P0 B (ZQ b T2 n agg d0::hp) k/\k<w.heap.size) (w.setRow b cs'.toArray) :=
  ⟨cs',a.eval x,setRow_heap w b _ _ _ _ c1,k1,k0,k2,k4,d.grown (d.bound h1) hgr (fun k hk hc=>hc.1.2 _ (by simp) hk)⟩
 exact hk () undef _ (hh.write hgr (.inl rfl) hok) (fun d' u hd=>ZM (o':=ZQ b T2 n agg d) hgr (.inl rfl) hd) rfl⟩
theorem SW.appK {s y:Operand} (E:ElT P t e n z bytes ag) {α:Type} {R:Rel α} {_gR:Good R} {v:Value} {xs ys:List α} (hs:OpD fr s (dX v)) (hy:OpD fr y (dS (ArrK n R) ys)) (hby:0<bytes)
  (hlen:(xs.length+ys.length)*bytes≤140737488355328) :
  SW P ops (ZV v e n R xs::hp) (fun v':Value=>ZV v' e n R (xs++ys)::hp) (fun v'=>dX v') ⟨dst,.call { callee:=.builtin .append,args:=#[s,y],argTypes:=#[t,t] },ty,ps,af,none⟩ fr:=⟨rfl,fun {P0 B w0 w a} hh ho K Q hk=>by
 obtain ⟨ad,cap,hv,c1,c2,c0,c3⟩:=(hy.get (by simp [Op.operands,Call.operands]) ho:ArrK n R _ _ _ _)
 have hm:xs.length+ys.length≤maxLen:=by
  have:(xs.length+ys.length)*1≤(xs.length+ys.length)*bytes:=Nat.mul_le_mul_left _ hby
  simp only [maxLen];omega
 have hse:a.eval s=v:=hs.get (by simp [Op.operands,Call.operands]) ho
 cases ad with
 | none =>
  have hy0:ys=[]:=by
   cases ys with
   | nil=>rfl
   | cons y ys=>obtain ⟨_,_,_,_,_,_,hc,_⟩:=c3 0 (by simp);cases hc
  subst hy0
  obtain ⟨us,_,_,_,hown,_⟩:=hh.ok (ZV v e n R xs) (by simp)
  have hrun:(execOp a.eval ⟨dst,.call { callee:=.builtin .append,args:=#[s,y],argTypes:=#[t,t] },ty,ps,af,none⟩).run P w = .ok (.value v) w:=by
   have hr:=ZAn (P:=P) (ty:=ty) (w:=w) E hown cap
   have hv':a.eval y = .slice none 0 cap:=hv
   unfold execOp
   simp only [resolve,invoke,builtin,List.map_toArray,List.map_cons,List.map_nil,hse,hv',Sem.run_bind,Sem.run_pure,Result.andThen_ok]
   rw [hr]
   simp
  unfold Oper.wp
  rw [hrun]
  have:=hk v v w
  simp only [List.append_nil] at this
  exact this hh (fun _ _ h=>h) rfl
 | some ad =>
  have hch:∀ k:Nat,∃ cs:List Value,∀ h:k<ys.length,cs.length=n/\(∀ c∈cs,c.oneCell'=true)/\(∀ j c,cs[j]?=some c->w.cell? (ad.add (k*n+j))=some c)/\R (Imm P0 B (ZV v e n R xs::hp)) w (.agg cs.toArray) ys[k]:=fun k=>by
   by_cases hk:k<ys.length
   ·obtain ⟨cs,b,off,r1,r2,r3,r4,r5,r6⟩:=c3 k hk
    cases r4
    exact ⟨cs,fun _=>⟨r2,r3,fun j c hc=>by rw [Addr.add_lit,<- Nat.add_assoc];exact r6 j c hc,r1⟩⟩
   ·exact ⟨[],fun h=>absurd h hk⟩
  obtain ⟨f,hfch⟩:=Classical.axiomOfChoice hch
  have hmem:∀ u∈(List.range ys.length).map f,∃ j,j<ys.length/\u=f j:=fun u hu=>by
   simp only [List.mem_map,List.mem_range] at hu
   obtain ⟨j,hj,rfl⟩:=hu
   exact ⟨j,hj,rfl⟩
  obtain ⟨v',w',hr,r1,r2,r3⟩:=ZCe (ty:=ty) E hh (ad:=ad) (c:=cap) (ys:=ys) (news:=(List.range ys.length).map f) (by simp) (fun j u hu=>by
    have hlt:=(List.getElem?_eq_some_iff.1 hu).1
    have hfl:((List.range ys.length).map f).flatten.length=ys.length*n:=by
     rw [ZBN (n:=n) fun u hu=>by obtain ⟨j,hj,rfl⟩:=hmem u hu;exact (hfch j hj).1];simp
    rw [hfl] at hlt
    have hq:j / n<ys.length:=(Nat.div_lt_iff_lt_mul c0).2 hlt
    have hr:j % n<n:=Nat.mod_lt _ c0
    have hj:j=(j / n)*n+j % n:=by rw [Nat.mul_comm];exact (Nat.div_add_mod j n).symm
    have hlen':=(hfch (j / n) hq).1
    have hg:=Zm (us:=(List.range ys.length).map f) (n:=n) (k:=j / n) (j:=j % n) (fun u hu=>by obtain ⟨j,hj,rfl⟩:=hmem u hu;exact (hfch j hj).1) (by simpa using hq) (c:=(f (j / n))[j % n]'(by omega)) (by simp)
    rw [<- hj,hu] at hg
    cases hg
    have:=(hfch (j / n) hq).2.2.1 (j % n) _ (List.getElem?_eq_getElem (by omega))
    rw [<- hj] at this
    exact this)
   (fun u hu=>by obtain ⟨j,hj,rfl⟩:=hmem u hu;exact ⟨(hfch j hj).1,(hfch j hj).2.1⟩) (fun k h1 h2=>by
    simp only [List.getElem_map,List.getElem_range]
    exact (hfch k h2).2.2.2) hlen hm
  have hrun:(execOp a.eval ⟨dst,.call { callee:=.builtin .append,args:=#[s,y],argTypes:=#[t,t] },ty,ps,af,none⟩).run P w = .ok (.value v') w':=by
   unfold execOp
   simp only [resolve,invoke,builtin,List.map_toArray,List.map_cons,List.map_nil,hse,hv,Sem.run_bind,Sem.run_pure,Result.andThen_ok,hr]
  unfold Oper.wp
  rw [hrun]
  exact hk v' v' w' r1 (fun d u hd=>ZM (o:=ZV v e n R xs) (o':=ZV v' e n R (xs++ys)) r2 r3 hd) rfl⟩
theorem ZDV {Q:ZAL} {c:Code} {t b n:Nat} {T:TypeId} {agg:Bool} (hp0:fr[t]?=some (dX (.pointer (some ⟨b,0,none⟩)))) (h:WC P Q c (fr.set t (dP n agg d)) hp):WC P Q c fr (ZQ b T n agg d::hp):=by
 refine WC.of fun P0 B w0 w a hh hf=>?_
 obtain ⟨cs,u,c1,c2,c0,c3,c4,c5⟩:=hh.ok (ZQ b T n agg d) (by simp)
 have hown:=hh.own (ZQ b T n agg d) (by simp) b rfl
 refine h.on hh.drop ⟨hf.defers,by rw [hf.size,List.length_set],fun t' d' hd'=>?_⟩
 by_cases htt:t=t'
 ·subst htt
  rw [List.getElem?_set] at hd'
  simp only [if_true] at hd'
  split at hd'
  ·cases hd'
   have hv:a.tmps.getD t undef = .pointer (some ⟨b,0,none⟩):=hf.rd t _ hp0
   rw [hv]
   refine ⟨b,0,u,rfl,ZAi c1 c2 c0 c3 c4 ⟨.inr hown.1,fun o' ho' hk=>?_⟩,d.weak c5 Imm.sub⟩
   exact (List.pairwise_cons.1 hh.apart).1 o' ho' b rfl hk
  ·cases hd'
 ·rw [List.getElem?_set_ne htt] at hd'
  exact d'.weak (hf.rd t' d' hd') Imm.sub
end
end
section
open Go.RowKit
section
variable {P:Program} {l:Nat} {Q:ZAL} {fr:List Dat} {hp:List HObj} {c:Code}
theorem ZL4 {α:Type} (e:TypeId) (n:Nat) (hn:0<n) (R:Rel α) [Good R] (h:WR P l Q c fr (ZV (.slice none 0 0) e n R ([]:List α)::hp)):WR P l Q c fr hp:=WR.of fun _ _ _ _ _ hh hf =>
 h.on (hh.push (Ext.refl _) (by simp [ZV,Value.ownBlock]) (OwnK.nil hn)) (hf.mono fun _ _ hd=>Zf (Ext.refl _) (by simp [ZV,Value.ownBlock]) hd)
theorem ZPt {α:Type} {R:Rel α} {_gR:Good R} {v:Value} {e:TypeId} {n t:Nat} {xs:List α} (ht:fr[t]?=some (dX v)) (h:WR P l Q c (fr.set t (dS (ArrK n R) xs)) hp):WR P l Q c fr (ZV v e n R xs::hp):=WR.of fun P0 B w0 w a hh hf=>by
 have hA:ArrK n R (Imm P0 B hp) w v xs:=ZCa hh
 refine h.on hh.drop ⟨hf.defers,by rw [hf.size,List.length_set],fun t' d' hd'=>?_⟩
 by_cases htt:t=t'
 ·subst htt
  rw [List.getElem?_set] at hd'
  simp only [if_true] at hd'
  split at hd'
  ·cases hd'
   have h1:a.tmps.getD t undef=v:=hf.rd t _ ht
   rw [h1]
   exact hA
  ·cases hd'
 ·rw [List.getElem?_set_ne htt] at hd'
  exact d'.weak (hf.rd t' d' hd') Imm.sub
end
theorem ZPh {K:Act->World->Prop} {P0:Nat->Prop} {B:Nat} {w0:World} {dfs:List Deferred} {fr:List Dat} {hp:List HObj} {b k:Nat} {T eT:TypeId} {ds:List Dat} {α:Type} {R:Rel α} {_gR:Good R} {v:Value} {xs:List α} (hk:ds[k]?=some (dX v)) (h:WK K P0 B w0 dfs fr (Zp b T (ds.set k (dS (Arr R) xs))::hp)):WK K P0 B w0 dfs fr (Zp b T ds::ZW v eT R xs::hp):=WK.of fun a w ha hh hf=>by
 obtain ⟨hh1,hI1⟩:=hh.perm (List.Perm.swap _ _ _)
 have hA:Arr R (Imm P0 B (Zp b T ds::hp)) w v xs:=ZBz hh1
 have hh2:=hh1.drop
 have hgr:w.grownBy w (Zp b T ds).blk:=⟨rfl,rfl,rfl,Nat.le_refl _,fun _ _ _=>rfl⟩
 obtain ⟨cs,c1,c2,c3,c4⟩:=hh2.ok (Zp b T ds) (by simp)
 have hkl:=(List.getElem?_eq_some_iff.1 hk).1
 have hkc:k<cs.length:=by omega
 have hv:cs[k]=v:=c4 k _ _ (List.getElem?_eq_getElem hkc) hk
 have hok:(Zp b T (ds.set k (dS (Arr R) xs))).ok (fun j=>Imm P0 B (Zp b T ds::hp) j/\j<w.heap.size) w:=by
  refine ⟨cs,c1,by simp [c2],c3,fun j c e hc he=>?_⟩
  rw [List.getElem?_set] at he
  by_cases hjk:k=j
  ·rw [if_pos hjk,if_pos hkl] at he
   cases he
   subst hjk
   rw [List.getElem?_eq_getElem hkc] at hc
   cases hc
   rw [hv]
   exact (dS (Arr R) xs).bound hA
  ·rw [if_neg hjk] at he
   exact e.bound (c4 j c e hc he)
 refine h.out a w ha (hh2.write hgr (.inl rfl) hok) (hf.mono fun d u hd=>?_)
 exact ZM (o:=Zp b T ds) (o':=Zp b T (ds.set k (dS (Arr R) xs))) hgr (.inl rfl) (d.weak hd fun j hj=>Imm.sub j ((hI1 j).1 hj))
theorem ZLg {k c a1 a2 a3 a4 a5 a6:HObj} {r:List HObj}:(k::c::a1::a2::a3::a4::a5::a6::r).Perm ([a1,a2,a3,a4,a5,a6,c]++([k]++r)):=by
 have h:(([k,c]++[a1,a2,a3,a4,a5,a6])++r).Perm (([a1,a2,a3,a4,a5,a6]++[k,c])++r):=List.Perm.append_right _ List.perm_append_comm
 have h2:(([a1,a2,a3,a4,a5,a6]++[k,c])++r).Perm (([a1,a2,a3,a4,a5,a6]++[c,k])++r):=List.Perm.append_right _ (List.Perm.append_left _ (List.Perm.swap _ _ _))
 simpa using h.trans h2
theorem ZOl {m k c a1 a2 a3 a4 a5 a6:HObj} {r:List HObj}:(m::([a1,a2,a3,a4,a5,a6,c]++([k]++r))).Perm (k::c::([a1,a2,a3,a4,a5,a6]++(m::r))):=by
 have h1:(m::([a1,a2,a3,a4,a5,a6,c]++([k]++r))).Perm (m::k::c::a1::a2::a3::a4::a5::a6::r):=List.Perm.cons m ZLg.symm
 have h2:(([m]++[k,c,a1,a2,a3,a4,a5,a6])++r).Perm (([k,c,a1,a2,a3,a4,a5,a6]++[m])++r):=List.Perm.append_right _ List.perm_append_comm
 refine h1.trans ?_
 simpa using h2
theorem ZOj {a b c d x y:HObj} {r:List HObj}:(a::b::c::d::x::y::r).Perm (x::y::a::b::c::d::r):=by
 have:(([a,b,c,d]++[x,y])++r).Perm (([x,y]++[a,b,c,d])++r):=List.Perm.append_right _ List.perm_append_comm
 simpa using this
theorem ZS6 {a b c d x y:HObj} {r:List HObj}:(x::y::a::b::c::d::r).Perm (b::a::c::d::x::y::r):=ZOj.symm.trans (List.Perm.swap _ _ _)
theorem ZMQ {a b c d e f:HObj} {r:List HObj}:(a::b::c::d::e::f::r).Perm (d::a::e::b::c::f::r):=by
 have h1:(a::b::c::d::e::f::r).Perm (d::a::b::c::e::f::r):=by
  have:(([a,b,c]++[d])++(e::f::r)).Perm (([d]++[a,b,c])++(e::f::r)):=List.Perm.append_right _ List.perm_append_comm
  simpa using this
 have h2:(b::c::e::f::r).Perm (e::b::c::f::r):=by
  have:(([b,c]++[e])++(f::r)).Perm (([e]++[b,c])++(f::r)):=List.Perm.append_right _ List.perm_append_comm
  simpa using this
 exact h1.trans (List.Perm.cons d (List.Perm.cons a h2))

theorem ZMq {P:Program} {ops:Array Oper} {hp:List HObj} {fr:List Dat} {dst:Option Tmp} {ty:TypeId} {ps:String} {af:Array Edge} {g:Option (Nat × Bool)} {T T2:TypeId} {x y:Operand} {p q c:Int} (h:p*q=c) (h0 : -9223372036854775808≤c/\c≤9223372036854775807) (hx:OpD fr x (dI p)) (hy:OpD fr y (dI q)):SY P ops hp ⟨dst,.binOp .mul T x y T2,ty,ps,af,g⟩ fr (dI c):=h ▸ SY.mul hx hy (h.symm ▸ h0)
def orB (bl:List Nat) (k:Nat):Nat:=(bl.take k).foldl (· ||| ·) 0
theorem ZEh {bl:List Nat} {k:Nat} (h:k<bl.length):orB bl (k+1)=orB bl k ||| bl[k]:=by
 unfold orB
 rw [List.take_succ_eq_append_getElem h,List.foldl_append]
 rfl
theorem ZRs {bl:List Nat} (hb:∀ b∈bl,b<1048576):∀ k,orB bl k<1048576:=fun k=>by
 induction k with
 | zero=>show (0:Nat)<1048576;decide
 | succ k ih =>
  by_cases h:k<bl.length
  ·rw [ZEh h]
   exact Nat.or_lt_two_pow (n:=20) ih (hb _ (List.getElem_mem h))
  ·have e:orB bl (k+1)=orB bl k:=by unfold orB;rw [List.take_of_length_le (by omega),List.take_of_length_le (by omega)]
   rw [e];exact ih
def ZPW (M:ZDz) (x:List Vx):Int:=(lookM M (txS x)).getD 0
def ZHW (M:ZDz) (s:List Vx) (bl:List Nat) (k:Nat):Vx:=((k:Int),ZPW M (atB s (orB bl (k+1))))
def ZDs (M:ZDz) (s:List Vx) (bl:List Nat):List Vx:=(List.range bl.length).map (ZHW M s bl)
theorem ZEO {M:ZDz} {s:List Vx} {bl:List Nat}:(ZDs M s bl).length=bl.length:=by simp [ZDs]
theorem ZDa {M:ZDz} {s:List Vx} {bl:List Nat} {k:Nat} (h:k<(ZDs M s bl).length):(ZDs M s bl)[k]=ZHW M s bl k:=by simp [ZDs]
theorem ZHV (s:List Vx) (m:Nat):∀ v∈atB s m,v∈s:=fun v hv=>by
 unfold atB at hv
 obtain ⟨p,hp,rfl⟩:=List.mem_map.1 hv
 have h:=(List.mem_filter.1 hp).1
 obtain ⟨a,i⟩:=p
 have:=List.mem_zipIdx h
 rw [this.2.2]
 exact List.getElem_mem _
def ZKA:Nat->Nat
 | 0=>1
 | n+1=>(n+1)*ZKA n
theorem ZGB:∀ n:Fin 9,ZKA n.val≤40320:=by decide
theorem ZKC (n:Nat) (hn:n≤8):Fn Tryz.prog 34 [dI (n:Int)] (dI ((ZKA n:Nat):Int)):=by
 (refine ZG Tryz.func34 rfl rfl ?_;simp only [Tryz.ntmps34,List.length_cons,List.length_nil,Nat.reduceAdd,Nat.reduceSub,List.replicate_succ,List.replicate_zero,List.cons_append,List.nil_append])
 (repeat' (first|(apply WL.opN;exact yF;dsimp only [ZB,z0,z1])|refine WL.nil ?_|refine ZA fun Kx hK=>?_|(refine hK _ _ ?_;clear hK)|refine WC.region ?_|refine WC.block ?_))
 (refine WC.loopU (X:=Nat) (fun k=>[(3,dI ((ZKA (k+1):Nat):Int)),(4,dI ((k+2:Nat):Int)),(5,dA),(6,dA),(7,dA),(8,dA),(9,dA),(10,dA),(11,dA),(12,dA)]) (fun k=>[]) (fun k=>n-k) (fun k=>k+1≤n\/k=0) 0 ?start ?frame0 ?objs0 ?round)
 case start=>exact .inr rfl
 case frame0=>((try dsimp only [ZK,z0,z1]);repeat (first|exact LeF.nil|refine ZD (k:=?_)))
 case objs0=>rfl
 case round =>
  rintro k h1
  dsimp only [ZK,z0,z1]
  by_cases hk:k+2≤n
  ·have hb:=ZGB ⟨k+1,by omega⟩
   simp only at hb
   have hm:(ZKA (k+1):Int)*((k+2:Nat):Int)=((ZKA (k+2):Nat):Int):=by
    rw [<- Int.natCast_mul]
    congr 1
    rw [Nat.mul_comm]
    rfl
   have hb2:=ZGB ⟨k+2,by omega⟩
   simp only at hb2
   ((repeat' (first|(apply WL.opN;exact yF;dsimp only [ZB,z0,z1])|refine WL.nil ?_|refine ZA fun Kx hK=>?_|(refine hK _ _ ?_;clear hK)|refine WC.region ?_|(apply WL.opN;(focus ((first|(exact ZMq hm (by omega) (OpD.t rfl) (OpD.t rfl))|((first|apply SY.move|apply SY.assign|apply SY.leq) <;> (exact oD))|((first|apply SY.add|apply SY.mul) <;> first|exact oD|omega)|fail);all_goals infer_instance));dsimp only [ZB,z0,z1])|(apply ZC;(exact oD);all_goals (intro h;try exact xD))|refine WC.skip ?_|refine WC.block ?_|refine ThenD.n ?_));all_goals (first|((repeat clear hK);(repeat clear Kx))))
   all_goals try (exfalso;first|contradiction|omega)
   (refine ⟨k+1,?_,by first|omega|(simp only;omega),rfl,?_⟩;rotate_left;((try dsimp only [ZK,z0,z1]);repeat (first|exact LeF.nil|refine ZD (k:=?_)));(try dsimp only))
   omega
  ·((repeat' (first|(apply WL.opN;exact yF;dsimp only [ZB,z0,z1])|refine WL.nil ?_|refine ZA fun Kx hK=>?_|(refine hK _ _ ?_;clear hK)|(refine Kont.skip ?_;clear hK)|refine WC.region ?_|(apply WL.opN;(focus ((first|((first|apply SY.move|apply SY.assign|apply SY.leq) <;> (exact oD))|fail);all_goals infer_instance));dsimp only [ZB,z0,z1])|(apply ZC;(exact oD);all_goals (intro h;try exact xD))|refine WC.ret ?_|refine WC.exit ?_));all_goals (first|((repeat clear hK);(repeat clear Kx))))
   all_goals try (exfalso;first|contradiction|omega)
   (refine ⟨trivial,_,rfl,?_⟩;refine FinD.i ?_)
   have:n=0\/n=k+1:=by omega
   rcases this with rfl|rfl
   ·have:k=0:=by omega
    subst this
    rfl
   ·rfl
def ZKS (l:Cx):Nat:=(l.map fun s=>ZKA s.length).sum
theorem ZJd {l:Cx} {i:Nat} (h:i<l.length):ZKS (l.take (i+1))=ZKS (l.take i)+ZKA l[i].length:=by
 unfold ZKS;rw [List.take_succ_eq_append_getElem h,List.map_append,List.sum_append];simp only [List.map_cons,List.map_nil,List.sum_cons,List.sum_nil,Nat.add_zero]
theorem ZPF {l:Cx} (i:Nat):ZKS (l.take i)≤ZKS l:=by
 conv=>rhs;rw [<- List.take_append_drop i l]
 unfold ZKS
 rw [List.map_append,List.sum_append]
 omega
def ZBw (M:ZDz) (l:Cx):Cx:=l.flatMap fun s=>(ZGl (2 ^ s.length-1)).map (ZDs M s)
theorem ZNF {M:ZDz} {l:Cx} {i:Nat} (h:i<l.length):ZBw M (l.take (i+1))=ZBw M (l.take i)++(ZGl (2 ^ l[i].length-1)).map (ZDs M l[i]):=by
 unfold ZBw;rw [List.take_succ_eq_append_getElem h,List.flatMap_append];simp
theorem ZSK {M:ZDz} {l:Cx} (i:Nat):(ZBw M (l.take i)).length≤(ZBw M l).length:=by
 conv=>rhs;rw [<- List.take_append_drop i l]
 unfold ZBw
 rw [List.flatMap_append,List.length_append]
 omega
end
section
open Go.RowKit

theorem tzAr:TyZ Tryz.prog 28 (.slice none 0 0):=⟨by kernel_rfl⟩
theorem tzBp:TyZ Tryz.prog 58 (.pointer none):=⟨by kernel_rfl⟩
theorem ZLp {K V:Type} {kv:K->Value} {R:Rel V} [Good R] {m:List (K × V)}:(dS (ZKc kv R) m).Shape 1 false:=ZBr fun _ _ _ h=>by
 obtain ⟨b,us,rfl,_⟩:=h
 rfl
end
section
open Go.RowKit
section
variable {P:Program} {ops:Array Oper} {hp:List HObj} {fr:List Dat} {d e:Dat} {dst:Option Tmp} {ty:TypeId} {ps:String} {af:Array Edge} {g:Option (Nat × Bool)} {T T1 T2:TypeId} {x y:Operand}
theorem ZGr {l:Cx} (T':TyI P T1 1 true) (hx:OpD fr x (dP 1 false (dS Zc l))):SY P ops hp ⟨dst,.load T1 x,ty,ps,af,g⟩ fr (dS Cpx l):=SY.val fun {I w a} ho=>by
 obtain ⟨b,off,u,h1,⟨hb,cs,k1,k0,k2,k3,k4⟩,hu⟩:=hx.get (by simp [Op.operands]) ho
 simp only [Bool.false_eq_true,if_false] at k4
 subst k4
 have hc:Cells I w b off 1 true (.agg #[u]):=⟨hb,[u],rfl,Nat.one_pos,k2,k3,rfl⟩
 refine ⟨.agg #[u],?_,u,rfl,k2 u (by simp),hu⟩
 unfold execOp
 simp only [h1,Sem.run_bind,ZA3 T' hc,Result.andThen_ok,Sem.run_pure]
theorem ZDw {i:Operand} {t e:TypeId} {z:Value} {bytes n:Nat} {ag:Bool} (E:ElT P t e n z bytes ag) {α:Type} {R:Rel α} {_gR:Good R} {xs:List α} {k:Nat} {v:α} (hk:k<xs.length) (hv:xs[k]=v) (hx:OpD fr x (dS (ArrK n R) xs)) (hi:OpD fr i (dI (k:Int))):SY P ops hp ⟨dst,.indexAddr t x i,ty,ps,af,g⟩ fr (dP n true (dS R v)):=hv ▸ ZBC E hx hi hk
end
theorem ZUL:StrT Tryz.prog 24 1:=⟨fun b off i w hi=>by
 have:i=0:=by omega
 subst this
 go_simp⟩
end
section
section
variable {s:List Vx}
def GoodS (s:List Vx):Prop:=ZAJ s=0/\Z0 s=true/\s.length≤4
theorem GoodS.len (h:GoodS s):1≤s.length:=by have:=ZO.1 h.1;omega
end
end
section
def ZDu (V:List Vx) (v:Vx):Int:=ZIK (fun y=>decide (v=y)) 0 V
theorem ZLL {α:Type} {p:α->Bool}:∀ (l:List α) (k:Nat),0≤ZIK p k l->∃ j,ZIK p k l=((k+j:Nat):Int)/\∃ h:j<l.length,p l[j]=true
 | [],k,h=>absurd h (by unfold ZIK;omega)
 | x::l,k,h=>by
  unfold ZIK at h ⊢
  by_cases hx:p x=true
  ·rw [if_pos hx];exact ⟨0,by simp,by simp,by simpa using hx⟩
  ·rw [if_neg hx] at h ⊢
   obtain ⟨j,h1,h2,h3⟩:=ZLL l (k+1) h
   exact ⟨j+1,by rw [h1];congr 1;omega,by simpa using h2,by simpa using h3⟩
theorem ZH3 {V:List Vx} {v:Vx} (h:0≤ZDu V v):∃ j:Nat,ZDu V v=(j:Int)/\∃ h:j<V.length,V[j]=v:=by
 obtain ⟨j,h1,h2,h3⟩:=ZLL V 0 h
 exact ⟨j,by rw [Nat.zero_add] at h1;exact h1,h2,(of_decide_eq_true h3).symm⟩
theorem ZUF {V:List Vx} {v:Vx}:0≤ZDu V v↔v∈V:=by
 have h:=ZHo (p:=fun y=>decide (v=y)) V 0
 have e:(0≤ZDu V v)↔decide (0≤ZIK (fun y=>decide (v=y)) 0 V)=true:=by rw [decide_eq_true_eq];rfl
 rw [e,h,List.any_eq_true]
 exact ⟨fun ⟨x,h1,h2⟩=>(of_decide_eq_true h2) ▸ h1,fun h=>⟨v,h,decide_eq_true rfl⟩⟩
theorem ZLj {V:List Vx} (hV:V.Nodup) {k:Nat} (h:k<V.length):ZDu V V[k]=(k:Int):=by
 obtain ⟨j,h1,h2,h3⟩:=ZH3 (ZUF.2 (List.getElem_mem h))
 rw [h1,(List.getElem_inj hV).1 h3]
def ZGw (V:List Vx) (C:Cx) (out:List Vx) (v:Vx):List Vx:=if 0≤ZDu V v then out++(C[(ZDu V v).toNat]?.getD []) else out
def ZJ5 (V:List Vx) (C:Cx) (s:List Vx):List Vx:=s.foldl (ZGw V C) []
def unP (V:List Vx) (C:Cx) (s:List Vx):List Vx:=if (ofV (ZJ5 V C s)).2≠0 then [] else (ofV (ZJ5 V C s)).1
def ZCU (s:List Vx) (out:List Vx) (p:Vx × List Vx):List Vx:=if p.1∈s then ZBE out p.2 else out
def unR (V:List Vx) (C:Cx) (s:List Vx):List Vx:=(V.zip C).foldl (ZCU s) []
theorem ZOS {V:List Vx} {C:Cx} {x:Vx}:∀ (s out:List Vx),x∈s.foldl (ZGw V C) out↔x∈out\/∃ v∈s,0≤ZDu V v/\x∈C[(ZDu V v).toNat]?.getD []
 | [],out=>by simp
 | v::s,out=>by
  rw [List.foldl_cons,ZOS s]
  have e:x∈ZGw V C out v↔x∈out\/(0≤ZDu V v/\x∈C[(ZDu V v).toNat]?.getD []):=by
   unfold ZGw
   by_cases h:0≤ZDu V v
   ·rw [if_pos h,List.mem_append];simp [h]
   ·rw [if_neg h];simp [h]
  rw [e]
  simp only [List.mem_cons,exists_eq_or_imp,or_assoc]
theorem ZNR (V:List Vx) (C:Cx) (hc:∀ c∈C,c.length≤8):∀ (s out:List Vx),(s.foldl (ZGw V C) out).length≤out.length+8*s.length
 | [],out=>by simp
 | v::s,out=>by
  rw [List.foldl_cons]
  have h1:=ZNR V C hc s (ZGw V C out v)
  have h2:(ZGw V C out v).length≤out.length+8:=by
   unfold ZGw
   split
   ·rw [List.length_append]
    have:(C[(ZDu V v).toNat]?.getD []).length≤8:=by
     cases h:C[(ZDu V v).toNat]? with
     | none=>simp
     | some c=>exact hc c (List.mem_of_getElem? h)
    omega
   ·omega
  simp only [List.length_cons]
  omega
theorem ZJK {s:List Vx} {x:Vx}:∀ (L:List (Vx × List Vx)) (out:List Vx),x∈L.foldl (ZCU s) out↔x∈out\/∃ p∈L,p.1∈s/\x∈p.2
 | [],out=>by simp
 | p::L,out=>by
  rw [List.foldl_cons,ZJK L]
  have e:x∈ZCU s out p↔x∈out\/(p.1∈s/\x∈p.2):=by
   unfold ZCU
   by_cases h:p.1∈s
   ·rw [if_pos h,ZBm];simp [h]
   ·rw [if_neg h];simp [h]
  rw [e]
  simp only [List.mem_cons,exists_eq_or_imp,or_assoc]
theorem ZIk {s:List Vx}:∀ (L:List (Vx × List Vx)) {out:List Vx},Asc out->Asc (L.foldl (ZCU s) out)
 | [],_,h=>h
 | p::L,out,h=>by
  rw [List.foldl_cons]
  refine ZIk L ?_
  unfold ZCU
  split
  ·exact ZCr h
  ·exact h
theorem ZKU (V:List Vx) (C:Cx) (s:List Vx):Asc (unR V C s):=ZIk _ (by simp [Asc])
theorem ZJb (s:List Vx):∀ (L:List (Vx × List Vx)) (out:List Vx),(∀ p∈L,p.2.length≤8)->(L.foldl (ZCU s) out).length≤out.length+8*L.length
 | [],out,_=>by simp
 | p::L,out,h=>by
  rw [List.foldl_cons]
  have h1:=ZJb s L (ZCU s out p) fun q hq=>h q (by simp [hq])
  have h2:(ZCU s out p).length≤out.length+8:=by
   unfold ZCU
   split
   ·have:=ZB0 p.2 out
    have:=h p (by simp)
    omega
   ·omega
  simp only [List.length_cons]
  omega
theorem ZD6 {V:List Vx} {C:Cx} {s:List Vx} {x:Vx}:x∈unR V C s↔∃ (k:Nat) (h:k<V.length) (h':k<C.length),V[k]∈s/\x∈C[k]:=by
 unfold unR
 rw [ZJK]
 constructor
 ·rintro (h|⟨p,hp,h1,h2⟩)
  ·cases h
  ·obtain ⟨k,hk,rfl⟩:=List.mem_iff_getElem.1 hp
   rw [List.length_zip] at hk
   rw [List.getElem_zip] at h1 h2
   exact ⟨k,by omega,by omega,h1,h2⟩
 ·rintro ⟨k,h,h',h1,h2⟩
  exact .inr ⟨(V[k],C[k]),List.mem_iff_getElem.2 ⟨k,by rw [List.length_zip];omega,by rw [List.getElem_zip]⟩,h1,h2⟩
theorem ZQt {V:List Vx} {C:Cx} (hV:V.Nodup) (hl:C.length=V.length) {s:List Vx} {x:Vx}:x∈ZJ5 V C s↔x∈unR V C s:=by
 unfold ZJ5
 rw [ZOS,ZD6]
 constructor
 ·rintro (h|⟨v,h1,h2,h3⟩)
  ·cases h
  ·obtain ⟨j,e,hj,rfl⟩:=ZH3 h2
   rw [e,Int.toNat_natCast,List.getElem?_eq_getElem (by omega),Option.getD_some] at h3
   exact ⟨j,hj,by omega,h1,h3⟩
 ·rintro ⟨k,h,h',h1,h2⟩
  refine .inr ⟨V[k],h1,?_,?_⟩
  ·rw [ZLj hV h];omega
  ·rw [ZLj hV h,Int.toNat_natCast,List.getElem?_eq_getElem h',Option.getD_some];exact h2
theorem ZUO {V:List Vx} {C:Cx} (hV:Asc V) (hl:C.length=V.length) (hc:∀ c∈C,ZAJ c=0) (s:List Vx):unP V C s=if 8<(unR V C s).length then [] else unR V C s:=by
 have hm:=fun x=>ZQt (ZIj hV) hl (s:=s) (x:=x)
 have e:ZBE [] (ZJ5 V C s)=unR V C s:=ZDD (ZCr (by simp [Asc])) (ZKU _ _ _) fun x=>by rw [ZBm,hm];simp
 have hr:(ZJ5 V C s).all ZEt=true:=List.all_eq_true.2 fun x hx=>by
  obtain ⟨k,h,h',_,h2⟩:=ZD6.1 ((hm x).1 hx)
  exact (ZO.1 (hc _ (List.getElem_mem h'))).2.2.1 x h2
 unfold unP ofV
 rw [e]
 by_cases h0:(ZJ5 V C s).length=0
 ·have:ZJ5 V C s=[]:=List.length_eq_zero_iff.1 h0
  rw [this] at e
  rw [if_pos h0,<- e]
  rfl
 ·rw [if_neg h0,if_neg (show ¬ (ZJ5 V C s).all ZEt=false by rw [hr];decide)]
  by_cases h8:8<(unR V C s).length
  ·rw [if_pos h8,if_pos h8];rfl
  ·rw [if_neg h8,if_neg h8];rfl
end
section
open Go.RowKit
section
variable {P:Program} {ops:Array Oper} {hp:List HObj} {fr:List Dat} {dst:Option Tmp} {ty:TypeId} {ps:String} {af:Array Edge} {g:Option (Nat × Bool)} {x:Operand}
theorem ZBu {i:Operand} {t e:TypeId} {z:Value} {bytes:Nat} (E:ElT P t e 1 z bytes false) {α:Type} {R:Rel α} {_gR:Good R} {xs:List α} {k:Nat} {v:α} (hk:k<xs.length) (hv:xs[k]=v) (hx:OpD fr x (dS (Arr R) xs)) (hi:OpD fr i (dI (k:Int))):SY P ops hp ⟨dst,.indexAddr t x i,ty,ps,af,g⟩ fr (dP 1 false (dS R v)):=hv ▸ ZAw E hx hi hk
end

theorem ZK4 {V:List Vx} {C:Cx} {s:List Vx} {k:Nat} (h:k<s.length):(s.take (k+1)).foldl (ZGw V C) []=ZGw V C ((s.take k).foldl (ZGw V C) []) s[k]:=by
 rw [ZP h,List.foldl_append];rfl
theorem ZPJ (F:Cx) (V:List Vx) (C:Cx) (s:List Vx) (hl:C.length=V.length) (hc:∀ c∈C,c.length≤8) (hs:s.length≤10):Fn Tryz.prog 44 [dS ZCb (F,V,C),dS ZE s] (dS ZE (unP V C s)):=by
 have hn:=fun k=>ZNR V C hc (s.take k) []
 (refine ZG Tryz.func44 rfl rfl ?_;simp only [Tryz.ntmps44,List.length_cons,List.length_nil,Nat.reduceAdd,Nat.reduceSub,List.replicate_succ,List.replicate_zero,List.cons_append,List.nil_append])
 (repeat' (first|(apply WL.opN;exact yF;dsimp only [ZB,z0,z1])|refine WL.nil ?_|refine ZA fun Kx hK=>?_|(refine hK _ _ ?_;clear hK)|refine WC.region ?_|(apply WL.opN;(focus ((first|(exact SY.box (OpD.t rfl) Zn)|(apply SY.len;(exact oD);(exact nD);(exact uD))|fail);all_goals infer_instance));dsimp only [ZB,z0,z1])|refine WC.block ?_))
 refine ZAl 43 2 (by decide) RV ?_
 (refine WC.loopU (X:=Nat × Value) (fun x=>[(5,dX x.2),(13,dI (x.1:Int)),(7,dA),(8,dA),(14,dA),(15,dA),(16,dA),(17,dA),(18,dA),(19,dA),(20,dA),(21,dA),(22,dA),(23,dA),(24,dA),(25,dA),(26,dA),(27,dA),(28,dA),(29,dA),(30,dA)]) (fun x=>[ZV x.2 43 2 RV ((s.take x.1).foldl (ZGw V C) [])]) (fun x=>s.length-x.1) (fun x=>x.1≤s.length) (0,.slice none 0 0) ?start ?frame0 ?objs0 ?round)
 case start=>simp
 case frame0=>((try dsimp only [ZK,z0,z1]);repeat (first|exact LeF.nil|refine ZD (k:=?_)))
 case objs0=>rfl
 case round =>
  rintro ⟨k,u⟩ h1
  dsimp only [ZK,z0,z1]
  simp only at h1
  have hk8:=hn k
  rw [List.length_take,List.length_nil] at hk8
  by_cases hk:k<s.length
  ·have c1:Fn Tryz.prog 85 [dS ZE V,dS RV s[k]] (dI (ZDu V s[k])):=idx_p _ _
   by_cases hp:0≤ZDu V s[k]
   ·obtain ⟨j,e,hj,_⟩:=ZH3 hp
    have hjC:j<C.length:=by omega
    have hc8:=hc _ (List.getElem_mem hjC)
    have es:ZGw V C ((s.take k).foldl (ZGw V C) []) s[k]=(s.take k).foldl (ZGw V C) []++C[j]:=by
     unfold ZGw;rw [if_pos hp,e,Int.toNat_natCast,List.getElem?_eq_getElem hjC,Option.getD_some]
    rw [e] at c1
    ((repeat' (first|(apply WL.opN;exact yF;dsimp only [ZB,z0,z1])|refine WL.nil ?_|refine ZA fun Kx hK=>?_|(refine hK _ _ ?_;clear hK)|refine WC.region ?_|((first|apply WL.appK|apply WL.app1);(exact eD);exact OpD.t rfl;(exact oD);decide;(exact lD);(intro _;dsimp only [ZB,z0,z1]);all_goals (try infer_instance))|(apply WL.alloc;(first|exact tzV|exact tzC);(first|exact ZY rfl|exact ZAF|exact Zy rfl);(intro _;dsimp only [ZB,z0,z1]))|(apply ZN;(exact tD);rfl;(exact oD);(exact hD);dsimp only [ZB,z0,z1])|(apply WL.opN;(focus ((first|(exact ZBD ZAe (OpD.t rfl) ZC7 rfl rfl)|(apply SY.call (c1) Tryz.call85;(exact aD))|(refine ZBu (R:=ZE) (_gR:=inferInstance) ZBx hjC rfl (OpD.t rfl) (OpD.t rfl))|((first|apply SY.move|apply SY.assign|apply SY.lss|apply SY.geq|apply SY.neq) <;> (exact oD))|((first|apply SY.add) <;> first|exact oD|omega)|(apply ZBC;(exact eD);(exact oD);(exact oD);exact kD)|fail);all_goals infer_instance));dsimp only [ZB,z0,z1])|(apply ZC;(exact oD);all_goals (intro h;try exact xD))|refine WC.skip ?_|refine WC.block ?_|refine ThenD.n ?_));all_goals (first|((repeat clear hK);(repeat clear Kx))))
    all_goals try (exfalso;omega)
    (refine ⟨(k+1,_) , ?_,by first|omega|(simp only;omega),by ((try simp only);  (rw [ZK4 hk,es])),?_⟩;rotate_left;((try dsimp only [ZK,z0,z1]);repeat (first|exact LeF.nil|refine ZD (k:=?_)));(try dsimp only))
    omega
   ·((repeat' (first|(apply WL.opN;exact yF;dsimp only [ZB,z0,z1])|refine WL.nil ?_|refine ZA fun Kx hK=>?_|(refine hK _ _ ?_;clear hK)|refine WC.region ?_|(apply WL.alloc;(first|exact tzV|exact tzC);(first|exact ZY rfl|exact ZAF|exact Zy rfl);(intro _;dsimp only [ZB,z0,z1]))|(apply ZN;(exact tD);rfl;(exact oD);(exact hD);dsimp only [ZB,z0,z1])|(apply WL.opN;(focus ((first|(exact ZBD ZAe (OpD.t rfl) ZC7 rfl rfl)|(apply SY.call (c1) Tryz.call85;(exact aD))|((first|apply SY.move|apply SY.assign|apply SY.lss|apply SY.geq|apply SY.neq) <;> (exact oD))|((first|apply SY.add) <;> first|exact oD|omega)|(apply ZBC;(exact eD);(exact oD);(exact oD);exact kD)|fail);all_goals infer_instance));dsimp only [ZB,z0,z1])|(apply ZC;(exact oD);all_goals (intro h;try exact xD))|refine WC.skip ?_|refine WC.block ?_|refine ThenD.n ?_));all_goals (first|((repeat clear hK);(repeat clear Kx))))
    all_goals try (exfalso;omega)
    (refine ⟨(k+1,_) , ?_,by first|omega|(simp only;omega),by ((try simp only);  (rw [ZK4 hk,show ZGw V C ((s.take k).foldl (ZGw V C) []) s[k]=_ from if_neg hp])),?_⟩;rotate_left;((try dsimp only [ZK,z0,z1]);repeat (first|exact LeF.nil|refine ZD (k:=?_)));(try dsimp only))
    omega
  ·(repeat' (first|(apply WL.opN;exact yF;dsimp only [ZB,z0,z1])|refine WL.nil ?_|refine ZA fun Kx hK=>?_|(refine hK _ _ ?_;clear hK)|(refine Kont.skip ?_;clear hK)|refine WC.region ?_|(apply WL.opN;(focus ((first|((first|apply SY.move|apply SY.assign|apply SY.lss|apply SY.geq|apply SY.neq) <;> (exact oD))|fail);all_goals infer_instance));dsimp only [ZB,z0,z1])|(apply ZC;(exact oD);all_goals (intro h;try exact xD))|refine WC.exit ?_))
   all_goals try (exfalso;omega)
   rw [List.take_of_length_le (by omega),show s.foldl (ZGw V C) []=ZJ5 V C s from rfl]
   have hq:=hn s.length
   rw [List.take_of_length_le (Nat.le_refl _),List.length_nil,show s.foldl (ZGw V C) []=ZJ5 V C s from rfl] at hq
   refine ZHQ (s:=32) rfl ?_
   dsimp only [z0,z1]
   have c2:=of_p (ZJ5 V C s) (by omega)
   have c3:unP V C s=if (ofV (ZJ5 V C s)).2≠0 then [] else (ofV (ZJ5 V C s)).1:=rfl
   generalize ofV (ZJ5 V C s)=O at *
   ((repeat' (first|(apply WL.opN;exact yF;dsimp only [ZB,z0,z1])|refine WL.nil ?_|refine ZA fun Kx hK=>?_|(refine hK _ _ ?_;clear hK)|refine WC.region ?_|(apply WL.opN;(focus ((first|(apply SY.call (c2) Tryz.call86;(exact aD))|((first|apply SY.move|apply SY.assign|apply SY.lss|apply SY.geq|apply SY.neq) <;> (exact oD))|(apply SY.extract;(exact oD);rfl)|fail);all_goals infer_instance));dsimp only [ZB,z0,z1])|(apply ZL;(exact oD);all_goals (intro h;try exact xD))|refine WC.skip ?_|refine WC.ret ?_|refine ThenD.r ?_));all_goals (first|((repeat clear hK);(repeat clear Kx))))
   ·rw [c3,if_pos (by omega)];(refine ⟨trivial,_,rfl,?_⟩;exact fD)
   ·rw [c3,if_neg (by omega)];(refine ⟨trivial,_,rfl,?_⟩;exact fD)
end
section
open Go.RowKit

theorem ZOt {l:Cx} (h:∀ s∈l,s.length≤8) (k:Nat):(ZCZ (l.take k)).length≤8*k:=by
 have h1:=ZEW (l:=l.take k) fun s hs=>h s (List.mem_of_mem_take hs)
 have h2:=(ZB0 (l.take k).flatten []).2
 have h3:(l.take k).length≤k:=List.length_take_le _ _
 unfold ZCZ
 simp only [List.length_nil] at h2
 omega
theorem ZMR (l:Cx) (h8:∀ s∈l,s.length≤8) (hl:l.length≤100):Fn Tryz.prog 87 [dS Cpx l] (dS ZE (ZCZ l)):=by
 (refine ZG Tryz.func87 rfl rfl ?_;simp only [Tryz.ntmps87,List.length_cons,List.length_nil,Nat.reduceAdd,Nat.reduceSub,List.replicate_succ,List.replicate_zero,List.cons_append,List.nil_append])
 (repeat' (first|(apply WL.opN;exact yF;dsimp only [ZB,z0,z1])|refine WL.nil ?_|refine ZA fun Kx hK=>?_|(refine hK _ _ ?_;clear hK)|refine WC.region ?_|(apply WL.opN;(focus ((first|(apply SY.box;(exact oD);(exact hD))|fail);all_goals infer_instance));dsimp only [ZB,z0,z1])|refine WC.block ?_))
 (refine WC.loopU (X:=Nat) (fun k=>[(4,dI (k:Int)),(3,dS ZE (ZCZ (l.take k))),(5,dA),(6,dA),(7,dA),(8,dA),(9,dA),(10,dA),(11,dA),(12,dA),(13,dA),(14,dA),(15,dA),(16,dA),(17,dA),(18,dA)]) (fun k=>[]) (fun k=>l.length-k) (fun k=>k≤l.length) 0 ?start ?frame0 ?objs0 ?round)
 case start=>exact Nat.zero_le _
 case frame0=>((try dsimp only [ZK,z0,z1]);repeat (first|exact LeF.nil|refine ZD (k:=?_)))
 case objs0=>rfl
 case round =>
  rintro k h1
  have hp:=ZOt h8 k
  dsimp only [ZK,z0,z1]
  by_cases hk:k<l.length
  ·have c1:=ZRb (ZCZ (l.take k)) l[k] (by omega) (by have:=h8 _ (List.getElem_mem hk);omega)
   rw [<- ZOs hk] at c1
   ((repeat' (first|(apply WL.opN;exact yF;dsimp only [ZB,z0,z1])|refine WL.nil ?_|refine ZA fun Kx hK=>?_|(refine hK _ _ ?_;clear hK)|refine WC.region ?_|(apply WL.opN;(focus ((first|(apply SY.call (c1) Tryz.call88;(exact aD))|((first|apply SY.move|apply SY.assign|apply SY.lss) <;> (exact oD))|((first|apply SY.add) <;> first|exact oD|omega)|(apply SY.len;(exact oD);(exact nD);(exact uD))|(apply ZAw;(exact eD);(exact oD);(exact oD);exact kD)|(apply Zs ZCt;exact OpD.t rfl)|fail);all_goals infer_instance));dsimp only [ZB,z0,z1])|(apply ZC;(exact oD);all_goals (intro h;try exact xD))|refine WC.skip ?_|refine WC.block ?_|refine ThenD.n ?_));all_goals (first|((repeat clear hK);(repeat clear Kx))))
   (refine ⟨k+1,?_,by first|omega|(simp only;omega),rfl,?_⟩;rotate_left;((try dsimp only [ZK,z0,z1]);repeat (first|exact LeF.nil|refine ZD (k:=?_)));(try dsimp only))
   omega
  ·((repeat' (first|(apply WL.opN;exact yF;dsimp only [ZB,z0,z1])|refine WL.nil ?_|refine ZA fun Kx hK=>?_|(refine hK _ _ ?_;clear hK)|(refine Kont.skip ?_;clear hK)|refine WC.region ?_|(apply WL.opN;(focus ((first|((first|apply SY.move|apply SY.assign|apply SY.lss) <;> (exact oD))|(apply SY.len;(exact oD);(exact nD);(exact uD))|(apply Zs ZCt;exact OpD.t rfl)|fail);all_goals infer_instance));dsimp only [ZB,z0,z1])|(apply ZC;(exact oD);all_goals (intro h;try exact xD))|refine WC.ret ?_|refine WC.exit ?_));all_goals (first|((repeat clear hK);(repeat clear Kx))))
   rw [List.take_of_length_le (by omega)]
   (refine ⟨trivial,_,rfl,?_⟩;exact fD)
end
end Go.Proofs.YtlgmojhmmbhgfaaGreatDoor
