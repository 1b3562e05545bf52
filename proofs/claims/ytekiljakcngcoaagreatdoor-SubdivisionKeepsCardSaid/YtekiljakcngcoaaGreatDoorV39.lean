/- Part 39: walks by contracts, and plain laws. -/
import Derived.Test.YtekiljakcngcoaaGreatDoorV37
import Derived.Test.YtekiljakcngcoaaGreatDoorV38
set_option linter.unusedVariables false
set_option linter.unusedSimpArgs false
set_option linter.unusedSectionVars false
set_option maxRecDepth 100000
set_option maxHeartbeats 4000000
namespace Go.Proofs.YtekiljakcngcoaaGreatDoor
section
open Go.RowKit
section
variable {P:Program} {ops:Array Oper} {hp:List HObj} {fr:List Dat} {d:Dat} {dst:Option Tmp} {ty:TypeId} {ps:String} {af:Array Edge} {t e:TypeId} {n:Nat} {z:Value} {bytes:Nat} {ag:Bool}
theorem ZIt {x:Operand} {t b n:Nat} {T T2:TypeId} {agg:Bool} {d0:Dat} (hT:TyI P T n agg) (hp0:OpD fr (.tmp t) (dX (.pointer (some ⟨b,0,none⟩)))) (hx:OpD fr x d) (hs:d.Shape n agg) :
  SW P ops (Zh b T2 n agg d0::hp) (fun _:Unit=>Zh b T2 n agg d::hp) (fun _=>dX undef) ⟨none,.store T (.tmp t) x,ty,ps,af,none⟩ fr:=⟨rfl,fun {P0 B w0 w a} hh ho K Q hk=>by
 obtain ⟨cs,u,c1,c2,c0,c3,c4,c5⟩:=hh.ok (Zh b T2 n agg d0) (by simp)
 have h1:d.rd (Imm P0 B (Zh b T2 n agg d0::hp)) w (a.eval x):=hx.get (by simp [Op.operands]) ho
 obtain ⟨cs',k1,k0,k2,k3,k4⟩:=hs _ _ _ h1
 have h2:a.eval (.tmp t) = .pointer (some ⟨b,0,none⟩):=hp0.get (by simp [Op.operands]) ho
 have hr:=ZB1 (u:=a.eval x) hT.size c1 c2 k1 k2 k3
 have hrun:(execOp a.eval ⟨none,.store T (.tmp t) x,ty,ps,af,none⟩).run P w = .ok .skip (w.setRow b cs'.toArray):=by
  unfold execOp
  simp only [h2,Sem.run_bind,hr,Result.andThen_ok,Sem.run_pure]
 unfold Oper.wp
 rw [hrun]
 have hgr:w.grownBy (w.setRow b cs'.toArray) (Zh b T2 n agg d0).blk:=ZAM
 have hok:(Zh b T2 n agg d).ok (fun k=>Imm P0 B (Zh b T2 n agg d0::hp) k/\k<w.heap.size) (w.setRow b cs'.toArray) :=
  ⟨cs',a.eval x,setRow_heap w b _ _ _ _ c1,k1,k0,k2,k4,d.grown (d.bound h1) hgr (fun k hk hc=>hc.1.2 _ (by simp) hk)⟩
 exact hk () undef _ (hh.write hgr (.inl rfl) hok) (fun d' u hd=>ZY (o':=Zh b T2 n agg d) hgr (.inl rfl) hd) rfl⟩
theorem ZDV {Q:ZAW} {c:Code} {t b n:Nat} {T:TypeId} {agg:Bool} (hp0:fr[t]?=some (dX (.pointer (some ⟨b,0,none⟩)))) (h:WC P Q c (fr.set t (dP n agg d)) hp):WC P Q c fr (Zh b T n agg d::hp):=by
 refine WC.of fun P0 B w0 w a hh hf=>?_
 obtain ⟨cs,u,c1,c2,c0,c3,c4,c5⟩:=hh.ok (Zh b T n agg d) (by simp)
 have hown:=hh.own (Zh b T n agg d) (by simp) b rfl
 refine h.on hh.drop ⟨hf.defers,by rw [hf.size,List.length_set],fun t' d' hd'=>?_⟩
 by_cases htt:t=t'
 ·subst htt
  rw [List.getElem?_set] at hd'
  simp only [if_true] at hd'
  split at hd'
  ·cases hd'
   have hv:a.tmps.getD t undef = .pointer (some ⟨b,0,none⟩):=hf.rd t _ hp0
   rw [hv]
   refine ⟨b,0,u,rfl,ZAp c1 c2 c0 c3 c4 ⟨.inr hown.1,fun o' ho' hk=>?_⟩,d.weak c5 Imm.sub⟩
   exact (List.pairwise_cons.1 hh.apart).1 o' ho' b rfl hk
  ·cases hd'
 ·rw [List.getElem?_set_ne htt] at hd'
  exact d'.weak (hf.rd t' d' hd') Imm.sub
end
end
section
open Go.RowKit
section
variable {P:Program} {l:Nat} {Q:ZAW} {fr:List Dat} {hp:List HObj} {c:Code}
theorem ZMe {α:Type} (e:TypeId) (n:Nat) (hn:0<n) (R:Rel α) [Good R] (h:WR P l Q c fr (Zp (.slice none 0 0) e n R ([]:List α)::hp)):WR P l Q c fr hp:=WR.of fun _ _ _ _ _ hh hf =>
 h.on (hh.push (Ext.refl _) (by simp [Zp,Value.ownBlock]) (OwnK.nil hn)) (hf.mono fun _ _ hd=>Z6 (Ext.refl _) (by simp [Zp,Value.ownBlock]) hd)
theorem ZQc {α:Type} {R:Rel α} {_gR:Good R} {v:Value} {e:TypeId} {n t:Nat} {xs:List α} (ht:fr[t]?=some (dX v)) (h:WR P l Q c (fr.set t (dS (ArrK n R) xs)) hp):WR P l Q c fr (Zp v e n R xs::hp):=WR.of fun P0 B w0 w a hh hf=>by
 have hA:ArrK n R (Imm P0 B hp) w v xs:=ZD9 hh
 refine h.on hh.drop ⟨hf.defers,by rw [hf.size,List.length_set],fun t' d' hd'=>?_⟩
 by_cases htt:t=t'
 ·subst htt
  rw [List.getElem?_set] at hd'
  simp only [if_true] at hd'
  split at hd'
  ·cases hd'
   have h1:a.tmps.getD t undef=v:=hf.rd t _ ht
   rw [h1]
   exact hA
  ·cases hd'
 ·rw [List.getElem?_set_ne htt] at hd'
  exact d'.weak (hf.rd t' d' hd') Imm.sub
end
theorem ZQR {K:Act->World->Prop} {P0:Nat->Prop} {B:Nat} {w0:World} {dfs:List Deferred} {fr:List Dat} {hp:List HObj} {b k:Nat} {T eT:TypeId} {ds:List Dat} {α:Type} {R:Rel α} {_gR:Good R} {v:Value} {xs:List α} (hk:ds[k]?=some (dX v)) (h:WK K P0 B w0 dfs fr (ZAP b T (ds.set k (dS (Arr R) xs))::hp)):WK K P0 B w0 dfs fr (ZAP b T ds::Zr v eT R xs::hp):=WK.of fun a w ha hh hf=>by
 obtain ⟨hh1,hI1⟩:=hh.perm (List.Perm.swap _ _ _)
 have hA:Arr R (Imm P0 B (ZAP b T ds::hp)) w v xs:=ZCn hh1
 have hh2:=hh1.drop
 have hgr:w.grownBy w (ZAP b T ds).blk:=⟨rfl,rfl,rfl,Nat.le_refl _,fun _ _ _=>rfl⟩
 obtain ⟨cs,c1,c2,c3,c4⟩:=hh2.ok (ZAP b T ds) (by simp)
 have hkl:=(List.getElem?_eq_some_iff.1 hk).1
 have hkc:k<cs.length:=by omega
 have hv:cs[k]=v:=c4 k _ _ (List.getElem?_eq_getElem hkc) hk
 have hok:(ZAP b T (ds.set k (dS (Arr R) xs))).ok (fun j=>Imm P0 B (ZAP b T ds::hp) j/\j<w.heap.size) w:=by
  refine ⟨cs,c1,by simp [c2],c3,fun j c e hc he=>?_⟩
  rw [List.getElem?_set] at he
  by_cases hjk:k=j
  ·rw [if_pos hjk,if_pos hkl] at he
   cases he
   subst hjk
   rw [List.getElem?_eq_getElem hkc] at hc
   cases hc
   rw [hv]
   exact (dS (Arr R) xs).bound hA
  ·rw [if_neg hjk] at he
   exact e.bound (c4 j c e hc he)
 refine h.out a w ha (hh2.write hgr (.inl rfl) hok) (hf.mono fun d u hd=>?_)
 exact ZY (o:=ZAP b T ds) (o':=ZAP b T (ds.set k (dS (Arr R) xs))) hgr (.inl rfl) (d.weak hd fun j hj=>Imm.sub j ((hI1 j).1 hj))
theorem ZMG {k c a1 a2 a3 a4 a5 a6:HObj} {r:List HObj}:(k::c::a1::a2::a3::a4::a5::a6::r).Perm ([a1,a2,a3,a4,a5,a6,c]++([k]++r)):=by
 have h:(([k,c]++[a1,a2,a3,a4,a5,a6])++r).Perm (([a1,a2,a3,a4,a5,a6]++[k,c])++r):=List.Perm.append_right _ List.perm_append_comm
 have h2:(([a1,a2,a3,a4,a5,a6]++[k,c])++r).Perm (([a1,a2,a3,a4,a5,a6]++[c,k])++r):=List.Perm.append_right _ (List.Perm.append_left _ (List.Perm.swap _ _ _))
 simpa using h.trans h2
theorem ZPN {m k c a1 a2 a3 a4 a5 a6:HObj} {r:List HObj}:(m::([a1,a2,a3,a4,a5,a6,c]++([k]++r))).Perm (k::c::([a1,a2,a3,a4,a5,a6]++(m::r))):=by
 have h1:(m::([a1,a2,a3,a4,a5,a6,c]++([k]++r))).Perm (m::k::c::a1::a2::a3::a4::a5::a6::r):=List.Perm.cons m ZMG.symm
 have h2:(([m]++[k,c,a1,a2,a3,a4,a5,a6])++r).Perm (([k,c,a1,a2,a3,a4,a5,a6]++[m])++r):=List.Perm.append_right _ List.perm_append_comm
 refine h1.trans ?_
 simpa using h2
theorem ZPL {a b c d x y:HObj} {r:List HObj}:(a::b::c::d::x::y::r).Perm (x::y::a::b::c::d::r):=by
 have:(([a,b,c,d]++[x,y])++r).Perm (([x,y]++[a,b,c,d])++r):=List.Perm.append_right _ List.perm_append_comm
 simpa using this
theorem ZUB {a b c d x y:HObj} {r:List HObj}:(x::y::a::b::c::d::r).Perm (b::a::c::d::x::y::r):=ZPL.symm.trans (List.Perm.swap _ _ _)
theorem ZM1 {a b c d e f:HObj} {r:List HObj}:(a::b::c::d::e::f::r).Perm (d::a::e::b::c::f::r):=by
 have h1:(a::b::c::d::e::f::r).Perm (d::a::b::c::e::f::r):=by
  have:(([a,b,c]++[d])++(e::f::r)).Perm (([d]++[a,b,c])++(e::f::r)):=List.Perm.append_right _ List.perm_append_comm
  simpa using this
 have h2:(b::c::e::f::r).Perm (e::b::c::f::r):=by
  have:(([b,c]++[e])++(f::r)).Perm (([e]++[b,c])++(f::r)):=List.Perm.append_right _ List.perm_append_comm
  simpa using this
 exact h1.trans (List.Perm.cons d (List.Perm.cons a h2))

theorem ZS8 {P:Program} {ops:Array Oper} {hp:List HObj} {fr:List Dat} {dst:Option Tmp} {ty:TypeId} {ps:String} {af:Array Edge} {g:Option (Nat × Bool)} {T T2:TypeId} {x y:Operand} {p q c:Int} (h:p*q=c) (h0 : -9223372036854775808≤c/\c≤9223372036854775807) (hx:OpD fr x (dI p)) (hy:OpD fr y (dI q)):SY P ops hp ⟨dst,.binOp .mul T x y T2,ty,ps,af,g⟩ fr (dI c):=h ▸ SY.mul hx hy (h.symm ▸ h0)
def orB (bl:List Nat) (k:Nat):Nat:=(bl.take k).foldl (· ||| ·) 0
theorem ZEn {bl:List Nat} {k:Nat} (h:k<bl.length):orB bl (k+1)=orB bl k ||| bl[k]:=by
 unfold orB
 rw [List.take_succ_eq_append_getElem h,List.foldl_append]
 rfl
theorem ZSm {bl:List Nat} (hb:∀ b∈bl,b<1048576):∀ k,orB bl k<1048576:=fun k=>by
 induction k with
 | zero=>show (0:Nat)<1048576;decide
 | succ k ih =>
  by_cases h:k<bl.length
  ·rw [ZEn h]
   exact Nat.or_lt_two_pow (n:=20) ih (hb _ (List.getElem_mem h))
  ·have e:orB bl (k+1)=orB bl k:=by unfold orB;rw [List.take_of_length_le (by omega),List.take_of_length_le (by omega)]
   rw [e];exact ih
def ZQD (M:ZDu) (x:List Vx):Int:=(lookM M (txS x)).getD 0
def ZHl (M:ZDu) (s:List Vx) (bl:List Nat) (k:Nat):Vx:=((k:Int),ZQD M (atB s (orB bl (k+1))))
def ZDX (M:ZDu) (s:List Vx) (bl:List Nat):List Vx:=(List.range bl.length).map (ZHl M s bl)
theorem ZEQ {M:ZDu} {s:List Vx} {bl:List Nat}:(ZDX M s bl).length=bl.length:=by simp [ZDX]
theorem ZCr {M:ZDu} {s:List Vx} {bl:List Nat} {k:Nat} (h:k<(ZDX M s bl).length):(ZDX M s bl)[k]=ZHl M s bl k:=by simp [ZDX]
theorem ZHk (s:List Vx) (m:Nat):∀ v∈atB s m,v∈s:=fun v hv=>by
 unfold atB at hv
 obtain ⟨p,hp,rfl⟩:=List.mem_map.1 hv
 have h:=(List.mem_filter.1 hp).1
 obtain ⟨a,i⟩:=p
 have:=List.mem_zipIdx h
 rw [this.2.2]
 exact List.getElem_mem _
def ZP9:Nat->Nat
 | 0=>1
 | n+1=>(n+1)*ZP9 n
theorem ZKj:∀ n:Fin 9,ZP9 n.val≤40320:=by decide
theorem ZKl (n:Nat) (hn:n≤8):Fn Tryz.prog 33 [dI (n:Int)] (dI ((ZP9 n:Nat):Int)):=by
 (refine ZH Tryz.func33 rfl rfl ?_;simp only [Tryz.ntmps33,List.length_cons,List.length_nil,Nat.reduceAdd,Nat.reduceSub,List.replicate_succ,List.replicate_zero,List.cons_append,List.nil_append])
 (repeat' (first|(apply WL.opN;exact yF;dsimp only [ZA,z0,z1])|refine WL.nil ?_|refine ZC fun Kx hK=>?_|(refine hK _ _ ?_;clear hK)|refine WC.region ?_|refine WC.block ?_))
 (refine WC.loopU (X:=Nat) (fun k=>[(3,dI ((ZP9 (k+1):Nat):Int)),(4,dI ((k+2:Nat):Int)),(5,dA),(6,dA),(7,dA),(8,dA),(9,dA),(10,dA),(11,dA),(12,dA)]) (fun k=>[]) (fun k=>n-k) (fun k=>k+1≤n\/k=0) 0 ?start ?frame0 ?objs0 ?round)
 case start=>exact .inr rfl
 case frame0=>((try dsimp only [Za,z0,z1]);repeat (first|exact LeF.nil|refine ZF (k:=?_)))
 case objs0=>rfl
 case round =>
  rintro k h1
  dsimp only [Za,z0,z1]
  by_cases hk:k+2≤n
  ·have hb:=ZKj ⟨k+1,by omega⟩
   simp only at hb
   have hm:(ZP9 (k+1):Int)*((k+2:Nat):Int)=((ZP9 (k+2):Nat):Int):=by
    rw [<- Int.natCast_mul]
    congr 1
    rw [Nat.mul_comm]
    rfl
   have hb2:=ZKj ⟨k+2,by omega⟩
   simp only at hb2
   ((repeat' (first|(apply WL.opN;exact yF;dsimp only [ZA,z0,z1])|refine WL.nil ?_|refine ZC fun Kx hK=>?_|(refine hK _ _ ?_;clear hK)|refine WC.region ?_|(apply WL.opN;(focus ((first|(exact ZS8 hm (by omega) (OpD.t rfl) (OpD.t rfl))|((first|apply SY.move|apply SY.assign|apply SY.leq) <;> (exact oD))|((first|apply SY.add|apply SY.mul) <;> first|exact oD|omega)|fail);all_goals infer_instance));dsimp only [ZA,z0,z1])|(apply ZE;(exact oD);all_goals (intro h;try exact xD))|refine WC.skip ?_|refine WC.block ?_|refine ThenD.n ?_));all_goals (first|((repeat clear hK);(repeat clear Kx))))
   all_goals try (exfalso;first|contradiction|omega)
   (refine ⟨k+1,?_,by first|omega|(simp only;omega),rfl,?_⟩;rotate_left;((try dsimp only [Za,z0,z1]);repeat (first|exact LeF.nil|refine ZF (k:=?_)));(try dsimp only))
   omega
  ·((repeat' (first|(apply WL.opN;exact yF;dsimp only [ZA,z0,z1])|refine WL.nil ?_|refine ZC fun Kx hK=>?_|(refine hK _ _ ?_;clear hK)|(refine Kont.skip ?_;clear hK)|refine WC.region ?_|(apply WL.opN;(focus ((first|((first|apply SY.move|apply SY.assign|apply SY.leq) <;> (exact oD))|fail);all_goals infer_instance));dsimp only [ZA,z0,z1])|(apply ZE;(exact oD);all_goals (intro h;try exact xD))|refine WC.ret ?_|refine WC.exit ?_));all_goals (first|((repeat clear hK);(repeat clear Kx))))
   all_goals try (exfalso;first|contradiction|omega)
   (refine ⟨trivial,_,rfl,?_⟩;refine FinD.i ?_)
   have:n=0\/n=k+1:=by omega
   rcases this with rfl|rfl
   ·have:k=0:=by omega
    subst this
    rfl
   ·rfl
def ZNE (l:Cx):Nat:=(l.map fun s=>ZP9 s.length).sum
theorem ZPq {l:Cx} {i:Nat} (h:i<l.length):ZNE (l.take (i+1))=ZNE (l.take i)+ZP9 l[i].length:=by
 unfold ZNE;rw [List.take_succ_eq_append_getElem h,List.map_append,List.sum_append];simp only [List.map_cons,List.map_nil,List.sum_cons,List.sum_nil,Nat.add_zero]
theorem ZUI {l:Cx} (i:Nat):ZNE (l.take i)≤ZNE l:=by
 conv=>rhs;rw [<- List.take_append_drop i l]
 unfold ZNE
 rw [List.map_append,List.sum_append]
 omega
def ZBR (M:ZDu) (l:Cx):Cx:=l.flatMap fun s=>(ZGb (2 ^ s.length-1)).map (ZDX M s)
theorem ZNw {M:ZDu} {l:Cx} {i:Nat} (h:i<l.length):ZBR M (l.take (i+1))=ZBR M (l.take i)++(ZGb (2 ^ l[i].length-1)).map (ZDX M l[i]):=by
 unfold ZBR;rw [List.take_succ_eq_append_getElem h,List.flatMap_append];simp
theorem ZTI {M:ZDu} {l:Cx} (i:Nat):(ZBR M (l.take i)).length≤(ZBR M l).length:=by
 conv=>rhs;rw [<- List.take_append_drop i l]
 unfold ZBR
 rw [List.flatMap_append,List.length_append]
 omega
end
section
open Go.RowKit

theorem tzAr:TyZ Tryz.prog 28 (.slice none 0 0):=⟨by kernel_rfl⟩
theorem tzBp:TyZ Tryz.prog 63 (.pointer none):=⟨by kernel_rfl⟩
theorem ZMO {K V:Type} {kv:K->Value} {R:Rel V} [Good R] {m:List (K × V)}:(dS (ZHU kv R) m).Shape 1 false:=ZCh fun _ _ _ h=>by
 obtain ⟨b,us,rfl,_⟩:=h
 rfl
end
section
open Go.RowKit
section
variable {P:Program} {ops:Array Oper} {hp:List HObj} {fr:List Dat} {d e:Dat} {dst:Option Tmp} {ty:TypeId} {ps:String} {af:Array Edge} {g:Option (Nat × Bool)} {T T1 T2:TypeId} {x y:Operand}
theorem ZBN {l:Cx} (T':TyI P T1 1 true) (hx:OpD fr x (dP 1 false (dS ZAe l))):SY P ops hp ⟨dst,.load T1 x,ty,ps,af,g⟩ fr (dS Cpx l):=SY.val fun {I w a} ho=>by
 obtain ⟨b,off,u,h1,⟨hb,cs,k1,k0,k2,k3,k4⟩,hu⟩:=hx.get (by simp [Op.operands]) ho
 simp only [Bool.false_eq_true,if_false] at k4
 subst k4
 have hc:Cells I w b off 1 true (.agg #[u]):=⟨hb,[u],rfl,Nat.one_pos,k2,k3,rfl⟩
 refine ⟨.agg #[u],?_,u,rfl,k2 u (by simp),hu⟩
 unfold execOp
 simp only [h1,Sem.run_bind,ZA3 T' hc,Result.andThen_ok,Sem.run_pure]
theorem ZS4 {n:Nat} (S:StrT P T n) (hn:0<n) (hx:OpD fr x (dP 1 false d)):SY P ops hp ⟨dst,.fieldAddr T x 0,ty,ps,af,g⟩ fr (dP 1 false d):=SY.val fun {I w a} ho=>by
 obtain ⟨b,off,u,h1,h2,h3⟩:=hx.get (by simp [Op.operands]) ho
 refine ⟨.pointer (some ⟨b,off,none⟩),?_,b,off,u,rfl,h2,h3⟩
 unfold execOp
 simp only [h1,Sem.run_bind,S.fld b off 0 w hn,Result.andThen_ok,Sem.run_pure]
 rfl
end
theorem strCx:StrT Tryz.prog 24 1:=⟨fun b off i w hi=>by
 have:i=0:=by omega
 subst this
 go_simp⟩
end
section
section
variable {s:List Vx}
def GoodS (s:List Vx):Prop:=Z3 s=0/\ZAi s=true/\s.length≤4
theorem GoodS.len (h:GoodS s):1≤s.length:=by have:=ZP.1 h.1;omega
end
end
section
def ZDm (V:List Vx) (v:Vx):Int:=ZIk (fun y=>decide (v=y)) 0 V
theorem ZLv {α:Type} {p:α->Bool}:∀ (l:List α) (k:Nat),0≤ZIk p k l->∃ j,ZIk p k l=((k+j:Nat):Int)/\∃ h:j<l.length,p l[j]=true
 | [],k,h=>absurd h (by unfold ZIk;omega)
 | x::l,k,h=>by
  unfold ZIk at h ⊢
  by_cases hx:p x=true
  ·rw [if_pos hx];exact ⟨0,by simp,by simp,by simpa using hx⟩
  ·rw [if_neg hx] at h ⊢
   obtain ⟨j,h1,h2,h3⟩:=ZLv l (k+1) h
   exact ⟨j+1,by rw [h1];congr 1;omega,by simpa using h2,by simpa using h3⟩
theorem ZIS {V:List Vx} {v:Vx} (h:0≤ZDm V v):∃ j:Nat,ZDm V v=(j:Int)/\∃ h:j<V.length,V[j]=v:=by
 obtain ⟨j,h1,h2,h3⟩:=ZLv V 0 h
 exact ⟨j,by rw [Nat.zero_add] at h1;exact h1,h2,(of_decide_eq_true h3).symm⟩
theorem ZVQ {V:List Vx} {v:Vx}:0≤ZDm V v↔v∈V:=by
 have h:=ZH9 (p:=fun y=>decide (v=y)) V 0
 have e:(0≤ZDm V v)↔decide (0≤ZIk (fun y=>decide (v=y)) 0 V)=true:=by rw [decide_eq_true_eq];rfl
 rw [e,h,List.any_eq_true]
 exact ⟨fun ⟨x,h1,h2⟩=>(of_decide_eq_true h2) ▸ h1,fun h=>⟨v,h,decide_eq_true rfl⟩⟩
theorem ZMK {V:List Vx} (hV:V.Nodup) {k:Nat} (h:k<V.length):ZDm V V[k]=(k:Int):=by
 obtain ⟨j,h1,h2,h3⟩:=ZIS (ZVQ.2 (List.getElem_mem h))
 rw [h1,(List.getElem_inj hV).1 h3]
def ZHA (V:List Vx) (C:Cx) (out:List Vx) (v:Vx):List Vx:=if 0≤ZDm V v then out++(C[(ZDm V v).toNat]?.getD []) else out
def ZKb (V:List Vx) (C:Cx) (s:List Vx):List Vx:=s.foldl (ZHA V C) []
def unP (V:List Vx) (C:Cx) (s:List Vx):List Vx:=if (ofV (ZKb V C s)).2≠0 then [] else (ofV (ZKb V C s)).1
def ZM5 (s:List Vx) (out:List Vx) (p:Vx × List Vx):List Vx:=if p.1∈s then ZCH out p.2 else out
def unR (V:List Vx) (C:Cx) (s:List Vx):List Vx:=(V.zip C).foldl (ZM5 s) []
theorem ZO4 {V:List Vx} {C:Cx} {x:Vx}:∀ (s out:List Vx),x∈s.foldl (ZHA V C) out↔x∈out\/∃ v∈s,0≤ZDm V v/\x∈C[(ZDm V v).toNat]?.getD []
 | [],out=>by simp
 | v::s,out=>by
  rw [List.foldl_cons,ZO4 s]
  have e:x∈ZHA V C out v↔x∈out\/(0≤ZDm V v/\x∈C[(ZDm V v).toNat]?.getD []):=by
   unfold ZHA
   by_cases h:0≤ZDm V v
   ·rw [if_pos h,List.mem_append];simp [h]
   ·rw [if_neg h];simp [h]
  rw [e]
  simp only [List.mem_cons,exists_eq_or_imp,or_assoc]
theorem ZN9 (V:List Vx) (C:Cx) (hc:∀ c∈C,c.length≤8):∀ (s out:List Vx),(s.foldl (ZHA V C) out).length≤out.length+8*s.length
 | [],out=>by simp
 | v::s,out=>by
  rw [List.foldl_cons]
  have h1:=ZN9 V C hc s (ZHA V C out v)
  have h2:(ZHA V C out v).length≤out.length+8:=by
   unfold ZHA
   split
   ·rw [List.length_append]
    have:(C[(ZDm V v).toNat]?.getD []).length≤8:=by
     cases h:C[(ZDm V v).toNat]? with
     | none=>simp
     | some c=>exact hc c (List.mem_of_getElem? h)
    omega
   ·omega
  simp only [List.length_cons]
  omega
theorem ZJp {s:List Vx} {x:Vx}:∀ (L:List (Vx × List Vx)) (out:List Vx),x∈L.foldl (ZM5 s) out↔x∈out\/∃ p∈L,p.1∈s/\x∈p.2
 | [],out=>by simp
 | p::L,out=>by
  rw [List.foldl_cons,ZJp L]
  have e:x∈ZM5 s out p↔x∈out\/(p.1∈s/\x∈p.2):=by
   unfold ZM5
   by_cases h:p.1∈s
   ·rw [if_pos h,ZCM];simp [h]
   ·rw [if_neg h];simp [h]
  rw [e]
  simp only [List.mem_cons,exists_eq_or_imp,or_assoc]
theorem ZJA {s:List Vx}:∀ (L:List (Vx × List Vx)) {out:List Vx},Asc out->Asc (L.foldl (ZM5 s) out)
 | [],_,h=>h
 | p::L,out,h=>by
  rw [List.foldl_cons]
  refine ZJA L ?_
  unfold ZM5
  split
  ·exact ZCp h
  ·exact h
theorem ZK3 (V:List Vx) (C:Cx) (s:List Vx):Asc (unR V C s):=ZJA _ (by simp [Asc])
theorem ZGZ {V:List Vx} {C:Cx} {s:List Vx} {x:Vx}:x∈unR V C s↔∃ (k:Nat) (h:k<V.length) (h':k<C.length),V[k]∈s/\x∈C[k]:=by
 unfold unR
 rw [ZJp]
 constructor
 ·rintro (h|⟨p,hp,h1,h2⟩)
  ·cases h
  ·obtain ⟨k,hk,rfl⟩:=List.mem_iff_getElem.1 hp
   rw [List.length_zip] at hk
   rw [List.getElem_zip] at h1 h2
   exact ⟨k,by omega,by omega,h1,h2⟩
 ·rintro ⟨k,h,h',h1,h2⟩
  exact .inr ⟨(V[k],C[k]),List.mem_iff_getElem.2 ⟨k,by rw [List.length_zip];omega,by rw [List.getElem_zip]⟩,h1,h2⟩
theorem ZRZ {V:List Vx} {C:Cx} (hV:V.Nodup) (hl:C.length=V.length) {s:List Vx} {x:Vx}:x∈ZKb V C s↔x∈unR V C s:=by
 unfold ZKb
 rw [ZO4,ZGZ]
 constructor
 ·rintro (h|⟨v,h1,h2,h3⟩)
  ·cases h
  ·obtain ⟨j,e,hj,rfl⟩:=ZIS h2
   rw [e,Int.toNat_natCast,List.getElem?_eq_getElem (by omega),Option.getD_some] at h3
   exact ⟨j,hj,by omega,h1,h3⟩
 ·rintro ⟨k,h,h',h1,h2⟩
  refine .inr ⟨V[k],h1,?_,?_⟩
  ·rw [ZMK hV h];omega
  ·rw [ZMK hV h,Int.toNat_natCast,List.getElem?_eq_getElem h',Option.getD_some];exact h2
theorem ZVd {V:List Vx} {C:Cx} (hV:Asc V) (hl:C.length=V.length) (hc:∀ c∈C,Z3 c=0) (s:List Vx):unP V C s=if 8<(unR V C s).length then [] else unR V C s:=by
 have hm:=fun x=>ZRZ (ZC9 hV) hl (s:=s) (x:=x)
 have e:ZCH [] (ZKb V C s)=unR V C s:=ZCq (ZCp (by simp [Asc])) (ZK3 _ _ _) fun x=>by rw [ZCM,hm];simp
 have hr:(ZKb V C s).all ZEy=true:=List.all_eq_true.2 fun x hx=>by
  obtain ⟨k,h,h',_,h2⟩:=ZGZ.1 ((hm x).1 hx)
  exact (ZP.1 (hc _ (List.getElem_mem h'))).2.2.1 x h2
 unfold unP ofV
 rw [e]
 by_cases h0:(ZKb V C s).length=0
 ·have:ZKb V C s=[]:=List.length_eq_zero_iff.1 h0
  rw [this] at e
  rw [if_pos h0,<- e]
  rfl
 ·rw [if_neg h0,if_neg (show ¬ (ZKb V C s).all ZEy=false by rw [hr];decide)]
  by_cases h8:8<(unR V C s).length
  ·rw [if_pos h8,if_pos h8];rfl
  ·rw [if_neg h8,if_neg h8];rfl
def okP (c:Cx) (V:List Vx) (C:Cx) (f:List Vx):Bool:=decide ((ZE7 c (unP V C f)).2=0) && (ZE7 c (unP V C f)).1
def ZLZ (c:Cx):List (List Vx)->Int
 | []=>0
 | s::l=>if Z3 s≠0 then Z3 s else if ZCa c s=false then 6 else ZLZ c l
def ZDB (p:List Vx->Bool) (c F:Cx) (V:List Vx) (C:Cx):Int :=
 if ZAr c≠0 then ZAr c else if ZAr F≠0 then ZAr F else if ¬ (V=ZC6 F/\C.length=V.length) then 15 else if ZLZ c C≠0 then ZLZ c C else if F.all p=true then 0 else 22
theorem ZJF {c:Cx}:∀ {l:List (List Vx)},ZLZ c l=0->∀ s∈l,Z3 s=0/\ZCa c s=true
 | [],_,_,h=>by cases h
 | s::l,h,x,hx=>by
  unfold ZLZ at h
  by_cases h1:Z3 s≠0
  ·rw [if_pos h1] at h;exact absurd h h1
  rw [if_neg h1] at h
  by_cases h2:ZCa c s=false
  ·rw [if_pos h2] at h;exact absurd h (by decide)
  rw [if_neg h2] at h
  rcases List.mem_cons.1 hx with rfl|hx
  ·exact ⟨by omega,by simpa using h2⟩
  ·exact ZJF h x hx
end
end Go.Proofs.YtekiljakcngcoaaGreatDoor
