/- Part 37: walks by contracts, and plain laws. -/
import Derived.Test.YtokmalofdapffaaGreatV36
set_option linter.unusedVariables false
set_option linter.unusedSimpArgs false
set_option linter.unusedSectionVars false
set_option maxRecDepth 100000
set_option maxHeartbeats 4000000
namespace Go.Proofs.YtokmalofdapffaaGreat
section
open Go.RowKit

def ZEz (l:Cx) (d:Nat):Cx:=if d=0 then [] else Zs l d
theorem ZI5 {l:Cx} (hN:∀ k,(Zs l k).length≤4096) (d:Nat):(ZEz l d).length≤4096:=by
 unfold ZEz
 split
 ·exact Nat.zero_le _
 ·exact hN d
theorem ZRA {l:Cx} (hN:∀ k,(Zs l k).length≤4096) (d:Nat):rkC l d≤4096:=Nat.le_trans (L05.rk_le L05.incF _ _) (ZI5 hN d)
theorem ZRw (l:Cx) (d:Nat) (h0:ZA8 l=0) (hd:d<8) (hN:∀ k,(Zs l k).length≤4096):Fn Tryz.prog 61 [dS Cpx l,dI (d:Int)] (dT [dS Mat ((((Zs l (d+1)).length:Nat):Int),L05.matG L05.incF (ZEz l d) (Zs l (d+1))),dI 0]) :=
 ZL6 (ZRv l d h0 hd hN) fun d' hp2 ⟨h1,h2⟩=>by subst h1 h2;exact FinD.le (Dat.le_refl _)
theorem ZMw (l:Cx):Fn Tryz.prog 16 [dS Cpx l] (dI (ZKV l).2):=by
 have h:=ZFd l
 (refine ZG Tryz.func16 rfl rfl ?_;simp only [Tryz.ntmps16,List.length_cons,List.length_nil,Nat.reduceAdd,Nat.reduceSub,List.replicate_succ,List.replicate_zero,List.cons_append,List.nil_append])
 ((repeat' (first|(apply WL.opN;exact yF;dsimp only [ZB,z0,z1])|refine WL.nil ?_|refine ZA fun Kx hK=>?_|(refine hK _ _ ?_;clear hK)|refine WC.region ?_|(apply WL.opN;(focus ((first|(exact SY.box (OpD.t rfl) ZAT)|(apply SY.call (h) Tryz.call8;(exact aD))|(apply SY.extract;(exact oD);rfl)|fail);all_goals infer_instance));dsimp only [ZB,z0,z1])|refine WC.ret ?_));all_goals (first|((repeat clear hK);(repeat clear Kx))))
 (refine ⟨trivial,_,rfl,?_⟩;exact fD)
def ZTF (l:Cx) (d:Int):Int × Int:=if d<0\/8≤d then (0,0) else (((ZBi l (d+1)).1.length:Int),(ZBi l (d+1)).2)
theorem ZK7 (l:Cx) (d:Int) (hd : -100≤d/\d≤100):Fn Tryz.prog 34 [dS Cpx l,dI d] (dT [dI (ZTF l d).1,dI (ZTF l d).2]):=by
 have cS:=ZCn l (d+1)
 unfold ZTF
 by_cases h1:d<0
 ·rw [if_pos (.inl h1)]
  (refine Z7 Tryz.func34 rfl rfl ?_;simp only [Tryz.ntmps34,List.length_cons,List.length_nil,Nat.reduceAdd,Nat.reduceSub,List.replicate_succ,List.replicate_zero,List.cons_append,List.nil_append])
  ((repeat' (first|(apply WL.opN;exact yF;dsimp only [ZB,z0,z1])|refine WL.nil ?_|refine ZA fun Kx hK=>?_|(refine hK _ _ ?_;clear hK)|refine WC.region ?_|(apply ZF;(focus (first|exact wN|(apply SYG.yes;(exact wY);((first|(exact SY.box (OpD.t rfl) ZAT)|((first|apply SY.move|apply SY.assign|apply SY.lss|apply SY.geq) <;> (exact oD))|(apply Zn;(exact oD);(with_reducible rfl);(exact oD))|fail);all_goals infer_instance))));dsimp only [ZB,z0,z1])|((first|refine ZM rfl rfl rfl (fun h=>?_) (fun h=>?_)|refine ZL rfl rfl rfl (fun h=>?_) (fun h=>?_)|refine ZK rfl rfl rfl (fun h=>?_) (fun h=>?_)) <;> (first|(exfalso;first|omega|contradiction)|(dsimp only [z0,z1])))|(apply Z0;(exact oD);(with_reducible rfl))|refine WC.ret ?_|refine ThenD.r ?_));all_goals (first|((repeat clear hK);(repeat clear Kx))))
  all_goals try (exfalso;first|contradiction|omega)
  (refine ⟨trivial,⟨_,rfl,?_⟩,_,rfl,?_⟩ <;> exact fD)
 ·by_cases h2:d ≥ 8
  ·rw [if_pos (.inr h2)]
   (refine Z7 Tryz.func34 rfl rfl ?_;simp only [Tryz.ntmps34,List.length_cons,List.length_nil,Nat.reduceAdd,Nat.reduceSub,List.replicate_succ,List.replicate_zero,List.cons_append,List.nil_append])
   ((repeat' (first|(apply WL.opN;exact yF;dsimp only [ZB,z0,z1])|refine WL.nil ?_|refine ZA fun Kx hK=>?_|(refine hK _ _ ?_;clear hK)|refine WC.region ?_|(apply ZF;(focus (first|exact wN|(apply SYG.yes;(exact wY);((first|(exact SY.box (OpD.t rfl) ZAT)|((first|apply SY.move|apply SY.assign|apply SY.lss|apply SY.geq) <;> (exact oD))|(apply Zj;(exact oD);(with_reducible rfl);(exact oD))|fail);all_goals infer_instance))));dsimp only [ZB,z0,z1])|((first|refine ZM rfl rfl rfl (fun h=>?_) (fun h=>?_)|refine ZL rfl rfl rfl (fun h=>?_) (fun h=>?_)|refine ZK rfl rfl rfl (fun h=>?_) (fun h=>?_)) <;> (first|(exfalso;first|omega|contradiction)|(dsimp only [z0,z1])))|(apply WC.condD;(exact oD);all_goals (intro h;try exact xD))|refine WC.ret ?_|refine ThenD.r ?_));all_goals (first|((repeat clear hK);(repeat clear Kx))))
   all_goals try (exfalso;first|contradiction|omega)
   (refine ⟨trivial,⟨_,rfl,?_⟩,_,rfl,?_⟩ <;> exact fD)
  ·rw [if_neg (by omega)]
   (refine Z7 Tryz.func34 rfl rfl ?_;simp only [Tryz.ntmps34,List.length_cons,List.length_nil,Nat.reduceAdd,Nat.reduceSub,List.replicate_succ,List.replicate_zero,List.cons_append,List.nil_append])
   ((repeat' (first|(apply WL.opN;exact yF;dsimp only [ZB,z0,z1])|refine WL.nil ?_|refine ZA fun Kx hK=>?_|(refine hK _ _ ?_;clear hK)|refine WC.region ?_|(apply ZF;(focus (first|exact wN|(apply SYG.yes;(exact wY);((first|(exact SY.box (OpD.t rfl) ZAT)|(apply SY.call (cS) Tryz.call38;(exact aD))|(apply SY.len;exact OpD.t rfl;exact ZJn;exact ZDv.unt)|((first|apply SY.move|apply SY.assign|apply SY.lss|apply SY.geq) <;> (exact oD))|((first|apply SY.add) <;> first|exact oD|omega)|(apply Zj;(exact oD);(with_reducible rfl);(exact oD))|(apply SY.extract;(exact oD);rfl)|fail);all_goals infer_instance))));dsimp only [ZB,z0,z1])|((first|refine ZM rfl rfl rfl (fun h=>?_) (fun h=>?_)|refine ZL rfl rfl rfl (fun h=>?_) (fun h=>?_)|refine ZK rfl rfl rfl (fun h=>?_) (fun h=>?_)) <;> (first|(exfalso;first|omega|contradiction)|(dsimp only [z0,z1])))|(apply WC.condD;(exact oD);all_goals (intro h;try exact xD))|refine WC.skip ?_|refine WC.ret ?_));all_goals (first|((repeat clear hK);(repeat clear Kx))))
   all_goals try (exfalso;first|contradiction|omega)
   (refine ⟨trivial,⟨_,rfl,?_⟩,_,rfl,?_⟩ <;> exact fD)
theorem ZOM {l:Cx} (h0:ZA8 l=0) (hN:∀ k,(Zs l k).length≤4096) {d:Nat} (hd:d<8):ZTF l (d:Int)=(((Zs l (d+1)).length:Int),0):=by
 have:=hN (d+1)
 unfold ZTF ZBi
 rw [if_neg (by omega),if_neg (by simpa using h0),if_neg (by omega),show ((d:Int)+1).toNat=d+1 by omega,if_neg (by omega)]
section
variable {P:Program} {ops:Array Oper} {hp:List HObj} {fr:List Dat} {Q:ZAE} {rest:List Oper} {dst:Option Tmp} {ty:TypeId} {ps:String} {af:Array Edge} {g:Option (Nat × Bool)}
theorem ZIJ {α:Type} {R:Rel α} {_gR:Good R} {t e:TypeId} {bytes n:Nat} {j:Int} {y y':Operand} (E:ElT P t e 1 (.slice none 0 0) bytes false) (hy:OpD fr y (dI j)) (hy':OpD fr y' (dI j)) (hj:j=(n:Int)) (hb:bytes*n≤281474976710656) (hm:n≤1000000000) (h:∀ v,WL P ops Q rest (ZB fr dst (dX v)) (Zh v e (Arr R) (List.replicate n ([]:List α))::hp)) :
  WL P ops Q (⟨dst,.makeSlice t y y',ty,ps,af,none⟩::rest) fr hp :=
 ZFU E hy hy' hj hb hm fun v=>WL.of fun P0 B w0 w a hh hf=>by
  have h1:Hp P0 B w0 (Zh v e ZDf ((List.range n).map fun _=>Value.slice none 0 0)::hp) w:=hh
  have h2:Hp P0 B w0 (Zh v e (Arr R) (List.replicate n ([]:List α))::hp) w:=by
   refine h1.turn rfl ?_
   obtain ⟨us,hl,ho,he⟩:=h1.ok (Zh v e ZDf ((List.range n).map fun _=>Value.slice none 0 0)) (by simp)
   refine ⟨us,by simpa using hl,by simpa using ho,fun k hk hk'=>?_⟩
   have hkn:k<n:=by simpa using hk'
   obtain ⟨r1,r2⟩:=he k hk (by simpa using hkn)
   have r3:us[k]=Value.slice none 0 0:=by
    have:us[k]=((List.range n).map fun _=>Value.slice none 0 0)[k]'(by simpa using hkn):=(r2:_/\_).1
    simpa using this
   refine ⟨r1,?_⟩
   rw [r3,List.getElem_replicate]
   exact ⟨none,0,rfl,Nat.le_refl _,Nat.zero_le _,fun k h=>absurd h (Nat.not_lt_zero k)⟩
  refine (h v).on h2 (hf.mono fun d x hd=>d.weak hd fun k hk=>⟨hk.1,fun o ho=>?_⟩)
  rcases List.mem_cons.1 ho with rfl|ho
  ·exact hk.2 (Zh v e ZDf ((List.range n).map fun _=>Value.slice none 0 0)) (by simp)
  ·exact hk.2 o (by simp [ho])
theorem ZC1 {T T2:TypeId} {x y:Operand} {p q c:Int} (h:p-q=c) (h0 : -9223372036854775808≤c/\c≤9223372036854775807) (hx:OpD fr x (dI p)) (hy:OpD fr y (dI q)):SY P ops hp ⟨dst,.binOp .sub T x y T2,ty,ps,af,g⟩ fr (dI c):=h ▸ SY.sub hx hy (by rw [h];exact h0)
theorem ZMC {T T2:TypeId} {x y:Operand} {p q c:Int} (h:p+q=c) (h0 : -9223372036854775808≤c/\c≤9223372036854775807) (hx:OpD fr x (dI p)) (hy:OpD fr y (dI q)):SY P ops hp ⟨dst,.binOp .add T x y T2,ty,ps,af,g⟩ fr (dI c):=h ▸ SY.add hx hy (by rw [h];exact h0)
theorem ZJ9 {o:Oper} {v:Value} {n:Int} (e:v = .int .i64 n) (h:SY P ops hp o fr (dX v)):SY P ops hp o fr (dI n):=by
 subst e;exact h
theorem ZO0 {α:Type} {R:Rel α} {_gR:Good R} {x:Operand} {xs:List α} (hx:OpD fr x (dS (Arr R) xs)):SY Tryz.prog ops hp ⟨dst,.build 66 #[(1,x)],ty,ps,af,g⟩ fr (ZKR [dI 0,dS (Arr R) xs]):=SY.val fun {I w a} ho=>by
 have h1:Arr R I w (a.eval x) xs:=hx.get (by simp [Op.operands]) ho
 have h1':=h1
 obtain ⟨ad,c,hv,_⟩:=h1'
 rw [hv] at h1
 have hm:∀ w,(Instr.build 66 #[(1,.slice ad xs.length c)]).run Tryz.prog w = .ok (.agg #[.int .i64 0,.slice ad xs.length c]) w:=by intro w;go_simp
 refine ⟨.agg #[.int .i64 0,.slice ad xs.length c],?_,[.int .i64 0,.slice ad xs.length c],rfl,rfl,fun c hc=>?_,fun k c e hc he=>?_⟩
 ·unfold execOp
  simp only [List.map_toArray,List.map_cons,List.map_nil,hv,Sem.run_bind,hm,Result.andThen_ok,Sem.run_pure]
 ·simp at hc;rcases hc with rfl|rfl <;> rfl
 ·match k,hc,he with
  | 0,hc,he=>cases hc;cases he;rfl
  | 1,hc,he=>cases hc;cases he;exact h1
end
theorem ZQA {l:Cx} {d:Nat} (h:Zs l (d+1)=[]):L05.matG L05.incF (ZEz l d) (Zs l (d+1))=List.replicate (ZEz l d).length []:=by
 rw [h]
 unfold L05.matG
 have:(fun r:List Vx=>L05.posN (L05.incF r) ([]:Cx) ([]:Cx).length)=fun _=>[]:=funext fun r=>rfl
 rw [this]
 exact List.map_const' ..
theorem ZNI (l:Cx) (d:Nat) (h0:ZA8 l=0) (hd:d≤8) (hN:∀ k,(Zs l k).length≤4096):Fn Tryz.prog 32 [dS Cpx l,dI (d:Int)] (dT [dS Mat ((((Zs l (d+1)).length:Nat):Int),L05.matG L05.incF (ZEz l d) (Zs l (d+1))),dI 0]):=by
 refine ZCS ZJ0 Tryz.func32 rfl rfl ?_
 -- @kinds homology.edges
 simp only [Tryz.ntmps32,List.length_cons,List.length_nil,Nat.reduceAdd,Nat.reduceSub,List.replicate_succ,List.replicate_zero,List.cons_append,List.nil_append]
 by_cases h8:d<8
 ·have hdI:(d:Int)<8:=by omega
  have cM:=ZRw l d h0 h8 hN
  generalize L05.matG L05.incF (ZEz l d) (Zs l (d+1))=rows at *
  generalize (((Zs l (d+1)).length:Nat):Int)=n at *
  ((repeat' (first|(apply WL.opN;exact yF;dsimp only [ZB,z0,z1])|refine WL.nil ?_|refine ZA fun Kx hK=>?_|(refine hK _ _ ?_;clear hK)|refine WC.region ?_ |  (refine WL.alloc (dst:=some 4) ZRG (ZAa rfl rfl) fun b4=>?_;dsimp only [ZB,z0,z1]) |  (refine ZI ZJ0 rfl (OpD.t rfl) Zy ?_;dsimp only [ZB,z0,z1])|(apply WL.opN;(focus ((first|(exact SY.box (OpD.t rfl) ZAT)|(apply SY.call (cM) Tryz.call61;(exact aD))|((first|apply SY.move|apply SY.assign|apply SY.lss) <;> (exact oD))|(apply SY.extract;(exact oD);rfl)|fail);all_goals infer_instance));dsimp only [ZB,z0,z1])|(apply WC.condD;(exact oD);all_goals (intro h;try exact xD))|refine WC.ret ?_|refine ThenD.r ?_));all_goals (first|((repeat clear hK);(repeat clear Kx))))
  all_goals try (exfalso;first|contradiction|omega)
  exact ⟨trivial,⟨_,rfl,FinD.le (Dat.le_refl _)⟩,_,rfl,FinD.le (Dat.le_refl _)⟩
 ·have hdI:¬ (d:Int)<8:=by omega
  obtain rfl:d=8:=by omega
  have hg:=Zr.1 h0
  have h9:Zs l (8+1)=[]:=List.eq_nil_iff_forall_not_mem.2 fun c hc=>by
   obtain ⟨f,hf,hs⟩:=ZES hc
   have h1:=(Zf (hg.2.2.1 f hf)).2
   have h2:=hs.length_le
   have h3:=ZCK hc
   omega
  have cS:=ZK7 l ((8:Nat)-1:Int) ⟨by omega,by omega⟩
  have hs:=ZOM h0 hN (d:=7) (by omega)
  rw [show ((8:Nat)-1:Int)=((7:Nat):Int) by omega,hs] at cS
  simp only at cS
  have h8l:=hN 8
  have hr:(ZEz l 8).length=(Zs l (7+1)).length:=by unfold ZEz;rw [if_neg (by omega)]
  rw [ZQA h9,h9,hr]
  generalize (Zs l (7+1)).length=n at *
  ((repeat' (first|(apply WL.opN;exact yF;dsimp only [ZB,z0,z1])|refine WL.nil ?_|refine ZA fun Kx hK=>?_|(refine hK _ _ ?_;clear hK)|refine WC.region ?_ |  (refine ZIJ (R:=RI) (_gR:=inferInstance) ZHw (OpD.t rfl) (OpD.t rfl) rfl (by omega) (by omega) fun v=>?_;dsimp only [ZB,z0,z1];refine ZPB (s:=23) rfl ?_;dsimp only [z0,z1]) |  (refine WL.alloc (dst:=some 4) ZRG (ZAa rfl rfl) fun b4=>?_;dsimp only [ZB,z0,z1]) |  (refine ZI ZJ0 rfl (OpD.tle rfl ZG2) Zy ?_;dsimp only [ZB,z0,z1])|(apply WL.opN;(focus ((first|(exact SY.box (OpD.t rfl) ZAT)|(exact ZC1 (c:=((7:Nat):Int)) (by omega) (by omega) (OpD.t rfl) OpD.i)|(apply SY.call (cS) Tryz.call34;(exact aD))|(exact ZO0 (R:=ZBk) (_gR:=inferInstance) (OpD.t rfl))|((first|apply SY.move|apply SY.assign|apply SY.lss) <;> (exact oD))|(apply SY.extract;(exact oD);rfl)|fail);all_goals infer_instance));dsimp only [ZB,z0,z1])|(apply WC.condD;(exact oD);all_goals (intro h;try exact xD))|refine WC.skip ?_|refine WC.ret ?_));all_goals (first|((repeat clear hK);(repeat clear Kx))))
  all_goals try (exfalso;first|contradiction|omega)
  exact ⟨trivial,⟨_,rfl,FinD.le (Dat.le_refl _)⟩,_,rfl,FinD.le (Dat.le_refl _)⟩
theorem ZJp:MapT Tryz.prog 63 3 3 (.int .i64 0):=⟨Tryz.underlying63,fun w=>by kernel_rfl⟩
abbrev ZOa:Int->Value:=fun n=>Value.int .i64 n
def rkM (l:Cx) (k:Nat):List (Int × Int):=(List.range k).map fun d:Nat=>((d:Int),(rkC l d:Int))
theorem ZHi (l:Cx) (k:Nat):((rkM l k).map (·.1)).Nodup:=by
 unfold rkM
 rw [List.map_map]
 refine List.pairwise_map.2 (List.nodup_range.imp fun {a b} h e=>h ?_)
 have e2:(a:Int)=(b:Int):=e
 omega
theorem ZRB {l:Cx} {k:Nat} {p:Int × Int} (h:p∈rkM l k):∃ d:Nat,d<k/\p=((d:Int),(rkC l d:Int)):=by
 obtain ⟨d,hd,e⟩:=List.mem_map.1 h
 exact ⟨d,List.mem_range.1 hd,e.symm⟩
theorem ZRC {l:Cx} {k:Nat} (hk:k≤100):∀ p∈rkM l k,ZBs p.1:=fun p hp=>by
 obtain ⟨d,hd,rfl⟩:=ZRB hp
 unfold ZBs
 simp only
 omega
theorem ZSG (l:Cx) (k:Nat):ZDr (rkM l k) (k:Int) (rkC l k:Int)=rkM l (k+1):=by
 rw [ZEF fun p hp=>by
  obtain ⟨d,hd,rfl⟩:=ZRB hp
  simp only;omega]
 unfold rkM
 rw [List.range_succ,List.map_append];rfl
theorem ZK5 {l:Cx} {k d:Nat} (h:d<k):lookM (rkM l k) (d:Int)=some (rkC l d:Int):=by
 have hlt:d<(rkM l k).length:=by simp [rkM,h]
 have:=ZDU (ZHi l k) hlt
 simpa [rkM] using this
theorem ZNH {l:Cx} (h:ZA8 l=0) : -1≤ZF9 l/\ZF9 l≤7:=by
 have h1:=ZSi l
 have hg:=Zr.1 h
 refine ⟨h1,?_⟩
 have h2:=ZHY l
 have h3:=ZHX l
 rcases h2.2 with h4|⟨s,hs,h4⟩
 ·omega
 ·have:=(Zf (hg.2.2.1 s hs)).2
  omega
set_option maxHeartbeats 16000000 in
theorem ZMq (l:Cx) (h0:ZA8 l=0) (hN:∀ k,(Zs l k).length≤4096):Fn Tryz.prog 17 [dS Cpx l] (dT [dS ZBk (ZF7 l),dI 0]):=by
 have cD:=ZIe l
 rw [h0,if_neg (by omega),if_neg (by omega)] at cD
 obtain ⟨d1,d2⟩:=ZNH h0
 have hbl:ZF7 l=(List.range (ZF9 l+1).toNat).map (ZF6 l):=rfl
 rw [hbl]
 obtain ⟨m,hm⟩:∃ m:Nat,ZF9 l=(m:Int)-1:=⟨(ZF9 l+1).toNat,by omega⟩
 have hmt:(ZF9 l+1).toNat=m:=by omega
 rw [hmt]
 rw [hm] at cD
 have hm8:m≤8:=by omega
 have hm2:(m:Int)-1+2=((m+1:Nat):Int):=by push_cast;omega
 have hm1:(m:Int)-1+1=(m:Int):=by omega
 (refine Z7 Tryz.func17 rfl rfl ?_;simp only [Tryz.ntmps17,List.length_cons,List.length_nil,Nat.reduceAdd,Nat.reduceSub,List.replicate_succ,List.replicate_zero,List.cons_append,List.nil_append])
 (repeat' (first|(apply WL.opN;exact yF;dsimp only [ZB,z0,z1])|refine WL.nil ?_|refine ZA fun Kx hK=>?_|(refine hK _ _ ?_;clear hK)|refine WC.region ?_ |  (refine WL.makeMap kvQ ZOa fun bm=>?_;dsimp only [ZB,z0,z1])|(apply WL.opN;(focus ((first|(exact SY.box (OpD.t rfl) ZAT)|(apply SY.call (cD) Tryz.call31;(exact aD))|(exact SY.add (OpD.t rfl) OpD.i (by omega))|((first|apply SY.move|apply SY.assign|apply SY.lss|apply SY.neq) <;> (exact oD))|(apply SY.extract;(exact oD);rfl)|fail);all_goals infer_instance));dsimp only [ZB,z0,z1])|(apply WC.condN;(exact oD);all_goals (intro h;try exact xD))|refine WC.skip ?_|refine WC.block ?_))
 all_goals try (exfalso;first|contradiction|omega)
 rw [hm2]
 (refine ZH (X:=Nat) (fun d=>[(27,dI (d:Int)),(2,dA),(3,dA),(8,dA),(9,dA),(10,dA),(28,dA),(29,dA),(30,dA),(31,dA),(32,dA),(33,dA),(34,dA),(35,dA),(36,dA),(37,dA),(38,dA),(39,dA),(40,dA),(41,dA),(42,dA),(43,dA),(44,dA),(45,dA),(46,dA),(47,dA),(48,dA),(49,dA)]) (fun d=>([hM bm kvQ ZOa (rkM l d)])) (fun d=>m+1-d) (fun d=>d≤m+1) 0 ?start ?frame0 ?objs0 ?round)
 case start=>exact Nat.zero_le _
 case frame0=>((try dsimp only [ZQ,z0,z1]);repeat (first|exact LeF.nil|refine ZD (k:=?_)))
 case objs0=>rfl
 case round =>
  rintro d hd
  dsimp only [ZQ,z0,z1]
  by_cases hdl:d<m+1
  ·have hdI:(d:Int)<((m+1:Nat):Int):=by omega
   have cE:=ZNI l d h0 (by omega) hN
   have cR:=ZQR (Zs l (d+1)).length (L05.matG L05.incF (ZEz l d) (Zs l (d+1))) (hN _) (by have:=ZI5 hN d;simpa [L05.matG] using this) (L05.mat_asc _ _ _) (L05.mat_low _ _ _) (L05.mat_pos _ _ _)
   rw [L05.out_rank,show L05.rkG L05.incF (ZEz l d) (Zs l (d+1))=rkC l d from rfl] at cR
   have hput:=ZSG l d
   have hkeys:=ZHi l d
   have hok:=ZRC (l:=l) (k:=d) (by omega)
   have h64:ZBs (d:Int):=by unfold ZBs;omega
   generalize L05.matG L05.incF (ZEz l d) (Zs l (d+1))=rows at *
   generalize (((Zs l (d+1)).length:Nat):Int)=n at *
   ((repeat' (first|(apply WL.opN;exact yF;dsimp only [ZB,z0,z1])|refine WL.nil ?_|refine ZA fun Kx hK=>?_|(refine hK _ _ ?_;clear hK)|refine WC.region ?_ |  (refine WL.alloc (dst:=some 9) ZRG (ZAa rfl rfl) fun b9=>?_;dsimp only [ZB,z0,z1]) |  (refine ZI ZJ0 rfl (OpD.t rfl) Zy ?_;dsimp only [ZB,z0,z1]) |  (refine ZDy (v:=(d:Int)) (u:=(rkC l d:Int)) ZJp ZD6 (OpD.t rfl) (OpD.t rfl) isI (OpD.t rfl) isI h64 hok hkeys ?_;dsimp only [ZB,z0,z1])|(apply WL.opN;(focus ((first|(apply SY.call (cE) Tryz.call32;(exact aD))|(apply SY.call (cR) Tryz.call33;(exact aD))|((first|apply SY.move|apply SY.assign|apply SY.lss|apply SY.neq) <;> (exact oD))|((first|apply SY.add|apply SY.sub) <;> first|exact oD|omega)|(apply SY.extract;(exact oD);rfl)|fail);all_goals infer_instance));dsimp only [ZB,z0,z1])|(apply WC.condD;(exact oD);all_goals (intro h;try exact xD))|(apply WC.condN;(exact oD);all_goals (intro h;try exact xD))|refine WC.skip ?_|refine WC.block ?_|refine ThenD.n ?_));all_goals (first|((repeat clear hK);(repeat clear Kx))))
   all_goals try (exfalso;first|contradiction|omega)
   rw [hput]
   (refine ⟨d+1,?_,by first|omega|(simp only;omega),rfl,?_⟩;rotate_left;((try dsimp only [ZQ,z0,z1]);repeat (first|exact LeF.nil|refine ZD (k:=?_)));(try dsimp only))
   exact hdl
  ·have hdI:¬ (d:Int)<((m+1:Nat):Int):=by omega
   obtain rfl:d=m+1:=by omega
   refine ZB0 3 RI ?_
   (repeat' (first|(apply WL.opN;exact yF;dsimp only [ZB,z0,z1])|refine WL.nil ?_|refine ZA fun Kx hK=>?_|(refine hK _ _ ?_;clear hK)|(refine Kont.skip ?_;clear hK)|refine WC.region ?_|(apply WL.opN;(focus ((first|(exact SY.add (OpD.t rfl) OpD.i (by omega))|((first|apply SY.move|apply SY.assign|apply SY.lss|apply SY.neq) <;> (exact oD))|fail);all_goals infer_instance));dsimp only [ZB,z0,z1])|(apply WC.condD;(exact oD);all_goals (intro h;try exact xD))|refine WC.exit ?_|refine WC.block ?_))
   all_goals try (exfalso;first|contradiction|omega)
   rw [hm1]
   (refine ZH (X:=Nat × Value) (fun x=>[(52,dI (x.1:Int)),(11,dX x.2),(2,dA),(3,dA),(12,dA),(13,dA),(14,dA),(53,dA),(54,dA),(55,dA),(56,dA),(57,dA),(58,dA),(59,dA),(60,dA),(61,dA),(62,dA),(63,dA),(64,dA),(65,dA),(66,dA),(67,dA),(68,dA),(69,dA),(70,dA),(71,dA),(72,dA),(73,dA),(74,dA),(75,dA),(76,dA),(77,dA)]) (fun x=>([Zh x.2 3 RI ((List.range x.1).map (ZF6 l)),hM bm kvQ ZOa (rkM l (m+1))])) (fun x=>m-x.1) (fun x=>x.1≤m) (0,.slice none 0 0) ?start ?frame0 ?objs0 ?round)
   case start=>exact Nat.zero_le _
   case frame0=>((try dsimp only [ZQ,z0,z1]);repeat (first|exact LeF.nil|refine ZD (k:=?_)))
   case objs0=>rfl
   case round =>
    rintro ⟨k,v⟩ hk
    simp only at hk
    dsimp only [ZQ,z0,z1]
    by_cases hkl:k<m
    ·have hkI:(k:Int)<(m:Int):=by omega
     have cS:=ZK7 l (k:Int) ⟨by omega,by omega⟩
     rw [ZOM h0 hN (by omega)] at cS
     simp only at cS
     have hkeys:=ZHi l (m+1)
     have hok:=ZRC (l:=l) (k:=m+1) (by omega)
     have h64:ZBs (k:Int):=by unfold ZBs;omega
     have h65:ZBs ((k+1:Nat):Int):=by unfold ZBs;omega
     have l1:=ZK5 (l:=l) (show k<m+1 by omega)
     have l2:=ZK5 (l:=l) (show k+1<m+1 by omega)
     have b1:=hN (k+1)
     have b2:=ZRA hN k
     have b3:=ZRA hN (k+1)
     have hbc:ZF6 l k=((Zs l (k+1)).length:Int)-(rkC l k:Int)-(rkC l (k+1):Int):=rfl
     have v1:((lookM (rkM l (m+1)) (k:Int)).map ZOa).getD (.int .i64 0) = .int .i64 (rkC l k:Int):=by rw [l1];rfl
     have v2:((lookM (rkM l (m+1)) ((k+1:Nat):Int)).map ZOa).getD (.int .i64 0) = .int .i64 (rkC l (k+1):Int):=by rw [l2];rfl
     have hsn:((List.range (k+1)).map (ZF6 l))=((List.range k).map (ZF6 l))++[ZF6 l k]:=by rw [List.range_succ,List.map_append];rfl
     have hln:(((List.range k).map (ZF6 l)).length+1)*8≤140737488355328:=by simp;omega
     have e1:(k:Int)+1=((k+1:Nat):Int):=by push_cast;rfl
     generalize (Zs l (k+1)).length=n at *
     generalize rkC l k=r1 at *
     generalize rkC l (k+1)=r2 at *
     ((repeat' (first|(apply WL.opN;exact yF;dsimp only [ZB,z0,z1])|refine WL.nil ?_|refine ZA fun Kx hK=>?_|(refine hK _ _ ?_;clear hK)|refine WC.region ?_ |  (refine Zv elI (R:=RI) (_gR:=inferInstance) (OpD.t rfl) (OpD.t rfl) (fun _=>ZAc) (by simp) (by simp) (by decide) hln fun v'=>?_;dsimp only [ZB,z0,z1])|(apply WL.opN;(focus ((first|(apply SY.call (cS) Tryz.call34;(exact aD))|(exact ZJ9 v1 (SY.lookM ZJp ZD6 (OpD.t rfl) (mAt 1 rfl) (OpD.t rfl) isI h64 hok hkeys))|(exact ZJ9 v2 (SY.lookM ZJp ZD6 (OpD.t rfl) (mAt 1 rfl) (OpD.t rfl) isI h65 hok hkeys))|(exact ZMC e1 (by omega) (OpD.t rfl) OpD.i)|(exact ZC1 (c:=(n:Int)-(r1:Int)) rfl (by omega) (OpD.t rfl) (OpD.t rfl))|(exact ZC1 (c:=ZF6 l k) hbc.symm (by omega) (OpD.t rfl) (OpD.t rfl))|((first|apply SY.move|apply SY.assign|apply SY.lss|apply SY.neq) <;> (exact oD))|(apply SY.extract;(exact oD);rfl)|fail);all_goals infer_instance));dsimp only [ZB,z0,z1])|(apply WC.condD;(exact oD);all_goals (intro h;try exact xD))|(apply WC.condN;(exact oD);all_goals (intro h;try exact xD))|refine WC.skip ?_|refine WC.block ?_|refine ThenD.n ?_));all_goals (first|((repeat clear hK);(repeat clear Kx))))
     all_goals try (exfalso;first|contradiction|omega)
     rw [<- hsn]
     (refine ⟨(k+1,v'),?_,by first|omega|(simp only;omega),rfl,?_⟩;rotate_left;((try dsimp only [ZQ,z0,z1]);repeat (first|exact LeF.nil|refine ZD (k:=?_)));(try dsimp only))
     exact hkl
    ·have hkI:¬ (k:Int)<(m:Int):=by omega
     obtain rfl:k=m:=by omega
     ((repeat' (first|(apply WL.opN;exact yF;dsimp only [ZB,z0,z1])|refine WL.nil ?_|refine ZA fun Kx hK=>?_|(refine hK _ _ ?_;clear hK)|(refine Kont.skip ?_;clear hK)|refine WC.region ?_|(apply WL.opN;(focus ((first|((first|apply SY.move|apply SY.assign|apply SY.lss|apply SY.neq) <;> (exact oD))|fail);all_goals infer_instance));dsimp only [ZB,z0,z1])|(apply WC.condD;(exact oD);all_goals (intro h;try exact xD))|refine WC.ret ?_|refine WC.exit ?_));all_goals (first|((repeat clear hK);(repeat clear Kx))))
     all_goals try (exfalso;first|contradiction|omega)
     (refine ⟨trivial,⟨_,rfl,?_⟩,_,rfl,?_⟩ <;> exact fD)
theorem ZE8 (l:Cx) (h0:ZA8 l=0) (hN:∀ k,(Zs l k).length≤4096):Fn Tryz.prog 6 [dS Cpx l] (dT [dS ZBk (ZF7 l),dI 0]):=by
 have cC:=ZMw l
 have e:(ZKV l).2=0:=by
  unfold ZKV
  rw [h0,if_neg (by omega:¬ (0:Int)≠0),if_neg]
  intro hc
  rw [List.any_eq_true] at hc
  obtain ⟨k,hk,h2⟩:=hc
  have h3:=of_decide_eq_true h2
  have:=hN (k+1)
  omega
 rw [e] at cC
 have cB:=ZMq l h0 hN
 (refine Z7 Tryz.func6 rfl rfl ?_;simp only [Tryz.ntmps6,List.length_cons,List.length_nil,Nat.reduceAdd,Nat.reduceSub,List.replicate_succ,List.replicate_zero,List.cons_append,List.nil_append])
 ((repeat' (first|(apply WL.opN;exact yF;dsimp only [ZB,z0,z1])|refine WL.nil ?_|refine ZA fun Kx hK=>?_|(refine hK _ _ ?_;clear hK)|refine WC.region ?_|(apply WL.opN;(focus ((first|(exact SY.box (OpD.t rfl) ZAT)|(apply SY.call (cC) Tryz.call16;(exact aD))|(apply SY.call (cB) Tryz.call17;(exact aD))|((first|apply SY.move|apply SY.assign|apply SY.neq) <;> (exact oD))|(apply SY.extract;(exact oD);rfl)|fail);all_goals infer_instance));dsimp only [ZB,z0,z1])|(apply WC.condN;(exact oD);all_goals (intro h;try exact xD))|refine WC.skip ?_|refine WC.ret ?_));all_goals (first|((repeat clear hK);(repeat clear Kx))))
 all_goals try (exfalso;first|contradiction|omega)
 (refine ⟨trivial,⟨_,rfl,?_⟩,_,rfl,?_⟩ <;> exact fD)
end
section
open Go.RowKit
section
variable {P:Program} {ops:Array Oper} {hp:List HObj} {o:Oper} {fr:List Dat} {d:Dat} {Q:ZAE} {rest:List Oper}
variable {dst:Option Tmp} {ty:TypeId} {ps:String} {af:Array Edge} {g:Option (Nat × Bool)} {b cap:Nat} {e t T:TypeId} {xs:List Vx} {bytes:Nat} {z:Value} {ag:Bool}
theorem ZMa {o:Oper} {k N:Nat} {ys:List Vx} {r:Value} (hg:o.guard=none) (hk:k+ys.length≤xs.length) (hrun:∀ {I:Nat->Prop} {w:World} {a:Act},Fr I w a fr->ZH9 w b cap e xs->(execOp a.eval o).run P w = .ok (.value r) (w.setCells b (k*2) (ZT ys)))
  (h:WL P ops Q rest (ZB fr o.dst (dX r)) (hV b N cap e (xs.take k++ys++xs.drop (k+ys.length))::hp)):WL P ops Q (o::rest) fr (hV b N cap e xs::hp):=by
 refine WL.of fun P0 B w0 w a hh hf=>?_
 obtain ⟨hN,hrow⟩:=ZC8.1 (hh.ok (hV b N cap e xs) (by simp))
 have hr:=hrun hf hrow
 have hgr:w.grownBy (w.setCells b (k*2) (ZT ys)) (hV b N cap e xs).blk:=ZEG
 have hok:(hV b N cap e (xs.take k++ys++xs.drop (k+ys.length))).ok (fun j=>Imm P0 B (hV b N cap e xs::hp) j/\j<w.heap.size) (w.setCells b (k*2) (ZT ys)) :=
  ZC8.2 ⟨by rw [hN];simp;omega,ZI4 hrow k ys hk⟩
 refine wpList_plain hg fun K hK=>?_
 unfold Oper.wp
 rw [hr]
 exact hK _ _ (h.on (hh.write hgr (.inl rfl) hok) (Fr.put (hf.mono fun _ _ hd=>ZN (o':=hV b N cap e (xs.take k++ys++xs.drop (k+ys.length))) hgr (.inl rfl) hd) (d:=dX r) rfl))
theorem ZJf {l:List Vx} {j:Nat} (hj:j≤l.length) (q:Nat):(ZT (l.drop j))[q]?=(ZT l)[j*2+q]?:=by
 have e:ZT l=ZT (l.take j)++ZT (l.drop j):=by rw [<- ZAq,List.take_append_drop]
 have hl:(ZT (l.take j)).length=j*2:=by rw [ZY,List.length_take];congr 1;omega
 rw [e,List.getElem?_append_right (by omega),hl]
 congr 1;omega
theorem ZMV {s y:Operand} {i j N m c of:Nat} (E:ElT P t e 2 z bytes ag) (hs:OpD fr s (dX (.slice (some ⟨b,0,none⟩) i cap))) (hy:OpD fr y (dX (.slice (some ⟨b,of,none⟩) m c))) (hm:m=xs.length-j) (ho:0<m->of=j*2) (hij:i≤j) (hj:j≤xs.length)
  (h:WL P ops Q rest (ZB fr dst (dX (.slice (some ⟨b,0,none⟩) (i+m) cap))) (hV b N cap e (xs.take i++xs.drop j++xs.drop (i+m))::hp)) :
  WL P ops Q (⟨dst,.call { callee:=.builtin .append,args:=#[s,y],argTypes:=#[t,t] },ty,ps,af,none⟩::rest) fr (hV b N cap e xs::hp):=by
 subst hm
 have hl:(xs.drop j).length=xs.length-j:=List.length_drop
 refine ZMa (k:=i) (ys:=xs.drop j) (r:=.slice (some ⟨b,0,none⟩) (i+(xs.length-j)) cap) rfl (by rw [hl];omega) (fun {I w a} hf hrow=>?_) (by rw [hl];exact h)
 have h1:a.eval s=_:=hs.ev hf
 have h2:a.eval y=_:=hy.ev hf
 obtain ⟨i0,hi,hz,hsz,hbt⟩:=info_parts E.info
 have hcap:xs.length≤cap:=by obtain ⟨tl,_,hc1,_⟩:=hrow;exact hc1
 have hcell:∀ q,q<xs.length*2->w.cell? ⟨b,q,none⟩=(ZT xs)[q]?/\w.frozen? ⟨b,q,none⟩=false:=fun q hq=>ZHk hrow q hq
 have hfl:(ZT (xs.drop j)).length=(xs.length-j)*2:=by rw [ZY,hl]
 have hr:=run_append_room_cells (P:=P) w t ty e i0 E.und hi b 0 i cap ⟨b,of,none⟩ (xs.length-j) c (ZT (xs.drop j)) (by rw [hfl,hsz]) (fun q u hu=>by
   have hq:q<(xs.length-j)*2:=by have:=(List.getElem?_eq_some_iff.1 hu).1;omega
   rw [ho (by omega),Addr.add_lit,(hcell _ (by omega)).1,<- ZJf hj]
   exact hu) (ZCX _) (by omega) (fun q hq=>by
   rw [hsz,Nat.zero_add,(hcell _ (by omega)).1,List.getElem?_eq_getElem (by rw [ZY];omega)]
   rfl) (fun q hq=>by rw [hsz,Nat.zero_add];exact (hcell _ (by omega)).2)
 rw [hsz,Nat.zero_add] at hr
 unfold execOp
 simp only [resolve,invoke,builtin,List.map_toArray,List.map_cons,List.map_nil,h1,h2,Sem.run_bind,Sem.run_pure,Result.andThen_ok,hr]
theorem SY.fromP {x y:Operand} {off n m l:Nat} {j:Int} (E:ElT P t e 2 z bytes ag) (hx:OpD fr x (dX (.slice (some ⟨b,off,none⟩) n m))) (hy:OpD fr y (dI j)) (hj:j=(l:Int)) (hl:l≤n) (hm:n≤m) :
  SY P ops hp ⟨dst,.slice t x (some y) none none,ty,ps,af,g⟩ fr (dX (.slice (some ⟨b,if m=l then off else off+l*2,none⟩) (n-l) (m-l))):=SY.val fun {I w a} ho=>by
 have h1:a.eval x=_:=hx.get (by simp [Op.operands]) ho
 have h2:a.eval y=_:=hy.get (by simp [Op.operands]) ho
 refine ⟨_,?_,rfl⟩
 have hr:=ZBh (w:=w) (ad:=some ⟨b,off,none⟩) (len:=n) (cap:=m) (lo:=some (.int .i64 (l:Int))) (hi:=none) (l:=l) (h:=n) E (.inr ⟨_,rfl⟩) (.inl ⟨rfl,rfl⟩) (by omega) hm
 unfold execOp
 simp only [h1,h2,hj,Option.map_none,Option.map_some,Sem.run_bind,hr,Result.andThen_ok,Sem.run_pure]
 split <;> simp [Addr.add_lit]
theorem SY.midO {x y1 y2:Operand} {off n m l k:Nat} {j1 j2:Int} (E:ElT P t e 2 z bytes ag) (hx:OpD fr x (dX (.slice (some ⟨b,off,none⟩) n m))) (hy1:OpD fr y1 (dI j1)) (hy2:OpD fr y2 (dI j2)) (e1:j1=(l:Int)) (e2:j2=(k:Int)) (h1:l≤k) (h2:k≤m) :
  SY P ops hp ⟨dst,.slice t x (some y1) (some y2) none,ty,ps,af,g⟩ fr (dX (.slice (some ⟨b,if m=l then off else off+l*2,none⟩) (k-l) (m-l))):=SY.val fun {I w a} ho=>by
 have q0:a.eval x=_:=hx.get (by simp [Op.operands]) ho
 have q1:a.eval y1=_:=hy1.get (by simp [Op.operands]) ho
 have q2:a.eval y2=_:=hy2.get (by simp [Op.operands]) ho
 refine ⟨_,?_,rfl⟩
 have hr:=ZBh (w:=w) (ad:=some ⟨b,off,none⟩) (len:=n) (cap:=m) (lo:=some (.int .i64 (l:Int))) (hi:=some (.int .i64 (k:Int))) (l:=l) (h:=k) E (.inr ⟨_,rfl⟩) (.inr ⟨_,rfl⟩) h1 h2
 unfold execOp
 simp only [q0,q1,q2,e1,e2,Option.map_none,Option.map_some,Sem.run_bind,hr,Result.andThen_ok,Sem.run_pure]
 split <;> simp [Addr.add_lit]
theorem ZMI {x y1 y2 y3:Operand} {off n m l k q:Nat} {j1 j2 j3:Int} (E:ElT P t e 2 z bytes ag) (hx:OpD fr x (dX (.slice (some ⟨b,off,none⟩) n m))) (hy1:OpD fr y1 (dI j1)) (hy2:OpD fr y2 (dI j2)) (hy3:OpD fr y3 (dI j3)) (e1:j1=(l:Int)) (e2:j2=(k:Int)) (e3:j3=(q:Int)) (h1:l≤k) (h2:k≤q) (h3:q≤m) :
  SY P ops hp ⟨dst,.slice t x (some y1) (some y2) (some y3),ty,ps,af,g⟩ fr (dX (.slice (some ⟨b,if q=l then off else off+l*2,none⟩) (k-l) (q-l))):=SY.val fun {I w a} ho=>by
 have q0:a.eval x=_:=hx.get (by simp [Op.operands]) ho
 have q1:a.eval y1=_:=hy1.get (by simp [Op.operands]) ho
 have q2:a.eval y2=_:=hy2.get (by simp [Op.operands]) ho
 have q3:a.eval y3=_:=hy3.get (by simp [Op.operands]) ho
 refine ⟨_,?_,rfl⟩
 obtain ⟨i,hi',hz,hs,hb⟩:=info_parts E.info
 have hr:(Instr.sliceAt t (.slice (some ⟨b,off,none⟩) n m) (some (.int .i64 (l:Int))) (some (.int .i64 (k:Int))) (some (.int .i64 (q:Int)))).run P w = .ok (.slice (if q=l then some ⟨b,off,none⟩ else (some (⟨b,off,none⟩:Addr)).map (·.add (l*2))) (k-l) (q-l)) w:=by
  have a1:(0:Int)≤l/\(l:Int)≤(k:Nat):=by omega
  have a2:(0:Int)≤k/\(k:Int)≤(q:Nat):=by omega
  have a3:(0:Int)≤q/\(q:Int)≤(m:Nat):=by omega
  simp [Instr.sliceAt,Instr.slice,run_underlying E.und,Instr.sliceBounds,Instr.sliceBound,asIntOf,sizeOf,typeInfo,hi',hs,h1,h2,h3]
 unfold execOp
 simp only [q0,q1,q2,q3,e1,e2,e3,Option.map_some,Sem.run_bind,hr,Result.andThen_ok,Sem.run_pure]
 split <;> simp [Addr.add_lit]
end
end
end Go.Proofs.YtokmalofdapffaaGreat
