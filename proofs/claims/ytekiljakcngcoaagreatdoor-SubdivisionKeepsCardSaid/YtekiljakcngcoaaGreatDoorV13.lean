/- Part 13: walks by contracts, and plain laws. -/
import Derived.Test.YtekiljakcngcoaaGreatDoorV12
set_option linter.unusedVariables false
set_option linter.unusedSimpArgs false
set_option linter.unusedSectionVars false
set_option maxRecDepth 100000
set_option maxHeartbeats 4000000
namespace Go.Proofs.YtekiljakcngcoaaGreatDoor
section
open Go.RowKit
def R1 {α:Type} (R:Rel α):Rel α:=fun P w v x=>∃ u,v = .agg #[u]/\u.oneCell'=true/\R P w u x
instance {α:Type} (R:Rel α) [Good R]:Good (R1 R) where
 weak:=fun ⟨u,h1,h0,h2⟩ q=>⟨u,h1,h0,Good.weak h2 q⟩
 move:=fun ⟨u,h1,h0,h2⟩ q=>⟨u,h1,h0,Good.move h2 q⟩
 bound:=fun ⟨u,h1,h0,h2⟩=>⟨u,h1,h0,Good.bound h2⟩
abbrev Cpx:Rel (List (List (Int × Int))):=R1 ZAe
theorem ZBM {α:Type} {R:Rel α} [Good R] {x:α}:(dS (R1 R) x).Shape 1 true:=fun _ _ _ h=>by
 obtain ⟨u,rfl,h0,_⟩:=h
 exact ⟨[u],rfl,Nat.one_pos,fun c hc=>by rw [List.mem_singleton.1 hc];exact h0,rfl,rfl⟩
theorem ZX {u:Value} (h0:u.oneCell'=true):(dX (.agg #[u])).Shape 1 true:=fun _ _ _ h=>by
 cases (h:_=_)
 exact ⟨[u],rfl,Nat.one_pos,fun c hc=>by rw [List.mem_singleton.1 hc];exact h0,rfl,rfl⟩
theorem ZQC {α:Type} {R:Rel α} [Good R] {xs:List α}:∀ (I:Nat->Prop) (w:World) (v:Value),(dS (R1 (Arr R)) xs).rd I w v->xs.length≤maxLen:=fun _ _ _ h=>by obtain ⟨_,_,_,h⟩:=h;exact ZFe _ _ _ h
structure CpxT (P:Program) (T:TypeId):Prop where
 fld:∀ b off w,(Instr.fieldAt T (.pointer (some ⟨b,off,none⟩)) 0).run P w = .ok (.pointer (some ⟨b,off,none⟩)) w
 mkc:∀ a n c w,(Instr.build T #[(0,.slice a n c)]).run P w = .ok (.agg #[.slice a n c]) w
 mkc0:∀ w,(Instr.build T #[]).run P w = .ok (.agg #[.slice none 0 0]) w
theorem ZAA:CpxT Tryz.prog 24:=by
 constructor
 ·intro b off w;go_simp
 ·intro a n c w;go_simp
 ·intro w;go_simp
theorem tyC:TyI Tryz.prog 24 1 true:=⟨by kernel_rfl,Tryz.isAgg24⟩
theorem tzC:TyZ Tryz.prog 24 (.agg #[.slice none 0 0]):=⟨by kernel_rfl⟩
theorem ZIn:TyI Tryz.prog 22 1 false:=⟨by kernel_rfl,Tryz.isAgg22⟩
section
variable {P:Program} {ops:Array Oper} {hp:List HObj} {fr:List Dat} {d:Dat} {Q:ZAW} {rest:List Oper}
variable {dst:Option Tmp} {ty:TypeId} {ps:String} {af:Array Edge} {g:Option (Nat × Bool)} {T:TypeId} (V:CpxT P T)
include V
theorem Zb {α:Type} {R:Rel α} {_gR:Good R} {x:Operand} {xs:α} (hx:OpD fr x (dP 1 true (dS (R1 R) xs))):SY P ops hp ⟨dst,.fieldAddr T x 0,ty,ps,af,g⟩ fr (dP 1 false (dS R xs)):=SY.val fun {I w a} ho=>by
 obtain ⟨b,off,u,h1,⟨hb,cs,k1,k0,k2,k3,k4⟩,u0,hu,h0,h3⟩:=hx.get (by simp [Op.operands]) ho
 simp only [if_true] at k4
 rw [k4] at hu
 have hcs:cs=[u0]:=by injection hu with hu;exact List.toArray_inj hu
 subst hcs
 refine ⟨_,?_,b,off,u0,rfl,⟨hb,[u0],rfl,Nat.one_pos,by simp [h0],fun j c hc=>k3 j c hc,rfl⟩,h3⟩
 unfold execOp
 simp only [h1,Sem.run_bind,V.fld,Result.andThen_ok,Sem.run_pure]
theorem ZKP {x:Operand} {b:Nat} (hx:OpD fr x (dX (.pointer (some ⟨b,0,none⟩)))):SY P ops hp ⟨dst,.fieldAddr T x 0,ty,ps,af,g⟩ fr (dX (.pointer (some ⟨b,0,none⟩))):=SY.val fun {I w a} ho=>by
 have h1:a.eval x = .pointer (some ⟨b,0,none⟩):=hx.get (by simp [Op.operands]) ho
 refine ⟨_,?_,rfl⟩
 unfold execOp
 simp only [h1,Sem.run_bind,V.fld,Result.andThen_ok,Sem.run_pure]
theorem ZAv {α:Type} {R:Rel α} {_gR:Good R} {x:Operand} {xs:List α} (hx:OpD fr x (dS (Arr R) xs)):SY P ops hp ⟨dst,.build T #[(0,x)],ty,ps,af,g⟩ fr (dS (R1 (Arr R)) xs):=SY.val fun {I w a} ho=>by
 have h1:Arr R I w (a.eval x) xs:=hx.get (by simp [Op.operands]) ho
 have h2:=h1
 obtain ⟨ad,c,hv,_⟩:=h2
 rw [hv] at h1
 refine ⟨.agg #[.slice ad xs.length c],?_,_,rfl,rfl,h1⟩
 unfold execOp
 simp only [List.map_toArray,List.map_cons,List.map_nil,hv,Sem.run_bind,V.mkc,Result.andThen_ok,Sem.run_pure]
theorem ZAX:SY P ops hp ⟨dst,.build T #[],ty,ps,af,g⟩ fr (dS Cpx []):=SY.val fun {I w a} ho=>by
 refine ⟨.agg #[.slice none 0 0],?_,_,rfl,rfl,ZCG⟩
 unfold execOp
 simp only [List.map_toArray,List.map_nil,Sem.run_bind,V.mkc0,Result.andThen_ok,Sem.run_pure]
end
theorem ZFa {P:Program} {T:TypeId} {n:Nat} {agg:Bool} (T':TyI P T n agg) {I:Nat->Prop} {w:World} {b off:Nat} {u:Value} (h:Cells I w b off n agg u):(loadVar T ⟨b,off,none⟩).run P w = .ok u w:=by
 have h1:=ZA3 T' h
 simpa [Instr.loadAt,Instr.sureAddr] using h1
theorem ZIV {P:Program} {fn:Func} {t:Tmp} {T:TypeId} {n:Nat} {agg:Bool} (T':TyI P T n agg) (hr:fn.results=#[.cell t T]) {I:Nat->Prop} {w:World} {tmps:Array Value} {b off:Nat} {u:Value} (hp:tmps.getD t undef = .pointer (some ⟨b,off,none⟩)) (h:Cells I w b off n agg u):(results fn tmps).run P w = .ok u w:=by
 have h1:=ZFa T' h
 have hp':tmps[t]?.getD undef = .pointer (some ⟨b,off,none⟩):=by simpa using hp
 simp [results,hr,hp',asAddr,h1]
theorem ZBl {P:Program} {fn:Func} {t t2:Tmp} {T:TypeId} {n:Nat} {agg:Bool} (T':TyI P T n agg) (hr:fn.results=#[.cell t T,.tmp t2]) {I:Nat->Prop} {w:World} {tmps:Array Value} {b off:Nat} {u:Value} (hp:tmps.getD t undef = .pointer (some ⟨b,off,none⟩)) (h:Cells I w b off n agg u):(results fn tmps).run P w = .ok (.tuple #[u,tmps.getD t2 undef]) w:=by
 have h1:=ZFa T' h
 have hp':tmps[t]?.getD undef = .pointer (some ⟨b,off,none⟩):=by simpa using hp
 simp [results,hr,hp',asAddr,h1]
section
variable {P:Program} {hp:List HObj} {d:Dat}
def finC1 (t:Nat) (n:Nat) (agg:Bool) (res:Dat):ZAW:=fun e fr hp=>(match e with|.normal|.ret=>True|_=>False)/\∃ d,fr[t]?=some (dP n agg d)/\FinD hp d res
def finC2 (t u:Nat) (n:Nat) (agg:Bool) (r s:Dat):ZAW:=fun e fr hp=>(match e with|.normal|.ret=>True|_=>False)/\(∃ d,fr[t]?=some (dP n agg d)/\FinD hp d r)/\∃ d,fr[u]?=some d/\FinD hp d s
theorem ZDS {f:FuncId} {fn:Func} {c:Code} {args:List Dat} {res:Dat} {t:Tmp} {T:TypeId} {n:Nat} {agg:Bool} (T':TyI P T n agg) (hf:P.funcs[f]?=some fn) (hb:fn.body=some c) (hr:fn.results=#[.cell t T])
  (h:WC P (finC1 t n agg res) c (args++List.replicate (fn.ntmps-args.length) (dX undef)) []):Fn P f args res :=
 ZCm hf hb (fun e fr hp q=>by
  obtain ⟨he,d,hd,hfin⟩:=q
  refine ⟨by cases e <;> simp_all,fun {P0 B w0 w a} hh hf'=>?_⟩
  obtain ⟨b,off,u,h1,h2,h3⟩:=hf'.rd t _ hd
  exact ⟨u,ZIV T' hr h1 h2,hfin.out hh h3⟩) h
theorem ZDT {f:FuncId} {fn:Func} {c:Code} {args:List Dat} {r s:Dat} {t t2:Tmp} {T:TypeId} {n:Nat} {agg:Bool} (T':TyI P T n agg) (hf:P.funcs[f]?=some fn) (hb:fn.body=some c) (hr:fn.results=#[.cell t T,.tmp t2])
  (h:WC P (finC2 t t2 n agg r s) c (args++List.replicate (fn.ntmps-args.length) (dX undef)) []):Fn P f args (dT [r,s]) :=
 ZCm hf hb (fun e fr hp q=>by
  obtain ⟨he,⟨d,hd,hfin⟩,d',hd',hfin'⟩:=q
  refine ⟨by cases e <;> simp_all,fun {P0 B w0 w a} hh hf'=>?_⟩
  obtain ⟨b,off,u,h1,h2,h3⟩:=hf'.rd t _ hd
  refine ⟨_,ZBl T' hr h1 h2,[u,a.tmps.getD t2 undef],rfl,rfl,fun i e x he hx=>?_⟩
  match i,he,hx with
  | 0,he,hx=>cases he;cases hx;exact hfin.out hh h3
  | 1,he,hx=>cases he;cases hx;exact hfin'.out hh (hf'.rd t2 d' hd')) h
theorem ZNH {v:Value} {e:TypeId} {α:Type} {R:Rel α} [Good R] {xs:List α} (h:Zr v e R xs∈hp):FinD hp (dX (.agg #[v])) (dS (R1 (Arr R)) xs):=FinD.mk fun {P0 B w0 w u} hh hd=>by
 cases (hd:u=_)
 have h1:=(FinD.row h).out (v:=v) hh rfl
 have h2:=h1
 obtain ⟨a,c,hv,_⟩:=h2
 subst hv
 exact ⟨_,rfl,rfl,h1⟩
end
end
section
open Go.RowKit

theorem ZEY {p:List Vx->Bool} {l:Cx} {k:Nat} (h:k<l.length):(l.take (k+1)).filter p=(l.take k).filter p++(if p l[k]=true then [l[k]] else []):=by
 rw [ZZ h,List.filter_append]
 by_cases hp:p l[k]=true
 ·rw [if_pos hp,List.filter_cons_of_pos hp];rfl
 ·rw [if_neg hp,List.filter_cons_of_neg hp];rfl
end
section
open Go.RowKit

def twI (l:Cx) (i k:Nat):Bool:=decide (i≠k) && ZA1 (l.getD i []) (l.getD k [])
theorem ZEM {n:Nat} {p:Nat->Bool}:(List.range (n+1)).any p=((List.range n).any p || p n):=by rw [List.range_succ,List.any_append];simp
theorem ZKV {n k:Nat} {p:Nat->Bool} (hk:k<n) (h:p k=true):(List.range n).any p=true:=List.any_eq_true.2 ⟨k,List.mem_range.2 hk,h⟩
theorem ZB7 {l:Cx} {k:Nat} (h:k<l.length):l.getD k []=l[k]:=by simp [List.getD,h]
theorem ZTN (l:Cx):Fn Tryz.prog 4 [dS Cpx l] (dI (ZAr l)):=by
 (refine ZH Tryz.func4 rfl rfl ?_;simp only [Tryz.ntmps4,List.length_cons,List.length_nil,Nat.reduceAdd,Nat.reduceSub,List.replicate_succ,List.replicate_zero,List.cons_append,List.nil_append])
 ((repeat' (first|((first|apply WL.opN|apply WD.opN);exact yF;dsimp only [ZA,z0,z1])|refine WL.nil ?_|refine ZC fun Kx hK=>?_|(refine hK _ _ ?_;clear hK)|refine WC.region ?_|((first|apply ZS|apply WD.op);(focus (first|exact wN|(apply SYG.yes;(exact wY);((first|exact ZIh|exact ZBq|exact Z8|exact ZG4|fail);all_goals infer_instance))));dsimp only [ZA,z0,z1])|(apply ZE;(exact oD);all_goals (intro h;try exact xD))|refine WC.skip ?_|refine WC.ret ?_|refine WC.block ?_|refine ThenD.r ?_));all_goals (first|refine WC.id ?_|((repeat clear hK);(repeat clear Kx))))
 ·(refine ⟨trivial,_,rfl,?_⟩;refine FinD.i ?_)
  unfold ZAr;rw [if_pos (by omega)]
 ·have hs:ZAr l=if ZFR none l≠0 then ZFR none l else if ZC2 l=true then 7 else 0:=by unfold ZAr;rw [if_neg (by omega)]
  (refine WC.loopU (X:=Nat) (fun k=>[(4,dI (k:Int)),(2,dA),(5,dA),(13,dA),(14,dA),(15,dA),(16,dA),(17,dA),(18,dA),(19,dA),(20,dA),(21,dA),(22,dA),(23,dA),(24,dA),(25,dA),(26,dA),(27,dA),(28,dA),(29,dA),(30,dA),(31,dA),(32,dA),(33,dA),(34,dA),(35,dA),(36,dA),(37,dA),(38,dA),(39,dA),(40,dA),(41,dA)]) (fun k=>[]) (fun k=>l.length-k) (fun k=>k≤l.length/\ZFR none l=ZFR (l.take k).getLast? (l.drop k)) 0 ?start ?frame0 ?objs0 ?round)
  case start=>exact ⟨Nat.zero_le _,rfl⟩
  case frame0=>((try dsimp only [Za,z0,z1]);repeat (first|exact LeF.nil|refine ZF (k:=?_)))
  case objs0=>rfl
  case round =>
   rintro k ⟨h3,h4⟩
   dsimp only [Za,z0,z1]
   ((repeat' (first|((first|apply WL.opN|apply WD.opN);exact yF;dsimp only [ZA,z0,z1])|refine WL.nil ?_|refine WD.nil ?_|refine ZC fun Kx hK=>?_|(refine hK _ _ ?_;clear hK)|(refine Kont.skip ?_;clear hK)|refine WC.region ?_|(apply WC.draw;kernel_rfl;kernel_rfl)|((first|apply ZS|apply WD.op);(focus (first|exact wN|(apply SYG.yes;(exact wY);((first|(apply SY.call (ZSS _ _) Tryz.call15;(exact aD))|(apply SY.call (chk_c _) Tryz.call14;(exact aD))|(apply ZSC ZDz (OpD.t rfl) (OpD.t rfl) (k-1);omega;omega)|exact ZD6|exact ZBy|exact ZIh|exact ZS0|exact ZFc|exact ZCk|exact ZNF|exact ZFO|exact ZBq|exact Zg|exact ZFP|fail);all_goals infer_instance))));dsimp only [ZA,z0,z1])|((first|refine Zl rfl rfl rfl (fun h=>?_) (fun h=>?_)|refine Zk rfl rfl rfl (fun h=>?_) (fun h=>?_)|refine Zj rfl rfl rfl (fun h=>?_) (fun h=>?_)|refine ZAS rfl rfl rfl (fun h=>?_) (fun h=>?_)|refine ZAR rfl rfl rfl (fun h=>?_) (fun h=>?_)|refine Z9 rfl rfl rfl (fun h=>?_) (fun h=>?_)) <;> (first|(exfalso;first|omega|contradiction)|(dsimp only [z0,z1])))|(apply ZK;(exact oD);(with_reducible rfl))|(apply ZE;(exact oD);all_goals (intro h;try exact xD))|(apply WC.condN;(exact oD);all_goals (intro h;try exact xD))|refine WC.skip ?_|refine WC.ret ?_|refine WC.exit ?_|refine WC.block ?_|refine ThenD.n ?_|refine ThenD.r ?_|refine InBlockD.r ?_));all_goals (first|refine WC.id ?_|((repeat clear hK);(repeat clear Kx))))
   all_goals try (rw [ZJI l k (by omega)] at h4)
   ·(refine ⟨trivial,_,rfl,?_⟩;refine FinD.i ?_)
    rw [hs,h4,if_pos h,if_pos h]
   ·(refine ⟨trivial,_,rfl,?_⟩;refine FinD.i ?_)
    have h5:¬ Z3 l[k]≠0:=by omega
    rw [if_neg h5,ZDe _ _ (by omega) (by omega),if_pos (by simpa using h)] at h4
    rw [hs,h4];rfl
   ·(refine ⟨k+1,?_,by first|omega|(simp only;omega),rfl,?_⟩;rotate_left;((try dsimp only [Za,z0,z1]);repeat (first|exact LeF.nil|refine ZF (k:=?_)));(try dsimp only))
    refine ⟨by omega,?_⟩
    have h5:¬ Z3 l[k]≠0:=by omega
    rw [h4,if_neg h5,ZDe _ _ (by omega) (by omega),if_neg (by simpa using h)]
   ·(refine ⟨k+1,?_,by first|omega|(simp only;omega),rfl,?_⟩;rotate_left;((try dsimp only [Za,z0,z1]);repeat (first|exact LeF.nil|refine ZF (k:=?_)));(try dsimp only))
    refine ⟨by omega,?_⟩
    have h5:¬ Z3 l[k]≠0:=by omega
    have h0:(l.take k).getLast?=none:=by
     have:k=0:=by omega
     rw [this];rfl
    rw [h4,if_neg h5,h0]
    rfl
   ·rw [List.drop_of_length_le (by omega)] at h4
    have h4':ZFR none l=0:=h4
    have hs':ZAr l=if ZC2 l=true then 7 else 0:=by rw [hs,if_neg (by omega)]
    clear hs h4
    (refine WC.loopU (X:=Nat) (fun i=>[(6,dI (i:Int)),(2,dA),(7,dA),(42,dA),(43,dA),(44,dA),(45,dA),(46,dA),(47,dA),(48,dA),(49,dA),(50,dA),(51,dA),(52,dA),(53,dA),(54,dA),(55,dA),(56,dA),(57,dA),(58,dA),(59,dA),(60,dA),(61,dA),(62,dA),(63,dA),(64,dA),(65,dA),(66,dA),(67,dA)]) (fun i=>[]) (fun i=>l.length-i) (fun i=>i≤l.length/\(List.range i).any (fun i=>(List.range l.length).any (twI l i))=false) 0 ?start ?frame0 ?objs0 ?round)
    case start=>exact ⟨Nat.zero_le _,rfl⟩
    case frame0=>((try dsimp only [Za,z0,z1]);repeat (first|exact LeF.nil|refine ZF (k:=?_)))
    case objs0=>rfl
    case round =>
     rintro i ⟨h5,h6⟩
     dsimp only [Za,z0,z1]
     ((repeat' (first|((first|apply WL.opN|apply WD.opN);exact yF;dsimp only [ZA,z0,z1])|refine WL.nil ?_|refine ZC fun Kx hK=>?_|(refine hK _ _ ?_;clear hK)|(refine Kont.skip ?_;clear hK)|refine WC.region ?_|((first|apply ZS|apply WD.op);(focus (first|exact wN|(apply SYG.yes;(exact wY);((first|exact ZBy|exact ZBq|fail);all_goals infer_instance))));dsimp only [ZA,z0,z1])|(apply ZE;(exact oD);all_goals (intro h;try exact xD))|refine WC.skip ?_|refine WC.ret ?_|refine WC.exit ?_|refine WC.block ?_));all_goals (first|refine WC.id ?_|((repeat clear hK);(repeat clear Kx))))
     ·(refine WC.loopU (X:=Nat) (fun j=>[(7,dI (j:Int)),(2,dA),(48,dA),(49,dA),(50,dA),(51,dA),(52,dA),(53,dA),(54,dA),(55,dA),(56,dA),(57,dA),(58,dA),(59,dA),(60,dA),(61,dA),(62,dA),(63,dA),(64,dA),(65,dA),(66,dA),(67,dA)]) (fun j=>[]) (fun j=>l.length-j) (fun j=>j≤l.length/\(List.range j).any (twI l i)=false) 0 ?start ?frame0 ?objs0 ?round)
      case start=>exact ⟨Nat.zero_le _,rfl⟩
      case frame0=>((try dsimp only [Za,z0,z1]);repeat (first|exact LeF.nil|refine ZF (k:=?_)))
      case objs0=>rfl
      case round =>
       rintro j ⟨h7,h8⟩
       dsimp only [Za,z0,z1]
       ((repeat' (first|((first|apply WL.opN|apply WD.opN);exact yF;dsimp only [ZA,z0,z1])|refine WL.nil ?_|refine WD.nil ?_|refine ZC fun Kx hK=>?_|(refine hK _ _ ?_;clear hK)|(refine Kont.skip ?_;clear hK)|refine WC.region ?_|(apply WC.draw;kernel_rfl;kernel_rfl)|((first|apply ZS|apply WD.op);(focus (first|exact wN|(apply SYG.yes;(exact wY);((first|(apply SY.call (ZRS _ _) Tryz.call16;(exact aD))|exact ZD6|exact ZBy|exact ZFc|exact ZCk|exact ZFO|exact ZBq|exact Zg|exact ZFP|fail);all_goals infer_instance))));dsimp only [ZA,z0,z1])|((first|refine Zl rfl rfl rfl (fun h=>?_) (fun h=>?_)|refine Zk rfl rfl rfl (fun h=>?_) (fun h=>?_)|refine Zj rfl rfl rfl (fun h=>?_) (fun h=>?_)|refine ZAS rfl rfl rfl (fun h=>?_) (fun h=>?_)|refine ZAR rfl rfl rfl (fun h=>?_) (fun h=>?_)|refine Z9 rfl rfl rfl (fun h=>?_) (fun h=>?_)) <;> (first|(exfalso;first|omega|contradiction)|(dsimp only [z0,z1])))|(apply ZK;(exact oD);(with_reducible rfl))|(apply ZE;(exact oD);all_goals (intro h;try exact xD))|(apply WC.cond;(exact oD);all_goals (intro h;try exact xD))|refine WC.skip ?_|refine WC.ret ?_|refine WC.exit ?_|refine WC.block ?_|refine ThenD.n ?_|refine ThenD.r ?_|refine InBlockD.r ?_));all_goals (first|((repeat clear hK);(repeat clear Kx))))
       ·(refine ⟨trivial,_,rfl,?_⟩;refine FinD.i ?_)
        have e:twI l i j=true:=by
         unfold twI
         rw [ZB7 (by omega),ZB7 (by omega),h,decide_eq_true (by omega)];rfl
        rw [hs',if_pos (show ZC2 l=true from ZKV (k:=i) (by omega) (ZKV (k:=j) (by omega) e))]
       ·(refine ⟨j+1,?_,by first|omega|(simp only;omega),rfl,?_⟩;rotate_left;((try dsimp only [Za,z0,z1]);repeat (first|exact LeF.nil|refine ZF (k:=?_)));(try dsimp only))
        refine ⟨by omega,?_⟩
        rw [ZEM,h8]
        unfold twI
        rw [ZB7 (by omega),ZB7 (by omega),h,Bool.and_false];rfl
       ·(refine ⟨j+1,?_,by first|omega|(simp only;omega),rfl,?_⟩;rotate_left;((try dsimp only [Za,z0,z1]);repeat (first|exact LeF.nil|refine ZF (k:=?_)));(try dsimp only))
        refine ⟨by omega,?_⟩
        rw [ZEM,h8]
        unfold twI
        rw [decide_eq_false (by omega)];rfl
       ·rw [show j=l.length by omega] at h8
        (refine ⟨i+1,?_,by first|omega|(simp only;omega),rfl,?_⟩;rotate_left;((try dsimp only [Za,z0,z1]);repeat (first|exact LeF.nil|refine ZF (k:=?_)));(try dsimp only))
        refine ⟨by omega,?_⟩
        rw [ZEM,h6,h8];rfl
     ·rw [show i=l.length by omega] at h6
      (refine ⟨trivial,_,rfl,?_⟩;refine FinD.i ?_)
      have e:ZC2 l=false:=h6
      rw [hs',e];rfl
def ZFU (l:Cx):Int:=l.foldl (fun m s=>if m<(s.length:Int)-1 then (s.length:Int)-1 else m) (-1)
def ZDo (l:Cx):Bool:=(List.range l.length).all fun i=>decide (i=0) || decide (((l.getD i []).length:Int)-1=ZFU (l.take i))
theorem ZBo {l:Cx} {k:Nat} (h:k<l.length):ZFU (l.take (k+1))=if ZFU (l.take k)<(l[k].length:Int)-1 then (l[k].length:Int)-1 else ZFU (l.take k):=by
 unfold ZFU;rw [ZZ h,List.foldl_append];rfl
theorem ZVY (l:Cx):Fn Tryz.prog 17 [dS Cpx l] (dT [dI (ZFU l),dB (ZDo l)]):=by
 (refine ZAl Tryz.func17 rfl rfl ?_;simp only [Tryz.ntmps17,List.length_cons,List.length_nil,Nat.reduceAdd,Nat.reduceSub,List.replicate_succ,List.replicate_zero,List.cons_append,List.nil_append])
 (repeat' (first|(apply WL.opN;exact yF;dsimp only [ZA,z0,z1])|refine WL.nil ?_|refine ZC fun Kx hK=>?_|(refine hK _ _ ?_;clear hK)|refine WC.region ?_|(apply ZS;(focus (first|exact wN|(apply SYG.yes;(exact wY);((first|exact ZG4|fail);all_goals infer_instance))));dsimp only [ZA,z0,z1])|refine WC.block ?_))
 (first|refine Ze (t:=0) rfl ZFf fun hl0=>?_|refine Ze (t:=0) rfl ZFe fun hl0=>?_|refine Ze (t:=0) rfl ZQC fun hl0=>?_);simp only [maxLen] at hl0
 (refine WC.loopU (X:=Nat × Int × Bool) (fun x=>[(6,dI (x.1:Int)),(4,dI x.2.1),(5,dB x.2.2),(7,dA),(8,dA),(9,dA),(10,dA),(11,dA),(12,dA),(13,dA),(14,dA),(15,dA),(16,dA),(17,dA),(18,dA),(19,dA),(20,dA),(21,dA),(22,dA),(23,dA),(24,dA),(25,dA),(26,dA),(27,dA),(28,dA),(29,dA),(30,dA),(31,dA),(32,dA),(33,dA),(34,dA),(35,dA)]) (fun x=>[]) (fun x=>l.length-x.1) (fun x=>x.1≤l.length/\x.2.1=ZFU (l.take x.1)/\x.2.2=(List.range x.1).all fun i=>decide (i=0) || decide (((l.getD i []).length:Int)-1=ZFU (l.take i))) (0,-1,true) ?start ?frame0 ?objs0 ?round)
 case start=>exact ⟨Nat.zero_le _,rfl,rfl⟩
 case frame0=>((try dsimp only [Za,z0,z1]);repeat (first|exact LeF.nil|refine ZF (k:=?_)))
 case objs0=>rfl
 case round =>
  rintro ⟨k,m,q⟩ ⟨h1,h2,h3⟩
  simp only at h1 h2 h3
  dsimp only [Za,z0,z1]
  ((repeat' (first|(apply WL.opN;exact yF;dsimp only [ZA,z0,z1])|refine WL.nil ?_|refine ZC fun Kx hK=>?_|(refine hK _ _ ?_;clear hK)|(refine Kont.skip ?_;clear hK)|refine WC.region ?_|(apply ZS;(focus (first|exact wN|(apply SYG.yes;(exact wY);((first|exact ZBy|exact ZBq|exact Zg|exact Z8|fail);all_goals infer_instance))));dsimp only [ZA,z0,z1])|(apply ZE;(exact oD);all_goals (intro h;try exact xD))|refine WC.skip ?_|refine WC.ret ?_|refine WC.exit ?_|refine WC.block ?_));all_goals (first|refine WL.id ?_|((repeat clear hK);(repeat clear Kx))))
  ·refine ZTE (t:=19) rfl ZFf fun h9=>?_
   simp only [maxLen] at h9
   have e9:(l.getD k []).length=l[k].length:=by rw [ZB7 (by omega)]
   have st:∀ (q':Bool),q'=(q && (decide (k=0) || decide (((l[k].length:Nat):Int)-1=m)))->q'=(List.range (k+1)).all fun i=>decide (i=0) || decide (((l.getD i []).length:Int)-1=ZFU (l.take i)):=fun q' hq=>by
    rw [hq,h3,List.range_succ,List.all_append,h2,<- e9]
    simp
   clear h3
   ((repeat' (first|(apply WL.opN;exact yF;dsimp only [ZA,z0,z1])|refine WL.nil ?_|refine ZC fun Kx hK=>?_|(refine hK _ _ ?_;clear hK)|refine WC.region ?_ |  (apply ZS;(focus (apply ZEE;exact ZBQ rfl rfl rfl));dsimp only [ZA,z0,z1])|(apply ZS;(focus (first|exact wN|(apply SYG.yes;(exact wY);((first|exact ZD6|exact ZIh|exact ZNA|exact ZCk|exact ZNF|exact ZFP|fail);all_goals infer_instance))));dsimp only [ZA,z0,z1])|((first|refine Zl rfl rfl rfl (fun h=>?_) (fun h=>?_)|refine Zk rfl rfl rfl (fun h=>?_) (fun h=>?_)|refine Zj rfl rfl rfl (fun h=>?_) (fun h=>?_)) <;> (first|(exfalso;first|omega|contradiction)|(dsimp only [z0,z1])))|(apply ZE;(exact oD);all_goals (intro h;try exact xD))|refine WC.skip ?_|refine ThenD.n ?_));all_goals (first|((repeat clear hK);(repeat clear Kx))))
   ·(refine ⟨(k+1,(l[k].length:Int)-1,true),?_,by first|omega|(simp only;omega),rfl,?_⟩;rotate_left;((try dsimp only [Za,z0,z1]);repeat (first|exact LeF.nil|refine ZF (k:=?_)));(try dsimp only))
    refine ⟨by omega,?_,st _ ?_⟩
    ·rw [ZBo (by omega),<- h2,if_pos (by assumption)]
    ·simp_all
   ·(refine ⟨(k+1,m,true),?_,by first|omega|(simp only;omega),rfl,?_⟩;rotate_left;((try dsimp only [Za,z0,z1]);repeat (first|exact LeF.nil|refine ZF (k:=?_)));(try dsimp only))
    refine ⟨by omega,?_,st _ ?_⟩
    ·rw [ZBo (by omega),<- h2,if_neg (by assumption)]
    ·simp_all
   ·(refine ⟨(k+1,(l[k].length:Int)-1,decide ((l[k].length:Int)-1=m)),?_,by first|omega|(simp only;omega),rfl,?_⟩;rotate_left;((try dsimp only [Za,z0,z1]);repeat (first|exact LeF.nil|refine ZF (k:=?_)));(try dsimp only))
    refine ⟨by omega,?_,st _ ?_⟩
    ·rw [ZBo (by omega),<- h2,if_pos (by assumption)]
    ·simp_all
   ·(refine ⟨(k+1,m,decide ((l[k].length:Int)-1=m)),?_,by first|omega|(simp only;omega),rfl,?_⟩;rotate_left;((try dsimp only [Za,z0,z1]);repeat (first|exact LeF.nil|refine ZF (k:=?_)));(try dsimp only))
    refine ⟨by omega,?_,st _ ?_⟩
    ·rw [ZBo (by omega),<- h2,if_neg (by assumption)]
    ·simp_all
   ·(refine ⟨(k+1,(l[k].length:Int)-1,false),?_,by first|omega|(simp only;omega),rfl,?_⟩;rotate_left;((try dsimp only [Za,z0,z1]);repeat (first|exact LeF.nil|refine ZF (k:=?_)));(try dsimp only))
    refine ⟨by omega,?_,st _ ?_⟩
    ·rw [ZBo (by omega),<- h2,if_pos (by assumption)]
    ·simp_all
   ·(refine ⟨(k+1,m,false),?_,by first|omega|(simp only;omega),rfl,?_⟩;rotate_left;((try dsimp only [Za,z0,z1]);repeat (first|exact LeF.nil|refine ZF (k:=?_)));(try dsimp only))
    refine ⟨by omega,?_,st _ ?_⟩
    ·rw [ZBo (by omega),<- h2,if_neg (by assumption)]
    ·simp_all
  ·rw [show k=l.length by omega,List.take_length] at h2
   rw [show k=l.length by omega] at h3
   subst h2 h3
   (refine ⟨trivial,⟨_,rfl,?_⟩,_,rfl,?_⟩ <;> exact fD)
theorem ZLc:∀ (l:Cx) (p:Option (List Vx)),ZFR p l=0->∀ s∈l,Z3 s=0
 | [],_,_,s,hs=>by simp at hs
 | x::l,p,h,s,hs=>by
  unfold ZFR at h
  by_cases h1:Z3 x≠0
  ·rw [if_pos h1] at h;exact absurd h h1
  ·rw [if_neg h1] at h
   rcases List.mem_cons.1 hs with rfl|hs
   ·omega
   ·refine ZLc l (some x) ?_ s hs
    revert h
    split
    ·intro h;omega
    ·exact id
theorem ZOC {l:Cx} (h:ZAr l=0):l.length≤4096/\ZFR none l=0/\ZC2 l=false/\∀ s∈l,Z3 s=0:=by
 unfold ZAr at h
 by_cases h1:4096<l.length
 ·rw [if_pos h1] at h;omega
 rw [if_neg h1] at h
 by_cases h2:ZFR none l≠0
 ·rw [if_pos h2] at h;exact absurd h h2
 rw [if_neg h2] at h
 refine ⟨by omega,by omega,?_,ZLc l none (by omega)⟩
 cases h3:ZC2 l with
 | false=>rfl
 | true=>rw [h3,if_pos rfl] at h;omega
end
end Go.Proofs.YtekiljakcngcoaaGreatDoor
namespace Go.Proofs.YtekiljakcngcoaaGreatDoor.I
section
open Go.RowKit
theorem ZDL {P:Program} {o:Oper} {a:Act} {w:World} {K:Act->World->Prop} {Q:Exit->Act->World->Prop} (h:o.wp P a w K Q):o.wpIn Fence.wide 0 P a w K Q:=by
 refine ⟨fun _ _=>trivial,?_⟩
 show o.uponIn Fence.wide 0 P a K Q ((execOp a.eval o).run P w)
 unfold Oper.wp at h
 revert h
 generalize (execOp a.eval o).run P w=r
 intro h
 unfold Oper.upon at h
 unfold Oper.uponIn
 split at h
 ·exact h
 ·exact h
 ·exact h
 ·exact ⟨fun h=>by simp [Fence.wide] at h,callsIn_wide.2 h⟩
 ·exact ⟨fun h=>by simp [Fence.wide] at h,fun c cs _=>let ⟨v,w2,r,s⟩:=h c cs;⟨v,w2,r,stepsIn_wide.2 s⟩⟩
 ·exact h
 ·exact h.elim
theorem ZA5 {P:Program} {ops:Array Oper} {Q:Exit->Act->World->Prop} {rest:List Oper} {o:Oper} {a:Act} {w:World} (hg:o.guard=none)
  (h:∀ K:Act->World->Prop,(∀ a w,wpListIn Fence.wide 0 P ops Q rest a w->K a w)->o.wp P a w K Q):wpListIn Fence.wide 0 P ops Q (o::rest) a w :=
 wpListIn_plain hg fun K hK=>ZDL (h K hK)
end
end Go.Proofs.YtekiljakcngcoaaGreatDoor.I
