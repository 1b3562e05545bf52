/- Part 35: walks by contracts, and plain laws. -/
import Derived.Test.YtofkoleingbbpaaGreatDoorXa29
set_option linter.unusedVariables false
set_option linter.unusedSimpArgs false
set_option linter.unusedSectionVars false
set_option maxRecDepth 100000
set_option maxHeartbeats 64000000
namespace Go.Proofs.YtofkoleingbbpaaGreatDoor
section
open Go.RowKit
open L05 (plus ZBw)



theorem ZHQ (a b:List Int) (hl:a.length+b.length≤100000):Fn Tryz.prog 133 [dS ZAR a,dS ZAR b] (dS ZAR (plus a b)):=by
 have hk:(a.length:Int)+(b.length:Int)=((a.length+b.length:Nat):Int):=by omega
 (refine ZE Tryz.func133 rfl rfl ?_;simp only[Tryz.ntmps133,List.length_cons,List.length_nil,Nat.reduceAdd,Nat.reduceSub,List.replicate_succ,List.replicate_zero,List.cons_append,List.nil_append])
 (repeat' (first|((first|apply WL.opN|apply WD.opN);exact yF;dsimp only[ZC,z0,z1])|refine WL.nil ?_|refine ZA fun Kx hK=>?_|(refine hK _ _ ?_;clear hK)|refine WC.region ?_ |  (refine ZRK (R:=RI) (_gR:=inferInstance) (k:=a.length+b.length) elI (OpD.t rfl) hk (by omega) (by simp only[maxLen];omega) fun v=>?_;dsimp only[ZC,z0,z1])|((first|apply ZF|apply WD.op);(focus (first|exact wN|(apply SYG.yes;(exact wY);((first|((first|apply SY.add) <;> first|exact oD|omega)|(apply SY.len;(exact oD);(exact nD);(exact uD))|fail);all_goals infer_instance))));dsimp only[ZC,z0,z1])|refine WC.block ?_))
 all_goals try (exfalso;first|contradiction|omega)
 (refine WC.loopU (X:=Value × List Int × List Int × List Int) (fun x=>[(0,dS ZAR x.2.2.1),(1,dS ZAR x.2.2.2),(5,dX x.1),(12,dA),(13,dA),(14,dA),(15,dA),(16,dA),(17,dA),(18,dA),(19,dA),(20,dA),(21,dA),(22,dA),(23,dA),(24,dA),(25,dA),(26,dA),(27,dA),(28,dA),(29,dA),(30,dA),(31,dA),(32,dA),(33,dA),(34,dA),(35,dA),(36,dA),(37,dA),(38,dA),(39,dA),(40,dA),(41,dA),(42,dA),(43,dA),(44,dA),(45,dA),(46,dA),(47,dA),(48,dA),(49,dA),(50,dA),(51,dA),(52,dA),(53,dA),(54,dA),(55,dA)]) (fun x=>[Zk x.1 3 RI x.2.1]) (fun x=>x.2.2.1.length+x.2.2.2.length) (fun x=>x.2.1.length+x.2.2.1.length+x.2.2.2.length≤a.length+b.length/\x.2.1++plus x.2.2.1 x.2.2.2=plus a b) (v,[],a,b) ?start ?frame0 ?objs0 ?round)
 case start=>exact⟨by simp,rfl⟩
 case frame0=>exact zFr
 case objs0=>rfl
 case round =>
  rintro⟨vo,out,c,d⟩ ⟨h1,h2⟩;simp only at h1 h2;dsimp only[ZL,z0,z1];have h8:(out.length+1)*8≤140737488355328:=by omega
  cases c with
  | nil =>
   have hd0:¬ (([]:List Int).length:Int)>0:=by simp
   have h9:(out.length+([]:List Int).length)*8≤140737488355328:=by simp;omega
   have h10:((out++([]:List Int)).length+d.length)*8≤140737488355328:=by simp at h1 ⊢;omega
   rw[L05.nil_plus] at h2;have h11:out++[]++d=plus a b:=by rw[List.append_nil];exact h2
   ((repeat' (first|((first|apply WL.opN|apply WD.opN);exact yF;dsimp only[ZC,z0,z1])|refine WL.nil ?_|refine ZA fun Kx hK=>?_|(refine hK _ _ ?_;clear hK)|(refine Kont.skip ?_;clear hK)|refine WC.region ?_|((first|apply WL.appK|apply WL.app1);(exact eD);exact OpD.t rfl;(exact oD);decide;(exact lD);(intro _;dsimp only[ZC,z0,z1]);all_goals (try infer_instance))|((first|apply ZF|apply WD.op);(focus (first|exact wN|(apply SYG.yes;(exact wY);((first|((first|apply SY.move|apply SY.assign|apply SY.lss|apply SY.gtr) <;> (exact oD))|(apply SY.len;(exact oD);(exact nD);(exact uD))|(apply ZY;(exact oD);(with_reducible rfl);(exact oD))|fail);all_goals infer_instance))));dsimp only[ZC,z0,z1])|((first|refine ZK rfl rfl rfl (fun h=>?_) (fun h=>?_)|refine ZJ rfl rfl rfl (fun h=>?_) (fun h=>?_)|refine ZI rfl rfl rfl (fun h=>?_) (fun h=>?_)|refine ZW rfl rfl rfl (fun h=>?_) (fun h=>?_)|refine ZU rfl rfl rfl (fun h=>?_) (fun h=>?_)|refine ZS rfl rfl rfl (fun h=>?_) (fun h=>?_)) <;> (first|(exfalso;first|omega|contradiction)|(dsimp only[z0,z1])))|(apply ZQ;(exact oD);(with_reducible rfl))|refine WC.ret ?_|refine WC.exit ?_));all_goals (first|((repeat clear hK);(repeat clear Kx))))
   all_goals try (exfalso;first|contradiction|omega)
   rw[h11];(refine⟨trivial,_,rfl,?_⟩;exact fD)
  | cons x c =>
   have hc0:(((x::c).length:Nat):Int)>0:=by simp
   cases d with
   | nil =>
    have hd0:¬ (([]:List Int).length:Int)>0:=by simp
    rw[L05.plus_nil] at h2;have h9:(out.length+(x::c).length)*8≤140737488355328:=by simp only[List.length_cons] at h1 ⊢;omega
    have h10:((out++(x::c)).length+([]:List Int).length)*8≤140737488355328:=by simp only[List.length_append,List.length_cons,List.length_nil] at h1 ⊢;omega
    have h11:out++(x::c)++[]=plus a b:=by rw[List.append_nil];exact h2
    ((repeat' (first|((first|apply WL.opN|apply WD.opN);exact yF;dsimp only[ZC,z0,z1])|refine WL.nil ?_|refine ZA fun Kx hK=>?_|(refine hK _ _ ?_;clear hK)|(refine Kont.skip ?_;clear hK)|refine WC.region ?_|((first|apply WL.appK|apply WL.app1);(exact eD);exact OpD.t rfl;(exact oD);decide;(exact lD);(intro _;dsimp only[ZC,z0,z1]);all_goals (try infer_instance))|((first|apply ZF|apply WD.op);(focus (first|exact wN|(apply SYG.yes;(exact wY);((first|((first|apply SY.move|apply SY.assign|apply SY.lss|apply SY.gtr) <;> (exact oD))|(apply SY.len;(exact oD);(exact nD);(exact uD))|(apply ZZ;(exact oD);(with_reducible rfl);(exact oD))|fail);all_goals infer_instance))));dsimp only[ZC,z0,z1])|((first|refine ZK rfl rfl rfl (fun h=>?_) (fun h=>?_)|refine ZJ rfl rfl rfl (fun h=>?_) (fun h=>?_)|refine ZI rfl rfl rfl (fun h=>?_) (fun h=>?_)|refine ZW rfl rfl rfl (fun h=>?_) (fun h=>?_)|refine ZU rfl rfl rfl (fun h=>?_) (fun h=>?_)|refine ZS rfl rfl rfl (fun h=>?_) (fun h=>?_)) <;> (first|(exfalso;first|omega|contradiction)|(dsimp only[z0,z1])))|(apply ZB;(exact oD);all_goals (intro h;try exact xD))|refine WC.ret ?_|refine WC.exit ?_));all_goals (first|((repeat clear hK);(repeat clear Kx))))
    all_goals try (exfalso;first|contradiction|omega)
    rw[h11];(refine⟨trivial,_,rfl,?_⟩;exact fD)
   | cons y d =>
    have hd0:(((y::d).length:Nat):Int)>0:=by simp
    have k1:0<(x::c).length:=by simp
    have km1:(x::c).length=c.length+1:=rfl;have km2:(y::d).length=d.length+1:=rfl;have k2:0<(y::d).length:=by simp
    rw[L05.plus] at h2;simp only[List.length_cons] at h1;by_cases hxy:x<y
    ·rw[if_pos hxy] at h2;((repeat' (first |  (refine WC.drawM (fun _=>True) 9 1 [(0,false),(1,false),(2,false),(3,false),(4,false),(6,false),(7,false),(5,true),(8,false)] [true,true,true,true,true,true,true,true,true,false] (by kernel_rfl) (by kernel_rfl) (by kernel_rfl) rfl (trivial) ?_) |  (first|refine WA.one (S:=[true,true,true,true,true,true,true,true,true,false]) (i:=9) (by kernel_rfl) rfl ?_|refine WA.nil (S:=[true,true,true,true,true,true,true,true,true,true]) (by kernel_rfl) ?_) |  (refine ZBX rfl (SW.app1 elI (R:=RI) (_gR:=inferInstance) (OpD.t rfl) (OpD.t rfl) (by decide) h8) (fun _=>trivial) fun v2=>?_;dsimp only[ZC,z0,z1])|(refine WM.nil ?_)|(apply WM.readL rfl;(focus (intro c hcc;apply SYG.yes;(exact Za rfl);((first|(exact Zg (R:=RI) (_gR:=inferInstance) (k:=0) elI k1 rfl (OpD.t rfl) OpD.i)|(exact Zg (R:=RI) (_gR:=inferInstance) (k:=0) elI k2 rfl (OpD.t rfl) OpD.i)|(exact ZGg (R:=RI) (_gR:=inferInstance) elI (OpD.t rfl) OpD.i)|((first|apply SY.move|apply SY.assign|apply SY.lss|apply SY.gtr) <;> (exact oD))|(apply SY.load;(exact tD);(exact oD))|(apply SY.build1';(exact eD);((try simp only[List.map_cons,List.map_nil]);(repeat (first|exact Zp|(apply Zo;(first|exact OpD.t rfl|exact OpD.i|exact OpD.b|exact OpD.tle rfl (by first|exact ZN|exact ZH (by decide))|exact⟨ZN⟩|exact⟨ZH (by decide)⟩)))));rfl;rfl;(intro _;first|exact ZAf|exact ZAT|exact ZAI|exact shape_B);(exact(by simp)))|fail);all_goals infer_instance)));dsimp only[ZC,z0,z1])|((first|apply WL.opN|apply WD.opN);exact yF;dsimp only[ZC,z0,z1])|refine WL.nil ?_|refine WD.nil ?_|refine ZA fun Kx hK=>?_|(refine hK _ _ ?_;clear hK)|refine WC.region ?_|(apply WC.draw;kernel_rfl;kernel_rfl)|((first|apply ZF|apply WD.op);(focus (first|exact wN|(apply SYG.yes;(exact wY);((first|(exact Zg (R:=RI) (_gR:=inferInstance) (k:=0) elI k1 rfl (OpD.t rfl) OpD.i)|(exact Zg (R:=RI) (_gR:=inferInstance) (k:=0) elI k2 rfl (OpD.t rfl) OpD.i)|((first|apply SY.move|apply SY.assign|apply SY.lss|apply SY.gtr) <;> (exact oD))|(apply SY.len;(exact oD);(exact nD);(exact uD))|(apply ZZ;(exact oD);(with_reducible rfl);(exact oD))|fail);all_goals infer_instance))));dsimp only[ZC,z0,z1])|((first|refine ZK rfl rfl rfl (fun h=>?_) (fun h=>?_)|refine ZJ rfl rfl rfl (fun h=>?_) (fun h=>?_)|refine ZI rfl rfl rfl (fun h=>?_) (fun h=>?_)|refine ZW rfl rfl rfl (fun h=>?_) (fun h=>?_)|refine ZU rfl rfl rfl (fun h=>?_) (fun h=>?_)|refine ZS rfl rfl rfl (fun h=>?_) (fun h=>?_)) <;> (first|(exfalso;first|omega|contradiction)|(dsimp only[z0,z1])))|(apply ZB;(exact oD);all_goals (intro h;try exact xD))|refine WC.skip ?_|refine WC.block ?_|refine ThenD.n ?_|refine InBlockD.n ?_));all_goals (first|((repeat clear hK);(repeat clear Kx))))
     all_goals try (exfalso;first|contradiction|omega)
     (refine zNx (_,out++[x],c,y::d) ?_;(try dsimp only))
     exact⟨by simp;omega,by rw[List.append_assoc];exact h2⟩
    ·rw[if_neg hxy] at h2;by_cases hyx:y<x
     ·rw[if_pos hyx] at h2;have hgt:x>y:=hyx;((repeat' (first |  (refine WC.drawM (fun _=>True) 9 1 [(0,false),(1,false),(2,false),(3,false),(4,false),(6,false),(7,false),(5,true),(8,false)] [true,true,true,true,true,true,true,true,true,false] (by kernel_rfl) (by kernel_rfl) (by kernel_rfl) rfl (trivial) ?_) |  (first|refine WA.one (S:=[true,true,true,true,true,true,true,true,true,false]) (i:=9) (by kernel_rfl) rfl ?_|refine WA.nil (S:=[true,true,true,true,true,true,true,true,true,true]) (by kernel_rfl) ?_) |  (refine ZBX rfl (SW.app1 elI (R:=RI) (_gR:=inferInstance) (OpD.t rfl) (OpD.t rfl) (by decide) h8) (fun _=>trivial) fun v2=>?_;dsimp only[ZC,z0,z1])|(refine WM.nil ?_)|(apply WM.readL rfl;(focus (intro c hcc;apply SYG.yes;(exact Za rfl);((first|(exact Zg (R:=RI) (_gR:=inferInstance) (k:=0) elI k1 rfl (OpD.t rfl) OpD.i)|(exact Zg (R:=RI) (_gR:=inferInstance) (k:=0) elI k2 rfl (OpD.t rfl) OpD.i)|(exact ZGg (R:=RI) (_gR:=inferInstance) elI (OpD.t rfl) OpD.i)|((first|apply SY.move|apply SY.assign|apply SY.lss|apply SY.gtr) <;> (exact oD))|(apply SY.load;(exact tD);(exact oD))|(apply SY.build1';(exact eD);((try simp only[List.map_cons,List.map_nil]);(repeat (first|exact Zp|(apply Zo;(first|exact OpD.t rfl|exact OpD.i|exact OpD.b|exact OpD.tle rfl (by first|exact ZN|exact ZH (by decide))|exact⟨ZN⟩|exact⟨ZH (by decide)⟩)))));rfl;rfl;(intro _;first|exact ZAf|exact ZAT|exact ZAI|exact shape_B);(exact(by simp)))|fail);all_goals infer_instance)));dsimp only[ZC,z0,z1])|((first|apply WL.opN|apply WD.opN);exact yF;dsimp only[ZC,z0,z1])|refine WL.nil ?_|refine WD.nil ?_|refine ZA fun Kx hK=>?_|(refine hK _ _ ?_;clear hK)|refine WC.region ?_|(apply WC.draw;kernel_rfl;kernel_rfl)|((first|apply ZF|apply WD.op);(focus (first|exact wN|(apply SYG.yes;(exact wY);((first|(exact Zg (R:=RI) (_gR:=inferInstance) (k:=0) elI k1 rfl (OpD.t rfl) OpD.i)|(exact Zg (R:=RI) (_gR:=inferInstance) (k:=0) elI k2 rfl (OpD.t rfl) OpD.i)|((first|apply SY.move|apply SY.assign|apply SY.lss|apply SY.gtr) <;> (exact oD))|(apply SY.len;(exact oD);(exact nD);(exact uD))|(apply ZZ;(exact oD);(with_reducible rfl);(exact oD))|fail);all_goals infer_instance))));dsimp only[ZC,z0,z1])|((first|refine ZK rfl rfl rfl (fun h=>?_) (fun h=>?_)|refine ZJ rfl rfl rfl (fun h=>?_) (fun h=>?_)|refine ZI rfl rfl rfl (fun h=>?_) (fun h=>?_)|refine ZW rfl rfl rfl (fun h=>?_) (fun h=>?_)|refine ZU rfl rfl rfl (fun h=>?_) (fun h=>?_)|refine ZS rfl rfl rfl (fun h=>?_) (fun h=>?_)) <;> (first|(exfalso;first|omega|contradiction)|(dsimp only[z0,z1])))|(apply ZB;(exact oD);all_goals (intro h;try exact xD))|refine WC.skip ?_|refine WC.block ?_|refine ThenD.n ?_|refine InBlockD.n ?_));all_goals (first|((repeat clear hK);(repeat clear Kx))))
      all_goals try (exfalso;first|contradiction|omega)
      (refine zNx (_,out++[y],x::c,d) ?_;(try dsimp only))
      exact⟨by simp;omega,by rw[List.append_assoc];exact h2⟩
     ·rw[if_neg hyx] at h2;have hgt:¬ x>y:=hyx;((repeat' (first|((first|apply WL.opN|apply WD.opN);exact yF;dsimp only[ZC,z0,z1])|refine WL.nil ?_|refine WD.nil ?_|refine ZA fun Kx hK=>?_|(refine hK _ _ ?_;clear hK)|refine WC.region ?_|(apply WC.draw;kernel_rfl;kernel_rfl)|((first|apply ZF|apply WD.op);(focus (first|exact wN|(apply SYG.yes;(exact wY);((first|(exact Zg (R:=RI) (_gR:=inferInstance) (k:=0) elI k1 rfl (OpD.t rfl) OpD.i)|(exact Zg (R:=RI) (_gR:=inferInstance) (k:=0) elI k2 rfl (OpD.t rfl) OpD.i)|(exact ZGg (R:=RI) (_gR:=inferInstance) elI (OpD.t rfl) OpD.i)|((first|apply SY.move|apply SY.assign|apply SY.lss|apply SY.gtr) <;> (exact oD))|(apply SY.len;(exact oD);(exact nD);(exact uD))|(apply ZZ;(exact oD);(with_reducible rfl);(exact oD))|fail);all_goals infer_instance))));dsimp only[ZC,z0,z1])|((first|refine ZK rfl rfl rfl (fun h=>?_) (fun h=>?_)|refine ZJ rfl rfl rfl (fun h=>?_) (fun h=>?_)|refine ZI rfl rfl rfl (fun h=>?_) (fun h=>?_)|refine ZW rfl rfl rfl (fun h=>?_) (fun h=>?_)|refine ZU rfl rfl rfl (fun h=>?_) (fun h=>?_)|refine ZS rfl rfl rfl (fun h=>?_) (fun h=>?_)) <;> (first|(exfalso;first|omega|contradiction)|(dsimp only[z0,z1])))|(apply ZB;(exact oD);all_goals (intro h;try exact xD))|refine WC.skip ?_|refine WC.block ?_|refine ThenD.n ?_|refine InBlockD.n ?_));all_goals (first|((repeat clear hK);(repeat clear Kx))))
      all_goals try (exfalso;first|contradiction|omega)
      (refine zNx (_,out,c,d) ?_;(try dsimp only))
      exact⟨by omega,h2⟩
section
variable {P:Program} {ops:Array Oper} {hp:List HObj} {fr:List Dat} {dst:Option Tmp} {ty:TypeId} {ps:String} {af:Array Edge} {g:Option (Nat × Bool)} {T T2:TypeId} {x y:Operand} {p q c:Int}
theorem ZRA (h:p.tmod q=c) (h0:q≠0) (hx:OpD fr x (dI p)) (hy:OpD fr y (dI q)):SY P ops hp ⟨dst,.binOp .rem T x y T2,ty,ps,af,g⟩ fr (dI c):=h ▸ SY.rem hx hy h0
theorem ZQ9 (h:p.tdiv q=c) (h0:q≠0) (hr : -9223372036854775808≤c/\c≤9223372036854775807) (hx:OpD fr x (dI p)) (hy:OpD fr y (dI q)):SY P ops hp ⟨dst,.binOp .quo T x y T2,ty,ps,af,g⟩ fr (dI c):=h ▸ SY.quo hx hy h0 (h ▸ hr)
theorem ZL2 (h:p-q=c) (hr : -9223372036854775808≤c/\c≤9223372036854775807) (hx:OpD fr x (dI p)) (hy:OpD fr y (dI q)):SY P ops hp ⟨dst,.binOp .sub T x y T2,ty,ps,af,g⟩ fr (dI c):=h ▸ SY.sub hx hy (h ▸ hr)
theorem ZIH (h:p+q=c) (hr : -9223372036854775808≤c/\c≤9223372036854775807) (hx:OpD fr x (dI p)) (hy:OpD fr y (dI q)):SY P ops hp ⟨dst,.binOp .add T x y T2,ty,ps,af,g⟩ fr (dI c):=h ▸ SY.add hx hy (h ▸ hr)
end
theorem quo2 (n:Nat):((n:Int)).tdiv 2=((n / 2:Nat):Int):=by
 rw[Int.tdiv_eq_ediv_of_nonneg (by omega)];omega
theorem rem2 (n:Nat):((n:Int)).tmod 2=((n % 2:Nat):Int):=by
 rw[Int.tmod_eq_emod_of_nonneg (by omega)];omega
theorem ZPk (a b:List Int) (ha:L05.Asc a) (hb:L05.Asc b) (hl:a.length+b.length≤100000):Fn Tryz.prog 105 [dS ZAR a,dS ZAR b] (dB (ZBw a b)):=by
 have hs:=ZHQ a b hl;have hpl:=L05.plus_len _ a b (Nat.le_refl _) ha hb;rw[L05.odd_len ha hb];obtain⟨q,hq⟩:∃q,(plus a b).length=q:=⟨_,rfl⟩;rw[hq] at hpl ⊢;have e1:(a.length:Int)+(b.length:Int)-((plus a b).length:Int)=((a.length+b.length-q:Nat):Int):=by omega
 obtain⟨n,hn⟩:∃n,a.length+b.length-q=n:=⟨_,rfl⟩;rw[hn] at e1 ⊢;have e2:=quo2 n;have e3:=rem2 (n / 2);have e4:decide (((n / 2 % 2:Nat):Int)=1)=decide (n / 2 % 2=1):=by
  by_cases h:n / 2 % 2=1
  ·rw[decide_eq_true h,decide_eq_true (by omega)]
  ·rw[decide_eq_false h,decide_eq_false (by omega)]
 have hnb:n≤100000:=by omega
 (refine ZE Tryz.func105 rfl rfl ?_;simp only[Tryz.ntmps105,List.length_cons,List.length_nil,Nat.reduceAdd,Nat.reduceSub,List.replicate_succ,List.replicate_zero,List.cons_append,List.nil_append])
 ((repeat' (first|(apply WL.opN;exact yF;dsimp only[ZC,z0,z1])|refine WL.nil ?_|refine ZA fun Kx hK=>?_|(refine hK _ _ ?_;clear hK)|refine WC.region ?_|(apply WL.opN;(focus ((first|(apply SY.call (hs) Tryz.call133;(exact aD))|(exact ZL2 e1 (by omega) (OpD.t rfl) (OpD.t rfl))|(exact ZQ9 e2 (by decide) (by omega) (OpD.t rfl) OpD.i)|(exact ZRA e3 (by decide) (OpD.t rfl) OpD.i)|((first|apply SY.move|apply SY.assign|apply SY.eql) <;> (exact oD))|((first|apply SY.add|apply SY.sub|apply SY.rem|apply SY.quo) <;> first|exact oD|omega)|(apply SY.len;(exact oD);(exact nD);(exact uD))|fail);all_goals infer_instance));dsimp only[ZC,z0,z1])|refine WC.ret ?_));all_goals (first|((repeat clear hK);(repeat clear Kx))))
 all_goals try (exfalso;first|contradiction|omega)
 rw[e4];(refine⟨trivial,_,rfl,?_⟩;exact fD)
end
end Go.Proofs.YtofkoleingbbpaaGreatDoor
