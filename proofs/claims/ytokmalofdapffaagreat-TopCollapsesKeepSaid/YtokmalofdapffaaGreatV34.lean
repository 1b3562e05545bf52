/- Part 34: walks by contracts, and plain laws. -/
import Derived.Test.YtokmalofdapffaaGreatV29
import Derived.Test.YtokmalofdapffaaGreatV33
set_option linter.unusedVariables false
set_option linter.unusedSimpArgs false
set_option linter.unusedSectionVars false
set_option maxRecDepth 100000
set_option maxHeartbeats 4000000
namespace Go.Proofs.YtokmalofdapffaaGreat
section
open Go.RowKit

section
variable {ops:Array Oper} {hp:List HObj} {fr:List Dat} {dst:Option Tmp} {ty:TypeId} {ps:String} {af:Array Edge} {g:Option (Nat × Bool)} {e e' t T:TypeId}
theorem ZO1 {x y:Operand} {n:Int} {m:Nat} {v:Value} (hv:∃ ad c,v = .slice ad m c) (hx:OpD fr x (dI n)) (hy:OpD fr y (dX v)):SY Tryz.prog ops hp ⟨dst,.build 66 #[(0,x),(1,y)],ty,ps,af,g⟩ fr (ZKR [dI n,dX v]):=SY.val fun {I w a} ho=>by
 obtain ⟨ad,c,rfl⟩:=hv
 have h1:a.eval x = .int .i64 n:=hx.get (by simp [Op.operands]) ho
 have h2:a.eval y = .slice ad m c:=hy.get (by simp [Op.operands]) ho
 have hm:∀ w,(Instr.build 66 #[(0,.int .i64 n),(1,.slice ad m c)]).run Tryz.prog w = .ok (.agg #[.int .i64 n,.slice ad m c]) w:=by intro w;go_simp
 refine ⟨.agg #[.int .i64 n,.slice ad m c],?_,[.int .i64 n,.slice ad m c],rfl,rfl,fun c hc=>?_,fun k c e hc he=>?_⟩
 ·unfold execOp
  simp only [List.map_toArray,List.map_cons,List.map_nil,h1,h2,Sem.run_bind,hm,Result.andThen_ok,Sem.run_pure]
 ·simp at hc;rcases hc with rfl|rfl <;> rfl
 ·match k,hc,he with
  | 0,hc,he=>cases hc;cases he;rfl
  | 1,hc,he=>cases hc;cases he;rfl
theorem ZMH {P:Program} {α:Type} {R:Rel α} {_gR:Good R} {v:Value} {xs:List α} {x:Operand} {k:Nat} {y:α} (T':TyI P T 1 false) (hx:OpD fr x (dX (ZBm v k))) (hm:Zh v e' R xs∈hp) (hk:k<xs.length) (hy:xs[k]=y) :
  SY P ops hp ⟨dst,.load T x,ty,ps,af,g⟩ fr (dS R y):=hy ▸ ZJ7 T' hx hm hk
end
def ZEq (rows cols:Cx) (k:Nat) (pre:Cx) (i:Nat):List Int:=L05.posN (L05.incF (rows.getD i [])) cols k++(pre.filter fun x=>decide (x=rows.getD i [])).map fun _=>(k:Int)
theorem ZHC (rows cols:Cx) (k i:Nat):ZEq rows cols k [] i=L05.posN (L05.incF (rows.getD i [])) cols k:=by
 unfold ZEq;simp
theorem ZRb {rows cols:Cx} {k i:Nat} {pre:Cx} {x:List Vx} (h:rows.getD i []=x):ZEq rows cols k (pre++[x]) i=ZEq rows cols k pre i++[(k:Int)]:=by
 unfold ZEq
 rw [List.filter_append,List.map_append,List.append_assoc,h]
 simp
theorem ZKQ {rows cols:Cx} {k i:Nat} {pre:Cx} {x:List Vx} (h:rows.getD i []≠x):ZEq rows cols k (pre++[x]) i=ZEq rows cols k pre i:=by
 unfold ZEq
 rw [List.filter_append,List.map_append]
 have:([x].filter fun y=>decide (y=rows.getD i []))=[]:=by
  rw [List.filter_cons,if_neg (by simpa using fun e:x=rows.getD i []=>h e.symm)];rfl
 rw [this];simp
theorem ZPa (rows cols:Cx) (k i:Nat) (pre:Cx):(ZEq rows cols k pre i).length≤k+pre.length:=by
 unfold ZEq
 rw [List.length_append,List.length_map]
 have h1:=L05.posN_len (L05.incF (rows.getD i [])) cols k
 have h2:=List.length_filter_le (fun x=>decide (x=rows.getD i [])) pre
 omega
theorem ZNS {α:Type} [DecidableEq α] {l:List α} (h:l.Nodup) (a:α):l.filter (fun x=>decide (x=a))=if a∈l then [a] else []:=by
 induction l with
 | nil=>rfl
 | cons b l ih =>
  obtain ⟨h1,h2⟩:=List.nodup_cons.1 h
  rw [List.filter_cons,ih h2]
  by_cases hb:b=a
  ·subst hb
   rw [if_pos (by simp),if_neg h1,if_pos (by simp)]
  ·rw [if_neg (by simpa using hb)]
   have hb':¬ a=b:=fun e=>hb e.symm
   by_cases ha:a∈l
   ·rw [if_pos ha,if_pos (by simp [ha])]
   ·rw [if_neg ha,if_neg (by simp [ha,hb'])]
theorem ZPZ {rows cols:Cx} {k i:Nat} (hk:k<cols.length) (hn:(cols[k]).Nodup):ZEq rows cols k (L05.facL cols[k]) i=L05.posN (L05.incF (rows.getD i [])) cols (k+1):=by
 unfold ZEq
 rw [L05.posN_succ hk,ZNS (L05.facL_nodup hn)]
 congr 1
 by_cases h:rows.getD i []∈L05.facL cols[k]
 ·rw [if_pos h,if_pos (L05.incF_yes h)];rfl
 ·rw [if_neg h,if_neg (by rw [L05.incF_no h];simp)];rfl
theorem ZHM {ι α:Type} {L:List ι} {u:ι->Value} {e:TypeId} {R:Rel α} {_gR:Good R} {c c':ι->List α} (h:∀ i∈L,c i=c' i):gR L u e R c=gR L u e R c':=by
 unfold gR
 exact List.map_congr_left fun i hi=>by rw [h i hi]
theorem ZPb (rows cols:Cx):(List.range rows.length).map (ZEq rows cols cols.length [])=L05.matG L05.incF rows cols:=by
 unfold L05.matG
 refine List.ext_getElem (by simp) fun i h1 h2=>?_
 have hi:i<rows.length:=by simpa using h1
 rw [List.getElem_map,List.getElem_map,List.getElem_range,ZHC,List.getD_eq_getElem?_getD,List.getElem?_eq_getElem hi]
 rfl
abbrev matO (b10 b9 n m:Nat) (w:Value) (u:Nat->Value) (rows:Cx):List HObj:=[Zh w 27 ZDf ((List.range m).map u),ZBd b10 66 [dI (n:Int),dX w],ZO b9 22 1 false (dS ZBN rows)]
def matH (b10 b9 b11:Nat) (w:Value) (rows cols:Cx) (k:Nat) (pre:Cx) (hs:List HObj):Prop:=∃ u:Nat->Value,hs=(matO b10 b9 cols.length rows.length w u rows++[ZO b11 3 1 false (dI (k:Int))])++gR (List.range rows.length) u 3 RI (ZEq rows cols k pre)
theorem ZR8 {a b e:HObj} {G r:List HObj}:(G++(b::a::e::r)).Perm ([a,b,e]++(G++r)):=by
 have h1:(G++(b::a::e::r)).Perm (b::a::e::(G++r)):=(List.perm_append_comm_assoc G [b,a,e] r)
 exact h1.trans (List.Perm.swap _ _ _)
theorem ZNy {v c a b e:HObj} {G r:List HObj}:(v::c::a::b::e::(G++r)).Perm (([a,b,e]++[c]++G)++([v]++r)):=by
 have h1:(([v,c]++[a,b,e])++(G++r)).Perm (([a,b,e]++[c,v])++(G++r)):=List.Perm.append_right _ ((List.perm_append_comm).trans (List.Perm.append_left _ (List.Perm.swap _ _ _)))
 have h2:(v::(G++r)).Perm (G++v::r):=List.perm_middle.symm
 refine (show (v::c::a::b::e::(G++r)).Perm _ from by simpa using h1).trans ?_
 simpa using ((((h2.cons c).cons e).cons b).cons a)
theorem ZR9 {m v c a b e:HObj} {G r:List HObj}:(m::(([a,b,e]++[c]++G)++([v]++r))).Perm (v::c::([a,b,e]++(G++(m::r)))):=by
 have h1:(m::(([a,b,e]++[c]++G)++([v]++r))).Perm (m::v::c::a::b::e::(G++r)):=ZNy.symm.cons m
 have h2:([m]++[v,c,a,b,e]++(G++r)).Perm ([v,c,a,b,e]++[m]++(G++r)):=List.Perm.append_right _ List.perm_append_comm
 have h3:(m::(G++r)).Perm (G++m::r):=List.perm_middle.symm
 refine h1.trans ((show (m::v::c::a::b::e::(G++r)).Perm (v::c::a::b::e::m::(G++r)) from by simpa using h2).trans ?_)
 simpa using (((((h3.cons e).cons b).cons a).cons c).cons v)
theorem ZSA {a b e:HObj} {G r:List HObj}:([a,b,e]++(G++r)).Perm (a::(G++(b::e::r))):=by
 have h1:([b,e]++(G++r)).Perm (G++([b,e]++r)):=List.perm_append_comm_assoc _ _ _
 simpa using h1.cons a
theorem tz58S:TyZ Tryz.prog 22 (.slice none 0 0):=⟨by kernel_rfl⟩
theorem tz58I:TyZ Tryz.prog 3 (.int .i64 0):=⟨by kernel_rfl⟩
set_option maxHeartbeats 32000000 in
theorem ZRv (l:Cx) (d:Nat) (h0:ZA8 l=0) (hd:d<8) (hN:∀ k,(Zs l k).length≤4096):CallC Tryz.prog 61 ([dS Cpx l,dI (d:Int)]++([]:List Value).map dX) [] (fun d' hp2=>d'=dT [dS Mat ((((Zs l (d+1)).length:Nat):Int),L05.matG L05.incF (if d=0 then [] else Zs l d) (Zs l (d+1))),dI 0]/\hp2=[]):=⟨fun P0 B w0 hp vs W hh hl0 hv=>by
 refine (callsIn_wide (n:=0)).1 (callsIn_of_wp_marks Tryz.func61 rfl trivial ?_ rfl)
 refine wpIn_wide.2 ?_
 have hf0:=ZBF (m:=85) hl0 hv
 have hsz:vs.toArray.size=2:=by simpa using hl0
 rw [hsz]
 have hnt:Tryz.f61.ntmps=87:=rfl
 rw [hnt]
 simp only [List.length_cons,List.length_nil,Nat.reduceAdd,Nat.reduceSub,List.replicate_succ,List.replicate_zero,List.cons_append,List.nil_append,List.map_nil,List.map_cons] at hf0 hh ⊢
 have G:=Zr.1 h0
 have ck:=ZBR l
 rw [h0] at ck
 have c1:=ZNG l (d:Int) ⟨by omega,by omega⟩
 have e1:ZRc l (d:Int)=(Zs l (d+1),0):=by
  have h4:=hN (d+1)
  unfold ZRc ZBi
  rw [if_neg (by omega),if_neg (by simpa using h0),if_neg (by omega),show ((d:Int)+1).toNat=d+1 by omega,if_neg (by omega)]
 rw [e1] at c1
 have c2:=ZNG l ((d:Int)-1) ⟨by omega,by omega⟩
 have e2:ZRc l ((d:Int)-1)=(if d=0 then [] else Zs l d,0):=by
  have h4:=hN d
  unfold ZRc ZBi
  by_cases hd0:d=0
  ·subst hd0;rfl
  ·rw [if_neg (by omega),if_neg (by simpa using h0),if_neg (by omega),show ((d:Int)-1+1).toNat=d by omega,if_neg (by omega),if_neg hd0]
 rw [e2] at c2
 simp only at c1 c2
 have hcA:∀ s∈Zs l (d+1),s.Nodup/\s.length≤8:=fun s hs=>by
  obtain ⟨f,hf,hsub⟩:=ZES hs
  have:=(Zf (G.2.2.1 f hf)).2
  have:=hsub.length_le
  exact ⟨hsub.nodup (ZGL (G.asc f hf)),by omega⟩
 have hrA:AscL (if d=0 then [] else Zs l d):=by
  split
  ·exact List.Pairwise.nil
  ·exact ZA0 l d
 have hrl:(if d=0 then [] else Zs l d).length≤4096:=by
  split
  ·exact Nat.zero_le _
  ·exact hN d
 have hrne:∀ x∈(if d=0 then [] else Zs l d),x≠[]:=fun x hx e=>by
  by_cases hd0:d=0
  ·rw [if_pos hd0] at hx;cases hx
  ·rw [if_neg hd0] at hx
   have:=ZCK hx
   rw [e] at this
   exact hd0 this.symm
 have hcl:=hN (d+1)
 generalize Zs l (d+1)=cols at *
 generalize (if d=0 then [] else Zs l d)=rows at *
 have hd1:(d:Int) ≥ 0:=by omega
 have hd8:(d:Int)<8:=by omega
 refine (?_:WY Tryz.prog _ P0 B w0 [] _ _ hp).out _ W rfl hh hf0
 refine ZCf fun Kx hK=>?_
 ((repeat' (first|((first|apply WL.opN|apply WD.opN);exact yF;dsimp only [ZB,z0,z1])|refine WL.nil ?_|(refine hK _ _ ?_;clear hK)|refine WC.region ?_ |  (refine WL.alloc (dst:=some 4) ZRG (ZAa rfl rfl) fun b4=>?_;dsimp only [ZB,z0,z1])|((first|apply ZF|apply WD.op);(focus (first|exact wN|(apply SYG.yes;(exact wY);((first|(exact SY.box (OpD.t rfl) ZAT)|fail);all_goals infer_instance))));dsimp only [ZB,z0,z1])));all_goals (first|((repeat clear hK);(repeat clear Kx))))
 refine ZCf fun Kx hK=>?_
 ((repeat' (first|((first|apply WL.opN|apply WD.opN);exact yF;dsimp only [ZB,z0,z1])|refine WL.nil ?_|refine ZA fun Kx hK=>?_|(refine hK _ _ ?_;clear hK)|refine WC.region ?_|((first|apply ZF|apply WD.op);(focus (first|exact wN|(apply SYG.yes;(exact wY);((first|(apply SY.call (ck) Tryz.call18;(exact aD))|((first|apply SY.move|apply SY.assign|apply SY.lss|apply SY.geq|apply SY.neq) <;> (exact oD))|fail);all_goals infer_instance))));dsimp only [ZB,z0,z1])|(apply WC.condN;(exact oD);all_goals (intro h;try exact xD))|refine WC.skip ?_));all_goals (first|((repeat clear hK);(repeat clear Kx))))
 all_goals try (exfalso;first|contradiction|omega)
 refine ZCf fun Kx hK=>?_
 ((repeat' (first|((first|apply WL.opN|apply WD.opN);exact yF;dsimp only [ZB,z0,z1])|refine WL.nil ?_|refine ZA fun Kx hK=>?_|(refine hK _ _ ?_;clear hK)|refine WC.region ?_|((first|apply ZF|apply WD.op);(focus (first|exact wN|(apply SYG.yes;(exact wY);((first|((first|apply SY.move|apply SY.assign|apply SY.lss|apply SY.geq|apply SY.neq) <;> (exact oD))|(apply Zj;(exact oD);(with_reducible rfl);(exact oD))|fail);all_goals infer_instance))));dsimp only [ZB,z0,z1])|((first|refine ZM rfl rfl rfl (fun h=>?_) (fun h=>?_)|refine ZL rfl rfl rfl (fun h=>?_) (fun h=>?_)|refine ZK rfl rfl rfl (fun h=>?_) (fun h=>?_)|refine Zp rfl rfl rfl (fun h=>?_) (fun h=>?_)|refine Zo rfl rfl rfl (fun h=>?_) (fun h=>?_)|refine Zl rfl rfl rfl (fun h=>?_) (fun h=>?_)) <;> (first|(exfalso;first|omega|contradiction)|(dsimp only [z0,z1])))|(apply WC.condD;(exact oD);all_goals (intro h;try exact xD))|refine WC.skip ?_));all_goals (first|((repeat clear hK);(repeat clear Kx))))
 all_goals try (exfalso;first|contradiction|omega)
 refine ZCf fun Kx hK=>?_
 ((repeat' (first|((first|apply WL.opN|apply WD.opN);exact yF;dsimp only [ZB,z0,z1])|refine WL.nil ?_|(refine hK _ _ ?_;clear hK)|refine WC.region ?_|((first|apply ZF|apply WD.op);(focus (first|exact wN|(apply SYG.yes;(exact wY);((first|(apply SY.call (c1) Tryz.call86;(exact aD))|(apply SY.extract;(exact oD);rfl)|fail);all_goals infer_instance))));dsimp only [ZB,z0,z1])));all_goals (first|((repeat clear hK);(repeat clear Kx))))
 all_goals try (exfalso;first|contradiction|omega)
 refine ZCf fun Kx hK=>?_
 ((repeat' (first|((first|apply WL.opN|apply WD.opN);exact yF;dsimp only [ZB,z0,z1])|refine WL.nil ?_|refine ZA fun Kx hK=>?_|(refine hK _ _ ?_;clear hK)|refine WC.region ?_|((first|apply ZF|apply WD.op);(focus (first|exact wN|(apply SYG.yes;(exact wY);((first|((first|apply SY.move|apply SY.assign|apply SY.lss|apply SY.geq|apply SY.neq) <;> (exact oD))|fail);all_goals infer_instance))));dsimp only [ZB,z0,z1])|(apply WC.condN;(exact oD);all_goals (intro h;try exact xD))|refine WC.skip ?_));all_goals (first|((repeat clear hK);(repeat clear Kx))))
 all_goals try (exfalso;first|contradiction|omega)
 refine ZCf fun Kx hK=>?_
 ((repeat' (first|((first|apply WL.opN|apply WD.opN);exact yF;dsimp only [ZB,z0,z1])|refine WL.nil ?_|(refine hK _ _ ?_;clear hK)|refine WC.region ?_ |  (refine WL.alloc (dst:=some 9) tz58S (ZZ rfl) fun b9=>?_;dsimp only [ZB,z0,z1]) |  (refine ZAf ZH1 (OpD.t rfl) (OpD.t rfl) ZAh ?_;dsimp only [ZB,z0,z1])|((first|apply ZF|apply WD.op);(focus (first|exact wN|(apply SYG.yes;(exact wY);((first|(apply SY.call (c2) Tryz.call86;(exact aD))|((first|apply SY.add|apply SY.sub) <;> first|exact oD|omega)|(apply SY.extract;(exact oD);rfl)|fail);all_goals infer_instance))));dsimp only [ZB,z0,z1])));all_goals (first|((repeat clear hK);(repeat clear Kx))))
 all_goals try (exfalso;first|contradiction|omega)
 refine ZCf fun Kx hK=>?_
 ((repeat' (first|((first|apply WL.opN|apply WD.opN);exact yF;dsimp only [ZB,z0,z1])|refine WL.nil ?_|refine ZA fun Kx hK=>?_|(refine hK _ _ ?_;clear hK)|refine WC.region ?_|((first|apply ZF|apply WD.op);(focus (first|exact wN|(apply SYG.yes;(exact wY);((first|((first|apply SY.move|apply SY.assign|apply SY.lss|apply SY.geq|apply SY.neq) <;> (exact oD))|fail);all_goals infer_instance))));dsimp only [ZB,z0,z1])|(apply WC.condN;(exact oD);all_goals (intro h;try exact xD))|refine WC.skip ?_));all_goals (first|((repeat clear hK);(repeat clear Kx))))
 all_goals try (exfalso;first|contradiction|omega)
 refine ZCf fun Kx hK=>?_
 ((repeat' (first|((first|apply WL.opN|apply WD.opN);exact yF;dsimp only [ZB,z0,z1])|refine WL.nil ?_|(refine hK _ _ ?_;clear hK)|refine WC.region ?_ |  (refine ZFU (n:=rows.length) ZHw (OpD.t rfl) (OpD.t rfl) rfl (by omega) (by omega) fun w=>?_;dsimp only [ZB,z0,z1];refine ZBx (.head _) id fun hw=>?_) |  (refine ZIH (dst:=some 10) (zs:=[.int .i64 0,.slice none 0 0]) ZRG (by decide) (by simp [Value.oneCell']) fun b10=>?_;dsimp only [ZB,z0,z1,List.map_cons,List.map_nil]) |  (refine ZFV ZJ0 (OpD.t rfl) (OpD.t rfl) rfl rfl ?_;dsimp only [ZB,z0,z1])|((first|apply ZF|apply WD.op);(focus (first|exact wN|(apply SYG.yes;(exact wY);((first|(apply SY.len;exact OpD.t rfl;exact ZJn;exact ZDv.unt)|(apply Zd;exact ZH1;exact OpD.t rfl;exact .head _)|(exact ZO1 hw (OpD.t rfl) (OpD.t rfl))|fail);all_goals infer_instance))));dsimp only [ZB,z0,z1])));all_goals (first|((repeat clear hK);(repeat clear Kx))))
 all_goals try (exfalso;first|contradiction|omega)
 refine WY.seq ?_
 refine ZCf fun Kx hK=>?_
 refine ZGH (R:=RI) 3 (List.range rows.length) ?_
 ((repeat' (first|((first|apply WL.opN|apply WD.opN);exact yF;dsimp only [ZB,z0,z1])|refine WL.nil ?_|(refine hK _ _ ?_;clear hK)|refine WC.region ?_|((first|apply ZF|apply WD.op);(focus (first|exact wN|(apply SYG.yes;(exact wY);((first|(apply SY.len;(exact oD);(exact nD);(exact uD))|fail);all_goals infer_instance))));dsimp only [ZB,z0,z1])));all_goals (first|((repeat clear hK);(repeat clear Kx))))
 refine WK.perm ZR8 ?_
 rw [show (gR (List.range rows.length) (fun _=>Value.slice none 0 0) 3 RI fun _=>([]:List Int))=gR (List.range rows.length) (fun _=>Value.slice none 0 0) 3 RI (ZEq rows cols 0 []) from ZHM fun i _=>by rw [ZHC];rfl]
 refine WY.block ?_
 (refine ZPK (D:=fun x:Nat × List Nat × (Nat->Value)=>x.2.1.map ZS0) (X:=Nat × List Nat × (Nat->Value)) (fun x=>[(58,dI (x.1:Int)),(11,dA),(12,dA),(13,dA),(14,dA),(15,dA),(59,dA),(60,dA),(61,dA),(62,dA),(63,dA),(64,dA),(66,dA),(67,dA),(68,dA),(69,dA),(70,dA),(71,dA),(72,dA),(73,dA),(74,dA),(75,dA),(76,dA),(77,dA),(78,dA),(79,dA),(80,dA),(81,dA),(82,dA),(83,dA),(84,dA),(85,dA)]) (fun x=>(matO b10 b9 cols.length rows.length w x.2.2 rows++(gR (List.range rows.length) x.2.2 3 RI (ZEq rows cols x.1 [])++(x.2.1.map ZNl++(ZO b4 66 2 true (dX (.agg #[.int .i64 0,.slice none 0 0]))::hp))))) (fun x=>cols.length-x.1) (fun x=>x.1≤cols.length) (0,[],fun _=>.slice none 0 0) ?start ?frame0 ?objs0 ?dfs0 ?round)
 case start=>exact Nat.zero_le _
 case frame0=>((try dsimp only [ZQ,z0,z1]);repeat (first|exact LeF.nil|refine ZD (k:=?_)))
 case objs0=>rfl
 case dfs0=>rfl
 case round =>
  rintro ⟨k,ks,u⟩ K g1 hKn
  simp only at g1 hKn
  dsimp only [ZQ,z0,z1]
  refine WY.seq (WY.region (WV.op rfl (SY.lss (OpD.t rfl) (OpD.t rfl)) (ZFW ?_)))
  dsimp only [ZB,z0,z1]
  by_cases hk:k<cols.length
  ·obtain ⟨hnd,hl8⟩:=hcA _ (List.getElem_mem hk)
   obtain ⟨s,hs⟩:∃ s,cols[k]=s:=⟨_,rfl⟩
   have hfl:(L05.facL s).length≤8:=by
    unfold L05.facL
    rw [<- hs]
    split
    ·rw [List.length_map,List.length_range];exact hl8
    ·exact Nat.zero_le _
   have hnx:∀ i,ZEq rows cols k (L05.facL s) i=ZEq rows cols (k+1) [] i:=fun i=>by rw [<- hs,ZPZ hk hnd,ZHC]
   refine WY.seq (ZPJ (OpD.t rfl) (by simpa using hk) (ZPL (WY.seq (WY.block (WY.seq (WY.region ?_))))))
   refine WV.op rfl (SY.move (OpD.t rfl)) ?_
   dsimp only [ZB,z0,z1]
   refine WV.op rfl (hs ▸ SY.ix (R:=ZJ) (_gR:=inferInstance) (k:=k) ZDv (OpD.t rfl) (OpD.t rfl) hk) ?_
   dsimp only [ZB,z0,z1]
   refine WV.op rfl (SY.load ZJO (OpD.t rfl)) ?_
   dsimp only [ZB,z0,z1]
   refine ZPH (SW.alloc tz58I (ZZ rfl)) fun b11=>?_
   dsimp only [ZB,z0,z1]
   refine ZPH (ZCT tyI (OpD.t rfl) (OpD.t rfl) ZAc) fun _=>?_
   dsimp only [ZB,z0,z1]
   refine WV.op rfl (SY.assign (OpD.t rfl)) (ZFW ?_)
   dsimp only [ZB,z0,z1]
   refine WY.seq (WY.region ?_)
   refine WV.op rfl (SY.move (OpD.t rfl)) ?_
   dsimp only [ZB,z0,z1]
   refine ZPH (SW.callC (hp1:=[]) (β:=Value) (H:=fun vq=>[ZAW vq (dP 1 false (dS ZJ s))]) (D:=fun vq=>dX (.func (.func 117) #[] [vq].toArray)) (caps:=[]) (ZMx s) Tryz.call87 OpD.f (by (exact aD)) (fun d hp2 ⟨v,h1,h2⟩=>⟨v,h1,h2⟩)) fun vq=>ZFW ?_
   dsimp only [ZB,z0,z1,List.cons_append,List.nil_append]
   refine WK.perm ZNy (WY.block ?_)
   refine ZMe (D:=fun x=>dS ZJ x) (matH b10 b9 b11 w rows cols k) _ (OpD.t rfl) Tryz.call117 (ZRV s (by rw [<- hs];omega) vq).seq.toN ⟨u,rfl⟩ (by repeat (first|exact FixF.nil|apply FixF.x|apply FixF.a)) (by simp) ?_ ?_
   ·rintro l' pre x hs' q hlt ⟨u1,rfl⟩
    have cI:=ZRm rows x hrA (by omega)
    dsimp only [z0,z1]
    rw [List.append_assoc]
    by_cases hx:x∈rows
    ·obtain ⟨hi,hget⟩:=ZQM hrA hx
     rw [decide_eq_true hx] at cI
     generalize ZQ8 rows x=i at *
     have hgd:rows.getD i []=x:=by rw [List.getD_eq_getElem?_getD,List.getElem?_eq_getElem hi,hget];rfl
     have hx0:x≠[]:=hrne x hx
     have hc1:ZEq rows cols k (pre++[x]) i=ZEq rows cols k pre i++[(k:Int)]:=ZRb hgd
     have hc2:∀ j,j≠i->ZEq rows cols k (pre++[x]) j=ZEq rows cols k pre j:=fun j hj=>ZKQ (by
      by_cases hjl:j<rows.length
      ·rw [List.getD_eq_getElem?_getD,List.getElem?_eq_getElem hjl]
       intro e
       have e2:rows[j]=rows[i]:=by rw [hget];exact e
       have h5:=List.pairwise_iff_getElem.1 hrA
       rcases (by omega:j<i\/i<j) with q1|q1
       ·have:=h5 j i hjl hi q1
        rw [e2,ZBE] at this;omega
       ·have:=h5 i j hi hjl q1
        rw [e2,ZBE] at this;omega
      ·rw [List.getD_eq_getElem?_getD,List.getElem?_eq_none (by omega)]
       exact fun e=>hx0 e.symm)
     have hnm:i∈List.range rows.length:=List.mem_range.2 hi
     have hnl:i<((List.range rows.length).map u1).length:=by simpa using hi
     have hul:((List.range rows.length).map u1)[i]=u1 i:=by simp
     have hcl2:=ZPa rows cols k i pre
     have h8:((ZEq rows cols k pre i).length+1)*8≤140737488355328:=by omega
     clear hnx hKn
     refine WR.block ?_
     ((repeat' (first |  (refine WR.drawJ (fun hp'=>Zh w 27 ZDf ((List.range rows.length).map u1)∈hp'/\ZBd b10 66 [dI ((cols.length:Nat):Int),dX w]∈hp'/\ZO b11 3 1 false (dI (k:Int))∈hp') 11 2 [1,4,6,7,8] [] [(0,false),(1,false),(2,false),(3,false),(4,false),(5,false),(6,false),(7,false),(8,false),(9,false),(10,true)] [true,true,true,true,true,true,true,true,true,true,true,false,false] (by kernel_rfl) (by kernel_rfl) (by kernel_rfl) rfl (by kernel_rfl) rfl (⟨mAt 0 rfl,mAt 1 rfl,mAt 3 rfl⟩) ?_) |  (refine ZLP rfl (SW.gApp (A:=matO b10 b9 cols.length rows.length w u1 rows++[ZO b11 3 1 false (dI (k:Int))]) (R:=RI) (_gR:=inferInstance) (c':=ZEq rows cols k (pre++[x])) elI List.nodup_range hnm hc1 hc2 (OpD.tle rfl le_RX) (OpD.t rfl) (by decide) h8) (fun _=>⟨mAt 0 rfl,mAt 1 rfl,mAt 3 rfl⟩) fun v'=>?_;dsimp only [ZB,z0,z1])|(refine WMj.nil ?_)|(apply ZMc rfl;(focus (intro c;apply SYG.yes;(exact ZP rfl);((first|(refine ZC0 ZTG (OpD.t rfl) (by decide))|(exact SY.build1' elI (R:=RI) (_gR:=inferInstance) (els:=[(k:Int)]) (Zt (OpD.t rfl) Zu) rfl rfl (fun _=>ZAc) (by simp))|((first|apply SY.move|apply SY.assign|apply SY.lss|apply SY.geq|apply SY.neq) <;> (exact oD))|fail);all_goals infer_instance)));dsimp only [ZB,z0,z1])|(apply ZMb rfl rfl;(focus (intro c hcc;apply SYG.yes;(exact ZP rfl);((first|(refine ZCE ZTJ (OpD.t rfl) hcc.2.1 rfl)|(apply Zd;exact tyI;exact OpD.t rfl;exact hcc.2.2)|(refine ZQt (R:=ZDf) (_gR:=inferInstance) ZHw (OpD.t rfl) hcc.1 (OpD.t rfl) rfl hnl)|(refine ZMH (R:=ZDf) (_gR:=inferInstance) ZOp (OpD.t rfl) hcc.1 hnl hul)|fail);all_goals infer_instance)));dsimp only [ZB,z0,z1])|((first|apply I.WL.opN|apply WD.opN);exact yF;dsimp only [ZB,z0,z1])|refine I.WL.nil ?_|refine WD.nil ?_|refine ZMd fun Kx hK=>?_|(refine hK _ _ ?_;clear hK)|(refine Kont.skip ?_;clear hK)|refine WR.region rfl ?_|(apply WR.draw;kernel_rfl;kernel_rfl) |  (refine I.ZII (A:=[_,_,_]) (R:=RI) (_gR:=inferInstance) ZOp hi (OpD.t rfl) rfl ?_;dsimp only [ZB,z0,z1])|((first|apply I.Z1|apply I.Zv);(exact eD);exact OpD.t rfl;(exact oD);(intro _;exact hD);(exact (by simp));(exact (by simp));(first|exact ⟨by decide,by decide⟩|skip);decide;(exact lD);(intro _;dsimp only [ZB,z0,z1]);all_goals (try infer_instance))|((first|apply I.WL.appK|apply I.WL.app1);(exact eD);exact OpD.t rfl;(exact oD);decide;(exact lD);(intro _;dsimp only [ZB,z0,z1]);all_goals (try infer_instance))|((apply (I.WL.perm (List.Perm.swap _ _ _));(first|apply I.Z1|apply I.Zv);(exact eD);exact OpD.t rfl;(exact oD);(intro _;exact hD);(exact (by simp));(exact (by simp));(first|exact ⟨by decide,by decide⟩|skip);decide;(exact lD);(intro _;dsimp only [ZB,z0,z1]);all_goals (try infer_instance)))|((apply (I.WL.perm (List.Perm.swap _ _ _));(first|apply I.WL.appK|apply I.WL.app1);(exact eD);exact OpD.t rfl;(exact oD);decide;(exact lD);(intro _;dsimp only [ZB,z0,z1]);all_goals (try infer_instance)))|(apply I.WL.alloc;(first|exact tzV|exact tzC);(first|exact ZZ rfl|exact Zw|exact Ze rfl);(intro _;dsimp only [ZB,z0,z1]))|(apply I.ZI;(exact tD);rfl;(exact oD);(exact hD);dsimp only [ZB,z0,z1])|(apply I.ZAe;(exact tD);rfl;(exact oD);(exact hD);dsimp only [ZB,z0,z1])|(apply I.ZAZ;(exact tD);rfl;(exact oD);(exact hD);dsimp only [ZB,z0,z1])|((first|apply I.ZF|apply WD.op);(focus (first|exact wN|(apply SYG.yes;(exact wY);((first|(apply Zd;exact ZH1;exact OpD.t rfl;exact mAt 2 rfl)|(apply SY.call (cI) Tryz.call88;(exact aD))|(refine ZQt (R:=ZDf) (_gR:=inferInstance) ZHw (OpD.t rfl) (mAt 0 rfl) (OpD.t rfl) rfl hnl)|(apply SY.extract;(exact oD);rfl)|fail);all_goals infer_instance))));dsimp only [ZB,z0,z1])|((first|refine I.ZM rfl rfl rfl (fun h=>?_) (fun h=>?_)|refine I.ZL rfl rfl rfl (fun h=>?_) (fun h=>?_)|refine I.ZK rfl rfl rfl (fun h=>?_) (fun h=>?_)|refine Zp rfl rfl rfl (fun h=>?_) (fun h=>?_)|refine Zo rfl rfl rfl (fun h=>?_) (fun h=>?_)|refine Zl rfl rfl rfl (fun h=>?_) (fun h=>?_)) <;> (first|(exfalso;first|omega|contradiction)|(dsimp only [z0,z1])))|(apply ZPG;(exact oD);(with_reducible rfl))|(apply ZKF;(exact oD);(with_reducible rfl))|(apply WR.condD;(exact oD);all_goals (intro h;try exact xD))|(apply WR.condN;(exact oD);all_goals (intro h;try exact xD))|(apply WR.condNB;(exact oD);all_goals (intro h;try exact xD))|(apply WR.cond;(exact oD);all_goals (intro h;try exact xD))|refine WR.skip ?_|refine WR.ret ?_|refine WR.exit ?_|refine WR.block ?_|refine ThenD.n ?_|refine ThenD.r ?_|refine ThenD.x ?_|refine InBlockD.x ?_|refine InBlockD.n ?_|refine InBlockD.r ?_|refine ZAQ (by decide) ?_));all_goals (first|((repeat clear hK);(repeat clear Kx))))
     all_goals try (exfalso;first|contradiction|omega)
     exact ⟨rfl,_,⟨upV u1 i v',rfl⟩,by simp⟩
    ·rw [decide_eq_false hx] at cI
     have hc:gR (List.range rows.length) u1 3 RI (ZEq rows cols k pre)=gR (List.range rows.length) u1 3 RI (ZEq rows cols k (pre++[x])):=ZHM fun j hj=>(ZKQ fun e=>by
      have hj:=List.mem_range.1 hj
      rw [List.getD_eq_getElem?_getD,List.getElem?_eq_getElem hj] at e
      exact hx (e ▸ List.getElem_mem hj)).symm
     rw [hc]
     clear hnx hKn hc
     refine WR.block ?_
     ((repeat' (first|((first|apply I.WL.opN|apply WD.opN);exact yF;dsimp only [ZB,z0,z1])|refine I.WL.nil ?_|refine ZMd fun Kx hK=>?_|(refine hK _ _ ?_;clear hK)|refine WR.region rfl ?_|((first|apply I.ZF|apply WD.op);(focus (first|exact wN|(apply SYG.yes;(exact wY);((first|(apply Zd;exact ZH1;exact OpD.t rfl;exact mAt 2 rfl)|(apply SY.call (cI) Tryz.call88;(exact aD))|(apply SY.extract;(exact oD);rfl)|fail);all_goals infer_instance))));dsimp only [ZB,z0,z1])|(apply ZKF;(exact oD);(with_reducible rfl))|refine WR.skip ?_|refine InBlockD.n ?_));all_goals (first|((repeat clear hK);(repeat clear Kx))))
     all_goals try (exfalso;first|contradiction|omega)
     exact ⟨rfl,_,⟨u1,rfl⟩,by simp⟩
   ·rintro kk hs' ⟨u1,rfl⟩
    refine ZIF (ZIF (ZKA ?_))
    rw [ZHM fun i _=>hnx i]
    refine WY.region (WV.op rfl (SY.add (OpD.t rfl) OpD.i (by omega)) ?_)
    dsimp only [ZB,z0,z1]
    refine WV.op rfl (SY.move (OpD.t rfl)) (ZFW ?_)
    dsimp only [ZB,z0,z1]
    refine WK.perm ZR9 (WK.drop (WK.drop ?_))
    refine ZKC ?_ (hKn (k+1,kk::ks,u1) (by show k+1≤_;omega) (by show _-(k+1)<_;omega))
    ((try dsimp only [ZQ,z0,z1]);repeat (first|exact LeF.nil|refine ZD (k:=?_)))
  ·have hkl:k=cols.length:=by omega
   subst hkl
   refine WY.seq (ZPI (OpD.t rfl) (by simp) (WY.exit (ZKB (ZKB (ZMM (ZKA ?_))))))
   refine WK.perm ZSA (ZSS (WK.perm (List.Perm.swap _ _ _) (ZLN (k:=1) rfl ?_)))
   rw [ZPb]
   generalize L05.matG L05.incF rows cols=mm at *
   dsimp only [z0,z1]
   refine WY.seq (WY.region ?_)
   refine WV.op rfl (ZGv ZJ0 (OpD.t rfl) (mAt 0 rfl) (by decide) rfl) ?_
   dsimp only [ZB,z0,z1]
   refine WK.drop (WK.drop (WK.perm List.perm_middle ?_))
   refine ZPH (ZCT ZJ0 (OpD.t rfl) (OpD.tle rfl ZG2) Zy) fun _=>?_
   dsimp only [ZB,z0,z1]
   refine WV.op rfl (SY.assign OpD.i) (ZFW ?_)
   dsimp only [ZB,z0,z1]
   refine WY.ret (WK.perm List.perm_middle.symm (WK.of fun a w' ha hh2 hf2=>?_))
   show LeavesInM _ _ _ _ _ _ _ _ _
   rw [ha]
   refine ZNd (by simp) ks w' hh2 fun w2 hh' hd'=>?_
   obtain ⟨cs,v1,c1,c2,c0,c3,c4,c5⟩:=hh'.ok (ZO b4 66 2 true (dS Mat (((cols.length:Nat):Int),mm))) (by simp)
   have h2:a.tmps.getD 4 undef = .pointer (some ⟨b4,0,none⟩):=hf2.rd 4 _ rfl
   have h3:(dI 0).rd (Imm P0 B _) w' (a.tmps.getD 5 undef):=hf2.rd 5 _ rfl
   refine ⟨_,ZDh ZJ0 rfl h2 (ZAF (I:=fun _=>True) c1 c2 c0 c3 c4 trivial),_,_,[],rfl,⟨rfl,rfl⟩,hh'.drop,[v1,a.tmps.getD 5 undef],rfl,rfl,fun j e x he hx=>?_⟩
   match j,he,hx with
   | 0,he,hx=>cases he;cases hx;exact (dS Mat _).weak c5 Imm.sub
   | 1,he,hx=>cases he;cases hx;exact h3⟩
end
end Go.Proofs.YtokmalofdapffaaGreat
namespace Go.Proofs.YtokmalofdapffaaGreat.L05
section
theorem redP_low {b:List Int} {C:Nat} {n:Int} {m:List (Int × Ln)} (G:Good05 C m) (hF:∀ p∈m,Low n p.2.2) {x0:Ln}:∀ (f i:Nat) (x:Ln),RedAt b C m x0 f i x->Low n x.2->Low n (ZEu m f i x).2
 | 0,_,_,_,h=>h
 | f+1,i,x,hR,h=>by
  unfold ZEu
  cases e:x.1[i]? with
  | none=>exact h
  | some c =>
   simp only
   cases hl:ZCC m c with
   | none=>exact redP_low G hF f (i+1) x (hR.skip e hl) h
   | some l =>
    have hm:=lookP_some hl
    exact redP_low G hF f i (ZFX x l) (hR.add G e hl) (plus_low hR.frm.1 (G.frm _ hm).1 h (hF _ hm))
theorem low_mono {n k:Int} (h:n≤k) {a:List Int} (ha:Low n a):Low k a:=fun x hx=>by have:=ha x hx;omega
theorem echN_low {C:Nat} {rows:List (List Int)} (h1:AllAsc rows) (h2:∀ r∈rows,Low (C:Int) r) (h3:∀ r∈rows,Pos r):∀ i,i≤rows.length->(∀ p∈(ZGO rows C i).1,Low (i:Int) p.2.2)/\∀ y∈(ZGO rows C i).2,Low (i:Int) y
 | 0,_=>⟨(fun p hp=>by cases hp),(fun p hp=>by cases hp)⟩
 | i+1,hi=>by
  obtain ⟨i1,i2⟩:=echN_low h1 h2 h3 i (by omega)
  have P:=PInv.all (b:=[]) h1 h2 h3 i (by omega)
  have hil:i<rows.length:=by omega
  rw [echN_succ hil]
  obtain ⟨⟨m,deps⟩,hs⟩:∃ s,ZGO rows C i=s:=⟨_,rfl⟩
  rw [hs] at i1 i2 P ⊢
  simp only at i1 i2
  have hr:=List.getElem_mem hil
  have hR0:RedAt [] C m (rows[i],[(i:Int)]) (C+1) 0 (rows[i],[(i:Int)]):=RedAt.start (h1 _ hr) (h2 _ hr) (h3 _ hr) ⟨List.pairwise_singleton _ _,fun x hx=>by rw [List.mem_singleton.1 hx];omega⟩
  have hF:∀ p∈m,Low ((i+1:Nat):Int) p.2.2:=fun p hp=>low_mono (by omega) (i1 p hp)
  have hy:=redP_low P.good hF (C+1) 0 _ hR0 (n:=((i+1:Nat):Int)) (fun x hx=>by
   simp only [List.mem_singleton] at hx
   omega)
  have hO:=redP_out P.good (C+1) 0 _ hR0
  unfold ZGD
  simp only
  generalize ZEu m (C+1) 0 (rows[i],[(i:Int)])=y at hy hO
  cases hyc:y.1 with
  | nil =>
   simp only
   refine ⟨hF,fun z hz=>?_⟩
   rcases List.mem_append.1 hz with hz|hz
   ·exact low_mono (by omega) (i2 z hz)
   ·rw [List.mem_singleton.1 hz];exact hy
  | cons c t =>
   simp only
   refine ⟨fun p hp=>?_,fun z hz=>low_mono (by omega) (i2 z hz)⟩
   rcases List.mem_append.1 hp with hp|hp
   ·obtain ⟨q,hq,e⟩:=ZJ1 hp
    rw [e]
    split
    ·exact plus_low (P.good.frm q hq).1 hO.frm.1 (hF q hq) hy
    ·exact hF q hq
   ·rw [List.mem_singleton.1 hp];exact hy
theorem echN_deps (rows:List (List Int)) (C:Nat):∀ i,i≤rows.length->(ZGO rows C i).2.length≤i
 | 0,_=>Nat.le_refl _
 | i+1,hi=>by
  have h:=echN_deps rows C i (by omega)
  rw [echN_succ (by omega)]
  unfold ZGD
  simp only
  split
  ·simp only [List.length_append,List.length_singleton];omega
  ·simp only;omega
def ZJF (m:List (Int × Ln)) (y:Ln) (c:Int) (s:List Nat):List (Int × Ln):=m.zipIdx.map fun p=>if p.2∈s/\c∈p.1.2.1 then (p.1.1,ZFX p.1.2 y) else p.1
theorem ZCJ (m:List (Int × Ln)) (y:Ln) (c:Int) (s:List Nat) (j:Nat):(ZJF m y c s)[j]?=m[j]?.map fun p=>if j∈s/\c∈p.2.1 then (p.1,ZFX p.2 y) else p:=by
 unfold ZJF
 rw [List.getElem?_map,List.getElem?_zipIdx]
 cases m[j]? <;> simp
theorem updS_nil (m:List (Int × Ln)) (y:Ln) (c:Int):ZJF m y c []=m:=by
 apply List.ext_getElem?
 intro j
 rw [ZCJ]
 cases m[j]? <;> simp
theorem updS_all {m:List (Int × Ln)} {y:Ln} {c:Int} {s:List Nat} (h:∀ j,j<m.length->j∈s):ZJF m y c s=ZGl m y c:=by
 apply List.ext_getElem?
 intro j
 rw [ZCJ]
 unfold ZGl
 rw [List.getElem?_map]
 by_cases hj:j<m.length
 ·rw [List.getElem?_eq_getElem hj]
  simp [h j hj]
 ·rw [List.getElem?_eq_none (by omega)];rfl
theorem updS_skip {m:List (Int × Ln)} {y:Ln} {c:Int} {s:List Nat} {j:Nat} {p:Int × Ln} (hp:m[j]?=some p) (hc:c∉p.2.1):ZJF m y c (s++[j])=ZJF m y c s:=by
 apply List.ext_getElem?
 intro i
 rw [ZCJ,ZCJ]
 by_cases hij:i=j
 ·subst hij
  rw [hp]
  simp [hc]
 ·cases m[i]? <;> simp [hij]
theorem updS_set {m:List (Int × Ln)} {y:Ln} {c:Int} {s:List Nat} {j:Nat} {p:Int × Ln} (hp:m[j]?=some p) (hc:c∈p.2.1):ZJF m y c (s++[j])=(ZJF m y c s).set j (p.1,ZFX p.2 y):=by
 apply List.ext_getElem?
 intro i
 rw [List.getElem?_set,ZCJ,ZCJ]
 by_cases hij:j=i
 ·subst hij
  have hjl:j<(ZJF m y c s).length:=by
   unfold ZJF
   rw [List.length_map,List.length_zipIdx]
   exact (List.getElem?_eq_some_iff.1 hp).1
  rw [if_pos rfl,if_pos hjl,hp]
  simp [hc]
 ·rw [if_neg hij]
  have:i≠j:=fun e=>hij e.symm
  cases m[i]? <;> simp [this]
theorem updS_here {m:List (Int × Ln)} {y:Ln} {c:Int} {s:List Nat} {j:Nat} (h:j∉s):(ZJF m y c s)[j]?=m[j]?:=by
 rw [ZCJ]
 cases m[j]? <;> simp [h]
theorem updS_len (m:List (Int × Ln)) (y:Ln) (c:Int) (s:List Nat):(ZJF m y c s).length=m.length:=by
 unfold ZJF
 rw [List.length_map,List.length_zipIdx]
theorem updS_keys (m:List (Int × Ln)) (y:Ln) (c:Int) (s:List Nat):(ZJF m y c s).map (·.1)=m.map (·.1):=by
 apply List.ext_getElem?
 intro j
 rw [List.getElem?_map,List.getElem?_map,ZCJ]
 cases m[j]? with
 | none=>rfl
 | some p=>simp only [Option.map_some];split <;> rfl
end
end Go.Proofs.YtokmalofdapffaaGreat.L05
