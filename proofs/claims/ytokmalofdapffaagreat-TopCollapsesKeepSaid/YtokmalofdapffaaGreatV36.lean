/- Part 36: walks by contracts, and plain laws. -/
import Derived.Test.YtokmalofdapffaaGreatV35
set_option linter.unusedVariables false
set_option linter.unusedSimpArgs false
set_option linter.unusedSectionVars false
set_option maxRecDepth 100000
set_option maxHeartbeats 4000000
namespace Go.Proofs.YtokmalofdapffaaGreat
section
open Go.RowKit
open L05 (Ln ZFr PInv Good05)
section
variable {P:Program} {ops:Array Oper} {hp:List HObj} {fr:List Dat} {dst:Option Tmp} {ty:TypeId} {ps:String} {af:Array Edge} {g:Option (Nat × Bool)}
theorem ZOz {x:Operand} {n:Int} (hx:OpD fr x (dI n)):SY Tryz.prog ops hp ⟨dst,.build 66 #[(0,x)],ty,ps,af,g⟩ fr (ZKR [dI n,dX (.slice none 0 0)]):=SY.val fun {I w a} ho=>by
 have h1:a.eval x = .int .i64 n:=hx.get (by simp [Op.operands]) ho
 have hm:∀ w,(Instr.build 66 #[(0,.int .i64 n)]).run Tryz.prog w = .ok (.agg #[.int .i64 n,.slice none 0 0]) w:=by intro w;go_simp
 refine ⟨.agg #[.int .i64 n,.slice none 0 0],?_,[.int .i64 n,.slice none 0 0],rfl,rfl,fun c hc=>?_,fun k c e hc he=>?_⟩
 ·unfold execOp
  simp only [List.map_toArray,List.map_cons,List.map_nil,h1,Sem.run_bind,hm,Result.andThen_ok,Sem.run_pure]
 ·simp at hc;rcases hc with rfl|rfl <;> rfl
 ·match k,hc,he with
  | 0,hc,he=>cases hc;cases he;rfl
  | 1,hc,he=>cases hc;cases he;rfl
theorem ZE4 {n:Nat} {x i:Operand} {t e:TypeId} {z:Value} {bytes:Nat} {ag:Bool} (E:ElT P t e n z bytes ag) {α:Type} {R:Rel α} {_gR:Good R} {xs:List α} {k:Nat} {v:α} (hk:k<xs.length) (hv:xs[k]=v) (hx:OpD fr x (dS (ArrK n R) xs)) (hi:OpD fr i (dI (k:Int))) :
  SY P ops hp ⟨dst,.indexAddr t x i,ty,ps,af,g⟩ fr (dP n true (dS R v)):=hv ▸ ZA5 E hx hi hk
end



set_option maxHeartbeats 16000000 in
theorem ZPg (C:Nat) (rows:List (List Int)) (hC:C≤4096) (hn:rows.length≤4096) (h1:L05.AllAsc rows) (h2:∀ r∈rows,L05.Low (C:Int) r) (h3:∀ r∈rows,L05.Pos r) :
  Fn Tryz.prog 62 [dS Mat ((C:Int),rows)] (dT [dS Mat ((C:Int),(ZFr (L05.echP rows C).1 C).map (·.1)),dI 0]):=by
 have hrl:∀ r∈rows,r.length≤C:=fun r hr=>ZB1 (n:=C) (h1 r hr) fun v hv=>⟨h3 r hr v hv,h2 r hr v hv⟩
 have hck:=ZMv (C:Int) rows (by omega) (by omega) fun r hr=>⟨⟨h1 r hr,fun v hv=>⟨h3 r hr v hv,h2 r hr v hv⟩⟩,by have:=hrl r hr;omega⟩
 have hech:=ZRd C rows hC hn h1 h2 h3
 have hol:(ZFr (L05.echP rows C).1 C).length≤C:=by
  unfold ZFr
  exact Nat.le_trans (List.length_filterMap_le ..) (by simp)
 generalize ZFr (L05.echP rows C).1 C=ls at hech hol ⊢
 refine ZCS ZJ0 Tryz.func62 rfl rfl ?_
 -- @kinds matrix.Echelon
 simp only [Tryz.ntmps62,List.length_cons,List.length_nil,Nat.reduceAdd,Nat.reduceSub,List.replicate_succ,List.replicate_zero,List.cons_append,List.nil_append]
 (repeat' (first|(apply WL.opN;exact yF;dsimp only [ZB,z0,z1])|refine WL.nil ?_|refine ZA fun Kx hK=>?_|(refine hK _ _ ?_;clear hK)|refine WC.region ?_ |  (refine WL.alloc (dst:=some 2) ZRG (ZAa rfl rfl) fun b2=>?_;dsimp only [ZB,z0,z1]) |  (refine ZIH (dst:=some 5) (zs:=[.int .i64 0,.slice none 0 0]) ZRG (by decide) (by simp [Value.oneCell']) fun b5=>?_;dsimp only [ZB,z0,z1,List.map_cons,List.map_nil]) |  (refine ZFV ZJ0 (OpD.t rfl) (OpD.t rfl) rfl rfl ?_;dsimp only [ZB,z0,z1])|(apply WL.opN;(focus ((first|(exact SY.box (OpD.t rfl) Zy)|(apply SY.call (hck) Tryz.call89;(exact aD))|(apply SY.call (hech) Tryz.call90;(exact aD))|(apply ZE3 ZRx;exact OpD.t rfl)|(exact ZOz (OpD.t rfl))|((first|apply SY.move|apply SY.assign|apply SY.lss|apply SY.neq) <;> (exact oD))|(apply SY.len;(exact oD);(exact nD);(exact uD))|(apply SY.extract;(exact oD);rfl)|fail);all_goals infer_instance));dsimp only [ZB,z0,z1])|(apply WC.condN;(exact oD);all_goals (intro h;try exact xD))|refine WC.skip ?_|refine WC.block ?_))
 all_goals try (exfalso;first|contradiction|omega)
 refine ZB0 27 ZBk ?_
 (refine ZH (X:=Nat × Value) (fun x=>[(26,dI (x.1:Int)),(9,dA),(27,dA),(28,dA),(29,dA),(30,dA),(31,dA),(32,dA),(33,dA),(34,dA),(35,dA),(36,dA),(37,dA)]) (fun x=>([Zh x.2 27 ZBk ((ls.take x.1).map (·.1)),ZBd b5 66 [dI (C:Int),dX x.2],ZO b2 66 2 true (dX (.agg #[.int .i64 0,.slice none 0 0]))])) (fun x=>ls.length-x.1) (fun x=>x.1≤ls.length) (0,.slice none 0 0) ?start ?frame0 ?objs0 ?round)
 case start=>exact Nat.zero_le _
 case frame0=>((try dsimp only [ZQ,z0,z1]);repeat (first|exact LeF.nil|refine ZD (k:=?_)))
 case objs0=>rfl
 case round =>
  rintro ⟨k,v⟩ hk
  simp only at hk
  dsimp only [ZQ,z0,z1]
  by_cases hkl:k<ls.length
  ·have hkI:(k:Int)<(ls.length:Int):=by omega
   obtain ⟨y,hy⟩:∃ y,ls[k]=y:=⟨_,rfl⟩
   have hsn:(ls.take (k+1)).map (·.1)=(ls.take k).map (·.1)++[y.1]:=by rw [List.take_succ_eq_append_getElem hkl,List.map_append,hy];rfl
   have hll:((ls.take k).map (·.1)).length=k:=by rw [List.length_map,List.length_take];omega
   have h24:(((ls.take k).map (·.1)).length+1)*24≤140737488355328:=by omega
   ((repeat' (first|(apply WL.opN;exact yF;dsimp only [ZB,z0,z1])|refine WL.nil ?_|refine ZA fun Kx hK=>?_|(refine hK _ _ ?_;clear hK)|refine WC.region ?_ |  (refine WL.alloc (dst:=some 9) ZQl (ZAa rfl rfl) fun b9=>?_;dsimp only [ZB,z0,z1]) |  (refine ZI ZLD rfl (OpD.t rfl) Zy ?_;dsimp only [ZB,z0,z1]) |  (refine Zv ZHw (R:=ZBk) (_gR:=inferInstance) (OpD.t rfl) (OpD.t rfl) (fun _=>ZAh) (by simp) (by simp) (by decide) h24 fun v'=>?_;dsimp only [ZB,z0,z1]) |  (refine ZKE (mAt 0 rfl) fun hone=>ZEP (SW.at 1 rfl fun q=>SW.storeS ZTJ (OpD.t rfl) (OpD.t rfl) (ZZ hone) (by simp)) fun _=>?_;dsimp only [ZB,z0,z1])|(apply WL.opN;(focus ((first|(exact ZE4 (R:=LnR) (_gR:=inferInstance) ZOk hkl hy (OpD.t rfl) (OpD.t rfl))|(refine ZC0 ZTG (OpD.t rfl) (by decide))|(refine ZCE ZTJ (OpD.t rfl) (mAt 1 rfl) rfl)|(apply Zc lnT;exact OpD.t rfl)|((first|apply SY.move|apply SY.assign|apply SY.lss|apply SY.neq) <;> (exact oD))|((first|apply SY.add) <;> first|exact oD|omega)|(apply Zc lnT;exact OpD.t rfl)|(apply Zm lnT;exact OpD.t rfl)|fail);all_goals infer_instance));dsimp only [ZB,z0,z1])|(apply WC.condD;(exact oD);all_goals (intro h;try exact xD))|refine WC.skip ?_|refine WC.block ?_|refine ThenD.n ?_));all_goals (first|((repeat clear hK);(repeat clear Kx))))
   all_goals try (exfalso;first|contradiction|omega)
   rw [<- hsn]
   (refine ⟨(k+1,_),?_,by first|omega|(simp only;omega),rfl,?_⟩;rotate_left;((try dsimp only [ZQ,z0,z1]);repeat (first|exact LeF.nil|refine ZD (k:=?_)));(try dsimp only))
   exact hkl
  ·have hkI:¬ (k:Int)<(ls.length:Int):=by omega
   obtain rfl:k=ls.length:=by omega
   rw [List.take_length]
   refine WC.perm (List.Perm.swap _ _ _) (ZO4 (k:=1) rfl ?_)
   dsimp only [z0,z1]
   ((repeat' (first|(apply WL.opN;exact yF;dsimp only [ZB,z0,z1])|refine WL.nil ?_|refine ZA fun Kx hK=>?_|(refine hK _ _ ?_;clear hK)|(refine Kont.skip ?_;clear hK)|refine WC.region ?_ |  (refine ZAe ZJ0 rfl (OpD.tle rfl ZG2) Zy ?_;dsimp only [ZB,z0,z1])|(apply WL.opN;(focus ((first|(refine ZGv ZJ0 (OpD.t rfl) (mAt 0 rfl) (by decide) rfl)|((first|apply SY.move|apply SY.assign|apply SY.lss|apply SY.neq) <;> (exact oD))|fail);all_goals infer_instance));dsimp only [ZB,z0,z1])|(apply WC.condD;(exact oD);all_goals (intro h;try exact xD))|refine WC.ret ?_|refine WC.exit ?_));all_goals (first|((repeat clear hK);(repeat clear Kx))))
   all_goals try (exfalso;first|contradiction|omega)
   exact ⟨trivial,⟨_,rfl,FinD.le (Dat.le_refl _)⟩,_,rfl,FinD.le (Dat.le_refl _)⟩
theorem ZQR (C:Nat) (rows:List (List Int)) (hC:C≤4096) (hn:rows.length≤4096) (h1:L05.AllAsc rows) (h2:∀ r∈rows,L05.Low (C:Int) r) (h3:∀ r∈rows,L05.Pos r) :
  Fn Tryz.prog 33 [dS Mat ((C:Int),rows)] (dT [dI ((ZFr (L05.echP rows C).1 C).length:Int),dI 0]):=by
 have hE:=ZPg C rows hC hn h1 h2 h3
 generalize ZFr (L05.echP rows C).1 C=ls at hE ⊢
 (refine Z7 Tryz.func33 rfl rfl ?_;simp only [Tryz.ntmps33,List.length_cons,List.length_nil,Nat.reduceAdd,Nat.reduceSub,List.replicate_succ,List.replicate_zero,List.cons_append,List.nil_append])
 ((repeat' (first|(apply WL.opN;exact yF;dsimp only [ZB,z0,z1])|refine WL.nil ?_|refine ZA fun Kx hK=>?_|(refine hK _ _ ?_;clear hK)|refine WC.region ?_ |  (refine WL.alloc (dst:=some 4) ZRG (ZAa rfl rfl) fun b4=>?_;dsimp only [ZB,z0,z1]) |  (refine ZI ZJ0 rfl (OpD.t rfl) Zy ?_;dsimp only [ZB,z0,z1])|(apply WL.opN;(focus ((first|(exact SY.box (OpD.t rfl) Zy)|(apply SY.call (hE) Tryz.call62;(exact aD))|(apply ZGt ZRx;exact OpD.t rfl)|(apply SY.len;exact OpD.t rfl;exact ZJn;exact ZHw.unt)|(apply SY.extract;(exact oD);rfl)|fail);all_goals infer_instance));dsimp only [ZB,z0,z1])|refine WC.ret ?_));all_goals (first|((repeat clear hK);(repeat clear Kx))))
 all_goals try (exfalso;first|contradiction|omega)
 (refine ⟨trivial,⟨_,rfl,?_⟩,_,rfl,?_⟩ <;> (first|exact fD|refine FinD.i ?_))
 all_goals simp
end
section
def ZOK (s t:List Vx):Bool:=decide (0<(ZDE s t true).length)
theorem ZOL {s t:List Vx}:ZOK s t=true↔∃ v,v∈s/\v∈t:=by
 unfold ZOK ZDE
 rw [decide_eq_true_iff,List.length_pos_iff_exists_mem]
 constructor
 ·rintro ⟨v,hv⟩
  have:=List.mem_filter.1 hv
  exact ⟨v,this.1,by simpa using this.2⟩
 ·rintro ⟨v,h1,h2⟩
  exact ⟨v,List.mem_filter.2 ⟨h1,by simpa using h2⟩⟩
def ZOn (l:Cx) (i:Nat):List Int:=l.map fun s=>if ZDc l s∈ZBl ((ZDi l).take i) then (numC l s:Int) else -1
def ZHa (l:Cx) (i:Nat):Nat:=(ZBl ((ZDi l).take i)).length
theorem ZHc (l:Cx) (i:Nat):(ZOn l i).length=l.length:=by simp [ZOn]
theorem ZR5 {l:Cx} {i t:Nat} (h:t<l.length) (h':t<(ZOn l i).length):(ZOn l i)[t]=if ZDc l l[t]∈ZBl ((ZDi l).take i) then (numC l l[t]:Int) else -1:=by simp [ZOn]
theorem ZLl {l:Cx} {i:Nat} {s:List Vx} (h:ZDc l s∈ZBl ((ZDi l).take i)):numC l s<ZHa l i:=by
 obtain ⟨t,ht⟩:=ZPf ((ZDi l).take i) ((ZDi l).drop i)
 rw [List.take_append_drop] at ht
 unfold numC ZHa
 rw [ht,ZJk h]
 exact ZSu h
structure Mid (l:Cx) (i:Nat) (o:List Int):Prop where
 len:o.length=l.length
 each:∀ (t:Nat) (h:t<l.length) (h':t<o.length),o[t]=(ZOn l i)[t]'(by rw [ZHc];exact h)\/(o[t]=(ZHa l i:Int)/\∃ hi:i<l.length,ZDc l l[t]=ZDc l l[i])
 own:∀ (h':i<o.length),o[i]=(ZHa l i:Int)
theorem ZR6 {l:Cx} {i t:Nat} (h:t<l.length) (h':t<(ZOn l i).length):(ZOn l i)[t]<(ZHa l i:Int) /\ -1≤(ZOn l i)[t]:=by
 rw [ZR5 h]
 by_cases h1:ZDc l l[t]∈ZBl ((ZDi l).take i)
 ·rw [if_pos h1]
  have:=ZLl h1
  omega
 ·rw [if_neg h1];omega
theorem Mid.start {l:Cx} {i:Nat} (h:i<l.length):Mid l i ((ZOn l i).set i (ZHa l i:Int)) :=
 ⟨by rw [List.length_set,ZHc],fun t h1 h2=>by
  rw [List.getElem_set]
  by_cases hit:i=t
  ·subst hit;rw [if_pos rfl];exact .inr ⟨rfl,h,rfl⟩
  ·rw [if_neg hit];exact .inl rfl,fun h'=>by rw [List.getElem_set,if_pos rfl]⟩
theorem Mid.root {l:Cx} {i:Nat} {o:List Int} (M:Mid l i o) {t:Nat} (h:t<l.length) (h':t<o.length) (hi:i<l.length) (ho:o[t]=(ZHa l i:Int)):ZDc l l[t]=ZDc l l[i]:=by
 rcases M.each t h h' with h1|⟨_,_,h2⟩
 ·have:=(ZR6 (i:=i) h (by rw [ZHc];exact h)).1
  omega
 ·exact h2
theorem Mid.set {l:Cx} {i:Nat} {o:List Int} (M:Mid l i o) (hi:i<l.length) {j k:Nat} (hj:j<l.length) (hk:k<l.length) (hk':k<o.length) (ho:o[k]=(ZHa l i:Int)) (hs:ZOK l[j] l[k]=true):Mid l i (o.set j (ZHa l i:Int)) :=
 ⟨by rw [List.length_set,M.len],fun t h1 h2=>by
  have h2':t<o.length:=by simpa using h2
  rw [List.getElem_set]
  by_cases hjt:j=t
  ·subst hjt
   rw [if_pos rfl]
   obtain ⟨v,v1,v2⟩:=ZOL.1 hs
   refine .inr ⟨rfl,hi,?_⟩
   rw [ZJx (List.getElem_mem hj) (List.getElem_mem hk) v1 v2]
   exact M.root hk hk' hi ho
  ·rw [if_neg hjt];exact M.each t h1 h2',fun h'=>by
  rw [List.getElem_set]
  by_cases hji:j=i
  ·rw [if_pos hji]
  ·rw [if_neg hji];exact M.own _⟩
end
section
open Go.RowKit

def ZSC (l:Cx):Nat:=(l.map fun s=>2 ^ s.length).sum
def ZLf (l:Cx):List Cl × Int:=if ZA8 l≠0 then ([],ZA8 l) else (Zq l,0)
def ZDF (l:Cx) (x:Cl):Cx × Int:=if ZA8 l≠0 then ([],ZA8 l) else if ZAL x.1≠0 then ([],ZAL x.1) else if ZAL x.2≠0 then ([],ZAL x.2) else if x∉Zq l then ([],6) else if 4096<(ZAC l x).length then ([],5) else (ZAC l x,0)
end
section
def ZSH (s:List Vx):Cx:=(List.range 8).flatMap fun k=>ZX (k+1) s
theorem ZLU:∀ n≤8,((List.range 8).map fun k=>ZEV n (k+1)).sum≤2 ^ n:=by decide
theorem ZKq {α:Type} (f:α->Cx):∀ l:List α,(l.flatMap f).length=(l.map fun s=>(f s).length).sum
 | []=>rfl
 | s::l=>by rw [List.flatMap_cons,List.length_append,ZKq f l,List.map_cons,List.sum_cons]
theorem ZOW {s:List Vx} (h:s.length≤8):(ZSH s).length≤2 ^ s.length:=by
 unfold ZSH
 rw [ZKq]
 have e:(List.range 8).map (fun k=>(ZX (k+1) s).length)=(List.range 8).map fun k=>ZEV s.length (k+1):=List.map_congr_left fun k _=>ZCo s (k+1)
 rw [e]
 exact ZLU _ h
theorem ZKe:∀ {l:Cx},(∀ s∈l,s.length≤8)->(l.flatMap ZSH).length≤ZSC l
 | [],_=>Nat.le_refl _
 | s::l,h=>by
  have h1:=ZOW (h s (List.mem_cons_self ..))
  have h2:=ZKe (l:=l) fun t ht=>h t (List.mem_cons_of_mem _ ht)
  have e:ZSC (s::l)=2 ^ s.length+ZSC l:=by unfold ZSC;rw [List.map_cons,List.sum_cons]
  rw [List.flatMap_cons,List.length_append,e]
  omega
theorem ZOd {l:Cx} (hl:∀ s∈l,ZAL s=0):Zz l 8≤ZSC l:=by
 rw [<- ZFz]
 refine Nat.le_trans (List.Nodup.length_le_of_subset (ZJE (fun s hs=>(Zk.1 (hl s hs)).2.2.2) 8) fun x hx=>?_) (ZKe fun s hs=>(Zf (hl s hs)).2)
 obtain ⟨j,h1,h2,h3⟩:=ZHs.1 hx
 obtain ⟨f,hf,hm⟩:=ZAr.1 h3
 refine List.mem_flatMap.2 ⟨f,hf,List.mem_flatMap.2 ⟨j-1,List.mem_range.2 (by omega),?_⟩⟩
 rw [show j-1+1=j by omega]
 exact hm
end
section
open Go.RowKit

def ZOA (l:Cx):Cx × List Cl × Int:=if ZA8 l≠0 then ([],[],ZA8 l) else if 4096<Zz l 8 then ([],[],17) else ((ZAV l).1,(ZAV l).2,0)
def ZBP (c:Cx):List Cl->Option Cx
 | []=>some c
 | x::m=>if x∈Zq c then ZBP (ZAC c x) m else none
def ZOZ (l:Cx) (m:List Cl) (d:Cx):Int:=if ZA8 l≠0 then ZA8 l else if ZA8 d≠0 then ZA8 d else if 4096<m.length then 5 else if ZBP l m=some d then 0 else 18
end
section
theorem ZNf {α β:Type} [DecidableEq β] (R:α->β->Prop):∀ {A:List α} {B:List β},A.Nodup->(∀ a∈A,∃ b∈B,R a b)->(∀ a∈A,∀ a'∈A,∀ b,R a b->R a' b->a=a')->A.length≤B.length
 | [],_,_,_,_=>Nat.zero_le _
 | a::A,B,hn,h1,h2=>by
  rw [List.nodup_cons] at hn
  obtain ⟨b,hb,hr⟩:=h1 a (List.mem_cons_self ..)
  have h:=ZNf R (A:=A) (B:=B.erase b) hn.2 (fun a' ha'=>by
   obtain ⟨b',hb',hr'⟩:=h1 a' (List.mem_cons_of_mem _ ha')
   refine ⟨b',(List.mem_erase_of_ne fun e=>?_).2 hb',hr'⟩
   subst e
   have:=h2 a (List.mem_cons_self ..) a' (List.mem_cons_of_mem _ ha') _ hr hr'
   subst this
   exact hn.1 ha') (fun a' ha' a'' ha'' b'=>h2 a' (List.mem_cons_of_mem _ ha') a'' (List.mem_cons_of_mem _ ha'') b')
  have h3:=List.length_erase_of_mem hb
  have h4:=List.length_pos_of_mem hb
  rw [List.length_cons];omega
theorem ZKw {l m:Cx} (h:∀ s∈l,∃ v,(∃ t∈m,v∈t)/\(∃ t∈l,v∈t)/\ZCR (ufC l) v=ZDc l s)
  (k:∀ u v,(∃ t∈m,u∈t)->(∃ t∈l,u∈t)->(∃ t∈m,v∈t)->(∃ t∈l,v∈t)->Conn (ZGP m) u v->Conn (ZGP l) u v):ZEC l≤ZEC m:=by
 unfold ZEC
 refine ZNf (fun r r'=>∃ v,(∃ t∈m,v∈t)/\(∃ t∈l,v∈t)/\ZCR (ufC l) v=r/\ZCR (ufC m) v=r') (ZHF _).1 (fun r hr=>?_) fun r _ r' _ b ⟨v,v1,v2,v3,v4⟩ ⟨u,u1,u2,u3,u4⟩=>?_
 ·obtain ⟨s,hs,rfl⟩:=List.mem_map.1 (((ZHF _).2 r).1 hr)
  obtain ⟨v,⟨t,ht,hv⟩,h2,h3⟩:=h s hs
  exact ⟨ZDc m t,ZQW ht,v,⟨t,ht,hv⟩,h2,h3,ZGd ht hv⟩
 ·rw [<- v3,<- u3]
  exact (ZFA (ZGP l) _ _).2 (k v u v1 v2 u1 u2 ((ZFA (ZGP m) _ _).1 (v4.trans u4.symm)))
theorem ZHD {m:Cx} {t:List Vx} (h:ZFm m t=true) {a b:Vx} (ha:a∈t) (hb:b∈t):Conn (ZGP m) a b:=by
 obtain ⟨f,hf,hi⟩:=ZA1.1 h
 exact (ZFA (ZGP m) _ _).1 ((ZGd hf (Z3.1 hi a ha)).trans (ZGd hf (Z3.1 hi b hb)).symm)
theorem ZG5 (a:Vx):Asc [a]:=List.pairwise_singleton _ _
theorem ZHN {l:Cx} {f:List Vx} (hf:f∈l):ZFm l f=true:=ZA1.2 ⟨f,hf,ZCm f⟩
section
variable {l:Cx} (G:GoodX l) {x:Cl} (hx:PairOk l x)
include G hx
theorem ZNw:∃ y,y∈x.2/\y∉x.1:=by
 refine Classical.byContradiction fun hn=>?_
 have hs:∀ v∈x.2,v∈x.1:=fun v hv=>Classical.byContradiction fun h=>hn ⟨v,hv,h⟩
 have:=List.Nodup.length_le_of_subset (ZGL (G.asc _ hx.mem)) hs
 have:=hx.len
 omega
theorem ZQE {f:List Vx} (hf:f∈l) (hne:f≠x.2):f≠x.1:=fun e=>hne (hx.one f hf (by rw [e];exact ZCm _))
theorem ZP2 {f:List Vx} (hf:f∈l) (hne:f≠x.2):ZFm (ZAC l x) f=true:=(ZDT G hx (G.asc f hf)).2 ⟨ZHN hf,ZQE G hx hf hne,hne⟩
theorem ZQk {y:Vx} (hy:y∈x.2) (hn:y∉x.1) {a:Vx} (ha:a∈x.2) (h1:[a]≠x.1):Conn (ZGP (ZAC l x)) a y:=by
 by_cases e:a=y
 ·subst e;exact .refl _
 have hasc:Asc (ZOj [a] [y]):=ZG3 (ZG5 a)
 have hl:(ZOj [a] [y]).length=2:=ZP6 (ZG5 a) (ZG5 y) fun v hv h=>e (by rw [List.mem_singleton] at hv h;rw [<- hv,<- h])
 have hm:∀ v,v∈ZOj [a] [y]↔v=a\/v=y:=fun v=>by rw [ZFH,List.mem_singleton,List.mem_singleton]
 refine ZHD (t:=ZOj [a] [y]) ((ZDT G hx hasc).2 ⟨ZA1.2 ⟨x.2,hx.mem,Z3.2 fun v hv=>?_⟩,fun q=>hn (by rw [<- q];exact (hm y).2 (.inr rfl)),fun q=>?_⟩) ((hm a).2 (.inl rfl)) ((hm y).2 (.inr rfl))
 ·rcases (hm v).1 hv with rfl|rfl
  ·exact ha
  ·exact hy
 ·have ln:=hx.len
  rw [<- q,hl] at ln
  obtain ⟨z,hz⟩:=List.length_eq_one_iff.1 (show x.1.length=1 by omega)
  have hzm:z∈x.2:=hx.sub.subset (by rw [hz];exact List.mem_singleton_self z)
  rw [<- q] at hzm
  rcases (hm z).1 hzm with rfl|rfl
  ·exact h1 hz.symm
  ·exact hn (by rw [hz];exact List.mem_singleton_self z)
theorem ZP4 {s:List Vx} (hs:s∈ZAC l x):∃ f∈l,Zb s f=true:=by
 have h:=((ZDT G hx ((Zk.1 (ZFE G hx s hs)).2.2.2)).1 (ZHN hs)).1
 exact ZA1.1 h
theorem ZD9 {v:Vx}:(∃ t∈ZAC l x,v∈t)↔(∃ t∈l,v∈t)/\[v]≠x.1:=by
 have ln:=hx.len
 have p1:=Zf hx.chk1
 have key:=ZDT G hx (t:=[v]) (ZG5 v)
 have hp:∀ m:Cx,ZFm m [v]=true↔∃ t∈m,v∈t:=fun m=>by
  rw [ZA1]
  constructor
  ·rintro ⟨f,hf,hi⟩;exact ⟨f,hf,Z3.1 hi v (List.mem_singleton_self v)⟩
  ·rintro ⟨f,hf,hi⟩;exact ⟨f,hf,Z3.2 fun u hu=>by rw [List.mem_singleton.1 hu];exact hi⟩
 rw [hp,hp] at key
 rw [key]
 constructor
 ·rintro ⟨h1,h2,_⟩;exact ⟨h1,h2⟩
 ·rintro ⟨h1,h2⟩;exact ⟨h1,h2,fun e=>by rw [<- e,List.length_singleton] at ln;omega⟩
theorem ZLh:ZEC (ZAC l x)=ZEC l:=by
 obtain ⟨y,hy,hn⟩:=ZNw G hx
 have hyl:∃ t∈l,y∈t:=⟨x.2,hx.mem,hy⟩
 have hy1:[y]≠x.1:=fun e=>hn (by rw [<- e];exact List.mem_singleton_self y)
 have hcl:∀ u v,Conn (ZGP (ZAC l x)) u v->Conn (ZGP l) u v:=fun u v h=>by
  have hedge:∀ a b,(a,b)∈ZGP (ZAC l x)->Conn (ZGP l) a b:=fun a b hab=>by
   obtain ⟨f,hf,h1,h2⟩:=ZHG.1 hab
   obtain ⟨g,hg,hi⟩:=ZP4 G hx hf
   have hb:b∈f:=List.mem_of_mem_drop h2
   have ha:a∈f:=by rw [show a=hdV f from h1];exact ZKh (List.length_pos_of_mem hb)
   exact ZHD (t:=g) (ZHN hg) (Z3.1 hi a ha) (Z3.1 hi b hb)
  induction h with
  | refl=>exact .refl _
  | step _ e ih=>exact ih.trans (e.elim (hedge _ _) fun e=>(hedge _ _ e).symm)
 let p:Vx->Vx:=fun a=>if [a]=x.1 then y else a
 have hp1:∀ a,[a]≠x.1->p a=a:=fun a h=>if_neg h
 have hpt:∀ a∈x.2,Conn (ZGP (ZAC l x)) (p a) y:=fun a ha=>by
  by_cases h:[a]=x.1
  ·have:p a=y:=if_pos h
   rw [this];exact .refl _
  ·rw [hp1 a h];exact ZQk G hx hy hn ha h
 have hpe:∀ a b,(a,b)∈ZGP l->Conn (ZGP (ZAC l x)) (p a) (p b):=fun a b hab=>by
  obtain ⟨f,hf,h1,h2⟩:=ZHG.1 hab
  have hb:b∈f:=List.mem_of_mem_drop h2
  have ha:a∈f:=by rw [show a=hdV f from h1];exact ZKh (List.length_pos_of_mem hb)
  by_cases hfx:f=x.2
  ·subst hfx;exact (hpt a ha).trans (hpt b hb).symm
  ·have hno:∀ c∈f,[c]≠x.1:=fun c hc e=>hfx (hx.one f hf (by rw [<- e];exact Z3.2 fun u hu=>by rw [List.mem_singleton.1 hu];exact hc))
   rw [hp1 a (hno a ha),hp1 b (hno b hb)]
   exact ZHD (ZP2 G hx hf hfx) ha hb
 have hlc:∀ u v,Conn (ZGP l) u v->Conn (ZGP (ZAC l x)) (p u) (p v):=fun u v h=>by
  induction h with
  | refl=>exact .refl _
  | step _ e ih=>exact ih.trans (e.elim (hpe _ _) fun e=>(hpe _ _ e).symm)
 refine Nat.le_antisymm (ZKw (fun s hs=>?_) fun u v u1 u2 v1 v2 h=>?_) (ZKw (fun s hs=>?_) fun u v u1 u2 v1 v2 h=>hcl u v h)
 ·have hm:=ZKh (Zf (ZFE G hx s hs)).1
  have h2:∃ t∈ZAC l x,hdV s∈t:=⟨s,hs,hm⟩
  exact ⟨hdV s,((ZD9 G hx).1 h2).1,h2,rfl⟩
 ·have:=hlc u v h
  rwa [hp1 u ((ZD9 G hx).1 u2).2,hp1 v ((ZD9 G hx).1 v2).2] at this
 ·by_cases hsx:s=x.2
  ·subst hsx
   exact ⟨y,(ZD9 G hx).2 ⟨hyl,hy1⟩,hyl,ZGd hx.mem hy⟩
  ·have hm:=ZKh (Zf (G.2.2.1 s hs)).1
   have h2:∃ t∈l,hdV s∈t:=⟨s,hs,hm⟩
   exact ⟨hdV s,(ZD9 G hx).2 ⟨h2,fun e=>hsx (hx.one s hs (by rw [<- e];exact Z3.2 fun u hu=>by rw [List.mem_singleton.1 hu];exact hm))⟩,h2,rfl⟩
end
end
section
def ZOo (k:Nat):Int:=if k % 2=1 then 1 else -1
theorem ZQa (k:Nat):ZOo k=1\/ZOo k = -1:=by unfold ZOo;split;exact .inl rfl;exact .inr rfl
theorem ZOI (k:Nat):ZOo (k+1) = - ZOo k:=by
 unfold ZOo
 by_cases h:k % 2=1
 ·rw [if_neg (by omega),if_pos h]
 ·rw [if_pos (by omega),if_neg h];rfl
theorem ZKW (l:Cx) (k:Nat):ZEs l (k+1)=ZEs l k+ZOo (k+1)*((Zs l (k+1)).length:Int):=by
 show (if (k+1) % 2=1 then _ else _)=_
 unfold ZOo
 by_cases h:(k+1) % 2=1
 ·rw [if_pos h,if_pos h];omega
 ·rw [if_neg h,if_neg h];omega
section
variable {l:Cx} (G:GoodX l) {x:Cl} (hx:PairOk l x)
include G hx
theorem ZKn:∀ n,ZEs (ZAC l x) n+(if x.1.length≤n then ZOo x.1.length else 0)+(if x.2.length≤n then ZOo x.2.length else 0)=ZEs l n
 | 0=>by
  have h1:=Zf hx.chk1
  have h2:=Zf hx.chk2
  rw [if_neg (by omega),if_neg (by omega)]
  rfl
 | n+1=>by
  have h:=ZKn n
  have k:=ZHT G hx (n+1)
  have ln:=hx.len
  rw [ZKW,ZKW]
  have hs:=ZQa (n+1)
  by_cases a:n+1=x.1.length
  ·rw [if_pos a,if_neg (by omega)] at k
   rw [if_neg (by omega),if_neg (by omega)] at h
   rw [if_pos (by omega),if_neg (by omega),<- a]
   rcases hs with hs|hs <;> rw [hs] <;> omega
  ·by_cases b:n+1=x.2.length
   ·rw [if_neg a,if_pos b] at k
    rw [if_pos (by omega),if_neg (by omega)] at h
    rw [if_pos (by omega),if_pos (by omega),<- b]
    rcases hs with hs|hs <;> rw [hs] <;> omega
   ·rw [if_neg a,if_neg b] at k
    by_cases c:x.1.length≤n
    ·rw [if_pos c,if_pos (by omega)] at h
     rw [if_pos (by omega),if_pos (by omega)]
     rcases hs with hs|hs <;> rw [hs] <;> omega
    ·rw [if_neg c,if_neg (by omega)] at h
     rw [if_neg (by omega),if_neg (by omega)]
     rcases hs with hs|hs <;> rw [hs] <;> omega
theorem ZNe:ZEs (ZAC l x) 8=ZEs l 8:=by
 have h:=ZKn G hx 8
 rw [if_pos (Zf hx.chk1).2,if_pos (Zf hx.chk2).2,<- hx.len,ZOI] at h
 omega
end
theorem ZIh {l:Cx} (G:GoodX l) (hw:Zz l 8≤4096):ZKV l=(ZEs l 8,0):=by
 unfold ZKV
 rw [Zr.2 G,if_neg (by omega:¬ (0:Int)≠0),if_neg]
 intro hc
 rw [List.any_eq_true] at hc
 obtain ⟨k,hk,h2⟩:=hc
 have h3:=of_decide_eq_true h2
 have h4:∀ n,k<n->(Zs l (k+1)).length≤Zz l n:=fun n=>by
  induction n with
  | zero=>intro h;omega
  | succ n ih =>
   intro h
   rw [ZA3]
   by_cases e:k=n
   ·subst e;omega
   ·have:=ih (by omega);omega
 have:=h4 8 (List.mem_range.1 hk)
 omega
theorem ZGg:∀ {m:List Cl} {c d:Cx},ZBP c m=some d->GoodX c->Zz c 8≤4098->GoodX d/\Zz d 8+2*m.length=Zz c 8/\ZEC d=ZEC c/\ZEs d 8=ZEs c 8
 | [],c,d,h,G,hw=>by
  cases h
  exact ⟨G,rfl,rfl,rfl⟩
 | x::m,c,d,h,G,hw=>by
  have h':(if x∈Zq c then ZBP (ZAC c x) m else none)=some d:=h
  by_cases hm:x∈Zq c
  ·rw [if_pos hm] at h'
   have hx:=ZBU G hm
   have h2:=ZCG G hx
   obtain ⟨k1,k2,k3,k4⟩:=ZGg h' (ZBf G hx hw) (by omega)
   exact ⟨k1,by rw [List.length_cons];omega,k3.trans (ZLh G hx),k4.trans (ZNe G hx)⟩
  ·rw [if_neg hm] at h';cases h'
theorem ZGb:∀ (n:Nat) {c:Cx},GoodX c->Zz c 8≤4098->ZBP c (ZJN n c).2=some (ZJN n c).1
 | 0,c,_,_=>rfl
 | n+1,c,G,hw=>by
  cases hp:Zq c with
  | nil=>rw [ZHg hp];rfl
  | cons x t =>
   have hm:x∈Zq c:=by rw [hp];exact List.mem_cons_self ..
   have hx:=ZBU G hm
   have h2:=ZCG G hx
   rw [ZFu hp]
   show (if x∈Zq c then ZBP (ZAC c x) _ else none)=_
   rw [if_pos hm]
   exact ZGb n (ZBf G hx hw) (by omega)
theorem ZI2:∀ (n:Nat) {c:Cx},GoodX c->Zz c 8≤n->n≤4098->Zq (ZJN n c).1=[]
 | 0,c,G,h,_=>by
  have h1:=ZIi G.2.1 G.2.2.1
  have:c=[]:=List.eq_nil_of_length_eq_zero (by omega)
  subst this;rfl
 | n+1,c,G,h,h9=>by
  cases hp:Zq c with
  | nil=>rw [ZHg hp];exact hp
  | cons x t =>
   have hm:x∈Zq c:=by rw [hp];exact List.mem_cons_self ..
   have hx:=ZBU G hm
   have h2:=ZCG G hx
   rw [ZFu hp]
   exact ZI2 n (ZBf G hx (by omega)) (by omega) (by omega)
structure RedOk (c d:Cx) (m:List Cl):Prop where
 ends:Zq d=[]
 steps:ZBP c m=some d
 good:GoodX d
 whole:Zz d 8+2*m.length=Zz c 8
 parts:ZEC d=ZEC c
 eul:ZEs d 8=ZEs c 8
theorem ZQ9 {c:Cx} (G:GoodX c) (hw:Zz c 8≤4096):RedOk c (ZAV c).1 (ZAV c).2:=by
 have h:=ZGb 4096 G (by omega)
 obtain ⟨h1,h2,h3,h4⟩:=ZGg h G (by omega)
 exact ⟨ZI2 4096 G hw (by omega),h,h1,h2,h3,h4⟩
theorem ZSK {c d:Cx} {m:List Cl} (hc:GoodX c) (hd:GoodX d) (hm:m.length≤4096) (h:ZBP c m=some d):ZOZ c m d=0:=by
 unfold ZOZ
 rw [if_neg (by rw [Zr.2 hc];omega),if_neg (by rw [Zr.2 hd];omega),if_neg (by omega),if_pos h]
end
section
def ZAj (l:List Int):List Int:=(l.reverse.dropWhile fun x=>decide (x=0)).reverse
theorem ZGh (l:List Int):ZAj (l++[0])=ZAj l:=by
 unfold ZAj
 rw [List.reverse_append,List.reverse_singleton,List.singleton_append,List.dropWhile_cons,if_pos (by simp)]
theorem ZLs {l:List Int} {x:Int} (h:x≠0):ZAj (l++[x])=l++[x]:=by
 unfold ZAj
 rw [List.reverse_append,List.reverse_singleton,List.singleton_append,List.dropWhile_cons,if_neg (by simpa using h),List.reverse_cons,List.reverse_reverse]
theorem ZHn {f:Nat->Int} {n:Nat} (h:∀ i,n≤i->f i=0):∀ k,ZAj ((List.range (n+k)).map f)=ZAj ((List.range n).map f)
 | 0=>rfl
 | k+1=>by
  rw [<- Nat.add_assoc,List.range_succ,List.map_append,List.map_singleton,h (n+k) (by omega),ZGh,ZHn h k]
theorem ZLt {f g:Nat->Int} (h:∀ i,f i=g i) {n m:Nat} (hn:∀ i,n≤i->f i=0) (hm:∀ i,m≤i->g i=0):ZAj ((List.range n).map f)=ZAj ((List.range m).map g):=by
 obtain rfl:f=g:=funext h
 by_cases hnm:n≤m
 ·have:=ZHn hn (m-n)
  rw [Nat.add_sub_cancel' hnm] at this
  exact this.symm
 ·have:=ZHn hm (n-m)
  rw [Nat.add_sub_cancel' (by omega)] at this
  exact this
def ZF7 (l:Cx):List Int:=(List.range (ZF9 l+1).toNat).map (ZF6 l)
theorem ZRt {l:Cx}:∀ s∈l,(s.length:Int)-1≤ZF9 l:=by
 have go:∀ (l:Cx) (m:Int),m≤l.foldl (fun m s=>if m<(s.length:Int)-1 then (s.length:Int)-1 else m) m/\∀ s∈l,(s.length:Int)-1≤l.foldl (fun m s=>if m<(s.length:Int)-1 then (s.length:Int)-1 else m) m:=by
  intro l
  induction l with
  | nil=>intro m;exact ⟨Int.le_refl _,fun s hs=>by cases hs⟩
  | cons a l ih =>
   intro m
   rw [List.foldl_cons]
   have:=ih (if m<(a.length:Int)-1 then (a.length:Int)-1 else m)
   have hq:m≤(if m<(a.length:Int)-1 then (a.length:Int)-1 else m)/\(a.length:Int)-1≤(if m<(a.length:Int)-1 then (a.length:Int)-1 else m):=by split <;> omega
   refine ⟨by omega,fun s hs=>?_⟩
   rcases List.mem_cons.1 hs with rfl|hs
   ·omega
   ·exact this.2 s hs
 exact (go l (-1)).2
theorem ZKH {l:Cx} {k:Nat} (h:ZF9 l+1<(k:Int)):Zs l k=[]:=List.eq_nil_iff_forall_not_mem.2 fun c hc=>by
 obtain ⟨f,hf,hs⟩:=ZES hc
 have h1:=ZRt f hf
 have h2:=hs.length_le
 have h3:=ZCK hc
 omega
theorem ZJw (rows:Cx):L05.rkG L05.incF rows ([]:Cx)=0:=by
 have h:=L05.rk_nul L05.incF rows ([]:Cx)
 have e:∀ r:Cx,L05.cntS r (L05.evC L05.incF ([]:Cx))=2 ^ r.length:=fun r=>by
  have:(L05.evC L05.incF ([]:Cx))=fun _:Cx=>true:=rfl
  rw [this]
  induction r with
  | nil=>rfl
  | cons a r ih=>unfold L05.cntS;rw [ih,List.length_cons,Nat.pow_succ];omega
 unfold L05.nulI at h
 rw [e] at h
 exact L05.mul_inj (N:=2 ^ rows.length) (m:=0) (k:=rows.length) h (by omega)
theorem ZQV (l:Cx):rkC l 0=0:=by
 have:=L05.rk_le L05.incF ([]:Cx) (Zs l 1)
 unfold rkC
 rw [if_pos rfl]
 simpa using this
theorem ZKN {l:Cx} {d:Nat} (h:ZF9 l<(d:Int)):ZF6 l d=0:=by
 have e1:Zs l (d+1)=[]:=ZKH (by omega)
 have e2:Zs l (d+1+1)=[]:=ZKH (by omega)
 unfold ZF6 rkC
 rw [e1,e2,ZJw,ZJw];rfl
theorem ZSi (l:Cx) : -1≤ZF9 l:=by
 have go:∀ (l:Cx) (m:Int),m≤l.foldl (fun m s=>if m<(s.length:Int)-1 then (s.length:Int)-1 else m) m:=by
  intro l
  induction l with
  | nil=>intro m;exact Int.le_refl _
  | cons a l ih =>
   intro m
   rw [List.foldl_cons]
   refine Int.le_trans ?_ (ih _)
   split <;> omega
 exact go l (-1)
theorem ZIU {a b:Cx} (h:∀ d,ZF6 a d=ZF6 b d):ZAj (ZF7 a)=ZAj (ZF7 b):=ZLt h (fun i hi=>ZKN (by omega)) fun i hi=>ZKN (by omega)
theorem ZIV:∀ {m:List Cl} {c d:Cx},ZBP c m=some d->GoodX c->Zz c 8≤4098->∀ k,ZF6 d k=ZF6 c k
 | [],c,d,h,G,hw,k=>by cases h;rfl
 | x::m,c,d,h,G,hw,k=>by
  have h':(if x∈Zq c then ZBP (ZAC c x) m else none)=some d:=h
  by_cases hm:x∈Zq c
  ·rw [if_pos hm] at h'
   have hx:=ZBU G hm
   have h2:=ZCG G hx
   rw [ZIV h' (ZBf G hx hw) (by omega) k,ZKM G hx]
  ·rw [if_neg hm] at h';cases h'
theorem ZPT {c:Cx} (G:GoodX c) (hw:Zz c 8≤4096):ZAj (ZF7 c)=ZAj (ZF7 (ZAV c).1):=(ZIU (ZIV (ZQ9 G hw).steps G (by omega))).symm
theorem ZMp {l:Cx} (G:GoodX l) {x:Cl} (hx:PairOk l x):ZAj (ZF7 l)=ZAj (ZF7 (ZAC l x)):=(ZIU (ZKM G hx)).symm
end
end Go.Proofs.YtokmalofdapffaaGreat
