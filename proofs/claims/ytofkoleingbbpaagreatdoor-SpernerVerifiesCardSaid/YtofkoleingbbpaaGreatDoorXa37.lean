/- Part 37: walks by contracts, and plain laws. -/
import Derived.Test.YtofkoleingbbpaaGreatDoorXa36
set_option linter.unusedVariables false
set_option linter.unusedSimpArgs false
set_option linter.unusedSectionVars false
set_option maxRecDepth 100000
set_option maxHeartbeats 64000000
namespace Go.Proofs.YtofkoleingbbpaaGreatDoor.L05
section
theorem redP_low {b:List Int} {C:Nat} {n:Int} {m:List (Int × Ln)} (G:Good05 C m) (hF:∀p∈m,Low n p.2.2) {x0:Ln}:∀(f i:Nat) (x:Ln),RedAt b C m x0 f i x->Low n x.2->Low n (ZHL m f i x).2
 | 0,_,_,_,h=>h
 | f+1,i,x,hR,h=>by
  unfold ZHL;cases e:x.1[i]? with
  | none=>exact h
  | some c =>
   simp only;cases hl:ZB1 m c with
   | none=>exact redP_low G hF f (i+1) x (hR.skip e hl) h
   | some l =>
    have hm:=lookP_some hl;exact redP_low G hF f i (ZGj x l) (hR.add G e hl) (plus_low hR.frm.1 (G.frm _ hm).1 h (hF _ hm))
theorem low_mono {n k:Int} (h:n≤k) {a:List Int} (ha:Low n a):Low k a:=fun x hx=>by have:=ha x hx;omega
theorem echN_low {C:Nat} {rows:List (List Int)} (h1:AllAsc rows) (h2:∀r∈rows,Low (C:Int) r) (h3:∀r∈rows,Pos r):∀i,i≤rows.length->(∀p∈(ZNy rows C i).1,Low (i:Int) p.2.2)/\∀y∈(ZNy rows C i).2,Low (i:Int) y
 | 0,_=>⟨(fun p hp=>by cases hp),(fun p hp=>by cases hp)⟩
 | i+1,hi=>by
  obtain⟨i1,i2⟩:=echN_low h1 h2 h3 i (by omega);have P:=PInv.all (b:=[]) h1 h2 h3 i (by omega);have hil:i<rows.length:=by omega
  rw[echN_succ hil];obtain⟨⟨m,deps⟩,hs⟩:∃s,ZNy rows C i=s:=⟨_,rfl⟩;rw[hs] at i1 i2 P ⊢;simp only at i1 i2;have hr:=List.getElem_mem hil;have hR0:RedAt [] C m (rows[i],[(i:Int)]) (C+1) 0 (rows[i],[(i:Int)]):=RedAt.start (h1 _ hr) (h2 _ hr) (h3 _ hr) ⟨List.pairwise_singleton _ _,fun x hx=>by rw[List.mem_singleton.1 hx];omega⟩;have hF:∀p∈m,Low ((i+1:Nat):Int) p.2.2:=fun p hp=>low_mono (by omega) (i1 p hp);have hy:=redP_low P.good hF (C+1) 0 _ hR0 (n:=((i+1:Nat):Int)) (fun x hx=>by
   simp only[List.mem_singleton] at hx;omega)
  have hO:=redP_out P.good (C+1) 0 _ hR0;unfold ZJI;simp only;generalize ZHL m (C+1) 0 (rows[i],[(i:Int)])=y at hy hO;cases hyc:y.1 with
  | nil =>
   simp only;refine⟨hF,fun z hz=>?_⟩;rcases List.mem_append.1 hz with hz|hz
   ·exact low_mono (by omega) (i2 z hz)
   ·rw[List.mem_singleton.1 hz];exact hy
  | cons c t =>
   simp only;refine⟨fun p hp=>?_,fun z hz=>low_mono (by omega) (i2 z hz)⟩;rcases List.mem_append.1 hp with hp|hp
   ·obtain⟨q,hq,e⟩:=ZLr hp;rw[e];split
    ·exact plus_low (P.good.frm q hq).1 hO.frm.1 (hF q hq) hy
    ·exact hF q hq
   ·rw[List.mem_singleton.1 hp];exact hy
theorem echN_deps (rows:List (List Int)) (C:Nat):∀i,i≤rows.length->(ZNy rows C i).2.length≤i
 | 0,_=>Nat.le_refl _
 | i+1,hi=>by
  have h:=echN_deps rows C i (by omega);rw[echN_succ (by omega)];unfold ZJI;simp only;split
  ·simp only[List.length_append,List.length_singleton];omega
  ·simp only;omega
def ZK0 (m:List (Int × Ln)) (y:Ln) (c:Int) (s:List Nat):List (Int × Ln):=m.zipIdx.map fun p=>if p.2∈s/\c∈p.1.2.1 then(p.1.1,ZGj p.1.2 y) else p.1
theorem ZCd (m:List (Int × Ln)) (y:Ln) (c:Int) (s:List Nat) (j:Nat):(ZK0 m y c s)[j]?=m[j]?.map fun p=>if j∈s/\c∈p.2.1 then(p.1,ZGj p.2 y) else p:=by
 unfold ZK0;rw[List.getElem?_map,List.getElem?_zipIdx];cases m[j]? <;> simp
theorem updS_nil (m:List (Int × Ln)) (y:Ln) (c:Int):ZK0 m y c []=m:=by
 apply List.ext_getElem?;intro j;rw[ZCd];cases m[j]? <;> simp
theorem updS_all {m:List (Int × Ln)} {y:Ln} {c:Int} {s:List Nat} (h:∀j,j<m.length->j∈s):ZK0 m y c s=ZJU m y c:=by
 apply List.ext_getElem?;intro j;rw[ZCd];unfold ZJU;rw[List.getElem?_map];by_cases hj:j<m.length
 ·rw[List.getElem?_eq_getElem hj];simp[h j hj]
 ·rw[List.getElem?_eq_none (by omega)];rfl
theorem updS_skip {m:List (Int × Ln)} {y:Ln} {c:Int} {s:List Nat} {j:Nat} {p:Int × Ln} (hp:m[j]?=some p) (hc:c∉p.2.1):ZK0 m y c (s++[j])=ZK0 m y c s:=by
 apply List.ext_getElem?;intro i;rw[ZCd,ZCd];by_cases hij:i=j
 ·subst hij;rw[hp];simp[hc]
 ·cases m[i]? <;> simp[hij]
theorem updS_set {m:List (Int × Ln)} {y:Ln} {c:Int} {s:List Nat} {j:Nat} {p:Int × Ln} (hp:m[j]?=some p) (hc:c∈p.2.1):ZK0 m y c (s++[j])=(ZK0 m y c s).set j (p.1,ZGj p.2 y):=by
 apply List.ext_getElem?;intro i;rw[List.getElem?_set,ZCd,ZCd];by_cases hij:j=i
 ·subst hij;have hjl:j<(ZK0 m y c s).length:=by
   unfold ZK0;rw[List.length_map,List.length_zipIdx];exact(List.getElem?_eq_some_iff.1 hp).1
  rw[if_pos rfl,if_pos hjl,hp];simp[hc]
 ·rw[if_neg hij];have:i≠j:=fun e=>hij e.symm;cases m[i]? <;> simp[this]
theorem updS_here {m:List (Int × Ln)} {y:Ln} {c:Int} {s:List Nat} {j:Nat} (h:j∉s):(ZK0 m y c s)[j]?=m[j]?:=by
 rw[ZCd];cases m[j]? <;> simp[h]
theorem updS_len (m:List (Int × Ln)) (y:Ln) (c:Int) (s:List Nat):(ZK0 m y c s).length=m.length:=by
 unfold ZK0;rw[List.length_map,List.length_zipIdx]
theorem updS_keys (m:List (Int × Ln)) (y:Ln) (c:Int) (s:List Nat):(ZK0 m y c s).map (·.1)=m.map (·.1):=by
 apply List.ext_getElem?;intro j;rw[List.getElem?_map,List.getElem?_map,ZCd];cases m[j]? with
 | none=>rfl
 | some p=>simp only[Option.map_some];split <;> rfl
def ZR9 (b:List Int) (ls:List Ln):List Int:=ls.filterMap fun l=>if ZBw l.2 b=true then some (hdI l.1) else none
theorem solP_out {rows:List (List Int)} {b:List Int} {C:Nat} (G:Good05 C (echP rows C).1):solP rows b C=if(echP rows C).2.any (fun y=>ZBw y b)=true then none else some (ZR9 b (ZF7 (echP rows C).1 C)):=by
 unfold solP;congr 1;congr 1;unfold ZR9 ZF7;rw[List.filterMap_filterMap];refine ZIh fun c _=>?_;cases hl:ZB1 (echP rows C).1 (c:Int) with
 | none=>rfl
 | some l =>
  have:=G.hd _ (lookP_some hl);simp only at this;simp[hdI,this]
theorem plcP_next {b:List Int} {ls:List Ln} {i:Nat} (h:i<ls.length):ZR9 b (ls.take (i+1))=ZR9 b (ls.take i)++if ZBw ls[i].2 b=true then[hdI ls[i].1] else[]:=by
 unfold ZR9;rw[List.take_add_one,List.filterMap_append,List.getElem?_eq_getElem h];congr 1;simp only[Option.toList_some,List.filterMap_cons,List.filterMap_nil];split <;> simp_all
theorem plcP_len (b:List Int) (ls:List Ln):(ZR9 b ls).length≤ls.length:=List.length_filterMap_le ..
end
end Go.Proofs.YtofkoleingbbpaaGreatDoor.L05
namespace Go.Proofs.YtofkoleingbbpaaGreatDoor
section
open Go.RowKit
open L05 (Ln ZGj ZHL ZB1 RedAt Good05 ZNy ZJI ZF7 ZK0 ZJU PInv)
theorem ZRl:∀(x y:Operand) ad m c w,(do eqGuard .eql 23 x y (.slice ad m c) (.slice none 0 0);Go.binOp .eql 23 (.slice ad m c) (.slice none 0 0)).run Tryz.prog w = .ok (.bool ad.isNone) w:=by
 intro x y ad m c w;cases ad <;> (go_simp;try (unfold Go.binOp;simp only;unfold Op.equal Op.maxDepth Op.equalIn;simp[run_underlying Tryz.underlying23]))



theorem ZNE (xs:List Int) (hl:xs.length≤1000000):Fn Tryz.prog 134 [dS ZAR xs] (dS ZAR xs):=by
 (refine ZE Tryz.func134 rfl rfl ?_;simp only[Tryz.ntmps134,List.length_cons,List.length_nil,Nat.reduceAdd,Nat.reduceSub,List.replicate_succ,List.replicate_zero,List.cons_append,List.nil_append])
 ((repeat' (first |  (refine ZIQ 4 rfl fun b hb=>?_;dsimp only[z0,z1])|(apply WL.opN;exact yF;dsimp only[ZC,z0,z1])|refine WL.nil ?_|refine ZA fun Kx hK=>?_|(refine hK _ _ ?_;clear hK)|refine WC.region ?_ |  (apply ZM2 elI RI;(intro _;dsimp only[ZC,z0,z1]);all_goals (try infer_instance))|((first|apply WL.appK|apply WL.app1);(exact eD);exact OpD.t rfl;(exact oD);decide;(exact lD);(intro _;dsimp only[ZC,z0,z1]);all_goals (try infer_instance))|(apply WL.opN;(focus ((first|(apply ZIK;exact OpD.t rfl;(exact fun _ _ _ h=>nil_A h);exact ZB0;exact ZRl)|fail);all_goals infer_instance));dsimp only[ZC,z0,z1])|(apply WC.cond;(exact oD);all_goals (intro h;try exact xD))|refine WC.skip ?_|refine WC.ret ?_|refine ThenD.r ?_));all_goals (first|((repeat clear hK);(repeat clear Kx))))
 ·rw[hb h];(refine⟨trivial,_,rfl,?_⟩;exact fD)
 ·rw[List.nil_append];(refine⟨trivial,_,rfl,?_⟩;exact fD)
theorem ZNX {seen:Array Nat} {n j:Nat} (q1:seen.toList.Nodup) (q2:∀i∈seen.toList,i<n) (hj:j<n) (hns:j∉seen.toList):(seen.push j).toList.Nodup/\(∀i∈(seen.push j).toList,i<n)/\seen.size+1≤n:=by
 have h1:(seen.push j).toList.Nodup:=by
  rw[Array.toList_push,List.nodup_append];refine⟨q1,by simp,fun a ha c hc=>?_⟩;rw[List.mem_singleton.1 hc];intro he;exact hns (by rw[<- he];exact ha)
 have h2:∀i∈(seen.push j).toList,i<n:=fun i hi=>by
  rw[Array.toList_push,List.mem_append] at hi;rcases hi with hi|hi
  ·exact q2 i hi
  ·rw[List.mem_singleton.1 hi];exact hj
 refine⟨h1,h2,?_⟩;have:=List.Nodup.length_le_of_subset (l₁:=(seen.push j).toList) (l₂:=List.range n) h1 fun x hx=>List.mem_range.2 (h2 x hx);rw[List.length_range,Array.length_toList,Array.size_push] at this;exact this
theorem ZIs (M:List (Int × Value × Ln)):(ZAe M).length=M.length:=by simp[ZAe]
theorem ZMV {M:List (Int × Value × Ln)} {j:Nat} (h:j<M.length):(ZAe M)[j]?=some (M[j].1,M[j].2.2):=by
 unfold ZAe;rw[List.getElem?_map,List.getElem?_eq_getElem h];rfl
theorem ZDv (M:List (Int × Value × Ln)):(ZAe M).map (·.1)=M.map (·.1):=by
 unfold ZAe;rw[List.map_map];rfl
theorem rot3 {a b c:HObj} {t:List HObj}:(a::b::c::t).Perm (b::c::a::t):=(List.perm_append_comm (l₁:=[a]) (l₂:=[b,c])).append_right t
theorem rot4 {a b c d:HObj} {t:List HObj}:(a::b::c::d::t).Perm (c::d::a::b::t):=(List.perm_append_comm (l₁:=[a,b]) (l₂:=[c,d])).append_right t
theorem ZPp (m:List (Int × Ln)) (j:Nat):ZF7 m (j+1)=ZF7 m j++(ZB1 m (j:Int)).toList:=by
 unfold ZF7;rw[List.range_succ,List.filterMap_append,List.filterMap_cons,List.filterMap_nil];cases ZB1 m (j:Int) <;> rfl
section
variable {P:Program} {ops:Array Oper} {hp:List HObj} {fr:List Dat} {dst:Option Tmp} {ty:TypeId} {ps:String} {af:Array Edge} {g:Option (Nat × Bool)} {K α:Type} {kv:K->Value} {b r:Nat} {R:Rel α} [DecidableEq K] {M:List (K × Value × α)} {_gR:Good R}
theorem ZJZ {x:Operand} {seen:Array Nat} {j:Nat} {l:α} {key:K} (hj:j<M.length) (hl:M[j].2.2=l) (hk':M[j].1=key) (hx:OpD fr x (dX (.pointer (some ⟨r,0,none⟩)))) (hi:hIt b r M.length (seen.push j)∈hp) (hm:hM b kv (fun p:Value × α=>p.1) M∈hp) (hk:hKL R (M.map (·.2))∈hp) :
  SY P ops hp ⟨dst,.entry x,ty,ps,af,g⟩ fr (dT [dX (kv key),dS R l]):=by
 subst hl;subst hk';exact ZN4 hx hi hm hk hj
end
structure EchAt (rows:List (List Int)) (C k:Nat) (M:List (Int × Value × Ln)) (deps:List (List Int)):Prop where
 le:k≤rows.length
 eq:ZNy rows C k=(ZAe M,deps)
theorem ZTi (C:Nat) (rows:List (List Int)) (hC:C≤4096) (hn:rows.length≤4096) (h1:L05.AllAsc rows) (h2:∀r∈rows,L05.Low (C:Int) r) (h3:∀r∈rows,L05.Pos r) :
  Fn Tryz.prog 104 [dS Mat ((C:Int),rows)] (dT [dS (ArrK 2 LnR) (ZF7 (L05.echP rows C).1 C),dS (Arr ZAR) (L05.echP rows C).2]):=by
 (refine Z9 Tryz.func104 rfl rfl ?_;simp only[Tryz.ntmps104,List.length_cons,List.length_nil,Nat.reduceAdd,Nat.reduceSub,List.replicate_succ,List.replicate_zero,List.cons_append,List.nil_append])
 (repeat' (first|((first|apply WL.opN|apply WD.opN);exact yF;dsimp only[ZC,z0,z1])|refine WL.nil ?_|refine ZA fun Kx hK=>?_|(refine hK _ _ ?_;clear hK)|refine WC.region ?_ |  (refine WL.makeMap kvQ (fun p:Value × Ln=>p.1) fun bm=>?_;dsimp only[ZC,z0,z1]) |  (refine WL.alloc (dst:=some 4) tzQ3 (Zw rfl) fun b4=>?_;dsimp only[ZC,z0,z1]) |  (refine ZBk (ZGb ZQu (OpD.t rfl) (OpD.t rfl) (Zw rfl)) fun _=>?_;dsimp only[ZC,z0,z1])|((first|apply WL.opN|apply WD.opN);(focus ((first|(exact ZGE (vs:=[.pointer (some ⟨b4,0,none⟩)]) (ArgsX.cons (OpD.t rfl) ArgsX.nil))|(apply ZAB ZEk;exact OpD.t rfl)|(apply SY.len;(exact oD);(exact nD);(exact uD))|(apply SY.box;(exact oD);(exact hD))|fail);all_goals infer_instance));dsimp only[ZC,z0,z1])|refine WC.block ?_))
 all_goals try (exfalso;first|contradiction|omega)
 refine Zq 23 ZAR (WC.perm (List.reverse_perm _).symm ?_);refine ZOP (gh:=hKL LnR ([]:List (Value × Ln))) rfl (fun _ _ _ p hp=>absurd hp (by simp)) (WC.perm rot3 (WC.perm (List.Perm.swap _ _ _) ?_));(refine WC.loopU (X:=Nat × List (Int × Value × Ln) × Value × List (List Int)) (fun x=>[(21,dI (x.1:Int)),(6,dX x.2.2.1),(7,dA),(8,dA),(9,dA),(10,dA),(11,dA),(22,dA),(23,dA),(24,dA),(25,dA),(26,dA),(27,dA),(28,dA),(29,dA),(30,dA),(31,dA),(32,dA),(33,dA),(34,dA),(35,dA),(36,dA),(37,dA),(38,dA),(39,dA),(40,dA),(41,dA),(42,dA),(43,dA),(44,dA),(45,dA),(46,dA),(47,dA),(48,dA),(49,dA),(50,dA),(51,dA),(52,dA),(53,dA),(54,dA),(55,dA),(56,dA),(57,dA),(58,dA),(59,dA),(60,dA),(61,dA),(62,dA),(63,dA),(64,dA),(65,dA),(66,dA),(67,dA),(68,dA),(69,dA),(70,dA),(71,dA),(72,dA),(73,dA),(74,dA),(75,dA)]) (fun x=>([Zm b4 184 1 false (dX (.map (some bm))),hM bm kvQ (fun p:Value × Ln=>p.1) x.2.1,hKL LnR (x.2.1.map (·.2)),Zk x.2.2.1 23 ZAR x.2.2.2])) (fun x=>rows.length-x.1) (fun x=>EchAt rows C x.1 x.2.1 x.2.2.2) (0,[],.slice none 0 0,[]) ?start ?frame0 ?objs0 ?round)
 case start=>exact⟨Nat.zero_le _,rfl⟩
 case frame0=>exact zFr
 case objs0=>rfl
 case round =>
  rintro⟨k,M,vd,deps⟩ ⟨hk,hE⟩;simp only at hk hE;dsimp only[ZL,z0,z1];by_cases hkl:k<rows.length
  ·have hkI:(k:Int)<(rows.length:Int):=by omega
   obtain⟨r,hr⟩:∃r,rows[k]=r:=⟨_,rfl⟩;have hrm:r∈rows:=by rw[<- hr];exact List.getElem_mem hkl
   have hrl:=ZAv (n:=C) (h1 r hrm) fun v hv=>⟨h3 r hrm v hv,h2 r hrm v hv⟩;have hP:=PInv.all (b:=[]) h1 h2 h3 k hk;have hL:=L05.echN_low h1 h2 h3 k hk;rw[hE] at hP hL;have G:Good05 C (ZAe M):=hP.good;have hF:FrmL ((k+1:Nat):Int) (ZAe M):=fun p hp=>L05.low_mono (by omega) (hL.1 p hp);have hcl:=ZNE r (by omega);have hx4:L05.Asc [(k:Int)]/\L05.Pos [(k:Int)]:=⟨List.pairwise_singleton _ _,fun x hx=>by rw[List.mem_singleton.1 hx];omega⟩;have hx5:L05.Low ((k+1:Nat):Int) [(k:Int)]:=fun x hx=>by rw[List.mem_singleton.1 hx];omega
   have hred:=ZUO b4 bm M C (k+1) (r,[(k:Int)]) hC (by omega) G hF (h1 r hrm) (h2 r hrm) (h3 r hrm) hx4 hx5;have hst:=L05.RedAt.start (b:=[]) (C:=C) (m:=ZAe M) (x:=(r,[(k:Int)])) (h1 r hrm) (h2 r hrm) (h3 r hrm) hx4;have hO:=L05.redP_out G (C+1) 0 _ hst;have hYl:=L05.redP_low G hF (C+1) 0 _ hst hx5;have hnx:=L05.echN_succ (C:=C) hkl;rw[hE,hr] at hnx;unfold ZJI at hnx;simp only at hnx;generalize ZHL (ZAe M) (C+1) 0 (r,[(k:Int)])=Y at hred hO hYl hnx;have hY1:=ZAv (n:=C) hO.asc fun v hv=>⟨hO.pos v hv,hO.low v hv⟩;have hY2:=ZAv (n:=k+1) hO.frm.1 fun v hv=>⟨hO.frm.2 v hv,hYl v hv⟩;have hdl:deps.length≤4096:=by
    have:=L05.echN_deps rows C k hk;rw[hE] at this;simp only at this;omega
   have h24:(deps.length+1)*24≤140737488355328:=by omega
   have hred2:CallC Tryz.prog 132 ([dS (R2 (Arr RI) (Arr RI)) (r,[(k:Int)])]++[Value.pointer (some ⟨b4,0,none⟩)].map dX) [Zm b4 184 1 false (dX (.map (some bm))),hM bm kvQ (fun p:Value × Ln=>p.1) M,hKL LnR (M.map (·.2))] (fun d hp2=>d=dS LnR Y/\hp2=[Zm b4 184 1 false (dX (.map (some bm))),hM bm kvQ (fun p:Value × Ln=>p.1) M,hKL LnR (M.map (·.2))]):=hred;(repeat' (first |  (refine WC.only5 8 (Halt5.go ?_))|((first|apply WL.opN|apply WD.opN);exact yF;dsimp only[ZC,z0,z1])|refine WL.nil ?_|refine ZA fun Kx hK=>?_|(refine hK _ _ ?_;clear hK)|refine WC.region ?_ |  (refine WL.callC (hp:=[Zk vd 23 ZAR deps]) (caps:=[.pointer (some ⟨b4,0,none⟩)]) hred2 Tryz.call132 ?_ ?_ ?_;exact OpD.t rfl;exact ArgsD.cons (OpD.t rfl) ArgsD.nil;rintro d' hp2 ⟨rfl,rfl⟩;dsimp only[ZC,z0,z1,List.cons_append,List.nil_append]) |  (refine WL.alloc (dst:=some 9) ZQb (Zj rfl rfl) fun b9=>?_;dsimp only[ZC,z0,z1]) |  (refine ZP ZLp rfl (OpD.t rfl) ZA9 ?_;dsimp only[ZC,z0,z1])|((first|apply WL.opN|apply WD.opN);(focus ((first|(exact Zg (R:=ZAR) (_gR:=inferInstance) ZDj hkl hr (OpD.t rfl) (OpD.t rfl))|(apply SY.call (hcl) Tryz.call134;(exact aD))|(exact ZOH lnT (R:=RI) (S:=RI) (_gR:=inferInstance) (_gS:=inferInstance) (OpD.t rfl) (OpD.t rfl))|((first|apply SY.move|apply SY.assign|apply SY.lss|apply SY.eql) <;> (exact oD))|(apply SY.build1';(exact eD);((try simp only[List.map_cons,List.map_nil]);(repeat (first|exact Zp|(apply Zo;(first|exact OpD.t rfl|exact OpD.i|exact OpD.b|exact OpD.tle rfl (by first|exact ZN|exact ZH (by decide))|exact⟨ZN⟩|exact⟨ZH (by decide)⟩)))));rfl;rfl;(intro _;first|exact ZAf|exact ZAT|exact ZAI|exact shape_B);(exact(by simp)))|fail);all_goals infer_instance));dsimp only[ZC,z0,z1])|(apply ZB;(exact oD);all_goals (intro h;try exact xD))|refine WC.skip ?_|refine WC.block ?_))
   all_goals try (exfalso;first|contradiction|omega)
   refine⟨?_⟩;cases hYc:Y.1 with
   | nil =>
    rw[hYc] at hnx;simp only at hnx;have hY0:((Y.1.length:Nat):Int)=0:=by rw[hYc];rfl
    ((repeat' (first|((first|apply WL.opN|apply WD.opN);exact yF;dsimp only[ZC,z0,z1])|refine WL.nil ?_|refine ZA fun Kx hK=>?_|(refine hK _ _ ?_;clear hK)|(refine Kont.skip ?_;clear hK)|refine WC.region ?_ |  (refine ZBk (SW.at 3 rfl fun q=>SW.app1 ZDj (R:=ZAR) (_gR:=inferInstance) (OpD.t rfl) (OpD.t rfl) (by decide) h24) fun v2=>?_;dsimp only[ZC,z0,z1])|((first|apply WL.opN|apply WD.opN);(focus ((first|(apply ZAu lnT;exact OpD.t rfl)|(apply ZBG lnT;exact OpD.t rfl)|((first|apply SY.move|apply SY.assign|apply SY.lss|apply SY.eql) <;> (exact oD))|((first|apply SY.add) <;> first|exact oD|omega)|(apply SY.len;(exact oD);(exact nD);(exact uD))|(apply ZAu lnT;exact OpD.t rfl)|(apply ZBG lnT;exact OpD.t rfl)|(apply SY.build1';(exact eD);((try simp only[List.map_cons,List.map_nil]);(repeat (first|exact Zp|(apply Zo;(first|exact OpD.t rfl|exact OpD.i|exact OpD.b|exact OpD.tle rfl (by first|exact ZN|exact ZH (by decide))|exact⟨ZN⟩|exact⟨ZH (by decide)⟩)))));rfl;rfl;(intro _;first|exact ZAf|exact ZAT|exact ZAI|exact shape_B);(exact(by simp)))|fail);all_goals infer_instance));dsimp only[ZC,z0,z1])|(apply ZB;(exact oD);all_goals (intro h;try exact xD))|refine WC.exit ?_|refine ThenD.n ?_));all_goals (first|((repeat clear hK);(repeat clear Kx))))
    all_goals try (exfalso;first|contradiction|omega)
    (refine zNx (k+1,M,_,deps++[Y.2]) ?_;(try dsimp only))
    exact⟨hkl,hnx⟩
   | cons c t =>
    rw[hYc] at hnx;simp only at hnx;have hY0:¬ ((Y.1.length:Nat):Int)=0:=by rw[hYc];simp;omega
    have hYk:0<Y.1.length:=by rw[hYc];simp
    have hYg:Y.1[0]=c:=by simp only[hYc];rfl
    have hcY:c∈Y.1:=by rw[hYc];simp
    have hc64:ZC8 c:=by have:=hO.low c hcY;have:=hO.pos c hcY;unfold ZC8;omega
    have hko:∀p∈M,ZC8 p.1:=fun p hp=>by
     have hm:(p.1,p.2.2)∈ZAe M:=List.mem_map.2 ⟨p,hp,rfl⟩;have:=G.low _ hm _ (L05.head_mem (G.hd _ hm));have:=G.pos _ hm _ (L05.head_mem (G.hd _ hm));simp only at *;unfold ZC8;omega
    have hkn:(M.map (·.1)).Nodup:=by rw[<- ZDv];exact G.nd
    (repeat' (first|((first|apply WL.opN|apply WD.opN);exact yF;dsimp only[ZC,z0,z1])|refine WL.nil ?_|refine ZA fun Kx hK=>?_|(refine hK _ _ ?_;clear hK)|refine WC.region ?_ |  (refine ZOe ZHF (OpD.t rfl) (mAt 1 rfl) fun b=>?_;dsimp only[ZC,z0,z1])|((first|apply WL.opN|apply WD.opN);(focus ((first|(apply ZAu lnT;exact OpD.t rfl)|(apply ZBV ZQu;exact OpD.t rfl;exact mAt 0 rfl)|((first|apply SY.move|apply SY.assign|apply SY.lss|apply SY.eql) <;> (exact oD))|(apply SY.len;(exact oD);(exact nD);(exact uD))|(apply ZAu lnT;exact OpD.t rfl)|(apply ZBG lnT;exact OpD.t rfl)|fail);all_goals infer_instance));dsimp only[ZC,z0,z1])|(apply ZB;(exact oD);all_goals (intro h;try exact xD))|refine WC.skip ?_|refine WC.block ?_))
    all_goals try (exfalso;first|contradiction|omega)
    (refine WC.loopU (X:=Array Nat × List (Int × Value × Ln)) (fun z=>[(10,dA),(11,dA),(44,dA),(45,dA),(46,dA),(47,dA),(48,dA),(49,dA),(50,dA),(51,dA),(52,dA),(53,dA),(54,dA),(55,dA),(56,dA),(57,dA),(58,dA),(59,dA),(60,dA),(61,dA),(62,dA),(63,dA),(64,dA),(65,dA),(66,dA),(67,dA),(68,dA)]) (fun z=>([hIt bm b M.length z.1,Zm b4 184 1 false (dX (.map (some bm))),hM bm kvQ (fun p:Value × Ln=>p.1) z.2,hKL LnR (z.2.map (·.2)),Zk vd 23 ZAR deps])) (fun z=>M.length-z.1.size) (fun z=>z.1.toList.Nodup/\(∀i∈z.1.toList,i<M.length)/\ZAe z.2=ZK0 (ZAe M) Y c z.1.toList) (#[],M) ?start ?frame0 ?objs0 ?round)
    case start=>exact⟨List.nodup_nil,(fun i hi=>by simp at hi),(L05.updS_nil _ _ _).symm⟩
    case frame0=>exact zFr
    case objs0=>rfl
    case round =>
     rintro⟨seen,Mc⟩ ⟨q1,q2,q3⟩;simp only at q1 q2 q3;dsimp only[ZL,z0,z1];have hlc:Mc.length=M.length:=by rw[<- ZIs,q3,L05.updS_len,ZIs]
     have hkc:Mc.map (·.1)=M.map (·.1):=by rw[<- ZDv,q3,L05.updS_keys,ZDv]
     have hcn:(Mc.map (·.1)).Nodup:=by rw[hkc];exact hkn
     have hco:∀p∈Mc,ZC8 p.1:=fun p hp=>by
      have:p.1∈M.map (·.1):=by rw[<- hkc];exact List.mem_map_of_mem hp
      obtain⟨q,hq,e⟩:=List.mem_map.1 this;rw[<- e];exact hko q hq
     refine ZA fun Kx hK=>?_;refine WC.region ?_;rw[<- hlc];refine ZRL (OpD.t rfl) (mAt 1 rfl) (fun hall=>?_) (fun j hj hns=>?_)
     ·dsimp only[ZC,z0,z1];have hfin:ZAe Mc=ZJU (ZAe M) Y c:=by
       rw[q3];exact L05.updS_all fun j hj=>by
        rw[ZIs,<- hlc] at hj;simpa using hall j hj
      have hnew:∀p∈Mc,p.1≠c:=fun p hp e=>by
       have h5:p.1∈M.map (·.1):=by rw[<- hkc];exact List.mem_map_of_mem hp
       rw[<- ZDv] at h5;obtain⟨q,hq,e2⟩:=List.mem_map.1 h5;exact L05.lookP_none (hO.no c hcY) q hq (e2.trans e)
      have hput:=fun(v:Value)=>ZDa (v:=(v,Y)) hnew;have hfin2:∀v:Value,ZAe (Mc++[(c,(v,Y))])=ZJU (ZAe M) Y c++[(c,Y)]:=fun v=>by
       rw[<- hfin];unfold ZAe;rw[List.map_append];rfl
      refine ZIO ?_;((repeat' (first |  (apply WC.drawTail (id:=15) 6;kernel_rfl;kernel_rfl;simp only[List.take_succ_cons,List.take_zero,List.drop_succ_cons,List.drop_zero])|((first|apply WL.opN|apply WD.opN);exact yF;dsimp only[ZC,z0,z1])|refine WL.nil ?_|refine WD.nil ?_|refine ZA fun Kx hK=>?_|(refine hK _ _ ?_;clear hK)|(refine Kont.skip ?_;clear hK)|refine WC.region ?_ |  (refine WL.perm rot3 (ZOc (R:=LnR) (_gR:=inferInstance) (s:=74) ZHF ZE2 (fun _=>OpD.t rfl) (fun _=>OpD.t rfl) isI rfl (fun _=>OpD.t rfl) hc64 hco hcn fun q=>?_);rw[hput];refine WL.perm rot3.symm ?_;dsimp only[ZC,z0,z1])|((first|apply WL.opN|apply WD.opN);(focus ((first|(apply ZAu lnT;exact OpD.t rfl)|(apply ZBV ZQu;exact OpD.t rfl;exact mAt 0 rfl)|(exact Zg (R:=RI) (_gR:=inferInstance) (k:=0) elI hYk hYg (OpD.t rfl) OpD.i)|((first|apply SY.add) <;> first|exact oD|omega)|(apply ZAu lnT;exact OpD.t rfl)|(apply ZBG lnT;exact OpD.t rfl)|(apply SY.extract;(exact oD);rfl)|fail);all_goals infer_instance));dsimp only[ZC,z0,z1])|(apply ZQ;(exact oD);(with_reducible rfl))|refine WC.exit ?_|refine ThenD.n ?_));all_goals (first|((repeat clear hK);(repeat clear Kx))))
      all_goals try (exfalso;first|contradiction|omega)
      (refine zNx (k+1,Mc++[(c,(q,Y))],_,deps) ?_;(try dsimp only))
      exact⟨hkl,by rw[hnx,hfin2]⟩
     ·dsimp only[ZC,z0,z1];have hns':j∉seen.toList:=fun q=>hns (by simpa using q);have hjM:j<M.length:=by omega
      obtain⟨p1,p2,p3⟩:=ZNX q1 q2 hjM hns';have hpl:(seen.push j).toList=seen.toList++[j]:=Array.toList_push ..;have hsz:(seen.push j).size=seen.size+1:=Array.size_push ..;have hgM:=ZMV hjM;have hgc:=ZMV hj;rw[q3,L05.updS_here hns',hgM] at hgc;have hgl:M[j].2.2=Mc[j].2.2:=by
       have:=Option.some.inj hgc;exact(Prod.mk.inj this).2
      have hgk:M[j].1=Mc[j].1:=by
       have:=Option.some.inj hgc;exact(Prod.mk.inj this).1
      obtain⟨l,hl⟩:∃l,Mc[j].2.2=l:=⟨_,rfl⟩;obtain⟨ky,hky⟩:∃ky,Mc[j].1=ky:=⟨_,rfl⟩;rw[hl] at hgl;rw[hky] at hgk;rw[hgl,hgk] at hgM;have hmm:(ky,l)∈ZAe M:=List.mem_of_getElem? hgM;have la:=G.asc _ hmm;have lf:=G.frm _ hmm;have ll:=G.low _ hmm;have lp:=G.pos _ hmm;have lF:=hF _ hmm;simp only at la lf ll lp lF;have hl1:=ZAv (n:=C) la fun v hv=>⟨lp v hv,ll v hv⟩;have hl2:=ZAv (n:=k+1) lf.1 fun v hv=>⟨lf.2 v hv,lF v hv⟩;have hhs:=ZTs l.1 c la (by omega);have hs1:=ZHQ l.1 Y.1 (by omega);have hs2:=ZHQ l.2 Y.2 (by omega);by_cases hcl:c∈l.1
      ·rw[decide_eq_true hcl] at hhs;have hkj:ZC8 ky:=hky ▸ hco _ (List.getElem_mem hj);have hput:=fun(v:Value)=>ZFB (v:=(v,(L05.plus l.1 Y.1,L05.plus l.2 Y.2))) hcn hj;rw[hky] at hput;have hst2:∀v:Value,ZAe (Mc.set j (ky,(v,(L05.plus l.1 Y.1,L05.plus l.2 Y.2))))=ZK0 (ZAe M) Y c (seen.push j).toList:=fun v=>by
        rw[hpl,L05.updS_set hgM hcl,<- q3];unfold ZAe;rw[List.map_set];rfl
       have hlz:∀v:Value,(Mc.set j (ky,(v,(L05.plus l.1 Y.1,L05.plus l.2 Y.2)))).length=Mc.length:=fun v=>List.length_set ..;((repeat' (first |  (apply WC.drawTail (id:=14) 13;kernel_rfl;kernel_rfl;simp only[List.take_succ_cons,List.take_zero,List.drop_succ_cons,List.drop_zero])|((first|apply WL.opN|apply WD.opN);exact yF;dsimp only[ZC,z0,z1])|refine WL.nil ?_|refine WD.nil ?_|refine ZA fun Kx hK=>?_|(refine hK _ _ ?_;clear hK)|refine WC.region ?_|(apply WC.draw;kernel_rfl;kernel_rfl) |  (refine WL.alloc (dst:=some 11) ZQb (Zj rfl rfl) fun b11=>?_;dsimp only[ZC,z0,z1]) |  (refine ZP ZLp rfl (OpD.t rfl) ZA9 ?_;dsimp only[ZC,z0,z1]) |  (refine WL.perm rot4 (ZOc (R:=LnR) (_gR:=inferInstance) (s:=68) ZHF ZE2 (fun _=>OpD.t rfl) (fun _=>OpD.t rfl) isI rfl (fun _=>OpD.t rfl) hkj hco hcn fun q=>?_);rw[hput];refine WL.perm rot4 ?_;dsimp only[ZC,z0,z1])|((first|apply WL.opN|apply WD.opN);(focus ((first|(exact ZJZ (R:=LnR) (_gR:=inferInstance) hj hl hky (OpD.t rfl) (mAt 0 rfl) (mAt 2 rfl) (mAt 3 rfl))|(apply ZAu lnT;exact OpD.t rfl)|(apply ZBG lnT;exact OpD.t rfl)|(apply ZBV ZQu;exact OpD.t rfl;exact mAt 1 rfl)|(exact Zg (R:=RI) (_gR:=inferInstance) (k:=0) elI hYk hYg (OpD.t rfl) OpD.i)|(apply SY.call (hhs) Tryz.call135;(exact aD))|(apply SY.call (hs1) Tryz.call133;exact ArgsD.cons (OpD.t rfl) (ArgsD.cons (OpD.t rfl) (ArgsD.nil)))|(apply SY.call (hs2) Tryz.call133;exact ArgsD.cons (OpD.t rfl) (ArgsD.cons (OpD.t rfl) (ArgsD.nil)))|(exact ZOH lnT (R:=RI) (S:=RI) (_gR:=inferInstance) (_gS:=inferInstance) (OpD.t rfl) (OpD.t rfl))|(apply ZAu lnT;exact OpD.t rfl)|(apply ZBG lnT;exact OpD.t rfl)|(apply SY.extract;(exact oD);rfl)|fail);all_goals infer_instance));dsimp only[ZC,z0,z1])|(apply Zc;(exact oD);(with_reducible rfl))|refine WC.skip ?_|refine WC.block ?_|refine ThenD.n ?_|refine InBlockD.n ?_));all_goals (first|((repeat clear hK);(repeat clear Kx))))
       all_goals try (exfalso;first|contradiction|omega)
       rw[hlc];(refine zNx (seen.push j,Mc.set j (ky,(q,(L05.plus l.1 Y.1,L05.plus l.2 Y.2)))) ?_;(try dsimp only))
       exact⟨p1,p2,hst2 q⟩
      ·rw[decide_eq_false hcl] at hhs;((repeat' (first|((first|apply WL.opN|apply WD.opN);exact yF;dsimp only[ZC,z0,z1])|refine WL.nil ?_|refine WD.nil ?_|refine ZA fun Kx hK=>?_|(refine hK _ _ ?_;clear hK)|refine WC.region ?_|(apply WC.draw;kernel_rfl;kernel_rfl) |  (refine WL.alloc (dst:=some 11) ZQb (Zj rfl rfl) fun b11=>?_;dsimp only[ZC,z0,z1]) |  (refine ZP ZLp rfl (OpD.t rfl) ZA9 ?_;dsimp only[ZC,z0,z1])|((first|apply WL.opN|apply WD.opN);(focus ((first|(exact ZJZ (R:=LnR) (_gR:=inferInstance) hj hl hky (OpD.t rfl) (mAt 0 rfl) (mAt 2 rfl) (mAt 3 rfl))|(apply ZAu lnT;exact OpD.t rfl)|(exact Zg (R:=RI) (_gR:=inferInstance) (k:=0) elI hYk hYg (OpD.t rfl) OpD.i)|(apply SY.call (hhs) Tryz.call135;(exact aD))|(apply ZAu lnT;exact OpD.t rfl)|(apply ZBG lnT;exact OpD.t rfl)|(apply SY.extract;(exact oD);rfl)|fail);all_goals infer_instance));dsimp only[ZC,z0,z1])|(apply Zc;(exact oD);(with_reducible rfl))|(apply ZQ;(exact oD);(with_reducible rfl))|refine WC.skip ?_|refine WC.block ?_|refine ThenD.n ?_|refine InBlockD.n ?_));all_goals (first|((repeat clear hK);(repeat clear Kx))))
       all_goals try (exfalso;first|contradiction|omega)
       rw[hlc];(refine zNx (seen.push j,Mc) ?_;(try dsimp only))
       exact⟨p1,p2,by rw[hpl,L05.updS_skip hgM hcl];exact q3⟩
  ·have hkI:¬ (k:Int)<(rows.length:Int):=by omega
   obtain rfl:k=rows.length:=by omega
   have hP:=PInv.all (b:=[]) h1 h2 h3 rows.length (Nat.le_refl _);rw[L05.echN_all] at hE;rw[L05.echN_all,hE] at hP;have G:Good05 C (ZAe M):=hP.good;rw[hE];have hko:∀p∈M,ZC8 p.1:=fun p hp=>by
    have hm:(p.1,p.2.2)∈ZAe M:=List.mem_map.2 ⟨p,hp,rfl⟩;have:=G.low _ hm _ (L05.head_mem (G.hd _ hm));have:=G.pos _ hm _ (L05.head_mem (G.hd _ hm));simp only at *;unfold ZC8;omega
   have hkn:(M.map (·.1)).Nodup:=by rw[<- ZDv];exact G.nd
   (repeat' (first|((first|apply WL.opN|apply WD.opN);exact yF;dsimp only[ZC,z0,z1])|refine WL.nil ?_|refine ZA fun Kx hK=>?_|(refine hK _ _ ?_;clear hK)|(refine Kont.skip ?_;clear hK)|refine WC.region ?_|((first|apply WL.opN|apply WD.opN);(focus ((first|(apply ZAA ZEk;exact OpD.t rfl)|((first|apply SY.move|apply SY.assign|apply SY.lss|apply SY.eql) <;> (exact oD))|fail);all_goals infer_instance));dsimp only[ZC,z0,z1])|(apply ZB;(exact oD);all_goals (intro h;try exact xD))|refine WC.exit ?_|refine WC.block ?_))
   all_goals try (exfalso;first|contradiction|omega)
   refine ZCy 155 2 (by decide) LnR ?_;(refine WC.loopU (X:=Nat × Value) (fun z=>[(78,dI (z.1:Int)),(12,dX z.2),(13,dA),(14,dA),(15,dA),(79,dA),(80,dA),(81,dA),(82,dA),(83,dA),(84,dA),(85,dA),(86,dA),(87,dA),(88,dA),(89,dA),(90,dA),(91,dA),(92,dA)]) (fun z=>([Z0 z.2 155 2 LnR (ZF7 (ZAe M) z.1),Zm b4 184 1 false (dX (.map (some bm))),hM bm kvQ (fun p:Value × Ln=>p.1) M,hKL LnR (M.map (·.2)),Zk vd 23 ZAR deps])) (fun z=>C-z.1) (fun z=>z.1≤C/\(ZF7 (ZAe M) z.1).length≤z.1) (0,.slice none 0 0) ?start ?frame0 ?objs0 ?round)
   case start=>exact⟨Nat.zero_le _,Nat.le_refl _⟩
   case frame0=>exact zFr
   case objs0=>rfl
   case round =>
    rintro⟨j,vo⟩ ⟨hj,hjl⟩;simp only at hj hjl;dsimp only[ZL,z0,z1];by_cases hjC:j<C
    ·have hjI:(j:Int)<(C:Int):=by omega
     have hj64:ZC8 (j:Int):=by unfold ZC8;omega
     have hlk:=ZKQ M (j:Int);have hon:=ZPp (ZAe M) j;have h48:((ZF7 (ZAe M) j).length+1)*48≤140737488355328:=by omega
     cases hl:lookM M (j:Int) with
     | none =>
      rw[hl] at hlk;rw[hlk] at hon;simp only[Option.map_none,Option.toList_none,List.append_nil] at hon;((repeat' (first|((first|apply WL.opN|apply WD.opN);exact yF;dsimp only[ZC,z0,z1])|refine WL.nil ?_|refine ZA fun Kx hK=>?_|(refine hK _ _ ?_;clear hK)|refine WC.region ?_ |  (refine WL.alloc (dst:=some 14) ZQb (Zj rfl rfl) fun b14=>?_;dsimp only[ZC,z0,z1]) |  (refine ZP ZLp rfl (OpD.t rfl) (Zj rfl rfl) ?_;dsimp only[ZC,z0,z1])|((first|apply WL.opN|apply WD.opN);(focus ((first|(apply ZBV ZQu;exact OpD.t rfl;exact mAt 1 rfl)|(exact ZJb ZHF ZE2 (OpD.t rfl) (mAt 2 rfl) (OpD.t rfl) isI hj64 hko hkn hl)|((first|apply SY.move|apply SY.assign|apply SY.lss|apply SY.eql) <;> (exact oD))|((first|apply SY.add) <;> first|exact oD|omega)|(apply SY.extract;(exact oD);rfl)|fail);all_goals infer_instance));dsimp only[ZC,z0,z1])|(apply ZQ;(exact oD);(with_reducible rfl))|(apply ZB;(exact oD);all_goals (intro h;try exact xD))|refine WC.skip ?_|refine WC.block ?_|refine ThenD.n ?_));all_goals (first|((repeat clear hK);(repeat clear Kx))))
      all_goals try (exfalso;first|contradiction|omega)
      rw[<- hon];(refine zNx (j+1,vo) ?_;(try dsimp only))
      exact⟨by omega,by rw[hon];omega⟩
     | some p =>
      rw[hl] at hlk;rw[hlk] at hon;simp only[Option.map_some,Option.toList_some] at hon;((repeat' (first|((first|apply WL.opN|apply WD.opN);exact yF;dsimp only[ZC,z0,z1])|refine WL.nil ?_|refine ZA fun Kx hK=>?_|(refine hK _ _ ?_;clear hK)|refine WC.region ?_ |  (refine WL.alloc (dst:=some 14) ZQb (Zj rfl rfl) fun b14=>?_;dsimp only[ZC,z0,z1]) |  (refine ZP ZLp rfl (OpD.t rfl) ZA9 ?_;dsimp only[ZC,z0,z1])|((first|apply Zs|apply Zl);(exact eD);exact OpD.t rfl;(exact oD);(intro _;exact hD);(exact(by simp));(exact(by simp));(first|exact⟨by decide,by decide⟩|skip);decide;(exact lD);(intro _;dsimp only[ZC,z0,z1]);all_goals (try infer_instance))|((first|apply WL.opN|apply WD.opN);(focus ((first|(apply ZBV ZQu;exact OpD.t rfl;exact mAt 1 rfl)|(exact ZJc ZHF ZE2 (OpD.t rfl) (mAt 2 rfl) (mAt 3 rfl) (OpD.t rfl) isI hj64 hko hkn hl (ZMX hl))|((first|apply SY.move|apply SY.assign|apply SY.lss|apply SY.eql) <;> (exact oD))|((first|apply SY.add) <;> first|exact oD|omega)|(apply SY.extract;(exact oD);rfl)|fail);all_goals infer_instance));dsimp only[ZC,z0,z1])|(apply Zc;(exact oD);(with_reducible rfl))|(apply ZB;(exact oD);all_goals (intro h;try exact xD))|refine WC.skip ?_|refine WC.block ?_|refine ThenD.n ?_));all_goals (first|((repeat clear hK);(repeat clear Kx))))
      all_goals try (exfalso;first|contradiction|omega)
      rw[<- hon];(refine zNx (j+1,_) ?_;(try dsimp only))
      exact⟨by omega,by rw[hon,List.length_append,List.length_singleton];omega⟩
    ·have hjI:¬ (j:Int)<(C:Int):=by omega
     obtain rfl:j=C:=by omega
     ((repeat' (first|((first|apply WL.opN|apply WD.opN);exact yF;dsimp only[ZC,z0,z1])|refine WL.nil ?_|refine ZA fun Kx hK=>?_|(refine hK _ _ ?_;clear hK)|(refine Kont.skip ?_;clear hK)|refine WC.region ?_|((first|apply WL.opN|apply WD.opN);(focus ((first|((first|apply SY.move|apply SY.assign|apply SY.lss|apply SY.eql) <;> (exact oD))|fail);all_goals infer_instance));dsimp only[ZC,z0,z1])|(apply ZB;(exact oD);all_goals (intro h;try exact xD))|refine WC.ret ?_|refine WC.exit ?_));all_goals (first|((repeat clear hK);(repeat clear Kx))))
     all_goals try (exfalso;first|contradiction|omega)
     exact⟨trivial,⟨_,rfl,ZBi (mAt 0 rfl) (by rw[hE])⟩,_,rfl,ZDl (mAt 4 rfl) (by rw[hE])⟩
end
end Go.Proofs.YtofkoleingbbpaaGreatDoor
