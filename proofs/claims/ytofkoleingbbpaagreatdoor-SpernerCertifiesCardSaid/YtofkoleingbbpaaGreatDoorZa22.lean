/- Part 22 of the proof. -/
import Derived.Test.YtofkoleingbbpaaGreatDoorZa21
set_option linter.all false
set_option maxRecDepth 100000
set_option maxHeartbeats 64000000
namespace Go.Proofs.YtofkoleingbbpaaGreatDoor
section
open Go.RowKit
open L05 (Ln ZGi ZHK ZB1 RedAt Good05 ZN0 ZJI ZF7 ZK0 ZJU PInv)
theorem ZRm:∀(x y:Operand) ad m c w,(do eqGuard .eql 23 x y (.slice ad m c) (.slice none 0 0);Go.binOp .eql 23 (.slice ad m c) (.slice none 0 0)).run Tryz.prog w = .ok (.bool ad.isNone) w:=by
 intro x y ad m c w;cases ad <;> (go_simp;try (unfold Go.binOp;simp only;unfold Op.equal Op.maxDepth Op.equalIn;simp[run_underlying Tryz.underlying23]))



theorem ZNG (xs:List Int) (hl:xs.length≤1000000):Fn Tryz.prog 134 [dS ZAQ xs] (dS ZAQ xs):=by
 refine zE Tryz.func134 8 ?_;((repeat' (first |  (refine ZIQ 4 rfl fun b hb=>?_;dsimp only[z0,z1])|(apply ZVi;exact yF;dsimp only[ZC,z0,z1])|refine ZVj ?_|refine ZA fun Kx hK=>?_|(refine hK _ _ ?_;clear hK)|refine ZVk ?_ |  (apply ZM4 elI RI;(intro _;dsimp only[ZC,z0,z1]);all_goals (try infer_instance))|((first|apply ZWW|apply ZWX);exact eD;exact ZVh rfl;exact oD;decide;exact lD;(intro _;dsimp only[ZC,z0,z1]);all_goals (try infer_instance))|(apply ZVi;(focus ((first|(apply ZIK;exact ZVh rfl;(exact fun _ _ _ h=>nil_A h);exact ZB0;exact ZRm)|fail);all_goals infer_instance));dsimp only[ZC,z0,z1])|(apply ZWY;exact oD;all_goals (intro h;try exact xD))|refine ZVr ?_|refine ZVs ?_|refine ZVz ?_));all_goals ((repeat clear hK);repeat clear Kx))
 ·rw[hb h];(refine⟨trivial,_,rfl,?_⟩;exact fD)
 ·rw[List.nil_append];(refine⟨trivial,_,rfl,?_⟩;exact fD)
theorem ZNZ {seen:Array Nat} {n j:Nat} (q1:seen.toList.Nodup) (q2:∀i∈seen.toList,i<n) (hj:j<n) (hns:j∉seen.toList):(seen.push j).toList.Nodup/\(∀i∈(seen.push j).toList,i<n)/\seen.size+1≤n:=by
 have h1:(seen.push j).toList.Nodup:=by
  rw[Array.toList_push,List.nodup_append];refine⟨q1,by simp,fun a ha c hc=>?_⟩;rw[List.mem_singleton.1 hc];intro he;exact hns (by rw[<- he];exact ha)
 have h2:∀i∈(seen.push j).toList,i<n:=fun i hi=>by
  rw[Array.toList_push,List.mem_append] at hi;rcases hi with hi|hi
  ·exact q2 i hi
  ·rw[List.mem_singleton.1 hi];exact hj
 refine⟨h1,h2,?_⟩;have:=List.Nodup.length_le_of_subset (l₁:=(seen.push j).toList) (l₂:=List.range n) h1 fun x hx=>List.mem_range.2 (h2 x hx);rw[List.length_range,Array.length_toList,Array.size_push] at this;exact this
theorem ZIs (M:List (Int × Value × Ln)):(ZAc M).length=M.length:=by simp[ZAc]
theorem ZMX {M:List (Int × Value × Ln)} {j:Nat} (h:j<M.length):(ZAc M)[j]?=some (M[j].1,M[j].2.2):=by
 unfold ZAc;rw[List.getElem?_map,List.getElem?_eq_getElem h];rfl
theorem ZDv (M:List (Int × Value × Ln)):(ZAc M).map (·.1)=M.map (·.1):=by
 unfold ZAc;rw[List.map_map];rfl
theorem rot3 {a b c:HObj} {t:List HObj}:(a::b::c::t).Perm (b::c::a::t):=(List.perm_append_comm (l₁:=[a]) (l₂:=[b,c])).append_right t
theorem rot4 {a b c d:HObj} {t:List HObj}:(a::b::c::d::t).Perm (c::d::a::b::t):=(List.perm_append_comm (l₁:=[a,b]) (l₂:=[c,d])).append_right t
theorem ZPr (m:List (Int × Ln)) (j:Nat):ZF7 m (j+1)=ZF7 m j++(ZB1 m (j:Int)).toList:=by
 unfold ZF7;rw[List.range_succ,List.filterMap_append,List.filterMap_cons,List.filterMap_nil];cases ZB1 m (j:Int) <;> rfl
section
variable {P:Program} {ops:Array Oper} {hp:List HObj} {fr:List Dat} {dst:Option Tmp} {ty:TypeId} {ps:String} {af:Array Edge} {g:Option (Nat × Bool)} {K α:Type} {kv:K->Value} {b r:Nat} {R:Rel α} [DecidableEq K] {M:List (K × Value × α)} {_gR:Good R}
theorem ZJZ {x:Operand} {seen:Array Nat} {j:Nat} {l:α} {key:K} (hj:j<M.length) (hl:M[j].2.2=l) (hk':M[j].1=key) (hx:OpD fr x (dX (.pointer (some ⟨r,0,none⟩)))) (hi:hIt b r M.length (seen.push j)∈hp) (hm:hM b kv (fun p:Value × α=>p.1) M∈hp) (hk:hKL R (M.map (·.2))∈hp) :
  SY P ops hp ⟨dst,.entry x,ty,ps,af,g⟩ fr (dT [dX (kv key),dS R l]):=by
 subst hl;subst hk';exact ZN6 hx hi hm hk hj
end
structure EchAt (rows:List (List Int)) (C k:Nat) (M:List (Int × Value × Ln)) (deps:List (List Int)):Prop where
 le:k≤rows.length
 eq:ZN0 rows C k=(ZAc M,deps)
theorem ZTi (C:Nat) (rows:List (List Int)) (hC:C≤4096) (hn:rows.length≤4096) (h1:L05.AllAsc rows) (h2:∀r∈rows,L05.Low (C:Int) r) (h3:∀r∈rows,L05.Pos r) :
  Fn Tryz.prog 104 [dS Mat ((C:Int),rows)] (dT [dS (ArrK 2 LnR) (ZF7 (L05.echP rows C).1 C),dS (Arr ZAQ) (L05.echP rows C).2]):=by
 refine zF Tryz.func104 95 ?_;(repeat' (first|(apply zV;exact yF;exact zQ)|refine ZVj ?_|refine ZA fun Kx hK=>?_|(refine hK _ _ ?_;clear hK)|refine ZVk ?_ |  (refine ZWm kvQ (fun p:Value × Ln=>p.1) fun bm=>?_;dsimp only[ZC,z0,z1]) |  (refine ZWF (dst:=some 4) tzQ3 (Z0 rfl) fun b4=>?_;dsimp only[ZC,z0,z1]) |  (refine ZBk (ZGb ZQw (ZVh rfl) (ZVh rfl) (Z0 rfl)) fun _=>?_;dsimp only[ZC,z0,z1])|(apply zV;(focus ((first|(exact ZGE (vs:=[.pointer (some ⟨b4,0,none⟩)]) (ArgsX.cons (ZVh rfl) ArgsX.nil))|(apply ZAB ZEj;exact ZVh rfl)|(apply ZVu;exact oD;exact nD;exact uD)|(apply ZV3;exact oD;exact hD));all_goals infer_instance));exact zQ)|refine ZVp ?_))
 all_goals try exact xO
 refine Zn 23 ZAQ (ZWe (List.reverse_perm _).symm ?_);refine ZOR (gh:=hKL LnR ([]:List (Value × Ln))) rfl (fun _ _ _ p hp=>absurd hp (by simp)) (ZWe rot3 (ZWe (List.Perm.swap _ _ _) ?_));(refine ZV4 (X:=Nat × List (Int × Value × Ln) × Value × List (List Int)) (fun x=>[(21,dI (x.1:Int)),(6,dX x.2.2.1),(7,dA),(8,dA),(9,dA),(10,dA),(11,dA),(22,dA),(23,dA),(24,dA),(25,dA),(26,dA),(27,dA),(28,dA),(29,dA),(30,dA),(31,dA),(32,dA),(33,dA),(34,dA),(35,dA),(36,dA),(37,dA),(38,dA),(39,dA),(40,dA),(41,dA),(42,dA),(43,dA),(44,dA),(45,dA),(46,dA),(47,dA),(48,dA),(49,dA),(50,dA),(51,dA),(52,dA),(53,dA),(54,dA),(55,dA),(56,dA),(57,dA),(58,dA),(59,dA),(60,dA),(61,dA),(62,dA),(63,dA),(64,dA),(65,dA),(66,dA),(67,dA),(68,dA),(69,dA),(70,dA),(71,dA),(72,dA),(73,dA),(74,dA),(75,dA)]) (fun x=>([Zm b4 184 1 false (dX (.map (some bm))),hM bm kvQ (fun p:Value × Ln=>p.1) x.2.1,hKL LnR (x.2.1.map (·.2)),Zk x.2.2.1 23 ZAQ x.2.2.2])) (fun x=>rows.length-x.1) (fun x=>EchAt rows C x.1 x.2.1 x.2.2.2) (0,[],.slice none 0 0,[]) ?start ?frame0 ?objs0 ?round)
 case start=>exact⟨Nat.zero_le _,rfl⟩
 case frame0=>exact zFr
 case objs0=>rfl
 case round =>
  rintro⟨k,M,vd,deps⟩ ⟨hk,hE⟩;simp only at hk hE;dsimp only[ZH,z0,z1];by_cases hkl:k<rows.length
  ·have hkI:(k:Int)<(rows.length:Int):=by omega
   obtain⟨r,hr⟩:∃r,rows[k]=r:=⟨_,rfl⟩;have hrm:r∈rows:=by rw[<- hr];exact List.getElem_mem hkl
   have hrl:=ZAu (n:=C) (h1 r hrm) fun v hv=>⟨h3 r hrm v hv,h2 r hrm v hv⟩;have hP:=PInv.all (b:=[]) h1 h2 h3 k hk;have hL:=L05.echN_low h1 h2 h3 k hk;rw[hE] at hP hL;have G:Good05 C (ZAc M):=hP.good;have hF:FrmL ((k+1:Nat):Int) (ZAc M):=fun p hp=>L05.low_mono (by omega) (hL.1 p hp);have hcl:=ZNG r (by omega);have hx4:L05.Asc [(k:Int)]/\L05.Pos [(k:Int)]:=⟨List.pairwise_singleton _ _,fun x hx=>by rw[List.mem_singleton.1 hx];omega⟩;have hx5:L05.Low ((k+1:Nat):Int) [(k:Int)]:=fun x hx=>by rw[List.mem_singleton.1 hx];omega
   have hred:=ZUO b4 bm M C (k+1) (r,[(k:Int)]) hC (by omega) G hF (h1 r hrm) (h2 r hrm) (h3 r hrm) hx4 hx5;have hst:=L05.RedAt.start (b:=[]) (C:=C) (m:=ZAc M) (x:=(r,[(k:Int)])) (h1 r hrm) (h2 r hrm) (h3 r hrm) hx4;have hO:=L05.redP_out G (C+1) 0 _ hst;have hYl:=L05.redP_low G hF (C+1) 0 _ hst hx5;have hnx:=L05.echN_succ (C:=C) hkl;rw[hE,hr] at hnx;unfold ZJI at hnx;simp only at hnx;generalize ZHK (ZAc M) (C+1) 0 (r,[(k:Int)])=Y at hred hO hYl hnx;have hY1:=ZAu (n:=C) hO.asc fun v hv=>⟨hO.pos v hv,hO.low v hv⟩;have hY2:=ZAu (n:=k+1) hO.frm.1 fun v hv=>⟨hO.frm.2 v hv,hYl v hv⟩;have hdl:deps.length≤4096:=by
    have:=L05.echN_deps rows C k hk;rw[hE] at this;simp only at this;omega
   have h24:(deps.length+1)*24≤140737488355328:=by omega
   have hred2:CallC Tryz.prog 132 ([dS (R2 (Arr RI) (Arr RI)) (r,[(k:Int)])]++[Value.pointer (some ⟨b4,0,none⟩)].map dX) [Zm b4 184 1 false (dX (.map (some bm))),hM bm kvQ (fun p:Value × Ln=>p.1) M,hKL LnR (M.map (·.2))] (fun d hp2=>d=dS LnR Y/\hp2=[Zm b4 184 1 false (dX (.map (some bm))),hM bm kvQ (fun p:Value × Ln=>p.1) M,hKL LnR (M.map (·.2))]):=hred;(repeat' (first |  (refine WC.only5 8 (Halt5.go ?_))|((first|apply ZVi|apply ZVl);exact yF;dsimp only[ZC,z0,z1])|refine ZVj ?_|refine ZA fun Kx hK=>?_|(refine hK _ _ ?_;clear hK)|refine ZVk ?_ |  (refine WL.callC (hp:=[Zk vd 23 ZAQ deps]) (caps:=[.pointer (some ⟨b4,0,none⟩)]) hred2 Tryz.call132 ?_ ?_ ?_;exact ZVh rfl;exact ZV9 (ZVh rfl) ZWJ;rintro d' hp2 ⟨rfl,rfl⟩;dsimp only[ZC,z0,z1,List.cons_append,List.nil_append]) |  (refine ZWF (dst:=some 9) ZQd (Zj rfl rfl) fun b9=>?_;dsimp only[ZC,z0,z1]) |  (refine ZR ZLq rfl (ZVh rfl) ZA9 ?_;dsimp only[ZC,z0,z1])|((first|apply ZVi|apply ZVl);(focus ((first|(exact Zg (R:=ZAQ) (_gR:=inferInstance) ZDj hkl hr (ZVh rfl) (ZVh rfl))|(apply ZVm (hcl) Tryz.call134;exact aD)|(exact ZOJ lnT (R:=RI) (S:=RI) (_gR:=inferInstance) (_gS:=inferInstance) (ZVh rfl) (ZVh rfl))|((first|apply ZVo|apply ZVn|apply ZVq|apply ZV7) <;> exact oD)|(apply ZWb;exact eD;((try simp only[List.map_cons,List.map_nil]);(repeat (first|exact Zr|(apply Zp;(first|exact ZVh rfl|exact ZV5|exact ZWE|exact ZWD rfl (by first|exact ZN|exact ZJ (by decide))|exact⟨ZN⟩|exact⟨ZJ (by decide)⟩)))));rfl;rfl;(intro _;first|exact ZAd|exact ZAS|exact ZAI|exact shape_B);(exact(by simp)))|fail);all_goals infer_instance));dsimp only[ZC,z0,z1])|(apply ZB;exact oD;all_goals (intro h;try exact xD))|refine ZVr ?_|refine ZVp ?_))
   all_goals try exact xO
   refine⟨?_⟩;cases hYc:Y.1 with
   | nil =>
    rw[hYc] at hnx;simp only at hnx;have hY0:((Y.1.length:Nat):Int)=0:=by rw[hYc];rfl
    ((repeat' (first|(apply zV;exact yF;exact zQ)|refine ZVj ?_|refine ZA fun Kx hK=>?_|(refine hK _ _ ?_;clear hK)|(refine ZV0 ?_;clear hK)|refine ZVk ?_ |  (refine ZBk (SW.at 3 rfl fun q=>SW.app1 ZDj (R:=ZAQ) (_gR:=inferInstance) (ZVh rfl) (ZVh rfl) (by decide) h24) fun v2=>?_;dsimp only[ZC,z0,z1])|(apply zV;(focus ((first|(apply ZAt lnT;exact ZVh rfl)|(apply ZBG lnT;exact ZVh rfl)|exact yG|(apply ZAt lnT;exact ZVh rfl)|(apply ZBG lnT;exact ZVh rfl)|(apply ZWb;exact eD;((try simp only[List.map_cons,List.map_nil]);(repeat (first|exact Zr|(apply Zp;(first|exact ZVh rfl|exact ZV5|exact ZWE|exact ZWD rfl (by first|exact ZN|exact ZJ (by decide))|exact⟨ZN⟩|exact⟨ZJ (by decide)⟩)))));rfl;rfl;(intro _;first|exact ZAd|exact ZAS|exact ZAI|exact shape_B);(exact(by simp))));all_goals infer_instance));exact zQ)|(apply ZB;exact oD;all_goals (intro h;try exact xD))|refine ZV1 ?_|refine ZVx ?_));all_goals ((repeat clear hK);repeat clear Kx))
    all_goals try exact xO
    (refine zNx (k+1,M,_,deps++[Y.2]) ?_;(try dsimp only))
    exact⟨hkl,hnx⟩
   | cons c t =>
    rw[hYc] at hnx;simp only at hnx;have hY0:¬ ((Y.1.length:Nat):Int)=0:=by rw[hYc];simp;omega
    have hYk:0<Y.1.length:=by rw[hYc];simp
    have hYg:Y.1[0]=c:=by simp only[hYc];rfl
    have hcY:c∈Y.1:=by rw[hYc];simp
    have hc64:ZC9 c:=by have:=hO.low c hcY;have:=hO.pos c hcY;unfold ZC9;omega
    have hko:∀p∈M,ZC9 p.1:=fun p hp=>by
     have hm:(p.1,p.2.2)∈ZAc M:=List.mem_map.2 ⟨p,hp,rfl⟩;have:=G.low _ hm _ (L05.head_mem (G.hd _ hm));have:=G.pos _ hm _ (L05.head_mem (G.hd _ hm));simp only at *;unfold ZC9;omega
    have hkn:(M.map (·.1)).Nodup:=by rw[<- ZDv];exact G.nd
    (repeat' (first|(apply zV;exact yF;exact zQ)|refine ZVj ?_|refine ZA fun Kx hK=>?_|(refine hK _ _ ?_;clear hK)|refine ZVk ?_ |  (refine ZOg ZHE (ZVh rfl) (mAt 1 rfl) fun b=>?_;dsimp only[ZC,z0,z1])|(apply zV;(focus ((first|(apply ZAt lnT;exact ZVh rfl)|(apply ZBV ZQw;exact ZVh rfl;exact mAt 0 rfl)|((first|apply ZVo|apply ZVn|apply ZVq|apply ZV7) <;> exact oD)|(apply ZVu;exact oD;exact nD;exact uD)|(apply ZAt lnT;exact ZVh rfl)|(apply ZBG lnT;exact ZVh rfl));all_goals infer_instance));exact zQ)|(apply ZB;exact oD;all_goals (intro h;try exact xD))|refine ZVr ?_|refine ZVp ?_))
    all_goals try exact xO
    (refine ZV4 (X:=Array Nat × List (Int × Value × Ln)) (fun z=>[(10,dA),(11,dA),(44,dA),(45,dA),(46,dA),(47,dA),(48,dA),(49,dA),(50,dA),(51,dA),(52,dA),(53,dA),(54,dA),(55,dA),(56,dA),(57,dA),(58,dA),(59,dA),(60,dA),(61,dA),(62,dA),(63,dA),(64,dA),(65,dA),(66,dA),(67,dA),(68,dA)]) (fun z=>([hIt bm b M.length z.1,Zm b4 184 1 false (dX (.map (some bm))),hM bm kvQ (fun p:Value × Ln=>p.1) z.2,hKL LnR (z.2.map (·.2)),Zk vd 23 ZAQ deps])) (fun z=>M.length-z.1.size) (fun z=>z.1.toList.Nodup/\(∀i∈z.1.toList,i<M.length)/\ZAc z.2=ZK0 (ZAc M) Y c z.1.toList) (#[],M) ?start ?frame0 ?objs0 ?round)
    case start=>exact⟨List.nodup_nil,(fun i hi=>by simp at hi),(L05.updS_nil _ _ _).symm⟩
    case frame0=>exact zFr
    case objs0=>rfl
    case round =>
     rintro⟨seen,Mc⟩ ⟨q1,q2,q3⟩;simp only at q1 q2 q3;dsimp only[ZH,z0,z1];have hlc:Mc.length=M.length:=by rw[<- ZIs,q3,L05.updS_len,ZIs]
     have hkc:Mc.map (·.1)=M.map (·.1):=by rw[<- ZDv,q3,L05.updS_keys,ZDv]
     have hcn:(Mc.map (·.1)).Nodup:=by rw[hkc];exact hkn
     have hco:∀p∈Mc,ZC9 p.1:=fun p hp=>by
      have:p.1∈M.map (·.1):=by rw[<- hkc];exact List.mem_map_of_mem hp
      obtain⟨q,hq,e⟩:=List.mem_map.1 this;rw[<- e];exact hko q hq
     refine ZA fun Kx hK=>?_;refine ZVk ?_;rw[<- hlc];refine ZRM (ZVh rfl) (mAt 1 rfl) (fun hall=>?_) (fun j hj hns=>?_)
     ·dsimp only[ZC,z0,z1];have hfin:ZAc Mc=ZJU (ZAc M) Y c:=by
       rw[q3];exact L05.updS_all fun j hj=>by
        rw[ZIs,<- hlc] at hj;simpa using hall j hj
      have hnew:∀p∈Mc,p.1≠c:=fun p hp e=>by
       have h5:p.1∈M.map (·.1):=by rw[<- hkc];exact List.mem_map_of_mem hp
       rw[<- ZDv] at h5;obtain⟨q,hq,e2⟩:=List.mem_map.1 h5;exact L05.lookP_none (hO.no c hcY) q hq (e2.trans e)
      have hput:=fun(v:Value)=>ZDa (v:=(v,Y)) hnew;have hfin2:∀v:Value,ZAc (Mc++[(c,(v,Y))])=ZJU (ZAc M) Y c++[(c,Y)]:=fun v=>by
       rw[<- hfin];unfold ZAc;rw[List.map_append];rfl
      refine ZIO ?_;((repeat' (first |  (apply ZWk (id:=15) 6;kernel_rfl;kernel_rfl;simp only[List.take_succ_cons,List.take_zero,List.drop_succ_cons,List.drop_zero])|((first|apply ZVi|apply ZVl);exact yF;dsimp only[ZC,z0,z1])|refine ZVj ?_|refine WD.nil ?_|refine ZA fun Kx hK=>?_|(refine hK _ _ ?_;clear hK)|(refine ZV0 ?_;clear hK)|refine ZVk ?_ |  (refine ZWP rot3 (ZOe (R:=LnR) (_gR:=inferInstance) (s:=74) ZHE ZE1 (fun _=>ZVh rfl) (fun _=>ZVh rfl) isI rfl (fun _=>ZVh rfl) hc64 hco hcn fun q=>?_);rw[hput];refine ZWP rot3.symm ?_;dsimp only[ZC,z0,z1])|((first|apply ZVi|apply ZVl);(focus ((first|(apply ZAt lnT;exact ZVh rfl)|(apply ZBV ZQw;exact ZVh rfl;exact mAt 0 rfl)|(exact Zg (R:=RI) (_gR:=inferInstance) (k:=0) elI hYk hYg (ZVh rfl) ZV5)|((first|apply ZV2) <;> first|exact oD|omega)|(apply ZAt lnT;exact ZVh rfl)|(apply ZBG lnT;exact ZVh rfl)|(apply ZWG;exact oD;rfl)|fail);all_goals infer_instance));dsimp only[ZC,z0,z1])|(apply ZQ;exact oD;(with_reducible rfl))|refine ZV1 ?_|refine ZVx ?_));all_goals ((repeat clear hK);repeat clear Kx))
      all_goals try exact xO
      (refine zNx (k+1,Mc++[(c,(q,Y))],_,deps) ?_;(try dsimp only))
      exact⟨hkl,by rw[hnx,hfin2]⟩
     ·dsimp only[ZC,z0,z1];have hns':j∉seen.toList:=fun q=>hns (by simpa using q);have hjM:j<M.length:=by omega
      obtain⟨p1,p2,p3⟩:=ZNZ q1 q2 hjM hns';have hpl:(seen.push j).toList=seen.toList++[j]:=Array.toList_push ..;have hsz:(seen.push j).size=seen.size+1:=Array.size_push ..;have hgM:=ZMX hjM;have hgc:=ZMX hj;rw[q3,L05.updS_here hns',hgM] at hgc;have hgl:M[j].2.2=Mc[j].2.2:=by
       have:=Option.some.inj hgc;exact(Prod.mk.inj this).2
      have hgk:M[j].1=Mc[j].1:=by
       have:=Option.some.inj hgc;exact(Prod.mk.inj this).1
      obtain⟨l,hl⟩:∃l,Mc[j].2.2=l:=⟨_,rfl⟩;obtain⟨ky,hky⟩:∃ky,Mc[j].1=ky:=⟨_,rfl⟩;rw[hl] at hgl;rw[hky] at hgk;rw[hgl,hgk] at hgM;have hmm:(ky,l)∈ZAc M:=List.mem_of_getElem? hgM;have la:=G.asc _ hmm;have lf:=G.frm _ hmm;have ll:=G.low _ hmm;have lp:=G.pos _ hmm;have lF:=hF _ hmm;simp only at la lf ll lp lF;have hl1:=ZAu (n:=C) la fun v hv=>⟨lp v hv,ll v hv⟩;have hl2:=ZAu (n:=k+1) lf.1 fun v hv=>⟨lf.2 v hv,lF v hv⟩;have hhs:=ZTs l.1 c la (by omega);have hs1:=ZHP l.1 Y.1 (by omega);have hs2:=ZHP l.2 Y.2 (by omega);by_cases hcl:c∈l.1
      ·rw[decide_eq_true hcl] at hhs;have hkj:ZC9 ky:=hky ▸ hco _ (List.getElem_mem hj);have hput:=fun(v:Value)=>ZFA (v:=(v,(L05.plus l.1 Y.1,L05.plus l.2 Y.2))) hcn hj;rw[hky] at hput;have hst2:∀v:Value,ZAc (Mc.set j (ky,(v,(L05.plus l.1 Y.1,L05.plus l.2 Y.2))))=ZK0 (ZAc M) Y c (seen.push j).toList:=fun v=>by
        rw[hpl,L05.updS_set hgM hcl,<- q3];unfold ZAc;rw[List.map_set];rfl
       have hlz:∀v:Value,(Mc.set j (ky,(v,(L05.plus l.1 Y.1,L05.plus l.2 Y.2)))).length=Mc.length:=fun v=>List.length_set ..;((repeat' (first |  (apply ZWk (id:=14) 13;kernel_rfl;kernel_rfl;simp only[List.take_succ_cons,List.take_zero,List.drop_succ_cons,List.drop_zero])|((first|apply ZVi|apply ZVl);exact yF;dsimp only[ZC,z0,z1])|refine ZVj ?_|refine WD.nil ?_|refine ZA fun Kx hK=>?_|(refine hK _ _ ?_;clear hK)|refine ZVk ?_|(apply ZWB;kernel_rfl;kernel_rfl) |  (refine ZWF (dst:=some 11) ZQd (Zj rfl rfl) fun b11=>?_;dsimp only[ZC,z0,z1]) |  (refine ZR ZLq rfl (ZVh rfl) ZA9 ?_;dsimp only[ZC,z0,z1]) |  (refine ZWP rot4 (ZOe (R:=LnR) (_gR:=inferInstance) (s:=68) ZHE ZE1 (fun _=>ZVh rfl) (fun _=>ZVh rfl) isI rfl (fun _=>ZVh rfl) hkj hco hcn fun q=>?_);rw[hput];refine ZWP rot4 ?_;dsimp only[ZC,z0,z1])|((first|apply ZVi|apply ZVl);(focus ((first|(exact ZJZ (R:=LnR) (_gR:=inferInstance) hj hl hky (ZVh rfl) (mAt 0 rfl) (mAt 2 rfl) (mAt 3 rfl))|(apply ZAt lnT;exact ZVh rfl)|(apply ZBG lnT;exact ZVh rfl)|(apply ZBV ZQw;exact ZVh rfl;exact mAt 1 rfl)|(exact Zg (R:=RI) (_gR:=inferInstance) (k:=0) elI hYk hYg (ZVh rfl) ZV5)|(apply ZVm (hhs) Tryz.call135;exact aD)|(apply ZVm (hs1) Tryz.call133;exact ZV9 (ZVh rfl) (ZV9 (ZVh rfl) (ZWJ)))|(apply ZVm (hs2) Tryz.call133;exact ZV9 (ZVh rfl) (ZV9 (ZVh rfl) (ZWJ)))|(exact ZOJ lnT (R:=RI) (S:=RI) (_gR:=inferInstance) (_gS:=inferInstance) (ZVh rfl) (ZVh rfl))|(apply ZAt lnT;exact ZVh rfl)|(apply ZBG lnT;exact ZVh rfl)|(apply ZWG;exact oD;rfl)|fail);all_goals infer_instance));dsimp only[ZC,z0,z1])|(apply Zf;exact oD;(with_reducible rfl))|refine ZVr ?_|refine ZVp ?_|refine ZVx ?_|refine ZWc ?_));all_goals ((repeat clear hK);repeat clear Kx))
       all_goals try exact xO
       rw[hlc];(refine zNx (seen.push j,Mc.set j (ky,(q,(L05.plus l.1 Y.1,L05.plus l.2 Y.2)))) ?_;(try dsimp only))
       exact⟨p1,p2,hst2 q⟩
      ·rw[decide_eq_false hcl] at hhs;((repeat' (first|refine zS ?_|refine WD.nil ?_|refine ZA fun Kx hK=>?_|(refine hK _ _ ?_;clear hK)|(apply ZWB;kernel_rfl;kernel_rfl) |  (refine ZWF (dst:=some 11) ZQd (Zj rfl rfl) fun b11=>?_;dsimp only[ZC,z0,z1]) |  (refine ZR ZLq rfl (ZVh rfl) ZA9 ?_;dsimp only[ZC,z0,z1])|((first|apply ZVi|apply ZVl);(focus ((first|(exact ZJZ (R:=LnR) (_gR:=inferInstance) hj hl hky (ZVh rfl) (mAt 0 rfl) (mAt 2 rfl) (mAt 3 rfl))|(apply ZAt lnT;exact ZVh rfl)|(exact Zg (R:=RI) (_gR:=inferInstance) (k:=0) elI hYk hYg (ZVh rfl) ZV5)|(apply ZVm (hhs) Tryz.call135;exact aD)|(apply ZAt lnT;exact ZVh rfl)|(apply ZBG lnT;exact ZVh rfl)|exact yG|fail);all_goals infer_instance));dsimp only[ZC,z0,z1])|(apply Zf;exact oD;(with_reducible rfl))|(apply ZQ;exact oD;(with_reducible rfl))|refine ZVr ?_|refine ZVp ?_|refine ZVx ?_|refine ZWc ?_));all_goals ((repeat clear hK);repeat clear Kx))
       all_goals try exact xO
       rw[hlc];(refine zNx (seen.push j,Mc) ?_;(try dsimp only))
       exact⟨p1,p2,by rw[hpl,L05.updS_skip hgM hcl];exact q3⟩
  ·have hkI:¬ (k:Int)<(rows.length:Int):=by omega
   obtain rfl:k=rows.length:=by omega
   have hP:=PInv.all (b:=[]) h1 h2 h3 rows.length (Nat.le_refl _);rw[L05.echN_all] at hE;rw[L05.echN_all,hE] at hP;have G:Good05 C (ZAc M):=hP.good;rw[hE];have hko:∀p∈M,ZC9 p.1:=fun p hp=>by
    have hm:(p.1,p.2.2)∈ZAc M:=List.mem_map.2 ⟨p,hp,rfl⟩;have:=G.low _ hm _ (L05.head_mem (G.hd _ hm));have:=G.pos _ hm _ (L05.head_mem (G.hd _ hm));simp only at *;unfold ZC9;omega
   have hkn:(M.map (·.1)).Nodup:=by rw[<- ZDv];exact G.nd
   (repeat' (first|refine zS ?_|refine ZA fun Kx hK=>?_|(refine hK _ _ ?_;clear hK)|(refine ZV0 ?_;clear hK)|(apply zV;(focus ((first|(apply Z9 ZEj;exact ZVh rfl)|((first|apply ZVo|apply ZVn|apply ZVq|apply ZV7) <;> exact oD));all_goals infer_instance));exact zQ)|(apply ZB;exact oD;all_goals (intro h;try exact xD))|refine ZV1 ?_|refine ZVp ?_))
   all_goals try exact xO
   refine ZCz 155 2 (by decide) LnR ?_;(refine ZV4 (X:=Nat × Value) (fun z=>[(78,dI (z.1:Int)),(12,dX z.2),(13,dA),(14,dA),(15,dA),(79,dA),(80,dA),(81,dA),(82,dA),(83,dA),(84,dA),(85,dA),(86,dA),(87,dA),(88,dA),(89,dA),(90,dA),(91,dA),(92,dA)]) (fun z=>([Zx z.2 155 2 LnR (ZF7 (ZAc M) z.1),Zm b4 184 1 false (dX (.map (some bm))),hM bm kvQ (fun p:Value × Ln=>p.1) M,hKL LnR (M.map (·.2)),Zk vd 23 ZAQ deps])) (fun z=>C-z.1) (fun z=>z.1≤C/\(ZF7 (ZAc M) z.1).length≤z.1) (0,.slice none 0 0) ?start ?frame0 ?objs0 ?round)
   case start=>exact⟨Nat.zero_le _,Nat.le_refl _⟩
   case frame0=>exact zFr
   case objs0=>rfl
   case round =>
    rintro⟨j,vo⟩ ⟨hj,hjl⟩;simp only at hj hjl;dsimp only[ZH,z0,z1];by_cases hjC:j<C
    ·have hjI:(j:Int)<(C:Int):=by omega
     have hj64:ZC9 (j:Int):=by unfold ZC9;omega
     have hlk:=ZKQ M (j:Int);have hon:=ZPr (ZAc M) j;have h48:((ZF7 (ZAc M) j).length+1)*48≤140737488355328:=by omega
     cases hl:lookM M (j:Int) with
     | none =>
      rw[hl] at hlk;rw[hlk] at hon;simp only[Option.map_none,Option.toList_none,List.append_nil] at hon;((repeat' (first|(apply zV;exact yF;exact zQ)|refine ZVj ?_|refine ZA fun Kx hK=>?_|(refine hK _ _ ?_;clear hK)|refine ZVk ?_ |  (refine ZWF (dst:=some 14) ZQd (Zj rfl rfl) fun b14=>?_;dsimp only[ZC,z0,z1]) |  (refine ZR ZLq rfl (ZVh rfl) (Zj rfl rfl) ?_;dsimp only[ZC,z0,z1])|(apply zV;(focus ((first|(apply ZBV ZQw;exact ZVh rfl;exact mAt 1 rfl)|(exact ZJb ZHE ZE1 (ZVh rfl) (mAt 2 rfl) (ZVh rfl) isI hj64 hko hkn hl)|exact yG);all_goals infer_instance));exact zQ)|(apply ZQ;exact oD;(with_reducible rfl))|(apply ZB;exact oD;all_goals (intro h;try exact xD))|refine ZVr ?_|refine ZVp ?_|refine ZVx ?_));all_goals ((repeat clear hK);repeat clear Kx))
      all_goals try exact xO
      rw[<- hon];(refine zNx (j+1,vo) ?_;(try dsimp only))
      exact⟨by omega,by rw[hon];omega⟩
     | some p =>
      rw[hl] at hlk;rw[hlk] at hon;simp only[Option.map_some,Option.toList_some] at hon;((repeat' (first|(apply zV;exact yF;exact zQ)|refine ZVj ?_|refine ZA fun Kx hK=>?_|(refine hK _ _ ?_;clear hK)|refine ZVk ?_ |  (refine ZWF (dst:=some 14) ZQd (Zj rfl rfl) fun b14=>?_;dsimp only[ZC,z0,z1]) |  (refine ZR ZLq rfl (ZVh rfl) ZA9 ?_;dsimp only[ZC,z0,z1])|((first|apply Zq|apply Zl);exact eD;exact ZVh rfl;exact oD;(intro _;exact hD);(exact(by simp));(exact(by simp));(first|exact⟨by decide,by decide⟩|skip);decide;exact lD;(intro _;dsimp only[ZC,z0,z1]);all_goals (try infer_instance))|(apply zV;(focus ((first|(apply ZBV ZQw;exact ZVh rfl;exact mAt 1 rfl)|(exact ZJc ZHE ZE1 (ZVh rfl) (mAt 2 rfl) (mAt 3 rfl) (ZVh rfl) isI hj64 hko hkn hl (ZMZ hl))|exact yG);all_goals infer_instance));exact zQ)|(apply Zf;exact oD;(with_reducible rfl))|(apply ZB;exact oD;all_goals (intro h;try exact xD))|refine ZVr ?_|refine ZVp ?_|refine ZVx ?_));all_goals ((repeat clear hK);repeat clear Kx))
      all_goals try exact xO
      rw[<- hon];(refine zNx (j+1,_) ?_;(try dsimp only))
      exact⟨by omega,by rw[hon,List.length_append,List.length_singleton];omega⟩
    ·have hjI:¬ (j:Int)<(C:Int):=by omega
     obtain rfl:j=C:=by omega
     ((repeat' (first|refine zS ?_|refine ZA fun Kx hK=>?_|(refine hK _ _ ?_;clear hK)|(refine ZV0 ?_;clear hK)|(apply zV;exact yG;exact zQ)|(apply ZB;exact oD;all_goals (intro h;try exact xD))|refine ZVs ?_|refine ZV1 ?_));all_goals ((repeat clear hK);repeat clear Kx))
     all_goals try exact xO
     exact⟨trivial,⟨_,rfl,ZBi (mAt 0 rfl) (by rw[hE])⟩,_,rfl,ZDl (mAt 4 rfl) (by rw[hE])⟩
end
section
open Go.RowKit
section
variable {P:Program}
def fin4F (t u v x:Nat) (r s q p:Dat):Z4:=fun e fr hp=>(match e with|.normal|.ret=>True|_=>False)/\(∃d,fr[t]?=some d/\FinD hp d r)/\(∃d,fr[u]?=some d/\FinD hp d s)/\(∃d,fr[v]?=some d/\FinD hp d q)/\∃d,fr[x]?=some d/\FinD hp d p
theorem ZI7 {fn:Func} {t u v x:Tmp} (h:fn.results=#[.tmp t,.tmp u,.tmp v,.tmp x]) (tmps:Array Value) (w:World):(results fn tmps).run P w = .ok (.tuple #[tmps.getD t undef,tmps.getD u undef,tmps.getD v undef,tmps.getD x undef]) w:=by
 simp[results,h]
theorem ZMw {f:FuncId} {fn:Func} {c:Code} {args:List Dat} {r s q p:Dat} {t u v x:Tmp} (hf:P.funcs[f]?=some fn) (hb:fn.body=some c) (hr:fn.results=#[.tmp t,.tmp u,.tmp v,.tmp x])
  (h:WC P (fin4F t u v x r s q p) c (args++List.replicate (fn.ntmps-args.length) (dX undef)) []):Fn P f args (dT [r,s,q,p]) :=
 ZBr hf hb (fun e fr hp k=>by
  obtain⟨he,⟨d,hd,hfin⟩,⟨d',hd',hfin'⟩,⟨d2,hd2,hfin2⟩,d3,hd3,hfin3⟩:=k;refine⟨by cases e <;> simp_all,fun {P0 B w0 w a} hh hf'=>⟨_,ZI7 hr _ _,[a.tmps.getD t undef,a.tmps.getD u undef,a.tmps.getD v undef,a.tmps.getD x undef],rfl,rfl,fun i e y he hx=>?_⟩⟩
  match i,he,hx with
  | 0,he,hx=>cases he;cases hx;exact hfin.out hh (hf'.rd t d hd)
  | 1,he,hx=>cases he;cases hx;exact hfin'.out hh (hf'.rd u d' hd')
  | 2,he,hx=>cases he;cases hx;exact hfin2.out hh (hf'.rd v d2 hd2)
  | 3,he,hx=>cases he;cases hx;exact hfin3.out hh (hf'.rd x d3 hd3)) h
end
end
section
open Go.RowKit
open L05 (Ln ZF7 PInv Good05 ZBw solP ZSA hdI)
section
variable {P:Program} {ops:Array Oper} {hp:List HObj} {fr:List Dat} {dst:Option Tmp} {ty:TypeId} {ps:String} {af:Array Edge} {g:Option (Nat × Bool)}
theorem ZBK {n:Nat} {x i:Operand} {t e:TypeId} {z:Value} {bytes:Nat} {ag:Bool} (E:ElT P t e n z bytes ag) {α:Type} {R:Rel α} {_gR:Good R} {xs:List α} {k:Nat} {v:α} (hk:k<xs.length) (hv:xs[k]=v) (hx:OpD fr x (dS (ArrK n R) xs)) (hi:OpD fr i (dI (k:Int))) :
  SY P ops hp ⟨dst,.indexAddr t x i,ty,ps,af,g⟩ fr (dP n true (dS R v)):=hv ▸ Zy E hx hi hk
end



theorem ZQV (C:Nat) (rows:List (List Int)) (b:List Int) (hC:C≤4096) (hn:rows.length≤4096) (h1:L05.AllAsc rows) (h2:∀r∈rows,L05.Low (C:Int) r) (h3:∀r∈rows,L05.Pos r) (hb:VecI (rows.length:Int) b) :
  Fn Tryz.prog 62 [dS Mat ((C:Int),rows),dS ZAQ b] (dT [dS ZAQ ((solP rows b C).getD []),dA,dB (solP rows b C).isSome,dI 0]):=by
 have hrl:∀r∈rows,r.length≤C:=fun r hr=>ZAu (n:=C) (h1 r hr) fun v hv=>⟨h3 r hr v hv,h2 r hr v hv⟩;have hbl:b.length≤rows.length:=ZAu hb.asc hb.rng;have hck:=ZO2 (C:Int) rows (by omega) (by omega) fun r hr=>⟨⟨h1 r hr,fun v hv=>⟨h3 r hr v hv,h2 r hr v hv⟩⟩,by have:=hrl r hr;omega⟩;have hvb:=ZQj b (rows.length:Int) hb (by omega);have hech:=ZTi C rows hC hn h1 h2 h3;have hP:=PInv.all (b:=[]) h1 h2 h3 rows.length (Nat.le_refl _);have hL:=L05.echN_low h1 h2 h3 rows.length (Nat.le_refl _);have hDl:=L05.echN_deps rows C rows.length (Nat.le_refl _);rw[L05.echN_all] at hP hL hDl;have G:Good05 C (L05.echP rows C).1:=hP.good;have hdep:=hP.dep;rw[L05.solP_out G];obtain⟨⟨m,deps⟩,hE⟩:∃s,L05.echP rows C=s:=⟨_,rfl⟩;rw[hE] at hech G hdep hL hDl ⊢;simp only at G hdep hL hDl hech;have hO:∀l∈ZF7 m C,L05.Asc l.2/\l.2.length≤rows.length/\l.1.head?=some (hdI l.1):=fun l hl=>by
  obtain⟨c,hc⟩:=(L05.outP_mem G).1 hl;have q1:=G.frm _ hc;have q2:=hL.1 _ hc;have q3:=G.hd _ hc;simp only at q1 q2 q3;refine⟨q1.1,ZAu q1.1 fun v hv=>⟨q1.2 v hv,q2 v hv⟩,?_⟩;unfold hdI;rw[q3];rfl
 have hol:(ZF7 m C).length≤C:=by
  unfold ZF7;exact Nat.le_trans (List.length_filterMap_le ..) (by simp)
 generalize ZF7 m C=ls at hech hO hol ⊢;refine ZMw Tryz.func62 rfl rfl ?_
 -- @kinds matrix.Solve
 simp only[Tryz.ntmps62,List.length_cons,List.length_nil,Nat.reduceAdd,Nat.reduceSub,List.replicate_succ,List.replicate_zero,List.cons_append,List.nil_append];(repeat' (first|refine zS ?_|refine ZA fun Kx hK=>?_|(refine hK _ _ ?_;clear hK)|(apply zV;(focus ((first|(apply ZVm (hck) Tryz.call102;exact aD)|(apply ZVm (hvb) Tryz.call103;exact aD)|(apply ZVm (hech) Tryz.call104;exact aD)|(apply ZAB ZEj;exact ZVh rfl)|((first|apply ZVo|apply ZVn|apply ZVq|apply ZVv) <;> exact oD)|(apply ZVu;exact oD;exact nD;exact uD)|(apply ZWG;exact oD;rfl)|(apply ZV3;exact oD;exact hD));all_goals infer_instance));exact zQ)|(apply ZG;exact oD;all_goals (intro h;try exact xD))|refine ZVr ?_|refine ZVp ?_))
 all_goals try exact xO
 (refine ZV4 (X:=Nat) (fun k=>[(37,dI (k:Int)),(4,dA),(5,dA),(6,dA),(7,dA),(13,dA),(38,dA),(39,dA),(40,dA),(41,dA),(42,dA),(43,dA),(44,dA),(45,dA)]) (fun k=>[]) (fun k=>deps.length-k) (fun k=>k≤deps.length/\∀y∈deps.take k,ZBw y b=false) 0 ?start ?frame0 ?objs0 ?round)
 case start=>exact⟨Nat.zero_le _,fun y hy=>by simp at hy⟩
 case frame0=>exact zFr
 case objs0=>rfl
 case round =>
  rintro k ⟨hk,hno⟩;dsimp only[ZH,z0,z1];by_cases hkl:k<deps.length
  ·have hkI:(k:Int)<(deps.length:Int):=by omega
   obtain⟨y,hy⟩:∃y,deps[k]=y:=⟨_,rfl⟩;have hym:y∈deps:=by rw[<- hy];exact List.getElem_mem hkl
   have hyl:=ZAu (n:=rows.length) (hdep y hym).1 fun v hv=>⟨(hdep y hym).2 v hv,hL.2 y hym v hv⟩;have hod:=ZPm y b (hdep y hym).1 hb.asc (by omega);cases ho:ZBw y b with
   | true =>
    rw[ho] at hod;have hany:(deps.any fun y=>ZBw y b)=true:=List.any_eq_true.2 ⟨y,hym,ho⟩;rw[if_pos hany];((repeat' (first|refine zS ?_|refine ZA fun Kx hK=>?_|(refine hK _ _ ?_;clear hK)|(apply zV;(focus ((first|(exact Zg (R:=ZAQ) (_gR:=inferInstance) ZDj hkl hy (ZVh rfl) (ZVh rfl))|(apply ZVm (hod) Tryz.call105;exact aD)|exact yG);all_goals infer_instance));exact zQ)|(apply Zf;exact oD;(with_reducible rfl))|(apply ZB;exact oD;all_goals (intro h;try exact xD))|refine ZVr ?_|refine ZVs ?_|refine ZVp ?_|refine ZVz ?_|refine ZWC ?_));all_goals ((repeat clear hK);repeat clear Kx))
    all_goals try exact xO
    exact⟨trivial,⟨_,rfl,ZWR ZN⟩,⟨_,rfl,ZWR (ZBh _)⟩,⟨_,rfl,ZWL rfl⟩,_,rfl,ZWR (ZCO rfl)⟩
   | false =>
    rw[ho] at hod;((repeat' (first|refine zS ?_|refine ZA fun Kx hK=>?_|(refine hK _ _ ?_;clear hK)|(apply zV;(focus ((first|(exact Zg (R:=ZAQ) (_gR:=inferInstance) ZDj hkl hy (ZVh rfl) (ZVh rfl))|(apply ZVm (hod) Tryz.call105;exact aD)|exact yG);all_goals infer_instance));exact zQ)|(apply ZQ;exact oD;(with_reducible rfl))|(apply ZB;exact oD;all_goals (intro h;try exact xD))|refine ZVr ?_|refine ZVp ?_|refine ZVx ?_));all_goals ((repeat clear hK);repeat clear Kx))
    all_goals try exact xO
    (refine zNx (k+1) ?_;(try dsimp only))
    refine⟨hkl,fun z hz=>?_⟩;rw[List.take_add_one,List.getElem?_eq_getElem hkl,hy] at hz;rcases List.mem_append.1 hz with hz|hz
    ·exact hno z hz
    ·simp only[Option.toList_some,List.mem_singleton] at hz;rw[hz];exact ho
  ·have hkI:¬ (k:Int)<(deps.length:Int):=by omega
   obtain rfl:k=deps.length:=by omega
   rw[List.take_length] at hno;have hany:¬ (deps.any fun y=>ZBw y b)=true:=fun q=>by
    obtain⟨y,hy,ho⟩:=List.any_eq_true.1 q;rw[hno y hy] at ho;cases ho
   rw[if_neg hany];(repeat' (first|refine zS ?_|refine ZA fun Kx hK=>?_|(refine hK _ _ ?_;clear hK)|(refine ZV0 ?_;clear hK)|(apply zV;(focus ((first|((first|apply ZVo|apply ZVn|apply ZVq|apply ZVv) <;> exact oD)|(apply ZVu;exact oD;exact nD;exact uD));all_goals infer_instance));exact zQ)|(apply ZB;exact oD;all_goals (intro h;try exact xD))|refine ZV1 ?_|refine ZVp ?_))
   all_goals try exact xO
   refine Zn 3 RI ?_;(refine ZV4 (X:=Nat × Value) (fun z=>[(48,dI (z.1:Int)),(14,dX z.2),(16,dA),(49,dA),(50,dA),(51,dA),(52,dA),(53,dA),(54,dA),(55,dA),(56,dA),(57,dA),(58,dA),(59,dA),(60,dA),(61,dA),(62,dA),(63,dA)]) (fun z=>([Zk z.2 3 RI (ZSA b (ls.take z.1))])) (fun z=>ls.length-z.1) (fun z=>z.1≤ls.length) (0,.slice none 0 0) ?start ?frame0 ?objs0 ?round)
   case start=>exact Nat.zero_le _
   case frame0=>exact zFr
   case objs0=>rfl
   case round =>
    rintro⟨j,vo⟩ hj;simp only at hj;dsimp only[ZH,z0,z1];by_cases hjl:j<ls.length
    ·have hjI:(j:Int)<(ls.length:Int):=by omega
     obtain⟨l,hl⟩:∃l,ls[j]=l:=⟨_,rfl⟩;have hlm:l∈ls:=by rw[<- hl];exact List.getElem_mem hjl
     obtain⟨q1,q2,q3⟩:=hO l hlm;have hod:=ZPm l.2 b q1 hb.asc (by omega);have hnx:=L05.plcP_next (b:=b) hjl;rw[hl] at hnx;have hpl:=L05.plcP_len b (ls.take j);rw[List.length_take] at hpl;have h8:((ZSA b (ls.take j)).length+1)*8≤140737488355328:=by omega
     obtain⟨c,hc⟩:∃c,hdI l.1=c:=⟨_,rfl⟩;rw[hc] at q3 hnx;have hl0:0<l.1.length:=by
      cases e:l.1 with
      | nil=>rw[e] at q3;cases q3
      | cons a t=>simp
     have hlg:l.1[0]=c:=by
      have:l.1[0]?=some c:=by rw[<- List.head?_eq_getElem?];exact q3
      exact(List.getElem?_eq_some_iff.1 this).2
     cases ho:ZBw l.2 b with
     | true =>
      rw[ho] at hod;rw[if_pos ho] at hnx;((repeat' (first|(apply zV;exact yF;exact zQ)|refine ZVj ?_|refine ZA fun Kx hK=>?_|(refine hK _ _ ?_;clear hK)|refine ZVk ?_ |  (refine ZWF (dst:=some 16) ZQd (Zj rfl rfl) fun b16=>?_;dsimp only[ZC,z0,z1]) |  (refine ZR ZLq rfl (ZVh rfl) ZA9 ?_;dsimp only[ZC,z0,z1])|((first|apply Zq|apply Zl);exact eD;exact ZVh rfl;exact oD;(intro _;exact hD);(exact(by simp));(exact(by simp));(first|exact⟨by decide,by decide⟩|skip);decide;exact lD;(intro _;dsimp only[ZC,z0,z1]);all_goals (try infer_instance))|(apply zV;(focus ((first|(refine ZBK (R:=LnR) (_gR:=inferInstance) ZPK hjl hl (ZVh rfl) (ZVh rfl))|(apply ZAt lnT;exact ZVh rfl)|(apply ZBG lnT;exact ZVh rfl)|(exact Zg (R:=RI) (_gR:=inferInstance) (k:=0) elI hl0 hlg (ZVh rfl) ZV5)|(apply ZVm (hod) Tryz.call105;exact aD)|exact yG|(apply ZAt lnT;exact ZVh rfl)|(apply ZBG lnT;exact ZVh rfl));all_goals infer_instance));exact zQ)|(apply Zf;exact oD;(with_reducible rfl))|(apply ZB;exact oD;all_goals (intro h;try exact xD))|refine ZVr ?_|refine ZVp ?_|refine ZVx ?_));all_goals ((repeat clear hK);repeat clear Kx))
      all_goals try exact xO
      rw[<- hnx];(refine zNx (j+1,_) ?_;(try dsimp only))
      omega
     | false =>
      rw[ho] at hod;rw[if_neg (by rw[ho];decide),List.append_nil] at hnx;((repeat' (first|(apply zV;exact yF;exact zQ)|refine ZVj ?_|refine ZA fun Kx hK=>?_|(refine hK _ _ ?_;clear hK)|refine ZVk ?_ |  (refine ZWF (dst:=some 16) ZQd (Zj rfl rfl) fun b16=>?_;dsimp only[ZC,z0,z1]) |  (refine ZR ZLq rfl (ZVh rfl) ZA9 ?_;dsimp only[ZC,z0,z1])|(apply zV;(focus ((first|(refine ZBK (R:=LnR) (_gR:=inferInstance) ZPK hjl hl (ZVh rfl) (ZVh rfl))|(apply ZAt lnT;exact ZVh rfl)|(apply ZBG lnT;exact ZVh rfl)|(apply ZVm (hod) Tryz.call105;exact aD)|exact yG|(apply ZAt lnT;exact ZVh rfl)|(apply ZBG lnT;exact ZVh rfl));all_goals infer_instance));exact zQ)|(apply ZQ;exact oD;(with_reducible rfl))|(apply ZB;exact oD;all_goals (intro h;try exact xD))|refine ZVr ?_|refine ZVp ?_|refine ZVx ?_));all_goals ((repeat clear hK);repeat clear Kx))
      all_goals try exact xO
      rw[<- hnx];(refine zNx (j+1,vo) ?_;(try dsimp only))
      omega
    ·have hjI:¬ (j:Int)<(ls.length:Int):=by omega
     obtain rfl:j=ls.length:=by omega
     rw[List.take_length];((repeat' (first|refine zS ?_|refine ZA fun Kx hK=>?_|(refine hK _ _ ?_;clear hK)|(refine ZV0 ?_;clear hK)|(apply zV;exact yG;exact zQ)|(apply ZB;exact oD;all_goals (intro h;try exact xD))|refine ZVs ?_|refine ZV1 ?_));all_goals ((repeat clear hK);repeat clear Kx))
     all_goals try exact xO
     refine⟨trivial,⟨_,rfl,?_⟩,⟨_,rfl,ZWR (ZBh _)⟩,⟨_,rfl,?_⟩,_,rfl,ZWR (ZCO rfl)⟩ <;> simp only[if_neg hany,Option.getD_some,Option.isSome_some]
     ·exact ZDl (mAt 0 rfl) rfl
     ·exact ZWL rfl
end
section
open Go.RowKit
open C34
section
variable {P:Program} {ops:Array Oper} {hp:List HObj} {fr:List Dat} {Q:Z4} {rest:List Oper} {dst:Option Tmp} {ty:TypeId} {ps:String} {af:Array Edge} {t e:TypeId} {z:Value} {bytes:Nat} {g:Option (Nat × Bool)}
theorem ZRK {α:Type} {R:Rel α} {_gR:Good R} {len:Nat} {parts:Array (Nat × Operand)} {els:List α} (E:ElT P t e 1 z bytes false) (hx:ElsD fr R (parts.toList.map Prod.snd) els) (hparts:parts.toList=((parts.toList.map Prod.snd).zipIdx).map (fun p=>(p.2,p.1))) (hl:len=els.length) (hs:∀a,(dS R a).Shape 1 false) (hsm:els.length*1≤16777216)
  (h:∀v,WL P ops Q rest (ZC fr dst (dX v)) (Zk v e R els::hp)):WL P ops Q (⟨dst,.buildSlice t len parts,ty,ps,af,none⟩::rest) fr hp:=by
 refine WL.of fun P0 B w0 w a hh hf=>?_;obtain⟨css,hr,hcl,hcn,hel⟩:=ZBS (ops:=ops) (dst:=dst) (ty:=ty) (ps:=ps) (af:=af) (g:=none) E hx hl hparts hs hsm hh (hf.on _);refine Zo rfl hr ?_;have hx:=ZWU w (.cells css.flatten.toArray e);have hob:∀k,(Zk (.slice (some ⟨w.heap.size,0,none⟩) els.length els.length) e R els).blk=some k->w.heap.size≤k/\k<(w.alloc (.cells css.flatten.toArray e)).heap.size:=fun k hk=>by
  cases hk;exact⟨Nat.le_refl _,by simp⟩
 have hfl:css.flatten.length=els.length*1:=by rw[ZAv (n:=1) fun u hu=>(hcn u hu).1,hcl]
 have h1:∀u∈css.flatten,u.oneCell'=true:=fun u hu=>by
  obtain⟨cs,hcs,hu'⟩:=List.mem_flatten.1 hu;exact(hcn cs hcs).2 u hu'
 refine(h _).on (hh.push (o:=Zk (.slice (some ⟨w.heap.size,0,none⟩) els.length els.length) e R els) hx hob ⟨css.flatten,by omega,⟨hfl,.inr ⟨w.heap.size,els.length,css.flatten.toArray,rfl,Nat.zero_le _,Zw w _,Nat.le_refl _,by simp only[maxLen];omega,by simpa using hfl,?_⟩⟩,fun k h h'=>?_⟩) (ZWN (hf.mono fun d _ hd=>ZAJ hx (fun k hk=>(hob k hk).1) hd) rfl)
 ·show css.flatten.take _=css.flatten;rw[<- hfl,List.take_length]
 ·have hkc:k<css.length:=by omega
  obtain⟨u,hu,hR⟩:=hel k css[k] els[k] (List.getElem?_eq_getElem hkc) (List.getElem?_eq_getElem h');simp only[Bool.false_eq_true,if_false] at hu;have hfk:css.flatten[k]?=some u:=by
   have:=Zt (us:=css) (n:=1) (k:=k) (j:=0) (c:=u) (fun u hu=>(hcn u hu).1) hkc (by rw[hu];rfl);simpa using this
  have hku:css.flatten[k]=u:=by
   rw[List.getElem?_eq_getElem h] at hfk;exact Option.some.inj hfk
  refine⟨h1 _ (List.getElem_mem h),?_⟩;rw[hku];exact Good.ext (R:=R) (Good.weak (Good.bound hR) fun j hj=>⟨hj,fun e=>by cases e;exact absurd hj.2 (Nat.lt_irrefl _)⟩) hx
theorem ZT0 (w:World):(Instr.build 99 #[]).run Tryz.prog w = .ok (.agg #[.slice none 0 0,.slice none 0 0,.int .i64 0]) w:=by go_simp
theorem ZOG:SY Tryz.prog ops hp ⟨dst,.build 99 #[],ty,ps,af,g⟩ fr (ZEN [dX (.slice none 0 0),dX (.slice none 0 0),dI ((0:Nat):Int)]):=ZWK fun {I w a} ho=>by
 refine⟨.agg #[.slice none 0 0,.slice none 0 0,.int .i64 0],?_,[.slice none 0 0,.slice none 0 0,.int .i64 0],rfl,rfl,fun c hc=>?_,fun k c e hc he=>?_⟩
 ·unfold execOp;simp only[List.map_toArray,List.map_nil,Sem.run_bind,ZT0,Result.andThen_ok,Sem.run_pure]
 ·simp at hc;rcases hc with rfl|rfl <;> rfl
 ·match k,hc,he with
  | 0,hc,he=>cases hc;cases he;rfl
  | 1,hc,he=>cases hc;cases he;rfl
  | 2,hc,he=>cases hc;cases he;rfl
theorem ZT1 (n:Int) (a:Option Addr) (m c:Nat) (w:World):(Instr.build 105 #[(0,.int .i64 n),(1,.slice a m c)]).run Tryz.prog w = .ok (.agg #[.int .i64 n,.slice a m c]) w:=by go_simp
theorem ZOH {x y:Operand} {n:Int} {v:Value} {e':TypeId} {α:Type} {R:Rel α} {_gR:Good R} {xs:List α} (hm:Zk v e' R xs∈hp) (hx:OpD fr x (dI n)) (hy:OpD fr y (dX v)):SY Tryz.prog ops hp ⟨dst,.build 105 #[(0,x),(1,y)],ty,ps,af,g⟩ fr (ZEN [dI n,dX v]):=ZAG fun {P0 B w0 w a} hh ho=>by
 have h1:a.eval x = .int .i64 n:=hx.get (by simp[Op.operands]) ho;have h2:a.eval y=v:=hy.get (by simp[Op.operands]) ho;have hf:∃q m c,v = .slice q m c:=by
  rcases ZMg (hh.ok _ hm) with ⟨q,_⟩|⟨b,cap,q,_⟩ <;> exact⟨_,_,_,q⟩
 obtain⟨q,m,c,rfl⟩:=hf;refine⟨.agg #[.int .i64 n,.slice q m c],w,?_,ZWS _,[.int .i64 n,.slice q m c],rfl,rfl,fun c hc=>?_,fun k c e hc he=>?_⟩
 ·unfold execOp;simp only[List.map_toArray,List.map_cons,List.map_nil,h1,h2,Sem.run_bind,ZT1,Result.andThen_ok,Sem.run_pure]
 ·simp at hc;rcases hc with rfl|rfl <;> rfl
 ·match k,hc,he with
  | 0,hc,he=>cases hc;cases he;rfl
  | 1,hc,he=>cases hc;cases he;rfl
end
theorem ZLf {α:Type} {L:List (List α)} {lv:List α} {k:Nat} (h:k≤L.length):ZAj (L++[lv]) k=ZAj L k:=by
 unfold ZAj;rw[List.take_append_of_le_length h]
theorem ZR2 {α:Type} {L:List (List α)} {lv:List α}:ZAj (L++[lv]) (L.length+1)=ZAj L L.length+lv.length:=by
 rw[ZDY (by simp),ZLf (Nat.le_refl _)];simp
theorem ZNb {L:List Cx} {lv:Cx}:ZCi (L++[lv])=ZCi L++[ZFK txS (ZAj L L.length) lv]:=by
 unfold ZCi;rw[List.length_append,List.length_singleton,List.range_succ,List.map_append];congr 1
 ·refine List.map_congr_left fun k hk=>?_;have hk:=List.mem_range.1 hk;rw[ZLf (by omega)];congr 1;rw[List.getD_eq_getElem?_getD,List.getD_eq_getElem?_getD,List.getElem?_append_left hk]
 ·simp only[List.map_cons,List.map_nil];rw[ZLf (Nat.le_refl _)];simp
def ZTA (x:List Int) (off:Nat) (lv:Cx):Cx:=(lv.zipIdx.filter fun q=>decide (((off+q.2:Nat):Int)∈x)).map (·.1)
theorem ZQN {x:List Int} {off:Nat} {lv:Cx} {j:Nat} (h:j<lv.length):ZTA x off (lv.take (j+1))=ZTA x off (lv.take j)++if((off+j:Nat):Int)∈x then[lv[j]] else[]:=by
 unfold ZTA;rw[C34.zip_snoc h,List.filter_append,List.map_append];congr 1;by_cases hx:((off+j:Nat):Int)∈x
 ·rw[if_pos hx,List.filter_cons_of_pos (by simpa using hx)];rfl
 ·rw[if_neg hx,List.filter_cons_of_neg (by simpa using hx)];rfl
theorem ZHu {x:List Int} {L:List Cx}:(ZBL L x).length=L.length:=by simp[ZBL]
theorem ZLR {x:List Int} {L:List Cx} {k:Nat} (h:k<L.length):(ZBL L x).take (k+1)=(ZBL L x).take k++[ZTA x (ZAj L k) L[k]]:=by
 rw[ZAP (by rw[ZHu];exact h)];congr 2;simp[ZBL,ZTA]
def ZDI (x:List Int):List (Int × Bool):=x.foldl (fun m k=>ZCH m k true) []
theorem ZFG {x:List Int} {k:Nat} (h:k<x.length):ZDI (x.take (k+1))=ZCH (ZDI (x.take k)) x[k] true:=by
 unfold ZDI;rw[ZAP h,List.foldl_append];rfl
theorem ZVU {K V:Type} [DecidableEq K] {m:List (K × V)} {x:K} {v:V} (h:(m.map (·.1)).Nodup):((ZCH m x v).map (·.1)).Nodup:=by
 unfold ZCH;split
 ·rw[List.map_map];have e:((fun p:K × V=>p.1) ∘ fun p=>if p.1=x then(x,v) else p)=fun p=>p.1:=by
   funext p
   simp only[Function.comp_apply];split
   ·rename_i hp;exact hp.symm
   ·rfl
  rw[e];exact h
 ·rename_i hn;rw[List.map_append,List.nodup_append];refine⟨h,by simp,fun a ha c hc e=>hn ?_⟩;have hc:c=x:=by simpa using hc
  obtain⟨p,hp,hpe⟩:=List.mem_map.1 ha;unfold lookM;rw[Option.isSome_map,List.find?_isSome];exact⟨p,hp,by simp[hpe,e,hc]⟩
theorem ZVT {K V:Type} [DecidableEq K] {m:List (K × V)} {x:K} {v:V} {p:K × V} (h:p∈ZCH m x v):p.1=x\/p∈m:=by
 unfold ZCH at h;split at h
 ·obtain⟨q,hq,rfl⟩:=List.mem_map.1 h;split
  ·exact .inl rfl
  ·exact .inr hq
 ·rcases List.mem_append.1 h with h|h
  ·exact .inr h
  ·exact .inl (by rw[List.mem_singleton.1 h])
theorem ZKn:∀(x:List Int),∀n,n≤x.length->((ZDI (x.take n)).map (·.1)).Nodup
 | x,0,_=>by simp[ZDI]
 | x,n+1,h=>by rw[ZFG (by omega)];exact ZVU (ZKn x n (by omega))
theorem ZQP:∀(x:List Int),∀n,n≤x.length->∀p∈ZDI (x.take n),p.1∈x
 | x,0,_=>by simp[ZDI]
 | x,n+1,h=>fun p hp=>by
  rw[ZFG (by omega)] at hp;rcases ZVT hp with hp|hp
  ·rw[hp];exact List.getElem_mem _
  ·exact ZQP x n (by omega) p hp
theorem ZKo (k:Int):∀(x:List Int),∀n,n≤x.length->lookM (ZDI (x.take n)) k=if k∈x.take n then some true else none
 | x,0,_=>by simp[ZDI,lookM]
 | x,n+1,h=>by
  rw[ZFG (by omega),ZCG,ZKo k x n (by omega)];have et:x.take (n+1)=x.take n++[x[n]]:=ZAP (by omega);by_cases hk:k=x[n]
  ·rw[if_pos hk,if_pos (by rw[hk,et];exact List.mem_append_right _ (List.mem_singleton.2 rfl))]
  ·rw[if_neg hk];by_cases hm:k∈x.take n
   ·rw[if_pos hm,if_pos (by rw[et];exact List.mem_append_left _ hm)]
   ·rw[if_neg hm,if_neg fun q=>by rw[et] at q;exact(List.mem_append.1 q).elim hm fun q=>hk (List.mem_singleton.1 q)]
abbrev ZCT:Bool->Value:=fun b=>.bool b
theorem ZQQ (k:Int) (x:List Int):((lookM (ZDI x) k).map ZCT).getD (.bool false) = .bool (decide (k∈x)):=by
 have h:=ZKo k x x.length (Nat.le_refl _);rw[List.take_length] at h;rw[h];by_cases hk:k∈x
 ·rw[if_pos hk,decide_eq_true hk];rfl
 ·rw[if_neg hk,decide_eq_false hk];rfl
theorem ZLc:MapT Tryz.prog 111 3 4 (.bool false):=⟨Tryz.underlying111,fun w=>by kernel_rfl⟩
theorem ZUS {l:Cx} {f:Vx->Int} (h:(ZBf l).2=0) {d:Nat} (h0:0<d) (hd:d≤8) {x:List Int} (hx:L05.solP (ZBb l f (ZAk l f d)) [0] (ZAj (ZAk l f d) d)=some x):L05.Solves (ZBb l f (ZAk l f d)) [0] (ZAj (ZAk l f d) d) x:=by
 have hw:=ZI9 (f:=f) h h0 hd;have h1:L05.AllAsc (ZBb l f (ZAk l f d)):=fun r hr=>(hw r hr).1;have h2:∀r∈ZBb l f (ZAk l f d),L05.Low ((ZAj (ZAk l f d) d:Nat):Int) r:=fun r hr v hv=>((hw r hr).2 v hv).2;have h3:∀r∈ZBb l f (ZAk l f d),L05.Pos r:=fun r hr v hv=>((hw r hr).2 v hv).1;rw[L05.sol_same h1 h2 h3] at hx;exact L05.sol_sat h1 h2 h3 hx
end
section
open Go.RowKit
open C34

variable {S:Prop}
theorem ZD7 {l:Cx} {vs:List Vx} {A:List Int} (h:ZCD l vs A=0):(ZBf l).2=0:=by
 unfold ZCD at h;by_cases h1:(ZBf l).2≠0
 ·rw[if_pos h1] at h;exact absurd h h1
 ·exact Classical.byContradiction h1
end
end Go.Proofs.YtofkoleingbbpaaGreatDoor
