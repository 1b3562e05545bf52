/- Part 35: walks by contracts, and plain laws. -/
import Derived.Test.YtokmalofdapffaaGreatV34
set_option linter.unusedVariables false
set_option linter.unusedSimpArgs false
set_option linter.unusedSectionVars false
set_option maxRecDepth 100000
set_option maxHeartbeats 4000000
namespace Go.Proofs.YtokmalofdapffaaGreat
section
open Go.RowKit
open L05 (Ln ZFX ZEu ZCC RedAt Good05 ZGO ZGD ZFr ZJF ZGl PInv)
theorem ZPh:∀ (x y:Operand) ad m c w,(do eqGuard .eql 27 x y (.slice ad m c) (.slice none 0 0);Go.binOp .eql 27 (.slice ad m c) (.slice none 0 0)).run Tryz.prog w = .ok (.bool ad.isNone) w:=by
 intro x y ad m c w
 cases ad <;> (go_simp;try (unfold Go.binOp;simp only;unfold Op.equal Op.maxDepth Op.equalIn;simp [run_underlying Tryz.underlying27]))



theorem ZLV (xs:List Int) (hl:xs.length≤1000000):Fn Tryz.prog 123 [dS ZBk xs] (dS ZBk xs):=by
 (refine ZG Tryz.func123 rfl rfl ?_;simp only [Tryz.ntmps123,List.length_cons,List.length_nil,Nat.reduceAdd,Nat.reduceSub,List.replicate_succ,List.replicate_zero,List.cons_append,List.nil_append])
 ((repeat' (first |  (refine ZE6 4 rfl fun b hb=>?_;dsimp only [z0,z1])|(apply WL.opN;exact yF;dsimp only [ZB,z0,z1])|refine WL.nil ?_|refine ZA fun Kx hK=>?_|(refine hK _ _ ?_;clear hK)|refine WC.region ?_ |  (apply ZGI elI RI;(intro _;dsimp only [ZB,z0,z1]);all_goals (try infer_instance))|((first|apply WL.appK|apply WL.app1);(exact eD);exact OpD.t rfl;(exact oD);decide;(exact lD);(intro _;dsimp only [ZB,z0,z1]);all_goals (try infer_instance))|(apply WL.opN;(focus ((first|(apply ZE2;exact OpD.t rfl;(exact fun _ _ _ h=>ZS3 h);exact ZJn;exact ZPh)|fail);all_goals infer_instance));dsimp only [ZB,z0,z1])|(apply WC.cond;(exact oD);all_goals (intro h;try exact xD))|refine WC.skip ?_|refine WC.ret ?_|refine ThenD.r ?_));all_goals (first|((repeat clear hK);(repeat clear Kx))))
 ·rw [hb h];(refine ⟨trivial,_,rfl,?_⟩;exact fD)
 ·rw [List.nil_append];(refine ⟨trivial,_,rfl,?_⟩;exact fD)
theorem ZLk {seen:Array Nat} {n j:Nat} (q1:seen.toList.Nodup) (q2:∀ i∈seen.toList,i<n) (hj:j<n) (hns:j∉seen.toList):(seen.push j).toList.Nodup/\(∀ i∈(seen.push j).toList,i<n)/\seen.size+1≤n:=by
 have h1:(seen.push j).toList.Nodup:=by
  rw [Array.toList_push,List.nodup_append]
  refine ⟨q1,by simp,fun a ha c hc=>?_⟩
  rw [List.mem_singleton.1 hc]
  intro he
  exact hns (by rw [<- he];exact ha)
 have h2:∀ i∈(seen.push j).toList,i<n:=fun i hi=>by
  rw [Array.toList_push,List.mem_append] at hi
  rcases hi with hi|hi
  ·exact q2 i hi
  ·rw [List.mem_singleton.1 hi];exact hj
 refine ⟨h1,h2,?_⟩
 have:=List.Nodup.length_le_of_subset (l₁:=(seen.push j).toList) (l₂:=List.range n) h1 fun x hx=>List.mem_range.2 (h2 x hx)
 rw [List.length_range,Array.length_toList,Array.size_push] at this
 exact this
theorem ZHR (M:List (Int × Value × Ln)):(ZAY M).length=M.length:=by simp [ZAY]
theorem ZKm {M:List (Int × Value × Ln)} {j:Nat} (h:j<M.length):(ZAY M)[j]?=some (M[j].1,M[j].2.2):=by
 unfold ZAY
 rw [List.getElem?_map,List.getElem?_eq_getElem h];rfl
theorem ZC9 (M:List (Int × Value × Ln)):(ZAY M).map (·.1)=M.map (·.1):=by
 unfold ZAY;rw [List.map_map];rfl
theorem rot3 {a b c:HObj} {t:List HObj}:(a::b::c::t).Perm (b::c::a::t):=(List.perm_append_comm (l₁:=[a]) (l₂:=[b,c])).append_right t
theorem rot4 {a b c d:HObj} {t:List HObj}:(a::b::c::d::t).Perm (c::d::a::b::t):=(List.perm_append_comm (l₁:=[a,b]) (l₂:=[c,d])).append_right t
theorem ZNr (m:List (Int × Ln)) (j:Nat):ZFr m (j+1)=ZFr m j++(ZCC m (j:Int)).toList:=by
 unfold ZFr
 rw [List.range_succ,List.filterMap_append,List.filterMap_cons,List.filterMap_nil]
 cases ZCC m (j:Int) <;> rfl
section
variable {P:Program} {ops:Array Oper} {hp:List HObj} {fr:List Dat} {dst:Option Tmp} {ty:TypeId} {ps:String} {af:Array Edge} {g:Option (Nat × Bool)} {K α:Type} {kv:K->Value} {b r:Nat} {R:Rel α} [DecidableEq K] {M:List (K × Value × α)} {_gR:Good R}
theorem ZIA {x:Operand} {seen:Array Nat} {j:Nat} {l:α} {key:K} (hj:j<M.length) (hl:M[j].2.2=l) (hk':M[j].1=key) (hx:OpD fr x (dX (.pointer (some ⟨r,0,none⟩)))) (hi:hIt b r M.length (seen.push j)∈hp) (hm:hM b kv (fun p:Value × α=>p.1) M∈hp) (hk:hKL R (M.map (·.2))∈hp) :
  SY P ops hp ⟨dst,.entry x,ty,ps,af,g⟩ fr (dT [dX (kv key),dS R l]):=by
 subst hl;subst hk'
 exact ZME hx hi hm hk hj
end
structure EchAt (rows:List (List Int)) (C k:Nat) (M:List (Int × Value × Ln)) (deps:List (List Int)):Prop where
 le:k≤rows.length
 eq:ZGO rows C k=(ZAY M,deps)
set_option maxHeartbeats 32000000 in
theorem ZRd (C:Nat) (rows:List (List Int)) (hC:C≤4096) (hn:rows.length≤4096) (h1:L05.AllAsc rows) (h2:∀ r∈rows,L05.Low (C:Int) r) (h3:∀ r∈rows,L05.Pos r) :
  Fn Tryz.prog 90 [dS Mat ((C:Int),rows)] (dT [dS (ArrK 2 LnR) (ZFr (L05.echP rows C).1 C),dS (Arr ZBk) (L05.echP rows C).2]):=by
 (refine Z7 Tryz.func90 rfl rfl ?_;simp only [Tryz.ntmps90,List.length_cons,List.length_nil,Nat.reduceAdd,Nat.reduceSub,List.replicate_succ,List.replicate_zero,List.cons_append,List.nil_append])
 (repeat' (first|((first|apply WL.opN|apply WD.opN);exact yF;dsimp only [ZB,z0,z1])|refine WL.nil ?_|refine ZA fun Kx hK=>?_|(refine hK _ _ ?_;clear hK)|refine WC.region ?_ |  (refine WL.makeMap kvQ (fun p:Value × Ln=>p.1) fun bm=>?_;dsimp only [ZB,z0,z1]) |  (refine WL.alloc (dst:=some 4) tzQ3 (ZZ rfl) fun b4=>?_;dsimp only [ZB,z0,z1]) |  (refine ZEP (ZCT ZOq (OpD.t rfl) (OpD.t rfl) (ZZ rfl)) fun _=>?_;dsimp only [ZB,z0,z1])|((first|apply WL.opN|apply WD.opN);(focus ((first|(exact ZDx (vs:=[.pointer (some ⟨b4,0,none⟩)]) (ArgsX.cons (OpD.t rfl) ArgsX.nil))|(apply ZGt ZRx;exact OpD.t rfl)|(apply SY.len;(exact oD);(exact nD);(exact uD))|(apply SY.box;(exact oD);(exact hD))|fail);all_goals infer_instance));dsimp only [ZB,z0,z1])|refine WC.block ?_))
 all_goals try (exfalso;first|contradiction|omega)
 refine ZB0 27 ZBk (WC.perm (List.reverse_perm _).symm ?_)
 refine ZML (gh:=hKL LnR ([]:List (Value × Ln))) rfl (fun _ _ _ p hp=>absurd hp (by simp)) (WC.perm rot3 (WC.perm (List.Perm.swap _ _ _) ?_))
 (refine ZH (X:=Nat × List (Int × Value × Ln) × Value × List (List Int)) (fun x=>[(21,dI (x.1:Int)),(6,dX x.2.2.1),(7,dA),(8,dA),(9,dA),(10,dA),(11,dA),(22,dA),(23,dA),(24,dA),(25,dA),(26,dA),(27,dA),(28,dA),(29,dA),(30,dA),(31,dA),(32,dA),(33,dA),(34,dA),(35,dA),(36,dA),(37,dA),(38,dA),(39,dA),(40,dA),(41,dA),(42,dA),(43,dA),(44,dA),(45,dA),(46,dA),(47,dA),(48,dA),(49,dA),(50,dA),(51,dA),(52,dA),(53,dA),(54,dA),(55,dA),(56,dA),(57,dA),(58,dA),(59,dA),(60,dA),(61,dA),(62,dA),(63,dA),(64,dA),(65,dA),(66,dA),(67,dA),(68,dA),(69,dA),(70,dA),(71,dA),(72,dA),(73,dA),(74,dA),(75,dA)]) (fun x=>([ZO b4 158 1 false (dX (.map (some bm))),hM bm kvQ (fun p:Value × Ln=>p.1) x.2.1,hKL LnR (x.2.1.map (·.2)),Zh x.2.2.1 27 ZBk x.2.2.2])) (fun x=>rows.length-x.1) (fun x=>EchAt rows C x.1 x.2.1 x.2.2.2) (0,[],.slice none 0 0,[]) ?start ?frame0 ?objs0 ?round)
 case start=>exact ⟨Nat.zero_le _,rfl⟩
 case frame0=>((try dsimp only [ZQ,z0,z1]);repeat (first|exact LeF.nil|refine ZD (k:=?_)))
 case objs0=>rfl
 case round =>
  rintro ⟨k,M,vd,deps⟩ ⟨hk,hE⟩
  simp only at hk hE
  dsimp only [ZQ,z0,z1]
  by_cases hkl:k<rows.length
  ·have hkI:(k:Int)<(rows.length:Int):=by omega
   obtain ⟨r,hr⟩:∃ r,rows[k]=r:=⟨_,rfl⟩
   have hrm:r∈rows:=by rw [<- hr];exact List.getElem_mem hkl
   have hrl:=ZB1 (n:=C) (h1 r hrm) fun v hv=>⟨h3 r hrm v hv,h2 r hrm v hv⟩
   have hP:=PInv.all (b:=[]) h1 h2 h3 k hk
   have hL:=L05.echN_low h1 h2 h3 k hk
   rw [hE] at hP hL
   have G:Good05 C (ZAY M):=hP.good
   have hF:FrmL ((k+1:Nat):Int) (ZAY M):=fun p hp=>L05.low_mono (by omega) (hL.1 p hp)
   have hcl:=ZLV r (by omega)
   have hx4:L05.Asc [(k:Int)]/\L05.Pos [(k:Int)]:=⟨List.pairwise_singleton _ _,fun x hx=>by rw [List.mem_singleton.1 hx];omega⟩
   have hx5:L05.Low ((k+1:Nat):Int) [(k:Int)]:=fun x hx=>by rw [List.mem_singleton.1 hx];omega
   have hred:=ZSF b4 bm M C (k+1) (r,[(k:Int)]) hC (by omega) G hF (h1 r hrm) (h2 r hrm) (h3 r hrm) hx4 hx5
   have hst:=L05.RedAt.start (b:=[]) (C:=C) (m:=ZAY M) (x:=(r,[(k:Int)])) (h1 r hrm) (h2 r hrm) (h3 r hrm) hx4
   have hO:=L05.redP_out G (C+1) 0 _ hst
   have hYl:=L05.redP_low G hF (C+1) 0 _ hst hx5
   have hnx:=L05.echN_succ (C:=C) hkl
   rw [hE,hr] at hnx
   unfold ZGD at hnx
   simp only at hnx
   generalize ZEu (ZAY M) (C+1) 0 (r,[(k:Int)])=Y at hred hO hYl hnx
   have hY1:=ZB1 (n:=C) hO.asc fun v hv=>⟨hO.pos v hv,hO.low v hv⟩
   have hY2:=ZB1 (n:=k+1) hO.frm.1 fun v hv=>⟨hO.frm.2 v hv,hYl v hv⟩
   have hdl:deps.length≤4096:=by
    have:=L05.echN_deps rows C k hk
    rw [hE] at this
    simp only at this
    omega
   have h24:(deps.length+1)*24≤140737488355328:=by omega
   have hred2:CallC Tryz.prog 121 ([dS (R2 (Arr RI) (Arr RI)) (r,[(k:Int)])]++[Value.pointer (some ⟨b4,0,none⟩)].map dX) [ZO b4 158 1 false (dX (.map (some bm))),hM bm kvQ (fun p:Value × Ln=>p.1) M,hKL LnR (M.map (·.2))] (fun d hp2=>d=dS LnR Y/\hp2=[ZO b4 158 1 false (dX (.map (some bm))),hM bm kvQ (fun p:Value × Ln=>p.1) M,hKL LnR (M.map (·.2))]):=hred
   (repeat' (first |  (refine WC.only5 8 (Halt5.go ?_))|((first|apply WL.opN|apply WD.opN);exact yF;dsimp only [ZB,z0,z1])|refine WL.nil ?_|refine ZA fun Kx hK=>?_|(refine hK _ _ ?_;clear hK)|refine WC.region ?_ |  (refine WL.callC (hp:=[Zh vd 27 ZBk deps]) (caps:=[.pointer (some ⟨b4,0,none⟩)]) hred2 Tryz.call121 ?_ ?_ ?_;exact OpD.t rfl;exact ArgsD.cons (OpD.t rfl) ArgsD.nil;rintro d' hp2 ⟨rfl,rfl⟩;dsimp only [ZB,z0,z1,List.cons_append,List.nil_append]) |  (refine WL.alloc (dst:=some 9) ZQl (ZAa rfl rfl) fun b9=>?_;dsimp only [ZB,z0,z1]) |  (refine ZI ZLD rfl (OpD.t rfl) Zy ?_;dsimp only [ZB,z0,z1])|((first|apply WL.opN|apply WD.opN);(focus ((first|(exact ZAK (R:=ZBk) (_gR:=inferInstance) ZHw hkl hr (OpD.t rfl) (OpD.t rfl))|(apply SY.call (hcl) Tryz.call123;(exact aD))|(exact ZMK lnT (R:=RI) (S:=RI) (_gR:=inferInstance) (_gS:=inferInstance) (OpD.t rfl) (OpD.t rfl))|((first|apply SY.move|apply SY.assign|apply SY.lss|apply SY.eql) <;> (exact oD))|(apply SY.build1';(exact eD);((try simp only [List.map_cons,List.map_nil]);(repeat (first|exact Zu|(apply Zt;(first|exact OpD.t rfl|exact OpD.i|exact OpD.b|exact OpD.tle rfl (by first|exact ZE|exact ZC (by decide))|exact ⟨ZE⟩|exact ⟨ZC (by decide)⟩)))));rfl;rfl;(intro _;first|exact ZAU|exact ZAc|exact ZAh|exact shape_B);(exact (by simp)))|fail);all_goals infer_instance));dsimp only [ZB,z0,z1])|(apply WC.condD;(exact oD);all_goals (intro h;try exact xD))|refine WC.skip ?_|refine WC.block ?_))
   all_goals try (exfalso;first|contradiction|omega)
   refine ⟨?_⟩
   cases hYc:Y.1 with
   | nil =>
    rw [hYc] at hnx
    simp only at hnx
    have hY0:((Y.1.length:Nat):Int)=0:=by rw [hYc];rfl
    ((repeat' (first|((first|apply WL.opN|apply WD.opN);exact yF;dsimp only [ZB,z0,z1])|refine WL.nil ?_|refine ZA fun Kx hK=>?_|(refine hK _ _ ?_;clear hK)|(refine Kont.skip ?_;clear hK)|refine WC.region ?_ |  (refine ZEP (SW.at 3 rfl fun q=>SW.app1 ZHw (R:=ZBk) (_gR:=inferInstance) (OpD.t rfl) (OpD.t rfl) (by decide) h24) fun v2=>?_;dsimp only [ZB,z0,z1])|((first|apply WL.opN|apply WD.opN);(focus ((first|(apply Zc lnT;exact OpD.t rfl)|(apply Zm lnT;exact OpD.t rfl)|((first|apply SY.move|apply SY.assign|apply SY.lss|apply SY.eql) <;> (exact oD))|((first|apply SY.add) <;> first|exact oD|omega)|(apply SY.len;(exact oD);(exact nD);(exact uD))|(apply Zc lnT;exact OpD.t rfl)|(apply Zm lnT;exact OpD.t rfl)|(apply SY.build1';(exact eD);((try simp only [List.map_cons,List.map_nil]);(repeat (first|exact Zu|(apply Zt;(first|exact OpD.t rfl|exact OpD.i|exact OpD.b|exact OpD.tle rfl (by first|exact ZE|exact ZC (by decide))|exact ⟨ZE⟩|exact ⟨ZC (by decide)⟩)))));rfl;rfl;(intro _;first|exact ZAU|exact ZAc|exact ZAh|exact shape_B);(exact (by simp)))|fail);all_goals infer_instance));dsimp only [ZB,z0,z1])|(apply WC.condD;(exact oD);all_goals (intro h;try exact xD))|refine WC.exit ?_|refine ThenD.n ?_));all_goals (first|((repeat clear hK);(repeat clear Kx))))
    all_goals try (exfalso;first|contradiction|omega)
    (refine ⟨(k+1,M,_,deps++[Y.2]),?_,by first|omega|(simp only;omega),rfl,?_⟩;rotate_left;((try dsimp only [ZQ,z0,z1]);repeat (first|exact LeF.nil|refine ZD (k:=?_)));(try dsimp only))
    exact ⟨hkl,hnx⟩
   | cons c t =>
    rw [hYc] at hnx
    simp only at hnx
    have hY0:¬ ((Y.1.length:Nat):Int)=0:=by rw [hYc];simp;omega
    have hYk:0<Y.1.length:=by rw [hYc];simp
    have hYg:Y.1[0]=c:=by simp only [hYc];rfl
    have hcY:c∈Y.1:=by rw [hYc];simp
    have hc64:ZBs c:=by have:=hO.low c hcY;have:=hO.pos c hcY;unfold ZBs;omega
    have hko:∀ p∈M,ZBs p.1:=fun p hp=>by
     have hm:(p.1,p.2.2)∈ZAY M:=List.mem_map.2 ⟨p,hp,rfl⟩
     have:=G.low _ hm _ (L05.head_mem (G.hd _ hm))
     have:=G.pos _ hm _ (L05.head_mem (G.hd _ hm))
     simp only at *
     unfold ZBs;omega
    have hkn:(M.map (·.1)).Nodup:=by rw [<- ZC9];exact G.nd
    (repeat' (first|((first|apply WL.opN|apply WD.opN);exact yF;dsimp only [ZB,z0,z1])|refine WL.nil ?_|refine ZA fun Kx hK=>?_|(refine hK _ _ ?_;clear hK)|refine WC.region ?_ |  (refine ZMU ZFq (OpD.t rfl) (mAt 1 rfl) fun b=>?_;dsimp only [ZB,z0,z1])|((first|apply WL.opN|apply WD.opN);(focus ((first|(apply Zc lnT;exact OpD.t rfl)|(apply Zd ZOq;exact OpD.t rfl;exact mAt 0 rfl)|((first|apply SY.move|apply SY.assign|apply SY.lss|apply SY.eql) <;> (exact oD))|(apply SY.len;(exact oD);(exact nD);(exact uD))|(apply Zc lnT;exact OpD.t rfl)|(apply Zm lnT;exact OpD.t rfl)|fail);all_goals infer_instance));dsimp only [ZB,z0,z1])|(apply WC.condD;(exact oD);all_goals (intro h;try exact xD))|refine WC.skip ?_|refine WC.block ?_))
    all_goals try (exfalso;first|contradiction|omega)
    (refine ZH (X:=Array Nat × List (Int × Value × Ln)) (fun z=>[(10,dA),(11,dA),(44,dA),(45,dA),(46,dA),(47,dA),(48,dA),(49,dA),(50,dA),(51,dA),(52,dA),(53,dA),(54,dA),(55,dA),(56,dA),(57,dA),(58,dA),(59,dA),(60,dA),(61,dA),(62,dA),(63,dA),(64,dA),(65,dA),(66,dA),(67,dA),(68,dA)]) (fun z=>([hIt bm b M.length z.1,ZO b4 158 1 false (dX (.map (some bm))),hM bm kvQ (fun p:Value × Ln=>p.1) z.2,hKL LnR (z.2.map (·.2)),Zh vd 27 ZBk deps])) (fun z=>M.length-z.1.size) (fun z=>z.1.toList.Nodup/\(∀ i∈z.1.toList,i<M.length)/\ZAY z.2=ZJF (ZAY M) Y c z.1.toList) (#[],M) ?start ?frame0 ?objs0 ?round)
    case start=>exact ⟨List.nodup_nil,(fun i hi=>by simp at hi),(L05.updS_nil _ _ _).symm⟩
    case frame0=>((try dsimp only [ZQ,z0,z1]);repeat (first|exact LeF.nil|refine ZD (k:=?_)))
    case objs0=>rfl
    case round =>
     rintro ⟨seen,Mc⟩ ⟨q1,q2,q3⟩
     simp only at q1 q2 q3
     dsimp only [ZQ,z0,z1]
     have hlc:Mc.length=M.length:=by rw [<- ZHR,q3,L05.updS_len,ZHR]
     have hkc:Mc.map (·.1)=M.map (·.1):=by rw [<- ZC9,q3,L05.updS_keys,ZC9]
     have hcn:(Mc.map (·.1)).Nodup:=by rw [hkc];exact hkn
     have hco:∀ p∈Mc,ZBs p.1:=fun p hp=>by
      have:p.1∈M.map (·.1):=by rw [<- hkc];exact List.mem_map_of_mem hp
      obtain ⟨q,hq,e⟩:=List.mem_map.1 this
      rw [<- e];exact hko q hq
     refine ZA fun Kx hK=>?_
     refine WC.region ?_
     rw [<- hlc]
     refine ZPE (OpD.t rfl) (mAt 1 rfl) (fun hall=>?_) (fun j hj hns=>?_)
     ·dsimp only [ZB,z0,z1]
      have hfin:ZAY Mc=ZGl (ZAY M) Y c:=by
       rw [q3]
       exact L05.updS_all fun j hj=>by
        rw [ZHR,<- hlc] at hj
        simpa using hall j hj
      have hnew:∀ p∈Mc,p.1≠c:=fun p hp e=>by
       have h5:p.1∈M.map (·.1):=by rw [<- hkc];exact List.mem_map_of_mem hp
       rw [<- ZC9] at h5
       obtain ⟨q,hq,e2⟩:=List.mem_map.1 h5
       exact L05.lookP_none (hO.no c hcY) q hq (e2.trans e)
      have hput:=fun (v:Value)=>ZEF (v:=(v,Y)) hnew
      have hfin2:∀ v:Value,ZAY (Mc++[(c,(v,Y))])=ZGl (ZAY M) Y c++[(c,Y)]:=fun v=>by
       rw [<- hfin];unfold ZAY;rw [List.map_append];rfl
      refine ZGz ?_
      ((repeat' (first |  (apply WC.drawTail (id:=15) 6;kernel_rfl;kernel_rfl;simp only [List.take_succ_cons,List.take_zero,List.drop_succ_cons,List.drop_zero])|((first|apply WL.opN|apply WD.opN);exact yF;dsimp only [ZB,z0,z1])|refine WL.nil ?_|refine WD.nil ?_|refine ZA fun Kx hK=>?_|(refine hK _ _ ?_;clear hK)|(refine Kont.skip ?_;clear hK)|refine WC.region ?_ |  (refine WL.perm rot3 (ZMS (R:=LnR) (_gR:=inferInstance) (s:=74) ZFq ZD6 (fun _=>OpD.t rfl) (fun _=>OpD.t rfl) isI rfl (fun _=>OpD.t rfl) hc64 hco hcn fun q=>?_);rw [hput];refine WL.perm rot3.symm ?_;dsimp only [ZB,z0,z1])|((first|apply WL.opN|apply WD.opN);(focus ((first|(apply Zc lnT;exact OpD.t rfl)|(apply Zd ZOq;exact OpD.t rfl;exact mAt 0 rfl)|(exact ZAK (R:=RI) (_gR:=inferInstance) (k:=0) elI hYk hYg (OpD.t rfl) OpD.i)|((first|apply SY.add) <;> first|exact oD|omega)|(apply Zc lnT;exact OpD.t rfl)|(apply Zm lnT;exact OpD.t rfl)|(apply SY.extract;(exact oD);rfl)|fail);all_goals infer_instance));dsimp only [ZB,z0,z1])|(apply Za;(exact oD);(with_reducible rfl))|refine WC.exit ?_|refine ThenD.n ?_));all_goals (first|((repeat clear hK);(repeat clear Kx))))
      all_goals try (exfalso;first|contradiction|omega)
      (refine ⟨(k+1,Mc++[(c,(q,Y))],_,deps),?_,by first|omega|(simp only;omega),rfl,?_⟩;rotate_left;((try dsimp only [ZQ,z0,z1]);repeat (first|exact LeF.nil|refine ZD (k:=?_)));(try dsimp only))
      exact ⟨hkl,by rw [hnx,hfin2]⟩
     ·dsimp only [ZB,z0,z1]
      have hns':j∉seen.toList:=fun q=>hns (by simpa using q)
      have hjM:j<M.length:=by omega
      obtain ⟨p1,p2,p3⟩:=ZLk q1 q2 hjM hns'
      have hpl:(seen.push j).toList=seen.toList++[j]:=Array.toList_push ..
      have hsz:(seen.push j).size=seen.size+1:=Array.size_push ..
      have hgM:=ZKm hjM
      have hgc:=ZKm hj
      rw [q3,L05.updS_here hns',hgM] at hgc
      have hgl:M[j].2.2=Mc[j].2.2:=by
       have:=Option.some.inj hgc
       exact (Prod.mk.inj this).2
      have hgk:M[j].1=Mc[j].1:=by
       have:=Option.some.inj hgc
       exact (Prod.mk.inj this).1
      obtain ⟨l,hl⟩:∃ l,Mc[j].2.2=l:=⟨_,rfl⟩
      obtain ⟨ky,hky⟩:∃ ky,Mc[j].1=ky:=⟨_,rfl⟩
      rw [hl] at hgl
      rw [hky] at hgk
      rw [hgl,hgk] at hgM
      have hmm:(ky,l)∈ZAY M:=List.mem_of_getElem? hgM
      have la:=G.asc _ hmm
      have lf:=G.frm _ hmm
      have ll:=G.low _ hmm
      have lp:=G.pos _ hmm
      have lF:=hF _ hmm
      simp only at la lf ll lp lF
      have hl1:=ZB1 (n:=C) la fun v hv=>⟨lp v hv,ll v hv⟩
      have hl2:=ZB1 (n:=k+1) lf.1 fun v hv=>⟨lf.2 v hv,lF v hv⟩
      have hhs:=ZRj l.1 c la (by omega)
      have hs1:=ZHo l.1 Y.1 (by omega)
      have hs2:=ZHo l.2 Y.2 (by omega)
      by_cases hcl:c∈l.1
      ·rw [decide_eq_true hcl] at hhs
       have hkj:ZBs ky:=hky ▸ hco _ (List.getElem_mem hj)
       have hput:=fun (v:Value)=>ZFK (v:=(v,(L05.plus l.1 Y.1,L05.plus l.2 Y.2))) hcn hj
       rw [hky] at hput
       have hst2:∀ v:Value,ZAY (Mc.set j (ky,(v,(L05.plus l.1 Y.1,L05.plus l.2 Y.2))))=ZJF (ZAY M) Y c (seen.push j).toList:=fun v=>by
        rw [hpl,L05.updS_set hgM hcl,<- q3]
        unfold ZAY
        rw [List.map_set]
        rfl
       have hlz:∀ v:Value,(Mc.set j (ky,(v,(L05.plus l.1 Y.1,L05.plus l.2 Y.2)))).length=Mc.length:=fun v=>List.length_set ..
       ((repeat' (first |  (apply WC.drawTail (id:=14) 13;kernel_rfl;kernel_rfl;simp only [List.take_succ_cons,List.take_zero,List.drop_succ_cons,List.drop_zero])|((first|apply WL.opN|apply WD.opN);exact yF;dsimp only [ZB,z0,z1])|refine WL.nil ?_|refine WD.nil ?_|refine ZA fun Kx hK=>?_|(refine hK _ _ ?_;clear hK)|refine WC.region ?_|(apply WC.draw;kernel_rfl;kernel_rfl) |  (refine WL.alloc (dst:=some 11) ZQl (ZAa rfl rfl) fun b11=>?_;dsimp only [ZB,z0,z1]) |  (refine ZI ZLD rfl (OpD.t rfl) Zy ?_;dsimp only [ZB,z0,z1]) |  (refine WL.perm rot4 (ZMS (R:=LnR) (_gR:=inferInstance) (s:=68) ZFq ZD6 (fun _=>OpD.t rfl) (fun _=>OpD.t rfl) isI rfl (fun _=>OpD.t rfl) hkj hco hcn fun q=>?_);rw [hput];refine WL.perm rot4 ?_;dsimp only [ZB,z0,z1])|((first|apply WL.opN|apply WD.opN);(focus ((first|(exact ZIA (R:=LnR) (_gR:=inferInstance) hj hl hky (OpD.t rfl) (mAt 0 rfl) (mAt 2 rfl) (mAt 3 rfl))|(apply Zc lnT;exact OpD.t rfl)|(apply Zm lnT;exact OpD.t rfl)|(apply Zd ZOq;exact OpD.t rfl;exact mAt 1 rfl)|(exact ZAK (R:=RI) (_gR:=inferInstance) (k:=0) elI hYk hYg (OpD.t rfl) OpD.i)|(apply SY.call (hhs) Tryz.call124;(exact aD))|(apply SY.call (hs1) Tryz.call122;exact ArgsD.cons (OpD.t rfl) (ArgsD.cons (OpD.t rfl) (ArgsD.nil)))|(apply SY.call (hs2) Tryz.call122;exact ArgsD.cons (OpD.t rfl) (ArgsD.cons (OpD.t rfl) (ArgsD.nil)))|(exact ZMK lnT (R:=RI) (S:=RI) (_gR:=inferInstance) (_gS:=inferInstance) (OpD.t rfl) (OpD.t rfl))|(apply Zc lnT;exact OpD.t rfl)|(apply Zm lnT;exact OpD.t rfl)|(apply SY.extract;(exact oD);rfl)|fail);all_goals infer_instance));dsimp only [ZB,z0,z1])|(apply Z0;(exact oD);(with_reducible rfl))|refine WC.skip ?_|refine WC.block ?_|refine ThenD.n ?_|refine InBlockD.n ?_));all_goals (first|((repeat clear hK);(repeat clear Kx))))
       all_goals try (exfalso;first|contradiction|omega)
       rw [hlc]
       (refine ⟨(seen.push j,Mc.set j (ky,(q,(L05.plus l.1 Y.1,L05.plus l.2 Y.2)))),?_,by first|omega|(simp only;omega),rfl,?_⟩;rotate_left;((try dsimp only [ZQ,z0,z1]);repeat (first|exact LeF.nil|refine ZD (k:=?_)));(try dsimp only))
       exact ⟨p1,p2,hst2 q⟩
      ·rw [decide_eq_false hcl] at hhs
       ((repeat' (first|((first|apply WL.opN|apply WD.opN);exact yF;dsimp only [ZB,z0,z1])|refine WL.nil ?_|refine WD.nil ?_|refine ZA fun Kx hK=>?_|(refine hK _ _ ?_;clear hK)|refine WC.region ?_|(apply WC.draw;kernel_rfl;kernel_rfl) |  (refine WL.alloc (dst:=some 11) ZQl (ZAa rfl rfl) fun b11=>?_;dsimp only [ZB,z0,z1]) |  (refine ZI ZLD rfl (OpD.t rfl) Zy ?_;dsimp only [ZB,z0,z1])|((first|apply WL.opN|apply WD.opN);(focus ((first|(exact ZIA (R:=LnR) (_gR:=inferInstance) hj hl hky (OpD.t rfl) (mAt 0 rfl) (mAt 2 rfl) (mAt 3 rfl))|(apply Zc lnT;exact OpD.t rfl)|(exact ZAK (R:=RI) (_gR:=inferInstance) (k:=0) elI hYk hYg (OpD.t rfl) OpD.i)|(apply SY.call (hhs) Tryz.call124;(exact aD))|(apply Zc lnT;exact OpD.t rfl)|(apply Zm lnT;exact OpD.t rfl)|(apply SY.extract;(exact oD);rfl)|fail);all_goals infer_instance));dsimp only [ZB,z0,z1])|(apply Z0;(exact oD);(with_reducible rfl))|(apply Za;(exact oD);(with_reducible rfl))|refine WC.skip ?_|refine WC.block ?_|refine ThenD.n ?_|refine InBlockD.n ?_));all_goals (first|((repeat clear hK);(repeat clear Kx))))
       all_goals try (exfalso;first|contradiction|omega)
       rw [hlc]
       (refine ⟨(seen.push j,Mc),?_,by first|omega|(simp only;omega),rfl,?_⟩;rotate_left;((try dsimp only [ZQ,z0,z1]);repeat (first|exact LeF.nil|refine ZD (k:=?_)));(try dsimp only))
       exact ⟨p1,p2,by rw [hpl,L05.updS_skip hgM hcl];exact q3⟩
  ·have hkI:¬ (k:Int)<(rows.length:Int):=by omega
   obtain rfl:k=rows.length:=by omega
   have hP:=PInv.all (b:=[]) h1 h2 h3 rows.length (Nat.le_refl _)
   rw [L05.echN_all] at hE
   rw [L05.echN_all,hE] at hP
   have G:Good05 C (ZAY M):=hP.good
   rw [hE]
   have hko:∀ p∈M,ZBs p.1:=fun p hp=>by
    have hm:(p.1,p.2.2)∈ZAY M:=List.mem_map.2 ⟨p,hp,rfl⟩
    have:=G.low _ hm _ (L05.head_mem (G.hd _ hm))
    have:=G.pos _ hm _ (L05.head_mem (G.hd _ hm))
    simp only at *
    unfold ZBs;omega
   have hkn:(M.map (·.1)).Nodup:=by rw [<- ZC9];exact G.nd
   (repeat' (first|((first|apply WL.opN|apply WD.opN);exact yF;dsimp only [ZB,z0,z1])|refine WL.nil ?_|refine ZA fun Kx hK=>?_|(refine hK _ _ ?_;clear hK)|(refine Kont.skip ?_;clear hK)|refine WC.region ?_|((first|apply WL.opN|apply WD.opN);(focus ((first|(apply ZE3 ZRx;exact OpD.t rfl)|((first|apply SY.move|apply SY.assign|apply SY.lss|apply SY.eql) <;> (exact oD))|fail);all_goals infer_instance));dsimp only [ZB,z0,z1])|(apply WC.condD;(exact oD);all_goals (intro h;try exact xD))|refine WC.exit ?_|refine WC.block ?_))
   all_goals try (exfalso;first|contradiction|omega)
   refine ZEN 134 2 (by decide) LnR ?_
   (refine ZH (X:=Nat × Value) (fun z=>[(78,dI (z.1:Int)),(12,dX z.2),(13,dA),(14,dA),(15,dA),(79,dA),(80,dA),(81,dA),(82,dA),(83,dA),(84,dA),(85,dA),(86,dA),(87,dA),(88,dA),(89,dA),(90,dA),(91,dA),(92,dA)]) (fun z=>([Zg z.2 134 2 LnR (ZFr (ZAY M) z.1),ZO b4 158 1 false (dX (.map (some bm))),hM bm kvQ (fun p:Value × Ln=>p.1) M,hKL LnR (M.map (·.2)),Zh vd 27 ZBk deps])) (fun z=>C-z.1) (fun z=>z.1≤C/\(ZFr (ZAY M) z.1).length≤z.1) (0,.slice none 0 0) ?start ?frame0 ?objs0 ?round)
   case start=>exact ⟨Nat.zero_le _,Nat.le_refl _⟩
   case frame0=>((try dsimp only [ZQ,z0,z1]);repeat (first|exact LeF.nil|refine ZD (k:=?_)))
   case objs0=>rfl
   case round =>
    rintro ⟨j,vo⟩ ⟨hj,hjl⟩
    simp only at hj hjl
    dsimp only [ZQ,z0,z1]
    by_cases hjC:j<C
    ·have hjI:(j:Int)<(C:Int):=by omega
     have hj64:ZBs (j:Int):=by unfold ZBs;omega
     have hlk:=ZIr M (j:Int)
     have hon:=ZNr (ZAY M) j
     have h48:((ZFr (ZAY M) j).length+1)*48≤140737488355328:=by omega
     cases hl:lookM M (j:Int) with
     | none =>
      rw [hl] at hlk
      rw [hlk] at hon
      simp only [Option.map_none,Option.toList_none,List.append_nil] at hon
      ((repeat' (first|((first|apply WL.opN|apply WD.opN);exact yF;dsimp only [ZB,z0,z1])|refine WL.nil ?_|refine ZA fun Kx hK=>?_|(refine hK _ _ ?_;clear hK)|refine WC.region ?_ |  (refine WL.alloc (dst:=some 14) ZQl (ZAa rfl rfl) fun b14=>?_;dsimp only [ZB,z0,z1]) |  (refine ZI ZLD rfl (OpD.t rfl) (ZAa rfl rfl) ?_;dsimp only [ZB,z0,z1])|((first|apply WL.opN|apply WD.opN);(focus ((first|(apply Zd ZOq;exact OpD.t rfl;exact mAt 1 rfl)|(exact ZIC ZFq ZD6 (OpD.t rfl) (mAt 2 rfl) (OpD.t rfl) isI hj64 hko hkn hl)|((first|apply SY.move|apply SY.assign|apply SY.lss|apply SY.eql) <;> (exact oD))|((first|apply SY.add) <;> first|exact oD|omega)|(apply SY.extract;(exact oD);rfl)|fail);all_goals infer_instance));dsimp only [ZB,z0,z1])|(apply Za;(exact oD);(with_reducible rfl))|(apply WC.condD;(exact oD);all_goals (intro h;try exact xD))|refine WC.skip ?_|refine WC.block ?_|refine ThenD.n ?_));all_goals (first|((repeat clear hK);(repeat clear Kx))))
      all_goals try (exfalso;first|contradiction|omega)
      rw [<- hon]
      (refine ⟨(j+1,vo),?_,by first|omega|(simp only;omega),rfl,?_⟩;rotate_left;((try dsimp only [ZQ,z0,z1]);repeat (first|exact LeF.nil|refine ZD (k:=?_)));(try dsimp only))
      exact ⟨by omega,by rw [hon];omega⟩
     | some p =>
      rw [hl] at hlk
      rw [hlk] at hon
      simp only [Option.map_some,Option.toList_some] at hon
      ((repeat' (first|((first|apply WL.opN|apply WD.opN);exact yF;dsimp only [ZB,z0,z1])|refine WL.nil ?_|refine ZA fun Kx hK=>?_|(refine hK _ _ ?_;clear hK)|refine WC.region ?_ |  (refine WL.alloc (dst:=some 14) ZQl (ZAa rfl rfl) fun b14=>?_;dsimp only [ZB,z0,z1]) |  (refine ZI ZLD rfl (OpD.t rfl) Zy ?_;dsimp only [ZB,z0,z1])|((first|apply Z1|apply Zv);(exact eD);exact OpD.t rfl;(exact oD);(intro _;exact hD);(exact (by simp));(exact (by simp));(first|exact ⟨by decide,by decide⟩|skip);decide;(exact lD);(intro _;dsimp only [ZB,z0,z1]);all_goals (try infer_instance))|((first|apply WL.opN|apply WD.opN);(focus ((first|(apply Zd ZOq;exact OpD.t rfl;exact mAt 1 rfl)|(exact ZID ZFq ZD6 (OpD.t rfl) (mAt 2 rfl) (mAt 3 rfl) (OpD.t rfl) isI hj64 hko hkn hl (ZKr hl))|((first|apply SY.move|apply SY.assign|apply SY.lss|apply SY.eql) <;> (exact oD))|((first|apply SY.add) <;> first|exact oD|omega)|(apply SY.extract;(exact oD);rfl)|fail);all_goals infer_instance));dsimp only [ZB,z0,z1])|(apply Z0;(exact oD);(with_reducible rfl))|(apply WC.condD;(exact oD);all_goals (intro h;try exact xD))|refine WC.skip ?_|refine WC.block ?_|refine ThenD.n ?_));all_goals (first|((repeat clear hK);(repeat clear Kx))))
      all_goals try (exfalso;first|contradiction|omega)
      rw [<- hon]
      (refine ⟨(j+1,_),?_,by first|omega|(simp only;omega),rfl,?_⟩;rotate_left;((try dsimp only [ZQ,z0,z1]);repeat (first|exact LeF.nil|refine ZD (k:=?_)));(try dsimp only))
      exact ⟨by omega,by rw [hon,List.length_append,List.length_singleton];omega⟩
    ·have hjI:¬ (j:Int)<(C:Int):=by omega
     obtain rfl:j=C:=by omega
     ((repeat' (first|((first|apply WL.opN|apply WD.opN);exact yF;dsimp only [ZB,z0,z1])|refine WL.nil ?_|refine ZA fun Kx hK=>?_|(refine hK _ _ ?_;clear hK)|(refine Kont.skip ?_;clear hK)|refine WC.region ?_|((first|apply WL.opN|apply WD.opN);(focus ((first|((first|apply SY.move|apply SY.assign|apply SY.lss|apply SY.eql) <;> (exact oD))|fail);all_goals infer_instance));dsimp only [ZB,z0,z1])|(apply WC.condD;(exact oD);all_goals (intro h;try exact xD))|refine WC.ret ?_|refine WC.exit ?_));all_goals (first|((repeat clear hK);(repeat clear Kx))))
     all_goals try (exfalso;first|contradiction|omega)
     exact ⟨trivial,⟨_,rfl,ZDL (mAt 0 rfl) (by rw [hE])⟩,_,rfl,ZH5 (mAt 4 rfl) (by rw [hE])⟩
end
end Go.Proofs.YtokmalofdapffaaGreat
namespace Go.Proofs.YtokmalofdapffaaGreat.L05
section
theorem ZQH {C:Nat} {m:List (Int × Ln)} (G:Good05 C m):(ZFr m C).length=m.length:=by
 have h1:(ZFr m C).Nodup:=(ZQJ G).imp fun {a b} h e=>by rw [e] at h;omega
 have h2:(m.map (·.2)).Nodup:=by
  refine List.pairwise_map.2 ?_
  have h3:m.Pairwise fun p q=>p.1≠q.1:=List.pairwise_map.1 G.nd
  refine h3.imp_of_mem fun {p q} hp hq hne e=>hne ?_
  have a1:=G.hd p hp
  have a2:=G.hd q hq
  rw [e,a2] at a1
  exact (Option.some.inj a1).symm
 have h4:(ZFr m C).Perm (m.map (·.2)):=(List.perm_ext_iff_of_nodup h1 h2).2 fun l=>by
  rw [ZQI G,List.mem_map]
  exact ⟨fun ⟨c,hc⟩=>⟨_,hc,rfl⟩,fun ⟨p,hp,e⟩=>⟨p.1,by rw [<- e];exact hp⟩⟩
 have:=h4.length_eq
 rwa [List.length_map] at this
theorem out_rank {α β:Type} (inc:α->β->Bool) (rows:List α) (cols:List β):(ZFr (echP (matG inc rows cols) cols.length).1 cols.length).length=rkG inc rows cols:=by
 have h:=PInv.all (b:=[]) (mat_asc inc rows cols) (mat_low inc rows cols) (mat_pos inc rows cols) (matG inc rows cols).length (Nat.le_refl _)
 rw [echN_all] at h
 exact ZQH h.good
end
end Go.Proofs.YtokmalofdapffaaGreat.L05
