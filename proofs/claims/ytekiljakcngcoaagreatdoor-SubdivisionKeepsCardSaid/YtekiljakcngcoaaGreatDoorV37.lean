/- Part 37: walks by contracts, and plain laws. -/
import Derived.Test.YtekiljakcngcoaaGreatDoorV36
set_option linter.unusedVariables false
set_option linter.unusedSimpArgs false
set_option linter.unusedSectionVars false
set_option maxRecDepth 100000
set_option maxHeartbeats 4000000
namespace Go.Proofs.YtekiljakcngcoaaGreatDoor
section
open Go.RowKit
section
variable {P:Program} {f:FuncId} {fn:Func} {c:Code} {t:Tmp} {ds:List Dat} {hp1:List HObj} {K:Dat->List HObj->Prop}
def ZU3 (t u:Nat) (n:Nat) (agg:Bool) (K:Dat->List HObj->Prop) (hp:List HObj):ZAW:=fun e f q=>(match e with|.normal|.ret=>True|_=>False)/\∃ d d2 hp2,f[t]?=some (dP n agg d)/\f[u]?=some d2/\q=hp2++hp/\K (dT [d,d2]) hp2
theorem ZCl {t2:Tmp} {T:TypeId} {n:Nat} {agg:Bool} (T':TyI P T n agg) (hf:P.funcs[f]?=some fn) (hb:fn.body=some c) (hr:fn.results=#[.cell t T,.tmp t2])
  (h:∀ hp,WC P (ZU3 t t2 n agg K hp) c (ds++List.replicate (fn.ntmps-ds.length) (dX undef)) (hp1++hp)):CallC P f ds hp1 K:=⟨fun P0 B w0 hp vs W hh hl hv=>by
 refine calls_of_wp hf hb ?_
 have hf0:=ZBI (m:=fn.ntmps-ds.length) hl hv
 have hsz:vs.toArray.size=ds.length:=by simp [hl]
 rw [hsz]
 refine Code.wp_mono (fun e a' w' ⟨f',p',q,hh',hf'⟩=>?_) ((h hp).on hh hf0)
 obtain ⟨hx,d',d2,hp2,hd',hd2,rfl,hk'⟩:=q
 obtain ⟨b,off,u,h1,h2,h3⟩:=hf'.rd t _ hd'
 have hres:(dT [d',d2]).rd (Imm P0 B (hp2++hp)) w' (.tuple #[u,a'.tmps.getD t2 undef]):=⟨[u,a'.tmps.getD t2 undef],rfl,rfl,fun i e x he hx=>by
  match i,he,hx with
  | 0,he,hx=>cases he;cases hx;exact h3
  | 1,he,hx=>cases he;cases hx;exact hf'.rd t2 d2 hd2⟩
 cases e with
 | normal=>exact ⟨hf'.defers,_,ZBl T' hr h1 h2,_,_,hp2,rfl,hk',hh',hres⟩
 | ret=>exact ⟨hf'.defers,_,ZBl T' hr h1 h2,_,_,hp2,rfl,hk',hh',hres⟩
 | _=>exact hx.elim⟩
end
section
variable {P:Program} {ops:Array Oper} {hp:List HObj} {fr:List Dat} {Q:ZAW} {rest:List Oper} {T:TypeId} {b k:Nat} {ds:List Dat}
theorem ZI2 {α:Type} {R:Rel α} {_gR:Good R} {v:Value} {xs:List α} {eT:TypeId} {n:Nat} (hk:ds[k]?=some (dX v)) (h:WL P ops Q rest fr (ZAP b T (ds.set k (dS (ArrK n R) xs))::hp)):WL P ops Q rest fr (ZAP b T ds::Zp v eT n R xs::hp):=WL.of fun P0 B w0 w a hh hf=>by
 obtain ⟨hh1,hI1⟩:=hh.perm (List.Perm.swap _ _ _)
 have hA:ArrK n R (Imm P0 B (ZAP b T ds::hp)) w v xs:=ZD9 hh1
 have hh2:=hh1.drop
 have hgr:w.grownBy w (ZAP b T ds).blk:=⟨rfl,rfl,rfl,Nat.le_refl _,fun _ _ _=>rfl⟩
 obtain ⟨cs,c1,c2,c3,c4⟩:=hh2.ok (ZAP b T ds) (by simp)
 have hkl:=(List.getElem?_eq_some_iff.1 hk).1
 have hkc:k<cs.length:=by omega
 have hv:cs[k]=v:=c4 k _ _ (List.getElem?_eq_getElem hkc) hk
 have hok:(ZAP b T (ds.set k (dS (ArrK n R) xs))).ok (fun j=>Imm P0 B (ZAP b T ds::hp) j/\j<w.heap.size) w:=by
  refine ⟨cs,c1,by simp [c2],c3,fun j c e hc he=>?_⟩
  rw [List.getElem?_set] at he
  by_cases hjk:k=j
  ·rw [if_pos hjk,if_pos hkl] at he
   cases he
   subst hjk
   rw [List.getElem?_eq_getElem hkc] at hc
   cases hc
   rw [hv]
   exact (dS (ArrK n R) xs).bound hA
  ·rw [if_neg hjk] at he
   exact e.bound (c4 j c e hc he)
 refine h.on (hh2.write hgr (.inl rfl) hok) (hf.mono fun d u hd=>?_)
 exact ZY (o:=ZAP b T ds) (o':=ZAP b T (ds.set k (dS (ArrK n R) xs))) hgr (.inl rfl) (d.weak hd fun j hj=>Imm.sub j ((hI1 j).1 hj))
theorem ZF9 {α:Type} {R:Rel α} {_gR:Good R} {v:Value} {e:TypeId} {n:Nat} {xs:List α} (hm:Zp v e n R xs∈hp) (h:v.oneCell'=true->WL P ops Q rest fr hp):WL P ops Q rest fr hp:=WL.of fun _ _ _ _ _ hh hf=>by
 refine (h ?_).on hh hf
 obtain ⟨us,_,_,_,⟨_,hv⟩,_⟩:=hh.ok _ hm
 rcases hv with ⟨hv,_⟩|⟨g,cap,cur,hv,_⟩ <;> rw [hv] <;> rfl
theorem ZF8 {α:Type} {R:Rel α} {_gR:Good R} {v:Value} {e:TypeId} {xs:List α} (hm:Zr v e R xs∈hp) (h:v.oneCell'=true->WL P ops Q rest fr hp):WL P ops Q rest fr hp:=WL.of fun _ _ _ _ _ hh hf=>by
 refine (h ?_).on hh hf
 obtain ⟨us,_,⟨_,hv⟩,_⟩:=hh.ok _ hm
 rcases hv with ⟨hv,_⟩|⟨g,cap,cur,hv,_⟩ <;> rw [hv] <;> rfl
end

theorem ZSZ (x y:Vx) (w:World):Calls Tryz.prog 60 #[.agg #[.int .i64 x.1,.int .i64 x.2],.agg #[.int .i64 y.1,.int .i64 y.2]] w fun e w'=>e = .returned (.int .i64 (ZA8 x y))/\∃ q os',w'=Go.Sort.grow (w.drewN q) os':=M.don_x x y w
theorem ZJ9 {ys xs L:List Vx} (hp:ys.Perm xs) (hs:ys.Pairwise fun a b=>¬ ZA8 b a<0) (hn:xs.Nodup) (hm:∀ v,v∈xs↔v∈L):ys=ZCH [] L:=by
 refine ZCq ?_ (ZCp (by simp [Asc])) fun v=>?_
 ·have hn':ys.Nodup:=hp.nodup_iff.2 hn
  refine List.Pairwise.imp₂ ?_ hs hn'
  intro a b h1 h2
  rcases Int.lt_trichotomy (ZA8 a b) 0 with h|h|h
  ·exact h
  ·exact absurd (ZCO.1 h) h2
  ·have:=ZHv a b
   omega
 ·rw [hp.mem_iff,hm,ZCM]
  simp
theorem ZEl {l:List Nat} {n:Nat} (h:l.Nodup) (hb:∀ j∈l,j<n):l.length≤n:=by
 have:=List.Nodup.length_le_of_subset h (l₂:=List.range n) fun j hj=>List.mem_range.2 (hb j hj)
 simpa using this
def ZMv (M:ZIi) (j:Nat):Vx:=(M.map (·.1)).getD j (0,0)
theorem ZCb {M:ZIi} {j:Nat} (h:j<M.length):ZMv M j=M[j].1:=by
 unfold ZMv
 simp [List.getD,h]
theorem ZJk {M:ZIi} {l:List Nat} (hn:(M.map (·.1)).Nodup) (hl:l.Nodup) (hb:∀ j∈l,j<M.length) (hall:∀ j,j<M.length->j∈l):(l.map (ZMv M)).Nodup/\∀ v,v∈l.map (ZMv M)↔v∈M.map (·.1):=by
 refine ⟨?_,fun v=>?_⟩
 ·refine List.Pairwise.map _ ?_ (List.Pairwise.and_mem.1 hl)
  intro i j hij e
  obtain ⟨hi,hj,hne⟩:=hij
  have h1:=hb i hi
  have h2:=hb j hj
  rw [ZCb h1,ZCb h2] at e
  have e2:(M.map (·.1))[i]'(by simpa using h1)=(M.map (·.1))[j]'(by simpa using h2):=by simpa using e
  exact hne ((List.getElem_inj hn).1 e2)
 ·rw [List.mem_map,List.mem_map]
  constructor
  ·rintro ⟨j,hj,rfl⟩
   exact ⟨M[j]'(hb j hj),List.getElem_mem _,(ZCb (hb j hj)).symm⟩
  ·rintro ⟨q,hq,rfl⟩
   obtain ⟨j,hj,rfl⟩:=List.getElem_of_mem hq
   exact ⟨j,hall j hj,ZCb hj⟩
theorem ZIN {a b c:HObj} {hp:List HObj}:(a::b::c::hp).Perm (c::a::b::hp):=(List.Perm.cons a (List.Perm.swap c b hp)).trans (List.Perm.swap c a _)
theorem ZKw {a b c:HObj} {hp:List HObj}:(a::b::c::hp).Perm (c::b::a::hp):=ZIN.trans (List.Perm.cons c (List.Perm.swap _ _ _))
theorem Bld.at {L:List Vx} {car:Vx->List Vx} {M:ZIi} (h:Bld L car M) {v:Vx} (hv:v∈ZCH [] L):∃ cv,(v,cv,car v)∈M:=by
 have h1:v∈L:=by
  rcases ZCM.1 hv with h|h
  ·cases h
  ·exact h
 obtain ⟨p,hp,he⟩:=List.mem_map.1 ((h.mem v).2 h1)
 refine ⟨p.2.1,?_⟩
 rw [<- he,<- h.car p hp]
 exact hp
set_option maxHeartbeats 16000000 in
theorem ZSY (bs bm:Nat) (F C:Cx) (L:List Vx) (car:Vx->List Vx) (M:ZIi) (hOf:ofP F=(C,0)) (hB:Bld L car M) (hl:M.length≤100000) (hcl:∀ p∈M,p.2.2.length≤1000) :
  CallC Tryz.prog 31 ([dX (.pointer (some ⟨bs,0,none⟩))]++([]:List Value).map dX) [ZAP bs 66 [dS ZAe F,dX (.map (some bm))],hMC bm kvV M,ZAm ZI M]
   (fun d hp2=>d=dT [dS ZG6 (C,ZCH [] L,(ZCH [] L).map car),dI 0]/\hp2=[]):=by
 have hO:=ZSl F
 rw [hOf] at hO
 refine ZCl ZDp Tryz.func31 rfl rfl fun hp=>?_
 simp only [Tryz.ntmps31,List.length_cons,List.length_nil,List.length_append,List.length_map,Nat.reduceAdd,Nat.reduceSub,List.replicate_succ,List.replicate_zero,List.cons_append,List.nil_append,List.map_cons,List.map_nil,List.append_assoc]
 (repeat' (first|((first|apply WL.opN|apply WD.opN);exact yF;dsimp only [ZA,z0,z1])|refine WL.nil ?_|refine ZC fun Kx hK=>?_|(refine hK _ _ ?_;clear hK)|refine WC.region ?_ |  (refine WL.alloc (dst:=some 2) ZKA (ZA0 rfl rfl rfl) fun b2=>?_;dsimp only [ZA,z0,z1]) |  (refine ZEG (dst:=some 6) (zs:=[.slice none 0 0,.slice none 0 0,.slice none 0 0]) ZKA (by decide) (by simp [Value.oneCell']) fun b6=>?_;dsimp only [ZA,z0,z1,List.map_cons,List.map_nil]) |  (refine ZEK ZDp (OpD.t rfl) (OpD.t rfl) rfl rfl ?_;dsimp only [ZA]) |  (refine ZI3 ZCK (OpD.t rfl) (.tail _ (.tail _ (.tail _ (.head _)))) fun r=>?_;dsimp only [ZA,z0,z1])|(apply WL.alloc;(first|exact tzV|exact tzC);(first|exact ZN rfl|exact ZW|exact ZX rfl);(intro _;dsimp only [ZA,z0,z1]))|(apply ZG;(exact tD);rfl;(exact oD);(exact hD);dsimp only [ZA,z0,z1])|((first|apply WL.opN|apply WD.opN);(focus ((first|(exact ZAz (OpD.t rfl))|(refine ZAU ZMQ (OpD.t rfl) (by decide))|(refine Z1 ZIn (OpD.t rfl) (.tail _ (.head _)) rfl)|(apply SY.call (hO) Tryz.call58;(exact aD))|(exact ZNO (OpD.t rfl))|(refine Z1 ZG2 (OpD.t rfl) (.tail _ (.tail _ (.head _))) rfl)|((first|apply SY.move|apply SY.assign|apply SY.lss|apply SY.neq) <;> (exact oD))|(apply SY.extract;(exact oD);rfl)|fail);all_goals infer_instance));dsimp only [ZA,z0,z1])|(apply WC.condN;(exact oD);all_goals (intro h;try exact xD))|refine WC.skip ?_|refine WC.block ?_))
 all_goals try (exfalso;first|contradiction|omega)
 refine ZBz 50 2 (by decide) RV ?_
 refine WC.perm (List.Perm.swap _ _ _) ?_
 (refine WC.loopU (X:=Array Nat × Value × List Vx) (fun x=>[(7,dA),(29,dA),(30,dA),(31,dA),(32,dA),(33,dA),(34,dA),(35,dA),(36,dA),(37,dA),(38,dA)]) (fun x=>(hIt bm r M.length x.1::Zp x.2.1 50 2 RV x.2.2::ZAP b6 30 [dS ZAe C,dX x.2.1,dX (.slice none 0 0)]::Zh b2 30 3 true (dX (.agg #[.slice none 0 0,.slice none 0 0,.slice none 0 0]))::ZAP bs 66 [dS ZAe F,dX (.map (some bm))]::hMC bm kvV M::ZAm ZI M::hp)) (fun x=>M.length-x.1.size) (fun x=>x.1.toList.Nodup/\(∀ j∈x.1.toList,j<M.length)/\x.2.2=x.1.toList.map (ZMv M)) (#[],.slice none 0 0,[]) ?start ?frame0 ?objs0 ?round)
 case start=>exact ⟨by simp,by simp,by simp⟩
 case frame0=>((try dsimp only [Za,z0,z1]);repeat (first|exact LeF.nil|refine ZF (k:=?_)))
 case objs0=>rfl
 case round =>
  rintro ⟨seen,v,xs⟩ ⟨q1,q2,q3⟩
  simp only at q1 q2 q3
  dsimp only [Za,z0,z1]
  have hsz:seen.size≤M.length:=by
   have:=ZEl q1 q2
   simpa using this
  have hxl:xs.length≤100000:=by rw [q3,List.length_map];simp;omega
  refine ZC fun Kx hK=>?_
  refine WC.region ?_
  refine ZLM (OpD.t rfl) (.tail _ (.tail _ (.tail _ (.tail _ (.head _))))) (fun hall=>?_) (fun j hj hns=>?_)
  ·dsimp only [ZA,z0,z1]
   obtain ⟨k1,k2⟩:=ZJk hB.nodup q1 q2 (fun j hj=>by simpa using hall j hj)
   rw [<- q3] at k1 k2
   refine WL.drop ?_
   (repeat' (first|((first|apply WL.opN|apply WD.opN);exact yF;dsimp only [ZA,z0,z1])|refine WL.nil ?_|refine ZC fun Kx hK=>?_|(refine hK _ _ ?_;clear hK)|(refine Kont.skip ?_;clear hK)|refine WC.region ?_ |  (refine ZEJ Tryz.call60 ZSZ (OpD.t rfl) (by omega) fun ys hperm hsort=>?_;refine WL.perm (List.Perm.swap _ _ _) (ZI2 (k:=1) rfl (ZBU 28 ZI ?_));dsimp only [ZA,z0,z1])|((first|apply WL.opN|apply WD.opN);(focus ((first|(refine ZAU ZCi (OpD.t rfl) (by decide))|(refine Z1 ZG3 (OpD.t rfl) (.tail _ (.head _)) rfl)|(apply SY.len;(exact oD);(exact nD);(exact uD))|(apply SY.extract;(exact oD);rfl)|fail);all_goals infer_instance));dsimp only [ZA,z0,z1])|(apply ZK;(exact oD);(with_reducible rfl))|refine WC.exit ?_|refine WC.block ?_))
   have hys:=ZJ9 hperm hsort k1 fun v=>(k2 v).trans (hB.mem v)
   have hyl:ys.length≤100000:=by rw [hperm.length_eq];exact hxl
   subst hys
   generalize hvs:ZCH [] L=vs at *
   (refine WC.loopU (X:=Nat × Value) (fun x=>[(45,dI (x.1:Int)),(9,dA),(46,dA),(47,dA),(48,dA),(49,dA),(50,dA),(51,dA),(52,dA),(53,dA),(54,dA),(55,dA),(56,dA),(57,dA),(58,dA),(59,dA),(60,dA),(61,dA)]) (fun x=>(Zr x.2 28 ZI ((vs.take x.1).map car)::ZAP b6 30 [dS ZAe C,dS ZI vs,dX x.2]::Zh b2 30 3 true (dX (.agg #[.slice none 0 0,.slice none 0 0,.slice none 0 0]))::ZAP bs 66 [dS ZAe F,dX (.map (some bm))]::hMC bm kvV M::ZAm ZI M::hp)) (fun x=>vs.length-x.1) (fun x=>x.1≤vs.length) (0,.slice none 0 0) ?start ?frame0 ?objs0 ?round)
   case start=>exact Nat.zero_le _
   case frame0=>((try dsimp only [Za,z0,z1]);repeat (first|exact LeF.nil|refine ZF (k:=?_)))
   case objs0=>rfl
   case round =>
    rintro ⟨i,u⟩ g1
    simp only at g1
    dsimp only [Za,z0,z1]
    by_cases hi:i<vs.length
    ·obtain ⟨cv,hcv⟩:=hB.at (v:=vs[i]) (by rw [hvs];exact List.getElem_mem _)
     have hok:=hB.ok _ hcv
     have hcl1:=hcl _ hcv
     simp only at hok hcl1
     have hul:((vs.take i).map car).length≤100000:=by rw [List.length_map,List.length_take];omega
     ((repeat' (first |  (apply WC.drawTail 10;kernel_rfl;kernel_rfl;simp only [List.take_succ_cons,List.take_zero,List.drop_succ_cons,List.drop_zero])|(refine WRd.nil ?_)|(apply ZBn rfl;(focus (intro c hcc;apply SYG.yes;(exact Zc rfl);((first|(refine ZAU ZCi (OpD.t rfl) (by decide))|(refine Z1 ZIn (OpD.t rfl) (.tail _ (.head _)) rfl)|(exact ZAz (OpD.t rfl))|(refine ZAU ZMQ (OpD.t rfl) (by decide))|(refine Z1 ZG2 (OpD.t rfl) (.tail _ (.tail _ (.tail _ (.head _)))) rfl)|(refine ZEC (R:=ZI) ZCK ZBc (OpD.t rfl) (.tail _ (.tail _ (.tail _ (.tail _ (.head _))))) (.tail _ (.tail _ (.tail _ (.tail _ (.tail _ (.head _)))))) (OpD.t rfl) ⟨fun _ _ _ h=>h⟩ hok hB.ok hB.nodup hcv)|(apply SY.call (ZDa (car vs[i]) hcl1) Tryz.call62;(exact aD))|((first|apply SY.move|apply SY.assign|apply SY.lss|apply SY.neq) <;> (exact oD))|((first|apply SY.add) <;> first|exact oD|omega)|(apply SY.load;(exact tD);(exact oD))|(apply ZJ;(exact tD);(exact oD);(exact (by simp)))|(apply SY.len;(exact oD);(exact nD);(exact uD))|(apply ZV;exact OpD.t rfl;(first|exact .head _|exact .tail _ (.head _));(exact uD))|(apply Zf;exact OpD.t rfl;(first|exact .head _|exact .tail _ (.head _));(exact uD))|(apply Zi;(exact eD);(exact oD);(exact oD);exact kD)|(apply SY.ix;(exact eD);(exact oD);(exact oD);exact kD)|(first|(apply SY.fld0 vxT <;> (exact oD))|(apply SY.fld1 vxT <;> (exact oD))|(apply SY.mkV0 vxT <;> (exact oD))|(apply SY.mkV1 vxT <;> (exact oD))|(apply ZAo vxT <;> (exact oD))|(apply Zm vxT <;> (exact oD)))|(apply Zb ZAA;exact OpD.t rfl)|exact ZAX ZAA|(apply ZAv ZAA;exact OpD.t rfl)|(apply Zn;(exact oD);(exact oD);exact ZCF)|(apply SY.buildE;(exact eD);((try simp only [List.map_cons,List.map_nil]);(repeat (first|exact ZR|(apply ZQ;(first|exact OpD.t rfl|exact OpD.i|exact OpD.b|exact OpD.tle rfl (by first|exact ZD|exact ZB (by decide))|exact ⟨ZD⟩|exact ⟨ZB (by decide)⟩)))));rfl;rfl;decide;(intro _;exact Zo);(exact (by simp)))|(apply SY.build1';(exact eD);((try simp only [List.map_cons,List.map_nil]);(repeat (first|exact ZR|(apply ZQ;(first|exact OpD.t rfl|exact OpD.i|exact OpD.b|exact OpD.tle rfl (by first|exact ZD|exact ZB (by decide))|exact ⟨ZD⟩|exact ⟨ZB (by decide)⟩)))));rfl;rfl;(intro _;first|exact Zq|exact Zv|exact Zt|exact shape_B);(exact (by simp)))|(apply SY.extract;(exact oD);rfl)|fail);all_goals infer_instance)));dsimp only [ZA,z0,z1])|((first|apply WL.opN|apply WD.opN);exact yF;dsimp only [ZA,z0,z1])|refine WL.nil ?_|refine WD.nil ?_|refine ZC fun Kx hK=>?_|(refine hK _ _ ?_;clear hK)|(refine Kont.skip ?_;clear hK)|refine WC.region ?_|(apply WC.draw;kernel_rfl;kernel_rfl) |  (refine ZF8 (.head _) fun h1=>WL.perm (List.Perm.swap _ _ _) (ZB3 ZIn (OpD.t rfl) (OpD.t rfl) (ZN h1) (by simp) (WL.perm (List.Perm.swap _ _ _) ?_));dsimp only [ZA,z0,z1])|((first|apply ZO|apply ZM);(exact eD);exact OpD.t rfl;(exact oD);(intro _;exact hD);(exact (by simp));(exact (by simp));(first|exact ⟨by decide,by decide⟩|skip);decide;(exact lD);(intro _;dsimp only [ZA,z0,z1]);all_goals (try infer_instance))|((first|apply WL.appK|apply WL.app1);(exact eD);exact OpD.t rfl;(exact oD);decide;(exact lD);(intro _;dsimp only [ZA,z0,z1]);all_goals (try infer_instance))|((apply (WL.perm (List.Perm.swap _ _ _));(first|apply ZO|apply ZM);(exact eD);exact OpD.t rfl;(exact oD);(intro _;exact hD);(exact (by simp));(exact (by simp));(first|exact ⟨by decide,by decide⟩|skip);decide;(exact lD);(intro _;dsimp only [ZA,z0,z1]);all_goals (try infer_instance)))|((apply (WL.perm (List.Perm.swap _ _ _));(first|apply WL.appK|apply WL.app1);(exact eD);exact OpD.t rfl;(exact oD);decide;(exact lD);(intro _;dsimp only [ZA,z0,z1]);all_goals (try infer_instance)))|(apply WL.alloc;(first|exact tzV|exact tzC);(first|exact ZN rfl|exact ZW|exact ZX rfl);(intro _;dsimp only [ZA,z0,z1]))|(apply ZG;(exact tD);rfl;(exact oD);(exact hD);dsimp only [ZA,z0,z1])|(apply ZT;(exact tD);rfl;(exact oD);(exact hD);dsimp only [ZA,z0,z1])|(apply ZU;(exact tD);rfl;(exact oD);(exact hD);dsimp only [ZA,z0,z1])|((first|apply WL.opN|apply WD.opN);(focus ((first|(refine ZAU ZCi (OpD.t rfl) (by decide))|(refine Z1 ZIn (OpD.t rfl) (.tail _ (.head _)) rfl)|(exact ZAz (OpD.t rfl))|(refine ZAU ZMQ (OpD.t rfl) (by decide))|(refine Z1 ZG2 (OpD.t rfl) (.tail _ (.tail _ (.tail _ (.head _)))) rfl)|(refine ZEC (R:=ZI) ZCK ZBc (OpD.t rfl) (.tail _ (.tail _ (.tail _ (.tail _ (.head _))))) (.tail _ (.tail _ (.tail _ (.tail _ (.tail _ (.head _)))))) (OpD.t rfl) ⟨fun _ _ _ h=>h⟩ hok hB.ok hB.nodup hcv)|(apply SY.call (ZDa (car vs[i]) hcl1) Tryz.call62;(exact aD))|((first|apply SY.move|apply SY.assign|apply SY.lss|apply SY.neq) <;> (exact oD))|((first|apply SY.add) <;> first|exact oD|omega)|(apply Zi;(exact eD);(exact oD);(exact oD);exact kD)|(apply SY.build1';(exact eD);((try simp only [List.map_cons,List.map_nil]);(repeat (first|exact ZR|(apply ZQ;(first|exact OpD.t rfl|exact OpD.i|exact OpD.b|exact OpD.tle rfl (by first|exact ZD|exact ZB (by decide))|exact ⟨ZD⟩|exact ⟨ZB (by decide)⟩)))));rfl;rfl;(intro _;first|exact Zq|exact Zv|exact Zt|exact shape_B);(exact (by simp)))|fail);all_goals infer_instance));dsimp only [ZA,z0,z1])|(apply WC.condT;(exact oD);(with_reducible rfl))|(apply ZK;(exact oD);(with_reducible rfl))|(apply ZE;(exact oD);all_goals (intro h;try exact xD))|(apply WC.condN;(exact oD);all_goals (intro h;try exact xD))|(apply WC.condNB;(exact oD);all_goals (intro h;try exact xD))|(apply WC.cond;(exact oD);all_goals (intro h;try exact xD))|refine WC.skip ?_|refine WC.ret ?_|refine WC.exit ?_|refine WC.block ?_|refine ThenD.n ?_|refine ThenD.r ?_|refine ThenD.x ?_|refine InBlockD.x ?_|refine InBlockD.n ?_|refine InBlockD.r ?_|refine ZL (by decide) ?_));all_goals (first|refine WC.id ?_|refine WL.id ?_|((repeat clear hK);(repeat clear Kx))))
     all_goals try (exfalso;first|contradiction|omega)
     (refine ⟨(i+1,_) , ?_,by first|omega|(simp only;omega),by ((try simp only);  (rw [ZZ hi,List.map_append,List.map_cons,List.map_nil])),?_⟩;rotate_left;((try dsimp only [Za,z0,z1]);repeat (first|exact LeF.nil|refine ZF (k:=?_)));(try dsimp only))
     omega
    ·have hie:i=vs.length:=by omega
     subst hie
     rw [List.take_length]
     refine WC.perm (List.Perm.swap _ _ _) (ZLE (k:=2) rfl ?_)
     dsimp only [z0,z1]
     ((repeat' (first|((first|apply WL.opN|apply WD.opN);exact yF;dsimp only [ZA,z0,z1])|refine WL.nil ?_|refine WD.nil ?_|refine ZC fun Kx hK=>?_|(refine hK _ _ ?_;clear hK)|(refine Kont.skip ?_;clear hK)|refine WC.region ?_|(apply WC.draw;kernel_rfl;kernel_rfl) |  (refine ZT (d:=dS ZG6 (C,vs,vs.map car)) ZDp rfl (OpD.tle rfl ZSH) ZAd (WL.drop (WL.drop (WL.drop (WL.drop ?_))));dsimp only [ZA,z0,z1])|((first|apply ZO|apply ZM);(exact eD);exact OpD.t rfl;(exact oD);(intro _;exact hD);(exact (by simp));(exact (by simp));(first|exact ⟨by decide,by decide⟩|skip);decide;(exact lD);(intro _;dsimp only [ZA,z0,z1]);all_goals (try infer_instance))|((first|apply WL.appK|apply WL.app1);(exact eD);exact OpD.t rfl;(exact oD);decide;(exact lD);(intro _;dsimp only [ZA,z0,z1]);all_goals (try infer_instance))|((apply (WL.perm (List.Perm.swap _ _ _));(first|apply ZO|apply ZM);(exact eD);exact OpD.t rfl;(exact oD);(intro _;exact hD);(exact (by simp));(exact (by simp));(first|exact ⟨by decide,by decide⟩|skip);decide;(exact lD);(intro _;dsimp only [ZA,z0,z1]);all_goals (try infer_instance)))|((apply (WL.perm (List.Perm.swap _ _ _));(first|apply WL.appK|apply WL.app1);(exact eD);exact OpD.t rfl;(exact oD);decide;(exact lD);(intro _;dsimp only [ZA,z0,z1]);all_goals (try infer_instance)))|(apply WL.alloc;(first|exact tzV|exact tzC);(first|exact ZN rfl|exact ZW|exact ZX rfl);(intro _;dsimp only [ZA,z0,z1]))|(apply ZG;(exact tD);rfl;(exact oD);(exact hD);dsimp only [ZA,z0,z1])|(apply ZT;(exact tD);rfl;(exact oD);(exact hD);dsimp only [ZA,z0,z1])|(apply ZU;(exact tD);rfl;(exact oD);(exact hD);dsimp only [ZA,z0,z1])|((first|apply WL.opN|apply WD.opN);(focus ((first|(refine ZLC ZDp (OpD.t rfl) (.head _) (by decide) rfl)|((first|apply SY.move|apply SY.assign|apply SY.lss|apply SY.neq) <;> (exact oD))|((first|apply SY.add) <;> first|exact oD|omega)|(apply SY.load;(exact tD);(exact oD))|(apply ZJ;(exact tD);(exact oD);(exact (by simp)))|(apply SY.len;(exact oD);(exact nD);(exact uD))|(apply ZV;exact OpD.t rfl;(first|exact .head _|exact .tail _ (.head _));(exact uD))|(apply Zf;exact OpD.t rfl;(first|exact .head _|exact .tail _ (.head _));(exact uD))|(apply Zi;(exact eD);(exact oD);(exact oD);exact kD)|(apply SY.ix;(exact eD);(exact oD);(exact oD);exact kD)|(first|(apply SY.fld0 vxT <;> (exact oD))|(apply SY.fld1 vxT <;> (exact oD))|(apply SY.mkV0 vxT <;> (exact oD))|(apply SY.mkV1 vxT <;> (exact oD))|(apply ZAo vxT <;> (exact oD))|(apply Zm vxT <;> (exact oD)))|(apply Zb ZAA;exact OpD.t rfl)|exact ZAX ZAA|(apply ZAv ZAA;exact OpD.t rfl)|(apply Zn;(exact oD);(exact oD);exact ZCF)|(apply SY.buildE;(exact eD);((try simp only [List.map_cons,List.map_nil]);(repeat (first|exact ZR|(apply ZQ;(first|exact OpD.t rfl|exact OpD.i|exact OpD.b|exact OpD.tle rfl (by first|exact ZD|exact ZB (by decide))|exact ⟨ZD⟩|exact ⟨ZB (by decide)⟩)))));rfl;rfl;decide;(intro _;exact Zo);(exact (by simp)))|(apply SY.build1';(exact eD);((try simp only [List.map_cons,List.map_nil]);(repeat (first|exact ZR|(apply ZQ;(first|exact OpD.t rfl|exact OpD.i|exact OpD.b|exact OpD.tle rfl (by first|exact ZD|exact ZB (by decide))|exact ⟨ZD⟩|exact ⟨ZB (by decide)⟩)))));rfl;rfl;(intro _;first|exact Zq|exact Zv|exact Zt|exact shape_B);(exact (by simp)))|(apply SY.extract;(exact oD);rfl)|fail);all_goals infer_instance));dsimp only [ZA,z0,z1])|(apply WC.condT;(exact oD);(with_reducible rfl))|(apply ZK;(exact oD);(with_reducible rfl))|(apply ZE;(exact oD);all_goals (intro h;try exact xD))|(apply WC.condN;(exact oD);all_goals (intro h;try exact xD))|(apply WC.condNB;(exact oD);all_goals (intro h;try exact xD))|(apply WC.cond;(exact oD);all_goals (intro h;try exact xD))|refine WC.skip ?_|refine WC.ret ?_|refine WC.exit ?_|refine WC.block ?_|refine ThenD.n ?_|refine ThenD.r ?_|refine ThenD.x ?_|refine InBlockD.x ?_|refine InBlockD.n ?_|refine InBlockD.r ?_|refine ZL (by decide) ?_));all_goals (first|refine WC.id ?_|refine WL.id ?_|((repeat clear hK);(repeat clear Kx))))
     all_goals try (exfalso;first|contradiction|omega)
     exact ⟨trivial,_,_,[],rfl,rfl,rfl,rfl,rfl⟩
  ·dsimp only [ZA,z0,z1]
   have hjs:seen.size<M.length:=by
    have h2:(seen.push j).toList.Nodup:=by
     rw [Array.toList_push,List.nodup_append]
     exact ⟨q1,by simp,fun a ha b hb e=>hns (by rw [<- List.mem_singleton.1 hb,<- e];simpa using ha)⟩
    have:=ZEl h2 (n:=M.length) fun i hi=>by
     rw [Array.toList_push,List.mem_append,List.mem_singleton] at hi
     rcases hi with hi|rfl
     ·exact q2 i hi
     ·exact hj
    simp only [Array.length_toList,Array.size_push] at this
    omega
   have hps:(seen.push j).size=seen.size+1:=Array.size_push ..
   ((repeat' (first|((first|apply WL.opN|apply WD.opN);exact yF;dsimp only [ZA,z0,z1])|refine WL.nil ?_|refine WD.nil ?_|refine ZC fun Kx hK=>?_|(refine hK _ _ ?_;clear hK)|(refine Kont.skip ?_;clear hK)|refine WC.region ?_|(apply WC.draw;kernel_rfl;kernel_rfl) |  (refine ZG (d:=dS RV M[j].1) tyV rfl (OpD.tle rfl (fun _ _ _ h=>h)) Zo ?_;dsimp only [ZA,z0,z1]) |  (refine ZF9 (.head _) fun h1=>WL.perm ZIN (ZB3 ZG3 (OpD.t rfl) (OpD.t rfl) (ZN h1) (by simp) (WL.perm ZKw ?_));dsimp only [ZA,z0,z1])|((first|apply ZO|apply ZM);(exact eD);exact OpD.t rfl;(exact oD);(intro _;exact hD);(exact (by simp));(exact (by simp));(first|exact ⟨by decide,by decide⟩|skip);decide;(exact lD);(intro _;dsimp only [ZA,z0,z1]);all_goals (try infer_instance))|((first|apply WL.appK|apply WL.app1);(exact eD);exact OpD.t rfl;(exact oD);decide;(exact lD);(intro _;dsimp only [ZA,z0,z1]);all_goals (try infer_instance))|((apply (WL.perm (List.Perm.swap _ _ _));(first|apply ZO|apply ZM);(exact eD);exact OpD.t rfl;(exact oD);(intro _;exact hD);(exact (by simp));(exact (by simp));(first|exact ⟨by decide,by decide⟩|skip);decide;(exact lD);(intro _;dsimp only [ZA,z0,z1]);all_goals (try infer_instance)))|((apply (WL.perm (List.Perm.swap _ _ _));(first|apply WL.appK|apply WL.app1);(exact eD);exact OpD.t rfl;(exact oD);decide;(exact lD);(intro _;dsimp only [ZA,z0,z1]);all_goals (try infer_instance)))|(apply WL.alloc;(first|exact tzV|exact tzC);(first|exact ZN rfl|exact ZW|exact ZX rfl);(intro _;dsimp only [ZA,z0,z1]))|(apply ZG;(exact tD);rfl;(exact oD);(exact hD);dsimp only [ZA,z0,z1])|(apply ZT;(exact tD);rfl;(exact oD);(exact hD);dsimp only [ZA,z0,z1])|(apply ZU;(exact tD);rfl;(exact oD);(exact hD);dsimp only [ZA,z0,z1])|((first|apply WL.opN|apply WD.opN);(focus ((first|(refine ZIu (OpD.t rfl) (.head _) (.tail _ (.tail _ (.tail _ (.tail _ (.tail _ (.head _)))))) hj)|(refine ZAU ZCi (OpD.t rfl) (by decide))|(refine Z1 ZG3 (OpD.t rfl) (.tail _ (.tail _ (.head _))) rfl)|((first|apply SY.move|apply SY.assign|apply SY.lss|apply SY.neq) <;> (exact oD))|((first|apply SY.add) <;> first|exact oD|omega)|(apply SY.load;(exact tD);(exact oD))|(apply ZJ;(exact tD);(exact oD);(exact (by simp)))|(apply SY.len;(exact oD);(exact nD);(exact uD))|(apply ZV;exact OpD.t rfl;(first|exact .head _|exact .tail _ (.head _));(exact uD))|(apply Zf;exact OpD.t rfl;(first|exact .head _|exact .tail _ (.head _));(exact uD))|(apply Zi;(exact eD);(exact oD);(exact oD);exact kD)|(apply SY.ix;(exact eD);(exact oD);(exact oD);exact kD)|(first|(apply SY.fld0 vxT <;> (exact oD))|(apply SY.fld1 vxT <;> (exact oD))|(apply SY.mkV0 vxT <;> (exact oD))|(apply SY.mkV1 vxT <;> (exact oD))|(apply ZAo vxT <;> (exact oD))|(apply Zm vxT <;> (exact oD)))|(apply Zb ZAA;exact OpD.t rfl)|exact ZAX ZAA|(apply ZAv ZAA;exact OpD.t rfl)|(apply Zn;(exact oD);(exact oD);exact ZCF)|(apply SY.buildE;(exact eD);((try simp only [List.map_cons,List.map_nil]);(repeat (first|exact ZR|(apply ZQ;(first|exact OpD.t rfl|exact OpD.i|exact OpD.b|exact OpD.tle rfl (by first|exact ZD|exact ZB (by decide))|exact ⟨ZD⟩|exact ⟨ZB (by decide)⟩)))));rfl;rfl;decide;(intro _;exact Zo);(exact (by simp)))|(apply SY.build1';(exact eD);((try simp only [List.map_cons,List.map_nil]);(repeat (first|exact ZR|(apply ZQ;(first|exact OpD.t rfl|exact OpD.i|exact OpD.b|exact OpD.tle rfl (by first|exact ZD|exact ZB (by decide))|exact ⟨ZD⟩|exact ⟨ZB (by decide)⟩)))));rfl;rfl;(intro _;first|exact Zq|exact Zv|exact Zt|exact shape_B);(exact (by simp)))|(apply SY.extract;(exact oD);rfl)|fail);all_goals infer_instance));dsimp only [ZA,z0,z1])|(apply WC.condT;(exact oD);(with_reducible rfl))|(apply ZK;(exact oD);(with_reducible rfl))|(apply ZE;(exact oD);all_goals (intro h;try exact xD))|(apply WC.condN;(exact oD);all_goals (intro h;try exact xD))|(apply WC.condNB;(exact oD);all_goals (intro h;try exact xD))|(apply WC.cond;(exact oD);all_goals (intro h;try exact xD))|refine WC.skip ?_|refine WC.ret ?_|refine WC.exit ?_|refine WC.block ?_|refine ThenD.n ?_|refine ThenD.r ?_|refine ThenD.x ?_|refine InBlockD.x ?_|refine InBlockD.n ?_|refine InBlockD.r ?_|refine ZL (by decide) ?_));all_goals (first|refine WC.id ?_|refine WL.id ?_|((repeat clear hK);(repeat clear Kx))))
   all_goals try (exfalso;first|contradiction|omega)
   (refine ⟨(seen.push j,_,xs++[M[j].1]) , ?_,by first|omega|(simp only;omega),by ((try simp only);  rfl),?_⟩;rotate_left;((try dsimp only [Za,z0,z1]);repeat (first|exact LeF.nil|refine ZF (k:=?_)));(try dsimp only))
   refine ⟨?_,fun i hi=>?_,?_⟩
   ·rw [Array.toList_push,List.nodup_append]
    exact ⟨q1,by simp,fun a ha b hb e=>hns (by rw [<- List.mem_singleton.1 hb,<- e];simpa using ha)⟩
   ·rw [Array.toList_push,List.mem_append,List.mem_singleton] at hi
    rcases hi with hi|rfl
    ·exact q2 i hi
    ·exact hj
   ·rw [q3,Array.toList_push,List.map_append,List.map_cons,List.map_nil,ZCb hj]
def partB (n:Nat):Bool:=(ZCD (2 ^ n-1)).all fun bl=>(bl.all fun b=>decide (b<32)) && (List.range n).all fun i=>decide (ZBE bl 0 (fun _=>0) i=ZCA bl i 0) && decide (ZCA bl i 0≤31)
theorem ZUA:∀ n,n≤5->partB n=true:=by
 intro n h5
 have:n=0\/n=1\/n=2\/n=3\/n=4\/n=5:=by omega
 rcases this with rfl|rfl|rfl|rfl|rfl|rfl <;> decide +kernel
theorem ZCP {n:Nat} (h5:n≤5) {bl:List Nat} (hb:bl∈ZCD (2 ^ n-1)):(∀ b∈bl,b<32)/\∀ i,i<n->ZBE bl 0 (fun _=>0) i=ZCA bl i 0/\ZCA bl i 0≤31:=by
 have h:=List.all_eq_true.1 (ZUA n h5) bl hb
 rw [Bool.and_eq_true] at h
 refine ⟨fun b hbb=>of_decide_eq_true (List.all_eq_true.1 h.1 b hbb),fun i hi=>?_⟩
 have h2:=List.all_eq_true.1 h.2 i (List.mem_range.2 hi)
 rw [Bool.and_eq_true] at h2
 exact ⟨of_decide_eq_true h2.1,of_decide_eq_true h2.2⟩
theorem ZPP {s:List Vx} (h5:s.length≤5) {bl:List Nat} (hb:bl∈ZCD (2 ^ s.length-1)):Z5 (fun m=>(m:Int)) s bl=ZBY s bl:=by
 unfold Z5 ZBY
 refine List.map_congr_left fun p hp=>?_
 obtain ⟨q,i⟩:=p
 have hi:=(List.mem_zipIdx hp).2.1
 show (q.1,((ZBE bl 0 (fun _=>0) i:Nat):Int))=_
 rw [((ZCP h5 hb).2 i (by omega)).1]
theorem ZUx {s:List Vx} (h5:s.length≤5):(ZCD (2 ^ s.length-1)).map (Z5 (fun m=>(m:Int)) s)=ZCz s:=by
 unfold ZCz
 exact List.map_congr_left fun bl hb=>ZPP h5 hb
section
variable {P:Program} {ops:Array Oper} {hp:List HObj} {fr:List Dat} {d:Dat} {Q:ZAW} {rest:List Oper} {dst:Option Tmp} {ty:TypeId} {ps:String} {af:Array Edge} {T:TypeId} {ds:List Dat}
theorem ZKS {x:Operand} (hx:OpD fr x (ZGJ ds)) (hn:0<ds.length) (h:∀ b,WL P ops Q rest (ZA fr dst (dX (.pointer (some ⟨b,0,none⟩)))) (ZAP b T ds::hp)) :
  WL P ops Q (⟨dst,.box T x,ty,ps,af,none⟩::rest) fr hp :=
 ZHb (T:=T) hx (ZJ7 hn rfl) fun b=>WL.of fun P0 B w0 w a hh hf=>by
  obtain ⟨cs,u,c1,c2,c0,c3,c4,c5⟩:=hh.ok (Zh b T ds.length true (ZGJ ds)) (by simp)
  simp only [if_true] at c4
  obtain ⟨us,q1,q2,q3,q4⟩:=c5
  rw [c4] at q1
  have hcs:cs=us:=by injection q1 with q1;exact List.toArray_inj q1
  subst hcs
  have hgr:w.grownBy w (Zh b T ds.length true (ZGJ ds)).blk:=⟨rfl,rfl,rfl,Nat.le_refl _,fun _ _ _=>rfl⟩
  have hbd:=(Zh b T ds.length true (ZGJ ds)).bound (hh.ok (Zh b T ds.length true (ZGJ ds)) (by simp))
  have hok:(ZAP b T ds).ok (fun k=>Imm P0 B (Zh b T ds.length true (ZGJ ds)::hp) k/\k<w.heap.size) w :=
   ⟨cs,c1,c2,c3,fun k c d hc hd=>d.bound (q4 k c d hc hd)⟩
  exact (h b).on (hh.write hgr (.inl rfl) hok) (hf.mono fun _ _ hd=>ZY (o':=ZAP b T ds) hgr (.inl rfl) hd)
theorem ZE3 {K α:Type} (R:Rel α) [Good R] (h:WL P ops Q rest fr (ZAm (K:=K) R []::hp)):WL P ops Q rest fr hp:=WL.of fun P0 B w0 w a hh hf=>by
 have hg:(ZAm (K:=K) R []).blk=none:=rfl
 refine h.on (ZBT (l:=[]) hg hh (fun p hp=>by cases hp)) (hf.mono fun d v hd=>d.weak hd fun k=>(ZAC hg [] k).2)
end
theorem ZKQ {ops:Array Oper} {hp:List HObj} {fr:List Dat} {dst:Option Tmp} {ty:TypeId} {ps:String} {af:Array Edge} {g:Option (Nat × Bool)} {x:Operand} {bm:Nat} (hx:OpD fr x (dX (.map (some bm)))):SY Tryz.prog ops hp ⟨dst,.build 66 #[(1,x)],ty,ps,af,g⟩ fr (ZGJ [dX (.slice none 0 0),dX (.map (some bm))]):=SY.val fun {I w a} ho=>by
 have h1:a.eval x = .map (some bm):=hx.get (by simp [Op.operands]) ho
 have hm:∀ w,(Instr.build 66 #[(1,.map (some bm))]).run Tryz.prog w = .ok (.agg #[.slice none 0 0,.map (some bm)]) w:=by intro w;go_simp
 refine ⟨.agg #[.slice none 0 0,.map (some bm)],?_,[_,_],rfl,rfl,by simp [Value.oneCell'],fun k c d hc hd=>?_⟩
 ·unfold execOp
  simp only [List.map_toArray,List.map_cons,List.map_nil,h1,Sem.run_bind,hm,Result.andThen_ok,Sem.run_pure]
 ·match k,hc,hd with
  | 0,hc,hd=>cases hc;cases hd;rfl
  | 1,hc,hd=>cases hc;cases hd;rfl
theorem ZTg {s:List Vx} (hs:Z3 s=0) (h5:s.length≤5) {bl:List Nat} (hb:bl∈ZCD (2 ^ s.length-1)) (i:Nat) (h:i<(Z5 (fun m=>(m:Int)) s bl).length) :
  okV (Z5 (fun m=>(m:Int)) s bl)[i]/\ZIj s (Z5 (fun m=>(m:Int)) s bl)[i]=atB s (ZBE bl 0 (fun _=>0) i):=by
 have hi:i<s.length:=by rw [ZBO] at h;exact h
 rw [ZDh h hi]
 have h1:=(ZCP h5 hb).2 i hi
 refine ⟨⟨?_,?_⟩,?_⟩
 ·exact (ZGy hs _ (List.getElem_mem hi)).1
 ·show ZKp _
  unfold ZKp
  simp only
  omega
 ·show atB s (Int.toNat _)=_
  rw [Int.toNat_natCast]
theorem ZPM {a b c d:HObj} {hp:List HObj}:(a::b::c::d::hp).Perm (c::a::d::b::hp) :=
 ZIN.trans (List.Perm.cons c (List.Perm.cons a (List.Perm.swap _ _ _)))
theorem ZUj (s:List Vx) (hs:Z3 s=0) (h5:s.length≤5) (bs bm:Nat):CallC Tryz.prog 27 ([dX (.pointer (some ⟨bs,0,none⟩)),dS ZI s,ZQz (fun m=>m<1048576) (fun m=>(m:Int))]++([]:List Value).map dX) (ZQq bs bm (.slice none 0 0) [] [])
   (fun _ hp2=>∃ fv M,Bld (ZCz s).flatten (ZIj s) M/\hp2=ZQq bs bm fv (ZCz s) M):=by
 have h:=ZLk bs bm (.slice none 0 0) [] [] s (fun m=>m<1048576) (fun m=>(m:Int)) (ZIj s) (by have:=(ZP.1 hs).1;omega) h5 (by simp) (Bld.nil _)
  (fun bl hb i hi=>by have h1:=(ZCP h5 hb).2 i hi;rw [h1.1];omega) (fun bl hb b hbb=>by have:=(ZCP h5 hb).1 b hbb;omega)
  (fun bl hb i hi=>by have h1:=(ZCP h5 hb).2 i hi;rw [h1.1];omega) (fun bl hb i hi=>ZTg hs h5 hb i hi)
 rw [List.nil_append,ZUx h5] at h
 exact h
theorem ZKa {L:List Vx} {car:Vx->List Vx} {M:ZIi} (h:Bld L car M):M.length≤L.length:=by
 have:=List.Nodup.length_le_of_subset h.nodup (l₂:=L) fun v hv=>(h.mem v).1 hv
 simpa using this
theorem ZOZ {s:List Vx} (h5:s.length≤5):(ZCz s).flatten.length≤100000:=by
 have h1:=ZLs (l:=ZCz s) (fun t ht=>by rw [ZQ4 ht];omega)
 have h2:(ZCz s).length≤541:=by unfold ZCz;rw [List.length_map];exact ZFI s.length h5
 omega
set_option maxHeartbeats 16000000 in
theorem ZK0 (s:List Vx):Fn Tryz.prog 21 [dS ZI s] (dT [dS ZG6 (ZR1 s).1,dI (ZR1 s).2]):=by
 have hc:=ZGG s
 refine ZDT ZDp Tryz.func21 rfl rfl ?_
 simp only [Tryz.ntmps21,List.length_cons,List.length_nil,Nat.reduceAdd,Nat.reduceSub,List.replicate_succ,List.replicate_zero,List.cons_append,List.nil_append]
 by_cases h0:ZDC s=0
 ·rw [h0] at hc
  have hs:Z3 s=0:=Classical.byContradiction fun q=>by unfold ZDC at h0;rw [if_pos q] at h0;exact q h0
  have hd:ZAi s=true:=by
   unfold ZDC at h0
   rw [if_neg (by simp [hs])] at h0
   cases h:ZAi s
   ·rw [h] at h0;simp at h0
   ·rfl
  have h8:=ZP.1 hs
  by_cases h5:5<s.length
  ·have e:ZR1 s=(([],[],[]),5):=by unfold ZR1;rw [if_neg (by simp [hs]),if_neg (by simp [hd]),if_pos h5]
   rw [e]
   ((repeat' (first|(apply WL.opN;exact yF;dsimp only [ZA,z0,z1])|refine WL.nil ?_|refine ZC fun Kx hK=>?_|(refine hK _ _ ?_;clear hK)|refine WC.region ?_ |  (refine WL.alloc (dst:=some 2) ZKA (ZA0 rfl rfl rfl) fun b2=>?_;dsimp only [ZA,z0,z1]) |  (refine ZG ZDp rfl (OpD.t rfl) ZAd ?_;dsimp only [ZA,z0,z1])|(apply WL.opN;(focus ((first|(apply SY.call (hc) Tryz.call47;(exact aD))|(exact ZHY)|((first|apply SY.move|apply SY.assign|apply SY.gtr|apply SY.neq) <;> (exact oD))|(apply SY.len;(exact oD);(exact nD);(exact uD))|fail);all_goals infer_instance));dsimp only [ZA,z0,z1])|(apply ZE;(exact oD);all_goals (intro h;try exact xD))|(apply WC.condN;(exact oD);all_goals (intro h;try exact xD))|refine WC.skip ?_|refine WC.ret ?_|refine ThenD.r ?_));all_goals (first|((repeat clear hK);(repeat clear Kx))))
   all_goals try (exfalso;first|contradiction|omega)
   (refine ⟨trivial,⟨_,rfl,?_⟩,_,rfl,?_⟩ <;> exact fD)
  ·have h5':s.length≤5:=by omega
   obtain ⟨o1,o2,o3⟩:=ZUz hs hd h5'
   have e:ZR1 s=((ZCv (ZCz s),ZCH [] (ZCz s).flatten,(ZCH [] (ZCz s).flatten).map (ZIj s)),0):=by unfold ZR1;rw [if_neg (by simp [hs]),if_neg (by simp [hd]),if_neg h5]
   rw [e]
   have hfl:=ZOZ h5'
   ((repeat' (first|(apply WL.opN;exact yF;dsimp only [ZA,z0,z1])|refine WL.nil ?_|refine ZC fun Kx hK=>?_|(refine hK _ _ ?_;clear hK)|refine WC.region ?_ |  (refine WL.alloc (dst:=some 2) ZKA (ZA0 rfl rfl rfl) fun b2=>?_;dsimp only [ZA,z0,z1]) |  (refine WL.makeMap kvV (fun u:Value × List Vx=>u.1) fun bm=>?_;dsimp only [ZA,z0,z1]) |  (refine ZKS (OpD.t rfl) (by simp) fun bs=>?_;dsimp only [ZA,z0,z1]) |  (refine ZE3 (K:=Vx) ZI (ZBU 28 ZI (WL.perm ZPM ?_));refine ZAT (hp1:=ZQq bs bm (.slice none 0 0) [] []) (caps:=[]) (ZUj s hs h5' bs bm) Tryz.call27 OpD.f (ArgsD.cons (OpD.t rfl) (ArgsD.cons (OpD.t rfl) (ArgsD.cons ⟨ZGY Tryz.call49 fun m=>ZL0 ((m.1:Nat):Int)⟩ ArgsD.nil))) ?_;rintro d' hp2 ⟨fv,M,hB,rfl⟩;dsimp only [ZA,z0,z1,List.cons_append,List.nil_append];refine ZQW (k:=0) rfl ?_;dsimp only [z0,z1]) |  (refine ZAT (hp1:=[_,_,_]) (caps:=[]) (ZSY bs bm (ZCz s) (ZCv (ZCz s)) (ZCz s).flatten (ZIj s) M o1 hB (Nat.le_trans (ZKa hB) hfl) (fun p hp=>by rw [hB.car p hp];have:=ZGB s p.1.2.toNat;unfold ZIj;omega)) Tryz.call31 OpD.f (ArgsD.cons (OpD.t rfl) ArgsD.nil) ?_;rintro d' hp2 ⟨rfl,rfl⟩;dsimp only [ZA,z0,z1,List.cons_append,List.nil_append]) |  (refine ZG ZDp rfl (OpD.t rfl) ZAd ?_;dsimp only [ZA,z0,z1])|(apply WL.opN;(focus ((first|(apply SY.call (hc) Tryz.call47;(exact aD))|(exact ZKQ (OpD.t rfl))|((first|apply SY.move|apply SY.assign|apply SY.gtr|apply SY.neq) <;> (exact oD))|(apply SY.len;(exact oD);(exact nD);(exact uD))|(apply SY.extract;(exact oD);rfl)|fail);all_goals infer_instance));dsimp only [ZA,z0,z1])|(apply ZE;(exact oD);all_goals (intro h;try exact xD))|(apply WC.condN;(exact oD);all_goals (intro h;try exact xD))|refine WC.skip ?_|refine WC.ret ?_));all_goals (first|((repeat clear hK);(repeat clear Kx))))
   all_goals try (exfalso;first|contradiction|omega)
   (refine ⟨trivial,⟨_,rfl,?_⟩,_,rfl,?_⟩ <;> exact fD)
 ·have e:ZR1 s=(([],[],[]),ZDC s):=by
   unfold ZR1 ZDC
   by_cases h1:Z3 s≠0
   ·rw [if_pos h1,if_pos h1]
   ·rw [if_neg h1,if_neg h1]
    have hd:ZAi s=false:=by
     unfold ZDC at h0
     rw [if_neg h1] at h0
     cases h:ZAi s
     ·rfl
     ·rw [h] at h0;exact absurd rfl h0
    rw [if_pos hd,hd];rfl
  rw [e]
  ((repeat' (first|(apply WL.opN;exact yF;dsimp only [ZA,z0,z1])|refine WL.nil ?_|refine ZC fun Kx hK=>?_|(refine hK _ _ ?_;clear hK)|refine WC.region ?_ |  (refine WL.alloc (dst:=some 2) ZKA (ZA0 rfl rfl rfl) fun b2=>?_;dsimp only [ZA,z0,z1]) |  (refine ZG ZDp rfl (OpD.t rfl) ZAd ?_;dsimp only [ZA,z0,z1])|(apply WL.opN;(focus ((first|(apply SY.call (hc) Tryz.call47;(exact aD))|(exact ZHY)|((first|apply SY.move|apply SY.assign|apply SY.gtr|apply SY.neq) <;> (exact oD))|fail);all_goals infer_instance));dsimp only [ZA,z0,z1])|(apply WC.condN;(exact oD);all_goals (intro h;try exact xD))|refine WC.ret ?_|refine ThenD.r ?_));all_goals (first|((repeat clear hK);(repeat clear Kx))))
  all_goals first|(refine ⟨trivial,⟨_,rfl,?_⟩,_,rfl,?_⟩ <;> exact fD)|(exfalso;first|contradiction|omega)
end
end Go.Proofs.YtekiljakcngcoaaGreatDoor
