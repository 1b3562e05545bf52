/- Part 31: walks by contracts, and plain laws. -/
import Derived.Test.YtlgmojhmmbhgfaaGreatDoorVg29
import Derived.Test.YtlgmojhmmbhgfaaGreatDoorVg30
set_option linter.unusedVariables false
set_option linter.unusedSimpArgs false
set_option linter.unusedSectionVars false
set_option maxRecDepth 100000
set_option maxHeartbeats 4000000
namespace Go.Proofs.YtlgmojhmmbhgfaaGreatDoor
section
open Go.RowKit
section
variable {P:Program} {f:FuncId} {fn:Func} {c:Code} {t:Tmp} {ds:List Dat} {hp1:List HObj} {K:Dat->List HObj->Prop}
def ZTt (t u:Nat) (n:Nat) (agg:Bool) (K:Dat->List HObj->Prop) (hp:List HObj):ZAL:=fun e f q=>(match e with|.normal|.ret=>True|_=>False)/\∃ d d2 hp2,f[t]?=some (dP n agg d)/\f[u]?=some d2/\q=hp2++hp/\K (dT [d,d2]) hp2
theorem ZBU {t2:Tmp} {T:TypeId} {n:Nat} {agg:Bool} (T':TyI P T n agg) (hf:P.funcs[f]?=some fn) (hb:fn.body=some c) (hr:fn.results=#[.cell t T,.tmp t2])
  (h:∀ hp,WC P (ZTt t t2 n agg K hp) c (ds++List.replicate (fn.ntmps-ds.length) (dX undef)) (hp1++hp)):CallC P f ds hp1 K:=⟨fun P0 B w0 hp vs W hh hl hv=>by
 refine calls_of_wp hf hb ?_
 have hf0:=ZA8 (m:=fn.ntmps-ds.length) hl hv
 have hsz:vs.toArray.size=ds.length:=by simp [hl]
 rw [hsz]
 refine Code.wp_mono (fun e a' w' ⟨f',p',q,hh',hf'⟩=>?_) ((h hp).on hh hf0)
 obtain ⟨hx,d',d2,hp2,hd',hd2,rfl,hk'⟩:=q
 obtain ⟨b,off,u,h1,h2,h3⟩:=hf'.rd t _ hd'
 have hres:(dT [d',d2]).rd (Imm P0 B (hp2++hp)) w' (.tuple #[u,a'.tmps.getD t2 undef]):=⟨[u,a'.tmps.getD t2 undef],rfl,rfl,fun i e x he hx=>by
  match i,he,hx with
  | 0,he,hx=>cases he;cases hx;exact h3
  | 1,he,hx=>cases he;cases hx;exact hf'.rd t2 d2 hd2⟩
 cases e with
 | normal=>exact ⟨hf'.defers,_,ZBn T' hr h1 h2,_,_,hp2,rfl,hk',hh',hres⟩
 | ret=>exact ⟨hf'.defers,_,ZBn T' hr h1 h2,_,_,hp2,rfl,hk',hh',hres⟩
 | _=>exact hx.elim⟩
end
section
variable {P:Program} {ops:Array Oper} {hp:List HObj} {fr:List Dat} {Q:ZAL} {rest:List Oper} {T:TypeId} {b k:Nat} {ds:List Dat}
theorem ZTN {c:Code} {α:Type} {R:Rel α} {_gR:Good R} {v:Value} {xs:List α} {eT:TypeId} {n:Nat} (hk:ds[k]?=some (dX v)) (h:WC P Q c fr (Zp b T (ds.set k (dS (ArrK n R) xs))::hp)):WC P Q c fr (Zp b T ds::ZV v eT n R xs::hp):=WC.of fun P0 B w0 w a hh hf=>by
 obtain ⟨hh1,hI1⟩:=hh.perm (List.Perm.swap _ _ _)
 have hA:ArrK n R (Imm P0 B (Zp b T ds::hp)) w v xs:=ZCa hh1
 have hh2:=hh1.drop
 have hgr:w.grownBy w (Zp b T ds).blk:=⟨rfl,rfl,rfl,Nat.le_refl _,fun _ _ _=>rfl⟩
 obtain ⟨cs,c1,c2,c3,c4⟩:=hh2.ok (Zp b T ds) (by simp)
 have hkl:=(List.getElem?_eq_some_iff.1 hk).1
 have hkc:k<cs.length:=by omega
 have hv:cs[k]=v:=c4 k _ _ (List.getElem?_eq_getElem hkc) hk
 have hok:(Zp b T (ds.set k (dS (ArrK n R) xs))).ok (fun j=>Imm P0 B (Zp b T ds::hp) j/\j<w.heap.size) w:=by
  refine ⟨cs,c1,by simp [c2],c3,fun j c e hc he=>?_⟩
  rw [List.getElem?_set] at he
  by_cases hjk:k=j
  ·rw [if_pos hjk,if_pos hkl] at he
   cases he
   subst hjk
   rw [List.getElem?_eq_getElem hkc] at hc
   cases hc
   rw [hv]
   exact (dS (ArrK n R) xs).bound hA
  ·rw [if_neg hjk] at he
   exact e.bound (c4 j c e hc he)
 refine h.on (hh2.write hgr (.inl rfl) hok) (hf.mono fun d u hd=>?_)
 exact ZM (o:=Zp b T ds) (o':=Zp b T (ds.set k (dS (ArrK n R) xs))) hgr (.inl rfl) (d.weak hd fun j hj=>Imm.sub j ((hI1 j).1 hj))
theorem ZEK {α:Type} {R:Rel α} {_gR:Good R} {v:Value} {xs:List α} {eT:TypeId} {n:Nat} (hk:ds[k]?=some (dX v)) (h:WL P ops Q rest fr (Zp b T (ds.set k (dS (ArrK n R) xs))::hp)):WL P ops Q rest fr (Zp b T ds::ZV v eT n R xs::hp):=WL.of fun P0 B w0 w a hh hf=>by
 obtain ⟨hh1,hI1⟩:=hh.perm (List.Perm.swap _ _ _)
 have hA:ArrK n R (Imm P0 B (Zp b T ds::hp)) w v xs:=ZCa hh1
 have hh2:=hh1.drop
 have hgr:w.grownBy w (Zp b T ds).blk:=⟨rfl,rfl,rfl,Nat.le_refl _,fun _ _ _=>rfl⟩
 obtain ⟨cs,c1,c2,c3,c4⟩:=hh2.ok (Zp b T ds) (by simp)
 have hkl:=(List.getElem?_eq_some_iff.1 hk).1
 have hkc:k<cs.length:=by omega
 have hv:cs[k]=v:=c4 k _ _ (List.getElem?_eq_getElem hkc) hk
 have hok:(Zp b T (ds.set k (dS (ArrK n R) xs))).ok (fun j=>Imm P0 B (Zp b T ds::hp) j/\j<w.heap.size) w:=by
  refine ⟨cs,c1,by simp [c2],c3,fun j c e hc he=>?_⟩
  rw [List.getElem?_set] at he
  by_cases hjk:k=j
  ·rw [if_pos hjk,if_pos hkl] at he
   cases he
   subst hjk
   rw [List.getElem?_eq_getElem hkc] at hc
   cases hc
   rw [hv]
   exact (dS (ArrK n R) xs).bound hA
  ·rw [if_neg hjk] at he
   exact e.bound (c4 j c e hc he)
 refine h.on (hh2.write hgr (.inl rfl) hok) (hf.mono fun d u hd=>?_)
 exact ZM (o:=Zp b T ds) (o':=Zp b T (ds.set k (dS (ArrK n R) xs))) hgr (.inl rfl) (d.weak hd fun j hj=>Imm.sub j ((hI1 j).1 hj))
theorem ZBc {α:Type} {R:Rel α} {_gR:Good R} {v:Value} {e:TypeId} {n:Nat} {xs:List α} (hm:ZV v e n R xs∈hp) (h:v.oneCell'=true->WL P ops Q rest fr hp):WL P ops Q rest fr hp:=WL.of fun _ _ _ _ _ hh hf=>by
 refine (h ?_).on hh hf
 obtain ⟨us,_,_,_,⟨_,hv⟩,_⟩:=hh.ok _ hm
 rcases hv with ⟨hv,_⟩|⟨g,cap,cur,hv,_⟩ <;> rw [hv] <;> rfl
theorem ZAt {α:Type} {R:Rel α} {_gR:Good R} {v:Value} {e:TypeId} {xs:List α} (hm:ZW v e R xs∈hp) (h:v.oneCell'=true->WL P ops Q rest fr hp):WL P ops Q rest fr hp:=WL.of fun _ _ _ _ _ hh hf=>by
 refine (h ?_).on hh hf
 obtain ⟨us,_,⟨_,hv⟩,_⟩:=hh.ok _ hm
 rcases hv with ⟨hv,_⟩|⟨g,cap,cur,hv,_⟩ <;> rw [hv] <;> rfl
end

theorem ZRm (x y:Vx) (w:World):Calls Tryz.prog 63 #[.agg #[.int .i64 x.1,.int .i64 x.2],.agg #[.int .i64 y.1,.int .i64 y.2]] w fun e w'=>e = .returned (.int .i64 (ZA0 x y))/\∃ q os',w'=Go.Sort.grow (w.drewN q) os':=M.don_x x y w
theorem ZJZ {ys xs L:List Vx} (hp:ys.Perm xs) (hs:ys.Pairwise fun a b=>¬ ZA0 b a<0) (hn:xs.Nodup) (hm:∀ v,v∈xs↔v∈L):ys=ZBE [] L:=by
 refine ZDD ?_ (ZCr (by simp [Asc])) fun v=>?_
 ·have hn':ys.Nodup:=hp.nodup_iff.2 hn
  refine List.Pairwise.imp₂ ?_ hs hn'
  intro a b h1 h2
  rcases Int.lt_trichotomy (ZA0 a b) 0 with h|h|h
  ·exact h
  ·exact absurd (ZCR.1 h) h2
  ·have:=ZHe a b
   omega
 ·rw [hp.mem_iff,hm,ZBm]
  simp
theorem ZEf {l:List Nat} {n:Nat} (h:l.Nodup) (hb:∀ j∈l,j<n):l.length≤n:=by
 have:=List.Nodup.length_le_of_subset h (l₂:=List.range n) fun j hj=>List.mem_range.2 (hb j hj)
 simpa using this
def ZMM (M:ZIJ) (j:Nat):Vx:=(M.map (·.1)).getD j (0,0)
theorem ZCg {M:ZIJ} {j:Nat} (h:j<M.length):ZMM M j=M[j].1:=by
 unfold ZMM
 simp [List.getD,h]
theorem ZJH {M:ZIJ} {l:List Nat} (hn:(M.map (·.1)).Nodup) (hl:l.Nodup) (hb:∀ j∈l,j<M.length) (hall:∀ j,j<M.length->j∈l):(l.map (ZMM M)).Nodup/\∀ v,v∈l.map (ZMM M)↔v∈M.map (·.1):=by
 refine ⟨?_,fun v=>?_⟩
 ·refine List.Pairwise.map _ ?_ (List.Pairwise.and_mem.1 hl)
  intro i j hij e
  obtain ⟨hi,hj,hne⟩:=hij
  have h1:=hb i hi
  have h2:=hb j hj
  rw [ZCg h1,ZCg h2] at e
  have e2:(M.map (·.1))[i]'(by simpa using h1)=(M.map (·.1))[j]'(by simpa using h2):=by simpa using e
  exact hne ((List.getElem_inj hn).1 e2)
 ·rw [List.mem_map,List.mem_map]
  constructor
  ·rintro ⟨j,hj,rfl⟩
   exact ⟨M[j]'(hb j hj),List.getElem_mem _,(ZCg (hb j hj)).symm⟩
  ·rintro ⟨q,hq,rfl⟩
   obtain ⟨j,hj,rfl⟩:=List.getElem_of_mem hq
   exact ⟨j,hall j hj,ZCg hj⟩
theorem ZAv {a b c:HObj} {hp:List HObj}:(a::b::c::hp).Perm (c::a::b::hp):=(List.Perm.cons a (List.Perm.swap c b hp)).trans (List.Perm.swap c a _)
theorem ZD7 {a b c:HObj} {hp:List HObj}:(a::b::c::hp).Perm (c::b::a::hp):=ZAv.trans (List.Perm.cons c (List.Perm.swap _ _ _))
theorem Bld.at {L:List Vx} {car:Vx->List Vx} {M:ZIJ} (h:Bld L car M) {v:Vx} (hv:v∈ZBE [] L):∃ cv,(v,cv,car v)∈M:=by
 have h1:v∈L:=by
  rcases ZBm.1 hv with h|h
  ·cases h
  ·exact h
 obtain ⟨p,hp,he⟩:=List.mem_map.1 ((h.mem v).2 h1)
 refine ⟨p.2.1,?_⟩
 rw [<- he,<- h.car p hp]
 exact hp
set_option maxHeartbeats 16000000 in
theorem ZRl (bs bm:Nat) (F C:Cx) (L:List Vx) (car:Vx->List Vx) (M:ZIJ) (hOf:ofP F=(C,0)) (hB:Bld L car M) (hl:M.length≤100000) (hcl:∀ p∈M,p.2.2.length≤1000) :
  CallC Tryz.prog 29 ([dX (.pointer (some ⟨bs,0,none⟩))]++([]:List Value).map dX) [Zp bs 61 [dS Zc F,dX (.map (some bm))],hMC bm kvV M,ZAm ZE M]
   (fun d hp2=>d=dT [dS ZCb (C,ZBE [] L,(ZBE [] L).map car),dI 0]/\hp2=[]):=by
 have hO:=ZLb F
 rw [hOf] at hO
 refine ZBU ZAd Tryz.func29 rfl rfl fun hp=>?_
 simp only [Tryz.ntmps29,List.length_cons,List.length_nil,List.length_append,List.length_map,Nat.reduceAdd,Nat.reduceSub,List.replicate_succ,List.replicate_zero,List.cons_append,List.nil_append,List.map_cons,List.map_nil,List.append_assoc]
 (repeat' (first|((first|apply WL.opN|apply WD.opN);exact yF;dsimp only [ZB,z0,z1])|refine WL.nil ?_|refine ZA fun Kx hK=>?_|(refine hK _ _ ?_;clear hK)|refine WC.region ?_ |  (refine WL.alloc (dst:=some 2) ZCH (Zj rfl rfl rfl) fun b2=>?_;dsimp only [ZB,z0,z1]) |  (refine ZAZ (dst:=some 6) (zs:=[.slice none 0 0,.slice none 0 0,.slice none 0 0]) ZCH (by decide) (by simp [Value.oneCell']) fun b6=>?_;dsimp only [ZB,z0,z1,List.map_cons,List.map_nil]) |  (refine ZAG ZAd (OpD.t rfl) (OpD.t rfl) rfl rfl ?_;dsimp only [ZB]) |  (refine ZId ZDj (OpD.t rfl) (.tail _ (.tail _ (.tail _ (.head _)))) fun r=>?_;dsimp only [ZB,z0,z1])|(apply WL.alloc;(first|exact tzV|exact tzC);(first|exact ZY rfl|exact ZAF|exact Zy rfl);(intro _;dsimp only [ZB,z0,z1]))|(apply ZN;(exact tD);rfl;(exact oD);(exact hD);dsimp only [ZB,z0,z1])|((first|apply WL.opN|apply WD.opN);(focus ((first|(exact ZBk (OpD.t rfl))|(refine Ze ZPX (OpD.t rfl) (by decide))|(refine Zb ZCl (OpD.t rfl) (.tail _ (.head _)) rfl)|(apply SY.call (hO) Tryz.call43;(exact aD))|(exact ZJt (OpD.t rfl))|(refine Zb ZMZ (OpD.t rfl) (.tail _ (.tail _ (.head _))) rfl)|((first|apply SY.move|apply SY.assign|apply SY.lss|apply SY.neq) <;> (exact oD))|(apply SY.extract;(exact oD);rfl)|fail);all_goals infer_instance));dsimp only [ZB,z0,z1])|(apply ZL;(exact oD);all_goals (intro h;try exact xD))|refine WC.skip ?_|refine WC.block ?_))
 all_goals try (exfalso;first|contradiction|omega)
 refine ZAl 43 2 (by decide) RV ?_
 refine WC.perm (List.Perm.swap _ _ _) ?_
 (refine WC.loopU (X:=Array Nat × Value × List Vx) (fun x=>[(7,dA),(29,dA),(30,dA),(31,dA),(32,dA),(33,dA),(34,dA),(35,dA),(36,dA),(37,dA),(38,dA)]) (fun x=>(hIt bm r M.length x.1::ZV x.2.1 43 2 RV x.2.2::Zp b6 30 [dS Zc C,dX x.2.1,dX (.slice none 0 0)]::ZQ b2 30 3 true (dX (.agg #[.slice none 0 0,.slice none 0 0,.slice none 0 0]))::Zp bs 61 [dS Zc F,dX (.map (some bm))]::hMC bm kvV M::ZAm ZE M::hp)) (fun x=>M.length-x.1.size) (fun x=>x.1.toList.Nodup/\(∀ j∈x.1.toList,j<M.length)/\x.2.2=x.1.toList.map (ZMM M)) (#[],.slice none 0 0,[]) ?start ?frame0 ?objs0 ?round)
 case start=>exact ⟨by simp,by simp,by simp⟩
 case frame0=>((try dsimp only [ZK,z0,z1]);repeat (first|exact LeF.nil|refine ZD (k:=?_)))
 case objs0=>rfl
 case round =>
  rintro ⟨seen,v,xs⟩ ⟨q1,q2,q3⟩
  simp only at q1 q2 q3
  dsimp only [ZK,z0,z1]
  have hsz:seen.size≤M.length:=by
   have:=ZEf q1 q2
   simpa using this
  have hxl:xs.length≤100000:=by rw [q3,List.length_map];simp;omega
  refine ZA fun Kx hK=>?_
  refine WC.region ?_
  refine ZKs (OpD.t rfl) (.tail _ (.tail _ (.tail _ (.tail _ (.head _))))) (fun hall=>?_) (fun j hj hns=>?_)
  ·dsimp only [ZB,z0,z1]
   obtain ⟨k1,k2⟩:=ZJH hB.nodup q1 q2 (fun j hj=>by simpa using hall j hj)
   rw [<- q3] at k1 k2
   refine WL.drop ?_
   (repeat' (first|((first|apply WL.opN|apply WD.opN);exact yF;dsimp only [ZB,z0,z1])|refine WL.nil ?_|refine ZA fun Kx hK=>?_|(refine hK _ _ ?_;clear hK)|(refine Kont.skip ?_;clear hK)|refine WC.region ?_ |  (refine ZEM Tryz.call63 ZRm (OpD.t rfl) (by omega) fun ys hperm hsort=>?_;refine WL.perm (List.Perm.swap _ _ _) (ZEK (k:=1) rfl (ZBG 28 ZE ?_));dsimp only [ZB,z0,z1])|((first|apply WL.opN|apply WD.opN);(focus ((first|(refine Ze ZAe (OpD.t rfl) (by decide))|(refine Zb ZCM (OpD.t rfl) (.tail _ (.head _)) rfl)|(apply SY.len;(exact oD);(exact nD);(exact uD))|(apply SY.extract;(exact oD);rfl)|fail);all_goals infer_instance));dsimp only [ZB,z0,z1])|(apply Zi;(exact oD);(with_reducible rfl))|refine WC.exit ?_|refine WC.block ?_))
   have hys:=ZJZ hperm hsort k1 fun v=>(k2 v).trans (hB.mem v)
   have hyl:ys.length≤100000:=by rw [hperm.length_eq];exact hxl
   subst hys
   generalize hvs:ZBE [] L=vs at *
   (refine WC.loopU (X:=Nat × Value) (fun x=>[(45,dI (x.1:Int)),(9,dA),(46,dA),(47,dA),(48,dA),(49,dA),(50,dA),(51,dA),(52,dA),(53,dA),(54,dA),(55,dA),(56,dA),(57,dA),(58,dA),(59,dA),(60,dA),(61,dA)]) (fun x=>(ZW x.2 28 ZE ((vs.take x.1).map car)::Zp b6 30 [dS Zc C,dS ZE vs,dX x.2]::ZQ b2 30 3 true (dX (.agg #[.slice none 0 0,.slice none 0 0,.slice none 0 0]))::Zp bs 61 [dS Zc F,dX (.map (some bm))]::hMC bm kvV M::ZAm ZE M::hp)) (fun x=>vs.length-x.1) (fun x=>x.1≤vs.length) (0,.slice none 0 0) ?start ?frame0 ?objs0 ?round)
   case start=>exact Nat.zero_le _
   case frame0=>((try dsimp only [ZK,z0,z1]);repeat (first|exact LeF.nil|refine ZD (k:=?_)))
   case objs0=>rfl
   case round =>
    rintro ⟨i,u⟩ g1
    simp only at g1
    dsimp only [ZK,z0,z1]
    by_cases hi:i<vs.length
    ·obtain ⟨cv,hcv⟩:=hB.at (v:=vs[i]) (by rw [hvs];exact List.getElem_mem _)
     have hok:=hB.ok _ hcv
     have hcl1:=hcl _ hcv
     simp only at hok hcl1
     have hul:((vs.take i).map car).length≤100000:=by rw [List.length_map,List.length_take];omega
     ((repeat' (first |  (apply WC.drawTail 10;kernel_rfl;kernel_rfl;simp only [List.take_succ_cons,List.take_zero,List.drop_succ_cons,List.drop_zero])|((first|apply WL.opN|apply WD.opN);exact yF;dsimp only [ZB,z0,z1])|refine WL.nil ?_|refine WD.nil ?_|refine ZA fun Kx hK=>?_|(refine hK _ _ ?_;clear hK)|refine WC.region ?_ |  (refine ZAt (.head _) fun h1=>WL.perm (List.Perm.swap _ _ _) (Z1 ZCl (OpD.t rfl) (OpD.t rfl) (ZY h1) (by simp) (WL.perm (List.Perm.swap _ _ _) ?_));dsimp only [ZB,z0,z1])|((first|apply WL.appK|apply WL.app1);(exact eD);exact OpD.t rfl;(exact oD);decide;(exact lD);(intro _;dsimp only [ZB,z0,z1]);all_goals (try infer_instance))|(apply WL.alloc;(first|exact tzV|exact tzC);(first|exact ZY rfl|exact ZAF|exact Zy rfl);(intro _;dsimp only [ZB,z0,z1]))|(apply ZN;(exact tD);rfl;(exact oD);(exact hD);dsimp only [ZB,z0,z1])|((first|apply WL.opN|apply WD.opN);(focus ((first|(refine Ze ZAe (OpD.t rfl) (by decide))|(refine Zb ZCl (OpD.t rfl) (.tail _ (.head _)) rfl)|(exact ZBk (OpD.t rfl))|(refine Ze ZPX (OpD.t rfl) (by decide))|(refine Zb ZMZ (OpD.t rfl) (.tail _ (.tail _ (.tail _ (.head _)))) rfl)|(refine ZIW (R:=ZE) ZDj ZGN (OpD.t rfl) (.tail _ (.tail _ (.tail _ (.tail _ (.head _))))) (.tail _ (.tail _ (.tail _ (.tail _ (.tail _ (.head _)))))) (OpD.t rfl) ⟨fun _ _ _ h=>h⟩ hok hB.ok hB.nodup hcv)|(apply SY.call (ZHc (car vs[i]) hcl1) Tryz.call65;(exact aD))|((first|apply SY.move|apply SY.assign|apply SY.lss|apply SY.neq) <;> (exact oD))|((first|apply SY.add) <;> first|exact oD|omega)|(apply ZBC;(exact eD);(exact oD);(exact oD);exact kD)|(apply SY.build1';(exact eD);((try simp only [List.map_cons,List.map_nil]);(repeat (first|exact Zq|(apply Zh;(first|exact OpD.t rfl|exact OpD.i|exact OpD.b|exact OpD.tle rfl (by first|exact ZI|exact ZH (by decide))|exact ⟨ZI⟩|exact ⟨ZH (by decide)⟩)))));rfl;rfl;(intro _;first|exact ZAb|exact ZA4|exact ZAa|exact ZBP);(exact (by simp)))|fail);all_goals infer_instance));dsimp only [ZB,z0,z1])|(apply ZC;(exact oD);all_goals (intro h;try exact xD))|refine WC.skip ?_|refine WC.block ?_|refine ThenD.n ?_));all_goals (first|((repeat clear hK);(repeat clear Kx))))
     all_goals try (exfalso;first|contradiction|omega)
     (refine ⟨(i+1,_) , ?_,by first|omega|(simp only;omega),by ((try simp only);  (rw [ZP hi,List.map_append,List.map_cons,List.map_nil])),?_⟩;rotate_left;((try dsimp only [ZK,z0,z1]);repeat (first|exact LeF.nil|refine ZD (k:=?_)));(try dsimp only))
     omega
    ·have hie:i=vs.length:=by omega
     subst hie
     rw [List.take_length]
     refine WC.perm (List.Perm.swap _ _ _) (ZDW (k:=2) rfl ?_)
     dsimp only [z0,z1]
     ((repeat' (first|((first|apply WL.opN|apply WD.opN);exact yF;dsimp only [ZB,z0,z1])|refine WL.nil ?_|refine ZA fun Kx hK=>?_|(refine hK _ _ ?_;clear hK)|(refine Kont.skip ?_;clear hK)|refine WC.region ?_ |  (refine ZCd (d:=dS ZCb (C,vs,vs.map car)) ZAd rfl (OpD.tle rfl ZFy) Zn (WL.drop (WL.drop (WL.drop (WL.drop ?_))));dsimp only [ZB,z0,z1])|((first|apply WL.opN|apply WD.opN);(focus ((first|(refine ZAr ZAd (OpD.t rfl) (.head _) (by decide) rfl)|((first|apply SY.move|apply SY.assign|apply SY.lss|apply SY.neq) <;> (exact oD))|fail);all_goals infer_instance));dsimp only [ZB,z0,z1])|(apply ZC;(exact oD);all_goals (intro h;try exact xD))|refine WC.ret ?_|refine WC.exit ?_));all_goals (first|((repeat clear hK);(repeat clear Kx))))
     all_goals try (exfalso;first|contradiction|omega)
     exact ⟨trivial,_,_,[],rfl,rfl,rfl,rfl,rfl⟩
  ·dsimp only [ZB,z0,z1]
   have hjs:seen.size<M.length:=by
    have h2:(seen.push j).toList.Nodup:=by
     rw [Array.toList_push,List.nodup_append]
     exact ⟨q1,by simp,fun a ha b hb e=>hns (by rw [<- List.mem_singleton.1 hb,<- e];simpa using ha)⟩
    have:=ZEf h2 (n:=M.length) fun i hi=>by
     rw [Array.toList_push,List.mem_append,List.mem_singleton] at hi
     rcases hi with hi|rfl
     ·exact q2 i hi
     ·exact hj
    simp only [Array.length_toList,Array.size_push] at this
    omega
   have hps:(seen.push j).size=seen.size+1:=Array.size_push ..
   ((repeat' (first|((first|apply WL.opN|apply WD.opN);exact yF;dsimp only [ZB,z0,z1])|refine WL.nil ?_|refine ZA fun Kx hK=>?_|(refine hK _ _ ?_;clear hK)|refine WC.region ?_ |  (refine ZN (d:=dS RV M[j].1) tyV rfl (OpD.tle rfl (fun _ _ _ h=>h)) ZAV ?_;dsimp only [ZB,z0,z1]) |  (refine ZBc (.head _) fun h1=>WL.perm ZAv (Z1 ZCM (OpD.t rfl) (OpD.t rfl) (ZY h1) (by simp) (WL.perm ZD7 ?_));dsimp only [ZB,z0,z1])|((apply (WL.perm (List.Perm.swap _ _ _));(first|apply ZBJ|apply ZA6);(exact eD);exact OpD.t rfl;(exact oD);(intro _;exact hD);(exact (by simp));(exact (by simp));(first|exact ⟨by decide,by decide⟩|skip);decide;(exact lD);(intro _;dsimp only [ZB,z0,z1]);all_goals (try infer_instance)))|(apply WL.alloc;(first|exact tzV|exact tzC);(first|exact ZY rfl|exact ZAF|exact Zy rfl);(intro _;dsimp only [ZB,z0,z1]))|((first|apply WL.opN|apply WD.opN);(focus ((first|(refine ZIS (OpD.t rfl) (.head _) (.tail _ (.tail _ (.tail _ (.tail _ (.tail _ (.head _)))))) hj)|(refine Ze ZAe (OpD.t rfl) (by decide))|(refine Zb ZCM (OpD.t rfl) (.tail _ (.tail _ (.head _))) rfl)|(apply SY.extract;(exact oD);rfl)|fail);all_goals infer_instance));dsimp only [ZB,z0,z1])|(apply ZAs;(exact oD);(with_reducible rfl))|refine WC.skip ?_|refine WC.block ?_|refine ThenD.n ?_|refine InBlockD.n ?_));all_goals (first|((repeat clear hK);(repeat clear Kx))))
   all_goals try (exfalso;first|contradiction|omega)
   (refine ⟨(seen.push j,_,xs++[M[j].1]) , ?_,by first|omega|(simp only;omega),by ((try simp only);  rfl),?_⟩;rotate_left;((try dsimp only [ZK,z0,z1]);repeat (first|exact LeF.nil|refine ZD (k:=?_)));(try dsimp only))
   refine ⟨?_,fun i hi=>?_,?_⟩
   ·rw [Array.toList_push,List.nodup_append]
    exact ⟨q1,by simp,fun a ha b hb e=>hns (by rw [<- List.mem_singleton.1 hb,<- e];simpa using ha)⟩
   ·rw [Array.toList_push,List.mem_append,List.mem_singleton] at hi
    rcases hi with hi|rfl
    ·exact q2 i hi
    ·exact hj
   ·rw [q3,Array.toList_push,List.map_append,List.map_cons,List.map_nil,ZCg hj]
def partB (n:Nat):Bool:=(ZBR (2 ^ n-1)).all fun bl=>(bl.all fun b=>decide (b<32)) && (List.range n).all fun i=>decide (ZBY bl 0 (fun _=>0) i=ZBX bl i 0) && decide (ZBX bl i 0≤31)
theorem ZS5:∀ n,n≤5->partB n=true:=by
 intro n h5
 have:n=0\/n=1\/n=2\/n=3\/n=4\/n=5:=by omega
 rcases this with rfl|rfl|rfl|rfl|rfl|rfl <;> decide +kernel
theorem ZBv {n:Nat} (h5:n≤5) {bl:List Nat} (hb:bl∈ZBR (2 ^ n-1)):(∀ b∈bl,b<32)/\∀ i,i<n->ZBY bl 0 (fun _=>0) i=ZBX bl i 0/\ZBX bl i 0≤31:=by
 have h:=List.all_eq_true.1 (ZS5 n h5) bl hb
 rw [Bool.and_eq_true] at h
 refine ⟨fun b hbb=>of_decide_eq_true (List.all_eq_true.1 h.1 b hbb),fun i hi=>?_⟩
 have h2:=List.all_eq_true.1 h.2 i (List.mem_range.2 hi)
 rw [Bool.and_eq_true] at h2
 exact ⟨of_decide_eq_true h2.1,of_decide_eq_true h2.2⟩
theorem ZOo {s:List Vx} (h5:s.length≤5) {bl:List Nat} (hb:bl∈ZBR (2 ^ s.length-1)):Zz (fun m=>(m:Int)) s bl=ZAk s bl:=by
 unfold Zz ZAk
 refine List.map_congr_left fun p hp=>?_
 obtain ⟨q,i⟩:=p
 have hi:=(List.mem_zipIdx hp).2.1
 show (q.1,((ZBY bl 0 (fun _=>0) i:Nat):Int))=_
 rw [((ZBv h5 hb).2 i (by omega)).1]
theorem ZTn {s:List Vx} (h5:s.length≤5):(ZBR (2 ^ s.length-1)).map (Zz (fun m=>(m:Int)) s)=ZBq s:=by
 unfold ZBq
 exact List.map_congr_left fun bl hb=>ZOo h5 hb
section
variable {P:Program} {ops:Array Oper} {hp:List HObj} {fr:List Dat} {d:Dat} {Q:ZAL} {rest:List Oper} {dst:Option Tmp} {ty:TypeId} {ps:String} {af:Array Edge} {T:TypeId} {ds:List Dat}
theorem ZJw {x:Operand} (hx:OpD fr x (ZEC ds)) (hn:0<ds.length) (h:∀ b,WL P ops Q rest (ZB fr dst (dX (.pointer (some ⟨b,0,none⟩)))) (Zp b T ds::hp)) :
  WL P ops Q (⟨dst,.box T x,ty,ps,af,none⟩::rest) fr hp :=
 ZJv (T:=T) hx (ZJW hn rfl) fun b=>WL.of fun P0 B w0 w a hh hf=>by
  obtain ⟨cs,u,c1,c2,c0,c3,c4,c5⟩:=hh.ok (ZQ b T ds.length true (ZEC ds)) (by simp)
  simp only [if_true] at c4
  obtain ⟨us,q1,q2,q3,q4⟩:=c5
  rw [c4] at q1
  have hcs:cs=us:=by injection q1 with q1;exact List.toArray_inj q1
  subst hcs
  have hgr:w.grownBy w (ZQ b T ds.length true (ZEC ds)).blk:=⟨rfl,rfl,rfl,Nat.le_refl _,fun _ _ _=>rfl⟩
  have hbd:=(ZQ b T ds.length true (ZEC ds)).bound (hh.ok (ZQ b T ds.length true (ZEC ds)) (by simp))
  have hok:(Zp b T ds).ok (fun k=>Imm P0 B (ZQ b T ds.length true (ZEC ds)::hp) k/\k<w.heap.size) w :=
   ⟨cs,c1,c2,c3,fun k c d hc hd=>d.bound (q4 k c d hc hd)⟩
  exact (h b).on (hh.write hgr (.inl rfl) hok) (hf.mono fun _ _ hd=>ZM (o':=Zp b T ds) hgr (.inl rfl) hd)
theorem ZEy {K α:Type} (R:Rel α) [Good R] (h:WL P ops Q rest fr (ZAm (K:=K) R []::hp)):WL P ops Q rest fr hp:=WL.of fun P0 B w0 w a hh hf=>by
 have hg:(ZAm (K:=K) R []).blk=none:=rfl
 refine h.on (ZBB (l:=[]) hg hh (fun p hp=>by cases hp)) (hf.mono fun d v hd=>d.weak hd fun k=>(Zx hg [] k).2)
end
theorem ZJs {ops:Array Oper} {hp:List HObj} {fr:List Dat} {dst:Option Tmp} {ty:TypeId} {ps:String} {af:Array Edge} {g:Option (Nat × Bool)} {x:Operand} {bm:Nat} (hx:OpD fr x (dX (.map (some bm)))):SY Tryz.prog ops hp ⟨dst,.build 61 #[(1,x)],ty,ps,af,g⟩ fr (ZEC [dX (.slice none 0 0),dX (.map (some bm))]):=SY.val fun {I w a} ho=>by
 have h1:a.eval x = .map (some bm):=hx.get (by simp [Op.operands]) ho
 have hm:∀ w,(Instr.build 61 #[(1,.map (some bm))]).run Tryz.prog w = .ok (.agg #[.slice none 0 0,.map (some bm)]) w:=by intro w;go_simp
 refine ⟨.agg #[.slice none 0 0,.map (some bm)],?_,[_,_],rfl,rfl,by simp [Value.oneCell'],fun k c d hc hd=>?_⟩
 ·unfold execOp
  simp only [List.map_toArray,List.map_cons,List.map_nil,h1,Sem.run_bind,hm,Result.andThen_ok,Sem.run_pure]
 ·match k,hc,hd with
  | 0,hc,hd=>cases hc;cases hd;rfl
  | 1,hc,hd=>cases hc;cases hd;rfl
theorem ZSd {s:List Vx} (hs:ZAJ s=0) (h5:s.length≤5) {bl:List Nat} (hb:bl∈ZBR (2 ^ s.length-1)) (i:Nat) (h:i<(Zz (fun m=>(m:Int)) s bl).length) :
  okV (Zz (fun m=>(m:Int)) s bl)[i]/\ZEP s (Zz (fun m=>(m:Int)) s bl)[i]=atB s (ZBY bl 0 (fun _=>0) i):=by
 have hi:i<s.length:=by rw [ZBS] at h;exact h
 rw [ZDo h hi]
 have h1:=(ZBv h5 hb).2 i hi
 refine ⟨⟨?_,?_⟩,?_⟩
 ·exact (ZKK hs _ (List.getElem_mem hi)).1
 ·show ZML _
  unfold ZML
  simp only
  omega
 ·show atB s (Int.toNat _)=_
  rw [Int.toNat_natCast]
theorem ZOk {a b c d:HObj} {hp:List HObj}:(a::b::c::d::hp).Perm (c::a::d::b::hp) :=
 ZAv.trans (List.Perm.cons c (List.Perm.cons a (List.Perm.swap _ _ _)))
theorem ZTb (s:List Vx) (hs:ZAJ s=0) (h5:s.length≤5) (bs bm:Nat):CallC Tryz.prog 25 ([dX (.pointer (some ⟨bs,0,none⟩)),dS ZE s,ZQK (fun m=>m<1048576) (fun m=>(m:Int))]++([]:List Value).map dX) (ZQB bs bm (.slice none 0 0) [] [])
   (fun _ hp2=>∃ fv M,Bld (ZBq s).flatten (ZEP s) M/\hp2=ZQB bs bm fv (ZBq s) M):=by
 have h:=ZLB bs bm (.slice none 0 0) [] [] s (fun m=>m<1048576) (fun m=>(m:Int)) (ZEP s) (by have:=(ZO.1 hs).1;omega) h5 (by simp) (Bld.nil _)
  (fun bl hb i hi=>by have h1:=(ZBv h5 hb).2 i hi;rw [h1.1];omega) (fun bl hb b hbb=>by have:=(ZBv h5 hb).1 b hbb;omega)
  (fun bl hb i hi=>by have h1:=(ZBv h5 hb).2 i hi;rw [h1.1];omega) (fun bl hb i hi=>ZSd hs h5 hb i hi)
 rw [List.nil_append,ZTn h5] at h
 exact h
theorem ZJ4 {L:List Vx} {car:Vx->List Vx} {M:ZIJ} (h:Bld L car M):M.length≤L.length:=by
 have:=List.Nodup.length_le_of_subset h.nodup (l₂:=L) fun v hv=>(h.mem v).1 hv
 simpa using this
theorem ZNq {s:List Vx} (h5:s.length≤5):(ZBq s).flatten.length≤100000:=by
 have h1:=ZEW (l:=ZBq s) (fun t ht=>by rw [ZFc ht];omega)
 have h2:(ZBq s).length≤541:=by unfold ZBq;rw [List.length_map];exact ZE6 s.length h5
 omega
set_option maxHeartbeats 16000000 in
theorem ZKP (s:List Vx):Fn Tryz.prog 19 [dS ZE s] (dT [dS ZCb (ZRJ s).1,dI (ZRJ s).2]):=by
 have hc:=ZF6 s
 refine ZAB ZAd Tryz.func19 rfl rfl ?_
 simp only [Tryz.ntmps19,List.length_cons,List.length_nil,Nat.reduceAdd,Nat.reduceSub,List.replicate_succ,List.replicate_zero,List.cons_append,List.nil_append]
 by_cases h0:ZDF s=0
 ·rw [h0] at hc
  have hs:ZAJ s=0:=Classical.byContradiction fun q=>by unfold ZDF at h0;rw [if_pos q] at h0;exact q h0
  have hd:Z0 s=true:=by
   unfold ZDF at h0
   rw [if_neg (by simp [hs])] at h0
   cases h:Z0 s
   ·rw [h] at h0;simp at h0
   ·rfl
  have h8:=ZO.1 hs
  by_cases h5:5<s.length
  ·have e:ZRJ s=(([],[],[]),5):=by unfold ZRJ;rw [if_neg (by simp [hs]),if_neg (by simp [hd]),if_pos h5]
   rw [e]
   ((repeat' (first|(apply WL.opN;exact yF;dsimp only [ZB,z0,z1])|refine WL.nil ?_|refine ZA fun Kx hK=>?_|(refine hK _ _ ?_;clear hK)|refine WC.region ?_ |  (refine WL.alloc (dst:=some 2) ZCH (Zj rfl rfl rfl) fun b2=>?_;dsimp only [ZB,z0,z1]) |  (refine ZN ZAd rfl (OpD.t rfl) Zn ?_;dsimp only [ZB,z0,z1])|(apply WL.opN;(focus ((first|(apply SY.call (hc) Tryz.call50;(exact aD))|(exact ZA9)|((first|apply SY.move|apply SY.assign|apply SY.gtr|apply SY.neq) <;> (exact oD))|(apply SY.len;(exact oD);(exact nD);(exact uD))|fail);all_goals infer_instance));dsimp only [ZB,z0,z1])|(apply ZC;(exact oD);all_goals (intro h;try exact xD))|(apply ZL;(exact oD);all_goals (intro h;try exact xD))|refine WC.skip ?_|refine WC.ret ?_|refine ThenD.r ?_));all_goals (first|((repeat clear hK);(repeat clear Kx))))
   all_goals try (exfalso;first|contradiction|omega)
   (refine ⟨trivial,⟨_,rfl,?_⟩,_,rfl,?_⟩ <;> exact fD)
  ·have h5':s.length≤5:=by omega
   obtain ⟨o1,o2,o3⟩:=ZTp hs hd h5'
   have e:ZRJ s=((ZDl (ZBq s),ZBE [] (ZBq s).flatten,(ZBE [] (ZBq s).flatten).map (ZEP s)),0):=by unfold ZRJ;rw [if_neg (by simp [hs]),if_neg (by simp [hd]),if_neg h5]
   rw [e]
   have hfl:=ZNq h5'
   ((repeat' (first|(apply WL.opN;exact yF;dsimp only [ZB,z0,z1])|refine WL.nil ?_|refine ZA fun Kx hK=>?_|(refine hK _ _ ?_;clear hK)|refine WC.region ?_ |  (refine WL.alloc (dst:=some 2) ZCH (Zj rfl rfl rfl) fun b2=>?_;dsimp only [ZB,z0,z1]) |  (refine WL.makeMap kvV (fun u:Value × List Vx=>u.1) fun bm=>?_;dsimp only [ZB,z0,z1]) |  (refine ZJw (OpD.t rfl) (by simp) fun bs=>?_;dsimp only [ZB,z0,z1]) |  (refine ZEy (K:=Vx) ZE (ZBG 28 ZE (WL.perm ZOk ?_));refine Z8 (hp1:=ZQB bs bm (.slice none 0 0) [] []) (caps:=[]) (ZTb s hs h5' bs bm) Tryz.call25 OpD.f (ArgsD.cons (OpD.t rfl) (ArgsD.cons (OpD.t rfl) (ArgsD.cons ⟨ZGO Tryz.call52 fun m=>ZLQ ((m.1:Nat):Int)⟩ ArgsD.nil))) ?_;rintro d' hp2 ⟨fv,M,hB,rfl⟩;dsimp only [ZB,z0,z1,List.cons_append,List.nil_append];refine ZKr (k:=0) rfl ?_;dsimp only [z0,z1]) |  (refine Z8 (hp1:=[_,_,_]) (caps:=[]) (ZRl bs bm (ZBq s) (ZDl (ZBq s)) (ZBq s).flatten (ZEP s) M o1 hB (Nat.le_trans (ZJ4 hB) hfl) (fun p hp=>by rw [hB.car p hp];have:=ZE0 s p.1.2.toNat;unfold ZEP;omega)) Tryz.call29 OpD.f (ArgsD.cons (OpD.t rfl) ArgsD.nil) ?_;rintro d' hp2 ⟨rfl,rfl⟩;dsimp only [ZB,z0,z1,List.cons_append,List.nil_append]) |  (refine ZN ZAd rfl (OpD.t rfl) Zn ?_;dsimp only [ZB,z0,z1])|(apply WL.opN;(focus ((first|(apply SY.call (hc) Tryz.call50;(exact aD))|(exact ZJs (OpD.t rfl))|((first|apply SY.move|apply SY.assign|apply SY.gtr|apply SY.neq) <;> (exact oD))|(apply SY.len;(exact oD);(exact nD);(exact uD))|(apply SY.extract;(exact oD);rfl)|fail);all_goals infer_instance));dsimp only [ZB,z0,z1])|(apply ZC;(exact oD);all_goals (intro h;try exact xD))|(apply ZL;(exact oD);all_goals (intro h;try exact xD))|refine WC.skip ?_|refine WC.ret ?_));all_goals (first|((repeat clear hK);(repeat clear Kx))))
   all_goals try (exfalso;first|contradiction|omega)
   (refine ⟨trivial,⟨_,rfl,?_⟩,_,rfl,?_⟩ <;> exact fD)
 ·have e:ZRJ s=(([],[],[]),ZDF s):=by
   unfold ZRJ ZDF
   by_cases h1:ZAJ s≠0
   ·rw [if_pos h1,if_pos h1]
   ·rw [if_neg h1,if_neg h1]
    have hd:Z0 s=false:=by
     unfold ZDF at h0
     rw [if_neg h1] at h0
     cases h:Z0 s
     ·rfl
     ·rw [h] at h0;exact absurd rfl h0
    rw [if_pos hd,hd];rfl
  rw [e]
  ((repeat' (first|(apply WL.opN;exact yF;dsimp only [ZB,z0,z1])|refine WL.nil ?_|refine ZA fun Kx hK=>?_|(refine hK _ _ ?_;clear hK)|refine WC.region ?_ |  (refine WL.alloc (dst:=some 2) ZCH (Zj rfl rfl rfl) fun b2=>?_;dsimp only [ZB,z0,z1]) |  (refine ZN ZAd rfl (OpD.t rfl) Zn ?_;dsimp only [ZB,z0,z1])|(apply WL.opN;(focus ((first|(apply SY.call (hc) Tryz.call50;(exact aD))|(exact ZA9)|((first|apply SY.move|apply SY.assign|apply SY.gtr|apply SY.neq) <;> (exact oD))|fail);all_goals infer_instance));dsimp only [ZB,z0,z1])|(apply ZL;(exact oD);all_goals (intro h;try exact xD))|refine WC.ret ?_|refine ThenD.r ?_));all_goals (first|((repeat clear hK);(repeat clear Kx))))
  all_goals first|(refine ⟨trivial,⟨_,rfl,?_⟩,_,rfl,?_⟩ <;> exact fD)|(exfalso;first|contradiction|omega)
end
section
open Go.RowKit

abbrev ZDz:=List (List UInt8 × Int)
def kvS (l:List UInt8):Value:=.string ⟨l.toArray⟩
def okS (l:List UInt8):Prop:=l.length≤1000000
theorem ZJG:KeyT Tryz.prog 9 kvS okS where
 law:=Go.Maps.string_keyed Tryz.underlying9
 lit:=fun l hl=>by
  have hz:(⟨l.toArray⟩:ByteArray).size≤maxLen:=by
   unfold okS at hl
   simp only [ByteArray.size,List.size_toArray,maxLen]
   omega
  refine ⟨.string l,?_⟩
  unfold keyOf kvS
  simp [Tryz.underlying9,mapKey,hz]
 inj:=fun x y _ _ h=>by
  unfold kvS at h
  injection h with h
  injection h with h
  exact List.toArray_inj h
theorem ZDk:MapT Tryz.prog 56 9 3 (.int .i64 0):=⟨Tryz.underlying56,fun w=>by kernel_rfl⟩
theorem ZRN:TyI Tryz.prog 56 1 false:=⟨by kernel_rfl,Tryz.isAgg56⟩
theorem ZUN:TyZ Tryz.prog 56 (.map none):=⟨by kernel_rfl⟩
def ZFR (M:ZDz) (x:List Vx):ZDz:=if (lookM M (txS x)).isSome then M else ZBy M (txS x) (M.length:Int)
def ZRn (s:List Vx):Cx:=(List.range s.length).flatMap fun k=>Zg (k+1) s
def ZDx (l:Cx):Cx:=l.flatMap ZRn
def ZBT (l:Cx):ZDz:=(ZDx l).foldl ZFR []
theorem ZIx {l:Cx} {i:Nat} (h:i<l.length):ZDx (l.take (i+1))=ZDx (l.take i)++ZRn l[i]:=by
 unfold ZDx;rw [List.take_succ_eq_append_getElem h,List.flatMap_append];simp
theorem ZFf {M:ZDz} {x:List UInt8} (h:(lookM M x).isSome=false):∀ p∈M,p.1≠x:=fun p hp he=>by
 have h1:(lookM M x).isSome=true:=by
  unfold lookM
  rw [Option.isSome_map,List.find?_isSome]
  exact ⟨p,hp,by simpa using he⟩
 rw [h] at h1;cases h1
theorem ZOZ {M:ZDz} {x:List Vx} (h:(M.map (·.1)).Nodup):((ZFR M x).map (·.1)).Nodup:=by
 unfold ZFR
 split
 ·exact h
 ·rename_i hn
  have hn:(lookM M (txS x)).isSome=false:=by simpa using hn
  have hne:=ZFf hn
  rw [ZDp hne,List.map_append,List.nodup_append]
  refine ⟨h,by simp,?_⟩
  intro a ha b hb
  obtain ⟨p,hp,rfl⟩:=List.mem_map.1 ha
  have:b=txS x:=by simpa using hb
  rw [this]
  exact hne p hp
theorem ZEg:∀ (o:Cx) {M:ZDz},(M.map (·.1)).Nodup->((o.foldl ZFR M).map (·.1)).Nodup
 | [],_,h=>h
 | _::o,_,h=>ZEg o (ZOZ h)
theorem ZQy (M:ZDz) (x:List Vx):(ZFR M x).length≤M.length+1:=by
 unfold ZFR
 split
 ·omega
 ·rename_i hn
  have hn:(lookM M (txS x)).isSome=false:=by simpa using hn
  rw [ZDp (ZFf hn),List.length_append];simp
theorem ZLa:∀ (o:Cx) (M:ZDz),(o.foldl ZFR M).length≤M.length+o.length
 | [],_=>by simp
 | x::o,M=>by
  have h1:=ZLa o (ZFR M x)
  have h2:=ZQy M x
  rw [List.foldl_cons,List.length_cons]
  omega
theorem FinD.mapN {hp:List HObj} {b:Nat} {M:ZDz} (hm:hM b kvS vvI M∈hp):FinD hp (dX (.map (some b))) (dS (ZKc kvS RI) M):=FinD.mk fun {P0 B w0 w u} hh hd=>by
 have hb:w.heap[b]?=some (ZAM _):=hh.ok _ hm
 refine ⟨b,M.map fun p=>vvI p.2,hd,ZDn hh hm rfl,by simp,?_,fun k h1 h2=>?_⟩
 ·rw [hb]
  congr 2
  unfold ZAR
  rw [List.zip_map',List.map_map]
  rfl
 ·simp only [List.getElem_map]
  exact rfl
theorem ZSu {M:ZDz} {x:List Vx} (hx:okS (txS x)) (h:∀ p∈M,okS p.1):∀ p∈ZFR M x,okS p.1:=fun p hp=>by
 unfold ZFR at hp
 split at hp
 ·exact h p hp
 ·rename_i hn
  rw [ZDp (ZFf (by simpa using hn))] at hp
  rcases List.mem_append.1 hp with hp|hp
  ·exact h p hp
  ·cases List.mem_singleton.1 hp
   exact hx
theorem ZH0:∀ (o:Cx) {M:ZDz},(∀ x∈o,okS (txS x))->(∀ p∈M,okS p.1)->∀ p∈o.foldl ZFR M,okS p.1
 | [],_,_,h=>h
 | x::o,_,hx,h=>ZH0 o (fun y hy=>hx y (List.mem_cons_of_mem _ hy)) (ZSu (hx x (List.mem_cons_self ..)) h)
def ZRW (l:Cx):Prop:=∀ s∈l,∀ v∈s,(0≤v.1/\v.1<100)/\0≤v.2/\v.2<100
theorem ZGZ {s:List Vx} (h:s.length≤8) (k:Nat):(Zg k s).length≤256:=Nat.le_trans (ZCG _ _) (Nat.pow_le_pow_right (by decide) h:2 ^ s.length≤2 ^ 8)
theorem ZCB {α:Type} (f:α->Cx) (B:Nat):∀ l:List α,(∀ s∈l,(f s).length≤B)->(l.flatMap f).length≤B*l.length
 | [],_=>Nat.zero_le _
 | s::l,h=>by
  have h1:=h s (List.mem_cons_self ..)
  have h2:=ZCB f B l fun t ht=>h t (List.mem_cons_of_mem _ ht)
  rw [List.flatMap_cons,List.length_append,List.length_cons,Nat.mul_succ]
  omega
theorem ZQO {s:List Vx} (h:s.length≤8):(ZRn s).length≤2048:=by
 have h1:=ZCB (fun k=>Zg (k+1) s) 256 (List.range s.length) fun k _=>ZGZ h _
 rw [List.length_range] at h1
 unfold ZRn
 omega
theorem ZLC {l:Cx} (h:∀ s∈l,s.length≤8):(ZDx l).length≤2048*l.length:=ZCB ZRn 2048 l fun s hs=>ZQO (h s hs)
end
end Go.Proofs.YtlgmojhmmbhgfaaGreatDoor
