/- Part 33: walks by contracts, and plain laws. -/
import Derived.Test.YtofkoleingbbpaaGreatDoorWa32
set_option linter.unusedVariables false
set_option linter.unusedSimpArgs false
set_option linter.unusedSectionVars false
set_option maxRecDepth 100000
set_option maxHeartbeats 4000000
namespace Go.Proofs.YtofkoleingbbpaaGreatDoor
section
open Go.RowKit
section
variable {P:Program} {k t e:TypeId} {z:Value} {K V:Type} [DecidableEq K] {kv:K->Value} {ok:K->Prop} {vv:V->Value}
def entF (kv:K->Value) (vv:V->Value) (m:List (K × V × Nat)):List MapEntry:=m.map fun p=>⟨kv p.1,vv p.2.1,p.2.2⟩
structure MapOf (ok:K->Prop) (f:K->Option V) (m:List (K × V × Nat)):Prop where
 keys:∀ p∈m,ok p.1
 nodup:(m.map (·.1)).Nodup
 no:∀ x,(∀ p∈m,p.1≠x)->f x=none
 yes:∀ p∈m,f p.1=some p.2.1
def upF (f:K->Option V) (x:K) (v:Option V):K->Option V:=fun y=>if y=x then v else f y
def hG (b:Nat) (kv:K->Value) (ok:K->Prop) (vv:V->Value) (p:(K->Option V)->Prop):HObj where
 blk:=some b
 ok:=fun _ w=>∃ f m c,p f/\MapOf ok f m/\w.heap[b]?=some (.map (entF kv vv m).toArray c)
 weak:=fun h _=>h
 bound:=fun h=>h
 move:=fun ⟨f,m,c,h0,h1,h2⟩ hg _ hne=>⟨f,m,c,h0,h1,by
  have hlt:b<_:=(Array.getElem?_eq_some_iff.1 h2).1
  refine (hg.block b hlt ?_).trans h2
  rcases hne with h|h
  ·cases h
  ·exact h⟩
theorem MapOf.at {f:K->Option V} {m:List (K × V × Nat)} (h:MapOf ok f m) {i j:Nat} (hi:i<m.length) (hj:j<m.length) (e:m[i].1=m[j].1):i=j:=by
 have h3:(m.map (·.1))[i]'(by simpa using hi)=(m.map (·.1))[j]'(by simpa using hj):=by simpa using e
 exact (List.getElem_inj h.nodup).1 h3
theorem MapOf.set {f:K->Option V} {m:List (K × V × Nat)} (h:MapOf ok f m) {j:Nat} (hj:j<m.length) (v:V):MapOf ok (upF f m[j].1 (some v)) (m.set j (m[j].1,v,m[j].2.2)):=by
 have hks:(m.set j (m[j].1,v,m[j].2.2)).map (·.1)=m.map (·.1):=by
  rw [List.map_set]
  apply List.ext_getElem (by simp)
  intro i h1 h2
  rw [List.getElem_set]
  split
  ·rename_i e;subst e;simp
  ·rfl
 refine ⟨fun p hp=>?_,by rw [hks];exact h.nodup,fun x hx=>?_,fun p hp=>?_⟩
 ·rcases List.mem_or_eq_of_mem_set hp with hp|rfl
  ·exact h.keys p hp
  ·exact h.keys m[j] (List.getElem_mem hj)
 ·have hx':∀ p∈m,p.1≠x:=fun p hp e=>by
   have:p.1∈(m.set j (m[j].1,v,m[j].2.2)).map (·.1):=by rw [hks];exact List.mem_map_of_mem hp
   obtain ⟨q,hq,e'⟩:=List.mem_map.1 this
   exact hx q hq (e'.trans e)
  unfold upF
  rw [if_neg fun e=>hx' _ (List.getElem_mem hj) e.symm]
  exact h.no x hx'
 ·obtain ⟨i,hi,rfl⟩:=List.mem_iff_getElem.1 hp
  rw [List.length_set] at hi
  rw [List.getElem_set]
  unfold upF
  by_cases e:j=i
  ·rw [if_pos e];exact if_pos rfl
  ·rw [if_neg e,if_neg fun q=>e (h.at hi hj q).symm]
   exact h.yes _ (List.getElem_mem hi)
theorem MapOf.push {f:K->Option V} {m:List (K × V × Nat)} (h:MapOf ok f m) {x:K} (hx:ok x) (hn:∀ p∈m,p.1≠x) (v:V) (c:Nat):MapOf ok (upF f x (some v)) (m++[(x,v,c)]):=by
 refine ⟨fun p hp=>?_,?_,fun y hy=>?_,fun p hp=>?_⟩
 ·rcases List.mem_append.1 hp with hp|hp
  ·exact h.keys p hp
  ·rw [List.mem_singleton.1 hp];exact hx
 ·rw [List.map_append,List.nodup_append]
  refine ⟨h.nodup,by simp,fun a ha b hb e=>?_⟩
  obtain ⟨p,hp,rfl⟩:=List.mem_map.1 ha
  simp only [List.map_cons,List.map_nil,List.mem_singleton] at hb
  exact hn p hp (e.trans hb)
 ·unfold upF
  rw [if_neg fun e=>hy (x,v,c) (by simp) e.symm]
  exact h.no y fun p hp=>hy p (List.mem_append_left _ hp)
 ·unfold upF
  rcases List.mem_append.1 hp with hp|hp
  ·rw [if_neg (hn p hp)];exact h.yes p hp
  ·rw [List.mem_singleton.1 hp];exact if_pos rfl
end
end
section
open Go.RowKit
def RVal:Rel Value:=fun _ _ v x=>v=x
instance:Good RVal:=⟨fun h _=>h,fun h _=>h,fun h=>h⟩
def ZMc:Rel Value:=fun _ _ v x=>v=x/\x.oneCell'=true
instance:Good ZMc:=⟨fun h _=>h,fun h _=>h,fun h=>h⟩
section
variable {P:Program} {ops:Array Oper} {hp:List HObj} {o:Oper} {fr:List Dat} {d:Dat} {Q:Z6} {rest:List Oper} {c:Code}
variable {dst:Option Tmp} {ty:TypeId} {ps:String} {af:Array Edge} {g:Option (Nat × Bool)} {e e' t T:TypeId} {bytes:Nat} {z:Value} {ag:Bool} {α:Type} {R:Rel α} {xs:List α} {v:Value}
theorem ZN7 {I:Nat->Prop} {w:World} (h:Own 0 e R I w v xs):(v = .slice none 0 0/\xs=[])\/∃ b cap,v = .slice (some ⟨b,0,none⟩) xs.length cap/\xs.length≤cap:=by
 obtain ⟨us,h1,⟨h2,h3⟩,h4⟩:=h
 rcases h3 with ⟨hv,hz⟩|⟨g,cap,cur,hv,hB,hg,hc1,hc2,hc3,hc4⟩
 ·exact .inl ⟨hv,List.length_eq_zero_iff.1 hz⟩
 ·exact .inr ⟨g,cap,hv,hc1⟩
end
end
section
open Go.RowKit
theorem mAt {hp:List HObj} {o:HObj} (i:Nat) (h:hp[i]?=some o):o∈hp:=List.mem_of_getElem? h
theorem ZHd:∀ {hp:List HObj} {i:Nat} {o:HObj},hp[i]?=some o->hp.Perm (o::hp.eraseIdx i)
 | [],i,o,h=>by simp at h
 | a::hp,0,o,h=>by cases h;exact List.Perm.refl _
 | a::hp,i+1,o,h=>by
  have:=ZHd (hp:=hp) (i:=i) (o:=o) (by simpa using h)
  exact (List.Perm.cons a this).trans (List.Perm.swap _ _ _)
theorem ZLx:∀ {hp:List HObj} {i:Nat} (_:i<hp.length) (o':HObj),(o'::hp.eraseIdx i).Perm (hp.set i o')
 | [],i,h,o'=>by simp at h
 | a::hp,0,h,o'=>List.Perm.refl _
 | a::hp,i+1,h,o'=>by
  have:=ZLx (hp:=hp) (i:=i) (by simpa using h) o'
  exact (List.Perm.swap _ _ _).trans (List.Perm.cons a this)
section
variable {P:Program} {ops:Array Oper} {hp hp':List HObj} {o:Oper} {fr:List Dat} {d d2:Dat} {Q:Z6} {rest:List Oper} {c:Code} {β:Type} {D:β->Dat}
theorem SW.perm {H H':β->List HObj} (h1:hp.Perm hp') (h2:∀ x,(H x).Perm (H' x)) (k:SW P ops hp' H D o fr):SW P ops hp H' D o fr:=⟨k.guard,fun {P0 B w0 w a} hh hon K Q hk=>by
 obtain ⟨hh1,hI⟩:=hh.perm h1
 refine k.out hh1 ⟨hon.1,fun t ht d hd=>d.weak (hon.2 t ht d hd) fun j hj=>(hI j).1 hj⟩ K Q fun x v w' hw hrd hd=>?_
 obtain ⟨hh2,hI2⟩:=hw.perm (h2 x)
 exact hk x v w' hh2 (fun d u hu=>d.weak (hrd d u (d.weak hu fun j hj=>(hI j).1 hj)) fun j hj=>(hI2 j).1 hj) ((D x).weak hd fun j hj=>(hI2 j).1 hj)⟩
theorem SW.at (i:Nat) {ob:HObj} {H:β->HObj} (hi:hp[i]?=some ob) (k:∀ q:List HObj,SW P ops (ob::q) (fun x=>H x::q) D o fr):SW P ops hp (fun x=>hp.set i (H x)) D o fr :=
 SW.perm (ZHd hi) (fun x=>ZLx (List.getElem?_eq_some_iff.1 hi).1 (H x)) (k _)
theorem ZUp {α:Type} {R:Rel α} {_gR:Good R} {v:Value} {e:TypeId} {xs:List α} {I:Nat->Prop} {w:World} (h:(Zp v e R xs).ok I w):v.oneCell'=true:=by
 rcases ZN7 h with ⟨rfl,_⟩|⟨b,cap,rfl,_⟩ <;> rfl
theorem ZDH {α:Type} {R:Rel α} {_gR:Good R} {v:Value} {e:TypeId} {xs:List α} (hm:Zp v e R xs∈hp) (h:v.oneCell'=true->WL P ops Q rest fr hp):WL P ops Q rest fr hp:=WL.of fun _ _ _ _ _ hh hf=>(h (ZUp (hh.ok _ hm))).on hh hf
end
section
variable {P:Program} {ops:Array Oper} {hp:List HObj} {fr:List Dat} {d:Dat} {dst:Option Tmp} {ty:TypeId} {ps:String} {af:Array Edge} {T T1 T2 e:TypeId} {b k:Nat} {ds:List Dat}
theorem SW.storeS {t:Nat} {x:Operand} (T':TyI P T1 1 false) (hp0:OpD fr (.tmp t) (dX (.pointer (some ⟨b,k,none⟩)))) (hx:OpD fr x d) (hs:d.Shape 1 false) (hk:k<ds.length) :
  SW P ops (ZAV b T2 ds::hp) (fun _:Unit=>ZAV b T2 (ds.set k d)::hp) (fun _=>dX undef) ⟨dst,.store T1 (.tmp t) x,ty,ps,af,none⟩ fr:=⟨rfl,fun {P0 B w0 w a} hh hon KK QQ hkk=>by
 obtain ⟨cs,c1,c2,c3,c4⟩:=hh.ok (ZAV b T2 ds) (by simp)
 have h1:a.eval (.tmp t)=_:=hp0.get (by simp [Op.operands]) hon
 have hd:d.rd (Imm P0 B (ZAV b T2 ds::hp)) w (a.eval x):=hx.get (by simp [Op.operands]) hon
 obtain ⟨us,u1,u0,u2,u3,u4⟩:=hs _ _ _ hd
 obtain ⟨u,rfl⟩:∃ u,us=[u]:=List.length_eq_one_iff.1 u1
 have hu:a.eval x=u:=by
  simp only [Bool.false_eq_true,if_false] at u4
  exact (List.cons.inj u4).1.symm
 have hone:u.oneCell'=true:=u2 u (by simp)
 have hdu:d.rd (Imm P0 B (ZAV b T2 ds::hp)) w u:=by rw [hu] at hd;exact hd
 have hkc:k<cs.length:=by omega
 have hset:=setCell_eq_setRow w b k cs.toArray T2 (0,0) u c1
 have hc:w.cell? ⟨b,k,none⟩=some cs[k]:=by simp [World.cell?,c1,hkc]
 have hfz:w.frozen? ⟨b,k,none⟩=false:=by simp [World.frozen?,c1]
 have hst:(store ((⟨b,k,none⟩:Addr).add 0) u).run P w = .ok () (w.setCell ⟨b,k,none⟩ u):=by
  rw [show ((⟨b,k,none⟩:Addr).add 0)=⟨b,k,none⟩ from rfl,run_store P w _ u _ hone,hc]
  simp [hfz]
 have hsz:(sizeOf T1).run P w = .ok 1 w:=by
  have h5:=T'.size
  cases hq:P.info? T1 with
  | none=>rw [hq] at h5;cases h5
  | some i =>
   rw [hq] at h5
   have:i.size=1:=by simpa using h5
   rw [<- this]
   rw [run_sizeOf w hq]
   simp [Program.cellsOf,hq]
 have hw:w.setCell ⟨b,k,none⟩ u=w.setRow b (cs.set k u).toArray:=by rw [hset];simp
 have hrun:(execOp a.eval ⟨dst,.store T1 (.tmp t) x,ty,ps,af,none⟩).run P w = .ok .skip (w.setRow b (cs.set k u).toArray):=by
  rw [<- hw]
  unfold execOp
  simp only [h1,hu,Instr.storeAt,Instr.sureAddr,storeVar,Sem.run_bind,hsz,Result.andThen_ok,Sem.run_pure]
  simp [ZDq hone,storeCells,hst]
 unfold Oper.wp
 rw [hrun]
 have hgr:w.grownBy (w.setRow b (cs.set k u).toArray) (ZAV b T2 ds).blk:=ZAY
 have hok:(ZAV b T2 (ds.set k d)).ok (fun j=>Imm P0 B (ZAV b T2 ds::hp) j/\j<w.heap.size) (w.setRow b (cs.set k u).toArray):=by
  refine ⟨cs.set k u,setRow_heap w b _ _ _ _ c1,by simp [c2],fun c hc=>?_,fun j c e hc he=>?_⟩
  ·rcases List.mem_or_eq_of_mem_set hc with hc|rfl
   ·exact c3 c hc
   ·exact hone
  ·rw [List.getElem?_set] at hc he
   by_cases hjk:k=j
   ·rw [if_pos hjk,if_pos (by omega)] at hc he
    cases hc;cases he
    exact d.grown (d.bound hdu) hgr fun j q hj=>hj.1.2 (ZAV b T2 ds) (by simp) q
   ·rw [if_neg hjk] at hc he
    exact e.grown (e.bound (c4 j c e hc he)) hgr fun j q hj=>hj.1.2 (ZAV b T2 ds) (by simp) q
 exact hkk () _ _ (hh.write hgr (.inl rfl) hok) (fun d' u hd=>Zi (o':=ZAV b T2 (ds.set k d)) hgr (.inl rfl) hd) rfl⟩
end
end
section
open Go.RowKit
open C34

theorem ZDM:StrT Tryz.prog 99 3:=⟨fun b off i w hi=>by
 match i,hi with
 | 0,_=>go_simp
 | 1,_=>go_simp
 | 2,_=>go_simp⟩
theorem ZWY:TyI Tryz.prog 54 1 false:=⟨by kernel_rfl,Tryz.isAgg54⟩
theorem ZWZ:TyI Tryz.prog 97 1 false:=⟨by kernel_rfl,Tryz.isAgg97⟩
theorem ZWS:ElT Tryz.prog 97 145 1 (.map none) 8 false:=⟨Tryz.underlying97,by kernel_rfl,Tryz.isAgg145,rfl⟩
theorem ZSl {P:Program} {ops:Array Oper} {hp:List HObj} {β:Type} {H:β->List HObj} {D:β->Dat} {o:Oper} {fr:List Dat} {α:Type} {R:Rel α} {_gR:Good R} {v:Value} {e:TypeId} {xs:List α} (hg:o.guard=none) (hm:Zp v e R xs∈hp) (k:v.oneCell'=true->SW P ops hp H D o fr):SW P ops hp H D o fr :=
 ⟨hg,fun {_ _ _ _ _} hh ho K Q hk=>(k (ZUp (hh.ok _ hm))).out hh ho K Q hk⟩
abbrev ZXW (S:Prop) (b:Nat) (vL vN:Value) (Ls:List Cx) (Ms:List ZWP) (n:Nat):List HObj :=
 [ZAV b 99 [dX vL,dX vN,dI (n:Int)],Zp vL 27 (ZBW S) Ls,Zp vN 145 (ZHM kvS RI) Ms]
set_option maxHeartbeats 8000000 in
theorem ZO7 {S:Prop} (b n:Nat) (Ls:List Cx) (Ms:List ZWP) (vL vN:Value) (lv:Cx) (hn:n≤100000) (hlv:lv.length≤100000) (hLl:Ls.length≤100) (hMl:Ms.length≤100) (hnd:lv.Nodup) (hck:∀ s∈lv,Z5 s=0) (hS:S->∀ s∈lv,∀ v∈s,v.1<100/\v.2<100) :
  CallC Tryz.prog 58 ([dX (.pointer (some ⟨b,0,none⟩)),dS (ZBW S) lv]++([]:List Value).map dX) (ZXW S b vL vN Ls Ms n)
   (fun _ hp2=>∃ vL' vN',hp2=ZXW S b vL' vN' (Ls++[lv]) (Ms++[ZGe txS n lv]) (n+lv.length)):=by
 have hinj:∀ a∈lv,∀ b∈lv,txS a=txS b->a=b:=fun a ha b hb e=>ZG4 (hck a ha) (hck b hb) e
 (refine ZEj Tryz.func58 rfl rfl (fun hp=>?_);simp only [Tryz.ntmps58,List.length_cons,List.length_nil,List.length_append,List.length_map,Nat.reduceAdd,Nat.reduceSub,List.replicate_succ,List.replicate_zero,List.cons_append,List.nil_append,List.map_cons,List.map_nil,List.append_assoc])
 (repeat' (first|((first|apply WL.opN|apply WD.opN);exact yF;dsimp only [ZC,z0,z1])|refine WL.nil ?_|refine ZA fun Kx hK=>?_|(refine hK _ _ ?_;clear hK)|refine WC.region ?_ |  (refine WL.makeMap kvS vvI fun bm=>?_;dsimp only [ZC,z0,z1])|((first|apply WL.opN|apply WD.opN);(focus ((first|(apply SY.len;(exact oD);(exact nD);(exact uD))|fail);all_goals infer_instance));dsimp only [ZC,z0,z1])|refine WC.block ?_))
 all_goals try (exfalso;first|contradiction|omega)
 (refine WC.loopU (X:=Nat) (fun k=>[(10,dI (k:Int)),(6,dA),(11,dA),(12,dA),(13,dA),(14,dA),(15,dA),(16,dA),(17,dA),(18,dA),(19,dA),(20,dA),(21,dA),(22,dA),(23,dA),(24,dA),(25,dA),(26,dA),(27,dA),(28,dA)]) (fun k=>(hM bm kvS vvI (ZGe txS n (lv.take k))::ZAV b 99 [dX vL,dX vN,dI ((n+k:Nat):Int)]::Zp vL 27 (ZBW S) Ls::Zp vN 145 (ZHM kvS RI) Ms::hp)) (fun k=>lv.length-k) (fun k=>k≤lv.length) 0 ?start ?frame0 ?objs0 ?round)
 case start=>exact Nat.zero_le _
 case frame0=>((try dsimp only [ZK,z0,z1]);repeat (first|exact LeF.nil|refine ZD (k:=?_)))
 case objs0=>rfl
 case round =>
  rintro k hk
  dsimp only [ZK,z0,z1]
  have hkeys:=ZKI (off:=n) hnd hinj k hk
  by_cases hkl:k<lv.length
  ·have hkI:(k:Int)<(lv.length:Int):=by omega
   have hc:=hck _ (List.getElem_mem hkl)
   have cK:=ZHG (S:=S) hc fun q=>hS q _ (List.getElem_mem hkl)
   have hsn:=ZIQ (kx:=txS) (off:=n) hkl
   have hok:∀ p∈ZGe txS n (lv.take k),okS p.1:=fun p hp=>by
    have:p.1∈(lv.take k).map txS:=by rw [<- hkeys];exact List.mem_map_of_mem hp
    obtain ⟨s,hs,he⟩:=List.mem_map.1 this
    rw [<- he]
    exact ZAP (hck s (List.mem_of_mem_take hs))
   have hkn:((ZGe txS n (lv.take k)).map (·.1)).Nodup:=by
    rw [hkeys]
    refine List.pairwise_map.2 ((hnd.sublist (List.take_sublist _ _)).imp_of_mem fun {a c} ha hc hne e=>hne (hinj a (List.mem_of_mem_take ha) c (List.mem_of_mem_take hc) e))
   have e1:((n+k:Nat):Int)+1=((n+(k+1):Nat):Int):=by omega
   have hnk:((n+k:Nat):Int)≤200000:=by omega
   have hnk0:0≤((n+k:Nat):Int):=by omega
   generalize ((n+k:Nat):Int)=nk at *
   generalize ZGe txS n (lv.take k)=M at *
   ((repeat' (first |  (apply WC.drawTail (id:=4) 7;kernel_rfl;kernel_rfl;simp only [List.take_succ_cons,List.take_zero,List.drop_succ_cons,List.drop_zero])|((first|apply WL.opN|apply WD.opN);exact yF;dsimp only [ZC,z0,z1])|refine WL.nil ?_|refine WD.nil ?_|refine ZA fun Kx hK=>?_|(refine hK _ _ ?_;clear hK)|refine WC.region ?_ |  (refine ZCB (v:=txS lv[k]) (u:=nk) ZGM ZCK (OpD.t rfl) (OpD.t rfl) isX (OpD.t rfl) isI (ZAP hc) hok hkn ?_;dsimp only [ZC,z0,z1]) |  (refine ZCA (SW.at 1 rfl fun q=>SW.storeS tyI (OpD.t rfl) (OpD.t rfl) ZAK (by simp)) fun _=>?_;dsimp only [ZC,z0,z1])|((first|apply WL.opN|apply WD.opN);(focus ((first|(exact ZJe (OpD.t rfl))|(refine ZAf ZDM (OpD.t rfl) (by decide))|(refine ZAQ tyI (OpD.t rfl) (mAt 1 rfl) rfl)|(apply SY.call (cK) Tryz.call69;(exact aD))|((first|apply SY.move|apply SY.assign|apply SY.lss) <;> (exact oD))|((first|apply SY.add) <;> first|exact oD|omega)|(apply SY.ix;(exact eD);(exact oD);(exact oD);exact kD)|fail);all_goals infer_instance));dsimp only [ZC,z0,z1])|(apply ZB;(exact oD);all_goals (intro h;try exact xD))|refine WC.skip ?_|refine WC.block ?_|refine ThenD.n ?_));all_goals (first|((repeat clear hK);(repeat clear Kx))))
   all_goals try (exfalso;first|contradiction|omega)
   rw [e1,<- hsn]
   (refine ⟨k+1,?_,by first|omega|(simp only;omega),rfl,?_⟩;rotate_left;((try dsimp only [ZK,z0,z1]);repeat (first|exact LeF.nil|refine ZD (k:=?_)));(try dsimp only))
   exact hkl
  ·have hkI:¬ (k:Int)<(lv.length:Int):=by omega
   obtain rfl:k=lv.length:=by omega
   rw [List.take_length]
   refine ZP0 (t:=4) rfl ?_
   dsimp only [z0,z1]
   ((repeat' (first |  (refine WC.drawJ (fun hp'=>ZAV b 99 [dX vL,dX vN,dI ((n+lv.length:Nat):Int)]∈hp') 19 3 [5,12] [18] [(0,false),(1,false),(2,false),(3,false),(4,false),(5,false),(6,false),(7,false),(9,false),(10,false),(11,false),(12,false),(13,false),(14,false),(8,true),(15,true),(16,false),(17,false),(18,true)] [true,true,true,true,true,true,true,true,true,true,true,true,true,true,true,true,true,true,true,false,false,false] (by kernel_rfl) (by kernel_rfl) (by kernel_rfl) rfl (mAt 0 rfl) ?_) |  (first|refine WA.one (S:=[true,true,true,true,true,true,true,true,true,true,true,true,true,true,true,true,true,true,true,false,false,false]) (i:=19) (by kernel_rfl) rfl ?_|refine WA.one (S:=[true,true,true,true,true,true,true,true,true,true,true,true,true,true,true,true,true,true,true,true,false,false]) (i:=20) (by kernel_rfl) rfl ?_|refine WA.one (S:=[true,true,true,true,true,true,true,true,true,true,true,true,true,true,true,true,true,true,true,true,true,false]) (i:=21) (by kernel_rfl) rfl ?_|refine WA.nil (S:=[true,true,true,true,true,true,true,true,true,true,true,true,true,true,true,true,true,true,true,true,true,true]) (by kernel_rfl) ?_) |  (refine ThenA.n ?_;dsimp only [z0,z1]) |  (refine ZGj rfl (SW.at 1 rfl fun q=>SW.app1 ZAO (R:=ZBW S) (_gR:=inferInstance) (OpD.t rfl) (OpD.t rfl) (by decide) (by simp;omega)) (fun _=>mAt 0 rfl) fun v1=>?_;dsimp only [ZC,z0,z1]) |  (refine ZGj rfl (SW.at 2 rfl fun q=>SW.app1 ZWS (R:=ZHM kvS RI) (_gR:=inferInstance) (OpD.t rfl) (OpD.t rfl) (by decide) (by simp;omega)) (fun _=>mAt 0 rfl) fun v2=>?_;dsimp only [ZC,z0,z1]) |  (refine ZOa rfl rfl (ZSl rfl (mAt 1 rfl) fun hv1=>SW.at 0 rfl fun q=>SW.storeS ZWY (OpD.t rfl) (OpD.t rfl) (Z1 hv1) (by simp)) fun _=>?_;dsimp only [ZC,z0,z1])|(refine WMj.nil ?_)|(apply ZLB rfl;(focus (intro c;apply SYG.yes;(exact Zg rfl);((first|(exact ZJe (OpD.t rfl))|(refine ZAf ZDM (OpD.t rfl) (by decide))|(exact SY.build1' (R:=ZBW S) (_gR:=inferInstance) (els:=[lv]) ZAO (Zk (OpD.t rfl) Zl) rfl rfl (fun _=>ZAC) (Nat.le_of_ble_eq_true rfl))|(exact SY.build1' (R:=ZHM kvS RI) (_gR:=inferInstance) (els:=[ZGe txS n lv]) ZWS (Zk (OpD.t rfl) Zl) rfl rfl (fun _=>ZPO) (Nat.le_of_ble_eq_true rfl))|((first|apply SY.move|apply SY.assign|apply SY.lss) <;> (exact oD))|fail);all_goals infer_instance)));dsimp only [ZC,z0,z1])|(apply ZLA rfl rfl;(focus (intro c hcc;apply SYG.yes;(exact Zg rfl);((first|(refine ZAQ ZWY (OpD.t rfl) hcc rfl)|(refine ZAQ ZWZ (OpD.t rfl) hcc rfl)|fail);all_goals infer_instance)));dsimp only [ZC,z0,z1])|((first|apply WL.opN|apply WD.opN);exact yF;dsimp only [ZC,z0,z1])|refine WL.nil ?_|refine WD.nil ?_|refine ZA fun Kx hK=>?_|(refine hK _ _ ?_;clear hK)|(refine Kont.skip ?_;clear hK)|refine WC.region ?_|(apply WC.draw;kernel_rfl;kernel_rfl) |  (refine ZDH (mAt 2 rfl) fun hvv=>ZCA (SW.at 0 rfl fun q=>SW.storeS ZWZ (OpD.t rfl) (OpD.t rfl) (Z1 hvv) (by simp)) fun _=>?_;dsimp only [ZC,z0,z1])|((first|apply Zv|apply Zm);(exact eD);exact OpD.t rfl;(exact oD);(intro _;exact hD);(exact (by simp));(exact (by simp));(first|exact ⟨by decide,by decide⟩|skip);decide;(exact lD);(intro _;dsimp only [ZC,z0,z1]);all_goals (try infer_instance))|((first|apply WL.appK|apply WL.app1);(exact eD);exact OpD.t rfl;(exact oD);decide;(exact lD);(intro _;dsimp only [ZC,z0,z1]);all_goals (try infer_instance))|((apply (WL.perm (List.Perm.swap _ _ _));(first|apply Zv|apply Zm);(exact eD);exact OpD.t rfl;(exact oD);(intro _;exact hD);(exact (by simp));(exact (by simp));(first|exact ⟨by decide,by decide⟩|skip);decide;(exact lD);(intro _;dsimp only [ZC,z0,z1]);all_goals (try infer_instance)))|((apply (WL.perm (List.Perm.swap _ _ _));(first|apply WL.appK|apply WL.app1);(exact eD);exact OpD.t rfl;(exact oD);decide;(exact lD);(intro _;dsimp only [ZC,z0,z1]);all_goals (try infer_instance)))|(apply ZW;(exact tD);rfl;(exact oD);(exact hD);dsimp only [ZC,z0,z1])|(apply ZBz;(exact tD);rfl;(exact oD);(exact hD);dsimp only [ZC,z0,z1])|(apply WL.storeF3;(exact tD);rfl;(exact oD);(exact hD);dsimp only [ZC,z0,z1])|((first|apply WL.opN|apply WD.opN);(focus ((first|(exact ZJe (OpD.t rfl))|(refine ZAf ZDM (OpD.t rfl) (by decide))|((first|apply SY.move|apply SY.assign|apply SY.lss) <;> (exact oD))|fail);all_goals infer_instance));dsimp only [ZC,z0,z1])|(apply Zb;(exact oD);(with_reducible rfl))|(apply ZQ;(exact oD);(with_reducible rfl))|(apply ZB;(exact oD);all_goals (intro h;try exact xD))|(apply ZG;(exact oD);all_goals (intro h;try exact xD))|(apply ZM;(exact oD);all_goals (intro h;try exact xD))|(apply WC.cond;(exact oD);all_goals (intro h;try exact xD))|refine WC.skip ?_|refine WC.ret ?_|refine WC.exit ?_|refine WC.block ?_|refine ThenD.n ?_|refine ThenD.r ?_|refine ThenD.x ?_|refine InBlockD.x ?_|refine InBlockD.n ?_|refine InBlockD.r ?_|refine ZDk (by decide) ?_));all_goals (first|((repeat clear hK);(repeat clear Kx))))
   all_goals try (exfalso;first|contradiction|omega)
   exact ⟨trivial,ZXW S b v1 v2 (Ls++[lv]) (Ms++[ZGe txS n lv]) (n+lv.length),rfl,v1,v2,rfl⟩
end
section
open Go.RowKit
open C34
abbrev ArM:=List (List UInt8 × Value × List Int)
def vvT (p:Value × List Int):Value:=p.1
def ZDa (M:ArM):List HObj:=M.map fun p=>Zp p.2.1 3 RI p.2.2
def ZBr (M:ArM):List (List UInt8 × List Int):=M.map fun p=>(p.1,p.2.2)
theorem ZGo (M:ArM):(ZBr M).map (·.1)=M.map (·.1):=by unfold ZBr;rw [List.map_map];rfl
theorem ZJJ {M:ArM} (hn:(M.map (·.1)).Nodup) {q:Nat} (h:q<M.length):lookM (ZBr M) M[q].1=some M[q].2.2:=by
 have hl:q<(ZBr M).length:=by simpa [ZBr] using h
 have hn':((ZBr M).map (·.1)).Nodup:=by rw [ZGo];exact hn
 have e1:(ZBr M)[q]=(M[q].1,M[q].2.2):=by simp [ZBr]
 have h2:=ZDz hn' hl
 rw [e1] at h2
 exact h2
theorem ZQn {M:ArM} (hn:(M.map (·.1)).Nodup) {q:Nat} (h:q<M.length) (v':Value) (i:Int):ZBr (M.set q (M[q].1,(v',M[q].2.2++[i])))=ZSb (ZBr M) M[q].1 i:=by
 have hl:q<(ZBr M).length:=by simpa [ZBr] using h
 have e1:(ZBr M)[q]=(M[q].1,M[q].2.2):=by simp [ZBr]
 have hn':((ZBr M).map (·.1)).Nodup:=by rw [ZGo];exact hn
 have h3:=ZGT hn' (v:=M[q].2.2++[i]) hl
 rw [e1] at h3
 unfold ZSb
 rw [ZJJ hn h]
 show _=ZCy (ZBr M) M[q].1 (M[q].2.2++[i])
 rw [h3]
 unfold ZBr
 rw [List.map_set]
theorem ZQm {M:ArM} {x:List UInt8} (hne:∀ p∈M,p.1≠x) (v':Value) (i:Int):ZBr (M++[(x,(v',[i]))])=ZSb (ZBr M) x i:=by
 have hne':∀ p∈ZBr M,p.1≠x:=fun p hp=>by
  obtain ⟨q,hq,rfl⟩:=List.mem_map.1 hp
  exact hne q hq
 unfold ZSb
 rw [ZCv hne',ZER hne']
 simp [ZBr]
theorem ZOI {M:ArM} {q:Nat} (h:q<M.length):(ZDa M)[q]?=some (Zp M[q].2.1 3 RI M[q].2.2):=by
 unfold ZDa
 rw [List.getElem?_map,List.getElem?_eq_getElem h];rfl
theorem ZRw (M:ArM) (q:Nat) (h:q<M.length) (p:List UInt8 × Value × List Int):(Zp p.2.1 3 RI p.2.2::(ZDa M).eraseIdx q).Perm (ZDa (M.set q p)):=by
 have:=ZHe (Zp p.2.1 3 RI p.2.2) (ZDa M) q (by simpa [ZDa] using h)
 have e:ZDa (M.set q p)=(ZDa M).set q (Zp p.2.1 3 RI p.2.2):=by unfold ZDa;rw [List.map_set]
 rw [e];exact this
theorem ZPJ (M:ArM) (p:List UInt8 × Value × List Int):(Zp p.2.1 3 RI p.2.2::ZDa M).Perm (ZDa (M++[p])):=by
 unfold ZDa
 rw [List.map_append]
 exact (List.perm_append_singleton _ _).symm
theorem ZLk (M:ArM) (x:List UInt8):(∃ q,∃ h:q<M.length,M[q].1=x)\/∀ p∈M,p.1≠x:=by
 by_cases h:∃ p∈M,p.1=x
 ·obtain ⟨p,hp,he⟩:=h
  obtain ⟨q,hq,rfl⟩:=List.getElem_of_mem hp
  exact .inl ⟨q,hq,he⟩
 ·exact .inr fun p hp e=>h ⟨p,hp,e⟩
theorem ZJL {P0:Nat->Prop} {B:Nat} {hp hp':List HObj} (h:∀ o∈hp,o∈hp') {k:Nat} (hk:Imm P0 B hp' k):Imm P0 B hp k:=⟨hk.1,fun o ho=>hk.2 o (h o ho)⟩
section
variable {P:Program} {hp:List HObj} {fr:List Dat} {Q:Z6} {c:Code}
theorem ZP1 {b t:Nat} {M:ArM} (ht:fr[t]?=some (dX (.map (some b)))) (h:WC P Q c (fr.set t (dS (ZHM kvS ZAa) (ZBr M))) hp):WC P Q c fr (hM b kvS vvT M::(ZDa M++hp)):=WC.of fun P0 B w0 w a hh hf=>by
 have hb:w.heap[b]?=some (ZAr _):=hh.ok (hM b kvS vvT M) (by simp)
 have hown:=hh.own (hM b kvS vvT M) (by simp) b rfl
 have hsub:∀ o∈hp,o∈hM b kvS vvT M::(ZDa M++hp):=fun o ho=>List.mem_cons_of_mem _ (List.mem_append_right _ ho)
 refine h.on (ZJZ (hM b kvS vvT M::ZDa M) hp (by simpa using hh)) ⟨hf.defers,by rw [hf.size,List.length_set],fun t' d' hd'=>?_⟩
 by_cases htt:t=t'
 ·subst htt
  rw [List.getElem?_set] at hd'
  simp only [if_true] at hd'
  split at hd'
  ·cases hd'
   have hv:a.tmps.getD t undef = .map (some b):=hf.rd t _ ht
   rw [hv]
   refine ⟨b,M.map fun p=>p.2.1,rfl,⟨.inr hown.1,fun o' ho' hk=>(List.pairwise_cons.1 hh.apart).1 o' (List.mem_append_right _ ho') b rfl hk⟩,by simp [ZBr],?_,fun k h1 h2=>?_⟩
   ·rw [hb]
    congr 2
    unfold ZAj ZBr
    simp only [List.map_map]
    rw [List.zip_map',List.map_map]
    rfl
   ·have hk:k<M.length:=by simpa using h1
    have hat:(hM b kvS vvT M::(ZDa M++hp))[k+1]?=some (Zp M[k].2.1 3 RI M[k].2.2):=by
     rw [List.getElem?_cons_succ,List.getElem?_append_left (by simpa [ZDa] using hk),ZOI hk]
    obtain ⟨hh2,_⟩:=hh.perm (ZHd hat)
    have hk2:=ZFB hh2
    have:ZAa (Imm P0 B hp) w M[k].2.1 M[k].2.2:=Good.weak hk2 fun j hj=>ZJL (fun o ho=>by
     rw [List.eraseIdx_cons_succ,List.eraseIdx_append_of_lt_length (by simpa [ZDa] using hk)]
     exact List.mem_cons_of_mem _ (List.mem_append_right _ ho)) hj
    simpa [ZBr] using this
  ·cases hd'
 ·rw [List.getElem?_set_ne htt] at hd'
  exact d'.weak (hf.rd t' d' hd') fun k hk=>ZJL hsub hk
end
end
section
open Go.RowKit
open C34

theorem ZGu:MapT Tryz.prog 148 9 23 (.slice none 0 0):=⟨Tryz.underlying148,fun w=>by kernel_rfl⟩
theorem ZWa:TyI Tryz.prog 96 1 false:=⟨by kernel_rfl,Tryz.isAgg96⟩
theorem tyMp:TyI Tryz.prog 145 1 false:=⟨by kernel_rfl,Tryz.isAgg145⟩
abbrev ZTU (S:Prop) (L:List Cx) (Ms:List ZWP) (n:Nat):Dat:=dP 3 true (ZFY [dS (Arr (ZBW S)) L,dS (Arr (ZHM kvS RI)) Ms,dI (n:Int)])
def ZDY (L:List Cx):List ZWP:=(List.range L.length).map fun k=>ZGe txS (ZAs L k) (L.getD k [])
def ZNg (l:Cx) (f:Vx->Int) (L:List Cx) (j:Nat):List (List Int):=(List.range j).flatMap fun k=>ZGU l f L (k+1)
theorem ZH8 {l:Cx} {f:Vx->Int} {L:List Cx} {j:Nat}:ZNg l f L (j+1)=ZNg l f L j++ZGU l f L (j+1):=by
 unfold ZNg
 rw [List.range_succ,List.flatMap_append];simp
theorem ZLT {l:Cx} {f:Vx->Int} {L:List Cx} {j:Nat}:∀ i,(ZNg l f L j).length≤(ZNg l f L (j+i)).length
 | 0=>Nat.le_refl _
 | i+1=>by
  have:=ZLT (l:=l) (f:=f) (L:=L) (j:=j) i
  rw [<- Nat.add_assoc,ZH8,List.length_append]
  omega
theorem ZGz {a b c:HObj} {js hp:List HObj}:(js++a::b::c::hp).Perm (a::b::c::(js++hp)):=by
 have:((js++[a,b,c])++hp).Perm (([a,b,c]++js)++hp):=List.Perm.append_right _ List.perm_append_comm
 simpa using this
theorem ZR8 {n:Nat} {agg:Bool} {d:Dat}:(dP n agg d).Shape 1 false:=fun _ _ _ h=>by
 obtain ⟨b,off,u,rfl,_⟩:=h
 exact ⟨[.pointer (some ⟨b,off,none⟩)],rfl,by decide,fun c hc=>by rw [List.mem_singleton.1 hc];rfl,rfl,rfl⟩
theorem ZJv (S:Prop) (l:Cx) (f:Vx->Int) (L:List Cx) (Ms:List ZWP) (n:Nat):CallC Tryz.prog 61 ([ZIs l f,ZTU S L Ms n]++([]:List Value).map dX) []
  (fun d hp2=>∃ vu vx,d=dX (.func (.func 101) #[] [vu,vx].toArray)/\hp2=[ZA7 vu (dP 1 false (ZTU S L Ms n)),ZA7 vx (dP 2 true (ZIs l f))]):=by
 (refine ZAy Tryz.func61 rfl rfl (fun hp=>?_);simp only [Tryz.ntmps61,List.length_cons,List.length_nil,List.length_append,List.length_map,Nat.reduceAdd,Nat.reduceSub,List.replicate_succ,List.replicate_zero,List.cons_append,List.nil_append,List.map_cons,List.map_nil,List.append_assoc])
 ((repeat' (first |  (refine ZK5 (d:=dP 2 true (ZIs l f)) 2 rfl fun vx=>?_;dsimp only [z0,z1];refine ZK5 (d:=dP 1 false (ZTU S L Ms n)) 3 rfl fun vu=>?_;dsimp only [z0,z1])|(apply WL.opN;exact yF;dsimp only [ZC,z0,z1])|refine WL.nil ?_|refine ZA fun Kx hK=>?_|(refine hK _ _ ?_;clear hK)|refine WC.region ?_|(apply WL.opN;(focus ((first|(exact SY.box (OpD.t rfl) (Z8 (n:=2) (by decide) rfl))|(exact SY.box (OpD.t rfl) ZR8)|(apply ZHV;repeat (first|exact ArgsX.nil|(apply ArgsX.cons;exact OpD.t rfl)))|fail);all_goals infer_instance));dsimp only [ZC,z0,z1])|refine WC.ret ?_));all_goals (first|((repeat clear hK);(repeat clear Kx))))
 exact ⟨trivial,_,[_,_],rfl,rfl,vu,vx,rfl,rfl⟩
end
end Go.Proofs.YtofkoleingbbpaaGreatDoor
