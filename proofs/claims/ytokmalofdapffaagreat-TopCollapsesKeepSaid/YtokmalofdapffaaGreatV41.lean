/- Part 41: walks by contracts, and plain laws. -/
import Derived.Test.YtokmalofdapffaaGreatV40
set_option linter.unusedVariables false
set_option linter.unusedSimpArgs false
set_option linter.unusedSectionVars false
set_option maxRecDepth 100000
set_option maxHeartbeats 4000000
namespace Go.Proofs.YtokmalofdapffaaGreat
section
open Go.RowKit

abbrev apK (b:Nat) (xs:List Cl) (hs:List HObj):Prop:=∃ sv,hs=[ZO b 31 1 false (dX sv),Zg sv 43 2 Col xs]
theorem ZEI:(dX (.agg #[.slice none 0 0,.slice none 0 0])).Shape 2 true:=fun _ _ _ h=>by cases (h:_=_);exact ⟨[.slice none 0 0,.slice none 0 0],rfl,by omega,by simp [Value.oneCell'],rfl,rfl⟩
theorem I.WL.knowRowK {P:Program} {ops:Array Oper} {hp:List HObj} {fr:List Dat} {Q:ZAE} {rest:List Oper} {α:Type} {R:Rel α} {_gR:Good R} {v:Value} {e:TypeId} {n:Nat} {xs:List α} (hm:Zg v e n R xs∈hp) (h:(∃ a c,v = .slice a xs.length c)->I.WL P ops Q rest fr hp):I.WL P ops Q rest fr hp:=I.WL.of fun _ _ _ _ _ hh hf=>by
 obtain ⟨us,h1,h2,h0,⟨_,hv⟩,h4⟩:=hh.ok _ hm
 refine (h ?_).on hh hf
 rcases hv with ⟨rfl,hz⟩|⟨g,cap,cur,rfl,_⟩
 ·exact ⟨_,_,by rw [hz]⟩
 ·exact ⟨_,_,rfl⟩
set_option maxHeartbeats 8000000 in
theorem ZIP {gf:FuncId} {lb:List Value} {hk:List HObj} {xs:List Cl} (he:ZAw Tryz.prog gf) (hS:SeqC Tryz.prog gf lb hk (fun x=>dS Col x) xs) (hl:xs.length≤1000000) :
  CallC Tryz.prog 70 ([dX (.slice none 0 0),dX (.func (.func gf) #[] lb.toArray)]++([]:List Value).map dX) hk (fun d hp2=>∃ v,d=dX v/\hp2=Zg v 43 2 Col xs::hk):=⟨fun P0 B w0 hp vs W hh hl0 hv=>by
 refine (callsIn_wide (n:=0)).1 (callsIn_of_wp_marks Tryz.func70 rfl trivial ?_ rfl)
 refine wpIn_wide.2 ?_
 have hf0:=ZBF (m:=11) hl0 hv
 have hsz:vs.toArray.size=2:=by simpa using hl0
 rw [hsz]
 have hnt:Tryz.f70.ntmps=13:=rfl
 rw [hnt]
 simp only [List.length_cons,List.length_nil,Nat.reduceAdd,Nat.reduceSub,List.replicate_succ,List.replicate_zero,List.cons_append,List.nil_append,List.map_nil] at hf0 ⊢
 refine wp_seq (Code.wp_mono ?_ (WC.on (Q:=fun e f q=>e = .normal/\∃ b,f=[dX (.slice none 0 0),dX (.func (.func gf) #[] lb.toArray),dX (.pointer (some ⟨b,0,none⟩)),dX undef,dX (.slice none 0 0),dX undef,dX undef,dX undef,dX undef,dX undef,dX undef,dX undef,dX undef]/\q=[ZO b 31 1 false (dX (.slice none 0 0)),Zg (.slice none 0 0) 43 2 Col []]++(hk++hp)) ?_ hh hf0))
 rotate_left
 ·refine WC.region ?_
  refine ZGJ 43 2 (by decide) Col ?_
  refine ZGy (OpD.t rfl) (ZZ rfl) fun b=>?_
  dsimp only [ZB,z0,z1]
  refine WL.op rfl (SY.assign OpD.x) (WL.nil ?_)
  exact ⟨rfl,b,rfl,rfl⟩
 rintro e a1 w1 ⟨f1,q1,⟨rfl,b,rfl,rfl⟩,hh1,hf1⟩
 show Code.wp _ _ _ _ _
 refine wp_seq ?_
 refine wp_seq (Code.wp_mono ?_ (WC.on (Q:=fun e f q=>e = .normal/\f=[dX (.slice none 0 0),dX (.func (.func gf) #[] lb.toArray),dX (.pointer (some ⟨b,0,none⟩)),dX undef,dX (.slice none 0 0),dX undef,dX (.func (.func gf) #[] lb.toArray),dX undef,dX undef,dX undef,dX undef,dX undef,dX undef]/\q=[ZO b 31 1 false (dX (.slice none 0 0)),Zg (.slice none 0 0) 43 2 Col []]++(hk++hp)) ?_ hh1 hf1))
 rotate_left
 ·refine WC.region ?_
  refine WL.op rfl (SY.move (OpD.t rfl)) (WL.nil ?_)
  exact ⟨rfl,rfl,rfl⟩
 rintro e a2 w2 ⟨f2,q2,⟨rfl,rfl,rfl⟩,hh2,hf2⟩
 show Code.wp _ _ _ _ _
 refine wp_block ?_
 refine ZJJ (hs0:=[_,_]) (hk:=hk) (hp:=hp) (xs:=xs) (D:=fun x=>dS Col x) (apK b) _ (fun x=>[dX (.slice none 0 0),dX (.func (.func gf) #[] lb.toArray),dX (.pointer (some ⟨b,0,none⟩)),dX undef,dX (.slice none 0 0),dP 2 true (dS Col x),dX (.func (.func gf) #[] lb.toArray),dS Col x,dX undef,dX undef,dX undef,dX undef,dX undef]) hh2 hf2 (OpD.t rfl) he hS ⟨_,rfl⟩ (by repeat (first|exact FixF.nil|apply FixF.x)) ?_ ?_ ?_
 ·intro l x q
  refine WR.region rfl (I.WL.alloc ZTL ZEI fun b5=>?_)
  dsimp only [ZB,z0,z1]
  refine I.ZI ZRF rfl (OpD.t rfl) Zy ?_
  dsimp only [ZB,z0,z1]
  exact I.WL.nil ⟨rfl,rfl,rfl⟩
 ·rintro l pre x hs q hlt ⟨sv,rfl⟩
  refine WR.block (WR.region rfl ?_)
  refine I.WL.op rfl (Zd ZOX (OpD.t rfl) (.head _)) ?_
  dsimp only [ZB,z0,z1,List.cons_append,List.nil_append]
  refine I.WL.op rfl (SY.load ZRF (OpD.t rfl)) ?_
  dsimp only [ZB,z0,z1]
  refine I.WL.perm (List.Perm.swap _ _ _) (I.Z1 ZKU (OpD.t rfl) (OpD.t rfl) (fun _=>Zy) (by simp) (by simp) (by decide) (by decide) (by omega) fun v'=>?_)
  dsimp only [ZB,z0,z1]
  refine I.WL.knowRowK (.head _) fun ⟨ad,c,hv'⟩=>?_
  refine I.WL.perm (List.Perm.swap _ _ _) (I.ZAf ZOX (OpD.t rfl) (OpD.t rfl) (ZZ (by rw [hv'];rfl)) (I.WL.nil ?_))
  exact ⟨rfl,_,⟨v',rfl⟩,rfl⟩
 ·rintro k hs w3 ⟨sv,rfl⟩ hh3 hrd
  show Code.wp _ _ _ _ _
  have hf3:Fr (Imm P0 B (Z2 k (.deferred (some []))::([ZO b 31 1 false (dX sv),Zg sv 43 2 Col xs]++(hk++hp)))) w3 { tmps:=a2.tmps,defers:=[] } _:=⟨rfl,hf2.size,hrd⟩
  refine wp_seq (wp_region_lit ?_)
  refine ZBM rfl (Zd ZOX (OpD.t rfl) (.tail _ (.head _))) hh3 hf3 fun a4 w4 hd4 hh4 hf4=>?_
  refine ZBM rfl (SY.assign (OpD.t rfl)) hh4 hf4 fun a5 w5 hd5 hh5 hf5=>?_
  refine wpList_nil ?_
  show Code.wp _ _ _ _ _
  refine wp_ret ?_
  show LeavesInM _ _ _ _ _ _ _ _ _
  rw [hd5,hd4,hf2.defers]
  have hK:w5.heap[k]?=some (.deferred (some [])):=hh5.ok (Z2 k (.deferred (some []))) (by simp)
  refine ⟨by simp,.inl ⟨_,_,rfl,run_takeDeferred hK,_,results_tmp rfl _ _ _,?_⟩⟩
  have hh6:=(Hp.putObj (o':=.deferred none) hh5).drop.drop
  exact ⟨_,dX sv,Zg sv 43 2 Col xs::hk,rfl,⟨sv,rfl,rfl⟩,hh6,hf5.rd 4 _ rfl⟩⟩
theorem ZLX {gf:FuncId} {lb:List Value} {hk:List HObj} {xs:List Cl} (he:ZAw Tryz.prog gf) (hS:SeqC Tryz.prog gf lb hk (fun x=>dS Col x) xs) (hl:xs.length≤1000000) :
  CallC Tryz.prog 40 ([dX (.func (.func gf) #[] lb.toArray)]++([]:List Value).map dX) hk (fun d hp2=>∃ v,d=dX v/\hp2=Zg v 43 2 Col xs::hk):=by
 (refine ZAb Tryz.func40 rfl rfl (fun hp=>?_);simp only [Tryz.ntmps40,List.length_cons,List.length_nil,List.length_append,List.length_map,Nat.reduceAdd,Nat.reduceSub,List.replicate_succ,List.replicate_zero,List.cons_append,List.nil_append,List.map_cons,List.map_nil,List.append_assoc])
 ((repeat' (first|(apply WL.opN;exact yF;dsimp only [ZB,z0,z1])|refine WL.nil ?_|refine ZA fun Kx hK=>?_|(refine hK _ _ ?_;clear hK)|refine WC.region ?_ |  (refine WL.callC (caps:=[]) (ZIP he hS hl) Tryz.call70 OpD.f (by (exact aD)) ?_;rintro d' hp2 ⟨v,rfl,rfl⟩;dsimp only [ZB,z0,z1,List.cons_append,List.nil_append])|refine WC.ret ?_));all_goals (first|((repeat clear hK);(repeat clear Kx))))
 exact ⟨trivial,_,_::hk,rfl,rfl,v,rfl,rfl⟩
theorem ZNW {l:Cx} (G:GoodX l):(ZCl l).length≤32768:=by
 have h:∀ m:Cx,(∀ s∈m,s∈l)->(m.flatMap (ZEw l)).length≤8*m.length:=fun m=>by
  induction m with
  | nil=>intro _;exact Nat.zero_le _
  | cons s m ih =>
   intro hm
   have h1:=ih fun t ht=>hm t (List.mem_cons_of_mem _ ht)
   have h2:=(Zf (G.2.2.1 s (hm s (List.mem_cons_self ..)))).2
   have h3:(ZEw l s).length≤s.length:=by
    unfold ZEw
    split
    ·exact Nat.zero_le _
    ·rw [List.length_map]
     exact Nat.le_trans (List.length_filter_le _ _) (by rw [List.length_range];exact Nat.le_refl _)
   rw [List.flatMap_cons,List.length_append,List.length_cons]
   omega
 have:=h l fun s hs=>hs
 have:=G.1
 unfold ZCl
 omega
end
section
open Go.RowKit

theorem ZQc {K V:Type} {kv:K->Value} {R:Rel V} [Good R] {m:List (K × V)}:(dS (ZH7 kv R) m).Shape 1 false:=ZDD fun _ _ _ h=>by
 obtain ⟨b,us,rfl,_⟩:=h
 rfl
theorem ZQ2 (l:Cx) (G:GoodX l):CallC Tryz.prog 41 ([dS Cpx l]++([]:List Value).map dX) [] (fun d hp2=>∃ v1 v2,d=dX (.func (.func 72) #[] [v1,v2].toArray)/\hp2=[ZAW v1 (dP 1 true (dS Cpx l)),ZAW v2 (dP 1 false (dS (ZH7 kvK RI) (ZF4 l)))]):=by
 (refine ZAb Tryz.func41 rfl rfl (fun hp=>?_);simp only [Tryz.ntmps41,List.length_cons,List.length_nil,List.length_append,List.length_map,Nat.reduceAdd,Nat.reduceSub,List.replicate_succ,List.replicate_zero,List.cons_append,List.nil_append,List.map_cons,List.map_nil,List.append_assoc])
 have c1:=ZLb l G
 ((repeat' (first |  (refine ZFS (d:=dP 1 false (dS (ZH7 kvK RI) (ZF4 l))) 3 rfl fun v2=>?_;dsimp only [z0,z1];refine ZFS (d:=dP 1 true (dS Cpx l)) 1 rfl fun v1=>?_;dsimp only [z0,z1])|(apply WL.opN;exact yF;dsimp only [ZB,z0,z1])|refine WL.nil ?_|refine ZA fun Kx hK=>?_|(refine hK _ _ ?_;clear hK)|refine WC.region ?_ |  (apply WL.alloc ZTK;exact ZZ rfl;(intro b3;dsimp only [ZB,z0,z1])) |  (apply ZI ZJD;exact rfl;exact OpD.t rfl;exact ZQc;dsimp only [ZB,z0,z1])|(apply WL.opN;(focus ((first|(apply SY.call (c1) Tryz.call71;(exact aD))|(apply ZDx;repeat (first|exact ArgsX.nil|(apply ArgsX.cons;exact OpD.t rfl)))|(apply SY.box;(exact oD);(exact hD))|fail);all_goals infer_instance));dsimp only [ZB,z0,z1])|refine WC.ret ?_));all_goals (first|((repeat clear hK);(repeat clear Kx))))
 exact ⟨trivial,_,[_,_],rfl,rfl,v1,v2,rfl,rfl⟩
theorem ZGf (l:Cx) (G:GoodX l):Fn Tryz.prog 21 [dS Cpx l] (dS Cols (Zq l)):=by
 (refine ZG Tryz.func21 rfl rfl ?_;simp only [Tryz.ntmps21,List.length_cons,List.length_nil,Nat.reduceAdd,Nat.reduceSub,List.replicate_succ,List.replicate_zero,List.cons_append,List.nil_append])
 have hfl:=ZNW G
 have hfm:(ZCl l).length≤1000000:=by omega
 have hfM:(ZCl l).length<4611686018427387904:=by omega
 ((repeat' (first|(apply WL.opN;exact yF;dsimp only [ZB,z0,z1])|refine WL.nil ?_|refine ZA fun Kx hK=>?_|(refine hK _ _ ?_;clear hK)|refine WC.region ?_ |  (refine WL.callC (hp1:=[]) (caps:=[]) (ZQ2 l G) Tryz.call41 OpD.f (by (exact aD)) ?_;rintro d' hp2 ⟨v1,v2,rfl,rfl⟩;dsimp only [ZB,z0,z1,List.cons_append,List.nil_append]) |  (refine WL.callC (caps:=[]) (ZLX Tryz.call72 (ZNV l G v1 v2).seq hfm) Tryz.call40 OpD.f (by (exact aD)) ?_;rintro d' hp2 ⟨v,rfl,rfl⟩;dsimp only [ZB,z0,z1,List.cons_append,List.nil_append]) |  (refine ZPF (OpD.t rfl) hfM fun ys hys hso=>?_;obtain rfl:=ZJh G hys hso;dsimp only [ZB,z0,z1])|(apply WL.opN;(focus ((first|(apply SY.box;(exact oD);(exact hD))|fail);all_goals infer_instance));dsimp only [ZB,z0,z1])|refine WC.ret ?_));all_goals (first|((repeat clear hK);(repeat clear Kx))))
 (refine ⟨trivial,_,rfl,?_⟩;exact fD)
theorem ZKf (l:Cx):Fn Tryz.prog 9 [dS Cpx l] (dT [dS Cols (ZLf l).1,dI (ZLf l).2]):=by
 (refine Z7 Tryz.func9 rfl rfl ?_;simp only [Tryz.ntmps9,List.length_cons,List.length_nil,Nat.reduceAdd,Nat.reduceSub,List.replicate_succ,List.replicate_zero,List.cons_append,List.nil_append])
 have c0:=ZBR l
 by_cases h0:ZA8 l=0
 ·have e:ZLf l=(Zq l,0):=if_neg (by omega)
  have c1:=ZGf l (Zr.1 h0)
  rw [e]
  ((repeat' (first|(apply WL.opN;exact yF;dsimp only [ZB,z0,z1])|refine WL.nil ?_|refine ZA fun Kx hK=>?_|(refine hK _ _ ?_;clear hK)|refine WC.region ?_|(apply WL.opN;(focus ((first|(apply SY.call (c0) Tryz.call18;(exact aD))|(apply SY.call (c1) Tryz.call21;(exact aD))|((first|apply SY.move|apply SY.assign|apply SY.neq) <;> (exact oD))|(apply SY.box;(exact oD);(exact hD))|fail);all_goals infer_instance));dsimp only [ZB,z0,z1])|(apply WC.condN;(exact oD);all_goals (intro h;try exact xD))|refine WC.skip ?_|refine WC.ret ?_));all_goals (first|((repeat clear hK);(repeat clear Kx))))
  all_goals first|(exfalso;omega)|(refine ⟨trivial,⟨_,rfl,?_⟩,_,rfl,?_⟩ <;> exact fD)
 ·have e:ZLf l=([],ZA8 l):=if_pos h0
  rw [e]
  ((repeat' (first|(apply WL.opN;exact yF;dsimp only [ZB,z0,z1])|refine WL.nil ?_|refine ZA fun Kx hK=>?_|(refine hK _ _ ?_;clear hK)|refine WC.region ?_|(apply WL.opN;(focus ((first|(apply SY.call (c0) Tryz.call18;(exact aD))|((first|apply SY.move|apply SY.assign|apply SY.neq) <;> (exact oD))|(apply SY.box;(exact oD);(exact hD))|fail);all_goals infer_instance));dsimp only [ZB,z0,z1])|(apply WC.condN;(exact oD);all_goals (intro h;try exact xD))|refine WC.ret ?_|refine ThenD.r ?_));all_goals (first|((repeat clear hK);(repeat clear Kx))))
  all_goals first|(exfalso;omega)|(refine ⟨trivial,⟨_,rfl,?_⟩,_,rfl,?_⟩ <;> exact fD)
end
section
open Go.RowKit

theorem tyBo:TyI Tryz.prog 4 1 false:=⟨by kernel_rfl,Tryz.isAgg4⟩
theorem tzBo:TyZ Tryz.prog 4 (.bool false):=⟨by kernel_rfl⟩
theorem ZHu {P:Program} {ops:Array Oper} {hp:List HObj} {fr:List Dat} {d d0:Dat} {Q:Exit->Act->World->Prop} {rest:List Oper} {P0:Nat->Prop} {B:Nat} {w0 w:World} {a:Act} {ty:TypeId} {ps:String} {af:Array Edge} {x:Operand} {t b n:Nat} {T T2:TypeId} {agg:Bool}
  (hT:TyI P T n agg) (hp0:OpD fr (.tmp t) (dX (.pointer (some ⟨b,0,none⟩)))) (hx:OpD fr x d) (hs:d.Shape n agg) (hh:Hp P0 B w0 (ZO b T2 n agg d0::hp) w) (hf:Fr (Imm P0 B (ZO b T2 n agg d0::hp)) w { tmps:=a.tmps,defers:=[] } fr)
  (k:∀ w',Hp P0 B w0 (ZO b T2 n agg d::hp) w'->Fr (Imm P0 B (ZO b T2 n agg d::hp)) w' { tmps:=a.tmps,defers:=[] } fr->wpList P ops Q rest a w') :
  wpList P ops Q (⟨none,.store T (.tmp t) x,ty,ps,af,none⟩::rest) a w:=by
 obtain ⟨cs,u,c1,c2,c0,c3,c4,c5⟩:=hh.ok (ZO b T2 n agg d0) (by simp)
 have e0:∀ y,a.eval y=({ tmps:=a.tmps,defers:=[] }:Act).eval y:=fun y=>by cases y <;> rfl
 have h1:d.rd (Imm P0 B (ZO b T2 n agg d0::hp)) w (a.eval x):=by rw [e0];exact OpD.ev hx hf
 obtain ⟨cs',k1,k0,k2,k3,k4⟩:=hs _ _ _ h1
 have h2:a.eval (.tmp t) = .pointer (some ⟨b,0,none⟩):=by rw [e0];exact OpD.ev hp0 hf
 have hr:=ZBW (u:=a.eval x) hT.size c1 c2 k1 k2 k3
 have hrun:(execOp a.eval ⟨none,.store T (.tmp t) x,ty,ps,af,none⟩).run P w = .ok .skip (w.setRow b cs'.toArray):=by
  unfold execOp
  simp only [h2,Sem.run_bind,hr,Result.andThen_ok,Sem.run_pure]
 refine wpList_plain rfl fun K hK=>?_
 unfold Oper.wp
 rw [hrun]
 have hgr:w.grownBy (w.setRow b cs'.toArray) (ZO b T2 n agg d0).blk:=ZAH
 have hok:(ZO b T2 n agg d).ok (fun k=>Imm P0 B (ZO b T2 n agg d0::hp) k/\k<w.heap.size) (w.setRow b cs'.toArray) :=
  ⟨cs',a.eval x,setRow_heap w b _ _ _ _ c1,k1,k0,k2,k4,d.grown (d.bound h1) hgr (fun k hk hc=>hc.1.2 _ (by simp) hk)⟩
 exact hK _ _ (k _ (hh.write hgr (.inl rfl) hok) (hf.mono fun _ _ hd=>ZN (o':=ZO b T2 n agg d) hgr (.inl rfl) hd))
set_option maxHeartbeats 8000000 in
theorem ZSv (l:Cx) (G:GoodX l) (x:Cl):CallC Tryz.prog 26 ([dS Cpx l,dS Col x]++([]:List Value).map dX) [] (fun d hp2=>d=dB (decide (x∈ZCl l))/\hp2=[]):=⟨fun P0 B w0 hp vs W hh hl0 hv=>by
 refine (callsIn_wide (n:=0)).1 (callsIn_of_wp_marks Tryz.func26 rfl trivial ?_ rfl)
 refine wpIn_wide.2 ?_
 have hf0:=ZBF (m:=21) hl0 hv
 have hsz:vs.toArray.size=2:=by simpa using hl0
 rw [hsz]
 have hnt:Tryz.f26.ntmps=23:=rfl
 rw [hnt]
 simp only [List.length_cons,List.length_nil,Nat.reduceAdd,Nat.reduceSub,List.replicate_succ,List.replicate_zero,List.cons_append,List.nil_append,List.map_nil] at hf0 hh ⊢
 refine wp_seq (Code.wp_mono ?_ (WC.on (Q:=fun e f q=>e = .normal/\∃ b4,f=[dS Cpx l,dS Col x,dP 1 true (dS Cpx l),dP 2 true (dS Col x),dX (.pointer (some ⟨b4,0,none⟩)),dX undef,dX undef,dX undef,dX undef,dX undef,dX undef,dX undef,dX undef,dX undef,dX undef,dX undef,dX undef,dX undef,dX undef,dX undef,dX undef,dX undef,dX undef]/\q=ZO b4 4 1 false (dX (.bool false))::hp) ?_ hh hf0))
 rotate_left
 ·refine WC.region ?_
  refine WL.op rfl (SY.box (OpD.t rfl) ZAT) ?_
  dsimp only [ZB,z0,z1]
  refine WL.op rfl (SY.box (OpD.t rfl) Zy) ?_
  dsimp only [ZB,z0,z1]
  refine WL.alloc tzBo (ZZ rfl) fun b4=>?_
  dsimp only [ZB,z0,z1]
  exact WL.nil ⟨rfl,b4,rfl,rfl⟩
 rintro e a1 w1 ⟨f1,q1,⟨rfl,b4,rfl,rfl⟩,hh1,hf1⟩
 show Code.wp _ _ _ _ _
 refine wp_seq ?_
 refine wp_seq (Code.wp_mono ?_ (WC.on (Q:=fun e f q=>e = .normal/\∃ v1 v2 v3,f=[dS Cpx l,dS Col x,dP 1 true (dS Cpx l),dX v3,dX (.pointer (some ⟨b4,0,none⟩)),dX undef,dS Cpx l,dX (.func (.func 72) #[] [v1,v2].toArray),dX undef,dX undef,dX undef,dX undef,dX undef,dX undef,dX undef,dX undef,dX undef,dX undef,dX undef,dX undef,dX undef,dX undef,dX undef]/\q=[ZO b4 4 1 false (dX (.bool false)),ZAW v3 (dP 2 true (dS Col x))]++([ZAW v1 (dP 1 true (dS Cpx l)),ZAW v2 (dP 1 false (dS (ZH7 kvK RI) (ZF4 l)))]++hp)) ?_ hh1 hf1))
 rotate_left
 ·refine ZFS (d:=dP 2 true (dS Col x)) 3 rfl fun v3=>?_
  dsimp only [z0,z1]
  refine WC.region ?_
  refine WL.op rfl (SY.load tyC (OpD.t rfl)) ?_
  dsimp only [ZB,z0,z1]
  refine WL.callC (hp1:=[]) (caps:=[]) (ZQ2 l G) Tryz.call41 OpD.f (ArgsD.cons (OpD.t rfl) ArgsD.nil) ?_
  rintro d' hp2 ⟨v1,v2,rfl,rfl⟩
  dsimp only [ZB,z0,z1,List.cons_append,List.nil_append]
  refine WL.perm (hp':=[ZO b4 4 1 false (dX (.bool false)),ZAW v3 (dP 2 true (dS Col x))]++([ZAW v1 (dP 1 true (dS Cpx l)),ZAW v2 (dP 1 false (dS (ZH7 kvK RI) (ZF4 l)))]++hp)) ?_ (WL.nil ⟨rfl,v1,v2,v3,rfl,rfl⟩)
  exact (List.perm_append_comm (l₁:=[_,_]) (l₂:=[_,_])).append_right hp |>.trans ((List.Perm.swap _ _ _))
 rintro e a2 w2 ⟨f2,q2,⟨rfl,v1,v2,v3,rfl,rfl⟩,hh2,hf2⟩
 show Code.wp _ _ _ _ _
 refine wp_block ?_
 refine ZOe (hs0:=[_,_]) (hk:=[_,_]) (hp:=hp) (xs:=ZCl l) (D:=fun x=>dS Col x)
  (fun pre hs=>hs=[ZO b4 4 1 false (dX (.bool false)),ZAW v3 (dP 2 true (dS Col x))]/\x∉pre) (fun pre hs=>hs=[ZO b4 4 1 false (dX (.bool true)),ZAW v3 (dP 2 true (dS Col x))]/\x∈pre) _
  (fun y=>[dA,dA,dA,dX v3,dX (.pointer (some ⟨b4,0,none⟩)),dP 2 true (dS Col y),dA,dX (.func (.func 72) #[] [v1,v2].toArray),dS Col y,dX undef,dX undef,dX undef,dX undef,dX undef,dX undef,dX undef,dX undef,dX undef,dX undef,dX undef,dX undef,dX undef,dX undef]) hh2 hf2 (OpD.t rfl) Tryz.call72 (ZNV l G v1 v2) ⟨rfl,by simp⟩ (by repeat (first|exact FixF.nil|apply FixF.x|apply FixF.a)) ?_ ?_ ?_ ?_
 ·intro l' y q
  refine WR.region rfl (I.WL.alloc ZTL ZEI fun b5=>?_)
  dsimp only [ZB,z0,z1]
  refine I.ZI ZRF rfl (OpD.t rfl) Zy ?_
  dsimp only [ZB,z0,z1]
  exact I.WL.nil ⟨rfl,rfl,rfl⟩
 ·rintro l' pre y hs q hlt ⟨rfl,hn⟩
  have c1:=ZDg x.1 y.1
  have c2:=ZDg x.2 y.2
  refine WR.block (ZSU 3 rfl (.tail _ (.head _)) ?_)
  dsimp only [z0,z1]
  refine WR.seq (WR.region rfl ?_)
  refine I.WL.op rfl (Zc (_gR:=inferInstance) (_gS:=inferInstance) ZBj (OpD.t rfl)) ?_
  dsimp only [ZB,z0,z1]
  refine I.WL.op rfl (SY.load ZJO (OpD.t rfl)) ?_
  dsimp only [ZB,z0,z1]
  refine I.WL.op rfl (Zc (_gR:=inferInstance) (_gS:=inferInstance) ZBj (OpD.t rfl)) ?_
  dsimp only [ZB,z0,z1]
  refine I.WL.op rfl (SY.load ZJO (OpD.t rfl)) ?_
  dsimp only [ZB,z0,z1]
  refine I.WL.op rfl (SY.call c1 Tryz.call35 (ArgsD.cons (OpD.t rfl) (ArgsD.cons (OpD.t rfl) ArgsD.nil))) ?_
  dsimp only [ZB,z0,z1]
  refine I.WL.op rfl (SY.eql (OpD.t rfl) OpD.i) ?_
  dsimp only [ZB,z0,z1]
  refine I.WL.op rfl (SY.move (OpD.t rfl)) ?_
  dsimp only [ZB,z0,z1]
  by_cases h1:ZAB x.1 y.1=0
  ·refine I.ZF (.inl ⟨ZBb rfl rfl rfl (decide_eq_true h1),Zm (_gR:=inferInstance) (_gS:=inferInstance) ZBj (OpD.t rfl)⟩) ?_
   dsimp only [ZB,z0,z1]
   refine I.ZF (.inl ⟨ZBb rfl rfl rfl (decide_eq_true h1),SY.load ZJO (OpD.t rfl)⟩) ?_
   dsimp only [ZB,z0,z1]
   refine I.ZF (.inl ⟨ZBb rfl rfl rfl (decide_eq_true h1),Zm (_gR:=inferInstance) (_gS:=inferInstance) ZBj (OpD.t rfl)⟩) ?_
   dsimp only [ZB,z0,z1]
   refine I.ZF (.inl ⟨ZBb rfl rfl rfl (decide_eq_true h1),SY.load ZJO (OpD.t rfl)⟩) ?_
   dsimp only [ZB,z0,z1]
   refine I.ZF (.inl ⟨ZBb rfl rfl rfl (decide_eq_true h1),SY.call c2 Tryz.call35 (ArgsD.cons (OpD.t rfl) (ArgsD.cons (OpD.t rfl) ArgsD.nil))⟩) ?_
   dsimp only [ZB,z0,z1]
   refine I.ZF (.inl ⟨ZBb rfl rfl rfl (decide_eq_true h1),SY.eql (OpD.t rfl) OpD.i⟩) ?_
   dsimp only [ZB,z0,z1]
   refine I.WL.op rfl (Zn (OpD.t rfl) (decide_eq_true h1) (OpD.t rfl)) ?_
   dsimp only [ZB,z0,z1]
   refine I.WL.nil (ThenD.n (WR.cond (OpD.t rfl) (fun hb=>?_) fun hb=>?_))
   ·have hxy:x=y:=Prod.ext (ZA2.1 h1) (ZA2.1 (of_decide_eq_true hb))
    refine WR.seq (WR.region rfl (I.ZAf tyBo (OpD.t rfl) OpD.x (ZZ rfl) (I.WL.nil (ThenD.n (WR.ret (InBlockD.r ?_))))))
    exact .inr ⟨rfl,_,⟨rfl,by rw [hxy];simp⟩,rfl⟩
   ·have hxy:x≠y:=fun e=>of_decide_eq_false hb (ZA2.2 (by rw [e]))
    exact WR.skip (InBlockD.n (.inl ⟨rfl,_,⟨rfl,by simp [hn,hxy]⟩,rfl⟩))
  ·refine I.ZF (d:=dX undef) (.inr ⟨ZBK rfl rfl rfl (decide_eq_false h1),rfl⟩) ?_
   dsimp only [ZB,z0,z1]
   refine I.ZF (d:=dX undef) (.inr ⟨ZBK rfl rfl rfl (decide_eq_false h1),rfl⟩) ?_
   dsimp only [ZB,z0,z1]
   refine I.ZF (d:=dX undef) (.inr ⟨ZBK rfl rfl rfl (decide_eq_false h1),rfl⟩) ?_
   dsimp only [ZB,z0,z1]
   refine I.ZF (d:=dX undef) (.inr ⟨ZBK rfl rfl rfl (decide_eq_false h1),rfl⟩) ?_
   dsimp only [ZB,z0,z1]
   refine I.ZF (d:=dX undef) (.inr ⟨ZBK rfl rfl rfl (decide_eq_false h1),rfl⟩) ?_
   dsimp only [ZB,z0,z1]
   refine I.ZF (d:=dX undef) (.inr ⟨ZBK rfl rfl rfl (decide_eq_false h1),rfl⟩) ?_
   dsimp only [ZB,z0,z1]
   refine I.WL.op rfl (Zj (OpD.t rfl) (decide_eq_false h1) OpD.b) ?_
   dsimp only [ZB,z0,z1]
   refine I.WL.nil (ThenD.n (WR.cond (OpD.t rfl) (fun hb=>?_) fun hb=>?_))
   ·cases hb
   ·have hxy:x≠y:=fun e=>h1 (ZA2.2 (by rw [e]))
    exact WR.skip (InBlockD.n (.inl ⟨rfl,_,⟨rfl,by simp [hn,hxy]⟩,rfl⟩))
 ·rintro k hs w3 ⟨rfl,hn⟩ hh3 hrd
  show Code.wp _ _ _ _ _
  have hf3:Fr _ w3 { tmps:=a2.tmps,defers:=[] } _:=⟨rfl,hf2.size,hrd⟩
  obtain ⟨hh3',hI⟩:=hh3.perm (List.Perm.swap _ _ _)
  have hf3':=hf3.mono fun d v hd=>d.weak hd fun k hk=>(hI k).1 hk
  refine wp_seq (wp_region_lit ?_)
  refine ZHu (d:=dX (.bool false)) tyBo (OpD.t rfl) OpD.x (ZZ rfl) hh3' hf3' fun w4 hh4 hf4=>?_
  refine wpList_nil ?_
  show Code.wp _ _ _ _ _
  refine wp_ret ?_
  show LeavesInM _ _ _ _ _ _ _ _ _
  rw [hf2.defers]
  have hK:w4.heap[k]?=some (.deferred (some [])):=hh4.ok (Z2 k (.deferred (some []))) (by simp)
  obtain ⟨hh5,_⟩:=hh4.perm (List.Perm.swap _ _ _)
  have hh6:=(Hp.putObj (o':=.deferred none) hh5).drop
  obtain ⟨cs,u,c1,c2,c0,c3,c4,c5⟩:=hh6.ok (ZO b4 4 1 false (dX (.bool false))) (by simp)
  have hcc:=ZAF (I:=fun _=>True) c1 c2 c0 c3 c4 trivial
  have hp0:a2.tmps.getD 4 undef = .pointer (some ⟨b4,0,none⟩):=hf4.rd 4 _ rfl
  refine ⟨by simp,.inl ⟨_,_,rfl,run_takeDeferred hK,_,ZBH tyBo rfl hp0 hcc,?_⟩⟩
  exact ⟨_,dB (decide (x∈ZCl l)),[],rfl,⟨rfl,rfl⟩,hh6.drop.drop.drop.drop,by rw [decide_eq_false hn];exact c5⟩
 ·rintro k pre y t hs w3 hxs ⟨rfl,hm⟩ hh3 hrd
  show LeavesInM _ _ _ _ _ _ _ _ _
  have hf3:Fr _ w3 { tmps:=a2.tmps,defers:=[] } _:=⟨rfl,hf2.size,hrd⟩
  rw [hf2.defers]
  have hK:w3.heap[k]?=some (.deferred (some [])):=hh3.ok (Z2 k (.deferred (some []))) (by simp)
  have hh6:=(Hp.putObj (o':=.deferred none) hh3).drop
  obtain ⟨cs,u,c1,c2,c0,c3,c4,c5⟩:=hh6.ok (ZO b4 4 1 false (dX (.bool true))) (by simp)
  have hcc:=ZAF (I:=fun _=>True) c1 c2 c0 c3 c4 trivial
  have hp0:a2.tmps.getD 4 undef = .pointer (some ⟨b4,0,none⟩):=hf3.rd 4 _ rfl
  have hmem:x∈ZCl l:=by
   rw [hxs]
   rcases List.mem_append.1 hm with h|h
   ·exact List.mem_append_left _ h
   ·rw [List.mem_singleton.1 h];simp
  refine ⟨by simp,.inl ⟨_,_,rfl,run_takeDeferred hK,_,ZBH tyBo rfl hp0 hcc,?_⟩⟩
  exact ⟨_,dB (decide (x∈ZCl l)),[],rfl,⟨rfl,rfl⟩,hh6.drop.drop.drop.drop,by rw [decide_eq_true hmem];exact c5⟩⟩
theorem ZSw (l:Cx) (G:GoodX l) (x:Cl):Fn Tryz.prog 26 [dS Cpx l,dS Col x] (dB (decide (x∈Zq l))):=by
 have e:decide (x∈ZCl l)=decide (x∈Zq l):=decide_eq_decide.2 (ZKg G)
 rw [<- e]
 refine ZL6 (ZSv l G x) fun d hp2 ⟨h1,h2⟩=>?_
 subst h1
 exact FinD.mk fun _ hd=>(hd:_)
end
end Go.Proofs.YtokmalofdapffaaGreat
