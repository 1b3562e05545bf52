/- Part 35: walks by contracts, and plain laws. -/
import Derived.Test.YtekiljakcngcoaaGreatDoorV34
set_option linter.unusedVariables false
set_option linter.unusedSimpArgs false
set_option linter.unusedSectionVars false
set_option maxRecDepth 100000
set_option maxHeartbeats 4000000
namespace Go.Proofs.YtekiljakcngcoaaGreatDoor
section
open Go.RowKit

theorem ZCK:MapT Tryz.prog 64 50 28 (.slice none 0 0):=⟨Tryz.underlying64,fun w=>by kernel_rfl⟩
theorem ZG2:TyI Tryz.prog 64 1 false:=⟨by kernel_rfl,Tryz.isAgg64⟩
theorem ZSv:TyI Tryz.prog 63 1 false:=⟨by kernel_rfl,Tryz.isAgg63⟩
theorem tyLf:TyI Tryz.prog 70 1 false:=⟨by kernel_rfl,Tryz.isAgg70⟩
theorem ZMQ:StrT Tryz.prog 66 2:=⟨fun b off i w hi=>by
 have:i=0\/i=1:=by omega
 rcases this with rfl|rfl <;> go_simp⟩
abbrev ZIi:=List (Vx × Value × List Vx)
abbrev ZQq (bs bm:Nat) (fv:Value) (F:Cx) (M:ZIi):List HObj :=
 [ZAP bs 66 [dX fv,dX (.map (some bm))],Zr fv 28 ZI F,hMC bm kvV M,ZAm ZI M]
structure Bld (L:List Vx) (car:Vx->List Vx) (M:ZIi):Prop where
 nodup:(M.map (·.1)).Nodup
 mem:∀ v,v∈M.map (·.1)↔v∈L
 car:∀ p∈M,p.2.2=car p.1
 ok:∀ p∈M,okV p.1
theorem Bld.nil (car:Vx->List Vx):Bld [] car []:=⟨by simp,by simp,by simp,by simp⟩
theorem Bld.put {L:List Vx} {car:Vx->List Vx} {M:ZIi} (h:Bld L car M) {v:Vx} (hv:okV v) (cv:Value):Bld (L++[v]) car (ZBr M v (cv,car v)):=by
 have hk:=ZPU M v (cv,car v)
 refine ⟨?_,fun x=>?_,fun p hp=>?_,fun p hp=>?_⟩
 ·rw [hk]
  split
  ·exact h.nodup
  ·rename_i hn
   rw [List.nodup_append]
   exact ⟨h.nodup,by simp,fun a ha b hb e=>hn (by rw [<- List.mem_singleton.1 hb,<- e];exact ha)⟩
 ·rw [hk,List.mem_append,List.mem_singleton,<- h.mem]
  split
  ·rename_i hm
   constructor
   ·exact .inl
   ·rintro (h|rfl)
    ·exact h
    ·exact hm
  ·rw [List.mem_append,List.mem_singleton]
 ·rcases ZIT hp with rfl|hp
  ·rfl
  ·exact h.car p hp
 ·rcases ZIT hp with rfl|hp
  ·exact hv
  ·exact h.ok p hp
theorem ZJ8 {F:Cx} {x:List Vx}:(F++[x]).flatten=F.flatten++x:=by simp
theorem ZQr {F:Cx} {x:List Vx} {i:Nat} (h:i<x.length):F.flatten++x.take (i+1)=(F.flatten++x.take i)++[x[i]]:=by
 rw [List.take_succ_eq_append_getElem h,List.append_assoc]
abbrev ZQs (bs bm:Nat) (fv:Value) (F:Cx) (M:ZIi) (v3 v4 v5:Value) (s:List Vx) (p:Nat->Prop) (L:Nat->Int):List HObj :=
 [ZAP bs 66 [dX fv,dX (.map (some bm))],Zr fv 28 ZI F,hMC bm kvV M,ZAm ZI M,ZAI v3 (dP 1 false (dX (.pointer (some ⟨bs,0,none⟩)))),ZAI v4 (dP 1 false (dS ZI s)),ZAI v5 (dP 1 false (ZQz p L))]
theorem ZFq:∀ n:Fin 9,ishl 1 (n.val:Int)=((2 ^ n.val:Nat):Int):=by decide +kernel
theorem ZHZ {P:Program} {ops:Array Oper} {hp:List HObj} {fr:List Dat} {dst:Option Tmp} {ty:TypeId} {ps:String} {af:Array Edge} {g:Option (Nat × Bool)} {T T2:TypeId} {x y:Operand} {p q c:Int} (h:ishl p q=c) (h0:0≤q) (hx:OpD fr x (dI p)) (hy:OpD fr y (dI q)):SY P ops hp ⟨dst,.binOp .shl T x y T2,ty,ps,af,g⟩ fr (dI c):=h ▸ SY.shl hx hy h0
theorem ZHa {P:Program} {ops:Array Oper} {hp:List HObj} {fr:List Dat} {dst:Option Tmp} {ty:TypeId} {ps:String} {af:Array Edge} {g:Option (Nat × Bool)} {T T2:TypeId} {x y:Operand} {p q c:Int} (h:p-q=c) (h0 : -9223372036854775808≤c/\c≤9223372036854775807) (hx:OpD fr x (dI p)) (hy:OpD fr y (dI q)):SY P ops hp ⟨dst,.binOp .sub T x y T2,ty,ps,af,g⟩ fr (dI c):=h ▸ SY.sub hx hy (h.symm ▸ h0)
theorem ZMH {a b c d x y z w:HObj} {hp:List HObj}:(a::b::c::d::x::y::z::w::hp).Perm (x::y::z::w::a::b::c::d::hp):=by
 have h:(([a,b,c,d]++[x,y,z,w])++hp).Perm (([x,y,z,w]++[a,b,c,d])++hp):=List.Perm.append_right _ List.perm_append_comm
 simpa using h
theorem ZPK {a b c d:HObj} {hp:List HObj}:(a::b::c::d::hp).Perm (c::d::a::b::hp):=by
 have h:(([a,b]++[c,d])++hp).Perm (([c,d]++[a,b])++hp):=List.Perm.append_right _ List.perm_append_comm
 simpa using h
def divH (bs bm:Nat) (v3 v4 v5:Value) (s:List Vx) (p:Nat->Prop) (L:Nat->Int) (car:Vx->List Vx) (F:Cx) (pre:List (List Nat)) (hs:List HObj):Prop :=
 ∃ fv M,Bld (F++pre.map (Z5 L s)).flatten car M/\hs=ZQs bs bm fv (F++pre.map (Z5 L s)) M v3 v4 v5 s p L
set_option maxHeartbeats 16000000 in
theorem ZLk (bs bm:Nat) (fv0:Value) (F0:Cx) (M0:ZIi) (s:List Vx) (p:Nat->Prop) (L:Nat->Int) (car:Vx->List Vx) (hs0:0<s.length) (hs5:s.length≤5) (hF:F0.length≤100000) (hB:Bld F0.flatten car M0)
  (hpl:∀ bl∈ZCD (2 ^ s.length-1),∀ i,i<s.length->p (ZBE bl 0 (fun _=>0) i))
  (hbl:∀ bl∈ZCD (2 ^ s.length-1),∀ b∈bl,b<1048576)
  (hsn:∀ bl∈ZCD (2 ^ s.length-1),∀ i,i<s.length->ZBE bl 0 (fun _=>0) i<1048576)
  (hcar:∀ bl∈ZCD (2 ^ s.length-1),∀ (i:Nat) (h:i<(Z5 L s bl).length),okV (Z5 L s bl)[i]/\car (Z5 L s bl)[i]=atB s (ZBE bl 0 (fun _=>0) i)) :
  CallC Tryz.prog 27 ([dX (.pointer (some ⟨bs,0,none⟩)),dS ZI s,ZQz p L]++([]:List Value).map dX) (ZQq bs bm fv0 F0 M0)
   (fun _ hp2=>∃ fv M,Bld (F0++(ZCD (2 ^ s.length-1)).map (Z5 L s)).flatten car M/\hp2=ZQq bs bm fv (F0++(ZCD (2 ^ s.length-1)).map (Z5 L s)) M):=⟨fun P0 B w0 hp vs W hh hl0 hv=>by
 refine (callsIn_wide (n:=0)).1 (callsIn_of_wp_marks Tryz.func27 rfl trivial ?_ rfl)
 refine wpIn_wide.2 ?_
 have hf0:=ZBI (m:=49) hl0 hv
 have hsz:vs.toArray.size=3:=by simpa using hl0
 rw [hsz]
 have hnt:Tryz.f27.ntmps=52:=rfl
 rw [hnt]
 simp only [List.length_cons,List.length_nil,Nat.reduceAdd,Nat.reduceSub,List.replicate_succ,List.replicate_zero,List.cons_append,List.nil_append,List.map_nil] at hf0 hh ⊢
 have hpow:(2 ^ s.length-1:Nat)<32:=by
  have:s.length=1\/s.length=2\/s.length=3\/s.length=4\/s.length=5:=by omega
  rcases this with h|h|h|h|h <;> rw [h] <;> decide
 have hpow0:(2 ^ s.length-1:Nat)≠0:=by
  have:2 ^ 1≤2 ^ s.length:=Nat.pow_le_pow_right (by decide) hs0
  omega
 have hshl:=ZFq ⟨s.length,by omega⟩
 simp only at hshl
 refine wp_seq (Code.wp_mono ?_ (WC.on (Q:=fun e f q=>e = .normal/\f=[dX (.pointer (some ⟨bs,0,none⟩)),dS ZI s,ZQz p L,dP 1 false (dX (.pointer (some ⟨bs,0,none⟩))),dP 1 false (dS ZI s),dP 1 false (ZQz p L)]++List.replicate 46 (dX undef)/\q=ZQq bs bm fv0 F0 M0++hp) ?_ hh hf0))
 rotate_left
 ·((repeat' (first|((first|apply WL.opN|apply WD.opN);exact yF;dsimp only [ZA,z0,z1])|refine WL.nil ?_|refine WD.nil ?_|refine ZC fun Kx hK=>?_|(refine hK _ _ ?_;clear hK)|(refine Kont.skip ?_;clear hK)|refine WC.region ?_|(apply WC.draw;kernel_rfl;kernel_rfl)|((first|apply ZO|apply ZM);(exact eD);exact OpD.t rfl;(exact oD);(intro _;exact hD);(exact (by simp));(exact (by simp));(first|exact ⟨by decide,by decide⟩|skip);decide;(exact lD);(intro _;dsimp only [ZA,z0,z1]);all_goals (try infer_instance))|((first|apply WL.appK|apply WL.app1);(exact eD);exact OpD.t rfl;(exact oD);decide;(exact lD);(intro _;dsimp only [ZA,z0,z1]);all_goals (try infer_instance))|((apply (WL.perm (List.Perm.swap _ _ _));(first|apply ZO|apply ZM);(exact eD);exact OpD.t rfl;(exact oD);(intro _;exact hD);(exact (by simp));(exact (by simp));(first|exact ⟨by decide,by decide⟩|skip);decide;(exact lD);(intro _;dsimp only [ZA,z0,z1]);all_goals (try infer_instance)))|((apply (WL.perm (List.Perm.swap _ _ _));(first|apply WL.appK|apply WL.app1);(exact eD);exact OpD.t rfl;(exact oD);decide;(exact lD);(intro _;dsimp only [ZA,z0,z1]);all_goals (try infer_instance)))|(apply ZG;(exact tD);rfl;(exact oD);(exact hD);dsimp only [ZA,z0,z1])|(apply ZT;(exact tD);rfl;(exact oD);(exact hD);dsimp only [ZA,z0,z1])|(apply ZU;(exact tD);rfl;(exact oD);(exact hD);dsimp only [ZA,z0,z1])|((first|apply WL.opN|apply WD.opN);(focus ((first|((first|apply SY.move|apply SY.assign|apply SY.lss) <;> (exact oD))|((first|apply SY.add|apply SY.sub) <;> first|exact oD|omega)|((first|apply SY.shl) <;> first|exact oD|assumption|omega)|(apply SY.load;(exact tD);(exact oD))|(apply ZJ;(exact tD);(exact oD);(exact (by simp)))|(apply SY.len;(exact oD);(exact nD);(exact uD))|(apply ZV;exact OpD.t rfl;(first|exact .head _|exact .tail _ (.head _));(exact uD))|(apply Zf;exact OpD.t rfl;(first|exact .head _|exact .tail _ (.head _));(exact uD))|(apply Zi;(exact eD);(exact oD);(exact oD);exact kD)|(apply SY.ix;(exact eD);(exact oD);(exact oD);exact kD)|(first|(apply SY.fld0 vxT <;> (exact oD))|(apply SY.fld1 vxT <;> (exact oD)))|(apply Zb ZAA;exact OpD.t rfl)|(apply SY.buildE;(exact eD);((try simp only [List.map_cons,List.map_nil]);(repeat (first|exact ZR|(apply ZQ;(first|exact OpD.t rfl|exact OpD.i|exact OpD.b|exact OpD.tle rfl (by first|exact ZD|exact ZB (by decide))|exact ⟨ZD⟩|exact ⟨ZB (by decide)⟩)))));rfl;rfl;decide;(intro _;exact Zo);(exact (by simp)))|(apply SY.build1';(exact eD);((try simp only [List.map_cons,List.map_nil]);(repeat (first|exact ZR|(apply ZQ;(first|exact OpD.t rfl|exact OpD.i|exact OpD.b|exact OpD.tle rfl (by first|exact ZD|exact ZB (by decide))|exact ⟨ZD⟩|exact ⟨ZB (by decide)⟩)))));rfl;rfl;(intro _;first|exact Zq|exact Zv|exact Zt|exact shape_B);(exact (by simp)))|(apply SY.box;(exact oD);(exact hD))|fail);all_goals infer_instance));dsimp only [ZA,z0,z1])|(apply WC.condT;(exact oD);(with_reducible rfl))|(apply ZK;(exact oD);(with_reducible rfl))|(apply ZE;(exact oD);all_goals (intro h;try exact xD))|(apply WC.condN;(exact oD);all_goals (intro h;try exact xD))|(apply WC.condNB;(exact oD);all_goals (intro h;try exact xD))|(apply WC.cond;(exact oD);all_goals (intro h;try exact xD))|refine WC.skip ?_|refine WC.ret ?_|refine WC.exit ?_|refine WC.block ?_|refine ThenD.n ?_|refine ThenD.r ?_|refine ThenD.x ?_|refine InBlockD.x ?_|refine InBlockD.n ?_|refine InBlockD.r ?_|refine ZL (by decide) ?_));all_goals (first|refine WC.id ?_|refine WL.id ?_|((repeat clear hK);(repeat clear Kx))))
  exact ⟨rfl,rfl,rfl⟩
 rintro e a1 w1 ⟨f1,q1,⟨rfl,rfl,rfl⟩,hh1,hf1⟩
 show Code.wp _ _ _ _ _
 simp only [List.replicate_succ,List.replicate_zero,List.cons_append,List.nil_append] at hf1 hh1
 refine wp_seq (Code.wp_mono ?_ (WC.on (Q:=fun e f q=>e = .normal/\∃ v3 v4 v5 vr,f=[dX (.pointer (some ⟨bs,0,none⟩)),dS ZI s,ZQz p L,dX v3,dX v4,dX v5,dX undef,dX undef,dX undef,dX undef,dS ZI s,dI (s.length:Int),dI ((2 ^ s.length:Nat):Int),dI ((2 ^ s.length-1:Nat):Int),dX (.func (.func 77) #[] [vr].toArray)]++List.replicate 37 (dX undef)
   /\ q=ZQs bs bm fv0 F0 M0 v3 v4 v5 s p L++([ZAI vr (dP 1 false (dI ((2 ^ s.length-1:Nat):Int)))]++hp)) ?_ hh1 hf1))
 rotate_left
 ·((repeat' (first|((first|apply WL.opN|apply WD.opN);exact yF;dsimp only [ZA,z0,z1])|refine WL.nil ?_|refine WD.nil ?_|refine ZC fun Kx hK=>?_|(refine hK _ _ ?_;clear hK)|(refine Kont.skip ?_;clear hK)|refine WC.region ?_|(apply WC.draw;kernel_rfl;kernel_rfl) |  (refine ZAT (hp1:=[]) (caps:=[]) (ZGc (2 ^ s.length-1)) Tryz.call46 OpD.f (by (exact aD)) ?_;rintro d' hp2 ⟨vr,rfl,rfl⟩;dsimp only [ZA,z0,z1,List.cons_append,List.nil_append];refine ZNa 5 rfl fun v5=>?_;refine ZNa 4 rfl fun v4=>?_;refine ZNa 3 rfl fun v3=>?_;dsimp only [z0,z1];refine WL.perm ZMH ?_)|((first|apply ZO|apply ZM);(exact eD);exact OpD.t rfl;(exact oD);(intro _;exact hD);(exact (by simp));(exact (by simp));(first|exact ⟨by decide,by decide⟩|skip);decide;(exact lD);(intro _;dsimp only [ZA,z0,z1]);all_goals (try infer_instance))|((first|apply WL.appK|apply WL.app1);(exact eD);exact OpD.t rfl;(exact oD);decide;(exact lD);(intro _;dsimp only [ZA,z0,z1]);all_goals (try infer_instance))|((apply (WL.perm (List.Perm.swap _ _ _));(first|apply ZO|apply ZM);(exact eD);exact OpD.t rfl;(exact oD);(intro _;exact hD);(exact (by simp));(exact (by simp));(first|exact ⟨by decide,by decide⟩|skip);decide;(exact lD);(intro _;dsimp only [ZA,z0,z1]);all_goals (try infer_instance)))|((apply (WL.perm (List.Perm.swap _ _ _));(first|apply WL.appK|apply WL.app1);(exact eD);exact OpD.t rfl;(exact oD);decide;(exact lD);(intro _;dsimp only [ZA,z0,z1]);all_goals (try infer_instance)))|(apply ZG;(exact tD);rfl;(exact oD);(exact hD);dsimp only [ZA,z0,z1])|(apply ZT;(exact tD);rfl;(exact oD);(exact hD);dsimp only [ZA,z0,z1])|(apply ZU;(exact tD);rfl;(exact oD);(exact hD);dsimp only [ZA,z0,z1])|((first|apply WL.opN|apply WD.opN);(focus ((first|(exact ZHZ hshl (by omega) OpD.i (OpD.t rfl))|(refine ZHa (c:=((2 ^ s.length-1:Nat):Int)) (by omega) (by omega) (OpD.t rfl) OpD.i)|(apply SY.load;exact tyLf;exact OpD.t rfl)|((first|apply SY.move|apply SY.assign|apply SY.lss) <;> (exact oD))|((first|apply SY.add|apply SY.sub) <;> first|exact oD|omega)|((first|apply SY.shl) <;> first|exact oD|assumption|omega)|(apply SY.load;(exact tD);(exact oD))|(apply ZJ;(exact tD);(exact oD);(exact (by simp)))|(apply SY.len;(exact oD);(exact nD);(exact uD))|(apply ZV;exact OpD.t rfl;(first|exact .head _|exact .tail _ (.head _));(exact uD))|(apply Zf;exact OpD.t rfl;(first|exact .head _|exact .tail _ (.head _));(exact uD))|(apply Zi;(exact eD);(exact oD);(exact oD);exact kD)|(apply SY.ix;(exact eD);(exact oD);(exact oD);exact kD)|(first|(apply SY.fld0 vxT <;> (exact oD))|(apply SY.fld1 vxT <;> (exact oD)))|(apply Zb ZAA;exact OpD.t rfl)|(apply SY.buildE;(exact eD);((try simp only [List.map_cons,List.map_nil]);(repeat (first|exact ZR|(apply ZQ;(first|exact OpD.t rfl|exact OpD.i|exact OpD.b|exact OpD.tle rfl (by first|exact ZD|exact ZB (by decide))|exact ⟨ZD⟩|exact ⟨ZB (by decide)⟩)))));rfl;rfl;decide;(intro _;exact Zo);(exact (by simp)))|(apply SY.build1';(exact eD);((try simp only [List.map_cons,List.map_nil]);(repeat (first|exact ZR|(apply ZQ;(first|exact OpD.t rfl|exact OpD.i|exact OpD.b|exact OpD.tle rfl (by first|exact ZD|exact ZB (by decide))|exact ⟨ZD⟩|exact ⟨ZB (by decide)⟩)))));rfl;rfl;(intro _;first|exact Zq|exact Zv|exact Zt|exact shape_B);(exact (by simp)))|(apply SY.box;(exact oD);(exact hD))|fail);all_goals infer_instance));dsimp only [ZA,z0,z1])|(apply WC.condT;(exact oD);(with_reducible rfl))|(apply ZK;(exact oD);(with_reducible rfl))|(apply ZE;(exact oD);all_goals (intro h;try exact xD))|(apply WC.condN;(exact oD);all_goals (intro h;try exact xD))|(apply WC.condNB;(exact oD);all_goals (intro h;try exact xD))|(apply WC.cond;(exact oD);all_goals (intro h;try exact xD))|refine WC.skip ?_|refine WC.ret ?_|refine WC.exit ?_|refine WC.block ?_|refine ThenD.n ?_|refine ThenD.r ?_|refine ThenD.x ?_|refine InBlockD.x ?_|refine InBlockD.n ?_|refine InBlockD.r ?_|refine ZL (by decide) ?_));all_goals (first|refine WC.id ?_|refine WL.id ?_|((repeat clear hK);(repeat clear Kx))))
  exact ⟨rfl,_,_,_,_,rfl,rfl⟩
 rintro e a2 w2 ⟨f2,q2,⟨rfl,v3,v4,v5,vr,rfl,rfl⟩,hh2,hf2⟩
 show Code.wp _ _ _ _ _
 simp only [List.replicate_succ,List.replicate_zero,List.cons_append,List.nil_append] at hf2 hh2
 refine wp_block ?_
 refine ZEw (hs0:=ZQs bs bm fv0 F0 M0 v3 v4 v5 s p L) (hk:=[ZAI vr (dP 1 false (dI ((2 ^ s.length-1:Nat):Int)))]) (hp:=hp) (xs:=ZCD (2 ^ s.length-1)) (D:=fun bl=>dIf (bl∈ZCD (2 ^ s.length-1)) (dS ZCC (ZAa bl))) (divH bs bm v3 v4 v5 s p L car F0) _
  (fun bl=>[dX (.pointer (some ⟨bs,0,none⟩)),dA,dA,dX v3,dX v4,dX v5,dIf (bl∈ZCD (2 ^ s.length-1)) (dS ZCC (ZAa bl)),dX undef,dX undef,dX undef,dA,dX (.int .i64 (s.length:Int)),dX (.int .i64 ((2 ^ s.length:Nat):Int)),dX (.int .i64 ((2 ^ s.length-1:Nat):Int)),dX (.func (.func 77) #[] [vr].toArray),dIf (bl∈ZCD (2 ^ s.length-1)) (dS ZCC (ZAa bl)),dX undef,dX undef,dX undef,dX undef,dX undef,dX undef,dX undef,dX undef,dX undef,dX undef,dX undef,dX undef,dX undef,dX undef,dX undef,dX undef,dX undef,dX undef,dX undef,dX undef,dX undef,dX undef,dX undef,dX undef,dX undef,dX undef,dX undef,dX undef,dX undef,dX undef,dX undef,dX undef,dX undef,dX undef,dX undef,dX undef]) hh2 hf2 (OpD.t rfl) Tryz.call77 (ZPH (2 ^ s.length-1) hpow0 hpow vr) ⟨fv0,M0,by simpa using hB,by simp⟩ (by repeat (first|exact FixF.nil|apply FixF.x|apply FixF.a)) ?_ ?_ ?_
 ·intro l bl q
  refine WR.region rfl (I.WL.op rfl (SY.assign (OpD.t rfl)) (I.WL.nil ⟨rfl,rfl,rfl⟩))
 ·rintro l pre bl hs q hlt ⟨fv,M,hB1,rfl⟩
  refine ZKU (t:=15) rfl (fun _ _ _ h=>h.1) fun hmem=>?_
  rw [ZLh hmem]
  have hpre:(F0++pre.map (Z5 L s)).length≤1000000:=by
   have:=ZFI s.length hs5
   simp;omega
  refine WR.mono (Q:=fun e _ q'=>e = .normal/\∃ fv' M',Bld ((F0++pre.map (Z5 L s))++[Z5 L s bl]).flatten car M'/\q'=ZQs bs bm fv' ((F0++pre.map (Z5 L s))++[Z5 L s bl]) M' v3 v4 v5 s p L++q) ?_ (fun e f p ⟨he,fv',M',hB',hq⟩=>⟨he,_,⟨fv',M',by rw [List.map_append,List.map_cons,List.map_nil,<- List.append_assoc];exact hB',rfl⟩,by rw [List.map_append,List.map_cons,List.map_nil,<- List.append_assoc];exact hq⟩)
  generalize F0++pre.map (Z5 L s)=F at *
  have hbb:=hbl bl hmem
  have hss:=hsn bl hmem
  have hpp:=hpl bl hmem
  have hcc:=hcar bl hmem
  refine WR.perm (List.Perm.swap _ _ _) ?_
  refine WR.block (ZLO 3 rfl (.tail _ (.tail _ (.tail _ (.tail _ (.head _))))) (ZLO 4 rfl (.tail _ (.tail _ (.tail _ (.tail _ (.tail _ (.head _)))))) (ZLO 5 rfl (.tail _ (.tail _ (.tail _ (.tail _ (.tail _ (.tail _ (.head _))))))) ?_)))
  dsimp only [z0,z1]
  (repeat' (first |  (refine WR.drawW (β:=Value) 7 (fun v'=>Zr v' 28 ZI (F++[Z5 L s bl])::ZAP bs 66 [dX fv,dX (.map (some bm))]::hMC bm kvV M::ZAm ZI M::ZAI v3 (dP 1 false (dX (.pointer (some ⟨bs,0,none⟩))))::ZAI v4 (dP 1 false (dS ZI s))::ZAI v5 (dP 1 false (ZQz p L))::q) (fun v'=>dX v') _ rfl (by kernel_rfl) (by kernel_rfl) rfl ?_;simp only [List.take_succ_cons,List.take_zero,List.drop_succ_cons,List.drop_zero])|((first|apply I.WL.opN|apply WD.opN);exact yF;dsimp only [ZA,z0,z1])|refine I.WL.nil ?_|refine ZB4 fun Kx hK=>?_|(refine hK _ _ ?_;clear hK)|refine WR.region rfl ?_|((first|apply I.WL.opN|apply WD.opN);(focus ((first|(apply SY.load;exact tyLf;exact OpD.t rfl)|(apply SY.call (ZOg p L s bl (by omega) hbb hpp) Tryz.call48;(exact aD))|fail);all_goals infer_instance));dsimp only [ZA,z0,z1])))
  (repeat' (first|refine WDs.nil ?_|(apply WDs.op;(focus (intro c;apply SYG.yes;(exact Zc rfl);((first|(apply SY.load;exact ZSv;exact OpD.t rfl)|(exact ZAz (OpD.t rfl))|(refine ZAU ZMQ (OpD.t rfl) (by decide))|(refine Z1 ZIn (OpD.t rfl) (HH.mem (.tail _ (.head _)) (fun _=>.tail _ (.head _))) rfl)|((first|apply SY.move|apply SY.assign|apply SY.lss) <;> (exact oD))|((first|apply SY.add|apply SY.sub) <;> first|exact oD|omega)|((first|apply SY.shl) <;> first|exact oD|assumption|omega)|(apply SY.load;(exact tD);(exact oD))|(apply ZJ;(exact tD);(exact oD);(exact (by simp)))|(apply SY.len;(exact oD);(exact nD);(exact uD))|(apply ZV;exact OpD.t rfl;(first|exact .head _|exact .tail _ (.head _));(exact uD))|(apply Zf;exact OpD.t rfl;(first|exact .head _|exact .tail _ (.head _));(exact uD))|(apply Zi;(exact eD);(exact oD);(exact oD);exact kD)|(apply SY.ix;(exact eD);(exact oD);(exact oD);exact kD)|(first|(apply SY.fld0 vxT <;> (exact oD))|(apply SY.fld1 vxT <;> (exact oD)))|(apply Zb ZAA;exact OpD.t rfl)|(apply SY.buildE;(exact eD);((try simp only [List.map_cons,List.map_nil]);(repeat (first|exact ZR|(apply ZQ;(first|exact OpD.t rfl|exact OpD.i|exact OpD.b|exact OpD.tle rfl (by first|exact ZD|exact ZB (by decide))|exact ⟨ZD⟩|exact ⟨ZB (by decide)⟩)))));rfl;rfl;decide;(intro _;exact Zo);(exact (by simp)))|(apply SY.build1';(exact eD);((try simp only [List.map_cons,List.map_nil]);(repeat (first|exact ZR|(apply ZQ;(first|exact OpD.t rfl|exact OpD.i|exact OpD.b|exact OpD.tle rfl (by first|exact ZD|exact ZB (by decide))|exact ⟨ZD⟩|exact ⟨ZB (by decide)⟩)))));rfl;rfl;(intro _;first|exact Zq|exact Zv|exact Zt|exact shape_B);(exact (by simp)))|(apply SY.box;(exact oD);(exact hD))|fail);all_goals infer_instance)));dsimp only [ZA,z0,z1])))
  refine ⟨SW.app1 ZDz (OpD.t rfl) (OpD.t rfl) (by decide) (by simp;omega),fun v'=>?_⟩
  dsimp only [ZA,z0,z1]
  refine I.ZB0 (.head _) fun ⟨ad,c,hv'⟩=>?_
  have hxl:(Z5 L s bl).length=s.length:=ZBO L s bl
  (repeat' (first|((first|apply I.WL.opN|apply WD.opN);exact yF;dsimp only [ZA,z0,z1])|refine I.WL.nil ?_|refine ZB4 fun Kx hK=>?_|(refine hK _ _ ?_;clear hK)|refine WR.region rfl ?_ |  (refine I.WL.perm (List.Perm.swap _ _ _) (I.ZB3 ZIn (OpD.t rfl) (OpD.t rfl) (ZN (by rw [hv'];rfl)) (by simp) ?_);dsimp only [ZA,z0,z1,Nat.add_zero])|((first|apply I.WL.opN|apply WD.opN);(focus ((first|(exact ZAz (OpD.t rfl))|(refine ZAU ZMQ (OpD.t rfl) (by decide))|(apply SY.call (ZGl s.length bl (by omega) hbb) Tryz.call54;(exact aD))|(apply SY.len;(exact oD);(exact nD);(exact uD))|fail);all_goals infer_instance));dsimp only [ZA,z0,z1])|refine WR.block ?_))
  rw [ZEr]
  (refine WR.loopU (X:=Nat × ZIi) (fun x=>[(35,dI (x.1:Int)),(8,dA),(9,dA),(36,dA),(37,dA),(38,dA),(39,dA),(40,dA),(41,dA),(42,dA),(43,dA),(44,dA),(45,dA),(46,dA),(47,dA),(48,dA),(49,dA),(50,dA),(51,dA)]) (fun x=>(ZAP bs 66 [dX v',dX (.map (some bm))]::Zr v' 28 ZI (F++[Z5 L s bl])::hMC bm kvV x.2::ZAm ZI x.2::ZAI v3 (dP 1 false (dX (.pointer (some ⟨bs,0,none⟩))))::ZAI v4 (dP 1 false (dS ZI s))::ZAI v5 (dP 1 false (ZQz p L))::q)) (fun x=>s.length-x.1) (fun x=>x.1≤s.length/\Bld (F.flatten++(Z5 L s bl).take x.1) car x.2) (0,M) ?start ?frame0 ?objs0 ?round)
  case start=>exact ⟨Nat.zero_le _,by simpa using hB1⟩
  case frame0=>((try dsimp only [Za,z0,z1]);repeat (first|exact LeF.nil|refine ZF (k:=?_)))
  case objs0=>rfl
  case round =>
   rintro ⟨i,M1⟩ ⟨g1,g2⟩
   simp only at g1 g2
   dsimp only [Za,z0,z1]
   by_cases hi:i<s.length
   ·have hix:i<(Z5 L s bl).length:=by omega
    obtain ⟨c1,c2⟩:=hcc i hix
    ((repeat' (first |  (apply WR.drawTail 11;kernel_rfl;kernel_rfl;rfl;simp only [List.take_succ_cons,List.take_zero,List.drop_succ_cons,List.drop_zero])|(refine WRd.nil ?_)|(apply ZBn rfl;(focus (intro c hcc;apply SYG.yes;(exact Zc rfl);((first|(refine ZLB elI (OpD.t rfl) (OpD.t rfl) hi)|(apply SY.load;exact ZSv;exact OpD.t rfl)|(exact ZAz (OpD.t rfl))|(refine ZAU ZMQ (OpD.t rfl) (by decide))|(refine Z1 ZG2 (OpD.t rfl) (.head _) rfl)|(refine Zi (R:=RV) (_gR:=inferInstance) elV (OpD.t rfl) (OpD.t rfl) hix)|(apply SY.call (ZKk s (ZBE bl 0 (fun _=>0) i) (by omega) (hss i hi)) Tryz.call30;(exact aD))|((first|apply SY.move|apply SY.assign|apply SY.lss) <;> (exact oD))|((first|apply SY.add|apply SY.sub) <;> first|exact oD|omega)|((first|apply SY.shl) <;> first|exact oD|assumption|omega)|(apply SY.load;(exact tD);(exact oD))|(apply ZJ;(exact tD);(exact oD);(exact (by simp)))|(apply SY.len;(exact oD);(exact nD);(exact uD))|(apply ZV;exact OpD.t rfl;(first|exact .head _|exact .tail _ (.head _));(exact uD))|(apply Zf;exact OpD.t rfl;(first|exact .head _|exact .tail _ (.head _));(exact uD))|(apply Zi;(exact eD);(exact oD);(exact oD);exact kD)|(apply SY.ix;(exact eD);(exact oD);(exact oD);exact kD)|(first|(apply SY.fld0 vxT <;> (exact oD))|(apply SY.fld1 vxT <;> (exact oD)))|(apply Zb ZAA;exact OpD.t rfl)|(apply SY.buildE;(exact eD);((try simp only [List.map_cons,List.map_nil]);(repeat (first|exact ZR|(apply ZQ;(first|exact OpD.t rfl|exact OpD.i|exact OpD.b|exact OpD.tle rfl (by first|exact ZD|exact ZB (by decide))|exact ⟨ZD⟩|exact ⟨ZB (by decide)⟩)))));rfl;rfl;decide;(intro _;exact Zo);(exact (by simp)))|(apply SY.build1';(exact eD);((try simp only [List.map_cons,List.map_nil]);(repeat (first|exact ZR|(apply ZQ;(first|exact OpD.t rfl|exact OpD.i|exact OpD.b|exact OpD.tle rfl (by first|exact ZD|exact ZB (by decide))|exact ⟨ZD⟩|exact ⟨ZB (by decide)⟩)))));rfl;rfl;(intro _;first|exact Zq|exact Zv|exact Zt|exact shape_B);(exact (by simp)))|(apply SY.box;(exact oD);(exact hD))|fail);all_goals infer_instance)));dsimp only [ZA,z0,z1])|((first|apply I.WL.opN|apply WD.opN);exact yF;dsimp only [ZA,z0,z1])|refine I.WL.nil ?_|refine WD.nil ?_|refine ZB4 fun Kx hK=>?_|(refine hK _ _ ?_;clear hK)|(refine Kont.skip ?_;clear hK)|refine WR.region rfl ?_|(apply WR.draw;kernel_rfl;kernel_rfl) |  (refine I.WL.perm ZPK (I.ZHe (R:=ZI) ZCK ZBc (OpD.t rfl) (OpD.t rfl) ⟨fun _ _ _ h=>h⟩ (OpD.t rfl) c1 g2.ok g2.nodup fun cv=>?_);refine I.WL.perm ZPK ?_;dsimp only [ZA])|((first|apply I.ZO|apply I.ZM);(exact eD);exact OpD.t rfl;(exact oD);(intro _;exact hD);(exact (by simp));(exact (by simp));(first|exact ⟨by decide,by decide⟩|skip);decide;(exact lD);(intro _;dsimp only [ZA,z0,z1]);all_goals (try infer_instance))|((first|apply I.WL.appK|apply I.WL.app1);(exact eD);exact OpD.t rfl;(exact oD);decide;(exact lD);(intro _;dsimp only [ZA,z0,z1]);all_goals (try infer_instance))|((apply (I.WL.perm (List.Perm.swap _ _ _));(first|apply I.ZO|apply I.ZM);(exact eD);exact OpD.t rfl;(exact oD);(intro _;exact hD);(exact (by simp));(exact (by simp));(first|exact ⟨by decide,by decide⟩|skip);decide;(exact lD);(intro _;dsimp only [ZA,z0,z1]);all_goals (try infer_instance)))|((apply (I.WL.perm (List.Perm.swap _ _ _));(first|apply I.WL.appK|apply I.WL.app1);(exact eD);exact OpD.t rfl;(exact oD);decide;(exact lD);(intro _;dsimp only [ZA,z0,z1]);all_goals (try infer_instance)))|(apply I.ZG;(exact tD);rfl;(exact oD);(exact hD);dsimp only [ZA,z0,z1])|(apply I.ZT;(exact tD);rfl;(exact oD);(exact hD);dsimp only [ZA,z0,z1])|(apply I.ZU;(exact tD);rfl;(exact oD);(exact hD);dsimp only [ZA,z0,z1])|((first|apply I.WL.opN|apply WD.opN);(focus ((first|(refine ZLB elI (OpD.t rfl) (OpD.t rfl) hi)|(apply SY.load;exact ZSv;exact OpD.t rfl)|(exact ZAz (OpD.t rfl))|(refine ZAU ZMQ (OpD.t rfl) (by decide))|(refine Z1 ZG2 (OpD.t rfl) (.head _) rfl)|(refine Zi (R:=RV) (_gR:=inferInstance) elV (OpD.t rfl) (OpD.t rfl) hix)|(apply SY.call (ZKk s (ZBE bl 0 (fun _=>0) i) (by omega) (hss i hi)) Tryz.call30;(exact aD))|((first|apply SY.move|apply SY.assign|apply SY.lss) <;> (exact oD))|((first|apply SY.add|apply SY.sub) <;> first|exact oD|omega)|fail);all_goals infer_instance));dsimp only [ZA,z0,z1])|(apply WR.condT;(exact oD);(with_reducible rfl))|(apply ZCo;(exact oD);(with_reducible rfl))|(apply ZDW;(exact oD);all_goals (intro h;try exact xD))|(apply WR.condN;(exact oD);all_goals (intro h;try exact xD))|(apply WR.condNB;(exact oD);all_goals (intro h;try exact xD))|(apply WR.cond;(exact oD);all_goals (intro h;try exact xD))|refine WR.skip ?_|refine WR.ret ?_|refine WR.exit ?_|refine WR.block ?_|refine ThenD.n ?_|refine ThenD.r ?_|refine ThenD.x ?_|refine InBlockD.x ?_|refine InBlockD.n ?_|refine InBlockD.r ?_|refine ZL (by decide) ?_));all_goals (first|refine WR.id ?_|refine I.WL.id ?_|((repeat clear hK);(repeat clear Kx))))
    all_goals try (exfalso;first|contradiction|omega)
    rw [<- c2]
    (refine ⟨(i+1,ZBr M1 (Z5 L s bl)[i] (cv,car (Z5 L s bl)[i])),?_,by first|omega|(simp only;omega),rfl,?_⟩;rotate_left;((try dsimp only [Za,z0,z1]);repeat (first|exact LeF.nil|refine ZF (k:=?_)));(try dsimp only))
    exact ⟨by omega,by rw [ZQr hix];exact g2.put c1 cv⟩
   ·((repeat' (first|((first|apply I.WL.opN|apply WD.opN);exact yF;dsimp only [ZA,z0,z1])|refine I.WL.nil ?_|refine WD.nil ?_|refine ZB4 fun Kx hK=>?_|(refine hK _ _ ?_;clear hK)|(refine Kont.skip ?_;clear hK)|refine WR.region rfl ?_|(apply WR.draw;kernel_rfl;kernel_rfl)|((first|apply I.ZO|apply I.ZM);(exact eD);exact OpD.t rfl;(exact oD);(intro _;exact hD);(exact (by simp));(exact (by simp));(first|exact ⟨by decide,by decide⟩|skip);decide;(exact lD);(intro _;dsimp only [ZA,z0,z1]);all_goals (try infer_instance))|((first|apply I.WL.appK|apply I.WL.app1);(exact eD);exact OpD.t rfl;(exact oD);decide;(exact lD);(intro _;dsimp only [ZA,z0,z1]);all_goals (try infer_instance))|((apply (I.WL.perm (List.Perm.swap _ _ _));(first|apply I.ZO|apply I.ZM);(exact eD);exact OpD.t rfl;(exact oD);(intro _;exact hD);(exact (by simp));(exact (by simp));(first|exact ⟨by decide,by decide⟩|skip);decide;(exact lD);(intro _;dsimp only [ZA,z0,z1]);all_goals (try infer_instance)))|((apply (I.WL.perm (List.Perm.swap _ _ _));(first|apply I.WL.appK|apply I.WL.app1);(exact eD);exact OpD.t rfl;(exact oD);decide;(exact lD);(intro _;dsimp only [ZA,z0,z1]);all_goals (try infer_instance)))|(apply I.ZG;(exact tD);rfl;(exact oD);(exact hD);dsimp only [ZA,z0,z1])|(apply I.ZT;(exact tD);rfl;(exact oD);(exact hD);dsimp only [ZA,z0,z1])|(apply I.ZU;(exact tD);rfl;(exact oD);(exact hD);dsimp only [ZA,z0,z1])|((first|apply I.WL.opN|apply WD.opN);(focus ((first|((first|apply SY.move|apply SY.assign|apply SY.lss) <;> (exact oD))|((first|apply SY.add|apply SY.sub) <;> first|exact oD|omega)|((first|apply SY.shl) <;> first|exact oD|assumption|omega)|(apply SY.load;(exact tD);(exact oD))|(apply ZJ;(exact tD);(exact oD);(exact (by simp)))|(apply SY.len;(exact oD);(exact nD);(exact uD))|(apply ZV;exact OpD.t rfl;(first|exact .head _|exact .tail _ (.head _));(exact uD))|(apply Zf;exact OpD.t rfl;(first|exact .head _|exact .tail _ (.head _));(exact uD))|(apply Zi;(exact eD);(exact oD);(exact oD);exact kD)|(apply SY.ix;(exact eD);(exact oD);(exact oD);exact kD)|(first|(apply SY.fld0 vxT <;> (exact oD))|(apply SY.fld1 vxT <;> (exact oD)))|(apply Zb ZAA;exact OpD.t rfl)|(apply SY.buildE;(exact eD);((try simp only [List.map_cons,List.map_nil]);(repeat (first|exact ZR|(apply ZQ;(first|exact OpD.t rfl|exact OpD.i|exact OpD.b|exact OpD.tle rfl (by first|exact ZD|exact ZB (by decide))|exact ⟨ZD⟩|exact ⟨ZB (by decide)⟩)))));rfl;rfl;decide;(intro _;exact Zo);(exact (by simp)))|(apply SY.build1';(exact eD);((try simp only [List.map_cons,List.map_nil]);(repeat (first|exact ZR|(apply ZQ;(first|exact OpD.t rfl|exact OpD.i|exact OpD.b|exact OpD.tle rfl (by first|exact ZD|exact ZB (by decide))|exact ⟨ZD⟩|exact ⟨ZB (by decide)⟩)))));rfl;rfl;(intro _;first|exact Zq|exact Zv|exact Zt|exact shape_B);(exact (by simp)))|(apply SY.box;(exact oD);(exact hD))|fail);all_goals infer_instance));dsimp only [ZA,z0,z1])|(apply WR.condT;(exact oD);(with_reducible rfl))|(apply ZCo;(exact oD);(with_reducible rfl))|(apply ZDW;(exact oD);all_goals (intro h;try exact xD))|(apply WR.condN;(exact oD);all_goals (intro h;try exact xD))|(apply WR.condNB;(exact oD);all_goals (intro h;try exact xD))|(apply WR.cond;(exact oD);all_goals (intro h;try exact xD))|refine WR.skip ?_|refine WR.ret ?_|refine WR.exit ?_|refine WR.block ?_|refine ThenD.n ?_|refine ThenD.r ?_|refine ThenD.x ?_|refine InBlockD.x ?_|refine InBlockD.n ?_|refine InBlockD.r ?_|refine ZL (by decide) ?_));all_goals (first|refine WR.id ?_|refine I.WL.id ?_|((repeat clear hK);(repeat clear Kx))))
    all_goals try (exfalso;first|contradiction|omega)
    rw [List.take_of_length_le (by omega)] at g2
    exact ⟨rfl,v',M1,by rw [ZJ8];exact g2,rfl⟩
 ·rintro k hs w3 ⟨fv,M,hB1,rfl⟩ hh3 hrd
  show LeavesInM _ _ _ _ _ _ _ _ _
  rw [hf2.defers]
  have hK:w3.heap[k]?=some (.deferred (some [])):=hh3.ok (ZAt k (.deferred (some []))) (by simp)
  refine ⟨by simp,.inl ⟨_,_,rfl,run_takeDeferred hK,_,results_none rfl _ _ _,?_⟩⟩
  have hh6:=(Hp.putObj (o':=.deferred none) hh3).drop
  obtain ⟨hh7,_⟩:=hh6.perm ZMH.symm
  exact ⟨_,dA,ZQq bs bm fv _ M,rfl,⟨fv,M,hB1,rfl⟩,hh7.drop.drop.drop.drop,trivial⟩⟩
end
section
def ZMI (s:List Vx) (bl:List Nat):List Vx:=s.zipIdx.map fun p=>(p.1.1,((ZBE bl 0 (fun _=>0) p.2:Nat):Int))
def ZO7 (l:List Int):List Nat:=l.map Int.toNat
theorem ZO8 (bl:List Nat):ZO7 (bl.map fun b:Nat=>(b:Int))=bl:=by
 unfold ZO7
 rw [List.map_map]
 have e:(Int.toNat ∘ fun b:Nat=>(b:Int))=id:=funext fun b=>Int.toNat_natCast b
 rw [e,List.map_id]
def ZGO (s:List Vx) (l:List Int):List Vx × Int :=
 if Z3 s≠0 then ([],Z3 s) else if ZAi s=false then ([],3) else if ZLj l ((2 ^ s.length-1:Nat):Int)=false then ([],15) else (ZMI s (ZO7 l),0)
end
end Go.Proofs.YtekiljakcngcoaaGreatDoor
