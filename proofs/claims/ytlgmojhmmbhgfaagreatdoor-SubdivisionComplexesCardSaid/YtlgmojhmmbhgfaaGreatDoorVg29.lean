/- Part 29: walks by contracts, and plain laws. -/
import Derived.Test.YtlgmojhmmbhgfaaGreatDoorVg28
set_option linter.unusedVariables false
set_option linter.unusedSimpArgs false
set_option linter.unusedSectionVars false
set_option maxRecDepth 100000
set_option maxHeartbeats 4000000
namespace Go.Proofs.YtlgmojhmmbhgfaaGreatDoor
section
open Go.RowKit

theorem ZDj:MapT Tryz.prog 59 43 28 (.slice none 0 0):=⟨Tryz.underlying59,fun w=>by kernel_rfl⟩
theorem ZMZ:TyI Tryz.prog 59 1 false:=⟨by kernel_rfl,Tryz.isAgg59⟩
theorem ZTH:TyI Tryz.prog 58 1 false:=⟨by kernel_rfl,Tryz.isAgg58⟩
theorem tyLf:TyI Tryz.prog 65 1 false:=⟨by kernel_rfl,Tryz.isAgg65⟩
theorem ZPX:StrT Tryz.prog 61 2:=⟨fun b off i w hi=>by
 have:i=0\/i=1:=by omega
 rcases this with rfl|rfl <;> go_simp⟩
abbrev ZIJ:=List (Vx × Value × List Vx)
abbrev ZQB (bs bm:Nat) (fv:Value) (F:Cx) (M:ZIJ):List HObj :=
 [Zp bs 61 [dX fv,dX (.map (some bm))],ZW fv 28 ZE F,hMC bm kvV M,ZAm ZE M]
structure Bld (L:List Vx) (car:Vx->List Vx) (M:ZIJ):Prop where
 nodup:(M.map (·.1)).Nodup
 mem:∀ v,v∈M.map (·.1)↔v∈L
 car:∀ p∈M,p.2.2=car p.1
 ok:∀ p∈M,okV p.1
theorem Bld.nil (car:Vx->List Vx):Bld [] car []:=⟨by simp,by simp,by simp,by simp⟩
theorem Bld.put {L:List Vx} {car:Vx->List Vx} {M:ZIJ} (h:Bld L car M) {v:Vx} (hv:okV v) (cv:Value):Bld (L++[v]) car (ZBy M v (cv,car v)):=by
 have hk:=ZOv M v (cv,car v)
 refine ⟨?_,fun x=>?_,fun p hp=>?_,fun p hp=>?_⟩
 ·rw [hk]
  split
  ·exact h.nodup
  ·rename_i hn
   rw [List.nodup_append]
   exact ⟨h.nodup,by simp,fun a ha b hb e=>hn (by rw [<- List.mem_singleton.1 hb,<- e];exact ha)⟩
 ·rw [hk,List.mem_append,List.mem_singleton,<- h.mem]
  split
  ·rename_i hm
   constructor
   ·exact .inl
   ·rintro (h|rfl)
    ·exact h
    ·exact hm
  ·rw [List.mem_append,List.mem_singleton]
 ·rcases ZH5 hp with rfl|hp
  ·rfl
  ·exact h.car p hp
 ·rcases ZH5 hp with rfl|hp
  ·exact hv
  ·exact h.ok p hp
theorem ZJY {F:Cx} {x:List Vx}:(F++[x]).flatten=F.flatten++x:=by simp
theorem ZQC {F:Cx} {x:List Vx} {i:Nat} (h:i<x.length):F.flatten++x.take (i+1)=(F.flatten++x.take i)++[x[i]]:=by
 rw [List.take_succ_eq_append_getElem h,List.append_assoc]
abbrev ZQD (bs bm:Nat) (fv:Value) (F:Cx) (M:ZIJ) (v3 v4 v5:Value) (s:List Vx) (p:Nat->Prop) (L:Nat->Int):List HObj :=
 [Zp bs 61 [dX fv,dX (.map (some bm))],ZW fv 28 ZE F,hMC bm kvV M,ZAm ZE M,ZAC v3 (dP 1 false (dX (.pointer (some ⟨bs,0,none⟩)))),ZAC v4 (dP 1 false (dS ZE s)),ZAC v5 (dP 1 false (ZQK p L))]
theorem ZEb:∀ n:Fin 9,ishl 1 (n.val:Int)=((2 ^ n.val:Nat):Int):=by decide +kernel
theorem ZFt {P:Program} {ops:Array Oper} {hp:List HObj} {fr:List Dat} {dst:Option Tmp} {ty:TypeId} {ps:String} {af:Array Edge} {g:Option (Nat × Bool)} {T T2:TypeId} {x y:Operand} {p q c:Int} (h:ishl p q=c) (h0:0≤q) (hx:OpD fr x (dI p)) (hy:OpD fr y (dI q)):SY P ops hp ⟨dst,.binOp .shl T x y T2,ty,ps,af,g⟩ fr (dI c):=h ▸ SY.shl hx hy h0
theorem ZHN {P:Program} {ops:Array Oper} {hp:List HObj} {fr:List Dat} {dst:Option Tmp} {ty:TypeId} {ps:String} {af:Array Edge} {g:Option (Nat × Bool)} {T T2:TypeId} {x y:Operand} {p q c:Int} (h:p-q=c) (h0 : -9223372036854775808≤c/\c≤9223372036854775807) (hx:OpD fr x (dI p)) (hy:OpD fr y (dI q)):SY P ops hp ⟨dst,.binOp .sub T x y T2,ty,ps,af,g⟩ fr (dI c):=h ▸ SY.sub hx hy (h.symm ▸ h0)
theorem ZLh {a b c d x y z w:HObj} {hp:List HObj}:(a::b::c::d::x::y::z::w::hp).Perm (x::y::z::w::a::b::c::d::hp):=by
 have h:(([a,b,c,d]++[x,y,z,w])++hp).Perm (([x,y,z,w]++[a,b,c,d])++hp):=List.Perm.append_right _ List.perm_append_comm
 simpa using h
theorem ZOi {a b c d:HObj} {hp:List HObj}:(a::b::c::d::hp).Perm (c::d::a::b::hp):=by
 have h:(([a,b]++[c,d])++hp).Perm (([c,d]++[a,b])++hp):=List.Perm.append_right _ List.perm_append_comm
 simpa using h
def divH (bs bm:Nat) (v3 v4 v5:Value) (s:List Vx) (p:Nat->Prop) (L:Nat->Int) (car:Vx->List Vx) (F:Cx) (pre:List (List Nat)) (hs:List HObj):Prop :=
 ∃ fv M,Bld (F++pre.map (Zz L s)).flatten car M/\hs=ZQD bs bm fv (F++pre.map (Zz L s)) M v3 v4 v5 s p L
set_option maxHeartbeats 16000000 in
theorem ZLB (bs bm:Nat) (fv0:Value) (F0:Cx) (M0:ZIJ) (s:List Vx) (p:Nat->Prop) (L:Nat->Int) (car:Vx->List Vx) (hs0:0<s.length) (hs5:s.length≤5) (hF:F0.length≤100000) (hB:Bld F0.flatten car M0)
  (hpl:∀ bl∈ZBR (2 ^ s.length-1),∀ i,i<s.length->p (ZBY bl 0 (fun _=>0) i))
  (hbl:∀ bl∈ZBR (2 ^ s.length-1),∀ b∈bl,b<1048576)
  (hsn:∀ bl∈ZBR (2 ^ s.length-1),∀ i,i<s.length->ZBY bl 0 (fun _=>0) i<1048576)
  (hcar:∀ bl∈ZBR (2 ^ s.length-1),∀ (i:Nat) (h:i<(Zz L s bl).length),okV (Zz L s bl)[i]/\car (Zz L s bl)[i]=atB s (ZBY bl 0 (fun _=>0) i)) :
  CallC Tryz.prog 25 ([dX (.pointer (some ⟨bs,0,none⟩)),dS ZE s,ZQK p L]++([]:List Value).map dX) (ZQB bs bm fv0 F0 M0)
   (fun _ hp2=>∃ fv M,Bld (F0++(ZBR (2 ^ s.length-1)).map (Zz L s)).flatten car M/\hp2=ZQB bs bm fv (F0++(ZBR (2 ^ s.length-1)).map (Zz L s)) M):=⟨fun P0 B w0 hp vs W hh hl0 hv=>by
 refine (callsIn_wide (n:=0)).1 (callsIn_of_wp_marks Tryz.func25 rfl trivial ?_ rfl)
 refine wpIn_wide.2 ?_
 have hf0:=ZA8 (m:=49) hl0 hv
 have hsz:vs.toArray.size=3:=by simpa using hl0
 rw [hsz]
 have hnt:Tryz.f25.ntmps=52:=rfl
 rw [hnt]
 simp only [List.length_cons,List.length_nil,Nat.reduceAdd,Nat.reduceSub,List.replicate_succ,List.replicate_zero,List.cons_append,List.nil_append,List.map_nil] at hf0 hh ⊢
 have hpow:(2 ^ s.length-1:Nat)<32:=by
  have:s.length=1\/s.length=2\/s.length=3\/s.length=4\/s.length=5:=by omega
  rcases this with h|h|h|h|h <;> rw [h] <;> decide
 have hpow0:(2 ^ s.length-1:Nat)≠0:=by
  have:2 ^ 1≤2 ^ s.length:=Nat.pow_le_pow_right (by decide) hs0
  omega
 have hshl:=ZEb ⟨s.length,by omega⟩
 simp only at hshl
 refine wp_seq (Code.wp_mono ?_ (WC.on (Q:=fun e f q=>e = .normal/\f=[dX (.pointer (some ⟨bs,0,none⟩)),dS ZE s,ZQK p L,dP 1 false (dX (.pointer (some ⟨bs,0,none⟩))),dP 1 false (dS ZE s),dP 1 false (ZQK p L)]++List.replicate 46 (dX undef)/\q=ZQB bs bm fv0 F0 M0++hp) ?_ hh hf0))
 rotate_left
 ·((repeat' (first|refine WL.nil ?_|refine WC.region ?_|((first|apply WL.opN|apply WD.opN);(focus ((first|(apply SY.box;(exact oD);(exact hD))|fail);all_goals infer_instance));dsimp only [ZB,z0,z1])));all_goals (first|((repeat clear hK);(repeat clear Kx))))
  exact ⟨rfl,rfl,rfl⟩
 rintro e a1 w1 ⟨f1,q1,⟨rfl,rfl,rfl⟩,hh1,hf1⟩
 show Code.wp _ _ _ _ _
 simp only [List.replicate_succ,List.replicate_zero,List.cons_append,List.nil_append] at hf1 hh1
 refine wp_seq (Code.wp_mono ?_ (WC.on (Q:=fun e f q=>e = .normal/\∃ v3 v4 v5 vr,f=[dX (.pointer (some ⟨bs,0,none⟩)),dS ZE s,ZQK p L,dX v3,dX v4,dX v5,dX undef,dX undef,dX undef,dX undef,dS ZE s,dI (s.length:Int),dI ((2 ^ s.length:Nat):Int),dI ((2 ^ s.length-1:Nat):Int),dX (.func (.func 90) #[] [vr].toArray)]++List.replicate 37 (dX undef)
   /\ q=ZQD bs bm fv0 F0 M0 v3 v4 v5 s p L++([ZAC vr (dP 1 false (dI ((2 ^ s.length-1:Nat):Int)))]++hp)) ?_ hh1 hf1))
 rotate_left
 ·((repeat' (first|((first|apply WL.opN|apply WD.opN);exact yF;dsimp only [ZB,z0,z1])|refine WL.nil ?_|refine WC.region ?_ |  (refine Z8 (hp1:=[]) (caps:=[]) (ZGR (2 ^ s.length-1)) Tryz.call49 OpD.f (by (exact aD)) ?_;rintro d' hp2 ⟨vr,rfl,rfl⟩;dsimp only [ZB,z0,z1,List.cons_append,List.nil_append];refine ZMz 5 rfl fun v5=>?_;refine ZMz 4 rfl fun v4=>?_;refine ZMz 3 rfl fun v3=>?_;dsimp only [z0,z1];refine WL.perm ZLh ?_)|((first|apply WL.opN|apply WD.opN);(focus ((first|(exact ZFt hshl (by omega) OpD.i (OpD.t rfl))|(refine ZHN (c:=((2 ^ s.length-1:Nat):Int)) (by omega) (by omega) (OpD.t rfl) OpD.i)|(apply SY.len;(exact oD);(exact nD);(exact uD))|fail);all_goals infer_instance));dsimp only [ZB,z0,z1])));all_goals (first|((repeat clear hK);(repeat clear Kx))))
  exact ⟨rfl,_,_,_,_,rfl,rfl⟩
 rintro e a2 w2 ⟨f2,q2,⟨rfl,v3,v4,v5,vr,rfl,rfl⟩,hh2,hf2⟩
 show Code.wp _ _ _ _ _
 simp only [List.replicate_succ,List.replicate_zero,List.cons_append,List.nil_append] at hf2 hh2
 refine wp_block ?_
 refine ZEq (hs0:=ZQD bs bm fv0 F0 M0 v3 v4 v5 s p L) (hk:=[ZAC vr (dP 1 false (dI ((2 ^ s.length-1:Nat):Int)))]) (hp:=hp) (xs:=ZBR (2 ^ s.length-1)) (D:=fun bl=>dIf (bl∈ZBR (2 ^ s.length-1)) (dS ZBt (Zv bl))) (divH bs bm v3 v4 v5 s p L car F0) _
  (fun bl=>[dX (.pointer (some ⟨bs,0,none⟩)),dA,dA,dX v3,dX v4,dX v5,dIf (bl∈ZBR (2 ^ s.length-1)) (dS ZBt (Zv bl)),dX undef,dX undef,dX undef,dA,dX (.int .i64 (s.length:Int)),dX (.int .i64 ((2 ^ s.length:Nat):Int)),dX (.int .i64 ((2 ^ s.length-1:Nat):Int)),dX (.func (.func 90) #[] [vr].toArray),dIf (bl∈ZBR (2 ^ s.length-1)) (dS ZBt (Zv bl)),dX undef,dX undef,dX undef,dX undef,dX undef,dX undef,dX undef,dX undef,dX undef,dX undef,dX undef,dX undef,dX undef,dX undef,dX undef,dX undef,dX undef,dX undef,dX undef,dX undef,dX undef,dX undef,dX undef,dX undef,dX undef,dX undef,dX undef,dX undef,dX undef,dX undef,dX undef,dX undef,dX undef,dX undef,dX undef,dX undef]) hh2 hf2 (OpD.t rfl) Tryz.call90 (ZOg (2 ^ s.length-1) hpow0 hpow vr) ⟨fv0,M0,by simpa using hB,by simp⟩ (by repeat (first|exact FixF.nil|apply FixF.x|apply FixF.a)) ?_ ?_ ?_
 ·intro l bl q
  refine WR.region rfl (I.WL.op rfl (SY.assign (OpD.t rfl)) (I.WL.nil ⟨rfl,rfl,rfl⟩))
 ·rintro l pre bl hs q hlt ⟨fv,M,hB1,rfl⟩
  refine ZJz (t:=15) rfl (fun _ _ _ h=>h.1) fun hmem=>?_
  rw [ZK8 hmem]
  have hpre:(F0++pre.map (Zz L s)).length≤1000000:=by
   have:=ZE6 s.length hs5
   simp;omega
  refine WR.mono (Q:=fun e _ q'=>e = .normal/\∃ fv' M',Bld ((F0++pre.map (Zz L s))++[Zz L s bl]).flatten car M'/\q'=ZQD bs bm fv' ((F0++pre.map (Zz L s))++[Zz L s bl]) M' v3 v4 v5 s p L++q) ?_ (fun e f p ⟨he,fv',M',hB',hq⟩=>⟨he,_,⟨fv',M',by rw [List.map_append,List.map_cons,List.map_nil,<- List.append_assoc];exact hB',rfl⟩,by rw [List.map_append,List.map_cons,List.map_nil,<- List.append_assoc];exact hq⟩)
  generalize F0++pre.map (Zz L s)=F at *
  have hbb:=hbl bl hmem
  have hss:=hsn bl hmem
  have hpp:=hpl bl hmem
  have hcc:=hcar bl hmem
  refine WR.perm (List.Perm.swap _ _ _) ?_
  refine WR.block (ZKu 3 rfl (.tail _ (.tail _ (.tail _ (.tail _ (.head _))))) (ZKu 4 rfl (.tail _ (.tail _ (.tail _ (.tail _ (.tail _ (.head _)))))) (ZKu 5 rfl (.tail _ (.tail _ (.tail _ (.tail _ (.tail _ (.tail _ (.head _))))))) ?_)))
  dsimp only [z0,z1]
  (repeat' (first |  (refine WR.drawW (β:=Value) 7 (fun v'=>ZW v' 28 ZE (F++[Zz L s bl])::Zp bs 61 [dX fv,dX (.map (some bm))]::hMC bm kvV M::ZAm ZE M::ZAC v3 (dP 1 false (dX (.pointer (some ⟨bs,0,none⟩))))::ZAC v4 (dP 1 false (dS ZE s))::ZAC v5 (dP 1 false (ZQK p L))::q) (fun v'=>dX v') _ rfl (by kernel_rfl) (by kernel_rfl) rfl ?_;simp only [List.take_succ_cons,List.take_zero,List.drop_succ_cons,List.drop_zero])|((first|apply I.WL.opN|apply WD.opN);exact yF;dsimp only [ZB,z0,z1])|refine I.WL.nil ?_|refine ZCQ fun Kx hK=>?_|(refine hK _ _ ?_;clear hK)|refine WR.region rfl ?_|((first|apply I.WL.opN|apply WD.opN);(focus ((first|(apply SY.load;exact tyLf;exact OpD.t rfl)|(apply SY.call (ZNv p L s bl (by omega) hbb hpp) Tryz.call51;(exact aD))|fail);all_goals infer_instance));dsimp only [ZB,z0,z1])))
  (repeat' (first|refine WDs.nil ?_|(apply WDs.op;(focus (intro c;apply ZF;(exact ZR rfl);((first|(apply SY.load;exact ZTH;exact OpD.t rfl)|(exact ZBk (OpD.t rfl))|(refine Ze ZPX (OpD.t rfl) (by decide))|(refine Zb ZCl (OpD.t rfl) (HH.mem (.tail _ (.head _)) (fun _=>.tail _ (.head _))) rfl)|((first|apply SY.move|apply SY.assign|apply SY.lss) <;> (exact oD))|(apply SY.build1';(exact eD);((try simp only [List.map_cons,List.map_nil]);(repeat (first|exact Zq|(apply Zh;(first|exact OpD.t rfl|exact OpD.i|exact OpD.b|exact OpD.tle rfl (by first|exact ZI|exact ZH (by decide))|exact ⟨ZI⟩|exact ⟨ZH (by decide)⟩)))));rfl;rfl;(intro _;first|exact ZAb|exact ZA4|exact ZAa|exact ZBP);(exact (by simp)))|fail);all_goals infer_instance)));dsimp only [ZB,z0,z1])))
  refine ⟨SW.app1 ZBx (OpD.t rfl) (OpD.t rfl) (by decide) (by simp;omega),fun v'=>?_⟩
  dsimp only [ZB,z0,z1]
  refine I.ZB5 (.head _) fun ⟨ad,c,hv'⟩=>?_
  have hxl:(Zz L s bl).length=s.length:=ZBS L s bl
  (repeat' (first|((first|apply I.WL.opN|apply WD.opN);exact yF;dsimp only [ZB,z0,z1])|refine I.WL.nil ?_|refine ZCQ fun Kx hK=>?_|(refine hK _ _ ?_;clear hK)|refine WR.region rfl ?_ |  (refine I.WL.perm (List.Perm.swap _ _ _) (I.Z1 ZCl (OpD.t rfl) (OpD.t rfl) (ZY (by rw [hv'];rfl)) (by simp) ?_);dsimp only [ZB,z0,z1,Nat.add_zero])|((first|apply I.WL.opN|apply WD.opN);(focus ((first|(exact ZBk (OpD.t rfl))|(refine Ze ZPX (OpD.t rfl) (by decide))|(apply SY.call (ZGY s.length bl (by omega) hbb) Tryz.call58;(exact aD))|(apply SY.len;(exact oD);(exact nD);(exact uD))|fail);all_goals infer_instance));dsimp only [ZB,z0,z1])|refine WR.block ?_))
  rw [ZEl]
  (refine WR.loopU (X:=Nat × ZIJ) (fun x=>[(35,dI (x.1:Int)),(8,dA),(9,dA),(36,dA),(37,dA),(38,dA),(39,dA),(40,dA),(41,dA),(42,dA),(43,dA),(44,dA),(45,dA),(46,dA),(47,dA),(48,dA),(49,dA),(50,dA),(51,dA)]) (fun x=>(Zp bs 61 [dX v',dX (.map (some bm))]::ZW v' 28 ZE (F++[Zz L s bl])::hMC bm kvV x.2::ZAm ZE x.2::ZAC v3 (dP 1 false (dX (.pointer (some ⟨bs,0,none⟩))))::ZAC v4 (dP 1 false (dS ZE s))::ZAC v5 (dP 1 false (ZQK p L))::q)) (fun x=>s.length-x.1) (fun x=>x.1≤s.length/\Bld (F.flatten++(Zz L s bl).take x.1) car x.2) (0,M) ?start ?frame0 ?objs0 ?round)
  case start=>exact ⟨Nat.zero_le _,by simpa using hB1⟩
  case frame0=>((try dsimp only [ZK,z0,z1]);repeat (first|exact LeF.nil|refine ZD (k:=?_)))
  case objs0=>rfl
  case round =>
   rintro ⟨i,M1⟩ ⟨g1,g2⟩
   simp only at g1 g2
   dsimp only [ZK,z0,z1]
   by_cases hi:i<s.length
   ·have hix:i<(Zz L s bl).length:=by omega
    obtain ⟨c1,c2⟩:=hcc i hix
    ((repeat' (first |  (apply WR.drawTail 11;kernel_rfl;kernel_rfl;rfl;simp only [List.take_succ_cons,List.take_zero,List.drop_succ_cons,List.drop_zero])|((first|apply I.WL.opN|apply WD.opN);exact yF;dsimp only [ZB,z0,z1])|refine I.WL.nil ?_|refine WD.nil ?_|refine ZCQ fun Kx hK=>?_|(refine hK _ _ ?_;clear hK)|refine WR.region rfl ?_ |  (refine I.WL.perm ZOi (I.ZHR (R:=ZE) ZDj ZGN (OpD.t rfl) (OpD.t rfl) ⟨fun _ _ _ h=>h⟩ (OpD.t rfl) c1 g2.ok g2.nodup fun cv=>?_);refine I.WL.perm ZOi ?_;dsimp only [ZB])|((first|apply I.WL.opN|apply WD.opN);(focus ((first|(refine ZRU elI (OpD.t rfl) (OpD.t rfl) hi)|(apply SY.load;exact ZTH;exact OpD.t rfl)|(exact ZBk (OpD.t rfl))|(refine Ze ZPX (OpD.t rfl) (by decide))|(refine Zb ZMZ (OpD.t rfl) (.head _) rfl)|(refine ZBC (R:=RV) (_gR:=inferInstance) elV (OpD.t rfl) (OpD.t rfl) hix)|(apply SY.call (ZNu s (ZBY bl 0 (fun _=>0) i) (by omega) (hss i hi)) Tryz.call28;(exact aD))|((first|apply SY.move|apply SY.assign|apply SY.lss) <;> (exact oD))|((first|apply SY.add|apply SY.sub) <;> first|exact oD|omega)|fail);all_goals infer_instance));dsimp only [ZB,z0,z1])|(apply ZFX;(exact oD);all_goals (intro h;try exact xD))|refine WR.skip ?_|refine WR.block ?_|refine ThenD.n ?_));all_goals (first|((repeat clear hK);(repeat clear Kx))))
    all_goals try (exfalso;first|contradiction|omega)
    rw [<- c2]
    (refine ⟨(i+1,ZBy M1 (Zz L s bl)[i] (cv,car (Zz L s bl)[i])),?_,by first|omega|(simp only;omega),rfl,?_⟩;rotate_left;((try dsimp only [ZK,z0,z1]);repeat (first|exact LeF.nil|refine ZD (k:=?_)));(try dsimp only))
    exact ⟨by omega,by rw [ZQC hix];exact g2.put c1 cv⟩
   ·((repeat' (first|refine I.WL.nil ?_|refine ZCQ fun Kx hK=>?_|(refine hK _ _ ?_;clear hK)|refine WR.region rfl ?_|((first|apply I.WL.opN|apply WD.opN);(focus ((first|((first|apply SY.move|apply SY.assign|apply SY.lss) <;> (exact oD))|fail);all_goals infer_instance));dsimp only [ZB,z0,z1])|(apply ZFX;(exact oD);all_goals (intro h;try exact xD))|refine WR.exit ?_|refine ThenD.x ?_|refine InBlockD.x ?_|refine InBlockD.n ?_));all_goals (first|((repeat clear hK);(repeat clear Kx))))
    all_goals try (exfalso;first|contradiction|omega)
    rw [List.take_of_length_le (by omega)] at g2
    exact ⟨rfl,v',M1,by rw [ZJY];exact g2,rfl⟩
 ·rintro k hs w3 ⟨fv,M,hB1,rfl⟩ hh3 hrd
  show LeavesInM _ _ _ _ _ _ _ _ _
  rw [hf2.defers]
  have hK:w3.heap[k]?=some (.deferred (some [])):=hh3.ok (ZA2 k (.deferred (some []))) (by simp)
  refine ⟨by simp,.inl ⟨_,_,rfl,run_takeDeferred hK,_,results_none rfl _ _ _,?_⟩⟩
  have hh6:=(Hp.putObj (o':=.deferred none) hh3).drop
  obtain ⟨hh7,_⟩:=hh6.perm ZLh.symm
  exact ⟨_,dA,ZQB bs bm fv _ M,rfl,⟨fv,M,hB1,rfl⟩,hh7.drop.drop.drop.drop,trivial⟩⟩
end
section
def ZLi (s:List Vx) (bl:List Nat):List Vx:=s.zipIdx.map fun p=>(p.1.1,((ZBY bl 0 (fun _=>0) p.2:Nat):Int))
def ZOV (l:List Int):List Nat:=l.map Int.toNat
theorem ZOW (bl:List Nat):ZOV (bl.map fun b:Nat=>(b:Int))=bl:=by
 unfold ZOV
 rw [List.map_map]
 have e:(Int.toNat ∘ fun b:Nat=>(b:Int))=id:=funext fun b=>Int.toNat_natCast b
 rw [e,List.map_id]
def ZGD (s:List Vx) (l:List Int):List Vx × Int :=
 if ZAJ s≠0 then ([],ZAJ s) else if Z0 s=false then ([],3) else if ZLA l ((2 ^ s.length-1:Nat):Int)=false then ([],15) else (ZLi s (ZOV l),0)
end
section
open Go.RowKit

theorem ZJn:ElT Tryz.prog 45 50 1 (.slice none 0 0) 24 false:=⟨Tryz.underlying45,by kernel_rfl,Tryz.isAgg50,rfl⟩
theorem tyIn:TyI Tryz.prog 50 1 false:=⟨by kernel_rfl,Tryz.isAgg50⟩
abbrev apI (b:Nat) (xs:List (List Int)) (hs:List HObj):Prop:=∃ sv,hs=[ZQ b 45 1 false (dX sv),ZW sv 50 ZBt xs]
theorem tyRo:TyI Tryz.prog 45 1 false:=⟨by kernel_rfl,Tryz.isAgg45⟩
set_option maxRecDepth 100000 in
set_option maxHeartbeats 8000000 in
theorem ZIf {gf:FuncId} {lb:List Value} {hk:List HObj} {xs:List (List Int)} (he:ZAf Tryz.prog gf) (hS:SeqC Tryz.prog gf lb hk (fun x=>dS ZBt x) xs) (hl:xs.length≤1000000) :
  CallC Tryz.prog 89 ([dX (.slice none 0 0),dX (.func (.func gf) #[] lb.toArray)]++([]:List Value).map dX) hk (fun d hp2=>∃ v,d=dX v/\hp2=ZW v 50 ZBt xs::hk):=⟨fun P0 B w0 hp vs W hh hl0 hv=>by
 refine (callsIn_wide (n:=0)).1 (callsIn_of_wp_marks Tryz.func89 rfl trivial ?_ rfl)
 refine wpIn_wide.2 ?_
 have hf0:=ZA8 (m:=11) hl0 hv
 have hsz:vs.toArray.size=2:=by simpa using hl0
 rw [hsz]
 have hnt:Tryz.f89.ntmps=13:=rfl
 rw [hnt]
 simp only [List.length_cons,List.length_nil,Nat.reduceAdd,Nat.reduceSub,List.replicate_succ,List.replicate_zero,List.cons_append,List.nil_append,List.map_nil] at hf0 ⊢
 refine wp_seq (Code.wp_mono ?_ (WC.on (Q:=fun e f q=>e = .normal/\∃ b,f=[dX (.slice none 0 0),dX (.func (.func gf) #[] lb.toArray),dX (.pointer (some ⟨b,0,none⟩)),dX undef,dX (.slice none 0 0),dX undef,dX undef,dX undef,dX undef,dX undef,dX undef,dX undef,dX undef]/\q=[ZQ b 45 1 false (dX (.slice none 0 0)),ZW (.slice none 0 0) 50 ZBt []]++(hk++hp)) ?_ hh hf0))
 rotate_left
 ·refine WC.region ?_
  refine ZBG 50 ZBt ?_
  refine ZJv (OpD.t rfl) (ZY rfl) fun b=>?_
  dsimp only [ZB,z0,z1]
  refine WL.op rfl (SY.assign OpD.x) (WL.nil ?_)
  exact ⟨rfl,b,rfl,rfl⟩
 rintro e a1 w1 ⟨f1,q1,⟨rfl,b,rfl,rfl⟩,hh1,hf1⟩
 show Code.wp _ _ _ _ _
 refine wp_seq ?_
 refine wp_seq (Code.wp_mono ?_ (WC.on (Q:=fun e f q=>e = .normal/\f=[dX (.slice none 0 0),dX (.func (.func gf) #[] lb.toArray),dX (.pointer (some ⟨b,0,none⟩)),dX undef,dX (.slice none 0 0),dX undef,dX (.func (.func gf) #[] lb.toArray),dX undef,dX undef,dX undef,dX undef,dX undef,dX undef]/\q=[ZQ b 45 1 false (dX (.slice none 0 0)),ZW (.slice none 0 0) 50 ZBt []]++(hk++hp)) ?_ hh1 hf1))
 rotate_left
 ·refine WC.region ?_
  refine WL.op rfl (SY.move (OpD.t rfl)) (WL.nil ?_)
  exact ⟨rfl,rfl,rfl⟩
 rintro e a2 w2 ⟨f2,q2,⟨rfl,rfl,rfl⟩,hh2,hf2⟩
 show Code.wp _ _ _ _ _
 refine wp_block ?_
 refine ZEq (hs0:=[_,_]) (hk:=hk) (hp:=hp) (xs:=xs) (D:=fun x=>dS ZBt x) (apI b) _ (fun x=>[dX (.slice none 0 0),dX (.func (.func gf) #[] lb.toArray),dX (.pointer (some ⟨b,0,none⟩)),dX undef,dX (.slice none 0 0),dS ZBt x,dX (.func (.func gf) #[] lb.toArray),dS ZBt x,dX undef,dX undef,dX undef,dX undef,dX undef]) hh2 hf2 (OpD.t rfl) he hS ⟨_,rfl⟩ (by repeat (first|exact FixF.nil|apply FixF.x)) ?_ ?_ ?_
 ·intro l x q
  refine WR.region rfl (I.WL.op rfl (SY.assign (OpD.t rfl)) (I.WL.nil ⟨rfl,rfl,rfl⟩))
 ·rintro l pre x hs q hlt ⟨sv,rfl⟩
  refine WR.block (WR.region rfl ?_)
  refine I.WL.op rfl (ZAN tyRo (OpD.t rfl) (.head _)) ?_
  dsimp only [ZB,z0,z1,List.cons_append,List.nil_append]
  refine I.WL.op rfl (SY.move (OpD.t rfl)) ?_
  dsimp only [ZB,z0,z1]
  refine I.WL.perm (List.Perm.swap _ _ _) (I.ZA6 ZJn (OpD.t rfl) (OpD.t rfl) (fun _=>ZAa) (by simp) (by simp) (by decide) (by omega) fun v'=>?_)
  dsimp only [ZB,z0,z1]
  refine I.ZB5 (.head _) fun ⟨ad,c,hv'⟩=>?_
  refine I.WL.perm (List.Perm.swap _ _ _) (I.Zw tyRo (OpD.t rfl) (OpD.t rfl) (ZY (by rw [hv'];rfl)) (I.WL.nil ?_))
  exact ⟨rfl,_,⟨v',rfl⟩,rfl⟩
 ·rintro k hs w3 ⟨sv,rfl⟩ hh3 hrd
  show Code.wp _ _ _ _ _
  have hf3:Fr (Imm P0 B (ZA2 k (.deferred (some []))::([ZQ b 45 1 false (dX sv),ZW sv 50 ZBt xs]++(hk++hp)))) w3 { tmps:=a2.tmps,defers:=[] } _:=⟨rfl,hf2.size,hrd⟩
  refine wp_seq (wp_region_lit ?_)
  refine ZBa rfl (ZAN tyRo (OpD.t rfl) (.tail _ (.head _))) hh3 hf3 fun a4 w4 hd4 hh4 hf4=>?_
  refine ZBa rfl (SY.assign (OpD.t rfl)) hh4 hf4 fun a5 w5 hd5 hh5 hf5=>?_
  refine wpList_nil ?_
  show Code.wp _ _ _ _ _
  refine wp_ret ?_
  show LeavesInM _ _ _ _ _ _ _ _ _
  rw [hd5,hd4,hf2.defers]
  have hK:w5.heap[k]?=some (.deferred (some [])):=hh5.ok (ZA2 k (.deferred (some []))) (by simp)
  refine ⟨by simp,.inl ⟨_,_,rfl,run_takeDeferred hK,_,results_tmp rfl _ _ _,?_⟩⟩
  have hh6:=(Hp.putObj (o':=.deferred none) hh5).drop.drop
  exact ⟨_,dX sv,ZW sv 50 ZBt xs::hk,rfl,⟨sv,rfl,rfl⟩,hh6,hf5.rd 4 _ rfl⟩⟩
theorem ZMA {gf:FuncId} {lb:List Value} {hk:List HObj} {xs:List (List Int)} (he:ZAf Tryz.prog gf) (hS:SeqC Tryz.prog gf lb hk (fun x=>dS ZBt x) xs) (hl:xs.length≤1000000) :
  CallC Tryz.prog 48 ([dX (.func (.func gf) #[] lb.toArray)]++([]:List Value).map dX) hk (fun d hp2=>∃ v,d=dX v/\hp2=ZW v 50 ZBt xs::hk):=by
 (refine Z5 Tryz.func48 rfl rfl (fun hp=>?_);simp only [Tryz.ntmps48,List.length_cons,List.length_nil,List.length_append,List.length_map,Nat.reduceAdd,Nat.reduceSub,List.replicate_succ,List.replicate_zero,List.cons_append,List.nil_append,List.map_cons,List.map_nil,List.append_assoc])
 ((repeat' (first|(apply WL.opN;exact yF;dsimp only [ZB,z0,z1])|refine WL.nil ?_|refine ZA fun Kx hK=>?_|(refine hK _ _ ?_;clear hK)|refine WC.region ?_ |  (refine Z8 (caps:=[]) (ZIf he hS hl) Tryz.call89 OpD.f (by (exact aD)) ?_;rintro d' hp2 ⟨v,rfl,rfl⟩;dsimp only [ZB,z0,z1,List.cons_append,List.nil_append])|refine WC.ret ?_));all_goals (first|((repeat clear hK);(repeat clear Kx))))
 exact ⟨trivial,_,_::hk,rfl,rfl,v,rfl,rfl⟩


theorem SeqC.map {P:Program} {gf:FuncId} {lb:List Value} {hk:List HObj} {α β:Type} {D:α->Dat} {D':β->Dat} {xs:List α} (h:SeqC P gf lb hk D xs) (g:α->β) (hle:∀ x,(D x).le (D' (g x))):SeqC P gf lb hk D' (xs.map g):=⟨fun l J hY js hj =>
 h.out l (fun pre=>J (pre.map g)) ⟨fun P0 B w0 hp pre js x u W hlt hj hh hu=>by
  have:=hY.out P0 B w0 hp (pre.map g) js (g x) u W (by simpa using hlt) hj hh (hle x _ _ _ hu)
  rw [List.map_append]
  exact this⟩ js (by simpa using hj)⟩
def ZGT (n:Int):List (List Int) × Int:=if n<1\/5<n then ([],2) else ((ZBR (2 ^ n.toNat-1)).map Zv,0)
theorem ZT3 {c:Prop} {d:Dat}:(dIf c d).le d:=fun _ _ _ h=>h.2
set_option maxHeartbeats 4000000 in
theorem ZDO (n:Int):Fn Tryz.prog 17 [dI n] (dT [dS Rows (ZGT n).1,dI (ZGT n).2]):=by
 by_cases hn:n<1\/5<n
 ·have e:ZGT n=([],2):=if_pos hn
  rw [e]
  (refine ZBF Tryz.func17 rfl rfl ?_;simp only [Tryz.ntmps17,List.length_cons,List.length_nil,Nat.reduceAdd,Nat.reduceSub,List.replicate_succ,List.replicate_zero,List.cons_append,List.nil_append])
  ((repeat' (first|(apply WL.opN;exact yF;dsimp only [ZB,z0,z1])|refine WL.nil ?_|refine ZA fun Kx hK=>?_|(refine hK _ _ ?_;clear hK)|refine WC.region ?_|(apply ZJ;(focus (first|exact wN|(apply ZF;(exact wY);((first|((first|apply SY.move|apply SY.assign|apply SY.lss|apply SY.gtr) <;> (exact oD))|(apply Z6;(exact oD);(with_reducible rfl);(exact oD))|(apply ZAS;(exact oD);(with_reducible rfl);(exact oD))|fail);all_goals infer_instance))));dsimp only [ZB,z0,z1])|((first|refine Za rfl rfl rfl (fun h=>?_) (fun h=>?_)|refine ZZ rfl rfl rfl (fun h=>?_) (fun h=>?_)|refine ZT rfl rfl rfl (fun h=>?_) (fun h=>?_)) <;> (first|(exfalso;first|omega|contradiction)|(dsimp only [z0,z1])))|(apply ZAs;(exact oD);(with_reducible rfl))|(apply ZC;(exact oD);all_goals (intro h;try exact xD))|refine WC.ret ?_|refine ThenD.r ?_));all_goals (first|((repeat clear hK);(repeat clear Kx))))
  all_goals try (exfalso;first|contradiction|omega)
  all_goals (refine ⟨trivial,⟨_,rfl,?_⟩,_,rfl,?_⟩ <;> exact fD)
 ·have e:ZGT n=((ZBR (2 ^ n.toNat-1)).map Zv,0):=if_neg hn
  rw [e]
  obtain ⟨m,rfl⟩:=Int.eq_ofNat_of_zero_le (show 0≤n by omega)
  rw [show ((m:Int)).toNat=m from rfl]
  have hpw:∀ n:Fin 6,0<n.val->((2 ^ n.val-1:Nat)≠0/\(2 ^ n.val-1:Nat)<32):=by decide
  obtain ⟨hp0,hp1⟩:=hpw ⟨m,by omega⟩ (by simp only;omega)
  simp only at hp0 hp1
  have hshl:=ZEb ⟨m,by omega⟩
  simp only at hshl
  have hol:=ZE6 m (by omega)
  (refine ZBF Tryz.func17 rfl rfl ?_;simp only [Tryz.ntmps17,List.length_cons,List.length_nil,Nat.reduceAdd,Nat.reduceSub,List.replicate_succ,List.replicate_zero,List.cons_append,List.nil_append])
  ((repeat' (first|(apply WL.opN;exact yF;dsimp only [ZB,z0,z1])|refine WL.nil ?_|refine ZA fun Kx hK=>?_|(refine hK _ _ ?_;clear hK)|refine WC.region ?_ |  (refine Z8 (hp1:=[]) (caps:=[]) (ZGR (2 ^ m-1)) Tryz.call49 OpD.f (by (exact aD)) ?_;rintro d' hp2 ⟨vr,rfl,rfl⟩;dsimp only [ZB,z0,z1,List.cons_append,List.nil_append]) |  (refine Z8 (caps:=[]) (ZMA Tryz.call90 ((ZOg (2 ^ m-1) hp0 hp1 vr).map Zv fun x=>ZT3) (by rw [List.length_map];omega)) Tryz.call48 OpD.f (by (exact aD)) ?_;rintro d' hp2 ⟨v,rfl,rfl⟩;dsimp only [ZB,z0,z1,List.cons_append,List.nil_append])|(apply ZJ;(focus (first|exact wN|(apply ZF;(exact wY);((first|(exact ZFt hshl (by omega) OpD.i (OpD.t rfl))|(refine ZHN (c:=((2 ^ m-1:Nat):Int)) (by omega) (by omega) (OpD.t rfl) OpD.i)|((first|apply SY.move|apply SY.assign|apply SY.lss|apply SY.gtr) <;> (exact oD))|(apply ZAS;(exact oD);(with_reducible rfl);(exact oD))|fail);all_goals infer_instance))));dsimp only [ZB,z0,z1])|((first|refine Za rfl rfl rfl (fun h=>?_) (fun h=>?_)|refine ZZ rfl rfl rfl (fun h=>?_) (fun h=>?_)|refine ZT rfl rfl rfl (fun h=>?_) (fun h=>?_)) <;> (first|(exfalso;first|omega|contradiction)|(dsimp only [z0,z1])))|(apply ZC;(exact oD);all_goals (intro h;try exact xD))|refine WC.skip ?_|refine WC.ret ?_));all_goals (first|((repeat clear hK);(repeat clear Kx))))
  all_goals try (exfalso;first|contradiction|omega)
  (refine ⟨trivial,⟨_,rfl,?_⟩,_,rfl,?_⟩ <;> exact fD)
theorem ZNm {n:Nat}:∀ (bl:List Nat) (all:Nat),divN n bl all->∀ b∈bl,b<2 ^ n
 | [],_,_=>fun _ h=>by cases h
 | b::bl,all,h=>fun c hc=>by
  rcases List.mem_cons.1 hc with rfl|hc
  ·exact h.1
  ·exact ZNm bl _ h.2.2 c hc
set_option maxHeartbeats 8000000 in
theorem ZQR (s:List Vx) (l:List Int):Fn Tryz.prog 18 [dS ZE s,dS ZBt l] (dT [dS ZE (ZGD s l).1,dI (ZGD s l).2]):=by
 have hc:=ZF6 s
 by_cases h0:ZDF s=0
 ·rw [h0] at hc
  have hs:ZAJ s=0:=Classical.byContradiction fun q=>by unfold ZDF at h0;rw [if_pos q] at h0;exact q h0
  have hd:Z0 s=true:=by
   unfold ZDF at h0
   rw [if_neg (by simp [hs])] at h0
   cases h:Z0 s
   ·rw [h] at h0;simp at h0
   ·rfl
  have h8:=ZO.1 hs
  have e:ZGD s l=if ZLA l ((2 ^ s.length-1:Nat):Int)=false then ([],15) else (ZLi s (ZOV l),0):=by
   unfold ZGD
   rw [if_neg (by simp [hs]),if_neg (by simp [hd])]
  have hshl:=ZEb ⟨s.length,by omega⟩
  simp only at hshl
  have hpos:=Nat.two_pow_pos s.length
  have hp9:(2 ^ s.length:Nat)≤512:=Nat.pow_le_pow_right (n:=2) (by decide) (show s.length≤9 by omega)
  rw [e]
  (refine ZBF Tryz.func18 rfl rfl ?_;simp only [Tryz.ntmps18,List.length_cons,List.length_nil,Nat.reduceAdd,Nat.reduceSub,List.replicate_succ,List.replicate_zero,List.cons_append,List.nil_append])
  (first|refine ZS (t:=1) rfl ZFJ fun hl1=>?_|refine ZS (t:=1) rfl ZFI fun hl1=>?_|refine ZS (t:=1) rfl ZPV fun hl1=>?_);simp only [maxLen] at hl1
  (repeat' (first|(apply WL.opN;exact yF;dsimp only [ZB,z0,z1])|refine WL.nil ?_|refine ZA fun Kx hK=>?_|(refine hK _ _ ?_;clear hK)|refine WC.region ?_|(apply ZJ;(focus (first|exact wN|(apply ZF;(exact wY);((first|(apply SY.call (hc) Tryz.call50;(exact aD))|(exact ZFt hshl (by omega) OpD.i (OpD.t rfl))|(refine ZHN (c:=((2 ^ s.length-1:Nat):Int)) (by omega) (by omega) (OpD.t rfl) OpD.i)|((first|apply SY.move|apply SY.assign|apply SY.lss|apply SY.leq|apply SY.neq|apply SY.and|apply SY.andNot) <;> (exact oD))|(apply SY.len;(exact oD);(exact nD);(exact uD))|fail);all_goals infer_instance))));dsimp only [ZB,z0,z1])|(apply ZL;(exact oD);all_goals (intro h;try exact xD))|refine WC.skip ?_|refine WC.block ?_))
  all_goals try (exfalso;first|contradiction|omega)
  (refine WC.loopU (X:=Nat × Int) (fun x=>[(21,dI (x.1:Int)),(7,dI x.2),(4,dA),(5,dA),(9,dA),(22,dA),(23,dA),(24,dA),(25,dA),(26,dA),(27,dA),(28,dA),(29,dA),(30,dA),(31,dA),(32,dA),(33,dA),(34,dA),(35,dA),(36,dA),(37,dA)]) (fun x=>[]) (fun x=>l.length-x.1) (fun x=>x.1≤l.length/\ZLA l ((2 ^ s.length-1:Nat):Int)=ZLA (l.drop x.1) x.2) (0,((2 ^ s.length-1:Nat):Int)) ?start ?frame0 ?objs0 ?round)
  case start=>exact ⟨Nat.zero_le _,rfl⟩
  case frame0=>((try dsimp only [ZK,z0,z1]);repeat (first|exact LeF.nil|refine ZD (k:=?_)))
  case objs0=>rfl
  case round =>
   rintro ⟨k,r⟩ ⟨k1,k2⟩
   simp only at k1 k2
   dsimp only [ZK,z0,z1]
   by_cases hk:k<l.length
   ·rw [List.drop_eq_getElem_cons hk] at k2
    ((repeat' (first|(apply WL.opN;exact yF;dsimp only [ZB,z0,z1])|refine WL.nil ?_|refine ZA fun Kx hK=>?_|(refine hK _ _ ?_;clear hK)|refine WC.region ?_|(apply ZJ;(focus (first|exact wN|(apply ZF;(exact wY);((first|((first|apply SY.move|apply SY.assign|apply SY.lss|apply SY.leq|apply SY.neq|apply SY.and|apply SY.andNot) <;> (exact oD))|((first|apply SY.add|apply SY.sub) <;> first|exact oD|omega)|(apply ZAw;(exact eD);(exact oD);(exact oD);exact kD)|(apply Z6;(exact oD);(with_reducible rfl);(exact oD))|(apply ZAS;(exact oD);(with_reducible rfl);(exact oD))|fail);all_goals infer_instance))));dsimp only [ZB,z0,z1])|((first|refine Za rfl rfl rfl (fun h=>?_) (fun h=>?_)|refine ZZ rfl rfl rfl (fun h=>?_) (fun h=>?_)|refine ZT rfl rfl rfl (fun h=>?_) (fun h=>?_)) <;> (first|(exfalso;first|omega|contradiction)|(dsimp only [z0,z1])))|(apply ZAs;(exact oD);(with_reducible rfl))|(apply ZC;(exact oD);all_goals (intro h;try exact xD))|(apply ZL;(exact oD);all_goals (intro h;try exact xD))|refine WC.skip ?_|refine WC.ret ?_|refine WC.block ?_|refine ThenD.n ?_|refine ThenD.r ?_|refine InBlockD.r ?_));all_goals (first|((repeat clear hK);(repeat clear Kx))))
    all_goals try (exfalso;first|contradiction|omega)
    ·have hf:ZLA l ((2 ^ s.length-1:Nat):Int)=false:=by rw [k2];exact if_pos (.inl (by assumption))
     (refine ⟨trivial,⟨_,rfl,?_⟩,_,rfl,?_⟩ <;> (first|refine FinD.i ?_|refine ZB4 (by decide) ?_))
     all_goals rw [if_pos hf]
    ·have hf:ZLA l ((2 ^ s.length-1:Nat):Int)=false:=by rw [k2];exact if_pos (.inr (by assumption))
     (refine ⟨trivial,⟨_,rfl,?_⟩,_,rfl,?_⟩ <;> (first|refine FinD.i ?_|refine ZB4 (by decide) ?_))
     all_goals rw [if_pos hf]
    ·have hf:ZLA (l[k]::l.drop (k+1)) r=ZLA (l.drop (k+1)) (ZCS r l[k]):=if_neg (by
      rintro (q|q)
      ·exact (show ¬ l[k]≤0 by assumption) q
      ·exact q (by assumption))
     (refine ⟨(k+1,ZCS r l[k]),?_,by first|omega|(simp only;omega),rfl,?_⟩;rotate_left;((try dsimp only [ZK,z0,z1]);repeat (first|exact LeF.nil|refine ZD (k:=?_)));(try dsimp only))
     exact ⟨by omega,by rw [k2,hf]⟩
   ·have hkl:k=l.length:=by omega
    rw [hkl,List.drop_length] at k2
    by_cases hr:r=0
    ·have ht:ZLA l ((2 ^ s.length-1:Nat):Int)=true:=by rw [k2];exact decide_eq_true hr
     have hdR:=ZQM (n:=s.length) (by omega) l
     rw [ht] at hdR
     obtain ⟨bl,hbl0,hdn⟩:=ZTc (n:=s.length) (by omega) l 0 (Nat.two_pow_pos _) hdR
     have hbl:l=Zv bl:=hbl0
     have hbb:∀ b∈bl,b<1048576:=fun b hb=>by have:=ZNm bl 0 hdn b hb;omega
     have hfa:=ZNv (fun _=>True) (fun m=>(m:Int)) s bl (by omega) hbb (fun _ _=>trivial)
     have hpl:ZLi s (ZOV l)=Zz (fun m=>(m:Int)) s bl:=by rw [hbl];exact congrArg (ZLi s) (ZOW bl)
     rw [<- hbl] at hfa
     ((repeat' (first|(apply WL.opN;exact yF;dsimp only [ZB,z0,z1])|refine WL.nil ?_|refine ZA fun Kx hK=>?_|(refine hK _ _ ?_;clear hK)|(refine Kont.skip ?_;clear hK)|refine WC.region ?_|(apply ZJ;(focus (first|exact wN|(apply ZF;(exact wY);((first|(apply SY.call hfa Tryz.call51;exact ArgsD.cons (OpD.t rfl) (ArgsD.cons (OpD.t rfl) (ArgsD.cons ⟨ZGO Tryz.call52 fun m=>ZLQ ((m.1:Nat):Int)⟩ ArgsD.nil)))|((first|apply SY.move|apply SY.assign|apply SY.lss|apply SY.leq|apply SY.neq|apply SY.and|apply SY.andNot) <;> (exact oD))|fail);all_goals infer_instance))));dsimp only [ZB,z0,z1])|(apply ZC;(exact oD);all_goals (intro h;try exact xD))|(apply ZL;(exact oD);all_goals (intro h;try exact xD))|refine WC.skip ?_|refine WC.ret ?_|refine WC.exit ?_));all_goals (first|((repeat clear hK);(repeat clear Kx))))
     all_goals try (exfalso;first|contradiction|omega)
     (refine ⟨trivial,⟨_,rfl,?_⟩,_,rfl,?_⟩ <;> (first|refine FinD.i ?_|refine ZEF ?_))
     all_goals rw [if_neg (by rw [ht];decide)]
     all_goals first|rfl|exact hpl.symm
    ·have hf:ZLA l ((2 ^ s.length-1:Nat):Int)=false:=by rw [k2];exact decide_eq_false hr
     ((repeat' (first|(apply WL.opN;exact yF;dsimp only [ZB,z0,z1])|refine WL.nil ?_|refine ZA fun Kx hK=>?_|(refine hK _ _ ?_;clear hK)|(refine Kont.skip ?_;clear hK)|refine WC.region ?_|(apply ZJ;(focus (first|exact wN|(apply ZF;(exact wY);((first|((first|apply SY.move|apply SY.assign|apply SY.lss|apply SY.leq|apply SY.neq|apply SY.and|apply SY.andNot) <;> (exact oD))|fail);all_goals infer_instance))));dsimp only [ZB,z0,z1])|(apply ZC;(exact oD);all_goals (intro h;try exact xD))|(apply ZL;(exact oD);all_goals (intro h;try exact xD))|refine WC.ret ?_|refine WC.exit ?_|refine ThenD.r ?_));all_goals (first|((repeat clear hK);(repeat clear Kx))))
     all_goals try (exfalso;first|contradiction|omega)
     (refine ⟨trivial,⟨_,rfl,?_⟩,_,rfl,?_⟩ <;> (first|refine FinD.i ?_|refine ZB4 (by decide) ?_))
     all_goals rw [if_pos hf]
 ·have e:ZGD s l=([],ZDF s):=by
   unfold ZGD ZDF
   by_cases h1:ZAJ s≠0
   ·rw [if_pos h1,if_pos h1]
   ·rw [if_neg h1,if_neg h1]
    have hd:Z0 s=false:=by
     unfold ZDF at h0
     rw [if_neg h1] at h0
     cases h:Z0 s
     ·rfl
     ·rw [h] at h0;exact absurd rfl h0
    rw [if_pos hd,hd];rfl
  rw [e]
  (refine ZBF Tryz.func18 rfl rfl ?_;simp only [Tryz.ntmps18,List.length_cons,List.length_nil,Nat.reduceAdd,Nat.reduceSub,List.replicate_succ,List.replicate_zero,List.cons_append,List.nil_append])
  ((repeat' (first|(apply WL.opN;exact yF;dsimp only [ZB,z0,z1])|refine WL.nil ?_|refine ZA fun Kx hK=>?_|(refine hK _ _ ?_;clear hK)|refine WC.region ?_|(apply ZJ;(focus (first|exact wN|(apply ZF;(exact wY);((first|(apply SY.call (hc) Tryz.call50;(exact aD))|((first|apply SY.move|apply SY.assign|apply SY.lss|apply SY.leq|apply SY.neq|apply SY.and|apply SY.andNot) <;> (exact oD))|fail);all_goals infer_instance))));dsimp only [ZB,z0,z1])|(apply ZL;(exact oD);all_goals (intro h;try exact xD))|refine WC.ret ?_|refine ThenD.r ?_));all_goals (first|((repeat clear hK);(repeat clear Kx))))
  all_goals first|(refine ⟨trivial,⟨_,rfl,?_⟩,_,rfl,?_⟩ <;> exact fD)|(exfalso;first|contradiction|omega)
end
end Go.Proofs.YtlgmojhmmbhgfaaGreatDoor
