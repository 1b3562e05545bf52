/- Part 20: walks by contracts, and plain laws. -/
import Derived.Test.YtofkoleingbbpaaGreatDoorWa18
import Derived.Test.YtofkoleingbbpaaGreatDoorWa19
set_option linter.unusedVariables false
set_option linter.unusedSimpArgs false
set_option linter.unusedSectionVars false
set_option maxRecDepth 100000
set_option maxHeartbeats 4000000
namespace Go.Proofs.YtofkoleingbbpaaGreatDoor
section
open Go.RowKit

abbrev apO (b:Nat) (xs:List (List Vx)) (hs:List HObj):Prop:=∃ sv,hs=[Zr b 27 1 false (dX sv),Zp sv 22 ZN xs]
theorem tySj:TyI Tryz.prog 27 1 false:=⟨by kernel_rfl,Tryz.isAgg27⟩
set_option maxRecDepth 100000 in
set_option maxHeartbeats 8000000 in
theorem ZMl {gf:FuncId} {lb:List Value} {hk:List HObj} {xs:List (List Vx)} (he:ZBx Tryz.prog gf) (hS:SeqC Tryz.prog gf lb hk (fun x=>dS ZN x) xs) (hl:xs.length≤1000000) :
  CallC Tryz.prog 141 ([dX (.slice none 0 0),dX (.func (.func gf) #[] lb.toArray)]++([]:List Value).map dX) hk (fun d hp2=>∃ v,d=dX v/\hp2=Zp v 22 ZN xs::hk):=⟨fun P0 B w0 hp vs W hh hl0 hv=>by
 refine (callsIn_wide (n:=0)).1 (callsIn_of_wp_marks Tryz.func141 rfl trivial ?_ rfl)
 refine wpIn_wide.2 ?_
 have hf0:=ZCr (m:=11) hl0 hv
 have hsz:vs.toArray.size=2:=by simpa using hl0
 rw [hsz]
 have hnt:Tryz.f141.ntmps=13:=rfl
 rw [hnt]
 simp only [List.length_cons,List.length_nil,Nat.reduceAdd,Nat.reduceSub,List.replicate_succ,List.replicate_zero,List.cons_append,List.nil_append,List.map_nil] at hf0 ⊢
 refine wp_seq (Code.wp_mono ?_ (WC.on (Q:=fun e f q=>e = .normal/\∃ b,f=[dX (.slice none 0 0),dX (.func (.func gf) #[] lb.toArray),dX (.pointer (some ⟨b,0,none⟩)),dX undef,dX (.slice none 0 0),dX undef,dX undef,dX undef,dX undef,dX undef,dX undef,dX undef,dX undef]/\q=[Zr b 27 1 false (dX (.slice none 0 0)),Zp (.slice none 0 0) 22 ZN []]++(hk++hp)) ?_ hh hf0))
 rotate_left
 ·refine WC.region ?_
  refine ZF1 22 ZN ?_
  refine ZMh (OpD.t rfl) (Z1 rfl) fun b=>?_
  dsimp only [ZC,z0,z1]
  refine WL.op rfl (SY.assign OpD.x) (WL.nil ?_)
  exact ⟨rfl,b,rfl,rfl⟩
 rintro e a1 w1 ⟨f1,q1,⟨rfl,b,rfl,rfl⟩,hh1,hf1⟩
 show Code.wp _ _ _ _ _
 refine wp_seq ?_
 refine wp_seq (Code.wp_mono ?_ (WC.on (Q:=fun e f q=>e = .normal/\f=[dX (.slice none 0 0),dX (.func (.func gf) #[] lb.toArray),dX (.pointer (some ⟨b,0,none⟩)),dX undef,dX (.slice none 0 0),dX undef,dX (.func (.func gf) #[] lb.toArray),dX undef,dX undef,dX undef,dX undef,dX undef,dX undef]/\q=[Zr b 27 1 false (dX (.slice none 0 0)),Zp (.slice none 0 0) 22 ZN []]++(hk++hp)) ?_ hh1 hf1))
 rotate_left
 ·refine WC.region ?_
  refine WL.op rfl (SY.move (OpD.t rfl)) (WL.nil ?_)
  exact ⟨rfl,rfl,rfl⟩
 rintro e a2 w2 ⟨f2,q2,⟨rfl,rfl,rfl⟩,hh2,hf2⟩
 show Code.wp _ _ _ _ _
 refine wp_block ?_
 refine ZSY (hs0:=[_,_]) (hk:=hk) (hp:=hp) (xs:=xs) (D:=fun x=>dS ZN x) (apO b) _ (fun x=>[dX (.slice none 0 0),dX (.func (.func gf) #[] lb.toArray),dX (.pointer (some ⟨b,0,none⟩)),dX undef,dX (.slice none 0 0),dS ZN x,dX (.func (.func gf) #[] lb.toArray),dS ZN x,dX undef,dX undef,dX undef,dX undef,dX undef]) hh2 hf2 (OpD.t rfl) he hS ⟨_,rfl⟩ (by repeat (first|exact FixF.nil|apply FixF.x)) ?_ ?_ ?_
 ·intro l x q
  refine WR.region rfl (I.WL.op rfl (SY.assign (OpD.t rfl)) (I.WL.nil ⟨rfl,rfl,rfl⟩))
 ·rintro l pre x hs q hlt ⟨sv,rfl⟩
  refine WR.block (WR.region rfl ?_)
  refine I.WL.op rfl (ZB9 tySj (OpD.t rfl) (.head _)) ?_
  dsimp only [ZC,z0,z1,List.cons_append,List.nil_append]
  refine I.WL.op rfl (SY.move (OpD.t rfl)) ?_
  dsimp only [ZC,z0,z1]
  refine I.WL.perm (List.Perm.swap _ _ _) (I.Zm ZCF (OpD.t rfl) (OpD.t rfl) (fun _=>ZAW) (by simp) (by simp) (by decide) (by omega) fun v'=>?_)
  dsimp only [ZC,z0,z1]
  refine I.ZGi (.head _) fun ⟨ad,c,hv'⟩=>?_
  refine I.WL.perm (List.Perm.swap _ _ _) (I.ZDn tySj (OpD.t rfl) (OpD.t rfl) (Z1 (by rw [hv'];rfl)) (I.WL.nil ?_))
  exact ⟨rfl,_,⟨v',rfl⟩,rfl⟩
 ·rintro k hs w3 ⟨sv,rfl⟩ hh3 hrd
  show Code.wp _ _ _ _ _
  have hf3:Fr (Imm P0 B (ZBL k (.deferred (some []))::([Zr b 27 1 false (dX sv),Zp sv 22 ZN xs]++(hk++hp)))) w3 { tmps:=a2.tmps,defers:=[] } _:=⟨rfl,hf2.size,hrd⟩
  refine wp_seq (wp_region_lit ?_)
  refine ZEa rfl (ZB9 tySj (OpD.t rfl) (.tail _ (.head _))) hh3 hf3 fun a4 w4 hd4 hh4 hf4=>?_
  refine ZEa rfl (SY.assign (OpD.t rfl)) hh4 hf4 fun a5 w5 hd5 hh5 hf5=>?_
  refine wpList_nil ?_
  show Code.wp _ _ _ _ _
  refine wp_ret ?_
  show LeavesInM _ _ _ _ _ _ _ _ _
  rw [hd5,hd4,hf2.defers]
  have hK:w5.heap[k]?=some (.deferred (some [])):=hh5.ok (ZBL k (.deferred (some []))) (by simp)
  refine ⟨by simp,.inl ⟨_,_,rfl,run_takeDeferred hK,_,results_tmp rfl _ _ _,?_⟩⟩
  have hh6:=(Hp.putObj (o':=.deferred none) hh5).drop.drop
  exact ⟨_,dX sv,Zp sv 22 ZN xs::hk,rfl,⟨sv,rfl,rfl⟩,hh6,hf5.rd 4 _ rfl⟩⟩
theorem ZQj {gf:FuncId} {lb:List Value} {hk:List HObj} {xs:List (List Vx)} (he:ZBx Tryz.prog gf) (hS:SeqC Tryz.prog gf lb hk (fun x=>dS ZN x) xs) (hl:xs.length≤1000000) :
  CallC Tryz.prog 112 ([dX (.func (.func gf) #[] lb.toArray)]++([]:List Value).map dX) hk (fun d hp2=>∃ v,d=dX v/\hp2=Zp v 22 ZN xs::hk):=by
 (refine ZAy Tryz.func112 rfl rfl (fun hp=>?_);simp only [Tryz.ntmps112,List.length_cons,List.length_nil,List.length_append,List.length_map,Nat.reduceAdd,Nat.reduceSub,List.replicate_succ,List.replicate_zero,List.cons_append,List.nil_append,List.map_cons,List.map_nil,List.append_assoc])
 ((repeat' (first|(apply WL.opN;exact yF;dsimp only [ZC,z0,z1])|refine WL.nil ?_|refine ZA fun Kx hK=>?_|(refine hK _ _ ?_;clear hK)|refine WC.region ?_ |  (refine WL.callC (caps:=[]) (ZMl he hS hl) Tryz.call141 OpD.f (by (exact aD)) ?_;rintro d' hp2 ⟨v,rfl,rfl⟩;dsimp only [ZC,z0,z1,List.cons_append,List.nil_append])|refine WC.ret ?_));all_goals (first|((repeat clear hK);(repeat clear Kx))))
 exact ⟨trivial,_,_::hk,rfl,rfl,v,rfl,rfl⟩

theorem ZGl {s:List Vx} (h:Z5 s=0):s.length≤8:=by
 unfold Z5 at h
 split at h
 ·cases h
 ·split at h
  ·cases h
  ·omega
theorem ZJx (s:List Vx) (k:Int):Fn Tryz.prog 68 [dS ZN s,dI k] (dT [dS Zo (ZEd s k).1,dI (ZEd s k).2]):=by
 (refine ZAF Tryz.func68 rfl rfl ?_;simp only [Tryz.ntmps68,List.length_cons,List.length_nil,Nat.reduceAdd,Nat.reduceSub,List.replicate_succ,List.replicate_zero,List.cons_append,List.nil_append])
 ((repeat' (first|(apply WL.opN;exact yF;dsimp only [ZC,z0,z1])|refine WL.nil ?_|refine ZA fun Kx hK=>?_|(refine hK _ _ ?_;clear hK)|refine WC.region ?_ |  (refine WL.callC (hp1:=[]) (caps:=[]) (ZVT k.toNat s) Tryz.call113 OpD.f (by (exact aD)) ?_;rintro d' hp2 ⟨vk,vs,rfl,rfl⟩;dsimp only [ZC,z0,z1,List.cons_append,List.nil_append]) |  (refine WL.callC (caps:=[]) (ZQj Tryz.call142 (seq_c k.toNat s (by have:=ZGl (by assumption);omega) (by have:=ZGl (by assumption);omega) vk vs) (by have:=ZGl (by assumption);have:=ZA9 k.toNat s;have:2 ^ s.length≤2 ^ 8:=Nat.pow_le_pow_right (by decide) (by omega);omega)) Tryz.call112 OpD.f (by (exact aD)) ?_;rintro d' hp2 ⟨v,rfl,rfl⟩;dsimp only [ZC,z0,z1,List.cons_append,List.nil_append])|(apply ZF;(focus (first|exact wN|(apply SYG.yes;(exact wY);((first|(apply SY.call (ZOl _) Tryz.call39;(exact aD))|exact ZB5|exact ZA1|exact ZEi|exact ZFW|exact ZAk|exact ZBT|fail);all_goals infer_instance))));dsimp only [ZC,z0,z1])|((first|refine ZJ rfl rfl rfl (fun h=>?_) (fun h=>?_)|refine ZI rfl rfl rfl (fun h=>?_) (fun h=>?_)|refine ZH rfl rfl rfl (fun h=>?_) (fun h=>?_)) <;> (first|(exfalso;first|omega|contradiction)|(dsimp only [z0,z1])))|(apply Zb;(exact oD);(with_reducible rfl))|(apply ZB;(exact oD);all_goals (intro h;try exact xD))|(apply ZG;(exact oD);all_goals (intro h;try exact xD))|refine WC.skip ?_|refine WC.ret ?_|refine ThenD.r ?_));all_goals (first|((repeat clear hK);(repeat clear Kx))))
 ·have e1:ZEd s k=([],Z5 s):=by unfold ZEd;rw [if_pos h]
  rw [e1];(refine ⟨trivial,⟨_,rfl,?_⟩,_,rfl,?_⟩ <;> exact fD)
 ·have e1:ZEd s k=([],2):=by unfold ZEd;rw [if_neg (by simpa),if_pos (.inl h)]
  rw [e1];(refine ⟨trivial,⟨_,rfl,?_⟩,_,rfl,?_⟩ <;> exact fD)
 ·have e1:ZEd s k=([],2):=by unfold ZEd;rw [if_neg (by simpa),if_pos (.inr h)]
  rw [e1];(refine ⟨trivial,⟨_,rfl,?_⟩,_,rfl,?_⟩ <;> exact fD)
 ·have e1:ZEd s k=(Za k.toNat s,0):=by unfold ZEd;rw [if_neg (by simpa),if_neg (by omega)]
  rw [e1];(refine ⟨trivial,⟨_,rfl,?_⟩,_,rfl,?_⟩ <;> exact fD)
end
section
open Go.RowKit

section
variable {P:Program} {f:FuncId} {fn:Func} {c:Code} {t u:Tmp} {ds:List Dat} {hp1:List HObj} {K:Dat->List HObj->Prop}
def ZWv (t u:Nat) (K:Dat->List HObj->Prop) (hp:List HObj):Z6:=fun e f q=>(match e with|.normal|.ret=>True|_=>False)/\∃ d d' hp2,f[t]?=some d/\f[u]?=some d'/\q=hp2++hp/\K (dT [d,d']) hp2
theorem ZKt (hf:P.funcs[f]?=some fn) (hb:fn.body=some c) (hr:fn.results=#[.tmp t,.tmp u])
  (h:∀ hp,WC P (ZWv t u K hp) c (ds++List.replicate (fn.ntmps-ds.length) (dX undef)) (hp1++hp)):CallC P f ds hp1 K:=⟨fun P0 B w0 hp vs W hh hl hv=>by
 refine calls_of_wp hf hb ?_
 have hf0:=ZCr (m:=fn.ntmps-ds.length) hl hv
 have hsz:vs.toArray.size=ds.length:=by simp [hl]
 rw [hsz]
 refine Code.wp_mono (fun e a' w' ⟨f',p',q,hh',hf'⟩=>?_) ((h hp).on hh hf0)
 obtain ⟨hx,d,d',hp2,hd,hd',rfl,hk'⟩:=q
 have hv:=hf'.rd t d hd
 have hv':=hf'.rd u d' hd'
 have hT:(dT [d,d']).rd (Imm P0 B (hp2++hp)) w' (.tuple #[a'.tmps.getD t undef,a'.tmps.getD u undef]):=⟨[a'.tmps.getD t undef,a'.tmps.getD u undef],rfl,rfl,fun i e x he hx=>by
  match i,he,hx with
  | 0,he,hx=>cases he;cases hx;exact hv
  | 1,he,hx=>cases he;cases hx;exact hv'⟩
 cases e with
 | normal=>exact ⟨hf'.defers,_,results_tmp2 hr _ _ _,_,_,hp2,rfl,hk',hh',hT⟩
 | ret=>exact ⟨hf'.defers,_,results_tmp2 hr _ _ _,_,_,hp2,rfl,hk',hh',hT⟩
 | _=>exact hx.elim⟩
end
theorem ZLq:MapT Tryz.prog 200 202 4 (.bool false):=⟨Tryz.underlying200,fun w=>by kernel_rfl⟩
abbrev vvB (b:Bool):Value:=.bool b
abbrev ZUr (o:Cx):List (List Vx × Bool):=o.map fun f=>(f,true)
abbrev ZW0 (b:Nat) (o:Cx):HObj:=hM b kvK vvB (ZUr o)
theorem ZMC (o:Cx):(ZUr o).map (·.1)=o:=by unfold ZUr;rw [List.map_map];exact List.map_id _
theorem ZRH (o:Cx) (f:List Vx):((lookM (ZUr o) f).map vvB).getD (.bool false) = .bool (decide (f∈o)):=by
 unfold lookM ZUr
 by_cases h:f∈o
 ·rw [decide_eq_true h]
  have:∃ q,(o.map fun f=>(f,true)).find? (fun p=>decide (p.1=f))=some q/\q.2=true:=by
   have h1:((o.map fun f=>(f,true)).find? (fun p=>decide (p.1=f))).isSome:=by
    rw [List.find?_isSome]
    exact ⟨(f,true),List.mem_map_of_mem h,by simp⟩
   obtain ⟨q,hq⟩:=Option.isSome_iff_exists.1 h1
   refine ⟨q,hq,?_⟩
   obtain ⟨x,_,rfl⟩:=List.mem_map.1 (List.mem_of_find?_eq_some hq)
   rfl
  obtain ⟨q,hq,hq2⟩:=this
  rw [hq];simp [hq2]
 ·rw [decide_eq_false h]
  have:(o.map fun f=>(f,true)).find? (fun p=>decide (p.1=f))=none:=by
   rw [List.find?_eq_none]
   intro p hp
   obtain ⟨x,hx,rfl⟩:=List.mem_map.1 hp
   simp only [decide_eq_true_eq]
   intro e;exact h (e ▸ hx)
  rw [this];rfl
theorem ZN5 {s:List Vx} (h:Z5 s=0):okK s:=⟨ZIL h,fun v hv=>⟨ZTn h v hv,(ZOH.1 ((Ze.1 h).2.2.1 v hv)).1⟩⟩
section
variable {ops:Array Oper} {hp:List HObj} {fr:List Dat} {d:Dat} {Q:Z6} {rest:List Oper} {dst:Option Tmp} {ty:TypeId} {ps:String} {af:Array Edge} {g:Option (Nat × Bool)} {b:Nat} {o:Cx} {f:List Vx}
theorem ZOU {x y:Operand} (hx:OpD fr x (dX (.map (some b)))) (hm:ZW0 b o∈hp) (hy:OpD fr y (dX (kvK f))) (hf:okK f) (ho:∀ g∈o,okK g) (hn:o.Nodup) :
  SY Tryz.prog ops hp ⟨dst,.lookup 200 x y false,ty,ps,af,g⟩ fr (dB (decide (f∈o))):=by
 have h:=SY.lookM (dst:=dst) (ty:=ty) (ps:=ps) (af:=af) (g:=g) (ops:=ops) ZLq ZUe hx hm hy isX hf (fun p hp=>by obtain ⟨x,hx,rfl⟩:=List.mem_map.1 hp;exact ho x hx) (by rw [ZMC];exact hn)
 rw [ZRH] at h
 exact h
theorem ZQE {x y c:Operand} (hx:OpD fr x (dX (.map (some b)))) (hy:OpD fr y (dX (kvK f))) (hc:OpD fr c (dX (.bool true))) (hf:okK f) (ho:∀ g∈o,okK g) (hn:o.Nodup) (hnew:f∉o)
  (h:WL Tryz.prog ops Q rest (ZC fr dst (dX undef)) (ZW0 b (o++[f])::hp)) :
  WL Tryz.prog ops Q (⟨dst,.mapUpdate 200 x y c,ty,ps,af,none⟩::rest) fr (ZW0 b o::hp):=by
 refine ZCB (u:=true) ZLq ZUe hx hy isX hc ⟨fun _ _ _ h=>h⟩ hf (fun p hp=>by obtain ⟨x,hx,rfl⟩:=List.mem_map.1 hp;exact ho x hx) (by rw [ZMC];exact hn) ?_
 have e:ZCy (ZUr o) f true=ZUr (o++[f]):=by
  rw [ZER (fun p hp=>by obtain ⟨x,hx,rfl⟩:=List.mem_map.1 hp;intro e;exact hnew (e ▸ hx))]
  simp [ZUr]
 rw [e];exact h
end
theorem ZQv {l:Cx} (h:∀ s∈l,Z5 s=0) {k:Nat} (hk:0<k) {n:Nat} (hn:n≤l.length):∀ f∈ZMX (l.take n) k,Z5 f=0:=fun f hf=>by
 obtain ⟨s,hs,hf⟩:=ZCf.1 (((ZFK l k n hn).2 f).1 hf)
 exact (ZBZ (h s (List.mem_of_mem_take hs)) hk hf).1
def ZCc (l:Cx) (k:Nat):Prop:=4096<(ZAt l k).length
set_option maxHeartbeats 8000000 in
theorem ZVU (l:Cx) (k:Nat) (hk:0<k) (hg:∀ s∈l,Z5 s=0) (hl:l.length≤1000000):CallC Tryz.prog 131 [dS Zo l,dI (k:Int)] []
  (fun d hp2=>(ZCc l k/\d=dT [dX (.slice none 0 0),dI 17]/\hp2=[])\/(¬ ZCc l k/\∃ v,d=dT [dX v,dI 0]/\hp2=[Zp v 22 ZN (ZAt l k)])):=by
 refine ZFn (K:=fun d hp2=>(ZCc l k/\d=dT [dX (.slice none 0 0),dI 17])\/(¬ ZCc l k/\∃ v o,d=dT [dX v,dI 0]/\hp2=[Zp v 22 ZN (ZAt l k),o])) ?_ ?_
 rotate_left
 ·rintro d hp2 (⟨h1,h2⟩|⟨h1,v,o,h2,rfl⟩)
  ·exact ⟨hp2,[],by simp,.inl ⟨h1,h2,rfl⟩⟩
  ·exact ⟨[o],[_],List.Perm.swap _ _ _,.inr ⟨h1,v,h2,rfl⟩⟩
 refine ZKt Tryz.func131 rfl rfl (fun hp=>?_)
 simp only [Tryz.ntmps131,List.length_cons,List.length_nil,Nat.reduceAdd,Nat.reduceSub,List.replicate_succ,List.replicate_zero,List.cons_append,List.nil_append]
 (repeat' (first|(apply WL.opN;exact yF;dsimp only [ZC,z0,z1])|refine WL.nil ?_|refine ZA fun Kx hK=>?_|(refine hK _ _ ?_;clear hK)|refine WC.region ?_ |  (refine WL.makeMap kvK vvB fun b=>?_;dsimp only [ZC,z0,z1])|(apply WL.opN;(focus ((first|exact ZAk|fail);all_goals infer_instance));dsimp only [ZC,z0,z1])|refine WC.block ?_))
 refine Zt 22 ZN ?_
 (refine WC.loopU (X:=Nat × Value × Cx) (fun x=>[(17,dI (x.1:Int)),(7,dX x.2.1),(4,dA),(5,dA),(9,dA),(10,dA),(11,dA),(13,dA),(18,dA),(19,dA),(20,dA),(21,dA),(22,dA),(23,dA),(24,dA),(25,dA),(26,dA),(27,dA),(28,dA),(29,dA),(30,dA),(31,dA),(32,dA),(33,dA),(34,dA),(35,dA),(36,dA),(37,dA),(38,dA),(39,dA),(40,dA),(41,dA),(42,dA),(43,dA),(44,dA),(45,dA),(46,dA),(47,dA),(48,dA),(49,dA),(50,dA),(51,dA),(52,dA),(53,dA),(54,dA),(55,dA),(56,dA)]) (fun x=>(Zp x.2.1 22 ZN x.2.2::ZW0 b x.2.2::hp)) (fun x=>l.length-x.1) (fun x=>x.1≤l.length/\x.2.2=ZMX (l.take x.1) k/\x.2.2.length≤4096) (0,.slice none 0 0,[]) ?start ?frame0 ?objs0 ?round)
 case start=>exact ⟨Nat.zero_le _,rfl,Nat.zero_le _⟩
 case frame0=>((try dsimp only [ZK,z0,z1]);repeat (first|exact LeF.nil|refine ZD (k:=?_)))
 case objs0=>rfl
 case round =>
  rintro ⟨i,v,o⟩ ⟨h1,h2,h3⟩
  simp only at h1 h2 h3
  dsimp only [ZK,z0,z1]
  by_cases hil:i<l.length
  ·by_cases hks:l[i].length<k
   ·((repeat' (first|(apply WL.opN;exact yF;dsimp only [ZC,z0,z1])|refine WL.nil ?_|refine ZA fun Kx hK=>?_|(refine hK _ _ ?_;clear hK)|(refine Kont.skip ?_;clear hK)|refine WC.region ?_|(apply WL.opN;(focus ((first|exact ZA1|exact ZBN|exact ZAk|exact ZV|fail);all_goals infer_instance));dsimp only [ZC,z0,z1])|(apply ZB;(exact oD);all_goals (intro h;try exact xD))|refine WC.skip ?_|refine WC.exit ?_|refine WC.block ?_|refine ThenD.n ?_));all_goals (first|((repeat clear hK);(repeat clear Kx))))
    (refine ⟨(i+1,v,o),?_,by first|omega|(simp only;omega),rfl,?_⟩;rotate_left;((try dsimp only [ZK,z0,z1]);repeat (first|exact LeF.nil|refine ZD (k:=?_)));(try dsimp only))
    refine ⟨by omega,?_,h3⟩
    show o=_
    rw [ZH9 hil,if_pos hks,h2]
   ·have hgi:=hg _ (List.getElem_mem hil)
    have hF:Fn Tryz.prog 68 [dS ZN l[i],dI (k:Int)] (dT [dS Zo (Za k l[i]),dI 0]):=by
     have:=ZJx l[i] (k:Int)
     rwa [ZFt hgi hk (by omega)] at this
    have hlen:(Za k l[i]).length≤256:=Nat.le_trans (ZA9 k l[i]) (Nat.pow_le_pow_right (by decide) (ZIL hgi):2 ^ l[i].length≤2 ^ 8)
    (repeat' (first|(apply WL.opN;exact yF;dsimp only [ZC,z0,z1])|refine WL.nil ?_|refine ZA fun Kx hK=>?_|(refine hK _ _ ?_;clear hK)|refine WC.region ?_|(apply WL.opN;(focus ((first|(apply SY.call (hF) Tryz.call68;(exact aD))|exact ZA1|exact ZFW|exact ZAk|exact ZV|exact ZFV|fail);all_goals infer_instance));dsimp only [ZC,z0,z1])|(apply ZB;(exact oD);all_goals (intro h;try exact xD))|(apply ZG;(exact oD);all_goals (intro h;try exact xD))|refine WC.skip ?_|refine WC.block ?_))
    (refine WC.loopU (X:=Nat × Value × Cx) (fun x=>[(36,dI (x.1:Int)),(7,dX x.2.1),(13,dA),(37,dA),(38,dA),(39,dA),(40,dA),(41,dA),(42,dA),(43,dA),(44,dA),(45,dA),(46,dA),(47,dA),(48,dA),(49,dA),(50,dA),(51,dA),(52,dA)]) (fun x=>(Zp x.2.1 22 ZN x.2.2::ZW0 b x.2.2::hp)) (fun x=>(Za k l[i]).length-x.1) (fun x=>x.1≤(Za k l[i]).length/\x.2.2=ZKr o ((Za k l[i]).take x.1)) (0,v,o) ?start ?frame0 ?objs0 ?round)
    case start=>exact ⟨Nat.zero_le _,rfl⟩
    case frame0=>((try dsimp only [ZK,z0,z1]);repeat (first|exact LeF.nil|refine ZD (k:=?_)))
    case objs0=>rfl
    case round =>
     rintro ⟨j,v',o'⟩ ⟨g1,g2⟩
     simp only at g1 g2
     have hol:o'.length≤5000:=by
      have:=(ZTk ((Za k l[i]).take j) o).2
      rw [<- g2,List.length_take] at this
      omega
     have hmem:∀ f∈o',Z5 f=0:=fun f hf=>by
      rw [g2,ZKH] at hf
      rcases hf with hf|hf
      ·rw [h2] at hf;exact ZQv hg hk h1 f hf
      ·exact (ZBZ hgi hk (List.mem_of_mem_take hf)).1
     have hnd:o'.Nodup:=by
      rw [g2];refine ZGv ?_
      rw [h2];exact (ZFK l k i h1).1
     dsimp only [ZK,z0,z1]
     by_cases hjl:j<(Za k l[i]).length
     ·have hfj:=(ZBZ hgi hk (List.getElem_mem hjl)).1
      ((repeat' (first|(apply WL.opN;exact yF;dsimp only [ZC,z0,z1])|refine WL.nil ?_|refine ZA fun Kx hK=>?_|(refine hK _ _ ?_;clear hK)|refine WC.region ?_ |  (refine WL.perm (List.Perm.swap _ _ _) ?_;refine ZQE (OpD.t rfl) (OpD.t rfl) OpD.x (ZN5 hfj) (fun g hg=>ZN5 (hmem g hg)) hnd (by assumption) ?_;refine WL.perm (List.Perm.swap _ _ _) ?_;dsimp only [ZC,z0,z1])|((first|apply Zv|apply Zm);(exact eD);exact OpD.t rfl;(exact oD);(intro _;exact hD);(exact (by simp));(exact (by simp));(first|exact ⟨by decide,by decide⟩|skip);decide;(exact lD);(intro _;dsimp only [ZC,z0,z1]);all_goals (try infer_instance))|(apply WL.opN;(focus ((first|(apply SY.call (ZVg _ (ZIL hfj)) Tryz.call153;(exact aD))|(refine ZOU (OpD.t rfl) (.tail _ (.head _)) (OpD.t rfl) (ZN5 hfj) (fun g hg=>ZN5 (hmem g hg)) hnd)|exact ZA1|exact ZHk|exact ZBN|exact ZV|fail);all_goals infer_instance));dsimp only [ZC,z0,z1])|(apply ZB;(exact oD);all_goals (intro h;try exact xD))|(apply ZG;(exact oD);all_goals (intro h;try exact xD))|refine WC.skip ?_|refine WC.block ?_|refine ThenD.n ?_));all_goals (first|((repeat clear hK);(repeat clear Kx))))
      ·rename_i v''
       (refine ⟨(j+1,v'',o'++[(Za k l[i])[j]]),?_,by first|omega|(simp only;omega),rfl,?_⟩;rotate_left;((try dsimp only [ZK,z0,z1]);repeat (first|exact LeF.nil|refine ZD (k:=?_)));(try dsimp only))
       refine ⟨by omega,?_⟩
       show o'++_=_
       rw [ZLs hjl,<- g2,if_neg h]
      ·(refine ⟨(j+1,v',o'),?_,by first|omega|(simp only;omega),rfl,?_⟩;rotate_left;((try dsimp only [ZK,z0,z1]);repeat (first|exact LeF.nil|refine ZD (k:=?_)));(try dsimp only))
       refine ⟨by omega,?_⟩
       show o'=_
       rw [ZLs hjl,<- g2,if_pos h]
     ·rw [List.take_of_length_le (by omega)] at g2
      have g3:o'=ZMX (l.take (i+1)) k:=by rw [ZH9 hil,if_neg hks,<- h2,g2]
      ((repeat' (first|(apply WL.opN;exact yF;dsimp only [ZC,z0,z1])|refine WL.nil ?_|refine ZA fun Kx hK=>?_|(refine hK _ _ ?_;clear hK)|(refine Kont.skip ?_;clear hK)|refine WC.region ?_|(apply WL.opN;(focus ((first|exact ZA1|exact ZEi|exact ZBN|exact ZAk|fail);all_goals infer_instance));dsimp only [ZC,z0,z1])|(apply ZB;(exact oD);all_goals (intro h;try exact xD))|refine WC.skip ?_|refine WC.ret ?_|refine WC.exit ?_|refine ThenD.n ?_|refine ThenD.r ?_|refine InBlockD.r ?_));all_goals (first|((repeat clear hK);(repeat clear Kx))))
      ·refine ⟨trivial,_,_,[_,_],rfl,rfl,rfl,.inl ⟨?_,rfl⟩⟩
       have:=ZQw (l:=l) (k:=k) (n:=i+1) (by omega)
       unfold ZCc
       rw [<- g3] at this
       omega
      ·(refine ⟨(i+1,v',o'),?_,by first|omega|(simp only;omega),rfl,?_⟩;rotate_left;((try dsimp only [ZK,z0,z1]);repeat (first|exact LeF.nil|refine ZD (k:=?_)));(try dsimp only))
       exact ⟨by omega,g3,by omega⟩
  ·have hil':i=l.length:=by omega
   subst hil'
   rw [List.take_length] at h2
   ((repeat' (first|(apply WL.opN;exact yF;dsimp only [ZC,z0,z1])|refine WL.nil ?_|refine ZA fun Kx hK=>?_|(refine hK _ _ ?_;clear hK)|(refine Kont.skip ?_;clear hK)|refine WC.region ?_ |  (apply ZS7;exact OpD.t rfl;omega;intro ys hperm hsort;dsimp only [ZC,z0,z1])|(apply WL.opN;(focus ((first|exact ZA1|fail);all_goals infer_instance));dsimp only [ZC,z0,z1])|(apply ZB;(exact oD);all_goals (intro h;try exact xD))|refine WC.ret ?_|refine WC.exit ?_));all_goals (first|((repeat clear hK);(repeat clear Kx))))
   have hys:ys=ZAt l k:=ZPQ (by rw [<- h2];exact hperm) hsort
   have hlen:=ZTY l k l.length (Nat.le_refl _)
   rw [List.take_length,<- h2] at hlen
   subst hys
   refine ⟨trivial,_,_,[_,_],rfl,rfl,rfl,.inr ⟨?_,v,_,rfl,rfl⟩⟩
   unfold ZCc
   omega
end
section
open Go.RowKit

theorem FinD.t2 {hp:List HObj} {a b a' b':Dat} (h:FinD hp a a') (k:FinD hp b b'):FinD hp (dT [a,b]) (dT [a',b']):=FinD.mk fun {P0 B w0 w v} hh hd=>by
 obtain ⟨vs,rfl,hl,hv⟩:=hd
 match vs,hl with
 | [x,y],_ =>
  refine ⟨[x,y],rfl,rfl,fun i d u hd hu=>?_⟩
  match i,hd,hu with
  | 0,hd,hu=>cases hd;cases hu;exact h.out hh (hv 0 _ _ rfl rfl)
  | 1,hd,hu=>cases hd;cases hu;exact k.out hh (hv 1 _ _ rfl rfl)
instance (l:Cx) (k:Nat):Decidable (ZCc l k):=inferInstanceAs (Decidable (4096<(ZAt l k).length))
theorem ZNi (l:Cx) (k:Nat) (hk:0<k) (hg:∀ s∈l,Z5 s=0) (hl:l.length≤1000000):Fn Tryz.prog 131 [dS Zo l,dI (k:Int)] (dT [dS Zo (if ZCc l k then [] else ZAt l k),dI (if ZCc l k then 17 else 0)]) :=
 ZNL (ZVU l k hk hg hl) (by
  rintro d hp2 (⟨h,rfl,rfl⟩|⟨h,v,rfl,rfl⟩)
  ·rw [if_pos h,if_pos h];exact FinD.t2 (FinD.le ZO) (FinD.le (Dat.le_refl _))
  ·rw [if_neg h,if_neg h];exact FinD.t2 (FinD.row (.head _)) (FinD.le (Dat.le_refl _)))
theorem ZKd (l:Cx) (k:Int):Fn Tryz.prog 98 [dS Cpx l,dI k] (dT [dS Zo (ZDA l k).1,dI (ZDA l k).2]):=by
 (refine ZAF Tryz.func98 rfl rfl ?_;simp only [Tryz.ntmps98,List.length_cons,List.length_nil,Nat.reduceAdd,Nat.reduceSub,List.replicate_succ,List.replicate_zero,List.cons_append,List.nil_append])
 by_cases h0:ZAl l=0
 ·have hg:=ZAA.1 h0
  by_cases hk:1≤k/\k≤8
  ·have hk':((k.toNat:Nat):Int)=k:=by omega
   have hc:=ZNi l k.toNat (by omega) hg.2.2.1 hg.len
   rw [hk'] at hc
   ((repeat' (first|(apply WL.opN;exact yF;dsimp only [ZC,z0,z1])|refine WL.nil ?_|refine ZA fun Kx hK=>?_|(refine hK _ _ ?_;clear hK)|refine WC.region ?_|(apply ZF;(focus (first|exact wN|(apply SYG.yes;(exact wY);((first|(apply SY.call (ZDU _) Tryz.call43;(exact aD))|(apply SY.call (hc) Tryz.call131;(exact aD))|exact ZB5|exact ZA1|exact ZEi|exact ZFW|exact Zy|exact ZBT|exact ZFV|exact ZDO|fail);all_goals infer_instance))));dsimp only [ZC,z0,z1])|((first|refine ZJ rfl rfl rfl (fun h=>?_) (fun h=>?_)|refine ZI rfl rfl rfl (fun h=>?_) (fun h=>?_)|refine ZH rfl rfl rfl (fun h=>?_) (fun h=>?_)) <;> (first|(exfalso;first|omega|contradiction)|(dsimp only [z0,z1])))|(apply ZB;(exact oD);all_goals (intro h;try exact xD))|(apply ZG;(exact oD);all_goals (intro h;try exact xD))|refine WC.skip ?_|refine WC.ret ?_));all_goals (first|((repeat clear hK);(repeat clear Kx))))
   unfold ZDA;rw [if_neg (by omega),if_neg (by omega)]
   by_cases ht:ZCc l k.toNat
   ·rw [if_pos ht,if_pos ht,if_pos (show 4096<(ZAt l k.toNat).length from ht)];(refine ⟨trivial,⟨_,rfl,?_⟩,_,rfl,?_⟩ <;> exact fD)
   ·rw [if_neg ht,if_neg ht,if_neg (show ¬ 4096<(ZAt l k.toNat).length from ht)];(refine ⟨trivial,⟨_,rfl,?_⟩,_,rfl,?_⟩ <;> exact fD)
  ·have e:ZDA l k=([],2):=by unfold ZDA;rw [if_neg (by omega),if_pos (by omega)]
   ((repeat' (first|(apply WL.opN;exact yF;dsimp only [ZC,z0,z1])|refine WL.nil ?_|refine ZA fun Kx hK=>?_|(refine hK _ _ ?_;clear hK)|refine WC.region ?_|(apply ZF;(focus (first|exact wN|(apply SYG.yes;(exact wY);((first|(apply SY.call (ZDU _) Tryz.call43;(exact aD))|exact ZB5|exact ZA1|exact ZEi|exact ZFW|exact ZBT|exact ZDO|fail);all_goals infer_instance))));dsimp only [ZC,z0,z1])|((first|refine ZJ rfl rfl rfl (fun h=>?_) (fun h=>?_)|refine ZI rfl rfl rfl (fun h=>?_) (fun h=>?_)|refine ZH rfl rfl rfl (fun h=>?_) (fun h=>?_)) <;> (first|(exfalso;first|omega|contradiction)|(dsimp only [z0,z1])))|(apply Zb;(exact oD);(with_reducible rfl))|(apply ZB;(exact oD);all_goals (intro h;try exact xD))|(apply ZG;(exact oD);all_goals (intro h;try exact xD))|refine WC.skip ?_|refine WC.ret ?_|refine ThenD.r ?_));all_goals (first|((repeat clear hK);(repeat clear Kx))))
   all_goals (rw [e];(refine ⟨trivial,⟨_,rfl,?_⟩,_,rfl,?_⟩ <;> exact fD))
 ·have e:ZDA l k=([],ZAl l):=by unfold ZDA;rw [if_pos h0]
  ((repeat' (first|(apply WL.opN;exact yF;dsimp only [ZC,z0,z1])|refine WL.nil ?_|refine ZA fun Kx hK=>?_|(refine hK _ _ ?_;clear hK)|refine WC.region ?_|(apply ZF;(focus (first|exact wN|(apply SYG.yes;(exact wY);((first|(apply SY.call (ZDU _) Tryz.call43;(exact aD))|exact ZFW|exact ZDO|fail);all_goals infer_instance))));dsimp only [ZC,z0,z1])|(apply ZG;(exact oD);all_goals (intro h;try exact xD))|refine WC.ret ?_|refine ThenD.r ?_));all_goals (first|((repeat clear hK);(repeat clear Kx))))
  all_goals (rw [e];(refine ⟨trivial,⟨_,rfl,?_⟩,_,rfl,?_⟩ <;> exact fD))
theorem ZGB (l:Cx):Fn Tryz.prog 97 [dS Cpx l] (dT [dI (ZBj l).1,dI (ZBj l).2]):=by
 (refine ZAF Tryz.func97 rfl rfl ?_;simp only [Tryz.ntmps97,List.length_cons,List.length_nil,Nat.reduceAdd,Nat.reduceSub,List.replicate_succ,List.replicate_zero,List.cons_append,List.nil_append])
 by_cases h0:ZAl l=0
 ·have hg:=ZAA.1 h0
  have g6:∀ k,(ZAt l k).length≤2000000:=fun k=>by
   have:=ZFC l k l.length hg.short (Nat.le_refl _)
   rw [List.take_length] at this
   have:=hg.1
   omega
  (repeat' (first|(apply WL.opN;exact yF;dsimp only [ZC,z0,z1])|refine WL.nil ?_|refine ZA fun Kx hK=>?_|(refine hK _ _ ?_;clear hK)|refine WC.region ?_|(apply WL.opN;(focus ((first|(apply SY.call (ZDU _) Tryz.call43;(exact aD))|exact ZFW|exact ZDO|fail);all_goals infer_instance));dsimp only [ZC,z0,z1])|(apply ZG;(exact oD);all_goals (intro h;try exact xD))|refine WC.skip ?_|refine WC.block ?_))
  (refine WC.loopU (X:=Nat × Int) (fun x=>[(6,dI ((x.1:Int)+1)),(5,dI x.2),(2,dA),(3,dA),(7,dA),(8,dA),(14,dA),(15,dA),(16,dA),(17,dA),(18,dA),(19,dA),(20,dA),(21,dA),(22,dA),(23,dA),(24,dA),(25,dA),(26,dA),(27,dA),(28,dA),(29,dA),(30,dA),(31,dA),(32,dA),(33,dA),(34,dA),(35,dA),(36,dA),(37,dA),(38,dA)]) (fun x=>[]) (fun x=>8-x.1) (fun x=>x.1≤8/\x.2=ZIt l x.1/\(List.range x.1).any (fun k=>decide (4096<(ZAt l (k+1)).length))=false) (0,0) ?start ?frame0 ?objs0 ?round)
  case start=>exact ⟨Nat.zero_le _,rfl,rfl⟩
  case frame0=>((try dsimp only [ZK,z0,z1]);repeat (first|exact LeF.nil|refine ZD (k:=?_)))
  case objs0=>rfl
  case round =>
   rintro ⟨k,m⟩ ⟨h1,h5,h2⟩
   simp only at h1 h2 h5
   have hc:Fn Tryz.prog 131 [dS Zo l,dI ((k:Int)+1)] (dT [dS Zo (if ZCc l (k+1) then [] else ZAt l (k+1)),dI (if ZCc l (k+1) then 17 else 0)]):=ZNi l (k+1) (by omega) hg.2.2.1 hg.len
   have h3:=ZJw l g6 k
   rw [<- h5] at h3
   have h4:=g6 (k+1)
   dsimp only [ZK,z0,z1]
   by_cases hk8:k<8
   ·by_cases ht:ZCc l (k+1)
    ·rw [if_pos ht,if_pos ht] at hc
     ((repeat' (first|(apply WL.opN;exact yF;dsimp only [ZC,z0,z1])|refine WL.nil ?_|refine ZA fun Kx hK=>?_|(refine hK _ _ ?_;clear hK)|refine WC.region ?_|(apply WL.opN;(focus ((first|(apply SY.call (hc) Tryz.call131;(exact aD))|exact ZMb|exact ZFW|exact Zy|exact ZFV|fail);all_goals infer_instance));dsimp only [ZC,z0,z1])|(apply ZB;(exact oD);all_goals (intro h;try exact xD))|(apply ZG;(exact oD);all_goals (intro h;try exact xD))|refine WC.skip ?_|refine WC.ret ?_|refine WC.block ?_|refine ThenD.r ?_|refine InBlockD.r ?_));all_goals (first|((repeat clear hK);(repeat clear Kx))))
     unfold ZBj
     rw [if_neg (by omega),if_pos (ZC3 hk8 (decide_eq_true ht))]
     (refine ⟨trivial,⟨_,rfl,?_⟩,_,rfl,?_⟩ <;> exact fD)
    ·rw [if_neg ht,if_neg ht] at hc
     ((repeat' (first|(apply WL.opN;exact yF;dsimp only [ZC,z0,z1])|refine WL.nil ?_|refine ZA fun Kx hK=>?_|(refine hK _ _ ?_;clear hK)|refine WC.region ?_|(apply WL.opN;(focus ((first|(apply SY.call (hc) Tryz.call131;(exact aD))|exact ZMb|exact ZHL|exact ZFW|exact ZBN|exact ZKn|exact yRem|exact ZAk|exact Zy|exact ZFV|fail);all_goals infer_instance));dsimp only [ZC,z0,z1])|(apply ZB;(exact oD);all_goals (intro h;try exact xD))|(apply ZG;(exact oD);all_goals (intro h;try exact xD))|refine WC.skip ?_|refine WC.block ?_|refine ThenD.n ?_));all_goals (first|((repeat clear hK);(repeat clear Kx))))
     ·rw [ZPU] at h
      have h9:(k+1) % 2=1:=by omega
      (refine ⟨(k+1,m+(ZAt l (k+1)).length),?_,by first|omega|(simp only;omega),rfl,?_⟩;rotate_left;((try dsimp only [ZK,z0,z1]);repeat (first|exact LeF.nil|refine ZD (k:=?_)));(try dsimp only))
      refine ⟨by omega,?_,?_⟩
      ·show _=ZIt l (k+1)
       unfold ZIt
       rw [if_pos h9,h5]
      ·rw [ZAp,h2,decide_eq_false (show ¬ 4096<(ZAt l (k+1)).length from ht)];rfl
     ·rw [ZPU] at h
      have h9:¬ (k+1) % 2=1:=by omega
      (refine ⟨(k+1,m-(ZAt l (k+1)).length),?_,by first|omega|(simp only;omega),rfl,?_⟩;rotate_left;((try dsimp only [ZK,z0,z1]);repeat (first|exact LeF.nil|refine ZD (k:=?_)));(try dsimp only))
      refine ⟨by omega,?_,?_⟩
      ·show _=ZIt l (k+1)
       unfold ZIt
       rw [if_neg h9,h5]
      ·rw [ZAp,h2,decide_eq_false (show ¬ 4096<(ZAt l (k+1)).length from ht)];rfl
   ·((repeat' (first|(apply WL.opN;exact yF;dsimp only [ZC,z0,z1])|refine WL.nil ?_|refine ZA fun Kx hK=>?_|(refine hK _ _ ?_;clear hK)|(refine Kont.skip ?_;clear hK)|refine WC.region ?_|(apply WL.opN;(focus ((first|exact ZMb|fail);all_goals infer_instance));dsimp only [ZC,z0,z1])|(apply ZB;(exact oD);all_goals (intro h;try exact xD))|refine WC.ret ?_|refine WC.exit ?_));all_goals (first|((repeat clear hK);(repeat clear Kx))))
    have h9:k=8:=by omega
    subst h9
    unfold ZBj
    rw [if_neg (by omega),h2,if_neg Bool.false_ne_true,<- h5]
    (refine ⟨trivial,⟨_,rfl,?_⟩,_,rfl,?_⟩ <;> exact fD)
 ·have e:ZBj l=(0,ZAl l):=by unfold ZBj;rw [if_pos h0]
  ((repeat' (first|(apply WL.opN;exact yF;dsimp only [ZC,z0,z1])|refine WL.nil ?_|refine ZA fun Kx hK=>?_|(refine hK _ _ ?_;clear hK)|refine WC.region ?_|(apply WL.opN;(focus ((first|(apply SY.call (ZDU _) Tryz.call43;(exact aD))|exact ZFW|exact ZDO|fail);all_goals infer_instance));dsimp only [ZC,z0,z1])|(apply ZG;(exact oD);all_goals (intro h;try exact xD))|refine WC.ret ?_|refine ThenD.r ?_));all_goals (first|((repeat clear hK);(repeat clear Kx))))
  all_goals (rw [e];(refine ⟨trivial,⟨_,rfl,?_⟩,_,rfl,?_⟩ <;> exact fD))
end
section
open Go.RowKit
theorem ZUQ {P:Program} {o:Oper} {a:Act} {w:World} {K K':Act->World->Prop} {Q Q':Exit->Act->World->Prop} (h:∀ a w,K a w->K' a w) (hq:∀ e a w,e ≠ .normal->Q e a w->Q' e a w)
  (hh:o.wp P a w K Q):o.wp P a w K' Q':=by
 have hl:LetsOut Q->LetsOut Q':=fun ⟨a,w,x⟩=>⟨a,w,hq _ _ _ (by simp) x⟩
 unfold Oper.wp at *
 generalize (execOp a.eval o).run P w=r at *
 cases r with
 | ok n w' =>
  cases n <;> simp only [Oper.upon] at hh ⊢ <;>
   first
    | exact h _ _ hh
    | exact Calls.mono hh (fun e w'' he=>by cases e <;> first|exact h _ _ he|exact hq _ _ _ (by simp) he|exact hl he)
    | exact Rows.mono hh (fun _ _ he=>h _ _ he)
 | halt x w'=>cases x <;> simp only [Oper.upon] at hh ⊢ <;> first|exact hh|exact hq _ _ _ (by simp) hh
structure WA (P:Program) (ops:Array Oper) (Q:Z6) (g:Nat) (S:List Bool) (fr:List Dat) (hp:List HObj):Prop where
 of ::
 out:∀ (P0:Nat->Prop) (B:Nat) (w0 w:World) (a:Act),Hp P0 B w0 hp w->Fr (Imm P0 B hp) w a fr->wpAny P .any ops (ZDi Q P0 B w0) g S.toArray a w
def ThenA (P:Program) (ops:Array Oper) (Q:Z6) (g:Nat) (S:List Bool):Z6:=fun e f p=>match e with|.normal=>WA P ops Q g S f p|e=>Q e f p
section
variable {P:Program} {ops:Array Oper} {hp:List HObj} {fr:List Dat} {Q:Z6} {g:Nat} {S:List Bool}
theorem WA.id (h:WA P ops Q g S fr hp):WA P ops Q g S fr hp:=h
theorem WA.nil (hr:Region.ready .any ops S.toArray=[]) (h:Q .normal fr hp):WA P ops Q 0 S fr hp:=WA.of fun _ _ _ _ _ hh hf=>⟨hr,fr,hp,h,hh,hf⟩
theorem WA.step {i:Nat} {o:Oper} (ho:ops[i]?=some o) (h:WL P ops (ThenA P ops Q g (S.set i true)) [o] fr hp) {P0:Nat->Prop} {B:Nat} {w0 w:World} {a:Act} (hh:Hp P0 B w0 hp w) (hf:Fr (Imm P0 B hp) w a fr) :
  wpOp P ops (ZDi Q P0 B w0) i (wpAny P .any ops (ZDi Q P0 B w0) g (S.toArray.setIfInBounds i true)) a w:=by
 have h1:=h.on hh hf
 unfold wpList at h1
 unfold wpOp
 simp only [ho]
 have he:S.toArray.setIfInBounds i true=(S.set i true).toArray:=by simp
 rw [he]
 have hK:∀ a' w',wpList P ops (ZDi (ThenA P ops Q g (S.set i true)) P0 B w0) [] a' w'->wpAny P .any ops (ZDi Q P0 B w0) g (S.set i true).toArray a' w':=fun a' w' hn=>by
  obtain ⟨f,p,q,r,s⟩:=(hn:ZDi (ThenA P ops Q g (S.set i true)) P0 B w0 .normal a' w')
  exact (q:WA P ops Q g (S.set i true) f p).out _ _ _ _ _ r s
 have hQ:∀ e a' w',e ≠ .normal->ZDi (ThenA P ops Q g (S.set i true)) P0 B w0 e a' w'->ZDi Q P0 B w0 e a' w':=fun e a' w' hne ⟨f,p,q,r,s⟩=>by
  cases e with
  | normal=>exact absurd rfl hne
  | _=>exact ⟨f,p,q,r,s⟩
 split
 ·rename_i hw
  rw [if_pos hw] at h1
  rcases h1 with h1|⟨h1,a2,w2,h2⟩
  ·exact .inl (ZUQ hK hQ h1)
  ·exact .inr ⟨h1,a2,w2,hQ _ _ _ (by simp) h2⟩
 ·rename_i hw
  rw [if_neg hw] at h1
  exact hK _ _ h1
theorem WA.one {l:List Oper} {i:Nat} {o:Oper} (hr:Region.ready .any l.toArray S.toArray=[i]) (ho:l[i]?=some o) (h:WL P l.toArray (ThenA P l.toArray Q g (S.set i true)) [o] fr hp):WA P l.toArray Q (g+1) S fr hp:=WA.of fun P0 B w0 w a hh hf=>by
 refine ⟨fun h0=>(by rw [hr] at h0;cases h0),fun j hj=>?_⟩
 rw [hr] at hj
 cases List.mem_singleton.1 hj
 exact WA.step (by simpa using ho) h hh hf
theorem ThenA.n (h:WA P ops Q g S fr hp):ThenA P ops Q g S .normal fr hp:=h
end
end
end Go.Proofs.YtofkoleingbbpaaGreatDoor
