/- Part 28: walks by contracts, and plain laws. -/
import Derived.Test.YtlgmojhmmbhgfaaGreatDoorVg27
set_option linter.unusedVariables false
set_option linter.unusedSimpArgs false
set_option linter.unusedSectionVars false
set_option maxRecDepth 100000
set_option maxHeartbeats 4000000
namespace Go.Proofs.YtlgmojhmmbhgfaaGreatDoor
section
open Go.RowKit

theorem GoodX.len {l:Cx} (h:GoodX l):l.length≤1000000:=Nat.le_trans h.1 (by decide)
theorem GoodX.short {l:Cx} (h:GoodX l):∀ s∈l,s.length≤8:=fun s hs=>ZHu (h.2.2.1 s hs)
def ZMC:Cx->Int
 | []=>0
 | s::l=>if ZAJ s≠0 then ZAJ s else ZMC l
theorem ZF9 {l:Cx} {k:Nat} (h:k<l.length):ZMC (l.drop k)=if ZAJ l[k]≠0 then ZAJ l[k] else ZMC (l.drop (k+1)):=by rw [Zd h];rfl
theorem ZIw:∀ {l:Cx},ZMC l=0->∀ s∈l,ZAJ s=0
 | [],_,s,hs=>by cases hs
 | x::l,h,s,hs=>by
  unfold ZMC at h
  by_cases h1:ZAJ x≠0
  ·rw [if_pos h1] at h;exact absurd h h1
  ·rw [if_neg h1] at h
   rcases List.mem_cons.1 hs with rfl|hs
   ·omega
   ·exact ZIw h s hs
def ofP (l:Cx):Cx × Int:=if 4096<l.length then ([],5) else if ZMC l≠0 then ([],ZMC l) else (ZDl l,0)
theorem ZLb (l:Cx):Fn Tryz.prog 43 [dS Zc l] (dT [dS Cpx (ofP l).1,dI (ofP l).2]):=by
 (refine ZAB tyC Tryz.func43 rfl rfl ?_;simp only [Tryz.ntmps43,List.length_cons,List.length_nil,Nat.reduceAdd,Nat.reduceSub,List.replicate_succ,List.replicate_zero,List.cons_append,List.nil_append])
 ((repeat' (first|(apply WL.opN;exact yF;dsimp only [ZB,z0,z1])|refine WL.nil ?_|refine ZA fun Kx hK=>?_|(refine hK _ _ ?_;clear hK)|refine WC.region ?_|(apply WL.alloc;(first|exact tzV|exact tzC);(first|exact ZY rfl|exact ZAF|exact Zy rfl);(intro _;dsimp only [ZB,z0,z1]))|(apply ZN;(exact tD);rfl;(exact oD);(exact hD);dsimp only [ZB,z0,z1])|(apply WL.opN;(focus ((first|exact ZIM|exact ZBs|exact ZPR|fail);all_goals infer_instance));dsimp only [ZB,z0,z1])|(apply ZC;(exact oD);all_goals (intro h;try exact xD))|refine WC.skip ?_|refine WC.ret ?_|refine WC.block ?_|refine ThenD.r ?_));all_goals (first|refine WC.id ?_|((repeat clear hK);(repeat clear Kx))))
 ·have e:ofP l=([],5):=by unfold ofP;rw [if_pos (by omega)]
  rw [e];(refine ⟨trivial,⟨_,rfl,?_⟩,_,rfl,?_⟩ <;> exact fD)
 ·rename Nat=>b0
  (refine WC.loopU (X:=Nat) (fun k=>[(13,dI (k:Int)),(3,dA),(5,dA),(6,dA),(14,dA),(15,dA),(16,dA),(17,dA),(18,dA),(19,dA),(20,dA),(21,dA),(22,dA),(23,dA)]) (fun k=>[ZQ b0 24 1 true (dX (.agg #[.slice none 0 0]))]) (fun k=>l.length-k) (fun k=>k≤l.length/\ZMC l=ZMC (l.drop k)) 0 ?start ?frame0 ?objs0 ?round)
  case start=>exact ⟨Nat.zero_le _,rfl⟩
  case frame0=>((try dsimp only [ZK,z0,z1]);repeat (first|exact LeF.nil|refine ZD (k:=?_)))
  case objs0=>rfl
  case round =>
   rintro k ⟨h1,h2⟩
   dsimp only [ZK,z0,z1]
   by_cases hz:ZMC l=0
   ·have hg:=ZIw hz
    have hl:l.length≤1000000:=by omega
    ((repeat' (first|(apply WL.opN;exact yF;dsimp only [ZB,z0,z1])|refine WL.nil ?_|refine ZA fun Kx hK=>?_|(refine hK _ _ ?_;clear hK)|(refine Kont.skip ?_;clear hK)|refine WC.region ?_|(apply ZN;(exact tD);rfl;(exact oD);(exact hD);dsimp only [ZB,z0,z1])|(apply WL.opN;(focus ((first|(apply SY.call (ZJ6 _) Tryz.call73;(exact aD))|(apply SY.call (ZJ7 l hg hl) Tryz.call84;(exact aD))|exact ZCJ|exact ZJo|exact ZC1|exact ZX|exact ZPR|fail);all_goals infer_instance));dsimp only [ZB,z0,z1])|(apply ZC;(exact oD);all_goals (intro h;try exact xD))|(apply ZL;(exact oD);all_goals (intro h;try exact xD))|refine WC.skip ?_|refine WC.ret ?_|refine WC.exit ?_|refine WC.block ?_|refine ThenD.n ?_|refine ThenD.r ?_|refine InBlockD.r ?_));all_goals (first|((repeat clear hK);(repeat clear Kx))))
    ·exfalso
     have:=hg _ (List.getElem_mem (show k<l.length by omega))
     omega
    ·(refine ⟨k+1,?_,by first|omega|(simp only;omega),rfl,?_⟩;rotate_left;((try dsimp only [ZK,z0,z1]);repeat (first|exact LeF.nil|refine ZD (k:=?_)));(try dsimp only))
     refine ⟨by omega,?_⟩
     rw [h2,ZF9 (by omega),if_neg (by omega)]
    ·have e:ofP l=(ZDl l,0):=by unfold ofP;rw [if_neg (by omega),if_neg (by omega)]
     rw [e];(refine ⟨trivial,⟨_,rfl,?_⟩,_,rfl,?_⟩ <;> exact fD)
   ·have hk:k<l.length:=by
     rcases Nat.lt_or_ge k l.length with h|h
     ·exact h
     ·rw [List.drop_of_length_le h] at h2;exact absurd h2 hz
    ((repeat' (first|(apply WL.opN;exact yF;dsimp only [ZB,z0,z1])|refine WL.nil ?_|refine ZA fun Kx hK=>?_|(refine hK _ _ ?_;clear hK)|refine WC.region ?_|(apply ZN;(exact tD);rfl;(exact oD);(exact hD);dsimp only [ZB,z0,z1])|(apply WL.opN;(focus ((first|(apply SY.call (ZJ6 _) Tryz.call73;(exact aD))|exact ZCJ|exact ZJo|exact ZC1|exact ZX|exact ZPR|fail);all_goals infer_instance));dsimp only [ZB,z0,z1])|(apply ZC;(exact oD);all_goals (intro h;try exact xD))|(apply ZL;(exact oD);all_goals (intro h;try exact xD))|refine WC.skip ?_|refine WC.ret ?_|refine WC.block ?_|refine ThenD.n ?_|refine ThenD.r ?_|refine InBlockD.r ?_));all_goals (first|((repeat clear hK);(repeat clear Kx))))
    ·have e:ofP l=([],ZMC l):=by unfold ofP;rw [if_neg (by omega),if_pos hz]
     rw [e,h2,ZF9 (by omega),if_pos h];(refine ⟨trivial,⟨_,rfl,?_⟩,_,rfl,?_⟩ <;> exact fD)
    ·(refine ⟨k+1,?_,by first|omega|(simp only;omega),rfl,?_⟩;rotate_left;((try dsimp only [ZK,z0,z1]);repeat (first|exact LeF.nil|refine ZD (k:=?_)));(try dsimp only))
     refine ⟨by omega,?_⟩
     rw [h2,ZF9 (by omega),if_neg (by omega)]
end
section
theorem ZMW:∀ n,n≤5->((ZBR (2 ^ n-1)).all fun bl=>(List.range n).all fun i=>decide (ZBX bl i 0≤31))=true:=by
 intro n h5
 have:n=0\/n=1\/n=2\/n=3\/n=4\/n=5:=by omega
 rcases this with rfl|rfl|rfl|rfl|rfl|rfl <;> decide +kernel
theorem ZE6:∀ n,n≤5->(ZBR (2 ^ n-1)).length≤541:=by
 intro n h5
 have:n=0\/n=1\/n=2\/n=3\/n=4\/n=5:=by omega
 rcases this with rfl|rfl|rfl|rfl|rfl|rfl <;> decide +kernel
theorem ZSe {s:List Vx} (hs:ZAJ s=0) (hd:Z0 s=true) (h5:s.length≤5):∀ t∈ZBq s,ZAJ t=0:=fun t ht=>by
 unfold ZBq at ht
 obtain ⟨bl,hbl,rfl⟩:=List.mem_map.1 ht
 refine ZOq hs hd fun i hi=>?_
 have h1:=List.all_eq_true.1 (ZMW s.length h5) bl hbl
 have h2:=of_decide_eq_true (List.all_eq_true.1 h1 i (List.mem_range.2 hi))
 omega
theorem ZGA:∀ {l:Cx},(∀ s∈l,ZAJ s=0)->ZMC l=0
 | [],_=>rfl
 | s::l,h=>by
  unfold ZMC
  rw [if_neg (fun q=>q (h s (List.mem_cons_self ..)))]
  exact ZGA fun t ht=>h t (List.mem_cons_of_mem _ ht)
theorem ZTp {s:List Vx} (hs:ZAJ s=0) (hd:Z0 s=true) (h5:s.length≤5):ofP (ZBq s)=(ZDl (ZBq s),0)/\GoodX (ZDl (ZBq s))/\(ZDl (ZBq s)).length≤541:=by
 have hc:=ZSe hs hd h5
 have hl:(ZBq s).length≤541:=by
  unfold ZBq
  rw [List.length_map]
  exact ZE6 s.length h5
 have hm:(ZDl (ZBq s)).length≤541:=by
  have:=List.Nodup.length_le_of_subset (ZFg (ZBq s)).nodup fun x hx=>(ZCx.1 hx).1
  omega
 refine ⟨?_,ZLK (fun t ht _=>hc t ht) (by omega),hm⟩
 unfold ofP
 rw [if_neg (by omega),if_neg (fun q=>q (ZGA hc))]
end
section
open Go.RowKit
abbrev hA (b:Nat) (T:TypeId) (cs:List Value):HObj:=ZA2 b (.cells cs.toArray T)
end
section
open Go.RowKit

section
variable {P:Program} {f:FuncId} {fn:Func} {c:Code} {t u:Tmp} {ds:List Dat} {hp1:List HObj} {K:Dat->List HObj->Prop}
def ZTr (t u:Nat) (K:Dat->List HObj->Prop) (hp:List HObj):ZAL:=fun e f q=>(match e with|.normal|.ret=>True|_=>False)/\∃ d d' hp2,f[t]?=some d/\f[u]?=some d'/\q=hp2++hp/\K (dT [d,d']) hp2
theorem ZRT (hf:P.funcs[f]?=some fn) (hb:fn.body=some c) (hr:fn.results=#[.tmp t,.tmp u])
  (h:∀ hp,WC P (ZTr t u K hp) c (ds++List.replicate (fn.ntmps-ds.length) (dX undef)) (hp1++hp)):CallC P f ds hp1 K:=⟨fun P0 B w0 hp vs W hh hl hv=>by
 refine calls_of_wp hf hb ?_
 have hf0:=ZA8 (m:=fn.ntmps-ds.length) hl hv
 have hsz:vs.toArray.size=ds.length:=by simp [hl]
 rw [hsz]
 refine Code.wp_mono (fun e a' w' ⟨f',p',q,hh',hf'⟩=>?_) ((h hp).on hh hf0)
 obtain ⟨hx,d,d',hp2,hd,hd',rfl,hk'⟩:=q
 have hv:=hf'.rd t d hd
 have hv':=hf'.rd u d' hd'
 have hT:(dT [d,d']).rd (Imm P0 B (hp2++hp)) w' (.tuple #[a'.tmps.getD t undef,a'.tmps.getD u undef]):=⟨[a'.tmps.getD t undef,a'.tmps.getD u undef],rfl,rfl,fun i e x he hx=>by
  match i,he,hx with
  | 0,he,hx=>cases he;cases hx;exact hv
  | 1,he,hx=>cases he;cases hx;exact hv'⟩
 cases e with
 | normal=>exact ⟨hf'.defers,_,results_tmp2 hr _ _ _,_,_,hp2,rfl,hk',hh',hT⟩
 | ret=>exact ⟨hf'.defers,_,results_tmp2 hr _ _ _,_,_,hp2,rfl,hk',hh',hT⟩
 | _=>exact hx.elim⟩
end
def ZTD (l:Cx) (k:Nat):Prop:=4096<(ZPy l k).length
end
section
open Go.RowKit

instance (l:Cx) (k:Nat):Decidable (ZTD l k):=inferInstanceAs (Decidable (4096<(ZPy l k).length))
end
section
open Go.RowKit
theorem ZRR {P:Program} {o:Oper} {a:Act} {w:World} {K K':Act->World->Prop} {Q Q':Exit->Act->World->Prop} (h:∀ a w,K a w->K' a w) (hq:∀ e a w,e ≠ .normal->Q e a w->Q' e a w)
  (hh:o.wp P a w K Q):o.wp P a w K' Q':=by
 have hl:LetsOut Q->LetsOut Q':=fun ⟨a,w,x⟩=>⟨a,w,hq _ _ _ (by simp) x⟩
 unfold Oper.wp at *
 generalize (execOp a.eval o).run P w=r at *
 cases r with
 | ok n w' =>
  cases n <;> simp only [Oper.upon] at hh ⊢ <;>
   first
    | exact h _ _ hh
    | exact Calls.mono hh (fun e w'' he=>by cases e <;> first|exact h _ _ he|exact hq _ _ _ (by simp) he|exact hl he)
    | exact Rows.mono hh (fun _ _ he=>h _ _ he)
 | halt x w'=>cases x <;> simp only [Oper.upon] at hh ⊢ <;> first|exact hh|exact hq _ _ _ (by simp) hh
structure WA (P:Program) (ops:Array Oper) (Q:ZAL) (g:Nat) (S:List Bool) (fr:List Dat) (hp:List HObj):Prop where
 of ::
 out:∀ (P0:Nat->Prop) (B:Nat) (w0 w:World) (a:Act),Hp P0 B w0 hp w->Fr (Imm P0 B hp) w a fr->wpAny P .any ops (ZCE Q P0 B w0) g S.toArray a w
def ThenA (P:Program) (ops:Array Oper) (Q:ZAL) (g:Nat) (S:List Bool):ZAL:=fun e f p=>match e with|.normal=>WA P ops Q g S f p|e=>Q e f p
section
variable {P:Program} {ops:Array Oper} {hp:List HObj} {fr:List Dat} {Q:ZAL} {g:Nat} {S:List Bool}
theorem WA.id (h:WA P ops Q g S fr hp):WA P ops Q g S fr hp:=h
theorem WA.nil (hr:Region.ready .any ops S.toArray=[]) (h:Q .normal fr hp):WA P ops Q 0 S fr hp:=WA.of fun _ _ _ _ _ hh hf=>⟨hr,fr,hp,h,hh,hf⟩
theorem WA.step {i:Nat} {o:Oper} (ho:ops[i]?=some o) (h:WL P ops (ThenA P ops Q g (S.set i true)) [o] fr hp) {P0:Nat->Prop} {B:Nat} {w0 w:World} {a:Act} (hh:Hp P0 B w0 hp w) (hf:Fr (Imm P0 B hp) w a fr) :
  wpOp P ops (ZCE Q P0 B w0) i (wpAny P .any ops (ZCE Q P0 B w0) g (S.toArray.setIfInBounds i true)) a w:=by
 have h1:=h.on hh hf
 unfold wpList at h1
 unfold wpOp
 simp only [ho]
 have he:S.toArray.setIfInBounds i true=(S.set i true).toArray:=by simp
 rw [he]
 have hK:∀ a' w',wpList P ops (ZCE (ThenA P ops Q g (S.set i true)) P0 B w0) [] a' w'->wpAny P .any ops (ZCE Q P0 B w0) g (S.set i true).toArray a' w':=fun a' w' hn=>by
  obtain ⟨f,p,q,r,s⟩:=(hn:ZCE (ThenA P ops Q g (S.set i true)) P0 B w0 .normal a' w')
  exact (q:WA P ops Q g (S.set i true) f p).out _ _ _ _ _ r s
 have hQ:∀ e a' w',e ≠ .normal->ZCE (ThenA P ops Q g (S.set i true)) P0 B w0 e a' w'->ZCE Q P0 B w0 e a' w':=fun e a' w' hne ⟨f,p,q,r,s⟩=>by
  cases e with
  | normal=>exact absurd rfl hne
  | _=>exact ⟨f,p,q,r,s⟩
 split
 ·rename_i hw
  rw [if_pos hw] at h1
  rcases h1 with h1|⟨h1,a2,w2,h2⟩
  ·exact .inl (ZRR hK hQ h1)
  ·exact .inr ⟨h1,a2,w2,hQ _ _ _ (by simp) h2⟩
 ·rename_i hw
  rw [if_neg hw] at h1
  exact hK _ _ h1
theorem WA.one {l:List Oper} {i:Nat} {o:Oper} (hr:Region.ready .any l.toArray S.toArray=[i]) (ho:l[i]?=some o) (h:WL P l.toArray (ThenA P l.toArray Q g (S.set i true)) [o] fr hp):WA P l.toArray Q (g+1) S fr hp:=WA.of fun P0 B w0 w a hh hf=>by
 refine ⟨fun h0=>(by rw [hr] at h0;cases h0),fun j hj=>?_⟩
 rw [hr] at hj
 cases List.mem_singleton.1 hj
 exact WA.step (by simpa using ho) h hh hf
theorem WA.three {l:List Oper} {i j k:Nat} {o o' o2:Oper} (hr:Region.ready .any l.toArray S.toArray=[i,j,k]) (ho:l[i]?=some o) (ho':l[j]?=some o') (ho2:l[k]?=some o2) (h:WL P l.toArray (ThenA P l.toArray Q g (S.set i true)) [o] fr hp) (h':WL P l.toArray (ThenA P l.toArray Q g (S.set j true)) [o'] fr hp) (h2:WL P l.toArray (ThenA P l.toArray Q g (S.set k true)) [o2] fr hp):WA P l.toArray Q (g+1) S fr hp:=WA.of fun P0 B w0 w a hh hf=>by
 refine ⟨fun h0=>(by rw [hr] at h0;cases h0),fun m hm=>?_⟩
 rw [hr] at hm
 rcases List.mem_cons.1 hm with rfl|hm
 ·exact WA.step (by simpa using ho) h hh hf
 rcases List.mem_cons.1 hm with rfl|hm
 ·exact WA.step (by simpa using ho') h' hh hf
 ·cases List.mem_singleton.1 hm
  exact WA.step (by simpa using ho2) h2 hh hf
theorem ThenA.n (h:WA P ops Q g S fr hp):ThenA P ops Q g S .normal fr hp:=h
end
end
section
open Go.RowKit
def ZHX (md:Region.Mode) (ops:Array Oper) (n:Nat):Bool :=
 (List.range ops.size).all fun t=>decide (t≤n) || (List.range ops.size).any fun s=>decide (n≤s) && Region.waitsFor md ops t s
theorem ZGa {md:Region.Mode} {ops:Array Oper} {n:Nat} {listed:Array Bool} (hs:Region.sinkB md ops n=true) (hc:ZHX md ops n=true) (hn:n<ops.size) (inv:HeadInv md ops n listed) :
  ∀ (d i:Nat),n-i=d->i<n->listed.getD i true=false->∀ t,n≤t->t∉Region.ready md ops listed:=by
 intro d
 induction d using Nat.strongRecOn with
 | _ d ih =>
  intro i hd hi hun t ht hr
  obtain ⟨_,ot,hot,hall⟩:=mem_ready.1 hr
  have htlt:t<ops.size:=(Array.getElem?_eq_some_iff.1 hot).1
  by_cases htn:t=n
  ·subst htn
   have h1:=List.all_eq_true.1 hs i (List.mem_range.2 hi)
   obtain ⟨j,hj,hj2⟩:=List.any_eq_true.1 h1
   simp only [Bool.and_eq_true,decide_eq_true_eq] at hj2
   obtain ⟨oj,hoj,e,he,hb,hon⟩:=Region.waitsFor_spec hj2.2
   have hjle:j≤t:=by have:=List.mem_range.1 hj;omega
   by_cases hjt:j=t
   ·subst hjt
    have:oj=ot:=Option.some.inj (hoj.symm.trans hot)
    subst this
    have h2:=hall e he hb
    rw [hon,getD_both hun] at h2
    cases h2
   ·cases hl:listed.getD j false with
    | true =>
     have h2:=inv.closed j oj hoj hl e he hb
     rw [hon,getD_both hun] at h2
     cases h2
    | false =>
     have hjs:j<listed.size:=by rw [inv.size];omega
     exact ih (t-j) (by omega) j rfl (by omega) (getD_in hjs hl) t (Nat.le_refl _) hr
  ·have h1:=List.all_eq_true.1 hc t (List.mem_range.2 htlt)
   simp only [Bool.or_eq_true,decide_eq_true_eq] at h1
   rcases h1 with h1|h1
   ·omega
   ·obtain ⟨s,hsr,hsw⟩:=List.any_eq_true.1 h1
    simp only [Bool.and_eq_true,decide_eq_true_eq] at hsw
    obtain ⟨o',ho',e,he,hb,hon⟩:=Region.waitsFor_spec hsw.2
    have:o'=ot:=Option.some.inj (ho'.symm.trans hot)
    subst this
    have h2:=hall e he hb
    rw [hon,getD_both (inv.tail s hsw.1 (List.mem_range.1 hsr))] at h2
    cases h2
section
variable {P:Program} {ops:Array Oper} {md:Region.Mode} {fr fr':List Dat} {hp:List HObj} {C:List HObj->Prop}
def sOpM (P:Program) (ops:Array Oper) (C:List HObj->Prop) (i:Nat) (K:List Dat->List HObj->Prop) (fr:List Dat) (hp:List HObj):Prop :=
 ∃ o,ops[i]?=some o/\((∃ d,(∀ hp',C hp'->SYG P ops hp' o fr d)/\K (ZB fr o.dst d) hp) \/
  ∃ (β:Type) (H:β->List HObj) (D:β->Dat),SW P ops hp H D o fr/\(∀ x,C (H x))/\∀ x,K (ZB fr o.dst (D x)) (H x))
def ZGd (P:Program) (md:Region.Mode) (ops:Array Oper) (C:List HObj->Prop) (n:Nat) (L:Array Bool->List Dat->List HObj->Prop):Nat->Array Bool->List Dat->List HObj->Prop
 | 0,listed,fr,hp=>L listed fr hp
 | f+1,listed,fr,hp =>
  Region.ready md ops listed≠[]/\∀ i∈Region.ready md ops listed,i<n/\sOpM P ops C i (ZGd P md ops C n L f (listed.setIfInBounds i true)) fr hp
theorem ZCX {n g:Nat} {L:Array Bool->List Dat->List HObj->Prop} {Q':Exit->Act->World->Prop} {P0:Nat->Prop} {B:Nat} {w0:World}:∀ (f:Nat) (listed:Array Bool) (fr:List Dat) (hp:List HObj) (a:Act) (w:World),C hp->Hp P0 B w0 hp w->Fr (Imm P0 B hp) w a fr ->
  (∀ listed fr hp a w',Hp P0 B w0 hp w'->Fr (Imm P0 B hp) w' a fr->L listed fr hp->wpAny P md ops Q' g listed a w')->ZGd P md ops C n L f listed fr hp->wpAny P md ops Q' (f+g) listed a w
 | 0,listed,fr,hp,a,w,_,hh,hf,hL,h=>by rw [Nat.zero_add];exact hL _ _ _ _ _ hh hf h
 | f+1,listed,fr,hp,a,w,hc,hh,hf,hL,h=>by
  rw [show f+1+g=(f+g)+1 by omega]
  refine ⟨fun h0=>absurd h0 h.1,fun i hi=>?_⟩
  obtain ⟨o,ho,h1⟩:=(h.2 i hi).2
  unfold wpOp
  simp only [ho]
  rcases h1 with ⟨d,hs,hk⟩|⟨β,H,D,hw,hC,hk⟩
  ·have:=(hs hp hc).step (Q:=Q') hh hf (K:=wpAny P md ops Q' (f+g) (listed.setIfInBounds i true)) fun a' w' e hf'=>ZCX f _ _ hp _ _ hc (hh.ext e) hf' hL hk
   split
   ·rename_i hw;rw [if_pos hw] at this;exact .inl this
   ·rename_i hw;rw [if_neg hw] at this;exact this
  ·have hwant:Region.wanted o (yielded ops a.tmps)=true:=by simp [Region.wanted,hw.guard]
   rw [if_pos hwant]
   exact .inl (hw.out hh (hf.on _) _ _ fun x v w' hh' hrd hd=>ZCX f _ _ (H x) _ _ (hC x) hh' (Fr.put (hf.mono fun d u hu=>hrd d u hu) hd) hL (hk x))
theorem ZJj {n i:Nat} {oi:Oper} {di:Dat} {L:Array Bool->List Dat->List HObj->Prop} (hi:ops[i]?=some oi)
  (hs:Region.sinkB md ops n=true) (hc:ZHX md ops n=true) (hn:n<ops.size) (hin:i<n)
  (hdone:∀ listed a c,L listed a c->∀ j∈Region.ready md ops listed,n≤j) :
  ∀ (f:Nat) (listed:Array Bool) (fr:List Dat) (hp:List HObj),HeadInv md ops n listed ->
   (∀ j oj,ops[j]?=some oj->j≠i->listed.getD j true=false->(∀ e∈oj.after,Region.binds md e=true->e.on≠i)->oi.apart ops oj=true) ->
   i∈Region.ready md ops listed->(∀ hp',C hp'->SYG P ops hp' oi fr di) ->
   ZGd P md ops C n L f (listed.setIfInBounds i true) (ZB fr oi.dst di) hp->ZGd P md ops C n L (f+1) listed fr hp:=by
 intro f
 induction f with
 | zero =>
  intro listed fr hp inv _ hr hy H
  have hun:=(mem_ready.1 hr).1
  refine ⟨fun h=>(by rw [h] at hr;cases hr),fun j hj=>?_⟩
  have hjn:j<n:=by
   rcases Nat.lt_or_ge j n with h|h
   ·exact h
   ·exact absurd hj (ZGa hs hc hn inv _ i rfl hin hun j h)
  refine ⟨hjn,?_⟩
  by_cases hji:j=i
  ·subst hji;exact ⟨oi,hi,.inl ⟨di,hy,H⟩⟩
  ·have:=hdone _ _ _ H j (ready_mono hj hji)
   omega
 | succ f ih =>
  intro listed fr hp inv hfree hr hy H
  have hun:=(mem_ready.1 hr).1
  refine ⟨fun h=>(by rw [h] at hr;cases hr),fun j hj=>?_⟩
  have hjn:j<n:=by
   rcases Nat.lt_or_ge j n with h|h
   ·exact h
   ·exact absurd hj (ZGa hs hc hn inv _ i rfl hin hun j h)
  refine ⟨hjn,?_⟩
  by_cases hji:j=i
  ·subst hji;exact ⟨oi,hi,.inl ⟨di,hy,H⟩⟩
  ·obtain ⟨oj',hoj',h1⟩:=(H.2 j (ready_mono hj hji)).2
   obtain ⟨hjun,oj,hoj,hall⟩:=mem_ready.1 hj
   have hoo:oj=oj':=by rw [hoj] at hoj';simpa using hoj'
   subst hoo
   have hnot:∀ e∈oj.after,Region.binds md e=true->e.on≠i:=fun e he hb heq=>by
    have h1:=hall e he hb
    rw [heq,getD_both hun] at h1
    cases h1
   obtain ⟨a1,a2,a3⟩:=Oper.apart_spec (hfree j oj hoj hji hjun hnot)
   have hfree':∀ k ok,ops[k]?=some ok->k≠i->(listed.setIfInBounds j true).getD k true=false ->
     (∀ e∈ok.after,Region.binds md e=true->e.on≠i)->oi.apart ops ok=true:=fun k ok hk hki hun hno=>by
    refine hfree k ok hk hki ?_ hno
    by_cases hjk:j=k
    ·subst hjk;exact hjun
    ·rw [getD_set_ne true hjk] at hun;exact hun
   have key:∀ (d:Dat) (hp':List HObj),ZGd P md ops C n L f ((listed.setIfInBounds i true).setIfInBounds j true) (ZB (ZB fr oi.dst di) oj.dst d) hp' ->
     ZGd P md ops C n L (f+1) (listed.setIfInBounds j true) (ZB fr oj.dst d) hp':=fun d hp' hk=>by
    refine ih (listed.setIfInBounds j true) (ZB fr oj.dst d) hp' (inv.set hj hjn) hfree' (ready_mono hr (Ne.symm hji)) (fun c hc=>(hy c hc).same (ZAK _ _ _) fun t ht=>ZAY fun e=>a3 t e ht) ?_
    rw [Array.setIfInBounds_comm _ _ hji,<- ZDQ fr di d a2]
    exact hk
   refine ⟨oj,hoj,?_⟩
   rcases h1 with ⟨d,hs',hk⟩|⟨β,H',D,hw,hC,hk⟩
   ·exact .inl ⟨d,fun c hc=>(hs' c hc).same (ZAK _ _ _).symm fun t ht=>(ZAY fun e=>a1 t e ht).symm,key _ _ hk⟩
   ·exact .inr ⟨β,H',D,hw.same (ZAK _ _ _).symm fun t ht=>(ZAY fun e=>a1 t e ht).symm,hC,fun x=>key _ _ (hk x)⟩
def ZSz (md:Region.Mode) (ops:Array Oper) (n:Nat):List (Nat × Bool)->Array Bool->Bool
 | [],listed=>(Region.ready md ops listed).all fun j=>decide (n≤j)
 | (i,false)::r,listed=>decide (i<n) && (Region.ready md ops listed).contains i && Region.free md ops listed i && ZSz md ops n r (listed.setIfInBounds i true)
 | (i,true)::r,listed=>decide (i<n) && decide (Region.ready md ops listed=[i]) && ZSz md ops n r (listed.setIfInBounds i true)
inductive WM (P:Program) (ops:Array Oper) (C:List HObj->Prop) (Q:List Dat->List HObj->Prop):List (Nat × Bool)->List Dat->List HObj->Prop
 | nil {fr:List Dat} {hp:List HObj}:Q fr hp->WM P ops C Q [] fr hp
 | read {i:Nat} {o:Oper} {r:List (Nat × Bool)} {fr:List Dat} {hp:List HObj} {d:Dat}:ops[i]?=some o->(∀ hp',C hp'->SYG P ops hp' o fr d)->WM P ops C Q r (ZB fr o.dst d) hp->WM P ops C Q ((i,false)::r) fr hp
 | write {i:Nat} {o:Oper} {r:List (Nat × Bool)} {fr:List Dat} {hp:List HObj} {β:Type} {H:β->List HObj} {D:β->Dat}:ops[i]?=some o->SW P ops hp H D o fr->(∀ x,C (H x))->(∀ x,WM P ops C Q r (ZB fr o.dst (D x)) (H x))->WM P ops C Q ((i,true)::r) fr hp
theorem ZFB {n:Nat} {Q:List Dat->List HObj->Prop} (hs:Region.sinkB md ops n=true) (hc:ZHX md ops n=true) (hn:n<ops.size) :
  ∀ (l:List (Nat × Bool)) (listed:Array Bool) (fr:List Dat) (hp:List HObj),HeadInv md ops n listed->ZSz md ops n l listed=true->WM P ops C Q l fr hp ->
  ZGd P md ops C n (fun listed' f p=>(∀ j∈Region.ready md ops listed',n≤j)/\listed'=l.foldl (fun s p=>s.setIfInBounds p.1 true) listed/\Q f p) l.length listed fr hp
 | [],listed,fr,hp,_,hB,h=>by
  cases h
  rename_i h
  refine ⟨fun j hj=>?_,rfl,h⟩
  simp only [ZSz,List.all_eq_true,decide_eq_true_eq] at hB
  exact hB j hj
 | (i,false)::r,listed,fr,hp,inv,hB,h=>by
  cases h
  rename_i o d ho hy hk
  simp only [ZSz,Bool.and_eq_true,decide_eq_true_eq] at hB
  obtain ⟨⟨⟨hin,hr⟩,hf⟩,hB'⟩:=hB
  have hr':i∈Region.ready md ops listed:=by simpa using hr
  exact ZJj ho hs hc hn hin (fun _ _ _ hL=>hL.1) r.length listed fr hp inv (Region.free_spec ho hf) hr' hy
   (ZFB hs hc hn r _ _ _ (inv.set hr' hin) hB' hk)
 | (i,true)::r,listed,fr,hp,inv,hB,h=>by
  simp only [ZSz,Bool.and_eq_true,decide_eq_true_eq] at hB
  obtain ⟨⟨hin,hr⟩,hB'⟩:=hB
  have hr':i∈Region.ready md ops listed:=by rw [hr];simp
  cases h with
  | write ho hw hC hk =>
   refine ⟨fun h0=>(by rw [hr] at h0;cases h0),fun j hj=>?_⟩
   rw [hr] at hj
   cases List.mem_singleton.1 hj
   exact ⟨hin,_,ho,.inr ⟨_,_,_,hw,hC,fun x=>ZFB hs hc hn r _ _ _ (inv.set hr' hin) hB' (hk x)⟩⟩
theorem WC.drawM {id:Nat} {l:List Oper} {Q:ZAL} (C:List HObj->Prop) (n m:Nat) (ord:List (Nat × Bool)) (S:List Bool) (hm:P.follows .mixedOrders=true)
  (hB:(decide (n<l.toArray.size) && Region.sinkB .any l.toArray n && ZHX .any l.toArray n && ZSz .any l.toArray n ord (Array.replicate l.toArray.size false))=true) (hS:ord.foldl (fun s p=>s.setIfInBounds p.1 true) (Array.replicate l.toArray.size false)=S.toArray) (hlen:l.length=ord.length+m) (hC:C hp)
  (h:WM P l.toArray C (fun f p=>WA P l.toArray Q m S f p) ord fr hp):WC P Q (.region id l.toArray true) fr hp:=by
 refine WC.of fun P0 B w0 w a hh hf=>?_
 simp only [Bool.and_eq_true,decide_eq_true_eq] at hB
 obtain ⟨⟨⟨hn,hs⟩,hc⟩,hord⟩:=hB
 have inv0:HeadInv .any l.toArray n (Array.replicate l.toArray.size false) :=
  ⟨by simp,fun j oj _ hl=>(by rw [getD_replicate_false] at hl;cases hl),fun t _ ht=>getD_in (by simpa using ht) (getD_replicate_false _ _)⟩
 have HW:=ZFB hs hc hn ord _ fr hp inv0 hord h
 have hx:Ext w { w with drawn:=w.drawn+1 }:=(Ext.refl w).drew
 refine wp_region_any hm ?_
 have:=ZCX (Q':=ZCE Q P0 B w0) (g:=m) _ _ _ hp _ _ hC (hh.ext hx) (hf.ext hx) (fun listed' fr' hp' a' w' hh' hf' hL=>by
  rw [hL.2.1,hS]
  exact hL.2.2.out _ _ _ _ _ hh' hf') HW
 rw [show l.toArray.size=ord.length+m by simpa using hlen]
 rw [show (l.toArray.size)=ord.length+m by simpa using hlen] at this
 exact this
theorem ZCq {l:List Oper} {Q:List Dat->List HObj->Prop} {i:Nat} {o:Oper} {r:List (Nat × Bool)} {d:Dat} (ho:l[i]?=some o) (h:∀ hp',C hp'->SYG P l.toArray hp' o fr d) (k:WM P l.toArray C Q r (ZB fr o.dst d) hp):WM P l.toArray C Q ((i,false)::r) fr hp:=WM.read (by simpa using ho) h k
theorem ZAh {l:List Oper} {Q:List Dat->List HObj->Prop} {i:Nat} {o:Oper} {r:List (Nat × Bool)} {β:Type} {H:β->List HObj} {D:β->Dat} (ho:l[i]?=some o) (h:SW P l.toArray hp H D o fr) (hC:∀ x,C (H x)) (k:∀ x,WM P l.toArray C Q r (ZB fr o.dst (D x)) (H x)):WM P l.toArray C Q ((i,true)::r) fr hp:=WM.write (by simpa using ho) h hC k
theorem WM.id {Q:List Dat->List HObj->Prop} {r:List (Nat × Bool)} (h:WM P ops C Q r fr hp):WM P ops C Q r fr hp:=h
end
end
section
open Go.RowKit

abbrev vvI (n:Int):Value:=.int .i64 n
end
section
open Go.RowKit

abbrev vc:Vx:=(2,0)
abbrev vd:Vx:=(3,0)
end
section
open Go.RowKit

def ZHa:Nat->Nat->Nat
 | _,0=>1
 | 0,_+1=>0
 | n+1,k+1=>ZHa n k+ZHa n (k+1)
theorem ZD9:∀ (s:List Vx) (k:Nat),(Zg k s).length=ZHa s.length k
 | s,0=>by rw [ZMY];cases s <;> rfl
 | [],k+1=>by rw [ZBi _ _ (by simp)];rfl
 | v::s,k+1=>by rw [ZMX,ZD9 s k,ZD9 s (k+1)];rfl
theorem ZSp (l:Cx):(ZDl l).length≤l.length:=List.Nodup.length_le_of_subset (ZFg l).nodup fun _ hx=>(ZCx.1 hx).1
end
section
theorem ZSJ {l:Cx} {k B:Nat} (h:∀ s∈l,(Zg k s).length≤B):(ZPy l k).length≤B*l.length:=by
 have h1:(ZPy l k).length≤(ZRo l k).length:=List.Nodup.length_le_of_subset (ZPz l _).nodup fun x hx=>ZQS.2 hx
 have h2:∀ l:Cx,(∀ s∈l,(Zg k s).length≤B)->(ZRo l k).length≤B*l.length:=by
  intro l
  induction l with
  | nil=>intro _;simp [ZRo]
  | cons s l ih =>
   intro h
   have h3:=ih fun x hx=>h x (List.mem_cons_of_mem _ hx)
   have h4:=h s (by simp)
   have h5:(ZRo (s::l) k).length=(Zg k s).length+(ZRo l k).length:=by unfold ZRo;simp
   rw [h5,List.length_cons,Nat.mul_add,Nat.mul_one]
   omega
 exact Nat.le_trans h1 (h2 l h)
theorem ZQF:∀ n≤5,∀ k≤5,ZHa n k≤10:=by decide
structure Gd (l:Cx):Prop where
 good:GoodX l
 few:l.length≤30
 five:∀ s∈l,s.length≤5
theorem Gd.all {l:Cx} (h:Gd l) (k:Nat):(ZPy l k).length≤300:=by
 have:=ZSJ (l:=l) (k:=k) (B:=10) fun s hs=>by
  have h5:=h.five s hs
  by_cases hk:k≤5
  ·rw [ZD9];exact ZQF _ h5 _ hk
  ·rw [ZBi k s (by omega)];simp
 have:=h.few
 omega
theorem Gd.zero {l:Cx} (h:Gd l):ZBH l=0:=ZAH.2 h.good
end
end Go.Proofs.YtlgmojhmmbhgfaaGreatDoor
