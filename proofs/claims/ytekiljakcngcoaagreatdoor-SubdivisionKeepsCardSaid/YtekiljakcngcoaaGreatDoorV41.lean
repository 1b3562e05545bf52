/- Part 41: walks by contracts, and plain laws. -/
import Derived.Lib.AppendIntMem
import Derived.Test.YtekiljakcngcoaaGreatDoorV40
set_option linter.unusedVariables false
set_option linter.unusedSimpArgs false
set_option linter.unusedSectionVars false
set_option maxRecDepth 100000
set_option maxHeartbeats 4000000
namespace Go.Proofs.YtekiljakcngcoaaGreatDoor
section
open Go.RowKit

theorem sub_zero:∀ s b:Fin 32,b.val &&& s.val=b.val->b.val≤s.val/\s.val-b.val<32/\(0<b.val->s.val-b.val<s.val\/s.val=0):=by decide +kernel
end
section
open Go.RowKit
def tabN:String := "internal/strconv.uint64pow10"
def LaidIn (P:Nat->Prop) (w:World):Prop:=∃ g,Tryz.prog.globalNamed tabN=some g/\P g/\Lib.TabIs Tryz.prog w tabN .u64 Lib.pow10Tab
theorem ZJm {P P':Nat->Prop} {w:World} (h:LaidIn P w) (q:∀ k,P k->P' k):LaidIn P' w:=let ⟨g,h1,h2,h3⟩:=h;⟨g,h1,q g h2,h3⟩
theorem ZSu {g:Nat} {w:World} (h1:Tryz.prog.globalNamed tabN=some g) (h:Lib.TabIs Tryz.prog w tabN .u64 Lib.pow10Tab):g<w.heap.size:=by
 unfold Lib.TabIs World.var? at h
 rw [h1,Option.bind_some] at h
 rcases Nat.lt_or_ge g w.heap.size with q|q
 ·exact q
 ·rw [Array.getElem?_eq_none q] at h
  cases h
theorem ZJl {P:Nat->Prop} {w w':World} (h:LaidIn P w) (q:∀ k,P k->k<w.heap.size->w'.heap[k]?=w.heap[k]?):LaidIn P w':=by
 obtain ⟨g,h1,h2,h3⟩:=h
 refine ⟨g,h1,h2,?_⟩
 have e:=q g h2 (ZSu h1 h3)
 unfold Lib.TabIs World.var? at h3 ⊢
 rw [h1,Option.bind_some] at h3 ⊢
 rw [e]
 exact h3
theorem ZHI {P:Nat->Prop} {w:World} (h:LaidIn P w):LaidIn (fun k=>P k/\k<w.heap.size) w:=let ⟨g,h1,h2,h3⟩:=h;⟨g,h1,⟨h2,ZSu h1 h3⟩,h3⟩
def RLS (S:Prop) {α:Type} (R:Rel α):Rel α:=fun P w v x=>R P w v x/\(LaidIn P w\/S)
instance {S:Prop} {α:Type} (R:Rel α) [Good R]:Good (RLS S R) where
 weak:=fun h q=>⟨Good.weak h.1 q,h.2.imp_left fun k=>ZJm k q⟩
 move:=fun h q=>⟨Good.move h.1 q,h.2.imp_left fun k=>ZJl k q⟩
 bound:=fun h=>⟨Good.bound h.1,h.2.imp_left fun k=>ZHI k⟩
abbrev ZBD (S:Prop):Rel (List Vx):=ArrK 2 (RLS S RV)
abbrev ZSE (S:Prop):Rel (List (List Vx)):=Arr (ZBD S)
abbrev ZUS (S:Prop):Rel (List (List Vx)):=R1 (ZSE S)
abbrev ZNQ:Rel (List Vx):=ZBD False
abbrev ZUV:Rel (List (List Vx)):=ZSE False
abbrev CpxL:Rel (List (List Vx)):=ZUS False
variable {S:Prop}
theorem ZI8 {α:Type} {n:Nat} {R S:Rel α} (h:∀ P w v x,R P w v x->S P w v x) {P:Nat->Prop} {w:World} {v:Value} {xs:List α} (k:ArrK n R P w v xs):ArrK n S P w v xs:=by
 obtain ⟨a,cap,hv,h1,h2,h0,h3⟩:=k
 refine ⟨a,cap,hv,h1,h2,h0,fun k hk=>?_⟩
 obtain ⟨u,b,off,r1,r⟩:=h3 k hk
 exact ⟨u,b,off,h _ _ _ _ r1,r⟩
theorem ZLT {α:Type} {R S:Rel α} (h:∀ P w v x,R P w v x->S P w v x) {P:Nat->Prop} {w:World} {v:Value} {xs:List α} (k:Arr R P w v xs):Arr S P w v xs:=by
 obtain ⟨a,cap,hv,h1,h2,h3⟩:=k
 refine ⟨a,cap,hv,h1,h2,fun k hk=>?_⟩
 obtain ⟨u,b,off,r1,r⟩:=h3 k hk
 exact ⟨u,b,off,h _ _ _ _ r1,r⟩
theorem ZRW {s:List Vx}:(dS (ZBD S) s).le (dS ZI s):=fun _ _ _ h=>ZI8 (fun _ _ _ _ q=>q.1) h
theorem vl_v {P:Nat->Prop} {w:World} {v:Value} {s:List Vx} (h:ZBD S P w v s):ZI P w v s:=ZI8 (fun _ _ _ _ q=>q.1) h
theorem ZAh {l:Cx}:(dS (ZUS S) l).le (dS Cpx l):=fun _ _ _ h=>by
 obtain ⟨u,h1,h2,h3⟩:=h
 exact ⟨u,h1,h2,ZLT (R:=ZBD S) (S:=ZI) (fun _ _ _ _ q=>vl_v q) h3⟩
theorem ZRV {s:List Vx} (hs:s≠[]) {P:Nat->Prop} {w:World} {v:Value} (h:(dS (ZBD S) s).rd P w v):LaidIn P w\/S:=by
 obtain ⟨a,cap,hv,h1,h2,h0,h3⟩:=(h:ZBD S P w v s)
 obtain ⟨u,b,off,r1,_⟩:=h3 0 (List.length_pos_iff.2 hs)
 exact r1.2
theorem ZOn {s:List Vx} {P:Nat->Prop} {w:World} {v:Value} (h:(dS ZI s).rd P w v) (q:LaidIn P w\/S):(dS (ZBD S) s).rd P w v:=by
 obtain ⟨a,cap,hv,h1,h2,h0,h3⟩:=(h:ZI P w v s)
 refine ⟨a,cap,hv,h1,h2,h0,fun k hk=>?_⟩
 obtain ⟨u,b,off,r1,r⟩:=h3 k hk
 exact ⟨u,b,off,⟨r1,q⟩,r⟩
theorem ZUH {l:Cx} (q:S):(dS Cpx l).le (dS (ZUS S) l):=fun _ _ _ h=>by
 obtain ⟨u,h1,h2,h3⟩:=h
 exact ⟨u,h1,h2,ZLT (R:=ZI) (S:=ZBD S) (fun _ _ _ _ k=>ZOn k (.inr q)) h3⟩
def dIL (S:Prop) (n:Int):Dat where
 rd:=fun P w v=>v = .int .i64 n/\(LaidIn P w\/S)
 weak:=fun h q=>⟨h.1,h.2.imp_left fun k=>ZJm k q⟩
 move:=fun h q=>⟨h.1,h.2.imp_left fun k=>ZJl k q⟩
 bound:=fun h=>⟨h.1,h.2.imp_left fun k=>ZHI k⟩
theorem ZVA {n:Int}:(dIL S n).le (dI n):=fun _ _ _ h=>h.1
theorem ZVB {x:Int × Int}:(dS (RLS S RV) x).le (ZGJ [dIL S x.1,dIL S x.2]):=fun _ _ _ h=>by
 obtain ⟨h,q⟩:=h
 cases (h:_=_)
 exact ⟨[_,_],rfl,rfl,by simp [Value.oneCell'],fun k c d hc hd=>by
  match k,hc,hd with
  | 0,hc,hd=>cases hc;cases hd;exact ⟨rfl,q⟩
  | 1,hc,hd=>cases hc;cases hd;exact ⟨rfl,q⟩⟩
section
variable {P:Program} {ops:Array Oper} {hp:List HObj} {fr:List Dat} {Q:ZAW} {rest:List Oper}
theorem Fr.gain {I:Nat->Prop} {w:World} {a:Act} {t u:Nat} {s x:List Vx} (hf:Fr I w a fr) (hs:s≠[]) (hu:fr[u]?=some (dS (ZBD S) s)) (ht:fr[t]?=some (dS ZI x)):Fr I w a (fr.set t (dS (ZBD S) x)):=⟨hf.defers,by rw [hf.size,List.length_set],fun k d hd=>by
 rw [List.getElem?_set] at hd
 by_cases hk:t=k
 ·subst hk
  rw [if_pos rfl] at hd
  split at hd
  ·cases hd
   exact ZOn (hf.rd t _ ht) (ZRV hs (hf.rd u _ hu))
  ·cases hd
 ·rw [if_neg hk] at hd
  exact hf.rd k d hd⟩
theorem WL.gain {s x:List Vx} (t u:Nat) (hs:s≠[]) (hu:fr[u]?=some (dS (ZBD S) s)) (ht:fr[t]?=some (dS ZI x)) (h:WL P ops Q rest (fr.set t (dS (ZBD S) x)) hp):WL P ops Q rest fr hp:=WL.of fun _ _ _ _ _ hh hf=>h.on hh (hf.gain hs hu ht)
theorem ZQb {b:Nat} {T:TypeId} {ds ds':List Dat} (hl:ds.length=ds'.length) (hle:∀ (k:Nat) (d d':Dat),ds[k]?=some d->ds'[k]?=some d'->d.le d') (h:WL P ops Q rest fr (ZAP b T ds'::hp)):WL P ops Q rest fr (ZAP b T ds::hp):=WL.of fun P0 B w0 w a hh hf=>by
 have hgr:w.grownBy w (ZAP b T ds).blk:=⟨rfl,rfl,rfl,Nat.le_refl _,fun _ _ _=>rfl⟩
 obtain ⟨cs,c1,c2,c3,c4⟩:=hh.ok (ZAP b T ds) (by simp)
 have hok:(ZAP b T ds').ok (fun j=>Imm P0 B (ZAP b T ds::hp) j/\j<w.heap.size) w:=⟨cs,c1,by omega,c3,fun j c e hc he=>by
  have hj:j<ds.length:=by have:=(List.getElem?_eq_some_iff.1 he).1;omega
  exact e.bound (hle j ds[j] e (List.getElem?_eq_getElem hj) he _ _ _ (c4 j c ds[j] hc (List.getElem?_eq_getElem hj)))⟩
 exact h.on (hh.write hgr (.inl rfl) hok) (hf.mono fun d u hd=>ZY (o:=ZAP b T ds) (o':=ZAP b T ds') hgr (.inl rfl) hd)
end

theorem ZOR:∀ (k u:Nat),u<10 ^ (k+1)->(Lib.decDigits u).length≤k+1
 | 0,u,h=>by rw [Lib.decDigits_one (by omega)];simp
 | k+1,u,h=>by
  by_cases h1:u<10
  ·rw [Lib.decDigits_one h1];simp
  ·rw [Lib.decDigits,dif_neg h1,List.length_append]
   have:=ZOR k (u / 10) (by rw [Nat.pow_succ] at h;omega)
   simp only [List.length_cons,List.length_nil]
   omega
theorem ZEd (n:Int) (h:0≤n/\n≤1048576):(Lib.itoa n).length≤21:=by
 obtain ⟨m,rfl⟩:=Int.eq_ofNat_of_zero_le h.1
 rw [Lib.itoa_nonneg]
 have:=ZOR 20 m (by omega)
 omega
theorem ZID (n:Int) (h:0≤n/\n≤1048576) (hS:S->n<100):Fn Tryz.prog 56 [dIL S n] (dX (.string ⟨(Lib.itoa n).toArray⟩)):=Fn.mk fun I w vs hl hv=>by
 obtain ⟨v,rfl⟩:=List.length_eq_one_iff.1 hl
 obtain ⟨hv0,hq⟩:=hv 0 _ rfl
 have hv0':v = .int .i64 n:=hv0
 rcases hq with ⟨g,_,_,ht⟩|q
 case inr =>
  refine (ZU8 n ⟨h.1,hS q⟩).out I w _ hl fun k d hd=>?_
  cases k with
  | zero=>cases hd;exact hv0'
  | succ k=>cases hd
 subst hv0'
 refine (Any.strconv_Itoa { Tryz.laysM171 with } n (by omega) (by omega) w ht).mono fun r w' hr=>?_
 obtain ⟨rfl,k,os,rfl⟩:=hr
 exact ⟨_,rfl,Lib.below_grow _ _ (Nat.le_refl _) _ _,rfl⟩
def okL (v:Vx):Prop:=(0≤v.1/\v.1≤1048576)/\0≤v.2/\v.2≤1048576
theorem ZMT {v:Vx} (h:okL v):(txV v).length≤100:=by
 have e0:=ZEd v.1 h.1
 have e1:=ZEd v.2 h.2
 unfold txV
 simp only [List.length_append,List.length_cons,List.length_nil]
 omega
theorem ZEu:∀ {s:List Vx},(∀ v∈s,okL v)->(txS s).length≤100*s.length
 | [],_=>by simp [txS]
 | v::s,h=>by
  have h1:=ZMT (h v (by simp))
  have h2:=ZEu (s:=s) fun u hu=>h u (by simp [hu])
  have:txS (v::s)=txV v++txS s:=rfl
  rw [this,List.length_append,List.length_cons]
  omega
set_option maxHeartbeats 4000000 in
theorem ZK2 (s:List Vx) (hs:s.length≤1000) (hv:∀ v∈s,okL v) (hS:S->∀ v∈s,v.1<100/\v.2<100):Fn Tryz.prog 29 [dS (ZBD S) s] (dX (.string ⟨(txS s).toArray⟩)):=by
 (refine ZH Tryz.func29 rfl rfl ?_;simp only [Tryz.ntmps29,List.length_cons,List.length_nil,Nat.reduceAdd,Nat.reduceSub,List.replicate_succ,List.replicate_zero,List.cons_append,List.nil_append])
 (repeat' (first|((first|apply WL.opN|apply WD.opN);exact yF;dsimp only [ZA,z0,z1])|refine WL.nil ?_|refine ZC fun Kx hK=>?_|(refine hK _ _ ?_;clear hK)|refine WC.region ?_ |  (refine ZKR (dst:=some 3) (e:=5) tzBld fun b=>?_;simp only [List.map_cons,List.map_nil];dsimp only [ZA,z0,z1])|((first|apply WL.opN|apply WD.opN);(focus ((first|(apply SY.len;exact OpD.tle rfl ZKe;exact ZMw;exact elV.unt)|fail);all_goals infer_instance));dsimp only [ZA,z0,z1])|refine WC.block ?_))
 (refine WC.loopU (X:=Nat) (fun k=>[(8,dI (k:Int)),(5,dA),(9,dA),(10,dA),(11,dA),(12,dA),(13,dA),(14,dA),(15,dA),(16,dA),(17,dA),(18,dA),(19,dA),(20,dA),(21,dA),(22,dA)]) (fun k=>(ZH7 b 98 5 (txS (s.take k))::[])) (fun k=>s.length-k) (fun k=>k≤s.length) 0 ?start ?frame0 ?objs0 ?round)
 case start=>exact Nat.zero_le _
 case frame0=>((try dsimp only [Za,z0,z1]);repeat (first|exact LeF.nil|refine ZF (k:=?_)))
 case objs0=>rfl
 case round =>
  rintro k h1
  dsimp only [Za,z0,z1]
  by_cases hk:k<s.length
  ·have hvk:=hv s[k] (List.getElem_mem hk)
   have hl0:=ZEd s[k].1 hvk.1
   have hl1:=ZEd s[k].2 hvk.2
   have hlt:=ZEu (s:=s.take k) fun v h=>hv v (List.mem_of_mem_take h)
   have hlk:=ZMT hvk
   have htl:(s.take k).length≤1000:=by rw [List.length_take];omega
   ((repeat' (first |  (apply WC.drawTail 9;kernel_rfl;kernel_rfl;simp only [List.take_succ_cons,List.take_zero,List.drop_succ_cons,List.drop_zero])|(refine WRd.nil ?_)|(apply ZBn rfl;(focus (intro c hcc;apply SYG.yes;(exact Zc rfl);((first|(apply Zi (R:=RLS S RV) (k:=k) elV (OpD.tle rfl ZKe) (OpD.t rfl) hk)|(refine ZAU ZVZ (OpD.t rfl) (by decide))|(refine Z1 tyI (OpD.t rfl) (.head _) rfl)|(apply SY.call (ZID s[k].1 hvk.1 fun q=>(hS q _ (List.getElem_mem hk)).1) Tryz.call56;exact ArgsD.cons (OpD.t rfl) (ArgsD.nil))|(apply SY.call (ZID s[k].2 hvk.2 fun q=>(hS q _ (List.getElem_mem hk)).2) Tryz.call56;exact ArgsD.cons (OpD.t rfl) (ArgsD.nil))|(refine ZHV (OpD.t rfl) OpD.x ?_;simp only [List.length_append,List.length_cons,List.length_nil];omega)|(refine ZHV (OpD.t rfl) (OpD.t rfl) ?_;simp only [List.length_append,List.length_cons,List.length_nil];omega)|((first|apply SY.move|apply SY.assign|apply SY.lss) <;> (exact oD))|((first|apply SY.add) <;> first|exact oD|omega)|(apply SY.load;(exact tD);(exact oD))|(apply ZJ;(exact tD);(exact oD);(exact (by simp)))|(apply SY.len;(exact oD);(exact nD);(exact uD))|(apply ZV;exact OpD.t rfl;(first|exact .head _|exact .tail _ (.head _));(exact uD))|(apply Zf;exact OpD.t rfl;(first|exact .head _|exact .tail _ (.head _));(exact uD))|(apply Zi;(exact eD);(exact oD);(exact oD);exact kD)|(apply SY.ix;(exact eD);(exact oD);(exact oD);exact kD)|(first|(apply SY.fld0 vxT <;> (exact oD))|(apply SY.fld1 vxT <;> (exact oD)))|(apply Zb ZAA;exact OpD.t rfl)|fail);all_goals infer_instance)));dsimp only [ZA,z0,z1])|((first|apply WL.opN|apply WD.opN);exact yF;dsimp only [ZA,z0,z1])|refine WL.nil ?_|refine WD.nil ?_|refine ZC fun Kx hK=>?_|(refine hK _ _ ?_;clear hK)|(refine Kont.skip ?_;clear hK)|refine WC.region ?_|(apply WC.draw;kernel_rfl;kernel_rfl) |  (refine ZEG (dst:=some 5) (zs:=[.int .i64 0,.int .i64 0]) tzVx (by decide) (by simp [Value.oneCell']) fun b5=>?_;dsimp only [ZA,z0,z1,List.map_cons,List.map_nil]) |  (refine ZEK tyV (OpD.t rfl) (OpD.tle rfl ZVB) rfl rfl ?_;dsimp only [ZA,z0,z1])|(apply WL.alloc;(first|exact tzV|exact tzC);(first|exact ZN rfl|exact ZW|exact ZX rfl);(intro _;dsimp only [ZA,z0,z1]))|(apply ZG;(exact tD);rfl;(exact oD);(exact hD);dsimp only [ZA,z0,z1])|(apply ZT;(exact tD);rfl;(exact oD);(exact hD);dsimp only [ZA,z0,z1])|(apply ZU;(exact tD);rfl;(exact oD);(exact hD);dsimp only [ZA,z0,z1])|((first|apply WL.opN|apply WD.opN);(focus ((first|(apply Zi (R:=RLS S RV) (k:=k) elV (OpD.tle rfl ZKe) (OpD.t rfl) hk)|(refine ZAU ZVZ (OpD.t rfl) (by decide))|(refine Z1 tyI (OpD.t rfl) (.head _) rfl)|(apply SY.call (ZID s[k].1 hvk.1 fun q=>(hS q _ (List.getElem_mem hk)).1) Tryz.call56;exact ArgsD.cons (OpD.t rfl) (ArgsD.nil))|(apply SY.call (ZID s[k].2 hvk.2 fun q=>(hS q _ (List.getElem_mem hk)).2) Tryz.call56;exact ArgsD.cons (OpD.t rfl) (ArgsD.nil))|(refine ZHV (OpD.t rfl) OpD.x ?_;simp only [List.length_append,List.length_cons,List.length_nil];omega)|(refine ZHV (OpD.t rfl) (OpD.t rfl) ?_;simp only [List.length_append,List.length_cons,List.length_nil];omega)|((first|apply SY.move|apply SY.assign|apply SY.lss) <;> (exact oD))|fail);all_goals infer_instance));dsimp only [ZA,z0,z1])|(apply WC.condT;(exact oD);(with_reducible rfl))|(apply ZK;(exact oD);(with_reducible rfl))|(apply ZE;(exact oD);all_goals (intro h;try exact xD))|(apply WC.condN;(exact oD);all_goals (intro h;try exact xD))|(apply WC.condNB;(exact oD);all_goals (intro h;try exact xD))|(apply WC.cond;(exact oD);all_goals (intro h;try exact xD))|refine WC.skip ?_|refine WC.ret ?_|refine WC.exit ?_|refine WC.block ?_|refine ThenD.n ?_|refine ThenD.r ?_|refine ThenD.x ?_|refine InBlockD.x ?_|refine InBlockD.n ?_|refine InBlockD.r ?_|refine ZL (by decide) ?_));all_goals (first|refine WC.id ?_|refine WL.id ?_|((repeat clear hK);(repeat clear Kx))))
   all_goals try (exfalso;first|contradiction|omega)
   refine ZEH 10 (ZEH 11 (ZEH 13 (ZEH 17 ?_)))
   dsimp only [ZA,z0,z1]
   refine ZQb (ds':=[dI s[k].1,dI s[k].2]) rfl (fun k d d' hd hd'=>by
    match k,hd,hd' with
    | 0,hd,hd'=>cases hd;cases hd';exact ZVA
    | 1,hd,hd'=>cases hd;cases hd';exact ZVA) ?_
   refine WL.perm (List.Perm.swap _ _ _) ?_
   refine ZTF (fun B b' bs s' w=>Any.Builder_WriteString_k Tryz.lays166 Tryz.Builder_Extra_166 B b' bs s' w) Tryz.call55 (OpD.t rfl) (OpD.t rfl) (by simp only [List.length_append,List.length_cons,List.length_nil];omega) (by (repeat (first|exact List.forall_mem_nil _|refine List.forall_mem_cons.2 ⟨(by first|exact ZId|exact ZPd|exact safe_I|exact safe_B|exact ZPc|exact safe_V),?_⟩))) (by
    refine List.forall_mem_cons.2 ⟨ZRs (by decide) (by (repeat (first|exact List.forall_mem_nil _|refine List.forall_mem_cons.2 ⟨(by first|exact ZId|exact ZPd|exact safe_I|exact safe_B|exact ZPc|exact safe_V),?_⟩))),?_⟩
    exact List.forall_mem_nil _) ?_
   dsimp only [ZA,z0,z1]
   refine WL.perm (List.Perm.swap _ _ _) (WL.drop ?_)
   have hsn:=ZR6 hk
   unfold txV at hsn
   rw [<- hsn]
   ((repeat' (first|((first|apply WL.opN|apply WD.opN);exact yF;dsimp only [ZA,z0,z1])|refine WL.nil ?_|refine WD.nil ?_|refine ZC fun Kx hK=>?_|(refine hK _ _ ?_;clear hK)|(refine Kont.skip ?_;clear hK)|refine WC.region ?_|(apply WC.draw;kernel_rfl;kernel_rfl)|(apply WL.alloc;(first|exact tzV|exact tzC);(first|exact ZN rfl|exact ZW|exact ZX rfl);(intro _;dsimp only [ZA,z0,z1]))|(apply ZG;(exact tD);rfl;(exact oD);(exact hD);dsimp only [ZA,z0,z1])|(apply ZT;(exact tD);rfl;(exact oD);(exact hD);dsimp only [ZA,z0,z1])|(apply ZU;(exact tD);rfl;(exact oD);(exact hD);dsimp only [ZA,z0,z1])|((first|apply WL.opN|apply WD.opN);(focus ((first|((first|apply SY.move|apply SY.assign|apply SY.lss) <;> (exact oD))|((first|apply SY.add) <;> first|exact oD|omega)|(apply SY.load;(exact tD);(exact oD))|(apply ZJ;(exact tD);(exact oD);(exact (by simp)))|(apply SY.len;(exact oD);(exact nD);(exact uD))|(apply ZV;exact OpD.t rfl;(first|exact .head _|exact .tail _ (.head _));(exact uD))|(apply Zf;exact OpD.t rfl;(first|exact .head _|exact .tail _ (.head _));(exact uD))|(apply Zi;(exact eD);(exact oD);(exact oD);exact kD)|(apply SY.ix;(exact eD);(exact oD);(exact oD);exact kD)|(first|(apply SY.fld0 vxT <;> (exact oD))|(apply SY.fld1 vxT <;> (exact oD)))|(apply Zb ZAA;exact OpD.t rfl)|fail);all_goals infer_instance));dsimp only [ZA,z0,z1])|(apply WC.condT;(exact oD);(with_reducible rfl))|(apply ZK;(exact oD);(with_reducible rfl))|(apply ZE;(exact oD);all_goals (intro h;try exact xD))|(apply WC.condN;(exact oD);all_goals (intro h;try exact xD))|(apply WC.condNB;(exact oD);all_goals (intro h;try exact xD))|(apply WC.cond;(exact oD);all_goals (intro h;try exact xD))|refine WC.skip ?_|refine WC.ret ?_|refine WC.exit ?_|refine WC.block ?_|refine ThenD.n ?_|refine ThenD.r ?_|refine ThenD.x ?_|refine InBlockD.x ?_|refine InBlockD.n ?_|refine InBlockD.r ?_|refine ZL (by decide) ?_));all_goals (first|refine WC.id ?_|refine WL.id ?_|((repeat clear hK);(repeat clear Kx))))
   (refine ⟨k+1,?_,by first|omega|(simp only;omega),rfl,?_⟩;rotate_left;((try dsimp only [Za,z0,z1]);repeat (first|exact LeF.nil|refine ZF (k:=?_)));(try dsimp only))
   omega
  ·have hkl:k=s.length:=by omega
   ((repeat' (first|((first|apply WL.opN|apply WD.opN);exact yF;dsimp only [ZA,z0,z1])|refine WL.nil ?_|refine WD.nil ?_|refine ZC fun Kx hK=>?_|(refine hK _ _ ?_;clear hK)|(refine Kont.skip ?_;clear hK)|refine WC.region ?_|(apply WC.draw;kernel_rfl;kernel_rfl) |  (refine ZQZ (fun B b' l' w=>Any.Builder_String_any_k Tryz.lays169 Tryz.Builder_Extra_169 B b' l' w) Tryz.call57 (OpD.t rfl) (by (repeat (first|exact List.forall_mem_nil _|refine List.forall_mem_cons.2 ⟨(by first|exact ZId|exact ZPd|exact safe_I|exact safe_B|exact ZPc|exact safe_V),?_⟩))) (List.forall_mem_nil _) ?_;dsimp only [ZA,z0,z1])|(apply WL.alloc;(first|exact tzV|exact tzC);(first|exact ZN rfl|exact ZW|exact ZX rfl);(intro _;dsimp only [ZA,z0,z1]))|(apply ZG;(exact tD);rfl;(exact oD);(exact hD);dsimp only [ZA,z0,z1])|(apply ZT;(exact tD);rfl;(exact oD);(exact hD);dsimp only [ZA,z0,z1])|(apply ZU;(exact tD);rfl;(exact oD);(exact hD);dsimp only [ZA,z0,z1])|((first|apply WL.opN|apply WD.opN);(focus ((first|((first|apply SY.move|apply SY.assign|apply SY.lss) <;> (exact oD))|((first|apply SY.add) <;> first|exact oD|omega)|(apply SY.load;(exact tD);(exact oD))|(apply ZJ;(exact tD);(exact oD);(exact (by simp)))|(apply SY.len;(exact oD);(exact nD);(exact uD))|(apply ZV;exact OpD.t rfl;(first|exact .head _|exact .tail _ (.head _));(exact uD))|(apply Zf;exact OpD.t rfl;(first|exact .head _|exact .tail _ (.head _));(exact uD))|(apply Zi;(exact eD);(exact oD);(exact oD);exact kD)|(apply SY.ix;(exact eD);(exact oD);(exact oD);exact kD)|(first|(apply SY.fld0 vxT <;> (exact oD))|(apply SY.fld1 vxT <;> (exact oD)))|(apply Zb ZAA;exact OpD.t rfl)|fail);all_goals infer_instance));dsimp only [ZA,z0,z1])|(apply WC.condT;(exact oD);(with_reducible rfl))|(apply ZK;(exact oD);(with_reducible rfl))|(apply ZE;(exact oD);all_goals (intro h;try exact xD))|(apply WC.condN;(exact oD);all_goals (intro h;try exact xD))|(apply WC.condNB;(exact oD);all_goals (intro h;try exact xD))|(apply WC.cond;(exact oD);all_goals (intro h;try exact xD))|refine WC.skip ?_|refine WC.ret ?_|refine WC.exit ?_|refine WC.block ?_|refine ThenD.n ?_|refine ThenD.r ?_|refine ThenD.x ?_|refine InBlockD.x ?_|refine InBlockD.n ?_|refine InBlockD.r ?_|refine ZL (by decide) ?_));all_goals (first|refine WC.id ?_|refine WL.id ?_|((repeat clear hK);(repeat clear Kx))))
   all_goals try (exfalso;first|contradiction|omega)
   rw [hkl,List.take_length]
   (refine ⟨trivial,_,rfl,?_⟩;exact fD)
theorem ZUK (s:List Vx) (hs:s.length≤1000) (hv:∀ v∈s,okL v):Fn Tryz.prog 29 [dS ZNQ s] (dX (.string ⟨(txS s).toArray⟩)):=ZK2 s hs hv False.elim
end
section
theorem ZPm {c:UInt8}:∀ {a b r r':List UInt8},(∀ x∈a,x≠c)->(∀ x∈b,x≠c)->a++c::r=b++c::r'->a=b/\r=r'
 | [],[],_,_,_,_,h=>⟨rfl,by simpa using h⟩
 | [],y::b,_,_,_,hb,h=>by
  simp only [List.nil_append,List.cons_append,List.cons.injEq] at h
  exact absurd h.1.symm (hb y (by simp))
 | x::a,[],_,_,ha,_,h=>by
  simp only [List.nil_append,List.cons_append,List.cons.injEq] at h
  exact absurd h.1 (ha x (by simp))
 | x::a,y::b,r,r',ha,hb,h=>by
  simp only [List.cons_append,List.cons.injEq] at h
  obtain ⟨h1,h2⟩:=ZPm (a:=a) (b:=b) (fun z hz=>ha z (by simp [hz])) (fun z hz=>hb z (by simp [hz])) h.2
  exact ⟨by rw [h.1,h1],h2⟩
theorem ZHx (k:Nat) (h:k<10):(UInt8.ofNat (48+k)).toNat=48+k:=by
 rw [UInt8.toNat_ofNat']
 omega
def valD (l:List UInt8):Nat:=l.foldl (fun n d=>n*10+(d.toNat-48)) 0
theorem ZPx:∀ u:Nat,valD (Lib.decDigits u)=u:=by
 intro u
 induction u using Nat.strongRecOn with
 | _ u ih =>
  by_cases h:u<10
  ·rw [Lib.decDigits_one h]
   show 0*10+((UInt8.ofNat (48+u)).toNat-48)=u
   rw [ZHx u h];omega
  ·rw [Lib.decDigits,dif_neg h]
   unfold valD at ih ⊢
   rw [List.foldl_append,ih (u / 10) (by omega)]
   show u / 10*10+((UInt8.ofNat (48+u % 10)).toNat-48)=u
   rw [ZHx _ (by omega)];omega
theorem ZQ1:∀ u:Nat,∀ d∈Lib.decDigits u,48≤d.toNat:=by
 intro u
 induction u using Nat.strongRecOn with
 | _ u ih =>
  by_cases h:u<10
  ·rw [Lib.decDigits_one h]
   intro d hd
   rw [List.mem_singleton.1 hd,ZHx u h];omega
  ·rw [Lib.decDigits,dif_neg h]
   intro d hd
   rcases List.mem_append.1 hd with q|q
   ·exact ih (u / 10) (by omega) d q
   ·rw [List.mem_singleton.1 q,ZHx _ (by omega)];omega
theorem ZIE {n:Int} (h:0≤n) {c:UInt8} (hc:c.toNat<48):∀ x∈Lib.itoa n,x≠c:=by
 obtain ⟨m,rfl⟩:=Int.eq_ofNat_of_zero_le h
 rw [Lib.itoa_nonneg]
 intro x hx e
 have:=ZQ1 m x hx
 rw [e] at this
 omega
theorem ZLz {n m:Int} (h:0≤n) (h':0≤m) (e:Lib.itoa n=Lib.itoa m):n=m:=by
 obtain ⟨a,rfl⟩:=Int.eq_ofNat_of_zero_le h
 obtain ⟨b,rfl⟩:=Int.eq_ofNat_of_zero_le h'
 rw [Lib.itoa_nonneg,Lib.itoa_nonneg] at e
 have:=congrArg valD e
 rw [ZPx,ZPx] at this
 rw [this]
theorem ZF2 (v:Vx) (s:List Vx):txS (v::s)=Lib.itoa v.1++47::(Lib.itoa v.2++32::txS s):=by
 show txV v++txS s=_
 unfold txV
 simp
theorem ZPu:∀ {s t:List Vx},(∀ v∈s,0≤v.1/\0≤v.2)->(∀ v∈t,0≤v.1/\0≤v.2)->txS s=txS t->s=t
 | [],[],_,_,_=>rfl
 | [],v::t,_,_,h=>by
  rw [ZF2] at h
  have:=congrArg List.length h
  rw [List.length_append,List.length_cons] at this
  exact absurd this (by show ¬ (0=_);omega)
 | v::s,[],_,_,h=>by
  rw [ZF2] at h
  have:=congrArg List.length h
  rw [List.length_append,List.length_cons] at this
  exact absurd this (by show ¬ (_=0);omega)
 | v::s,u::t,hs,ht,h=>by
  rw [ZF2,ZF2] at h
  have hv:=hs v (by simp)
  have hu:=ht u (by simp)
  obtain ⟨h1,h2⟩:=ZPm (ZIE hv.1 (by decide)) (ZIE hu.1 (by decide)) h
  obtain ⟨h3,h4⟩:=ZPm (ZIE hv.2 (by decide)) (ZIE hu.2 (by decide)) h2
  have e:v=u:=Prod.ext (ZLz hv.1 hu.1 h1) (ZLz hv.2 hu.2 h3)
  rw [e,ZPu (fun w hw=>hs w (by simp [hw])) (fun w hw=>ht w (by simp [hw])) h4]
end
end Go.Proofs.YtekiljakcngcoaaGreatDoor
