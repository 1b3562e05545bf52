/- Part 27: walks by contracts, and plain laws. -/
import Derived.Test.YtekiljakcngcoaaGreatDoorV24
set_option linter.unusedVariables false
set_option linter.unusedSimpArgs false
set_option linter.unusedSectionVars false
set_option maxRecDepth 100000
set_option maxHeartbeats 4000000
namespace Go.Proofs.YtekiljakcngcoaaGreatDoor
section
open Go.RowKit
section
variable {P:Program} {ops:Array Oper} {md:Region.Mode} {fr fr':List Dat} {hp:List HObj} {C:List HObj->Prop}
def rdB (md:Region.Mode) (ops:Array Oper) (n:Nat):List Nat->Array Bool->Bool
 | [],_=>true
 | i::r,listed=>decide (i<n) && (Region.ready md ops listed).contains i && Region.free md ops listed i && rdB md ops n r (listed.setIfInBounds i true)
inductive WRd (P:Program) (ops:Array Oper) (C:List HObj->Prop) (Q:List Dat->Prop):List Nat->List Dat->Prop
 | nil {fr:List Dat}:Q fr->WRd P ops C Q [] fr
 | read {i:Nat} {o:Oper} {r:List Nat} {fr:List Dat} {d:Dat}:ops[i]?=some o->(∀ hp',C hp'->SYG P ops hp' o fr d)->WRd P ops C Q r (ZA fr o.dst d)->WRd P ops C Q (i::r) fr
theorem ZKF {n f0:Nat} {L:Array Bool->List Dat->List HObj->Prop} {Q:List Dat->Prop} (hs:Region.sinkB md ops n=true) (hc:ZHq md ops n=true) (hn:n<ops.size) (hdone:∀ listed a c,L listed a c->∀ j∈Region.ready md ops listed,n≤j) :
  ∀ (l:List Nat) (listed:Array Bool) (fr:List Dat),HeadInv md ops n listed->rdB md ops n l listed=true->WRd P ops C Q l fr->(∀ fr',Q fr'->HeadInv md ops n (l.foldl (fun s i=>s.setIfInBounds i true) listed)->ZEv P md ops C n L f0 (l.foldl (fun s i=>s.setIfInBounds i true) listed) fr' hp) ->
  ZEv P md ops C n L (f0+l.length) listed fr hp
 | [],listed,fr,inv,_,h,hk=>by
  cases h
  rename_i h
  exact hk _ h inv
 | i::r,listed,fr,inv,hB,h,hk=>by
  cases h
  rename_i o d ho hy hr
  simp only [rdB,Bool.and_eq_true,decide_eq_true_eq] at hB
  obtain ⟨⟨⟨hin,hrd⟩,hf⟩,hB'⟩:=hB
  have hr':i∈Region.ready md ops listed:=by simpa using hrd
  have:=ZKE ho hs hc hn hin hdone (f0+r.length) listed fr hp inv (Region.free_spec ho hf) hr' hy (ZKF hs hc hn hdone r _ _ (inv.set hr' hin) hB' hr hk)
  rw [List.length_cons,<- Nat.add_assoc]
  exact this
structure W2 (P:Program) (ops:Array Oper) (C:List HObj->Prop) (R:List Dat->List HObj->Prop) (i j:Nat) (fr:List Dat) (hp:List HObj):Prop where
 out:∃ oi oj,ops[i]?=some oi/\ops[j]?=some oj/\∃ (β:Type) (H:β->List HObj) (D:β->Dat),SW P ops hp H D oi fr/\(∀ x,C (H x))/\∀ x,∃ (γ:Type) (H2:γ->List HObj) (D2:γ->Dat),SW P ops (H x) H2 D2 oj (ZA fr oi.dst (D x))/\(∀ y,C (H2 y))/\∀ y,R (ZA (ZA fr oi.dst (D x)) oj.dst (D2 y)) (H2 y)
theorem ZUX {R:List Dat->List HObj->Prop} {i j:Nat} {oi oj:Oper} {l:List Oper} (hi:l[i]?=some oi) (hj:l[j]?=some oj) {β:Type} {H:β->List HObj} {D:β->Dat} (h:SW P l.toArray hp H D oi fr) (hC:∀ x,C (H x)) {γ:Type} {H2:β->γ->List HObj} {D2:β->γ->Dat}
  (h2:∀ x,SW P l.toArray (H x) (H2 x) (D2 x) oj (ZA fr oi.dst (D x))) (hC2:∀ x y,C (H2 x y)) (k:∀ x y,R (ZA (ZA fr oi.dst (D x)) oj.dst (D2 x y)) (H2 x y)):W2 P l.toArray C R i j fr hp :=
 ⟨oi,oj,by simpa using hi,by simpa using hj,β,H,D,h,hC,fun x=>⟨γ,H2 x,D2 x,h2 x,hC2 x,k x⟩⟩
theorem ZP2 {n i j:Nat} {R:List Dat->List HObj->Prop} {listed:Array Bool} {S:Array Bool} (hi:i<n) (hj:j<n) (hr:Region.ready md ops listed=[i,j]) (hri:Region.ready md ops (listed.setIfInBounds i true)=[j]) (hrj:Region.ready md ops (listed.setIfInBounds j true)=[i])
  (hS:(listed.setIfInBounds i true).setIfInBounds j true=S) (hS':(listed.setIfInBounds j true).setIfInBounds i true=S) (hfin:∀ k∈Region.ready md ops S,n≤k) (h1:W2 P ops C R i j fr hp) (h2:W2 P ops C R j i fr hp) :
  ZEv P md ops C n (fun listed' f p=>(∀ k∈Region.ready md ops listed',n≤k)/\listed'=S/\R f p) 2 listed fr hp:=by
 refine ⟨fun h0=>(by rw [hr] at h0;cases h0),fun k hk=>?_⟩
 rw [hr] at hk
 rcases List.mem_cons.1 hk with rfl|hk
 ·obtain ⟨oi,oj,e1,e2,β,H,D,w1,c1,k1⟩:=h1.out
  refine ⟨hi,oi,e1,.inr ⟨β,H,D,w1,c1,fun x=>?_⟩⟩
  obtain ⟨γ,H2,D2,w2,c2,k2⟩:=k1 x
  refine ⟨fun h0=>(by rw [hri] at h0;cases h0),fun m hm=>?_⟩
  rw [hri] at hm
  cases List.mem_singleton.1 hm
  exact ⟨hj,oj,e2,.inr ⟨γ,H2,D2,w2,c2,fun y=>⟨by rw [hS];exact hfin,hS,k2 y⟩⟩⟩
 ·cases List.mem_singleton.1 hk
  obtain ⟨oi,oj,e1,e2,β,H,D,w1,c1,k1⟩:=h2.out
  refine ⟨hj,oi,e1,.inr ⟨β,H,D,w1,c1,fun x=>?_⟩⟩
  obtain ⟨γ,H2,D2,w2,c2,k2⟩:=k1 x
  refine ⟨fun h0=>(by rw [hrj] at h0;cases h0),fun m hm=>?_⟩
  rw [hrj] at hm
  cases List.mem_singleton.1 hm
  exact ⟨hi,oj,e2,.inr ⟨γ,H2,D2,w2,c2,fun y=>⟨by rw [hS'];exact hfin,hS',k2 y⟩⟩⟩
def ZSa (md:Region.Mode) (ops:Array Oper) (n:Nat) (rds:List Nat) (i j:Nat):Bool :=
 let s:=rds.foldl (fun s i=>s.setIfInBounds i true) (Array.replicate ops.size false)
 decide (n<ops.size) && Region.sinkB md ops n && ZHq md ops n && rdB md ops n rds (Array.replicate ops.size false) && decide (i<n) && decide (j<n) && decide (Region.ready md ops s=[i,j]) && decide (Region.ready md ops (s.setIfInBounds i true)=[j]) && decide (Region.ready md ops (s.setIfInBounds j true)=[i]) &&
  (Region.ready md ops ((s.setIfInBounds i true).setIfInBounds j true)).all (fun k=>decide (n≤k)) && decide (i≠j)
theorem WC.draw2 {id:Nat} {l:List Oper} {Q:ZAW} (C:List HObj->Prop) (n m:Nat) (rds:List Nat) (i j:Nat) (S:List Bool) (hm:P.follows .mixedOrders=true)
  (hB:ZSa .any l.toArray n rds i j=true) (hS:((rds.foldl (fun s i=>s.setIfInBounds i true) (Array.replicate l.toArray.size false)).setIfInBounds i true).setIfInBounds j true=S.toArray) (hlen:l.length=rds.length+2+m) (hC:C hp)
  (h:WRd P l.toArray C (fun f=>W2 P l.toArray C (fun f p=>WA P l.toArray Q m S f p) i j f hp/\W2 P l.toArray C (fun f p=>WA P l.toArray Q m S f p) j i f hp) rds fr):WC P Q (.region id l.toArray true) fr hp:=by
 refine WC.of fun P0 B w0 w a hh hf=>?_
 simp only [ZSa,Bool.and_eq_true,decide_eq_true_eq,List.all_eq_true] at hB
 obtain ⟨⟨⟨⟨⟨⟨⟨⟨⟨⟨hn,hs⟩,hc⟩,hord⟩,hin⟩,hjn⟩,hr⟩,hri⟩,hrj⟩,hfin⟩,hij⟩:=hB
 have inv0:HeadInv .any l.toArray n (Array.replicate l.toArray.size false) :=
  ⟨by simp,fun j oj _ hl=>(by rw [getD_replicate_false] at hl;cases hl),fun t _ ht=>getD_in (by simpa using ht) (getD_replicate_false _ _)⟩
 have HW:=ZKF (f0:=2) (hp:=hp) (L:=fun listed' f p=>(∀ k∈Region.ready .any l.toArray listed',n≤k)/\listed'=S.toArray/\WA P l.toArray Q m S f p) hs hc hn (fun _ _ _ hL=>hL.1) rds _ fr inv0 hord h fun fr' hq _ =>
  ZP2 hin hjn hr hri hrj hS (by rw [Array.setIfInBounds_comm _ _ (Ne.symm hij)];exact hS) (by rw [<- hS];exact hfin) hq.1 hq.2
 have hx:Ext w { w with drawn:=w.drawn+1 }:=(Ext.refl w).drew
 refine wp_region_any hm ?_
 have:=ZCS (Q':=ZCE Q P0 B w0) (g:=m) _ _ _ hp _ _ hC (hh.ext hx) (hf.ext hx) (fun listed' fr' hp' a' w' hh' hf' hL=>by
  rw [hL.2.1]
  exact hL.2.2.out _ _ _ _ _ hh' hf') HW
 rw [show l.toArray.size=2+rds.length+m by simp;omega]
 rw [show (l.toArray.size)=2+rds.length+m by simp;omega] at this
 exact this
theorem ZBn {l:List Oper} {Q:List Dat->Prop} {i:Nat} {o:Oper} {r:List Nat} {d:Dat} (ho:l[i]?=some o) (h:∀ hp',C hp'->SYG P l.toArray hp' o fr d) (k:WRd P l.toArray C Q r (ZA fr o.dst d)):WRd P l.toArray C Q (i::r) fr:=WRd.read (by simpa using ho) h k
theorem W2.id {R:List Dat->List HObj->Prop} {i j:Nat} (h:W2 P ops C R i j fr hp):W2 P ops C R i j fr hp:=h
theorem WRd.id {Q:List Dat->Prop} {r:List Nat} (h:WRd P ops C Q r fr):WRd P ops C Q r fr:=h
theorem SW.alloc {dst:Option Tmp} {ty:TypeId} {ps:String} {af:Array Edge} {T:TypeId} {n:Nat} {agg:Bool} {z:Value} (hz:TyZ P T z) (hs:(dX z).Shape n agg) :
  SW P ops hp (fun b:Nat=>Zh b T n agg (dX z)::hp) (fun b=>dX (.pointer (some ⟨b,0,none⟩))) ⟨dst,.alloc T,ty,ps,af,none⟩ fr:=⟨rfl,fun {P0 B w0 w a} hh ho K Q hk=>by
 obtain ⟨cs,k1,k0,k2,k3,k4⟩:=hs (fun _=>True) w z rfl
 have hrun:(execOp a.eval ⟨dst,.alloc T,ty,ps,af,none⟩).run P w = .ok (.value (.pointer (some ⟨w.heap.size,0,none⟩))) (w.alloc (.cells cs.toArray T)):=by
  cases hq:P.info? T with
  | none=>have:=hz.out;simp [hq] at this
  | some i =>
   have hz':i.zero=some z:=by have:=hz.out;simpa [hq] using this
   unfold execOp
   simp [Instr.alloc,zeroValue,typeInfo,hq,hz',newVar,newRow,k3]
 unfold Oper.wp
 rw [hrun]
 have hx:=Ext.of_alloc w (.cells cs.toArray T)
 have hb:∀ k,(Zh w.heap.size T n agg (dX z)).blk=some k->w.heap.size≤k/\k<(w.alloc (.cells cs.toArray T)).heap.size:=fun k hk=>by
  cases hk
  exact ⟨Nat.le_refl _,by simp⟩
 exact hk w.heap.size _ _ (hh.push hx hb ⟨cs,z,Z0 w _,k1,k0,k2,k4,rfl⟩) (fun d u hd=>Z6 hx (fun k hk=>(hb k hk).1) hd) rfl⟩
end
end
end Go.Proofs.YtekiljakcngcoaaGreatDoor
