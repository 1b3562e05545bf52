/- Part 19 of the proof. -/
import Derived.Test.YtofkoleingbbpaaGreatDoorZa18
set_option linter.all false
set_option maxRecDepth 100000
set_option maxHeartbeats 64000000
namespace Go.Proofs.YtofkoleingbbpaaGreatDoor
section
open C34
def ZAk (l:Cx) (f:Vx->Int) (d:Nat):List Cx:=(List.range d).map fun k:Nat=>ZCk l ((k:Int)+1) (ZAg f (k:Int))
theorem ZAO {l:Cx} {f:Vx->Int} {d:Nat}:(ZAk l f d).length=d:=by simp[ZAk]
theorem ZHD {l:Cx} {f:Vx->Int} {d k:Nat} (h:k<d):(ZAk l f d).getD k []=ZCk l ((k:Int)+1) (ZAg f (k:Int)):=by
 rw[List.getD_eq_getElem?_getD,List.getElem?_eq_getElem (by rw[ZAO];exact h)];simp[ZAk]
theorem ZPe {l:Cx} {f:Vx->Int} {d:Nat}:ZAk l f (d+1)=ZAk l f d++[ZCk l ((d:Int)+1) (ZAg f (d:Int))]:=by
 unfold ZAk;rw[List.range_succ,List.map_append];rfl
theorem ZBI {l:Cx} (h:(ZBf l).2=0):ZBC l=0/\∀k,1≤k->k≤8->(ZAi l k).length≤4096:=by
 unfold ZBf at h;by_cases h0:ZBC l=0
 ·refine⟨h0,fun k h1 h2=>?_⟩;rw[if_neg (by simpa using h0)] at h;by_cases ha:(List.range 8).any (fun k=>decide (4096<(ZAi l (k+1)).length))=true
  ·rw[if_pos ha] at h;cases h
  ·simp only[List.any_eq_true,List.mem_range,decide_eq_true_eq,not_exists,not_and] at ha;have:=ha (k-1) (by omega);rw[show k-1+1=k by omega] at this;omega
 ·rw[if_pos h0] at h;exact absurd h h0
theorem ZCQ {l:Cx} {q:List Vx->Bool} (h:(ZBf l).2=0) {k:Nat} (h1:1≤k) (h2:k≤8):ZCk l (k:Int) q=(ZAi l k).filter q:=by
 obtain⟨g1,g2⟩:=ZBI h;have g3:=g2 k h1 h2;unfold ZCk ZCR;rw[if_neg (by omega),if_neg (by simpa using g1),if_neg (by omega),Int.toNat_natCast,if_neg (by omega)]
def ZF8 (l:Cx):Nat:=(l.map fun s=>2 ^ s.length).sum
theorem ZTZ (l:Cx) (k:Nat):(ZAi l k).length≤ZF8 l:=by
 have h1:(ZAi l k).length≤(ZHb l k).length:=List.Nodup.length_le_of_subset (ZCZ l _).nodup fun x hx=>ZGL.2 hx;refine Nat.le_trans h1 ?_;unfold ZHb ZF8;clear h1;induction l with
 | nil=>simp
 | cons s l ih =>
  simp only[List.map_cons,List.flatten_cons,List.length_append,List.sum_cons];have:=ZAo k s;omega
theorem ZDc {l:Cx} {q:List Vx->Bool} (h:(ZBf l).2=0) {k:Nat} (h1:1≤k) (h2:k≤8):(ZCk l (k:Int) q).length≤ZF8 l:=by
 rw[ZCQ h h1 h2];exact Nat.le_trans (List.length_filter_le _ _) (ZTZ l k)
theorem ZEl {l:Cx} {q:List Vx->Bool} (h:(ZBf l).2=0) {k:Nat} (h1:1≤k) (h2:k≤8) {s:List Vx} (hs:s∈ZCk l (k:Int) q):ZAC s=0/\s.length=k/\q s=true/\s∈ZAi l k:=by
 rw[ZCQ h h1 h2,List.mem_filter] at hs;obtain⟨g1,g2⟩:=ZBI h;obtain⟨x,hx,hm⟩:=ZB7.1 hs.1;have hg:=(ZAX.1 g1).2.2.1 x hx;have hl:=((ZAy _ _ _).1 hm).2;exact⟨(ZA7 hg (by omega) hm).1,hl,hs.2,hs.1⟩
theorem ZQT {l:Cx} {q:List Vx->Bool} (h:(ZBf l).2=0) {k:Nat} (h1:1≤k) (h2:k≤8):(ZCk l (k:Int) q).Nodup:=by
 rw[ZCQ h h1 h2];exact(ZCZ l k).nodup.filter _
theorem ZFr {s t:List Vx} (hs:ZAC s=0) (ht:ZAC t=0) (h:txS s=txS t):s=t:=by
 have go:∀ {s:List Vx},ZAC s=0->∀v∈s,0≤v.1/\0≤v.2:=fun h v hv=>by
  have:=(Zi.1 h).2.2.1 v hv;unfold ZDL at this;simp only[Bool.and_eq_true,decide_eq_true_eq] at this;omega
 exact ZQc (go hs) (go ht) h
structure Lv (L:List Cx):Prop where
 nd:∀k,(L.getD k []).Nodup
 ok:∀k,∀s∈L.getD k [],ZAC s=0/\s.length=k+1
theorem ZGP {l:Cx} {f:Vx->Int} (h:(ZBf l).2=0) {d:Nat} (hd:d≤8):Lv (ZAk l f d) where
 nd:=fun k=>by
  by_cases hk:k<d
  ·rw[ZHD hk];exact ZQT (k:=k+1) h (by omega) (by omega)
  ·rw[List.getD_eq_getElem?_getD,List.getElem?_eq_none (by rw[ZAO];omega)];simp
 ok:=fun k s hs=>by
  by_cases hk:k<d
  ·rw[ZHD hk] at hs;have:=ZEl (k:=k+1) h (by omega) (by omega) hs;exact⟨this.1,this.2.1⟩
  ·rw[List.getD_eq_getElem?_getD,List.getElem?_eq_none (by rw[ZAO];omega)] at hs;simp at hs
theorem Lv.sub {L:List Cx} (h:Lv L) {k j:Nat} {s t:List Vx} (hs:s∈L.getD k []) (hj:1≤j) (ht:t∈ZT j s):ZAC t=0/\t.length=j:=by
 have hl:=((ZAy _ _ _).1 ht).2;exact⟨(ZA7 (h.ok k s hs).1 (by omega) ht).1,hl⟩
def ZFC (l:Cx) (f:Vx->Int) (L:List Cx) (k:Nat):List (List Int):=(ZCk l (k:Int) (ZF6 f (((2 ^ k:Nat):Int)-1))).map fun s=>ZQv txS (ZT k) L s k
def ZVH (k:Nat) (f s:List Vx):Bool:=decide (f∈ZT k s)
theorem ZKh {L:List Cx} (hL:Lv L) {s:List Vx} {k:Nat} (h1:1≤k) (hs:ZAC s=0):ZQv txS (ZT k) L s k=ZDy (ZVH k) L s k:=by
 have h:=ZSH (k:=k) (f:=s) (kx:=txS) (fac:=ZT k) (hL.nd _) (fun t ht e=>ZFr (hL.ok _ t ht).1 hs e) (fun t ht=>ZIC (Zi.1 (hL.ok _ t ht).1).2.2.2 k) fun t ht u hu e=>ZFr (hL.sub ht h1 hu).1 hs e;rw[h];congr 1;funext a b
 unfold ZVH;by_cases hm:a∈ZT k b
 ·rw[decide_eq_true hm];simp[hm]
 ·rw[decide_eq_false hm];simp[hm]
def eqsP (l:Cx) (f:Vx->Int) (L:List Cx):List (List Int):=(List.range (L.length-1)).flatMap fun k=>ZFC l f L (k+1)
def ZBb (l:Cx) (f:Vx->Int) (L:List Cx):List (List Int):=plc 0 (L.getD 0 []) (fun _=>true)::eqsP l f L
theorem ZI9 {l:Cx} {f:Vx->Int} (h:(ZBf l).2=0) {d:Nat} (h0:0<d) (hd:d≤8):∀r∈ZBb l f (ZAk l f d),L05.Asc r/\∀x∈r,0≤x/\x<((ZAj (ZAk l f d) d:Nat):Int):=by
 have hL:=ZGP (f:=f) h hd;have hu:=ZHS (ZAk l f d);rw[ZAO] at hu;intro r hr;rw[<- hu];rcases List.mem_cons.1 hr with rfl|hr
 ·exact ZRp _ (by rw[ZAO];exact h0)
 ·obtain⟨k,hk,hr⟩:=List.mem_flatMap.1 hr;have hk:=List.mem_range.1 hk;rw[ZAO] at hk;obtain⟨s,hs,rfl⟩:=List.mem_map.1 hr;have hg:=ZEl (k:=k+1) h (by omega) (by omega) hs;rw[ZKh hL (by omega) hg.1];exact ZVX _ _ _ (by omega) (by rw[ZAO];omega)
theorem ZKV {l:Cx} {f:Vx->Int} (h:(ZBf l).2=0) {d:Nat} (hd:d≤8):∀k,k≤d->ZAj (ZAk l f d) k≤ZF8 l*k
 | 0,_=>by simp[ZAj]
 | k+1,hk=>by
  have ih:=ZKV (f:=f) h hd k (by omega);rw[ZDY (by rw[ZAO];omega),ZHD (by omega),Nat.mul_succ];have:=ZDc (q:=ZAg f (k:Int)) h (k:=k+1) (by omega) (by omega);rw[show((k+1:Nat):Int)=(k:Int)+1 by omega] at this;omega
theorem ZKB {α β:Type} {g:α->List β} {B:Nat}:∀ {l:List α},(∀x∈l,(g x).length≤B)->(l.flatMap g).length≤B*l.length
 | [],_=>by simp
 | x::l,h=>by
  have h1:=ZKB (l:=l) fun y hy=>h y (List.mem_cons_of_mem _ hy);have h2:=h x (List.mem_cons_self ..);rw[List.flatMap_cons,List.length_append,List.length_cons,Nat.mul_succ];omega
theorem ZMp {l:Cx} {f:Vx->Int} (h:(ZBf l).2=0) {d:Nat} (hd:d≤8):(ZBb l f (ZAk l f d)).length≤1+ZF8 l*8:=by
 unfold ZBb eqsP;rw[List.length_cons];have:=ZKB (g:=fun k=>ZFC l f (ZAk l f d) (k+1)) (B:=ZF8 l) (l:=List.range ((ZAk l f d).length-1)) fun k hk=>by
  have hk:=List.mem_range.1 hk;rw[ZAO] at hk;unfold ZFC;rw[List.length_map];exact ZDc h (by omega) (by omega)
 rw[List.length_range,ZAO] at this;rw[ZAO];have h2:ZF8 l*(d-1)≤ZF8 l*8:=Nat.mul_le_mul_left _ (by omega);omega
def ZFU (l:Cx) (f:Vx->Int) (d:Nat):Option (List Cx):=(L05.solP (ZBb l f (ZAk l f d)) [0] (ZAj (ZAk l f d) d)).map (ZBL (ZAk l f d))
end
section
open Go.RowKit
section
variable {P:Program} {k t e:TypeId} {z:Value} {K V:Type} [DecidableEq K] {kv:K->Value} {ok:K->Prop} {vv:V->Value}
def entF (kv:K->Value) (vv:V->Value) (m:List (K × V × Nat)):List MapEntry:=m.map fun p=>⟨kv p.1,vv p.2.1,p.2.2⟩
structure MapOf (ok:K->Prop) (f:K->Option V) (m:List (K × V × Nat)):Prop where
 keys:∀p∈m,ok p.1
 nodup:(m.map (·.1)).Nodup
 no:∀x,(∀p∈m,p.1≠x)->f x=none
 yes:∀p∈m,f p.1=some p.2.1
def upF (f:K->Option V) (x:K) (v:Option V):K->Option V:=fun y=>if y=x then v else f y
def hG (b:Nat) (kv:K->Value) (ok:K->Prop) (vv:V->Value) (p:(K->Option V)->Prop):HObj where
 blk:=some b
 ok:=fun _ w=>∃f m c,p f/\MapOf ok f m/\w.heap[b]?=some (.map (entF kv vv m).toArray c)
 weak:=fun h _=>h
 bound:=fun h=>h
 move:=fun⟨f,m,c,h0,h1,h2⟩ hg _ hne=>⟨f,m,c,h0,h1,by
  have hlt:b<_:=(Array.getElem?_eq_some_iff.1 h2).1;refine(hg.block b hlt ?_).trans h2;rcases hne with h|h
  ·cases h
  ·exact h⟩
theorem MapOf.at {f:K->Option V} {m:List (K × V × Nat)} (h:MapOf ok f m) {i j:Nat} (hi:i<m.length) (hj:j<m.length) (e:m[i].1=m[j].1):i=j:=by
 have h3:(m.map (·.1))[i]'(by simpa using hi)=(m.map (·.1))[j]'(by simpa using hj):=by simpa using e
 exact(List.getElem_inj h.nodup).1 h3
theorem MapOf.set {f:K->Option V} {m:List (K × V × Nat)} (h:MapOf ok f m) {j:Nat} (hj:j<m.length) (v:V):MapOf ok (upF f m[j].1 (some v)) (m.set j (m[j].1,v,m[j].2.2)):=by
 have hks:(m.set j (m[j].1,v,m[j].2.2)).map (·.1)=m.map (·.1):=by
  rw[List.map_set];apply List.ext_getElem (by simp);intro i h1 h2;rw[List.getElem_set];split
  ·rename_i e;subst e;simp
  ·rfl
 refine⟨fun p hp=>?_,by rw[hks];exact h.nodup,fun x hx=>?_,fun p hp=>?_⟩
 ·rcases List.mem_or_eq_of_mem_set hp with hp|rfl
  ·exact h.keys p hp
  ·exact h.keys m[j] (List.getElem_mem hj)
 ·have hx':∀p∈m,p.1≠x:=fun p hp e=>by
   have:p.1∈(m.set j (m[j].1,v,m[j].2.2)).map (·.1):=by rw[hks];exact List.mem_map_of_mem hp
   obtain⟨q,hq,e'⟩:=List.mem_map.1 this;exact hx q hq (e'.trans e)
  unfold upF;rw[if_neg fun e=>hx' _ (List.getElem_mem hj) e.symm];exact h.no x hx'
 ·obtain⟨i,hi,rfl⟩:=List.mem_iff_getElem.1 hp;rw[List.length_set] at hi;rw[List.getElem_set];unfold upF;by_cases e:j=i
  ·rw[if_pos e];exact if_pos rfl
  ·rw[if_neg e,if_neg fun q=>e (h.at hi hj q).symm];exact h.yes _ (List.getElem_mem hi)
theorem MapOf.push {f:K->Option V} {m:List (K × V × Nat)} (h:MapOf ok f m) {x:K} (hx:ok x) (hn:∀p∈m,p.1≠x) (v:V) (c:Nat):MapOf ok (upF f x (some v)) (m++[(x,v,c)]):=by
 refine⟨fun p hp=>?_,?_,fun y hy=>?_,fun p hp=>?_⟩
 ·rcases List.mem_append.1 hp with hp|hp
  ·exact h.keys p hp
  ·rw[List.mem_singleton.1 hp];exact hx
 ·rw[List.map_append,List.nodup_append];refine⟨h.nodup,by simp,fun a ha b hb e=>?_⟩;obtain⟨p,hp,rfl⟩:=List.mem_map.1 ha;simp only[List.map_cons,List.map_nil,List.mem_singleton] at hb;exact hn p hp (e.trans hb)
 ·unfold upF;rw[if_neg fun e=>hy (x,v,c) (by simp) e.symm];exact h.no y fun p hp=>hy p (List.mem_append_left _ hp)
 ·unfold upF;rcases List.mem_append.1 hp with hp|hp
  ·rw[if_neg (hn p hp)];exact h.yes p hp
  ·rw[List.mem_singleton.1 hp];exact if_pos rfl
end
section
variable {P:Program} {ops:Array Oper} {hp:List HObj} {o:Oper} {fr:List Dat} {d d2:Dat} {Q:Z4} {rest:List Oper}
variable {dst:Option Tmp} {ty:TypeId} {ps:String} {af:Array Edge} {g:Option (Nat × Bool)} {t k e:TypeId} {z:Value} {K V:Type} [DecidableEq K] {kv:K->Value} {ok:K->Prop} {vv:V->Value} {b:Nat} {f:K->Option V} {p p':(K->Option V)->Prop}
theorem MapOf.nil:MapOf ok (fun _:K=>(none:Option V)) []:=⟨by simp,by simp,fun _ _=>rfl,by simp⟩
end
end
section
open Go.RowKit
def RVal:Rel Value:=fun _ _ v x=>v=x
instance:Good RVal:=⟨fun h _=>h,fun h _=>h,fun h=>h⟩
def ZLD:Rel Value:=fun _ _ v x=>v=x/\x.oneCell'=true
instance:Good ZLD:=⟨fun h _=>h,fun h _=>h,fun h=>h⟩
section
variable {P:Program} {ops:Array Oper} {hp:List HObj} {o:Oper} {fr:List Dat} {d:Dat} {Q:Z4} {rest:List Oper} {c:Code}
variable {dst:Option Tmp} {ty:TypeId} {ps:String} {af:Array Edge} {g:Option (Nat × Bool)} {e e' t T:TypeId} {bytes:Nat} {z:Value} {ag:Bool} {α:Type} {R:Rel α} {xs:List α} {v:Value}
theorem ZMg {I:Nat->Prop} {w:World} (h:Own 0 e R I w v xs):(v = .slice none 0 0/\xs=[])\/∃b cap,v = .slice (some ⟨b,0,none⟩) xs.length cap/\xs.length≤cap:=by
 obtain⟨us,h1,⟨h2,h3⟩,h4⟩:=h;rcases h3 with ⟨hv,hz⟩|⟨g,cap,cur,hv,hB,hg,hc1,hc2,hc3,hc4⟩
 ·exact .inl ⟨hv,List.length_eq_zero_iff.1 hz⟩
 ·exact .inr ⟨g,cap,hv,hc1⟩
end
end
section
open Go.RowKit
theorem mAt {hp:List HObj} {o:HObj} (i:Nat) (h:hp[i]?=some o):o∈hp:=List.mem_of_getElem? h
theorem ZGS:∀ {hp:List HObj} {i:Nat} {o:HObj},hp[i]?=some o->hp.Perm (o::hp.eraseIdx i)
 | [],i,o,h=>by simp at h
 | a::hp,0,o,h=>by cases h;exact List.Perm.refl _
 | a::hp,i+1,o,h=>by
  have:=ZGS (hp:=hp) (i:=i) (o:=o) (by simpa using h);exact(List.Perm.cons a this).trans (List.Perm.swap _ _ _)
theorem ZKY:∀ {hp:List HObj} {i:Nat} (_:i<hp.length) (o':HObj),(o'::hp.eraseIdx i).Perm (hp.set i o')
 | [],i,h,o'=>by simp at h
 | a::hp,0,h,o'=>List.Perm.refl _
 | a::hp,i+1,h,o'=>by
  have:=ZKY (hp:=hp) (i:=i) (by simpa using h) o';exact(List.Perm.swap _ _ _).trans (List.Perm.cons a this)
section
variable {P:Program} {ops:Array Oper} {hp hp':List HObj} {o:Oper} {fr:List Dat} {d d2:Dat} {Q:Z4} {rest:List Oper} {c:Code} {β:Type} {D:β->Dat}
theorem SW.perm {H H':β->List HObj} (h1:hp.Perm hp') (h2:∀x,(H x).Perm (H' x)) (k:SW P ops hp' H D o fr):SW P ops hp H' D o fr:=⟨k.guard,fun {P0 B w0 w a} hh hon K Q hk=>by
 obtain⟨hh1,hI⟩:=hh.perm h1;refine k.out hh1 ⟨hon.1,fun t ht d hd=>d.weak (hon.2 t ht d hd) fun j hj=>(hI j).1 hj⟩ K Q fun x v w' hw hrd hd=>?_;obtain⟨hh2,hI2⟩:=hw.perm (h2 x);exact hk x v w' hh2 (fun d u hu=>d.weak (hrd d u (d.weak hu fun j hj=>(hI j).1 hj)) fun j hj=>(hI2 j).1 hj) ((D x).weak hd fun j hj=>(hI2 j).1 hj)⟩
theorem SW.at (i:Nat) {ob:HObj} {H:β->HObj} (hi:hp[i]?=some ob) (k:∀q:List HObj,SW P ops (ob::q) (fun x=>H x::q) D o fr):SW P ops hp (fun x=>hp.set i (H x)) D o fr :=
 SW.perm (ZGS hi) (fun x=>ZKY (List.getElem?_eq_some_iff.1 hi).1 (H x)) (k _)
theorem ZS9 {α:Type} {R:Rel α} {_gR:Good R} {v:Value} {e:TypeId} {xs:List α} {I:Nat->Prop} {w:World} (h:(Zk v e R xs).ok I w):v.oneCell'=true:=by
 rcases ZMg h with ⟨rfl,_⟩|⟨b,cap,rfl,_⟩ <;> rfl
theorem ZCY {α:Type} {R:Rel α} {_gR:Good R} {v:Value} {e:TypeId} {xs:List α} (hm:Zk v e R xs∈hp) (h:v.oneCell'=true->WL P ops Q rest fr hp):WL P ops Q rest fr hp:=WL.of fun _ _ _ _ _ hh hf=>(h (ZS9 (hh.ok _ hm))).on hh hf
end
section
variable {P:Program} {ops:Array Oper} {hp:List HObj} {fr:List Dat} {d:Dat} {dst:Option Tmp} {ty:TypeId} {ps:String} {af:Array Edge} {T T1 T2 e:TypeId} {b k:Nat} {ds:List Dat}
theorem SW.storeS {t:Nat} {x:Operand} (T':TyI P T1 1 false) (hp0:OpD fr (.tmp t) (dX (.pointer (some ⟨b,k,none⟩)))) (hx:OpD fr x d) (hs:d.Shape 1 false) (hk:k<ds.length) :
  SW P ops (ZAV b T2 ds::hp) (fun _:Unit=>ZAV b T2 (ds.set k d)::hp) (fun _=>dX undef) ⟨dst,.store T1 (.tmp t) x,ty,ps,af,none⟩ fr:=⟨rfl,fun {P0 B w0 w a} hh hon KK QQ hkk=>by
 obtain⟨cs,c1,c2,c3,c4⟩:=hh.ok (ZAV b T2 ds) (by simp);have h1:a.eval (.tmp t)=_:=hp0.get (by simp[Op.operands]) hon;have hd:d.rd (Imm P0 B (ZAV b T2 ds::hp)) w (a.eval x):=hx.get (by simp[Op.operands]) hon;obtain⟨us,u1,u0,u2,u3,u4⟩:=hs _ _ _ hd;obtain⟨u,rfl⟩:∃u,us=[u]:=List.length_eq_one_iff.1 u1;have hu:a.eval x=u:=by
  simp only[Bool.false_eq_true,if_false] at u4;exact(List.cons.inj u4).1.symm
 have hone:u.oneCell'=true:=u2 u (by simp);have hdu:d.rd (Imm P0 B (ZAV b T2 ds::hp)) w u:=by rw[hu] at hd;exact hd
 have hkc:k<cs.length:=by omega
 have hset:=setCell_eq_setRow w b k cs.toArray T2 (0,0) u c1;have hc:w.cell? ⟨b,k,none⟩=some cs[k]:=by simp[World.cell?,c1,hkc]
 have hfz:w.frozen? ⟨b,k,none⟩=false:=by simp[World.frozen?,c1]
 have hst:(store ((⟨b,k,none⟩:Addr).add 0) u).run P w = .ok () (w.setCell ⟨b,k,none⟩ u):=by
  rw[show((⟨b,k,none⟩:Addr).add 0)=⟨b,k,none⟩ from rfl,run_store P w _ u _ hone,hc];simp[hfz]
 have hsz:(sizeOf T1).run P w = .ok 1 w:=by
  have h5:=T'.size;cases hq:P.info? T1 with
  | none=>rw[hq] at h5;cases h5
  | some i =>
   rw[hq] at h5;have:i.size=1:=by simpa using h5
   rw[<- this];rw[run_sizeOf w hq];simp[Program.cellsOf,hq]
 have hw:w.setCell ⟨b,k,none⟩ u=w.setRow b (cs.set k u).toArray:=by rw[hset];simp
 have hrun:(execOp a.eval ⟨dst,.store T1 (.tmp t) x,ty,ps,af,none⟩).run P w = .ok .skip (w.setRow b (cs.set k u).toArray):=by
  rw[<- hw];unfold execOp;simp only[h1,hu,Instr.storeAt,Instr.sureAddr,storeVar,Sem.run_bind,hsz,Result.andThen_ok,Sem.run_pure];simp[ZC6 hone,storeCells,hst]
 unfold Oper.wp;rw[hrun];have hgr:w.grownBy (w.setRow b (cs.set k u).toArray) (ZAV b T2 ds).blk:=ZAM;have hok:(ZAV b T2 (ds.set k d)).ok (fun j=>Imm P0 B (ZAV b T2 ds::hp) j/\j<w.heap.size) (w.setRow b (cs.set k u).toArray):=by
  refine⟨cs.set k u,setRow_heap w b _ _ _ _ c1,by simp[c2],fun c hc=>?_,fun j c e hc he=>?_⟩
  ·rcases List.mem_or_eq_of_mem_set hc with hc|rfl
   ·exact c3 c hc
   ·exact hone
  ·rw[List.getElem?_set] at hc he;by_cases hjk:k=j
   ·rw[if_pos hjk,if_pos (by omega)] at hc he;cases hc;cases he;exact d.grown (d.bound hdu) hgr fun j q hj=>hj.1.2 (ZAV b T2 ds) (by simp) q
   ·rw[if_neg hjk] at hc he;exact e.grown (e.bound (c4 j c e hc he)) hgr fun j q hj=>hj.1.2 (ZAV b T2 ds) (by simp) q
 exact hkk () _ _ (hh.write hgr (.inl rfl) hok) (fun d' u hd=>Zd (o':=ZAV b T2 (ds.set k d)) hgr (.inl rfl) hd) rfl⟩
end
end
section
open Go.RowKit
open C34

theorem ZCc:StrT Tryz.prog 99 3:=⟨fun b off i w hi=>by
 match i,hi with
 | 0,_=>go_simp
 | 1,_=>go_simp
 | 2,_=>go_simp⟩
theorem ZUm:TyI Tryz.prog 54 1 false:=⟨by kernel_rfl,Tryz.isAgg54⟩
theorem ZUn:TyI Tryz.prog 97 1 false:=⟨by kernel_rfl,Tryz.isAgg97⟩
theorem ZUf:ElT Tryz.prog 97 145 1 (.map none) 8 false:=⟨Tryz.underlying97,by kernel_rfl,Tryz.isAgg145,rfl⟩
theorem ZQ2 {P:Program} {ops:Array Oper} {hp:List HObj} {β:Type} {H:β->List HObj} {D:β->Dat} {o:Oper} {fr:List Dat} {α:Type} {R:Rel α} {_gR:Good R} {v:Value} {e:TypeId} {xs:List α} (hg:o.guard=none) (hm:Zk v e R xs∈hp) (k:v.oneCell'=true->SW P ops hp H D o fr):SW P ops hp H D o fr :=
 ⟨hg,fun {_ _ _ _ _} hh ho K Q hk=>(k (ZS9 (hh.ok _ hm))).out hh ho K Q hk⟩
abbrev ZVb (S:Prop) (b:Nat) (vL vN:Value) (Ls:List Cx) (Ms:List ZUc) (n:Nat):List HObj :=
 [ZAV b 99 [dX vL,dX vN,dI (n:Int)],Zk vL 27 (ZA5 S) Ls,Zk vN 145 (ZF4 kvS RI) Ms]
theorem ZNa {S:Prop} (b n:Nat) (Ls:List Cx) (Ms:List ZUc) (vL vN:Value) (lv:Cx) (hn:n≤100000) (hlv:lv.length≤100000) (hLl:Ls.length≤100) (hMl:Ms.length≤100) (hnd:lv.Nodup) (hck:∀s∈lv,ZAC s=0) (hS:S->∀s∈lv,∀v∈s,v.1<100/\v.2<100) :
  CallC Tryz.prog 58 ([dX (.pointer (some ⟨b,0,none⟩)),dS (ZA5 S) lv]++([]:List Value).map dX) (ZVb S b vL vN Ls Ms n)
   (fun _ hp2=>∃vL' vN',hp2=ZVb S b vL' vN' (Ls++[lv]) (Ms++[ZFK txS n lv]) (n+lv.length)):=by
 have hinj:∀a∈lv,∀b∈lv,txS a=txS b->a=b:=fun a ha b hb e=>ZFr (hck a ha) (hck b hb) e;(refine ZDk Tryz.func58 rfl rfl (fun hp=>?_);simp only[Tryz.ntmps58,List.length_cons,List.length_nil,List.length_append,List.length_map,Nat.reduceAdd,Nat.reduceSub,List.replicate_succ,List.replicate_zero,List.cons_append,List.nil_append,List.map_cons,List.map_nil,List.append_assoc])
 (repeat' (first|(apply zV;exact yF;exact zQ)|refine ZVj ?_|refine ZA fun Kx hK=>?_|(refine hK _ _ ?_;clear hK)|refine ZVk ?_ |  (refine ZWm kvS vvI fun bm=>?_;dsimp only[ZC,z0,z1])|(apply zV;(focus ((first|(apply ZVu;exact oD;exact nD;exact uD));all_goals infer_instance));exact zQ)|refine ZVp ?_))
 all_goals try exact xO
 (refine ZV4 (X:=Nat) (fun k=>[(10,dI (k:Int)),(6,dA),(11,dA),(12,dA),(13,dA),(14,dA),(15,dA),(16,dA),(17,dA),(18,dA),(19,dA),(20,dA),(21,dA),(22,dA),(23,dA),(24,dA),(25,dA),(26,dA),(27,dA),(28,dA)]) (fun k=>(hM bm kvS vvI (ZFK txS n (lv.take k))::ZAV b 99 [dX vL,dX vN,dI ((n+k:Nat):Int)]::Zk vL 27 (ZA5 S) Ls::Zk vN 145 (ZF4 kvS RI) Ms::hp)) (fun k=>lv.length-k) (fun k=>k≤lv.length) 0 ?start ?frame0 ?objs0 ?round)
 case start=>exact Nat.zero_le _
 case frame0=>exact zFr
 case objs0=>rfl
 case round =>
  rintro k hk;dsimp only[ZH,z0,z1];have hkeys:=ZIx (off:=n) hnd hinj k hk;by_cases hkl:k<lv.length
  ·have hkI:(k:Int)<(lv.length:Int):=by omega
   have hc:=hck _ (List.getElem_mem hkl);have cK:=ZF0 (S:=S) hc fun q=>hS q _ (List.getElem_mem hkl);have hsn:=ZHG (kx:=txS) (off:=n) hkl;have hok:∀p∈ZFK txS n (lv.take k),okS p.1:=fun p hp=>by
    have:p.1∈(lv.take k).map txS:=by rw[<- hkeys];exact List.mem_map_of_mem hp
    obtain⟨s,hs,he⟩:=List.mem_map.1 this;rw[<- he];exact ZAH (hck s (List.mem_of_mem_take hs))
   have hkn:((ZFK txS n (lv.take k)).map (·.1)).Nodup:=by
    rw[hkeys];refine List.pairwise_map.2 ((hnd.sublist (List.take_sublist _ _)).imp_of_mem fun {a c} ha hc hne e=>hne (hinj a (List.mem_of_mem_take ha) c (List.mem_of_mem_take hc) e))
   have e1:((n+k:Nat):Int)+1=((n+(k+1):Nat):Int):=by omega
   have hnk:((n+k:Nat):Int)≤200000:=by omega
   have hnk0:0≤((n+k:Nat):Int):=by omega
   generalize ((n+k:Nat):Int)=nk at *;generalize ZFK txS n (lv.take k)=M at *;((repeat' (first |  (apply ZWk (id:=4) 7;kernel_rfl;kernel_rfl;simp only[List.take_succ_cons,List.take_zero,List.drop_succ_cons,List.drop_zero])|((first|apply ZVi|apply ZVl);exact yF;dsimp only[ZC,z0,z1])|refine ZVj ?_|refine WD.nil ?_|refine ZA fun Kx hK=>?_|(refine hK _ _ ?_;clear hK)|refine ZVk ?_ |  (refine ZBW (v:=txS lv[k]) (u:=nk) ZE2 ZBa (ZVh rfl) (ZVh rfl) isX (ZVh rfl) isI (ZAH hc) hok hkn ?_;dsimp only[ZC,z0,z1]) |  (refine ZBk (SW.at 1 rfl fun q=>SW.storeS tyI (ZVh rfl) (ZVh rfl) ZAS (by simp)) fun _=>?_;dsimp only[ZC,z0,z1])|((first|apply ZVi|apply ZVl);(focus ((first|(exact ZIL (ZVh rfl))|(refine ZAl ZCc (ZVh rfl) (by decide))|(refine ZAY tyI (ZVh rfl) (mAt 1 rfl) rfl)|(apply ZVm (cK) Tryz.call69;exact aD)|((first|apply ZVo|apply ZVn|apply ZVq) <;> exact oD)|((first|apply ZV2) <;> first|exact oD|omega)|(apply ZV8;exact eD;exact oD;exact oD;exact kD)|fail);all_goals infer_instance));dsimp only[ZC,z0,z1])|(apply ZB;exact oD;all_goals (intro h;try exact xD))|refine ZVr ?_|refine ZVp ?_|refine ZVx ?_));all_goals ((repeat clear hK);repeat clear Kx))
   all_goals try exact xO
   rw[e1,<- hsn];(refine zNx (k+1) ?_;(try dsimp only))
   exact hkl
  ·have hkI:¬ (k:Int)<(lv.length:Int):=by omega
   obtain rfl:k=lv.length:=by omega
   rw[List.take_length];refine ZOS (t:=4) rfl ?_;dsimp only[z0,z1];((repeat' (first |  (refine WC.drawJ (fun hp'=>ZAV b 99 [dX vL,dX vN,dI ((n+lv.length:Nat):Int)]∈hp') 19 3 [5,12] [18] [(0,false),(1,false),(2,false),(3,false),(4,false),(5,false),(6,false),(7,false),(9,false),(10,false),(11,false),(12,false),(13,false),(14,false),(8,true),(15,true),(16,false),(17,false),(18,true)] [true,true,true,true,true,true,true,true,true,true,true,true,true,true,true,true,true,true,true,false,false,false] (by kernel_rfl) (by kernel_rfl) (by kernel_rfl) rfl (mAt 0 rfl) ?_) |  (first|refine WA.one (S:=[true,true,true,true,true,true,true,true,true,true,true,true,true,true,true,true,true,true,true,false,false,false]) (i:=19) (by kernel_rfl) rfl ?_|refine WA.one (S:=[true,true,true,true,true,true,true,true,true,true,true,true,true,true,true,true,true,true,true,true,false,false]) (i:=20) (by kernel_rfl) rfl ?_|refine WA.one (S:=[true,true,true,true,true,true,true,true,true,true,true,true,true,true,true,true,true,true,true,true,true,false]) (i:=21) (by kernel_rfl) rfl ?_|refine WA.nil (S:=[true,true,true,true,true,true,true,true,true,true,true,true,true,true,true,true,true,true,true,true,true,true]) (by kernel_rfl) ?_) |  (refine ThenA.n ?_;dsimp only[z0,z1]) |  (refine ZFR rfl (SW.at 1 rfl fun q=>SW.app1 ZAK (R:=ZA5 S) (_gR:=inferInstance) (ZVh rfl) (ZVh rfl) (by decide) (by simp;omega)) (fun _=>mAt 0 rfl) fun v1=>?_;dsimp only[ZC,z0,z1]) |  (refine ZFR rfl (SW.at 2 rfl fun q=>SW.app1 ZUf (R:=ZF4 kvS RI) (_gR:=inferInstance) (ZVh rfl) (ZVh rfl) (by decide) (by simp;omega)) (fun _=>mAt 0 rfl) fun v2=>?_;dsimp only[ZC,z0,z1]) |  (refine ZM6 rfl rfl (ZQ2 rfl (mAt 1 rfl) fun hv1=>SW.at 0 rfl fun q=>SW.storeS ZUm (ZVh rfl) (ZVh rfl) (Z0 hv1) (by simp)) fun _=>?_;dsimp only[ZC,z0,z1])|(refine WMj.nil ?_)|(apply ZJm rfl;(focus (intro c;apply ZVt;(exact ZY rfl);((first|(exact ZIL (ZVh rfl))|(refine ZAl ZCc (ZVh rfl) (by decide))|(exact ZWb (R:=ZA5 S) (_gR:=inferInstance) (els:=[lv]) ZAK (Zp (ZVh rfl) Zr) rfl rfl (fun _=>ZAI) (Nat.le_of_ble_eq_true rfl))|(exact ZWb (R:=ZF4 kvS RI) (_gR:=inferInstance) (els:=[ZFK txS n lv]) ZUf (Zp (ZVh rfl) Zr) rfl rfl (fun _=>ZNp) (Nat.le_of_ble_eq_true rfl))|((first|apply ZVo|apply ZVn|apply ZVq) <;> exact oD)|fail);all_goals infer_instance)));dsimp only[ZC,z0,z1])|(apply ZJl rfl rfl;(focus (intro c hcc;apply ZVt;(exact ZY rfl);((first|(refine ZAY ZUm (ZVh rfl) hcc rfl)|(refine ZAY ZUn (ZVh rfl) hcc rfl)|fail);all_goals infer_instance)));dsimp only[ZC,z0,z1])|((first|apply ZVi|apply ZVl);exact yF;dsimp only[ZC,z0,z1])|refine ZVj ?_|refine WD.nil ?_|refine ZA fun Kx hK=>?_|(refine hK _ _ ?_;clear hK)|(refine ZV0 ?_;clear hK)|refine ZVk ?_|(apply ZWB;kernel_rfl;kernel_rfl) |  (refine ZCY (mAt 2 rfl) fun hvv=>ZBk (SW.at 0 rfl fun q=>SW.storeS ZUn (ZVh rfl) (ZVh rfl) (Z0 hvv) (by simp)) fun _=>?_;dsimp only[ZC,z0,z1])|((first|apply Zq|apply Zl);exact eD;exact ZVh rfl;exact oD;(intro _;exact hD);(exact(by simp));(exact(by simp));(first|exact⟨by decide,by decide⟩|skip);decide;exact lD;(intro _;dsimp only[ZC,z0,z1]);all_goals (try infer_instance))|((first|apply ZWW|apply ZWX);exact eD;exact ZVh rfl;exact oD;decide;exact lD;(intro _;dsimp only[ZC,z0,z1]);all_goals (try infer_instance))|((apply(ZWP (List.Perm.swap _ _ _));(first|apply Zq|apply Zl);exact eD;exact ZVh rfl;exact oD;(intro _;exact hD);(exact(by simp));(exact(by simp));(first|exact⟨by decide,by decide⟩|skip);decide;exact lD;(intro _;dsimp only[ZC,z0,z1]);all_goals (try infer_instance)))|((apply(ZWP (List.Perm.swap _ _ _));(first|apply ZWW|apply ZWX);exact eD;exact ZVh rfl;exact oD;decide;exact lD;(intro _;dsimp only[ZC,z0,z1]);all_goals (try infer_instance)))|(apply ZR;exact tD;rfl;exact oD;exact hD;dsimp only[ZC,z0,z1])|(apply ZCC;exact tD;rfl;exact oD;exact hD;dsimp only[ZC,z0,z1])|(apply WL.storeF3;exact tD;rfl;exact oD;exact hD;dsimp only[ZC,z0,z1])|((first|apply ZVi|apply ZVl);(focus ((first|(exact ZIL (ZVh rfl))|(refine ZAl ZCc (ZVh rfl) (by decide))|((first|apply ZVo|apply ZVn|apply ZVq) <;> exact oD)|fail);all_goals infer_instance));dsimp only[ZC,z0,z1])|(apply Zf;exact oD;(with_reducible rfl))|(apply ZQ;exact oD;(with_reducible rfl))|(apply ZB;exact oD;all_goals (intro h;try exact xD))|(apply ZG;exact oD;all_goals (intro h;try exact xD))|(apply ZO;exact oD;all_goals (intro h;try exact xD))|(apply ZWY;exact oD;all_goals (intro h;try exact xD))|refine ZVr ?_|refine ZVs ?_|refine ZV1 ?_|refine ZVp ?_|refine ZVx ?_|refine ZVz ?_|refine ThenD.x ?_|refine InBlockD.x ?_|refine ZWc ?_|refine ZWC ?_|refine ZCw (by decide) ?_));all_goals ((repeat clear hK);repeat clear Kx))
   all_goals try exact xO
   exact⟨trivial,ZVb S b v1 v2 (Ls++[lv]) (Ms++[ZFK txS n lv]) (n+lv.length),rfl,v1,v2,rfl⟩
end
section
open Go.RowKit
open C34
abbrev ArM:=List (List UInt8 × Value × List Int)
def vvT (p:Value × List Int):Value:=p.1
def ZCj (M:ArM):List HObj:=M.map fun p=>Zk p.2.1 3 RI p.2.2
def ZBN (M:ArM):List (List UInt8 × List Int):=M.map fun p=>(p.1,p.2.2)
theorem ZFa (M:ArM):(ZBN M).map (·.1)=M.map (·.1):=by unfold ZBN;rw[List.map_map];rfl
theorem ZHy {M:ArM} (hn:(M.map (·.1)).Nodup) {q:Nat} (h:q<M.length):lookM (ZBN M) M[q].1=some M[q].2.2:=by
 have hl:q<(ZBN M).length:=by simpa[ZBN] using h
 have hn':((ZBN M).map (·.1)).Nodup:=by rw[ZFa];exact hn
 have e1:(ZBN M)[q]=(M[q].1,M[q].2.2):=by simp[ZBN]
 have h2:=ZDB hn' hl;rw[e1] at h2;exact h2
theorem ZPF {M:ArM} (hn:(M.map (·.1)).Nodup) {q:Nat} (h:q<M.length) (v':Value) (i:Int):ZBN (M.set q (M[q].1,(v',M[q].2.2++[i])))=ZQq (ZBN M) M[q].1 i:=by
 have hl:q<(ZBN M).length:=by simpa[ZBN] using h
 have e1:(ZBN M)[q]=(M[q].1,M[q].2.2):=by simp[ZBN]
 have hn':((ZBN M).map (·.1)).Nodup:=by rw[ZFa];exact hn
 have h3:=ZFA hn' (v:=M[q].2.2++[i]) hl;rw[e1] at h3;unfold ZQq;rw[ZHy hn h];show _=ZCH (ZBN M) M[q].1 (M[q].2.2++[i]);rw[h3];unfold ZBN;rw[List.map_set]
theorem ZPE {M:ArM} {x:List UInt8} (hne:∀p∈M,p.1≠x) (v':Value) (i:Int):ZBN (M++[(x,(v',[i]))])=ZQq (ZBN M) x i:=by
 have hne':∀p∈ZBN M,p.1≠x:=fun p hp=>by
  obtain⟨q,hq,rfl⟩:=List.mem_map.1 hp;exact hne q hq
 unfold ZQq;rw[ZCF hne',ZDa hne'];simp[ZBN]
theorem ZMo {M:ArM} {q:Nat} (h:q<M.length):(ZCj M)[q]?=some (Zk M[q].2.1 3 RI M[q].2.2):=by
 unfold ZCj;rw[List.getElem?_map,List.getElem?_eq_getElem h];rfl
theorem ZQH (M:ArM) (q:Nat) (h:q<M.length) (p:List UInt8 × Value × List Int):(Zk p.2.1 3 RI p.2.2::(ZCj M).eraseIdx q).Perm (ZCj (M.set q p)):=by
 have:=ZGT (Zk p.2.1 3 RI p.2.2) (ZCj M) q (by simpa[ZCj] using h);have e:ZCj (M.set q p)=(ZCj M).set q (Zk p.2.1 3 RI p.2.2):=by unfold ZCj;rw[List.map_set]
 rw[e];exact this
theorem ZNl (M:ArM) (p:List UInt8 × Value × List Int):(Zk p.2.1 3 RI p.2.2::ZCj M).Perm (ZCj (M++[p])):=by
 unfold ZCj;rw[List.map_append];exact(List.perm_append_singleton _ _).symm
theorem ZKM (M:ArM) (x:List UInt8):(∃q,∃h:q<M.length,M[q].1=x)\/∀p∈M,p.1≠x:=by
 by_cases h:∃p∈M,p.1=x
 ·obtain⟨p,hp,he⟩:=h;obtain⟨q,hq,rfl⟩:=List.getElem_of_mem hp;exact .inl ⟨q,hq,he⟩
 ·exact .inr fun p hp e=>h ⟨p,hp,e⟩
theorem ZH3 {P0:Nat->Prop} {B:Nat} {hp hp':List HObj} (h:∀o∈hp,o∈hp') {k:Nat} (hk:Imm P0 B hp' k):Imm P0 B hp k:=⟨hk.1,fun o ho=>hk.2 o (h o ho)⟩
section
variable {P:Program} {hp:List HObj} {fr:List Dat} {Q:Z4} {c:Code}
theorem ZOT {b t:Nat} {M:ArM} (ht:fr[t]?=some (dX (.map (some b)))) (h:WC P Q c (fr.set t (dS (ZF4 kvS ZAQ) (ZBN M))) hp):WC P Q c fr (hM b kvS vvT M::(ZCj M++hp)):=WC.of fun P0 B w0 w a hh hf=>by
 have hb:w.heap[b]?=some (ZAb _):=hh.ok (hM b kvS vvT M) (by simp);have hown:=hh.own (hM b kvS vvT M) (by simp) b rfl;have hsub:∀o∈hp,o∈hM b kvS vvT M::(ZCj M++hp):=fun o ho=>List.mem_cons_of_mem _ (List.mem_append_right _ ho);refine h.on (ZIG (hM b kvS vvT M::ZCj M) hp (by simpa using hh)) ⟨hf.defers,by rw[hf.size,List.length_set],fun t' d' hd'=>?_⟩;by_cases htt:t=t'
 ·subst htt;rw[List.getElem?_set] at hd';simp only[if_true] at hd';split at hd'
  ·cases hd';have hv:a.tmps.getD t undef = .map (some b):=hf.rd t _ ht;rw[hv];refine⟨b,M.map fun p=>p.2.1,rfl,⟨.inr hown.1,fun o' ho' hk=>(List.pairwise_cons.1 hh.apart).1 o' (List.mem_append_right _ ho') b rfl hk⟩,by simp[ZBN],?_,fun k h1 h2=>?_⟩
   ·rw[hb];congr 2;unfold ZAT ZBN;simp only[List.map_map];rw[List.zip_map',List.map_map];rfl
   ·have hk:k<M.length:=by simpa using h1
    have hat:(hM b kvS vvT M::(ZCj M++hp))[k+1]?=some (Zk M[k].2.1 3 RI M[k].2.2):=by
     rw[List.getElem?_cons_succ,List.getElem?_append_left (by simpa[ZCj] using hk),ZMo hk]
    obtain⟨hh2,_⟩:=hh.perm (ZGS hat);have hk2:=ZD5 hh2;have:ZAQ (Imm P0 B hp) w M[k].2.1 M[k].2.2:=Good.weak hk2 fun j hj=>ZH3 (fun o ho=>by
     rw[List.eraseIdx_cons_succ,List.eraseIdx_append_of_lt_length (by simpa[ZCj] using hk)];exact List.mem_cons_of_mem _ (List.mem_append_right _ ho)) hj
    simpa[ZBN] using this
  ·cases hd'
 ·rw[List.getElem?_set_ne htt] at hd';exact d'.weak (hf.rd t' d' hd') fun k hk=>ZH3 hsub hk
end
end
section
open Go.RowKit
open C34

theorem ZFe:MapT Tryz.prog 148 9 23 (.slice none 0 0):=⟨Tryz.underlying148,fun w=>by kernel_rfl⟩
theorem ZUo:TyI Tryz.prog 96 1 false:=⟨by kernel_rfl,Tryz.isAgg96⟩
theorem tyMp:TyI Tryz.prog 145 1 false:=⟨by kernel_rfl,Tryz.isAgg145⟩
abbrev ZRj (S:Prop) (L:List Cx) (Ms:List ZUc) (n:Nat):Dat:=dP 3 true (ZEN [dS (Arr (ZA5 S)) L,dS (Arr (ZF4 kvS RI)) Ms,dI (n:Int)])
def ZCi (L:List Cx):List ZUc:=(List.range L.length).map fun k=>ZFK txS (ZAj L k) (L.getD k [])
def ZMK (l:Cx) (f:Vx->Int) (L:List Cx) (j:Nat):List (List Int):=(List.range j).flatMap fun k=>ZFC l f L (k+1)
theorem ZG0 {l:Cx} {f:Vx->Int} {L:List Cx} {j:Nat}:ZMK l f L (j+1)=ZMK l f L j++ZFC l f L (j+1):=by
 unfold ZMK;rw[List.range_succ,List.flatMap_append];simp
theorem ZJ4 {l:Cx} {f:Vx->Int} {L:List Cx} {j:Nat}:∀i,(ZMK l f L j).length≤(ZMK l f L (j+i)).length
 | 0=>Nat.le_refl _
 | i+1=>by
  have:=ZJ4 (l:=l) (f:=f) (L:=L) (j:=j) i;rw[<- Nat.add_assoc,ZG0,List.length_append];omega
theorem ZFj {a b c:HObj} {js hp:List HObj}:(js++a::b::c::hp).Perm (a::b::c::(js++hp)):=by
 have:((js++[a,b,c])++hp).Perm (([a,b,c]++js)++hp):=List.Perm.append_right _ List.perm_append_comm;simpa using this
theorem ZQR {n:Nat} {agg:Bool} {d:Dat}:(dP n agg d).Shape 1 false:=fun _ _ _ h=>by
 obtain⟨b,off,u,rfl,_⟩:=h;exact⟨[.pointer (some ⟨b,off,none⟩)],rfl,by decide,fun c hc=>by rw[List.mem_singleton.1 hc];rfl,rfl,rfl⟩
theorem ZIc (S:Prop) (l:Cx) (f:Vx->Int) (L:List Cx) (Ms:List ZUc) (n:Nat):CallC Tryz.prog 61 ([ZHZ l f,ZRj S L Ms n]++([]:List Value).map dX) []
  (fun d hp2=>∃vu vx,d=dX (.func (.func 101) #[] [vu,vx].toArray)/\hp2=[ZAn vu (dP 1 false (ZRj S L Ms n)),ZAn vx (dP 2 true (ZHZ l f))]):=by
 (refine ZAf Tryz.func61 rfl rfl (fun hp=>?_);simp only[Tryz.ntmps61,List.length_cons,List.length_nil,List.length_append,List.length_map,Nat.reduceAdd,Nat.reduceSub,List.replicate_succ,List.replicate_zero,List.cons_append,List.nil_append,List.map_cons,List.map_nil,List.append_assoc])
 ((repeat' (first |  (refine ZJg (d:=dP 2 true (ZHZ l f)) 2 rfl fun vx=>?_;dsimp only[z0,z1];refine ZJg (d:=dP 1 false (ZRj S L Ms n)) 3 rfl fun vu=>?_;dsimp only[z0,z1])|(apply ZVi;exact yF;dsimp only[ZC,z0,z1])|refine ZVj ?_|refine ZA fun Kx hK=>?_|(refine hK _ _ ?_;clear hK)|refine ZVk ?_|(apply ZVi;(focus ((first|(exact ZV3 (ZVh rfl) (ZAD (n:=2) (by decide) rfl))|(exact ZV3 (ZVh rfl) ZQR)|(apply ZGE;repeat (first|exact ArgsX.nil|(apply ArgsX.cons;exact ZVh rfl)))|fail);all_goals infer_instance));dsimp only[ZC,z0,z1])|refine ZVs ?_));all_goals ((repeat clear hK);repeat clear Kx))
 exact⟨trivial,_,[_,_],rfl,rfl,vu,vx,rfl,rfl⟩
end
end Go.Proofs.YtofkoleingbbpaaGreatDoor
