/- Part 32: walks by contracts, and plain laws. -/
import Derived.Test.YtofkoleingbbpaaGreatDoorXa31
set_option linter.unusedVariables false
set_option linter.unusedSimpArgs false
set_option linter.unusedSectionVars false
set_option maxRecDepth 100000
set_option maxHeartbeats 64000000
namespace Go.Proofs.YtofkoleingbbpaaGreatDoor
section
open Go.RowKit
section
variable {P:Program} {ops:Array Oper} {md:Region.Mode} {fr fr':List Dat} {hp:List HObj} {C:List HObj->Prop} {A:List Nat} {ws:List Nat}
def sOpJ (P:Program) (ops:Array Oper) (C:List HObj->Prop) (A ws:List Nat) (i:Nat) (K:List Dat->List HObj->Prop) (fr:List Dat) (hp:List HObj):Prop :=
 ∃o,ops[i]?=some o/\((∃d,(∀hp',(i∈A->C hp')->SYG P ops hp' o fr d)/\K (ZC fr o.dst d) hp) \/
  (∃(β:Type) (H:β->List HObj) (D:β->Dat),(i∈ws\/∀x,C (H x))/\SW P ops hp H D o fr/\∀x,K (ZC fr o.dst (D x)) (H x)))
def ZHW (P:Program) (md:Region.Mode) (ops:Array Oper) (C:List HObj->Prop) (A ws:List Nat) (n:Nat) (L:Array Bool->List Dat->List HObj->Prop):Nat->Array Bool->List Dat->List HObj->Prop
 | 0,listed,fr,hp=>L listed fr hp
 | f+1,listed,fr,hp =>
  Region.ready md ops listed≠[]/\∀i∈Region.ready md ops listed,i<n/\sOpJ P ops C A ws i (ZHW P md ops C A ws n L f (listed.setIfInBounds i true)) fr hp
theorem ZCm {n g:Nat} {L:Array Bool->List Dat->List HObj->Prop} {Q':Exit->Act->World->Prop} {P0:Nat->Prop} {B:Nat} {w0:World} (hW:ZSe md ops A ws=true) (hAn:∀k∈A,k<ops.size):∀(f:Nat) (listed:Array Bool) (fr:List Dat) (hp:List HObj) (a:Act) (w:World),HeadInv md ops n listed->((∃k∈A,listed.getD k false=false)->C hp)->Hp P0 B w0 hp w->Fr (Imm P0 B hp) w a fr ->
  (∀listed fr hp a w',Hp P0 B w0 hp w'->Fr (Imm P0 B hp) w' a fr->L listed fr hp->wpAny P md ops Q' g listed a w')->ZHW P md ops C A ws n L f listed fr hp->wpAny P md ops Q' (f+g) listed a w
 | 0,listed,fr,hp,a,w,_,_,hh,hf,hL,h=>by rw[Nat.zero_add];exact hL _ _ _ _ _ hh hf h
 | f+1,listed,fr,hp,a,w,inv,hc,hh,hf,hL,h=>by
  rw[show f+1+g=(f+g)+1 by omega];refine⟨fun h0=>absurd h0 h.1,fun i hi=>?_⟩;obtain⟨o,ho,h1⟩:=(h.2 i hi).2;have hin:=(h.2 i hi).1;have inv':=inv.set hi hin;unfold wpOp;simp only[ho];have hgrow:∀k,(listed.setIfInBounds i true).getD k false=false->listed.getD k false=false:=fun k hk=>by
   cases q:listed.getD k false with
   | false=>rfl
   | true=>rw[getD_set_true q] at hk;cases hk
  rcases h1 with ⟨d,hs,hk⟩|⟨β,H,D,hw0,hw,hk⟩
  ·have hci:i∈A->C hp:=fun q=>hc ⟨i,q,getD_both (mem_ready.1 hi).1⟩;have:=(hs hp hci).step (Q:=Q') hh hf (K:=wpAny P md ops Q' (f+g) (listed.setIfInBounds i true)) fun a' w' e hf'=>ZCm hW hAn f _ _ hp _ _ inv' (fun⟨k,q1,q2⟩=>hc ⟨k,q1,hgrow k q2⟩) (hh.ext e) hf' hL hk;split
   ·rename_i hw;rw[if_pos hw] at this;exact .inl this
   ·rename_i hw;rw[if_neg hw] at this;exact this
  ·have hwant:Region.wanted o (yielded ops a.tmps)=true:=by simp[Region.wanted,hw.guard]
   rw[if_pos hwant];refine .inl (hw.out hh (hf.on _) _ _ fun x v w' hh' hrd hd=>ZCm hW hAn f _ _ (H x) _ _ inv' (fun⟨k,q1,q2⟩=>?_) hh' (Fr.put (hf.mono fun d u hu=>hrd d u hu) hd) hL (hk x));rcases hw0 with hw0|hw0
   ·have h5:=List.all_eq_true.1 (List.all_eq_true.1 hW i hw0) k q1;have h6:=ZGv inv hi h5;rw[hgrow k q2] at h6;cases h6
   ·exact hw0 x
theorem ZK2 {n i:Nat} {oi:Oper} {di:Dat} {L:Array Bool->List Dat->List HObj->Prop} (hi:ops[i]?=some oi)
  (hs:Region.sinkB md ops n=true) (hc:ZCf md ops n=true) (hn:n<ops.size) (hin:i<n)
  (hdone:∀listed a c,L listed a c->∀j∈Region.ready md ops listed,n≤j) :
  ∀(f:Nat) (listed:Array Bool) (fr:List Dat) (hp:List HObj),HeadInv md ops n listed ->
   (∀j oj,ops[j]?=some oj->j≠i->listed.getD j true=false->(∀e∈oj.after,Region.binds md e=true->e.on≠i)->oi.apart ops oj=true) ->
   i∈Region.ready md ops listed->(∀hp',(i∈A->C hp')->SYG P ops hp' oi fr di) ->
   ZHW P md ops C A ws n L f (listed.setIfInBounds i true) (ZC fr oi.dst di) hp->ZHW P md ops C A ws n L (f+1) listed fr hp:=by
 intro f;induction f with
 | zero =>
  intro listed fr hp inv _ hr hy H;have hun:=(mem_ready.1 hr).1;refine⟨fun h=>(by rw[h] at hr;cases hr),fun j hj=>?_⟩;have hjn:j<n:=by
   rcases Nat.lt_or_ge j n with h|h
   ·exact h
   ·exact absurd hj (ZBo hs hc hn inv _ i rfl hin hun j h)
  refine⟨hjn,?_⟩;by_cases hji:j=i
  ·subst hji;exact⟨oi,hi,.inl ⟨di,hy,H⟩⟩
  ·have:=hdone _ _ _ H j (ready_mono hj hji);omega
 | succ f ih =>
  intro listed fr hp inv hfree hr hy H;have hun:=(mem_ready.1 hr).1;refine⟨fun h=>(by rw[h] at hr;cases hr),fun j hj=>?_⟩;have hjn:j<n:=by
   rcases Nat.lt_or_ge j n with h|h
   ·exact h
   ·exact absurd hj (ZBo hs hc hn inv _ i rfl hin hun j h)
  refine⟨hjn,?_⟩;by_cases hji:j=i
  ·subst hji;exact⟨oi,hi,.inl ⟨di,hy,H⟩⟩
  ·obtain⟨oj',hoj',h1⟩:=(H.2 j (ready_mono hj hji)).2;obtain⟨hjun,oj,hoj,hall⟩:=mem_ready.1 hj;have hoo:oj=oj':=by rw[hoj] at hoj';simpa using hoj'
   subst hoo;have hnot:∀e∈oj.after,Region.binds md e=true->e.on≠i:=fun e he hb heq=>by
    have h1:=hall e he hb;rw[heq,getD_both hun] at h1;cases h1
   obtain⟨a1,a2,a3⟩:=Oper.apart_spec (hfree j oj hoj hji hjun hnot);have hfree':∀k ok,ops[k]?=some ok->k≠i->(listed.setIfInBounds j true).getD k true=false ->
     (∀e∈ok.after,Region.binds md e=true->e.on≠i)->oi.apart ops ok=true:=fun k ok hk hki hun hno=>by
    refine hfree k ok hk hki ?_ hno;by_cases hjk:j=k
    ·subst hjk;exact hjun
    ·rw[getD_set_ne true hjk] at hun;exact hun
   have key:∀(d:Dat) (hp':List HObj),ZHW P md ops C A ws n L f ((listed.setIfInBounds i true).setIfInBounds j true) (ZC (ZC fr oi.dst di) oj.dst d) hp' ->
     ZHW P md ops C A ws n L (f+1) (listed.setIfInBounds j true) (ZC fr oj.dst d) hp':=fun d hp' hk=>by
    refine ih (listed.setIfInBounds j true) (ZC fr oj.dst d) hp' (inv.set hj hjn) hfree' (ready_mono hr (Ne.symm hji)) (fun c hc=>(hy c hc).same (Z4 _ _ _) fun t ht=>ZAE fun e=>a3 t e ht) ?_;rw[Array.setIfInBounds_comm _ _ hji,<- ZDH fr di d a2];exact hk
   refine⟨oj,hoj,?_⟩;rcases h1 with ⟨d,hs',hk⟩|⟨β,H',D,hw0,hw,hk⟩
   ·exact .inl ⟨d,fun c hc=>(hs' c hc).same (Z4 _ _ _).symm fun t ht=>(ZAE fun e=>a1 t e ht).symm,key _ _ hk⟩
   ·exact .inr ⟨β,H',D,hw0,hw.same (Z4 _ _ _).symm fun t ht=>(ZAE fun e=>a1 t e ht).symm,fun x=>key _ _ (hk x)⟩
inductive WMj (P:Program) (ops:Array Oper) (C:List HObj->Prop) (A ws:List Nat) (Q:List Dat->List HObj->Prop):List (Nat × Bool)->List Dat->List HObj->Prop
 | nil {fr:List Dat} {hp:List HObj}:Q fr hp->WMj P ops C A ws Q [] fr hp
 | read {i:Nat} {o:Oper} {r:List (Nat × Bool)} {fr:List Dat} {hp:List HObj} {d:Dat}:ops[i]?=some o->(∀hp',(i∈A->C hp')->SYG P ops hp' o fr d)->WMj P ops C A ws Q r (ZC fr o.dst d) hp->WMj P ops C A ws Q ((i,false)::r) fr hp
 | write {i:Nat} {o:Oper} {r:List (Nat × Bool)} {fr:List Dat} {hp:List HObj} {β:Type} {H:β->List HObj} {D:β->Dat}:ops[i]?=some o->(i∈ws\/∀x,C (H x))->SW P ops hp H D o fr->(∀x,WMj P ops C A ws Q r (ZC fr o.dst (D x)) (H x))->WMj P ops C A ws Q ((i,true)::r) fr hp
theorem ZFs {n:Nat} {Q:List Dat->List HObj->Prop} (hs:Region.sinkB md ops n=true) (hc:ZCf md ops n=true) (hn:n<ops.size) :
  ∀(l:List (Nat × Bool)) (listed:Array Bool) (fr:List Dat) (hp:List HObj),HeadInv md ops n listed->ZKW md ops n l listed=true->WMj P ops C A ws Q l fr hp ->
  ZHW P md ops C A ws n (fun listed' f p=>(∀j∈Region.ready md ops listed',n≤j)/\listed'=l.foldl (fun s p=>s.setIfInBounds p.1 true) listed/\Q f p) l.length listed fr hp
 | [],listed,fr,hp,_,hB,h=>by
  cases h;rename_i h;refine⟨fun j hj=>?_,rfl,h⟩;simp only[ZKW,List.all_eq_true,decide_eq_true_eq] at hB;exact hB j hj
 | (i,false)::r,listed,fr,hp,inv,hB,h=>by
  cases h;rename_i o d ho hy hk;simp only[ZKW,Bool.and_eq_true,decide_eq_true_eq] at hB;obtain⟨⟨⟨hin,hr⟩,hf⟩,hB'⟩:=hB;have hr':i∈Region.ready md ops listed:=by simpa using hr
  exact ZK2 ho hs hc hn hin (fun _ _ _ hL=>hL.1) r.length listed fr hp inv (Region.free_spec ho hf) hr' hy
   (ZFs hs hc hn r _ _ _ (inv.set hr' hin) hB' hk)
 | (i,true)::r,listed,fr,hp,inv,hB,h=>by
  simp only[ZKW,Bool.and_eq_true,decide_eq_true_eq] at hB;obtain⟨⟨hin,hr⟩,hB'⟩:=hB;have hr':i∈Region.ready md ops listed:=by rw[hr];simp
  cases h with
  | write ho hw0 hw hk =>
   refine⟨fun h0=>(by rw[hr] at h0;cases h0),fun j hj=>?_⟩;rw[hr] at hj;cases List.mem_singleton.1 hj;exact⟨hin,_,ho,.inr ⟨_,_,_,hw0,hw,fun x=>ZFs hs hc hn r _ _ _ (inv.set hr' hin) hB' (hk x)⟩⟩
theorem WC.drawJ {id:Nat} {l:List Oper} {Q:Z5} (C:List HObj->Prop) (n m:Nat) (A ws:List Nat) (ord:List (Nat × Bool)) (S:List Bool) (hm:P.follows .mixedOrders=true)
  (hB:(decide (n<l.toArray.size) && Region.sinkB .any l.toArray n && ZCf .any l.toArray n && ZKW .any l.toArray n ord (Array.replicate l.toArray.size false) && ZSe .any l.toArray A ws && A.all (fun k=>decide (k<l.toArray.size)))=true) (hS:ord.foldl (fun s p=>s.setIfInBounds p.1 true) (Array.replicate l.toArray.size false)=S.toArray) (hlen:l.length=ord.length+m) (hC:C hp)
  (h:WMj P l.toArray C A ws (fun f p=>WA P l.toArray Q m S f p) ord fr hp):WC P Q (.region id l.toArray true) fr hp:=by
 refine WC.of fun P0 B w0 w a hh hf=>?_;simp only[Bool.and_eq_true,decide_eq_true_eq] at hB;obtain⟨⟨⟨⟨⟨hn,hs⟩,hc⟩,hord⟩,hW⟩,hAn⟩:=hB;have hAn':∀k∈A,k<l.toArray.size:=fun k hk=>of_decide_eq_true (List.all_eq_true.1 hAn k hk);have inv0:HeadInv .any l.toArray n (Array.replicate l.toArray.size false) :=
  ⟨by simp,fun j oj _ hl=>(by rw[getD_replicate_false] at hl;cases hl),fun t _ ht=>getD_in (by simpa using ht) (getD_replicate_false _ _)⟩
 have HW:=ZFs (A:=A) (ws:=ws) hs hc hn ord _ fr hp inv0 hord h;have hx:Ext w { w with drawn:=w.drawn+1 }:=(Ext.refl w).drew;refine wp_region_any hm ?_;have:=ZCm (Q':=ZCr Q P0 B w0) (g:=m) hW hAn' _ _ _ hp _ _ inv0 (fun _=>hC) (hh.ext hx) (hf.ext hx) (fun listed' fr' hp' a' w' hh' hf' hL=>by
  rw[hL.2.1,hS];exact hL.2.2.out _ _ _ _ _ hh' hf') HW
 rw[show l.toArray.size=ord.length+m by simpa using hlen];rw[show(l.toArray.size)=ord.length+m by simpa using hlen] at this;exact this
theorem ZJm {l:List Oper} {Q:List Dat->List HObj->Prop} {i:Nat} {o:Oper} {r:List (Nat × Bool)} {d:Dat} (ho:l[i]?=some o) (h:∀hp',SYG P l.toArray hp' o fr d) (k:WMj P l.toArray C A ws Q r (ZC fr o.dst d) hp):WMj P l.toArray C A ws Q ((i,false)::r) fr hp:=WMj.read (by simpa using ho) (fun hp' _=>h hp') k
theorem ZJl {l:List Oper} {Q:List Dat->List HObj->Prop} {i:Nat} {o:Oper} {r:List (Nat × Bool)} {d:Dat} (hi:A.contains i=true) (ho:l[i]?=some o) (h:∀hp',C hp'->SYG P l.toArray hp' o fr d) (k:WMj P l.toArray C A ws Q r (ZC fr o.dst d) hp):WMj P l.toArray C A ws Q ((i,false)::r) fr hp:=WMj.read (by simpa using ho) (fun hp' hc=>h hp' (hc (by simpa using hi))) k
theorem ZM4 {l:List Oper} {Q:List Dat->List HObj->Prop} {i:Nat} {o:Oper} {r:List (Nat × Bool)} {β:Type} {H:β->List HObj} {D:β->Dat} (hi:ws.contains i=true) (ho:l[i]?=some o) (h:SW P l.toArray hp H D o fr) (k:∀x,WMj P l.toArray C A ws Q r (ZC fr o.dst (D x)) (H x)):WMj P l.toArray C A ws Q ((i,true)::r) fr hp:=WMj.write (by simpa using ho) (.inl (by simpa using hi)) h k
theorem ZFR {l:List Oper} {Q:List Dat->List HObj->Prop} {i:Nat} {o:Oper} {r:List (Nat × Bool)} {β:Type} {H:β->List HObj} {D:β->Dat} (ho:l[i]?=some o) (h:SW P l.toArray hp H D o fr) (hc:∀x,C (H x)) (k:∀x,WMj P l.toArray C A ws Q r (ZC fr o.dst (D x)) (H x)):WMj P l.toArray C A ws Q ((i,true)::r) fr hp:=WMj.write (by simpa using ho) (.inr hc) h k
end
end
end Go.Proofs.YtofkoleingbbpaaGreatDoor
namespace Go.Proofs.YtofkoleingbbpaaGreatDoor.C34
section
variable {α:Type}
def ZEV (L:List (List α)):List (Nat × α):=L.zipIdx.flatMap fun p=>p.1.map fun s=>(p.2,s)
def ZAm (L:List (List α)) (k:Nat):Nat:=((L.take k).map List.length).sum
def plc (off:Nat) (lv:List α) (p:α->Bool):List Int:=((List.range lv.length).filter fun j=>match lv[j]? with|none=>false|some s=>p s).map fun j=>((off+j:Nat):Int)
def ZDy [DecidableEq α] (ins:α->α->Bool) (L:List (List α)) (f:α) (k:Nat):List Int :=
 plc (ZAm L (k-1)) (L.getD (k-1) []) (fun s=>decide (s=f))++plc (ZAm L k) (L.getD k []) (ins f)
theorem ZFk (off:Nat) (a b:List α) (p:α->Bool):plc off (a++b) p=plc off a p++plc (off+a.length) b p:=by
 unfold plc;rw[List.length_append,List.range_add,List.filter_append,List.map_append];congr 1
 ·congr 1;refine List.filter_congr fun j hj=>?_;rw[List.getElem?_append_left (List.mem_range.1 hj)]
 ·rw[List.filter_map,List.map_map];have:((fun j=>match (a++b)[j]? with|none=>false|some s=>p s) ∘ fun x=>a.length+x)=fun j=>match b[j]? with|none=>false|some s=>p s:=by
   funext j
   simp only[Function.comp_apply];rw[List.getElem?_append_right (by omega),Nat.add_sub_cancel_left]
  rw[this];refine List.map_congr_left fun j _=>?_;simp only[Function.comp_apply];congr 1;omega
theorem ZGU {off:Nat} {a:List α} {p:α->Bool} (h:∀s∈a,p s=false):plc off a p=[]:=by
 unfold plc;rw[List.map_eq_nil_iff,List.filter_eq_nil_iff];intro j hj;have hj:=List.mem_range.1 hj;rw[List.getElem?_eq_getElem hj];simp[h _ (List.getElem_mem hj)]
def ZBL (L:List (List α)) (x:List Int):List (List α):=L.zipIdx.map fun p=>(p.1.zipIdx.filter fun q=>decide (((ZAm L p.2+q.2:Nat):Int)∈x)).map (·.1)
end
section

variable {α:Type}
theorem asc_range {x:List Int} {n:Nat} (h:L05.Asc x) (hr:∀i∈x,0≤i/\i<n):x=((List.range n).filter fun i:Nat=>decide ((i:Int)∈x)).map fun i:Nat=>(i:Int):=by
 refine L05.asc_ext h ?_ fun i=>?_
 ·show List.Pairwise _ _;rw[List.pairwise_map];exact(List.pairwise_lt_range.filter _).imp fun h=>by omega
 ·rw[List.mem_map];constructor
  ·intro hi;obtain⟨h1,h2⟩:=hr i hi;refine⟨i.toNat,List.mem_filter.2 ⟨List.mem_range.2 (by omega),decide_eq_true ?_⟩,by omega⟩;rw[Int.toNat_of_nonneg h1];exact hi
  ·rintro⟨j,hj,rfl⟩;exact of_decide_eq_true (List.mem_filter.1 hj).2
theorem ZLg (off:Nat) (lv:List α) (p:α->Bool):L05.Asc (plc off lv p):=by
 unfold plc;show List.Pairwise _ _;rw[List.pairwise_map];exact(List.pairwise_lt_range.filter _).imp fun h=>by omega
theorem ZHI {off:Nat} {lv:List α} {p:α->Bool} {x:Int} (h:x∈plc off lv p):(off:Int)≤x/\x<((off+lv.length:Nat):Int):=by
 unfold plc at h;obtain⟨j,hj,rfl⟩:=List.mem_map.1 h;have:=List.mem_range.1 (List.mem_filter.1 hj).1;omega
theorem ZHT (L:List (List α)):(ZEV L).length=ZAm L L.length:=by
 unfold ZEV ZAm;rw[List.take_of_length_le (Nat.le_refl _),List.length_flatMap];congr 1;apply List.ext_getElem?;intro k;rw[List.getElem?_map,List.getElem?_map,List.getElem?_zipIdx];cases L[k]? <;> simp
theorem ZDY {L:List (List α)} {k:Nat} (h:k<L.length):ZAm L (k+1)=ZAm L k+(L.getD k []).length:=by
 unfold ZAm;rw[List.take_add_one,List.getElem?_eq_getElem h,List.map_append,List.sum_append];simp[List.getD_eq_getElem?_getD,List.getElem?_eq_getElem h]
theorem ZIz (L:List (List α)) {i j:Nat} (h:i≤j):ZAm L i≤ZAm L j:=by
 obtain⟨d,rfl⟩:∃d,j=i+d:=⟨j-i,by omega⟩;unfold ZAm;rw[List.take_add,List.map_append,List.sum_append];omega
theorem ZVW [DecidableEq α] (ins:α->α->Bool) (L:List (List α)) (f:α) {k:Nat} (h1:1≤k) (h2:k<L.length):L05.Asc (ZDy ins L f k)/\∀x∈ZDy ins L f k,0≤x/\x<((ZEV L).length:Int):=by
 have ha:ZAm L k=ZAm L (k-1)+(L.getD (k-1) []).length:=by
  have:=ZDY (L:=L) (k:=k-1) (by omega);rwa[show k-1+1=k by omega] at this
 have hb:=ZDY (L:=L) h2;have hc:=ZIz L (i:=k+1) (j:=L.length) h2;rw[<- ZHT] at hc;unfold ZDy;refine⟨List.pairwise_append.2 ⟨ZLg _ _ _,ZLg _ _ _,fun x hx y hy=>?_⟩,fun x hx=>?_⟩
 ·have:=ZHI hx;have:=ZHI hy;omega
 ·rcases List.mem_append.1 hx with hx|hx
  ·have:=ZHI hx;omega
  ·have:=ZHI hx;omega
theorem ZRo (L:List (List α)) (h:0<L.length):L05.Asc (plc 0 (L.getD 0 []) fun _=>true)/\∀x∈plc 0 (L.getD 0 []) (fun _=>true),0≤x/\x<((ZEV L).length:Int):=by
 have hb:=ZDY (L:=L) h;have hc:=ZIz L (i:=1) (j:=L.length) h;rw[<- ZHT] at hc;have h0:ZAm L 0=0:=rfl;refine⟨ZLg _ _ _,fun x hx=>?_⟩;have:=ZHI hx;rw[Nat.zero_add] at hb;omega
end
section
variable {α κ:Type} [DecidableEq κ]
theorem ZAQ {β:Type} {l:List β} {k:Nat} (h:k<l.length):l.take (k+1)=l.take k++[l[k]]:=List.take_succ_eq_append_getElem h
theorem zip_snoc {β:Type} {l:List β} {k:Nat} (h:k<l.length):(l.take (k+1)).zipIdx=(l.take k).zipIdx++[(l[k],k)]:=by
 rw[ZAQ h,List.zipIdx_append,List.length_take,Nat.min_eq_left (by omega)];simp
def ZFL (kx:α->κ) (off:Nat) (lv:List α):List (κ × Int):=lv.zipIdx.foldl (fun m p=>ZCI m (kx p.1) ((off+p.2:Nat):Int)) []
theorem ZHH {kx:α->κ} {off:Nat} {lv:List α} {k:Nat} (h:k<lv.length):ZFL kx off (lv.take (k+1))=ZCI (ZFL kx off (lv.take k)) (kx lv[k]) ((off+k:Nat):Int):=by
 unfold ZFL;rw[zip_snoc h,List.foldl_append];rfl
theorem ZUJ {off:Nat} {s:α} {p:α->Bool}:plc off [s] p=if p s=true then[(off:Int)] else[]:=by
 unfold plc;cases h:p s <;> simp[h]
theorem ZI3 {off:Nat} {lv:List α} {p:α->Bool} {k:Nat} (h:k<lv.length):plc off (lv.take (k+1)) p=plc off (lv.take k) p++if p lv[k]=true then[((off+k:Nat):Int)] else[]:=by
 rw[ZAQ h,ZFk,ZUJ,List.length_take,Nat.min_eq_left (by omega)]
theorem ZPi {lv:List α} (hn:lv.Nodup) {k:Nat} (h:k<lv.length):lv[k]∉lv.take k:=fun hm=>by
 obtain⟨j,hj,e⟩:=List.getElem_of_mem hm;rw[List.length_take] at hj;rw[List.getElem_take] at e;have:=List.pairwise_iff_getElem.1 hn j k (by omega) h (by omega);exact this e
theorem ZIy [DecidableEq α] {kx:α->κ} {off:Nat} {lv:List α} (hn:lv.Nodup) {f:α} (hi:∀s∈lv,kx s=kx f->s=f):∀n,n≤lv.length->(lookM (ZFL kx off (lv.take n)) (kx f)).toList=plc off (lv.take n) (fun s=>decide (s=f))
 | 0,_=>by simp[ZFL,lookM,plc]
 | n+1,h=>by
  rw[ZHH (by omega),ZCH,ZI3 (by omega)];have ih:=ZIy (off:=off) hn hi n (by omega);by_cases hf:lv[n]=f
  ·rw[if_pos (by rw[hf]),if_pos (by rw[hf];simp)];rw[ZGU fun s hs=>decide_eq_false fun e=>ZPi hn (k:=n) (by omega) (by rw[hf,<- e];exact hs)];rfl
  ·rw[if_neg (fun e=>hf (hi _ (List.getElem_mem _) e.symm)),if_neg (by simpa using hf),List.append_nil];exact ih
theorem ZVN [DecidableEq α] {kx:α->κ} {off:Nat} {lv:List α} (hn:lv.Nodup) (hi:∀a∈lv,∀b∈lv,kx a=kx b->a=b) {j:Nat} (hj:j<lv.length):lookM (ZFL kx off lv) (kx lv[j])=some ((off+j:Nat):Int):=by
 have h:=ZIy (off:=off) hn (f:=lv[j]) (fun s hs e=>hi s hs _ (List.getElem_mem hj) e) lv.length (Nat.le_refl _);rw[List.take_length] at h;have hm:((off+j:Nat):Int)∈plc off lv (fun s=>decide (s=lv[j])):=by
  unfold plc;refine List.mem_map.2 ⟨j,List.mem_filter.2 ⟨List.mem_range.2 hj,?_⟩,rfl⟩;rw[List.getElem?_eq_getElem hj];simp
 rw[<- h] at hm;cases hq:lookM (ZFL kx off lv) (kx lv[j]) with
 | none=>rw[hq] at hm;cases hm
 | some x=>rw[hq] at hm;rw[List.mem_singleton.1 hm]
theorem ZIx {kx:α->κ} {off:Nat} {lv:List α} (hn:lv.Nodup) (hi:∀a∈lv,∀b∈lv,kx a=kx b->a=b):∀n,n≤lv.length->(ZFL kx off (lv.take n)).map (·.1)=(lv.take n).map kx
 | 0,_=>by simp[ZFL]
 | n+1,h=>by
  have ih:=ZIx (off:=off) hn hi n (by omega);have hne:∀p∈ZFL kx off (lv.take n),p.1≠kx lv[n]:=fun p hp e=>by
   have hm:p.1∈(lv.take n).map kx:=by rw[<- ih];exact List.mem_map_of_mem hp
   obtain⟨s,hs,he⟩:=List.mem_map.1 hm;have:=hi s (List.mem_of_mem_take hs) lv[n] (List.getElem_mem _) (by rw[he,e]);exact ZPi hn (k:=n) (by omega) (this ▸ hs)
  rw[ZHH (by omega),ZDa hne,List.map_append,ih,ZAQ (by omega),List.map_append];rfl
def ZQo (m:List (κ × List Int)) (x:κ) (i:Int):List (κ × List Int):=ZCI m x ((lookM m x).getD []++[i])
def ZIR (kx:α->κ) (i:Int) (fs:List α) (m:List (κ × List Int)):List (κ × List Int):=fs.foldl (fun m f=>ZQo m (kx f) i) m
def arF (kx:α->κ) (fac:α->List α) (off:Nat) (lv:List α):List (κ × List Int):=lv.zipIdx.foldl (fun m p=>ZIR kx ((off+p.2:Nat):Int) (fac p.1) m) []
theorem ZL9 {kx:α->κ} {fac:α->List α} {off:Nat} {lv:List α} {k:Nat} (h:k<lv.length):arF kx fac off (lv.take (k+1))=ZIR kx ((off+k:Nat):Int) (fac lv[k]) (arF kx fac off (lv.take k)):=by
 unfold arF;rw[zip_snoc h,List.foldl_append];rfl
theorem ZOk {kx:α->κ} {i:Int} {fs:List α} {m:List (κ × List Int)} {j:Nat} (h:j<fs.length):ZIR kx i (fs.take (j+1)) m=ZQo (ZIR kx i (fs.take j) m) (kx fs[j]) i:=by
 unfold ZIR;rw[ZAQ h,List.foldl_append];rfl
theorem ZRT {m:List (κ × List Int)} {x y:κ} {i:Int}:(lookM (ZQo m x i) y).getD []=(lookM m y).getD []++if y=x then[i] else[]:=by
 unfold ZQo;rw[ZCH];by_cases h:y=x
 ·subst h;rw[if_pos rfl,if_pos rfl];rfl
 ·rw[if_neg h,if_neg h,List.append_nil]
theorem ZJp [DecidableEq α] {kx:α->κ} {i:Int} {f:α}:∀(fs:List α) (m:List (κ × List Int)),fs.Nodup->(∀s∈fs,kx s=kx f->s=f)->(lookM (ZIR kx i fs m) (kx f)).getD []=(lookM m (kx f)).getD []++if f∈fs then[i] else[]
 | [],m,_,_=>by simp[ZIR]
 | s::fs,m,hn,hi=>by
  have h2:=List.nodup_cons.1 hn;have ih:=ZJp (i:=i) fs (ZQo m (kx s) i) h2.2 fun t ht=>hi t (List.mem_cons_of_mem _ ht);show(lookM (ZIR kx i fs (ZQo m (kx s) i)) (kx f)).getD []=_;rw[ih,ZRT];by_cases hs:s=f
  ·subst hs;rw[if_pos rfl,if_neg h2.1,if_pos (List.mem_cons_self ..),List.append_nil]
  ·rw[if_neg (fun e=>hs (hi s (List.mem_cons_self ..) e.symm)),List.append_nil];by_cases hf:f∈fs
   ·rw[if_pos hf,if_pos (List.mem_cons_of_mem _ hf)]
   ·rw[if_neg hf,if_neg (fun h=>(List.mem_cons.1 h).elim (fun e=>hs e.symm) hf)]
theorem ZOm [DecidableEq α] {kx:α->κ} {fac:α->List α} {off:Nat} {lv:List α} {f:α} (hf:∀s∈lv,(fac s).Nodup) (hi:∀s∈lv,∀t∈fac s,kx t=kx f->t=f):∀n,n≤lv.length->(lookM (arF kx fac off (lv.take n)) (kx f)).getD []=plc off (lv.take n) (fun s=>decide (f∈fac s))
 | 0,_=>by simp[arF,lookM,plc]
 | n+1,h=>by
  have hm:lv[n]∈lv:=List.getElem_mem _;rw[ZL9 (by omega),ZJp _ _ (hf _ hm) (hi _ hm),ZOm hf hi n (by omega),ZI3 (by omega)];by_cases hq:f∈fac lv[n]
  ·rw[if_pos hq,if_pos (by simpa using hq)]
  ·rw[if_neg hq,if_neg (by simpa using hq)]
def ZQt (kx:α->κ) (fac:α->List α) (L:List (List α)) (f:α) (k:Nat):List Int :=
 (lookM (ZFL kx (ZAm L (k-1)) (L.getD (k-1) [])) (kx f)).toList++(lookM (arF kx fac (ZAm L k) (L.getD k [])) (kx f)).getD []
theorem ZSG [DecidableEq α] {kx:α->κ} {fac:α->List α} {L:List (List α)} {f:α} {k:Nat} (hn:(L.getD (k-1) []).Nodup) (h1:∀s∈L.getD (k-1) [],kx s=kx f->s=f) (hf:∀s∈L.getD k [],(fac s).Nodup) (hi:∀s∈L.getD k [],∀t∈fac s,kx t=kx f->t=f) :
  ZQt kx fac L f k=ZDy (fun f s=>decide (f∈fac s)) L f k:=by
 unfold ZQt ZDy;have e1:=ZIy (off:=ZAm L (k-1)) hn h1 _ (Nat.le_refl _);have e2:=ZOm (off:=ZAm L k) hf hi _ (Nat.le_refl _);rw[List.take_length] at e1 e2;rw[e1,e2]
end
end Go.Proofs.YtofkoleingbbpaaGreatDoor.C34
namespace Go.Proofs.YtofkoleingbbpaaGreatDoor
section
theorem ZQU {c:UInt8}:∀ {a b r r':List UInt8},(∀x∈a,x≠c)->(∀x∈b,x≠c)->a++c::r=b++c::r'->a=b/\r=r'
 | [],[],_,_,_,_,h=>⟨rfl,by simpa using h⟩
 | [],y::b,_,_,_,hb,h=>by
  simp only[List.nil_append,List.cons_append,List.cons.injEq] at h;exact absurd h.1.symm (hb y (by simp))
 | x::a,[],_,_,ha,_,h=>by
  simp only[List.nil_append,List.cons_append,List.cons.injEq] at h;exact absurd h.1 (ha x (by simp))
 | x::a,y::b,r,r',ha,hb,h=>by
  simp only[List.cons_append,List.cons.injEq] at h;obtain⟨h1,h2⟩:=ZQU (a:=a) (b:=b) (fun z hz=>ha z (by simp[hz])) (fun z hz=>hb z (by simp[hz])) h.2;exact⟨by rw[h.1,h1],h2⟩
theorem ZIb (k:Nat) (h:k<10):(UInt8.ofNat (48+k)).toNat=48+k:=by
 rw[UInt8.toNat_ofNat'];omega
def valD (l:List UInt8):Nat:=l.foldl (fun n d=>n*10+(d.toNat-48)) 0
theorem ZQg:∀u:Nat,valD (Lib.decDigits u)=u:=by
 intro u;induction u using Nat.strongRecOn with
 | _ u ih =>
  by_cases h:u<10
  ·rw[Lib.decDigits_one h];show 0*10+((UInt8.ofNat (48+u)).toNat-48)=u;rw[ZIb u h];omega
  ·rw[Lib.decDigits,dif_neg h];unfold valD at ih ⊢;rw[List.foldl_append,ih (u / 10) (by omega)];show u / 10*10+((UInt8.ofNat (48+u % 10)).toNat-48)=u;rw[ZIb _ (by omega)];omega
theorem ZRj:∀u:Nat,∀d∈Lib.decDigits u,48≤d.toNat:=by
 intro u;induction u using Nat.strongRecOn with
 | _ u ih =>
  by_cases h:u<10
  ·rw[Lib.decDigits_one h];intro d hd;rw[List.mem_singleton.1 hd,ZIb u h];omega
  ·rw[Lib.decDigits,dif_neg h];intro d hd;rcases List.mem_append.1 hd with q|q
   ·exact ih (u / 10) (by omega) d q
   ·rw[List.mem_singleton.1 q,ZIb _ (by omega)];omega
theorem ZIr {n:Int} (h:0≤n) {c:UInt8} (hc:c.toNat<48):∀x∈Lib.itoa n,x≠c:=by
 obtain⟨m,rfl⟩:=Int.eq_ofNat_of_zero_le h;rw[Lib.itoa_nonneg];intro x hx e;have:=ZRj m x hx;rw[e] at this;omega
theorem ZMS {n m:Int} (h:0≤n) (h':0≤m) (e:Lib.itoa n=Lib.itoa m):n=m:=by
 obtain⟨a,rfl⟩:=Int.eq_ofNat_of_zero_le h;obtain⟨b,rfl⟩:=Int.eq_ofNat_of_zero_le h';rw[Lib.itoa_nonneg,Lib.itoa_nonneg] at e;have:=congrArg valD e;rw[ZQg,ZQg] at this;rw[this]
theorem ZGY (v:Vx) (s:List Vx):txS (v::s)=Lib.itoa v.1++47::(Lib.itoa v.2++32::txS s):=by
 show txV v++txS s=_;unfold txV;simp
theorem ZQa:∀ {s t:List Vx},(∀v∈s,0≤v.1/\0≤v.2)->(∀v∈t,0≤v.1/\0≤v.2)->txS s=txS t->s=t
 | [],[],_,_,_=>rfl
 | [],v::t,_,_,h=>by
  rw[ZGY] at h;have:=congrArg List.length h;rw[List.length_append,List.length_cons] at this;exact absurd this (by show ¬ (0=_);omega)
 | v::s,[],_,_,h=>by
  rw[ZGY] at h;have:=congrArg List.length h;rw[List.length_append,List.length_cons] at this;exact absurd this (by show ¬ (_=0);omega)
 | v::s,u::t,hs,ht,h=>by
  rw[ZGY,ZGY] at h;have hv:=hs v (by simp);have hu:=ht u (by simp);obtain⟨h1,h2⟩:=ZQU (ZIr hv.1 (by decide)) (ZIr hu.1 (by decide)) h;obtain⟨h3,h4⟩:=ZQU (ZIr hv.2 (by decide)) (ZIr hu.2 (by decide)) h2;have e:v=u:=Prod.ext (ZMS hv.1 hu.1 h1) (ZMS hv.2 hu.2 h3);rw[e,ZQa (fun w hw=>hs w (by simp[hw])) (fun w hw=>ht w (by simp[hw])) h4]
end
section
open C34
def ZAn (l:Cx) (f:Vx->Int) (d:Nat):List Cx:=(List.range d).map fun k:Nat=>ZCk l ((k:Int)+1) (ZAi f (k:Int))
theorem ZAP {l:Cx} {f:Vx->Int} {d:Nat}:(ZAn l f d).length=d:=by simp[ZAn]
theorem ZHE {l:Cx} {f:Vx->Int} {d k:Nat} (h:k<d):(ZAn l f d).getD k []=ZCk l ((k:Int)+1) (ZAi f (k:Int)):=by
 rw[List.getD_eq_getElem?_getD,List.getElem?_eq_getElem (by rw[ZAP];exact h)];simp[ZAn]
theorem ZPc {l:Cx} {f:Vx->Int} {d:Nat}:ZAn l f (d+1)=ZAn l f d++[ZCk l ((d:Int)+1) (ZAi f (d:Int))]:=by
 unfold ZAn;rw[List.range_succ,List.map_append];rfl
theorem ZBI {l:Cx} (h:(ZBf l).2=0):ZBB l=0/\∀k,1≤k->k≤8->(ZAl l k).length≤4096:=by
 unfold ZBf at h;by_cases h0:ZBB l=0
 ·refine⟨h0,fun k h1 h2=>?_⟩;rw[if_neg (by simpa using h0)] at h;by_cases ha:(List.range 8).any (fun k=>decide (4096<(ZAl l (k+1)).length))=true
  ·rw[if_pos ha] at h;cases h
  ·simp only[List.any_eq_true,List.mem_range,decide_eq_true_eq,not_exists,not_and] at ha;have:=ha (k-1) (by omega);rw[show k-1+1=k by omega] at this;omega
 ·rw[if_pos h0] at h;exact absurd h h0
theorem ZCQ {l:Cx} {q:List Vx->Bool} (h:(ZBf l).2=0) {k:Nat} (h1:1≤k) (h2:k≤8):ZCk l (k:Int) q=(ZAl l k).filter q:=by
 obtain⟨g1,g2⟩:=ZBI h;have g3:=g2 k h1 h2;unfold ZCk ZCR;rw[if_neg (by omega),if_neg (by simpa using g1),if_neg (by omega),Int.toNat_natCast,if_neg (by omega)]
def ZF8 (l:Cx):Nat:=(l.map fun s=>2 ^ s.length).sum
theorem ZTZ (l:Cx) (k:Nat):(ZAl l k).length≤ZF8 l:=by
 have h1:(ZAl l k).length≤(ZHc l k).length:=List.Nodup.length_le_of_subset (ZCZ l _).nodup fun x hx=>ZGL.2 hx;refine Nat.le_trans h1 ?_;unfold ZHc ZF8;clear h1;induction l with
 | nil=>simp
 | cons s l ih =>
  simp only[List.map_cons,List.flatten_cons,List.length_append,List.sum_cons];have:=ZAr k s;omega
theorem ZDc {l:Cx} {q:List Vx->Bool} (h:(ZBf l).2=0) {k:Nat} (h1:1≤k) (h2:k≤8):(ZCk l (k:Int) q).length≤ZF8 l:=by
 rw[ZCQ h h1 h2];exact Nat.le_trans (List.length_filter_le _ _) (ZTZ l k)
theorem ZEm {l:Cx} {q:List Vx->Bool} (h:(ZBf l).2=0) {k:Nat} (h1:1≤k) (h2:k≤8) {s:List Vx} (hs:s∈ZCk l (k:Int) q):ZAC s=0/\s.length=k/\q s=true/\s∈ZAl l k:=by
 rw[ZCQ h h1 h2,List.mem_filter] at hs;obtain⟨g1,g2⟩:=ZBI h;obtain⟨x,hx,hm⟩:=ZB8.1 hs.1;have hg:=(ZAY.1 g1).2.2.1 x hx;have hl:=((ZAy _ _ _).1 hm).2;exact⟨(ZA7 hg (by omega) hm).1,hl,hs.2,hs.1⟩
theorem ZQR {l:Cx} {q:List Vx->Bool} (h:(ZBf l).2=0) {k:Nat} (h1:1≤k) (h2:k≤8):(ZCk l (k:Int) q).Nodup:=by
 rw[ZCQ h h1 h2];exact(ZCZ l k).nodup.filter _
theorem ZFr {s t:List Vx} (hs:ZAC s=0) (ht:ZAC t=0) (h:txS s=txS t):s=t:=by
 have go:∀ {s:List Vx},ZAC s=0->∀v∈s,0≤v.1/\0≤v.2:=fun h v hv=>by
  have:=(Zi.1 h).2.2.1 v hv;unfold ZDL at this;simp only[Bool.and_eq_true,decide_eq_true_eq] at this;omega
 exact ZQa (go hs) (go ht) h
structure Lv (L:List Cx):Prop where
 nd:∀k,(L.getD k []).Nodup
 ok:∀k,∀s∈L.getD k [],ZAC s=0/\s.length=k+1
theorem ZGP {l:Cx} {f:Vx->Int} (h:(ZBf l).2=0) {d:Nat} (hd:d≤8):Lv (ZAn l f d) where
 nd:=fun k=>by
  by_cases hk:k<d
  ·rw[ZHE hk];exact ZQR (k:=k+1) h (by omega) (by omega)
  ·rw[List.getD_eq_getElem?_getD,List.getElem?_eq_none (by rw[ZAP];omega)];simp
 ok:=fun k s hs=>by
  by_cases hk:k<d
  ·rw[ZHE hk] at hs;have:=ZEm (k:=k+1) h (by omega) (by omega) hs;exact⟨this.1,this.2.1⟩
  ·rw[List.getD_eq_getElem?_getD,List.getElem?_eq_none (by rw[ZAP];omega)] at hs;simp at hs
theorem Lv.sub {L:List Cx} (h:Lv L) {k j:Nat} {s t:List Vx} (hs:s∈L.getD k []) (hj:1≤j) (ht:t∈ZX j s):ZAC t=0/\t.length=j:=by
 have hl:=((ZAy _ _ _).1 ht).2;exact⟨(ZA7 (h.ok k s hs).1 (by omega) ht).1,hl⟩
def ZFD (l:Cx) (f:Vx->Int) (L:List Cx) (k:Nat):List (List Int):=(ZCk l (k:Int) (ZF6 f (((2 ^ k:Nat):Int)-1))).map fun s=>ZQt txS (ZX k) L s k
def ZVG (k:Nat) (f s:List Vx):Bool:=decide (f∈ZX k s)
theorem ZKh {L:List Cx} (hL:Lv L) {s:List Vx} {k:Nat} (h1:1≤k) (hs:ZAC s=0):ZQt txS (ZX k) L s k=ZDy (ZVG k) L s k:=by
 have h:=ZSG (k:=k) (f:=s) (kx:=txS) (fac:=ZX k) (hL.nd _) (fun t ht e=>ZFr (hL.ok _ t ht).1 hs e) (fun t ht=>ZIC (Zi.1 (hL.ok _ t ht).1).2.2.2 k) fun t ht u hu e=>ZFr (hL.sub ht h1 hu).1 hs e;rw[h];congr 1;funext a b
 unfold ZVG;by_cases hm:a∈ZX k b
 ·rw[decide_eq_true hm];simp[hm]
 ·rw[decide_eq_false hm];simp[hm]
def eqsP (l:Cx) (f:Vx->Int) (L:List Cx):List (List Int):=(List.range (L.length-1)).flatMap fun k=>ZFD l f L (k+1)
def ZBb (l:Cx) (f:Vx->Int) (L:List Cx):List (List Int):=plc 0 (L.getD 0 []) (fun _=>true)::eqsP l f L
theorem ZI9 {l:Cx} {f:Vx->Int} (h:(ZBf l).2=0) {d:Nat} (h0:0<d) (hd:d≤8):∀r∈ZBb l f (ZAn l f d),L05.Asc r/\∀x∈r,0≤x/\x<((ZAm (ZAn l f d) d:Nat):Int):=by
 have hL:=ZGP (f:=f) h hd;have hu:=ZHT (ZAn l f d);rw[ZAP] at hu;intro r hr;rw[<- hu];rcases List.mem_cons.1 hr with rfl|hr
 ·exact ZRo _ (by rw[ZAP];exact h0)
 ·obtain⟨k,hk,hr⟩:=List.mem_flatMap.1 hr;have hk:=List.mem_range.1 hk;rw[ZAP] at hk;obtain⟨s,hs,rfl⟩:=List.mem_map.1 hr;have hg:=ZEm (k:=k+1) h (by omega) (by omega) hs;rw[ZKh hL (by omega) hg.1];exact ZVW _ _ _ (by omega) (by rw[ZAP];omega)
theorem ZKV {l:Cx} {f:Vx->Int} (h:(ZBf l).2=0) {d:Nat} (hd:d≤8):∀k,k≤d->ZAm (ZAn l f d) k≤ZF8 l*k
 | 0,_=>by simp[ZAm]
 | k+1,hk=>by
  have ih:=ZKV (f:=f) h hd k (by omega);rw[ZDY (by rw[ZAP];omega),ZHE (by omega),Nat.mul_succ];have:=ZDc (q:=ZAi f (k:Int)) h (k:=k+1) (by omega) (by omega);rw[show((k+1:Nat):Int)=(k:Int)+1 by omega] at this;omega
theorem ZKB {α β:Type} {g:α->List β} {B:Nat}:∀ {l:List α},(∀x∈l,(g x).length≤B)->(l.flatMap g).length≤B*l.length
 | [],_=>by simp
 | x::l,h=>by
  have h1:=ZKB (l:=l) fun y hy=>h y (List.mem_cons_of_mem _ hy);have h2:=h x (List.mem_cons_self ..);rw[List.flatMap_cons,List.length_append,List.length_cons,Nat.mul_succ];omega
theorem ZMn {l:Cx} {f:Vx->Int} (h:(ZBf l).2=0) {d:Nat} (hd:d≤8):(ZBb l f (ZAn l f d)).length≤1+ZF8 l*8:=by
 unfold ZBb eqsP;rw[List.length_cons];have:=ZKB (g:=fun k=>ZFD l f (ZAn l f d) (k+1)) (B:=ZF8 l) (l:=List.range ((ZAn l f d).length-1)) fun k hk=>by
  have hk:=List.mem_range.1 hk;rw[ZAP] at hk;unfold ZFD;rw[List.length_map];exact ZDc h (by omega) (by omega)
 rw[List.length_range,ZAP] at this;rw[ZAP];have h2:ZF8 l*(d-1)≤ZF8 l*8:=Nat.mul_le_mul_left _ (by omega);omega
def ZFU (l:Cx) (f:Vx->Int) (d:Nat):Option (List Cx):=(L05.solP (ZBb l f (ZAn l f d)) [0] (ZAm (ZAn l f d) d)).map (ZBL (ZAn l f d))
end
end Go.Proofs.YtofkoleingbbpaaGreatDoor
