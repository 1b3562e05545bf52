/- Part 31: walks by contracts, and plain laws. -/
import Derived.Test.YtofkoleingbbpaaGreatDoorVx28
import Derived.Test.YtofkoleingbbpaaGreatDoorVx30
set_option linter.unusedVariables false
set_option linter.unusedSimpArgs false
set_option linter.unusedSectionVars false
set_option maxRecDepth 100000
set_option maxHeartbeats 4000000
namespace Go.Proofs.YtofkoleingbbpaaGreatDoor.L05
section
def ZEc (m:List (Int × Ln)) (C:Nat):List Ln:=(List.range C).filterMap fun c:Nat=>ZBS m (c:Int)
theorem outP_mem {C:Nat} {m:List (Int × Ln)} (G:Good05 C m) {l:Ln}:l∈ZEc m C↔∃ c,(c,l)∈m:=by
 unfold ZEc
 rw [List.mem_filterMap]
 constructor
 ·rintro ⟨c,_,h⟩
  exact ⟨_,lookP_some h⟩
 ·rintro ⟨c,h⟩
  have hh:=G.hd _ h
  have h1:=G.low _ h c (head_mem hh)
  have h2:=G.pos _ h c (head_mem hh)
  refine ⟨c.toNat,List.mem_range.2 (by omega),?_⟩
  have:=ZIP G.nd h
  rw [Int.toNat_of_nonneg h2]
  exact this
theorem ZPf {C:Nat} {m:List (Int × Ln)} (G:Good05 C m):(ZEc m C).Pairwise fun a b=>hdI a.1<hdI b.1:=by
 unfold ZEc
 rw [List.pairwise_filterMap]
 refine List.pairwise_lt_range.imp fun {c d} h l hl l' hl'=>?_
 have h1:=G.hd _ (lookP_some hl)
 have h2:=G.hd _ (lookP_some hl')
 simp only at h1 h2
 simp only [hdI,h1,h2,Option.getD_some]
 omega
theorem ZGt {α β:Type} {f g:α->Option β}:∀ {l:List α},(∀ x∈l,f x=g x)->l.filterMap f=l.filterMap g
 | [],_=>rfl
 | x::l,h=>by
  rw [List.filterMap_cons,List.filterMap_cons,h x (by simp),ZGt fun y hy=>h y (by simp [hy])]
theorem sol_same {rows:List (List Int)} {b:List Int} {C:Nat} (h1:AllAsc rows) (h2:∀ r∈rows,Low (C:Int) r) (h3:∀ r∈rows,Pos r):solP rows b C=solR rows b C:=by
 have h:=PInv.all (b:=b) h1 h2 h3 rows.length (Nat.le_refl _)
 rw [echN_all] at h
 have hwl:(ZAx rows b C).take rows.length=ZAx rows b C:=List.take_of_length_le (by rw [ZQC];exact Nat.le_refl _)
 obtain ⟨G,hdep,s1,s2,s3⟩:=h
 rw [hwl] at s1 s2 s3
 have hW:∀ r∈ZAx rows b C,Asc r/\Low ((C+1:Nat):Int) r/\Pos r:=fun r hr=>by
  unfold ZAx at hr
  obtain ⟨p,hp,rfl⟩:=List.mem_map.1 hr
  have hp1:p.1∈rows:=by
   have:=List.mem_zipIdx hp
   rw [this.2.2];exact List.getElem_mem _
  refine ⟨ZAn (h1 _ hp1) (h2 _ hp1),fun x hx=>?_,fun x hx=>?_⟩
  ·rcases ZBU.1 hx with k|k
   ·have:=h2 _ hp1 x k;omega
   ·omega
  ·rcases ZBU.1 hx with k|k
   ·exact h3 _ hp1 x k
   ·omega
 have hWA:AllAsc (ZAx rows b C):=fun r hr=>(hW r hr).1
 obtain ⟨e1,e2,e3,e4⟩:=ZMv (W:=ZAx rows b C) (C:=C+1) hWA (fun r hr=>(hW r hr).2.2) (fun r hr=>(hW r hr).2.1)
 unfold solP solR
 generalize echP rows C=s at G hdep s1 s2 s3
 obtain ⟨m,deps⟩:=s
 simp only at G hdep s1 s2 s3 ⊢
 generalize ZPI (ZAx rows b C) (C+1)=E at e1 e2 e3 e4
 cases hd:deps.any fun y=>ZBQ y b with
 | true =>
  obtain ⟨y,hy,hyo⟩:=List.any_eq_true.1 hd
  have hs:=s2 y hy
  rw [hyo] at hs
  have hs':Span E (wd (C:Int) [] true):=hs.trans e1.asc e3
  obtain ⟨r,hr,hrc⟩:=e1.head hs' (c:=(C:Int)) rfl
  rw [if_pos rfl,if_pos (List.any_eq_true.2 ⟨r,hr,by rw [hdI,hrc];simp⟩)]
 | false =>
  rw [if_neg (by decide)]
  have hev:∀ y∈deps,ZBQ y b=false:=fun y hy=>by
   cases e:ZBQ y b with
   | false=>rfl
   | true =>
    have:(deps.any fun y=>ZBQ y b)=true:=List.any_eq_true.2 ⟨y,hy,e⟩
    rw [hd] at this;cases this
  -- the wide lines are the reference's rows
  have hO:∀ r,r∈(ZEc m C).map (wdL b C)↔∃ p∈m,wdL b C p.2=r:=fun r=>by
   rw [List.mem_map]
   constructor
   ·rintro ⟨l,hl,rfl⟩
    obtain ⟨c,hc⟩:=(outP_mem G).1 hl
    exact ⟨_,hc,rfl⟩
   ·rintro ⟨⟨c,l⟩,hp,rfl⟩
    exact ⟨l,(outP_mem G).2 ⟨c,hp⟩,rfl⟩
  have hhd:∀ p∈m,(wdL b C p.2).head?=some p.1:=fun p hp=>ZR2 (G.hd p hp)
  have hkl:∀ p∈m,p.1<(C:Int):=fun p hp=>G.low p hp _ (head_mem (G.hd p hp))
  have hR:Red ((ZEc m C).map (wdL b C)):=by
   refine ⟨fun r hr=>?_,fun r hr e=>?_,fun r hr t ht c hc hct=>?_⟩
   ·obtain ⟨p,hp,rfl⟩:=(hO r).1 hr
    exact ZAn (G.asc p hp) (G.low p hp)
   ·obtain ⟨p,hp,rfl⟩:=(hO r).1 hr
    have:=hhd p hp
    rw [e] at this;cases this
   ·obtain ⟨p,hp,rfl⟩:=(hO r).1 hr
    obtain ⟨q,hq,rfl⟩:=(hO t).1 ht
    rw [hhd p hp] at hc
    cases hc
    have hm:p.1∈q.2.1:=by
     rcases ZBU.1 hct with k|k
     ·exact k
     ·have:=hkl p hp;omega
    rw [G.one p hp q hq hm]
  have hsp1:∀ r∈(ZEc m C).map (wdL b C),Span E r:=fun r hr=>by
   obtain ⟨p,hp,rfl⟩:=(hO r).1 hr
   exact (s1 p hp).trans e1.asc e3
  have hsp2:∀ r∈E,Span ((ZEc m C).map (wdL b C)) r:=fun r hr=>by
   refine ((e2 r hr).trans (C:=(m.map fun p=>wdL b C p.2)++deps.map fun y=>wd (C:Int) [] (ZBQ y b)) (fun t ht=>?_) s3).trans hR.asc fun t ht=>?_
   ·rcases List.mem_append.1 ht with ht|ht
    ·obtain ⟨p,hp,rfl⟩:=List.mem_map.1 ht
     exact ZAn (G.asc p hp) (G.low p hp)
    ·obtain ⟨y,hy,rfl⟩:=List.mem_map.1 ht
     exact ZAn List.Pairwise.nil (fun x hx=>by cases hx)
   ·rcases List.mem_append.1 ht with ht|ht
    ·obtain ⟨p,hp,rfl⟩:=List.mem_map.1 ht
     exact Span.one ((hO _).2 ⟨p,hp,rfl⟩)
    ·obtain ⟨y,hy,rfl⟩:=List.mem_map.1 ht
     rw [hev y hy];exact Span.zero
  have hord:((ZEc m C).map (wdL b C)).Pairwise fun r s=>hdI r<hdI s:=by
   rw [List.pairwise_map]
   refine (ZPf G).imp_of_mem fun {a b'} ha hb h=>?_
   obtain ⟨c,hc⟩:=(outP_mem G).1 ha
   obtain ⟨d,hd'⟩:=(outP_mem G).1 hb
   have k1:=hhd _ hc
   have k2:=hhd _ hd'
   have k3:=G.hd _ hc
   have k4:=G.hd _ hd'
   simp only at k1 k2 k3 k4
   simp only [hdI,k3,k4,Option.getD_some] at h
   simp only [hdI,k1,k2,Option.getD_some]
   exact h
  have hE:=ZKx hR e1 hsp1 hsp2 hord e4
  rw [<- hE]
  rw [if_neg (fun q=>by
   obtain ⟨r,hr,hrc⟩:=List.any_eq_true.1 q
   obtain ⟨p,hp,rfl⟩:=(hO r).1 hr
   have:=of_decide_eq_true hrc
   rw [hdI,hhd p hp,Option.getD_some] at this
   have:=hkl p hp
   omega)]
  congr 1
  -- the places
  unfold ZEc
  rw [List.filter_map,List.map_map,List.filter_filterMap,List.map_filterMap]
  refine ZGt fun c hc=>?_
  cases hl:ZBS m (c:Int) with
  | none=>rfl
  | some l =>
   have hm:=lookP_some hl
   have k1:=hhd _ hm
   simp only at k1
   have hCm:decide ((C:Int)∈wdL b C l)=ZBQ l.2 b:=by
    have hn:(C:Int)∉l.1:=fun q=>by have:=G.low _ hm _ q;omega
    cases e:ZBQ l.2 b with
    | true=>exact decide_eq_true (ZBU.2 (.inr ⟨e,rfl⟩))
    | false =>
     refine decide_eq_false fun q=>?_
     rcases ZBU.1 q with k|k
     ·exact hn k
     ·rw [e] at k;cases k.1
   simp only [Function.comp_apply,Option.filter_some,hCm]
   cases e:ZBQ l.2 b with
   | true=>simp [hdI,k1]
   | false=>simp
end
section
theorem ZPb {E:List (List Int)} {y:List Int} (h:∀ r∈E,ZBQ r y=false) {v:List Int} (hv:Span E v):ZBQ v y=false:=by
 induction hv with
 | zero=>rfl
 | add hr _ ih=>rw [ZKG,h _ hr,ih];rfl
theorem ZK0 {p:Int->Bool} {a c:Int} (hac:a<c):∀ {l:List Int},Asc l->a∈l->c∈l->p a=true->p c=true->(∀ x∈l,p x=true->x=a\/x=c)->(l.filter p).length=2:=by
 intro l hl ha hc pa pc ho
 have h1:(l.filter p)=[a,c]:=by
  refine asc_ext (hl.filter _) (List.pairwise_cons.2 ⟨fun y hy=>by rw [List.mem_singleton.1 hy];exact hac,List.pairwise_singleton _ _⟩) fun x=>?_
  rw [List.mem_filter]
  constructor
  ·rintro ⟨q1,q2⟩
   rcases ho x q1 q2 with rfl|rfl <;> simp
  ·intro q
   simp only [List.mem_cons,List.not_mem_nil,or_false] at q
   rcases q with rfl|rfl
   ·exact ⟨ha,pa⟩
   ·exact ⟨hc,pc⟩
 rw [h1];rfl
structure Solves (rows:List (List Int)) (b:List Int) (C:Nat) (x:List Int):Prop where
 asc:Asc x
 rng:∀ c∈x,0≤c/\c<(C:Int)
 sat:∀ i (h:i<rows.length),ZBQ rows[i] x=decide ((i:Int)∈b)
theorem sol_sat {rows:List (List Int)} {b:List Int} {C:Nat} (h1:AllAsc rows) (h2:∀ r∈rows,Low (C:Int) r) (h3:∀ r∈rows,Pos r) {x:List Int} (hx:solR rows b C=some x):Solves rows b C x:=by
 have hW:∀ r∈ZAx rows b C,Asc r/\Low ((C+1:Nat):Int) r/\Pos r:=fun r hr=>by
  unfold ZAx at hr
  obtain ⟨p,hp,rfl⟩:=List.mem_map.1 hr
  have hp1:p.1∈rows:=by
   have:=List.mem_zipIdx hp
   rw [this.2.2];exact List.getElem_mem _
  refine ⟨ZAn (h1 _ hp1) (h2 _ hp1),fun x hx=>?_,fun x hx=>?_⟩
  ·rcases ZBU.1 hx with k|k
   ·have:=h2 _ hp1 x k;omega
   ·omega
  ·rcases ZBU.1 hx with k|k
   ·exact h3 _ hp1 x k
   ·omega
 have hWA:AllAsc (ZAx rows b C):=fun r hr=>(hW r hr).1
 obtain ⟨e1,e2,e3,e4⟩:=ZMv (W:=ZAx rows b C) (C:=C+1) hWA (fun r hr=>(hW r hr).2.2) (fun r hr=>(hW r hr).2.1)
 unfold solR at hx
 generalize ZPI (ZAx rows b C) (C+1)=E at e1 e2 e3 e4 hx
 split at hx
 ·cases hx
 ·rename_i hno
  have hno:∀ r∈E,hdI r≠(C:Int):=fun r hr q=>hno (List.any_eq_true.2 ⟨r,hr,decide_eq_true q⟩)
  have hx:(E.filter fun r=>decide ((C:Int)∈r)).map hdI=x:=Option.some.inj hx
  have hEl:∀ r∈E,Low ((C+1:Nat):Int) r:=fun r hr=>Span.low hWA (fun r hr=>(hW r hr).2.1) (e2 r hr)
  have hEp:∀ r∈E,Pos r:=fun r hr=>by
   have:∀ {v:List Int},Span (ZAx rows b C) v->Pos v:=fun {v} hv=>by
    induction hv with
    | zero=>intro x hx;cases hx
    | add hr h ih=>exact ZDo (hWA _ hr) (h.asc hWA) ((hW _ hr).2.2) ih
   exact this (e2 r hr)
  have hhd:∀ r∈E,r.head?=some (hdI r):=fun r hr=>by
   cases r with
   | nil=>exact absurd rfl (e1.pos _ hr)
   | cons y r=>rfl
  have hmem:∀ c,c∈x↔∃ r∈E,(C:Int)∈r/\hdI r=c:=fun c=>by
   rw [<- hx,List.mem_map]
   constructor
   ·rintro ⟨r,hr,e⟩
    obtain ⟨q1,q2⟩:=List.mem_filter.1 hr
    exact ⟨r,q1,of_decide_eq_true q2,e⟩
   ·rintro ⟨r,hr,hc,e⟩
    exact ⟨r,List.mem_filter.2 ⟨hr,decide_eq_true hc⟩,e⟩
  have hxr:∀ c∈x,0≤c/\c<(C:Int):=fun c hc=>by
   obtain ⟨r,hr,_,rfl⟩:=(hmem c).1 hc
   have q1:=hEp r hr _ (head_mem (hhd r hr))
   have q2:=hEl r hr _ (head_mem (hhd r hr))
   have q3:=hno r hr
   omega
  have hxa:Asc x:=by
   rw [<- hx]
   show List.Pairwise _ _
   rw [List.pairwise_map]
   exact e4.filter _
  refine ⟨hxa,hxr,fun i hi=>?_⟩
  have hE:∀ r∈E,ZBQ r (wd (C:Int) x true)=false:=fun r hr=>by
   have hin:∀ c∈r,c∈wd (C:Int) x true->c=hdI r\/c=(C:Int):=fun c hc hcx=>by
    rcases ZBU.1 hcx with k|k
    ·obtain ⟨s,hs,_,rfl⟩:=(hmem c).1 k
     left
     rw [e1.one s hs r hr _ (hhd s hs) hc]
    ·exact .inr k.2
   unfold ZBQ
   by_cases hC:(C:Int)∈r
   ·have hne:=hno r hr
    have hlt:hdI r<(C:Int):=by have:=hEl r hr _ (head_mem (hhd r hr));omega
    rw [ZK0 (a:=hdI r) (c:=(C:Int)) hlt (e1.asc r hr) (head_mem (hhd r hr)) hC (decide_eq_true (ZBU.2 (.inl ((hmem _).2 ⟨r,hr,hC,rfl⟩)))) (decide_eq_true (ZBU.2 (.inr ⟨rfl,rfl⟩))) fun c hc q=>hin c hc (of_decide_eq_true q)]
    rfl
   ·have:(r.filter fun c=>decide (c∈wd (C:Int) x true))=[]:=List.filter_eq_nil_iff.2 fun c hc q=>by
     have q:=of_decide_eq_true q
     rcases hin c hc q with e|e
     ·rcases ZBU.1 q with k|k
      ·obtain ⟨s,hs,hCs,e2⟩:=(hmem c).1 k
       have:=e1.one s hs r hr c (e2 ▸ hhd s hs) hc
       rw [this] at hC
       exact hC hCs
      ·exact hC (k.2 ▸ hc)
     ·exact hC (e ▸ hc)
    rw [this];rfl
  have hw:ZBQ (wd (C:Int) rows[i] (decide ((i:Int)∈b))) (wd (C:Int) x true)=false:=by
   refine ZPb hE (e3 _ ?_)
   exact List.mem_iff_getElem?.2 ⟨i,ZHR hi⟩
  have hri:=List.getElem_mem hi
  have hn:(C:Int)∉rows[i]:=fun q=>by have:=h2 _ hri _ q;omega
  have hf:(rows[i].filter fun c=>decide (c∈wd (C:Int) x true))=rows[i].filter fun c=>decide (c∈x):=List.filter_congr fun c hc=>by
   have:c≠(C:Int):=fun e=>hn (e ▸ hc)
   rw [decide_eq_decide,ZBU]
   simp [this]
  have h0:ZBQ rows[i] x=ZBQ rows[i] (wd (C:Int) x true):=by unfold ZBQ;rw [hf]
  rw [h0]
  generalize hob:decide ((i:Int)∈b)=o at hw
  cases o with
  | false=>exact hw
  | true =>
   have hap:ZBQ (rows[i]++[(C:Int)]) (wd (C:Int) x true) = !ZBQ rows[i] (wd (C:Int) x true):=by
    unfold ZBQ
    rw [List.filter_append,List.length_append]
    have:([(C:Int)].filter fun c=>decide (c∈wd (C:Int) x true))=[(C:Int)]:=by
     rw [List.filter_cons,if_pos (decide_eq_true (ZBU.2 (.inr ⟨rfl,rfl⟩)))];rfl
    rw [this,List.length_singleton]
    by_cases q:(rows[i].filter fun c=>decide (c∈wd (C:Int) x true)).length % 2=1
    ·rw [decide_eq_true q,decide_eq_false (by omega)];rfl
    ·rw [decide_eq_false q,decide_eq_true (by omega)];rfl
   have h5:ZBQ (rows[i]++[(C:Int)]) (wd (C:Int) x true)=false:=hw
   rw [hap] at h5
   cases e:ZBQ rows[i] (wd (C:Int) x true) with
   | true=>rfl
   | false=>rw [e] at h5;cases h5
end
end Go.Proofs.YtofkoleingbbpaaGreatDoor.L05
namespace Go.Proofs.YtofkoleingbbpaaGreatDoor
section
open Go.RowKit
theorem ZHU:ElT Tryz.prog 103 23 1 (.slice none 0 0) 24 false:=⟨Tryz.underlying103,by kernel_rfl,Tryz.isAgg23,rfl⟩
theorem ZMw:ElT Tryz.prog 151 155 2 (.agg #[.slice none 0 0,.slice none 0 0]) 48 true:=⟨Tryz.underlying151,by kernel_rfl,Tryz.isAgg155,rfl⟩
theorem ZQl:TyI Tryz.prog 23 1 false:=⟨by kernel_rfl,Tryz.isAgg23⟩
theorem ZSG:TyI Tryz.prog 103 1 false:=⟨by kernel_rfl,Tryz.isAgg103⟩
theorem ZJO:TyI Tryz.prog 155 2 true:=⟨by kernel_rfl,Tryz.isAgg155⟩
theorem ZOO:TyI Tryz.prog 184 1 false:=⟨by kernel_rfl,Tryz.isAgg184⟩
theorem ZS7:TyI Tryz.prog 105 2 true:=⟨by kernel_rfl,Tryz.isAgg105⟩
theorem ZOQ:TyZ Tryz.prog 155 (.agg #[.slice none 0 0,.slice none 0 0]):=⟨by kernel_rfl⟩
theorem tzQ3:TyZ Tryz.prog 184 (.map none):=⟨by kernel_rfl⟩
theorem tzQ5:TyZ Tryz.prog 105 (.agg #[.int .i64 0,.slice none 0 0]):=⟨by kernel_rfl⟩
def ZCH (n:Int):Prop:=-9223372036854775808≤n/\n≤9223372036854775807
theorem wf64Q {n:Int} (h:ZCH n):(Lit.int .i64 n).wf=true:=by
 obtain ⟨h1,h2⟩:=h
 show (decide (IntKind.i64.min≤n) && decide (n≤IntKind.i64.max))=true
 have e1:IntKind.i64.min = -9223372036854775808:=by decide
 have e2:IntKind.i64.max=9223372036854775807:=by decide
 rw [e1,e2,decide_eq_true h1,decide_eq_true h2];rfl
abbrev kvQ:Int->Value:=fun n=>Value.int .i64 n
theorem ZDi:KeyT Tryz.prog 3 kvQ ZCH where
 law:=Go.Maps.int_keyed Tryz.underlying3
 lit:=fun n h=>⟨_,Go.Maps.keyOf_int_mk Tryz.underlying3 (wf64Q h)⟩
 inj:=fun x y _ _ h=>by injection h
theorem ZFP:MapT Tryz.prog 184 3 155 (.agg #[.slice none 0 0,.slice none 0 0]):=⟨Tryz.underlying184,fun w=>by kernel_rfl⟩
abbrev Mat:Rel (Int × List (List Int)):=R2 RI (Arr ZBD)
abbrev LnR:Rel (List Int × List Int):=R2 ZBD ZBD
theorem lnT:ColT Tryz.prog 155:=by
 constructor
 ·intro b off w;go_simp
 ·intro b off w;go_simp
 ·intro a n c a' n' c' w;go_simp
structure FldT (P:Program) (T:TypeId):Prop where
 fld0:∀ b off w,(Instr.fieldAt T (.pointer (some ⟨b,off,none⟩)) 0).run P w = .ok (.pointer (some ⟨b,off+0,none⟩)) w
 fld1:∀ b off w,(Instr.fieldAt T (.pointer (some ⟨b,off,none⟩)) 1).run P w = .ok (.pointer (some ⟨b,off+1,none⟩)) w
theorem ZSB:FldT Tryz.prog 105:=by
 constructor
 ·intro b off w;go_simp
 ·intro b off w;go_simp
theorem ZP1:StrT Tryz.prog 105 2:=⟨fun b off i w hi=>by
 match i,hi with
 | 0,_=>go_simp
 | 1,_=>go_simp⟩
section
variable {P:Program} {ops:Array Oper} {hp:List HObj} {fr:List Dat} {d:Dat} {Q:Zu} {rest:List Oper}
variable {dst:Option Tmp} {ty:TypeId} {ps:String} {af:Array Edge} {g:Option (Nat × Bool)} {T:TypeId}
theorem ZGV (V:FldT P T) {α β:Type} {R:Rel α} {S:Rel β} {_gR:Good R} {_gS:Good S} {x:Operand} {p:α × β} (hx:OpD fr x (dP 2 true (dS (R2 R S) p))):SY P ops hp ⟨dst,.fieldAddr T x 0,ty,ps,af,g⟩ fr (dP 1 false (dS R p.1)):=SY.val fun {I w a} ho=>by
 obtain ⟨b,off,u,h1,⟨hb,cs,k1,k0,k2,k3,k4⟩,v0,v1,hu,q0,q1,q2,q3⟩:=hx.get (by simp [Op.operands]) ho
 simp only [if_true] at k4
 rw [k4] at hu
 have hcs:cs=[v0,v1]:=by injection hu with hu;exact List.toArray_inj hu
 subst hcs
 refine ⟨_,?_,b,off+0,v0,rfl,⟨hb,[v0],rfl,Nat.one_pos,by simp [q0],fun j c hc=>?_,rfl⟩,q2⟩
 ·unfold execOp
  simp only [h1,Sem.run_bind,V.fld0,Result.andThen_ok,Sem.run_pure]
 ·have hj:j=0:=by have:=(List.getElem?_eq_some_iff.1 hc).1;simpa using this
  subst hj
  cases hc
  exact k3 0 _ rfl
theorem ZGW (V:FldT P T) {α β:Type} {R:Rel α} {S:Rel β} {_gR:Good R} {_gS:Good S} {x:Operand} {p:α × β} (hx:OpD fr x (dP 2 true (dS (R2 R S) p))):SY P ops hp ⟨dst,.fieldAddr T x 1,ty,ps,af,g⟩ fr (dP 1 false (dS S p.2)):=SY.val fun {I w a} ho=>by
 obtain ⟨b,off,u,h1,⟨hb,cs,k1,k0,k2,k3,k4⟩,v0,v1,hu,q0,q1,q2,q3⟩:=hx.get (by simp [Op.operands]) ho
 simp only [if_true] at k4
 rw [k4] at hu
 have hcs:cs=[v0,v1]:=by injection hu with hu;exact List.toArray_inj hu
 subst hcs
 refine ⟨_,?_,b,off+1,v1,rfl,⟨hb,[v1],rfl,Nat.one_pos,by simp [q1],fun j c hc=>?_,rfl⟩,q3⟩
 ·unfold execOp
  simp only [h1,Sem.run_bind,V.fld1,Result.andThen_ok,Sem.run_pure]
 ·have hj:j=0:=by have:=(List.getElem?_eq_some_iff.1 hc).1;simpa using this
  subst hj
  cases hc
  exact k3 1 _ rfl
theorem ZLu (V:ColT P T) {α β:Type} {R:Rel α} {S:Rel β} {_gR:Good R} {_gS:Good S} {x y:Operand} {xs:List α} {ys:List β} (hx:OpD fr x (dS (Arr R) xs)) (hy:OpD fr y (dS (Arr S) ys)):SY P ops hp ⟨dst,.build T #[(0,x),(1,y)],ty,ps,af,g⟩ fr (dS (R2 (Arr R) (Arr S)) (xs,ys)):=SY.val fun {I w a} ho=>by
 have h1:Arr R I w (a.eval x) xs:=hx.get (by simp [Op.operands]) ho
 have h2:Arr S I w (a.eval y) ys:=hy.get (by simp [Op.operands]) ho
 have h1':=h1
 have h2':=h2
 obtain ⟨ad,c,hv,_⟩:=h1'
 obtain ⟨ad',c',hv',_⟩:=h2'
 rw [hv] at h1
 rw [hv'] at h2
 refine ⟨.agg #[.slice ad xs.length c,.slice ad' ys.length c'],?_,_,_,rfl,rfl,rfl,h1,h2⟩
 unfold execOp
 simp only [List.map_toArray,List.map_cons,List.map_nil,hv,hv',Sem.run_bind,V.mkp,Result.andThen_ok,Sem.run_pure]
theorem Zx {x i:Operand} {t e:TypeId} {z:Value} {bytes:Nat} (E:ElT P t e 1 z bytes false) {α:Type} {R:Rel α} {_gR:Good R} {xs:List α} {k:Nat} {v:α} (hk:k<xs.length) (hv:xs[k]=v) (hx:OpD fr x (dS (Arr R) xs)) (hi:OpD fr i (dI (k:Int))) :
  SY P ops hp ⟨dst,.indexAddr t x i,ty,ps,af,g⟩ fr (dP 1 false (dS R v)):=hv ▸ SY.ix E hx hi hk
theorem ZEz {x y:Operand} {t e:TypeId} {z:Value} {bytes:Nat} {ag:Bool} (E:ElT P t e 1 z bytes ag) {α:Type} {R:Rel α} {_gR:Good R} {a:α} {xs:List α} (hx:OpD fr x (dS (Arr R) (a::xs))) (hy:OpD fr y (dI 1)) :
  SY P ops hp ⟨dst,.slice t x (some y) none none,ty,ps,af,g⟩ fr (dS (Arr R) xs):=ZOa (_gR:=_gR) (xs:=a::xs) E hx hy 1 rfl (by simp)
theorem ZOs {α:Type} {R:Rel α} {_gR:Good R} {t e:TypeId} {bytes:Nat} {z:Value} {ag:Bool} {k:Nat} {j:Int} {y:Operand} (E:ElT P t e 1 z bytes ag) (hy:OpD fr y (dI j)) (hj:j=(k:Int)) (hb:bytes*k≤281474976710656) (hm:k≤maxLen) (h:∀ v,WL P ops Q rest (ZB fr dst (dX v)) (Zn v e R []::hp)) :
  WL P ops Q (⟨dst,.makeSlice t (.const (.int .i64 0)) y,ty,ps,af,none⟩::rest) fr hp:=by
 refine WL.of fun P0 B w0 w a hh hf=>?_
 have h1:a.eval y = .int .i64 k:=by rw [<- hj];exact hy.ev hf
 obtain ⟨i,hi,hz,hsz,hbt⟩:=info_parts E.info
 obtain ⟨w',hr,r1,r2⟩:=run_make_own (P:=P) w 0 t e i z 1 E.und hi hz hsz .i64 .i64 k (by rw [hbt];exact hb) hm (Nat.zero_le _)
 refine Zd rfl (v:=.slice (some ⟨w.heap.size,0,none⟩) 0 k) (w':=w') ?_ ?_
 ·unfold execOp
  have hc:a.eval (.const (.int .i64 0)) = .int .i64 0:=rfl
  simp only [h1,hc,Sem.run_bind,hr,Result.andThen_ok,Sem.run_pure]
 have hx:Ext w w':=⟨r2.os,r2.tape,r2.output,r2.size,fun k hk=>r2.block k hk (by simp)⟩
 have hb:∀ q,(Zn (.slice (some ⟨w.heap.size,0,none⟩) 0 k) e R ([]:List α)).blk=some q->w.heap.size≤q/\q<w'.heap.size:=fun q hq=>by
  cases hq
  exact ⟨Nat.le_refl _,(r1.lt _ rfl).2⟩
 refine (h _).on (hh.push hx hb ⟨[],rfl,r1,fun k a b=>absurd b (Nat.not_lt_zero _)⟩) ?_
 exact Fr.put (hf.mono fun d _ hd=>Zz hx (fun k hk=>(hb k hk).1) hd) rfl
end
end
section
open Go.RowKit
theorem ZLg {α β:Type} {R:Rel α} {S:Rel β} [Good R] [Good S] {p:α × β}:(dS (R2 R S) p).le (ZDK [dS R p.1,dS S p.2]):=fun _ _ _ h=>by
 obtain ⟨u,u',rfl,h0,h0',h1,h2⟩:=h
 exact ⟨[u,u'],rfl,rfl,fun c hc=>by
  simp only [List.mem_cons,List.not_mem_nil,or_false] at hc
  rcases hc with rfl|rfl <;> assumption,fun k c d hc hd=>by
  match k,hc,hd with
  | 0,hc,hd=>cases hc;cases hd;exact h1
  | 1,hc,hd=>cases hc;cases hd;exact h2⟩
theorem ZI1 {α β:Type} {R:Rel α} {S:Rel β} [Good R] [Good S] {x:α} {y:β}:(ZDK [dS R x,dS S y]).le (dS (R2 R S) (x,y)):=fun _ _ _ h=>by
 obtain ⟨cs,rfl,hl,h3,h4⟩:=h
 match cs,hl with
 | [u,u'],_=>exact ⟨u,u',rfl,h3 u (by simp),h3 u' (by simp),h4 0 u _ rfl rfl,h4 1 u' _ rfl rfl⟩
theorem ZAS {u v:Value} (h0:u.oneCell'=true) (h1:v.oneCell'=true):(dX (.agg #[u,v])).Shape 2 true:=fun _ _ _ h=>by
 cases (h:_=_)
 exact ⟨[u,v],rfl,by decide,fun c hc=>by
  simp only [List.mem_cons,List.not_mem_nil,or_false] at hc
  rcases hc with rfl|rfl <;> assumption,rfl,rfl⟩
section
variable {P:Program} {ops:Array Oper} {hp:List HObj} {fr:List Dat} {d:Dat} {Q:Zu} {rest:List Oper} {b:Nat} {T:TypeId}
structure Halt5 (p:Prop):Prop where
 go:p
theorem WC.only5 (id:Nat) {l:Array Oper} {m:Bool} (h:WC P Q (.region id l m) fr hp):WC P Q (.region id l m) fr hp:=h
theorem ZOn {ds:List Dat} (h:WL P ops Q rest fr (ZAD b T ds::hp)):WL P ops Q rest fr (Zb b T ds.length true (ZDK ds)::hp):=WL.of fun P0 B w0 w a hh hf=>by
 obtain ⟨cs,u,c1,c2,c0,c3,c4,c5⟩:=hh.ok (Zb b T ds.length true (ZDK ds)) (by simp)
 obtain ⟨cs',k1,k2,k3,k4⟩:=c5
 simp only [if_true] at c4
 rw [k1] at c4
 have hcs:cs'=cs:=by injection c4 with c4;exact List.toArray_inj c4
 subst hcs
 have hgr:w.grownBy w (Zb b T ds.length true (ZDK ds)).blk:=⟨rfl,rfl,rfl,Nat.le_refl _,fun _ _ _=>rfl⟩
 have hok:(ZAD b T ds).ok (fun k=>Imm P0 B (Zb b T ds.length true (ZDK ds)::hp) k/\k<w.heap.size) w:=⟨cs',c1,k2,k3,fun k c d hc hd=>d.bound (k4 k c d hc hd)⟩
 exact h.on (hh.write hgr (.inl rfl) hok) (hf.mono fun _ _ hd=>ZT (o':=ZAD b T ds) hgr (.inl rfl) hd)
end
section
variable {P:Program} {f:FuncId} {fn:Func} {c:Code} {ds:List Dat} {hp1:List HObj} {K:Dat->List HObj->Prop}
def ZSg (t:Nat) (n:Nat) (agg:Bool) (K:Dat->List HObj->Prop) (hp:List HObj):Zu:=fun e f q=>(match e with|.normal|.ret=>True|_=>False)/\∃ d hp2,f[t]?=some (dP n agg d)/\q=hp2++hp/\K d hp2
theorem ZGO {t:Tmp} {T:TypeId} {n:Nat} {agg:Bool} (T':TyI P T n agg) (hf:P.funcs[f]?=some fn) (hb:fn.body=some c) (hr:fn.results=#[.cell t T])
  (h:∀ hp,WC P (ZSg t n agg K hp) c (ds++List.replicate (fn.ntmps-ds.length) (dX undef)) (hp1++hp)):CallC P f ds hp1 K:=⟨fun P0 B w0 hp vs W hh hl hv=>by
 refine calls_of_wp hf hb ?_
 have hf0:=ZBa (m:=fn.ntmps-ds.length) hl hv
 have hsz:vs.toArray.size=ds.length:=by simp [hl]
 rw [hsz]
 refine Code.wp_mono (fun e a' w' ⟨f',p',q,hh',hf'⟩=>?_) ((h hp).on hh hf0)
 obtain ⟨hx,d',hp2,hd',rfl,hk'⟩:=q
 obtain ⟨b,off,u,h1,h2,h3⟩:=hf'.rd t _ hd'
 cases e with
 | normal=>exact ⟨hf'.defers,_,ZCb T' hr h1 h2,_,_,hp2,rfl,hk',hh',h3⟩
 | ret=>exact ⟨hf'.defers,_,ZCb T' hr h1 h2,_,_,hp2,rfl,hk',hh',h3⟩
 | _=>exact hx.elim⟩
end
end
section
open Go.RowKit

theorem ZR0:TyZ Tryz.prog 93 (.agg #[.slice none 0 0,.nilFunc]):=⟨by kernel_rfl⟩
theorem ZRc (s:Value) (f:FuncId) (cap:Array Value) (w:World):(Instr.build 93 #[(0,.agg #[s]),(1,.func (.func f) #[] cap)]).run Tryz.prog w = .ok (.agg #[s,.func (.func f) #[] cap]) w:=by go_simp
section
variable {ops:Array Oper} {hp:List HObj} {fr:List Dat} {dst:Option Tmp} {ty:TypeId} {ps:String} {af:Array Edge} {g:Option (Nat × Bool)}
theorem ZLs {l:Cx} {f:Vx->Int} {x y:Operand} (hx:OpD fr x (dS Cpx l)) (hy:OpD fr y (ZKw f)):SY Tryz.prog ops hp ⟨dst,.build 93 #[(0,x),(1,y)],ty,ps,af,g⟩ fr (ZFm l f):=SY.val fun {I w a} ho=>by
 obtain ⟨s,h1,hs,h2⟩:Cpx I w (a.eval x) l:=hx.get (by simp [Op.operands]) ho
 have h3:=hy.get (by simp [Op.operands]) ho
 obtain ⟨q,cap,h4,h5⟩:=h3
 refine ⟨.agg #[s,.func (.func q) #[] cap],?_,[s,.func (.func q) #[] cap],rfl,rfl,fun c hc=>?_,fun k c e hc he=>?_⟩
 ·unfold execOp
  simp only [List.map_toArray,List.map_cons,List.map_nil,h1,h4,Sem.run_bind,ZRc,Result.andThen_ok,Sem.run_pure]
 ·simp at hc;rcases hc with rfl|rfl
  ·exact hs
  ·rfl
 ·match k,hc,he with
  | 0,hc,he=>cases hc;cases he;exact h2
  | 1,hc,he=>cases hc;cases he;exact ⟨q,cap,rfl,h5⟩
end
def ZO9 (l:Cx) (vs:List Vx) (A:List Int):Int:=if (ZES l).2≠0 then (ZES l).2 else if ZAa vs A≠0 then ZAa vs A else if ZI7 l (Zl vs A)=false then 6 else 0
set_option maxHeartbeats 8000000 in
theorem ZJn (l:Cx) (vs:List Vx) (A:List Int) (h:ZO9 l vs A=0):Fn Tryz.prog 57 [dS Cpx l,dS Lab (vs,A)] (dT [ZFm l (Zl vs A),dI 0]):=by
 have c1:=ZM0 l
 have c2:=ZE9 vs A
 unfold ZO9 at h
 by_cases h1:(ZES l).2≠0
 ·rw [if_pos h1] at h;exact absurd h h1
 rw [if_neg h1] at h
 by_cases h2:ZAa vs A≠0
 ·rw [if_pos h2] at h;exact absurd h h2
 rw [if_neg h2] at h
 have h1':(ZES l).2=0:=Classical.byContradiction h1
 have h2':ZAa vs A=0:=Classical.byContradiction h2
 have h3:ZI7 l (Zl vs A)=true:=by
  cases e:ZI7 l (Zl vs A) with
  | true=>rfl
  | false=>rw [if_pos e] at h;cases h
 rw [h1'] at c1
 rw [h2'] at c2
 obtain ⟨g1,g2,g3,g4,g5⟩:=ZBI h2'
 have c3:=ZJt l vs A g3 g2 (by omega)
 rw [h3] at c3
 have c4:=ZEk vs A g3 g2 (by omega)
 refine ZFv ZEf Tryz.func57 rfl rfl ?_
 -- @kinds sperner.begin
 simp only [Tryz.ntmps57,List.length_cons,List.length_nil,Nat.reduceAdd,Nat.reduceSub,List.replicate_succ,List.replicate_zero,List.cons_append,List.nil_append]
 ((repeat' (first |  (apply WC.drawTail (id:=9) 4;kernel_rfl;kernel_rfl;simp only [List.take_succ_cons,List.take_zero,List.drop_succ_cons,List.drop_zero])|((first|apply WL.opN|apply WD.opN);exact yF;dsimp only [ZB,z0,z1])|refine WL.nil ?_|refine WD.nil ?_|refine ZA fun Kx hK=>?_|(refine hK _ _ ?_;clear hK)|refine WC.region ?_ |  (refine WL.alloc (dst:=some 4) ZR0 (ZAS rfl rfl) fun b4=>?_;dsimp only [ZB,z0,z1]) |  (refine ZR ZEf rfl (OpD.t rfl) (Z4 (n:=2) (by decide) rfl) ?_;dsimp only [ZB,z0,z1])|((first|apply WL.opN|apply WD.opN);(focus ((first|(apply SY.call (c1) Tryz.call97;(exact aD))|(apply SY.call (c2) Tryz.call13;(exact aD))|(apply SY.call (c3) Tryz.call44;(exact aD))|(apply SY.call (c4) Tryz.call46;(exact aD))|(exact ZLs (OpD.t rfl) (OpD.t rfl))|(apply SY.load;exact ZBq;exact OpD.t rfl)|((first|apply SY.move|apply SY.assign|apply SY.neq|apply SY.not) <;> (exact oD))|(apply SY.extract;(exact oD);rfl)|(apply SY.box;(exact oD);(exact hD))|fail);all_goals infer_instance));dsimp only [ZB,z0,z1])|(apply ZG;(exact oD);all_goals (intro h;try exact xD))|(apply ZO;(exact oD);all_goals (intro h;try exact xD))|refine WC.skip ?_|refine WC.ret ?_));all_goals (first|((repeat clear hK);(repeat clear Kx))))
 all_goals try (exfalso;first|contradiction|omega)
 exact ⟨trivial,⟨_,rfl,FinD.le (Dat.le_refl _)⟩,_,rfl,FinD.le (Dat.le_refl _)⟩
end
section
open Go.RowKit

theorem ZRI {l:Cx} {f:Vx->Int}:ZI7 l f=(ZFU l).all fun v=>!decide (f v=0):=by
 unfold ZI7
 rw [Bool.eq_iff_iff,List.all_eq_true,List.all_eq_true]
 constructor
 ·intro h v hv
  obtain ⟨s,hs,hvs⟩:=ZHB.1 hv
  have:=h s hs
  simp only [Bool.not_eq_true',List.any_eq_false,decide_eq_true_eq] at this
  simpa using this v hvs
 ·intro h s hs
  simp only [Bool.not_eq_true',List.any_eq_false,decide_eq_true_eq]
  intro v hv
  simpa using h v (ZHB.2 ⟨s,hs,hv⟩)
set_option maxHeartbeats 4000000 in
theorem ZKv (l:Cx) (vs:List Vx) (A:List Int) (hA:A.length=vs.length) (hl:vs.length≤1000000) (h8:∀ s∈l,s.length≤8) (hll:l.length≤100):Fn Tryz.prog 49 [dS Cpx l,dS Lab (vs,A)] (dB (ZI7 l (Zl vs A))):=by
 have c1:=ZLF l h8 hll
 rw [ZRI]
 have hpl:=ZIZ h8 l.length
 rw [List.take_length] at hpl
 generalize ZFU l=p at c1 hpl
 obtain ⟨o,ho⟩:∃ o,(p.all fun v=>!decide (Zl vs A v=0))=o:=⟨_,rfl⟩
 rw [ho]
 (refine ZE Tryz.func49 rfl rfl ?_;simp only [Tryz.ntmps49,List.length_cons,List.length_nil,Nat.reduceAdd,Nat.reduceSub,List.replicate_succ,List.replicate_zero,List.cons_append,List.nil_append])
 (repeat' (first|((first|apply WL.opN|apply WD.opN);exact yF;dsimp only [ZB,z0,z1])|refine WL.nil ?_|refine ZA fun Kx hK=>?_|(refine hK _ _ ?_;clear hK)|refine WC.region ?_|((first|apply WL.opN|apply WD.opN);(focus ((first|(apply SY.call (c1) Tryz.call88;(exact aD))|(apply SY.box;(exact oD);(exact hD))|fail);all_goals infer_instance));dsimp only [ZB,z0,z1])|refine WC.block ?_))
 all_goals try (exfalso;first|contradiction|omega)
 (refine WC.loopU (X:=Nat) (fun k=>[(6,dI (k:Int)),(4,dA),(9,dA),(10,dA),(11,dA),(12,dA),(13,dA),(14,dA),(15,dA),(16,dA),(17,dA),(18,dA),(19,dA),(20,dA),(21,dA)]) (fun k=>[]) (fun k=>p.length-k) (fun k=>k≤p.length/\((p.drop k).all fun v=>!decide (Zl vs A v=0))=o) 0 ?start ?frame0 ?objs0 ?round)
 case start=>exact ⟨Nat.zero_le _,ho⟩
 case frame0=>((try dsimp only [ZK,z0,z1]);repeat (first|exact LeF.nil|refine ZD (k:=?_)))
 case objs0=>rfl
 case round =>
  rintro k ⟨hk,hE⟩
  dsimp only [ZK,z0,z1]
  by_cases hkl:k<p.length
  ·have hkI:(k:Int)<(p.length:Int):=by omega
   have c2:=ZQZ vs A p[k] hA hl
   rw [List.drop_eq_getElem_cons hkl,List.all_cons] at hE
   by_cases hz:Zl vs A p[k]=0
   ·rw [hz] at c2
    rw [decide_eq_true hz] at hE
    have h0:o=false:=by rw [<- hE];rfl
    subst h0
    ((repeat' (first|((first|apply WL.opN|apply WD.opN);exact yF;dsimp only [ZB,z0,z1])|refine WL.nil ?_|refine WD.nil ?_|refine ZA fun Kx hK=>?_|(refine hK _ _ ?_;clear hK)|refine WC.region ?_|(apply WC.draw;kernel_rfl;kernel_rfl)|((first|apply WL.opN|apply WD.opN);(focus ((first|(apply SY.load;exact ZBq;exact OpD.t rfl)|(apply SY.call (c2) Tryz.call89;(exact aD))|((first|apply SY.move|apply SY.assign|apply SY.lss|apply SY.eql) <;> (exact oD))|(apply SY.len;(exact oD);(exact nD);(exact uD))|(apply Zo;(exact eD);(exact oD);(exact oD);exact kD)|fail);all_goals infer_instance));dsimp only [ZB,z0,z1])|(apply ZC;(exact oD);all_goals (intro h;try exact xD))|refine WC.skip ?_|refine WC.ret ?_|refine WC.block ?_|refine ThenD.r ?_|refine InBlockD.r ?_));all_goals (first|((repeat clear hK);(repeat clear Kx))))
    all_goals try (exfalso;first|contradiction|omega)
    (refine ⟨trivial,_,rfl,?_⟩;exact fD)
   ·rw [decide_eq_false hz] at hE
    ((repeat' (first|((first|apply WL.opN|apply WD.opN);exact yF;dsimp only [ZB,z0,z1])|refine WL.nil ?_|refine WD.nil ?_|refine ZA fun Kx hK=>?_|(refine hK _ _ ?_;clear hK)|refine WC.region ?_|(apply WC.draw;kernel_rfl;kernel_rfl)|((first|apply WL.opN|apply WD.opN);(focus ((first|(apply SY.load;exact ZBq;exact OpD.t rfl)|(apply SY.call (c2) Tryz.call89;(exact aD))|((first|apply SY.move|apply SY.assign|apply SY.lss|apply SY.eql) <;> (exact oD))|((first|apply SY.add) <;> first|exact oD|omega)|(apply SY.len;(exact oD);(exact nD);(exact uD))|(apply Zo;(exact eD);(exact oD);(exact oD);exact kD)|fail);all_goals infer_instance));dsimp only [ZB,z0,z1])|(apply ZC;(exact oD);all_goals (intro h;try exact xD))|refine WC.skip ?_|refine WC.block ?_|refine ThenD.n ?_));all_goals (first|((repeat clear hK);(repeat clear Kx))))
    all_goals try (exfalso;first|contradiction|omega)
    (refine ⟨k+1,?_,by first|omega|(simp only;omega),rfl,?_⟩;rotate_left;((try dsimp only [ZK,z0,z1]);repeat (first|exact LeF.nil|refine ZD (k:=?_)));(try dsimp only))
    exact ⟨hkl,hE⟩
  ·have hkI:¬ (k:Int)<(p.length:Int):=by omega
   rw [List.drop_of_length_le (by omega)] at hE
   have h0:o=true:=hE.symm
   subst h0
   ((repeat' (first|((first|apply WL.opN|apply WD.opN);exact yF;dsimp only [ZB,z0,z1])|refine WL.nil ?_|refine ZA fun Kx hK=>?_|(refine hK _ _ ?_;clear hK)|(refine Kont.skip ?_;clear hK)|refine WC.region ?_|((first|apply WL.opN|apply WD.opN);(focus ((first|((first|apply SY.move|apply SY.assign|apply SY.lss|apply SY.eql) <;> (exact oD))|(apply SY.len;(exact oD);(exact nD);(exact uD))|fail);all_goals infer_instance));dsimp only [ZB,z0,z1])|(apply ZC;(exact oD);all_goals (intro h;try exact xD))|refine WC.ret ?_|refine WC.exit ?_));all_goals (first|((repeat clear hK);(repeat clear Kx))))
   all_goals try (exfalso;first|contradiction|omega)
   (refine ⟨trivial,_,rfl,?_⟩;exact fD)
end
end Go.Proofs.YtofkoleingbbpaaGreatDoor
