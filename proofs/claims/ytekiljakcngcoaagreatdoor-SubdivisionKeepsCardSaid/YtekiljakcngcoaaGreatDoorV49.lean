/- Part 49: walks by contracts, and plain laws. -/
import Derived.Deep.SlicePairs
import Derived.Lib.SmallJoins
import Derived.Test.YtekiljakcngcoaaGreatDoorRows
import Derived.Test.YtekiljakcngcoaaGreatDoorV13
set_option linter.unusedVariables false
set_option linter.unusedSimpArgs false
set_option linter.unusedSectionVars false
set_option maxRecDepth 100000
set_option maxHeartbeats 4000000
namespace Go.Proofs.YtekiljakcngcoaaGreatDoor
section
open Go.ChangeShapes Go.WideShapes Go.ChangeAt Go.RowKit

theorem own:ownKnob Tryz.prog.godebug=none:=by kernel_rfl
theorem ZTr:laidOutB Tryz.prog=true:=by kernel_rfl
theorem ZUf:Tryz.prog.cellsOf 50=2:=by kernel_rfl
theorem ZUe:Tryz.prog.cellsOf 28=1:=by kernel_rfl
theorem ZSP:Tryz.prog.cellsOf 3=1:=by kernel_rfl

section
variable {H:Type} {enc:TypeId × Value->H}
theorem ZVM {w:World} {fuel:Nat} {v:Value} {x:DataW H × List MemPlace} (h:DataW.trod enc Tryz.prog w 0 (fun _=>true) true fuel 28 [v]=some x) :
  ∃ xs,ZI anyB w v xs:=by
 rcases Deep.open_slice_pairs Tryz.underlying28 Tryz.underlying50 ZUf rfl rfl ZSP ZSP h with ⟨hc,_⟩|⟨a,len,cap,m,n,V0,V1,D0,D1,P0,P1,hc,_,hl,hm,hmm,_,hx⟩
 ·obtain rfl:v = .slice none 0 0:=by simpa using hc
  exact ⟨[],ZD8 (by decide)⟩
 ·obtain rfl:v = .slice (some a) len cap:=by simpa using hc
  simp only [if_true] at hmm
  subst hmm
  have hz:∀ i,∃ p:Int × Int,i<m->V0 i = .int .i64 p.1/\V1 i = .int .i64 p.2:=fun i=>by
   by_cases hi:i<m
   ·obtain ⟨_,_,h2,h3⟩:=hx i hi
    obtain ⟨p,hp,_⟩:=DataW.trod_int Tryz.underlying3 h2
    obtain ⟨q,hq,_⟩:=DataW.trod_int Tryz.underlying3 h3
    exact ⟨(p,q),fun _=>⟨by simpa using hp,by simpa using hq⟩⟩
   ·exact ⟨(0,0),fun h=>absurd h hi⟩
  obtain ⟨z,hz⟩:=Classical.axiomOfChoice hz
  have hlen:((List.range len).map z).length=len:=by simp
  refine ⟨(List.range len).map z,some a,m,by rw [hlen],by rw [hlen];exact hl,hm,by decide,fun k hk=>?_⟩
  rw [hlen] at hk
  obtain ⟨h0,h1,_⟩:=hx k (by omega)
  have hs:=World.cell?_spot (hx 0 (by omega)).1
  obtain ⟨b,off,sp⟩:=a
  obtain rfl:sp=none:=by simpa [Addr.add] using hs
  obtain ⟨e0,e1⟩:=hz k (by omega)
  refine ⟨[.int .i64 (z k).1,.int .i64 (z k).2],b,off,by simp [RV],rfl,by simp [Value.oneCell'],rfl,trivial,fun j c hc=>?_⟩
  rw [Addr.add_lit] at h0 h1
  match j,hc with
  | 0,hc=>cases hc;rw [Nat.add_zero,<- e0];exact h0
  | 1,hc=>cases hc;rw [<- e1,Nat.add_assoc];exact h1
theorem ZVL {w:World} {fuel:Nat} {v:Value} {x:DataW H × List MemPlace} (h:DataW.trod enc Tryz.prog w 0 (fun _=>true) true fuel 22 [v]=some x) :
  ∃ xs,ZAe anyB w v xs:=by
 rcases Deep.open_slice1 Tryz.underlying22 ZUe h with ⟨hc,_⟩|⟨a,len,cap,m,n,V,D,Pl,hc,_,hl,hm,hmm,_,hx⟩
 ·obtain rfl:v = .slice none 0 0:=by simpa using hc
  exact ⟨[],ZCG⟩
 ·obtain rfl:v = .slice (some a) len cap:=by simpa using hc
  simp only [if_true] at hmm
  subst hmm
  have hz:∀ i,∃ xs:List (Int × Int),i<m->ZI anyB w (V i) xs:=fun i=>by
   by_cases hi:i<m
   ·obtain ⟨xs,h1⟩:=ZVM (hx i hi).2
    exact ⟨xs,fun _=>h1⟩
   ·exact ⟨[],fun h=>absurd h hi⟩
  obtain ⟨z,hz⟩:=Classical.axiomOfChoice hz
  have hlen:((List.range len).map z).length=len:=by simp
  refine ⟨(List.range len).map z,some a,m,by rw [hlen],by rw [hlen];exact hl,hm,fun k hk=>?_⟩
  rw [hlen] at hk
  obtain ⟨h0,_⟩:=hx k (by omega)
  have hs:=World.cell?_spot (hx 0 (by omega)).1
  obtain ⟨b,off,sp⟩:=a
  obtain rfl:sp=none:=by simpa [Addr.add] using hs
  have hv:=hz k (by omega)
  refine ⟨V k,b,off,by simpa using hv,?_,rfl,trivial,by rw [Addr.add_lit] at h0;exact h0⟩
  obtain ⟨a',c',hv',_⟩:=hv
  rw [hv'];rfl
theorem open_U8' {w:World} {r:Reach} {b0:Nat} {v:Value} {d:DataW H} {ps:List MemPlace} (hv:Value.okWide Tryz.prog w r b0 5 v) (h:DataW.Trod enc Tryz.prog w 0 (fun _=>true) true 5 v d ps):∃ n:Int,v = .int .u8 n/\0≤n/\n≤255:=by
 obtain ⟨n,rfl,_,_,hw⟩:=open_int Tryz.underlying5 hv h
 exact ⟨n,rfl,by simpa [Lit.wf,IntKind.min,IntKind.max,IntKind.signed,IntKind.bits] using hw⟩
end

section
variable {H:Type} {enc:TypeId × Value->H}

theorem ZI7 {W W':World} (hE:Ext W W'):∀ {ts:List TypeId} {vs:List Value} {ds:List (DataW H)} {ps:List MemPlace},(∀ t∈ts,Tryz.prog.readableRec t=true/\t<Tryz.prog.types.size)->(∀ p∈ps,p.block<W.heap.size) ->
  DataW.TrodAll enc Tryz.prog W 0 (fun _=>true) true ts vs ds ps->DataW.TrodAll enc Tryz.prog W' 0 (fun b=>decide (b<W.heap.size)) true ts vs ds ps
 | [],_,_,_,_,_,h=>by
  obtain ⟨rfl,rfl,rfl⟩:=trodAll_nil h
  exact trodAll_mk0
 | t::ts,_,_,_,ht,hlt,h=>by
  obtain ⟨v,vs1,d,ds1,a,b,rfl,rfl,rfl,h1,h2⟩:=trodAll_cons h
  exact trodAll_cons_mk (Below.trod ZTr (ht t (by simp)).1 (ht t (by simp)).2 h1 hE (fun x hx=>hlt x (by simp [hx]))) (ZI7 hE (fun t' h'=>ht t' (by simp [h'])) (fun p hp=>hlt p (by simp [hp])) h2)

theorem post_law {f:Func} {s:ChangeSpec} {W W':World} {args:Array Value} {ds gs:List (DataW H)} {before:List MemPlace} (hW:DataW.Whole enc Tryz.prog f.params.toList s.vars false W args.toList ds gs before) (hvars:s.vars=[])
  (hr:f.resultTypes=#[4]) (hs:s.fn H ds={ results:=[.lit (.bool true)],args:=ds }) (ht:∀ t∈f.params.toList,Tryz.prog.readableRec t=true/\t<Tryz.prog.types.size) (hE:Ext W W') :
  s.post enc Tryz.prog f false true false false W args (.bool true) W':=by
 have hlt:=hW.lt
 have hW':=hW
 obtain ⟨p,q,hA,hV,rfl,hfz,hnd⟩:=hW
 rw [hvars] at hV
 obtain ⟨rfl,rfl⟩:=trodVars_none hV
 refine ⟨ds,[],p++[],[],p,[],hW',?_,?_,?_,hE.frame _,fun h=>by cases h⟩
 ·rw [hr,List.append_nil,hs]
  exact trodAll_mk1 (shut_bool Tryz.underlying4 true)
 ·rw [List.append_nil,hs]
  exact ZI7 hE ht (fun x hx=>hlt x (by simp [hx])) hA
 ·rw [hvars,List.append_nil,hs]
  rfl
theorem fn_law {f:FuncId} {ds:List Dat} (hF:Fn Tryz.prog f ds (dB true)) {W:World} {vs:List Value} (hl:vs.length=ds.length) (h:∀ (i:Nat) (d:Dat),ds[i]?=some d->d.rd anyB W (vs.getD i undef)) :
  Calls Tryz.prog f vs.toArray W fun e W'=>e = .returned (.bool true)/\Ext W W' :=
 (hF.out anyB W vs hl h).mono fun _ _ ⟨_,h1,h2,h3⟩=>by cases (h3:_=_);exact ⟨h1,h2⟩
end
end
section
open Go.ChangeShapes Go.WideShapes Go.ChangeAt Go.RowKit
section
variable {H:Type} {enc:TypeId × Value->H}
theorem ZUd:Tryz.prog.cellsOf 24=1:=by kernel_rfl
theorem ZTM:Tryz.prog.cellsOf 22=1:=by kernel_rfl
theorem open_C' {w:World} {r:Reach} {b0:Nat} {v:Value} {d:DataW H} {ps:List MemPlace} (hv:Value.okWide Tryz.prog w r b0 24 v) (h:DataW.Trod enc Tryz.prog w 0 (fun _=>true) true 24 v d ps):∃ xs,(dS Cpx xs).rd anyB w v:=by
 obtain ⟨fuel,h⟩:=h
 obtain ⟨cs,rfl,hcs⟩:=okWide_struct Tryz.underlying24 hv
 rw [ZUd] at hcs
 obtain ⟨u,rfl⟩:=Array.size_eq_one_iff.1 hcs
 obtain ⟨y0,n,hy,hl,h0⟩:=trod_struct1 Tryz.underlying24 h
 have h0':DataW.trod enc Tryz.prog w 0 (fun _=>true) true n 22 [u]=some y0:=by
  have e:Tryz.prog.cellsOf 22=1:=ZTM
  simpa [Value.cells,e] using h0
 obtain ⟨xs,hx⟩:=ZVL h0'
 refine ⟨xs,u,rfl,?_,hx⟩
 obtain ⟨a,c,hu,_⟩:=hx
 rw [hu];rfl
end
end
end Go.Proofs.YtekiljakcngcoaaGreatDoor
