/- Part 20: walks by contracts, and plain laws. -/
import Derived.Test.YtekiljakcngcoaaGreatDoorV19
set_option linter.unusedVariables false
set_option linter.unusedSimpArgs false
set_option linter.unusedSectionVars false
set_option maxRecDepth 100000
set_option maxHeartbeats 4000000
namespace Go.Proofs.YtekiljakcngcoaaGreatDoor
section
open Go.RowKit
theorem ZU9:laidOutB Tryz.prog=true:=by kernel_rfl
def ZKp (n:Int):Prop:=-9223372036854775808≤n/\n≤9223372036854775807
theorem wf64 {n:Int} (h:ZKp n):(Lit.int .i64 n).wf=true:=by
 obtain ⟨h1,h2⟩:=h
 show (decide (IntKind.i64.min≤n) && decide (n≤IntKind.i64.max))=true
 have e1:IntKind.i64.min = -9223372036854775808:=by decide
 have e2:IntKind.i64.max=9223372036854775807:=by decide
 rw [e1,e2,decide_eq_true h1,decide_eq_true h2];rfl
def kvV (x:Int × Int):Value:=.agg #[.int .i64 x.1,.int .i64 x.2]
def okV (x:Int × Int):Prop:=ZKp x.1/\ZKp x.2
theorem ZVT:50<Tryz.prog.types.size:=of_decide_eq_true (by kernel_rfl)
theorem ZKc:Tryz.prog.cellsOf 50=2:=by kernel_rfl
theorem ZTL:Tryz.prog.cellsOf 3=1:=by kernel_rfl
theorem ZSi (d:Nat) {x:Int × Int} (h:okV x):Tryz.prog.keyLits (d+2) 50 [.int .i64 x.1,.int .i64 x.2]=some [.int .i64 x.1,.int .i64 x.2]:=by
 obtain ⟨h1,h2⟩:=h
 unfold Program.keyLits
 simp only [Tryz.underlying50,ZKc]
 simp [ZTL,Program.keyLits,Tryz.underlying3,wf64 h1,wf64 h2]
theorem ZBc:KeyT Tryz.prog 50 kvV okV where
 law:=Go.Maps.Keyed.of_law (deep_law_laid ZU9 (m:=2) (by omega) ZVT (by kernel_rfl) (by rw [Tryz.underlying50]))
 lit:=fun x h=>by
  refine ⟨.string (keyBytes [.int .i64 x.1,.int .i64 x.2]),?_⟩
  unfold keyOf
  simp only [Tryz.underlying50]
  have hk:Tryz.prog.keyType 50=true:=by kernel_rfl
  have hf:(kvV x).formed Tryz.prog 50=true:=by simp [kvV,Value.formed,Tryz.underlying50,ZKc]
  obtain ⟨d,hd⟩:∃ d,Tryz.prog.types.size=d+1:=⟨Tryz.prog.types.size-1,by have:=ZVT;omega⟩
  rw [hk,hf,hd]
  have:=ZSi d h
  simp only [Bool.and_self,if_true]
  rw [show (kvV x).cells.toList=[.int .i64 x.1,.int .i64 x.2] from rfl,this]
  rfl
 inj:=fun x y _ _ h=>by
  unfold kvV at h
  simp at h
  exact Prod.ext h.1 h.2
def ZKv (s:List Vx):List Vx:=s++List.replicate (8-s.length) (-1,0)
def kvK (s:List Vx):Value:=.agg (Zs (ZKv s)).toArray
def okK (s:List Vx):Prop:=s.length≤8/\∀ v∈s,okV v/\0≤v.1
theorem ZVS:117<Tryz.prog.types.size:=of_decide_eq_true (by kernel_rfl)
theorem ZOA:Tryz.prog.cellsOf 117=16:=by kernel_rfl
theorem ZEp {s:List Vx} (h:s.length≤8):(ZKv s).length=8:=by unfold ZKv;simp;omega
theorem ZT9 {s:List Vx} (h:okK s):∀ v∈ZKv s,okV v:=fun v hv=>by
 unfold ZKv at hv
 rcases List.mem_append.1 hv with hv|hv
 ·exact (h.2 v hv).1
 ·rw [(List.mem_replicate.1 hv).2];exact ⟨by unfold ZKp;omega,by unfold ZKp;omega⟩
theorem ZL4 {α β:Type} {f:α->Option β} {g:α->β}:∀ (L:List α),(∀ i∈L,f i=some (g i))->L.mapM f=some (L.map g)
 | [],_=>rfl
 | a::L,h=>by
  rw [List.mapM_cons,h a (by simp),ZL4 L fun i hi=>h i (by simp [hi])]
  rfl
theorem ZLr:∀ (l:List Vx) (i:Nat) (h:i<l.length),((Zs l).drop (i*2)).take 2=[.int .i64 l[i].1,.int .i64 l[i].2]
 | [],i,h=>by simp at h
 | x::l,0,_=>by simp [ZAy]
 | x::l,i+1,h=>by
  rw [ZAy,show (i+1)*2=i*2+2 by omega]
  simpa using ZLr l i (by simpa using h)
theorem ZVE (d:Nat) {s:List Vx} (h:okK s):∃ l,Tryz.prog.keyLits (d+3) 117 (Zs (ZKv s))=some l:=by
 have hl:(Zs (ZKv s)).length=16:=by rw [Zy,ZEp h.1]
 unfold Program.keyLits
 simp only [Tryz.underlying117,ZOA,hl]
 simp only [if_true,ZKc]
 rw [ZL4 (g:=fun i=>[Lit.int .i64 ((ZKv s).getD i (0,0)).1,Lit.int .i64 ((ZKv s).getD i (0,0)).2]) _ fun i hi=>?_]
 ·exact ⟨_,rfl⟩
 ·have hi':i<(ZKv s).length:=by rw [ZEp h.1];exact List.mem_range.1 hi
  rw [ZLr _ i hi',ZSi d (ZT9 h _ (List.getElem_mem hi'))]
  simp [List.getD,hi']
theorem ZJT:∀ {a b:List Vx},Zs a=Zs b->a=b
 | [],[],_=>rfl
 | [],y::b,h=>by simp [ZAy,ZB6] at h
 | x::a,[],h=>by simp [ZAy,ZB6] at h
 | x::a,y::b,h=>by
  rw [ZAy,ZAy] at h
  simp at h
  rw [Prod.ext h.1 h.2.1,ZJT h.2.2]
theorem ZRj:∀ {a b:List Vx},(∀ v∈a,0≤v.1)->(∀ v∈b,0≤v.1)->ZKv a=ZKv b->a=b:=by
 have go:∀ {a b:List Vx} (i j:Nat),(∀ v∈a,0≤v.1)->(∀ v∈b,0≤v.1)->a++List.replicate i ((-1,0):Vx)=b++List.replicate j (-1,0)->a=b:=by
  intro a
  induction a with
  | nil =>
   intro b i j _ hb h
   cases b with
   | nil=>rfl
   | cons y b =>
    cases i with
    | zero=>simp at h
    | succ i =>
     rw [List.replicate_succ] at h
     simp at h
     have:=hb y (by simp)
     rw [<- h.1] at this
     simp at this
  | cons x a ih =>
   intro b i j ha hb h
   cases b with
   | nil =>
    cases j with
    | zero=>simp at h
    | succ j =>
     rw [List.replicate_succ] at h
     simp at h
     have:=ha x (by simp)
     rw [h.1] at this
     simp at this
   | cons y b =>
    simp only [List.cons_append,List.cons.injEq] at h
    rw [h.1,ih i j (fun v hv=>ha v (by simp [hv])) (fun v hv=>hb v (by simp [hv])) h.2]
 intro a b ha hb h
 exact go _ _ ha hb h
theorem ZSh:KeyT Tryz.prog 117 kvK okK where
 law:=Go.Maps.Keyed.of_law (deep_law_laid ZU9 (m:=3) (by omega) ZVS (by kernel_rfl) (by rw [Tryz.underlying117]))
 lit:=fun s h=>by
  obtain ⟨d,hd⟩:∃ d,Tryz.prog.types.size=d+2:=⟨Tryz.prog.types.size-2,by have:=ZVS;omega⟩
  obtain ⟨l,hl⟩:=ZVE d h
  refine ⟨.string (keyBytes l),?_⟩
  unfold keyOf
  simp only [Tryz.underlying117]
  have hk:Tryz.prog.keyType 117=true:=by kernel_rfl
  have hf:(kvK s).formed Tryz.prog 117=true:=by
   simp [kvK,Value.formed,Tryz.underlying117,ZOA,Zy,ZEp h.1]
  rw [hk,hf,hd]
  simp only [Bool.and_self,if_true]
  rw [show (kvK s).cells.toList=Zs (ZKv s) from rfl,hl]
  rfl
 inj:=fun x y hx hy h=>by
  unfold kvK at h
  injection h with h
  exact ZRj (fun v hv=>(hx.2 v hv).2) (fun v hv=>(hy.2 v hv).2) (ZJT (List.toArray_inj h))
end
section
open Go.RowKit

theorem ZFt:MapT Tryz.prog 109 50 39 (.slice none 0 0):=⟨Tryz.underlying109,fun w=>by kernel_rfl⟩
abbrev ZP6:=List (Vx × Value × List Int)
abbrev hI (b:Nat) (M:ZP6):HObj:=hM b kvV (fun p:Value × List Int=>p.1) M
def ZDn (M:ZP6):List HObj:=M.map fun p=>Zr p.2.1 3 RI p.2.2
def ZC3 (M:ZP6):List (Vx × List Int):=M.map fun p=>(p.1,p.2.2)
theorem ZMl (M:ZP6):(ZC3 M).map (·.1)=M.map (·.1):=by unfold ZC3;rw [List.map_map];rfl
theorem ZIO {α:Type} (a:α):∀ (l:List α) (q:Nat),q<l.length->(a::l.eraseIdx q).Perm (l.set q a)
 | [],q,h=>by simp at h
 | x::l,0,_=>by simp
 | x::l,q+1,h=>by
  simp only [List.eraseIdx_cons_succ,List.set_cons_succ]
  exact (List.Perm.swap _ _ _).trans (List.Perm.cons _ (ZIO a l q (by simpa using h)))
theorem ZUC {α:Type} (l:List α) (q:Nat) (h:q<l.length):(l[q]::l.eraseIdx q).Perm l:=by
 have:=ZIO l[q] l q h
 rwa [List.set_getElem_self] at this
theorem ZKt {α β:Type} (M:List (α × β)) (q:Nat) (h:q<M.length) (u:β):(M.set q (M[q].1,u)).map (·.1)=M.map (·.1):=by
 rw [List.map_set]
 have:(M.map (·.1))[q]'(by simpa using h)=M[q].1:=by simp
 rw [<- this,List.set_getElem_self]
theorem ZOQ {M:ZP6} (hn:(M.map (·.1)).Nodup) {q:Nat} (h:q<M.length) (v':Value) (i:Int):ZC3 (M.set q (M[q].1,(v',M[q].2.2++[i])))=ZMf (ZC3 M) M[q].1 i:=by
 have hl:q<(ZC3 M).length:=by simpa [ZC3] using h
 have e1:(ZC3 M)[q]=(M[q].1,M[q].2.2):=by simp [ZC3]
 have hn':((ZC3 M).map (·.1)).Nodup:=by rw [ZMl];exact hn
 have h2:=lookM_some hn' hl
 have h3:=ZML hn' (v:=M[q].2.2++[i]) hl
 rw [e1] at h2 h3
 unfold ZMf
 rw [h2]
 show _=ZBr (ZC3 M) M[q].1 (M[q].2.2++[i])
 rw [h3]
 unfold ZC3
 rw [List.map_set]
theorem ZOP {M:ZP6} {v:Vx} (hne:∀ p∈M,p.1≠v) (v':Value) (i:Int):ZC3 (M++[(v,(v',[i]))])=ZMf (ZC3 M) v i:=by
 have hne':∀ p∈ZC3 M,p.1≠v:=fun p hp=>by
  obtain ⟨q,hq,rfl⟩:=List.mem_map.1 hp
  exact hne q hq
 unfold ZMf
 rw [ZFC hne',ZBx hne']
 simp [ZC3]
theorem ZPa (M:ZP6) (q:Nat) (h:q<M.length) (p:Vx × Value × List Int):(Zr p.2.1 3 RI p.2.2::(ZDn M).eraseIdx q).Perm (ZDn (M.set q p)):=by
 have:=ZIO (Zr p.2.1 3 RI p.2.2) (ZDn M) q (by simpa [ZDn] using h)
 have e:ZDn (M.set q p)=(ZDn M).set q (Zr p.2.1 3 RI p.2.2):=by unfold ZDn;rw [List.map_set]
 rw [e];exact this
theorem ZM2 (M:ZP6) (p:Vx × Value × List Int):(Zr p.2.1 3 RI p.2.2::ZDn M).Perm (ZDn (M++[p])):=by
 unfold ZDn
 rw [List.map_append]
 exact (List.perm_append_singleton _ _).symm
theorem ZGX (l:Cx) (hl:l.length≤1000000) (hs:∀ s∈l,∀ v∈s,okV v) (h8:∀ s∈l,s.length≤1000):Fn Tryz.prog 64 [dS ZAe l] (dS (ZHU kvV ZCC) (ZIl l)):=by
 (refine ZH Tryz.func64 rfl rfl ?_;simp only [Tryz.ntmps64,List.length_cons,List.length_nil,Nat.reduceAdd,Nat.reduceSub,List.replicate_succ,List.replicate_zero,List.cons_append,List.nil_append])
 (repeat' (first|(apply WL.opN;exact yF;dsimp only [ZA,z0,z1])|refine WL.nil ?_|refine ZC fun Kx hK=>?_|(refine hK _ _ ?_;clear hK)|refine WC.region ?_ |  (refine WL.makeMap kvV (fun p:Value × List Int=>p.1) fun b=>?_;dsimp only [ZA,z0,z1])|(apply WL.opN;(focus ((first|exact ZBq|fail);all_goals infer_instance));dsimp only [ZA,z0,z1])|refine WC.block ?_))
 (refine WC.loopU (X:=Nat × ZP6) (fun x=>[(11,dI (x.1:Int)),(4,dA),(5,dA),(7,dA),(12,dA),(13,dA),(14,dA),(15,dA),(16,dA),(17,dA),(18,dA),(19,dA),(20,dA),(21,dA),(22,dA),(23,dA),(24,dA),(25,dA),(26,dA),(27,dA),(28,dA),(29,dA),(30,dA),(31,dA)]) (fun x=>hI b x.2::ZDn x.2) (fun x=>l.length-x.1) (fun x=>x.1≤l.length/\(x.2.map (·.1)).Nodup/\(∀ p∈x.2,okV p.1)/\(∀ p∈x.2,p.2.2.length≤2000*x.1)/\ZC3 x.2=ZIl (l.take x.1)) (0,[]) ?start ?frame0 ?objs0 ?round)
 case start=>exact ⟨Nat.zero_le _,by simp,by simp,by simp,rfl⟩
 case frame0=>((try dsimp only [Za,z0,z1]);repeat (first|exact LeF.nil|refine ZF (k:=?_)))
 case objs0=>rfl
 case round =>
  rintro ⟨i,M⟩ ⟨h1,h2,h3,h4,h5⟩
  simp only at h1 h2 h3 h4 h5
  dsimp only [Za,z0,z1]
  ((repeat' (first|(apply WL.opN;exact yF;dsimp only [ZA,z0,z1])|refine WL.nil ?_|refine ZC fun Kx hK=>?_|(refine hK _ _ ?_;clear hK)|(refine Kont.skip ?_;clear hK)|refine WC.region ?_|(apply WL.opN;(focus ((first|exact ZBy|exact ZBq|exact Zg|fail);all_goals infer_instance));dsimp only [ZA,z0,z1])|(apply ZE;(exact oD);all_goals (intro h;try exact xD))|refine WC.skip ?_|refine WC.ret ?_|refine WC.exit ?_|refine WC.block ?_));all_goals (first|refine WC.id ?_|((repeat clear hK);(repeat clear Kx))))
  ·have hm:=List.getElem_mem (show i<l.length by omega)
   have h8m:=h8 _ hm
   (refine WC.loopU (X:=Nat × ZP6) (fun x=>[(18,dI (x.1:Int)),(7,dA),(19,dA),(20,dA),(21,dA),(22,dA),(23,dA),(24,dA),(25,dA),(26,dA),(27,dA),(28,dA),(29,dA),(30,dA)]) (fun x=>hI b x.2::ZDn x.2) (fun x=>l[i].length-x.1) (fun x=>x.1≤l[i].length/\(x.2.map (·.1)).Nodup/\(∀ p∈x.2,okV p.1)/\(∀ p∈x.2,p.2.2.length≤2000*i+x.1)/\ZC3 x.2=ZOo (ZIl (l.take i)) (l[i].take x.1) (i:Int)) (0,M) ?start ?frame0 ?objs0 ?round)
   case start=>exact ⟨Nat.zero_le _,h2,h3,h4,h5⟩
   case frame0=>((try dsimp only [Za,z0,z1]);repeat (first|exact LeF.nil|refine ZF (k:=?_)))
   case objs0=>rfl
   case round =>
    rintro ⟨j,M⟩ ⟨g1,g2,g3,g4,g5⟩
    simp only at g1 g2 g3 g4 g5
    dsimp only [Za,z0,z1]
    ((repeat' (first|(apply WL.opN;exact yF;dsimp only [ZA,z0,z1])|refine WL.nil ?_|refine ZC fun Kx hK=>?_|(refine hK _ _ ?_;clear hK)|(refine Kont.skip ?_;clear hK)|refine WC.region ?_|(apply WL.alloc;(first|exact tzV|exact tzC);(first|exact ZN rfl|exact ZW|exact ZX rfl);(intro _;dsimp only [ZA,z0,z1]))|(apply ZG;(exact tD);rfl;(exact oD);(exact hD);dsimp only [ZA,z0,z1])|(apply WL.opN;(focus ((first|exact ZBy|exact ZCk|exact Zg|exact ZBj|fail);all_goals infer_instance));dsimp only [ZA,z0,z1])|(apply ZE;(exact oD);all_goals (intro h;try exact xD))|refine WC.skip ?_|refine WC.exit ?_|refine WC.block ?_|refine ThenD.n ?_));all_goals (first|refine WL.id ?_|((repeat clear hK);(repeat clear Kx))))
    ·have hjl:j<l[i].length:=by omega
     refine ZTD (zv:=((.slice none 0 0,[]):Value × List Int)) rfl ZFt ZBc (OpD.t rfl) (OpD.t rfl) ⟨fun _ _ _ h=>h⟩ (hs _ hm _ (List.getElem_mem hjl)) g3 (fun q hq hqv=>?_) (fun hne=>?_)
     ·have hq':q<(ZDn M).length:=by unfold ZDn;simpa using hq
      have hrow:(ZDn M)[q]=Zr M[q].2.1 3 RI M[q].2.2:=by simp [ZDn]
      have hlen:=g4 _ (List.getElem_mem hq)
      refine WL.perm (((List.Perm.cons _ (ZUC _ q hq').symm)).trans (List.Perm.swap _ _ _)) ?_
      rw [hrow]
      dsimp only [ZA,z0,z1]
      (repeat' (first|((first|apply WL.appK|apply WL.app1);(exact eD);exact OpD.t rfl;(exact oD);decide;(exact lD);(intro _;dsimp only [ZA,z0,z1]);all_goals (try infer_instance))|(apply WL.opN;(focus ((first|exact ZDl|fail);all_goals infer_instance));dsimp only [ZA,z0,z1])))
      rename_i v'
      refine WL.perm (List.Perm.swap _ _ _) ?_
      refine ZNW (u:=(v',M[q].2.2++[(i:Int)])) (OpD.t rfl) (OpD.t rfl) (OpD.t rfl) ⟨fun _ _ _ h=>h⟩ hq ?_
      refine WL.perm (List.Perm.cons _ (ZPa M q hq (M[q].1,(v',M[q].2.2++[(i:Int)])))) ?_
      dsimp only [ZA]
      ((repeat' (first|(apply WL.opN;exact yF;dsimp only [ZA,z0,z1])|refine WL.nil ?_|(refine hK _ _ ?_;clear hK)|refine WC.region ?_|(apply WL.opN;(focus ((first|exact ZCk|fail);all_goals infer_instance));dsimp only [ZA,z0,z1])|refine ThenD.n ?_));all_goals (first|((repeat clear hK);(repeat clear Kx))))
      (refine ⟨(j+1,M.set q (M[q].1,(v',M[q].2.2++[(i:Int)]))),?_,by first|omega|(simp only;omega),rfl,?_⟩;rotate_left;((try dsimp only [Za,z0,z1]);repeat (first|exact LeF.nil|refine ZF (k:=?_)));(try dsimp only))
      refine ⟨by omega,?_,?_,?_,?_⟩
      ·rw [ZKt];exact g2
      ·intro p hp
       rcases List.mem_or_eq_of_mem_set hp with hp|rfl
       ·exact g3 p hp
       ·exact (show okV M[q].1 from g3 _ (List.getElem_mem hq))
      ·intro p hp
       rcases List.mem_or_eq_of_mem_set hp with hp|rfl
       ·have:=g4 p hp;omega
       ·simp only [List.length_append,List.length_cons,List.length_nil];omega
      ·rw [ZOQ g2 hq,g5,hqv,<- ZJi]
     ·refine ZBU 3 RI ?_
      dsimp only [ZA,z0,z1]
      (repeat' (first|((first|apply WL.appK|apply WL.app1);(exact eD);exact OpD.t rfl;(exact oD);decide;(exact lD);(intro _;dsimp only [ZA,z0,z1]);all_goals (try infer_instance))|(apply WL.opN;(focus ((first|exact ZDl|fail);all_goals infer_instance));dsimp only [ZA,z0,z1])))
      rename_i v'
      refine WL.perm (List.Perm.swap _ _ _) ?_
      have hlen:M.length<(M++[((l[i][j],((.slice none 0 0,[]):Value × List Int)))]).length:=by simp
      refine ZNW (j:=M.length) (u:=(v',[(i:Int)])) (OpD.t rfl) (OpD.t rfl) (OpD.t rfl) ⟨fun _ _ _ h=>h⟩ hlen ?_
      have eset:(M++[((l[i][j],((.slice none 0 0,[]):Value × List Int)))]).set M.length ((M++[((l[i][j],((.slice none 0 0,[]):Value × List Int)))])[M.length].1,(v',[(i:Int)]))=M++[(l[i][j],(v',[(i:Int)]))]:=by simp
      rw [eset]
      refine WL.perm (List.Perm.cons _ (ZM2 M (l[i][j],(v',[(i:Int)])))) ?_
      dsimp only [ZA]
      ((repeat' (first|(apply WL.opN;exact yF;dsimp only [ZA,z0,z1])|refine WL.nil ?_|(refine hK _ _ ?_;clear hK)|refine WC.region ?_|(apply WL.opN;(focus ((first|exact ZCk|fail);all_goals infer_instance));dsimp only [ZA,z0,z1])|refine ThenD.n ?_));all_goals (first|((repeat clear hK);(repeat clear Kx))))
      (refine ⟨(j+1,M++[(l[i][j],(v',[(i:Int)]))]),?_,by first|omega|(simp only;omega),rfl,?_⟩;rotate_left;((try dsimp only [Za,z0,z1]);repeat (first|exact LeF.nil|refine ZF (k:=?_)));(try dsimp only))
      refine ⟨by omega,?_,?_,?_,?_⟩
      ·rw [List.map_append,List.nodup_append]
       refine ⟨g2,by simp,fun a ha c hc=>?_⟩
       have:c=l[i][j]:=by simpa using hc
       subst this
       obtain ⟨p,hp,rfl⟩:=List.mem_map.1 ha
       exact hne p hp
      ·intro p hp
       rcases List.mem_append.1 hp with hp|hp
       ·exact g3 p hp
       ·rw [List.mem_singleton.1 hp];exact hs _ hm _ (List.getElem_mem hjl)
      ·intro p hp
       rcases List.mem_append.1 hp with hp|hp
       ·have:=g4 p hp;omega
       ·rw [List.mem_singleton.1 hp];simp only [List.length_cons,List.length_nil];omega
      ·rw [ZOP hne,g5,<- ZJi]
    ·(refine ⟨(i+1,M),?_,by first|omega|(simp only;omega),rfl,?_⟩;rotate_left;((try dsimp only [Za,z0,z1]);repeat (first|exact LeF.nil|refine ZF (k:=?_)));(try dsimp only))
     refine ⟨by omega,g2,g3,fun p hp=>by have:=g4 p hp;omega,?_⟩
     rw [List.take_of_length_le (show l[i].length≤j by omega)] at g5
     show ZC3 M=_
     rw [g5,<- ZGW (by omega)]
  ·rw [List.take_of_length_le (by omega)] at h5
   rw [<- h5]
   exact ⟨trivial,_,rfl,FinD.map (.head _) fun p hp=>.tail _ (List.mem_map_of_mem (f:=fun p:Vx × Value × List Int=>Zr p.2.1 3 RI p.2.2) hp)⟩
end
section
open Go.RowKit
section
variable {P:Program} {ops:Array Oper} {hp:List HObj} {o:Oper} {fr:List Dat} {d:Dat} {Q:ZAW} {rest:List Oper}
variable {dst:Option Tmp} {ty:TypeId} {ps:String} {af:Array Edge} {g:Option (Nat × Bool)} {e:TypeId} {b:Nat} {T1 T2:TypeId} {v v':Value} {α:Type} {R:Rel α} {_gR:Good R} {xs:List α}
abbrev hC1 (b:Nat) (T:TypeId) (v:Value):HObj:=Zh b T 1 true (dX (.agg #[v]))
theorem ZSO {I:Nat->Prop} {w:World} (h:(hC1 b T2 v).ok I w):w.heap[b]?=some (.cells #[v] T2)/\v.oneCell'=true:=by
 obtain ⟨cs,u,h1,h2,h0,h3,h4,h5⟩:=h
 simp only [if_true] at h4
 cases (h5:u=_)
 injection h4 with h4
 have hcs:cs=[v]:=List.toArray_inj h4.symm
 subst hcs
 exact ⟨h1,h3 v (by simp)⟩
theorem ZIy {x:Operand} (T':TyI P T1 1 false) (hx:OpD fr x (dX (.pointer (some ⟨b,0,none⟩)))) (hm:hC1 b T2 v∈hp):SY P ops hp ⟨dst,.load T1 x,ty,ps,af,g⟩ fr (dX v) :=
 ZAf fun {P0 B w0 w a} hh ho=>by
  have h1:a.eval x = .pointer (some ⟨b,0,none⟩):=hx.get (by simp [Op.operands]) ho
  obtain ⟨c1,c2⟩:=ZSO (hh.ok _ hm)
  have hc:Cells (fun _=>True) w b 0 1 false v:=by
   refine ⟨trivial,[v],rfl,by decide,by simp [c2],fun i c hc=>?_,rfl⟩
   have hi:i=0:=by
    have:=(List.getElem?_eq_some_iff.1 hc).1
    simp at this;exact this
   subst hi
   cases hc
   simp [World.cell?,c1]
  refine ⟨v,w,?_,Ext.refl _,rfl⟩
  unfold execOp
  simp only [h1,Sem.run_bind,ZA3 T' hc,Result.andThen_ok,Sem.run_pure]
theorem ZMd {t:Nat} {x:Operand} (T':TyI P T1 1 false) (hp0:OpD fr (.tmp t) (dX (.pointer (some ⟨b,0,none⟩)))) (hx:OpD fr x (dX v')) (hm:Zr v' e R xs∈hp)
  (h:WL P ops Q rest (ZA fr dst (dX undef)) (hC1 b T2 v'::hp)):WL P ops Q (⟨dst,.store T1 (.tmp t) x,ty,ps,af,none⟩::rest) fr (hC1 b T2 v::hp):=by
 refine WL.of fun P0 B w0 w a hh hf=>?_
 obtain ⟨c1,c2⟩:=ZSO (hh.ok (hC1 b T2 v) (by simp))
 have h1:a.eval x=v':=hx.ev hf
 have h2:a.eval (.tmp t) = .pointer (some ⟨b,0,none⟩):=hp0.ev hf
 have hone:v'.oneCell'=true:=by
  obtain ⟨us,_,⟨_,hv⟩,_⟩:=hh.ok (Zr v' e R xs) (List.mem_cons_of_mem _ hm)
  rcases hv with ⟨hv,_⟩|⟨g,cap,cur,hv,_⟩ <;> (rw [hv];rfl)
 have hr:=ZB1 (u:=v') (cs:=[v]) (cs':=[v']) T'.size c1 rfl rfl (by simp [hone]) (by rw [ZB5 hone])
 have hrun:(execOp a.eval ⟨dst,.store T1 (.tmp t) x,ty,ps,af,none⟩).run P w = .ok .skip (w.setRow b #[v']):=by
  unfold execOp
  simp only [h1,h2,Sem.run_bind,hr,Result.andThen_ok,Sem.run_pure]
 refine wpList_plain rfl fun K hK=>?_
 unfold Oper.wp
 rw [hrun]
 have hgr:w.grownBy (w.setRow b #[v']) (hC1 b T2 v).blk:=ZAM
 have hok:(hC1 b T2 v').ok (fun k=>Imm P0 B (hC1 b T2 v::hp) k/\k<w.heap.size) (w.setRow b #[v']) :=
  ⟨[v'],.agg #[v'],setRow_heap w b _ _ _ _ c1,rfl,by decide,by simp [hone],rfl,rfl⟩
 exact hK _ _ (h.on (hh.write hgr (.inl rfl) hok) (Fr.put (hf.mono fun _ _ hd=>ZY (o':=hC1 b T2 v') hgr (.inl rfl) hd) (d:=dX undef) rfl))
theorem ZB0 {c0:Prop} (hm:Zr v e R xs∈hp) (hc:(∃ a c,v = .slice a xs.length c)->c0) (h:c0->WL P ops Q rest fr hp):WL P ops Q rest fr hp:=WL.of fun _ _ _ _ _ hh hf=>by
 refine (h (hc ?_)).on hh hf
 obtain ⟨us,_,⟨_,hv⟩,_⟩:=hh.ok (Zr v e R xs) hm
 rcases hv with ⟨hv,h0⟩|⟨g,cap,cur,hv,_⟩
 ·exact ⟨_,_,by rw [hv,h0]⟩
 ·exact ⟨_,_,hv⟩
theorem ZRt {I:Nat->Prop} {w:World} {a:Act} (hf:Fr I w a fr) {s:Tmp} (hs:fr[s]?=some (dX v)) (hd:d.rd I w v):Fr I w a (fr.set s d):=by
 refine ⟨hf.defers,by rw [hf.size,List.length_set],fun t' d' hd'=>?_⟩
 by_cases htt:s=t'
 ·subst htt
  rw [List.getElem?_set] at hd'
  simp only [if_true] at hd'
  split at hd'
  ·cases hd'
   have hv:a.tmps.getD s undef=v:=hf.rd s _ hs
   rw [hv];exact hd
  ·cases hd'
 ·rw [List.getElem?_set_ne htt] at hd'
  exact hf.rd t' d' hd'
theorem ZQV {s t:Tmp} (hs:fr[s]?=some (dX v)) (ht:(fr.set s (dS (Arr R) xs))[t]?=some (dX v)) (h:WL P ops Q rest ((fr.set s (dS (Arr R) xs)).set t (dS (Arr R) xs)) hp):WL P ops Q rest fr (Zr v e R xs::hp):=WL.of fun _ _ _ _ _ hh hf =>
 h.on hh.drop (ZRt (ZDH hf hs (d:=dS (Arr R) xs) (ZCn hh)) ht (ZCn hh))
end
end
section
theorem ZHM {a b:List Vx} {p:Bool} {x:Vx}:x∈ZDP a b p↔x∈a/\decide (x∈b)=p:=by unfold ZDP;rw [List.mem_filter];simp
theorem ZFL {a b:List Vx} {p:Bool}:(ZDP a b p).Sublist a:=List.filter_sublist
theorem ZG9 {a b:List Vx} {p:Bool} (h:Asc a):Asc (ZDP a b p):=List.Pairwise.sublist ZFL h
theorem ZMR {a s:List Vx} (ha:Z3 a=0) (hs:s.Sublist a) (hne:s≠[]):Z3 s=0:=by
 obtain ⟨h1,h2,h3,h4⟩:=ZP.1 ha
 refine ZP.2 ⟨fun h=>hne (List.eq_nil_of_length_eq_zero h),Nat.le_trans hs.length_le h2,fun v hv=>h3 v (hs.subset hv),List.Pairwise.sublist hs h4⟩
theorem ZC9 {a:List Vx} (h:Asc a):a.Nodup:=List.Pairwise.imp (fun {x y} hxy e=>by
 subst e
 have:=ZCO.2 (rfl:x=x)
 omega) h
theorem ZVH {s:List Vx} (h:0<s.length):s≠[]:=fun e=>by subst e;simp at h
end
section
theorem ZAw:∀ (k:Nat) (s x:List Vx),x∈Zw k s↔x.Sublist s/\x.length=k
 | 0,s,x=>by
  have:Zw 0 s=[[]]:=by unfold Zw;rfl
  rw [this,List.mem_singleton]
  constructor
  ·rintro rfl;exact ⟨List.nil_sublist _,rfl⟩
  ·rintro ⟨_,h⟩;exact List.eq_nil_of_length_eq_zero h
 | k+1,[],x=>by
  simp only [Zw,List.not_mem_nil,List.sublist_nil,false_iff]
  rintro ⟨rfl,h⟩;simp at h
 | k+1,v::s,x=>by
  unfold Zw
  rw [List.mem_append,List.mem_map,ZAw (k+1) s x]
  constructor
  ·rintro (⟨y,hy,rfl⟩|⟨h1,h2⟩)
   ·obtain ⟨h1,h2⟩:=(ZAw k s y).1 hy
    exact ⟨h1.cons_cons v,by simp [h2]⟩
   ·exact ⟨h1.cons v,h2⟩
  ·rintro ⟨h1,h2⟩
   rcases List.sublist_cons_iff.1 h1 with h|⟨y,rfl,h⟩
   ·exact .inr ⟨h,h2⟩
   ·exact .inl ⟨y,(ZAw k s y).2 ⟨h,by simpa using h2⟩,rfl⟩
theorem ZM8 (s:List Vx):(Zw 0 s).length=1:=by unfold Zw;rfl
theorem ZM7 (k:Nat) (v:Vx) (s:List Vx):(Zw (k+1) (v::s)).length=(Zw k s).length+(Zw (k+1) s).length:=by
 conv=>lhs;unfold Zw
 rw [List.length_append,List.length_map]
theorem ZCY {a s:List Vx} {k:Nat} (hs:Z3 s=0) (hk:0<k) (h:a∈Zw k s):Z3 a=0/\a.Sublist s/\a.length=k:=by
 obtain ⟨h1,h2⟩:=(ZAw _ _ _).1 h
 exact ⟨ZMR hs h1 (ZVH (by omega)),h1,h2⟩
theorem ZGN {s:List Vx} (hs:Z3 s=0) {k:Nat} (h1:0<k) (h2:k≤s.length):ZC0 s k=(Zw k s,0):=by
 unfold ZC0
 rw [if_neg (by simp [hs]),if_neg (by omega)]
 simp
end
section
theorem ZHr:∀ (l:Cx) (p:Option (List Vx)),ZFR p l=0->AscL l/\(∀ u,p=some u->∀ s∈l,ZA7 u s<0)/\∀ s∈l,Z3 s=0
 | [],p,_=>⟨by simp [AscL],by simp,by simp⟩
 | s::l,p,h=>by
  unfold ZFR at h
  by_cases h1:Z3 s≠0
  ·rw [if_pos h1] at h;exact absurd h h1
  rw [if_neg h1] at h
  have key:ZFR (some s) l=0/\∀ u,p=some u->ZA7 u s<0:=by
   cases p with
   | none=>exact ⟨by simpa using h,fun u hu=>by cases hu⟩
   | some u =>
    by_cases h2:0≤ZA7 u s
    ·simp only [h2,decide_true,if_true] at h
     exact absurd h (by decide)
    ·simp only [h2,decide_false,Bool.false_eq_true,if_false] at h
     exact ⟨h,fun u' hu=>by cases hu;omega⟩
  obtain ⟨h3,h4,h5⟩:=ZHr l (some s) key.1
  have h6:=h4 s rfl
  refine ⟨List.pairwise_cons.2 ⟨h6,h3⟩,fun u hu x hx=>?_,fun x hx=>?_⟩
  ·have h7:=key.2 u hu
   rcases List.mem_cons.1 hx with rfl|hx
   ·exact h7
   ·exact ZCs h7 (h6 x hx)
  ·rcases List.mem_cons.1 hx with rfl|hx
   ·omega
   ·exact h5 x hx
theorem ZOD:∀ (l:Cx) (p:Option (List Vx)),AscL l->(∀ u,p=some u->∀ s∈l,ZA7 u s<0)->(∀ s∈l,Z3 s=0)->ZFR p l=0
 | [],p,_,_,_=>rfl
 | s::l,p,ha,hp,hc=>by
  unfold ZFR
  rw [if_neg (by have:=hc s (by simp);omega),if_neg ?_]
  ·unfold AscL at ha
   rw [List.pairwise_cons] at ha
   exact ZOD l (some s) ha.2 (fun u hu x hx=>by cases hu;exact ha.1 x hx) fun x hx=>hc x (by simp [hx])
  ·cases p with
   | none=>simp
   | some u =>
    have:=hp u rfl s (by simp)
    simp only [decide_eq_true_eq];omega
theorem ZOp {a b:List Vx} (ha:Asc a) (hb:Asc b) (h:ZA1 a b=true) (hne:a≠b):a.length<b.length:=by
 have hsub:∀ x∈a,x∈b:=fun x hx=>by
  have:=List.all_eq_true.1 h x hx
  simpa using this
 have e:ZDP b a true=a:=ZCq (ZG9 hb) ha fun x=>by
  rw [ZHM]
  constructor
  ·intro ⟨_,h⟩;simpa using h
  ·intro hx;exact ⟨hsub x hx,by simpa using hx⟩
 have hs:a.Sublist b:=by rw [<- e];exact ZFL
 rcases Nat.lt_or_ge a.length b.length with h1|h1
 ·exact h1
 ·exact absurd (hs.eq_of_length_le h1) hne
theorem ZGn {l:Cx} (ha:AscL l) (hc:∀ s∈l,Z3 s=0):ZC2 l=l.any fun s=>ZAY l s:=by
 have asc:∀ s∈l,Asc s:=fun s hs=>(ZP.1 (hc s hs)).2.2.2
 rw [Bool.eq_iff_iff]
 unfold ZC2
 simp only [List.any_eq_true,List.mem_range,Bool.and_eq_true,decide_eq_true_eq,ZAZ]
 constructor
 ·rintro ⟨i,hi,k,hk,hne,h⟩
  rw [ZB7 hi,ZB7 hk] at h
  have hmi:=List.getElem_mem hi
  have hmk:=List.getElem_mem hk
  refine ⟨l[i],hmi,l[k],hmk,ZOp (asc _ hmi) (asc _ hmk) h fun e=>?_,h⟩
  have hp:=List.pairwise_iff_getElem.1 ha.nodup
  rcases Nat.lt_or_gt_of_ne hne with h1|h1
  ·exact hp i k hi hk h1 e
  ·exact hp k i hk hi h1 e.symm
 ·rintro ⟨s,hs,x,hx,hlt,h⟩
  obtain ⟨i,hi,rfl⟩:=List.getElem_of_mem hs
  obtain ⟨k,hk,rfl⟩:=List.getElem_of_mem hx
  exact ⟨i,hi,k,hk,fun e=>by subst e;omega,by rw [ZB7 hi,ZB7 hk];exact h⟩
def GoodX (l:Cx):Prop:=l.length≤4096/\AscL l/\(∀ s∈l,Z3 s=0)/\∀ s∈l,ZAY l s=false
theorem Z4 {l:Cx}:ZAr l=0↔GoodX l:=by
 unfold GoodX
 constructor
 ·intro h
  obtain ⟨h1,h2,h3,h4⟩:=ZOC h
  obtain ⟨h5,_,h6⟩:=ZHr l none h2
  rw [ZGn h5 h6,List.any_eq_false] at h3
  exact ⟨h1,h5,h6,fun s hs=>by simpa using h3 s hs⟩
 ·rintro ⟨h1,h2,h3,h4⟩
  unfold ZAr
  have h5:ZFR none l=0:=ZOD l none h2 (fun u hu=>by cases hu) h3
  have h6:ZC2 l=false:=by
   rw [ZGn h2 h3,List.any_eq_false]
   exact fun s hs=>by simp [h4 s hs]
  rw [if_neg (by omega),if_neg (by omega),if_neg (by simp [h6])]
theorem ZH6 {l:Cx} (hc:∀ s∈l,s.length≠0->Z3 s=0) (hl:(ZCv l).length≤4096):GoodX (ZCv l):=by
 refine ⟨hl,ZFu l,fun s hs=>?_,fun s hs=>?_⟩
 ·obtain ⟨h1,h2⟩:=ZCL.1 hs
  unfold ZPt at h2
  simp only [Bool.and_eq_true,decide_eq_true_eq] at h2
  exact hc s h1 (by omega)
 ·obtain ⟨h1,h2⟩:=ZCL.1 hs
  unfold ZPt at h2
  simp only [Bool.and_eq_true,decide_eq_true_eq,Bool.not_eq_true'] at h2
  rw [Bool.eq_false_iff]
  intro hcv
  obtain ⟨x,hx,hr⟩:=ZAZ.1 hcv
  have:=ZAZ.2 ⟨x,(ZCL.1 hx).1,hr⟩
  rw [h2.2] at this
  cases this
theorem ZBF:∀ {l:Cx} {k:Nat} {x:List Vx},x∈ZBB l k↔∃ f∈l,x∈Zw k f:=by
 have go:∀ (l out:Cx) (k:Nat) (x:List Vx),x∈l.foldl (fun out f=>if f.length<k then out else (Zw k f).foldl ZFy out) out↔x∈out\/∃ f∈l,x∈Zw k f:=by
  intro l
  induction l with
  | nil=>intro out k x;simp
  | cons f l ih =>
   intro out k x
   rw [List.foldl_cons,ih]
   have e:x∈(if f.length<k then out else (Zw k f).foldl ZFy out)↔x∈out\/x∈Zw k f:=by
    split
    ·rename_i h;rw [ZA4 k f h];simp
    ·rw [ZD3];exact or_comm
   rw [e]
   constructor
   ·rintro ((h|h)|⟨g,hg,h⟩)
    ·exact .inl h
    ·exact .inr ⟨f,by simp,h⟩
    ·exact .inr ⟨g,by simp [hg],h⟩
   ·rintro (h|⟨g,hg,h⟩)
    ·exact .inl (.inl h)
    ·rcases List.mem_cons.1 hg with rfl|hg
     ·exact .inl (.inr h)
     ·exact .inr ⟨g,hg,h⟩
 intro l k x
 unfold ZBB
 rw [go];simp
theorem ZEL (l:Cx) (k:Nat):AscL (ZBB l k):=by
 have go:∀ (l out:Cx),AscL out->AscL (l.foldl (fun out f=>if f.length<k then out else (Zw k f).foldl ZFy out) out):=by
  intro l
  induction l with
  | nil=>intro out h;exact h
  | cons f l ih =>
   intro out h
   rw [List.foldl_cons]
   refine ih _ ?_
   split
   ·exact h
   ·exact ZD2 h
 exact go l [] (by simp [AscL])
def ZIm (out:Cx) (l:Cx):Cx:=l.foldl (fun out f=>if f∈out then out else out++[f]) out
def ZKJ (l:Cx) (k:Nat):Cx:=l.foldl (fun out f=>if f.length<k then out else ZIm out (Zw k f)) []
theorem ZJs {out l:Cx} {j:Nat} (h:j<l.length):ZIm out (l.take (j+1))=if l[j]∈ZIm out (l.take j) then ZIm out (l.take j) else ZIm out (l.take j)++[l[j]]:=by
 unfold ZIm;rw [ZZ h,List.foldl_append];rfl
theorem ZII:∀ {l out:Cx} {x:List Vx},x∈ZIm out l↔x∈out\/x∈l
 | [],out,x=>by simp [ZIm]
 | f::l,out,x=>by
  show x∈ZIm (if f∈out then out else out++[f]) l↔_
  rw [ZII (l:=l)]
  split
  ·rename_i h
   rw [List.mem_cons]
   constructor
   ·rintro (h1|h1)
    ·exact .inl h1
    ·exact .inr (.inr h1)
   ·rintro (h1|h1|h1)
    ·exact .inl h1
    ·rw [h1];exact .inl h
    ·exact .inr h1
  ·rw [List.mem_append,List.mem_singleton,List.mem_cons,or_assoc]
theorem ZFG:∀ {l out:Cx},out.Nodup->(ZIm out l).Nodup
 | [],out,h=>h
 | f::l,out,h=>by
  show (ZIm (if f∈out then out else out++[f]) l).Nodup
  refine ZFG (l:=l) ?_
  split
  ·exact h
  ·rename_i hf
   rw [List.nodup_append]
   exact ⟨h,by simp,fun a ha b hb=>by rw [List.mem_singleton.1 hb];exact fun e=>hf (e ▸ ha)⟩
theorem ZRa (l out:Cx):out.length≤(ZIm out l).length/\(ZIm out l).length≤out.length+l.length:=by
 induction l generalizing out with
 | nil=>simp [ZIm]
 | cons f l ih =>
  have h:=ih (if f∈out then out else out++[f])
  have e:ZIm out (f::l)=ZIm (if f∈out then out else out++[f]) l:=rfl
  rw [e]
  split at h <;> (simp only [List.length_append,List.length_cons,List.length_nil] at h ⊢;rename_i hf;first|rw [if_pos hf]|rw [if_neg hf]) <;> omega
theorem ZGM {l:Cx} {k i:Nat} (h:i<l.length):ZKJ (l.take (i+1)) k=if l[i].length<k then ZKJ (l.take i) k else ZIm (ZKJ (l.take i) k) (Zw k l[i]):=by
 unfold ZKJ;rw [ZZ h,List.foldl_append];rfl
theorem ZDd (l:Cx) (k:Nat):∀ n,n≤l.length->(ZKJ (l.take n) k).Nodup/\∀ x,x∈ZKJ (l.take n) k↔x∈ZBB (l.take n) k
 | 0,_=>by simp [ZKJ,ZBB]
 | n+1,hn=>by
  obtain ⟨h1,h2⟩:=ZDd l k n (by omega)
  have h3:∀ x,x∈ZBB (l.take (n+1)) k↔x∈ZBB (l.take n) k\/x∈Zw k l[n]:=fun x=>by
   rw [ZBF,ZBF,ZZ (by omega)]
   constructor
   ·rintro ⟨f,hf,hx⟩
    rcases List.mem_append.1 hf with hf|hf
    ·exact .inl ⟨f,hf,hx⟩
    ·rw [List.mem_singleton.1 hf] at hx;exact .inr hx
   ·rintro (⟨f,hf,hx⟩|hx)
    ·exact ⟨f,List.mem_append.2 (.inl hf),hx⟩
    ·exact ⟨l[n],List.mem_append.2 (.inr (List.mem_singleton.2 rfl)),hx⟩
  rw [ZGM (by omega)]
  split
  ·rename_i hs
   refine ⟨h1,fun x=>?_⟩
   rw [h3,h2,ZA4 k _ hs];simp
  ·refine ⟨ZFG h1,fun x=>?_⟩
   rw [h3,ZII,h2]
theorem ZQ5 (l:Cx) (k n:Nat) (hn:n≤l.length):(ZKJ (l.take n) k).length=(ZBB (l.take n) k).length:=by
 obtain ⟨h1,h2⟩:=ZDd l k n hn
 exact ((List.perm_ext_iff_of_nodup h1 (ZEL _ k).nodup).2 h2).length_eq
theorem ZOb {l:Cx} {k n:Nat} (hn:n≤l.length):(ZKJ (l.take n) k).length≤(ZBB l k).length:=by
 obtain ⟨h1,h2⟩:=ZDd l k n hn
 have hsub:∀ x∈ZKJ (l.take n) k,x∈ZBB l k:=fun x hx=>by
  obtain ⟨f,hf,hx⟩:=ZBF.1 ((h2 x).1 hx)
  exact ZBF.2 ⟨f,List.mem_of_mem_take hf,hx⟩
 have hp:(ZKJ (l.take n) k).Perm ((ZBB l k).filter fun x=>decide (x∈ZKJ (l.take n) k)) :=
  (List.perm_ext_iff_of_nodup h1 ((ZEL l k).nodup.filter _)).2 fun x=>by
   rw [List.mem_filter,decide_eq_true_eq]
   exact ⟨fun hx=>⟨hsub x hx,hx⟩,fun hx=>hx.2⟩
 rw [hp.length_eq]
 exact List.length_filter_le _ _
theorem ZM4 {l ys:Cx} {k:Nat} (hp:ys.Perm (ZKJ l k)) (hs:ZTC ys):ys=ZBB l k:=by
 have h:=ZDd l k l.length (Nat.le_refl _)
 rw [List.take_length] at h
 refine ZHj ?_ (ZEL l k) fun x=>by rw [hp.mem_iff];exact h.2 x
 have hn:ys.Nodup:=hp.nodup_iff.2 h.1
 refine List.Pairwise.imp₂ (fun a b h1 h2=>?_) hs hn
 rcases ZE6 a b with h3|h3|h3
 ·exact h3
 ·exact absurd h3 h1
 ·exact absurd h3 h2
end
end Go.Proofs.YtekiljakcngcoaaGreatDoor
