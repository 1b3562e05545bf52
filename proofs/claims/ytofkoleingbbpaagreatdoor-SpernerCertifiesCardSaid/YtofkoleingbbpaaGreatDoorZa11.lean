/- Part 11 of the proof. -/
import Derived.Test.YtofkoleingbbpaaGreatDoorZa10
set_option linter.all false
set_option maxRecDepth 100000
set_option maxHeartbeats 64000000
namespace Go.Proofs.YtofkoleingbbpaaGreatDoor
section
open Go.RowKit
theorem ZVI:laidOutB Tryz.prog=true:=by kernel_rfl
def ZUh (n:Int):Prop:=-9223372036854775808≤n/\n≤9223372036854775807
theorem wf64 {n:Int} (h:ZUh n):(Lit.int .i64 n).wf=true:=by
 obtain⟨h1,h2⟩:=h;show(decide (IntKind.i64.min≤n) && decide (n≤IntKind.i64.max))=true;have e1:IntKind.i64.min = -9223372036854775808:=by decide
 have e2:IntKind.i64.max=9223372036854775807:=by decide
 rw[e1,e2,decide_eq_true h1,decide_eq_true h2];rfl
def kvV (x:Int × Int):Value:=.agg #[.int .i64 x.1,.int .i64 x.2]
def okV (x:Int × Int):Prop:=ZUh x.1/\ZUh x.2
theorem ZVW:77<Tryz.prog.types.size:=of_decide_eq_true (by kernel_rfl)
theorem ZLP:Tryz.prog.cellsOf 77=2:=by kernel_rfl
theorem ZTc:Tryz.prog.cellsOf 3=1:=by kernel_rfl
theorem ZS2 (d:Nat) {x:Int × Int} (h:okV x):Tryz.prog.keyLits (d+2) 77 [.int .i64 x.1,.int .i64 x.2]=some [.int .i64 x.1,.int .i64 x.2]:=by
 obtain⟨h1,h2⟩:=h;unfold Program.keyLits;simp only[Tryz.underlying77,ZLP];simp[ZTc,Program.keyLits,Tryz.underlying3,wf64 h1,wf64 h2]
theorem ZSy:KeyT Tryz.prog 77 kvV okV where
 law:=Go.Maps.Keyed.of_law (deep_law_laid ZVI (m:=2) (by omega) ZVW (by kernel_rfl) (by rw[Tryz.underlying77]))
 lit:=fun x h=>by
  refine⟨.string (keyBytes [.int .i64 x.1,.int .i64 x.2]),?_⟩;unfold keyOf;simp only[Tryz.underlying77];have hk:Tryz.prog.keyType 77=true:=by kernel_rfl
  have hf:(kvV x).formed Tryz.prog 77=true:=by simp[kvV,Value.formed,Tryz.underlying77,ZLP]
  obtain⟨d,hd⟩:∃d,Tryz.prog.types.size=d+1:=⟨Tryz.prog.types.size-1,by have:=ZVW;omega⟩;rw[hk,hf,hd];have:=ZS2 d h;simp only[Bool.and_self,if_true];rw[show(kvV x).cells.toList=[.int .i64 x.1,.int .i64 x.2] from rfl,this];rfl
 inj:=fun x y _ _ h=>by
  unfold kvV at h;simp at h;exact Prod.ext h.1 h.2
def ZLg (s:List Vx):List Vx:=s++List.replicate (8-s.length) (-1,0)
def kvK (s:List Vx):Value:=.agg (Zs (ZLg s)).toArray
def okK (s:List Vx):Prop:=s.length≤8/\∀v∈s,okV v/\0≤v.1
theorem ZVV:202<Tryz.prog.types.size:=of_decide_eq_true (by kernel_rfl)
theorem ZOy:Tryz.prog.cellsOf 202=16:=by kernel_rfl
theorem ZE6 {s:List Vx} (h:s.length≤8):(ZLg s).length=8:=by unfold ZLg;simp;omega
theorem ZUA {s:List Vx} (h:okK s):∀v∈ZLg s,okV v:=fun v hv=>by
 unfold ZLg at hv;rcases List.mem_append.1 hv with hv|hv
 ·exact(h.2 v hv).1
 ·rw[(List.mem_replicate.1 hv).2];exact⟨by unfold ZUh;omega,by unfold ZUh;omega⟩
theorem ZMa {α β:Type} {f:α->Option β} {g:α->β}:∀(L:List α),(∀i∈L,f i=some (g i))->L.mapM f=some (L.map g)
 | [],_=>rfl
 | a::L,h=>by
  rw[List.mapM_cons,h a (by simp),ZMa L fun i hi=>h i (by simp[hi])];rfl
theorem ZMO:∀(l:List Vx) (i:Nat) (h:i<l.length),((Zs l).drop (i*2)).take 2=[.int .i64 l[i].1,.int .i64 l[i].2]
 | [],i,h=>by simp at h
 | x::l,0,_=>by simp[ZA1]
 | x::l,i+1,h=>by
  rw[ZA1,show(i+1)*2=i*2+2 by omega];simpa using ZMO l i (by simpa using h)
theorem ZVK (d:Nat) {s:List Vx} (h:okK s):∃l,Tryz.prog.keyLits (d+3) 202 (Zs (ZLg s))=some l:=by
 have hl:(Zs (ZLg s)).length=16:=by rw[Zz,ZE6 h.1]
 unfold Program.keyLits;simp only[Tryz.underlying202,ZOy,hl];simp only[if_true,ZLP];rw[ZMa (g:=fun i=>[Lit.int .i64 ((ZLg s).getD i (0,0)).1,Lit.int .i64 ((ZLg s).getD i (0,0)).2]) _ fun i hi=>?_]
 ·exact⟨_,rfl⟩
 ·have hi':i<(ZLg s).length:=by rw[ZE6 h.1];exact List.mem_range.1 hi
  rw[ZMO _ i hi',ZS2 d (ZUA h _ (List.getElem_mem hi'))];simp[List.getD,hi']
theorem ZKA:∀ {a b:List Vx},Zs a=Zs b->a=b
 | [],[],_=>rfl
 | [],y::b,h=>by simp[ZA1,ZCL] at h
 | x::a,[],h=>by simp[ZA1,ZCL] at h
 | x::a,y::b,h=>by
  rw[ZA1,ZA1] at h;simp at h;rw[Prod.ext h.1 h.2.1,ZKA h.2.2]
theorem ZR6:∀ {a b:List Vx},(∀v∈a,0≤v.1)->(∀v∈b,0≤v.1)->ZLg a=ZLg b->a=b:=by
 have go:∀ {a b:List Vx} (i j:Nat),(∀v∈a,0≤v.1)->(∀v∈b,0≤v.1)->a++List.replicate i ((-1,0):Vx)=b++List.replicate j (-1,0)->a=b:=by
  intro a;induction a with
  | nil =>
   intro b i j _ hb h;cases b with
   | nil=>rfl
   | cons y b =>
    cases i with
    | zero=>simp at h
    | succ i =>
     rw[List.replicate_succ] at h;simp at h;have:=hb y (by simp);rw[<- h.1] at this;simp at this
  | cons x a ih =>
   intro b i j ha hb h;cases b with
   | nil =>
    cases j with
    | zero=>simp at h
    | succ j =>
     rw[List.replicate_succ] at h;simp at h;have:=ha x (by simp);rw[h.1] at this;simp at this
   | cons y b =>
    simp only[List.cons_append,List.cons.injEq] at h;rw[h.1,ih i j (fun v hv=>ha v (by simp[hv])) (fun v hv=>hb v (by simp[hv])) h.2]
 intro a b ha hb h;exact go _ _ ha hb h
theorem ZSx:KeyT Tryz.prog 202 kvK okK where
 law:=Go.Maps.Keyed.of_law (deep_law_laid ZVI (m:=3) (by omega) ZVV (by kernel_rfl) (by rw[Tryz.underlying202]))
 lit:=fun s h=>by
  obtain⟨d,hd⟩:∃d,Tryz.prog.types.size=d+2:=⟨Tryz.prog.types.size-2,by have:=ZVV;omega⟩;obtain⟨l,hl⟩:=ZVK d h;refine⟨.string (keyBytes l),?_⟩;unfold keyOf;simp only[Tryz.underlying202];have hk:Tryz.prog.keyType 202=true:=by kernel_rfl
  have hf:(kvK s).formed Tryz.prog 202=true:=by
   simp[kvK,Value.formed,Tryz.underlying202,ZOy,Zz,ZE6 h.1]
  rw[hk,hf,hd];simp only[Bool.and_self,if_true];rw[show(kvK s).cells.toList=Zs (ZLg s) from rfl,hl];rfl
 inj:=fun x y hx hy h=>by
  unfold kvK at h;injection h with h;exact ZR6 (fun v hv=>(hx.2 v hv).2) (fun v hv=>(hy.2 v hv).2) (ZKA (List.toArray_inj h))
end
section
open Go.RowKit

theorem ZMb:MapT Tryz.prog 128 77 23 (.slice none 0 0):=⟨Tryz.underlying128,fun w=>by kernel_rfl⟩
abbrev ZQp:=List (Vx × Value × List Int)
abbrev hI (b:Nat) (M:ZQp):HObj:=hM b kvV (fun p:Value × List Int=>p.1) M
def ZET (M:ZQp):List HObj:=M.map fun p=>Zk p.2.1 3 RI p.2.2
def ZDi (M:ZQp):List (Vx × List Int):=M.map fun p=>(p.1,p.2.2)
theorem ZNJ (M:ZQp):(ZDi M).map (·.1)=M.map (·.1):=by unfold ZDi;rw[List.map_map];rfl
theorem ZGT {α:Type} (a:α):∀(l:List α) (q:Nat),q<l.length->(a::l.eraseIdx q).Perm (l.set q a)
 | [],q,h=>by simp at h
 | x::l,0,_=>by simp
 | x::l,q+1,h=>by
  simp only[List.eraseIdx_cons_succ,List.set_cons_succ];exact(List.Perm.swap _ _ _).trans (List.Perm.cons _ (ZGT a l q (by simpa using h)))
theorem ZUD {α:Type} (l:List α) (q:Nat) (h:q<l.length):(l[q]::l.eraseIdx q).Perm l:=by
 have:=ZGT l[q] l q h;rwa[List.set_getElem_self] at this
theorem ZHF {α β:Type} (M:List (α × β)) (q:Nat) (h:q<M.length) (u:β):(M.set q (M[q].1,u)).map (·.1)=M.map (·.1):=by
 rw[List.map_set];have:(M.map (·.1))[q]'(by simpa using h)=M[q].1:=by simp
 rw[<- this,List.set_getElem_self]
theorem ZPD {M:ZQp} (hn:(M.map (·.1)).Nodup) {q:Nat} (h:q<M.length) (v':Value) (i:Int):ZDi (M.set q (M[q].1,(v',M[q].2.2++[i])))=ZM8 (ZDi M) M[q].1 i:=by
 have hl:q<(ZDi M).length:=by simpa[ZDi] using h
 have e1:(ZDi M)[q]=(M[q].1,M[q].2.2):=by simp[ZDi]
 have hn':((ZDi M).map (·.1)).Nodup:=by rw[ZNJ];exact hn
 have h2:=ZDB hn' hl;have h3:=ZFA hn' (v:=M[q].2.2++[i]) hl;rw[e1] at h2 h3;unfold ZM8;rw[h2];show _=ZCH (ZDi M) M[q].1 (M[q].2.2++[i]);rw[h3];unfold ZDi;rw[List.map_set]
theorem ZPC {M:ZQp} {v:Vx} (hne:∀p∈M,p.1≠v) (v':Value) (i:Int):ZDi (M++[(v,(v',[i]))])=ZM8 (ZDi M) v i:=by
 have hne':∀p∈ZDi M,p.1≠v:=fun p hp=>by
  obtain⟨q,hq,rfl⟩:=List.mem_map.1 hp;exact hne q hq
 unfold ZM8;rw[ZCF hne',ZDa hne'];simp[ZDi]
theorem ZQG (M:ZQp) (q:Nat) (h:q<M.length) (p:Vx × Value × List Int):(Zk p.2.1 3 RI p.2.2::(ZET M).eraseIdx q).Perm (ZET (M.set q p)):=by
 have:=ZGT (Zk p.2.1 3 RI p.2.2) (ZET M) q (by simpa[ZET] using h);have e:ZET (M.set q p)=(ZET M).set q (Zk p.2.1 3 RI p.2.2):=by unfold ZET;rw[List.map_set]
 rw[e];exact this
theorem ZNj (M:ZQp) (p:Vx × Value × List Int):(Zk p.2.1 3 RI p.2.2::ZET M).Perm (ZET (M++[p])):=by
 unfold ZET;rw[List.map_append];exact(List.perm_append_singleton _ _).symm
theorem ZLZ (l:Cx) (hl:l.length≤1000000) (hs:∀s∈l,∀v∈s,okV v) (h8:∀s∈l,s.length≤1000):Fn Tryz.prog 81 [dS Zh l] (dS (ZF4 kvV ZAQ) (ZJR l)):=by
 refine zE Tryz.func81 33 ?_;(repeat' (first|(apply zV;exact yF;exact zQ)|refine ZVj ?_|refine ZA fun Kx hK=>?_|(refine hK _ _ ?_;clear hK)|refine ZVk ?_ |  (refine ZWm kvV (fun p:Value × List Int=>p.1) fun b=>?_;dsimp only[ZC,z0,z1])|(apply zV;(focus ((first|exact ZA3);all_goals infer_instance));exact zQ)|refine ZVp ?_))
 (refine ZV4 (X:=Nat × ZQp) (fun x=>[(11,dI (x.1:Int)),(4,dA),(5,dA),(7,dA),(12,dA),(13,dA),(14,dA),(15,dA),(16,dA),(17,dA),(18,dA),(19,dA),(20,dA),(21,dA),(22,dA),(23,dA),(24,dA),(25,dA),(26,dA),(27,dA),(28,dA),(29,dA),(30,dA),(31,dA)]) (fun x=>hI b x.2::ZET x.2) (fun x=>l.length-x.1) (fun x=>x.1≤l.length/\(x.2.map (·.1)).Nodup/\(∀p∈x.2,okV p.1)/\(∀p∈x.2,p.2.2.length≤2000*x.1)/\ZDi x.2=ZJR (l.take x.1)) (0,[]) ?start ?frame0 ?objs0 ?round)
 case start=>exact⟨Nat.zero_le _,by simp,by simp,by simp,rfl⟩
 case frame0=>exact zFr
 case objs0=>rfl
 case round =>
  rintro⟨i,M⟩ ⟨h1,h2,h3,h4,h5⟩;simp only at h1 h2 h3 h4 h5;dsimp only[ZH,z0,z1];((repeat' (first|refine zS ?_|refine ZA fun Kx hK=>?_|(refine hK _ _ ?_;clear hK)|(refine ZV0 ?_;clear hK)|(apply zV;(focus ((first|exact ZBF|exact ZA3|exact ZS);all_goals infer_instance));exact zQ)|(apply ZB;exact oD;all_goals (intro h;try exact xD))|refine ZVr ?_|refine ZVs ?_|refine ZV1 ?_|refine ZVp ?_));all_goals (first|refine WC.id ?_|((repeat clear hK);(repeat clear Kx))))
  ·have hm:=List.getElem_mem (show i<l.length by omega);have h8m:=h8 _ hm;(refine ZV4 (X:=Nat × ZQp) (fun x=>[(18,dI (x.1:Int)),(7,dA),(19,dA),(20,dA),(21,dA),(22,dA),(23,dA),(24,dA),(25,dA),(26,dA),(27,dA),(28,dA),(29,dA),(30,dA)]) (fun x=>hI b x.2::ZET x.2) (fun x=>l[i].length-x.1) (fun x=>x.1≤l[i].length/\(x.2.map (·.1)).Nodup/\(∀p∈x.2,okV p.1)/\(∀p∈x.2,p.2.2.length≤2000*i+x.1)/\ZDi x.2=ZPZ (ZJR (l.take i)) (l[i].take x.1) (i:Int)) (0,M) ?start ?frame0 ?objs0 ?round)
   case start=>exact⟨Nat.zero_le _,h2,h3,h4,h5⟩
   case frame0=>exact zFr
   case objs0=>rfl
   case round =>
    rintro⟨j,M⟩ ⟨g1,g2,g3,g4,g5⟩;simp only at g1 g2 g3 g4 g5;dsimp only[ZH,z0,z1];((repeat' (first|refine zS ?_|refine ZA fun Kx hK=>?_|(refine hK _ _ ?_;clear hK)|(refine ZV0 ?_;clear hK)|(apply ZWF;(first|exact tzV|exact tzC);(first|exact Z0 rfl|exact ZAw|exact shape_C0 rfl);(intro _;dsimp only[ZC,z0,z1]))|(apply ZR;exact tD;rfl;exact oD;exact hD;dsimp only[ZC,z0,z1])|(apply zV;(focus ((first|exact ZBF|exact ZBg|exact ZS|exact ZBQ);all_goals infer_instance));exact zQ)|(apply ZB;exact oD;all_goals (intro h;try exact xD))|refine ZVr ?_|refine ZV1 ?_|refine ZVp ?_|refine ZVx ?_));all_goals (first|refine WL.id ?_|((repeat clear hK);(repeat clear Kx))))
    ·have hjl:j<l[i].length:=by omega
     refine ZTV (zv:=((.slice none 0 0,[]):Value × List Int)) rfl ZMb ZSy (ZVh rfl) (ZVh rfl) ⟨fun _ _ _ h=>h⟩ (hs _ hm _ (List.getElem_mem hjl)) g3 (fun q hq hqv=>?_) (fun hne=>?_)
     ·have hq':q<(ZET M).length:=by unfold ZET;simpa using hq
      have hrow:(ZET M)[q]=Zk M[q].2.1 3 RI M[q].2.2:=by simp[ZET]
      have hlen:=g4 _ (List.getElem_mem hq);refine ZWP (((List.Perm.cons _ (ZUD _ q hq').symm)).trans (List.Perm.swap _ _ _)) ?_;rw[hrow];dsimp only[ZC,z0,z1];(repeat' (first|((first|apply ZWW|apply ZWX);exact eD;exact ZVh rfl;exact oD;decide;exact lD;(intro _;dsimp only[ZC,z0,z1]);all_goals (try infer_instance))|(apply zV;(focus ((first|exact ZEM);all_goals infer_instance));exact zQ)))
      rename_i v';refine ZWP (List.Perm.swap _ _ _) ?_;refine ZOY (u:=(v',M[q].2.2++[(i:Int)])) (ZVh rfl) (ZVh rfl) (ZVh rfl) ⟨fun _ _ _ h=>h⟩ hq ?_;refine ZWP (List.Perm.cons _ (ZQG M q hq (M[q].1,(v',M[q].2.2++[(i:Int)])))) ?_;dsimp only[ZC];((repeat' (first|refine zS ?_|(refine hK _ _ ?_;clear hK)|(apply zV;(focus ((first|exact ZBg);all_goals infer_instance));exact zQ)|refine ZVx ?_));all_goals ((repeat clear hK);repeat clear Kx))
      (refine zNx (j+1,M.set q (M[q].1,(v',M[q].2.2++[(i:Int)]))) ?_;(try dsimp only))
      refine⟨by omega,?_,?_,?_,?_⟩
      ·rw[ZHF];exact g2
      ·intro p hp;rcases List.mem_or_eq_of_mem_set hp with hp|rfl
       ·exact g3 p hp
       ·exact(show okV M[q].1 from g3 _ (List.getElem_mem hq))
      ·intro p hp;rcases List.mem_or_eq_of_mem_set hp with hp|rfl
       ·have:=g4 p hp;omega
       ·simp only[List.length_append,List.length_cons,List.length_nil];omega
      ·rw[ZPD g2 hq,g5,hqv,<- ZKL]
     ·refine ZEt 3 RI ?_;dsimp only[ZC,z0,z1];(repeat' (first|((first|apply ZWW|apply ZWX);exact eD;exact ZVh rfl;exact oD;decide;exact lD;(intro _;dsimp only[ZC,z0,z1]);all_goals (try infer_instance))|(apply zV;(focus ((first|exact ZEM);all_goals infer_instance));exact zQ)))
      rename_i v';refine ZWP (List.Perm.swap _ _ _) ?_;have hlen:M.length<(M++[((l[i][j],((.slice none 0 0,[]):Value × List Int)))]).length:=by simp
      refine ZOY (j:=M.length) (u:=(v',[(i:Int)])) (ZVh rfl) (ZVh rfl) (ZVh rfl) ⟨fun _ _ _ h=>h⟩ hlen ?_;have eset:(M++[((l[i][j],((.slice none 0 0,[]):Value × List Int)))]).set M.length ((M++[((l[i][j],((.slice none 0 0,[]):Value × List Int)))])[M.length].1,(v',[(i:Int)]))=M++[(l[i][j],(v',[(i:Int)]))]:=by simp
      rw[eset];refine ZWP (List.Perm.cons _ (ZNj M (l[i][j],(v',[(i:Int)])))) ?_;dsimp only[ZC];((repeat' (first|refine zS ?_|(refine hK _ _ ?_;clear hK)|(apply zV;(focus ((first|exact ZBg);all_goals infer_instance));exact zQ)|refine ZVx ?_));all_goals ((repeat clear hK);repeat clear Kx))
      (refine zNx (j+1,M++[(l[i][j],(v',[(i:Int)]))]) ?_;(try dsimp only))
      refine⟨by omega,?_,?_,?_,?_⟩
      ·rw[List.map_append,List.nodup_append];refine⟨g2,by simp,fun a ha c hc=>?_⟩;have:c=l[i][j]:=by simpa using hc
       subst this;obtain⟨p,hp,rfl⟩:=List.mem_map.1 ha;exact hne p hp
      ·intro p hp;rcases List.mem_append.1 hp with hp|hp
       ·exact g3 p hp
       ·rw[List.mem_singleton.1 hp];exact hs _ hm _ (List.getElem_mem hjl)
      ·intro p hp;rcases List.mem_append.1 hp with hp|hp
       ·have:=g4 p hp;omega
       ·rw[List.mem_singleton.1 hp];simp only[List.length_cons,List.length_nil];omega
      ·rw[ZPC hne,g5,<- ZKL]
    ·(refine zNx (i+1,M) ?_;(try dsimp only))
     refine⟨by omega,g2,g3,fun p hp=>by have:=g4 p hp;omega,?_⟩;rw[List.take_of_length_le (show l[i].length≤j by omega)] at g5;show ZDi M=_;rw[g5,<- ZHB (by omega)]
  ·rw[List.take_of_length_le (by omega)] at h5;rw[<- h5];exact⟨trivial,_,rfl,FinD.map (.head _) fun p hp=>.tail _ (List.mem_map_of_mem (f:=fun p:Vx × Value × List Int=>Zk p.2.1 3 RI p.2.2) hp)⟩
end
section
open Go.RowKit
section
variable {P:Program} {ops:Array Oper} {hp:List HObj} {o:Oper} {fr:List Dat} {d:Dat} {Q:Z4} {rest:List Oper}
variable {dst:Option Tmp} {ty:TypeId} {ps:String} {af:Array Edge} {g:Option (Nat × Bool)} {e:TypeId} {b:Nat} {T1 T2:TypeId} {v v':Value} {α:Type} {R:Rel α} {_gR:Good R} {xs:List α}
abbrev hC1 (b:Nat) (T:TypeId) (v:Value):HObj:=Zm b T 1 true (dX (.agg #[v]))
theorem ZFQ {c0:Prop} (hm:Zk v e R xs∈hp) (hc:(∃a c,v = .slice a xs.length c)->c0) (h:c0->WL P ops Q rest fr hp):WL P ops Q rest fr hp:=WL.of fun _ _ _ _ _ hh hf=>by
 refine(h (hc ?_)).on hh hf;obtain⟨us,_,⟨_,hv⟩,_⟩:=hh.ok (Zk v e R xs) hm;rcases hv with ⟨hv,h0⟩|⟨g,cap,cur,hv,_⟩
 ·exact⟨_,_,by rw[hv,h0]⟩
 ·exact⟨_,_,hv⟩
end
end
section
open Go.RowKit

theorem ZIZ (xs:List Vx) (hl:xs.length≤1000):Fn Tryz.prog 47 [dS ZI xs] (dS ZI xs):=by
 refine zE Tryz.func47 8 ?_;((repeat' (first |  (refine ZIQ 4 rfl fun b hb=>?_;dsimp only[z0,z1])|(apply ZVi;exact yF;dsimp only[ZC,z0,z1])|refine ZVj ?_|refine ZA fun Kx hK=>?_|(refine hK _ _ ?_;clear hK)|refine ZVk ?_ |  (apply ZC1 elV RV (by decide);(intro _;dsimp only[ZC,z0,z1]);all_goals (try infer_instance))|((first|apply ZWW|apply ZWX);exact eD;exact ZVh rfl;exact oD;decide;exact lD;(intro _;dsimp only[ZC,z0,z1]);all_goals (try infer_instance))|(apply ZVi;(focus ((first|(apply ZIK;exact ZVh rfl;(exact fun _ _ _ h=>ZVN h);exact ZDw;exact ZPL)|fail);all_goals infer_instance));dsimp only[ZC,z0,z1])|(apply ZWY;exact oD;all_goals (intro h;try exact xD))|refine ZVr ?_|refine ZVs ?_|refine ZVz ?_));all_goals ((repeat clear hK);repeat clear Kx))
 ·rw[hb h];(refine⟨trivial,_,rfl,?_⟩;exact fD)
 ·rw[List.nil_append];(refine⟨trivial,_,rfl,?_⟩;exact fD)
theorem ZR3 {s:List Vx} (h:ZAC s=0):∀v∈s,okV v:=fun v hv=>by
 have:=ZMn.1 ((Zi.1 h).2.2.1 v hv);unfold okV ZUh;omega
theorem ZGx {l:Cx}:∀n,n≤l.length->((ZJR (l.take n)).map (·.1)).Nodup/\∀v,v∈(ZJR (l.take n)).map (·.1)->∃s∈l,v∈s:=by
 have put:∀(m:List (Vx × List Int)) (v:Vx) (i:Int),(m.map (·.1)).Nodup->((ZM8 m v i).map (·.1)).Nodup/\∀u,u∈(ZM8 m v i).map (·.1)->u=v\/u∈m.map (·.1):=by
  intro m v i hm;unfold ZM8 ZCH;split
  ·rename_i h;have e:(m.map fun p=>if p.1=v then(v,(lookM m v).getD []++[i]) else p).map (·.1)=m.map (·.1):=by
    rw[List.map_map];refine List.map_congr_left fun p _=>?_;show(if p.1=v then(v,(lookM m v).getD []++[i]) else p).1=p.1;split
    ·rename_i h;exact h.symm
    ·rfl
   rw[e];exact⟨hm,fun u hu=>.inr hu⟩
  ·rename_i h;rw[List.map_append];refine⟨?_,fun u hu=>?_⟩
   ·rw[List.nodup_append];refine⟨hm,by simp,fun a ha b hb=>?_⟩;have:b=v:=by simpa using hb
    subst this;intro hab;subst hab;obtain⟨p,hp,hpv⟩:=List.mem_map.1 ha;apply h;unfold lookM;rw[Option.isSome_map];rw[List.find?_isSome];exact⟨p,hp,by simpa using hpv⟩
   ·rcases List.mem_append.1 hu with hu|hu
    ·exact .inr hu
    ·exact .inl (by simpa using hu)
 have all:∀(s:List Vx) (m:List (Vx × List Int)) (i:Int),(m.map (·.1)).Nodup->((ZPZ m s i).map (·.1)).Nodup/\∀u,u∈(ZPZ m s i).map (·.1)->u∈s\/u∈m.map (·.1):=by
  intro s;induction s with
  | nil=>intro m i hm;exact⟨hm,fun u hu=>.inr hu⟩
  | cons v s ih =>
   intro m i hm;obtain⟨h1,h2⟩:=put m v i hm;obtain⟨h3,h4⟩:=ih (ZM8 m v i) i h1;refine⟨h3,fun u hu=>?_⟩;rcases h4 u hu with h|h
   ·exact .inl (by simp[h])
   ·rcases h2 u h with h|h
    ·exact .inl (by simp[h])
    ·exact .inr h
 intro n;induction n with
 | zero=>intro _;exact⟨by simp[ZJR],fun v hv=>by simp[ZJR] at hv⟩
 | succ n ih =>
  intro hn;obtain⟨h1,h2⟩:=ih (by omega);rw[ZHB (by omega)];obtain⟨h3,h4⟩:=all l[n] (ZJR (l.take n)) (n:Int) h1;refine⟨h3,fun v hv=>?_⟩;rcases h4 v hv with h|h
  ·exact⟨l[n],List.getElem_mem _,h⟩
  ·exact h2 v h
theorem ZNW (l:Cx):((ZJR l).map (·.1)).Nodup:=by
 have:=(ZGx (l:=l) l.length (Nat.le_refl _)).1;rwa[List.take_length] at this
theorem ZTu {l:Cx} (h:∀s∈l,ZAC s=0):∀p∈ZJR l,okV p.1:=fun p hp=>by
 have:=(ZGx (l:=l) l.length (Nat.le_refl _)).2 p.1;rw[List.take_length] at this;obtain⟨s,hs,hv⟩:=this (List.mem_map_of_mem hp);exact ZR3 (h s hs) _ hv
theorem isKV {x:Vx}:IsV (dS RV x) (kvV x):=⟨fun _ _ _ h=>h⟩
theorem ZUL {s:List Vx} (h:ZAC s=0):0<s.length:=by have:=Zi.1 h;omega
theorem ZHC {s:List Vx} (h:ZAC s=0):s.length≤8:=by have:=Zi.1 h;omega
end
section
open Go.RowKit

theorem ZRW {l:Cx} {p:List Vx->Bool} {k:Nat} (h:k<l.length):(l.take (k+1)).any p=((l.take k).any p || p l[k]):=by rw[Ze h,List.any_append];simp
theorem ZCg (l:Cx):Fn Tryz.prog 43 [dS Cpx l] (dI (ZBC l)):=by
 refine zE Tryz.func43 60 ?_;((repeat' (first|refine zS ?_|refine ZA fun Kx hK=>?_|(refine hK _ _ ?_;clear hK)|((first|apply ZF|apply WD.op);(focus (first|exact wN|(apply ZVt;exact wY;((first|exact ZFM|exact ZA3|exact Z2|exact ZEL|fail);all_goals infer_instance))));dsimp only[ZC,z0,z1])|(apply ZB;exact oD;all_goals (intro h;try exact xD))|refine ZVr ?_|refine ZVs ?_|refine ZVp ?_|refine ZVz ?_));all_goals (first|refine WC.id ?_|((repeat clear hK);(repeat clear Kx))))
 ·(refine⟨trivial,_,rfl,?_⟩;refine ZWH ?_)
  unfold ZBC;rw[if_pos (by omega)]
 ·have hs:ZBC l=if ZEe none l≠0 then ZEe none l else if ZB3 l=true then 7 else 0:=by unfold ZBC;rw[if_neg (by omega)]
  (refine ZV4 (X:=Nat) (fun k=>[(16,dI (k:Int)),(2,dA),(3,dA),(4,dA),(5,dA),(17,dA),(18,dA),(19,dA),(20,dA),(21,dA),(22,dA),(23,dA),(24,dA),(25,dA),(26,dA),(27,dA),(28,dA),(29,dA),(30,dA),(31,dA),(32,dA),(33,dA),(34,dA),(35,dA),(36,dA),(37,dA),(38,dA),(39,dA)]) (fun k=>[]) (fun k=>l.length-k) (fun k=>k≤l.length/\ZEe none l=ZEe (l.take k).getLast? (l.drop k)) 0 ?start ?frame0 ?objs0 ?round)
  case start=>exact⟨Nat.zero_le _,rfl⟩
  case frame0=>exact zFr
  case objs0=>rfl
  case round =>
   rintro k ⟨h3,h4⟩;dsimp only[ZH,z0,z1];((repeat' (first|refine zS ?_|refine ZA fun Kx hK=>?_|(refine hK _ _ ?_;clear hK)|(refine ZV0 ?_;clear hK)|((first|apply ZF|apply WD.op);(focus (first|exact wN|(apply ZVt;exact wY;((first|(apply ZVm (ZHx _ _) Tryz.call80;exact aD)|(apply ZVm (ZNF _) Tryz.call39;exact aD)|(apply ZOC ZB8 (ZVh rfl) (ZVh rfl) (k-1);omega;omega)|exact ZCX|exact ZBF|exact ZFM|exact ZNw|exact ZEm|exact ZBg|exact ZLx|exact ZDf|exact ZS|exact Z2|exact ZCV|fail);all_goals infer_instance))));dsimp only[ZC,z0,z1])|((first|refine ZM rfl rfl rfl (fun h=>?_) (fun h=>?_)|refine ZL rfl rfl rfl (fun h=>?_) (fun h=>?_)|refine ZK rfl rfl rfl (fun h=>?_) (fun h=>?_)|refine Za rfl rfl rfl (fun h=>?_) (fun h=>?_)|refine ZX rfl rfl rfl (fun h=>?_) (fun h=>?_)|refine ZV rfl rfl rfl (fun h=>?_) (fun h=>?_)) <;> (first|(exfalso;first|omega|contradiction)|(dsimp only[z0,z1])))|(apply ZQ;exact oD;(with_reducible rfl))|(apply ZB;exact oD;all_goals (intro h;try exact xD))|(apply ZG;exact oD;all_goals (intro h;try exact xD))|refine ZVr ?_|refine ZVs ?_|refine ZV1 ?_|refine ZVp ?_|refine ZVx ?_|refine ZVz ?_|refine ZWC ?_));all_goals (first|refine WL.id ?_|((repeat clear hK);(repeat clear Kx))))
   all_goals try (rw[ZGs l k (by omega)] at h4)
   ·(refine⟨trivial,_,rfl,?_⟩;refine ZWH ?_)
    rw[hs,h4,if_pos h,if_pos h]
   ·(refine⟨trivial,_,rfl,?_⟩;refine ZWH ?_)
    have h5:¬ ZAC l[k]≠0:=by omega
    rw[if_neg h5,ZCE _ _ (by omega) (by omega),if_pos (by simpa using h)] at h4;rw[hs,h4];rfl
   ·(refine zNx (k+1) ?_;(try dsimp only))
    refine⟨by omega,?_⟩;have h5:¬ ZAC l[k]≠0:=by omega
    rw[h4,if_neg h5,ZCE _ _ (by omega) (by omega),if_neg (by simpa using h)]
   ·(refine zNx (k+1) ?_;(try dsimp only))
    refine⟨by omega,?_⟩;have h5:¬ ZAC l[k]≠0:=by omega
    have h0:(l.take k).getLast?=none:=by
     have:k=0:=by omega
     rw[this];rfl
    rw[h4,if_neg h5,h0];rfl
   ·rw[List.drop_of_length_le (by omega)] at h4;have h4':ZEe none l=0:=h4;have hs':ZBC l=if ZB3 l=true then 7 else 0:=by rw[hs,if_neg (by omega)]
    clear hs h4;obtain⟨ha,_,hg⟩:=ZIY l none h4';rw[ZHR ha hg] at hs';have hl1:l.length≤1000000:=by omega
    (repeat' (first|refine zS ?_|refine ZA fun Kx hK=>?_|(refine hK _ _ ?_;clear hK)|((first|apply ZF|apply WD.op);(focus (first|exact wN|(apply ZVt;exact wY;((first|(apply ZVm (ZLZ l hl1 (fun s hs=>ZR3 (hg s hs)) (fun s hs=>Nat.le_trans (ZHC (hg s hs)) (by decide))) Tryz.call81;exact aD)|exact ZA3|exact Z2|fail);all_goals infer_instance))));dsimp only[ZC,z0,z1])|refine ZVp ?_))
    (refine ZV4 (X:=Nat) (fun i=>[(46,dI (i:Int)),(2,dA),(8,dA),(47,dA),(48,dA),(49,dA),(50,dA),(51,dA),(52,dA),(53,dA),(54,dA),(55,dA),(56,dA),(57,dA),(58,dA),(59,dA)]) (fun i=>[]) (fun i=>l.length-i) (fun i=>i≤l.length/\(l.take i).any (fun s=>ZEA l s)=false) 0 ?start ?frame0 ?objs0 ?round)
    case start=>exact⟨Nat.zero_le _,rfl⟩
    case frame0=>exact zFr
    case objs0=>rfl
    case round =>
     rintro i ⟨h5,h6⟩;dsimp only[ZH,z0,z1];((repeat' (first|refine zS ?_|refine WD.nil ?_|refine ZA fun Kx hK=>?_|(refine hK _ _ ?_;clear hK)|(refine ZV0 ?_;clear hK)|(apply ZWB;kernel_rfl;kernel_rfl)|((first|apply ZF|apply WD.op);(focus (first|exact wN|(apply ZVt;exact wY;((first|(apply ZGd elV (ZVh rfl) ZV5 0 rfl;exact ZUL (hg _ (List.getElem_mem _)))|(refine ZEp (a0:=([]:List Int)) ZMb ZSy (ZVh rfl) (ZVh rfl) isKV (ZR3 (hg _ (List.getElem_mem _)) _ (List.getElem_mem _)) (ZTu hg) (ZNW l) (fun _ _=>ZB5))|(apply ZVm (ZNK _ _ _ ZTa) Tryz.call82;exact aD)|exact ZBF|exact ZBg|exact ZS|exact Z2|fail);all_goals infer_instance))));dsimp only[ZC,z0,z1])|(apply ZB;exact oD;all_goals (intro h;try exact xD))|(apply ZWY;exact oD;all_goals (intro h;try exact xD))|refine ZVr ?_|refine ZVs ?_|refine ZV1 ?_|refine ZVp ?_|refine ZVx ?_|refine ZVz ?_|refine ZWC ?_));all_goals ((repeat clear hK);repeat clear Kx))
     ·rw[ZSn hg (hg _ (List.getElem_mem (show i<l.length by omega))) (List.getElem_mem _)] at h;(refine⟨trivial,_,rfl,?_⟩;refine ZWH ?_)
      rw[hs',if_pos];exact List.any_eq_true.2 ⟨l[i],List.getElem_mem _,h⟩
     ·rw[ZSn hg (hg _ (List.getElem_mem (show i<l.length by omega))) (List.getElem_mem _)] at h;(refine zNx (i+1) ?_;(try dsimp only))
      exact⟨by omega,by rw[ZRW (by omega),h6,h];rfl⟩
     ·rw[List.take_of_length_le (by omega)] at h6;(refine⟨trivial,_,rfl,?_⟩;refine ZWH ?_)
      rw[hs',if_neg (by rw[h6];decide)]
end
section
open Go.RowKit

section
variable {P:Program}
theorem ZFB {fn:Func} {t u v:Tmp} (h:fn.results=#[.tmp t,.tmp u,.tmp v]) (tmps:Array Value) (w:World):(results fn tmps).run P w = .ok (.tuple #[tmps.getD t undef,tmps.getD u undef,tmps.getD v undef]) w:=by
 simp[results,h]
end
def plC (l:Cx) (s:List Vx):Int:=if ZBC l≠0 then ZBC l else ZAC s
theorem ZKb (l:Cx) (s:List Vx):Fn Tryz.prog 128 [dS Cpx l,dS ZI s] (dI (plC l s)):=by
 refine zE Tryz.func128 13 ?_;((repeat' (first|refine zS ?_|refine ZA fun Kx hK=>?_|(refine hK _ _ ?_;clear hK)|(apply zV;(focus ((first|(apply ZVm (ZCg _) Tryz.call43;exact aD)|(apply ZVm (ZNF _) Tryz.call39;exact aD)|exact ZEm|exact ZEL);all_goals infer_instance));exact zQ)|(apply ZG;exact oD;all_goals (intro h;try exact xD))|refine ZVr ?_|refine ZVs ?_|refine ZVz ?_));all_goals ((repeat clear hK);repeat clear Kx))
 all_goals ((refine⟨trivial,_,rfl,?_⟩;refine ZWH ?_) <;> ((unfold plC;(repeat' split)) <;> (first|rfl|(exfalso;first|contradiction|omega)|(simp_all;done))))
theorem ZI2 {l:Cx} {s:List Vx} (h:plC l s=0):GoodX l/\ZAC s=0:=by
 unfold plC at h;by_cases h1:ZBC l≠0
 ·rw[if_pos h1] at h;exact absurd h h1
 ·rw[if_neg h1] at h;exact⟨ZAX.1 (by omega),h⟩
theorem GoodX.len {l:Cx} (h:GoodX l):l.length≤1000000:=Nat.le_trans h.1 (by decide)
theorem GoodX.short {l:Cx} (h:GoodX l):∀s∈l,s.length≤8:=fun s hs=>ZHC (h.2.2.1 s hs)
theorem ZOr {l:Cx} {s:List Vx} (h:plC l s=0):l.filter (ZBv s)=ZIV l s:=ZOq (ZI2 h).1.asc (Zi.1 (ZI2 h).2).2.2.2
def ZEf (l:Cx) (s:List Vx):Bool × Int:=if plC l s≠0 then(false,plC l s) else(ZBm l s,0)
theorem ZDp (l:Cx) (s:List Vx):Fn Tryz.prog 92 [dS Cpx l,dS ZI s] (dT [dB (ZEf l s).1,dI (ZEf l s).2]):=by
 refine zF Tryz.func92 18 ?_;by_cases h0:plC l s=0
 ·have e:ZEf l s=(ZBm l s,0):=by unfold ZEf;rw[if_neg (by omega)]
  ((repeat' (first|refine zS ?_|refine ZA fun Kx hK=>?_|(refine hK _ _ ?_;clear hK)|(apply zV;(focus ((first|(apply ZVm (ZKb _ _) Tryz.call128;exact aD)|(apply ZVm (ZRX _ _ (ZI2 h0).1.len) Tryz.call129;exact aD)|exact ZFM|exact ZEm|exact ZA3|exact ZEL);all_goals infer_instance));exact zQ)|(apply ZG;exact oD;all_goals (intro h;try exact xD))|refine ZVr ?_|refine ZVs ?_));all_goals ((repeat clear hK);repeat clear Kx))
  rw[e,ZNV,<- ZOr h0];(refine⟨trivial,⟨_,rfl,?_⟩,_,rfl,?_⟩ <;> (first|exact fD|refine ZWL ?_));simp
 ·have e:ZEf l s=(false,plC l s):=by unfold ZEf;rw[if_pos h0]
  ((repeat' (first|refine zS ?_|refine ZA fun Kx hK=>?_|(refine hK _ _ ?_;clear hK)|(apply zV;(focus ((first|(apply ZVm (ZKb _ _) Tryz.call128;exact aD)|exact ZEm|exact ZEL);all_goals infer_instance));exact zQ)|(apply ZG;exact oD;all_goals (intro h;try exact xD))|refine ZVs ?_|refine ZVz ?_));all_goals ((repeat clear hK);repeat clear Kx))
  rw[e];(refine⟨trivial,⟨_,rfl,?_⟩,_,rfl,?_⟩ <;> exact fD)
end
section
open Go.RowKit
structure ArrT (P:Program) (T V S:TypeId):Prop where
 ix:∀b (i:Nat) w,i<8->(Instr.indexAt T (.pointer (some ⟨b,0,none⟩)) (.int .i64 (i:Int))).run P w = .ok (.pointer (some ⟨b,i*2,none⟩)) w
 sl:∀b w,(Instr.sliceAt T (.pointer (some ⟨b,0,none⟩)) none none none).run P w = .ok (.slice (some ⟨b,0,none⟩) 8 8) w
 size:(P.info? T).map (·.size)=some 16
 agg:∀w,(isAgg T).run P w = .ok true w
 und:P.underlying S=some (.slice V)
 el:(P.info? V).map (·.size)=some 2
theorem arrT:ArrT Tryz.prog 202 77 22:=by
 constructor
 ·intro b i w h;have h1:(0:Int)≤(i:Int)/\(i:Int)<8:=by omega
  go_simp
 ·intro b w;go_simp
 ·kernel_rfl
 ·exact Tryz.isAgg202
 ·exact Tryz.underlying22
 ·kernel_rfl
abbrev hA (b:Nat) (T:TypeId) (cs:List Value):HObj:=ZA2 b (.cells cs.toArray T)
theorem ZMx {P0:Nat->Prop} {B:Nat} {w0 w:World} {o:HObj} {b:Nat} {c:Obj} {hp:List HObj} (h:Hp P0 B w0 (o::hp) w) (hc:w.heap[b]?=some c) (hb:o.blk=some b:=by rfl):Hp P0 B w0 (ZA2 b c::hp) w:=by
 have hI:∀k,Imm P0 B (o::hp) k->Imm P0 B (ZA2 b c::hp) k:=fun k hk=>⟨hk.1,fun q hq=>by
  rcases List.mem_cons.1 hq with rfl|hq
  ·intro e;exact hk.2 o (by simp) (hb.trans e)
  ·exact hk.2 q (List.mem_cons_of_mem _ hq)⟩
 refine⟨h.base,h.below,fun q hq k hk=>?_,fun q hq=>?_,?_⟩
 ·rcases List.mem_cons.1 hq with rfl|hq
  ·exact h.own o (by simp) k (hb.trans hk)
  ·exact h.own q (List.mem_cons_of_mem _ hq) k hk
 ·rcases List.mem_cons.1 hq with rfl|hq
  ·exact hc
  ·exact q.weak (h.ok q (List.mem_cons_of_mem _ hq)) hI
 ·have:=List.pairwise_cons.1 h.apart;exact List.pairwise_cons.2 ⟨fun q hq k hk=>this.1 q hq k (hb.trans hk),this.2⟩
section
variable {P:Program} {ops:Array Oper} {hp:List HObj} {o:Oper} {fr:List Dat} {d d2:Dat} {Q:Z4} {rest:List Oper}
variable {dst:Option Tmp} {ty:TypeId} {ps:String} {af:Array Edge} {g:Option (Nat × Bool)} {T T2 V S:TypeId} {b off:Nat} {cs:List Value}
theorem ZOV {n:Nat} (hz:TyZ P T (.agg cs.toArray)) (hs:(dX (.agg cs.toArray)).Shape n true) (h:∀b,WL P ops Q rest (ZC fr dst (dX (.pointer (some ⟨b,0,none⟩)))) (hA b T cs::hp)) :
  WL P ops Q (⟨dst,.alloc T,ty,ps,af,none⟩::rest) fr hp :=
 ZWF hz hs fun b=>WL.of fun P0 B w0 w a hh hf=>by
  obtain⟨cs',u,c1,c2,c0,c3,c4,c5⟩:=hh.ok (Zm b T n true (dX (.agg cs.toArray))) (by simp);have hu:u = .agg cs.toArray:=c5;simp only[if_true] at c4;rw[hu] at c4;have hcs:cs=cs':=by injection c4 with c4;exact List.toArray_inj c4
  subst hcs;exact(h b).on (ZMx hh c1) (hf.mono fun d _ hd=>d.weak hd fun k hk=>⟨hk.1,fun q hq=>by
   rcases List.mem_cons.1 hq with rfl|hq
   ·exact hk.2 (Zm b T n true (dX (.agg cs.toArray))) (by simp)
   ·exact hk.2 q (List.mem_cons_of_mem _ hq)⟩)
theorem ZUq {x i:Operand} {k:Nat} {j:Int} (A:ArrT P T V S) (hx:OpD fr x (dX (.pointer (some ⟨b,0,none⟩)))) (hi:OpD fr i (dI j)) (hj:j=(k:Int)) (hk:k<8) :
  SY P ops hp ⟨dst,.indexAddr T x i,ty,ps,af,g⟩ fr (dX (.pointer (some ⟨b,k*2,none⟩))):=ZWK fun {I w a} ho=>by
 have h1:a.eval x=_:=hx.get (by simp[Op.operands]) ho;have h2:a.eval i=_:=hi.get (by simp[Op.operands]) ho;refine⟨_,?_,rfl⟩;unfold execOp;simp only[h1,h2,hj,Sem.run_bind,A.ix b k w hk,Result.andThen_ok,Sem.run_pure]
theorem ZQ4 {x:Operand} (W:VxT P V) (hx:OpD fr x (dX (.pointer (some ⟨b,off,none⟩)))) :
  SY P ops hp ⟨dst,.fieldAddr V x 0,ty,ps,af,g⟩ fr (dX (.pointer (some ⟨b,off,none⟩))):=ZWK fun {I w a} ho=>by
 have h1:a.eval x=_:=hx.get (by simp[Op.operands]) ho;refine⟨_,?_,rfl⟩;unfold execOp;simp only[h1,Sem.run_bind,W.fld0,Result.andThen_ok,Sem.run_pure,Nat.add_zero]
theorem ZOM {x:Operand} (A:ArrT P T V S) (hx:OpD fr x (dX (.pointer (some ⟨b,0,none⟩)))) :
  SY P ops hp ⟨dst,.slice T x none none none,ty,ps,af,g⟩ fr (dX (.slice (some ⟨b,0,none⟩) 8 8)):=ZWK fun {I w a} ho=>by
 have h1:a.eval x=_:=hx.get (by simp[Op.operands]) ho;refine⟨_,?_,rfl⟩;unfold execOp;simp only[h1,Option.map_none,Sem.run_bind,A.sl,Result.andThen_ok,Sem.run_pure]
theorem ZQ6 {x:Operand} (A:ArrT P T V S) (hx:OpD fr x (dX (.pointer (some ⟨b,0,none⟩)))) (hm:hA b T2 cs∈hp) (hl:cs.length=16) (hone:∀c∈cs,c.oneCell'=true) :
  SY P ops hp ⟨dst,.load T x,ty,ps,af,g⟩ fr (dX (.agg cs.toArray)):=ZAG fun {P0 B w0 w a} hh ho=>by
 have h1:a.eval x=_:=hx.get (by simp[Op.operands]) ho;have hb:w.heap[b]?=some (.cells cs.toArray T2):=hh.ok _ hm;have hc:Cells (fun _=>True) w b 0 16 true (.agg cs.toArray):=by
  refine⟨trivial,cs,hl,by decide,hone,fun j c hc=>?_,rfl⟩;simp[World.cell?,hb,hc]
 refine⟨_,w,?_,ZWS _,rfl⟩;unfold execOp;simp only[h1,Sem.run_bind,ZA8 ⟨A.size,A.agg⟩ hc,Result.andThen_ok,Sem.run_pure]
theorem ZOh {p:Tmp} {x:Operand} {u:Value} (T':TyI P T 1 false) (hp0:OpD fr (.tmp p) (dX (.pointer (some ⟨b,off,none⟩)))) (hx:OpD fr x d) (hd:IsV d u) (hu:u.oneCell'=true) (ho:off<cs.length)
  (h:WL P ops Q rest (ZC fr dst (dX undef)) (hA b T2 (cs.set off u)::hp)) :
  WL P ops Q (⟨dst,.store T (.tmp p) x,ty,ps,af,none⟩::rest) fr (hA b T2 cs::hp):=by
 refine WL.of fun P0 B w0 w a hh hf=>?_;have h1:a.eval (.tmp p)=_:=hp0.ev hf;have h2:a.eval x=u:=hd.is _ _ _ (hx.ev hf);have hb:w.heap[b]?=some (.cells cs.toArray T2):=hh.ok (hA b T2 cs) (by simp);have hset:=setCell_eq_setRow w b off cs.toArray T2 (0,0) u hb;have hc:w.cell? ⟨b,off,none⟩=some cs[off]:=by simp[World.cell?,hb,ho]
 have hfz:w.frozen? ⟨b,off,none⟩=false:=by simp[World.frozen?,hb]
 have hst:(store ((⟨b,off,none⟩:Addr).add 0) u).run P w = .ok () (w.setCell ⟨b,off,none⟩ u):=by
  rw[show((⟨b,off,none⟩:Addr).add 0)=⟨b,off,none⟩ from rfl,run_store P w _ u _ hu,hc];simp[hfz]
 have hsz:(sizeOf T).run P w = .ok 1 w:=by
  have h5:=T'.size;cases hq:P.info? T with
  | none=>rw[hq] at h5;cases h5
  | some i =>
   rw[hq] at h5;have:i.size=1:=by simpa using h5
   rw[<- this];rw[run_sizeOf w hq];simp[Program.cellsOf,hq]
 have hw:w.setCell ⟨b,off,none⟩ u=w.setRow b (cs.set off u).toArray:=by rw[hset];simp
 have hrun:(execOp a.eval ⟨dst,.store T (.tmp p) x,ty,ps,af,none⟩).run P w = .ok .skip (w.setRow b (cs.set off u).toArray):=by
  rw[<- hw];unfold execOp;simp only[h1,h2,Instr.storeAt,Instr.sureAddr,storeVar,Sem.run_bind,hsz,Result.andThen_ok,Sem.run_pure];simp[ZC6 hu,storeCells,hst]
 refine wpList_plain rfl fun K hK=>?_;unfold Oper.wp;rw[hrun];have hgr:w.grownBy (w.setRow b (cs.set off u).toArray) (hA b T2 cs).blk:=ZAM;have hok:(hA b T2 (cs.set off u)).ok (fun k=>Imm P0 B (hA b T2 cs::hp) k/\k<w.heap.size) (w.setRow b (cs.set off u).toArray):=setRow_heap w b _ _ _ _ hb;exact hK _ _ (h.on (hh.write hgr (.inl rfl) hok) (ZWN (hf.mono fun _ _ hd=>Zd (o':=hA b T2 (cs.set off u)) hgr (.inl rfl) hd) (d:=dX undef) rfl))
theorem ZND {I:Nat->Prop} {w:World} {ad:Addr} {n cap:Nat} {xs:List Vx} (h:ArrK 2 RV I w (.slice (some ad) n cap) xs):∀j u,(Zs xs)[j]?=some u->w.cell? (ad.add j)=some u:=by
 obtain⟨ad',cap',hv,c1,c2,c0,c3⟩:=h;cases hv;intro j u hu;have hlt:=(List.getElem?_eq_some_iff.1 hu).1;rw[Zz] at hlt;have hk:j / 2<xs.length:=by omega
 obtain⟨cs,b,off,r1,r2,r3,r4,r5,r6⟩:=c3 (j / 2) hk;cases r4;have hcs:cs=[.int .i64 xs[j / 2].1,.int .i64 xs[j / 2].2]:=by
  have h1:Value.agg cs.toArray = .agg #[.int .i64 xs[j / 2].1,.int .i64 xs[j / 2].2]:=r1;injection h1 with h1;exact List.toArray_inj h1
 subst hcs;have hg:=ZG3 hk;rw[Addr.add_lit];rcases Nat.mod_two_eq_zero_or_one j with hj|hj
 ·have e:j=j / 2*2:=by omega
  rw[e] at hu;rw[hg.1] at hu;cases hu;have:=r6 0 _ rfl;rw[show off+j=off+j / 2*2+0 by omega];exact this
 ·have e:j=j / 2*2+1:=by omega
  rw[e] at hu;rw[hg.2] at hu;cases hu;have:=r6 1 _ rfl;rw[show off+j=off+j / 2*2+1 by omega];exact this
theorem WL.copyA {x y:Operand} {s:List Vx} {T':TypeId} (A:ArrT P T V S) (hx:OpD fr x (dX (.slice (some ⟨b,0,none⟩) 8 8))) (hy:OpD fr y (dS ZI s)) (hs:s.length≤8) (hl:cs.length=16)
  (h:WL P ops Q rest (ZC fr dst (dI (s.length:Int))) (hA b T2 (Zs s++cs.drop (s.length*2))::hp)) :
  WL P ops Q (⟨dst,.call { callee:=.builtin .copy,args:=#[x,y],argTypes:=#[S,T'] },ty,ps,af,none⟩::rest) fr (hA b T2 cs::hp):=by
 refine WL.of fun P0 B w0 w a hh hf=>?_;have h1:a.eval x=_:=hx.ev hf;have h2:ArrK 2 RV (Imm P0 B (hA b T2 cs::hp)) w (a.eval y) s:=hy.ev hf;have hb:w.heap[b]?=some (.cells cs.toArray T2):=hh.ok (hA b T2 cs) (by simp);have hsz:(sizeOf V).run P w = .ok 2 w:=by
  have h5:=A.el;cases hq:P.info? V with
  | none=>rw[hq] at h5;cases h5
  | some i =>
   rw[hq] at h5;have:i.size=2:=by simpa using h5
   rw[<- this];rw[run_sizeOf w hq];simp[Program.cellsOf,hq]
 have hst:=run_storeCells_at P b 0 T2 (Zs s) 0 cs.toArray w hb (by rw[Zz];simp[hl];omega) (ZEx s);simp only[Nat.zero_add,List.take_zero,List.nil_append] at hst;have hmin:Nat.min s.length 8=s.length:=Nat.min_eq_left hs;have hrun:(execOp a.eval ⟨dst,.call { callee:=.builtin .copy,args:=#[x,y],argTypes:=#[S,T'] },ty,ps,af,none⟩).run P w = .ok (.value (.int .i64 s.length)) (w.setRow b (Zs s++cs.drop (s.length*2)).toArray):=by
  have h3:=h2;obtain⟨ad,cap,hv,c1,c2,c0,c3⟩:=h3;rw[hv] at h2;have hcopy:(Builtin.copy_ #[S,T'] ty #[.slice (some ⟨b,0,none⟩) 8 8,.slice ad s.length cap]).run P w = .ok (.int .i64 s.length) (w.setRow b (Zs s++cs.drop (s.length*2)).toArray):=by
   cases ad with
   | none =>
    have hy0:s=[]:=by
     cases s with
     | nil=>rfl
     | cons y ys=>obtain⟨_,_,_,_,_,_,hc,_⟩:=c3 0 (by simp);cases hc
    subst hy0;simp[ZCL,storeCells] at hst;simp[Builtin.copy_,run_underlying A.und,Builtin.lenOf,Builtin.firstCells,hsz,storeCells,ZCL,goInt];exact hst
   | some ad =>
    have hld:=run_loadCells_list (P:=P) w ad (Zs s) (ZND h2);rw[Zz] at hld;rw[Zz] at hst;simp[Builtin.copy_,run_underlying A.und,Builtin.lenOf,Builtin.firstCells,hsz,hmin,hld,hst,goInt]
  unfold execOp;simp[resolve,invoke,builtin,h1,hv,hcopy,Result.andThen]
 refine Zo rfl hrun ?_;have hgr:w.grownBy (w.setRow b (Zs s++cs.drop (s.length*2)).toArray) (hA b T2 cs).blk:=ZAM;have hok:(hA b T2 (Zs s++cs.drop (s.length*2))).ok (fun k=>Imm P0 B (hA b T2 cs::hp) k/\k<w.heap.size) (w.setRow b (Zs s++cs.drop (s.length*2)).toArray):=setRow_heap w b _ _ _ _ hb;exact h.on (hh.write hgr (.inl rfl) hok) (ZWN (hf.mono fun _ _ hd=>Zd (o':=hA b T2 (Zs s++cs.drop (s.length*2))) hgr (.inl rfl) hd) rfl)
end
end
section
open Go.RowKit

theorem tyK:TyI Tryz.prog 202 16 true:=⟨by kernel_rfl,Tryz.isAgg202⟩
theorem tzK:TyZ Tryz.prog 202 (.agg (Zs (List.replicate 8 (0,0))).toArray):=⟨by kernel_rfl⟩
theorem ZSO {cs:List Value} (h:cs.length=16) (h1:∀c∈cs,c.oneCell'=true):(dX (.agg cs.toArray)).Shape 16 true:=fun _ _ _ hu=>by
 cases (hu:_=_);exact⟨cs,h,by decide,h1,rfl,rfl⟩
theorem ZLl {l:List Vx} (h:l.length=8):(dX (.agg (Zs l).toArray)).Shape 16 true:=ZSO (by rw[Zz,h]) (ZEx l)
def ZTz (k:Nat):List Vx:=List.replicate k (-1,0)++List.replicate (8-k) (0,0)
theorem ZPi {k:Nat} (h:k<8):(Zs (ZTz k)).set (k*2) (.int .i64 (-1))=Zs (ZTz (k+1)):=by
 have:k=0\/k=1\/k=2\/k=3\/k=4\/k=5\/k=6\/k=7:=by omega
 rcases this with rfl|rfl|rfl|rfl|rfl|rfl|rfl|rfl <;> rfl
theorem ZH0:∀(l:List Vx) (k:Nat),(Zs l).drop (k*2)=Zs (l.drop k)
 | l,0=>by simp
 | [],k+1=>by simp[ZCL]
 | x::l,k+1=>by
  rw[ZA1,show(k+1)*2=k*2+2 by omega];simpa using ZH0 l k
theorem ZTw (s:List Vx) (hs:s.length≤8):Fn Tryz.prog 153 [dS ZI s] (dX (kvK s)):=by
 refine ZHo tyK Tryz.func153 rfl rfl ?_;simp only[Tryz.ntmps153,List.length_cons,List.length_nil,Nat.reduceAdd,Nat.reduceSub,List.replicate_succ,List.replicate_zero,List.cons_append,List.nil_append];refine ZA fun Kx hK=>?_;refine ZVk ?_;refine ZWF tzK (ZLl (by simp)) fun b2=>?_;dsimp only[ZC,z0,z1];(repeat' (first|(apply zV;exact yF;exact zQ)|refine ZVj ?_|refine ZA fun Kx hK=>?_|(refine hK _ _ ?_;clear hK)|refine ZVk ?_ |  (refine ZOV (n:=16) tzK (ZLl (by simp)) fun b3=>?_;dsimp only[ZC,z0,z1])|refine ZVp ?_))
 (refine ZV4 (X:=Nat) (fun k=>[(5,dI (k:Int)),(4,dA),(6,dA),(7,dA),(8,dA),(9,dA),(10,dA),(11,dA)]) (fun k=>[hA b3 202 (Zs (ZTz k)),Zm b2 202 16 true (dX (.agg (Zs (List.replicate 8 (0,0))).toArray))]) (fun k=>8-k) (fun k=>k≤8) 0 ?start ?frame0 ?objs0 ?round)
 case start=>exact Nat.zero_le _
 case frame0=>exact zFr
 case objs0=>rfl
 case round =>
  rintro k h1;dsimp only[ZH,z0,z1];((repeat' (first|(apply zV;exact yF;exact zQ)|refine ZVj ?_|refine ZA fun Kx hK=>?_|(refine hK _ _ ?_;clear hK)|(refine ZV0 ?_;clear hK)|refine ZVk ?_ |  (refine ZOh (u:=.int .i64 (-1)) tyI (ZVh rfl) ZV5 isI rfl (by rw[Zz];simp[ZTz];omega) ?_;rw[ZPi (by omega)];dsimp only[ZC]) |  (refine WL.copyA arrT (ZVh rfl) (ZVh rfl) hs (by rw[Zz];simp[ZTz];omega) ?_;dsimp only[ZC,z0,z1])|(apply zV;(focus ((first|(apply ZUq arrT;exact ZVh rfl;exact ZVh rfl;rfl;omega)|(apply ZQ4 vxT;exact ZVh rfl)|(apply ZOM arrT;exact ZVh rfl)|exact ZBF|exact ZBg);all_goals infer_instance));exact zQ)|(apply ZB;exact oD;all_goals (intro h;try exact xD))|refine ZVr ?_|refine ZV1 ?_|refine ZVp ?_|refine ZVx ?_));all_goals (first|refine WL.id ?_|((repeat clear hK);(repeat clear Kx))))
  ·(refine zNx (k+1) ?_;(try dsimp only))
   omega
  ·have h8:k=8:=by omega
   subst h8;have e:Zs s++(Zs (ZTz 8)).drop (s.length*2)=Zs (ZLg s):=by
    rw[ZH0,<- ZBZ];unfold ZLg ZTz;rw[show(8:Nat)-8=0 from rfl,List.replicate_zero,List.append_nil,List.drop_replicate]
   rw[e];refine WL.op rfl (ZQ6 arrT (ZVh rfl) (.head _) (by rw[Zz,ZE6 hs]) (ZEx _)) ?_;dsimp only[ZC,z0,z1];refine ZWP (List.Perm.swap _ _ _) ?_;refine ZR tyK rfl (ZVh rfl) (ZLl (ZE6 hs)) ?_;dsimp only[ZC,z0,z1];refine ZVj (hK _ _ ?_);exact ZVs ⟨trivial,_,rfl,ZTI rfl⟩
end
end Go.Proofs.YtofkoleingbbpaaGreatDoor
