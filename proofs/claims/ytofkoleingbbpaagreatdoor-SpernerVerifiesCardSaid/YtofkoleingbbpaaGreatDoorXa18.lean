/- Part 18: walks by contracts, and plain laws. -/
import Derived.Test.YtofkoleingbbpaaGreatDoorXa17
set_option linter.unusedVariables false
set_option linter.unusedSimpArgs false
set_option linter.unusedSectionVars false
set_option maxRecDepth 100000
set_option maxHeartbeats 64000000
namespace Go.Proofs.YtofkoleingbbpaaGreatDoor
section
open Go.RowKit

theorem ZMZ:MapT Tryz.prog 128 77 23 (.slice none 0 0):=⟨Tryz.underlying128,fun w=>by kernel_rfl⟩
abbrev ZQn:=List (Vx × Value × List Int)
abbrev hI (b:Nat) (M:ZQn):HObj:=hM b kvV (fun p:Value × List Int=>p.1) M
def ZEU (M:ZQn):List HObj:=M.map fun p=>Zk p.2.1 3 RI p.2.2
def ZDi (M:ZQn):List (Vx × List Int):=M.map fun p=>(p.1,p.2.2)
theorem ZNH (M:ZQn):(ZDi M).map (·.1)=M.map (·.1):=by unfold ZDi;rw[List.map_map];rfl
theorem ZGT {α:Type} (a:α):∀(l:List α) (q:Nat),q<l.length->(a::l.eraseIdx q).Perm (l.set q a)
 | [],q,h=>by simp at h
 | x::l,0,_=>by simp
 | x::l,q+1,h=>by
  simp only[List.eraseIdx_cons_succ,List.set_cons_succ];exact(List.Perm.swap _ _ _).trans (List.Perm.cons _ (ZGT a l q (by simpa using h)))
theorem ZUD {α:Type} (l:List α) (q:Nat) (h:q<l.length):(l[q]::l.eraseIdx q).Perm l:=by
 have:=ZGT l[q] l q h;rwa[List.set_getElem_self] at this
theorem ZHG {α β:Type} (M:List (α × β)) (q:Nat) (h:q<M.length) (u:β):(M.set q (M[q].1,u)).map (·.1)=M.map (·.1):=by
 rw[List.map_set];have:(M.map (·.1))[q]'(by simpa using h)=M[q].1:=by simp
 rw[<- this,List.set_getElem_self]
theorem ZPB {M:ZQn} (hn:(M.map (·.1)).Nodup) {q:Nat} (h:q<M.length) (v':Value) (i:Int):ZDi (M.set q (M[q].1,(v',M[q].2.2++[i])))=ZM6 (ZDi M) M[q].1 i:=by
 have hl:q<(ZDi M).length:=by simpa[ZDi] using h
 have e1:(ZDi M)[q]=(M[q].1,M[q].2.2):=by simp[ZDi]
 have hn':((ZDi M).map (·.1)).Nodup:=by rw[ZNH];exact hn
 have h2:=ZDA hn' hl;have h3:=ZFB hn' (v:=M[q].2.2++[i]) hl;rw[e1] at h2 h3;unfold ZM6;rw[h2];show _=ZCI (ZDi M) M[q].1 (M[q].2.2++[i]);rw[h3];unfold ZDi;rw[List.map_set]
theorem ZPA {M:ZQn} {v:Vx} (hne:∀p∈M,p.1≠v) (v':Value) (i:Int):ZDi (M++[(v,(v',[i]))])=ZM6 (ZDi M) v i:=by
 have hne':∀p∈ZDi M,p.1≠v:=fun p hp=>by
  obtain⟨q,hq,rfl⟩:=List.mem_map.1 hp;exact hne q hq
 unfold ZM6;rw[ZCG hne',ZDa hne'];simp[ZDi]
theorem ZQE (M:ZQn) (q:Nat) (h:q<M.length) (p:Vx × Value × List Int):(Zk p.2.1 3 RI p.2.2::(ZEU M).eraseIdx q).Perm (ZEU (M.set q p)):=by
 have:=ZGT (Zk p.2.1 3 RI p.2.2) (ZEU M) q (by simpa[ZEU] using h);have e:ZEU (M.set q p)=(ZEU M).set q (Zk p.2.1 3 RI p.2.2):=by unfold ZEU;rw[List.map_set]
 rw[e];exact this
theorem ZNh (M:ZQn) (p:Vx × Value × List Int):(Zk p.2.1 3 RI p.2.2::ZEU M).Perm (ZEU (M++[p])):=by
 unfold ZEU;rw[List.map_append];exact(List.perm_append_singleton _ _).symm
theorem ZLZ (l:Cx) (hl:l.length≤1000000) (hs:∀s∈l,∀v∈s,okV v) (h8:∀s∈l,s.length≤1000):Fn Tryz.prog 81 [dS Zh l] (dS (ZF4 kvV ZAR) (ZJR l)):=by
 (refine ZE Tryz.func81 rfl rfl ?_;simp only[Tryz.ntmps81,List.length_cons,List.length_nil,Nat.reduceAdd,Nat.reduceSub,List.replicate_succ,List.replicate_zero,List.cons_append,List.nil_append])
 (repeat' (first|(apply WL.opN;exact yF;dsimp only[ZC,z0,z1])|refine WL.nil ?_|refine ZA fun Kx hK=>?_|(refine hK _ _ ?_;clear hK)|refine WC.region ?_ |  (refine WL.makeMap kvV (fun p:Value × List Int=>p.1) fun b=>?_;dsimp only[ZC,z0,z1])|(apply WL.opN;(focus ((first|exact ZA3|fail);all_goals infer_instance));dsimp only[ZC,z0,z1])|refine WC.block ?_))
 (refine WC.loopU (X:=Nat × ZQn) (fun x=>[(11,dI (x.1:Int)),(4,dA),(5,dA),(7,dA),(12,dA),(13,dA),(14,dA),(15,dA),(16,dA),(17,dA),(18,dA),(19,dA),(20,dA),(21,dA),(22,dA),(23,dA),(24,dA),(25,dA),(26,dA),(27,dA),(28,dA),(29,dA),(30,dA),(31,dA)]) (fun x=>hI b x.2::ZEU x.2) (fun x=>l.length-x.1) (fun x=>x.1≤l.length/\(x.2.map (·.1)).Nodup/\(∀p∈x.2,okV p.1)/\(∀p∈x.2,p.2.2.length≤2000*x.1)/\ZDi x.2=ZJR (l.take x.1)) (0,[]) ?start ?frame0 ?objs0 ?round)
 case start=>exact⟨Nat.zero_le _,by simp,by simp,by simp,rfl⟩
 case frame0=>exact zFr
 case objs0=>rfl
 case round =>
  rintro⟨i,M⟩ ⟨h1,h2,h3,h4,h5⟩;simp only at h1 h2 h3 h4 h5;dsimp only[ZL,z0,z1];((repeat' (first|(apply WL.opN;exact yF;dsimp only[ZC,z0,z1])|refine WL.nil ?_|refine ZA fun Kx hK=>?_|(refine hK _ _ ?_;clear hK)|(refine Kont.skip ?_;clear hK)|refine WC.region ?_|(apply WL.opN;(focus ((first|exact ZBF|exact ZA3|exact ZT|fail);all_goals infer_instance));dsimp only[ZC,z0,z1])|(apply ZB;(exact oD);all_goals (intro h;try exact xD))|refine WC.skip ?_|refine WC.ret ?_|refine WC.exit ?_|refine WC.block ?_));all_goals (first|refine WC.id ?_|((repeat clear hK);(repeat clear Kx))))
  ·have hm:=List.getElem_mem (show i<l.length by omega);have h8m:=h8 _ hm;(refine WC.loopU (X:=Nat × ZQn) (fun x=>[(18,dI (x.1:Int)),(7,dA),(19,dA),(20,dA),(21,dA),(22,dA),(23,dA),(24,dA),(25,dA),(26,dA),(27,dA),(28,dA),(29,dA),(30,dA)]) (fun x=>hI b x.2::ZEU x.2) (fun x=>l[i].length-x.1) (fun x=>x.1≤l[i].length/\(x.2.map (·.1)).Nodup/\(∀p∈x.2,okV p.1)/\(∀p∈x.2,p.2.2.length≤2000*i+x.1)/\ZDi x.2=ZPX (ZJR (l.take i)) (l[i].take x.1) (i:Int)) (0,M) ?start ?frame0 ?objs0 ?round)
   case start=>exact⟨Nat.zero_le _,h2,h3,h4,h5⟩
   case frame0=>exact zFr
   case objs0=>rfl
   case round =>
    rintro⟨j,M⟩ ⟨g1,g2,g3,g4,g5⟩;simp only at g1 g2 g3 g4 g5;dsimp only[ZL,z0,z1];((repeat' (first|(apply WL.opN;exact yF;dsimp only[ZC,z0,z1])|refine WL.nil ?_|refine ZA fun Kx hK=>?_|(refine hK _ _ ?_;clear hK)|(refine Kont.skip ?_;clear hK)|refine WC.region ?_|(apply WL.alloc;(first|exact tzV|exact tzC);(first|exact Zw rfl|exact ZAU|exact shape_C0 rfl);(intro _;dsimp only[ZC,z0,z1]))|(apply ZP;(exact tD);rfl;(exact oD);(exact hD);dsimp only[ZC,z0,z1])|(apply WL.opN;(focus ((first|exact ZBF|exact ZBg|exact ZT|exact ZBQ|fail);all_goals infer_instance));dsimp only[ZC,z0,z1])|(apply ZB;(exact oD);all_goals (intro h;try exact xD))|refine WC.skip ?_|refine WC.exit ?_|refine WC.block ?_|refine ThenD.n ?_));all_goals (first|refine WL.id ?_|((repeat clear hK);(repeat clear Kx))))
    ·have hjl:j<l[i].length:=by omega
     refine ZTV (zv:=((.slice none 0 0,[]):Value × List Int)) rfl ZMZ ZSy (OpD.t rfl) (OpD.t rfl) ⟨fun _ _ _ h=>h⟩ (hs _ hm _ (List.getElem_mem hjl)) g3 (fun q hq hqv=>?_) (fun hne=>?_)
     ·have hq':q<(ZEU M).length:=by unfold ZEU;simpa using hq
      have hrow:(ZEU M)[q]=Zk M[q].2.1 3 RI M[q].2.2:=by simp[ZEU]
      have hlen:=g4 _ (List.getElem_mem hq);refine WL.perm (((List.Perm.cons _ (ZUD _ q hq').symm)).trans (List.Perm.swap _ _ _)) ?_;rw[hrow];dsimp only[ZC,z0,z1];(repeat' (first|((first|apply WL.appK|apply WL.app1);(exact eD);exact OpD.t rfl;(exact oD);decide;(exact lD);(intro _;dsimp only[ZC,z0,z1]);all_goals (try infer_instance))|(apply WL.opN;(focus ((first|exact ZEO|fail);all_goals infer_instance));dsimp only[ZC,z0,z1])))
      rename_i v';refine WL.perm (List.Perm.swap _ _ _) ?_;refine ZOW (u:=(v',M[q].2.2++[(i:Int)])) (OpD.t rfl) (OpD.t rfl) (OpD.t rfl) ⟨fun _ _ _ h=>h⟩ hq ?_;refine WL.perm (List.Perm.cons _ (ZQE M q hq (M[q].1,(v',M[q].2.2++[(i:Int)])))) ?_;dsimp only[ZC];((repeat' (first|(apply WL.opN;exact yF;dsimp only[ZC,z0,z1])|refine WL.nil ?_|(refine hK _ _ ?_;clear hK)|refine WC.region ?_|(apply WL.opN;(focus ((first|exact ZBg|fail);all_goals infer_instance));dsimp only[ZC,z0,z1])|refine ThenD.n ?_));all_goals (first|((repeat clear hK);(repeat clear Kx))))
      (refine zNx (j+1,M.set q (M[q].1,(v',M[q].2.2++[(i:Int)]))) ?_;(try dsimp only))
      refine⟨by omega,?_,?_,?_,?_⟩
      ·rw[ZHG];exact g2
      ·intro p hp;rcases List.mem_or_eq_of_mem_set hp with hp|rfl
       ·exact g3 p hp
       ·exact(show okV M[q].1 from g3 _ (List.getElem_mem hq))
      ·intro p hp;rcases List.mem_or_eq_of_mem_set hp with hp|rfl
       ·have:=g4 p hp;omega
       ·simp only[List.length_append,List.length_cons,List.length_nil];omega
      ·rw[ZPB g2 hq,g5,hqv,<- ZKL]
     ·refine ZEu 3 RI ?_;dsimp only[ZC,z0,z1];(repeat' (first|((first|apply WL.appK|apply WL.app1);(exact eD);exact OpD.t rfl;(exact oD);decide;(exact lD);(intro _;dsimp only[ZC,z0,z1]);all_goals (try infer_instance))|(apply WL.opN;(focus ((first|exact ZEO|fail);all_goals infer_instance));dsimp only[ZC,z0,z1])))
      rename_i v';refine WL.perm (List.Perm.swap _ _ _) ?_;have hlen:M.length<(M++[((l[i][j],((.slice none 0 0,[]):Value × List Int)))]).length:=by simp
      refine ZOW (j:=M.length) (u:=(v',[(i:Int)])) (OpD.t rfl) (OpD.t rfl) (OpD.t rfl) ⟨fun _ _ _ h=>h⟩ hlen ?_;have eset:(M++[((l[i][j],((.slice none 0 0,[]):Value × List Int)))]).set M.length ((M++[((l[i][j],((.slice none 0 0,[]):Value × List Int)))])[M.length].1,(v',[(i:Int)]))=M++[(l[i][j],(v',[(i:Int)]))]:=by simp
      rw[eset];refine WL.perm (List.Perm.cons _ (ZNh M (l[i][j],(v',[(i:Int)])))) ?_;dsimp only[ZC];((repeat' (first|(apply WL.opN;exact yF;dsimp only[ZC,z0,z1])|refine WL.nil ?_|(refine hK _ _ ?_;clear hK)|refine WC.region ?_|(apply WL.opN;(focus ((first|exact ZBg|fail);all_goals infer_instance));dsimp only[ZC,z0,z1])|refine ThenD.n ?_));all_goals (first|((repeat clear hK);(repeat clear Kx))))
      (refine zNx (j+1,M++[(l[i][j],(v',[(i:Int)]))]) ?_;(try dsimp only))
      refine⟨by omega,?_,?_,?_,?_⟩
      ·rw[List.map_append,List.nodup_append];refine⟨g2,by simp,fun a ha c hc=>?_⟩;have:c=l[i][j]:=by simpa using hc
       subst this;obtain⟨p,hp,rfl⟩:=List.mem_map.1 ha;exact hne p hp
      ·intro p hp;rcases List.mem_append.1 hp with hp|hp
       ·exact g3 p hp
       ·rw[List.mem_singleton.1 hp];exact hs _ hm _ (List.getElem_mem hjl)
      ·intro p hp;rcases List.mem_append.1 hp with hp|hp
       ·have:=g4 p hp;omega
       ·rw[List.mem_singleton.1 hp];simp only[List.length_cons,List.length_nil];omega
      ·rw[ZPA hne,g5,<- ZKL]
    ·(refine zNx (i+1,M) ?_;(try dsimp only))
     refine⟨by omega,g2,g3,fun p hp=>by have:=g4 p hp;omega,?_⟩;rw[List.take_of_length_le (show l[i].length≤j by omega)] at g5;show ZDi M=_;rw[g5,<- ZHC (by omega)]
  ·rw[List.take_of_length_le (by omega)] at h5;rw[<- h5];exact⟨trivial,_,rfl,FinD.map (.head _) fun p hp=>.tail _ (List.mem_map_of_mem (f:=fun p:Vx × Value × List Int=>Zk p.2.1 3 RI p.2.2) hp)⟩
end
section
open Go.RowKit
section
variable {P:Program} {ops:Array Oper} {hp:List HObj} {o:Oper} {fr:List Dat} {d:Dat} {Q:Z5} {rest:List Oper}
variable {dst:Option Tmp} {ty:TypeId} {ps:String} {af:Array Edge} {g:Option (Nat × Bool)} {e:TypeId} {b:Nat} {T1 T2:TypeId} {v v':Value} {α:Type} {R:Rel α} {_gR:Good R} {xs:List α}
abbrev hC1 (b:Nat) (T:TypeId) (v:Value):HObj:=Zm b T 1 true (dX (.agg #[v]))
theorem ZFQ {c0:Prop} (hm:Zk v e R xs∈hp) (hc:(∃a c,v = .slice a xs.length c)->c0) (h:c0->WL P ops Q rest fr hp):WL P ops Q rest fr hp:=WL.of fun _ _ _ _ _ hh hf=>by
 refine(h (hc ?_)).on hh hf;obtain⟨us,_,⟨_,hv⟩,_⟩:=hh.ok (Zk v e R xs) hm;rcases hv with ⟨hv,h0⟩|⟨g,cap,cur,hv,_⟩
 ·exact⟨_,_,by rw[hv,h0]⟩
 ·exact⟨_,_,hv⟩
end
end
section
open Go.RowKit

theorem ZIZ (xs:List Vx) (hl:xs.length≤1000):Fn Tryz.prog 47 [dS ZM xs] (dS ZM xs):=by
 (refine ZE Tryz.func47 rfl rfl ?_;simp only[Tryz.ntmps47,List.length_cons,List.length_nil,Nat.reduceAdd,Nat.reduceSub,List.replicate_succ,List.replicate_zero,List.cons_append,List.nil_append])
 ((repeat' (first |  (refine ZIQ 4 rfl fun b hb=>?_;dsimp only[z0,z1])|(apply WL.opN;exact yF;dsimp only[ZC,z0,z1])|refine WL.nil ?_|refine ZA fun Kx hK=>?_|(refine hK _ _ ?_;clear hK)|refine WC.region ?_ |  (apply ZC0 elV RV (by decide);(intro _;dsimp only[ZC,z0,z1]);all_goals (try infer_instance))|((first|apply WL.appK|apply WL.app1);(exact eD);exact OpD.t rfl;(exact oD);decide;(exact lD);(intro _;dsimp only[ZC,z0,z1]);all_goals (try infer_instance))|(apply WL.opN;(focus ((first|(apply ZIK;exact OpD.t rfl;(exact fun _ _ _ h=>ZVM h);exact ZDw;exact ZPJ)|fail);all_goals infer_instance));dsimp only[ZC,z0,z1])|(apply WC.cond;(exact oD);all_goals (intro h;try exact xD))|refine WC.skip ?_|refine WC.ret ?_|refine ThenD.r ?_));all_goals (first|((repeat clear hK);(repeat clear Kx))))
 ·rw[hb h];(refine⟨trivial,_,rfl,?_⟩;exact fD)
 ·rw[List.nil_append];(refine⟨trivial,_,rfl,?_⟩;exact fD)
theorem ZR2 {s:List Vx} (h:ZAC s=0):∀v∈s,okV v:=fun v hv=>by
 have:=ZMl.1 ((Zi.1 h).2.2.1 v hv);unfold okV ZUg;omega
theorem ZGy {l:Cx}:∀n,n≤l.length->((ZJR (l.take n)).map (·.1)).Nodup/\∀v,v∈(ZJR (l.take n)).map (·.1)->∃s∈l,v∈s:=by
 have put:∀(m:List (Vx × List Int)) (v:Vx) (i:Int),(m.map (·.1)).Nodup->((ZM6 m v i).map (·.1)).Nodup/\∀u,u∈(ZM6 m v i).map (·.1)->u=v\/u∈m.map (·.1):=by
  intro m v i hm;unfold ZM6 ZCI;split
  ·rename_i h;have e:(m.map fun p=>if p.1=v then(v,(lookM m v).getD []++[i]) else p).map (·.1)=m.map (·.1):=by
    rw[List.map_map];refine List.map_congr_left fun p _=>?_;show(if p.1=v then(v,(lookM m v).getD []++[i]) else p).1=p.1;split
    ·rename_i h;exact h.symm
    ·rfl
   rw[e];exact⟨hm,fun u hu=>.inr hu⟩
  ·rename_i h;rw[List.map_append];refine⟨?_,fun u hu=>?_⟩
   ·rw[List.nodup_append];refine⟨hm,by simp,fun a ha b hb=>?_⟩;have:b=v:=by simpa using hb
    subst this;intro hab;subst hab;obtain⟨p,hp,hpv⟩:=List.mem_map.1 ha;apply h;unfold lookM;rw[Option.isSome_map];rw[List.find?_isSome];exact⟨p,hp,by simpa using hpv⟩
   ·rcases List.mem_append.1 hu with hu|hu
    ·exact .inr hu
    ·exact .inl (by simpa using hu)
 have all:∀(s:List Vx) (m:List (Vx × List Int)) (i:Int),(m.map (·.1)).Nodup->((ZPX m s i).map (·.1)).Nodup/\∀u,u∈(ZPX m s i).map (·.1)->u∈s\/u∈m.map (·.1):=by
  intro s;induction s with
  | nil=>intro m i hm;exact⟨hm,fun u hu=>.inr hu⟩
  | cons v s ih =>
   intro m i hm;obtain⟨h1,h2⟩:=put m v i hm;obtain⟨h3,h4⟩:=ih (ZM6 m v i) i h1;refine⟨h3,fun u hu=>?_⟩;rcases h4 u hu with h|h
   ·exact .inl (by simp[h])
   ·rcases h2 u h with h|h
    ·exact .inl (by simp[h])
    ·exact .inr h
 intro n;induction n with
 | zero=>intro _;exact⟨by simp[ZJR],fun v hv=>by simp[ZJR] at hv⟩
 | succ n ih =>
  intro hn;obtain⟨h1,h2⟩:=ih (by omega);rw[ZHC (by omega)];obtain⟨h3,h4⟩:=all l[n] (ZJR (l.take n)) (n:Int) h1;refine⟨h3,fun v hv=>?_⟩;rcases h4 v hv with h|h
  ·exact⟨l[n],List.getElem_mem _,h⟩
  ·exact h2 v h
theorem ZNU (l:Cx):((ZJR l).map (·.1)).Nodup:=by
 have:=(ZGy (l:=l) l.length (Nat.le_refl _)).1;rwa[List.take_length] at this
theorem ZTu {l:Cx} (h:∀s∈l,ZAC s=0):∀p∈ZJR l,okV p.1:=fun p hp=>by
 have:=(ZGy (l:=l) l.length (Nat.le_refl _)).2 p.1;rw[List.take_length] at this;obtain⟨s,hs,hv⟩:=this (List.mem_map_of_mem hp);exact ZR2 (h s hs) _ hv
theorem isKV {x:Vx}:IsV (dS RV x) (kvV x):=⟨fun _ _ _ h=>h⟩
theorem ZUL {s:List Vx} (h:ZAC s=0):0<s.length:=by have:=Zi.1 h;omega
theorem ZHD {s:List Vx} (h:ZAC s=0):s.length≤8:=by have:=Zi.1 h;omega
end
section
open Go.RowKit

theorem ZRV {l:Cx} {p:List Vx->Bool} {k:Nat} (h:k<l.length):(l.take (k+1)).any p=((l.take k).any p || p l[k]):=by rw[Zf h,List.any_append];simp
theorem ZCg (l:Cx):Fn Tryz.prog 43 [dS Cpx l] (dI (ZBB l)):=by
 (refine ZE Tryz.func43 rfl rfl ?_;simp only[Tryz.ntmps43,List.length_cons,List.length_nil,Nat.reduceAdd,Nat.reduceSub,List.replicate_succ,List.replicate_zero,List.cons_append,List.nil_append])
 ((repeat' (first|((first|apply WL.opN|apply WD.opN);exact yF;dsimp only[ZC,z0,z1])|refine WL.nil ?_|refine ZA fun Kx hK=>?_|(refine hK _ _ ?_;clear hK)|refine WC.region ?_|((first|apply ZF|apply WD.op);(focus (first|exact wN|(apply SYG.yes;(exact wY);((first|exact ZFN|exact ZA3|exact Z3|exact ZEN|fail);all_goals infer_instance))));dsimp only[ZC,z0,z1])|(apply ZB;(exact oD);all_goals (intro h;try exact xD))|refine WC.skip ?_|refine WC.ret ?_|refine WC.block ?_|refine ThenD.r ?_));all_goals (first|refine WC.id ?_|((repeat clear hK);(repeat clear Kx))))
 ·(refine⟨trivial,_,rfl,?_⟩;refine FinD.i ?_)
  unfold ZBB;rw[if_pos (by omega)]
 ·have hs:ZBB l=if ZEf none l≠0 then ZEf none l else if ZB3 l=true then 7 else 0:=by unfold ZBB;rw[if_neg (by omega)]
  (refine WC.loopU (X:=Nat) (fun k=>[(16,dI (k:Int)),(2,dA),(3,dA),(4,dA),(5,dA),(17,dA),(18,dA),(19,dA),(20,dA),(21,dA),(22,dA),(23,dA),(24,dA),(25,dA),(26,dA),(27,dA),(28,dA),(29,dA),(30,dA),(31,dA),(32,dA),(33,dA),(34,dA),(35,dA),(36,dA),(37,dA),(38,dA),(39,dA)]) (fun k=>[]) (fun k=>l.length-k) (fun k=>k≤l.length/\ZEf none l=ZEf (l.take k).getLast? (l.drop k)) 0 ?start ?frame0 ?objs0 ?round)
  case start=>exact⟨Nat.zero_le _,rfl⟩
  case frame0=>exact zFr
  case objs0=>rfl
  case round =>
   rintro k ⟨h3,h4⟩;dsimp only[ZL,z0,z1];((repeat' (first|((first|apply WL.opN|apply WD.opN);exact yF;dsimp only[ZC,z0,z1])|refine WL.nil ?_|refine ZA fun Kx hK=>?_|(refine hK _ _ ?_;clear hK)|(refine Kont.skip ?_;clear hK)|refine WC.region ?_|((first|apply ZF|apply WD.op);(focus (first|exact wN|(apply SYG.yes;(exact wY);((first|(apply SY.call (ZHx _ _) Tryz.call80;(exact aD))|(apply SY.call (ZND _) Tryz.call39;(exact aD))|(apply ZOA ZB9 (OpD.t rfl) (OpD.t rfl) (k-1);omega;omega)|exact ZCX|exact ZBF|exact ZFN|exact ZNu|exact ZEn|exact ZBg|exact ZLw|exact ZDf|exact ZT|exact Z3|exact ZCV|fail);all_goals infer_instance))));dsimp only[ZC,z0,z1])|((first|refine ZK rfl rfl rfl (fun h=>?_) (fun h=>?_)|refine ZJ rfl rfl rfl (fun h=>?_) (fun h=>?_)|refine ZI rfl rfl rfl (fun h=>?_) (fun h=>?_)|refine ZW rfl rfl rfl (fun h=>?_) (fun h=>?_)|refine ZU rfl rfl rfl (fun h=>?_) (fun h=>?_)|refine ZS rfl rfl rfl (fun h=>?_) (fun h=>?_)) <;> (first|(exfalso;first|omega|contradiction)|(dsimp only[z0,z1])))|(apply ZQ;(exact oD);(with_reducible rfl))|(apply ZB;(exact oD);all_goals (intro h;try exact xD))|(apply ZG;(exact oD);all_goals (intro h;try exact xD))|refine WC.skip ?_|refine WC.ret ?_|refine WC.exit ?_|refine WC.block ?_|refine ThenD.n ?_|refine ThenD.r ?_|refine InBlockD.r ?_));all_goals (first|refine WL.id ?_|((repeat clear hK);(repeat clear Kx))))
   all_goals try (rw[ZGt l k (by omega)] at h4)
   ·(refine⟨trivial,_,rfl,?_⟩;refine FinD.i ?_)
    rw[hs,h4,if_pos h,if_pos h]
   ·(refine⟨trivial,_,rfl,?_⟩;refine FinD.i ?_)
    have h5:¬ ZAC l[k]≠0:=by omega
    rw[if_neg h5,ZCF _ _ (by omega) (by omega),if_pos (by simpa using h)] at h4;rw[hs,h4];rfl
   ·(refine zNx (k+1) ?_;(try dsimp only))
    refine⟨by omega,?_⟩;have h5:¬ ZAC l[k]≠0:=by omega
    rw[h4,if_neg h5,ZCF _ _ (by omega) (by omega),if_neg (by simpa using h)]
   ·(refine zNx (k+1) ?_;(try dsimp only))
    refine⟨by omega,?_⟩;have h5:¬ ZAC l[k]≠0:=by omega
    have h0:(l.take k).getLast?=none:=by
     have:k=0:=by omega
     rw[this];rfl
    rw[h4,if_neg h5,h0];rfl
   ·rw[List.drop_of_length_le (by omega)] at h4;have h4':ZEf none l=0:=h4;have hs':ZBB l=if ZB3 l=true then 7 else 0:=by rw[hs,if_neg (by omega)]
    clear hs h4;obtain⟨ha,_,hg⟩:=ZIY l none h4';rw[ZHS ha hg] at hs';have hl1:l.length≤1000000:=by omega
    (repeat' (first|((first|apply WL.opN|apply WD.opN);exact yF;dsimp only[ZC,z0,z1])|refine WL.nil ?_|refine ZA fun Kx hK=>?_|(refine hK _ _ ?_;clear hK)|refine WC.region ?_|((first|apply ZF|apply WD.op);(focus (first|exact wN|(apply SYG.yes;(exact wY);((first|(apply SY.call (ZLZ l hl1 (fun s hs=>ZR2 (hg s hs)) (fun s hs=>Nat.le_trans (ZHD (hg s hs)) (by decide))) Tryz.call81;(exact aD))|exact ZA3|exact Z3|fail);all_goals infer_instance))));dsimp only[ZC,z0,z1])|refine WC.block ?_))
    (refine WC.loopU (X:=Nat) (fun i=>[(46,dI (i:Int)),(2,dA),(8,dA),(47,dA),(48,dA),(49,dA),(50,dA),(51,dA),(52,dA),(53,dA),(54,dA),(55,dA),(56,dA),(57,dA),(58,dA),(59,dA)]) (fun i=>[]) (fun i=>l.length-i) (fun i=>i≤l.length/\(l.take i).any (fun s=>ZEB l s)=false) 0 ?start ?frame0 ?objs0 ?round)
    case start=>exact⟨Nat.zero_le _,rfl⟩
    case frame0=>exact zFr
    case objs0=>rfl
    case round =>
     rintro i ⟨h5,h6⟩;dsimp only[ZL,z0,z1];((repeat' (first|((first|apply WL.opN|apply WD.opN);exact yF;dsimp only[ZC,z0,z1])|refine WL.nil ?_|refine WD.nil ?_|refine ZA fun Kx hK=>?_|(refine hK _ _ ?_;clear hK)|(refine Kont.skip ?_;clear hK)|refine WC.region ?_|(apply WC.draw;kernel_rfl;kernel_rfl)|((first|apply ZF|apply WD.op);(focus (first|exact wN|(apply SYG.yes;(exact wY);((first|(apply ZGd elV (OpD.t rfl) OpD.i 0 rfl;exact ZUL (hg _ (List.getElem_mem _)))|(refine ZEq (a0:=([]:List Int)) ZMZ ZSy (OpD.t rfl) (OpD.t rfl) isKV (ZR2 (hg _ (List.getElem_mem _)) _ (List.getElem_mem _)) (ZTu hg) (ZNU l) (fun _ _=>ZB5))|(apply SY.call (ZNI _ _ _ ZTa) Tryz.call82;(exact aD))|exact ZBF|exact ZBg|exact ZT|exact Z3|fail);all_goals infer_instance))));dsimp only[ZC,z0,z1])|(apply ZB;(exact oD);all_goals (intro h;try exact xD))|(apply WC.cond;(exact oD);all_goals (intro h;try exact xD))|refine WC.skip ?_|refine WC.ret ?_|refine WC.exit ?_|refine WC.block ?_|refine ThenD.n ?_|refine ThenD.r ?_|refine InBlockD.r ?_));all_goals (first|((repeat clear hK);(repeat clear Kx))))
     ·rw[ZSm hg (hg _ (List.getElem_mem (show i<l.length by omega))) (List.getElem_mem _)] at h;(refine⟨trivial,_,rfl,?_⟩;refine FinD.i ?_)
      rw[hs',if_pos];exact List.any_eq_true.2 ⟨l[i],List.getElem_mem _,h⟩
     ·rw[ZSm hg (hg _ (List.getElem_mem (show i<l.length by omega))) (List.getElem_mem _)] at h;(refine zNx (i+1) ?_;(try dsimp only))
      exact⟨by omega,by rw[ZRV (by omega),h6,h];rfl⟩
     ·rw[List.take_of_length_le (by omega)] at h6;(refine⟨trivial,_,rfl,?_⟩;refine FinD.i ?_)
      rw[hs',if_neg (by rw[h6];decide)]
end
section
open Go.RowKit

section
variable {P:Program}
theorem ZFC {fn:Func} {t u v:Tmp} (h:fn.results=#[.tmp t,.tmp u,.tmp v]) (tmps:Array Value) (w:World):(results fn tmps).run P w = .ok (.tuple #[tmps.getD t undef,tmps.getD u undef,tmps.getD v undef]) w:=by
 simp[results,h]
end
def plC (l:Cx) (s:List Vx):Int:=if ZBB l≠0 then ZBB l else ZAC s
theorem ZKb (l:Cx) (s:List Vx):Fn Tryz.prog 128 [dS Cpx l,dS ZM s] (dI (plC l s)):=by
 (refine ZE Tryz.func128 rfl rfl ?_;simp only[Tryz.ntmps128,List.length_cons,List.length_nil,Nat.reduceAdd,Nat.reduceSub,List.replicate_succ,List.replicate_zero,List.cons_append,List.nil_append])
 ((repeat' (first|(apply WL.opN;exact yF;dsimp only[ZC,z0,z1])|refine WL.nil ?_|refine ZA fun Kx hK=>?_|(refine hK _ _ ?_;clear hK)|refine WC.region ?_|(apply WL.opN;(focus ((first|(apply SY.call (ZCg _) Tryz.call43;(exact aD))|(apply SY.call (ZND _) Tryz.call39;(exact aD))|exact ZEn|exact ZEN|fail);all_goals infer_instance));dsimp only[ZC,z0,z1])|(apply ZG;(exact oD);all_goals (intro h;try exact xD))|refine WC.skip ?_|refine WC.ret ?_|refine ThenD.r ?_));all_goals (first|((repeat clear hK);(repeat clear Kx))))
 all_goals ((refine⟨trivial,_,rfl,?_⟩;refine FinD.i ?_) <;> ((unfold plC;(repeat' split)) <;> (first|rfl|(exfalso;first|contradiction|omega)|(simp_all;done))))
theorem ZI2 {l:Cx} {s:List Vx} (h:plC l s=0):GoodX l/\ZAC s=0:=by
 unfold plC at h;by_cases h1:ZBB l≠0
 ·rw[if_pos h1] at h;exact absurd h h1
 ·rw[if_neg h1] at h;exact⟨ZAY.1 (by omega),h⟩
theorem GoodX.len {l:Cx} (h:GoodX l):l.length≤1000000:=Nat.le_trans h.1 (by decide)
theorem GoodX.short {l:Cx} (h:GoodX l):∀s∈l,s.length≤8:=fun s hs=>ZHD (h.2.2.1 s hs)
theorem ZOp {l:Cx} {s:List Vx} (h:plC l s=0):l.filter (ZBu s)=ZIV l s:=ZOo (ZI2 h).1.asc (Zi.1 (ZI2 h).2).2.2.2
def ZEg (l:Cx) (s:List Vx):Bool × Int:=if plC l s≠0 then(false,plC l s) else(ZBm l s,0)
theorem ZDp (l:Cx) (s:List Vx):Fn Tryz.prog 92 [dS Cpx l,dS ZM s] (dT [dB (ZEg l s).1,dI (ZEg l s).2]):=by
 (refine Z9 Tryz.func92 rfl rfl ?_;simp only[Tryz.ntmps92,List.length_cons,List.length_nil,Nat.reduceAdd,Nat.reduceSub,List.replicate_succ,List.replicate_zero,List.cons_append,List.nil_append])
 by_cases h0:plC l s=0
 ·have e:ZEg l s=(ZBm l s,0):=by unfold ZEg;rw[if_neg (by omega)]
  ((repeat' (first|(apply WL.opN;exact yF;dsimp only[ZC,z0,z1])|refine WL.nil ?_|refine ZA fun Kx hK=>?_|(refine hK _ _ ?_;clear hK)|refine WC.region ?_|(apply WL.opN;(focus ((first|(apply SY.call (ZKb _ _) Tryz.call128;(exact aD))|(apply SY.call (ZRW _ _ (ZI2 h0).1.len) Tryz.call129;(exact aD))|exact ZFN|exact ZEn|exact ZA3|exact ZEN|fail);all_goals infer_instance));dsimp only[ZC,z0,z1])|(apply ZG;(exact oD);all_goals (intro h;try exact xD))|refine WC.skip ?_|refine WC.ret ?_));all_goals (first|((repeat clear hK);(repeat clear Kx))))
  rw[e,ZNT,<- ZOp h0];(refine⟨trivial,⟨_,rfl,?_⟩,_,rfl,?_⟩ <;> (first|exact fD|refine FinD.b ?_));simp
 ·have e:ZEg l s=(false,plC l s):=by unfold ZEg;rw[if_pos h0]
  ((repeat' (first|(apply WL.opN;exact yF;dsimp only[ZC,z0,z1])|refine WL.nil ?_|refine ZA fun Kx hK=>?_|(refine hK _ _ ?_;clear hK)|refine WC.region ?_|(apply WL.opN;(focus ((first|(apply SY.call (ZKb _ _) Tryz.call128;(exact aD))|exact ZEn|exact ZEN|fail);all_goals infer_instance));dsimp only[ZC,z0,z1])|(apply ZG;(exact oD);all_goals (intro h;try exact xD))|refine WC.ret ?_|refine ThenD.r ?_));all_goals (first|((repeat clear hK);(repeat clear Kx))))
  rw[e];(refine⟨trivial,⟨_,rfl,?_⟩,_,rfl,?_⟩ <;> exact fD)
end
end Go.Proofs.YtofkoleingbbpaaGreatDoor
