/- Part 27: walks by contracts, and plain laws. -/
import Derived.Test.YtlgmojhmmbhgfaaGreatDoorVg25
import Derived.Test.YtlgmojhmmbhgfaaGreatDoorVg26
set_option linter.unusedVariables false
set_option linter.unusedSimpArgs false
set_option linter.unusedSectionVars false
set_option maxRecDepth 100000
set_option maxHeartbeats 4000000
namespace Go.Proofs.YtlgmojhmmbhgfaaGreatDoor
section
open Go.RowKit

theorem ZHv:MapT Tryz.prog 110 43 50 (.slice none 0 0):=⟨Tryz.underlying110,fun w=>by kernel_rfl⟩
abbrev ZPS:=List (Vx × Value × List Int)
abbrev hI (b:Nat) (M:ZPS):HObj:=hM b kvV (fun p:Value × List Int=>p.1) M
def ZDv (M:ZPS):List HObj:=M.map fun p=>ZW p.2.1 3 RI p.2.2
def ZC4 (M:ZPS):List (Vx × List Int):=M.map fun p=>(p.1,p.2.2)
theorem ZMB (M:ZPS):(ZC4 M).map (·.1)=M.map (·.1):=by unfold ZC4;rw [List.map_map];rfl
theorem ZH2 {α:Type} (a:α):∀ (l:List α) (q:Nat),q<l.length->(a::l.eraseIdx q).Perm (l.set q a)
 | [],q,h=>by simp at h
 | x::l,0,_=>by simp
 | x::l,q+1,h=>by
  simp only [List.eraseIdx_cons_succ,List.set_cons_succ]
  exact (List.Perm.swap _ _ _).trans (List.Perm.cons _ (ZH2 a l q (by simpa using h)))
theorem ZS7 {α:Type} (l:List α) (q:Nat) (h:q<l.length):(l[q]::l.eraseIdx q).Perm l:=by
 have:=ZH2 l[q] l q h
 rwa [List.set_getElem_self] at this
theorem ZKI {α β:Type} (M:List (α × β)) (q:Nat) (h:q<M.length) (u:β):(M.set q (M[q].1,u)).map (·.1)=M.map (·.1):=by
 rw [List.map_set]
 have:(M.map (·.1))[q]'(by simpa using h)=M[q].1:=by simp
 rw [<- this,List.set_getElem_self]
theorem ZNi {M:ZPS} (hn:(M.map (·.1)).Nodup) {q:Nat} (h:q<M.length) (v':Value) (i:Int):ZC4 (M.set q (M[q].1,(v',M[q].2.2++[i])))=ZL5 (ZC4 M) M[q].1 i:=by
 have hl:q<(ZC4 M).length:=by simpa [ZC4] using h
 have e1:(ZC4 M)[q]=(M[q].1,M[q].2.2):=by simp [ZC4]
 have hn':((ZC4 M).map (·.1)).Nodup:=by rw [ZMB];exact hn
 have h2:=lookM_some hn' hl
 have h3:=ZLl hn' (v:=M[q].2.2++[i]) hl
 rw [e1] at h2 h3
 unfold ZL5
 rw [h2]
 show _=ZBy (ZC4 M) M[q].1 (M[q].2.2++[i])
 rw [h3]
 unfold ZC4
 rw [List.map_set]
theorem ZNh {M:ZPS} {v:Vx} (hne:∀ p∈M,p.1≠v) (v':Value) (i:Int):ZC4 (M++[(v,(v',[i]))])=ZL5 (ZC4 M) v i:=by
 have hne':∀ p∈ZC4 M,p.1≠v:=fun p hp=>by
  obtain ⟨q,hq,rfl⟩:=List.mem_map.1 hp
  exact hne q hq
 unfold ZL5
 rw [ZE3 hne',ZDp hne']
 simp [ZC4]
theorem ZO2 (M:ZPS) (q:Nat) (h:q<M.length) (p:Vx × Value × List Int):(ZW p.2.1 3 RI p.2.2::(ZDv M).eraseIdx q).Perm (ZDv (M.set q p)):=by
 have:=ZH2 (ZW p.2.1 3 RI p.2.2) (ZDv M) q (by simpa [ZDv] using h)
 have e:ZDv (M.set q p)=(ZDv M).set q (ZW p.2.1 3 RI p.2.2):=by unfold ZDv;rw [List.map_set]
 rw [e];exact this
theorem ZMT (M:ZPS) (p:Vx × Value × List Int):(ZW p.2.1 3 RI p.2.2::ZDv M).Perm (ZDv (M++[p])):=by
 unfold ZDv
 rw [List.map_append]
 exact (List.perm_append_singleton _ _).symm
theorem ZGL (l:Cx) (hl:l.length≤1000000) (hs:∀ s∈l,∀ v∈s,okV v) (h8:∀ s∈l,s.length≤1000):Fn Tryz.prog 74 [dS Zc l] (dS (ZKc kvV ZBt) (ZIL l)):=by
 (refine ZG Tryz.func74 rfl rfl ?_;simp only [Tryz.ntmps74,List.length_cons,List.length_nil,Nat.reduceAdd,Nat.reduceSub,List.replicate_succ,List.replicate_zero,List.cons_append,List.nil_append])
 (repeat' (first|(apply WL.opN;exact yF;dsimp only [ZB,z0,z1])|refine WL.nil ?_|refine ZA fun Kx hK=>?_|(refine hK _ _ ?_;clear hK)|refine WC.region ?_ |  (refine WL.makeMap kvV (fun p:Value × List Int=>p.1) fun b=>?_;dsimp only [ZB,z0,z1])|(apply WL.opN;(focus ((first|exact ZBs|fail);all_goals infer_instance));dsimp only [ZB,z0,z1])|refine WC.block ?_))
 (refine WC.loopU (X:=Nat × ZPS) (fun x=>[(11,dI (x.1:Int)),(4,dA),(5,dA),(7,dA),(12,dA),(13,dA),(14,dA),(15,dA),(16,dA),(17,dA),(18,dA),(19,dA),(20,dA),(21,dA),(22,dA),(23,dA),(24,dA),(25,dA),(26,dA),(27,dA),(28,dA),(29,dA),(30,dA),(31,dA)]) (fun x=>hI b x.2::ZDv x.2) (fun x=>l.length-x.1) (fun x=>x.1≤l.length/\(x.2.map (·.1)).Nodup/\(∀ p∈x.2,okV p.1)/\(∀ p∈x.2,p.2.2.length≤2000*x.1)/\ZC4 x.2=ZIL (l.take x.1)) (0,[]) ?start ?frame0 ?objs0 ?round)
 case start=>exact ⟨Nat.zero_le _,by simp,by simp,by simp,rfl⟩
 case frame0=>((try dsimp only [ZK,z0,z1]);repeat (first|exact LeF.nil|refine ZD (k:=?_)))
 case objs0=>rfl
 case round =>
  rintro ⟨i,M⟩ ⟨h1,h2,h3,h4,h5⟩
  simp only at h1 h2 h3 h4 h5
  dsimp only [ZK,z0,z1]
  ((repeat' (first|(apply WL.opN;exact yF;dsimp only [ZB,z0,z1])|refine WL.nil ?_|refine ZA fun Kx hK=>?_|(refine hK _ _ ?_;clear hK)|(refine Kont.skip ?_;clear hK)|refine WC.region ?_|(apply WL.opN;(focus ((first|exact ZCJ|exact ZBs|exact ZX|fail);all_goals infer_instance));dsimp only [ZB,z0,z1])|(apply ZC;(exact oD);all_goals (intro h;try exact xD))|refine WC.skip ?_|refine WC.ret ?_|refine WC.exit ?_|refine WC.block ?_));all_goals (first|refine WC.id ?_|((repeat clear hK);(repeat clear Kx))))
  ·have hm:=List.getElem_mem (show i<l.length by omega)
   have h8m:=h8 _ hm
   (refine WC.loopU (X:=Nat × ZPS) (fun x=>[(18,dI (x.1:Int)),(7,dA),(19,dA),(20,dA),(21,dA),(22,dA),(23,dA),(24,dA),(25,dA),(26,dA),(27,dA),(28,dA),(29,dA),(30,dA)]) (fun x=>hI b x.2::ZDv x.2) (fun x=>l[i].length-x.1) (fun x=>x.1≤l[i].length/\(x.2.map (·.1)).Nodup/\(∀ p∈x.2,okV p.1)/\(∀ p∈x.2,p.2.2.length≤2000*i+x.1)/\ZC4 x.2=ZN6 (ZIL (l.take i)) (l[i].take x.1) (i:Int)) (0,M) ?start ?frame0 ?objs0 ?round)
   case start=>exact ⟨Nat.zero_le _,h2,h3,h4,h5⟩
   case frame0=>((try dsimp only [ZK,z0,z1]);repeat (first|exact LeF.nil|refine ZD (k:=?_)))
   case objs0=>rfl
   case round =>
    rintro ⟨j,M⟩ ⟨g1,g2,g3,g4,g5⟩
    simp only at g1 g2 g3 g4 g5
    dsimp only [ZK,z0,z1]
    ((repeat' (first|(apply WL.opN;exact yF;dsimp only [ZB,z0,z1])|refine WL.nil ?_|refine ZA fun Kx hK=>?_|(refine hK _ _ ?_;clear hK)|(refine Kont.skip ?_;clear hK)|refine WC.region ?_|(apply WL.alloc;(first|exact tzV|exact tzC);(first|exact ZY rfl|exact ZAF|exact Zy rfl);(intro _;dsimp only [ZB,z0,z1]))|(apply ZN;(exact tD);rfl;(exact oD);(exact hD);dsimp only [ZB,z0,z1])|(apply WL.opN;(focus ((first|exact ZCJ|exact ZC1|exact ZX|exact ZCI|fail);all_goals infer_instance));dsimp only [ZB,z0,z1])|(apply ZC;(exact oD);all_goals (intro h;try exact xD))|refine WC.skip ?_|refine WC.exit ?_|refine WC.block ?_|refine ThenD.n ?_));all_goals (first|refine WL.id ?_|((repeat clear hK);(repeat clear Kx))))
    ·have hjl:j<l[i].length:=by omega
     refine ZSF (zv:=((.slice none 0 0,[]):Value × List Int)) rfl ZHv ZGN (OpD.t rfl) (OpD.t rfl) ⟨fun _ _ _ h=>h⟩ (hs _ hm _ (List.getElem_mem hjl)) g3 (fun q hq hqv=>?_) (fun hne=>?_)
     ·have hq':q<(ZDv M).length:=by unfold ZDv;simpa using hq
      have hrow:(ZDv M)[q]=ZW M[q].2.1 3 RI M[q].2.2:=by simp [ZDv]
      have hlen:=g4 _ (List.getElem_mem hq)
      refine WL.perm (((List.Perm.cons _ (ZS7 _ q hq').symm)).trans (List.Perm.swap _ _ _)) ?_
      rw [hrow]
      dsimp only [ZB,z0,z1]
      (repeat' (first|((first|apply WL.appK|apply WL.app1);(exact eD);exact OpD.t rfl;(exact oD);decide;(exact lD);(intro _;dsimp only [ZB,z0,z1]);all_goals (try infer_instance))|(apply WL.opN;(focus ((first|exact ZLz|fail);all_goals infer_instance));dsimp only [ZB,z0,z1])))
      rename_i v'
      refine WL.perm (List.Perm.swap _ _ _) ?_
      refine ZMx (u:=(v',M[q].2.2++[(i:Int)])) (OpD.t rfl) (OpD.t rfl) (OpD.t rfl) ⟨fun _ _ _ h=>h⟩ hq ?_
      refine WL.perm (List.Perm.cons _ (ZO2 M q hq (M[q].1,(v',M[q].2.2++[(i:Int)])))) ?_
      dsimp only [ZB]
      ((repeat' (first|(apply WL.opN;exact yF;dsimp only [ZB,z0,z1])|refine WL.nil ?_|(refine hK _ _ ?_;clear hK)|refine WC.region ?_|(apply WL.opN;(focus ((first|exact ZC1|fail);all_goals infer_instance));dsimp only [ZB,z0,z1])|refine ThenD.n ?_));all_goals (first|((repeat clear hK);(repeat clear Kx))))
      (refine ⟨(j+1,M.set q (M[q].1,(v',M[q].2.2++[(i:Int)]))),?_,by first|omega|(simp only;omega),rfl,?_⟩;rotate_left;((try dsimp only [ZK,z0,z1]);repeat (first|exact LeF.nil|refine ZD (k:=?_)));(try dsimp only))
      refine ⟨by omega,?_,?_,?_,?_⟩
      ·rw [ZKI];exact g2
      ·intro p hp
       rcases List.mem_or_eq_of_mem_set hp with hp|rfl
       ·exact g3 p hp
       ·exact (show okV M[q].1 from g3 _ (List.getElem_mem hq))
      ·intro p hp
       rcases List.mem_or_eq_of_mem_set hp with hp|rfl
       ·have:=g4 p hp;omega
       ·simp only [List.length_append,List.length_cons,List.length_nil];omega
      ·rw [ZNi g2 hq,g5,hqv,<- ZJF]
     ·refine ZBG 3 RI ?_
      dsimp only [ZB,z0,z1]
      (repeat' (first|((first|apply WL.appK|apply WL.app1);(exact eD);exact OpD.t rfl;(exact oD);decide;(exact lD);(intro _;dsimp only [ZB,z0,z1]);all_goals (try infer_instance))|(apply WL.opN;(focus ((first|exact ZLz|fail);all_goals infer_instance));dsimp only [ZB,z0,z1])))
      rename_i v'
      refine WL.perm (List.Perm.swap _ _ _) ?_
      have hlen:M.length<(M++[((l[i][j],((.slice none 0 0,[]):Value × List Int)))]).length:=by simp
      refine ZMx (j:=M.length) (u:=(v',[(i:Int)])) (OpD.t rfl) (OpD.t rfl) (OpD.t rfl) ⟨fun _ _ _ h=>h⟩ hlen ?_
      have eset:(M++[((l[i][j],((.slice none 0 0,[]):Value × List Int)))]).set M.length ((M++[((l[i][j],((.slice none 0 0,[]):Value × List Int)))])[M.length].1,(v',[(i:Int)]))=M++[(l[i][j],(v',[(i:Int)]))]:=by simp
      rw [eset]
      refine WL.perm (List.Perm.cons _ (ZMT M (l[i][j],(v',[(i:Int)])))) ?_
      dsimp only [ZB]
      ((repeat' (first|(apply WL.opN;exact yF;dsimp only [ZB,z0,z1])|refine WL.nil ?_|(refine hK _ _ ?_;clear hK)|refine WC.region ?_|(apply WL.opN;(focus ((first|exact ZC1|fail);all_goals infer_instance));dsimp only [ZB,z0,z1])|refine ThenD.n ?_));all_goals (first|((repeat clear hK);(repeat clear Kx))))
      (refine ⟨(j+1,M++[(l[i][j],(v',[(i:Int)]))]),?_,by first|omega|(simp only;omega),rfl,?_⟩;rotate_left;((try dsimp only [ZK,z0,z1]);repeat (first|exact LeF.nil|refine ZD (k:=?_)));(try dsimp only))
      refine ⟨by omega,?_,?_,?_,?_⟩
      ·rw [List.map_append,List.nodup_append]
       refine ⟨g2,by simp,fun a ha c hc=>?_⟩
       have:c=l[i][j]:=by simpa using hc
       subst this
       obtain ⟨p,hp,rfl⟩:=List.mem_map.1 ha
       exact hne p hp
      ·intro p hp
       rcases List.mem_append.1 hp with hp|hp
       ·exact g3 p hp
       ·rw [List.mem_singleton.1 hp];exact hs _ hm _ (List.getElem_mem hjl)
      ·intro p hp
       rcases List.mem_append.1 hp with hp|hp
       ·have:=g4 p hp;omega
       ·rw [List.mem_singleton.1 hp];simp only [List.length_cons,List.length_nil];omega
      ·rw [ZNh hne,g5,<- ZJF]
    ·(refine ⟨(i+1,M),?_,by first|omega|(simp only;omega),rfl,?_⟩;rotate_left;((try dsimp only [ZK,z0,z1]);repeat (first|exact LeF.nil|refine ZD (k:=?_)));(try dsimp only))
     refine ⟨by omega,g2,g3,fun p hp=>by have:=g4 p hp;omega,?_⟩
     rw [List.take_of_length_le (show l[i].length≤j by omega)] at g5
     show ZC4 M=_
     rw [g5,<- ZGK (by omega)]
  ·rw [List.take_of_length_le (by omega)] at h5
   rw [<- h5]
   exact ⟨trivial,_,rfl,FinD.map (.head _) fun p hp=>.tail _ (List.mem_map_of_mem (f:=fun p:Vx × Value × List Int=>ZW p.2.1 3 RI p.2.2) hp)⟩
end
section
open Go.RowKit
section
variable {P:Program} {ops:Array Oper} {hp:List HObj} {o:Oper} {fr:List Dat} {d:Dat} {Q:ZAL} {rest:List Oper}
variable {dst:Option Tmp} {ty:TypeId} {ps:String} {af:Array Edge} {g:Option (Nat × Bool)} {e:TypeId} {b:Nat} {T1 T2:TypeId} {v v':Value} {α:Type} {R:Rel α} {_gR:Good R} {xs:List α}
abbrev hC1 (b:Nat) (T:TypeId) (v:Value):HObj:=ZQ b T 1 true (dX (.agg #[v]))
theorem ZRc {I:Nat->Prop} {w:World} (h:(hC1 b T2 v).ok I w):w.heap[b]?=some (.cells #[v] T2)/\v.oneCell'=true:=by
 obtain ⟨cs,u,h1,h2,h0,h3,h4,h5⟩:=h
 simp only [if_true] at h4
 cases (h5:u=_)
 injection h4 with h4
 have hcs:cs=[v]:=List.toArray_inj h4.symm
 subst hcs
 exact ⟨h1,h3 v (by simp)⟩
theorem ZMn {x:Operand} (T':TyI P T1 1 false) (hx:OpD fr x (dX (.pointer (some ⟨b,0,none⟩)))) (hm:hC1 b T2 v∈hp):SY P ops hp ⟨dst,.load T1 x,ty,ps,af,g⟩ fr (dX v) :=
 ZAO fun {P0 B w0 w a} hh ho=>by
  have h1:a.eval x = .pointer (some ⟨b,0,none⟩):=hx.get (by simp [Op.operands]) ho
  obtain ⟨c1,c2⟩:=ZRc (hh.ok _ hm)
  have hc:Cells (fun _=>True) w b 0 1 false v:=by
   refine ⟨trivial,[v],rfl,by decide,by simp [c2],fun i c hc=>?_,rfl⟩
   have hi:i=0:=by
    have:=(List.getElem?_eq_some_iff.1 hc).1
    simp at this;exact this
   subst hi
   cases hc
   simp [World.cell?,c1]
  refine ⟨v,w,?_,Ext.refl _,rfl⟩
  unfold execOp
  simp only [h1,Sem.run_bind,ZA3 T' hc,Result.andThen_ok,Sem.run_pure]
theorem ZL2 {t:Nat} {x:Operand} (T':TyI P T1 1 false) (hp0:OpD fr (.tmp t) (dX (.pointer (some ⟨b,0,none⟩)))) (hx:OpD fr x (dX v')) (hm:ZW v' e R xs∈hp)
  (h:WL P ops Q rest (ZB fr dst (dX undef)) (hC1 b T2 v'::hp)):WL P ops Q (⟨dst,.store T1 (.tmp t) x,ty,ps,af,none⟩::rest) fr (hC1 b T2 v::hp):=by
 refine WL.of fun P0 B w0 w a hh hf=>?_
 obtain ⟨c1,c2⟩:=ZRc (hh.ok (hC1 b T2 v) (by simp))
 have h1:a.eval x=v':=hx.ev hf
 have h2:a.eval (.tmp t) = .pointer (some ⟨b,0,none⟩):=hp0.ev hf
 have hone:v'.oneCell'=true:=by
  obtain ⟨us,_,⟨_,hv⟩,_⟩:=hh.ok (ZW v' e R xs) (List.mem_cons_of_mem _ hm)
  rcases hv with ⟨hv,_⟩|⟨g,cap,cur,hv,_⟩ <;> (rw [hv];rfl)
 have hr:=ZB7 (u:=v') (cs:=[v]) (cs':=[v']) T'.size c1 rfl rfl (by simp [hone]) (by rw [ZB9 hone])
 have hrun:(execOp a.eval ⟨dst,.store T1 (.tmp t) x,ty,ps,af,none⟩).run P w = .ok .skip (w.setRow b #[v']):=by
  unfold execOp
  simp only [h1,h2,Sem.run_bind,hr,Result.andThen_ok,Sem.run_pure]
 refine wpList_plain rfl fun K hK=>?_
 unfold Oper.wp
 rw [hrun]
 have hgr:w.grownBy (w.setRow b #[v']) (hC1 b T2 v).blk:=ZAj
 have hok:(hC1 b T2 v').ok (fun k=>Imm P0 B (hC1 b T2 v::hp) k/\k<w.heap.size) (w.setRow b #[v']) :=
  ⟨[v'],.agg #[v'],setRow_heap w b _ _ _ _ c1,rfl,by decide,by simp [hone],rfl,rfl⟩
 exact hK _ _ (h.on (hh.write hgr (.inl rfl) hok) (Fr.put (hf.mono fun _ _ hd=>ZM (o':=hC1 b T2 v') hgr (.inl rfl) hd) (d:=dX undef) rfl))
theorem ZB5 {c0:Prop} (hm:ZW v e R xs∈hp) (hc:(∃ a c,v = .slice a xs.length c)->c0) (h:c0->WL P ops Q rest fr hp):WL P ops Q rest fr hp:=WL.of fun _ _ _ _ _ hh hf=>by
 refine (h (hc ?_)).on hh hf
 obtain ⟨us,_,⟨_,hv⟩,_⟩:=hh.ok (ZW v e R xs) hm
 rcases hv with ⟨hv,h0⟩|⟨g,cap,cur,hv,_⟩
 ·exact ⟨_,_,by rw [hv,h0]⟩
 ·exact ⟨_,_,hv⟩
theorem ZRH {I:Nat->Prop} {w:World} {a:Act} (hf:Fr I w a fr) {s:Tmp} (hs:fr[s]?=some (dX v)) (hd:d.rd I w v):Fr I w a (fr.set s d):=by
 refine ⟨hf.defers,by rw [hf.size,List.length_set],fun t' d' hd'=>?_⟩
 by_cases htt:s=t'
 ·subst htt
  rw [List.getElem?_set] at hd'
  simp only [if_true] at hd'
  split at hd'
  ·cases hd'
   have hv:a.tmps.getD s undef=v:=hf.rd s _ hs
   rw [hv];exact hd
  ·cases hd'
 ·rw [List.getElem?_set_ne htt] at hd'
  exact hf.rd t' d' hd'
theorem ZPm {s t:Tmp} (hs:fr[s]?=some (dX v)) (ht:(fr.set s (dS (Arr R) xs))[t]?=some (dX v)) (h:WL P ops Q rest ((fr.set s (dS (Arr R) xs)).set t (dS (Arr R) xs)) hp):WL P ops Q rest fr (ZW v e R xs::hp):=WL.of fun _ _ _ _ _ hh hf =>
 h.on hh.drop (ZRH (ZCD hf hs (d:=dS (Arr R) xs) (ZBz hh)) ht (ZBz hh))
end
end
section
open Go.RowKit

theorem ZHc (xs:List Vx) (hl:xs.length≤1000):Fn Tryz.prog 65 [dS ZE xs] (dS ZE xs):=by
 (refine ZG Tryz.func65 rfl rfl ?_;simp only [Tryz.ntmps65,List.length_cons,List.length_nil,Nat.reduceAdd,Nat.reduceSub,List.replicate_succ,List.replicate_zero,List.cons_append,List.nil_append])
 ((repeat' (first |  (refine ZEL 4 rfl fun b hb=>?_;dsimp only [z0,z1])|(apply WL.opN;exact yF;dsimp only [ZB,z0,z1])|refine WL.nil ?_|refine ZA fun Kx hK=>?_|(refine hK _ _ ?_;clear hK)|refine WC.region ?_ |  (apply ZCc elV RV (by decide);(intro _;dsimp only [ZB,z0,z1]);all_goals (try infer_instance))|((first|apply WL.appK|apply WL.app1);(exact eD);exact OpD.t rfl;(exact oD);decide;(exact lD);(intro _;dsimp only [ZB,z0,z1]);all_goals (try infer_instance))|(apply WL.opN;(focus ((first|(apply ZHK;exact OpD.t rfl;(exact fun _ _ _ h=>ZT8 h);exact ZMN;exact ZNo)|fail);all_goals infer_instance));dsimp only [ZB,z0,z1])|(apply WC.cond;(exact oD);all_goals (intro h;try exact xD))|refine WC.skip ?_|refine WC.ret ?_|refine ThenD.r ?_));all_goals (first|((repeat clear hK);(repeat clear Kx))))
 ·rw [hb h];(refine ⟨trivial,_,rfl,?_⟩;exact fD)
 ·rw [List.nil_append];(refine ⟨trivial,_,rfl,?_⟩;exact fD)
theorem ZKK {s:List Vx} (h:ZAJ s=0):∀ v∈s,okV v:=fun v hv=>by
 have:=ZRD.1 ((ZO.1 h).2.2.1 v hv)
 unfold okV ZML
 omega
theorem ZF8 {l:Cx}:∀ n,n≤l.length->((ZIL (l.take n)).map (·.1)).Nodup/\∀ v,v∈(ZIL (l.take n)).map (·.1)->∃ s∈l,v∈s:=by
 have put:∀ (m:List (Vx × List Int)) (v:Vx) (i:Int),(m.map (·.1)).Nodup->((ZL5 m v i).map (·.1)).Nodup/\∀ u,u∈(ZL5 m v i).map (·.1)->u=v\/u∈m.map (·.1):=by
  intro m v i hm
  unfold ZL5 ZBy
  split
  ·rename_i h
   have e:(m.map fun p=>if p.1=v then (v,(lookM m v).getD []++[i]) else p).map (·.1)=m.map (·.1):=by
    rw [List.map_map]
    refine List.map_congr_left fun p _=>?_
    show (if p.1=v then (v,(lookM m v).getD []++[i]) else p).1=p.1
    split
    ·rename_i h;exact h.symm
    ·rfl
   rw [e]
   exact ⟨hm,fun u hu=>.inr hu⟩
  ·rename_i h
   rw [List.map_append]
   refine ⟨?_,fun u hu=>?_⟩
   ·rw [List.nodup_append]
    refine ⟨hm,by simp,fun a ha b hb=>?_⟩
    have:b=v:=by simpa using hb
    subst this
    intro hab
    subst hab
    obtain ⟨p,hp,hpv⟩:=List.mem_map.1 ha
    apply h
    unfold lookM
    rw [Option.isSome_map]
    rw [List.find?_isSome]
    exact ⟨p,hp,by simpa using hpv⟩
   ·rcases List.mem_append.1 hu with hu|hu
    ·exact .inr hu
    ·exact .inl (by simpa using hu)
 have all:∀ (s:List Vx) (m:List (Vx × List Int)) (i:Int),(m.map (·.1)).Nodup->((ZN6 m s i).map (·.1)).Nodup/\∀ u,u∈(ZN6 m s i).map (·.1)->u∈s\/u∈m.map (·.1):=by
  intro s
  induction s with
  | nil=>intro m i hm;exact ⟨hm,fun u hu=>.inr hu⟩
  | cons v s ih =>
   intro m i hm
   obtain ⟨h1,h2⟩:=put m v i hm
   obtain ⟨h3,h4⟩:=ih (ZL5 m v i) i h1
   refine ⟨h3,fun u hu=>?_⟩
   rcases h4 u hu with h|h
   ·exact .inl (by simp [h])
   ·rcases h2 u h with h|h
    ·exact .inl (by simp [h])
    ·exact .inr h
 intro n
 induction n with
 | zero=>intro _;exact ⟨by simp [ZIL],fun v hv=>by simp [ZIL] at hv⟩
 | succ n ih =>
  intro hn
  obtain ⟨h1,h2⟩:=ih (by omega)
  rw [ZGK (by omega)]
  obtain ⟨h3,h4⟩:=all l[n] (ZIL (l.take n)) (n:Int) h1
  refine ⟨h3,fun v hv=>?_⟩
  rcases h4 v hv with h|h
  ·exact ⟨l[n],List.getElem_mem _,h⟩
  ·exact h2 v h
theorem ZG3 (l:Cx):((ZIL l).map (·.1)).Nodup:=by
 have:=(ZF8 (l:=l) l.length (Nat.le_refl _)).1
 rwa [List.take_length] at this
theorem ZN5 {l:Cx} (h:∀ s∈l,ZAJ s=0):∀ p∈ZIL l,okV p.1:=fun p hp=>by
 have:=(ZF8 (l:=l) l.length (Nat.le_refl _)).2 p.1
 rw [List.take_length] at this
 obtain ⟨s,hs,hv⟩:=this (List.mem_map_of_mem hp)
 exact ZKK (h s hs) _ hv
theorem isKV {x:Vx}:IsV (dS RV x) (kvV x):=⟨fun _ _ _ h=>h⟩
theorem ZKN {s:List Vx} (h:ZAJ s=0):0<s.length:=by have:=ZO.1 h;omega
theorem ZHu {s:List Vx} (h:ZAJ s=0):s.length≤8:=by have:=ZO.1 h;omega
set_option maxHeartbeats 4000000 in
theorem ZJ7 (l:Cx) (hg:∀ s∈l,ZAJ s=0) (hl:l.length≤1000000):Fn Tryz.prog 84 [dS Zc l] (dS Cpx (ZDl l)):=by
 (refine ZEu tyC Tryz.func84 rfl rfl ?_;simp only [Tryz.ntmps84,List.length_cons,List.length_nil,Nat.reduceAdd,Nat.reduceSub,List.replicate_succ,List.replicate_zero,List.cons_append,List.nil_append])
 (repeat' (first|((first|apply WL.opN|apply WD.opN);exact yF;dsimp only [ZB,z0,z1])|refine WL.nil ?_|refine ZA fun Kx hK=>?_|(refine hK _ _ ?_;clear hK)|refine WC.region ?_ |  (refine WL.alloc tzC (Zy rfl) fun b2=>?_;dsimp only [ZB,z0,z1]) |  (refine Z8 (hp1:=[]) (caps:=[]) (ZSW l hl) Tryz.call110 OpD.f (by (exact aD)) ?_;rintro d' hp2 ⟨v,rfl,rfl⟩;dsimp only [ZB,z0,z1,List.cons_append,List.nil_append]) |  (apply ZPo;exact OpD.t rfl;omega;intro ys hperm hsort;dsimp only [ZB,z0,z1])))
 refine Z8 (hp1:=[_]) (caps:=[]) (ZNg ys v hsort (by rw [hperm.length_eq];omega)) Tryz.call112 OpD.f (ArgsD.cons (OpD.t rfl) (ArgsD.cons ⟨ZGO Tryz.call113 fun x:List Vx × List Vx=>eqV_p x.1 x.2⟩ ArgsD.nil)) ?_
 rintro d' hp2 ⟨v2,zs,hzs,rfl,rfl⟩
 dsimp only [ZB,z0,z1,List.cons_append,List.nil_append]
 (repeat' (first|((first|apply WL.opN|apply WD.opN);exact yF;dsimp only [ZB,z0,z1])|refine WL.nil ?_|refine ZA fun Kx hK=>?_|(refine hK _ _ ?_;clear hK)|refine WC.region ?_))
 refine ZPm (s:=0) (t:=13) rfl rfl ?_
 dsimp only [z0,z1]
 have hzg:∀ s∈zs,ZAJ s=0:=fun s hs=>hg s (hperm.mem_iff.1 ((hzs.2 s).1 hs))
 have hzl:zs.length≤1000000:=by
  have h1:=hperm.length_eq
  have h2:zs.length≤ys.length:=List.Nodup.length_le_of_subset hzs.1.nodup fun x hx=>(hzs.2 x).1 hx
  omega
 (repeat' (first|((first|apply WL.opN|apply WD.opN);exact yF;dsimp only [ZB,z0,z1])|refine WL.nil ?_|refine ZA fun Kx hK=>?_|(refine hK _ _ ?_;clear hK)|refine WC.region ?_ |  (refine WL.alloc tzC (Zy rfl) fun b4=>?_;dsimp only [ZB,z0,z1])|((first|apply WL.opN|apply WD.opN);(focus ((first|(apply SY.call (ZGL zs hzl (fun s hs=>ZKK (hzg s hs)) (fun s hs=>Nat.le_trans (ZHu (hzg s hs)) (by decide))) Tryz.call74;(exact aD))|exact ZBs|fail);all_goals infer_instance));dsimp only [ZB,z0,z1])|refine WC.block ?_))
 have hgood:zs.filter (fun s=>!ZAU zs s)=ZDl l:=ZOR (fun s hs=>ZKN (hg s hs)) hzs.1 fun u=>(hzs.2 u).trans hperm.mem_iff
 refine ZAy 28 ZE ?_
 (refine WC.loopU (X:=Nat × Value × Cx) (fun x=>[(17,dI (x.1:Int)),(6,dA),(18,dA),(19,dA),(20,dA),(21,dA),(22,dA),(23,dA),(24,dA),(25,dA),(26,dA),(27,dA),(28,dA),(29,dA),(30,dA),(31,dA),(32,dA),(33,dA),(34,dA),(35,dA),(36,dA),(37,dA)]) (fun x=>(ZW x.2.1 28 ZE x.2.2::hC1 b4 24 x.2.1::ZQ b2 24 1 true (dX (.agg #[.slice none 0 0]))::[])) (fun x=>zs.length-x.1) (fun x=>x.1≤zs.length/\x.2.2=(zs.take x.1).filter (fun s=>!ZAU zs s)) (0,.slice none 0 0,[]) ?start ?frame0 ?objs0 ?round)
 case start=>exact ⟨Nat.zero_le _,by simp⟩
 case frame0=>((try dsimp only [ZK,z0,z1]);repeat (first|exact LeF.nil|refine ZD (k:=?_)))
 case objs0=>rfl
 case round =>
  rintro ⟨k,v,o⟩ ⟨h1,h2⟩
  simp only at h1 h2
  have hol:o.length≤1000000:=by
   have h3:=List.length_filter_le (fun s=>!ZAU zs s) (zs.take k)
   rw [List.length_take,<- h2] at h3
   omega
  dsimp only [ZK,z0,z1]
  ((repeat' (first |  (apply WC.drawTail 5;kernel_rfl;kernel_rfl;simp only [List.take_succ_cons,List.take_zero,List.drop_succ_cons,List.drop_zero])|((first|apply WL.opN|apply WD.opN);exact yF;dsimp only [ZB,z0,z1])|refine WL.nil ?_|refine WD.nil ?_|refine ZA fun Kx hK=>?_|(refine hK _ _ ?_;clear hK)|(refine Kont.skip ?_;clear hK)|refine WC.region ?_ |  (refine WL.perm (List.Perm.swap _ _ _) ?_;refine ZL2 ZCl (OpD.t rfl) (OpD.t rfl) (.head _) ?_;refine WL.perm (List.Perm.swap _ _ _) ?_;dsimp only [ZB,z0,z1])|((first|apply WL.appK|apply WL.app1);(exact eD);exact OpD.t rfl;(exact oD);decide;(exact lD);(intro _;dsimp only [ZB,z0,z1]);all_goals (try infer_instance))|((first|apply WL.opN|apply WD.opN);(focus ((first|(apply ZC8 elV (OpD.t rfl) OpD.i 0 rfl;exact ZKN (hzg _ (List.getElem_mem _)))|(refine ZFW (a0:=([]:List Int)) ZHv ZGN (OpD.t rfl) (OpD.t rfl) isKV (ZKK (hzg _ (List.getElem_mem _)) _ (List.getElem_mem _)) (ZN5 hzg) (ZG3 zs) (fun _ _=>ZCo))|(apply SY.call (ZG0 _ _ _ ZNA) Tryz.call75;(exact aD))|(apply ZMl ZCt;exact OpD.t rfl)|(apply ZMn ZCl;exact OpD.t rfl;exact .tail _ (.head _))|(apply SY.call (ZHc _ (Nat.le_trans (ZHu (hzg _ (List.getElem_mem _))) (by decide))) Tryz.call65;(exact aD))|exact ZCJ|exact ZMd|exact ZC1|exact ZX|exact ZCI|fail);all_goals infer_instance));dsimp only [ZB,z0,z1])|(apply ZC;(exact oD);all_goals (intro h;try exact xD))|(apply Z7;(exact oD);all_goals (intro h;try exact xD))|refine WC.skip ?_|refine WC.exit ?_|refine WC.block ?_|refine ThenD.n ?_));all_goals (first|refine WL.id ?_|((repeat clear hK);(repeat clear Kx))))
  ·rename_i h0 v'
   rw [ZKx hzg (hzg _ (List.getElem_mem (show k<zs.length by omega))) (List.getElem_mem _)] at h
   (refine ⟨(k+1,v',o++[zs[k]]),?_,by first|omega|(simp only;omega),rfl,?_⟩;rotate_left;((try dsimp only [ZK,z0,z1]);repeat (first|exact LeF.nil|refine ZD (k:=?_)));(try dsimp only))
   refine ⟨by omega,?_⟩
   show o++_=_
   rw [ZI0 (by omega),if_pos (by rw [h];rfl),h2]
  ·rw [ZKx hzg (hzg _ (List.getElem_mem (show k<zs.length by omega))) (List.getElem_mem _)] at h
   (refine ⟨(k+1,v,o),?_,by first|omega|(simp only;omega),rfl,?_⟩;rotate_left;((try dsimp only [ZK,z0,z1]);repeat (first|exact LeF.nil|refine ZD (k:=?_)));(try dsimp only))
   refine ⟨by omega,?_⟩
   show o=_
   rw [ZI0 (by omega),if_neg (by rw [h];decide),h2,List.append_nil]
  ·rw [List.take_of_length_le (by omega),hgood] at h2
   subst h2
   refine ZB5 (.head _) _root_.id fun hv=>?_
   obtain ⟨ad,c,rfl⟩:=hv
   ((repeat' (first|refine WL.nil ?_|(refine hK _ _ ?_;clear hK) |  (apply ZGt tyC;rfl;exact OpD.t rfl;exact Zy rfl;dsimp only [ZB,z0,z1])|((first|apply WL.opN|apply WD.opN);(focus ((first|(apply ZAN tyC;exact OpD.t rfl;exact .tail _ (.head _))|fail);all_goals infer_instance));dsimp only [ZB,z0,z1])|refine WC.ret ?_));all_goals (first|((repeat clear hK);(repeat clear Kx))))
   exact ⟨trivial,_,rfl,ZMh (.head _)⟩
end
section
open Go.RowKit

theorem ZP2 {l:Cx} {p:List Vx->Bool} {k:Nat} (h:k<l.length):(l.take (k+1)).any p=((l.take k).any p || p l[k]):=by rw [ZP h,List.any_append];simp
set_option maxHeartbeats 4000000 in
theorem ZF1 (l:Cx):Fn Tryz.prog 33 [dS Cpx l] (dI (ZBH l)):=by
 (refine ZG Tryz.func33 rfl rfl ?_;simp only [Tryz.ntmps33,List.length_cons,List.length_nil,Nat.reduceAdd,Nat.reduceSub,List.replicate_succ,List.replicate_zero,List.cons_append,List.nil_append])
 ((repeat' (first|((first|apply WL.opN|apply WD.opN);exact yF;dsimp only [ZB,z0,z1])|refine WL.nil ?_|refine ZA fun Kx hK=>?_|(refine hK _ _ ?_;clear hK)|refine WC.region ?_|((first|apply ZJ|apply WD.op);(focus (first|exact wN|(apply ZF;(exact wY);((first|exact ZIM|exact ZBs|exact ZAT|exact ZKY|fail);all_goals infer_instance))));dsimp only [ZB,z0,z1])|(apply ZC;(exact oD);all_goals (intro h;try exact xD))|refine WC.skip ?_|refine WC.ret ?_|refine WC.block ?_|refine ThenD.r ?_));all_goals (first|refine WC.id ?_|((repeat clear hK);(repeat clear Kx))))
 ·(refine ⟨trivial,_,rfl,?_⟩;refine FinD.i ?_)
  unfold ZBH;rw [if_pos (by omega)]
 ·have hs:ZBH l=if ZFE none l≠0 then ZFE none l else if ZC3 l=true then 7 else 0:=by unfold ZBH;rw [if_neg (by omega)]
  (refine WC.loopU (X:=Nat) (fun k=>[(16,dI (k:Int)),(2,dA),(3,dA),(4,dA),(5,dA),(17,dA),(18,dA),(19,dA),(20,dA),(21,dA),(22,dA),(23,dA),(24,dA),(25,dA),(26,dA),(27,dA),(28,dA),(29,dA),(30,dA),(31,dA),(32,dA),(33,dA),(34,dA),(35,dA),(36,dA),(37,dA),(38,dA),(39,dA)]) (fun k=>[]) (fun k=>l.length-k) (fun k=>k≤l.length/\ZFE none l=ZFE (l.take k).getLast? (l.drop k)) 0 ?start ?frame0 ?objs0 ?round)
  case start=>exact ⟨Nat.zero_le _,rfl⟩
  case frame0=>((try dsimp only [ZK,z0,z1]);repeat (first|exact LeF.nil|refine ZD (k:=?_)))
  case objs0=>rfl
  case round =>
   rintro k ⟨h3,h4⟩
   dsimp only [ZK,z0,z1]
   ((repeat' (first|((first|apply WL.opN|apply WD.opN);exact yF;dsimp only [ZB,z0,z1])|refine WL.nil ?_|refine ZA fun Kx hK=>?_|(refine hK _ _ ?_;clear hK)|(refine Kont.skip ?_;clear hK)|refine WC.region ?_|((first|apply ZJ|apply WD.op);(focus (first|exact wN|(apply ZF;(exact wY);((first|(apply SY.call (ZIt _ _) Tryz.call64;(exact aD))|(apply SY.call (ZJ6 _) Tryz.call73;(exact aD))|(apply ZMm ZBx (OpD.t rfl) (OpD.t rfl) (k-1);omega;omega)|exact ZEs|exact ZCJ|exact ZIM|exact ZR1|exact ZJo|exact ZC1|exact ZMe|exact ZFT|exact ZX|exact ZAT|exact ZEB|fail);all_goals infer_instance))));dsimp only [ZB,z0,z1])|((first|refine Za rfl rfl rfl (fun h=>?_) (fun h=>?_)|refine ZZ rfl rfl rfl (fun h=>?_) (fun h=>?_)|refine ZT rfl rfl rfl (fun h=>?_) (fun h=>?_)|refine ZAE rfl rfl rfl (fun h=>?_) (fun h=>?_)|refine ZAD rfl rfl rfl (fun h=>?_) (fun h=>?_)|refine Zu rfl rfl rfl (fun h=>?_) (fun h=>?_)) <;> (first|(exfalso;first|omega|contradiction)|(dsimp only [z0,z1])))|(apply Zi;(exact oD);(with_reducible rfl))|(apply ZC;(exact oD);all_goals (intro h;try exact xD))|(apply ZL;(exact oD);all_goals (intro h;try exact xD))|refine WC.skip ?_|refine WC.ret ?_|refine WC.exit ?_|refine WC.block ?_|refine ThenD.n ?_|refine ThenD.r ?_|refine InBlockD.r ?_));all_goals (first|refine WL.id ?_|((repeat clear hK);(repeat clear Kx))))
   all_goals try (rw [ZIp l k (by omega)] at h4)
   ·(refine ⟨trivial,_,rfl,?_⟩;refine FinD.i ?_)
    rw [hs,h4,if_pos h,if_pos h]
   ·(refine ⟨trivial,_,rfl,?_⟩;refine FinD.i ?_)
    have h5:¬ ZAJ l[k]≠0:=by omega
    rw [if_neg h5,ZDi _ _ (by omega) (by omega),if_pos (by simpa using h)] at h4
    rw [hs,h4];rfl
   ·(refine ⟨k+1,?_,by first|omega|(simp only;omega),rfl,?_⟩;rotate_left;((try dsimp only [ZK,z0,z1]);repeat (first|exact LeF.nil|refine ZD (k:=?_)));(try dsimp only))
    refine ⟨by omega,?_⟩
    have h5:¬ ZAJ l[k]≠0:=by omega
    rw [h4,if_neg h5,ZDi _ _ (by omega) (by omega),if_neg (by simpa using h)]
   ·(refine ⟨k+1,?_,by first|omega|(simp only;omega),rfl,?_⟩;rotate_left;((try dsimp only [ZK,z0,z1]);repeat (first|exact LeF.nil|refine ZD (k:=?_)));(try dsimp only))
    refine ⟨by omega,?_⟩
    have h5:¬ ZAJ l[k]≠0:=by omega
    have h0:(l.take k).getLast?=none:=by
     have:k=0:=by omega
     rw [this];rfl
    rw [h4,if_neg h5,h0]
    rfl
   ·rw [List.drop_of_length_le (by omega)] at h4
    have h4':ZFE none l=0:=h4
    have hs':ZBH l=if ZC3 l=true then 7 else 0:=by rw [hs,if_neg (by omega)]
    clear hs h4
    obtain ⟨ha,_,hg⟩:=ZHY l none h4'
    rw [ZGb ha hg] at hs'
    have hl1:l.length≤1000000:=by omega
    (repeat' (first|((first|apply WL.opN|apply WD.opN);exact yF;dsimp only [ZB,z0,z1])|refine WL.nil ?_|refine ZA fun Kx hK=>?_|(refine hK _ _ ?_;clear hK)|refine WC.region ?_|((first|apply ZJ|apply WD.op);(focus (first|exact wN|(apply ZF;(exact wY);((first|(apply SY.call (ZGL l hl1 (fun s hs=>ZKK (hg s hs)) (fun s hs=>Nat.le_trans (ZHu (hg s hs)) (by decide))) Tryz.call74;(exact aD))|exact ZBs|exact ZAT|fail);all_goals infer_instance))));dsimp only [ZB,z0,z1])|refine WC.block ?_))
    (refine WC.loopU (X:=Nat) (fun i=>[(46,dI (i:Int)),(2,dA),(8,dA),(47,dA),(48,dA),(49,dA),(50,dA),(51,dA),(52,dA),(53,dA),(54,dA),(55,dA),(56,dA),(57,dA),(58,dA),(59,dA)]) (fun i=>[]) (fun i=>l.length-i) (fun i=>i≤l.length/\(l.take i).any (fun s=>ZAU l s)=false) 0 ?start ?frame0 ?objs0 ?round)
    case start=>exact ⟨Nat.zero_le _,rfl⟩
    case frame0=>((try dsimp only [ZK,z0,z1]);repeat (first|exact LeF.nil|refine ZD (k:=?_)))
    case objs0=>rfl
    case round =>
     rintro i ⟨h5,h6⟩
     dsimp only [ZK,z0,z1]
     ((repeat' (first|((first|apply WL.opN|apply WD.opN);exact yF;dsimp only [ZB,z0,z1])|refine WL.nil ?_|refine WD.nil ?_|refine ZA fun Kx hK=>?_|(refine hK _ _ ?_;clear hK)|(refine Kont.skip ?_;clear hK)|refine WC.region ?_|(apply WC.draw;kernel_rfl;kernel_rfl)|((first|apply ZJ|apply WD.op);(focus (first|exact wN|(apply ZF;(exact wY);((first|(apply ZC8 elV (OpD.t rfl) OpD.i 0 rfl;exact ZKN (hg _ (List.getElem_mem _)))|(refine ZFW (a0:=([]:List Int)) ZHv ZGN (OpD.t rfl) (OpD.t rfl) isKV (ZKK (hg _ (List.getElem_mem _)) _ (List.getElem_mem _)) (ZN5 hg) (ZG3 l) (fun _ _=>ZCo))|(apply SY.call (ZG0 _ _ _ ZNA) Tryz.call75;(exact aD))|exact ZCJ|exact ZC1|exact ZX|exact ZAT|fail);all_goals infer_instance))));dsimp only [ZB,z0,z1])|(apply ZC;(exact oD);all_goals (intro h;try exact xD))|(apply WC.cond;(exact oD);all_goals (intro h;try exact xD))|refine WC.skip ?_|refine WC.ret ?_|refine WC.exit ?_|refine WC.block ?_|refine ThenD.n ?_|refine ThenD.r ?_|refine InBlockD.r ?_));all_goals (first|((repeat clear hK);(repeat clear Kx))))
     ·rw [ZKx hg (hg _ (List.getElem_mem (show i<l.length by omega))) (List.getElem_mem _)] at h
      (refine ⟨trivial,_,rfl,?_⟩;refine FinD.i ?_)
      rw [hs',if_pos]
      exact List.any_eq_true.2 ⟨l[i],List.getElem_mem _,h⟩
     ·rw [ZKx hg (hg _ (List.getElem_mem (show i<l.length by omega))) (List.getElem_mem _)] at h
      (refine ⟨i+1,?_,by first|omega|(simp only;omega),rfl,?_⟩;rotate_left;((try dsimp only [ZK,z0,z1]);repeat (first|exact LeF.nil|refine ZD (k:=?_)));(try dsimp only))
      exact ⟨by omega,by rw [ZP2 (by omega),h6,h];rfl⟩
     ·rw [List.take_of_length_le (by omega)] at h6
      (refine ⟨trivial,_,rfl,?_⟩;refine FinD.i ?_)
      rw [hs',if_neg (by rw [h6];decide)]
end
end Go.Proofs.YtlgmojhmmbhgfaaGreatDoor
