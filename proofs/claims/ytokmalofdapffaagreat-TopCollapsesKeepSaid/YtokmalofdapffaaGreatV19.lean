/- Part 19: walks by contracts, and plain laws. -/
import Derived.Test.YtokmalofdapffaaGreatV18
set_option linter.unusedVariables false
set_option linter.unusedSimpArgs false
set_option linter.unusedSectionVars false
set_option maxRecDepth 100000
set_option maxHeartbeats 4000000
namespace Go.Proofs.YtokmalofdapffaaGreat
section
open Go.RowKit

theorem ZFF:MapT Tryz.prog 71 47 27 (.slice none 0 0):=⟨Tryz.underlying71,fun w=>by kernel_rfl⟩
abbrev ZOh:=List (Vx × Value × List Int)
abbrev hI (b:Nat) (M:ZOh):HObj:=hM b kvV (fun p:Value × List Int=>p.1) M
def ZDd (M:ZOh):List HObj:=M.map fun p=>Zh p.2.1 3 RI p.2.2
def ZCv (M:ZOh):List (Vx × List Int):=M.map fun p=>(p.1,p.2.2)
theorem ZLY (M:ZOh):(ZCv M).map (·.1)=M.map (·.1):=by unfold ZCv;rw [List.map_map];rfl
theorem ZHd {α:Type} (a:α):∀ (l:List α) (q:Nat),q<l.length->(a::l.eraseIdx q).Perm (l.set q a)
 | [],q,h=>by simp at h
 | x::l,0,_=>by simp
 | x::l,q+1,h=>by
  simp only [List.eraseIdx_cons_succ,List.set_cons_succ]
  exact (List.Perm.swap _ _ _).trans (List.Perm.cons _ (ZHd a l q (by simpa using h)))
theorem ZR7 {α:Type} (l:List α) (q:Nat) (h:q<l.length):(l[q]::l.eraseIdx q).Perm l:=by
 have:=ZHd l[q] l q h
 rwa [List.set_getElem_self] at this
theorem ZJq {α β:Type} (M:List (α × β)) (q:Nat) (h:q<M.length) (u:β):(M.set q (M[q].1,u)).map (·.1)=M.map (·.1):=by
 rw [List.map_set]
 have:(M.map (·.1))[q]'(by simpa using h)=M[q].1:=by simp
 rw [<- this,List.set_getElem_self]
theorem ZNC {M:ZOh} (hn:(M.map (·.1)).Nodup) {q:Nat} (h:q<M.length) (v':Value) (i:Int):ZCv (M.set q (M[q].1,(v',M[q].2.2++[i])))=ZLQ (ZCv M) M[q].1 i:=by
 have hl:q<(ZCv M).length:=by simpa [ZCv] using h
 have e1:(ZCv M)[q]=(M[q].1,M[q].2.2):=by simp [ZCv]
 have hn':((ZCv M).map (·.1)).Nodup:=by rw [ZLY];exact hn
 have h2:=ZDU hn' hl
 have h3:=ZFK hn' (v:=M[q].2.2++[i]) hl
 rw [e1] at h2 h3
 unfold ZLQ
 rw [h2]
 show _=ZDr (ZCv M) M[q].1 (M[q].2.2++[i])
 rw [h3]
 unfold ZCv
 rw [List.map_set]
theorem ZNB {M:ZOh} {v:Vx} (hne:∀ p∈M,p.1≠v) (v':Value) (i:Int):ZCv (M++[(v,(v',[i]))])=ZLQ (ZCv M) v i:=by
 have hne':∀ p∈ZCv M,p.1≠v:=fun p hp=>by
  obtain ⟨q,hq,rfl⟩:=List.mem_map.1 hp
  exact hne q hq
 unfold ZLQ
 rw [ZEd hne',ZEF hne']
 simp [ZCv]
theorem ZOG (M:ZOh) (q:Nat) (h:q<M.length) (p:Vx × Value × List Int):(Zh p.2.1 3 RI p.2.2::(ZDd M).eraseIdx q).Perm (ZDd (M.set q p)):=by
 have:=ZHd (Zh p.2.1 3 RI p.2.2) (ZDd M) q (by simpa [ZDd] using h)
 have e:ZDd (M.set q p)=(ZDd M).set q (Zh p.2.1 3 RI p.2.2):=by unfold ZDd;rw [List.map_set]
 rw [e];exact this
theorem ZLp (M:ZOh) (p:Vx × Value × List Int):(Zh p.2.1 3 RI p.2.2::ZDd M).Perm (ZDd (M++[p])):=by
 unfold ZDd
 rw [List.map_append]
 exact (List.perm_append_singleton _ _).symm
theorem ZFo (l:Cx) (hl:l.length≤1000000) (hs:∀ s∈l,∀ v∈s,okV v) (h8:∀ s∈l,s.length≤1000):Fn Tryz.prog 36 [dS ZBN l] (dS (ZH7 kvV ZBk) (ZHx l)):=by
 (refine ZG Tryz.func36 rfl rfl ?_;simp only [Tryz.ntmps36,List.length_cons,List.length_nil,Nat.reduceAdd,Nat.reduceSub,List.replicate_succ,List.replicate_zero,List.cons_append,List.nil_append])
 (repeat' (first|(apply WL.opN;exact yF;dsimp only [ZB,z0,z1])|refine WL.nil ?_|refine ZA fun Kx hK=>?_|(refine hK _ _ ?_;clear hK)|refine WC.region ?_ |  (refine WL.makeMap kvV (fun p:Value × List Int=>p.1) fun b=>?_;dsimp only [ZB,z0,z1])|(apply WL.opN;(focus ((first|exact ZBw|fail);all_goals infer_instance));dsimp only [ZB,z0,z1])|refine WC.block ?_))
 (refine ZH (X:=Nat × ZOh) (fun x=>[(11,dI (x.1:Int)),(4,dA),(5,dA),(7,dA),(12,dA),(13,dA),(14,dA),(15,dA),(16,dA),(17,dA),(18,dA),(19,dA),(20,dA),(21,dA),(22,dA),(23,dA),(24,dA),(25,dA),(26,dA),(27,dA),(28,dA),(29,dA),(30,dA),(31,dA)]) (fun x=>hI b x.2::ZDd x.2) (fun x=>l.length-x.1) (fun x=>x.1≤l.length/\(x.2.map (·.1)).Nodup/\(∀ p∈x.2,okV p.1)/\(∀ p∈x.2,p.2.2.length≤2000*x.1)/\ZCv x.2=ZHx (l.take x.1)) (0,[]) ?start ?frame0 ?objs0 ?round)
 case start=>exact ⟨Nat.zero_le _,by simp,by simp,by simp,rfl⟩
 case frame0=>((try dsimp only [ZQ,z0,z1]);repeat (first|exact LeF.nil|refine ZD (k:=?_)))
 case objs0=>rfl
 case round =>
  rintro ⟨i,M⟩ ⟨h1,h2,h3,h4,h5⟩
  simp only at h1 h2 h3 h4 h5
  dsimp only [ZQ,z0,z1]
  ((repeat' (first|(apply WL.opN;exact yF;dsimp only [ZB,z0,z1])|refine WL.nil ?_|refine ZA fun Kx hK=>?_|(refine hK _ _ ?_;clear hK)|(refine Kont.skip ?_;clear hK)|refine WC.region ?_|(apply WL.opN;(focus ((first|exact ZCB|exact ZBw|exact ZS|fail);all_goals infer_instance));dsimp only [ZB,z0,z1])|(apply WC.condD;(exact oD);all_goals (intro h;try exact xD))|refine WC.skip ?_|refine WC.ret ?_|refine WC.exit ?_|refine WC.block ?_));all_goals (first|refine WC.id ?_|((repeat clear hK);(repeat clear Kx))))
  ·have hm:=List.getElem_mem (show i<l.length by omega)
   have h8m:=h8 _ hm
   (refine ZH (X:=Nat × ZOh) (fun x=>[(18,dI (x.1:Int)),(7,dA),(19,dA),(20,dA),(21,dA),(22,dA),(23,dA),(24,dA),(25,dA),(26,dA),(27,dA),(28,dA),(29,dA),(30,dA)]) (fun x=>hI b x.2::ZDd x.2) (fun x=>l[i].length-x.1) (fun x=>x.1≤l[i].length/\(x.2.map (·.1)).Nodup/\(∀ p∈x.2,okV p.1)/\(∀ p∈x.2,p.2.2.length≤2000*i+x.1)/\ZCv x.2=ZNZ (ZHx (l.take i)) (l[i].take x.1) (i:Int)) (0,M) ?start ?frame0 ?objs0 ?round)
   case start=>exact ⟨Nat.zero_le _,h2,h3,h4,h5⟩
   case frame0=>((try dsimp only [ZQ,z0,z1]);repeat (first|exact LeF.nil|refine ZD (k:=?_)))
   case objs0=>rfl
   case round =>
    rintro ⟨j,M⟩ ⟨g1,g2,g3,g4,g5⟩
    simp only at g1 g2 g3 g4 g5
    dsimp only [ZQ,z0,z1]
    ((repeat' (first|(apply WL.opN;exact yF;dsimp only [ZB,z0,z1])|refine WL.nil ?_|refine ZA fun Kx hK=>?_|(refine hK _ _ ?_;clear hK)|(refine Kont.skip ?_;clear hK)|refine WC.region ?_|(apply WL.alloc;(first|exact tzV|exact tzC);(first|exact ZZ rfl|exact Zw|exact Ze rfl);(intro _;dsimp only [ZB,z0,z1]))|(apply ZI;(exact tD);rfl;(exact oD);(exact hD);dsimp only [ZB,z0,z1])|(apply WL.opN;(focus ((first|exact ZCB|exact ZCu|exact ZS|exact ZA4|fail);all_goals infer_instance));dsimp only [ZB,z0,z1])|(apply WC.condD;(exact oD);all_goals (intro h;try exact xD))|refine WC.skip ?_|refine WC.exit ?_|refine WC.block ?_|refine ThenD.n ?_));all_goals (first|refine WL.id ?_|((repeat clear hK);(repeat clear Kx))))
    ·have hjl:j<l[i].length:=by omega
     refine ZRM (zv:=((.slice none 0 0,[]):Value × List Int)) rfl ZFF ZKl (OpD.t rfl) (OpD.t rfl) ⟨fun _ _ _ h=>h⟩ (hs _ hm _ (List.getElem_mem hjl)) g3 (fun q hq hqv=>?_) (fun hne=>?_)
     ·have hq':q<(ZDd M).length:=by unfold ZDd;simpa using hq
      have hrow:(ZDd M)[q]=Zh M[q].2.1 3 RI M[q].2.2:=by simp [ZDd]
      have hlen:=g4 _ (List.getElem_mem hq)
      refine WL.perm (((List.Perm.cons _ (ZR7 _ q hq').symm)).trans (List.Perm.swap _ _ _)) ?_
      rw [hrow]
      dsimp only [ZB,z0,z1]
      (repeat' (first|((first|apply WL.appK|apply WL.app1);(exact eD);exact OpD.t rfl;(exact oD);decide;(exact lD);(intro _;dsimp only [ZB,z0,z1]);all_goals (try infer_instance))|(apply WL.opN;(focus ((first|exact ZCq|fail);all_goals infer_instance));dsimp only [ZB,z0,z1])))
      rename_i v'
      refine WL.perm (List.Perm.swap _ _ _) ?_
      refine ZJU (u:=(v',M[q].2.2++[(i:Int)])) (OpD.t rfl) (OpD.t rfl) (OpD.t rfl) ⟨fun _ _ _ h=>h⟩ hq ?_
      refine WL.perm (List.Perm.cons _ (ZOG M q hq (M[q].1,(v',M[q].2.2++[(i:Int)])))) ?_
      dsimp only [ZB]
      ((repeat' (first|(apply WL.opN;exact yF;dsimp only [ZB,z0,z1])|refine WL.nil ?_|(refine hK _ _ ?_;clear hK)|refine WC.region ?_|(apply WL.opN;(focus ((first|exact ZCu|fail);all_goals infer_instance));dsimp only [ZB,z0,z1])|refine ThenD.n ?_));all_goals (first|((repeat clear hK);(repeat clear Kx))))
      (refine ⟨(j+1,M.set q (M[q].1,(v',M[q].2.2++[(i:Int)]))),?_,by first|omega|(simp only;omega),rfl,?_⟩;rotate_left;((try dsimp only [ZQ,z0,z1]);repeat (first|exact LeF.nil|refine ZD (k:=?_)));(try dsimp only))
      refine ⟨by omega,?_,?_,?_,?_⟩
      ·rw [ZJq];exact g2
      ·intro p hp
       rcases List.mem_or_eq_of_mem_set hp with hp|rfl
       ·exact g3 p hp
       ·exact (show okV M[q].1 from g3 _ (List.getElem_mem hq))
      ·intro p hp
       rcases List.mem_or_eq_of_mem_set hp with hp|rfl
       ·have:=g4 p hp;omega
       ·simp only [List.length_append,List.length_cons,List.length_nil];omega
      ·rw [ZNC g2 hq,g5,hqv,<- ZIp]
     ·refine ZIK 3 RI ?_
      dsimp only [ZB,z0,z1]
      (repeat' (first|((first|apply WL.appK|apply WL.app1);(exact eD);exact OpD.t rfl;(exact oD);decide;(exact lD);(intro _;dsimp only [ZB,z0,z1]);all_goals (try infer_instance))|(apply WL.opN;(focus ((first|exact ZCq|fail);all_goals infer_instance));dsimp only [ZB,z0,z1])))
      rename_i v'
      refine WL.perm (List.Perm.swap _ _ _) ?_
      have hlen:M.length<(M++[((l[i][j],((.slice none 0 0,[]):Value × List Int)))]).length:=by simp
      refine ZJU (j:=M.length) (u:=(v',[(i:Int)])) (OpD.t rfl) (OpD.t rfl) (OpD.t rfl) ⟨fun _ _ _ h=>h⟩ hlen ?_
      have eset:(M++[((l[i][j],((.slice none 0 0,[]):Value × List Int)))]).set M.length ((M++[((l[i][j],((.slice none 0 0,[]):Value × List Int)))])[M.length].1,(v',[(i:Int)]))=M++[(l[i][j],(v',[(i:Int)]))]:=by simp
      rw [eset]
      refine WL.perm (List.Perm.cons _ (ZLp M (l[i][j],(v',[(i:Int)])))) ?_
      dsimp only [ZB]
      ((repeat' (first|(apply WL.opN;exact yF;dsimp only [ZB,z0,z1])|refine WL.nil ?_|(refine hK _ _ ?_;clear hK)|refine WC.region ?_|(apply WL.opN;(focus ((first|exact ZCu|fail);all_goals infer_instance));dsimp only [ZB,z0,z1])|refine ThenD.n ?_));all_goals (first|((repeat clear hK);(repeat clear Kx))))
      (refine ⟨(j+1,M++[(l[i][j],(v',[(i:Int)]))]),?_,by first|omega|(simp only;omega),rfl,?_⟩;rotate_left;((try dsimp only [ZQ,z0,z1]);repeat (first|exact LeF.nil|refine ZD (k:=?_)));(try dsimp only))
      refine ⟨by omega,?_,?_,?_,?_⟩
      ·rw [List.map_append,List.nodup_append]
       refine ⟨g2,by simp,fun a ha c hc=>?_⟩
       have:c=l[i][j]:=by simpa using hc
       subst this
       obtain ⟨p,hp,rfl⟩:=List.mem_map.1 ha
       exact hne p hp
      ·intro p hp
       rcases List.mem_append.1 hp with hp|hp
       ·exact g3 p hp
       ·rw [List.mem_singleton.1 hp];exact hs _ hm _ (List.getElem_mem hjl)
      ·intro p hp
       rcases List.mem_append.1 hp with hp|hp
       ·have:=g4 p hp;omega
       ·rw [List.mem_singleton.1 hp];simp only [List.length_cons,List.length_nil];omega
      ·rw [ZNB hne,g5,<- ZIp]
    ·(refine ⟨(i+1,M),?_,by first|omega|(simp only;omega),rfl,?_⟩;rotate_left;((try dsimp only [ZQ,z0,z1]);repeat (first|exact LeF.nil|refine ZD (k:=?_)));(try dsimp only))
     refine ⟨by omega,g2,g3,fun p hp=>by have:=g4 p hp;omega,?_⟩
     rw [List.take_of_length_le (show l[i].length≤j by omega)] at g5
     show ZCv M=_
     rw [g5,<- ZFn (by omega)]
  ·rw [List.take_of_length_le (by omega)] at h5
   rw [<- h5]
   exact ⟨trivial,_,rfl,FinD.map (.head _) fun p hp=>.tail _ (List.mem_map_of_mem (f:=fun p:Vx × Value × List Int=>Zh p.2.1 3 RI p.2.2) hp)⟩
end
section
open Go.RowKit
section
variable {P:Program} {ops:Array Oper} {hp:List HObj} {o:Oper} {fr:List Dat} {d:Dat} {Q:ZAE} {rest:List Oper}
variable {dst:Option Tmp} {ty:TypeId} {ps:String} {af:Array Edge} {g:Option (Nat × Bool)} {e:TypeId} {b:Nat} {T1 T2:TypeId} {v v':Value} {α:Type} {R:Rel α} {_gR:Good R} {xs:List α}
abbrev hC1 (b:Nat) (T:TypeId) (v:Value):HObj:=ZO b T 1 true (dX (.agg #[v]))
theorem ZQw {I:Nat->Prop} {w:World} (h:(hC1 b T2 v).ok I w):w.heap[b]?=some (.cells #[v] T2)/\v.oneCell'=true:=by
 obtain ⟨cs,u,h1,h2,h0,h3,h4,h5⟩:=h
 simp only [if_true] at h4
 cases (h5:u=_)
 injection h4 with h4
 have hcs:cs=[v]:=List.toArray_inj h4.symm
 subst hcs
 exact ⟨h1,h3 v (by simp)⟩
theorem ZBA {x:Operand} (T':TyI P T1 1 false) (hx:OpD fr x (dX (.pointer (some ⟨b,0,none⟩)))) (hm:hC1 b T2 v∈hp):SY P ops hp ⟨dst,.load T1 x,ty,ps,af,g⟩ fr (dX v) :=
 ZAn fun {P0 B w0 w a} hh ho=>by
  have h1:a.eval x = .pointer (some ⟨b,0,none⟩):=hx.get (by simp [Op.operands]) ho
  obtain ⟨c1,c2⟩:=ZQw (hh.ok _ hm)
  have hc:Cells (fun _=>True) w b 0 1 false v:=by
   refine ⟨trivial,[v],rfl,by decide,by simp [c2],fun i c hc=>?_,rfl⟩
   have hi:i=0:=by
    have:=(List.getElem?_eq_some_iff.1 hc).1
    simp at this;exact this
   subst hi
   cases hc
   simp [World.cell?,c1]
  refine ⟨v,w,?_,Ext.refl _,rfl⟩
  unfold execOp
  simp only [h1,Sem.run_bind,ZBJ T' hc,Result.andThen_ok,Sem.run_pure]
theorem ZEQ {t:Nat} {x:Operand} (T':TyI P T1 1 false) (hp0:OpD fr (.tmp t) (dX (.pointer (some ⟨b,0,none⟩)))) (hx:OpD fr x (dX v')) (hm:Zh v' e R xs∈hp)
  (h:WL P ops Q rest (ZB fr dst (dX undef)) (hC1 b T2 v'::hp)):WL P ops Q (⟨dst,.store T1 (.tmp t) x,ty,ps,af,none⟩::rest) fr (hC1 b T2 v::hp):=by
 refine WL.of fun P0 B w0 w a hh hf=>?_
 obtain ⟨c1,c2⟩:=ZQw (hh.ok (hC1 b T2 v) (by simp))
 have h1:a.eval x=v':=hx.ev hf
 have h2:a.eval (.tmp t) = .pointer (some ⟨b,0,none⟩):=hp0.ev hf
 have hone:v'.oneCell'=true:=by
  obtain ⟨us,_,⟨_,hv⟩,_⟩:=hh.ok (Zh v' e R xs) (List.mem_cons_of_mem _ hm)
  rcases hv with ⟨hv,_⟩|⟨g,cap,cur,hv,_⟩ <;> (rw [hv];rfl)
 have hr:=ZBW (u:=v') (cs:=[v]) (cs':=[v']) T'.size c1 rfl rfl (by simp [hone]) (by rw [ZB3 hone])
 have hrun:(execOp a.eval ⟨dst,.store T1 (.tmp t) x,ty,ps,af,none⟩).run P w = .ok .skip (w.setRow b #[v']):=by
  unfold execOp
  simp only [h1,h2,Sem.run_bind,hr,Result.andThen_ok,Sem.run_pure]
 refine wpList_plain rfl fun K hK=>?_
 unfold Oper.wp
 rw [hrun]
 have hgr:w.grownBy (w.setRow b #[v']) (hC1 b T2 v).blk:=ZAH
 have hok:(hC1 b T2 v').ok (fun k=>Imm P0 B (hC1 b T2 v::hp) k/\k<w.heap.size) (w.setRow b #[v']) :=
  ⟨[v'],.agg #[v'],setRow_heap w b _ _ _ _ c1,rfl,by decide,by simp [hone],rfl,rfl⟩
 exact hK _ _ (h.on (hh.write hgr (.inl rfl) hok) (Fr.put (hf.mono fun _ _ hd=>ZN (o':=hC1 b T2 v') hgr (.inl rfl) hd) (d:=dX undef) rfl))
theorem ZBx {c0:Prop} (hm:Zh v e R xs∈hp) (hc:(∃ a c,v = .slice a xs.length c)->c0) (h:c0->WL P ops Q rest fr hp):WL P ops Q rest fr hp:=WL.of fun _ _ _ _ _ hh hf=>by
 refine (h (hc ?_)).on hh hf
 obtain ⟨us,_,⟨_,hv⟩,_⟩:=hh.ok (Zh v e R xs) hm
 rcases hv with ⟨hv,h0⟩|⟨g,cap,cur,hv,_⟩
 ·exact ⟨_,_,by rw [hv,h0]⟩
 ·exact ⟨_,_,hv⟩
theorem ZQZ {I:Nat->Prop} {w:World} {a:Act} (hf:Fr I w a fr) {s:Tmp} (hs:fr[s]?=some (dX v)) (hd:d.rd I w v):Fr I w a (fr.set s d):=by
 refine ⟨hf.defers,by rw [hf.size,List.length_set],fun t' d' hd'=>?_⟩
 by_cases htt:s=t'
 ·subst htt
  rw [List.getElem?_set] at hd'
  simp only [if_true] at hd'
  split at hd'
  ·cases hd'
   have hv:a.tmps.getD s undef=v:=hf.rd s _ hs
   rw [hv];exact hd
  ·cases hd'
 ·rw [List.getElem?_set_ne htt] at hd'
  exact hf.rd t' d' hd'
theorem ZPC {s t:Tmp} (hs:fr[s]?=some (dX v)) (ht:(fr.set s (dS (Arr R) xs))[t]?=some (dX v)) (h:WL P ops Q rest ((fr.set s (dS (Arr R) xs)).set t (dS (Arr R) xs)) hp):WL P ops Q rest fr (Zh v e R xs::hp):=WL.of fun _ _ _ _ _ hh hf =>
 h.on hh.drop (ZQZ (ZD5 hf hs (d:=dS (Arr R) xs) (ZDM hh)) ht (ZDM hh))
end
end
section
open Go.RowKit

theorem ZE9 (xs:List Vx) (hl:xs.length≤1000):Fn Tryz.prog 44 [dS ZJ xs] (dS ZJ xs):=by
 (refine ZG Tryz.func44 rfl rfl ?_;simp only [Tryz.ntmps44,List.length_cons,List.length_nil,Nat.reduceAdd,Nat.reduceSub,List.replicate_succ,List.replicate_zero,List.cons_append,List.nil_append])
 ((repeat' (first |  (refine ZE6 4 rfl fun b hb=>?_;dsimp only [z0,z1])|(apply WL.opN;exact yF;dsimp only [ZB,z0,z1])|refine WL.nil ?_|refine ZA fun Kx hK=>?_|(refine hK _ _ ?_;clear hK)|refine WC.region ?_ |  (apply ZEO elV RV (by decide);(intro _;dsimp only [ZB,z0,z1]);all_goals (try infer_instance))|((first|apply WL.appK|apply WL.app1);(exact eD);exact OpD.t rfl;(exact oD);decide;(exact lD);(intro _;dsimp only [ZB,z0,z1]);all_goals (try infer_instance))|(apply WL.opN;(focus ((first|(apply ZE2;exact OpD.t rfl;(exact fun _ _ _ h=>ZS4 h);exact ZP5;exact ZNJ)|fail);all_goals infer_instance));dsimp only [ZB,z0,z1])|(apply WC.cond;(exact oD);all_goals (intro h;try exact xD))|refine WC.skip ?_|refine WC.ret ?_|refine ThenD.r ?_));all_goals (first|((repeat clear hK);(repeat clear Kx))))
 ·rw [hb h];(refine ⟨trivial,_,rfl,?_⟩;exact fD)
 ·rw [List.nil_append];(refine ⟨trivial,_,rfl,?_⟩;exact fD)
theorem ZJs {s:List Vx} (h:ZAL s=0):∀ v∈s,okV v:=fun v hv=>by
 have:=ZK6.1 ((Zk.1 h).2.2.1 v hv)
 unfold okV ZSO
 omega
theorem ZFa {l:Cx}:∀ n,n≤l.length->((ZHx (l.take n)).map (·.1)).Nodup/\∀ v,v∈(ZHx (l.take n)).map (·.1)->∃ s∈l,v∈s:=by
 have put:∀ (m:List (Vx × List Int)) (v:Vx) (i:Int),(m.map (·.1)).Nodup->((ZLQ m v i).map (·.1)).Nodup/\∀ u,u∈(ZLQ m v i).map (·.1)->u=v\/u∈m.map (·.1):=by
  intro m v i hm
  unfold ZLQ ZDr
  split
  ·rename_i h
   have e:(m.map fun p=>if p.1=v then (v,(lookM m v).getD []++[i]) else p).map (·.1)=m.map (·.1):=by
    rw [List.map_map]
    refine List.map_congr_left fun p _=>?_
    show (if p.1=v then (v,(lookM m v).getD []++[i]) else p).1=p.1
    split
    ·rename_i h;exact h.symm
    ·rfl
   rw [e]
   exact ⟨hm,fun u hu=>.inr hu⟩
  ·rename_i h
   rw [List.map_append]
   refine ⟨?_,fun u hu=>?_⟩
   ·rw [List.nodup_append]
    refine ⟨hm,by simp,fun a ha b hb=>?_⟩
    have:b=v:=by simpa using hb
    subst this
    intro hab
    subst hab
    obtain ⟨p,hp,hpv⟩:=List.mem_map.1 ha
    apply h
    unfold lookM
    rw [Option.isSome_map]
    rw [List.find?_isSome]
    exact ⟨p,hp,by simpa using hpv⟩
   ·rcases List.mem_append.1 hu with hu|hu
    ·exact .inr hu
    ·exact .inl (by simpa using hu)
 have all:∀ (s:List Vx) (m:List (Vx × List Int)) (i:Int),(m.map (·.1)).Nodup->((ZNZ m s i).map (·.1)).Nodup/\∀ u,u∈(ZNZ m s i).map (·.1)->u∈s\/u∈m.map (·.1):=by
  intro s
  induction s with
  | nil=>intro m i hm;exact ⟨hm,fun u hu=>.inr hu⟩
  | cons v s ih =>
   intro m i hm
   obtain ⟨h1,h2⟩:=put m v i hm
   obtain ⟨h3,h4⟩:=ih (ZLQ m v i) i h1
   refine ⟨h3,fun u hu=>?_⟩
   rcases h4 u hu with h|h
   ·exact .inl (by simp [h])
   ·rcases h2 u h with h|h
    ·exact .inl (by simp [h])
    ·exact .inr h
 intro n
 induction n with
 | zero=>intro _;exact ⟨by simp [ZHx],fun v hv=>by simp [ZHx] at hv⟩
 | succ n ih =>
  intro hn
  obtain ⟨h1,h2⟩:=ih (by omega)
  rw [ZFn (by omega)]
  obtain ⟨h3,h4⟩:=all l[n] (ZHx (l.take n)) (n:Int) h1
  refine ⟨h3,fun v hv=>?_⟩
  rcases h4 v hv with h|h
  ·exact ⟨l[n],List.getElem_mem _,h⟩
  ·exact h2 v h
theorem ZEc (l:Cx):((ZHx l).map (·.1)).Nodup:=by
 have:=(ZFa (l:=l) l.length (Nat.le_refl _)).1
 rwa [List.take_length] at this
theorem ZJl {l:Cx} (h:∀ s∈l,ZAL s=0):∀ p∈ZHx l,okV p.1:=fun p hp=>by
 have:=(ZFa (l:=l) l.length (Nat.le_refl _)).2 p.1
 rw [List.take_length] at this
 obtain ⟨s,hs,hv⟩:=this (List.mem_map_of_mem hp)
 exact ZJs (h s hs) _ hv
theorem isKV {x:Vx}:IsV (dS RV x) (kvV x):=⟨fun _ _ _ h=>h⟩
theorem ZHf {s:List Vx} (h:ZAL s=0):0<s.length:=by have:=Zk.1 h;omega
theorem ZDA {s:List Vx} (h:ZAL s=0):s.length≤8:=by have:=Zk.1 h;omega
set_option maxHeartbeats 4000000 in
theorem ZJb (l:Cx) (hg:∀ s∈l,ZAL s=0) (hl:l.length≤1000000):Fn Tryz.prog 39 [dS ZBN l] (dS Cpx (ZKs l)):=by
 (refine ZEL tyC Tryz.func39 rfl rfl ?_;simp only [Tryz.ntmps39,List.length_cons,List.length_nil,Nat.reduceAdd,Nat.reduceSub,List.replicate_succ,List.replicate_zero,List.cons_append,List.nil_append])
 (repeat' (first|((first|apply WL.opN|apply WD.opN);exact yF;dsimp only [ZB,z0,z1])|refine WL.nil ?_|refine ZA fun Kx hK=>?_|(refine hK _ _ ?_;clear hK)|refine WC.region ?_ |  (refine WL.alloc tzC (Ze rfl) fun b2=>?_;dsimp only [ZB,z0,z1]) |  (refine WL.callC (hp1:=[]) (caps:=[]) (ZRZ l hl) Tryz.call67 OpD.f (by (exact aD)) ?_;rintro d' hp2 ⟨v,rfl,rfl⟩;dsimp only [ZB,z0,z1,List.cons_append,List.nil_append]) |  (apply ZG0;exact OpD.t rfl;omega;intro ys hperm hsort;dsimp only [ZB,z0,z1])))
 refine WL.callC (hp1:=[_]) (caps:=[]) (ZNA ys v hsort (by rw [hperm.length_eq];omega)) Tryz.call68 OpD.f (ArgsD.cons (OpD.t rfl) (ArgsD.cons ⟨ZIq Tryz.call69 fun x:List Vx × List Vx=>eqV_p x.1 x.2⟩ ArgsD.nil)) ?_
 rintro d' hp2 ⟨v2,zs,hzs,rfl,rfl⟩
 dsimp only [ZB,z0,z1,List.cons_append,List.nil_append]
 (repeat' (first|((first|apply WL.opN|apply WD.opN);exact yF;dsimp only [ZB,z0,z1])|refine WL.nil ?_|refine ZA fun Kx hK=>?_|(refine hK _ _ ?_;clear hK)|refine WC.region ?_))
 refine ZPC (s:=0) (t:=13) rfl rfl ?_
 dsimp only [z0,z1]
 have hzg:∀ s∈zs,ZAL s=0:=fun s hs=>hg s (hperm.mem_iff.1 ((hzs.2 s).1 hs))
 have hzl:zs.length≤1000000:=by
  have h1:=hperm.length_eq
  have h2:zs.length≤ys.length:=List.Nodup.length_le_of_subset hzs.1.nodup fun x hx=>(hzs.2 x).1 hx
  omega
 (repeat' (first|((first|apply WL.opN|apply WD.opN);exact yF;dsimp only [ZB,z0,z1])|refine WL.nil ?_|refine ZA fun Kx hK=>?_|(refine hK _ _ ?_;clear hK)|refine WC.region ?_ |  (refine WL.alloc tzC (Ze rfl) fun b4=>?_;dsimp only [ZB,z0,z1])|((first|apply WL.opN|apply WD.opN);(focus ((first|(apply SY.call (ZFo zs hzl (fun s hs=>ZJs (hzg s hs)) (fun s hs=>Nat.le_trans (ZDA (hzg s hs)) (by decide))) Tryz.call36;(exact aD))|exact ZBw|fail);all_goals infer_instance));dsimp only [ZB,z0,z1])|refine WC.block ?_))
 have hgood:zs.filter (fun s=>!ZAM zs s)=ZKs l:=ZNm (fun s hs=>ZHf (hg s hs)) hzs.1 fun u=>(hzs.2 u).trans hperm.mem_iff
 refine ZB0 41 ZJ ?_
 (refine ZH (X:=Nat × Value × Cx) (fun x=>[(17,dI (x.1:Int)),(6,dA),(18,dA),(19,dA),(20,dA),(21,dA),(22,dA),(23,dA),(24,dA),(25,dA),(26,dA),(27,dA),(28,dA),(29,dA),(30,dA),(31,dA),(32,dA),(33,dA),(34,dA),(35,dA),(36,dA),(37,dA)]) (fun x=>(Zh x.2.1 41 ZJ x.2.2::hC1 b4 24 x.2.1::ZO b2 24 1 true (dX (.agg #[.slice none 0 0]))::[])) (fun x=>zs.length-x.1) (fun x=>x.1≤zs.length/\x.2.2=(zs.take x.1).filter (fun s=>!ZAM zs s)) (0,.slice none 0 0,[]) ?start ?frame0 ?objs0 ?round)
 case start=>exact ⟨Nat.zero_le _,by simp⟩
 case frame0=>((try dsimp only [ZQ,z0,z1]);repeat (first|exact LeF.nil|refine ZD (k:=?_)))
 case objs0=>rfl
 case round =>
  rintro ⟨k,v,o⟩ ⟨h1,h2⟩
  simp only at h1 h2
  have hol:o.length≤1000000:=by
   have h3:=List.length_filter_le (fun s=>!ZAM zs s) (zs.take k)
   rw [List.length_take,<- h2] at h3
   omega
  dsimp only [ZQ,z0,z1]
  ((repeat' (first |  (apply WC.drawTail 5;kernel_rfl;kernel_rfl;simp only [List.take_succ_cons,List.take_zero,List.drop_succ_cons,List.drop_zero])|(refine WRd.nil ?_)|(apply WRd.readL rfl;(focus (intro c hcc;apply SYG.yes;(exact ZP rfl);((first|(apply ZEM elV (OpD.t rfl) OpD.i 0 rfl;exact ZHf (hzg _ (List.getElem_mem _)))|(refine ZDw (a0:=([]:List Int)) ZFF ZKl (OpD.t rfl) (OpD.t rfl) isKV (ZJs (hzg _ (List.getElem_mem _)) _ (List.getElem_mem _)) (ZJl hzg) (ZEc zs) (fun _ _=>ZDJ))|(apply SY.call (ZEY _ _ _ ZJY) Tryz.call37;(exact aD))|(apply ZCe ZA9;exact OpD.t rfl)|(apply ZBA ZH1;exact OpD.t rfl;exact .tail _ (.head _))|(apply SY.call (ZE9 _ (Nat.le_trans (ZDA (hzg _ (List.getElem_mem _))) (by decide))) Tryz.call44;(exact aD))|exact ZDe|exact yAssign|exact ZCB|exact ZOr|exact ZCu|exact ZEn|exact yLoadh|exact ZBw|exact ZS|exact Z4|exact ZA4|fail);all_goals infer_instance)));dsimp only [ZB,z0,z1])|((first|apply WL.opN|apply WD.opN);exact yF;dsimp only [ZB,z0,z1])|refine WL.nil ?_|refine WD.nil ?_|refine ZA fun Kx hK=>?_|(refine hK _ _ ?_;clear hK)|(refine Kont.skip ?_;clear hK)|refine WC.region ?_|(apply WC.draw;kernel_rfl;kernel_rfl) |  (refine WL.perm (List.Perm.swap _ _ _) ?_;refine ZEQ ZH1 (OpD.t rfl) (OpD.t rfl) (.head _) ?_;refine WL.perm (List.Perm.swap _ _ _) ?_;dsimp only [ZB,z0,z1])|((first|apply Z1|apply Zv);(exact eD);exact OpD.t rfl;(exact oD);(intro _;exact hD);(exact (by simp));(exact (by simp));(first|exact ⟨by decide,by decide⟩|skip);decide;(exact lD);(intro _;dsimp only [ZB,z0,z1]);all_goals (try infer_instance))|((first|apply WL.appK|apply WL.app1);(exact eD);exact OpD.t rfl;(exact oD);decide;(exact lD);(intro _;dsimp only [ZB,z0,z1]);all_goals (try infer_instance))|((apply (WL.perm (List.Perm.swap _ _ _));(first|apply Z1|apply Zv);(exact eD);exact OpD.t rfl;(exact oD);(intro _;exact hD);(exact (by simp));(exact (by simp));(first|exact ⟨by decide,by decide⟩|skip);decide;(exact lD);(intro _;dsimp only [ZB,z0,z1]);all_goals (try infer_instance)))|((apply (WL.perm (List.Perm.swap _ _ _));(first|apply WL.appK|apply WL.app1);(exact eD);exact OpD.t rfl;(exact oD);decide;(exact lD);(intro _;dsimp only [ZB,z0,z1]);all_goals (try infer_instance)))|(apply WL.alloc;(first|exact tzV|exact tzC);(first|exact ZZ rfl|exact Zw|exact Ze rfl);(intro _;dsimp only [ZB,z0,z1]))|(apply ZI;(exact tD);rfl;(exact oD);(exact hD);dsimp only [ZB,z0,z1])|(apply ZAe;(exact tD);rfl;(exact oD);(exact hD);dsimp only [ZB,z0,z1])|(apply ZAZ;(exact tD);rfl;(exact oD);(exact hD);dsimp only [ZB,z0,z1])|((first|apply WL.opN|apply WD.opN);(focus ((first|(apply ZEM elV (OpD.t rfl) OpD.i 0 rfl;exact ZHf (hzg _ (List.getElem_mem _)))|(refine ZDw (a0:=([]:List Int)) ZFF ZKl (OpD.t rfl) (OpD.t rfl) isKV (ZJs (hzg _ (List.getElem_mem _)) _ (List.getElem_mem _)) (ZJl hzg) (ZEc zs) (fun _ _=>ZDJ))|(apply SY.call (ZEY _ _ _ ZJY) Tryz.call37;(exact aD))|(apply ZCe ZA9;exact OpD.t rfl)|(apply ZBA ZH1;exact OpD.t rfl;exact .tail _ (.head _))|(apply SY.call (ZE9 _ (Nat.le_trans (ZDA (hzg _ (List.getElem_mem _))) (by decide))) Tryz.call44;(exact aD))|exact ZCB|exact ZOr|exact ZCu|exact ZS|exact ZA4|fail);all_goals infer_instance));dsimp only [ZB,z0,z1])|(apply Z0;(exact oD);(with_reducible rfl))|(apply Za;(exact oD);(with_reducible rfl))|(apply WC.condD;(exact oD);all_goals (intro h;try exact xD))|(apply WC.condN;(exact oD);all_goals (intro h;try exact xD))|(apply WC.condNB;(exact oD);all_goals (intro h;try exact xD))|(apply WC.cond;(exact oD);all_goals (intro h;try exact xD))|refine WC.skip ?_|refine WC.ret ?_|refine WC.exit ?_|refine WC.block ?_|refine ThenD.n ?_|refine ThenD.r ?_|refine ThenD.x ?_|refine InBlockD.x ?_|refine InBlockD.n ?_|refine InBlockD.r ?_|refine ZAQ (by decide) ?_));all_goals (first|refine WC.id ?_|refine WL.id ?_|((repeat clear hK);(repeat clear Kx))))
  ·rename_i h0 v'
   rw [ZKI hzg (hzg _ (List.getElem_mem (show k<zs.length by omega))) (List.getElem_mem _)] at h
   (refine ⟨(k+1,v',o++[zs[k]]),?_,by first|omega|(simp only;omega),rfl,?_⟩;rotate_left;((try dsimp only [ZQ,z0,z1]);repeat (first|exact LeF.nil|refine ZD (k:=?_)));(try dsimp only))
   refine ⟨by omega,?_⟩
   show o++_=_
   rw [ZIj (by omega),if_pos (by rw [h];rfl),h2]
  ·rw [ZKI hzg (hzg _ (List.getElem_mem (show k<zs.length by omega))) (List.getElem_mem _)] at h
   (refine ⟨(k+1,v,o),?_,by first|omega|(simp only;omega),rfl,?_⟩;rotate_left;((try dsimp only [ZQ,z0,z1]);repeat (first|exact LeF.nil|refine ZD (k:=?_)));(try dsimp only))
   refine ⟨by omega,?_⟩
   show o=_
   rw [ZIj (by omega),if_neg (by rw [h];decide),h2,List.append_nil]
  ·rw [List.take_of_length_le (by omega),hgood] at h2
   subst h2
   refine ZBx (.head _) _root_.id fun hv=>?_
   obtain ⟨ad,c,rfl⟩:=hv
   ((repeat' (first|((first|apply WL.opN|apply WD.opN);exact yF;dsimp only [ZB,z0,z1])|refine WL.nil ?_|refine WD.nil ?_|refine ZA fun Kx hK=>?_|(refine hK _ _ ?_;clear hK)|(refine Kont.skip ?_;clear hK)|refine WC.region ?_|(apply WC.draw;kernel_rfl;kernel_rfl) |  (apply ZAZ tyC;rfl;exact OpD.t rfl;exact Ze rfl;dsimp only [ZB,z0,z1])|((first|apply Z1|apply Zv);(exact eD);exact OpD.t rfl;(exact oD);(intro _;exact hD);(exact (by simp));(exact (by simp));(first|exact ⟨by decide,by decide⟩|skip);decide;(exact lD);(intro _;dsimp only [ZB,z0,z1]);all_goals (try infer_instance))|((first|apply WL.appK|apply WL.app1);(exact eD);exact OpD.t rfl;(exact oD);decide;(exact lD);(intro _;dsimp only [ZB,z0,z1]);all_goals (try infer_instance))|((apply (WL.perm (List.Perm.swap _ _ _));(first|apply Z1|apply Zv);(exact eD);exact OpD.t rfl;(exact oD);(intro _;exact hD);(exact (by simp));(exact (by simp));(first|exact ⟨by decide,by decide⟩|skip);decide;(exact lD);(intro _;dsimp only [ZB,z0,z1]);all_goals (try infer_instance)))|((apply (WL.perm (List.Perm.swap _ _ _));(first|apply WL.appK|apply WL.app1);(exact eD);exact OpD.t rfl;(exact oD);decide;(exact lD);(intro _;dsimp only [ZB,z0,z1]);all_goals (try infer_instance)))|(apply WL.alloc;(first|exact tzV|exact tzC);(first|exact ZZ rfl|exact Zw|exact Ze rfl);(intro _;dsimp only [ZB,z0,z1]))|(apply ZI;(exact tD);rfl;(exact oD);(exact hD);dsimp only [ZB,z0,z1])|(apply ZAe;(exact tD);rfl;(exact oD);(exact hD);dsimp only [ZB,z0,z1])|(apply ZAZ;(exact tD);rfl;(exact oD);(exact hD);dsimp only [ZB,z0,z1])|((first|apply WL.opN|apply WD.opN);(focus ((first|(apply Zd tyC;exact OpD.t rfl;exact .tail _ (.head _))|exact ZDe|exact yAssign|exact ZCB|exact ZOr|exact ZCu|exact ZEn|exact yLoadh|exact ZBw|exact ZS|exact Z4|exact ZA4|fail);all_goals infer_instance));dsimp only [ZB,z0,z1])|(apply Z0;(exact oD);(with_reducible rfl))|(apply Za;(exact oD);(with_reducible rfl))|(apply WC.condD;(exact oD);all_goals (intro h;try exact xD))|(apply WC.condN;(exact oD);all_goals (intro h;try exact xD))|(apply WC.condNB;(exact oD);all_goals (intro h;try exact xD))|(apply WC.cond;(exact oD);all_goals (intro h;try exact xD))|refine WC.skip ?_|refine WC.ret ?_|refine WC.exit ?_|refine WC.block ?_|refine ThenD.n ?_|refine ThenD.r ?_|refine ThenD.x ?_|refine InBlockD.x ?_|refine InBlockD.n ?_|refine InBlockD.r ?_|refine ZAQ (by decide) ?_));all_goals (first|refine WC.id ?_|refine WL.id ?_|((repeat clear hK);(repeat clear Kx))))
   exact ⟨trivial,_,rfl,ZH4 (.head _)⟩
end
end Go.Proofs.YtokmalofdapffaaGreat
