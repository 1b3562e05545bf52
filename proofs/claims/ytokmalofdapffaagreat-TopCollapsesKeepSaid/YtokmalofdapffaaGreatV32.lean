/- Part 32: walks by contracts, and plain laws. -/
import Derived.Test.YtokmalofdapffaaGreatV31
set_option linter.unusedVariables false
set_option linter.unusedSimpArgs false
set_option linter.unusedSectionVars false
set_option maxRecDepth 100000
set_option maxHeartbeats 4000000
namespace Go.Proofs.YtokmalofdapffaaGreat
section
open Go.RowKit
open L05 (Ln ZFX ZEu ZCC RedAt Good05)
def ZAY (M:List (Int × Value × Ln)):List (Int × Ln):=M.map fun p=>(p.1,p.2.2)
theorem ZIr (M:List (Int × Value × Ln)) (c:Int):ZCC (ZAY M) c=(lookM M c).map (·.2):=by
 unfold ZCC ZAY lookM
 rw [List.find?_map,Option.map_map,Option.map_map]
 rfl
theorem ZKr {M:List (Int × Value × Ln)} {c:Int} {p:Value × Ln} (h:lookM M c=some p):p∈M.map (·.2):=by
 unfold lookM at h
 obtain ⟨q,h1,rfl⟩:=Option.map_eq_some_iff.1 h
 exact List.mem_map_of_mem (List.mem_of_find?_eq_some h1)
theorem ZB1 {a:List Int} {n:Nat} (h:L05.Asc a) (hr:∀ i∈a,0≤i/\i<(n:Int)):a.length≤n:=by
 rw [C34.asc_range h hr,List.length_map]
 exact Nat.le_trans (List.length_filter_le _ _) (by simp)
abbrev FrmL (n:Int) (m:List (Int × Ln)):Prop:=∀ p∈m,L05.Low n p.2.2
theorem ZSQ:StrT Tryz.prog 134 2:=⟨fun b off i w hi=>by
 match i,hi with
 | 0,_=>go_simp
 | 1,_=>go_simp⟩
theorem ZL3 {P:Program} {f:FuncId} {ds:List Dat} {hp1 O:List HObj} {e:Dat} (h:CallC P f ds hp1 fun d hp2=>d.le e/\∃ o,hp2=o::O):CallC P f ds hp1 fun d hp2=>d=e/\hp2=O:=⟨fun P0 B w0 hp vs W hh hl hv=>by
 refine Calls.mono (h.out P0 B w0 hp vs W hh hl hv) fun e' W' ⟨v,d,hp2,he,hk,hh2,hd⟩=>?_
 obtain ⟨hle,o,rfl⟩:=hk
 exact ⟨v,e,O,he,⟨rfl,rfl⟩,hh2.drop,e.weak (hle _ _ _ hd) Imm.sub⟩⟩
def ldO (b4 bm:Nat) (M:List (Int × Value × Ln)):List HObj:=[ZO b4 158 1 false (dX (.map (some bm))),hM bm kvQ (fun p:Value × Ln=>p.1) M,hKL LnR (M.map (·.2))]



set_option maxHeartbeats 16000000 in
theorem ZSF (b4 bm:Nat) (M:List (Int × Value × Ln)) (C n:Nat) (x:Ln) (hC:C≤4096) (hn:n≤4096) (G:Good05 C (ZAY M)) (hF:FrmL (n:Int) (ZAY M)) (h1:L05.Asc x.1) (h2:L05.Low (C:Int) x.1) (h3:L05.Pos x.1) (h4:L05.Asc x.2/\L05.Pos x.2) (h5:L05.Low (n:Int) x.2) :
  CallC Tryz.prog 121 ([dS LnR x]++[Value.pointer (some ⟨b4,0,none⟩)].map dX) (ldO b4 bm M) (fun d hp2=>d=dS LnR (ZEu (ZAY M) (C+1) 0 x)/\hp2=ldO b4 bm M):=by
 have hko:∀ p∈M,ZBs p.1:=fun p hp=>by
  have hm:(p.1,p.2.2)∈ZAY M:=List.mem_map.2 ⟨p,hp,rfl⟩
  have:=G.low _ hm _ (L05.head_mem (G.hd _ hm))
  have:=G.pos _ hm _ (L05.head_mem (G.hd _ hm))
  simp only at *
  unfold ZBs;omega
 have hkn:(M.map (·.1)).Nodup:=by
  have:=G.nd
  unfold ZAY at this
  rwa [List.map_map] at this
 refine ZL3 (ZGo ZLD Tryz.func121 rfl rfl fun hp=>?_)
 -- @kinds matrix.echelon$1
 simp only [Tryz.ntmps121,List.length_cons,List.length_nil,List.length_append,List.length_map,Nat.reduceAdd,Nat.reduceSub,List.replicate_succ,List.replicate_zero,List.cons_append,List.nil_append,List.map_cons,List.map_nil,ldO]
 (repeat' (first|((first|apply WL.opN|apply WD.opN);exact yF;dsimp only [ZB,z0,z1])|refine WL.nil ?_|refine ZA fun Kx hK=>?_|(refine hK _ _ ?_;clear hK)|refine WC.region ?_ |  (refine ZGy (n:=2) (x:=Operand.tmp 0) (d:=ZKR [dS ZBk x.1,dS ZBk x.2]) (OpD.tle rfl ZL9) (ZJA (Nat.succ_pos _) rfl) fun b2=>ZO9 (ds:=[dS ZBk x.1,dS ZBk x.2]) ?_;dsimp only [ZB,z0,z1]) |  (refine WL.alloc (dst:=some 3) (T:=134) ZQl (ZAa rfl rfl) fun b3=>WL.perm (List.Perm.swap _ _ _) ?_;dsimp only [ZB,z0,z1])|refine WC.block ?_))
 all_goals try (exfalso;first|contradiction|omega)
 (refine ZH (X:=Nat × Nat × Ln) (fun p=>[(4,dI (p.2.1:Int)),(5,dA),(6,dA),(7,dA),(8,dA),(9,dA),(10,dA),(11,dA),(12,dA),(13,dA),(14,dA),(15,dA),(16,dA),(17,dA),(18,dA),(19,dA),(20,dA),(21,dA),(22,dA),(23,dA),(24,dA),(25,dA),(26,dA),(27,dA),(28,dA),(29,dA),(30,dA),(31,dA),(32,dA),(33,dA),(34,dA),(35,dA),(36,dA)]) (fun p=>(ZBd b2 134 [dS ZBk p.2.2.1,dS ZBk p.2.2.2]::ZO b3 134 2 true (dX (.agg #[.slice none 0 0,.slice none 0 0]))::ZO b4 158 1 false (dX (.map (some bm)))::hM bm kvQ (fun p:Value × Ln=>p.1) M::hKL LnR (M.map (·.2))::hp)) (fun p=>p.1) (fun p=>RedAt [] C (ZAY M) x p.1 p.2.1 p.2.2/\L05.Low (n:Int) p.2.2.2/\ZEu (ZAY M) p.1 p.2.1 p.2.2=ZEu (ZAY M) (C+1) 0 x) (C+1,0,x) ?start ?frame0 ?objs0 ?round)
 case start=>exact ⟨RedAt.start h1 h2 h3 h4,h5,rfl⟩
 case frame0=>((try dsimp only [ZQ,z0,z1]);repeat (first|exact LeF.nil|refine ZD (k:=?_)))
 case objs0=>rfl
 case round =>
  rintro ⟨f,i,y⟩ ⟨hR,hLo,hE⟩
  simp only at hR hLo hE
  dsimp only [ZQ,z0,z1]
  by_cases hil:i<y.1.length
  ·have hilI:(i:Int)<(y.1.length:Int):=by omega
   obtain ⟨c,hc⟩:∃ c,y.1[i]=c:=⟨_,rfl⟩
   have hc':y.1[i]?=some c:=by rw [List.getElem?_eq_getElem hil,hc]
   have hcm:c∈y.1:=List.mem_of_getElem? hc'
   have hc64:ZBs c:=by have:=hR.low c hcm;have:=hR.pos c hcm;unfold ZBs;omega
   have hil2:i≤4096:=by have:=ZB1 (n:=C) hR.asc fun v hv=>⟨hR.pos v hv,hR.low v hv⟩;omega
   obtain ⟨f,rfl⟩:∃ g,f=g+1:=⟨f-1,by
    cases f with
    | zero=>have:=hR.fuel c hc';have:=hR.low c hcm;omega
    | succ f=>rfl⟩
   have hlk:=ZIr M c
   cases hl:lookM M c with
   | none =>
    rw [hl] at hlk
    have hE2:ZEu (ZAY M) (f+1) i y=ZEu (ZAY M) f (i+1) y:=by
     conv=>lhs;unfold ZEu
     rw [hc']
     simp only [hlk,Option.map_none]
    (repeat' (first |  (refine WC.drawM (fun q=>ZBd b2 134 [dS ZBk y.1,dS ZBk y.2]∈q/\ZO b4 158 1 false (dX (.map (some bm)))∈q/\hM bm kvQ (fun p:Value × Ln=>p.1) M∈q/\hKL LnR (M.map (·.2))∈q) 12 1 [(0,false),(1,false),(2,false),(3,false),(4,false),(5,false),(6,false),(7,false),(8,false),(9,false),(10,true),(11,true)] [true,true,true,true,true,true,true,true,true,true,true,true,false] (by kernel_rfl) (by kernel_rfl) (by kernel_rfl) rfl (⟨mAt 0 rfl,mAt 2 rfl,mAt 3 rfl,mAt 4 rfl⟩) ?_) |  (first|refine WA.one (S:=[true,true,true,true,true,true,true,true,true,true,true,true,false]) (i:=12) (by kernel_rfl) rfl ?_|refine WA.nil (S:=[true,true,true,true,true,true,true,true,true,true,true,true,true]) (by kernel_rfl) ?_) |  (refine ZAx rfl (SW.alloc ZQl (ZAa rfl rfl)) (fun _=>⟨mAt 1 rfl,mAt 3 rfl,mAt 4 rfl,mAt 5 rfl⟩) fun b5=>?_;dsimp only [ZB,z0,z1]) |  (refine ZAx rfl (ZCT ZLD (OpD.t rfl) (OpD.t rfl) (ZAa rfl rfl)) (fun _=>⟨mAt 1 rfl,mAt 3 rfl,mAt 4 rfl,mAt 5 rfl⟩) fun _=>?_;dsimp only [ZB,z0,z1]) |  (refine WC.only5 4 (Halt5.go ?_))|(refine WM.nil ?_)|(apply WM.readL rfl;(focus (intro c hcc;apply SYG.yes;(exact ZP rfl);((first|(refine ZC0 ZSQ (OpD.t rfl) (by decide))|(apply ZCE;exact ZOp;exact OpD.t rfl;(first|exact hcc.1|exact mAt 0 rfl);rfl)|(apply Zd ZOq;exact OpD.t rfl;exact hcc.2.1)|(exact ZAK (R:=RI) (_gR:=inferInstance) elI hil hc (OpD.t rfl) (OpD.t rfl))|(exact ZIC ZFq ZD6 (OpD.t rfl) hcc.2.2.1 (OpD.t rfl) isI hc64 hko hkn hl)|((first|apply SY.move|apply SY.assign|apply SY.lss|apply SY.not) <;> (exact oD))|(apply SY.load;(exact tD);(exact oD))|(apply SY.extract;(exact oD);rfl)|fail);all_goals infer_instance)));dsimp only [ZB,z0,z1])|((first|apply WL.opN|apply WD.opN);exact yF;dsimp only [ZB,z0,z1])|refine WL.nil ?_|refine ZA fun Kx hK=>?_|(refine hK _ _ ?_;clear hK)|refine WC.region ?_|((first|apply WL.opN|apply WD.opN);(focus ((first|(refine ZC0 ZSQ (OpD.t rfl) (by decide))|(apply ZCE;exact ZOp;exact OpD.t rfl;(first|exact hcc.1|exact mAt 0 rfl);rfl)|((first|apply SY.move|apply SY.assign|apply SY.lss|apply SY.not) <;> (exact oD))|(apply SY.len;(exact oD);(exact nD);(exact uD))|fail);all_goals infer_instance));dsimp only [ZB,z0,z1])|(apply WC.condD;(exact oD);all_goals (intro h;try exact xD))|refine WC.skip ?_|refine WC.block ?_))
    all_goals try (exfalso;first|contradiction|omega)
    refine ⟨ZO3 ?_⟩
    ((repeat' (first|((first|apply WL.opN|apply WD.opN);exact yF;dsimp only [ZB,z0,z1])|refine WL.nil ?_|refine ZA fun Kx hK=>?_|(refine hK _ _ ?_;clear hK)|refine WC.region ?_|((first|apply WL.opN|apply WD.opN);(focus ((first|((first|apply SY.move|apply SY.assign|apply SY.lss|apply SY.not) <;> (exact oD))|((first|apply SY.add) <;> first|exact oD|omega)|fail);all_goals infer_instance));dsimp only [ZB,z0,z1])|(apply WC.condNB;(exact oD);all_goals (intro h;try exact xD))|refine WC.exit ?_|refine ThenD.n ?_|refine ThenD.x ?_|refine InBlockD.x ?_));all_goals (first|((repeat clear hK);(repeat clear Kx))))
    all_goals try (exfalso;first|contradiction|omega)
    (refine ⟨(f,i+1,y),?_,by first|omega|(simp only;omega),rfl,?_⟩;rotate_left;((try dsimp only [ZQ,z0,z1]);repeat (first|exact LeF.nil|refine ZD (k:=?_)));(try dsimp only))
    exact ⟨hR.skip hc' (by rw [hlk];rfl),hLo,hE2 ▸ hE⟩
   | some p =>
    rw [hl] at hlk
    have hpl:ZCC (ZAY M) c=some p.2:=by rw [hlk];rfl
    have hpm:=L05.lookP_some hpl
    have hE2:ZEu (ZAY M) (f+1) i y=ZEu (ZAY M) f i (ZFX y p.2):=by
     conv=>lhs;unfold ZEu
     rw [hc']
     simp only [hpl]
    have hR2:=hR.add G hc' hpl
    have hl1:=ZB1 (n:=C) hR.asc fun v hv=>⟨hR.pos v hv,hR.low v hv⟩
    have hl2:=ZB1 (n:=n) hR.frm.1 fun v hv=>⟨hR.frm.2 v hv,hLo v hv⟩
    have hl3:=ZB1 (n:=C) (G.asc _ hpm) fun v hv=>⟨G.pos _ hpm v hv,G.low _ hpm v hv⟩
    have hl4:=ZB1 (n:=n) (G.frm _ hpm).1 fun v hv=>⟨(G.frm _ hpm).2 v hv,hF _ hpm v hv⟩
    simp only at hl3 hl4
    have hs1:=ZHo y.1 p.2.1 (by omega)
    have hs2:=ZHo y.2 p.2.2 (by omega)
    have hLo2:L05.Low (n:Int) (ZFX y p.2).2:=L05.plus_low hR.frm.1 (G.frm _ hpm).1 hLo (hF _ hpm)
    (repeat' (first |  (refine WC.drawM (fun q=>ZBd b2 134 [dS ZBk y.1,dS ZBk y.2]∈q/\ZO b4 158 1 false (dX (.map (some bm)))∈q/\hM bm kvQ (fun p:Value × Ln=>p.1) M∈q/\hKL LnR (M.map (·.2))∈q) 12 1 [(0,false),(1,false),(2,false),(3,false),(4,false),(5,false),(6,false),(7,false),(8,false),(9,false),(10,true),(11,true)] [true,true,true,true,true,true,true,true,true,true,true,true,false] (by kernel_rfl) (by kernel_rfl) (by kernel_rfl) rfl (⟨mAt 0 rfl,mAt 2 rfl,mAt 3 rfl,mAt 4 rfl⟩) ?_) |  (first|refine WA.one (S:=[true,true,true,true,true,true,true,true,true,true,true,true,false]) (i:=12) (by kernel_rfl) rfl ?_|refine WA.nil (S:=[true,true,true,true,true,true,true,true,true,true,true,true,true]) (by kernel_rfl) ?_) |  (refine ZAx rfl (SW.alloc ZQl (ZAa rfl rfl)) (fun _=>⟨mAt 1 rfl,mAt 3 rfl,mAt 4 rfl,mAt 5 rfl⟩) fun b5=>?_;dsimp only [ZB,z0,z1]) |  (refine ZAx rfl (ZCT ZLD (OpD.t rfl) (OpD.t rfl) Zy) (fun _=>⟨mAt 1 rfl,mAt 3 rfl,mAt 4 rfl,mAt 5 rfl⟩) fun _=>?_;dsimp only [ZB,z0,z1]) |  (refine WC.only5 4 (Halt5.go ?_))|(refine WM.nil ?_)|(apply WM.readL rfl;(focus (intro c hcc;apply SYG.yes;(exact ZP rfl);((first|(refine ZC0 ZSQ (OpD.t rfl) (by decide))|(apply ZCE;exact ZOp;exact OpD.t rfl;(first|exact hcc.1|exact mAt 0 rfl);rfl)|(apply Zd ZOq;exact OpD.t rfl;exact hcc.2.1)|(exact ZAK (R:=RI) (_gR:=inferInstance) elI hil hc (OpD.t rfl) (OpD.t rfl))|(exact ZID ZFq ZD6 (OpD.t rfl) hcc.2.2.1 hcc.2.2.2 (OpD.t rfl) isI hc64 hko hkn hl (ZKr hl))|((first|apply SY.move|apply SY.assign|apply SY.lss|apply SY.not) <;> (exact oD))|(apply SY.load;(exact tD);(exact oD))|(apply SY.extract;(exact oD);rfl)|fail);all_goals infer_instance)));dsimp only [ZB,z0,z1])|((first|apply WL.opN|apply WD.opN);exact yF;dsimp only [ZB,z0,z1])|refine WL.nil ?_|refine ZA fun Kx hK=>?_|(refine hK _ _ ?_;clear hK)|refine WC.region ?_|((first|apply WL.opN|apply WD.opN);(focus ((first|(refine ZC0 ZSQ (OpD.t rfl) (by decide))|(apply ZCE;exact ZOp;exact OpD.t rfl;(first|exact hcc.1|exact mAt 0 rfl);rfl)|((first|apply SY.move|apply SY.assign|apply SY.lss|apply SY.not) <;> (exact oD))|(apply SY.len;(exact oD);(exact nD);(exact uD))|fail);all_goals infer_instance));dsimp only [ZB,z0,z1])|(apply WC.condD;(exact oD);all_goals (intro h;try exact xD))|refine WC.skip ?_|refine WC.block ?_))
    all_goals try (exfalso;first|contradiction|omega)
    refine ⟨ZGG (t:=5) rfl ?_⟩
    simp only [z0,z1]
    ((repeat' (first |  (apply WC.drawTail 11;kernel_rfl;kernel_rfl;simp only [List.take_succ_cons,List.take_zero,List.drop_succ_cons,List.drop_zero])|((first|apply WL.opN|apply WD.opN);exact yF;dsimp only [ZB,z0,z1])|refine WL.nil ?_|refine WD.nil ?_|(refine hK _ _ ?_;clear hK)|refine WC.region ?_ |  (refine ZFV ZLD (OpD.t rfl) (OpD.tle rfl ZL9) rfl rfl ?_;dsimp only [ZB,z0,z1])|((first|apply WL.opN|apply WD.opN);(focus ((first|(refine ZC0 ZSQ (OpD.t rfl) (by decide))|(apply ZCE;exact ZOp;exact OpD.t rfl;exact mAt 0 rfl;rfl)|(apply SY.call (hs1) Tryz.call122;exact ArgsD.cons (OpD.t rfl) (ArgsD.cons (OpD.t rfl) (ArgsD.nil)))|(apply SY.call (hs2) Tryz.call122;exact ArgsD.cons (OpD.t rfl) (ArgsD.cons (OpD.t rfl) (ArgsD.nil)))|(exact ZMK lnT (R:=RI) (S:=RI) (_gR:=inferInstance) (_gS:=inferInstance) (OpD.t rfl) (OpD.t rfl))|((first|apply SY.move|apply SY.assign|apply SY.lss|apply SY.not) <;> (exact oD))|(apply Zc lnT;exact OpD.t rfl)|(apply Zm lnT;exact OpD.t rfl)|fail);all_goals infer_instance));dsimp only [ZB,z0,z1])|(apply WC.condNB;(exact oD);all_goals (intro h;try exact xD))|refine WC.skip ?_|refine ThenD.n ?_|refine InBlockD.n ?_));all_goals (first|((repeat clear hK);(repeat clear Kx))))
    all_goals try (exfalso;first|contradiction|omega)
    (refine ⟨(f,i,ZFX y p.2),?_,by first|omega|(simp only;omega),rfl,?_⟩;rotate_left;((try dsimp only [ZQ,z0,z1]);repeat (first|exact LeF.nil|refine ZD (k:=?_)));(try dsimp only))
    exact ⟨hR2,hLo2,hE2 ▸ hE⟩
  ·have hilI:¬ (i:Int)<(y.1.length:Int):=by omega
   have hres:ZEu (ZAY M) f i y=y:=by
    cases f with
    | zero=>rfl
    | succ f=>unfold ZEu;rw [List.getElem?_eq_none (by omega)]
   rw [hres] at hE
   ((repeat' (first|((first|apply WL.opN|apply WD.opN);exact yF;dsimp only [ZB,z0,z1])|refine WL.nil ?_|refine ZA fun Kx hK=>?_|(refine hK _ _ ?_;clear hK)|(refine Kont.skip ?_;clear hK)|refine WC.region ?_ |  (refine WL.perm (List.Perm.swap _ _ _) (ZI ZLD rfl (OpD.t rfl) (ZJA (by decide) rfl) ?_);dsimp only [ZB,z0,z1])|((first|apply WL.opN|apply WD.opN);(focus ((first|(refine ZC0 ZSQ (OpD.t rfl) (by decide))|(apply ZCE;exact ZOp;exact OpD.t rfl;exact mAt 0 rfl;rfl)|(exact ZGv ZLD (OpD.t rfl) (mAt 0 rfl) (by decide) rfl)|((first|apply SY.move|apply SY.assign|apply SY.lss|apply SY.not) <;> (exact oD))|(apply SY.len;(exact oD);(exact nD);(exact uD))|fail);all_goals infer_instance));dsimp only [ZB,z0,z1])|(apply WC.condD;(exact oD);all_goals (intro h;try exact xD))|refine WC.ret ?_|refine WC.exit ?_));all_goals (first|((repeat clear hK);(repeat clear Kx))))
   all_goals try (exfalso;first|contradiction|omega)
   exact ⟨trivial,_,_::_,rfl,rfl,hE ▸ ZG2,_,rfl⟩
end
section
def Apart (a b:Cx):Prop:=∀ s∈a,∀ t∈b,∀ v∈s,v∉t
theorem Apart.symm {a b:Cx} (h:Apart a b):Apart b a:=fun s hs t ht v v1 v2=>h t ht s hs v v2 v1
theorem ZBS {a:Cx} (ha:GoodX a) {s t:List Vx} (hs:s∈a) (ht:t∈a) (h:Zb s t=true):s=t:=by
 by_cases he:s=t
 ·exact he
 ·have:=ZBe (ha.asc s hs) (ha.asc t ht) h he
  have h2:ZAM a s=true:=ZAG.2 ⟨t,ht,this,h⟩
  rw [ha.2.2.2 s hs] at h2;cases h2
end
section
def ZQu (l:Cx) (s:List Vx):Nat:=(l.filter fun f=>Zb s f).length
def atK (l:List Cl) (x:Cl):Nat->Nat
 | 0=>0
 | k+1=>if ZAB x.1 (l.getD k ([],[])).1<0 then atK l x k else k+1
theorem ZQv (l:List Cl) (x:Cl):∀ k,atK l x k≤k
 | 0=>Nat.le_refl _
 | k+1=>by unfold atK;split;exact Nat.le_succ_of_le (ZQv l x k);exact Nat.le_refl _
def ZSE (l:List Cl) (x:Cl):List Cl:=l.take (atK l x l.length)++[x]++l.drop (atK l x l.length)
def rowK (l:Cx) (f:List Vx) (t:Cx):List Cl:=(t.filter fun s=>decide (ZQu l s=1)).map fun s=>(s,f)
def ZS6 (l:Cx) (f:List Vx):List Cl:=if f.length=1 then [] else rowK l f (ZX (f.length-1) f)
def prK (l m:Cx):List Cl:=(m.flatMap (ZS6 l)).foldl ZSE []
def Zq (l:Cx):List Cl:=prK l l
def ZAC (l:Cx) (x:Cl):Cx:=ZKs ((l.filter fun f=>decide (f≠x.2))++(ZX (x.2.length-1) x.2).filter fun t=>decide (t≠x.1))
end
section
theorem ZJE {l:Cx} (hl:∀ s∈l,Asc s):∀ k,(upC l k).Nodup
 | 0=>by simp [upC]
 | k+1=>by
  show (upC l k++Zs l (k+1)).Nodup
  rw [List.nodup_append]
  refine ⟨ZJE hl k,(ZA0 l _).nodup,fun x hx y hy hxy=>?_⟩
  subst hxy
  obtain ⟨j,h1,h2,h3⟩:=ZHs.1 hx
  have e1:=((ZER hl).1 h3).2.1
  have e2:=((ZER hl).1 hy).2.1
  omega
theorem ZP6 {s t:List Vx} (hs:Asc s) (ht:Asc t) (h:∀ v∈s,v∉t):(ZOj s t).length=s.length+t.length:=by
 have hn1:s.Nodup:=List.Pairwise.imp (fun {a b} hab hc=>by subst hc;rw [ZB5.2 rfl] at hab;omega) hs
 have hn2:t.Nodup:=List.Pairwise.imp (fun {a b} hab hc=>by subst hc;rw [ZB5.2 rfl] at hab;omega) ht
 have hn:(s++t).Nodup:=by
  rw [List.nodup_append]
  refine ⟨hn1,hn2,fun x hx y hy hxy=>?_⟩
  subst hxy
  exact h x hx hy
 have ha:=ZG3 (l:=t) hs
 have hn3:(ZOj s t).Nodup:=List.Pairwise.imp (fun {a b} hab hc=>by subst hc;rw [ZB5.2 rfl] at hab;omega) ha
 rw [<- List.length_append]
 apply Nat.le_antisymm
 ·exact List.Nodup.length_le_of_subset hn3 fun x hx=>by rw [List.mem_append];exact ZFH.1 hx
 ·exact List.Nodup.length_le_of_subset hn fun x hx=>ZFH.2 (List.mem_append.1 hx)
end
section
section
variable {V:Type} [DecidableEq V]
def ZCR (m:List (V × V)) (v:V):V:=m.foldl (fun x p=>if x=p.1 then p.2 else x) v
theorem ZQU (m:List (V × V)) (a b v:V):ZCR (m++[(a,b)]) v=if ZCR m v=a then b else ZCR m v:=by
 unfold ZCR;rw [List.foldl_append];rfl
def ZP1 (m:List (V × V)) (u v:V):List (V × V):=if ZCR m u=ZCR m v then m else m++[(ZCR m u,ZCR m v)]
theorem ZKk (m:List (V × V)) (u v x:V):ZCR (ZP1 m u v) x=if ZCR m x=ZCR m u then ZCR m v else ZCR m x:=by
 unfold ZP1
 by_cases h1:ZCR m u=ZCR m v
 ·rw [if_pos h1]
  by_cases h2:ZCR m x=ZCR m u
  ·rw [if_pos h2,h2,h1]
  ·rw [if_neg h2]
 ·rw [if_neg h1,ZQU]
def ZAo (m:List (V × V)) (es:List (V × V)):List (V × V):=es.foldl (fun m e=>ZP1 m e.1 e.2) m
inductive Conn (es:List (V × V)):V->V->Prop
 | refl (u:V):Conn es u u
 | step {u v w:V} (h:Conn es u v) (e:(v,w)∈es\/(w,v)∈es):Conn es u w
theorem Conn.trans {es:List (V × V)} {u v w:V} (h:Conn es u v) (k:Conn es v w):Conn es u w:=by
 induction k with
 | refl=>exact h
 | step _ e ih=>exact ih.step e
theorem Conn.symm {es:List (V × V)} {u v:V} (h:Conn es u v):Conn es v u:=by
 induction h with
 | refl=>exact .refl _
 | step _ e ih=>exact (Conn.step (.refl _) e.symm).trans ih
theorem Conn.mono {es es':List (V × V)} (hs:∀ e∈es,e∈es') {u v:V} (h:Conn es u v):Conn es' u v:=by
 induction h with
 | refl=>exact .refl _
 | step _ e ih=>exact ih.step (e.elim (fun e=>.inl (hs _ e)) fun e=>.inr (hs _ e))
theorem ZLg (es:List (V × V)) (e:V × V):ZAo [] (es++[e])=ZP1 (ZAo [] es) e.1 e.2:=by unfold ZAo;rw [List.foldl_append];rfl
theorem ZHr {α:Type} {P:List α->Prop} (h0:P []) (h1:∀ l a,P l->P (l++[a])):∀ l,P l:=fun l=>by
 have:P l.reverse.reverse:=by
  induction l.reverse with
  | nil=>exact h0
  | cons a l ih=>rw [List.reverse_cons];exact h1 _ _ ih
 rwa [List.reverse_reverse] at this
theorem ZFA (es:List (V × V)):∀ u v,ZCR (ZAo [] es) u=ZCR (ZAo [] es) v↔Conn es u v:=by
 refine ZHr (P:=fun es=>∀ u v,ZCR (ZAo [] es) u=ZCR (ZAo [] es) v↔Conn es u v) ?_ ?_ es
 ·intro u v
  constructor
  ·intro h
   have:u=v:=h
   subst this
   exact .refl _
  ·intro h
   induction h with
   | refl=>rfl
   | step _ e _=>simp at e
 ·intro es e ih u v
  have hm:∀ x∈es,x∈es++[e]:=fun x hx=>List.mem_append_left _ hx
  have h1:Conn (es++[e]) e.1 e.2:=.step (.refl _) (.inl (by simp))
  rw [ZLg,ZKk,ZKk]
  constructor
  ·intro h
   by_cases a1:ZCR (ZAo [] es) u=ZCR (ZAo [] es) e.1
   ·have c1:=((ih _ _).1 a1).mono hm
    by_cases a2:ZCR (ZAo [] es) v=ZCR (ZAo [] es) e.1
    ·exact c1.trans (((ih _ _).1 a2).mono hm).symm
    ·rw [if_pos a1,if_neg a2] at h
     exact (c1.trans h1).trans (((ih _ _).1 h).mono hm)
   ·by_cases a2:ZCR (ZAo [] es) v=ZCR (ZAo [] es) e.1
    ·rw [if_neg a1,if_pos a2] at h
     exact ((((ih _ _).1 h).mono hm).trans h1.symm).trans (((ih _ _).1 a2).mono hm).symm
    ·rw [if_neg a1,if_neg a2] at h
     exact ((ih _ _).1 h).mono hm
  ·intro h
   induction h with
   | refl=>rfl
   | step _ k ihk =>
    rename_i x y _
    rw [ihk]
    have hk:∀ x y:V,(x,y)∈es++[e]->(if ZCR (ZAo [] es) x=ZCR (ZAo [] es) e.1 then ZCR (ZAo [] es) e.2 else ZCR (ZAo [] es) x)=if ZCR (ZAo [] es) y=ZCR (ZAo [] es) e.1 then ZCR (ZAo [] es) e.2 else ZCR (ZAo [] es) y:=by
     intro x y hxy
     rcases List.mem_append.1 hxy with hxy|hxy
     ·have:=(ih x y).2 (.step (.refl _) (.inl hxy))
      rw [this]
     ·have he:(x,y)=e:=by simpa using hxy
      subst he
      rw [if_pos rfl]
      by_cases h3:ZCR (ZAo [] es) y=ZCR (ZAo [] es) x
      ·rw [if_pos h3]
      ·rw [if_neg h3]
    rcases k with k|k
    ·exact hk _ _ k
    ·exact (hk _ _ k).symm
end
end
section
section
variable {V:Type} [DecidableEq V]
def ZK0:List V->V->Nat
 | [],_=>0
 | y::l,x=>if y=x then 0 else ZK0 l x+1
theorem ZFt {a:List V} {x:V}:ZK0 (x::a) x=0:=by unfold ZK0;rw [if_pos rfl]
theorem ZJv {a:List V} {x y:V} (h:y≠x):ZK0 (y::a) x=ZK0 a x+1:=by
 conv=>lhs;unfold ZK0
 rw [if_neg h]
theorem ZN2:∀ {a:List V} {x:V},x∈a->ZK0 a x<a.length
 | y::a,x,h=>by
  by_cases h1:y=x
  ·subst h1;rw [ZFt];simp
  ·rw [ZJv h1,List.length_cons]
   have:=ZN2 ((List.mem_cons.1 h).resolve_left fun e=>h1 e.symm)
   omega
theorem ZK1:∀ {a b:List V} {x:V},ZK0 (a++b) x=if x∈a then ZK0 a x else ZK0 b x+a.length
 | [],b,x=>by simp
 | y::a,b,x=>by
  rw [List.cons_append]
  by_cases h1:y=x
  ·subst h1;rw [ZFt,ZFt,if_pos (by simp)]
  ·rw [ZJv h1,ZJv h1,ZK1]
   by_cases h2:x∈a
   ·rw [if_pos h2,if_pos (List.mem_cons_of_mem _ h2)]
   ·rw [if_neg h2,if_neg,List.length_cons]
    ·omega
    ·rw [List.mem_cons,not_or];exact ⟨fun e=>h1 e.symm,h2⟩
def ZBl (rs:List V):List V:=rs.foldl (fun seen r=>if r∈seen then seen else seen++[r]) []
theorem ZKT (rs:List V) (r:V):ZBl (rs++[r])=if r∈ZBl rs then ZBl rs else ZBl rs++[r]:=by unfold ZBl;rw [List.foldl_append];rfl
theorem ZHF (rs:List V):(ZBl rs).Nodup/\∀ x,x∈ZBl rs↔x∈rs:=by
 refine ZHr (P:=fun rs=>(ZBl rs).Nodup/\∀ x,x∈ZBl rs↔x∈rs) ⟨by simp [ZBl],fun x=>by simp [ZBl]⟩ (fun l a ⟨h1,h2⟩=>?_) rs
 rw [ZKT]
 by_cases h:a∈ZBl l
 ·rw [if_pos h]
  refine ⟨h1,fun x=>?_⟩
  rw [h2,List.mem_append,List.mem_singleton]
  constructor
  ·exact .inl
  ·rintro (h3|rfl)
   ·exact h3
   ·exact (h2 _).1 h
 ·rw [if_neg h]
  refine ⟨?_,fun x=>?_⟩
  ·rw [List.nodup_append]
   refine ⟨h1,by simp,fun y hy c hc=>?_⟩
   rw [List.mem_singleton.1 hc]
   rintro rfl
   exact h hy
  ·rw [List.mem_append,List.mem_append,h2]
theorem ZPf (rs es:List V):∃ t,ZBl (rs++es)=ZBl rs++t:=by
 refine ZHr (P:=fun es=>∃ t,ZBl (rs++es)=ZBl rs++t) ⟨[],by simp⟩ (fun l a ⟨t,ht⟩=>?_) es
 rw [<- List.append_assoc,ZKT,ht]
 by_cases h:a∈ZBl rs++t
 ·rw [if_pos h];exact ⟨t,rfl⟩
 ·rw [if_neg h];exact ⟨t++[a],by simp⟩
theorem ZJk {a b:List V} {x:V} (h:x∈a):ZK0 (a++b) x=ZK0 a x:=by rw [ZK1,if_pos h]
theorem ZSu {a:List V} {x:V} (hx:x∈a):ZK0 a x<a.length:=ZN2 hx
end
def hdV (s:List Vx):Vx:=s.headD (0,0)
def edgS (s:List Vx):List (Vx × Vx):=(s.drop 1).map fun v=>(hdV s,v)
def ZGP (l:Cx):List (Vx × Vx):=l.flatMap edgS
def ufC (l:Cx):List (Vx × Vx):=ZAo [] (ZGP l)
def ZDc (l:Cx) (s:List Vx):Vx:=ZCR (ufC l) (hdV s)
def ZDi (l:Cx):List Vx:=l.map (ZDc l)
def numC (l:Cx) (s:List Vx):Nat:=ZK0 (ZBl (ZDi l)) (ZDc l s)
def ZEC (l:Cx):Nat:=(ZBl (ZDi l)).length
theorem ZHG {l:Cx} {e:Vx × Vx}:e∈ZGP l↔∃ f∈l,e.1=hdV f/\e.2∈f.drop 1:=by
 unfold ZGP edgS
 rw [List.mem_flatMap]
 constructor
 ·rintro ⟨f,hf,he⟩
  obtain ⟨v,hv,rfl⟩:=List.mem_map.1 he
  exact ⟨f,hf,rfl,hv⟩
 ·rintro ⟨f,hf,h1,h2⟩
  exact ⟨f,hf,List.mem_map.2 ⟨e.2,h2,by rw [<- h1]⟩⟩
theorem ZKh {s:List Vx} (h:0<s.length):hdV s∈s:=by
 cases s with
 | nil=>simp at h
 | cons v s=>simp [hdV]
theorem ZS1 {s:List Vx} {v:Vx} (h:v∈s):v=hdV s\/v∈s.drop 1:=by
 cases s with
 | nil=>simp at h
 | cons u s=>simpa [hdV] using h
theorem ZGd {l:Cx} {s:List Vx} (hs:s∈l) {v:Vx} (hv:v∈s):ZCR (ufC l) v=ZDc l s:=by
 rcases ZS1 hv with rfl|h
 ·rfl
 ·exact ((ZFA (ZGP l) _ _).2 (.step (.refl _) (.inl (ZHG.2 ⟨s,hs,rfl,h⟩)))).symm
theorem ZJx {l:Cx} {s t:List Vx} (hs:s∈l) (ht:t∈l) {v:Vx} (h1:v∈s) (h2:v∈t):ZDc l s=ZDc l t:=by rw [<- ZGd hs h1,ZGd ht h2]
theorem ZQW {l:Cx} {s:List Vx} (hs:s∈l):ZDc l s∈ZBl (ZDi l):=((ZHF _).2 _).2 (List.mem_map_of_mem hs)
end
end Go.Proofs.YtokmalofdapffaaGreat
