/- Part 28: walks by contracts, and plain laws. -/
import Derived.Test.YtekiljakcngcoaaGreatDoorV26
import Derived.Test.YtekiljakcngcoaaGreatDoorV27
set_option linter.unusedVariables false
set_option linter.unusedSimpArgs false
set_option linter.unusedSectionVars false
set_option maxRecDepth 100000
set_option maxHeartbeats 4000000
namespace Go.Proofs.YtekiljakcngcoaaGreatDoor
section
open Go.RowKit

theorem ZIF:MapT Tryz.prog 81 50 50 (.agg #[.int .i64 0,.int .i64 0]):=⟨Tryz.underlying81,fun w=>by kernel_rfl⟩
theorem ZR8:TyI Tryz.prog 81 1 false:=⟨by kernel_rfl,Tryz.isAgg81⟩
theorem tzPar:TyZ Tryz.prog 81 (.map none):=⟨by kernel_rfl⟩
theorem ZCc:MapT Tryz.prog 84 50 3 (.int .i64 0):=⟨Tryz.underlying84,fun w=>by kernel_rfl⟩
theorem ZUL:TyZ Tryz.prog 50 (.agg #[.int .i64 0,.int .i64 0]):=⟨by kernel_rfl⟩
abbrev UF:=List (Vx × Vx)
abbrev hU (b:Nat) (M:UF):HObj:=hM b kvV kvV M
abbrev hUc (b b5:Nat):HObj:=Zh b5 81 1 false (dX (.map (some b)))
theorem ZIL {M:UF} (h:OkM M):(M.map (·.1)).Nodup:=by
 induction h with
 | nil=>simp
 | snoc _ ha _ _ ih =>
  rename_i m a b _ _ _
  rw [List.map_append,List.nodup_append]
  refine ⟨ih,by simp,fun x hx c hc=>?_⟩
  have hca:c=a:=by simpa using hc
  rw [hca]
  rintro rfl
  exact ha hx
def ZS1 (M:UF):Prop:=∀ p∈M,okV p.1/\okV p.2
theorem ZOw {M:UF} {x u:Vx} (h:lookM M x=some u):∃ p∈M,p.2=u:=by
 unfold lookM at h
 cases hf:M.find? (fun p=>decide (p.1=x)) with
 | none=>rw [hf] at h;cases h
 | some p=>rw [hf] at h;cases h;exact ⟨p,List.mem_of_find?_eq_some hf,rfl⟩
set_option maxHeartbeats 4000000 in
theorem ZIX {M:UF} (hM:OkM M) (hk:ZS1 M) {v:Vx} (hv:okV v):Fn Tryz.prog 41 ([dS RV v]++[dP 1 false (dS (ZHU kvV RV) M)]) (dS RV (ZAu M v)):=by
 show Fn Tryz.prog 41 [dS RV v,dP 1 false (dS (ZHU kvV RV) M)] _
 have hn:=ZIL hM
 refine ZDS tyV Tryz.func41 rfl rfl ?_
 simp only [Tryz.ntmps41,List.length_cons,List.length_nil,Nat.reduceAdd,Nat.reduceSub,List.replicate_succ,List.replicate_zero,List.cons_append,List.nil_append]
 (repeat' (first|(apply WL.opN;exact yF;dsimp only [ZA,z0,z1])|refine WL.nil ?_|refine ZC fun Kx hK=>?_|(refine hK _ _ ?_;clear hK)|(refine Kont.skip ?_;clear hK)|refine WC.region ?_ |  (refine ZHb (OpD.t rfl) Zo fun b2=>?_;dsimp only [ZA,z0,z1]) |  (refine WL.alloc ZUL ZW fun b3=>?_;dsimp only [ZA,z0,z1])|(apply WL.alloc;(first|exact tzV|exact tzC);(first|exact ZN rfl|exact ZW|exact ZX rfl);(intro _;dsimp only [ZA,z0,z1]))|(apply ZG;(exact tD);rfl;(exact oD);(exact hD);dsimp only [ZA,z0,z1])|(apply ZT;(exact tD);rfl;(exact oD);(exact hD);dsimp only [ZA,z0,z1])|(apply ZU;(exact tD);rfl;(exact oD);(exact hD);dsimp only [ZA,z0,z1])|(apply WL.opN;(focus ((first|fail);all_goals infer_instance));dsimp only [ZA,z0,z1])|(apply WC.condT;(exact oD);(with_reducible rfl))|(apply ZK;(exact oD);(with_reducible rfl))|(apply ZE;(exact oD);all_goals (intro h;try exact xD))|(apply WC.condN;(exact oD);all_goals (intro h;try exact xD))|(apply WC.condNB;(exact oD);all_goals (intro h;try exact xD))|(apply WC.cond;(exact oD);all_goals (intro h;try exact xD))|refine WC.skip ?_|refine WC.ret ?_|refine WC.exit ?_|refine WC.block ?_|refine ThenD.n ?_|refine ThenD.r ?_|refine ThenD.x ?_|refine InBlockD.x ?_|refine InBlockD.n ?_|refine InBlockD.r ?_|refine ZL (by decide) ?_))
 refine WC.perm (List.Perm.swap _ _ _) ?_
 (refine WC.loopU (X:=Vx) (fun x=>[(4,dA),(5,dA),(6,dA),(7,dA),(8,dA),(9,dA),(10,dA),(11,dA),(12,dA),(13,dA),(14,dA),(15,dA)]) (fun x=>(Zh b2 50 2 true (dS RV x)::Zh b3 50 2 true (dX (.agg #[.int .i64 0,.int .i64 0]))::[])) (fun x=>ZSW M x) (fun x=>okV x/\ZAu M x=ZAu M v) v ?start ?frame0 ?objs0 ?round)
 case start=>exact ⟨hv,rfl⟩
 case frame0=>((try dsimp only [Za,z0,z1]);repeat (first|exact LeF.nil|refine ZF (k:=?_)))
 case objs0=>rfl
 case round =>
  rintro x ⟨h1,h2⟩
  dsimp only [Za,z0,z1]
  cases hl:lookM M x with
  | none =>
   ((repeat' (first|(apply WL.opN;exact yF;dsimp only [ZA,z0,z1])|refine WL.nil ?_|refine ZC fun Kx hK=>?_|(refine hK _ _ ?_;clear hK)|refine WC.region ?_|(apply WL.alloc;(first|exact tzV|exact tzC);(first|exact ZN rfl|exact ZW|exact ZX rfl);(intro _;dsimp only [ZA,z0,z1]))|(apply ZG;(exact tD);rfl;(exact oD);(exact hD);dsimp only [ZA,z0,z1])|(apply ZT;(exact tD);rfl;(exact oD);(exact hD);dsimp only [ZA,z0,z1])|(apply ZU;(exact tD);rfl;(exact oD);(exact hD);dsimp only [ZA,z0,z1])|(apply WL.opN;(focus ((first|(apply SY.load ZR8;exact OpD.t rfl)|(apply ZJ tyV;exact OpD.t rfl;exact .head _)|(refine ZMa (a0:=((0,0):Vx)) ZIF ZBc (OpD.t rfl) (OpD.t rfl) ⟨fun _ _ _ h=>h⟩ h1 (fun p hp=>(hk p hp).1) hn (fun _ _=>rfl) hl)|((first|apply SY.move|apply SY.assign|apply SY.not) <;> (exact oD))|(apply SY.extract;(exact oD);rfl)|fail);all_goals infer_instance));dsimp only [ZA,z0,z1])|(apply WC.condNB;(exact oD);all_goals (intro h;try exact xD))|refine WC.ret ?_|refine WC.block ?_|refine ThenD.r ?_|refine InBlockD.r ?_));all_goals (first|((repeat clear hK);(repeat clear Kx))))
   have hr:=(ZIU hM (ZOx.1 hl)).1
   rw [<- h2,hr]
   (refine ⟨trivial,_,rfl,?_⟩;exact fD)
  | some u =>
   obtain ⟨h3,h4⟩:=ZRp hM hl
   obtain ⟨p,hp,hpu⟩:=ZOw hl
   ((repeat' (first|(apply WL.opN;exact yF;dsimp only [ZA,z0,z1])|refine WL.nil ?_|refine ZC fun Kx hK=>?_|(refine hK _ _ ?_;clear hK)|refine WC.region ?_ |  (refine ZAK (t:=2) tyV (OpD.t rfl) (OpD.t rfl) Zo ?_;dsimp only [ZA,z0,z1])|(apply WL.alloc;(first|exact tzV|exact tzC);(first|exact ZN rfl|exact ZW|exact ZX rfl);(intro _;dsimp only [ZA,z0,z1]))|(apply ZG;(exact tD);rfl;(exact oD);(exact hD);dsimp only [ZA,z0,z1])|(apply WL.opN;(focus ((first|(apply SY.load ZR8;exact OpD.t rfl)|(apply ZJ tyV;exact OpD.t rfl;exact .head _)|(refine ZMb (a0:=((0,0):Vx)) ZIF ZBc (OpD.t rfl) (OpD.t rfl) ⟨fun _ _ _ h=>h⟩ h1 (fun p hp=>(hk p hp).1) hn (fun _ _=>rfl) hl)|((first|apply SY.move|apply SY.assign|apply SY.not) <;> (exact oD))|(apply SY.extract;(exact oD);rfl)|fail);all_goals infer_instance));dsimp only [ZA,z0,z1])|(apply WC.condNB;(exact oD);all_goals (intro h;try exact xD))|refine WC.skip ?_|refine WC.block ?_|refine ThenD.n ?_|refine InBlockD.n ?_));all_goals (first|((repeat clear hK);(repeat clear Kx))))
   (refine ⟨u,?_,by first|omega|(simp only;omega),rfl,?_⟩;rotate_left;((try dsimp only [Za,z0,z1]);repeat (first|exact LeF.nil|refine ZF (k:=?_)));(try dsimp only))
   exact ⟨hpu ▸ (hk p hp).2,by rw [<- h3];exact h2⟩
theorem ZPv (es:List (Vx × Vx)) (h:∀ e∈es,okV e.1/\okV e.2):ZS1 (ZAc [] es):=by
 have hr:∀ (M:UF) (x:Vx),ZS1 M->okV x->okV (ZAu M x):=fun M x hM hx=>by
  unfold ZAu
  induction M generalizing x with
  | nil=>exact hx
  | cons p M ih =>
   rw [List.foldl_cons]
   refine ih _ (fun q hq=>hM q (List.mem_cons_of_mem _ hq)) ?_
   split
   ·exact (hM p (by simp)).2
   ·exact hx
 revert h
 refine ZF1 (P:=fun es=>(∀ e∈es,okV e.1/\okV e.2)->ZS1 (ZAc [] es)) (fun _ p hp=>by simp [ZAc] at hp) (fun l a ih h=>?_) es
 have h1:=ih fun e he=>h e (List.mem_append_left _ he)
 have h2:=h a (by simp)
 rw [ZFB]
 unfold ZEe
 split
 ·exact h1
 ·intro p hp
  rcases List.mem_append.1 hp with hp|hp
  ·exact h1 p hp
  ·rw [List.mem_singleton.1 hp]
   exact ⟨hr _ _ h1 h2.1,hr _ _ h1 h2.2⟩
theorem ZDK {s:List Vx} (h:Z3 s=0):∀ v∈s,okV v:=ZGy h
theorem ZOV {l:Cx} (hl:∀ s∈l,Z3 s=0):∀ e∈ZHz l,okV e.1/\okV e.2:=fun e he=>by
 obtain ⟨f,hf,e1,e2⟩:=ZFo.1 he
 have h0:=(ZGE (hl f hf)).1
 exact ⟨e1 ▸ ZDK (hl f hf) _ (ZDs (by omega)),ZDK (hl f hf) _ (List.mem_of_mem_drop e2)⟩
theorem ZTa {s:List Vx} (h:Z3 s=0):∀ e∈ZKh s,okV e.1/\okV e.2:=fun e he=>by
 obtain ⟨v,hv,rfl⟩:=List.mem_map.1 he
 have h0:=(ZGE h).1
 exact ⟨ZDK h _ (ZDs (by omega)),ZDK h _ (List.mem_of_mem_drop hv)⟩
theorem ZTZ {s:List Vx} {j:Nat} (h:j<(ZKh s).length) (h':j<(s.drop 1).length):(ZKh s)[j]=(hdV s,(s.drop 1)[j]):=by simp [ZKh]
theorem ZRe {l:Cx} {i:Nat} (h:i<l.length):lookM (ZD7 0 (ZAB ((Zz l).take i))) (ZAj l l[i])=if ZAj l l[i]∈ZAB ((Zz l).take i) then some (ZL9 l l[i]:Int) else none:=by
 rw [ZJu,ZPD h]
 split
 ·rw [Int.zero_add]
 ·rfl
theorem ZRf {l:Cx} {i:Nat} (h:i<l.length) (hn:ZAj l l[i]∉ZAB ((Zz l).take i)):ZD7 0 (ZAB ((Zz l).take (i+1)))=ZD7 0 (ZAB ((Zz l).take i))++[(ZAj l l[i],(ZL9 l l[i]:Int))]:=by
 have e:=ZGK (rs:=Zz l) (k:=i) (by simpa [Zz] using h)
 have e1:(Zz l)[i]'(by simpa [Zz] using h)=ZAj l l[i]:=by simp [Zz]
 rw [e1,if_neg hn] at e
 rw [e,ZMA,ZPD h,ZIA hn]
 simp [ZD7]
theorem ZPC {l:Cx} {i:Nat} (h:i<l.length) (hn:ZAj l l[i]∈ZAB ((Zz l).take i)):ZAB ((Zz l).take (i+1))=ZAB ((Zz l).take i):=by
 have e:=ZGK (rs:=Zz l) (k:=i) (by simpa [Zz] using h)
 have e1:(Zz l)[i]'(by simpa [Zz] using h)=ZAj l l[i]:=by simp [Zz]
 rwa [e1,if_pos hn] at e
theorem ZHC {l:Cx} {i:Nat} (h:i<l.length):(ZBK l).take (i+1)=(ZBK l).take i++[(ZL9 l l[i]:Int)]:=by
 have h':i<(ZBK l).length:=by simpa [ZBK] using h
 rw [ZZ h']
 simp [ZBK]
theorem ZKy {M:UF} {x:Vx} (hM:ZS1 M) (hx:okV x):okV (ZAu M x):=by
 unfold ZAu
 induction M generalizing x with
 | nil=>exact hx
 | cons p M ih =>
  rw [List.foldl_cons]
  refine ih (fun q hq=>hM q (List.mem_cons_of_mem _ hq)) ?_
  split
  ·exact (hM p (by simp)).2
  ·exact hx
theorem ZMB (l:Cx) (k:Nat):((ZD7 0 (ZAB ((Zz l).take k))).map (·.1)).Nodup:=by rw [ZDJ];exact (ZBk _).1
theorem ZPB {l:Cx} (hl:∀ s∈l,Z3 s=0) (k:Nat):∀ p∈ZD7 0 (ZAB ((Zz l).take k)),okV p.1:=fun p hp=>by
 have h1:=List.mem_map_of_mem (f:=(·.1)) hp
 rw [ZDJ] at h1
 have h2:=List.mem_of_mem_take (((ZBk _).2 _).1 h1)
 obtain ⟨s,hs,he⟩:=List.mem_map.1 h2
 rw [<- he]
 exact ZKy (ZPv _ (ZOV hl)) (ZDK (hl s hs) _ (ZDs (by have:=ZGE (hl s hs);omega)))
section
variable {ops:Array Oper} {hp:List HObj} {fr:List Dat}
variable {dst:Option Tmp} {ty:TypeId} {ps:String} {af:Array Edge} {g:Option (Nat × Bool)} {p q:Int × Int} {x y:Operand} {T2:TypeId}
theorem ZQP (h:p≠q) (hx:OpD fr x (dS RV p)) (hy:OpD fr y (dS RV q)):SY Tryz.prog ops hp ⟨dst,.binOp .neq 50 x y T2,ty,ps,af,g⟩ fr (dB true):=by
 have:=Zm (ops:=ops) (hp:=hp) (dst:=dst) (ty:=ty) (ps:=ps) (af:=af) (g:=g) (T2:=T2) vxT hx hy
 rwa [decide_eq_false h] at this
theorem ZQO (h:p=q) (hx:OpD fr x (dS RV p)) (hy:OpD fr y (dS RV q)):SY Tryz.prog ops hp ⟨dst,.binOp .neq 50 x y T2,ty,ps,af,g⟩ fr (dB false):=by
 have:=Zm (ops:=ops) (hp:=hp) (dst:=dst) (ty:=ty) (ps:=ps) (af:=af) (g:=g) (T2:=T2) vxT hx hy
 rwa [decide_eq_true h] at this
end
def ZGv (l:Cx):List Int × Int:=if ZAr l≠0 then ([],ZAr l) else (ZBK l,0)
theorem ix0 {s:List Vx} (h:0<s.length):s[0]=hdV s:=by
 cases s with
 | nil=>simp at h
 | cons v s=>rfl
set_option maxHeartbeats 8000000 in
theorem ZDq (l:Cx):Fn Tryz.prog 12 [dS Cpx l] (dT [dS ZCC (ZGv l).1,dI (ZGv l).2]):=by
 (refine ZAl Tryz.func12 rfl rfl ?_;simp only [Tryz.ntmps12,List.length_cons,List.length_nil,Nat.reduceAdd,Nat.reduceSub,List.replicate_succ,List.replicate_zero,List.cons_append,List.nil_append])
 by_cases h0:ZAr l=0
 ·have hg:=Z4.1 h0
  have e:ZGv l=(ZBK l,0):=by unfold ZGv;rw [if_neg (by omega)]
  have hll:=hg.1
  (repeat' (first|((first|apply WL.opN|apply WD.opN);exact yF;dsimp only [ZA,z0,z1])|refine WL.nil ?_|refine ZC fun Kx hK=>?_|(refine hK _ _ ?_;clear hK)|refine WC.region ?_ |  (refine WL.makeMap kvV kvV fun b=>?_;dsimp only [ZA,z0,z1]) |  (refine WL.alloc tzPar (ZN rfl) fun b5=>?_;dsimp only [ZA,z0,z1]) |  (refine ZAK ZR8 (OpD.t rfl) (OpD.t rfl) (ZN rfl) ?_;dsimp only [ZA,z0,z1])|((first|apply WL.opN|apply WD.opN);(focus ((first|(apply SY.call (ZBe _) Tryz.call32;(exact aD))|(apply ZDU;exact ArgsX.cons (OpD.t rfl) ArgsX.nil)|((first|apply SY.move|apply SY.assign|apply SY.lss|apply SY.neq|apply SY.not) <;> (exact oD))|(apply SY.len;(exact oD);(exact nD);(exact uD))|(apply Zb ZAA;exact OpD.t rfl)|(apply SY.box;(exact oD);(exact hD))|fail);all_goals infer_instance));dsimp only [ZA,z0,z1])|(apply WC.condN;(exact oD);all_goals (intro h;try exact xD))|refine WC.skip ?_|refine WC.block ?_))
  refine WC.perm (List.Perm.swap _ _ _) ?_
  (refine WC.loopU (X:=Nat × UF) (fun x=>[(30,dI (x.1:Int)),(8,dA),(10,dA),(11,dA),(12,dA),(31,dA),(32,dA),(33,dA),(34,dA),(35,dA),(36,dA),(37,dA),(38,dA),(39,dA),(40,dA),(41,dA),(42,dA),(43,dA),(44,dA),(45,dA),(46,dA),(47,dA),(48,dA),(49,dA),(50,dA),(51,dA),(52,dA),(53,dA),(54,dA),(55,dA),(56,dA)]) (fun x=>(hU b x.2::hUc b b5::[])) (fun x=>l.length-x.1) (fun x=>x.1≤l.length/\x.2=ZAc [] (ZHz (l.take x.1))) (0,[]) ?start ?frame0 ?objs0 ?round)
  case start=>exact ⟨Nat.zero_le _,rfl⟩
  case frame0=>((try dsimp only [Za,z0,z1]);repeat (first|exact LeF.nil|refine ZF (k:=?_)))
  case objs0=>rfl
  case round =>
   rintro ⟨i,M⟩ ⟨h1,h2⟩
   simp only at h1 h2
   dsimp only [Za,z0,z1]
   by_cases hi:i<l.length
   ·have hs:=hg.2.2.1 _ (List.getElem_mem hi)
    obtain ⟨hs1,hs8⟩:=ZGE hs
    have hdl:(l[i].drop 1).length≤8:=by rw [List.length_drop];omega
    have hes:=ZOV (l:=l.take i) fun s hs=>hg.2.2.1 s (List.mem_of_mem_take hs)
    (repeat' (first|((first|apply WL.opN|apply WD.opN);exact yF;dsimp only [ZA,z0,z1])|refine WL.nil ?_|refine ZC fun Kx hK=>?_|(refine hK _ _ ?_;clear hK)|refine WC.region ?_|((first|apply WL.opN|apply WD.opN);(focus ((first|(refine ZLA (R:=RV) (_gR:=inferInstance) elV (OpD.t rfl) OpD.i 1 rfl (by omega))|((first|apply SY.move|apply SY.assign|apply SY.lss|apply SY.neq|apply SY.not) <;> (exact oD))|(apply SY.len;(exact oD);(exact nD);(exact uD))|(apply SY.ix;(exact eD);(exact oD);(exact oD);exact kD)|fail);all_goals infer_instance));dsimp only [ZA,z0,z1])|(apply ZE;(exact oD);all_goals (intro h;try exact xD))|refine WC.skip ?_|refine WC.block ?_))
    (refine WC.loopU (X:=Nat × UF) (fun x=>[(37,dI (x.1:Int)),(10,dA),(11,dA),(12,dA),(38,dA),(39,dA),(40,dA),(41,dA),(42,dA),(43,dA),(44,dA),(45,dA),(46,dA),(47,dA),(48,dA),(49,dA),(50,dA),(51,dA),(52,dA),(53,dA),(54,dA),(55,dA)]) (fun x=>(hU b x.2::hUc b b5::[])) (fun x=>(l[i].drop 1).length-x.1) (fun x=>x.1≤(l[i].drop 1).length/\x.2=ZAc [] (ZHz (l.take i)++(ZKh l[i]).take x.1)) (0,M) ?start ?frame0 ?objs0 ?round)
    case start=>exact ⟨Nat.zero_le _,by rw [List.take_zero,List.append_nil];exact h2⟩
    case frame0=>((try dsimp only [Za,z0,z1]);repeat (first|exact LeF.nil|refine ZF (k:=?_)))
    case objs0=>rfl
    case round =>
     rintro ⟨j,M⟩ ⟨g1,g2⟩
     simp only at g1 g2
     dsimp only [Za,z0,z1]
     by_cases hj:j<(l[i].drop 1).length
     ·have hje:j<(ZKh l[i]).length:=by unfold ZKh;rwa [List.length_map]
      have hall:∀ e∈ZHz (l.take i)++(ZKh l[i]).take j,okV e.1/\okV e.2:=fun e he=>by
       rcases List.mem_append.1 he with he|he
       ·exact hes e he
       ·exact ZTa hs e (List.mem_of_mem_take he)
      have hMo:OkM M:=by rw [g2];exact ZL2 .nil
      have hk:ZS1 M:=by rw [g2];exact ZPv _ hall
      have hn:=ZIL hMo
      have hv0:=ZDK hs _ (List.getElem_mem hs1)
      have hv1:=ZDK hs _ (List.mem_of_mem_drop (List.getElem_mem hj))
      have hnext:ZAc [] (ZHz (l.take i)++(ZKh l[i]).take (j+1))=ZEe M l[i][0] (l[i].drop 1)[j]:=by
       rw [ZZ hje,<- List.append_assoc,ZFB,<- g2]
       have:(ZKh l[i])[j]=(hdV l[i],(l[i].drop 1)[j]):=ZTZ hje hj
       rw [this,ix0 hs1]
      have c1:=ZIX hMo hk hv0
      have c2:=ZIX hMo hk hv1
      (repeat' (first |  (refine WC.draw2 (fun hp'=>hU b M∈hp'/\hUc b b5∈hp') 10 2 [0,1,2,3,4,5,6,7] 8 9 [true,true,true,true,true,true,true,true,true,true,false,false] (by kernel_rfl) (by kernel_rfl) (by kernel_rfl) rfl (⟨.head _,.tail _ (.head _)⟩) ?_)|(refine WRd.nil ⟨?_,?_⟩)|(apply ZBn rfl;(focus (intro c hcc;apply SYG.yes;(exact Zc rfl);((first|(refine Zi (R:=RV) (_gR:=inferInstance) (k:=0) elV (OpD.t rfl) OpD.i hs1)|(refine ZEA c1 ZHn Tryz.call41 (OpD.t rfl) (ArgsD.cons (OpD.t rfl) ArgsD.nil) (CapH.map hcc.2 hcc.1 fun _ _ _=>rfl))|(refine ZEA c2 ZHn Tryz.call41 (OpD.t rfl) (ArgsD.cons (OpD.t rfl) ArgsD.nil) (CapH.map hcc.2 hcc.1 fun _ _ _=>rfl))|((first|apply SY.move|apply SY.assign|apply SY.lss|apply SY.neq|apply SY.not) <;> (exact oD))|(apply SY.load;(exact tD);(exact oD))|fail);all_goals infer_instance)));dsimp only [ZA,z0,z1])|((first|apply WL.opN|apply WD.opN);exact yF;dsimp only [ZA,z0,z1])|refine WL.nil ?_|refine ZC fun Kx hK=>?_|(refine hK _ _ ?_;clear hK)|refine WC.region ?_|(apply WL.alloc;(first|exact tzV|exact tzC);(first|exact ZN rfl|exact ZW|exact ZX rfl);(intro _;dsimp only [ZA,z0,z1]))|(apply ZG;(exact tD);rfl;(exact oD);(exact hD);dsimp only [ZA,z0,z1])|((first|apply WL.opN|apply WD.opN);(focus ((first|((first|apply SY.move|apply SY.assign|apply SY.lss|apply SY.neq|apply SY.not) <;> (exact oD))|(apply Zi;(exact eD);(exact oD);(exact oD);exact kD)|fail);all_goals infer_instance));dsimp only [ZA,z0,z1])|(apply ZE;(exact oD);all_goals (intro h;try exact xD))|refine WC.skip ?_|refine WC.block ?_))
      all_goals
       refine ZUX rfl rfl (SW.alloc ZUL ZW) (fun _=>⟨.tail _ (.head _),.tail _ (.tail _ (.head _))⟩) (fun _=>SW.alloc ZUL ZW) (fun _ _=>⟨.tail _ (.tail _ (.head _)),.tail _ (.tail _ (.tail _ (.head _)))⟩) (fun x y=>?_)
       dsimp only [ZA,z0,z1]
      all_goals
       by_cases hq:ZAu M l[i][0]=ZAu M (l[i].drop 1)[j]
       ·have hjn:ZEe M l[i][0] (l[i].drop 1)[j]=M:=by unfold ZEe;rw [if_pos hq]
        ((repeat' (first |  (first|refine WA.one (S:=[true,true,true,true,true,true,true,true,true,true,false,false]) (i:=10) (by kernel_rfl) rfl ?_|refine WA.one (S:=[true,true,true,true,true,true,true,true,true,true,true,false]) (i:=11) (by kernel_rfl) rfl ?_|refine WA.nil (S:=[true,true,true,true,true,true,true,true,true,true,true,true]) (by kernel_rfl) ?_)|((first|apply WL.opN|apply WD.opN);exact yF;dsimp only [ZA,z0,z1])|refine WL.nil ?_|refine ZC fun Kx hK=>?_|(refine hK _ _ ?_;clear hK)|refine WC.region ?_|(apply ZG;(exact tD);rfl;(exact oD);(exact hD);dsimp only [ZA,z0,z1])|(apply ZT;(exact tD);rfl;(exact oD);(exact hD);dsimp only [ZA,z0,z1])|(apply ZU;(exact tD);rfl;(exact oD);(exact hD);dsimp only [ZA,z0,z1])|((first|apply WL.opN|apply WD.opN);(focus ((first|(refine ZQO hq (OpD.t rfl) (OpD.t rfl))|((first|apply SY.add) <;> first|exact oD|omega)|fail);all_goals infer_instance));dsimp only [ZA,z0,z1])|(apply ZK;(exact oD);(with_reducible rfl))|refine WC.skip ?_|refine ThenD.n ?_));all_goals (first|((repeat clear hK);(repeat clear Kx))))
        (refine ⟨(j+1,ZEe M l[i][0] (l[i].drop 1)[j]) , ?_,by first|omega|(simp only;omega),by ((try simp only);  rw [hjn]),?_⟩;rotate_left;((try dsimp only [Za,z0,z1]);repeat (first|exact LeF.nil|refine ZF (k:=?_)));(try dsimp only))
        exact ⟨by omega,hnext.symm⟩
       ·have hne:∀ p∈M,p.1≠ZAu M l[i][0]:=fun p hp hc=>ZKx hMo l[i][0] (by have h5:p.1∈M.map (·.1):=List.mem_map_of_mem hp;rwa [hc] at h5)
        have hjn:ZEe M l[i][0] (l[i].drop 1)[j]=M++[(ZAu M l[i][0],ZAu M (l[i].drop 1)[j])]:=by unfold ZEe;rw [if_neg hq]
        have hro:=ZKy hk hv0
        ((repeat' (first |  (first|refine WA.one (S:=[true,true,true,true,true,true,true,true,true,true,false,false]) (i:=10) (by kernel_rfl) rfl ?_|refine WA.one (S:=[true,true,true,true,true,true,true,true,true,true,true,false]) (i:=11) (by kernel_rfl) rfl ?_|refine WA.nil (S:=[true,true,true,true,true,true,true,true,true,true,true,true]) (by kernel_rfl) ?_)|((first|apply WL.opN|apply WD.opN);exact yF;dsimp only [ZA,z0,z1])|refine WL.nil ?_|refine ZC fun Kx hK=>?_|(refine hK _ _ ?_;clear hK)|refine WC.region ?_ |  (refine ZEI (u:=ZAu M (l[i].drop 1)[j]) ZIF ZBc (OpD.t rfl) (OpD.t rfl) ⟨fun _ _ _ h=>h⟩ (OpD.t rfl) ⟨fun _ _ _ h=>h⟩ hro (fun p hp=>(hk p hp).1) hn ?_;dsimp only [ZA])|(apply ZG;(exact tD);rfl;(exact oD);(exact hD);dsimp only [ZA,z0,z1])|(apply ZT;(exact tD);rfl;(exact oD);(exact hD);dsimp only [ZA,z0,z1])|(apply ZU;(exact tD);rfl;(exact oD);(exact hD);dsimp only [ZA,z0,z1])|((first|apply WL.opN|apply WD.opN);(focus ((first|(refine ZQP hq (OpD.t rfl) (OpD.t rfl))|(apply ZJ ZR8;exact OpD.t rfl;exact .tail _ (.head _))|((first|apply SY.add) <;> first|exact oD|omega)|fail);all_goals infer_instance));dsimp only [ZA,z0,z1])|(apply WC.condT;(exact oD);(with_reducible rfl))|refine ThenD.n ?_));all_goals (first|((repeat clear hK);(repeat clear Kx))))
        (refine ⟨(j+1,ZEe M l[i][0] (l[i].drop 1)[j]) , ?_,by first|omega|(simp only;omega),by ((try simp only);  rw [hjn,ZBx hne]),?_⟩;rotate_left;((try dsimp only [Za,z0,z1]);repeat (first|exact LeF.nil|refine ZF (k:=?_)));(try dsimp only))
        exact ⟨by omega,hnext.symm⟩
     ·((repeat' (first|((first|apply WL.opN|apply WD.opN);exact yF;dsimp only [ZA,z0,z1])|refine WL.nil ?_|refine ZC fun Kx hK=>?_|(refine hK _ _ ?_;clear hK)|(refine Kont.skip ?_;clear hK)|refine WC.region ?_|((first|apply WL.opN|apply WD.opN);(focus ((first|((first|apply SY.move|apply SY.assign|apply SY.lss|apply SY.neq|apply SY.not) <;> (exact oD))|((first|apply SY.add) <;> first|exact oD|omega)|fail);all_goals infer_instance));dsimp only [ZA,z0,z1])|(apply ZE;(exact oD);all_goals (intro h;try exact xD))|refine WC.exit ?_|refine ThenD.n ?_));all_goals (first|((repeat clear hK);(repeat clear Kx))))
      (refine ⟨(i+1,M),?_,by first|omega|(simp only;omega),rfl,?_⟩;rotate_left;((try dsimp only [Za,z0,z1]);repeat (first|exact LeF.nil|refine ZF (k:=?_)));(try dsimp only))
      refine ⟨by omega,?_⟩
      show M=_
      rw [g2,ZOU hi,List.take_of_length_le (l:=ZKh l[i]) (by unfold ZKh;rw [List.length_map];omega)]
   ·have hie:i=l.length:=by omega
    subst hie
    rw [List.take_length] at h2
    have hMo:OkM M:=by rw [h2];exact ZL2 .nil
    have hk:ZS1 M:=by rw [h2];exact ZPv _ (ZOV hg.2.2.1)
    have hn:=ZIL hMo
    (repeat' (first|((first|apply WL.opN|apply WD.opN);exact yF;dsimp only [ZA,z0,z1])|refine WL.nil ?_|refine ZC fun Kx hK=>?_|(refine hK _ _ ?_;clear hK)|(refine Kont.skip ?_;clear hK)|refine WC.region ?_ |  (refine WL.makeMap kvV vvN fun bn=>?_;dsimp only [ZA,z0,z1])|((first|apply WL.opN|apply WD.opN);(focus ((first|((first|apply SY.move|apply SY.assign|apply SY.lss|apply SY.neq|apply SY.not) <;> (exact oD))|(apply SY.len;(exact oD);(exact nD);(exact uD))|(apply Zb ZAA;exact OpD.t rfl)|fail);all_goals infer_instance));dsimp only [ZA,z0,z1])|(apply ZE;(exact oD);all_goals (intro h;try exact xD))|refine WC.exit ?_|refine WC.block ?_))
    refine ZEF 3 RI ?_
    (refine WC.loopU (X:=Nat × Value) (fun x=>[(61,dI (x.1:Int)),(14,dX x.2),(16,dA),(17,dA),(18,dA),(19,dA),(62,dA),(63,dA),(64,dA),(65,dA),(66,dA),(67,dA),(68,dA),(69,dA),(70,dA),(71,dA),(72,dA),(73,dA),(74,dA),(75,dA),(76,dA),(77,dA),(78,dA),(79,dA),(80,dA),(81,dA),(82,dA),(83,dA),(84,dA),(85,dA),(86,dA),(87,dA),(88,dA)]) (fun x=>(Zr x.2 3 RI ((ZBK l).take x.1)::hM bn kvV vvN (ZD7 0 (ZAB ((Zz l).take x.1)))::hU b M::hUc b b5::[])) (fun x=>l.length-x.1) (fun x=>x.1≤l.length) (0,.slice none 0 0) ?start ?frame0 ?objs0 ?round)
    case start=>exact Nat.zero_le _
    case frame0=>((try dsimp only [Za,z0,z1]);repeat (first|exact LeF.nil|refine ZF (k:=?_)))
    case objs0=>rfl
    case round =>
     rintro ⟨k,v⟩ q1
     simp only at q1
     dsimp only [Za,z0,z1]
     by_cases hkl:k<l.length
     ·have hs:=hg.2.2.1 _ (List.getElem_mem hkl)
      obtain ⟨hs1,hs8⟩:=ZGE hs
      have hv0:=ZDK hs _ (List.getElem_mem hs1)
      have c3:=ZIX hMo hk hv0
      have er:ZAu M l[k][0]=ZAj l l[k]:=by rw [h2,ix0 hs1];rfl
      rw [er] at c3
      have hro:okV (ZAj l l[k]):=by rw [<- er];exact ZKy hk hv0
      have hcl:((ZBK l).take k).length≤4096:=by rw [List.length_take];unfold ZBK;rw [List.length_map];omega
      have hnl:=ZRe hkl
      have hnd:=ZMB l k
      have hno:=ZPB hg.2.2.1 k
      by_cases hin:ZAj l l[k]∈ZAB ((Zz l).take k)
      ·rw [if_pos hin] at hnl
       have hsame:=ZPC hkl hin
       ((repeat' (first|((first|apply WL.opN|apply WD.opN);exact yF;dsimp only [ZA,z0,z1])|refine WL.nil ?_|refine ZC fun Kx hK=>?_|(refine hK _ _ ?_;clear hK)|refine WC.region ?_|((first|apply ZO|apply ZM);(exact eD);exact OpD.t rfl;(exact oD);(intro _;exact hD);(exact (by simp));(exact (by simp));(first|exact ⟨by decide,by decide⟩|skip);decide;(exact lD);(intro _;dsimp only [ZA,z0,z1]);all_goals (try infer_instance))|(apply WL.alloc;(first|exact tzV|exact tzC);(first|exact ZN rfl|exact ZW|exact ZX rfl);(intro _;dsimp only [ZA,z0,z1]))|(apply ZG;(exact tD);rfl;(exact oD);(exact hD);dsimp only [ZA,z0,z1])|((first|apply WL.opN|apply WD.opN);(focus ((first|(refine Zi (R:=RV) (_gR:=inferInstance) (k:=0) elV (OpD.t rfl) OpD.i hs1)|(refine ZEA c3 ZHn Tryz.call41 (OpD.t rfl) (ArgsD.cons (OpD.t rfl) ArgsD.nil) (CapH.map (.tail _ (.tail _ (.tail _ (.head _)))) (.tail _ (.tail _ (.head _))) fun _ _ _=>rfl))|(refine ZMZ ZCc ZBc (OpD.t rfl) (.tail _ (.head _)) (OpD.t rfl) ⟨fun _ _ _ h=>h⟩ hro hno hnd hnl)|(refine ZLD ZCc ZBc (OpD.t rfl) (.tail _ (.head _)) (OpD.t rfl) ⟨fun _ _ _ h=>h⟩ hro hno hnd hnl)|((first|apply SY.move|apply SY.assign|apply SY.lss|apply SY.neq|apply SY.not) <;> (exact oD))|((first|apply SY.add) <;> first|exact oD|omega)|(apply SY.load;(exact tD);(exact oD))|(apply ZJ;(exact tD);(exact oD);(exact (by simp)))|(apply SY.len;(exact oD);(exact nD);(exact uD))|(apply ZV;exact OpD.t rfl;(first|exact .head _|exact .tail _ (.head _));(exact uD))|(apply Zf;exact OpD.t rfl;(first|exact .head _|exact .tail _ (.head _));(exact uD))|(apply Zi;(exact eD);(exact oD);(exact oD);exact kD)|(apply SY.ix;(exact eD);(exact oD);(exact oD);exact kD)|(first|(apply SY.fld0 vxT <;> (exact oD))|(apply SY.fld1 vxT <;> (exact oD))|(apply Zm vxT <;> (exact oD)))|(apply Zb ZAA;exact OpD.t rfl)|(apply Zn;(exact oD);(exact oD);exact ZCF)|(apply ZBd;(exact OpD.t rfl);(exact aD))|(apply SY.buildE;(exact eD);((try simp only [List.map_cons,List.map_nil]);(repeat (first|exact ZR|(apply ZQ;(first|exact OpD.t rfl|exact OpD.i|exact OpD.b|exact OpD.tle rfl (by first|exact ZD|exact ZB (by decide))|exact ⟨ZD⟩|exact ⟨ZB (by decide)⟩)))));rfl;rfl;decide;(intro _;exact Zo);(exact (by simp)))|(apply SY.build1';(exact eD);((try simp only [List.map_cons,List.map_nil]);(repeat (first|exact ZR|(apply ZQ;(first|exact OpD.t rfl|exact OpD.i|exact OpD.b|exact OpD.tle rfl (by first|exact ZD|exact ZB (by decide))|exact ⟨ZD⟩|exact ⟨ZB (by decide)⟩)))));rfl;rfl;(intro _;first|exact Zq|exact Zv|exact Zt|exact shape_B);(exact (by simp)))|((first|(apply ZF4;(exact eD))|(apply SY.slice1;(exact eD)));(exact oD);(first|exact ZF3|exact BndD.yes (OpD.t rfl)|exact ZBS (OpD.t rfl) (by omega)|exact ZBS OpD.i rfl);(first|exact ZF3|exact BndD.yes (OpD.t rfl)|exact ZBS (OpD.t rfl) (by omega)|exact ZBS OpD.i rfl);(first|assumption|omega);(first|assumption|omega))|(apply SY.extract;(exact oD);rfl)|(apply SY.box;(exact oD);(exact hD))|fail);all_goals infer_instance));dsimp only [ZA,z0,z1])|(apply ZE;(exact oD);all_goals (intro h;try exact xD))|(apply WC.condNB;(exact oD);all_goals (intro h;try exact xD))|refine WC.skip ?_|refine WC.block ?_|refine ThenD.n ?_));all_goals (first|((repeat clear hK);(repeat clear Kx))))
       (refine ⟨(k+1,_) , ?_,by first|omega|(simp only;omega),by ((try simp only);  rw [ZHC hkl,hsame]),?_⟩;rotate_left;((try dsimp only [Za,z0,z1]);repeat (first|exact LeF.nil|refine ZF (k:=?_)));(try dsimp only))
       omega
      ·rw [if_neg hin] at hnl
       have hnx:=ZRf hkl hin
       have hne:∀ p∈ZD7 0 (ZAB ((Zz l).take k)),p.1≠ZAj l l[k]:=fun p hp hc=>hin (by
        have:=List.mem_map_of_mem (f:=(·.1)) hp
        rw [ZDJ] at this
        exact hc ▸ this)
       have hlen:(((ZD7 0 (ZAB ((Zz l).take k))).length:Nat):Int)=(ZL9 l l[k]:Int):=by rw [ZRb,ZPD hkl,ZIA hin]
       have hput:ZBr (ZD7 0 (ZAB ((Zz l).take k))) (ZAj l l[k]) (((ZD7 0 (ZAB ((Zz l).take k))).length:Nat):Int)=ZD7 0 (ZAB ((Zz l).take (k+1))):=by rw [ZBx hne,hnx,hlen]
       have hnl2:lookM (ZD7 0 (ZAB ((Zz l).take (k+1)))) (ZAj l l[k])=some (ZL9 l l[k]:Int):=by
        rw [<- hput,ZHJ,if_pos rfl,hlen]
       have hnd2:=ZMB l (k+1)
       have hno2:=ZPB hg.2.2.1 (k+1)
       ((repeat' (first|((first|apply WL.opN|apply WD.opN);exact yF;dsimp only [ZA,z0,z1])|refine WL.nil ?_|refine WD.nil ?_|refine ZC fun Kx hK=>?_|(refine hK _ _ ?_;clear hK)|(refine Kont.skip ?_;clear hK)|refine WC.region ?_|(apply WC.draw;kernel_rfl;kernel_rfl) |  (refine WL.perm (List.Perm.swap _ _ _) (ZEI (u:=(((ZD7 0 (ZAB ((Zz l).take k))).length:Nat):Int)) ZCc ZBc (OpD.t rfl) (OpD.t rfl) ⟨fun _ _ _ h=>h⟩ (OpD.t rfl) ⟨fun _ _ _ h=>h⟩ hro hno hnd ?_);rw [hput];refine WL.perm (List.Perm.swap _ _ _) ?_;dsimp only [ZA])|((first|apply ZO|apply ZM);(exact eD);exact OpD.t rfl;(exact oD);(intro _;exact hD);(exact (by simp));(exact (by simp));(first|exact ⟨by decide,by decide⟩|skip);decide;(exact lD);(intro _;dsimp only [ZA,z0,z1]);all_goals (try infer_instance))|((first|apply WL.appK|apply WL.app1);(exact eD);exact OpD.t rfl;(exact oD);decide;(exact lD);(intro _;dsimp only [ZA,z0,z1]);all_goals (try infer_instance))|((apply (WL.perm (List.Perm.swap _ _ _));(first|apply ZO|apply ZM);(exact eD);exact OpD.t rfl;(exact oD);(intro _;exact hD);(exact (by simp));(exact (by simp));(first|exact ⟨by decide,by decide⟩|skip);decide;(exact lD);(intro _;dsimp only [ZA,z0,z1]);all_goals (try infer_instance)))|((apply (WL.perm (List.Perm.swap _ _ _));(first|apply WL.appK|apply WL.app1);(exact eD);exact OpD.t rfl;(exact oD);decide;(exact lD);(intro _;dsimp only [ZA,z0,z1]);all_goals (try infer_instance)))|(apply WL.alloc;(first|exact tzV|exact tzC);(first|exact ZN rfl|exact ZW|exact ZX rfl);(intro _;dsimp only [ZA,z0,z1]))|(apply ZG;(exact tD);rfl;(exact oD);(exact hD);dsimp only [ZA,z0,z1])|(apply ZT;(exact tD);rfl;(exact oD);(exact hD);dsimp only [ZA,z0,z1])|(apply ZU;(exact tD);rfl;(exact oD);(exact hD);dsimp only [ZA,z0,z1])|((first|apply WL.opN|apply WD.opN);(focus ((first|(refine Zi (R:=RV) (_gR:=inferInstance) (k:=0) elV (OpD.t rfl) OpD.i hs1)|(refine ZEA c3 ZHn Tryz.call41 (OpD.t rfl) (ArgsD.cons (OpD.t rfl) ArgsD.nil) (CapH.map (.tail _ (.tail _ (.tail _ (.head _)))) (.tail _ (.tail _ (.head _))) fun _ _ _=>rfl))|(refine ZMY ZCc ZBc (OpD.t rfl) (.tail _ (.head _)) (OpD.t rfl) ⟨fun _ _ _ h=>h⟩ hro hno hnd hnl)|(refine ZNM ZCc (OpD.t rfl) (.tail _ (.head _)))|(refine ZLD ZCc ZBc (OpD.t rfl) (.tail _ (.head _)) (OpD.t rfl) ⟨fun _ _ _ h=>h⟩ hro hno2 hnd2 hnl2)|((first|apply SY.move|apply SY.assign|apply SY.lss|apply SY.neq|apply SY.not) <;> (exact oD))|((first|apply SY.add) <;> first|exact oD|omega)|(apply SY.load;(exact tD);(exact oD))|(apply ZJ;(exact tD);(exact oD);(exact (by simp)))|(apply SY.len;(exact oD);(exact nD);(exact uD))|(apply ZV;exact OpD.t rfl;(first|exact .head _|exact .tail _ (.head _));(exact uD))|(apply Zf;exact OpD.t rfl;(first|exact .head _|exact .tail _ (.head _));(exact uD))|(apply Zi;(exact eD);(exact oD);(exact oD);exact kD)|(apply SY.ix;(exact eD);(exact oD);(exact oD);exact kD)|(first|(apply SY.fld0 vxT <;> (exact oD))|(apply SY.fld1 vxT <;> (exact oD))|(apply Zm vxT <;> (exact oD)))|(apply Zb ZAA;exact OpD.t rfl)|(apply Zn;(exact oD);(exact oD);exact ZCF)|(apply ZBd;(exact OpD.t rfl);(exact aD))|(apply SY.buildE;(exact eD);((try simp only [List.map_cons,List.map_nil]);(repeat (first|exact ZR|(apply ZQ;(first|exact OpD.t rfl|exact OpD.i|exact OpD.b|exact OpD.tle rfl (by first|exact ZD|exact ZB (by decide))|exact ⟨ZD⟩|exact ⟨ZB (by decide)⟩)))));rfl;rfl;decide;(intro _;exact Zo);(exact (by simp)))|(apply SY.build1';(exact eD);((try simp only [List.map_cons,List.map_nil]);(repeat (first|exact ZR|(apply ZQ;(first|exact OpD.t rfl|exact OpD.i|exact OpD.b|exact OpD.tle rfl (by first|exact ZD|exact ZB (by decide))|exact ⟨ZD⟩|exact ⟨ZB (by decide)⟩)))));rfl;rfl;(intro _;first|exact Zq|exact Zv|exact Zt|exact shape_B);(exact (by simp)))|((first|(apply ZF4;(exact eD))|(apply SY.slice1;(exact eD)));(exact oD);(first|exact ZF3|exact BndD.yes (OpD.t rfl)|exact ZBS (OpD.t rfl) (by omega)|exact ZBS OpD.i rfl);(first|exact ZF3|exact BndD.yes (OpD.t rfl)|exact ZBS (OpD.t rfl) (by omega)|exact ZBS OpD.i rfl);(first|assumption|omega);(first|assumption|omega))|(apply SY.extract;(exact oD);rfl)|(apply SY.box;(exact oD);(exact hD))|fail);all_goals infer_instance));dsimp only [ZA,z0,z1])|(apply WC.condT;(exact oD);(with_reducible rfl))|(apply ZK;(exact oD);(with_reducible rfl))|(apply ZE;(exact oD);all_goals (intro h;try exact xD))|(apply WC.condN;(exact oD);all_goals (intro h;try exact xD))|(apply WC.condNB;(exact oD);all_goals (intro h;try exact xD))|(apply WC.cond;(exact oD);all_goals (intro h;try exact xD))|refine WC.skip ?_|refine WC.ret ?_|refine WC.exit ?_|refine WC.block ?_|refine ThenD.n ?_|refine ThenD.r ?_|refine ThenD.x ?_|refine InBlockD.x ?_|refine InBlockD.n ?_|refine InBlockD.r ?_|refine ZL (by decide) ?_));all_goals (first|((repeat clear hK);(repeat clear Kx))))
       (refine ⟨(k+1,_) , ?_,by first|omega|(simp only;omega),by ((try simp only);  rw [ZHC hkl]),?_⟩;rotate_left;((try dsimp only [Za,z0,z1]);repeat (first|exact LeF.nil|refine ZF (k:=?_)));(try dsimp only))
       omega
     ·((repeat' (first|((first|apply WL.opN|apply WD.opN);exact yF;dsimp only [ZA,z0,z1])|refine WL.nil ?_|refine ZC fun Kx hK=>?_|(refine hK _ _ ?_;clear hK)|(refine Kont.skip ?_;clear hK)|refine WC.region ?_|((first|apply WL.opN|apply WD.opN);(focus ((first|((first|apply SY.move|apply SY.assign|apply SY.lss|apply SY.neq|apply SY.not) <;> (exact oD))|fail);all_goals infer_instance));dsimp only [ZA,z0,z1])|(apply ZE;(exact oD);all_goals (intro h;try exact xD))|refine WC.ret ?_|refine WC.exit ?_));all_goals (first|((repeat clear hK);(repeat clear Kx))))
      rw [e]
      have:(ZBK l).take k=ZBK l:=List.take_of_length_le (by unfold ZBK;rw [List.length_map];omega)
      rw [this]
      (refine ⟨trivial,⟨_,rfl,?_⟩,_,rfl,?_⟩ <;> exact fD)
 ·have e:ZGv l=([],ZAr l):=by unfold ZGv;rw [if_pos h0]
  ((repeat' (first|((first|apply WL.opN|apply WD.opN);exact yF;dsimp only [ZA,z0,z1])|refine WL.nil ?_|refine ZC fun Kx hK=>?_|(refine hK _ _ ?_;clear hK)|refine WC.region ?_|((first|apply WL.opN|apply WD.opN);(focus ((first|(apply SY.call (ZBe _) Tryz.call32;(exact aD))|((first|apply SY.move|apply SY.assign|apply SY.lss|apply SY.neq|apply SY.not) <;> (exact oD))|(apply SY.box;(exact oD);(exact hD))|fail);all_goals infer_instance));dsimp only [ZA,z0,z1])|(apply WC.condN;(exact oD);all_goals (intro h;try exact xD))|refine WC.ret ?_|refine ThenD.r ?_));all_goals (first|((repeat clear hK);(repeat clear Kx))))
  all_goals (rw [e];(refine ⟨trivial,⟨_,rfl,?_⟩,_,rfl,?_⟩ <;> exact fD))
end
end Go.Proofs.YtekiljakcngcoaaGreatDoor
