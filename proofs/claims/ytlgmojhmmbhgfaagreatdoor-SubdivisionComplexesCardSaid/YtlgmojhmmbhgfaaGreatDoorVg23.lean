/- Part 23: walks by contracts, and plain laws. -/
import Derived.Test.YtlgmojhmmbhgfaaGreatDoorVg17
import Derived.Test.YtlgmojhmmbhgfaaGreatDoorVg22
set_option linter.unusedVariables false
set_option linter.unusedSimpArgs false
set_option linter.unusedSectionVars false
set_option maxRecDepth 100000
set_option maxHeartbeats 4000000
namespace Go.Proofs.YtlgmojhmmbhgfaaGreatDoor
section
open Go.RowKit
section
variable {P:Program} {ops:Array Oper} {hp:List HObj} {fr:List Dat} {d:Dat} {Q:ZAL} {rest:List Oper} {K:Dat->List HObj->Prop}
variable {dst:Option Tmp} {ty:TypeId} {ps:String} {af:Array Edge} {g:Option (Nat × Bool)} {b cap bytes:Nat} {e e2 t T T2:TypeId} {z:Value} {ag:Bool}
theorem ZPi {s y:Operand} {dst2:Option Tmp} {ty2:TypeId} {ps2:String} {af2:Array Edge} {v:Value} {α:Type} {R:Rel α} {_gR:Good R} {xs ys:List α} (E:ElT P t e 1 z bytes ag) (hs:OpD fr s (dX v)) (hy:OpD fr y (dX (.slice (some ⟨b,0,none⟩) ys.length cap))) (hby:0<bytes)
  (hlen:(xs.length+ys.length)*bytes≤140737488355328) (h:∀ v',WL P ops Q rest (ZB fr dst2 (dX v')) (ZW v' e R (xs++ys)::hQ b ys.length cap e2 R ys::hp)) :
  WL P ops Q (⟨dst2,.call { callee:=.builtin .append,args:=#[s,y],argTypes:=#[t,t] },ty2,ps2,af2,none⟩::rest) fr (ZW v e R xs::hQ b ys.length cap e2 R ys::hp):=by
 refine WL.of fun P0 B w0 w a hh hf=>?_
 have hm:xs.length+ys.length≤maxLen:=by
  have:(xs.length+ys.length)*1≤(xs.length+ys.length)*bytes:=Nat.mul_le_mul_left _ hby
  simp only [maxLen];omega
 obtain ⟨us,u1,⟨u2,u3⟩,u4⟩:=hh.ok (hQ b ys.length cap e2 R ys) (by simp)
 rcases u3 with ⟨hv,_⟩|⟨g',cap',cur,hv,hB,hg,hc1,hc2,hc3,hc4⟩
 ·cases hv
 ·obtain ⟨hg',hl',hcap⟩:g'=b/\us.length*1=ys.length/\cap'=cap:=by
   injection hv with q1 q2 q3
   injection q1 with q1
   injection q1 with q1
   exact ⟨q1.symm,by omega,q3.symm⟩
  subst hg'
  rw [Nat.mul_one] at hc3 hc4
  have hlu:us.length=ys.length:=u1
  obtain ⟨v',w',hr,r1,r2,r3⟩:=ZBp (ty:=ty2) E hh (ad:=⟨g',0,none⟩) (c:=cap) (ys:=ys) (news:=us) hlu (fun j u hj=>by
    have hlt:=(List.getElem?_eq_some_iff.1 hj).1
    rw [<- hc4,List.getElem?_take,if_pos (by omega)] at hj
    rw [Addr.add_lit,Nat.zero_add]
    simp only [World.cell?,hg]
    simpa using hj)
   (fun u hu=>by
    obtain ⟨j,hj,rfl⟩:=List.getElem_of_mem hu
    exact (u4 j hj (by omega)).1) (fun k h1 h2=>Good.weak (u4 k h1 h2).2 fun _ hj=>hj.1) hlen hm
  refine ZAI (v:=v) (yv:=_) (hs.ev hf) (hy.ev hf) hr ?_
  exact (h v').on r1 (Fr.put (x:=dst2) (hf.mono fun d _ hd=>ZM (o:=ZW v e R xs) (o':=ZW v' e R (xs++ys)) r2 r3 hd) (d:=dX v') rfl)
theorem ZB8 {x:Operand} {T:TypeId} (hx:OpD fr x (dB true)):SY P ops hp ⟨dst,.unOp .not T x,ty,ps,af,g⟩ fr (dB false):=SY.not hx
theorem ZSE {p q:Int} {x y:Operand} (h:p≠q) (hx:OpD fr x (dI p)) (hy:OpD fr y (dI q)):SY P ops hp ⟨dst,.binOp .neq T x y T2,ty,ps,af,g⟩ fr (dB true):=by
 have:=SY.neq (P:=P) (ops:=ops) (hp:=hp) (dst:=dst) (ty:=ty) (ps:=ps) (af:=af) (g:=g) (T:=T) (T2:=T2) hx hy
 rwa [decide_eq_false h] at this
theorem ZJq {p q c:Int} {x y:Operand} (h:ZKE p q=c) (hx:OpD fr x (dI p)) (hy:OpD fr y (dI q)):SY P ops hp ⟨dst,.binOp .and T x y T2,ty,ps,af,g⟩ fr (dI c):=h ▸ SY.and hx hy
theorem ZEv {p q c:Int} {x y:Operand} (h:ZCS p q=c) (hx:OpD fr x (dI p)) (hy:OpD fr y (dI q)):SY P ops hp ⟨dst,.binOp .andNot T x y T2,ty,ps,af,g⟩ fr (dI c):=h ▸ SY.andNot hx hy
theorem ZL9 {f:FuncId} {caps:List Value} {cl:Operand} {args:Array Operand} {ats:Array TypeId} {ds1:List Dat} {hp1:List HObj} {P0:Nat->Prop} {B:Nat} {w0 w:World} {a:Act} (hF:CallC P f (ds1++caps.map dX) hp1 K) (he:ZAf P f) (hc:OpD fr cl (dX (.func (.func f) #[] caps.toArray))) (ha:ArgsD fr args.toList ds1)
  (hh:Hp P0 B w0 (hp1++hp) w) (hfr:Fr (Imm P0 B (hp1++hp)) w a fr) {KK:Act->World->Prop} {QQ:Exit->Act->World->Prop}
  (hKK:∀ d' hp2 a' w',K d' hp2->Hp P0 B w0 (hp2++hp) w'->Fr (Imm P0 B (hp2++hp)) w' a' (ZB fr dst d')->KK a' w') :
  Oper.wp P ⟨dst,.call { callee:=.value cl,args:=args,argTypes:=ats },ty,ps,af,g⟩ a w KK QQ:=by
 have h:=ZF0 (dst:=dst) (ty:=ty) (ps:=ps) (af:=af) (ats:=ats) hF he hc ha hh hfr (KK:=KK) (QQ:=QQ) hKK
 unfold Oper.wp at h ⊢
 exact h
theorem ZIZ {f:FuncId} {caps:List Value} {cl:Operand} {args:Array Operand} {ats:Array TypeId} {ds1:List Dat} {hp1:List HObj} (hF:CallC P f (ds1++caps.map dX) hp1 K) (he:ZAf P f) (hw:WantS ops ⟨dst,.call { callee:=.value cl,args:=args,argTypes:=ats },ty,ps,af,g⟩ fr true) (hc:OpD fr cl (dX (.func (.func f) #[] caps.toArray))) (ha:ArgsD fr args.toList ds1)
  (hK:∀ d' hp2,K d' hp2->WL P ops Q rest (ZB fr dst d') (hp2++hp)) :
  WL P ops Q (⟨dst,.call { callee:=.value cl,args:=args,argTypes:=ats },ty,ps,af,g⟩::rest) fr (hp1++hp):=WL.of fun P0 B w0 w a hh hf=>by
 unfold wpList
 rw [if_pos (hw.out _ _ _ (hf.on _))]
 exact .inl (ZL9 hF he hc ha hh hf fun d' hp2 _ _ hk hh2 hf2=>(hK d' hp2 hk).on hh2 hf2)
end

theorem ZTe:∀ (x y:Operand) ad m c w,(do eqGuard .eql 50 x y (.slice ad m c) (.slice none 0 0);Go.binOp .eql 50 (.slice ad m c) (.slice none 0 0)).run Tryz.prog w = .ok (.bool ad.isNone) w:=by
 intro x y ad m c w
 cases ad <;> (go_simp;try (unfold Go.binOp;simp only;unfold Op.equal Op.maxDepth Op.equalIn;simp [run_underlying Tryz.underlying50]))
theorem ZST (b cap:Nat) (xs:List Int) (hl:xs.length≤1000):CallC Tryz.prog 92 ([dX (.slice (some ⟨b,0,none⟩) xs.length cap)]++([]:List Value).map dX) [hQ b xs.length cap 3 RI xs] fun d' hp2=>∃ v,d'=dX v/\hp2=[ZW v 3 RI xs,hQ b xs.length cap 3 RI xs]:=by
 (refine Z5 Tryz.func92 rfl rfl (fun hp=>?_);simp only [Tryz.ntmps92,List.length_cons,List.length_nil,List.length_append,List.length_map,Nat.reduceAdd,Nat.reduceSub,List.replicate_succ,List.replicate_zero,List.cons_append,List.nil_append,List.map_cons,List.map_nil,List.append_assoc])
 ((repeat' (first|(apply WL.opN;exact yF;dsimp only [ZB,z0,z1])|refine WL.nil ?_|refine ZA fun Kx hK=>?_|(refine hK _ _ ?_;clear hK)|refine WC.region ?_ |  (apply ZEx elI RI;(intro _;dsimp only [ZB,z0,z1]);all_goals (try infer_instance)) |  (apply ZPi elI;exact OpD.t rfl;exact OpD.t rfl;decide;(simp;omega);(intro _;dsimp only [ZB,z0,z1]))|(apply WL.opN;(focus ((first|(apply ZIT;exact OpD.t rfl;exact ZTe)|fail);all_goals infer_instance));dsimp only [ZB,z0,z1])|(apply Zi;(exact oD);(with_reducible rfl))|refine WC.skip ?_|refine WC.ret ?_));all_goals (first|((repeat clear hK);(repeat clear Kx))))
 exact ⟨trivial,_,[_,_],rfl,rfl,_,rfl,by rw [List.nil_append]⟩
theorem tyFo:TyI Tryz.prog 126 1 false:=⟨by kernel_rfl,Tryz.isAgg126⟩
theorem tyFz:TyI Tryz.prog 113 1 false:=⟨by kernel_rfl,Tryz.isAgg113⟩
theorem tzFo:TyZ Tryz.prog 126 .nilFunc:=⟨by kernel_rfl⟩
def dIf (c:Prop) (d:Dat):Dat:=⟨fun I w v=>c/\d.rd I w v,fun h q=>⟨h.1,d.weak h.2 q⟩,fun h q=>⟨h.1,d.move h.2 q⟩,fun h=>⟨h.1,d.bound h.2⟩⟩
theorem ZK8 {c:Prop} {d:Dat} (h:c):dIf c d=d:=by
 obtain ⟨rd,h1,h2,h3⟩:=d
 unfold dIf
 congr 1
 funext I w v
 exact propext (and_iff_right h)
theorem ZRh {c:Prop} {d:Dat} (h:c):d.le (dIf c d):=by rw [ZK8 h];exact Dat.le_refl _
abbrev ZQa (v2:Value) (bf:Nat):Value:=.func (.func 91) #[] [v2,.pointer (some ⟨bf,0,none⟩)].toArray
abbrev ZOd (l:Nat) (v v2:Value) (bf:Nat) (pre:List Nat):List HObj :=
 [ZW v 3 RI (Zv pre),ZQ bf 126 1 false (dX (ZQa v2 bf)),ZAC v2 (dP 1 false (dX (.func (.yield l) #[] #[])))]
def ZNM (r:Nat):Nat:=((List.range 5).filter fun i=>r.testBit i).length
theorem ZNO:∀ r:Fin 32,ZNM r.val=0->r.val=0:=by decide +kernel
theorem ZNN:∀ r b:Fin 32,0<b.val->b.val &&& r.val=b.val->ZNM (r.val-b.val)<ZNM r.val:=by decide +kernel
theorem ZQA:∀ r:Fin 32,ZNM r.val≤5:=by decide +kernel
theorem ZQW:∀ r:Fin 32,r.val≠0->0<ZB2 r.val 0/\ZB2 r.val 0≤r.val/\ZB2 r.val 0 &&& r.val=ZB2 r.val 0:=by decide +kernel
theorem ZUC {a b c:HObj} {js hp:List HObj}:(a::b::c::(js++hp)).Perm (js++a::b::c::hp):=by
 have:(([a,b,c]++js)++hp).Perm ((js++[a,b,c])++hp):=List.Perm.append_right _ List.perm_append_comm
 simpa using this
theorem perm4 {a b c d:HObj} {js hp:List HObj}:(a::b::c::d::(js++hp)).Perm (a::c::d::(js++b::hp)):=by
 refine List.Perm.cons a ?_
 have h:(b::c::d::(js++hp)).Perm (c::d::b::(js++hp)):=(List.Perm.swap c b _).trans ((List.Perm.swap d b _).cons c)
 refine h.trans (List.Perm.cons c (List.Perm.cons d ?_))
 exact List.perm_middle.symm
def ZFS (k r:Nat) (pre:List Nat) (l:List Nat):List (List Nat):=l.flatMap fun b=>(ZED k (r-b)).map fun x=>pre++b::x
theorem ZLf {k r:Nat} {pre:List Nat} (h:r≠0):(ZED (k+1) r).map (pre ++ ·)=ZFS k r pre (ZKQ r):=by
 rw [ZDN h]
 unfold ZFS
 rw [List.map_flatMap]
 congr 1
 funext b
 rw [List.map_map]
 rfl
theorem ZEk {k r b:Nat} {pre:List Nat} {l:List Nat}:ZFS k r pre (b::l)=(ZED k (r-b)).map (fun x=>pre++b::x)++ZFS k r pre l:=rfl
theorem ZOr {k r b:Nat} {pre:List Nat}:(ZED k (r-b)).map (fun x=>pre++b::x)=(ZED k (r-b)).map ((pre++[b]) ++ ·):=by
 refine List.map_congr_left fun x _=>?_
 simp
theorem ZUD {b c d:HObj} {js hp:List HObj}:(c::d::(js++b::hp)).Perm (b::c::d::(js++hp)):=by
 have h:(b::c::d::(js++hp)).Perm (c::d::b::(js++hp)):=(List.Perm.swap c b _).trans ((List.Perm.swap d b _).cons c)
 exact ((List.Perm.cons c (List.Perm.cons d List.perm_middle)).trans h.symm)
set_option maxHeartbeats 8000000 in
theorem ZT4 (l N:Nat) (J:List (List Nat)->List HObj->Prop) (S:List Nat->Prop) (hY:YStep Tryz.prog l (fun x=>dIf (S x) (dS ZBt (Zv x))) J N) (v2:Value) (bf:Nat) (pre:List Nat) (v:Value) (done:List (List Nat)) (js:List HObj) (hne:pre≠[]) (hlen:pre.length≤100) (hj:J done js) (hN:done.length<N) (hSp:S pre) :
  CallC Tryz.prog 91 ([dI ((0:Nat):Int),dX v]++[v2,.pointer (some ⟨bf,0,none⟩)].map dX) (ZOd l v v2 bf pre++js)
   (fun d hp2=>d=dB true/\∃ js',J (done++[pre]) js'/\hp2=ZOd l v v2 bf pre++js'):=by
 (refine Z5 Tryz.func91 rfl rfl (fun hp=>?_);simp only [Tryz.ntmps91,List.length_cons,List.length_nil,List.length_append,List.length_map,Nat.reduceAdd,Nat.reduceSub,List.replicate_succ,List.replicate_zero,List.cons_append,List.nil_append,List.map_cons,List.map_nil,List.append_assoc])
 refine ZFv 2 rfl (.tail _ (.tail _ (.head _))) ?_
 refine ZKj (by rw [ZBA];exact List.length_pos_iff.2 hne) fun b cap hv hc1 hc2=>?_
 subst hv
 dsimp only [z0,z1]
 (repeat' (first |  (refine I.WC.drawW (β:=Value) 2 (fun v'=>ZW v' 3 RI (Zv pre)::hQ b (Zv pre).length cap 3 RI (Zv pre)::ZQ bf 126 1 false (dX (ZQa v2 bf))::ZAC v2 (dP 1 false (dX (.func (.yield l) #[] #[])))::(js++hp)) (fun v'=>dX v') _ rfl (by kernel_rfl) (by kernel_rfl) ?_;simp only [List.take_succ_cons,List.take_zero,List.drop_succ_cons,List.drop_zero])|((first|apply WL.opN|apply WD.opN);exact yF;dsimp only [ZB,z0,z1])|refine WL.nil ?_|refine ZA fun Kx hK=>?_|(refine hK _ _ ?_;clear hK)|refine WC.region ?_|((first|apply ZJ|apply WD.op);(focus (first|exact wN|(apply ZF;(exact wY);((first|((first|apply SY.move|apply SY.assign|apply SY.eql|apply SY.neq|apply SY.and|apply SY.andNot|apply SY.not) <;> (exact oD))|fail);all_goals infer_instance))));dsimp only [ZB,z0,z1])|(apply ZC;(exact oD);all_goals (intro h;try exact xD))))
 all_goals try (exfalso;omega)
 (repeat' (first|refine WDs.nil ?_|(apply WDs.op;(focus (intro c;apply ZF;(exact ZR rfl);((first|(apply SY.load;exact tyFz;exact OpD.t rfl)|((first|apply SY.move|apply SY.assign|apply SY.eql|apply SY.neq|apply SY.and|apply SY.andNot|apply SY.not) <;> (exact oD))|fail);all_goals infer_instance)));dsimp only [ZB,z0,z1])))
 refine ⟨ZDU (hp1:=[_]) (H:=fun v'=>[ZW v' 3 RI (Zv pre),hQ b (Zv pre).length cap 3 RI (Zv pre)]) (caps:=[]) (ZST b cap (Zv pre) (by rw [ZBA];omega)) Tryz.call92 OpD.f (by (exact aD)) (fun d hp2 ⟨v,h1,h2⟩=>⟨v,h1,h2⟩),fun v'=>?_⟩
 dsimp only [ZB,z0,z1]
 refine I.ZKq (s:=12) rfl ?_
 dsimp only [ZB,z0,z1]
 refine I.WL.perm ZUC (I.WL.yield (pre:=done) (y:=pre) hY hN hj (OpD.t rfl) (OpD.tle rfl (ZRh hSp)) fun js' hj'=>I.WL.perm ZUC.symm ?_)
 dsimp only [ZB,z0,z1]
 refine I.WL.op rfl (SY.assign (OpD.t rfl)) ?_
 dsimp only [ZB,z0,z1]
 refine I.WL.nil ?_
 ((repeat' (first|(refine hK _ _ ?_;clear hK)|refine WC.ret ?_|refine ThenD.r ?_));all_goals (first|((repeat clear hK);(repeat clear Kx))))
 exact ⟨trivial,_,_::_::_::js',rfl,rfl,rfl,js',hj',rfl⟩
set_option maxHeartbeats 16000000 in
theorem ZSw (l N:Nat) (J:List (List Nat)->List HObj->Prop) (S:List Nat->Prop) (hY:YStep Tryz.prog l (fun x=>dIf (S x) (dS ZBt (Zv x))) J N) (v2:Value) (bf:Nat) :
  ∀ (k r:Nat) (pre:List Nat) (v:Value) (done:List (List Nat)) (js:List HObj),r<32->ZNM r≤k->(r≠0\/pre≠[])->pre.length+k≤100->J done js->done.length+(ZED k r).length≤N->(∀ x∈ZED k r,S (pre++x)) ->
  CallC Tryz.prog 91 ([dI (r:Int),dX v]++[v2,.pointer (some ⟨bf,0,none⟩)].map dX) (ZOd l v v2 bf pre++js)
   (fun d hp2=>d=dB true/\∃ js',J (done++(ZED k r).map (pre ++ ·)) js'/\hp2=ZOd l v v2 bf pre++js'):=by
 have leaf:∀ (k r:Nat) (pre:List Nat) (v:Value) (done:List (List Nat)) (js:List HObj),r=0->(r≠0\/pre≠[])->pre.length+k≤100->J done js->done.length+(ZED k r).length≤N->(∀ x∈ZED k r,S (pre++x)) ->
  CallC Tryz.prog 91 ([dI (r:Int),dX v]++[v2,.pointer (some ⟨bf,0,none⟩)].map dX) (ZOd l v v2 bf pre++js)
   (fun d hp2=>d=dB true/\∃ js',J (done++(ZED k r).map (pre ++ ·)) js'/\hp2=ZOd l v v2 bf pre++js'):=by
  intro k r pre v done js h0 hne hlen hj hN hS
  subst h0
  rw [ZGP] at hN hS ⊢
  have h:=ZT4 l N J S hY v2 bf pre v done js (by rcases hne with h|h;exact absurd rfl h;exact h) (by omega) hj (by simp at hN;omega) (by simpa using hS)
  simpa using h
 intro k
 induction k with
 | zero =>
  intro r pre v done js hr hb hne hlen hj hN hS
  exact leaf 0 r pre v done js (ZNO ⟨r,hr⟩ (by simpa using hb)) hne hlen hj hN hS
 | succ k ih =>
  intro r pre v done js hr hb hne hlen hj hN hS
  by_cases h0:r=0
  ·exact leaf (k+1) r pre v done js h0 hne hlen hj hN hS
  ·rw [ZLf h0] at ⊢
   have hN':done.length+(ZFS k r pre (ZKQ r)).length≤N:=by rw [<- ZLf h0,List.length_map];exact hN
   clear hN leaf
   have hfirst:ZKE (0-(r:Int)) (r:Int)=((ZB2 r 0:Nat):Int):=(ZME ⟨r,hr⟩).resolve_right h0
   obtain ⟨f1,f2,f3⟩:=ZQW ⟨r,hr⟩ h0
   simp only at f1 f2 f3
   (refine Z5 Tryz.func91 rfl rfl (fun hp=>?_);simp only [Tryz.ntmps91,List.length_cons,List.length_nil,List.length_append,List.length_map,Nat.reduceAdd,Nat.reduceSub,List.replicate_succ,List.replicate_zero,List.cons_append,List.nil_append,List.map_cons,List.map_nil,List.append_assoc])
   (repeat' (first|((first|apply WL.opN|apply WD.opN);exact yF;dsimp only [ZB,z0,z1])|refine WL.nil ?_|refine ZA fun Kx hK=>?_|(refine hK _ _ ?_;clear hK)|refine WC.region ?_|((first|apply ZJ|apply WD.op);(focus (first|exact wN|(apply ZF;(exact wY);((first|(exact ZJq hfirst (OpD.t rfl) (OpD.t rfl))|((first|apply SY.move|apply SY.assign|apply SY.eql|apply SY.neq|apply SY.and|apply SY.andNot|apply SY.not) <;> (exact oD))|((first|apply SY.sub) <;> first|exact oD|omega)|fail);all_goals infer_instance))));dsimp only [ZB,z0,z1])|(apply ZC;(exact oD);all_goals (intro h;try exact xD))|refine WC.skip ?_|refine WC.block ?_))
   all_goals try (exfalso;omega)
   (refine WC.loopU (X:=Nat × List (List Nat) × List HObj) (fun x=>[(7,dI (x.1:Int)),(6,dA),(18,dA),(19,dA),(20,dA),(21,dA),(22,dA),(23,dA),(24,dA),(25,dA),(26,dA),(27,dA),(28,dA),(29,dA),(30,dA),(31,dA),(32,dA),(33,dA),(34,dA),(35,dA),(36,dA),(37,dA),(38,dA),(39,dA)]) (fun x=>(ZW v 3 RI (Zv pre)::ZQ bf 126 1 false (dX (ZQa v2 bf))::ZAC v2 (dP 1 false (dX (.func (.yield l) #[] #[])))::(x.2.2++hp))) (fun x=>r-x.1) (fun x=>0<x.1/\x.1≤r/\x.1 &&& r=x.1/\J x.2.1 x.2.2/\x.2.1++ZFS k r pre (ZDt r x.1)=done++ZFS k r pre (ZKQ r)) (ZB2 r 0,done,js) ?start ?frame0 ?objs0 ?round)
   case start=>exact ⟨f1,f2,f3,hj,by rw [ZMH ⟨r,hr⟩ h0]⟩
   case frame0=>((try dsimp only [ZK,z0,z1]);repeat (first|exact LeF.nil|refine ZD (k:=?_)))
   case objs0=>rfl
   case round =>
    rintro ⟨c,dn,js1⟩ ⟨q0,q1,q2,q3,q4⟩
    simp only at q0 q1 q2 q3 q4
    dsimp only [ZK,z0,z1]
    have hc0:(c:Int)≠0:=by omega
    have hand:=(ZGu ⟨r,hr⟩ ⟨c,by omega⟩ q2).1
    simp only at hand
    (repeat' (first |  (refine WC.drawG (β:=ZR3 v (Zv pre)) 10 (ZQZ RI 3 v (Zv pre) (c:Int) (ZQ bf 126 1 false (dX (ZQa v2 bf))::ZAC v2 (dP 1 false (dX (.func (.yield l) #[] #[])))::(js1++hp))) ZQY _ rfl (by kernel_rfl) (by kernel_rfl) ?_;simp only [List.take_succ_cons,List.take_zero,List.drop_succ_cons,List.drop_zero])|refine ZA fun Kx hK=>?_|refine WC.block ?_))
    (repeat' (first|refine WDs.nil ?_|(apply WDs.op;(focus (intro c;apply ZF;(exact wY);((first|(exact ZSE hc0 (OpD.t rfl) OpD.i)|(apply ZAN;exact tyFo;exact OpD.t rfl;(refine HH.mem (.tail _ (.head _)) (fun x=>?_);cases x;exact .tail _ (.head _);exact .tail _ (.tail _ (.head _))))|(exact ZEv hand (OpD.t rfl) (OpD.t rfl))|((first|apply SY.move|apply SY.assign|apply SY.eql|apply SY.neq|apply SY.and|apply SY.andNot|apply SY.not) <;> (exact oD))|(apply SY.build1';(exact eD);((try simp only [List.map_cons,List.map_nil]);(repeat (first|exact Zq|(apply Zh;(first|exact OpD.t rfl|exact OpD.i|exact OpD.b|exact OpD.tle rfl (by first|exact ZI|exact ZH (by decide))|exact ⟨ZI⟩|exact ⟨ZH (by decide)⟩)))));rfl;rfl;(intro _;first|exact ZAb|exact ZA4|exact ZAa|exact ZBP);(exact (by simp)))|fail);all_goals infer_instance)));dsimp only [ZB,z0,z1])))
    have hlenP:(Zv pre).length=pre.length:=ZBA pre
    have hCall:∀ v':Value,CallC Tryz.prog 91 ([dI (((r-c:Nat):Nat):Int),dX v']++[v2,.pointer (some ⟨bf,0,none⟩)].map dX) (ZOd l v' v2 bf (pre++[c])++js1)
      (fun d hp2=>d=dB true/\∃ js',J (dn++(ZED k (r-c)).map ((pre++[c]) ++ ·)) js'/\hp2=ZOd l v' v2 bf (pre++[c])++js'):=fun v'=>by
     have hfr:c=r\/ZDt r c=c::ZDt r (ZB2 r c):=by
      by_cases hcr:c=r
      ·exact .inl hcr
      ·exact .inr (ZI5 ⟨r,hr⟩ ⟨c,by omega⟩ (by simp only;omega) q2 (by simpa using hcr))
     have hmem:(ZED k (r-c)).length≤(ZFS k r pre (ZDt r c)).length:=by
      rcases hfr with h|h
      ·subst h
       rw [ZI4 ⟨c,hr⟩ (by simp only;omega),ZEk]
       simp
      ·rw [h,ZEk]
       simp
     have hl4:=congrArg List.length q4
     simp only [List.length_append] at hl4
     have hbl:=ZNN ⟨r,hr⟩ ⟨c,by omega⟩ q0 q2
     simp only at hbl
     exact ih (r-c) (pre++[c]) v' dn js1 (by omega) (by omega) (.inr (by simp)) (by simp;omega) q3 (by omega) fun x hx=>by
      have h5:=hS (c::x) (by rw [ZDN h0];exact List.mem_flatMap.2 ⟨c,ZKR.2 ⟨q0,q1,q2⟩,List.mem_map.2 ⟨x,hx,rfl⟩⟩)
      simpa using h5
    have hEnd:∀ {js2:List HObj},c=r->J (dn++(ZED k (r-c)).map ((pre++[c]) ++ ·)) js2->J (done++ZFS k r pre (ZKQ r)) js2:=fun {js2} hcr hj2=>by
     subst hcr
     rw [ZI4 ⟨c,hr⟩ (by simp only;omega),ZEk,ZOr] at q4
     rw [<- q4]
     simpa [ZFS] using hj2
    have hNext:c≠r->(0<ZB2 r c/\ZB2 r c≤r/\ZB2 r c &&& r=ZB2 r c/\c<ZB2 r c)/\ZKE ((c:Int)-(r:Int)) (r:Int)=((ZB2 r c:Nat):Int)/\(dn++(ZED k (r-c)).map ((pre++[c]) ++ ·))++ZFS k r pre (ZDt r (ZB2 r c))=done++ZFS k r pre (ZKQ r):=fun hcr=>by
     obtain ⟨n1,n2,n3⟩:=ZSt ⟨r,hr⟩ ⟨c,by omega⟩ q2 hcr
     simp only at n1 n2 n3
     refine ⟨⟨by omega,n2,n3,n1⟩,ZOX ⟨r,hr⟩ ⟨c,by omega⟩ q2 hcr,?_⟩
     rw [<- q4,ZI5 ⟨r,hr⟩ ⟨c,by omega⟩ (by simp only;omega) q2 hcr,ZEk,ZOr,List.append_assoc]
    refine ⟨ZJp elI wY (OpD.t rfl) (OpD.t rfl) (by decide) (by omega),fun x=>?_⟩
    cases x with
    | inl p =>
     obtain ⟨⟨b,cap⟩,hv,hcap⟩:=p
     simp only at hv hcap
     subst hv
     dsimp only [ZQZ,ZQY,ZB,z0,z1]
     rw [<- ZE2]
     refine ZIZ (hp1:=ZOd l (.slice (some ⟨b,0,none⟩) ((Zv pre).length+1) cap) v2 bf (pre++[c])++js1) (hCall _) Tryz.call91 wY (OpD.t rfl) (by (exact aD)) ?_
     rintro d' hp2 ⟨rfl,js2,hj2,rfl⟩
     dsimp only [ZB,z0,z1,List.cons_append,List.nil_append]
     refine ZMw (k:=(Zv pre).length) (by simp [Zv]) ?_
     rw [ZE2,List.take_left' rfl]
     by_cases hcr:c=r
     ·((repeat' (first|((first|apply WL.opN|apply WD.opN);exact yF;dsimp only [ZB,z0,z1])|refine WL.nil ?_|refine ZA fun Kx hK=>?_|(refine hK _ _ ?_;clear hK)|refine WC.region ?_|((first|apply ZJ|apply WD.op);(focus (first|exact wN|(apply ZF;(exact wY);((first|(exact ZB8 (OpD.t rfl))|((first|apply SY.move|apply SY.assign|apply SY.eql|apply SY.neq|apply SY.and|apply SY.andNot|apply SY.not) <;> (exact oD))|(apply Z6;(exact oD);(with_reducible rfl);(exact oD))|fail);all_goals infer_instance))));dsimp only [ZB,z0,z1])|(apply Zi;(exact oD);(with_reducible rfl))|(apply ZC;(exact oD);all_goals (intro h;try exact xD))|refine WC.skip ?_|refine WC.ret ?_|refine ThenD.r ?_|refine InBlockD.r ?_));all_goals (first|((repeat clear hK);(repeat clear Kx))))
      all_goals try (exfalso;omega)
      exact ⟨trivial,_,_::_::_::js2,rfl,rfl,rfl,js2,hEnd hcr hj2,rfl⟩
     ·obtain ⟨⟨n0,n1,n2,n3⟩,n4,n5⟩:=hNext hcr
      ((repeat' (first|((first|apply WL.opN|apply WD.opN);exact yF;dsimp only [ZB,z0,z1])|refine WL.nil ?_|refine ZA fun Kx hK=>?_|(refine hK _ _ ?_;clear hK)|refine WC.region ?_|((first|apply ZJ|apply WD.op);(focus (first|exact wN|(apply ZF;(exact wY);((first|(exact ZB8 (OpD.t rfl))|(exact ZJq n4 (OpD.t rfl) (OpD.t rfl))|((first|apply SY.move|apply SY.assign|apply SY.eql|apply SY.neq|apply SY.and|apply SY.andNot|apply SY.not) <;> (exact oD))|((first|apply SY.sub) <;> first|exact oD|omega)|(apply Z6;(exact oD);(with_reducible rfl);(exact oD))|fail);all_goals infer_instance))));dsimp only [ZB,z0,z1])|(apply Zi;(exact oD);(with_reducible rfl))|(apply ZC;(exact oD);all_goals (intro h;try exact xD))|refine WC.skip ?_|refine ThenD.n ?_));all_goals (first|((repeat clear hK);(repeat clear Kx))))
      all_goals try (exfalso;omega)
      (refine ⟨(ZB2 r c,dn++(ZED k (r-c)).map ((pre++[c]) ++ ·),js2),?_,by first|omega|(simp only;omega),rfl,?_⟩;rotate_left;((try dsimp only [ZK,z0,z1]);repeat (first|exact LeF.nil|refine ZD (k:=?_)));(try dsimp only))
      exact ⟨n0,n1,n2,hj2,n5⟩
    | inr v' =>
     dsimp only [ZQZ,ZQY,ZB,z0,z1]
     rw [<- ZE2]
     refine WL.perm perm4 ?_
     refine ZIZ (hp1:=ZOd l v' v2 bf (pre++[c])++js1) (hCall _) Tryz.call91 wY (OpD.t rfl) (by (exact aD)) ?_
     rintro d' hp2 ⟨rfl,js2,hj2,rfl⟩
     dsimp only [ZB,z0,z1,List.cons_append,List.nil_append]
     refine WL.drop ?_
     refine WL.perm ZUD ?_
     by_cases hcr:c=r
     ·((repeat' (first|((first|apply WL.opN|apply WD.opN);exact yF;dsimp only [ZB,z0,z1])|refine WL.nil ?_|refine ZA fun Kx hK=>?_|(refine hK _ _ ?_;clear hK)|refine WC.region ?_|((first|apply ZJ|apply WD.op);(focus (first|exact wN|(apply ZF;(exact wY);((first|(exact ZB8 (OpD.t rfl))|((first|apply SY.move|apply SY.assign|apply SY.eql|apply SY.neq|apply SY.and|apply SY.andNot|apply SY.not) <;> (exact oD))|(apply Z6;(exact oD);(with_reducible rfl);(exact oD))|fail);all_goals infer_instance))));dsimp only [ZB,z0,z1])|(apply Zi;(exact oD);(with_reducible rfl))|(apply ZC;(exact oD);all_goals (intro h;try exact xD))|refine WC.skip ?_|refine WC.ret ?_|refine ThenD.r ?_|refine InBlockD.r ?_));all_goals (first|((repeat clear hK);(repeat clear Kx))))
      all_goals try (exfalso;omega)
      exact ⟨trivial,_,_::_::_::js2,rfl,rfl,rfl,js2,hEnd hcr hj2,rfl⟩
     ·obtain ⟨⟨n0,n1,n2,n3⟩,n4,n5⟩:=hNext hcr
      ((repeat' (first|((first|apply WL.opN|apply WD.opN);exact yF;dsimp only [ZB,z0,z1])|refine WL.nil ?_|refine ZA fun Kx hK=>?_|(refine hK _ _ ?_;clear hK)|refine WC.region ?_|((first|apply ZJ|apply WD.op);(focus (first|exact wN|(apply ZF;(exact wY);((first|(exact ZB8 (OpD.t rfl))|(exact ZJq n4 (OpD.t rfl) (OpD.t rfl))|((first|apply SY.move|apply SY.assign|apply SY.eql|apply SY.neq|apply SY.and|apply SY.andNot|apply SY.not) <;> (exact oD))|((first|apply SY.sub) <;> first|exact oD|omega)|(apply Z6;(exact oD);(with_reducible rfl);(exact oD))|fail);all_goals infer_instance))));dsimp only [ZB,z0,z1])|(apply Zi;(exact oD);(with_reducible rfl))|(apply ZC;(exact oD);all_goals (intro h;try exact xD))|refine WC.skip ?_|refine ThenD.n ?_));all_goals (first|((repeat clear hK);(repeat clear Kx))))
      all_goals try (exfalso;omega)
      (refine ⟨(ZB2 r c,dn++(ZED k (r-c)).map ((pre++[c]) ++ ·),js2),?_,by first|omega|(simp only;omega),rfl,?_⟩;rotate_left;((try dsimp only [ZK,z0,z1]);repeat (first|exact LeF.nil|refine ZD (k:=?_)));(try dsimp only))
      exact ⟨n0,n1,n2,hj2,n5⟩
theorem ZJQ {x:HObj} {hs hp:List HObj}:(hs++x::hp).Perm (x::(hs++hp)):=List.perm_middle
set_option maxHeartbeats 8000000 in
theorem ZOg (r:Nat) (h0:r≠0) (hr:r<32) (vr:Value):SeqC Tryz.prog 90 [vr] [ZAC vr (dP 1 false (dI (r:Int)))] (fun x=>dIf (x∈ZBR r) (dS ZBt (Zv x))) (ZBR r):=⟨fun l J hY js hj=>by
 (refine ZFC Tryz.func90 rfl rfl (fun hp=>?_);simp only [Tryz.ntmps90,List.length_cons,List.length_nil,List.length_append,List.length_map,Nat.reduceAdd,Nat.reduceSub,List.replicate_succ,List.replicate_zero,List.cons_append,List.nil_append,List.map_cons,List.map_nil,List.append_assoc])
 refine ZKl ZJQ ?_
 (repeat' (first |  (refine ZFu (d:=dP 1 false (dX (.func (.yield l) #[] #[]))) 2 rfl fun v2=>?_;dsimp only [z0,z1]) |  (refine ZFv (d:=dP 1 false (dI (r:Int))) 1 rfl (.tail _ (.tail _ (.head _))) ?_;dsimp only [z0,z1])|(apply WL.opN;exact yF;dsimp only [ZB,z0,z1])|refine WL.nil ?_|refine ZA fun Kx hK=>?_|(refine hK _ _ ?_;clear hK)|refine WC.region ?_ |  (apply WL.alloc tzFo;exact ZY rfl;(intro bf;dsimp only [ZB,z0,z1])) |  (apply Zw tyFo;exact OpD.t rfl;exact OpD.t rfl;exact ZY rfl;dsimp only [ZB,z0,z1])|(apply WL.opN;(focus ((first|(apply ZEI;repeat (first|exact ArgsX.nil|(apply ArgsX.cons;exact OpD.t rfl)))|(apply ZAN;exact tyFo;exact OpD.t rfl;exact .head _)|(apply SY.box;(exact oD);(exact hD))|fail);all_goals infer_instance));dsimp only [ZB,z0,z1])))
 have hC:=ZSw l (ZBR r).length J (fun x=>x∈ZBR r) hY v2 bf 6 r [] (.slice none 0 0) [] js hr (Nat.le_succ_of_le (ZQA ⟨r,hr⟩)) (.inl h0) (by simp) hj (by simp [ZBR]) (fun x hx=>by rw [List.nil_append];exact hx)
 refine ZBG 3 RI ?_
 refine WL.perm (List.Perm.cons _ (List.Perm.cons _ (List.Perm.cons _ ZJQ.symm))) ?_
 refine Z8 (hp1:=ZOd l (.slice none 0 0) v2 bf []++js) hC Tryz.call91 (OpD.t rfl) (by (exact aD)) ?_
 rintro d' hp2 ⟨rfl,js',hj',rfl⟩
 simp only [List.nil_append,List.map_id'] at hj'
 dsimp only [ZB,z0,z1,List.cons_append,List.nil_append]
 refine WL.drop (WL.drop (WL.drop (WL.nil ?_)))
 exact ⟨trivial,js'++[_],by simp,js',hj',rfl⟩⟩
theorem ZGR (r:Nat):CallC Tryz.prog 49 ([dI (r:Int)]++([]:List Value).map dX) [] (fun d hp2=>∃ vr,d=dX (.func (.func 90) #[] [vr].toArray)/\hp2=[ZAC vr (dP 1 false (dI (r:Int)))]):=by
 (refine Z5 Tryz.func49 rfl rfl (fun hp=>?_);simp only [Tryz.ntmps49,List.length_cons,List.length_nil,List.length_append,List.length_map,Nat.reduceAdd,Nat.reduceSub,List.replicate_succ,List.replicate_zero,List.cons_append,List.nil_append,List.map_cons,List.map_nil,List.append_assoc])
 ((repeat' (first |  (refine ZFu (d:=dP 1 false (dI (r:Int))) 1 rfl fun vr=>?_;dsimp only [z0,z1])|(apply WL.opN;exact yF;dsimp only [ZB,z0,z1])|refine WL.nil ?_|refine ZA fun Kx hK=>?_|(refine hK _ _ ?_;clear hK)|refine WC.region ?_|(apply WL.opN;(focus ((first|(apply ZEI;repeat (first|exact ArgsX.nil|(apply ArgsX.cons;exact OpD.t rfl)))|(apply SY.box;(exact oD);(exact hD))|fail);all_goals infer_instance));dsimp only [ZB,z0,z1])|refine WC.ret ?_));all_goals (first|((repeat clear hK);(repeat clear Kx))))
 exact ⟨trivial,_,[_],rfl,rfl,vr,rfl,rfl⟩
end
section
theorem ZGz (x y:Vx) : -1≤ZA0 x y/\ZA0 x y≤1:=by rcases ZBf x y with h|h|h <;> omega
theorem ZDc:∀ (a b:List Vx),ZAz b a = - ZAz a b
 | [],[]=>by simp [ZAz]
 | [],_::_=>by simp [ZAz]
 | _::_,[]=>by simp [ZAz]
 | x::a,y::b=>by
  unfold ZAz
  have h:=ZHe x y
  split <;> split
  ·exact ZDc a b
  ·omega
  ·omega
  ·exact h
theorem ZDd:∀ (a b c:List Vx),ZAz a b≤0->ZAz b c≤0->ZAz a c≤0/\(ZAz a c=0->0≤ZAz a b+ZAz b c)
 | [],[],[],_,_=>by simp [ZAz]
 | [],[],_::_,_,_=>by simp [ZAz]
 | [],_::_,[],_,h=>by simp [ZAz] at h
 | [],_::_,_::_,_,_=>by simp [ZAz]
 | _::_,[],_,h,_=>by simp [ZAz] at h
 | _::_,_::_,[],_,h=>by simp [ZAz] at h
 | x::a,y::b,z::c,h,h'=>by
  have ih:=ZDd a b c
  unfold ZAz at h h' ⊢
  have r1:=ZGz x y
  have r2:=ZGz y z
  by_cases e1:ZA0 x y=0
  ·have:=ZCR.1 e1
   subst this
   rw [if_pos e1] at h ⊢
   by_cases e2:ZA0 x z=0
   ·simp only [e2,if_true] at h' ⊢
    exact ih h h'
   ·rw [if_neg e2] at h'
    rw [if_neg e2]
    exact ⟨h',fun h0=>absurd h0 e2⟩
  ·rw [if_neg e1] at h ⊢
   by_cases e2:ZA0 y z=0
   ·have:=ZCR.1 e2
    subst this
    rw [if_neg e1]
    omega
   ·rw [if_neg e2] at h' ⊢
    have e3:=ZBg (by omega:ZA0 x y<0) (by omega:ZA0 y z<0)
    rw [if_neg (by omega)]
    omega
end
section
abbrev Cx:=List (List Vx)
def ZD3 (l:Cx):Bool:=decide (l.length≤30) && l.all fun s=>decide (s.length≤10)
def ZHp:Cx->List Vx->Cx
 | [],s=>[s]
 | x::l,s=>if ZAz s x<0 then s::x::l else x::ZHp l s
def ZFL (l:Cx) (s:List Vx):Cx:=if s∈l then l else ZHp l s
def ZAU (l:Cx) (s:List Vx):Bool:=l.any fun x=>decide (s.length<x.length) && ZCC s x
def ZPY (l:Cx) (s:List Vx):Bool:=decide (0<s.length) && !ZAU l s
def ZDl (l:Cx):Cx:=(l.filter (ZPY l)).foldl ZFL []
def ZFE:Option (List Vx)->Cx->Int
 | _,[]=>0
 | p,s::l=>if ZAJ s≠0 then ZAJ s else if (match p with|some u=>decide (0≤ZAz u s)|none=>false)=true then 14 else ZFE (some s) l
def ZC3 (l:Cx):Bool:=(List.range l.length).any fun i=>(List.range l.length).any fun k=>decide (i≠k) && ZCC (l.getD i []) (l.getD k [])
def ZBH (l:Cx):Int:=if 4096<l.length then 5 else if ZFE none l≠0 then ZFE none l else if ZC3 l=true then 7 else 0
def ZPy (c:Cx) (k:Nat):Cx:=c.foldl (fun out f=>if f.length<k then out else (Zg k f).foldl ZFL out) []
theorem ZHq:∀ (l:Cx) (s:List Vx),(ZHp l s).length=l.length+1
 | [],s=>rfl
 | x::l,s=>by
  unfold ZHp
  split
  ·rfl
  ·simp [ZHq l s]
theorem ZLk (l:Cx) (s:List Vx):l.length≤(ZFL l s).length/\(ZFL l s).length≤l.length+1:=by
 unfold ZFL
 split
 ·omega
 ·rw [ZHq];omega
theorem ZKF:∀ (l:Cx) (s:List Vx) (k:Nat),k≤l.length->(∀ x∈l.take k,¬ ZAz s x<0)->ZHp l s=l.take k++ZHp (l.drop k) s
 | l,s,0,_,_=>by simp
 | [],s,k+1,h,_=>by simp at h
 | x::l,s,k+1,h,hx=>by
  have h1:¬ ZAz s x<0:=hx x (by simp)
  rw [List.take_succ_cons,List.drop_succ_cons]
  conv=>lhs;unfold ZHp
  rw [if_neg h1,ZKF l s k (by simpa using h) (fun y hy=>hx y (by simp [hy]))]
  rfl
theorem ZQk {l:Cx} {s:List Vx} {k:Nat} (h:k<l.length) (hx:∀ x∈l.take k,¬ ZAz s x<0) (hk:ZAz s l[k]<0):ZHp l s=l.take k++s::l.drop k:=by
 rw [ZKF l s k (by omega) hx,Zd h]
 conv=>lhs;unfold ZHp
 rw [if_pos hk]
theorem ZQl {l:Cx} {s:List Vx} (hx:∀ x∈l,¬ ZAz s x<0):ZHp l s=l++[s]:=by
 have:=ZKF l s l.length (Nat.le_refl _) (by rwa [List.take_length])
 rw [this,List.take_length,List.drop_length];rfl
theorem ZIp (l:Cx) (k:Nat) (h:k<l.length):ZFE (l.take k).getLast? (l.drop k)=if ZAJ l[k]≠0 then ZAJ l[k] else if (match (l.take k).getLast? with|some u=>decide (0≤ZAz u l[k])|none=>false)=true then 14 else ZFE (l.take (k+1)).getLast? (l.drop (k+1)):=by
 rw [Zd h]
 conv=>lhs;unfold ZFE
 have e:(l.take (k+1)).getLast?=some l[k]:=by rw [ZP h,List.getLast?_append];rfl
 rw [e]
theorem ZDi (l:Cx) (k:Nat) (h:k<l.length) (h0:0<k):(l.take k).getLast?=some l[k-1]:=by
 rw [List.getLast?_eq_getElem?,List.length_take,Nat.min_eq_left (by omega),List.getElem?_take_of_lt (by omega),List.getElem?_eq_getElem (by omega)]
end
end Go.Proofs.YtlgmojhmmbhgfaaGreatDoor
