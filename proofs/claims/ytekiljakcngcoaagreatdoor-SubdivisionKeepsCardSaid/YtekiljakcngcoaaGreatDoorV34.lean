/- Part 34: walks by contracts, and plain laws. -/
import Derived.Test.YtekiljakcngcoaaGreatDoorV33
set_option linter.unusedVariables false
set_option linter.unusedSimpArgs false
set_option linter.unusedSectionVars false
set_option maxRecDepth 100000
set_option maxHeartbeats 4000000
namespace Go.Proofs.YtekiljakcngcoaaGreatDoor
section
open Go.RowKit
section
variable {P:Program} {ops:Array Oper} {hp:List HObj} {fr:List Dat} {d:Dat} {Q:ZAW} {rest:List Oper} {K:Dat->List HObj->Prop}
variable {dst:Option Tmp} {ty:TypeId} {ps:String} {af:Array Edge} {g:Option (Nat × Bool)} {b cap bytes:Nat} {e e2 t T T2:TypeId} {z:Value} {ag:Bool}
theorem ZQS {s y:Operand} {dst2:Option Tmp} {ty2:TypeId} {ps2:String} {af2:Array Edge} {v:Value} {α:Type} {R:Rel α} {_gR:Good R} {xs ys:List α} (E:ElT P t e 1 z bytes ag) (hs:OpD fr s (dX v)) (hy:OpD fr y (dX (.slice (some ⟨b,0,none⟩) ys.length cap))) (hby:0<bytes)
  (hlen:(xs.length+ys.length)*bytes≤140737488355328) (h:∀ v',WL P ops Q rest (ZA fr dst2 (dX v')) (Zr v' e R (xs++ys)::hQ b ys.length cap e2 R ys::hp)) :
  WL P ops Q (⟨dst2,.call { callee:=.builtin .append,args:=#[s,y],argTypes:=#[t,t] },ty2,ps2,af2,none⟩::rest) fr (Zr v e R xs::hQ b ys.length cap e2 R ys::hp):=by
 refine WL.of fun P0 B w0 w a hh hf=>?_
 have hm:xs.length+ys.length≤maxLen:=by
  have:(xs.length+ys.length)*1≤(xs.length+ys.length)*bytes:=Nat.mul_le_mul_left _ hby
  simp only [maxLen];omega
 obtain ⟨us,u1,⟨u2,u3⟩,u4⟩:=hh.ok (hQ b ys.length cap e2 R ys) (by simp)
 rcases u3 with ⟨hv,_⟩|⟨g',cap',cur,hv,hB,hg,hc1,hc2,hc3,hc4⟩
 ·cases hv
 ·obtain ⟨hg',hl',hcap⟩:g'=b/\us.length*1=ys.length/\cap'=cap:=by
   injection hv with q1 q2 q3
   injection q1 with q1
   injection q1 with q1
   exact ⟨q1.symm,by omega,q3.symm⟩
  subst hg'
  rw [Nat.mul_one] at hc3 hc4
  have hlu:us.length=ys.length:=u1
  obtain ⟨v',w',hr,r1,r2,r3⟩:=ZCW (ty:=ty2) E hh (ad:=⟨g',0,none⟩) (c:=cap) (ys:=ys) (news:=us) hlu (fun j u hj=>by
    have hlt:=(List.getElem?_eq_some_iff.1 hj).1
    rw [<- hc4,List.getElem?_take,if_pos (by omega)] at hj
    rw [Addr.add_lit,Nat.zero_add]
    simp only [World.cell?,hg]
    simpa using hj)
   (fun u hu=>by
    obtain ⟨j,hj,rfl⟩:=List.getElem_of_mem hu
    exact (u4 j hj (by omega)).1) (fun k h1 h2=>Good.weak (u4 k h1 h2).2 fun _ hj=>hj.1) hlen hm
  refine ZA6 (v:=v) (yv:=_) (hs.ev hf) (hy.ev hf) hr ?_
  exact (h v').on r1 (Fr.put (x:=dst2) (hf.mono fun d _ hd=>ZY (o:=Zr v e R xs) (o':=Zr v' e R (xs++ys)) r2 r3 hd) (d:=dX v') rfl)
theorem ZBs {x:Operand} {T:TypeId} (hx:OpD fr x (dB true)):SY P ops hp ⟨dst,.unOp .not T x,ty,ps,af,g⟩ fr (dB false):=SY.not hx
theorem ZTA {p q:Int} {x y:Operand} (h:p≠q) (hx:OpD fr x (dI p)) (hy:OpD fr y (dI q)):SY P ops hp ⟨dst,.binOp .neq T x y T2,ty,ps,af,g⟩ fr (dB true):=by
 have:=SY.neq (P:=P) (ops:=ops) (hp:=hp) (dst:=dst) (ty:=ty) (ps:=ps) (af:=af) (g:=g) (T:=T) (T2:=T2) hx hy
 rwa [decide_eq_false h] at this
theorem ZKN {p q c:Int} {x y:Operand} (h:ZKn p q=c) (hx:OpD fr x (dI p)) (hy:OpD fr y (dI q)):SY P ops hp ⟨dst,.binOp .and T x y T2,ty,ps,af,g⟩ fr (dI c):=h ▸ SY.and hx hy
theorem ZMX {p q c:Int} {x y:Operand} (h:ZDG p q=c) (hx:OpD fr x (dI p)) (hy:OpD fr y (dI q)):SY P ops hp ⟨dst,.binOp .andNot T x y T2,ty,ps,af,g⟩ fr (dI c):=h ▸ SY.andNot hx hy
theorem ZMj {f:FuncId} {caps:List Value} {cl:Operand} {args:Array Operand} {ats:Array TypeId} {ds1:List Dat} {hp1:List HObj} {P0:Nat->Prop} {B:Nat} {w0 w:World} {a:Act} (hF:CallC P f (ds1++caps.map dX) hp1 K) (he:ZAn P f) (hc:OpD fr cl (dX (.func (.func f) #[] caps.toArray))) (ha:ArgsD fr args.toList ds1)
  (hh:Hp P0 B w0 (hp1++hp) w) (hfr:Fr (Imm P0 B (hp1++hp)) w a fr) {KK:Act->World->Prop} {QQ:Exit->Act->World->Prop}
  (hKK:∀ d' hp2 a' w',K d' hp2->Hp P0 B w0 (hp2++hp) w'->Fr (Imm P0 B (hp2++hp)) w' a' (ZA fr dst d')->KK a' w') :
  Oper.wp P ⟨dst,.call { callee:=.value cl,args:=args,argTypes:=ats },ty,ps,af,g⟩ a w KK QQ:=by
 have h:=ZGC (dst:=dst) (ty:=ty) (ps:=ps) (af:=af) (ats:=ats) hF he hc ha hh hfr (KK:=KK) (QQ:=QQ) hKK
 unfold Oper.wp at h ⊢
 exact h
theorem ZI1 {f:FuncId} {caps:List Value} {cl:Operand} {args:Array Operand} {ats:Array TypeId} {ds1:List Dat} {hp1:List HObj} (hF:CallC P f (ds1++caps.map dX) hp1 K) (he:ZAn P f) (hw:WantS ops ⟨dst,.call { callee:=.value cl,args:=args,argTypes:=ats },ty,ps,af,g⟩ fr true) (hc:OpD fr cl (dX (.func (.func f) #[] caps.toArray))) (ha:ArgsD fr args.toList ds1)
  (hK:∀ d' hp2,K d' hp2->WL P ops Q rest (ZA fr dst d') (hp2++hp)) :
  WL P ops Q (⟨dst,.call { callee:=.value cl,args:=args,argTypes:=ats },ty,ps,af,g⟩::rest) fr (hp1++hp):=WL.of fun P0 B w0 w a hh hf=>by
 unfold wpList
 rw [if_pos (hw.out _ _ _ (hf.on _))]
 exact .inl (ZMj hF he hc ha hh hf fun d' hp2 _ _ hk hh2 hf2=>(hK d' hp2 hk).on hh2 hf2)
end

theorem ZUm:∀ (x y:Operand) ad m c w,(do eqGuard .eql 39 x y (.slice ad m c) (.slice none 0 0);Go.binOp .eql 39 (.slice ad m c) (.slice none 0 0)).run Tryz.prog w = .ok (.bool ad.isNone) w:=by
 intro x y ad m c w
 cases ad <;> (go_simp;try (unfold Go.binOp;simp only;unfold Op.equal Op.maxDepth Op.equalIn;simp [run_underlying Tryz.underlying39]))
theorem ZTU (b cap:Nat) (xs:List Int) (hl:xs.length≤1000):CallC Tryz.prog 79 ([dX (.slice (some ⟨b,0,none⟩) xs.length cap)]++([]:List Value).map dX) [hQ b xs.length cap 3 RI xs] fun d' hp2=>∃ v,d'=dX v/\hp2=[Zr v 3 RI xs,hQ b xs.length cap 3 RI xs]:=by
 (refine ZAD Tryz.func79 rfl rfl (fun hp=>?_);simp only [Tryz.ntmps79,List.length_cons,List.length_nil,List.length_append,List.length_map,Nat.reduceAdd,Nat.reduceSub,List.replicate_succ,List.replicate_zero,List.cons_append,List.nil_append,List.map_cons,List.map_nil,List.append_assoc])
 ((repeat' (first|(apply WL.opN;exact yF;dsimp only [ZA,z0,z1])|refine WL.nil ?_|refine ZC fun Kx hK=>?_|(refine hK _ _ ?_;clear hK)|refine WC.region ?_ |  (apply ZG7 elI RI;(intro _;dsimp only [ZA,z0,z1]);all_goals (try infer_instance)) |  (apply ZQS elI;exact OpD.t rfl;exact OpD.t rfl;decide;(simp;omega);(intro _;dsimp only [ZA,z0,z1]))|(apply WL.opN;(focus ((first|(apply ZIv;exact OpD.t rfl;exact ZUm)|fail);all_goals infer_instance));dsimp only [ZA,z0,z1])|(apply ZK;(exact oD);(with_reducible rfl))|refine WC.skip ?_|refine WC.ret ?_));all_goals (first|((repeat clear hK);(repeat clear Kx))))
 exact ⟨trivial,_,[_,_],rfl,rfl,_,rfl,by rw [List.nil_append]⟩
theorem tyFo:TyI Tryz.prog 126 1 false:=⟨by kernel_rfl,Tryz.isAgg126⟩
theorem tyFz:TyI Tryz.prog 112 1 false:=⟨by kernel_rfl,Tryz.isAgg112⟩
theorem tzFo:TyZ Tryz.prog 126 .nilFunc:=⟨by kernel_rfl⟩
def dIf (c:Prop) (d:Dat):Dat:=⟨fun I w v=>c/\d.rd I w v,fun h q=>⟨h.1,d.weak h.2 q⟩,fun h q=>⟨h.1,d.move h.2 q⟩,fun h=>⟨h.1,d.bound h.2⟩⟩
theorem ZLh {c:Prop} {d:Dat} (h:c):dIf c d=d:=by
 obtain ⟨rd,h1,h2,h3⟩:=d
 unfold dIf
 congr 1
 funext I w v
 exact propext (and_iff_right h)
theorem ZSU {c:Prop} {d:Dat} (h:c):d.le (dIf c d):=by rw [ZLh h];exact Dat.le_refl _
abbrev ZRJ (v2:Value) (bf:Nat):Value:=.func (.func 78) #[] [v2,.pointer (some ⟨bf,0,none⟩)].toArray
abbrev ZPE (l:Nat) (v v2:Value) (bf:Nat) (pre:List Nat):List HObj :=
 [Zr v 3 RI (ZAa pre),Zh bf 126 1 false (dX (ZRJ v2 bf)),ZAI v2 (dP 1 false (dX (.func (.yield l) #[] #[])))]
def ZN2 (r:Nat):Nat:=((List.range 5).filter fun i=>r.testBit i).length
theorem ZN5:∀ r:Fin 32,ZN2 r.val=0->r.val=0:=by decide +kernel
theorem ZN4:∀ r b:Fin 32,0<b.val->b.val &&& r.val=b.val->ZN2 (r.val-b.val)<ZN2 r.val:=by decide +kernel
theorem ZQo:∀ r:Fin 32,ZN2 r.val≤5:=by decide +kernel
theorem ZRF:∀ r:Fin 32,r.val≠0->0<ZBw r.val 0/\ZBw r.val 0≤r.val/\ZBw r.val 0 &&& r.val=ZBw r.val 0:=by decide +kernel
theorem ZVN {a b c:HObj} {js hp:List HObj}:(a::b::c::(js++hp)).Perm (js++a::b::c::hp):=by
 have:(([a,b,c]++js)++hp).Perm ((js++[a,b,c])++hp):=List.Perm.append_right _ List.perm_append_comm
 simpa using this
theorem perm4 {a b c d:HObj} {js hp:List HObj}:(a::b::c::d::(js++hp)).Perm (a::c::d::(js++b::hp)):=by
 refine List.Perm.cons a ?_
 have h:(b::c::d::(js++hp)).Perm (c::d::b::(js++hp)):=(List.Perm.swap c b _).trans ((List.Perm.swap d b _).cons c)
 refine h.trans (List.Perm.cons c (List.Perm.cons d ?_))
 exact List.perm_middle.symm
def ZFh (k r:Nat) (pre:List Nat) (l:List Nat):List (List Nat):=l.flatMap fun b=>(ZFZ k (r-b)).map fun x=>pre++b::x
theorem ZME {k r:Nat} {pre:List Nat} (h:r≠0):(ZFZ (k+1) r).map (pre ++ ·)=ZFh k r pre (ZPo r):=by
 rw [ZEo h]
 unfold ZFh
 rw [List.map_flatMap]
 congr 1
 funext b
 rw [List.map_map]
 rfl
theorem ZEq {k r b:Nat} {pre:List Nat} {l:List Nat}:ZFh k r pre (b::l)=(ZFZ k (r-b)).map (fun x=>pre++b::x)++ZFh k r pre l:=rfl
theorem ZPT {k r b:Nat} {pre:List Nat}:(ZFZ k (r-b)).map (fun x=>pre++b::x)=(ZFZ k (r-b)).map ((pre++[b]) ++ ·):=by
 refine List.map_congr_left fun x _=>?_
 simp
theorem ZVO {b c d:HObj} {js hp:List HObj}:(c::d::(js++b::hp)).Perm (b::c::d::(js++hp)):=by
 have h:(b::c::d::(js++hp)).Perm (c::d::b::(js++hp)):=(List.Perm.swap c b _).trans ((List.Perm.swap d b _).cons c)
 exact ((List.Perm.cons c (List.Perm.cons d List.perm_middle)).trans h.symm)
set_option maxHeartbeats 8000000 in
theorem ZVD (l N:Nat) (J:List (List Nat)->List HObj->Prop) (S:List Nat->Prop) (hY:YStep Tryz.prog l (fun x=>dIf (S x) (dS ZCC (ZAa x))) J N) (v2:Value) (bf:Nat) (pre:List Nat) (v:Value) (done:List (List Nat)) (js:List HObj) (hne:pre≠[]) (hlen:pre.length≤100) (hj:J done js) (hN:done.length<N) (hSp:S pre) :
  CallC Tryz.prog 78 ([dI ((0:Nat):Int),dX v]++[v2,.pointer (some ⟨bf,0,none⟩)].map dX) (ZPE l v v2 bf pre++js)
   (fun d hp2=>d=dB true/\∃ js',J (done++[pre]) js'/\hp2=ZPE l v v2 bf pre++js'):=by
 (refine ZAD Tryz.func78 rfl rfl (fun hp=>?_);simp only [Tryz.ntmps78,List.length_cons,List.length_nil,List.length_append,List.length_map,Nat.reduceAdd,Nat.reduceSub,List.replicate_succ,List.replicate_zero,List.cons_append,List.nil_append,List.map_cons,List.map_nil,List.append_assoc])
 refine ZF6 2 rfl (.tail _ (.tail _ (.head _))) ?_
 refine ZLF (by rw [ZB8];exact List.length_pos_iff.2 hne) fun b cap hv hc1 hc2=>?_
 subst hv
 dsimp only [z0,z1]
 (repeat' (first |  (refine I.WC.drawW (β:=Value) 2 (fun v'=>Zr v' 3 RI (ZAa pre)::hQ b (ZAa pre).length cap 3 RI (ZAa pre)::Zh bf 126 1 false (dX (ZRJ v2 bf))::ZAI v2 (dP 1 false (dX (.func (.yield l) #[] #[])))::(js++hp)) (fun v'=>dX v') _ rfl (by kernel_rfl) (by kernel_rfl) ?_;simp only [List.take_succ_cons,List.take_zero,List.drop_succ_cons,List.drop_zero])|((first|apply WL.opN|apply WD.opN);exact yF;dsimp only [ZA,z0,z1])|refine WL.nil ?_|refine ZC fun Kx hK=>?_|(refine hK _ _ ?_;clear hK)|refine WC.region ?_|((first|apply ZS|apply WD.op);(focus (first|exact wN|(apply SYG.yes;(exact wY);((first|((first|apply SY.move|apply SY.assign|apply SY.eql|apply SY.neq|apply SY.and|apply SY.andNot|apply SY.not) <;> (exact oD))|fail);all_goals infer_instance))));dsimp only [ZA,z0,z1])|(apply ZE;(exact oD);all_goals (intro h;try exact xD))))
 all_goals try (exfalso;omega)
 (repeat' (first|refine WDs.nil ?_|(apply WDs.op;(focus (intro c;apply SYG.yes;(exact Zc rfl);((first|(apply SY.load;exact tyFz;exact OpD.t rfl)|((first|apply SY.move|apply SY.assign|apply SY.eql|apply SY.neq|apply SY.and|apply SY.andNot|apply SY.not) <;> (exact oD))|fail);all_goals infer_instance)));dsimp only [ZA,z0,z1])))
 refine ⟨ZFj (hp1:=[_]) (H:=fun v'=>[Zr v' 3 RI (ZAa pre),hQ b (ZAa pre).length cap 3 RI (ZAa pre)]) (caps:=[]) (ZTU b cap (ZAa pre) (by rw [ZB8];omega)) Tryz.call79 OpD.f (by (exact aD)) (fun d hp2 ⟨v,h1,h2⟩=>⟨v,h1,h2⟩),fun v'=>?_⟩
 dsimp only [ZA,z0,z1]
 refine I.ZLL (s:=12) rfl ?_
 dsimp only [ZA,z0,z1]
 refine I.WL.perm ZVN (I.WL.yield (pre:=done) (y:=pre) hY hN hj (OpD.t rfl) (OpD.tle rfl (ZSU hSp)) fun js' hj'=>I.WL.perm ZVN.symm ?_)
 dsimp only [ZA,z0,z1]
 refine I.WL.op rfl (SY.assign (OpD.t rfl)) ?_
 dsimp only [ZA,z0,z1]
 refine I.WL.nil ?_
 ((repeat' (first|(refine hK _ _ ?_;clear hK)|refine WC.ret ?_|refine ThenD.r ?_));all_goals (first|((repeat clear hK);(repeat clear Kx))))
 exact ⟨trivial,_,_::_::_::js',rfl,rfl,rfl,js',hj',rfl⟩
set_option maxHeartbeats 16000000 in
theorem ZT1 (l N:Nat) (J:List (List Nat)->List HObj->Prop) (S:List Nat->Prop) (hY:YStep Tryz.prog l (fun x=>dIf (S x) (dS ZCC (ZAa x))) J N) (v2:Value) (bf:Nat) :
  ∀ (k r:Nat) (pre:List Nat) (v:Value) (done:List (List Nat)) (js:List HObj),r<32->ZN2 r≤k->(r≠0\/pre≠[])->pre.length+k≤100->J done js->done.length+(ZFZ k r).length≤N->(∀ x∈ZFZ k r,S (pre++x)) ->
  CallC Tryz.prog 78 ([dI (r:Int),dX v]++[v2,.pointer (some ⟨bf,0,none⟩)].map dX) (ZPE l v v2 bf pre++js)
   (fun d hp2=>d=dB true/\∃ js',J (done++(ZFZ k r).map (pre ++ ·)) js'/\hp2=ZPE l v v2 bf pre++js'):=by
 have leaf:∀ (k r:Nat) (pre:List Nat) (v:Value) (done:List (List Nat)) (js:List HObj),r=0->(r≠0\/pre≠[])->pre.length+k≤100->J done js->done.length+(ZFZ k r).length≤N->(∀ x∈ZFZ k r,S (pre++x)) ->
  CallC Tryz.prog 78 ([dI (r:Int),dX v]++[v2,.pointer (some ⟨bf,0,none⟩)].map dX) (ZPE l v v2 bf pre++js)
   (fun d hp2=>d=dB true/\∃ js',J (done++(ZFZ k r).map (pre ++ ·)) js'/\hp2=ZPE l v v2 bf pre++js'):=by
  intro k r pre v done js h0 hne hlen hj hN hS
  subst h0
  rw [ZGa] at hN hS ⊢
  have h:=ZVD l N J S hY v2 bf pre v done js (by rcases hne with h|h;exact absurd rfl h;exact h) (by omega) hj (by simp at hN;omega) (by simpa using hS)
  simpa using h
 intro k
 induction k with
 | zero =>
  intro r pre v done js hr hb hne hlen hj hN hS
  exact leaf 0 r pre v done js (ZN5 ⟨r,hr⟩ (by simpa using hb)) hne hlen hj hN hS
 | succ k ih =>
  intro r pre v done js hr hb hne hlen hj hN hS
  by_cases h0:r=0
  ·exact leaf (k+1) r pre v done js h0 hne hlen hj hN hS
  ·rw [ZME h0] at ⊢
   have hN':done.length+(ZFh k r pre (ZPo r)).length≤N:=by rw [<- ZME h0,List.length_map];exact hN
   clear hN leaf
   have hfirst:ZKn (0-(r:Int)) (r:Int)=((ZBw r 0:Nat):Int):=(ZMp ⟨r,hr⟩).resolve_right h0
   obtain ⟨f1,f2,f3⟩:=ZRF ⟨r,hr⟩ h0
   simp only at f1 f2 f3
   (refine ZAD Tryz.func78 rfl rfl (fun hp=>?_);simp only [Tryz.ntmps78,List.length_cons,List.length_nil,List.length_append,List.length_map,Nat.reduceAdd,Nat.reduceSub,List.replicate_succ,List.replicate_zero,List.cons_append,List.nil_append,List.map_cons,List.map_nil,List.append_assoc])
   (repeat' (first|((first|apply WL.opN|apply WD.opN);exact yF;dsimp only [ZA,z0,z1])|refine WL.nil ?_|refine ZC fun Kx hK=>?_|(refine hK _ _ ?_;clear hK)|refine WC.region ?_|((first|apply ZS|apply WD.op);(focus (first|exact wN|(apply SYG.yes;(exact wY);((first|(exact ZKN hfirst (OpD.t rfl) (OpD.t rfl))|((first|apply SY.move|apply SY.assign|apply SY.eql|apply SY.neq|apply SY.and|apply SY.andNot|apply SY.not) <;> (exact oD))|((first|apply SY.sub) <;> first|exact oD|omega)|fail);all_goals infer_instance))));dsimp only [ZA,z0,z1])|(apply ZE;(exact oD);all_goals (intro h;try exact xD))|refine WC.skip ?_|refine WC.block ?_))
   all_goals try (exfalso;omega)
   (refine WC.loopU (X:=Nat × List (List Nat) × List HObj) (fun x=>[(7,dI (x.1:Int)),(6,dA),(18,dA),(19,dA),(20,dA),(21,dA),(22,dA),(23,dA),(24,dA),(25,dA),(26,dA),(27,dA),(28,dA),(29,dA),(30,dA),(31,dA),(32,dA),(33,dA),(34,dA),(35,dA),(36,dA),(37,dA),(38,dA),(39,dA)]) (fun x=>(Zr v 3 RI (ZAa pre)::Zh bf 126 1 false (dX (ZRJ v2 bf))::ZAI v2 (dP 1 false (dX (.func (.yield l) #[] #[])))::(x.2.2++hp))) (fun x=>r-x.1) (fun x=>0<x.1/\x.1≤r/\x.1 &&& r=x.1/\J x.2.1 x.2.2/\x.2.1++ZFh k r pre (ZH5 r x.1)=done++ZFh k r pre (ZPo r)) (ZBw r 0,done,js) ?start ?frame0 ?objs0 ?round)
   case start=>exact ⟨f1,f2,f3,hj,by rw [ZMr ⟨r,hr⟩ h0]⟩
   case frame0=>((try dsimp only [Za,z0,z1]);repeat (first|exact LeF.nil|refine ZF (k:=?_)))
   case objs0=>rfl
   case round =>
    rintro ⟨c,dn,js1⟩ ⟨q0,q1,q2,q3,q4⟩
    simp only at q0 q1 q2 q3 q4
    dsimp only [Za,z0,z1]
    have hc0:(c:Int)≠0:=by omega
    have hand:=(ZMg ⟨r,hr⟩ ⟨c,by omega⟩ q2).1
    simp only at hand
    (repeat' (first |  (refine WC.drawG (β:=ZS2 v (ZAa pre)) 10 (ZRI RI 3 v (ZAa pre) (c:Int) (Zh bf 126 1 false (dX (ZRJ v2 bf))::ZAI v2 (dP 1 false (dX (.func (.yield l) #[] #[])))::(js1++hp))) ZRH _ rfl (by kernel_rfl) (by kernel_rfl) ?_;simp only [List.take_succ_cons,List.take_zero,List.drop_succ_cons,List.drop_zero])|refine ZC fun Kx hK=>?_|refine WC.block ?_))
    (repeat' (first|refine WDs.nil ?_|(apply WDs.op;(focus (intro c;apply SYG.yes;(exact wY);((first|(exact ZTA hc0 (OpD.t rfl) OpD.i)|(apply ZJ;exact tyFo;exact OpD.t rfl;(refine HH.mem (.tail _ (.head _)) (fun x=>?_);cases x;exact .tail _ (.head _);exact .tail _ (.tail _ (.head _))))|(exact ZMX hand (OpD.t rfl) (OpD.t rfl))|((first|apply SY.move|apply SY.assign|apply SY.eql|apply SY.neq|apply SY.and|apply SY.andNot|apply SY.not) <;> (exact oD))|(apply SY.build1';(exact eD);((try simp only [List.map_cons,List.map_nil]);(repeat (first|exact ZR|(apply ZQ;(first|exact OpD.t rfl|exact OpD.i|exact OpD.b|exact OpD.tle rfl (by first|exact ZD|exact ZB (by decide))|exact ⟨ZD⟩|exact ⟨ZB (by decide)⟩)))));rfl;rfl;(intro _;first|exact Zq|exact Zv|exact Zt|exact shape_B);(exact (by simp)))|fail);all_goals infer_instance)));dsimp only [ZA,z0,z1])))
    have hlenP:(ZAa pre).length=pre.length:=ZB8 pre
    have hCall:∀ v':Value,CallC Tryz.prog 78 ([dI (((r-c:Nat):Nat):Int),dX v']++[v2,.pointer (some ⟨bf,0,none⟩)].map dX) (ZPE l v' v2 bf (pre++[c])++js1)
      (fun d hp2=>d=dB true/\∃ js',J (dn++(ZFZ k (r-c)).map ((pre++[c]) ++ ·)) js'/\hp2=ZPE l v' v2 bf (pre++[c])++js'):=fun v'=>by
     have hfr:c=r\/ZH5 r c=c::ZH5 r (ZBw r c):=by
      by_cases hcr:c=r
      ·exact .inl hcr
      ·exact .inr (ZJY ⟨r,hr⟩ ⟨c,by omega⟩ (by simp only;omega) q2 (by simpa using hcr))
     have hmem:(ZFZ k (r-c)).length≤(ZFh k r pre (ZH5 r c)).length:=by
      rcases hfr with h|h
      ·subst h
       rw [ZJX ⟨c,hr⟩ (by simp only;omega),ZEq]
       simp
      ·rw [h,ZEq]
       simp
     have hl4:=congrArg List.length q4
     simp only [List.length_append] at hl4
     have hbl:=ZN4 ⟨r,hr⟩ ⟨c,by omega⟩ q0 q2
     simp only at hbl
     exact ih (r-c) (pre++[c]) v' dn js1 (by omega) (by omega) (.inr (by simp)) (by simp;omega) q3 (by omega) fun x hx=>by
      have h5:=hS (c::x) (by rw [ZEo h0];exact List.mem_flatMap.2 ⟨c,ZPp.2 ⟨q0,q1,q2⟩,List.mem_map.2 ⟨x,hx,rfl⟩⟩)
      simpa using h5
    have hEnd:∀ {js2:List HObj},c=r->J (dn++(ZFZ k (r-c)).map ((pre++[c]) ++ ·)) js2->J (done++ZFh k r pre (ZPo r)) js2:=fun {js2} hcr hj2=>by
     subst hcr
     rw [ZJX ⟨c,hr⟩ (by simp only;omega),ZEq,ZPT] at q4
     rw [<- q4]
     simpa [ZFh] using hj2
    have hNext:c≠r->(0<ZBw r c/\ZBw r c≤r/\ZBw r c &&& r=ZBw r c/\c<ZBw r c)/\ZKn ((c:Int)-(r:Int)) (r:Int)=((ZBw r c:Nat):Int)/\(dn++(ZFZ k (r-c)).map ((pre++[c]) ++ ·))++ZFh k r pre (ZH5 r (ZBw r c))=done++ZFh k r pre (ZPo r):=fun hcr=>by
     obtain ⟨n1,n2,n3⟩:=ZTy ⟨r,hr⟩ ⟨c,by omega⟩ q2 hcr
     simp only at n1 n2 n3
     refine ⟨⟨by omega,n2,n3,n1⟩,ZO9 ⟨r,hr⟩ ⟨c,by omega⟩ q2 hcr,?_⟩
     rw [<- q4,ZJY ⟨r,hr⟩ ⟨c,by omega⟩ (by simp only;omega) q2 hcr,ZEq,ZPT,List.append_assoc]
    refine ⟨ZKM elI wY (OpD.t rfl) (OpD.t rfl) (by decide) (by omega),fun x=>?_⟩
    cases x with
    | inl p =>
     obtain ⟨⟨b,cap⟩,hv,hcap⟩:=p
     simp only at hv hcap
     subst hv
     dsimp only [ZRI,ZRH,ZA,z0,z1]
     rw [<- ZFA]
     refine ZI1 (hp1:=ZPE l (.slice (some ⟨b,0,none⟩) ((ZAa pre).length+1) cap) v2 bf (pre++[c])++js1) (hCall _) Tryz.call78 wY (OpD.t rfl) (by (exact aD)) ?_
     rintro d' hp2 ⟨rfl,js2,hj2,rfl⟩
     dsimp only [ZA,z0,z1,List.cons_append,List.nil_append]
     refine ZNV (k:=(ZAa pre).length) (by simp [ZAa]) ?_
     rw [ZFA,List.take_left' rfl]
     by_cases hcr:c=r
     ·((repeat' (first|((first|apply WL.opN|apply WD.opN);exact yF;dsimp only [ZA,z0,z1])|refine WL.nil ?_|refine ZC fun Kx hK=>?_|(refine hK _ _ ?_;clear hK)|refine WC.region ?_|((first|apply ZS|apply WD.op);(focus (first|exact wN|(apply SYG.yes;(exact wY);((first|(exact ZBs (OpD.t rfl))|((first|apply SY.move|apply SY.assign|apply SY.eql|apply SY.neq|apply SY.and|apply SY.andNot|apply SY.not) <;> (exact oD))|(apply Zx;(exact oD);(with_reducible rfl);(exact oD))|fail);all_goals infer_instance))));dsimp only [ZA,z0,z1])|(apply ZK;(exact oD);(with_reducible rfl))|(apply ZE;(exact oD);all_goals (intro h;try exact xD))|refine WC.skip ?_|refine WC.ret ?_|refine ThenD.r ?_|refine InBlockD.r ?_));all_goals (first|((repeat clear hK);(repeat clear Kx))))
      all_goals try (exfalso;omega)
      exact ⟨trivial,_,_::_::_::js2,rfl,rfl,rfl,js2,hEnd hcr hj2,rfl⟩
     ·obtain ⟨⟨n0,n1,n2,n3⟩,n4,n5⟩:=hNext hcr
      ((repeat' (first|((first|apply WL.opN|apply WD.opN);exact yF;dsimp only [ZA,z0,z1])|refine WL.nil ?_|refine ZC fun Kx hK=>?_|(refine hK _ _ ?_;clear hK)|refine WC.region ?_|((first|apply ZS|apply WD.op);(focus (first|exact wN|(apply SYG.yes;(exact wY);((first|(exact ZBs (OpD.t rfl))|(exact ZKN n4 (OpD.t rfl) (OpD.t rfl))|((first|apply SY.move|apply SY.assign|apply SY.eql|apply SY.neq|apply SY.and|apply SY.andNot|apply SY.not) <;> (exact oD))|((first|apply SY.sub) <;> first|exact oD|omega)|(apply Zx;(exact oD);(with_reducible rfl);(exact oD))|fail);all_goals infer_instance))));dsimp only [ZA,z0,z1])|(apply ZK;(exact oD);(with_reducible rfl))|(apply ZE;(exact oD);all_goals (intro h;try exact xD))|refine WC.skip ?_|refine ThenD.n ?_));all_goals (first|((repeat clear hK);(repeat clear Kx))))
      all_goals try (exfalso;omega)
      (refine ⟨(ZBw r c,dn++(ZFZ k (r-c)).map ((pre++[c]) ++ ·),js2),?_,by first|omega|(simp only;omega),rfl,?_⟩;rotate_left;((try dsimp only [Za,z0,z1]);repeat (first|exact LeF.nil|refine ZF (k:=?_)));(try dsimp only))
      exact ⟨n0,n1,n2,hj2,n5⟩
    | inr v' =>
     dsimp only [ZRI,ZRH,ZA,z0,z1]
     rw [<- ZFA]
     refine WL.perm perm4 ?_
     refine ZI1 (hp1:=ZPE l v' v2 bf (pre++[c])++js1) (hCall _) Tryz.call78 wY (OpD.t rfl) (by (exact aD)) ?_
     rintro d' hp2 ⟨rfl,js2,hj2,rfl⟩
     dsimp only [ZA,z0,z1,List.cons_append,List.nil_append]
     refine WL.drop ?_
     refine WL.perm ZVO ?_
     by_cases hcr:c=r
     ·((repeat' (first|((first|apply WL.opN|apply WD.opN);exact yF;dsimp only [ZA,z0,z1])|refine WL.nil ?_|refine ZC fun Kx hK=>?_|(refine hK _ _ ?_;clear hK)|refine WC.region ?_|((first|apply ZS|apply WD.op);(focus (first|exact wN|(apply SYG.yes;(exact wY);((first|(exact ZBs (OpD.t rfl))|((first|apply SY.move|apply SY.assign|apply SY.eql|apply SY.neq|apply SY.and|apply SY.andNot|apply SY.not) <;> (exact oD))|(apply Zx;(exact oD);(with_reducible rfl);(exact oD))|fail);all_goals infer_instance))));dsimp only [ZA,z0,z1])|(apply ZK;(exact oD);(with_reducible rfl))|(apply ZE;(exact oD);all_goals (intro h;try exact xD))|refine WC.skip ?_|refine WC.ret ?_|refine ThenD.r ?_|refine InBlockD.r ?_));all_goals (first|((repeat clear hK);(repeat clear Kx))))
      all_goals try (exfalso;omega)
      exact ⟨trivial,_,_::_::_::js2,rfl,rfl,rfl,js2,hEnd hcr hj2,rfl⟩
     ·obtain ⟨⟨n0,n1,n2,n3⟩,n4,n5⟩:=hNext hcr
      ((repeat' (first|((first|apply WL.opN|apply WD.opN);exact yF;dsimp only [ZA,z0,z1])|refine WL.nil ?_|refine ZC fun Kx hK=>?_|(refine hK _ _ ?_;clear hK)|refine WC.region ?_|((first|apply ZS|apply WD.op);(focus (first|exact wN|(apply SYG.yes;(exact wY);((first|(exact ZBs (OpD.t rfl))|(exact ZKN n4 (OpD.t rfl) (OpD.t rfl))|((first|apply SY.move|apply SY.assign|apply SY.eql|apply SY.neq|apply SY.and|apply SY.andNot|apply SY.not) <;> (exact oD))|((first|apply SY.sub) <;> first|exact oD|omega)|(apply Zx;(exact oD);(with_reducible rfl);(exact oD))|fail);all_goals infer_instance))));dsimp only [ZA,z0,z1])|(apply ZK;(exact oD);(with_reducible rfl))|(apply ZE;(exact oD);all_goals (intro h;try exact xD))|refine WC.skip ?_|refine ThenD.n ?_));all_goals (first|((repeat clear hK);(repeat clear Kx))))
      all_goals try (exfalso;omega)
      (refine ⟨(ZBw r c,dn++(ZFZ k (r-c)).map ((pre++[c]) ++ ·),js2),?_,by first|omega|(simp only;omega),rfl,?_⟩;rotate_left;((try dsimp only [Za,z0,z1]);repeat (first|exact LeF.nil|refine ZF (k:=?_)));(try dsimp only))
      exact ⟨n0,n1,n2,hj2,n5⟩
theorem ZJ0 {x:HObj} {hs hp:List HObj}:(hs++x::hp).Perm (x::(hs++hp)):=List.perm_middle
set_option maxHeartbeats 8000000 in
theorem ZPH (r:Nat) (h0:r≠0) (hr:r<32) (vr:Value):SeqC Tryz.prog 77 [vr] [ZAI vr (dP 1 false (dI (r:Int)))] (fun x=>dIf (x∈ZCD r) (dS ZCC (ZAa x))) (ZCD r):=⟨fun l J hY js hj=>by
 (refine ZFQ Tryz.func77 rfl rfl (fun hp=>?_);simp only [Tryz.ntmps77,List.length_cons,List.length_nil,List.length_append,List.length_map,Nat.reduceAdd,Nat.reduceSub,List.replicate_succ,List.replicate_zero,List.cons_append,List.nil_append,List.map_cons,List.map_nil,List.append_assoc])
 refine ZLG ZJ0 ?_
 (repeat' (first |  (refine ZF5 (d:=dP 1 false (dX (.func (.yield l) #[] #[]))) 2 rfl fun v2=>?_;dsimp only [z0,z1]) |  (refine ZF6 (d:=dP 1 false (dI (r:Int))) 1 rfl (.tail _ (.tail _ (.head _))) ?_;dsimp only [z0,z1])|(apply WL.opN;exact yF;dsimp only [ZA,z0,z1])|refine WL.nil ?_|refine ZC fun Kx hK=>?_|(refine hK _ _ ?_;clear hK)|refine WC.region ?_ |  (apply WL.alloc tzFo;exact ZN rfl;(intro bf;dsimp only [ZA,z0,z1])) |  (apply ZAK tyFo;exact OpD.t rfl;exact OpD.t rfl;exact ZN rfl;dsimp only [ZA,z0,z1])|(apply WL.opN;(focus ((first|(apply ZDU;repeat (first|exact ArgsX.nil|(apply ArgsX.cons;exact OpD.t rfl)))|(apply ZJ;exact tyFo;exact OpD.t rfl;exact .head _)|(apply SY.box;(exact oD);(exact hD))|fail);all_goals infer_instance));dsimp only [ZA,z0,z1])))
 have hC:=ZT1 l (ZCD r).length J (fun x=>x∈ZCD r) hY v2 bf 6 r [] (.slice none 0 0) [] js hr (Nat.le_succ_of_le (ZQo ⟨r,hr⟩)) (.inl h0) (by simp) hj (by simp [ZCD]) (fun x hx=>by rw [List.nil_append];exact hx)
 refine ZBU 3 RI ?_
 refine WL.perm (List.Perm.cons _ (List.Perm.cons _ (List.Perm.cons _ ZJ0.symm))) ?_
 refine ZAT (hp1:=ZPE l (.slice none 0 0) v2 bf []++js) hC Tryz.call78 (OpD.t rfl) (by (exact aD)) ?_
 rintro d' hp2 ⟨rfl,js',hj',rfl⟩
 simp only [List.nil_append,List.map_id'] at hj'
 dsimp only [ZA,z0,z1,List.cons_append,List.nil_append]
 refine WL.drop (WL.drop (WL.drop (WL.nil ?_)))
 exact ⟨trivial,js'++[_],by simp,js',hj',rfl⟩⟩
theorem ZGc (r:Nat):CallC Tryz.prog 46 ([dI (r:Int)]++([]:List Value).map dX) [] (fun d hp2=>∃ vr,d=dX (.func (.func 77) #[] [vr].toArray)/\hp2=[ZAI vr (dP 1 false (dI (r:Int)))]):=by
 (refine ZAD Tryz.func46 rfl rfl (fun hp=>?_);simp only [Tryz.ntmps46,List.length_cons,List.length_nil,List.length_append,List.length_map,Nat.reduceAdd,Nat.reduceSub,List.replicate_succ,List.replicate_zero,List.cons_append,List.nil_append,List.map_cons,List.map_nil,List.append_assoc])
 ((repeat' (first |  (refine ZF5 (d:=dP 1 false (dI (r:Int))) 1 rfl fun vr=>?_;dsimp only [z0,z1])|(apply WL.opN;exact yF;dsimp only [ZA,z0,z1])|refine WL.nil ?_|refine ZC fun Kx hK=>?_|(refine hK _ _ ?_;clear hK)|refine WC.region ?_|(apply WL.opN;(focus ((first|(apply ZDU;repeat (first|exact ArgsX.nil|(apply ArgsX.cons;exact OpD.t rfl)))|(apply SY.box;(exact oD);(exact hD))|fail);all_goals infer_instance));dsimp only [ZA,z0,z1])|refine WC.ret ?_));all_goals (first|((repeat clear hK);(repeat clear Kx))))
 exact ⟨trivial,_,[_],rfl,rfl,vr,rfl,rfl⟩
end
section
theorem ZOL {a b:Vx} (h:a.1<b.1):ZA8 a b<0:=by
 unfold ZA8
 rw [if_pos h];decide
def AscC (s:List Vx):Prop:=s.Pairwise fun a b=>a.1<b.1
theorem ZHh {s:List Vx} (h:AscC s):Asc s:=List.Pairwise.imp (fun h=>ZOL h) h
theorem ZNs {a b:Vx} (h:ZA8 a b<0):a.1≤b.1:=by
 unfold ZA8 at h
 split at h
 ·omega
 ·split at h
  ·omega
  ·omega
theorem ZHi:∀ {s:List Vx},Asc s->ZAi s=true->AscC s
 | [],_,_=>List.Pairwise.nil
 | [a],_,_=>List.pairwise_singleton _ _
 | a::b::s,h,hd=>by
  have h0:=List.pairwise_cons.1 h
  have h1:=ZNs (h0.1 b (by simp))
  have hab:a.1≠b.1/\ZAi (b::s)=true:=by
   unfold ZAi at hd
   simpa using hd
  have hr:AscC (b::s):=ZHi h0.2 hab.2
  refine List.pairwise_cons.2 ⟨fun x hx=>?_,hr⟩
  rcases List.mem_cons.1 hx with rfl|hx
  ·have:=hab.1;omega
  ·have h2:=(List.pairwise_cons.1 hr).1 x hx
   have:=hab.1;omega
theorem ZD4 (s:List Vx) (bl:List Nat):(ZBY s bl).map (·.1)=s.map (·.1):=by
 unfold ZBY
 rw [List.map_map]
 have e:((fun x:Vx=>x.1) ∘ fun p:Vx × Nat=>(p.1.1,((ZCA bl p.2 0:Nat):Int)))=(fun v:Vx=>v.1) ∘ Prod.fst:=rfl
 rw [e,<- List.map_map,List.zipIdx_map_fst]
theorem ZPQ {s:List Vx} (h:AscC s) (bl:List Nat):Asc (ZBY s bl):=by
 refine ZHh ?_
 have h1:((ZBY s bl).map (·.1)).Pairwise (· < ·):=by
  rw [ZD4]
  exact List.pairwise_map.2 h
 exact List.pairwise_map.1 h1
theorem ZPR {s:List Vx} (hs:Z3 s=0) (hd:ZAi s=true) {bl:List Nat} (hb:∀ i,i<s.length->ZCA bl i 0≤1048576):Z3 (ZBY s bl)=0:=by
 obtain ⟨h1,h2,h3,h4⟩:=ZP.1 hs
 refine ZP.2 ⟨by rw [ZAF];exact h1,by rw [ZAF];exact h2,fun v hv=>?_,ZPQ (ZHi h4 hd) bl⟩
 unfold ZBY at hv
 obtain ⟨p,hp,rfl⟩:=List.mem_map.1 hv
 obtain ⟨q,i⟩:=p
 have hi:=List.mem_zipIdx hp
 have hq:q∈s:=by
  have:=hi.2.2
  rw [this]
  exact List.getElem_mem _
 have hr:=h3 q hq
 have hl:=hb i (by omega)
 unfold ZEy at hr ⊢
 simp only [Bool.and_eq_true,decide_eq_true_eq] at hr ⊢
 exact ⟨⟨hr.1.1,by omega⟩,by omega⟩
end
section
def ZCz (s:List Vx):Cx:=(ZCD (2 ^ s.length-1)).map (ZBY s)
def ZIj (s:List Vx) (v:Vx):List Vx:=atB s v.2.toNat
abbrev Sub:=Cx × List Vx × Cx
def ZR1 (s:List Vx):Sub × Int :=
 if Z3 s≠0 then (([],[],[]),Z3 s) else if ZAi s=false then (([],[],[]),3) else if 5<s.length then (([],[],[]),5)
 else ((ZCv (ZCz s),ZCH [] (ZCz s).flatten,(ZCH [] (ZCz s).flatten).map (ZIj s)),0)
theorem ZQ4 {s:List Vx} {t:List Vx} (h:t∈ZCz s):t.length=s.length:=by
 unfold ZCz at h
 obtain ⟨bl,_,rfl⟩:=List.mem_map.1 h
 exact ZAF s bl
end
section
theorem ZM3:∀ n,n≤5->((ZCD (2 ^ n-1)).all fun bl=>(List.range n).all fun i=>decide (ZCA bl i 0≤31))=true:=by
 intro n h5
 have:n=0\/n=1\/n=2\/n=3\/n=4\/n=5:=by omega
 rcases this with rfl|rfl|rfl|rfl|rfl|rfl <;> decide +kernel
theorem ZFI:∀ n,n≤5->(ZCD (2 ^ n-1)).length≤541:=by
 intro n h5
 have:n=0\/n=1\/n=2\/n=3\/n=4\/n=5:=by omega
 rcases this with rfl|rfl|rfl|rfl|rfl|rfl <;> decide +kernel
theorem ZTh {s:List Vx} (hs:Z3 s=0) (hd:ZAi s=true) (h5:s.length≤5):∀ t∈ZCz s,Z3 t=0:=fun t ht=>by
 unfold ZCz at ht
 obtain ⟨bl,hbl,rfl⟩:=List.mem_map.1 ht
 refine ZPR hs hd fun i hi=>?_
 have h1:=List.all_eq_true.1 (ZM3 s.length h5) bl hbl
 have h2:=of_decide_eq_true (List.all_eq_true.1 h1 i (List.mem_range.2 hi))
 omega
theorem ZH0:∀ {l:Cx},(∀ s∈l,Z3 s=0)->ZMn l=0
 | [],_=>rfl
 | s::l,h=>by
  unfold ZMn
  rw [if_neg (fun q=>q (h s (List.mem_cons_self ..)))]
  exact ZH0 fun t ht=>h t (List.mem_cons_of_mem _ ht)
theorem ZUz {s:List Vx} (hs:Z3 s=0) (hd:ZAi s=true) (h5:s.length≤5):ofP (ZCz s)=(ZCv (ZCz s),0)/\GoodX (ZCv (ZCz s))/\(ZCv (ZCz s)).length≤541:=by
 have hc:=ZTh hs hd h5
 have hl:(ZCz s).length≤541:=by
  unfold ZCz
  rw [List.length_map]
  exact ZFI s.length h5
 have hm:(ZCv (ZCz s)).length≤541:=by
  have:=List.Nodup.length_le_of_subset (ZFu (ZCz s)).nodup fun x hx=>(ZCL.1 hx).1
  omega
 refine ⟨?_,ZH6 (fun t ht _=>hc t ht) (by omega),hm⟩
 unfold ofP
 rw [if_neg (by omega),if_neg (fun q=>q (ZH0 hc))]
end
end Go.Proofs.YtekiljakcngcoaaGreatDoor
