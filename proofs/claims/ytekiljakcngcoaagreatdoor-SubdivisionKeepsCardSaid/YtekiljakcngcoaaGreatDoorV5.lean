/- Part 5: walks by contracts, and plain laws. -/
import Derived.Test.YtekiljakcngcoaaGreatDoorV4
set_option linter.unusedVariables false
set_option linter.unusedSimpArgs false
set_option linter.unusedSectionVars false
set_option maxRecDepth 100000
set_option maxHeartbeats 4000000
namespace Go.Proofs.YtekiljakcngcoaaGreatDoor
section
open Go.RowKit

theorem z0 {α:Type} {a b:α} {l:List α}:(a::l).set 0 b=b::l:=rfl
theorem z1 {α:Type} {a b:α} {l:List α} {n:Nat}:(a::l).set (n+1) b=a::l.set n b:=rfl
theorem oD {fr:List Dat} {x:Operand} {d:Dat} (h:OpD fr x d:=by (first|exact OpD.t rfl|exact OpD.i|exact OpD.b|exact OpD.x|exact OpD.f)):OpD fr x d:=h
theorem aD {fr:List Dat} {xs:List Operand} {ds:List Dat} (h:ArgsD fr xs ds:=by (repeat (first|exact ArgsD.nil|(apply ArgsD.cons;(first|exact OpD.t rfl|exact OpD.i|exact OpD.b|exact OpD.tle rfl (by first|exact ZD|exact ZB (by decide))|exact OpD.tle rfl (ZRX (by omega))|exact OpD.tle rfl full_le|exact OpD.x|(first|exact OpD.tle rfl le_predOn|exact ⟨ZGY Tryz.call88 fun x=>ZIM x.1 x.2⟩)|exact OpD.f|exact ⟨ZD⟩|exact ⟨ZB (by decide)⟩))))):ArgsD fr xs ds:=h
theorem eD {P:Program} {t e:TypeId} {n bytes:Nat} {z:Value} {ag:Bool} (h:ElT P t e n z bytes ag:=by first|exact elV|exact ZDz|exact elI|exact elE|exact elCo|exact elC|exact elQ0|exact elQ1):ElT P t e n z bytes ag:=h
theorem uD {P:Program} {t e:TypeId} (h:UndT P t e:=by first|exact elV.unt|exact ZDz.unt|exact elI.unt|exact elE.unt|exact elCo.unt|exact elC.unt|exact elQ0.unt|exact elQ1.unt):UndT P t e:=h
theorem tD {P:Program} {t:TypeId} {n:Nat} {ag:Bool} (h:TyI P t n ag:=by first|exact tyV|exact ZG3|exact tyI|exact tyE|exact ZIn|exact tyC|exact tyF|exact tyFL|exact tyCo|exact tyCos|exact tyQ0|exact tyQ1|exact tyQ2|exact tyQ3|exact tyQ4|exact tyQ5):TyI P t n ag:=h
theorem hD {d:Dat} {n:Nat} {ag:Bool} (h:d.Shape n ag:=by first|exact Zo|exact Zv|exact shape_B|exact Zt|exact Zq|exact ZPf|exact ZBM|exact ZX rfl|exact shape_P|exact ZN rfl):d.Shape n ag:=h
theorem lD {p:Prop} (h:p:=by (first|omega|(simp only [List.length_append,List.length_cons,List.length_nil];omega)|(simp;omega))):p:=h
theorem fD {hp:List HObj} {d d':Dat} (h:FinD hp d d':=by (first|exact FinD.le (Dat.le_refl _)|exact ZAQ (.head _) rfl|exact ZBC (.head _) rfl|exact FinD.le ZD|exact FinD.le (ZB (by decide)))):FinD hp d d':=h
theorem ZF {d e:Dat} {f f':List Dat} (h:d.le e:=by first|with_reducible exact ZG5 _|with_reducible exact Dat.le_refl _|exact ZRX (by omega)|exact ZD|exact ZB (by decide)|assumption|exact Dat.le_refl _|exact ZOr (by simp)) (k:LeF f f'):LeF (d::f) (e::f'):=.cons h k
theorem nD {d:Dat} {n:Nat} (h:∀ (I:Nat->Prop) (w:World) (v:Value),d.rd I w v->Len v n:=by first|exact ZMw|exact ZKr|exact ZOu):∀ (I:Nat->Prop) (w:World) (v:Value),d.rd I w v->Len v n:=h
theorem kD {p:Prop} (h:p:=by first|assumption|omega):p:=h
theorem xD {p:Prop} (h:False:=by first|omega|contradiction):p:=h.elim
section
variable {P:Program} {ops:Array Oper} {hp:List HObj} {o:Oper} {fr:List Dat} {d:Dat} {Q:ZAW} {Q2:List Dat->Prop} {rest:List Oper} {dst:Option Tmp} {op:Op} {ty:TypeId} {ps:String} {af:Array Edge}
theorem wY (h:WantS ops o fr true:=by first|exact Zc rfl|exact ZMU rfl rfl rfl (by with_reducible rfl)):WantS ops o fr true:=h
theorem wN (h:WantS ops o fr false:=by first|exact ZPz rfl rfl rfl (by with_reducible rfl)|exact ZPy rfl rfl rfl (by with_reducible rfl)):SYG P ops hp o fr (dX undef):=ZEE h
theorem WL.opN (h:SY P ops hp ⟨dst,op,ty,ps,af,none⟩ fr d) (k:WL P ops Q rest (ZA fr dst d) hp):WL P ops Q (⟨dst,op,ty,ps,af,none⟩::rest) fr hp:=ZS (SYG.yes (Zc rfl) h) k
theorem WD.opN (h:SY P ops hp ⟨dst,op,ty,ps,af,none⟩ fr d) (k:WD P ops hp Q2 rest (ZA fr dst d)):WD P ops hp Q2 (⟨dst,op,ty,ps,af,none⟩::rest) fr:=WD.op (SYG.yes (Zc rfl) h) k
theorem yF {g:Option (Nat × Bool)} (h:SY P ops hp ⟨dst,op,ty,ps,af,g⟩ fr d:=by first|(apply SY.move <;> exact oD)|(apply SY.assign <;> exact oD)|(apply SY.load;exact tD;exact OpD.t rfl)):SY P ops hp ⟨dst,op,ty,ps,af,g⟩ fr d:=h
def KK (X:List Dat->List HObj->Prop):Type:={K:List Dat->List HObj->Prop // ∀ f p,X f p->Kont K f p}
end
theorem ZD6 {P:Program} {ops:Array Oper} {hp:List HObj} {o:Oper} {fr:List Dat} {d:Dat} (h:SY P ops hp o fr d:=by ((first|((first|apply SY.move) <;> (first|exact OpD.t rfl|exact OpD.i|exact OpD.b|exact OpD.x|exact OpD.f))|fail);all_goals infer_instance)):SY P ops hp o fr d:=h
theorem ZBy {P:Program} {ops:Array Oper} {hp:List HObj} {o:Oper} {fr:List Dat} {d:Dat} (h:SY P ops hp o fr d:=by ((first|((first|apply SY.lss) <;> (first|exact OpD.t rfl|exact OpD.i|exact OpD.b|exact OpD.x|exact OpD.f))|fail);all_goals infer_instance)):SY P ops hp o fr d:=h
theorem ZVi {P:Program} {ops:Array Oper} {hp:List HObj} {o:Oper} {fr:List Dat} {d:Dat} (h:SY P ops hp o fr d:=by ((first|((first|apply SY.leq) <;> (first|exact OpD.t rfl|exact OpD.i|exact OpD.b|exact OpD.x|exact OpD.f))|fail);all_goals infer_instance)):SY P ops hp o fr d:=h
theorem ZIh {P:Program} {ops:Array Oper} {hp:List HObj} {o:Oper} {fr:List Dat} {d:Dat} (h:SY P ops hp o fr d:=by ((first|((first|apply SY.gtr) <;> (first|exact OpD.t rfl|exact OpD.i|exact OpD.b|exact OpD.x|exact OpD.f))|fail);all_goals infer_instance)):SY P ops hp o fr d:=h
theorem ZS0 {P:Program} {ops:Array Oper} {hp:List HObj} {o:Oper} {fr:List Dat} {d:Dat} (h:SY P ops hp o fr d:=by ((first|((first|apply SY.geq) <;> (first|exact OpD.t rfl|exact OpD.i|exact OpD.b|exact OpD.x|exact OpD.f))|fail);all_goals infer_instance)):SY P ops hp o fr d:=h
theorem ZNA {P:Program} {ops:Array Oper} {hp:List HObj} {o:Oper} {fr:List Dat} {d:Dat} (h:SY P ops hp o fr d:=by ((first|((first|apply SY.eql) <;> (first|exact OpD.t rfl|exact OpD.i|exact OpD.b|exact OpD.x|exact OpD.f))|(first|(apply ZC7 vxT <;> (first|exact OpD.t rfl|exact OpD.i|exact OpD.b|exact OpD.x|exact OpD.f)))|(apply SY.eqlB;(first|exact OpD.t rfl|exact OpD.i|exact OpD.b|exact OpD.x|exact OpD.f);(first|exact OpD.t rfl|exact OpD.i|exact OpD.b|exact OpD.x|exact OpD.f);exact eqBB)|fail);all_goals infer_instance)):SY P ops hp o fr d:=h
theorem ZFc {P:Program} {ops:Array Oper} {hp:List HObj} {o:Oper} {fr:List Dat} {d:Dat} (h:SY P ops hp o fr d:=by ((first|((first|apply SY.neq) <;> (first|exact OpD.t rfl|exact OpD.i|exact OpD.b|exact OpD.x|exact OpD.f))|(first|(apply Zm vxT <;> (first|exact OpD.t rfl|exact OpD.i|exact OpD.b|exact OpD.x|exact OpD.f)))|(apply Zn;(first|exact OpD.t rfl|exact OpD.i|exact OpD.b|exact OpD.x|exact OpD.f);(first|exact OpD.t rfl|exact OpD.i|exact OpD.b|exact OpD.x|exact OpD.f);exact ZCF)|fail);all_goals infer_instance)):SY P ops hp o fr d:=h
theorem ZP5 {P:Program} {ops:Array Oper} {hp:List HObj} {o:Oper} {fr:List Dat} {d:Dat} (h:SY P ops hp o fr d:=by ((first|((first|apply SY.not) <;> (first|exact OpD.t rfl|exact OpD.i|exact OpD.b|exact OpD.x|exact OpD.f))|fail);all_goals infer_instance)):SY P ops hp o fr d:=h
theorem ZCk {P:Program} {ops:Array Oper} {hp:List HObj} {o:Oper} {fr:List Dat} {d:Dat} (h:SY P ops hp o fr d:=by ((first|((first|apply SY.add) <;> first|exact OpD.t rfl|exact OpD.i|exact OpD.b|exact OpD.x|exact OpD.f|omega)|fail);all_goals infer_instance)):SY P ops hp o fr d:=h
theorem ZNF {P:Program} {ops:Array Oper} {hp:List HObj} {o:Oper} {fr:List Dat} {d:Dat} (h:SY P ops hp o fr d:=by ((first|((first|apply SY.sub) <;> first|exact OpD.t rfl|exact OpD.i|exact OpD.b|exact OpD.x|exact OpD.f|omega)|fail);all_goals infer_instance)):SY P ops hp o fr d:=h
theorem yRem {P:Program} {ops:Array Oper} {hp:List HObj} {o:Oper} {fr:List Dat} {d:Dat} (h:SY P ops hp o fr d:=by ((first|((first|apply SY.rem) <;> first|exact OpD.t rfl|exact OpD.i|exact OpD.b|exact OpD.x|exact OpD.f|omega)|fail);all_goals infer_instance)):SY P ops hp o fr d:=h
theorem ZFO {P:Program} {ops:Array Oper} {hp:List HObj} {o:Oper} {fr:List Dat} {d:Dat} (h:SY P ops hp o fr d:=by ((first|(apply SY.load;(first|exact tyV|exact ZG3|exact tyI|exact tyE|exact ZIn|exact tyC|exact tyF|exact tyFL|exact tyCo|exact tyCos|exact tyQ0|exact tyQ1|exact tyQ2|exact tyQ3|exact tyQ4|exact tyQ5);(first|exact OpD.t rfl|exact OpD.i|exact OpD.b|exact OpD.x|exact OpD.f))|fail);all_goals infer_instance)):SY P ops hp o fr d:=h
theorem ZBq {P:Program} {ops:Array Oper} {hp:List HObj} {o:Oper} {fr:List Dat} {d:Dat} (h:SY P ops hp o fr d:=by ((first|(apply SY.len;(first|exact OpD.t rfl|exact OpD.i|exact OpD.b|exact OpD.x|exact OpD.f);(first|exact ZMw|exact ZKr|exact ZOu);(first|exact elV.unt|exact ZDz.unt|exact elI.unt|exact elE.unt|exact elCo.unt|exact elC.unt|exact elQ0.unt|exact elQ1.unt))|(apply ZV;exact OpD.t rfl;(first|exact .head _|exact .tail _ (.head _));(first|exact elV.unt|exact ZDz.unt|exact elI.unt|exact elE.unt|exact elCo.unt|exact elC.unt|exact elQ0.unt|exact elQ1.unt))|(apply Zf;exact OpD.t rfl;(first|exact .head _|exact .tail _ (.head _));(first|exact elV.unt|exact ZDz.unt|exact elI.unt|exact elE.unt|exact elCo.unt|exact elC.unt|exact elQ0.unt|exact elQ1.unt))|fail);all_goals infer_instance)):SY P ops hp o fr d:=h
theorem Zg {P:Program} {ops:Array Oper} {hp:List HObj} {o:Oper} {fr:List Dat} {d:Dat} (h:SY P ops hp o fr d:=by ((first|(apply Zi;(first|exact elV|exact ZDz|exact elI|exact elE|exact elCo|exact elC|exact elQ0|exact elQ1);(first|exact OpD.t rfl|exact OpD.i|exact OpD.b|exact OpD.x|exact OpD.f);(first|exact OpD.t rfl|exact OpD.i|exact OpD.b|exact OpD.x|exact OpD.f);(first|assumption|omega))|(apply SY.ix;(first|exact elV|exact ZDz|exact elI|exact elE|exact elCo|exact elC|exact elQ0|exact elQ1);(first|exact OpD.t rfl|exact OpD.i|exact OpD.b|exact OpD.x|exact OpD.f);(first|exact OpD.t rfl|exact OpD.i|exact OpD.b|exact OpD.x|exact OpD.f);(first|assumption|omega))|fail);all_goals infer_instance)):SY P ops hp o fr d:=h
theorem Z8 {P:Program} {ops:Array Oper} {hp:List HObj} {o:Oper} {fr:List Dat} {d:Dat} (h:SY P ops hp o fr d:=by ((first|(first|(apply SY.fld0 vxT <;> (first|exact OpD.t rfl|exact OpD.i|exact OpD.b|exact OpD.x|exact OpD.f))|(apply SY.fld1 vxT <;> (first|exact OpD.t rfl|exact OpD.i|exact OpD.b|exact OpD.x|exact OpD.f)))|(apply Zb ZAA;exact OpD.t rfl)|fail);all_goals infer_instance)):SY P ops hp o fr d:=h
theorem ZP4 {P:Program} {ops:Array Oper} {hp:List HObj} {o:Oper} {fr:List Dat} {d:Dat} (h:SY P ops hp o fr d:=by ((first|(first|(apply SY.mkV0 vxT <;> (first|exact OpD.t rfl|exact OpD.i|exact OpD.b|exact OpD.x|exact OpD.f))|(apply SY.mkV1 vxT <;> (first|exact OpD.t rfl|exact OpD.i|exact OpD.b|exact OpD.x|exact OpD.f))|(apply ZAo vxT <;> (first|exact OpD.t rfl|exact OpD.i|exact OpD.b|exact OpD.x|exact OpD.f)))|exact ZAX ZAA|(apply ZAv ZAA;exact OpD.t rfl)|fail);all_goals infer_instance)):SY P ops hp o fr d:=h
theorem ZBj {P:Program} {ops:Array Oper} {hp:List HObj} {o:Oper} {fr:List Dat} {d:Dat} (h:SY P ops hp o fr d:=by ((first|(apply SY.buildE;(first|exact elV|exact ZDz|exact elI|exact elE|exact elCo|exact elC|exact elQ0|exact elQ1);((try simp only [List.map_cons,List.map_nil]);(repeat (first|exact ZR|(apply ZQ;(first|exact OpD.t rfl|exact OpD.i|exact OpD.b|exact OpD.tle rfl (by first|exact ZD|exact ZB (by decide))|exact ⟨ZD⟩|exact ⟨ZB (by decide)⟩)))));rfl;rfl;decide;(intro _;exact Zo);(exact (by simp)))|(apply SY.build1';(first|exact elV|exact ZDz|exact elI|exact elE|exact elCo|exact elC|exact elQ0|exact elQ1);((try simp only [List.map_cons,List.map_nil]);(repeat (first|exact ZR|(apply ZQ;(first|exact OpD.t rfl|exact OpD.i|exact OpD.b|exact OpD.tle rfl (by first|exact ZD|exact ZB (by decide))|exact ⟨ZD⟩|exact ⟨ZB (by decide)⟩)))));rfl;rfl;(intro _;first|exact Zq|exact Zv|exact Zt|exact shape_B);(exact (by simp)))|fail);all_goals infer_instance)):SY P ops hp o fr d:=h
theorem ZFP {P:Program} {ops:Array Oper} {hp:List HObj} {o:Oper} {fr:List Dat} {d:Dat} (h:SY P ops hp o fr d:=by ((first|(apply Zx;(first|exact OpD.t rfl|exact OpD.i|exact OpD.b|exact OpD.x|exact OpD.f);(with_reducible rfl);(first|exact OpD.t rfl|exact OpD.i|exact OpD.b|exact OpD.x|exact OpD.f))|(apply Z2;(first|exact OpD.t rfl|exact OpD.i|exact OpD.b|exact OpD.x|exact OpD.f);(with_reducible rfl);(first|exact OpD.t rfl|exact OpD.i|exact OpD.b|exact OpD.x|exact OpD.f))|fail);all_goals infer_instance)):SY P ops hp o fr d:=h
theorem ZDl {P:Program} {ops:Array Oper} {hp:List HObj} {o:Oper} {fr:List Dat} {d:Dat} (h:SY P ops hp o fr d:=by ((first|(apply SY.extract;(first|exact OpD.t rfl|exact OpD.i|exact OpD.b|exact OpD.x|exact OpD.f);rfl)|fail);all_goals infer_instance)):SY P ops hp o fr d:=h
theorem ZG4 {P:Program} {ops:Array Oper} {hp:List HObj} {o:Oper} {fr:List Dat} {d:Dat} (h:SY P ops hp o fr d:=by ((first|(apply SY.box;(first|exact OpD.t rfl|exact OpD.i|exact OpD.b|exact OpD.x|exact OpD.f);(first|exact Zo|exact Zv|exact shape_B|exact Zt|exact Zq|exact ZPf|exact ZBM|exact ZX rfl|exact shape_P|exact ZN rfl))|fail);all_goals infer_instance)):SY P ops hp o fr d:=h
end
section
open Go.RowKit

section
variable {P:Program} {ops:Array Oper} {hp:List HObj} {o:Oper} {fr:List Dat} {d:Dat} {Q:ZAW} {rest:List Oper}
variable {dst:Option Tmp} {ty:TypeId} {ps:String} {af:Array Edge} {g:Option (Nat × Bool)}

theorem WL.alloc {T:TypeId} {n:Nat} {agg:Bool} {z:Value} (hz:TyZ P T z) (hs:(dX z).Shape n agg)
  (h:∀ b,WL P ops Q rest (ZA fr dst (dX (.pointer (some ⟨b,0,none⟩)))) (Zh b T n agg (dX z)::hp)):WL P ops Q (⟨dst,.alloc T,ty,ps,af,none⟩::rest) fr hp:=by
 refine WL.of fun P0 B w0 w a hh hf=>?_
 obtain ⟨cs,k1,k0,k2,k3,k4⟩:=hs (fun _=>True) w z rfl
 have hrun:(execOp a.eval ⟨dst,.alloc T,ty,ps,af,none⟩).run P w = .ok (.value (.pointer (some ⟨w.heap.size,0,none⟩))) (w.alloc (.cells cs.toArray T)):=by
  cases hq:P.info? T with
  | none=>have:=hz.out;simp [hq] at this
  | some i =>
   have hz':i.zero=some z:=by have:=hz.out;simpa [hq] using this
   unfold execOp
   simp [Instr.alloc,zeroValue,typeInfo,hq,hz',newVar,newRow,k3]
 refine Zu rfl hrun ?_
 have hx:=Ext.of_alloc w (.cells cs.toArray T)
 have hb:∀ k,(Zh w.heap.size T n agg (dX z)).blk=some k->w.heap.size≤k/\k<(w.alloc (.cells cs.toArray T)).heap.size:=fun k hk=>by
  cases hk
  exact ⟨Nat.le_refl _,by simp⟩
 refine (h w.heap.size).on (hh.push hx hb ⟨cs,z,Z0 w _,k1,k0,k2,k4,rfl⟩) ?_
 exact Fr.put (hf.mono fun d _ hd=>Z6 hx (fun k hk=>(hb k hk).1) hd) rfl

theorem ZB1 {T T2:TypeId} {n:Nat} {w:World} {b:Nat} {cs cs':List Value} {u:Value} (hT:(P.info? T).map (·.size)=some n) (hg:w.heap[b]?=some (.cells cs.toArray T2)) (h1:cs.length=n) (h2:cs'.length=n) (h3:∀ c∈cs',c.oneCell'=true) (hu:u.cells=cs'.toArray) :
  (Instr.storeAt T (.pointer (some ⟨b,0,none⟩)) u).run P w = .ok () (w.setRow b cs'.toArray):=by
 have h:=run_storeVar_row (P:=P) w b T2 T cs.toArray cs'.toArray hg (by simpa [h2] using hT) (by simp [h1,h2]) (by
  rw [Array.all_eq_true_iff_forall_mem]
  intro v hv
  exact h3 v (by simpa using hv))
 have e:storeVar T ⟨b,0,none⟩ u=storeVar T ⟨b,0,none⟩ (.agg cs'.toArray):=by
  unfold storeVar
  rw [hu]
  rfl
 simp [Instr.storeAt,Instr.sureAddr,e,h]
theorem ZAM {w:World} {b:Nat} {cs:Array Value}:w.grownBy (w.setRow b cs) (some b):=by
 refine ⟨rfl,rfl,rfl,by simp [World.setRow],fun k hk hne=>?_⟩
 simp only [World.setRow,Array.getElem?_modify]
 rw [if_neg (fun e=>hne (by rw [e]))]

theorem ZAK {x:Operand} {t b n:Nat} {T T2:TypeId} {agg:Bool} {d0:Dat} (hT:TyI P T n agg) (hp0:OpD fr (.tmp t) (dX (.pointer (some ⟨b,0,none⟩)))) (hx:OpD fr x d) (hs:d.Shape n agg)
  (h:WL P ops Q rest (ZA fr dst (dX undef)) (Zh b T2 n agg d::hp)):WL P ops Q (⟨dst,.store T (.tmp t) x,ty,ps,af,none⟩::rest) fr (Zh b T2 n agg d0::hp):=by
 refine WL.of fun P0 B w0 w a hh hf=>?_
 obtain ⟨cs,u,c1,c2,c0,c3,c4,c5⟩:=hh.ok (Zh b T2 n agg d0) (by simp)
 have h1:=hx.ev hf
 obtain ⟨cs',k1,k0,k2,k3,k4⟩:=hs _ _ _ h1
 have h2:a.eval (.tmp t) = .pointer (some ⟨b,0,none⟩):=hp0.ev hf
 have hr:=ZB1 (u:=a.eval x) hT.size c1 c2 k1 k2 k3
 have hrun:(execOp a.eval ⟨dst,.store T (.tmp t) x,ty,ps,af,none⟩).run P w = .ok .skip (w.setRow b cs'.toArray):=by
  unfold execOp
  simp only [h2,Sem.run_bind,hr,Result.andThen_ok,Sem.run_pure]
 refine wpList_plain rfl fun K hK=>?_
 unfold Oper.wp
 rw [hrun]
 have hgr:w.grownBy (w.setRow b cs'.toArray) (Zh b T2 n agg d0).blk:=ZAM
 have hok:(Zh b T2 n agg d).ok (fun k=>Imm P0 B (Zh b T2 n agg d0::hp) k/\k<w.heap.size) (w.setRow b cs'.toArray) :=
  ⟨cs',a.eval x,setRow_heap w b _ _ _ _ c1,k1,k0,k2,k4,d.grown (d.bound h1) hgr (fun k hk hc=>hc.1.2 _ (by simp) hk)⟩
 exact hK _ _ (h.on (hh.write hgr (.inl rfl) hok) (Fr.put (hf.mono fun _ _ hd=>ZY (o':=Zh b T2 n agg d) hgr (.inl rfl) hd) (d:=dX undef) rfl))
theorem ZF7 {t b n:Nat} {T:TypeId} {agg:Bool} (hp0:fr[t]?=some (dX (.pointer (some ⟨b,0,none⟩)))) (h:WL P ops Q rest (fr.set t (dP n agg d)) hp):WL P ops Q rest fr (Zh b T n agg d::hp):=by
 refine WL.of fun P0 B w0 w a hh hf=>?_
 obtain ⟨cs,u,c1,c2,c0,c3,c4,c5⟩:=hh.ok (Zh b T n agg d) (by simp)
 have hown:=hh.own (Zh b T n agg d) (by simp) b rfl
 refine h.on hh.drop ⟨hf.defers,by rw [hf.size,List.length_set],fun t' d' hd'=>?_⟩
 by_cases htt:t=t'
 ·subst htt
  rw [List.getElem?_set] at hd'
  simp only [if_true] at hd'
  split at hd'
  ·cases hd'
   have hv:a.tmps.getD t undef = .pointer (some ⟨b,0,none⟩):=hf.rd t _ hp0
   rw [hv]
   refine ⟨b,0,u,rfl,ZAp c1 c2 c0 c3 c4 ⟨.inr hown.1,fun o' ho' hk=>?_⟩,d.weak c5 Imm.sub⟩
   exact (List.pairwise_cons.1 hh.apart).1 o' ho' b rfl hk
  ·cases hd'
 ·rw [List.getElem?_set_ne htt] at hd'
  exact d'.weak (hf.rd t' d' hd') Imm.sub
theorem ZG {x:Operand} {t b n:Nat} {T T2:TypeId} {agg:Bool} {d0:Dat} (hT:TyI P T n agg) (hp0:fr[t]?=some (dX (.pointer (some ⟨b,0,none⟩)))) (hx:OpD fr x d) (hs:d.Shape n agg)
  (h:WL P ops Q rest (fr.set t (dP n agg d)) hp):WL P ops Q (⟨none,.store T (.tmp t) x,ty,ps,af,none⟩::rest) fr (Zh b T2 n agg d0::hp) :=
 ZAK hT (OpD.t hp0) hx hs (ZF7 hp0 h)
theorem ZT {x:Operand} {t b n:Nat} {T T2:TypeId} {agg:Bool} {d0:Dat} {o1:HObj} (hT:TyI P T n agg) (hp0:fr[t]?=some (dX (.pointer (some ⟨b,0,none⟩)))) (hx:OpD fr x d) (hs:d.Shape n agg)
  (h:WL P ops Q rest (fr.set t (dP n agg d)) (o1::hp)):WL P ops Q (⟨none,.store T (.tmp t) x,ty,ps,af,none⟩::rest) fr (o1::Zh b T2 n agg d0::hp) :=
 WL.perm (List.Perm.swap _ _ _) (ZG hT hp0 hx hs h)
theorem ZU {x:Operand} {t b n:Nat} {T T2:TypeId} {agg:Bool} {d0:Dat} {o1 o2:HObj} (hT:TyI P T n agg) (hp0:fr[t]?=some (dX (.pointer (some ⟨b,0,none⟩)))) (hx:OpD fr x d) (hs:d.Shape n agg)
  (h:WL P ops Q rest (fr.set t (dP n agg d)) (o1::o2::hp)):WL P ops Q (⟨none,.store T (.tmp t) x,ty,ps,af,none⟩::rest) fr (o1::o2::Zh b T2 n agg d0::hp) :=
 WL.perm ((List.Perm.swap _ _ _).cons _ |>.trans (List.Perm.swap _ _ _)) (ZG hT hp0 hx hs h)

theorem ZOl (off:Nat):∀ (cs t1:List Value) (j:Nat) (pre t2:List Value),cs.length=t1.length->pre.length=off+j ->
  (cs.zipIdx j).foldl (fun (A:Array Value) (p:Value × Nat)=>A.setIfInBounds (off+p.2) p.1) (pre++t1++t2).toArray=(pre++cs++t2).toArray
 | [],t1,j,pre,t2,h,_=>by
  have:t1=[]:=List.eq_nil_of_length_eq_zero (by simpa using h.symm)
  subst this;simp
 | c::cs,[],j,pre,t2,h,_=>by simp at h
 | c::cs,x::t1,j,pre,t2,h,hp=>by
  rw [List.zipIdx_cons,List.foldl_cons]
  have e:(pre++x::t1++t2).toArray.setIfInBounds (off+j) c=((pre++[c])++t1++t2).toArray:=by
   rw [<- hp]
   simp
  simp only [e]
  rw [ZOl off cs t1 (j+1) (pre++[c]) t2 (by simpa using h) (by simp [hp];omega)]
  simp
theorem ZLq (n:Nat):∀ (css:List (List Value)) (us:List Value) (k:Nat) (pre tail:List Value),us.length=css.length->(∀ (i:Nat) (u:Value) (cs:List Value),us[i]?=some u->css[i]?=some cs->u.cells=cs.toArray/\cs.length=n)->pre.length=k*n->tail.length=css.length*n ->
  Instr.fill (fun i=>some (i*n,n)) (pre++tail).toArray ((us.zipIdx k).map fun p=>(p.2,p.1))=some (pre++css.flatten).toArray
 | [],us,k,pre,tail,h,_,_,ht=>by
  have h1:us=[]:=List.eq_nil_of_length_eq_zero (by simpa using h)
  have h2:tail=[]:=List.eq_nil_of_length_eq_zero (by simpa using ht)
  subst h1;subst h2
  simp [Instr.fill]
 | cs::css,[],k,pre,tail,h,_,_,_=>by simp at h
 | cs::css,u::us,k,pre,tail,h,hc,hp,ht=>by
  obtain ⟨h1,h2⟩:=hc 0 u cs rfl rfl
  have ht':tail.length=n+css.length*n:=by rw [ht];simp [Nat.add_mul];omega
  have e:tail=tail.take n++tail.drop n:=(List.take_append_drop n tail).symm
  rw [List.zipIdx_cons,List.map_cons]
  unfold Instr.fill
  have hs:u.cells.size=n:=by rw [h1];simpa using h2
  simp only
  rw [if_neg (by simp [hs,hp,ht'])]
  have hf:=ZOl (k*n) cs (tail.take n) 0 pre (tail.drop n) (by rw [List.length_take];omega) (by omega)
  rw [List.append_assoc,<- e] at hf
  have hz:u.cells.zipIdx.foldl (fun (A:Array Value) (x:Value × Nat)=>A.setIfInBounds (k*n+x.2) x.1) (pre++tail).toArray=(pre++cs++tail.drop n).toArray:=by
   rw [h1,<- hf]
   simp
  have hz':(u.cells.zipIdx.foldl (fun (cs:Array Value) x=>match x with|(c,j)=>cs.setIfInBounds (k*n+j) c) (pre++tail).toArray)=(pre++cs++tail.drop n).toArray:=hz
  rw [hz']
  rw [ZLq n css us (k+1) (pre++cs) (tail.drop n) (by simpa using h) (fun i v c hv hcs=>hc (i+1) v c (by simpa using hv) (by simpa using hcs)) (by simp [hp,h2,Nat.add_mul]) (by rw [List.length_drop];omega)]
  simp
theorem ZBP {t e:TypeId} {n bytes:Nat} {z:Value} {ag:Bool} (E:ElT P t e n z bytes ag) {us:List Value} {css:List (List Value)} (hl:us.length=css.length) (hc:∀ (i:Nat) (u:Value) (cs:List Value),us[i]?=some u->css[i]?=some cs->u.cells=cs.toArray/\cs.length=n) (hsm:us.length*n≤16777216) {w:World} :
  (Instr.buildSlice t us.length ((us.zipIdx.map fun p=>(p.2,p.1)).toArray)).run P w = .ok (.slice (some ⟨w.heap.size,0,none⟩) us.length us.length) (w.alloc (.cells css.flatten.toArray e)):=by
 obtain ⟨i,hi,hz,hs,hb⟩:=info_parts E.info
 have key:∀ A:Array Value,A.size=us.length*n->Instr.fill (fun i=>some (i*n,n)) A (us.zipIdx.map fun p=>(p.2,p.1))=some css.flatten.toArray:=fun A hA=>by
  have:=ZLq n css us 0 [] A.toList hl hc (by simp) (by simpa [hl] using hA)
  simpa using this
 by_cases h0:us.length*n=0
 ·simp [Instr.buildSlice,run_underlying E.und,sizeOf,typeInfo,hi,hs,newRow,h0]
  rw [key _ (by simp [h0])]
  simp
 ·have hns:¬ (16777216<us.length*n):=by omega
  simp [Instr.buildSlice,run_underlying E.und,sizeOf,typeInfo,hi,hs,zeroValue,hz,newRow,h0,hns]
  rw [key _ (by simp)]
  simp

theorem ZGR {css:List (List Value)} {n:Nat} (h:∀ cs∈css,cs.length=n):css.flatten.length=css.length*n:=by
 induction css with
 | nil=>simp
 | cons c css ih =>
  simp only [List.flatten_cons,List.length_append,List.length_cons]
  rw [ih (fun x hx=>h x (by simp [hx])),h c (by simp),Nat.add_mul]
  omega
inductive ElsD {α:Type} (fr:List Dat) (R:Rel α) [Good R]:List Operand->List α->Prop
 | nil:ElsD fr R [] []
 | cons {x:Operand} {xs:List Operand} {a:α} {as1:List α}:OpD fr x (dS R a)->ElsD fr R xs as1->ElsD fr R (x::xs) (a::as1)
theorem ElsD.out {α:Type} {R:Rel α} [Good R] {xs:List Operand} {as1:List α} (h:ElsD fr R xs as1):xs.length=as1.length/\∀ (i:Nat) (x:Operand) (b:α),xs[i]?=some x->as1[i]?=some b->OpD fr x (dS R b):=by
 induction h with
 | nil=>exact ⟨rfl,fun i x b h=>by simp at h⟩
 | cons h _ ih =>
  refine ⟨by simp [ih.1],fun i x b hx hb=>?_⟩
  cases i with
  | zero=>simp at hx hb;subst hx;subst hb;exact h
  | succ i=>exact ih.2 i x b (by simpa using hx) (by simpa using hb)
theorem ZCX {t e:TypeId} {n bytes:Nat} {z:Value} {ag:Bool} (E:ElT P t e n z bytes ag) {agg:Bool} {α:Type} {R:Rel α} [Good R] {len:Nat} {parts:Array (Nat × Operand)} {xs:List Operand} {as1:List α} (hx:ElsD fr R xs as1) (hl:len=as1.length) (hparts:parts.toList=(xs.zipIdx).map (fun p=>(p.2,p.1))) (hs:∀ a,(dS R a).Shape n agg) (hsm:as1.length*n≤16777216)
  {P0:Nat->Prop} {B:Nat} {w0 w:World} {a:Act} (_hh:Hp P0 B w0 hp w) (ho:On ((⟨dst,.buildSlice t len parts,ty,ps,af,g⟩:Oper).looksAt ops) (Imm P0 B hp) w a fr) :
  ∃ css:List (List Value),(execOp a.eval ⟨dst,.buildSlice t len parts,ty,ps,af,g⟩).run P w = .ok (.value (.slice (some ⟨w.heap.size,0,none⟩) as1.length as1.length)) (w.alloc (.cells css.flatten.toArray e))/\css.length=as1.length/\(∀ cs∈css,cs.length=n/\∀ c∈cs,c.oneCell'=true) /\
   ∀ (k:Nat) (cs:List Value) (b:α),css[k]?=some cs->as1[k]?=some b->∃ u,(if agg then u = .agg cs.toArray else cs=[u])/\R (Imm P0 B hp) w u b:=by
 obtain ⟨hlen,hget⟩:=hx.out
 have hmem:∀ x∈xs,x∈(Op.buildSlice t len parts).operands.toList:=fun x hxm=>by
  simp only [Op.operands,hparts,List.map_map]
  have:(Prod.snd ∘ fun p:Operand × Nat=>(p.2,p.1))=Prod.fst:=rfl
  rw [this,List.zipIdx_map_fst]
  simpa using hxm
 have hch:∀ k:Nat,∃ cs:List Value,∀ (x:Operand) (b:α),xs[k]?=some x->as1[k]?=some b->cs.length=n/\(∀ c∈cs,c.oneCell'=true)/\(a.eval x).cells=cs.toArray/\(if agg then a.eval x = .agg cs.toArray else cs=[a.eval x])/\R (Imm P0 B hp) w (a.eval x) b:=fun k=>by
  by_cases hk:k<xs.length
  ·have hk':k<as1.length:=by omega
   have hr:=(hget k xs[k] as1[k] (List.getElem?_eq_getElem hk) (List.getElem?_eq_getElem hk')).get (hmem _ (List.getElem_mem hk)) ho
   obtain ⟨cs,k1,k0,k2,k3,k4⟩:=hs as1[k] _ _ _ hr
   refine ⟨cs,fun x b hx hb=>?_⟩
   rw [List.getElem?_eq_getElem hk] at hx
   rw [List.getElem?_eq_getElem hk'] at hb
   cases hx;cases hb
   exact ⟨k1,k2,k3,k4,hr⟩
  ·exact ⟨[],fun x b hx=>by rw [List.getElem?_eq_none (by omega)] at hx;cases hx⟩
 obtain ⟨f,hf⟩:=Classical.axiomOfChoice hch
 have hfk:∀ k:Nat,k<xs.length->(f k).length=n/\(∀ c∈f k,c.oneCell'=true)/\(a.eval (xs.getD k default)).cells=(f k).toArray:=fun k hk=>by
  have hk':k<as1.length:=by omega
  obtain ⟨q1,q2,q3,_⟩:=hf k xs[k] as1[k] (List.getElem?_eq_getElem hk) (List.getElem?_eq_getElem hk')
  exact ⟨q1,q2,by simpa [List.getD,hk] using q3⟩
 refine ⟨(List.range xs.length).map f,?_,by simp [hlen],?_,?_⟩
 ·have:=ZBP (w:=w) E (us:=xs.map a.eval) (css:=(List.range xs.length).map f) (by simp) (fun i u cs hu hcs=>by
   have hi:i<xs.length:=by
    have:=(List.getElem?_eq_some_iff.1 hu).1
    simpa using this
   rw [List.getElem?_map,List.getElem?_eq_getElem hi] at hu
   rw [List.getElem?_map,List.getElem?_range hi] at hcs
   cases hu;cases hcs
   have:=hfk i hi
   exact ⟨by simpa [List.getD,hi] using this.2.2,this.1⟩) (by simpa [hlen] using hsm)
  have hp2:(parts.map fun p=>(p.1,a.eval p.2))=(((xs.map a.eval).zipIdx).map fun p=>(p.2,p.1)).toArray:=by
   apply Array.ext'
   rw [Array.toList_map,hparts,List.zipIdx_map]
   simp [Function.comp_def]
  unfold execOp
  simp only
  have hp3:(parts.map fun x=>match x with|(i,x)=>(i,a.eval x))=(((xs.map a.eval).zipIdx).map fun p=>(p.2,p.1)).toArray:=hp2
  rw [hp3]
  subst hl
  have hl2:(xs.map a.eval).length=as1.length:=by simp [hlen]
  rw [hl2] at this
  simp only [Sem.run_bind,this,Result.andThen_ok,Sem.run_pure]
 ·intro cs hcs
  simp only [List.mem_map,List.mem_range] at hcs
  obtain ⟨k,hk,rfl⟩:=hcs
  exact ⟨(hfk k hk).1,(hfk k hk).2.1⟩
 ·intro k cs b hcs hb
  have hk':k<as1.length:=(List.getElem?_eq_some_iff.1 hb).1
  have hk:k<xs.length:=by omega
  rw [List.getElem?_map,List.getElem?_range hk] at hcs
  cases hcs
  obtain ⟨q1,q2,q3,q4,q5⟩:=hf k xs[k] b (List.getElem?_eq_getElem hk) hb
  exact ⟨_,q4,q5⟩
theorem SY.buildK {t e:TypeId} {n bytes:Nat} {z:Value} {ag:Bool} (E:ElT P t e n z bytes ag) {α:Type} {R:Rel α} [Good R] {len:Nat} {parts:Array (Nat × Operand)} {xs:List Operand} {as1:List α} (hx:ElsD fr R xs as1) (hparts:parts.toList=(xs.zipIdx).map (fun p=>(p.2,p.1))) (hl:len=as1.length) (hn:0<n) (hs:∀ a,(dS R a).Shape n true) (hsm:as1.length*n≤16777216) :
  SY P ops hp ⟨dst,.buildSlice t len parts,ty,ps,af,g⟩ fr (dS (ArrK n R) as1):=ZAf fun {P0 B w0 w a} hh ho=>by
 obtain ⟨css,hr,hcl,hcn,hel⟩:=ZCX E hx hl hparts hs hsm hh ho
 refine ⟨_,_,hr,Ext.of_alloc _ _,some ⟨w.heap.size,0,none⟩,as1.length,rfl,Nat.le_refl _,by simp only [maxLen];have:as1.length*1≤as1.length*n:=Nat.mul_le_mul_left _ hn;omega,hn,fun k hk=>?_⟩
 have hkc:k<css.length:=by omega
 obtain ⟨u,hu,hR⟩:=hel k css[k] as1[k] (List.getElem?_eq_getElem hkc) (List.getElem?_eq_getElem hk)
 simp only [if_true] at hu
 subst hu
 have hm:=hcn css[k] (List.getElem_mem hkc)
 refine ⟨css[k],w.heap.size,0,Good.ext (R:=R) hR (Ext.of_alloc _ _),hm.1,hm.2,rfl,hh.fresh (Nat.le_refl _),fun j c hc=>?_⟩
 rw [cell_of_row _ _ _ _ _ _ (Z0 w _),Nat.zero_add]
 simpa using ZAV (fun u hu=>(hcn u hu).1) hkc hc
theorem SY.build1 {t e:TypeId} {bytes:Nat} {z:Value} {ag:Bool} (E:ElT P t e 1 z bytes ag) {α:Type} {R:Rel α} [Good R] {len:Nat} {parts:Array (Nat × Operand)} {xs:List Operand} {as1:List α} (hx:ElsD fr R xs as1) (hparts:parts.toList=(xs.zipIdx).map (fun p=>(p.2,p.1))) (hl:len=as1.length) (hs:∀ a,(dS R a).Shape 1 false) (hsm:as1.length*1≤16777216) :
  SY P ops hp ⟨dst,.buildSlice t len parts,ty,ps,af,g⟩ fr (dS (Arr R) as1):=ZAf fun {P0 B w0 w a} hh ho=>by
 obtain ⟨css,hr,hcl,hcn,hel⟩:=ZCX E hx hl hparts hs hsm hh ho
 refine ⟨_,_,hr,Ext.of_alloc _ _,some ⟨w.heap.size,0,none⟩,as1.length,rfl,Nat.le_refl _,by simp only [maxLen];omega,fun k hk=>?_⟩
 have hkc:k<css.length:=by omega
 obtain ⟨u,hu,hR⟩:=hel k css[k] as1[k] (List.getElem?_eq_getElem hkc) (List.getElem?_eq_getElem hk)
 simp only [Bool.false_eq_true,if_false] at hu
 have hm:=hcn css[k] (List.getElem_mem hkc)
 have h1:u.oneCell'=true:=hm.2 u (by rw [hu];simp)
 refine ⟨u,w.heap.size,0,Good.ext (R:=R) hR (Ext.of_alloc _ _),h1,rfl,hh.fresh (Nat.le_refl _),?_⟩
 rw [cell_of_row _ _ _ _ _ _ (Z0 w _),Nat.zero_add]
 have:=ZAV (k:=k) (j:=0) (c:=u) (fun u hu=>(hcn u hu).1) hkc (by rw [hu];rfl)
 simpa using this

def dFn (P:Program) {α:Type} (A:α->List Dat) (r:α->Dat):Dat where
 rd:=fun I w v=>∃ f cap,v = .func (.func f) #[] cap/\∀ w',(∀ k,I k->k<w.heap.size->w'.heap[k]?=w.heap[k]?)->∀ (x:α) (I':Nat->Prop) (vs:List Value),vs.length=(A x).length->(∀ (i:Nat) (d:Dat),(A x)[i]?=some d->d.rd I' w' (vs.getD i undef)) ->
  Calls P f (vs.toArray++cap) w' fun e w''=>∃ u,e = .returned u/\Ext w' w''/\(r x).rd (fun b=>I' b\/w'.heap.size≤b) w'' u
 weak:=fun ⟨f,cap,h1,h2⟩ q=>⟨f,cap,h1,fun w' hw'=>h2 w' fun k hk=>hw' k (q k hk)⟩
 move:=fun {P w w2 v} ⟨f,cap,h1,h2⟩ q=>⟨f,cap,h1,fun w' hw'=>h2 w' fun k hk hlt=>by
  have h3:=q k hk hlt
  have hlt2:k<w2.heap.size:=by
   have:(w2.heap[k]?).isSome=true:=by rw [h3];simp [hlt]
   exact (Array.getElem?_eq_some_iff.1 (Option.isSome_iff_exists.1 this).choose_spec).1
  exact (hw' k hk hlt2).trans h3⟩
 bound:=fun ⟨f,cap,h1,h2⟩=>⟨f,cap,h1,fun w' hw'=>h2 w' fun k hk hlt=>hw' k ⟨hk,hlt⟩ hlt⟩
theorem SY.makeFunc {f:FuncId} {caps:Array Operand} {cs:List Dat} {α:Type} {A:α->List Dat} {r:α->Dat} (h:∀ x,Fn P f (A x++cs) (r x)) (hr:∀ x,(r x).Bare) (ha:ArgsD fr caps.toList cs) :
  SY P ops hp ⟨dst,.makeFunc (.func f) #[] caps,ty,ps,af,g⟩ fr (dFn P A r):=SY.val fun {I w a} ho=>by
 refine ⟨.func (.func f) #[] (caps.map a.eval),by unfold execOp;simp [Instr.makeFunc],f,_,rfl,fun w' hw' x I' vs hl hv=>?_⟩
 have hcap:∀ (i:Nat) (d:Dat),cs[i]?=some d->d.rd I w' ((caps.toList.map a.eval).getD i undef):=fun i d hd=>by
  have hi:i<caps.toList.length:=by rw [ha.1];exact (List.getElem?_eq_some_iff.1 hd).1
  have h2:=ha.2 i _ d (List.getElem?_eq_getElem hi) hd
  have:=h2.get (by simp only [Op.operands];simp) ho
  have hi':i<caps.size:=by simpa using hi
  have:=d.move this hw'
  simpa [List.getD,hi'] using this
 have:=(h x).out (fun b=>I' b\/I b) w' (vs++caps.toList.map a.eval) (by have:=ha.1;simp at this;simp [hl,this]) fun i d hd=>by
  by_cases hi:i<(A x).length
  ·rw [List.getElem?_append_left hi] at hd
   have:=hv i d hd
   have hi2:i<vs.length:=by omega
   rw [List.getD_eq_getElem?_getD,List.getElem?_append_left hi2,<- List.getD_eq_getElem?_getD]
   exact d.weak this fun _=>.inl
  ·rw [List.getElem?_append_right (by omega)] at hd
   have:=hcap _ d hd
   rw [List.getD_eq_getElem?_getD,List.getElem?_append_right (by omega),<- List.getD_eq_getElem?_getD,hl]
   exact d.weak this fun _=>.inr
 have he:(vs++caps.toList.map a.eval).toArray=vs.toArray++caps.map a.eval:=by apply Array.ext';simp
 rw [he] at this
 exact this.mono fun e w'' ⟨u,h1,h2,h3⟩=>⟨u,h1,h2,hr x _ _ _ _ _ h3⟩
end

end
end Go.Proofs.YtekiljakcngcoaaGreatDoor
