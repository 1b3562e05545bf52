/- Part 18: walks by contracts, and plain laws. -/
import Derived.Test.YtokmalofdapffaaGreatV17
set_option linter.unusedVariables false
set_option linter.unusedSimpArgs false
set_option linter.unusedSectionVars false
set_option maxRecDepth 100000
set_option maxHeartbeats 4000000
namespace Go.Proofs.YtokmalofdapffaaGreat
section
open Go.RowKit

theorem ZLG {P:Program} {f:FuncId} {ds:List Dat} {hp1:List HObj} {e:TypeId} {α:Type} {R:Rel α} {_gR:Good R} {xs:List α} (h:CallC P f ds hp1 fun d' hp2=>∃ v,d'=dX v/\(hp2=[Zh v e R xs]\/v = .slice none 0 0/\xs=[]/\hp2=[])):CallC P f ds hp1 fun d' hp2=>∃ v,d'=dX v/\hp2=[Zh v e R xs]:=⟨fun P0 B w0 hp vs W hh hl hv=>by
 refine Calls.mono (h.out P0 B w0 hp vs W hh hl hv) fun e' W' ⟨v,d,hp2,he,hk,hh2,hd⟩=>?_
 obtain ⟨u,hdu,hk⟩:=hk
 rcases hk with rfl|⟨rfl,rfl,rfl⟩
 ·exact ⟨v,d,_,he,⟨u,hdu,rfl⟩,hh2,hd⟩
 ·exact ⟨v,d,[Zh (.slice none 0 0) e R []],he,⟨_,hdu,rfl⟩,hh2.push (Ext.refl _) (by simp [Zh,Value.ownBlock]) Own.nil,Z8 (Ext.refl _) (by simp [Zh,Value.ownBlock]) hd⟩⟩
theorem ZSj:∀ (x y:Operand) ad m c w,(do eqGuard .eql 22 x y (.slice ad m c) (.slice none 0 0);Go.binOp .eql 22 (.slice ad m c) (.slice none 0 0)).run Tryz.prog w = .ok (.bool ad.isNone) w:=by
 intro x y ad m c w
 cases ad <;> (go_simp;try (unfold Go.binOp;simp only;unfold Op.equal Op.maxDepth Op.equalIn;simp [run_underlying Tryz.underlying22]))
theorem ZS3 {α:Type} {R:Rel α} [Good R] {xs:List α} {I:Nat->Prop} {w:World} {v:Value} (h:(dS (Arr R) xs).rd I w v):∃ a m c,v = .slice a m c/\(a=none->m=0):=by
 obtain ⟨ad,cap,rfl,h1,h2,h3⟩:=(h:Arr R I w v xs)
 refine ⟨_,_,_,rfl,fun hn=>?_⟩
 rcases Nat.eq_zero_or_pos xs.length with hz|hz
 ·exact hz
 ·obtain ⟨us,b,off,_,_,had,_,_⟩:=h3 0 hz
  rw [hn] at had;cases had
theorem ZRZ (xs:Cx) (hl:xs.length≤1000000):CallC Tryz.prog 67 [dS ZBN xs] [] fun d' hp2=>∃ v,d'=dX v/\hp2=[Zh v 41 ZJ xs]:=by
 refine ZLG ?_
 (refine ZAb Tryz.func67 rfl rfl (fun hp=>?_);simp only [Tryz.ntmps67,List.length_cons,List.length_nil,List.length_append,List.length_map,Nat.reduceAdd,Nat.reduceSub,List.replicate_succ,List.replicate_zero,List.cons_append,List.nil_append,List.map_cons,List.map_nil,List.append_assoc])
 ((repeat' (first |  (refine ZE6 4 rfl fun b hb=>?_;dsimp only [z0,z1])|(apply WL.opN;exact yF;dsimp only [ZB,z0,z1])|refine WL.nil ?_|refine ZA fun Kx hK=>?_|(refine hK _ _ ?_;clear hK)|refine WC.region ?_ |  (apply ZGI ZDv ZJ;(intro _;dsimp only [ZB,z0,z1]);all_goals (try infer_instance))|((first|apply WL.appK|apply WL.app1);(exact eD);exact OpD.t rfl;(exact oD);decide;(exact lD);(intro _;dsimp only [ZB,z0,z1]);all_goals (try infer_instance))|(apply WL.opN;(focus ((first|(apply ZE2;exact OpD.t rfl;(exact fun _ _ _ h=>ZS3 h);exact ZJn;exact ZSj)|fail);all_goals infer_instance));dsimp only [ZB,z0,z1])|(apply WC.cond;(exact oD);all_goals (intro h;try exact xD))|refine WC.skip ?_|refine WC.ret ?_|refine ThenD.r ?_));all_goals (first|((repeat clear hK);(repeat clear Kx))))
 ·exact ⟨trivial,_,[],rfl,rfl,_,rfl,.inr ⟨rfl,hb h,rfl⟩⟩
 ·exact ⟨trivial,_,[_],rfl,rfl,_,rfl,.inl (by rw [List.nil_append])⟩
abbrev dEqL:Dat:=ZKS Tryz.prog (fun x:List Vx × List Vx=>[dS ZJ x.1,dS ZJ x.2]) (fun x=>dB (decide (x.1=x.2)))
set_option maxHeartbeats 4000000 in
theorem ZNA (xs:Cx) (v:Value) (hs:ZLL xs) (hl:xs.length≤1000000):CallC Tryz.prog 68 [dX v,dEqL] [Zh v 41 ZJ xs] fun d' hp2=>∃ v zs,(AscL zs/\∀ u,u∈zs↔u∈xs)/\d'=dX v/\hp2=[Zh v 41 ZJ zs]:=by
 (refine ZAb Tryz.func68 rfl rfl (fun hp=>?_);simp only [Tryz.ntmps68,List.length_cons,List.length_nil,List.length_append,List.length_map,Nat.reduceAdd,Nat.reduceSub,List.replicate_succ,List.replicate_zero,List.cons_append,List.nil_append,List.map_cons,List.map_nil,List.append_assoc])
 rcases Nat.lt_or_ge xs.length 2 with hx|hx
 ·have ha:AscL xs:=by
   match xs,hx with
   | [],_=>simp [AscL]
   | [x],_=>simp [AscL]
   | x::y::l,hx=>simp at hx;omega
  ((repeat' (first|((first|apply WL.opN|apply WD.opN);exact yF;dsimp only [ZB,z0,z1])|refine WL.nil ?_|refine ZA fun Kx hK=>?_|(refine hK _ _ ?_;clear hK)|refine WC.region ?_|((first|apply WL.opN|apply WD.opN);(focus ((first|exact ZCB|exact ZBw|fail);all_goals infer_instance));dsimp only [ZB,z0,z1])|(apply WC.condD;(exact oD);all_goals (intro h;try exact xD))|refine WC.ret ?_|refine ThenD.r ?_));all_goals (first|((repeat clear hK);(repeat clear Kx))))
  exact ⟨trivial,_,[_],rfl,rfl,_,xs,⟨ha,fun _=>Iff.rfl⟩,rfl,rfl⟩
 refine ZO5 (by omega) fun b cap hv hc1 hc2=>?_
 subst hv
 (repeat' (first|((first|apply WL.opN|apply WD.opN);exact yF;dsimp only [ZB,z0,z1])|refine WL.nil ?_|refine ZA fun Kx hK=>?_|(refine hK _ _ ?_;clear hK)|refine WC.region ?_|((first|apply WL.opN|apply WD.opN);(focus ((first|exact ZCB|exact ZBw|fail);all_goals infer_instance));dsimp only [ZB,z0,z1])|(apply WC.condD;(exact oD);all_goals (intro h;try exact xD))|refine WC.skip ?_|refine WC.block ?_))
 simp only [maxLen] at hc2
 (refine ZH (X:=Nat) (fun k=>[(5,dI (k:Int)),(4,dA),(6,dA),(7,dA),(12,dA),(13,dA),(14,dA),(15,dA),(16,dA),(17,dA),(18,dA),(19,dA),(20,dA),(21,dA),(22,dA),(23,dA),(24,dA),(25,dA),(26,dA),(27,dA),(28,dA),(29,dA),(30,dA),(31,dA),(32,dA),(33,dA),(34,dA),(35,dA),(36,dA),(37,dA),(38,dA),(39,dA),(40,dA),(41,dA),(42,dA),(43,dA),(44,dA),(45,dA),(46,dA),(47,dA),(48,dA),(49,dA),(50,dA),(51,dA),(52,dA),(53,dA),(54,dA),(55,dA),(56,dA),(57,dA),(58,dA),(59,dA),(60,dA),(61,dA),(62,dA),(63,dA),(64,dA)]) (fun k=>(hQ b xs.length cap 41 ZJ xs::hp)) (fun k=>xs.length-k) (fun k=>1≤k/\k≤xs.length/\ZH6 xs k (xs.take k)) 1 ?start ?frame0 ?objs0 ?round)
 case start=>exact ⟨Nat.le_refl _,by omega,ZJi (by omega)⟩
 case frame0=>((try dsimp only [ZQ,z0,z1]);repeat (first|exact LeF.nil|refine ZD (k:=?_)))
 case objs0=>rfl
 case round =>
  rintro k ⟨h1,h2,h3⟩
  dsimp only [ZQ,z0,z1]
  ((repeat' (first|((first|apply WL.opN|apply WD.opN);exact yF;dsimp only [ZB,z0,z1])|refine WL.nil ?_|refine WD.nil ?_|refine ZA fun Kx hK=>?_|(refine hK _ _ ?_;clear hK)|(refine Kont.skip ?_;clear hK)|refine WC.region ?_|(apply WC.draw;kernel_rfl;kernel_rfl)|((first|apply WL.opN|apply WD.opN);(focus ((first|(apply ZIB (k:=k) ZDv;exact OpD.t rfl;exact OpD.t rfl;rfl;omega)|(apply ZIB (k:=k-1) ZDv;exact OpD.t rfl;exact OpD.t rfl;omega;omega)|(apply ZE5 (k:=k) ZJO;exact OpD.t rfl;exact .head _;omega;omega)|(apply ZE5 (k:=k-1) ZJO;exact OpD.t rfl;exact .head _;omega;omega)|(apply ZAu (x:=((xs[k],xs[k-1]):List Vx × List Vx));(exact OpD.t rfl);(exact aD))|(apply SY.fromQ (l:=k) ZDv;exact OpD.t rfl;exact OpD.t rfl;rfl;omega;omega)|exact ZCB|exact ZCu|exact ZRJ|exact ZBw|fail);all_goals infer_instance));dsimp only [ZB,z0,z1])|(apply WC.condD;(exact oD);all_goals (intro h;try exact xD))|refine WC.skip ?_|refine WC.ret ?_|refine WC.exit ?_|refine WC.block ?_|refine ThenD.n ?_));all_goals (first|refine WC.id ?_|((repeat clear hK);(repeat clear Kx))))
  ·have hk:k<xs.length:=by omega
   have hg:=ZGT h3 h1 hk h
   (refine ZH (X:=Nat × Nat × Cx) (fun x=>[(5,dI (x.2.1:Int)),(7,dI (x.1:Int)),(32,dA),(33,dA),(34,dA),(35,dA),(36,dA),(37,dA),(38,dA),(39,dA),(40,dA),(41,dA),(42,dA),(43,dA),(44,dA),(45,dA),(46,dA),(47,dA),(48,dA),(49,dA),(50,dA),(51,dA),(52,dA),(53,dA),(54,dA),(55,dA),(56,dA),(57,dA),(58,dA)]) (fun x=>(hQ b xs.length cap 41 ZJ x.2.2::hp)) (fun x=>xs.length-k-x.1) (fun x=>1≤x.1/\k+x.1≤xs.length/\x.2.1+1≤k+x.1/\x.2.2.length=xs.length/\ZH6 xs (k+x.1) (x.2.2.take x.2.1)/\x.2.2.drop (k+x.1-1)=xs.drop (k+x.1-1)) (1,k,xs) ?start ?frame0 ?objs0 ?round)
   case start=>exact ⟨Nat.le_refl _,by omega,Nat.le_refl _,rfl,hg,rfl⟩
   case frame0=>((try dsimp only [ZQ,z0,z1]);repeat (first|exact LeF.nil|refine ZD (k:=?_)))
   case objs0=>rfl
   case round =>
    rintro ⟨m,i,ys⟩ ⟨q1,q2,q3,q4,q5,q6⟩
    dsimp only [ZQ,z0,z1]
    simp only at q1 q2 q3 q4 q5 q6
    have hget:∀ (j:Nat) (hj:k+m-1≤j) (hj':j<xs.length),ys[j]'(by omega)=xs[j]:=fun j hj hj'=>by
     have e1:=congrArg (fun l=>l[j-(k+m-1)]?) q6
     simp only [List.getElem?_drop] at e1
     rw [show k+m-1+(j-(k+m-1))=j by omega,List.getElem?_eq_getElem (by omega),List.getElem?_eq_getElem hj'] at e1
     exact Option.some.inj e1
    ((repeat' (first|((first|apply WL.opN|apply WD.opN);exact yF;dsimp only [ZB,z0,z1])|refine WL.nil ?_|refine WD.nil ?_|refine ZA fun Kx hK=>?_|(refine hK _ _ ?_;clear hK)|(refine Kont.skip ?_;clear hK)|refine WC.region ?_|(apply WC.draw;kernel_rfl;kernel_rfl) |  (apply ZMX (k:=i) ZJO;exact OpD.t rfl;exact OpD.t rfl;exact ZAU;omega;omega;dsimp only [ZB,z0,z1]) |  (apply ZMO (k:=i) (n:=xs.length-i) (x0:=([]:List Vx)) Tryz.underlying22 Tryz.zeroValue41 rfl (fun _ _=>ZFO (by decide));exact OpD.t rfl;omega;omega;omega;dsimp only [ZB,z0,z1]) |  (apply ZMY (l:=i) ZDv;exact OpD.t rfl;exact OpD.t rfl;rfl;omega;omega;omega;(simp;omega);dsimp only [ZB,z0,z1])|((first|apply WL.opN|apply WD.opN);(focus ((first|(apply ZIB (k:=m) ZDv;exact OpD.t rfl;exact OpD.t rfl;rfl;omega)|(apply ZIB (k:=m-1) ZDv;exact OpD.t rfl;exact OpD.t rfl;omega;omega)|(apply ZIB (k:=i) ZDv;exact OpD.t rfl;exact OpD.t rfl;rfl;omega)|(apply ZE5 (k:=k+m) ZJO;exact OpD.t rfl;exact .head _;omega;omega)|(apply ZE5 (k:=k+m-1) ZJO;exact OpD.t rfl;exact .head _;omega;omega)|(apply ZAu (x:=((ys[k+m],ys[k+m-1]):List Vx × List Vx));(exact OpD.t rfl);(exact aD))|(apply SY.fromQ (l:=i) ZDv;exact OpD.t rfl;exact OpD.t rfl;rfl;omega;omega)|exact ZCB|exact ZOr|exact ZCu|exact ZRJ|exact ZBw|fail);all_goals infer_instance));dsimp only [ZB,z0,z1])|(apply WC.condD;(exact oD);all_goals (intro h;try exact xD))|(apply WC.condN;(exact oD);all_goals (intro h;try exact xD))|refine WC.skip ?_|refine WC.ret ?_|refine WC.exit ?_|refine WC.block ?_|refine ThenD.n ?_|refine ThenD.r ?_|refine InBlockD.r ?_));all_goals (first|((repeat clear hK);(repeat clear Kx))))
    ·have hkm:k+m<xs.length:=by omega
     have e1:ys[k+m]'(by omega)=xs[k+m]:=hget _ (by omega) hkm
     have e2:ys[k+m-1]'(by omega)=xs[k+m-1]:=hget _ (by omega) (by omega)
     rw [e1,e2] at h
     rw [e1]
     (refine ⟨(m+1,i+1,ys.set i xs[k+m]),?_,by first|omega|(simp only;omega),rfl,?_⟩;rotate_left;((try dsimp only [ZQ,z0,z1]);repeat (first|exact LeF.nil|refine ZD (k:=?_)));(try dsimp only))
     refine ⟨by omega,by omega,by omega,by simpa using q4,?_,?_⟩
     ·have:=ZGS hs q5 (by omega) hkm h
      rw [Nat.add_assoc] at this
      have e3:(ys.set i xs[k+m]).take (i+1)=ys.take i++[xs[k+m]]:=by
       rw [ZU (by simp;omega),List.take_set_of_le (by omega)]
       simp
      rw [e3];exact this
     ·rw [show k+(m+1)-1=(k+m-1)+1 by omega]
      have e4:(ys.set i xs[k+m]).drop (k+m-1+1)=ys.drop (k+m-1+1):=by rw [List.drop_set_of_lt (by omega)]
      rw [e4]
      have:=congrArg (List.drop 1) q6
      simpa [List.drop_drop] using this
    ·have hkm:k+m<xs.length:=by omega
     have e1:ys[k+m]'(by omega)=xs[k+m]:=hget _ (by omega) hkm
     have e2:ys[k+m-1]'(by omega)=xs[k+m-1]:=hget _ (by omega) (by omega)
     rw [e1,e2] at h
     (refine ⟨(m+1,i,ys),?_,by first|omega|(simp only;omega),rfl,?_⟩;rotate_left;((try dsimp only [ZQ,z0,z1]);repeat (first|exact LeF.nil|refine ZD (k:=?_)));(try dsimp only))
     refine ⟨by omega,by omega,by omega,q4,?_,?_⟩
     ·have:=ZGT q5 (by omega) hkm h
      rw [Nat.add_assoc] at this
      exact this
     ·have:=congrArg (List.drop 1) q6
      rw [List.drop_drop,List.drop_drop] at this
      rw [show k+(m+1)-1=k+m-1+1 by omega]
      exact this
    ·have e1:(ys.take i++List.replicate (xs.length-i) ([]:List Vx)).take i=ys.take i:=by
      rw [List.take_left' (by simp;omega)]
     rw [e1]
     exact ⟨trivial,_,[_],rfl,rfl,_,_,ZIk q5 (by omega),rfl,rfl⟩
  ·(refine ⟨k+1,?_,by first|omega|(simp only;omega),rfl,?_⟩;rotate_left;((try dsimp only [ZQ,z0,z1]);repeat (first|exact LeF.nil|refine ZD (k:=?_)));(try dsimp only))
   refine ⟨by omega,by omega,?_⟩
   rw [ZU (by omega)]
   exact ZGS hs h3 h1 (by omega) h
  ·have e1:xs.take k=xs:=List.take_of_length_le (by omega)
   rw [e1] at h3
   exact ⟨trivial,_,[_],rfl,rfl,_,xs,ZIk h3 (by omega),rfl,rfl⟩
end
section
open Go.RowKit

abbrev hM {K V:Type} (b:Nat) (kv:K->Value) (vv:V->Value) (m:List (K × V)):HObj:=Z2 b (ZAX (ZAP kv vv m))
structure IsV (d:Dat) (v:Value):Prop where
 is:∀ (I:Nat->Prop) (w:World) (u:Value),d.rd I w u->u=v
theorem isX {v:Value}:IsV (dX v) v:=⟨fun _ _ _ h=>h⟩
theorem isI {n:Int}:IsV (dI n) (.int .i64 n):=⟨fun _ _ _ h=>h⟩
section
variable {P:Program} {ops:Array Oper} {hp:List HObj} {o:Oper} {fr:List Dat} {d d2:Dat} {Q:ZAE} {rest:List Oper}
variable {dst:Option Tmp} {ty:TypeId} {ps:String} {af:Array Edge} {g:Option (Nat × Bool)} {t k e:TypeId} {z:Value} {K V:Type} {kv:K->Value} {ok:K->Prop} {vv:V->Value} {b:Nat} {m:List (K × V)}
theorem WL.makeMap (kv:K->Value) (vv:V->Value) (h:∀ b,WL P ops Q rest (ZB fr dst (dX (.map (some b)))) (hM b kv vv []::hp)) :
  WL P ops Q (⟨dst,.makeMap t none,ty,ps,af,none⟩::rest) fr hp:=by
 refine WL.of fun P0 B w0 w a hh hf=>?_
 have hrun:(execOp a.eval ⟨dst,.makeMap t none,ty,ps,af,none⟩).run P w = .ok (.value (.map (some w.heap.size))) (w.alloc (ZAX [])):=by
  unfold execOp
  simp [Instr.makeMap,ZAX,ZR]
 refine Zi rfl hrun ?_
 have hx:=Ext.of_alloc w (ZAX [])
 have hb:∀ k,(hM w.heap.size kv vv []).blk=some k->w.heap.size≤k/\k<(w.alloc (ZAX [])).heap.size:=fun k hk=>by
  cases hk
  exact ⟨Nat.le_refl _,by simp⟩
 refine (h w.heap.size).on (hh.push hx hb (Zx w _)) ?_
 exact Fr.put (hf.mono fun d _ hd=>Z8 hx (fun k hk=>(hb k hk).1) hd) rfl
section
variable [DecidableEq K]
theorem SY.lookM {x y:Operand} {v:K} (T:MapT P t k e z) (H:KeyT P k kv ok) (hx:OpD fr x (dX (.map (some b)))) (hm:hM b kv vv m∈hp) (hy:OpD fr y d) (hd:IsV d (kv v)) (ho:ok v) (hok:∀ p∈m,ok p.1) (hn:(m.map (·.1)).Nodup) :
  SY P ops hp ⟨dst,.lookup t x y false,ty,ps,af,g⟩ fr (dX (((Go.Proofs.YtokmalofdapffaaGreat.lookM m v).map vv).getD z)):=ZAn fun {P0 B w0 w a} hh hon=>by
 have h1:a.eval x=_:=hx.get (by simp [Op.operands]) hon
 have h2:=hd.is _ _ _ (hy.get (by simp [Op.operands]) hon)
 refine ⟨_,w,?_,Ext.refl _,rfl⟩
 unfold execOp
 simp only [h1,h2,Sem.run_bind,ZDZ T H hok hn ho (hh.ok _ hm) false,Result.andThen_ok,Sem.run_pure]
 rfl
theorem ZFQ {x y:Operand} {v:K} (T:MapT P t k e z) (H:KeyT P k kv ok) (hx:OpD fr x (dX (.map (some b)))) (hm:hM b kv vv m∈hp) (hy:OpD fr y d) (hd:IsV d (kv v)) (ho:ok v) (hok:∀ p∈m,ok p.1) (hn:(m.map (·.1)).Nodup) :
  SY P ops hp ⟨dst,.lookup t x y true,ty,ps,af,g⟩ fr (dT [dX (((Go.Proofs.YtokmalofdapffaaGreat.lookM m v).map vv).getD z),dB (Go.Proofs.YtokmalofdapffaaGreat.lookM m v).isSome]):=ZAn fun {P0 B w0 w a} hh hon=>by
 have h1:a.eval x=_:=hx.get (by simp [Op.operands]) hon
 have h2:=hd.is _ _ _ (hy.get (by simp [Op.operands]) hon)
 refine ⟨_,w,?_,Ext.refl _,[((Go.Proofs.YtokmalofdapffaaGreat.lookM m v).map vv).getD z,.bool (Go.Proofs.YtokmalofdapffaaGreat.lookM m v).isSome],rfl,rfl,fun i e x he hx=>?_⟩
 ·unfold execOp
  simp only [h1,h2,Sem.run_bind,ZDZ T H hok hn ho (hh.ok _ hm) true,Result.andThen_ok,Sem.run_pure]
  rfl
 ·match i,he,hx with
  | 0,he,hx=>cases he;cases hx;rfl
  | 1,he,hx=>cases he;cases hx;rfl
theorem ZDy {x y c:Operand} {v:K} {u:V} (T:MapT P t k e z) (H:KeyT P k kv ok) (hx:OpD fr x (dX (.map (some b)))) (hy:OpD fr y d) (hd:IsV d (kv v)) (hc:OpD fr c d2) (hd2:IsV d2 (vv u)) (ho:ok v) (hok:∀ p∈m,ok p.1) (hn:(m.map (·.1)).Nodup)
  (h:WL P ops Q rest (ZB fr dst (dX undef)) (hM b kv vv (ZDr m v u)::hp)) :
  WL P ops Q (⟨dst,.mapUpdate t x y c,ty,ps,af,none⟩::rest) fr (hM b kv vv m::hp):=by
 refine WL.of fun P0 B w0 w a hh hf=>?_
 have h1:a.eval x=_:=hx.ev hf
 have h2:=hd.is _ _ _ (hy.ev hf)
 have h3:=hd2.is _ _ _ (hc.ev hf)
 have hrun:(execOp a.eval ⟨dst,.mapUpdate t x y c,ty,ps,af,none⟩).run P w = .ok .skip (w.putObj b (ZAX (ZAP kv vv (ZDr m v u)))):=by
  unfold execOp
  simp only [h1,h2,h3,Sem.run_bind,ZLq T H hok hn ho u (hh.ok (hM b kv vv m) (by simp)),Result.andThen_ok,Sem.run_pure]
  rfl
 refine wpList_plain rfl fun K hK=>?_
 unfold Oper.wp
 rw [hrun]
 exact hK _ _ (h.on (Hp.putObj hh) (Fr.put (hf.mono fun _ _ hd=>ZAO hd) (d:=dX undef) rfl))
end
theorem ZRM {x y:Operand} {v:K} (zv:V) (hz:vv zv=z) (T:MapT P t k e z) (H:KeyT P k kv ok) (hx:OpD fr x (dX (.map (some b)))) (hy:OpD fr y d) (hd:IsV d (kv v)) (ho:ok v) (hok:∀ p∈m,ok p.1)
  (h1:∀ (j:Nat) (hj:j<m.length),m[j].1=v->WL P ops Q rest (ZB fr dst (dT [dX (vv m[j].2),dI j])) (hM b kv vv m::hp))
  (h2:(∀ p∈m,p.1≠v)->WL P ops Q rest (ZB fr dst (dT [dX z,dI m.length])) (hM b kv vv (m++[(v,zv)])::hp)) :
  WL P ops Q (⟨dst,.mapEntry t x y,ty,ps,af,none⟩::rest) fr (hM b kv vv m::hp):=by
 refine WL.of fun P0 B w0 w a hh hf=>?_
 have e1:a.eval x=_:=hx.ev hf
 have e2:=hd.is _ _ _ (hy.ev hf)
 have hT:∀ {I:Nat->Prop} {w:World} (u:Value) (n:Int),(dT [dX u,dI n]).rd I w (.tuple #[u,.int .i64 n]):=fun u n=>⟨[u,.int .i64 n],rfl,rfl,fun i e x he hx=>by
  match i,he,hx with
  | 0,he,hx=>cases he;cases hx;rfl
  | 1,he,hx=>cases he;cases hx;rfl⟩
 rcases ZI6 T H hok ho (hh.ok (hM b kv vv m) (by simp)) with ⟨j,hj,hjv,hr⟩|⟨hne,hr⟩
 ·have hrun:(execOp a.eval ⟨dst,.mapEntry t x y,ty,ps,af,none⟩).run P w = .ok (.value (.tuple #[vv m[j].2,.int .i64 j])) (w.putObj b (ZAX (ZAP kv vv m))):=by
   unfold execOp
   simp only [e1,e2,Sem.run_bind,hr,Result.andThen_ok,Sem.run_pure]
   rfl
  refine Zi rfl hrun ?_
  exact (h1 j hj hjv).on (Hp.putObj hh) (Fr.put (hf.mono fun _ _ hd=>ZAO hd) (hT _ _))
 ·have hrun:(execOp a.eval ⟨dst,.mapEntry t x y,ty,ps,af,none⟩).run P w = .ok (.value (.tuple #[z,.int .i64 m.length])) (w.putObj b (ZAX (ZAP kv vv (m++[(v,zv)])))):=by
   unfold execOp
   simp only [e1,e2,Sem.run_bind,hr zv hz,Result.andThen_ok,Sem.run_pure]
   rfl
  refine Zi rfl hrun ?_
  exact (h2 hne).on (Hp.putObj hh) (Fr.put (hf.mono fun _ _ hd=>ZAO hd) (hT _ _))
theorem ZJU {x y c:Operand} {j:Nat} {u:V} (hx:OpD fr x (dX (.map (some b)))) (hy:OpD fr y (dI (j:Int))) (hc:OpD fr c d2) (hd2:IsV d2 (vv u)) (hj:j<m.length)
  (h:WL P ops Q rest (ZB fr dst (dX undef)) (hM b kv vv (m.set j (m[j].1,u))::hp)) :
  WL P ops Q (⟨dst,.entryStore t x y c,ty,ps,af,none⟩::rest) fr (hM b kv vv m::hp):=by
 refine WL.of fun P0 B w0 w a hh hf=>?_
 have h1:a.eval x=_:=hx.ev hf
 have h2:a.eval y = .int .i64 j:=hy.ev hf
 have h3:=hd2.is _ _ _ (hc.ev hf)
 have hrun:(execOp a.eval ⟨dst,.entryStore t x y c,ty,ps,af,none⟩).run P w = .ok .skip (w.putObj b (ZAX (ZAP kv vv (m.set j (m[j].1,u))))):=by
  unfold execOp
  simp only [h1,h2,h3,Sem.run_bind,ZGC hj u (hh.ok (hM b kv vv m) (by simp)),Result.andThen_ok,Sem.run_pure]
  rfl
 refine wpList_plain rfl fun K hK=>?_
 unfold Oper.wp
 rw [hrun]
 exact hK _ _ (h.on (Hp.putObj hh) (Fr.put (hf.mono fun _ _ hd=>ZAO hd) (d:=dX undef) rfl))
end
end
section
open Go.RowKit
def ZH7 {K α:Type} (kv:K->Value) (R:Rel α):Rel (List (K × α)):=fun P w v m =>
 ∃ (b:Nat) (us:List Value),v = .map (some b)/\P b/\us.length=m.length/\w.heap[b]?=some (ZAX (ZAP kv id ((m.map (·.1)).zip us)))/\∀ k (h:k<us.length) (h':k<m.length),R P w us[k] m[k].2
theorem ZGV {w:World} {b:Nat} {o:Obj} (h:w.heap[b]?=some o):b<w.heap.size:=(Array.getElem?_eq_some_iff.1 h).1
instance {K α:Type} (kv:K->Value) (R:Rel α) [Good R]:Good (ZH7 kv R) where
 weak:=fun ⟨b,us,h1,h2,h3,h4,h5⟩ q=>⟨b,us,h1,q b h2,h3,h4,fun k a c=>Good.weak (h5 k a c) q⟩
 move:=fun ⟨b,us,h1,h2,h3,h4,h5⟩ q=>⟨b,us,h1,h2,h3,(q b h2 (ZGV h4)).trans h4,fun k a c=>Good.move (h5 k a c) q⟩
 bound:=fun ⟨b,us,h1,h2,h3,h4,h5⟩=>⟨b,us,h1,⟨h2,ZGV h4⟩,h3,h4,fun k a c=>Good.bound (h5 k a c)⟩
section
variable {P:Program} {ops:Array Oper} {hp:List HObj} {fr:List Dat} {d:Dat}
variable {dst:Option Tmp} {ty:TypeId} {ps:String} {af:Array Edge} {g:Option (Nat × Bool)} {t k e:TypeId} {z:Value} {K α:Type} [DecidableEq K] {kv:K->Value} {ok:K->Prop} {R:Rel α} {m:List (K × α)}
theorem ZNj {m:List (K × α)} {us:List Value} (h:us.length=m.length) (x:K):(lookM m x=none/\lookM ((m.map (·.1)).zip us) x=none)\/∃ (j:Nat) (h1:j<us.length) (h2:j<m.length),lookM m x=some m[j].2/\lookM ((m.map (·.1)).zip us) x=some us[j]:=by
 induction m generalizing us with
 | nil=>exact .inl ⟨rfl,by cases us <;> rfl⟩
 | cons p m ih =>
  cases us with
  | nil=>simp at h
  | cons u us =>
   by_cases hp:p.1=x
   ·refine .inr ⟨0,by simp,by simp,?_,?_⟩
    ·unfold lookM;rw [List.find?_cons_of_pos (by simpa using hp)];rfl
    ·unfold lookM;simp only [List.map_cons,List.zip_cons_cons];rw [List.find?_cons_of_pos (by simpa using hp)];rfl
   ·rcases ih (us:=us) (by simpa using h) with ⟨h1,h2⟩|⟨j,h1,h2,h3,h4⟩
    ·refine .inl ⟨?_,?_⟩
     ·unfold lookM at h1 ⊢;rw [List.find?_cons_of_neg (by simpa using hp)];exact h1
     ·unfold lookM at h2 ⊢;simp only [List.map_cons,List.zip_cons_cons];rw [List.find?_cons_of_neg (by simpa using hp)];exact h2
    ·refine .inr ⟨j+1,by simpa using h1,by simpa using h2,?_,?_⟩
     ·unfold lookM at h3 ⊢;rw [List.find?_cons_of_neg (by simpa using hp)];exact h3
     ·unfold lookM at h4 ⊢;simp only [List.map_cons,List.zip_cons_cons];rw [List.find?_cons_of_neg (by simpa using hp)];exact h4
theorem ZDw [Good R] {x y:Operand} {v:K} {a0:α} (T:MapT P t k e z) (H:KeyT P k kv ok) (hx:OpD fr x (dS (ZH7 kv R) m)) (hy:OpD fr y d) (hd:IsV d (kv v)) (ho:ok v) (hok:∀ p∈m,ok p.1) (hn:(m.map (·.1)).Nodup) (hz:∀ I w,R I w z a0) :
  SY P ops hp ⟨dst,.lookup t x y false,ty,ps,af,g⟩ fr (dS R ((Go.Proofs.YtokmalofdapffaaGreat.lookM m v).getD a0)):=SY.val fun {I w a} hon=>by
 obtain ⟨b,us,h1,h2,h3,h4,h5⟩:=hx.get (by simp [Op.operands]) hon
 have h6:=hd.is _ _ _ (hy.get (by simp [Op.operands]) hon)
 have hkeys:((m.map (·.1)).zip us).map (·.1)=m.map (·.1):=by rw [List.map_fst_zip];simp [h3]
 refine ⟨((Go.Proofs.YtokmalofdapffaaGreat.lookM ((m.map (·.1)).zip us) v).map id).getD z,?_,?_⟩
 ·unfold execOp
  simp only [h1,h6,Sem.run_bind,ZDZ (vv:=id) T H (fun (p:K × Value) (hp:p∈(m.map (·.1)).zip us)=>by
   have:p.1∈m.map (·.1):=by rw [<- hkeys];exact List.mem_map_of_mem hp
   obtain ⟨q,hq,he⟩:=List.mem_map.1 this
   rw [<- he];exact hok q hq) (by rw [hkeys];exact hn) ho h4 false,Result.andThen_ok,Sem.run_pure]
  rfl
 ·rcases ZNj h3 v with ⟨e1,e2⟩|⟨j,j1,j2,e1,e2⟩
  ·rw [e1,e2];exact hz I w
  ·rw [e1,e2];exact h5 j j1 j2
end
theorem FinD.map {hp:List HObj} {b:Nat} {e:TypeId} {K α:Type} {kv:K->Value} {R:Rel α} {_gR:Good R} {M:List (K × Value × List α)} (hm:hM b kv (fun p:Value × List α=>p.1) M∈hp) (hr:∀ p∈M,Zh p.2.1 e R p.2.2∈hp) :
  FinD hp (dX (.map (some b))) (dS (ZH7 kv (Arr R)) (M.map fun p=>(p.1,p.2.2))):=FinD.mk fun {P0 B w0 w u} hh hd=>by
 have hb:w.heap[b]?=some (ZAX _):=hh.ok _ hm
 refine ⟨b,M.map fun p=>p.2.1,hd,ZDW hh hm rfl,by simp,?_,fun k h1 h2=>?_⟩
 ·rw [hb]
  congr 2
  unfold ZAP
  simp only [List.map_map]
  rw [List.zip_map',List.map_map]
  rfl
 ·have hk:k<M.length:=by simpa using h1
  have:Arr R (fun b=>P0 b\/B≤b) w M[k].2.1 M[k].2.2:=(FinD.row (hr _ (List.getElem_mem hk))).out (v:=M[k].2.1) hh rfl
  simpa using this
end
section
open Go.RowKit
theorem ZRo:laidOutB Tryz.prog=true:=by kernel_rfl
def ZSO (n:Int):Prop:=-9223372036854775808≤n/\n≤9223372036854775807
theorem wf64 {n:Int} (h:ZSO n):(Lit.int .i64 n).wf=true:=by
 obtain ⟨h1,h2⟩:=h
 show (decide (IntKind.i64.min≤n) && decide (n≤IntKind.i64.max))=true
 have e1:IntKind.i64.min = -9223372036854775808:=by decide
 have e2:IntKind.i64.max=9223372036854775807:=by decide
 rw [e1,e2,decide_eq_true h1,decide_eq_true h2];rfl
def kvV (x:Int × Int):Value:=.agg #[.int .i64 x.1,.int .i64 x.2]
def okV (x:Int × Int):Prop:=ZSO x.1/\ZSO x.2
theorem ZTD:47<Tryz.prog.types.size:=of_decide_eq_true (by kernel_rfl)
theorem ZG8:Tryz.prog.cellsOf 47=2:=by kernel_rfl
theorem ZRT:Tryz.prog.cellsOf 3=1:=by kernel_rfl
theorem ZNh (d:Nat) {x:Int × Int} (h:okV x):Tryz.prog.keyLits (d+2) 47 [.int .i64 x.1,.int .i64 x.2]=some [.int .i64 x.1,.int .i64 x.2]:=by
 obtain ⟨h1,h2⟩:=h
 unfold Program.keyLits
 simp only [Tryz.underlying47,ZG8]
 simp [ZRT,Program.keyLits,Tryz.underlying3,wf64 h1,wf64 h2]
theorem ZKl:KeyT Tryz.prog 47 kvV okV where
 law:=Go.Maps.Keyed.of_law (deep_law_laid ZRo (m:=2) (by omega) ZTD (by kernel_rfl) (by rw [Tryz.underlying47]))
 lit:=fun x h=>by
  refine ⟨.string (keyBytes [.int .i64 x.1,.int .i64 x.2]),?_⟩
  unfold keyOf
  simp only [Tryz.underlying47]
  have hk:Tryz.prog.keyType 47=true:=by kernel_rfl
  have hf:(kvV x).formed Tryz.prog 47=true:=by simp [kvV,Value.formed,Tryz.underlying47,ZG8]
  obtain ⟨d,hd⟩:∃ d,Tryz.prog.types.size=d+1:=⟨Tryz.prog.types.size-1,by have:=ZTD;omega⟩
  rw [hk,hf,hd]
  have:=ZNh d h
  simp only [Bool.and_self,if_true]
  rw [show (kvV x).cells.toList=[.int .i64 x.1,.int .i64 x.2] from rfl,this]
  rfl
 inj:=fun x y _ _ h=>by
  unfold kvV at h
  simp at h
  exact Prod.ext h.1 h.2
def ZFs (s:List Vx):List Vx:=s++List.replicate (8-s.length) (-1,0)
def kvK (s:List Vx):Value:=.agg (ZT (ZFs s)).toArray
def okK (s:List Vx):Prop:=s.length≤8/\∀ v∈s,okV v/\0≤v.1
theorem ZTB:92<Tryz.prog.types.size:=of_decide_eq_true (by kernel_rfl)
theorem ZMt:Tryz.prog.cellsOf 92=16:=by kernel_rfl
theorem ZBa {s:List Vx} (h:s.length≤8):(ZFs s).length=8:=by unfold ZFs;simp;omega
theorem ZNv {s:List Vx} (h:okK s):∀ v∈ZFs s,okV v:=fun v hv=>by
 unfold ZFs at hv
 rcases List.mem_append.1 hv with hv|hv
 ·exact (h.2 v hv).1
 ·rw [(List.mem_replicate.1 hv).2];exact ⟨by unfold ZSO;omega,by unfold ZSO;omega⟩
theorem ZHU {α β:Type} {f:α->Option β} {g:α->β}:∀ (L:List α),(∀ i∈L,f i=some (g i))->L.mapM f=some (L.map g)
 | [],_=>rfl
 | a::L,h=>by
  rw [List.mapM_cons,h a (by simp),ZHU L fun i hi=>h i (by simp [hi])]
  rfl
theorem ZHK:∀ (l:List Vx) (i:Nat) (h:i<l.length),((ZT l).drop (i*2)).take 2=[.int .i64 l[i].1,.int .i64 l[i].2]
 | [],i,h=>by simp at h
 | x::l,0,_=>by simp [ZAl]
 | x::l,i+1,h=>by
  rw [ZAl,show (i+1)*2=i*2+2 by omega]
  simpa using ZHK l i (by simpa using h)
theorem ZSz (d:Nat) {s:List Vx} (h:okK s):∃ l,Tryz.prog.keyLits (d+3) 92 (ZT (ZFs s))=some l:=by
 have hl:(ZT (ZFs s)).length=16:=by rw [ZY,ZBa h.1]
 unfold Program.keyLits
 simp only [Tryz.underlying92,ZMt,hl]
 simp only [if_true,ZG8]
 rw [ZHU (g:=fun i=>[Lit.int .i64 ((ZFs s).getD i (0,0)).1,Lit.int .i64 ((ZFs s).getD i (0,0)).2]) _ fun i hi=>?_]
 ·exact ⟨_,rfl⟩
 ·have hi':i<(ZFs s).length:=by rw [ZBa h.1];exact List.mem_range.1 hi
  rw [ZHK _ i hi',ZNh d (ZNv h _ (List.getElem_mem hi'))]
  simp [List.getD,hi']
theorem ZFi:∀ {a b:List Vx},ZT a=ZT b->a=b
 | [],[],_=>rfl
 | [],y::b,h=>by simp [ZAl,ZB6] at h
 | x::a,[],h=>by simp [ZAl,ZB6] at h
 | x::a,y::b,h=>by
  rw [ZAl,ZAl] at h
  simp at h
  rw [Prod.ext h.1 h.2.1,ZFi h.2.2]
theorem ZKv:∀ {a b:List Vx},(∀ v∈a,0≤v.1)->(∀ v∈b,0≤v.1)->ZFs a=ZFs b->a=b:=by
 have go:∀ {a b:List Vx} (i j:Nat),(∀ v∈a,0≤v.1)->(∀ v∈b,0≤v.1)->a++List.replicate i ((-1,0):Vx)=b++List.replicate j (-1,0)->a=b:=by
  intro a
  induction a with
  | nil =>
   intro b i j _ hb h
   cases b with
   | nil=>rfl
   | cons y b =>
    cases i with
    | zero=>simp at h
    | succ i =>
     rw [List.replicate_succ] at h
     simp at h
     have:=hb y (by simp)
     rw [<- h.1] at this
     simp at this
  | cons x a ih =>
   intro b i j ha hb h
   cases b with
   | nil =>
    cases j with
    | zero=>simp at h
    | succ j =>
     rw [List.replicate_succ] at h
     simp at h
     have:=ha x (by simp)
     rw [h.1] at this
     simp at this
   | cons y b =>
    simp only [List.cons_append,List.cons.injEq] at h
    rw [h.1,ih i j (fun v hv=>ha v (by simp [hv])) (fun v hv=>hb v (by simp [hv])) h.2]
 intro a b ha hb h
 exact go _ _ ha hb h
theorem ZQ6:KeyT Tryz.prog 92 kvK okK where
 law:=Go.Maps.Keyed.of_law (deep_law_laid ZRo (m:=3) (by omega) ZTB (by kernel_rfl) (by rw [Tryz.underlying92]))
 lit:=fun s h=>by
  obtain ⟨d,hd⟩:∃ d,Tryz.prog.types.size=d+2:=⟨Tryz.prog.types.size-2,by have:=ZTB;omega⟩
  obtain ⟨l,hl⟩:=ZSz d h
  refine ⟨.string (keyBytes l),?_⟩
  unfold keyOf
  simp only [Tryz.underlying92]
  have hk:Tryz.prog.keyType 92=true:=by kernel_rfl
  have hf:(kvK s).formed Tryz.prog 92=true:=by
   simp [kvK,Value.formed,Tryz.underlying92,ZMt,ZY,ZBa h.1]
  rw [hk,hf,hd]
  simp only [Bool.and_self,if_true]
  rw [show (kvK s).cells.toList=ZT (ZFs s) from rfl,hl]
  rfl
 inj:=fun x y hx hy h=>by
  unfold kvK at h
  injection h with h
  exact ZKv (fun v hv=>(hx.2 v hv).2) (fun v hv=>(hy.2 v hv).2) (ZFi (List.toArray_inj h))
end
end Go.Proofs.YtokmalofdapffaaGreat
