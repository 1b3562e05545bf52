/- Part 2: walks by contracts, and plain laws. -/
import Derived.Test.YtofkoleingbbpaaGreatDoorWa29
import Derived.Test.YtofkoleingbbpaaGreatDoorWc1
set_option linter.unusedVariables false
set_option linter.unusedSimpArgs false
set_option linter.unusedSectionVars false
set_option maxRecDepth 100000
set_option maxHeartbeats 4000000
namespace Go.Proofs.YtofkoleingbbpaaGreatDoor
section
open Go.RowKit

def twI (l:Cx) (i k:Nat):Bool:=decide (i≠k) && Zw (l.getD i []) (l.getD k [])
theorem ZDV (l:Cx):Fn Tryz.prog 48 [dS Cpx l] (dI (ZAl l)):=by
 (refine ZE Tryz.func48 rfl rfl ?_;simp only [Tryz.ntmps48,List.length_cons,List.length_nil,Nat.reduceAdd,Nat.reduceSub,List.replicate_succ,List.replicate_zero,List.cons_append,List.nil_append])
 ((repeat' (first|((first|apply WL.opN|apply WD.opN);exact yF;dsimp only [ZC,z0,z1])|refine WL.nil ?_|refine ZA fun Kx hK=>?_|(refine hK _ _ ?_;clear hK)|refine WC.region ?_|((first|apply ZF|apply WD.op);(focus (first|exact wN|(apply SYG.yes;(exact wY);((first|exact ZEi|exact ZAk|exact Zy|exact ZDO|fail);all_goals infer_instance))));dsimp only [ZC,z0,z1])|(apply ZB;(exact oD);all_goals (intro h;try exact xD))|refine WC.skip ?_|refine WC.ret ?_|refine WC.block ?_|refine ThenD.r ?_));all_goals (first|refine WC.id ?_|((repeat clear hK);(repeat clear Kx))))
 ·(refine ⟨trivial,_,rfl,?_⟩;refine FinD.i ?_)
  unfold ZAl;rw [if_pos (by omega)]
 ·have hs:ZAl l=if ZDs none l≠0 then ZDs none l else if ZBP l=true then 7 else 0:=by unfold ZAl;rw [if_neg (by omega)]
  (refine WC.loopU (X:=Nat) (fun k=>[(4,dI (k:Int)),(2,dA),(5,dA),(13,dA),(14,dA),(15,dA),(16,dA),(17,dA),(18,dA),(19,dA),(20,dA),(21,dA),(22,dA),(23,dA),(24,dA),(25,dA),(26,dA),(27,dA),(28,dA),(29,dA),(30,dA),(31,dA),(32,dA),(33,dA),(34,dA),(35,dA),(36,dA),(37,dA),(38,dA),(39,dA),(40,dA),(41,dA)]) (fun k=>[]) (fun k=>l.length-k) (fun k=>k≤l.length/\ZDs none l=ZDs (l.take k).getLast? (l.drop k)) 0 ?start ?frame0 ?objs0 ?round)
  case start=>exact ⟨Nat.zero_le _,rfl⟩
  case frame0=>((try dsimp only [ZK,z0,z1]);repeat (first|exact LeF.nil|refine ZD (k:=?_)))
  case objs0=>rfl
  case round =>
   rintro k ⟨h3,h4⟩
   dsimp only [ZK,z0,z1]
   ((repeat' (first|((first|apply WL.opN|apply WD.opN);exact yF;dsimp only [ZC,z0,z1])|refine WL.nil ?_|refine WD.nil ?_|refine ZA fun Kx hK=>?_|(refine hK _ _ ?_;clear hK)|(refine Kont.skip ?_;clear hK)|refine WC.region ?_|(apply WC.draw;kernel_rfl;kernel_rfl)|((first|apply ZF|apply WD.op);(focus (first|exact wN|(apply SYG.yes;(exact wY);((first|(apply SY.call (ZHD _ _) Tryz.call77;(exact aD))|(apply SY.call (ZIx _) Tryz.call53;(exact aD))|(apply ZKy ZCF (OpD.t rfl) (OpD.t rfl) (k-1);omega;omega)|exact ZB5|exact ZA1|exact ZEi|exact ZJX|exact ZFW|exact ZBN|exact ZKn|exact ZB4|exact ZAk|exact ZV|exact ZBT|fail);all_goals infer_instance))));dsimp only [ZC,z0,z1])|((first|refine ZJ rfl rfl rfl (fun h=>?_) (fun h=>?_)|refine ZI rfl rfl rfl (fun h=>?_) (fun h=>?_)|refine ZH rfl rfl rfl (fun h=>?_) (fun h=>?_)|refine ZT rfl rfl rfl (fun h=>?_) (fun h=>?_)|refine ZS rfl rfl rfl (fun h=>?_) (fun h=>?_)|refine ZR rfl rfl rfl (fun h=>?_) (fun h=>?_)) <;> (first|(exfalso;first|omega|contradiction)|(dsimp only [z0,z1])))|(apply ZQ;(exact oD);(with_reducible rfl))|(apply ZB;(exact oD);all_goals (intro h;try exact xD))|(apply ZG;(exact oD);all_goals (intro h;try exact xD))|refine WC.skip ?_|refine WC.ret ?_|refine WC.exit ?_|refine WC.block ?_|refine ThenD.n ?_|refine ThenD.r ?_|refine InBlockD.r ?_));all_goals (first|refine WC.id ?_|((repeat clear hK);(repeat clear Kx))))
   all_goals try (rw [ZEs l k (by omega)] at h4)
   ·(refine ⟨trivial,_,rfl,?_⟩;refine FinD.i ?_)
    rw [hs,h4,if_pos h,if_pos h]
   ·(refine ⟨trivial,_,rfl,?_⟩;refine FinD.i ?_)
    have h5:¬ Z5 l[k]≠0:=by omega
    rw [if_neg h5,ZBJ _ _ (by omega) (by omega),if_pos (by simpa using h)] at h4
    rw [hs,h4];rfl
   ·(refine ⟨k+1,?_,by first|omega|(simp only;omega),rfl,?_⟩;rotate_left;((try dsimp only [ZK,z0,z1]);repeat (first|exact LeF.nil|refine ZD (k:=?_)));(try dsimp only))
    refine ⟨by omega,?_⟩
    have h5:¬ Z5 l[k]≠0:=by omega
    rw [h4,if_neg h5,ZBJ _ _ (by omega) (by omega),if_neg (by simpa using h)]
   ·(refine ⟨k+1,?_,by first|omega|(simp only;omega),rfl,?_⟩;rotate_left;((try dsimp only [ZK,z0,z1]);repeat (first|exact LeF.nil|refine ZD (k:=?_)));(try dsimp only))
    refine ⟨by omega,?_⟩
    have h5:¬ Z5 l[k]≠0:=by omega
    have h0:(l.take k).getLast?=none:=by
     have:k=0:=by omega
     rw [this];rfl
    rw [h4,if_neg h5,h0]
    rfl
   ·rw [List.drop_of_length_le (by omega)] at h4
    have h4':ZDs none l=0:=h4
    have hs':ZAl l=if ZBP l=true then 7 else 0:=by rw [hs,if_neg (by omega)]
    clear hs h4
    (refine WC.loopU (X:=Nat) (fun i=>[(6,dI (i:Int)),(2,dA),(7,dA),(42,dA),(43,dA),(44,dA),(45,dA),(46,dA),(47,dA),(48,dA),(49,dA),(50,dA),(51,dA),(52,dA),(53,dA),(54,dA),(55,dA),(56,dA),(57,dA),(58,dA),(59,dA),(60,dA),(61,dA),(62,dA),(63,dA),(64,dA),(65,dA),(66,dA),(67,dA)]) (fun i=>[]) (fun i=>l.length-i) (fun i=>i≤l.length/\(List.range i).any (fun i=>(List.range l.length).any (twI l i))=false) 0 ?start ?frame0 ?objs0 ?round)
    case start=>exact ⟨Nat.zero_le _,rfl⟩
    case frame0=>((try dsimp only [ZK,z0,z1]);repeat (first|exact LeF.nil|refine ZD (k:=?_)))
    case objs0=>rfl
    case round =>
     rintro i ⟨h5,h6⟩
     dsimp only [ZK,z0,z1]
     ((repeat' (first|((first|apply WL.opN|apply WD.opN);exact yF;dsimp only [ZC,z0,z1])|refine WL.nil ?_|refine ZA fun Kx hK=>?_|(refine hK _ _ ?_;clear hK)|(refine Kont.skip ?_;clear hK)|refine WC.region ?_|((first|apply ZF|apply WD.op);(focus (first|exact wN|(apply SYG.yes;(exact wY);((first|exact ZA1|exact ZAk|fail);all_goals infer_instance))));dsimp only [ZC,z0,z1])|(apply ZB;(exact oD);all_goals (intro h;try exact xD))|refine WC.skip ?_|refine WC.ret ?_|refine WC.exit ?_|refine WC.block ?_));all_goals (first|refine WC.id ?_|((repeat clear hK);(repeat clear Kx))))
     ·(refine WC.loopU (X:=Nat) (fun j=>[(7,dI (j:Int)),(2,dA),(48,dA),(49,dA),(50,dA),(51,dA),(52,dA),(53,dA),(54,dA),(55,dA),(56,dA),(57,dA),(58,dA),(59,dA),(60,dA),(61,dA),(62,dA),(63,dA),(64,dA),(65,dA),(66,dA),(67,dA)]) (fun j=>[]) (fun j=>l.length-j) (fun j=>j≤l.length/\(List.range j).any (twI l i)=false) 0 ?start ?frame0 ?objs0 ?round)
      case start=>exact ⟨Nat.zero_le _,rfl⟩
      case frame0=>((try dsimp only [ZK,z0,z1]);repeat (first|exact LeF.nil|refine ZD (k:=?_)))
      case objs0=>rfl
      case round =>
       rintro j ⟨h7,h8⟩
       dsimp only [ZK,z0,z1]
       ((repeat' (first|((first|apply WL.opN|apply WD.opN);exact yF;dsimp only [ZC,z0,z1])|refine WL.nil ?_|refine WD.nil ?_|refine ZA fun Kx hK=>?_|(refine hK _ _ ?_;clear hK)|(refine Kont.skip ?_;clear hK)|refine WC.region ?_|(apply WC.draw;kernel_rfl;kernel_rfl)|((first|apply ZF|apply WD.op);(focus (first|exact wN|(apply SYG.yes;(exact wY);((first|(apply SY.call (ZCI _ _) Tryz.call87;(exact aD))|exact ZB5|exact ZA1|exact ZFW|exact ZBN|exact ZB4|exact ZAk|exact ZV|exact ZBT|fail);all_goals infer_instance))));dsimp only [ZC,z0,z1])|((first|refine ZJ rfl rfl rfl (fun h=>?_) (fun h=>?_)|refine ZI rfl rfl rfl (fun h=>?_) (fun h=>?_)|refine ZH rfl rfl rfl (fun h=>?_) (fun h=>?_)|refine ZT rfl rfl rfl (fun h=>?_) (fun h=>?_)|refine ZS rfl rfl rfl (fun h=>?_) (fun h=>?_)|refine ZR rfl rfl rfl (fun h=>?_) (fun h=>?_)) <;> (first|(exfalso;first|omega|contradiction)|(dsimp only [z0,z1])))|(apply ZQ;(exact oD);(with_reducible rfl))|(apply ZB;(exact oD);all_goals (intro h;try exact xD))|(apply WC.cond;(exact oD);all_goals (intro h;try exact xD))|refine WC.skip ?_|refine WC.ret ?_|refine WC.exit ?_|refine WC.block ?_|refine ThenD.n ?_|refine ThenD.r ?_|refine InBlockD.r ?_));all_goals (first|((repeat clear hK);(repeat clear Kx))))
       ·(refine ⟨trivial,_,rfl,?_⟩;refine FinD.i ?_)
        have e:twI l i j=true:=by
         unfold twI
         rw [ZA6 (by omega),ZA6 (by omega),h,decide_eq_true (by omega)];rfl
        rw [hs',if_pos (show ZBP l=true from ZC3 (k:=i) (by omega) (ZC3 (k:=j) (by omega) e))]
       ·(refine ⟨j+1,?_,by first|omega|(simp only;omega),rfl,?_⟩;rotate_left;((try dsimp only [ZK,z0,z1]);repeat (first|exact LeF.nil|refine ZD (k:=?_)));(try dsimp only))
        refine ⟨by omega,?_⟩
        rw [ZAp,h8]
        unfold twI
        rw [ZA6 (by omega),ZA6 (by omega),h,Bool.and_false];rfl
       ·(refine ⟨j+1,?_,by first|omega|(simp only;omega),rfl,?_⟩;rotate_left;((try dsimp only [ZK,z0,z1]);repeat (first|exact LeF.nil|refine ZD (k:=?_)));(try dsimp only))
        refine ⟨by omega,?_⟩
        rw [ZAp,h8]
        unfold twI
        rw [decide_eq_false (by omega)];rfl
       ·rw [show j=l.length by omega] at h8
        (refine ⟨i+1,?_,by first|omega|(simp only;omega),rfl,?_⟩;rotate_left;((try dsimp only [ZK,z0,z1]);repeat (first|exact LeF.nil|refine ZD (k:=?_)));(try dsimp only))
        refine ⟨by omega,?_⟩
        rw [ZAp,h6,h8];rfl
     ·rw [show i=l.length by omega] at h6
      (refine ⟨trivial,_,rfl,?_⟩;refine FinD.i ?_)
      have e:ZBP l=false:=h6
      rw [hs',e];rfl
end
section
theorem ZEJ (s a b:List Vx):ZBH s (a++b)=ZBH (ZBH s a) b:=by unfold ZBH;rw [List.foldl_append]
theorem ZC7 {a:Cx} {k:Nat} (h:k<a.length):ZCP (a.take (k+1))=ZBH (ZCP (a.take k)) a[k]:=by
 unfold ZCP
 rw [Zd h,List.flatten_append,ZEJ]
 simp
end
section
open Go.RowKit
section
variable {P:Program} {ops:Array Oper} {hp:List HObj} {fr:List Dat} {Q:Z6} {rest:List Oper} {T:TypeId} {b k:Nat} {ds:List Dat}
theorem ZP2 {c:Code} {α:Type} {R:Rel α} {_gR:Good R} {v:Value} {xs:List α} {eT:TypeId} {n:Nat} (hk:ds[k]?=some (dX v)) (h:WC P Q c fr (ZAV b T (ds.set k (dS (ArrK n R) xs))::hp)):WC P Q c fr (ZAV b T ds::Z0 v eT n R xs::hp):=WC.of fun P0 B w0 w a hh hf=>by
 obtain ⟨hh1,hI1⟩:=hh.perm (List.Perm.swap _ _ _)
 have hA:ArrK n R (Imm P0 B (ZAV b T ds::hp)) w v xs:=ZCz hh1
 have hh2:=hh1.drop
 have hgr:w.grownBy w (ZAV b T ds).blk:=⟨rfl,rfl,rfl,Nat.le_refl _,fun _ _ _=>rfl⟩
 obtain ⟨cs,c1,c2,c3,c4⟩:=hh2.ok (ZAV b T ds) (by simp)
 have hkl:=(List.getElem?_eq_some_iff.1 hk).1
 have hkc:k<cs.length:=by omega
 have hv:cs[k]=v:=c4 k _ _ (List.getElem?_eq_getElem hkc) hk
 have hok:(ZAV b T (ds.set k (dS (ArrK n R) xs))).ok (fun j=>Imm P0 B (ZAV b T ds::hp) j/\j<w.heap.size) w:=by
  refine ⟨cs,c1,by simp [c2],c3,fun j c e hc he=>?_⟩
  rw [List.getElem?_set] at he
  by_cases hjk:k=j
  ·rw [if_pos hjk,if_pos hkl] at he
   cases he
   subst hjk
   rw [List.getElem?_eq_getElem hkc] at hc
   cases hc
   rw [hv]
   exact (dS (ArrK n R) xs).bound hA
  ·rw [if_neg hjk] at he
   exact e.bound (c4 j c e hc he)
 refine h.on (hh2.write hgr (.inl rfl) hok) (hf.mono fun d u hd=>?_)
 exact Zi (o:=ZAV b T ds) (o':=ZAV b T (ds.set k (dS (ArrK n R) xs))) hgr (.inl rfl) (d.weak hd fun j hj=>Imm.sub j ((hI1 j).1 hj))
theorem ZMj {α:Type} {R:Rel α} {_gR:Good R} {v:Value} {e:TypeId} {n:Nat} {xs:List α} (hm:Z0 v e n R xs∈hp) (h:v.oneCell'=true->WL P ops Q rest fr hp):WL P ops Q rest fr hp:=WL.of fun _ _ _ _ _ hh hf=>by
 refine (h ?_).on hh hf
 obtain ⟨us,_,_,_,⟨_,hv⟩,_⟩:=hh.ok _ hm
 rcases hv with ⟨hv,_⟩|⟨g,cap,cur,hv,_⟩ <;> rw [hv] <;> rfl
theorem ZEH {α:Type} {R:Rel α} {_gR:Good R} {v:Value} {e:TypeId} {xs:List α} (hm:Zp v e R xs∈hp) (h:v.oneCell'=true->WL P ops Q rest fr hp):WL P ops Q rest fr hp:=WL.of fun _ _ _ _ _ hh hf=>by
 refine (h ?_).on hh hf
 obtain ⟨us,_,⟨_,hv⟩,_⟩:=hh.ok _ hm
 rcases hv with ⟨hv,_⟩|⟨g,cap,cur,hv,_⟩ <;> rw [hv] <;> rfl
end

end
section
open Go.RowKit
section
variable {P:Program} {ops:Array Oper} {hp:List HObj} {fr:List Dat} {d:Dat} {dst:Option Tmp} {ty:TypeId} {ps:String} {af:Array Edge} {t e:TypeId} {n:Nat} {z:Value} {bytes:Nat} {ag:Bool}
theorem SW.appK {s y:Operand} (E:ElT P t e n z bytes ag) {α:Type} {R:Rel α} {_gR:Good R} {v:Value} {xs ys:List α} (hs:OpD fr s (dX v)) (hy:OpD fr y (dS (ArrK n R) ys)) (hby:0<bytes)
  (hlen:(xs.length+ys.length)*bytes≤140737488355328) :
  SW P ops (Z0 v e n R xs::hp) (fun v':Value=>Z0 v' e n R (xs++ys)::hp) (fun v'=>dX v') ⟨dst,.call { callee:=.builtin .append,args:=#[s,y],argTypes:=#[t,t] },ty,ps,af,none⟩ fr:=⟨rfl,fun {P0 B w0 w a} hh ho K Q hk=>by
 obtain ⟨ad,cap,hv,c1,c2,c0,c3⟩:=(hy.get (by simp [Op.operands,Call.operands]) ho:ArrK n R _ _ _ _)
 have hm:xs.length+ys.length≤maxLen:=by
  have:(xs.length+ys.length)*1≤(xs.length+ys.length)*bytes:=Nat.mul_le_mul_left _ hby
  simp only [maxLen];omega
 have hse:a.eval s=v:=hs.get (by simp [Op.operands,Call.operands]) ho
 cases ad with
 | none =>
  have hy0:ys=[]:=by
   cases ys with
   | nil=>rfl
   | cons y ys=>obtain ⟨_,_,_,_,_,_,hc,_⟩:=c3 0 (by simp);cases hc
  subst hy0
  obtain ⟨us,_,_,_,hown,_⟩:=hh.ok (Z0 v e n R xs) (by simp)
  have hrun:(execOp a.eval ⟨dst,.call { callee:=.builtin .append,args:=#[s,y],argTypes:=#[t,t] },ty,ps,af,none⟩).run P w = .ok (.value v) w:=by
   have hr:=ZBb (P:=P) (ty:=ty) (w:=w) E hown cap
   have hv':a.eval y = .slice none 0 cap:=hv
   unfold execOp
   simp only [resolve,invoke,builtin,List.map_toArray,List.map_cons,List.map_nil,hse,hv',Sem.run_bind,Sem.run_pure,Result.andThen_ok]
   rw [hr]
   simp
  unfold Oper.wp
  rw [hrun]
  have:=hk v v w
  simp only [List.append_nil] at this
  exact this hh (fun _ _ h=>h) rfl
 | some ad =>
  have hch:∀ k:Nat,∃ cs:List Value,∀ h:k<ys.length,cs.length=n/\(∀ c∈cs,c.oneCell'=true)/\(∀ j c,cs[j]?=some c->w.cell? (ad.add (k*n+j))=some c)/\R (Imm P0 B (Z0 v e n R xs::hp)) w (.agg cs.toArray) ys[k]:=fun k=>by
   by_cases hk:k<ys.length
   ·obtain ⟨cs,b,off,r1,r2,r3,r4,r5,r6⟩:=c3 k hk
    cases r4
    exact ⟨cs,fun _=>⟨r2,r3,fun j c hc=>by rw [Addr.add_lit,<- Nat.add_assoc];exact r6 j c hc,r1⟩⟩
   ·exact ⟨[],fun h=>absurd h hk⟩
  obtain ⟨f,hfch⟩:=Classical.axiomOfChoice hch
  have hmem:∀ u∈(List.range ys.length).map f,∃ j,j<ys.length/\u=f j:=fun u hu=>by
   simp only [List.mem_map,List.mem_range] at hu
   obtain ⟨j,hj,rfl⟩:=hu
   exact ⟨j,hj,rfl⟩
  obtain ⟨v',w',hr,r1,r2,r3⟩:=ZF3 (ty:=ty) E hh (ad:=ad) (c:=cap) (ys:=ys) (news:=(List.range ys.length).map f) (by simp) (fun j u hu=>by
    have hlt:=(List.getElem?_eq_some_iff.1 hu).1
    have hfl:((List.range ys.length).map f).flatten.length=ys.length*n:=by
     rw [ZAz (n:=n) fun u hu=>by obtain ⟨j,hj,rfl⟩:=hmem u hu;exact (hfch j hj).1];simp
    rw [hfl] at hlt
    have hq:j / n<ys.length:=(Nat.div_lt_iff_lt_mul c0).2 hlt
    have hr:j % n<n:=Nat.mod_lt _ c0
    have hj:j=(j / n)*n+j % n:=by rw [Nat.mul_comm];exact (Nat.div_add_mod j n).symm
    have hlen':=(hfch (j / n) hq).1
    have hg:=Z2 (us:=(List.range ys.length).map f) (n:=n) (k:=j / n) (j:=j % n) (fun u hu=>by obtain ⟨j,hj,rfl⟩:=hmem u hu;exact (hfch j hj).1) (by simpa using hq) (c:=(f (j / n))[j % n]'(by omega)) (by simp)
    rw [<- hj,hu] at hg
    cases hg
    have:=(hfch (j / n) hq).2.2.1 (j % n) _ (List.getElem?_eq_getElem (by omega))
    rw [<- hj] at this
    exact this)
   (fun u hu=>by obtain ⟨j,hj,rfl⟩:=hmem u hu;exact ⟨(hfch j hj).1,(hfch j hj).2.1⟩) (fun k h1 h2=>by
    simp only [List.getElem_map,List.getElem_range]
    exact (hfch k h2).2.2.2) hlen hm
  have hrun:(execOp a.eval ⟨dst,.call { callee:=.builtin .append,args:=#[s,y],argTypes:=#[t,t] },ty,ps,af,none⟩).run P w = .ok (.value v') w':=by
   unfold execOp
   simp only [resolve,invoke,builtin,List.map_toArray,List.map_cons,List.map_nil,hse,hv,Sem.run_bind,Sem.run_pure,Result.andThen_ok,hr]
  unfold Oper.wp
  rw [hrun]
  exact hk v' v' w' r1 (fun d u hd=>Zi (o:=Z0 v e n R xs) (o':=Z0 v' e n R (xs++ys)) r2 r3 hd) rfl⟩
end
end
section
open Go.RowKit
section
variable {P:Program} {ops:Array Oper} {hp:List HObj} {fr:List Dat} {d e:Dat} {dst:Option Tmp} {ty:TypeId} {ps:String} {af:Array Edge} {g:Option (Nat × Bool)} {T T1 T2:TypeId} {x y:Operand}
theorem ZUT {i:Operand} {t e:TypeId} {z:Value} {bytes n:Nat} {ag:Bool} (E:ElT P t e n z bytes ag) {α:Type} {R:Rel α} {_gR:Good R} {xs:List α} {k:Nat} {v:α} (hk:k<xs.length) (hv:xs[k]=v) (hx:OpD fr x (dS (ArrK n R) xs)) (hi:OpD fr i (dI (k:Int))):SY P ops hp ⟨dst,.indexAddr t x i,ty,ps,af,g⟩ fr (dP n true (dS R v)):=hv ▸ Zc E hx hi hk
end
end
section
open Go.RowKit

theorem ZBl {l:Cx} (h:∀ s∈l,s.length≤8) (k:Nat):(ZCP (l.take k)).length≤8*k:=by
 have h1:=ZGF (l:=l.take k) fun s hs=>h s (List.mem_of_mem_take hs)
 have h2:=(ZA3 (l.take k).flatten []).2
 have h3:(l.take k).length≤k:=List.length_take_le _ _
 unfold ZCP
 simp only [List.length_nil] at h2
 omega
theorem ZCZ (l:Cx) (h8:∀ s∈l,s.length≤8) (hl:l.length≤100):Fn Tryz.prog 88 [dS Cpx l] (dS ZN (ZCP l)):=by
 (refine ZE Tryz.func88 rfl rfl ?_;simp only [Tryz.ntmps88,List.length_cons,List.length_nil,Nat.reduceAdd,Nat.reduceSub,List.replicate_succ,List.replicate_zero,List.cons_append,List.nil_append])
 (repeat' (first|(apply WL.opN;exact yF;dsimp only [ZC,z0,z1])|refine WL.nil ?_|refine ZA fun Kx hK=>?_|(refine hK _ _ ?_;clear hK)|refine WC.region ?_|(apply WL.opN;(focus ((first|(apply SY.box;(exact oD);(exact hD))|fail);all_goals infer_instance));dsimp only [ZC,z0,z1])|refine WC.block ?_))
 (refine WC.loopU (X:=Nat) (fun k=>[(4,dI (k:Int)),(3,dS ZN (ZCP (l.take k))),(5,dA),(6,dA),(7,dA),(8,dA),(9,dA),(10,dA),(11,dA),(12,dA),(13,dA),(14,dA),(15,dA),(16,dA),(17,dA),(18,dA)]) (fun k=>[]) (fun k=>l.length-k) (fun k=>k≤l.length) 0 ?start ?frame0 ?objs0 ?round)
 case start=>exact Nat.zero_le _
 case frame0=>((try dsimp only [ZK,z0,z1]);repeat (first|exact LeF.nil|refine ZD (k:=?_)))
 case objs0=>rfl
 case round =>
  rintro k h1
  have hp:=ZBl h8 k
  dsimp only [ZK,z0,z1]
  by_cases hk:k<l.length
  ·have c1:=ZHB (ZCP (l.take k)) l[k] (by omega) (by have:=h8 _ (List.getElem_mem hk);omega)
   rw [<- ZC7 hk] at c1
   ((repeat' (first|(apply WL.opN;exact yF;dsimp only [ZC,z0,z1])|refine WL.nil ?_|refine ZA fun Kx hK=>?_|(refine hK _ _ ?_;clear hK)|refine WC.region ?_|(apply WL.opN;(focus ((first|(apply SY.call (c1) Tryz.call126;(exact aD))|((first|apply SY.move|apply SY.assign|apply SY.lss) <;> (exact oD))|((first|apply SY.add) <;> first|exact oD|omega)|(apply SY.len;(exact oD);(exact nD);(exact uD))|(apply SY.ix;(exact eD);(exact oD);(exact oD);exact kD)|(apply ZBg ZIz;exact OpD.t rfl)|fail);all_goals infer_instance));dsimp only [ZC,z0,z1])|(apply ZB;(exact oD);all_goals (intro h;try exact xD))|refine WC.skip ?_|refine WC.block ?_|refine ThenD.n ?_));all_goals (first|((repeat clear hK);(repeat clear Kx))))
   (refine ⟨k+1,?_,by first|omega|(simp only;omega),rfl,?_⟩;rotate_left;((try dsimp only [ZK,z0,z1]);repeat (first|exact LeF.nil|refine ZD (k:=?_)));(try dsimp only))
   omega
  ·((repeat' (first|(apply WL.opN;exact yF;dsimp only [ZC,z0,z1])|refine WL.nil ?_|refine ZA fun Kx hK=>?_|(refine hK _ _ ?_;clear hK)|(refine Kont.skip ?_;clear hK)|refine WC.region ?_|(apply WL.opN;(focus ((first|((first|apply SY.move|apply SY.assign|apply SY.lss) <;> (exact oD))|(apply SY.len;(exact oD);(exact nD);(exact uD))|(apply ZBg ZIz;exact OpD.t rfl)|fail);all_goals infer_instance));dsimp only [ZC,z0,z1])|(apply ZB;(exact oD);all_goals (intro h;try exact xD))|refine WC.ret ?_|refine WC.exit ?_));all_goals (first|((repeat clear hK);(repeat clear Kx))))
   rw [List.take_of_length_le (by omega)]
   (refine ⟨trivial,_,rfl,?_⟩;exact fD)
theorem ZPM (l:List Int):Fn Tryz.prog 56 [dS ZAa l,dS ZAa l] (dB true):=by
 (refine ZE Tryz.func56 rfl rfl ?_;simp only [Tryz.ntmps56,List.length_cons,List.length_nil,Nat.reduceAdd,Nat.reduceSub,List.replicate_succ,List.replicate_zero,List.cons_append,List.nil_append])
 (first|refine ZU (t:=0) rfl ZDX fun hl0=>?_|refine ZU (t:=0) rfl ZDE fun hl0=>?_|refine ZU (t:=0) rfl ZIJ fun hl0=>?_);simp only [maxLen] at hl0
 (repeat' (first|((first|apply WL.opN|apply WD.opN);exact yF;dsimp only [ZC,z0,z1])|refine WL.nil ?_|refine ZA fun Kx hK=>?_|(refine hK _ _ ?_;clear hK)|refine WC.region ?_|((first|apply WL.opN|apply WD.opN);(focus ((first|((first|apply SY.move|apply SY.assign|apply SY.lss|apply SY.neq) <;> (exact oD))|(apply SY.len;(exact oD);(exact nD);(exact uD))|fail);all_goals infer_instance));dsimp only [ZC,z0,z1])|(apply ZG;(exact oD);all_goals (intro h;try exact xD))|refine WC.skip ?_|refine WC.block ?_))
 (refine WC.loopU (X:=Nat) (fun k=>[(5,dI (k:Int)),(4,dA),(11,dA),(12,dA),(13,dA),(14,dA),(15,dA),(16,dA),(17,dA),(18,dA),(19,dA),(20,dA),(21,dA),(22,dA),(23,dA),(24,dA),(25,dA)]) (fun k=>[]) (fun k=>l.length-k) (fun k=>k≤l.length) 0 ?start ?frame0 ?objs0 ?round)
 case start=>exact Nat.zero_le _
 case frame0=>((try dsimp only [ZK,z0,z1]);repeat (first|exact LeF.nil|refine ZD (k:=?_)))
 case objs0=>rfl
 case round =>
  rintro k h1
  dsimp only [ZK,z0,z1]
  by_cases hk:k<l.length
  ·((repeat' (first|((first|apply WL.opN|apply WD.opN);exact yF;dsimp only [ZC,z0,z1])|refine WL.nil ?_|refine WD.nil ?_|refine ZA fun Kx hK=>?_|(refine hK _ _ ?_;clear hK)|refine WC.region ?_|(apply WC.draw;kernel_rfl;kernel_rfl)|((first|apply WL.opN|apply WD.opN);(focus ((first|((first|apply SY.move|apply SY.assign|apply SY.lss|apply SY.neq) <;> (exact oD))|((first|apply SY.add) <;> first|exact oD|omega)|(apply SY.len;(exact oD);(exact nD);(exact uD))|(apply SY.ix;(exact eD);(exact oD);(exact oD);exact kD)|fail);all_goals infer_instance));dsimp only [ZC,z0,z1])|(apply ZB;(exact oD);all_goals (intro h;try exact xD))|(apply ZG;(exact oD);all_goals (intro h;try exact xD))|refine WC.skip ?_|refine WC.block ?_|refine ThenD.n ?_));all_goals (first|((repeat clear hK);(repeat clear Kx))))
   all_goals first
    | (exfalso;omega)
    | ((refine ⟨k+1,?_,by first|omega|(simp only;omega),rfl,?_⟩;rotate_left;((try dsimp only [ZK,z0,z1]);repeat (first|exact LeF.nil|refine ZD (k:=?_)));(try dsimp only));omega)
  ·((repeat' (first|((first|apply WL.opN|apply WD.opN);exact yF;dsimp only [ZC,z0,z1])|refine WL.nil ?_|refine ZA fun Kx hK=>?_|(refine hK _ _ ?_;clear hK)|(refine Kont.skip ?_;clear hK)|refine WC.region ?_|((first|apply WL.opN|apply WD.opN);(focus ((first|((first|apply SY.move|apply SY.assign|apply SY.lss|apply SY.neq) <;> (exact oD))|(apply SY.len;(exact oD);(exact nD);(exact uD))|fail);all_goals infer_instance));dsimp only [ZC,z0,z1])|(apply ZB;(exact oD);all_goals (intro h;try exact xD))|refine WC.ret ?_|refine WC.exit ?_));all_goals (first|((repeat clear hK);(repeat clear Kx))))
   all_goals first
    | (exfalso;omega)
    | (refine ⟨trivial,_,rfl,?_⟩;exact fD)
end
section
open Go.RowKit

set_option maxHeartbeats 4000000 in
theorem ZT4 (vs:List Vx) (A:List Int):Fn Tryz.prog 22 [dS Lab (vs,A),dS Lab (vs,A)] (dB true):=by
 have c1:=ZL9 vs vs
 rw [decide_eq_true (ZBY.2 rfl)] at c1
 have c2:=ZPM A
 (refine ZE Tryz.func22 rfl rfl ?_;simp only [Tryz.ntmps22,List.length_cons,List.length_nil,Nat.reduceAdd,Nat.reduceSub,List.replicate_succ,List.replicate_zero,List.cons_append,List.nil_append])
 ((repeat' (first|(apply WL.opN;exact yF;dsimp only [ZC,z0,z1])|refine WL.nil ?_|refine ZA fun Kx hK=>?_|(refine hK _ _ ?_;clear hK)|refine WC.region ?_|(apply ZF;(focus (first|exact wN|(apply SYG.yes;(exact wY);((first|(refine ZP Zx (OpD.t rfl) Zh rfl rfl)|(apply SY.load;exact ZBv;exact OpD.t rfl)|(apply SY.call (c1) Tryz.call38;(exact aD))|(apply SY.call (c2) Tryz.call56;(exact aD))|(apply ZY;(exact oD);(with_reducible rfl);(exact oD))|(apply SY.box;(exact oD);(exact hD))|fail);all_goals infer_instance))));dsimp only [ZC,z0,z1])|refine WC.ret ?_));all_goals (first|((repeat clear hK);(repeat clear Kx))))
 all_goals try (exfalso;first|contradiction|omega)
 (refine ⟨trivial,_,rfl,?_⟩;exact fD)
end
section
theorem ZXI {V:List Vx} {v:Vx}:0≤ZFc V v↔v∈V:=by
 have h:=ZGH (p:=fun y=>decide (v=y)) V 0
 have e:(0≤ZFc V v)↔decide (0≤ZI0 (fun y=>decide (v=y)) 0 V)=true:=by rw [decide_eq_true_eq];rfl
 rw [e,h,List.any_eq_true]
 exact ⟨fun ⟨x,h1,h2⟩=>(of_decide_eq_true h2) ▸ h1,fun h=>⟨v,h,decide_eq_true rfl⟩⟩
theorem ZOD {V:List Vx} (hV:V.Nodup) {k:Nat} (h:k<V.length):ZFc V V[k]=(k:Int):=by
 obtain ⟨j,h1,h2,h3⟩:=ZKR (ZXI.2 (List.getElem_mem h))
 rw [h1,(List.getElem_inj hV).1 h3]
def ZDb (s:List Vx) (out:List Vx) (p:Vx × List Vx):List Vx:=if p.1∈s then ZBH out p.2 else out
def unR (V:List Vx) (C:Cx) (s:List Vx):List Vx:=(V.zip C).foldl (ZDb s) []
theorem ZRK {V:List Vx} {C:Cx} {x:Vx}:∀ (s out:List Vx),x∈s.foldl (ZJC V C) out↔x∈out\/∃ v∈s,0≤ZFc V v/\x∈C[(ZFc V v).toNat]?.getD []
 | [],out=>by simp
 | v::s,out=>by
  rw [List.foldl_cons,ZRK s]
  have e:x∈ZJC V C out v↔x∈out\/(0≤ZFc V v/\x∈C[(ZFc V v).toNat]?.getD []):=by
   unfold ZJC
   by_cases h:0≤ZFc V v
   ·rw [if_pos h,List.mem_append];simp [h]
   ·rw [if_neg h];simp [h]
  rw [e]
  simp only [List.mem_cons,exists_eq_or_imp,or_assoc]
theorem ZLr {s:List Vx} {x:Vx}:∀ (L:List (Vx × List Vx)) (out:List Vx),x∈L.foldl (ZDb s) out↔x∈out\/∃ p∈L,p.1∈s/\x∈p.2
 | [],out=>by simp
 | p::L,out=>by
  rw [List.foldl_cons,ZLr L]
  have e:x∈ZDb s out p↔x∈out\/(p.1∈s/\x∈p.2):=by
   unfold ZDb
   by_cases h:p.1∈s
   ·rw [if_pos h,ZFO];simp [h]
   ·rw [if_neg h];simp [h]
  rw [e]
  simp only [List.mem_cons,exists_eq_or_imp,or_assoc]
theorem ZLI {s:List Vx}:∀ (L:List (Vx × List Vx)) {out:List Vx},Asc out->Asc (L.foldl (ZDb s) out)
 | [],_,h=>h
 | p::L,out,h=>by
  rw [List.foldl_cons]
  refine ZLI L ?_
  unfold ZDb
  split
  ·exact ZF4 h
  ·exact h
theorem ZNE (V:List Vx) (C:Cx) (s:List Vx):Asc (unR V C s):=ZLI _ (by simp [Asc])
theorem ZMF (s:List Vx):∀ (L:List (Vx × List Vx)) (out:List Vx),(∀ p∈L,p.2.length≤8)->(L.foldl (ZDb s) out).length≤out.length+8*L.length
 | [],out,_=>by simp
 | p::L,out,h=>by
  rw [List.foldl_cons]
  have h1:=ZMF s L (ZDb s out p) fun q hq=>h q (by simp [hq])
  have h2:(ZDb s out p).length≤out.length+8:=by
   unfold ZDb
   split
   ·have:=ZA3 p.2 out
    have:=h p (by simp)
    omega
   ·omega
  simp only [List.length_cons]
  omega
theorem ZKG {V:List Vx} {C:Cx} {s:List Vx} {x:Vx}:x∈unR V C s↔∃ (k:Nat) (h:k<V.length) (h':k<C.length),V[k]∈s/\x∈C[k]:=by
 unfold unR
 rw [ZLr]
 constructor
 ·rintro (h|⟨p,hp,h1,h2⟩)
  ·cases h
  ·obtain ⟨k,hk,rfl⟩:=List.mem_iff_getElem.1 hp
   rw [List.length_zip] at hk
   rw [List.getElem_zip] at h1 h2
   exact ⟨k,by omega,by omega,h1,h2⟩
 ·rintro ⟨k,h,h',h1,h2⟩
  exact .inr ⟨(V[k],C[k]),List.mem_iff_getElem.2 ⟨k,by rw [List.length_zip];omega,by rw [List.getElem_zip]⟩,h1,h2⟩
theorem ZTi {V:List Vx} {C:Cx} (hV:V.Nodup) (hl:C.length=V.length) {s:List Vx} {x:Vx}:x∈ZMn V C s↔x∈unR V C s:=by
 unfold ZMn
 rw [ZRK,ZKG]
 constructor
 ·rintro (h|⟨v,h1,h2,h3⟩)
  ·cases h
  ·obtain ⟨j,e,hj,rfl⟩:=ZKR h2
   rw [e,Int.toNat_natCast,List.getElem?_eq_getElem (by omega),Option.getD_some] at h3
   exact ⟨j,hj,by omega,h1,h3⟩
 ·rintro ⟨k,h,h',h1,h2⟩
  refine .inr ⟨V[k],h1,?_,?_⟩
  ·rw [ZOD hV h];omega
  ·rw [ZOD hV h,Int.toNat_natCast,List.getElem?_eq_getElem h',Option.getD_some];exact h2
theorem ZXV {V:List Vx} {C:Cx} (hV:Asc V) (hl:C.length=V.length) (hc:∀ c∈C,Z5 c=0) (s:List Vx):unP V C s=if 8<(unR V C s).length then [] else unR V C s:=by
 have hm:=fun x=>ZTi (ZEo hV) hl (s:=s) (x:=x)
 have e:ZBH [] (ZMn V C s)=unR V C s:=asc_ext (ZF4 (by simp [Asc])) (ZNE _ _ _) fun x=>by rw [ZFO,hm];simp
 have hr:(ZMn V C s).all ZCL=true:=List.all_eq_true.2 fun x hx=>by
  obtain ⟨k,h,h',_,h2⟩:=ZKG.1 ((hm x).1 hx)
  exact (Ze.1 (hc _ (List.getElem_mem h'))).2.2.1 x h2
 unfold unP ofV
 rw [e]
 by_cases h0:(ZMn V C s).length=0
 ·have:ZMn V C s=[]:=List.length_eq_zero_iff.1 h0
  rw [this] at e
  rw [if_pos h0,<- e]
  rfl
 ·rw [if_neg h0,if_neg (show ¬ (ZMn V C s).all ZCL=false by rw [hr];decide)]
  by_cases h8:8<(unR V C s).length
  ·rw [if_pos h8,if_pos h8];rfl
  ·rw [if_neg h8,if_neg h8];rfl
def okR (c:Cx) (V:List Vx) (C:Cx) (f:List Vx):Bool:=ZA8 c (unR V C f)
theorem ZVc {c:Cx} (hc:ZAl c=0) {t:List Vx} (ht:Asc t) (h:ZA8 c t=true):t.length≤8:=by
 obtain ⟨g,hg,h1⟩:=List.any_eq_true.1 h
 have h2:=(ZAA.1 hc).short g hg
 have h3:t.length≤g.length:=List.Nodup.length_le_of_subset (ZEo ht) fun x hx=>of_decide_eq_true (List.all_eq_true.1 h1 x hx)
 omega
theorem ZVr {c:Cx} {V:List Vx} {C:Cx} (hc:ZAl c=0) (hV:Asc V) (hl:C.length=V.length) (hC:∀ s∈C,Z5 s=0) {f:List Vx} (hf:f≠[]) (hs:∀ v∈f,v∈V):okP c V C f=okR c V C f:=by
 have hne:unR V C f≠[]:=by
  obtain ⟨v,g,rfl⟩:∃ v g,f=v::g:=by cases f with|nil=>exact absurd rfl hf|cons v g=>exact ⟨v,g,rfl⟩
  obtain ⟨k,hk,hv⟩:=List.mem_iff_getElem.1 (hs v (by simp))
  have h1:=(Ze.1 (hC _ (List.getElem_mem (show k<C.length by omega)))).1
  obtain ⟨x,r,e⟩:∃ x r,C[k]'(by omega)=x::r:=by cases h:C[k]'(by omega) with|nil=>rw [h] at h1;exact absurd rfl h1|cons x r=>exact ⟨x,r,rfl⟩
  intro e0
  have:x∈unR V C (v::g):=ZKG.2 ⟨k,hk,by omega,by rw [hv];simp,by rw [e];simp⟩
  rw [e0] at this;cases this
 unfold okP okR
 rw [ZXV hV hl hC]
 by_cases h8:8<(unR V C f).length
 ·rw [if_pos h8]
  have e1:ZA8 c (unR V C f)=false:=by
   by_cases h:ZA8 c (unR V C f)=true
   ·have:=ZVc hc (ZNE _ _ _) h;omega
   ·simpa using h
  rw [e1]
  unfold ZEt plC
  rw [if_neg (show ¬ ZAl c≠0 by omega)]
  rfl
 ·rw [if_neg h8]
  have e1:Z5 (unR V C f)=0:=Ze.2 ⟨fun h=>hne (List.length_eq_zero_iff.1 h),by omega,fun x hx=>by
   obtain ⟨k,h,h',_,h2⟩:=ZKG.1 hx
   exact (Ze.1 (hC _ (List.getElem_mem h'))).2.2.1 x h2,ZNE _ _ _⟩
  unfold ZEt plC
  rw [if_neg (show ¬ ZAl c≠0 by omega),e1]
  simp
theorem ZTO (c F:Cx) (V:List Vx) (C:Cx):ZBi (okP c V C) c F V C=ZBi (okR c V C) c F V C:=by
 unfold ZBi
 by_cases h1:ZAl c≠0
 ·rw [if_pos h1,if_pos h1]
 rw [if_neg h1,if_neg h1]
 by_cases h2:ZAl F≠0
 ·rw [if_pos h2,if_pos h2]
 rw [if_neg h2,if_neg h2]
 by_cases h3:V=ZCP F/\C.length=V.length
 ·rw [if_neg (not_not_intro h3),if_neg (not_not_intro h3)]
  by_cases h4:ZLL c C≠0
  ·rw [if_pos h4,if_pos h4]
  rw [if_neg h4,if_neg h4]
  have hC:=ZF5 (show ZLL c C=0 by omega)
  have e:F.all (okP c V C)=F.all (okR c V C):=by
   rw [Bool.eq_iff_iff,List.all_eq_true,List.all_eq_true]
   have key:∀ f∈F,okP c V C f=okR c V C f:=fun f hf=>ZVr (by omega) (h3.1 ▸ ZOE F) h3.2 (fun s hs=>(hC s hs).1) (fun e=>by
    have:=(Ze.1 ((ZAA.1 (show ZAl F=0 by omega)).2.2.1 f hf)).1
    rw [e] at this;exact this rfl) fun v hv=>h3.1 ▸ ZDK.2 ⟨f,hf,hv⟩
   exact ⟨fun h f hf=>key f hf ▸ h f hf,fun h f hf=>(key f hf).symm ▸ h f hf⟩
  rw [e]
 ·rw [if_pos h3,if_pos h3]
end
end Go.Proofs.YtofkoleingbbpaaGreatDoor
