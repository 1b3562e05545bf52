/- Part 1: walks by contracts, and plain laws. -/
import Derived.Test.YtofkoleingbbpaaGreatDoorWa29
set_option linter.unusedVariables false
set_option linter.unusedSimpArgs false
set_option linter.unusedSectionVars false
set_option maxRecDepth 100000
set_option maxHeartbeats 4000000
namespace Go.Proofs.YtofkoleingbbpaaGreatDoor
section
open Go.RowKit

theorem cvU8 (c:Int) (h:0≤c/\c≤255):∀ w,(convert 5 3 (.int .u8 c)).run Tryz.prog w = .ok (.int .i64 c) w:=by
 have hw:IntKind.i64.wrap c=c:=by rw [IntKind.wrap_i64];omega
 intro w;go_simp
end
section
open Go.RowKit

theorem ZEe (x:Vx):Fn Tryz.prog 41 [dS RV x] (dB (ZCL x)):=by
 (refine ZE Tryz.func41 rfl rfl ?_;simp only [Tryz.ntmps41,List.length_cons,List.length_nil,Nat.reduceAdd,Nat.reduceSub,List.replicate_succ,List.replicate_zero,List.cons_append,List.nil_append])
 ((repeat' (first|(apply WL.opN;exact yF;dsimp only [ZC,z0,z1])|refine WL.nil ?_|refine ZA fun Kx hK=>?_|(refine hK _ _ ?_;clear hK)|refine WC.region ?_|(apply ZF;(focus (first|exact wN|(apply SYG.yes;(exact wY);((first|exact ZA1|exact ZMb|exact ZJX|exact ZB4|exact Zy|exact ZBT|exact ZDO|fail);all_goals infer_instance))));dsimp only [ZC,z0,z1])|((first|refine ZJ rfl rfl rfl (fun h=>?_) (fun h=>?_)|refine ZI rfl rfl rfl (fun h=>?_) (fun h=>?_)|refine ZH rfl rfl rfl (fun h=>?_) (fun h=>?_)) <;> (first|(exfalso;first|omega|contradiction)|(dsimp only [z0,z1])))|refine WC.ret ?_));all_goals (first|((repeat clear hK);(repeat clear Kx))))
 all_goals ((refine ⟨trivial,_,rfl,?_⟩;refine FinD.b ?_);unfold ZCL;simp [*])
end
end Go.Proofs.YtofkoleingbbpaaGreatDoor
namespace Go.Proofs
section
open Go.Shelf
end
end Go.Proofs
namespace Go.Proofs.YtofkoleingbbpaaGreatDoor
section
theorem ZDR {a:Nat} (h:a<9223372036854775808):(BitVec.ofInt 64 (a:Int)).toNat=a:=by
 rw [BitVec.ofInt_natCast,BitVec.toNat_ofNat]
 exact Nat.mod_eq_of_lt (by omega)
theorem ZD9 {a:Nat} (h:a<9223372036854775808):IntKind.i64.wrap (a:Int)=(a:Int):=ZEb (by omega)
theorem ZIH {a b:Nat} (ha:a<9223372036854775808) (hb:b<9223372036854775808):ZMx (a:Int) (b:Int)=((a &&& b:Nat):Int):=by
 unfold ZMx
 rw [BitVec.toNat_and,ZDR ha,ZDR hb]
 exact ZD9 (Nat.lt_of_le_of_lt Nat.and_le_left ha)
theorem ZRS {a b:Nat} (ha:a<9223372036854775808) (hb:b<9223372036854775808):a ||| b<9223372036854775808 :=
 Nat.or_lt_two_pow (n:=63) ha hb
theorem ZGI {a b:Nat} (ha:a<9223372036854775808) (hb:b<9223372036854775808):ior (a:Int) (b:Int)=((a ||| b:Nat):Int):=by
 unfold ior
 rw [BitVec.toNat_or,ZDR ha,ZDR hb]
 exact ZD9 (ZRS ha hb)
theorem ZT7 {a k:Nat} (hk:k≤64):ZNr (a:Int) (k:Int)=((a >>> k:Nat):Int):=by
 unfold ZNr
 rw [Int.toNat_natCast,Nat.min_eq_left hk,Nat.shiftRight_eq_div_pow]
 have:(2:Int) ^ k=((2 ^ k:Nat):Int):=by rw [Int.natCast_pow];rfl
 rw [this]
 exact Int.ofNat_fdiv a (2 ^ k) |>.symm
end
section
theorem ZEo {a:List Vx} (h:Asc a):a.Nodup:=List.Pairwise.imp (fun {x y} hxy e=>by
 subst e
 have:=ZCE.2 (rfl:x=x)
 omega) h
end
section
theorem ZCa {f s:List Vx} (hf:Asc f) (hs:Asc s):f.Sublist s↔Zw f s=true:=by
 constructor
 ·intro h
  unfold Zw
  rw [List.all_eq_true]
  intro x hx
  simpa using h.subset hx
 ·intro h
  have hsub:∀ x∈f,x∈s:=fun x hx=>by
   have:=List.all_eq_true.1 h x hx
   simpa using this
  have e:ZE6 s f true=f:=asc_ext (ZFD hs) hf fun x=>by
   rw [ZFP]
   constructor
   ·intro ⟨_,h⟩;simpa using h
   ·intro hx;exact ⟨hsub x hx,by simpa using hx⟩
  rw [<- e];exact ZD6
end
section
open Go.RowKit

section
variable {P:Program}
def fin3 (t u v:Nat) (r s q:Dat):Z6:=fun e fr hp=>(match e with|.normal|.ret=>True|_=>False)/\(∃ d,fr[t]?=some d/\FinD hp d r)/\(∃ d,fr[u]?=some d/\FinD hp d s)/\∃ d,fr[v]?=some d/\FinD hp d q
theorem ZB7 {f:FuncId} {fn:Func} {c:Code} {args:List Dat} {r s q:Dat} {t u v:Tmp} (hf:P.funcs[f]?=some fn) (hb:fn.body=some c) (hr:fn.results=#[.tmp t,.tmp u,.tmp v])
  (h:WC P (fin3 t u v r s q) c (args++List.replicate (fn.ntmps-args.length) (dX undef)) []):Fn P f args (dT [r,s,q]) :=
 ZCe hf hb (fun e fr hp q=>by
  obtain ⟨he,⟨d,hd,hfin⟩,⟨d',hd',hfin'⟩,d2,hd2,hfin2⟩:=q
  refine ⟨by cases e <;> simp_all,fun {P0 B w0 w a} hh hf'=>⟨_,ZEV hr _ _,[a.tmps.getD t undef,a.tmps.getD u undef,a.tmps.getD v undef],rfl,rfl,fun i e x he hx=>?_⟩⟩
  match i,he,hx with
  | 0,he,hx=>cases he;cases hx;exact hfin.out hh (hf'.rd t d hd)
  | 1,he,hx=>cases he;cases hx;exact hfin'.out hh (hf'.rd u d' hd')
  | 2,he,hx=>cases he;cases hx;exact hfin2.out hh (hf'.rd v d2 hd2)) h
end
end
section
theorem ZLj {a b c:List Vx} (h:Zw a b=true) (k:Zw b c=true):Zw a c=true:=by
 unfold Zw at *
 rw [List.all_eq_true] at *
 intro x hx
 exact k x (of_decide_eq_true (h x hx))
theorem ZJM {a b:List Vx}:Zw a b=true↔∀ x∈a,x∈b:=by
 unfold Zw
 rw [List.all_eq_true]
 exact ⟨fun h x hx=>of_decide_eq_true (h x hx),fun h x hx=>decide_eq_true (h x hx)⟩
theorem ZHu {l:Cx} (hl:∀ s∈l,Asc s) {k:Nat} {x:List Vx}:x∈ZAt l k↔Asc x/\x.length=k/\ZA8 l x=true:=by
 rw [ZCf,ZFM]
 constructor
 ·rintro ⟨f,hf,hx⟩
  obtain ⟨h1,h2⟩:=(ZAo _ _ _).1 hx
  have ha:Asc x:=List.Pairwise.sublist h1 (hl f hf)
  exact ⟨ha,h2,f,hf,(ZCa ha (hl f hf)).1 h1⟩
 ·rintro ⟨ha,h2,f,hf,h⟩
  exact ⟨f,hf,(ZAo _ _ _).2 ⟨(ZCa ha (hl f hf)).2 h,h2⟩⟩
end
section
theorem dblC {α β:Type} (R:α->β->Bool):∀ (A:List α) (B:List β),(A.map fun a=>(B.filter (R a)).length).sum=(B.map fun b=>(A.filter fun a=>R a b).length).sum
 | [],B=>by
  induction B with
  | nil=>rfl
  | cons b B ih=>rw [List.map_cons,List.sum_cons,<- ih];rfl
 | a::A,B=>by
  rw [List.map_cons,List.sum_cons,dblC R A B]
  clear dblC
  induction B with
  | nil=>rfl
  | cons b B ih =>
   rw [List.map_cons,List.sum_cons,List.map_cons,List.sum_cons,<- ih]
   by_cases h:R a b=true
   ·rw [List.filter_cons_of_pos h,List.filter_cons_of_pos (by exact h),List.length_cons,List.length_cons];omega
   ·rw [List.filter_cons_of_neg h,List.filter_cons_of_neg (by exact h)];omega
theorem ZSK {α:Type} {f:α->Nat} {p:α->Bool}:∀ {A:List α},(∀ a∈A,f a % 2=if p a=true then 1 else 0)->(A.map f).sum % 2=(A.filter p).length % 2
 | [],_=>rfl
 | a::A,h=>by
  have h1:=h a (List.mem_cons_self ..)
  have h2:=ZSK (A:=A) fun b hb=>h b (List.mem_cons_of_mem _ hb)
  rw [List.map_cons,List.sum_cons]
  by_cases hp:p a=true
  ·rw [if_pos hp] at h1
   rw [List.filter_cons_of_pos hp,List.length_cons];omega
  ·rw [if_neg hp] at h1
   rw [List.filter_cons_of_neg hp];omega
end
section
def ZSj (x:Int):Prop:=x=1\/x=2\/x=4
end
section
open Go.RowKit
section
variable {P:Program} {ops:Array Oper} {hp:List HObj} {fr:List Dat} {dst:Option Tmp} {ty:TypeId} {ps:String} {af:Array Edge} {g:Option (Nat × Bool)} {T T2:TypeId} {x y:Operand} {a b:Nat}
theorem ZU1 (ha:a<9223372036854775808) (hb:b<9223372036854775808) (hx:OpD fr x (dI (a:Int))) (hy:OpD fr y (dI (b:Int))):SY P ops hp ⟨dst,.binOp .and T x y T2,ty,ps,af,g⟩ fr (dI ((a &&& b:Nat):Int)):=by
 have h:=SY.and (P:=P) (ops:=ops) (hp:=hp) (dst:=dst) (ty:=ty) (ps:=ps) (af:=af) (g:=g) (T:=T) (T2:=T2) hx hy
 rwa [ZIH ha hb] at h
theorem ZJg (hb:b≤64) (hx:OpD fr x (dI (a:Int))) (hy:OpD fr y (dI (b:Int))):SY P ops hp ⟨dst,.binOp .shr T x y T2,ty,ps,af,g⟩ fr (dI ((a >>> b:Nat):Int)):=by
 have h:=SY.shr (P:=P) (ops:=ops) (hp:=hp) (dst:=dst) (ty:=ty) (ps:=ps) (af:=af) (g:=g) (T:=T) (T2:=T2) hx hy (by omega)
 rwa [ZT7 hb] at h
theorem ZJb {m i:Nat} (hm:m<9223372036854775808) (hx:OpD fr x (dI ((m >>> i:Nat):Int))):SY P ops hp ⟨dst,.binOp .and T x (.const (.int .i64 1)) T2,ty,ps,af,g⟩ fr (dI (((m >>> i) &&& 1:Nat):Int)) :=
 ZU1 (a:=m >>> i) (b:=1) (Nat.lt_of_le_of_lt (by rw [Nat.shiftRight_eq_div_pow];exact Nat.div_le_self _ _) hm) (by decide) hx OpD.i
end
def ZBQ (bl:List Nat):List Int:=bl.map fun b:Nat=>(b:Int)
theorem ZEz (bl:List Nat):(ZBQ bl).length=bl.length:=by simp [ZBQ]
theorem ZRA {bl:List Nat} {k:Nat} (h:k<bl.length) (h':k<(ZBQ bl).length):(ZBQ bl)[k]=(bl[k]:Int):=by simp [ZBQ]
section
variable {P:Program} {ops:Array Oper} {hp:List HObj} {fr:List Dat} {dst:Option Tmp} {ty:TypeId} {ps:String} {af:Array Edge} {g:Option (Nat × Bool)} {x i:Operand} {t e:TypeId} {z:Value} {bytes:Nat}
theorem ZUS (E:ElT P t e 1 z bytes false) {bl:List Nat} {k:Nat} (hx:OpD fr x (dS ZAa (ZBQ bl))) (hi:OpD fr i (dI (k:Int))) (hk:k<bl.length):SY P ops hp ⟨dst,.indexAddr t x i,ty,ps,af,g⟩ fr (dP 1 false (dI ((bl[k]:Nat):Int))):=by
 have h:=SY.ix (R:=RI) (_gR:=inferInstance) (P:=P) (ops:=ops) (hp:=hp) (dst:=dst) (ty:=ty) (ps:=ps) (af:=af) (g:=g) E hx hi (by rw [ZEz];exact hk)
 rwa [ZRA hk] at h
end
end
section
def ZGZ (set k:Nat):Nat:=if (set >>> k) &&& 1=0 then (k+1) % 8 else k
def ZHJ (set:Nat):Nat->Nat->Nat
 | 0,k=>k
 | n+1,k=>ZHJ set n (ZGZ set k)
theorem ZRz (set:Nat):∀ (n k:Nat),k<8->ZHJ set n k<8
 | 0,_,h=>h
 | n+1,k,h=>ZRz set n _ (by unfold ZGZ;split <;> omega)
theorem ZIc (set:Nat):∀ (n k:Nat),ZHJ set (n+1) k=ZGZ set (ZHJ set n k)
 | 0,_=>rfl
 | n+1,k=>by
  show ZHJ set (n+1) (ZGZ set k)=ZGZ set (ZHJ set n (ZGZ set k))
  exact ZIc set n (ZGZ set k)
theorem ZR0:∀ (set:Fin 256) (k:Fin 8),set.val≠0->(set.val >>> ZHJ set.val 8 k.val) &&& 1=1:=by decide +kernel
theorem ZR9:∀ k:Fin 8,ZRB 1 (k.val:Int)=((2 ^ k.val:Nat):Int):=by decide +kernel
end
section
open Go.RowKit
section
variable {P:Program} {ops:Array Oper} {hp:List HObj} {fr:List Dat} {Q:Z6} {rest:List Oper} {T:TypeId} {b k:Nat} {ds:List Dat}
theorem ZEH {α:Type} {R:Rel α} {_gR:Good R} {v:Value} {e:TypeId} {xs:List α} (hm:Zp v e R xs∈hp) (h:v.oneCell'=true->WL P ops Q rest fr hp):WL P ops Q rest fr hp:=WL.of fun _ _ _ _ _ hh hf=>by
 refine (h ?_).on hh hf
 obtain ⟨us,_,⟨_,hv⟩,_⟩:=hh.ok _ hm
 rcases hv with ⟨hv,_⟩|⟨g,cap,cur,hv,_⟩ <;> rw [hv] <;> rfl
end

end
section
open Go.RowKit

theorem ZIP (w:World):(Instr.build 93 #[]).run Tryz.prog w = .ok (.agg #[.slice none 0 0,.nilFunc]) w:=by go_simp
section
variable {ops:Array Oper} {hp:List HObj} {fr:List Dat} {dst:Option Tmp} {ty:TypeId} {ps:String} {af:Array Edge} {g:Option (Nat × Bool)}
theorem ZBU:SY Tryz.prog ops hp ⟨dst,.build 93 #[],ty,ps,af,g⟩ fr (dX (.agg #[.slice none 0 0,.nilFunc])):=SY.val fun {I w a} ho=>by
 refine ⟨_,?_,rfl⟩
 unfold execOp
 simp only [List.map_toArray,List.map_nil,Sem.run_bind,ZIP,Result.andThen_ok,Sem.run_pure]
end
end
section
open Go.RowKit

theorem ZCX {vs:List Vx} {A:List Int} {v:Vx} {k:Nat} (hk:k<vs.length) (hA:k<A.length):ZZ (vs.drop k) (A.drop k) v=if vs[k]=v then A[k] else ZZ (vs.drop (k+1)) (A.drop (k+1)) v:=by
 rw [List.drop_eq_getElem_cons hk,List.drop_eq_getElem_cons hA]
 rfl
set_option maxHeartbeats 4000000 in
theorem ZFk (vs:List Vx) (A:List Int) (v:Vx) (hA:A.length=vs.length) (hl:vs.length≤1000000):Fn Tryz.prog 89 [dS Lab (vs,A),dS RV v] (dI (ZZ vs A v)):=by
 obtain ⟨o,ho⟩:∃ o,ZZ vs A v=o:=⟨_,rfl⟩
 rw [ho]
 (refine ZE Tryz.func89 rfl rfl ?_;simp only [Tryz.ntmps89,List.length_cons,List.length_nil,Nat.reduceAdd,Nat.reduceSub,List.replicate_succ,List.replicate_zero,List.cons_append,List.nil_append])
 (repeat' (first|((first|apply WL.opN|apply WD.opN);exact yF;dsimp only [ZC,z0,z1])|refine WL.nil ?_|refine ZA fun Kx hK=>?_|(refine hK _ _ ?_;clear hK)|refine WC.region ?_|((first|apply WL.opN|apply WD.opN);(focus ((first|(apply SY.box;(exact oD);(exact hD))|fail);all_goals infer_instance));dsimp only [ZC,z0,z1])|refine WC.block ?_))
 all_goals try (exfalso;first|contradiction|omega)
 (refine WC.loopU (X:=Nat) (fun k=>[(5,dI (k:Int)),(4,dA),(6,dA),(7,dA),(8,dA),(9,dA),(10,dA),(11,dA),(12,dA),(13,dA),(14,dA),(15,dA),(16,dA),(17,dA),(18,dA),(19,dA),(20,dA),(21,dA),(22,dA),(23,dA),(24,dA)]) (fun k=>[]) (fun k=>vs.length-k) (fun k=>k≤vs.length/\ZZ (vs.drop k) (A.drop k) v=o) 0 ?start ?frame0 ?objs0 ?round)
 case start=>exact ⟨Nat.zero_le _,ho⟩
 case frame0=>((try dsimp only [ZK,z0,z1]);repeat (first|exact LeF.nil|refine ZD (k:=?_)))
 case objs0=>rfl
 case round =>
  rintro k ⟨hk,hE⟩
  dsimp only [ZK,z0,z1]
  by_cases hkl:k<vs.length
  ·have hkI:(k:Int)<(vs.length:Int):=by omega
   have hkA:k<A.length:=by omega
   rw [ZCX hkl hkA] at hE
   by_cases he:vs[k]=v
   ·rw [if_pos he] at hE
    subst hE
    ((repeat' (first|((first|apply WL.opN|apply WD.opN);exact yF;dsimp only [ZC,z0,z1])|refine WL.nil ?_|refine WD.nil ?_|refine ZA fun Kx hK=>?_|(refine hK _ _ ?_;clear hK)|refine WC.region ?_|(apply WC.draw;kernel_rfl;kernel_rfl)|((first|apply WL.opN|apply WD.opN);(focus ((first|(refine ZP Zx (OpD.t rfl) Zh rfl rfl)|(apply SY.load;exact ZBv;exact OpD.t rfl)|(exact SY.ix (R:=RI) (_gR:=inferInstance) (k:=k) elI (OpD.t rfl) (OpD.t rfl) hkA)|((first|apply SY.move|apply SY.assign|apply SY.lss|apply SY.eql) <;> (exact oD))|(apply SY.len;(exact oD);(exact nD);(exact uD))|(apply Zc;(exact eD);(exact oD);(exact oD);exact kD)|(first|(apply SY.fld0 vxT <;> (exact oD))|(apply SY.fld1 vxT <;> (exact oD))|(apply ZEB vxT <;> (exact oD)))|fail);all_goals infer_instance));dsimp only [ZC,z0,z1])|(apply ZB;(exact oD);all_goals (intro h;try exact xD))|refine WC.skip ?_|refine WC.ret ?_|refine WC.block ?_|refine ThenD.r ?_|refine InBlockD.r ?_));all_goals (first|((repeat clear hK);(repeat clear Kx))))
    all_goals try (exfalso;first|contradiction|omega)
    (refine ⟨trivial,_,rfl,?_⟩;exact fD)
   ·rw [if_neg he] at hE
    ((repeat' (first|((first|apply WL.opN|apply WD.opN);exact yF;dsimp only [ZC,z0,z1])|refine WL.nil ?_|refine WD.nil ?_|refine ZA fun Kx hK=>?_|(refine hK _ _ ?_;clear hK)|refine WC.region ?_|(apply WC.draw;kernel_rfl;kernel_rfl)|((first|apply WL.opN|apply WD.opN);(focus ((first|(refine ZP Zx (OpD.t rfl) Zh rfl rfl)|((first|apply SY.move|apply SY.assign|apply SY.lss|apply SY.eql) <;> (exact oD))|((first|apply SY.add) <;> first|exact oD|omega)|(apply SY.len;(exact oD);(exact nD);(exact uD))|(apply Zc;(exact eD);(exact oD);(exact oD);exact kD)|(first|(apply SY.fld0 vxT <;> (exact oD))|(apply SY.fld1 vxT <;> (exact oD))|(apply ZEB vxT <;> (exact oD)))|fail);all_goals infer_instance));dsimp only [ZC,z0,z1])|(apply ZB;(exact oD);all_goals (intro h;try exact xD))|refine WC.skip ?_|refine WC.block ?_|refine ThenD.n ?_));all_goals (first|((repeat clear hK);(repeat clear Kx))))
    all_goals try (exfalso;first|contradiction|omega)
    (refine ⟨k+1,?_,by first|omega|(simp only;omega),rfl,?_⟩;rotate_left;((try dsimp only [ZK,z0,z1]);repeat (first|exact LeF.nil|refine ZD (k:=?_)));(try dsimp only))
    exact ⟨hkl,hE⟩
  ·have hkI:¬ (k:Int)<(vs.length:Int):=by omega
   rw [List.drop_of_length_le (by omega)] at hE
   have h0:o=0:=by rw [<- hE];unfold ZZ;rfl
   subst h0
   ((repeat' (first|((first|apply WL.opN|apply WD.opN);exact yF;dsimp only [ZC,z0,z1])|refine WL.nil ?_|refine ZA fun Kx hK=>?_|(refine hK _ _ ?_;clear hK)|(refine Kont.skip ?_;clear hK)|refine WC.region ?_|((first|apply WL.opN|apply WD.opN);(focus ((first|(refine ZP Zx (OpD.t rfl) Zh rfl rfl)|((first|apply SY.move|apply SY.assign|apply SY.lss|apply SY.eql) <;> (exact oD))|(apply SY.len;(exact oD);(exact nD);(exact uD))|fail);all_goals infer_instance));dsimp only [ZC,z0,z1])|(apply ZB;(exact oD);all_goals (intro h;try exact xD))|refine WC.ret ?_|refine WC.exit ?_));all_goals (first|((repeat clear hK);(repeat clear Kx))))
   all_goals try (exfalso;first|contradiction|omega)
   (refine ⟨trivial,_,rfl,?_⟩;exact fD)
theorem ZEZ (vs:List Vx) (A:List Int) (s:List Vx) (hA:A.length=vs.length) (hl:vs.length≤1000000):Fn Tryz.prog 90 [dS Lab (vs,A),dS ZN s] (dI (orL (ZZ vs A) s)):=by
 (refine ZE Tryz.func90 rfl rfl ?_;simp only [Tryz.ntmps90,List.length_cons,List.length_nil,Nat.reduceAdd,Nat.reduceSub,List.replicate_succ,List.replicate_zero,List.cons_append,List.nil_append])
 (first|refine ZU (t:=1) rfl ZDX fun hl1=>?_|refine ZU (t:=1) rfl ZDE fun hl1=>?_|refine ZU (t:=1) rfl ZIJ fun hl1=>?_);simp only [maxLen] at hl1
 (repeat' (first|((first|apply WL.opN|apply WD.opN);exact yF;dsimp only [ZC,z0,z1])|refine WL.nil ?_|refine ZA fun Kx hK=>?_|(refine hK _ _ ?_;clear hK)|refine WC.region ?_|((first|apply WL.opN|apply WD.opN);(focus ((first|(apply SY.box;(exact oD);(exact hD))|fail);all_goals infer_instance));dsimp only [ZC,z0,z1])|refine WC.block ?_))
 all_goals try (exfalso;first|contradiction|omega)
 (refine WC.loopU (X:=Nat) (fun k=>[(6,dI (k:Int)),(5,dI (orL (ZZ vs A) (s.take k))),(7,dA),(8,dA),(9,dA),(10,dA),(11,dA),(12,dA),(13,dA),(14,dA),(15,dA),(16,dA),(17,dA),(18,dA),(19,dA),(20,dA)]) (fun k=>[]) (fun k=>s.length-k) (fun k=>k≤s.length) 0 ?start ?frame0 ?objs0 ?round)
 case start=>exact Nat.zero_le _
 case frame0=>((try dsimp only [ZK,z0,z1]);repeat (first|exact LeF.nil|refine ZD (k:=?_)))
 case objs0=>rfl
 case round =>
  rintro k hk
  dsimp only [ZK,z0,z1]
  by_cases hkl:k<s.length
  ·have hkI:(k:Int)<(s.length:Int):=by omega
   have he:ior (orL (ZZ vs A) (s.take k)) (ZZ vs A s[k])=orL (ZZ vs A) (s.take (k+1)):=by
    unfold orL
    rw [List.take_succ_eq_append_getElem hkl,List.foldl_append]
    rfl
   have hof:=ZFk vs A s[k] hA hl
   ((repeat' (first|((first|apply WL.opN|apply WD.opN);exact yF;dsimp only [ZC,z0,z1])|refine WL.nil ?_|refine WD.nil ?_|refine ZA fun Kx hK=>?_|(refine hK _ _ ?_;clear hK)|refine WC.region ?_|(apply WC.draw;kernel_rfl;kernel_rfl)|((first|apply WL.opN|apply WD.opN);(focus ((first|(apply SY.load;exact ZAI;exact OpD.t rfl)|(apply SY.call (hof) Tryz.call89;(exact aD))|((first|apply SY.move|apply SY.assign|apply SY.lss|apply SY.or) <;> (exact oD))|((first|apply SY.add) <;> first|exact oD|omega)|(apply SY.len;(exact oD);(exact nD);(exact uD))|(apply Zc;(exact eD);(exact oD);(exact oD);exact kD)|fail);all_goals infer_instance));dsimp only [ZC,z0,z1])|(apply ZB;(exact oD);all_goals (intro h;try exact xD))|refine WC.skip ?_|refine WC.block ?_|refine ThenD.n ?_));all_goals (first|((repeat clear hK);(repeat clear Kx))))
   all_goals try (exfalso;first|contradiction|omega)
   rw [he]
   (refine ⟨k+1,?_,by first|omega|(simp only;omega),rfl,?_⟩;rotate_left;((try dsimp only [ZK,z0,z1]);repeat (first|exact LeF.nil|refine ZD (k:=?_)));(try dsimp only))
   omega
  ·have hkI:¬ (k:Int)<(s.length:Int):=by omega
   obtain rfl:k=s.length:=by omega
   rw [List.take_length]
   ((repeat' (first|((first|apply WL.opN|apply WD.opN);exact yF;dsimp only [ZC,z0,z1])|refine WL.nil ?_|refine ZA fun Kx hK=>?_|(refine hK _ _ ?_;clear hK)|(refine Kont.skip ?_;clear hK)|refine WC.region ?_|((first|apply WL.opN|apply WD.opN);(focus ((first|((first|apply SY.move|apply SY.assign|apply SY.lss|apply SY.or) <;> (exact oD))|(apply SY.len;(exact oD);(exact nD);(exact uD))|fail);all_goals infer_instance));dsimp only [ZC,z0,z1])|(apply ZB;(exact oD);all_goals (intro h;try exact xD))|refine WC.ret ?_|refine WC.exit ?_));all_goals (first|((repeat clear hK);(repeat clear Kx))))
   all_goals try (exfalso;first|contradiction|omega)
   (refine ⟨trivial,_,rfl,?_⟩;exact fD)
end
end Go.Proofs.YtofkoleingbbpaaGreatDoor
