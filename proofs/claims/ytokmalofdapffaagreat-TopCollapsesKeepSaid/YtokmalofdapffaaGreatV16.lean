/- Part 16: walks by contracts, and plain laws. -/
import Derived.Test.YtokmalofdapffaaGreatV15
set_option linter.unusedVariables false
set_option linter.unusedSimpArgs false
set_option linter.unusedSectionVars false
set_option maxRecDepth 100000
set_option maxHeartbeats 4000000
namespace Go.Proofs.YtokmalofdapffaaGreat
section
theorem ZC5 (v:Vx):∀ b:List Vx,(v∉b/\(b.dropWhile fun x=>decide (x≠v))=[])\/∃ pre c,b=pre++v::c/\v∉pre/\(b.dropWhile fun x=>decide (x≠v))=v::c
 | []=>.inl ⟨by simp,rfl⟩
 | x::b=>by
  by_cases hx:x=v
  ·subst hx
   exact .inr ⟨[],b,rfl,by simp,by rw [List.dropWhile_cons_of_neg (by simp)]⟩
  ·rw [List.dropWhile_cons_of_pos (by simpa using hx)]
   rcases ZC5 v b with ⟨h1,h2⟩|⟨pre,c,h1,h2,h3⟩
   ·exact .inl ⟨by simp [h1,Ne.symm hx],h2⟩
   ·exact .inr ⟨x::pre,c,by rw [h1];rfl,by simp [h2,Ne.symm hx],h3⟩
theorem ZPV (v:Vx):ZCL v v=0:=ZB5.2 rfl
theorem ZC7:∀ (a b:List Vx),Asc a->Asc b->ZCj a b=Zb a b
 | [],b,_,_=>rfl
 | v::a,b,ha,hb=>by
  have ha':=ha
  unfold Asc at ha'
  rw [List.pairwise_cons] at ha'
  unfold ZCj
  rcases ZC5 v b with ⟨h1,h2⟩|⟨pre,c,h1,h2,h3⟩
  ·rw [if_pos h2]
   unfold Zb
   simp [h1]
  ·rw [h3,if_neg (by simp)]
   have hb':=hb
   unfold Asc at hb'
   rw [h1,List.pairwise_append] at hb'
   rw [ZC7 a (v::c) ha'.2 hb'.2.1]
   have hv:v∈b:=by rw [h1];simp
   unfold Zb
   rw [List.all_cons,decide_eq_true hv,Bool.true_and,Bool.eq_iff_iff,List.all_eq_true,List.all_eq_true]
   constructor
   ·intro h x hx
    have:=h x hx
    simp only [decide_eq_true_eq] at this ⊢
    rw [h1];exact List.mem_append.2 (.inr this)
   ·intro h x hx
    have:=h x hx
    simp only [decide_eq_true_eq] at this ⊢
    rw [h1] at this
    rcases List.mem_append.1 this with hp|hp
    ·have h5:=hb'.2.2 x hp v (by simp)
     have h6:=ZDQ h5 (ha'.1 x hx)
     rw [ZPV] at h6;omega
    ·exact hp
def ZLQ (m:List (Vx × List Int)) (v:Vx) (i:Int):List (Vx × List Int):=ZDr m v ((lookM m v).getD []++[i])
def ZNZ (m:List (Vx × List Int)) (s:List Vx) (i:Int):List (Vx × List Int):=s.foldl (fun m v=>ZLQ m v i) m
def ZHx (l:Cx):List (Vx × List Int):=(l.zipIdx).foldl (fun m p=>ZNZ m p.1 (p.2:Int)) []
theorem ZIp {m:List (Vx × List Int)} {s:List Vx} {i:Int} {j:Nat} (h:j<s.length):ZNZ m (s.take (j+1)) i=ZLQ (ZNZ m (s.take j) i) s[j] i:=by
 unfold ZNZ;rw [ZU h,List.foldl_append];rfl
theorem ZFn {l:Cx} {i:Nat} (h:i<l.length):ZHx (l.take (i+1))=ZNZ (ZHx (l.take i)) l[i] (i:Int):=by
 unfold ZHx
 rw [ZU h,List.zipIdx_append,List.foldl_append]
 simp [List.length_take,Nat.min_eq_left (Nat.le_of_lt h)]
def atM (m:List (Vx × List Int)) (v:Vx):List Int:=(lookM m v).getD []
theorem ZEe {K V:Type} [DecidableEq K] {m:List (K × V)} {x y:K} {v:V}:lookM (ZDr m x v) y=if y=x then some v else lookM m y:=by
 unfold ZDr
 by_cases h:(lookM m x).isSome
 ·rw [if_pos h]
  induction m with
  | nil=>simp [lookM] at h
  | cons p m ih =>
   rw [List.map_cons]
   by_cases hp:p.1=x
   ·rw [if_pos hp]
    by_cases hy:y=x
    ·rw [if_pos hy];unfold lookM
     rw [List.find?_cons_of_pos (by simp [hy])];rfl
    ·rw [if_neg hy];unfold lookM
     rw [List.find?_cons_of_neg (by simpa using Ne.symm hy),List.find?_cons_of_neg (by rw [hp];simpa using Ne.symm hy)]
     clear ih h hp
     induction m with
     | nil=>rfl
     | cons q m ih =>
      rw [List.map_cons]
      by_cases hq:q.1=x
      ·rw [if_pos hq,List.find?_cons_of_neg (by simpa using Ne.symm hy),List.find?_cons_of_neg (by rw [hq];simpa using Ne.symm hy)]
       exact ih
      ·rw [if_neg hq]
       by_cases hqy:q.1=y
       ·rw [List.find?_cons_of_pos (by simpa using hqy),List.find?_cons_of_pos (by simpa using hqy)]
       ·rw [List.find?_cons_of_neg (by simpa using hqy),List.find?_cons_of_neg (by simpa using hqy)]
        exact ih
   ·rw [if_neg hp]
    have h':(lookM m x).isSome:=by
     unfold lookM at h ⊢
     rwa [List.find?_cons_of_neg (by simpa using hp)] at h
    have:=ih h'
    unfold lookM at this ⊢
    by_cases hpy:p.1=y
    ·have hyx:y≠x:=fun e=>hp (hpy.trans e)
     rw [List.find?_cons_of_pos (by simpa using hpy),if_neg hyx,List.find?_cons_of_pos (by simpa using hpy)]
    ·rw [List.find?_cons_of_neg (by simpa using hpy),List.find?_cons_of_neg (by simpa using hpy)]
     exact this
 ·rw [if_neg h]
  have h0:lookM m x=none:=by simpa using h
  unfold lookM at h0 ⊢
  rw [List.find?_append]
  by_cases hy:y=x
  ·subst hy
   rw [if_pos rfl]
   have:m.find? (fun p=>decide (p.1=y))=none:=by simpa using h0
   rw [this];simp
  ·rw [if_neg hy,List.find?_cons_of_neg (by simpa using Ne.symm hy)]
   simp
theorem ZPS {m:List (Vx × List Int)} {v u:Vx} {i:Int}:atM (ZLQ m v i) u=if u=v then atM m v++[i] else atM m u:=by
 unfold atM ZLQ
 rw [ZEe]
 split <;> rfl
theorem ZKt {i j:Int} {v:Vx}:∀ {s:List Vx} {m:List (Vx × List Int)},j∈atM (ZNZ m s i) v↔j∈atM m v\/(j=i/\v∈s)
 | [],m=>by simp [ZNZ]
 | u::s,m=>by
  show j∈atM (ZNZ (ZLQ m u i) s i) v↔_
  rw [ZKt (s:=s),ZPS]
  by_cases hv:v=u
  ·subst hv
   rw [if_pos rfl,List.mem_append,List.mem_singleton,List.mem_cons]
   constructor
   ·rintro ((h|h)|h)
    ·exact .inl h
    ·exact .inr ⟨h,.inl rfl⟩
    ·exact .inr ⟨h.1,.inr h.2⟩
   ·rintro (h|h)
    ·exact .inl (.inl h)
    ·exact .inl (.inr h.1)
  ·rw [if_neg hv,List.mem_cons];simp [hv]
theorem ZEA {l:Cx} {j:Int} {v:Vx}:∀ {n:Nat},n≤l.length->(j∈atM (ZHx (l.take n)) v↔∃ (k:Nat) (h:k<l.length),k<n/\j=k/\v∈l[k])
 | 0,_=>by simp [ZHx,atM,lookM]
 | n+1,hn=>by
  rw [ZFn (by omega),ZKt,ZEA (by omega)]
  constructor
  ·rintro (⟨k,h,h1,h2,h3⟩|⟨h1,h2⟩)
   ·exact ⟨k,h,by omega,h2,h3⟩
   ·exact ⟨n,by omega,by omega,h1,h2⟩
  ·rintro ⟨k,h,h1,h2,h3⟩
   by_cases hk:k=n
   ·subst hk;exact .inr ⟨h2,h3⟩
   ·exact .inl ⟨k,h,by omega,h2,h3⟩
theorem ZHV {l:Cx} {j:Int} {v:Vx}:j∈atM (ZHx l) v↔∃ (k:Nat) (h:k<l.length),j=k/\v∈l[k]:=by
 have:=ZEA (l:=l) (j:=j) (v:=v) (Nat.le_refl _)
 rw [List.take_length] at this
 rw [this]
 exact ⟨fun ⟨k,h,_,h2,h3⟩=>⟨k,h,h2,h3⟩,fun ⟨k,h,h2,h3⟩=>⟨k,h,h,h2,h3⟩⟩
theorem ZJY {l:Cx} {v:Vx}:∀ i∈atM (ZHx l) v,0≤i/\i<l.length:=fun i hi=>by
 obtain ⟨k,h,rfl,_⟩:=ZHV.1 hi
 omega
theorem ZKI {l:Cx} (h:∀ s∈l,ZAL s=0) {s:List Vx} (hs:ZAL s=0) {v:Vx} (hv:v∈s):(atM (ZHx l) v).any (ZPd l s)=ZAM l s:=by
 have asc:∀ s∈l,Asc s:=fun s hs=>(Zk.1 (h s hs)).2.2.2
 rw [Bool.eq_iff_iff,List.any_eq_true,ZAG]
 constructor
 ·rintro ⟨i,hi,hc⟩
  obtain ⟨k,hk,rfl,_⟩:=ZHV.1 hi
  have hm:=List.getElem_mem hk
  unfold ZPd at hc
  rw [Int.toNat_natCast,show l.getD k []=l[k] by simp [List.getD,hk],Bool.and_eq_true,decide_eq_true_eq,ZC7 _ _ (Zk.1 hs).2.2.2 (asc _ hm)] at hc
  exact ⟨l[k],hm,hc.1,hc.2⟩
 ·rintro ⟨x,hx,h1,h2⟩
  obtain ⟨k,hk,rfl⟩:=List.getElem_of_mem hx
  refine ⟨(k:Int),ZHV.2 ⟨k,hk,rfl,?_⟩,?_⟩
  ·unfold Zb at h2
   have:=List.all_eq_true.1 h2 v hv
   simpa using this
  ·unfold ZPd
   rw [Int.toNat_natCast,show l.getD k []=l[k] by simp [List.getD,hk],Bool.and_eq_true,decide_eq_true_eq,ZC7 _ _ (Zk.1 hs).2.2.2 (asc _ hx)]
   exact ⟨h1,h2⟩
end
section
theorem ZGX {a b:List Vx} {p:Bool} {x:Vx}:x∈ZDE a b p↔x∈a/\decide (x∈b)=p:=by unfold ZDE;rw [List.mem_filter];simp
theorem ZEi {a b:List Vx} {p:Bool}:(ZDE a b p).Sublist a:=List.filter_sublist
theorem ZGM {a b:List Vx} {p:Bool} (h:Asc a):Asc (ZDE a b p):=List.Pairwise.sublist ZEi h
theorem ZQh {a s:List Vx} (ha:ZAL a=0) (hs:s.Sublist a) (hne:s≠[]):ZAL s=0:=by
 obtain ⟨h1,h2,h3,h4⟩:=Zk.1 ha
 refine Zk.2 ⟨fun h=>hne (List.eq_nil_of_length_eq_zero h),Nat.le_trans hs.length_le h2,fun v hv=>h3 v (hs.subset hv),List.Pairwise.sublist hs h4⟩
theorem ZS2 {s:List Vx} (h:0<s.length):s≠[]:=fun e=>by subst e;simp at h
end
section
theorem Z9:∀ (k:Nat) (s x:List Vx),x∈ZX k s↔x.Sublist s/\x.length=k
 | 0,s,x=>by
  have:ZX 0 s=[[]]:=by unfold ZX;rfl
  rw [this,List.mem_singleton]
  constructor
  ·rintro rfl;exact ⟨List.nil_sublist _,rfl⟩
  ·rintro ⟨_,h⟩;exact List.eq_nil_of_length_eq_zero h
 | k+1,[],x=>by
  simp only [ZX,List.not_mem_nil,List.sublist_nil,false_iff]
  rintro ⟨rfl,h⟩;simp at h
 | k+1,v::s,x=>by
  unfold ZX
  rw [List.mem_append,List.mem_map,Z9 (k+1) s x]
  constructor
  ·rintro (⟨y,hy,rfl⟩|⟨h1,h2⟩)
   ·obtain ⟨h1,h2⟩:=(Z9 k s y).1 hy
    exact ⟨h1.cons_cons v,by simp [h2]⟩
   ·exact ⟨h1.cons v,h2⟩
  ·rintro ⟨h1,h2⟩
   rcases List.sublist_cons_iff.1 h1 with h|⟨y,rfl,h⟩
   ·exact .inr ⟨h,h2⟩
   ·exact .inl ⟨y,(Z9 k s y).2 ⟨h,by simpa using h2⟩,rfl⟩
theorem ZLw (s:List Vx):(ZX 0 s).length=1:=by unfold ZX;rfl
theorem ZLv (k:Nat) (v:Vx) (s:List Vx):(ZX (k+1) (v::s)).length=(ZX k s).length+(ZX (k+1) s).length:=by
 conv=>lhs;unfold ZX
 rw [List.length_append,List.length_map]
theorem ZM3 (v:Vx) (a b:List Vx):ZAB (v::a) (v::b)=ZAB a b:=by
 conv=>lhs;unfold ZAB
 rw [if_pos (ZB5.2 rfl)]
theorem ZDG:∀ (k:Nat) (s:List Vx),Asc s->(ZX k s).Pairwise fun a b=>ZAB a b = -1
 | 0,s,_=>by unfold ZX;exact List.pairwise_singleton _ _
 | k+1,[],_=>by unfold ZX;exact List.Pairwise.nil
 | k+1,v::s,h=>by
  obtain ⟨h1,h2⟩:=List.pairwise_cons.1 h
  unfold ZX
  rw [List.pairwise_append]
  refine ⟨List.pairwise_map.2 (List.Pairwise.imp (fun {a b} hab=>by rw [ZM3];exact hab) (ZDG k s h2)),ZDG (k+1) s h2,fun a ha b hb=>?_⟩
  obtain ⟨a',_,rfl⟩:=List.mem_map.1 ha
  obtain ⟨hb1,hb2⟩:=(Z9 _ _ _).1 hb
  match b,hb1,hb2 with
  | w::b',hb1,_ =>
   have hw:w∈s:=hb1.subset (by simp)
   have hvw:=h1 w hw
   have:=ZEW v w
   unfold ZAB
   rw [if_neg (by omega)]
   omega
theorem ZAp {a s:List Vx} {k:Nat} (hs:ZAL s=0) (hk:0<k) (h:a∈ZX k s):ZAL a=0/\a.Sublist s/\a.length=k:=by
 obtain ⟨h1,h2⟩:=(Z9 _ _ _).1 h
 exact ⟨ZQh hs h1 (ZS2 (by omega)),h1,h2⟩
theorem ZFf {s:List Vx} (hs:ZAL s=0) {k:Nat} (h1:0<k) (h2:k≤s.length):ZCs s k=(ZX k s,0):=by
 unfold ZCs
 rw [if_neg (by simp [hs]),if_neg (by omega)]
 simp
end
section
open Go.RowKit

def twI (l:Cx) (i k:Nat):Bool:=decide (i≠k) && Zb (l.getD i []) (l.getD k [])
theorem ZDz {n:Nat} {p:Nat->Bool}:(List.range (n+1)).any p=((List.range n).any p || p n):=by rw [List.range_succ,List.any_append];simp
theorem ZJW {n k:Nat} {p:Nat->Bool} (hk:k<n) (h:p k=true):(List.range n).any p=true:=List.any_eq_true.2 ⟨k,List.mem_range.2 hk,h⟩
theorem ZCM {l:Cx} {k:Nat} (h:k<l.length):l.getD k []=l[k]:=by simp [List.getD,h]
theorem ZRW (l:Cx):Fn Tryz.prog 15 [dS Cpx l] (dI (ZA8 l)):=by
 (refine ZG Tryz.func15 rfl rfl ?_;simp only [Tryz.ntmps15,List.length_cons,List.length_nil,Nat.reduceAdd,Nat.reduceSub,List.replicate_succ,List.replicate_zero,List.cons_append,List.nil_append])
 ((repeat' (first|((first|apply WL.opN|apply WD.opN);exact yF;dsimp only [ZB,z0,z1])|refine WL.nil ?_|refine ZA fun Kx hK=>?_|(refine hK _ _ ?_;clear hK)|refine WC.region ?_|((first|apply ZF|apply WD.op);(focus (first|exact wN|(apply SYG.yes;(exact wY);((first|exact ZHv|exact ZBw|exact Z4|exact ZF3|fail);all_goals infer_instance))));dsimp only [ZB,z0,z1])|(apply WC.condD;(exact oD);all_goals (intro h;try exact xD))|refine WC.skip ?_|refine WC.ret ?_|refine WC.block ?_|refine ThenD.r ?_));all_goals (first|refine WC.id ?_|((repeat clear hK);(repeat clear Kx))))
 ·(refine ⟨trivial,_,rfl,?_⟩;refine FinD.i ?_)
  unfold ZA8;rw [if_pos (by omega)]
 ·have hs:ZA8 l=if ZEp none l≠0 then ZEp none l else if ZCt l=true then 7 else 0:=by unfold ZA8;rw [if_neg (by omega)]
  (refine ZH (X:=Nat) (fun k=>[(4,dI (k:Int)),(2,dA),(5,dA),(13,dA),(14,dA),(15,dA),(16,dA),(17,dA),(18,dA),(19,dA),(20,dA),(21,dA),(22,dA),(23,dA),(24,dA),(25,dA),(26,dA),(27,dA),(28,dA),(29,dA),(30,dA),(31,dA),(32,dA),(33,dA),(34,dA),(35,dA),(36,dA),(37,dA),(38,dA),(39,dA),(40,dA),(41,dA)]) (fun k=>[]) (fun k=>l.length-k) (fun k=>k≤l.length/\ZEp none l=ZEp (l.take k).getLast? (l.drop k)) 0 ?start ?frame0 ?objs0 ?round)
  case start=>exact ⟨Nat.zero_le _,rfl⟩
  case frame0=>((try dsimp only [ZQ,z0,z1]);repeat (first|exact LeF.nil|refine ZD (k:=?_)))
  case objs0=>rfl
  case round =>
   rintro k ⟨h3,h4⟩
   dsimp only [ZQ,z0,z1]
   ((repeat' (first|((first|apply WL.opN|apply WD.opN);exact yF;dsimp only [ZB,z0,z1])|refine WL.nil ?_|refine WD.nil ?_|refine ZA fun Kx hK=>?_|(refine hK _ _ ?_;clear hK)|(refine Kont.skip ?_;clear hK)|refine WC.region ?_|(apply WC.draw;kernel_rfl;kernel_rfl)|((first|apply ZF|apply WD.op);(focus (first|exact wN|(apply SYG.yes;(exact wY);((first|(apply SY.call (ZSa _ _) Tryz.call29;(exact aD))|(apply SY.call (chk_c _) Tryz.call28;(exact aD))|(apply ZQs ZDv (OpD.t rfl) (OpD.t rfl) (k-1);omega;omega)|exact ZDe|exact ZCB|exact ZHv|exact ZQq|exact ZE0|exact ZCu|exact ZRJ|exact ZEn|exact ZBw|exact ZS|exact ZEK|fail);all_goals infer_instance))));dsimp only [ZB,z0,z1])|((first|refine ZM rfl rfl rfl (fun h=>?_) (fun h=>?_)|refine ZL rfl rfl rfl (fun h=>?_) (fun h=>?_)|refine ZK rfl rfl rfl (fun h=>?_) (fun h=>?_)|refine Zp rfl rfl rfl (fun h=>?_) (fun h=>?_)|refine Zo rfl rfl rfl (fun h=>?_) (fun h=>?_)|refine Zl rfl rfl rfl (fun h=>?_) (fun h=>?_)) <;> (first|(exfalso;first|omega|contradiction)|(dsimp only [z0,z1])))|(apply Za;(exact oD);(with_reducible rfl))|(apply WC.condD;(exact oD);all_goals (intro h;try exact xD))|(apply WC.condN;(exact oD);all_goals (intro h;try exact xD))|refine WC.skip ?_|refine WC.ret ?_|refine WC.exit ?_|refine WC.block ?_|refine ThenD.n ?_|refine ThenD.r ?_|refine InBlockD.r ?_));all_goals (first|refine WC.id ?_|((repeat clear hK);(repeat clear Kx))))
   all_goals try (rw [ZIY l k (by omega)] at h4)
   ·(refine ⟨trivial,_,rfl,?_⟩;refine FinD.i ?_)
    rw [hs,h4,if_pos h,if_pos h]
   ·(refine ⟨trivial,_,rfl,?_⟩;refine FinD.i ?_)
    have h5:¬ ZAL l[k]≠0:=by omega
    rw [if_neg h5,ZDS _ _ (by omega) (by omega),if_pos (by simpa using h)] at h4
    rw [hs,h4];rfl
   ·(refine ⟨k+1,?_,by first|omega|(simp only;omega),rfl,?_⟩;rotate_left;((try dsimp only [ZQ,z0,z1]);repeat (first|exact LeF.nil|refine ZD (k:=?_)));(try dsimp only))
    refine ⟨by omega,?_⟩
    have h5:¬ ZAL l[k]≠0:=by omega
    rw [h4,if_neg h5,ZDS _ _ (by omega) (by omega),if_neg (by simpa using h)]
   ·(refine ⟨k+1,?_,by first|omega|(simp only;omega),rfl,?_⟩;rotate_left;((try dsimp only [ZQ,z0,z1]);repeat (first|exact LeF.nil|refine ZD (k:=?_)));(try dsimp only))
    refine ⟨by omega,?_⟩
    have h5:¬ ZAL l[k]≠0:=by omega
    have h0:(l.take k).getLast?=none:=by
     have:k=0:=by omega
     rw [this];rfl
    rw [h4,if_neg h5,h0]
    rfl
   ·rw [List.drop_of_length_le (by omega)] at h4
    have h4':ZEp none l=0:=h4
    have hs':ZA8 l=if ZCt l=true then 7 else 0:=by rw [hs,if_neg (by omega)]
    clear hs h4
    (refine ZH (X:=Nat) (fun i=>[(6,dI (i:Int)),(2,dA),(7,dA),(42,dA),(43,dA),(44,dA),(45,dA),(46,dA),(47,dA),(48,dA),(49,dA),(50,dA),(51,dA),(52,dA),(53,dA),(54,dA),(55,dA),(56,dA),(57,dA),(58,dA),(59,dA),(60,dA),(61,dA),(62,dA),(63,dA),(64,dA),(65,dA),(66,dA),(67,dA)]) (fun i=>[]) (fun i=>l.length-i) (fun i=>i≤l.length/\(List.range i).any (fun i=>(List.range l.length).any (twI l i))=false) 0 ?start ?frame0 ?objs0 ?round)
    case start=>exact ⟨Nat.zero_le _,rfl⟩
    case frame0=>((try dsimp only [ZQ,z0,z1]);repeat (first|exact LeF.nil|refine ZD (k:=?_)))
    case objs0=>rfl
    case round =>
     rintro i ⟨h5,h6⟩
     dsimp only [ZQ,z0,z1]
     ((repeat' (first|((first|apply WL.opN|apply WD.opN);exact yF;dsimp only [ZB,z0,z1])|refine WL.nil ?_|refine ZA fun Kx hK=>?_|(refine hK _ _ ?_;clear hK)|(refine Kont.skip ?_;clear hK)|refine WC.region ?_|((first|apply ZF|apply WD.op);(focus (first|exact wN|(apply SYG.yes;(exact wY);((first|exact ZCB|exact ZBw|fail);all_goals infer_instance))));dsimp only [ZB,z0,z1])|(apply WC.condD;(exact oD);all_goals (intro h;try exact xD))|refine WC.skip ?_|refine WC.ret ?_|refine WC.exit ?_|refine WC.block ?_));all_goals (first|refine WC.id ?_|((repeat clear hK);(repeat clear Kx))))
     ·(refine ZH (X:=Nat) (fun j=>[(7,dI (j:Int)),(2,dA),(48,dA),(49,dA),(50,dA),(51,dA),(52,dA),(53,dA),(54,dA),(55,dA),(56,dA),(57,dA),(58,dA),(59,dA),(60,dA),(61,dA),(62,dA),(63,dA),(64,dA),(65,dA),(66,dA),(67,dA)]) (fun j=>[]) (fun j=>l.length-j) (fun j=>j≤l.length/\(List.range j).any (twI l i)=false) 0 ?start ?frame0 ?objs0 ?round)
      case start=>exact ⟨Nat.zero_le _,rfl⟩
      case frame0=>((try dsimp only [ZQ,z0,z1]);repeat (first|exact LeF.nil|refine ZD (k:=?_)))
      case objs0=>rfl
      case round =>
       rintro j ⟨h7,h8⟩
       dsimp only [ZQ,z0,z1]
       ((repeat' (first|((first|apply WL.opN|apply WD.opN);exact yF;dsimp only [ZB,z0,z1])|refine WL.nil ?_|refine WD.nil ?_|refine ZA fun Kx hK=>?_|(refine hK _ _ ?_;clear hK)|(refine Kont.skip ?_;clear hK)|refine WC.region ?_|(apply WC.draw;kernel_rfl;kernel_rfl)|((first|apply ZF|apply WD.op);(focus (first|exact wN|(apply SYG.yes;(exact wY);((first|(apply SY.call (ZP0 _ _) Tryz.call30;(exact aD))|exact ZDe|exact ZCB|exact ZE0|exact ZCu|exact ZEn|exact ZBw|exact ZS|exact ZEK|fail);all_goals infer_instance))));dsimp only [ZB,z0,z1])|((first|refine ZM rfl rfl rfl (fun h=>?_) (fun h=>?_)|refine ZL rfl rfl rfl (fun h=>?_) (fun h=>?_)|refine ZK rfl rfl rfl (fun h=>?_) (fun h=>?_)|refine Zp rfl rfl rfl (fun h=>?_) (fun h=>?_)|refine Zo rfl rfl rfl (fun h=>?_) (fun h=>?_)|refine Zl rfl rfl rfl (fun h=>?_) (fun h=>?_)) <;> (first|(exfalso;first|omega|contradiction)|(dsimp only [z0,z1])))|(apply Za;(exact oD);(with_reducible rfl))|(apply WC.condD;(exact oD);all_goals (intro h;try exact xD))|(apply WC.cond;(exact oD);all_goals (intro h;try exact xD))|refine WC.skip ?_|refine WC.ret ?_|refine WC.exit ?_|refine WC.block ?_|refine ThenD.n ?_|refine ThenD.r ?_|refine InBlockD.r ?_));all_goals (first|((repeat clear hK);(repeat clear Kx))))
       ·(refine ⟨trivial,_,rfl,?_⟩;refine FinD.i ?_)
        have e:twI l i j=true:=by
         unfold twI
         rw [ZCM (by omega),ZCM (by omega),h,decide_eq_true (by omega)];rfl
        rw [hs',if_pos (show ZCt l=true from ZJW (k:=i) (by omega) (ZJW (k:=j) (by omega) e))]
       ·(refine ⟨j+1,?_,by first|omega|(simp only;omega),rfl,?_⟩;rotate_left;((try dsimp only [ZQ,z0,z1]);repeat (first|exact LeF.nil|refine ZD (k:=?_)));(try dsimp only))
        refine ⟨by omega,?_⟩
        rw [ZDz,h8]
        unfold twI
        rw [ZCM (by omega),ZCM (by omega),h,Bool.and_false];rfl
       ·(refine ⟨j+1,?_,by first|omega|(simp only;omega),rfl,?_⟩;rotate_left;((try dsimp only [ZQ,z0,z1]);repeat (first|exact LeF.nil|refine ZD (k:=?_)));(try dsimp only))
        refine ⟨by omega,?_⟩
        rw [ZDz,h8]
        unfold twI
        rw [decide_eq_false (by omega)];rfl
       ·rw [show j=l.length by omega] at h8
        (refine ⟨i+1,?_,by first|omega|(simp only;omega),rfl,?_⟩;rotate_left;((try dsimp only [ZQ,z0,z1]);repeat (first|exact LeF.nil|refine ZD (k:=?_)));(try dsimp only))
        refine ⟨by omega,?_⟩
        rw [ZDz,h6,h8];rfl
     ·rw [show i=l.length by omega] at h6
      (refine ⟨trivial,_,rfl,?_⟩;refine FinD.i ?_)
      have e:ZCt l=false:=h6
      rw [hs',e];rfl
def ZF9 (l:Cx):Int:=l.foldl (fun m s=>if m<(s.length:Int)-1 then (s.length:Int)-1 else m) (-1)
def ZON (l:Cx):Bool:=(List.range l.length).all fun i=>decide (i=0) || decide (((l.getD i []).length:Int)-1=ZF9 (l.take i))
theorem ZId {l:Cx} {k:Nat} (h:k<l.length):ZF9 (l.take (k+1))=if ZF9 (l.take k)<(l[k].length:Int)-1 then (l[k].length:Int)-1 else ZF9 (l.take k):=by
 unfold ZF9;rw [ZU h,List.foldl_append];rfl
theorem ZKO:∀ (l:Cx) (p:Option (List Vx)),ZEp p l=0->∀ s∈l,ZAL s=0
 | [],_,_,s,hs=>by simp at hs
 | x::l,p,h,s,hs=>by
  unfold ZEp at h
  by_cases h1:ZAL x≠0
  ·rw [if_pos h1] at h;exact absurd h h1
  ·rw [if_neg h1] at h
   rcases List.mem_cons.1 hs with rfl|hs
   ·omega
   ·refine ZKO l (some x) ?_ s hs
    revert h
    split
    ·intro h;omega
    ·exact id
theorem ZMy {l:Cx} (h:ZA8 l=0):l.length≤4096/\ZEp none l=0/\ZCt l=false/\∀ s∈l,ZAL s=0:=by
 unfold ZA8 at h
 by_cases h1:4096<l.length
 ·rw [if_pos h1] at h;omega
 rw [if_neg h1] at h
 by_cases h2:ZEp none l≠0
 ·rw [if_pos h2] at h;exact absurd h h2
 rw [if_neg h2] at h
 refine ⟨by omega,by omega,?_,ZKO l none (by omega)⟩
 cases h3:ZCt l with
 | false=>rfl
 | true=>rw [h3,if_pos rfl] at h;omega
end
section
theorem ZG9:∀ (l:Cx) (p:Option (List Vx)),ZEp p l=0->AscL l/\(∀ u,p=some u->∀ s∈l,ZAB u s<0)/\∀ s∈l,ZAL s=0
 | [],p,_=>⟨by simp [AscL],by simp,by simp⟩
 | s::l,p,h=>by
  unfold ZEp at h
  by_cases h1:ZAL s≠0
  ·rw [if_pos h1] at h;exact absurd h h1
  rw [if_neg h1] at h
  have key:ZEp (some s) l=0/\∀ u,p=some u->ZAB u s<0:=by
   cases p with
   | none=>exact ⟨by simpa using h,fun u hu=>by cases hu⟩
   | some u =>
    by_cases h2:0≤ZAB u s
    ·simp only [h2,decide_true,if_true] at h
     exact absurd h (by decide)
    ·simp only [h2,decide_false,Bool.false_eq_true,if_false] at h
     exact ⟨h,fun u' hu=>by cases hu;omega⟩
  obtain ⟨h3,h4,h5⟩:=ZG9 l (some s) key.1
  have h6:=h4 s rfl
  refine ⟨List.pairwise_cons.2 ⟨h6,h3⟩,fun u hu x hx=>?_,fun x hx=>?_⟩
  ·have h7:=key.2 u hu
   rcases List.mem_cons.1 hx with rfl|hx
   ·exact h7
   ·exact ZAs h7 (h6 x hx)
  ·rcases List.mem_cons.1 hx with rfl|hx
   ·omega
   ·exact h5 x hx
theorem ZMz:∀ (l:Cx) (p:Option (List Vx)),AscL l->(∀ u,p=some u->∀ s∈l,ZAB u s<0)->(∀ s∈l,ZAL s=0)->ZEp p l=0
 | [],p,_,_,_=>rfl
 | s::l,p,ha,hp,hc=>by
  unfold ZEp
  rw [if_neg (by have:=hc s (by simp);omega),if_neg ?_]
  ·unfold AscL at ha
   rw [List.pairwise_cons] at ha
   exact ZMz l (some s) ha.2 (fun u hu x hx=>by cases hu;exact ha.1 x hx) fun x hx=>hc x (by simp [hx])
  ·cases p with
   | none=>simp
   | some u =>
    have:=hp u rfl s (by simp)
    simp only [decide_eq_true_eq];omega
theorem ZBe {a b:List Vx} (ha:Asc a) (hb:Asc b) (h:Zb a b=true) (hne:a≠b):a.length<b.length:=by
 have hsub:∀ x∈a,x∈b:=fun x hx=>by
  have:=List.all_eq_true.1 h x hx
  simpa using this
 have e:ZDE b a true=a:=asc_ext (ZGM hb) ha fun x=>by
  rw [ZGX]
  constructor
  ·intro ⟨_,h⟩;simpa using h
  ·intro hx;exact ⟨hsub x hx,by simpa using hx⟩
 have hs:a.Sublist b:=by rw [<- e];exact ZEi
 rcases Nat.lt_or_ge a.length b.length with h1|h1
 ·exact h1
 ·exact absurd (hs.eq_of_length_le h1) hne
theorem ZNa {a b:List Vx} (ha:Asc a) (hb:Asc b) (h:Zb a b=true):a.length≤b.length:=by
 by_cases e:a=b
 ·rw [e];exact Nat.le_refl _
 ·exact Nat.le_of_lt (ZBe ha hb h e)
theorem ZFy {l:Cx} (ha:AscL l) (hc:∀ s∈l,ZAL s=0):ZCt l=l.any fun s=>ZAM l s:=by
 have asc:∀ s∈l,Asc s:=fun s hs=>(Zk.1 (hc s hs)).2.2.2
 rw [Bool.eq_iff_iff]
 unfold ZCt
 simp only [List.any_eq_true,List.mem_range,Bool.and_eq_true,decide_eq_true_eq,ZAG]
 constructor
 ·rintro ⟨i,hi,k,hk,hne,h⟩
  rw [ZCM hi,ZCM hk] at h
  have hmi:=List.getElem_mem hi
  have hmk:=List.getElem_mem hk
  refine ⟨l[i],hmi,l[k],hmk,ZBe (asc _ hmi) (asc _ hmk) h fun e=>?_,h⟩
  have hp:=List.pairwise_iff_getElem.1 ha.nodup
  rcases Nat.lt_or_gt_of_ne hne with h1|h1
  ·exact hp i k hi hk h1 e
  ·exact hp k i hk hi h1 e.symm
 ·rintro ⟨s,hs,x,hx,hlt,h⟩
  obtain ⟨i,hi,rfl⟩:=List.getElem_of_mem hs
  obtain ⟨k,hk,rfl⟩:=List.getElem_of_mem hx
  exact ⟨i,hi,k,hk,fun e=>by subst e;omega,by rw [ZCM hi,ZCM hk];exact h⟩
def GoodX (l:Cx):Prop:=l.length≤4096/\AscL l/\(∀ s∈l,ZAL s=0)/\∀ s∈l,ZAM l s=false
theorem Zr {l:Cx}:ZA8 l=0↔GoodX l:=by
 unfold GoodX
 constructor
 ·intro h
  obtain ⟨h1,h2,h3,h4⟩:=ZMy h
  obtain ⟨h5,_,h6⟩:=ZG9 l none h2
  rw [ZFy h5 h6,List.any_eq_false] at h3
  exact ⟨h1,h5,h6,fun s hs=>by simpa using h3 s hs⟩
 ·rintro ⟨h1,h2,h3,h4⟩
  unfold ZA8
  have h5:ZEp none l=0:=ZMz l none h2 (fun u hu=>by cases hu) h3
  have h6:ZCt l=false:=by
   rw [ZFy h2 h3,List.any_eq_false]
   exact fun s hs=>by simp [h4 s hs]
  rw [if_neg (by omega),if_neg (by omega),if_neg (by simp [h6])]
theorem ZPv {l:Cx} (hc:∀ s∈l,s.length≠0->ZAL s=0) (hl:(ZKs l).length≤4096):GoodX (ZKs l):=by
 refine ⟨hl,ZFG l,fun s hs=>?_,fun s hs=>?_⟩
 ·obtain ⟨h1,h2⟩:=ZCH.1 hs
  unfold ZQj at h2
  simp only [Bool.and_eq_true,decide_eq_true_eq] at h2
  exact hc s h1 (by omega)
 ·obtain ⟨h1,h2⟩:=ZCH.1 hs
  unfold ZQj at h2
  simp only [Bool.and_eq_true,decide_eq_true_eq,Bool.not_eq_true'] at h2
  rw [Bool.eq_false_iff]
  intro hcv
  obtain ⟨x,hx,hr⟩:=ZAG.1 hcv
  have:=ZAG.2 ⟨x,(ZCH.1 hx).1,hr⟩
  rw [h2.2] at this
  cases this
theorem ZQB {l:Cx} (h:GoodX l):ZKs l=l:=by
 rw [<- ZNm (zs:=l) (fun s hs=>by have:=Zk.1 (h.2.2.1 s hs);omega) h.2.1 fun u=>Iff.rfl]
 rw [List.filter_eq_self]
 intro s hs;simp [h.2.2.2 s hs]
theorem ZAr:∀ {l:Cx} {k:Nat} {x:List Vx},x∈Zs l k↔∃ f∈l,x∈ZX k f:=by
 have go:∀ (l out:Cx) (k:Nat) (x:List Vx),x∈l.foldl (fun out f=>if f.length<k then out else (ZX k f).foldl ZHz out) out↔x∈out\/∃ f∈l,x∈ZX k f:=by
  intro l
  induction l with
  | nil=>intro out k x;simp
  | cons f l ih =>
   intro out k x
   rw [List.foldl_cons,ih]
   have e:x∈(if f.length<k then out else (ZX k f).foldl ZHz out)↔x∈out\/x∈ZX k f:=by
    split
    ·rename_i h;rw [ZBX k f h];simp
    ·rw [ZDp];exact or_comm
   rw [e]
   constructor
   ·rintro ((h|h)|⟨g,hg,h⟩)
    ·exact .inl h
    ·exact .inr ⟨f,by simp,h⟩
    ·exact .inr ⟨g,by simp [hg],h⟩
   ·rintro (h|⟨g,hg,h⟩)
    ·exact .inl (.inl h)
    ·rcases List.mem_cons.1 hg with rfl|hg
     ·exact .inl (.inr h)
     ·exact .inr ⟨g,hg,h⟩
 intro l k x
 unfold Zs
 rw [go];simp
theorem ZA0 (l:Cx) (k:Nat):AscL (Zs l k):=by
 have go:∀ (l out:Cx),AscL out->AscL (l.foldl (fun out f=>if f.length<k then out else (ZX k f).foldl ZHz out) out):=by
  intro l
  induction l with
  | nil=>intro out h;exact h
  | cons f l ih =>
   intro out h
   rw [List.foldl_cons]
   refine ih _ ?_
   split
   ·exact h
   ·exact ZDo h
 exact go l [] (by simp [AscL])
def ZHy (out:Cx) (l:Cx):Cx:=l.foldl (fun out f=>if f∈out then out else out++[f]) out
def ZJM (l:Cx) (k:Nat):Cx:=l.foldl (fun out f=>if f.length<k then out else ZHy out (ZX k f)) []
theorem ZIu {out l:Cx} {j:Nat} (h:j<l.length):ZHy out (l.take (j+1))=if l[j]∈ZHy out (l.take j) then ZHy out (l.take j) else ZHy out (l.take j)++[l[j]]:=by
 unfold ZHy;rw [ZU h,List.foldl_append];rfl
theorem ZHZ:∀ {l out:Cx} {x:List Vx},x∈ZHy out l↔x∈out\/x∈l
 | [],out,x=>by simp [ZHy]
 | f::l,out,x=>by
  show x∈ZHy (if f∈out then out else out++[f]) l↔_
  rw [ZHZ (l:=l)]
  split
  ·rename_i h
   rw [List.mem_cons]
   constructor
   ·rintro (h1|h1)
    ·exact .inl h1
    ·exact .inr (.inr h1)
   ·rintro (h1|h1|h1)
    ·exact .inl h1
    ·rw [h1];exact .inl h
    ·exact .inr h1
  ·rw [List.mem_append,List.mem_singleton,List.mem_cons,or_assoc]
theorem ZEf:∀ {l out:Cx},out.Nodup->(ZHy out l).Nodup
 | [],out,h=>h
 | f::l,out,h=>by
  show (ZHy (if f∈out then out else out++[f]) l).Nodup
  refine ZEf (l:=l) ?_
  split
  ·exact h
  ·rename_i hf
   rw [List.nodup_append]
   exact ⟨h,by simp,fun a ha b hb=>by rw [List.mem_singleton.1 hb];exact fun e=>hf (e ▸ ha)⟩
theorem ZQD (l out:Cx):out.length≤(ZHy out l).length/\(ZHy out l).length≤out.length+l.length:=by
 induction l generalizing out with
 | nil=>simp [ZHy]
 | cons f l ih =>
  have h:=ih (if f∈out then out else out++[f])
  have e:ZHy out (f::l)=ZHy (if f∈out then out else out++[f]) l:=rfl
  rw [e]
  split at h <;> (simp only [List.length_append,List.length_cons,List.length_nil] at h ⊢;rename_i hf;first|rw [if_pos hf]|rw [if_neg hf]) <;> omega
theorem ZFe {l:Cx} {k i:Nat} (h:i<l.length):ZJM (l.take (i+1)) k=if l[i].length<k then ZJM (l.take i) k else ZHy (ZJM (l.take i) k) (ZX k l[i]):=by
 unfold ZJM;rw [ZU h,List.foldl_append];rfl
theorem ZDR (l:Cx) (k:Nat):∀ n,n≤l.length->(ZJM (l.take n) k).Nodup/\∀ x,x∈ZJM (l.take n) k↔x∈Zs (l.take n) k
 | 0,_=>by simp [ZJM,Zs]
 | n+1,hn=>by
  obtain ⟨h1,h2⟩:=ZDR l k n (by omega)
  have h3:∀ x,x∈Zs (l.take (n+1)) k↔x∈Zs (l.take n) k\/x∈ZX k l[n]:=fun x=>by
   rw [ZAr,ZAr,ZU (by omega)]
   constructor
   ·rintro ⟨f,hf,hx⟩
    rcases List.mem_append.1 hf with hf|hf
    ·exact .inl ⟨f,hf,hx⟩
    ·rw [List.mem_singleton.1 hf] at hx;exact .inr hx
   ·rintro (⟨f,hf,hx⟩|hx)
    ·exact ⟨f,List.mem_append.2 (.inl hf),hx⟩
    ·exact ⟨l[n],List.mem_append.2 (.inr (List.mem_singleton.2 rfl)),hx⟩
  rw [ZFe (by omega)]
  split
  ·rename_i hs
   refine ⟨h1,fun x=>?_⟩
   rw [h3,h2,ZBX k _ hs];simp
  ·refine ⟨ZEf h1,fun x=>?_⟩
   rw [h3,ZHZ,h2]
theorem ZPo (l:Cx) (k n:Nat) (hn:n≤l.length):(ZJM (l.take n) k).length=(Zs (l.take n) k).length:=by
 obtain ⟨h1,h2⟩:=ZDR l k n hn
 exact ((List.perm_ext_iff_of_nodup h1 (ZA0 _ k).nodup).2 h2).length_eq
theorem ZNP {l:Cx} {k n:Nat} (hn:n≤l.length):(ZJM (l.take n) k).length≤(Zs l k).length:=by
 obtain ⟨h1,h2⟩:=ZDR l k n hn
 have hsub:∀ x∈ZJM (l.take n) k,x∈Zs l k:=fun x hx=>by
  obtain ⟨f,hf,hx⟩:=ZAr.1 ((h2 x).1 hx)
  exact ZAr.2 ⟨f,List.mem_of_mem_take hf,hx⟩
 have hp:(ZJM (l.take n) k).Perm ((Zs l k).filter fun x=>decide (x∈ZJM (l.take n) k)) :=
  (List.perm_ext_iff_of_nodup h1 ((ZA0 l k).nodup.filter _)).2 fun x=>by
   rw [List.mem_filter,decide_eq_true_eq]
   exact ⟨fun hx=>⟨hsub x hx,hx⟩,fun hx=>hx.2⟩
 rw [hp.length_eq]
 exact List.length_filter_le _ _
theorem ZLr {l ys:Cx} {k:Nat} (hp:ys.Perm (ZJM l k)) (hs:ZLL ys):ys=Zs l k:=by
 have h:=ZDR l k l.length (Nat.le_refl _)
 rw [List.take_length] at h
 refine ZD1 ?_ (ZA0 l k) fun x=>by rw [hp.mem_iff];exact h.2 x
 have hn:ys.Nodup:=hp.nodup_iff.2 h.1
 refine List.Pairwise.imp₂ (fun a b h1 h2=>?_) hs hn
 rcases ZBy a b with h3|h3|h3
 ·exact h3
 ·exact absurd h3 h1
 ·exact absurd h3 h2
end
end Go.Proofs.YtokmalofdapffaaGreat
