/- Part 25: walks by contracts, and plain laws. -/
import Derived.Test.YtlgmojhmmbhgfaaGreatDoorVg24
set_option linter.unusedVariables false
set_option linter.unusedSimpArgs false
set_option linter.unusedSectionVars false
set_option maxRecDepth 100000
set_option maxHeartbeats 4000000
namespace Go.Proofs.YtlgmojhmmbhgfaaGreatDoor
section
theorem ZDG (v:Vx):∀ b:List Vx,(v∉b/\(b.dropWhile fun x=>decide (x≠v))=[])\/∃ pre c,b=pre++v::c/\v∉pre/\(b.dropWhile fun x=>decide (x≠v))=v::c
 | []=>.inl ⟨by simp,rfl⟩
 | x::b=>by
  by_cases hx:x=v
  ·subst hx
   exact .inr ⟨[],b,rfl,by simp,by rw [List.dropWhile_cons_of_neg (by simp)]⟩
  ·rw [List.dropWhile_cons_of_pos (by simpa using hx)]
   rcases ZDG v b with ⟨h1,h2⟩|⟨pre,c,h1,h2,h3⟩
   ·exact .inl ⟨by simp [h1,Ne.symm hx],h2⟩
   ·exact .inr ⟨x::pre,c,by rw [h1];rfl,by simp [h2,Ne.symm hx],h3⟩
theorem ZQH (v:Vx):ZA0 v v=0:=ZCR.2 rfl
theorem ZDJ:∀ (a b:List Vx),Asc a->Asc b->ZCv a b=ZCC a b
 | [],b,_,_=>rfl
 | v::a,b,ha,hb=>by
  have ha':=ha
  unfold Asc at ha'
  rw [List.pairwise_cons] at ha'
  unfold ZCv
  rcases ZDG v b with ⟨h1,h2⟩|⟨pre,c,h1,h2,h3⟩
  ·rw [if_pos h2]
   unfold ZCC
   simp [h1]
  ·rw [h3,if_neg (by simp)]
   have hb':=hb
   unfold Asc at hb'
   rw [h1,List.pairwise_append] at hb'
   rw [ZDJ a (v::c) ha'.2 hb'.2.1]
   have hv:v∈b:=by rw [h1];simp
   unfold ZCC
   rw [List.all_cons,decide_eq_true hv,Bool.true_and,Bool.eq_iff_iff,List.all_eq_true,List.all_eq_true]
   constructor
   ·intro h x hx
    have:=h x hx
    simp only [decide_eq_true_eq] at this ⊢
    rw [h1];exact List.mem_append.2 (.inr this)
   ·intro h x hx
    have:=h x hx
    simp only [decide_eq_true_eq] at this ⊢
    rw [h1] at this
    rcases List.mem_append.1 this with hp|hp
    ·have h5:=hb'.2.2 x hp v (by simp)
     have h6:=ZBg h5 (ha'.1 x hx)
     rw [ZQH] at h6;omega
    ·exact hp
def ZL5 (m:List (Vx × List Int)) (v:Vx) (i:Int):List (Vx × List Int):=ZBy m v ((lookM m v).getD []++[i])
def ZN6 (m:List (Vx × List Int)) (s:List Vx) (i:Int):List (Vx × List Int):=s.foldl (fun m v=>ZL5 m v i) m
def ZIL (l:Cx):List (Vx × List Int):=(l.zipIdx).foldl (fun m p=>ZN6 m p.1 (p.2:Int)) []
theorem ZJF {m:List (Vx × List Int)} {s:List Vx} {i:Int} {j:Nat} (h:j<s.length):ZN6 m (s.take (j+1)) i=ZL5 (ZN6 m (s.take j) i) s[j] i:=by
 unfold ZN6;rw [ZP h,List.foldl_append];rfl
theorem ZGK {l:Cx} {i:Nat} (h:i<l.length):ZIL (l.take (i+1))=ZN6 (ZIL (l.take i)) l[i] (i:Int):=by
 unfold ZIL
 rw [ZP h,List.zipIdx_append,List.foldl_append]
 simp [List.length_take,Nat.min_eq_left (Nat.le_of_lt h)]
def atM (m:List (Vx × List Int)) (v:Vx):List Int:=(lookM m v).getD []
theorem ZMO {K V:Type} [DecidableEq K] {m:List (K × V)} {x y:K} {v:V}:lookM (ZBy m x v) y=if y=x then some v else lookM m y:=by
 unfold ZBy
 by_cases h:(lookM m x).isSome
 ·rw [if_pos h]
  induction m with
  | nil=>simp [lookM] at h
  | cons p m ih =>
   rw [List.map_cons]
   by_cases hp:p.1=x
   ·rw [if_pos hp]
    by_cases hy:y=x
    ·rw [if_pos hy];unfold lookM
     rw [List.find?_cons_of_pos (by simp [hy])];rfl
    ·rw [if_neg hy];unfold lookM
     rw [List.find?_cons_of_neg (by simpa using Ne.symm hy),List.find?_cons_of_neg (by rw [hp];simpa using Ne.symm hy)]
     clear ih h hp
     induction m with
     | nil=>rfl
     | cons q m ih =>
      rw [List.map_cons]
      by_cases hq:q.1=x
      ·rw [if_pos hq,List.find?_cons_of_neg (by simpa using Ne.symm hy),List.find?_cons_of_neg (by rw [hq];simpa using Ne.symm hy)]
       exact ih
      ·rw [if_neg hq]
       by_cases hqy:q.1=y
       ·rw [List.find?_cons_of_pos (by simpa using hqy),List.find?_cons_of_pos (by simpa using hqy)]
       ·rw [List.find?_cons_of_neg (by simpa using hqy),List.find?_cons_of_neg (by simpa using hqy)]
        exact ih
   ·rw [if_neg hp]
    have h':(lookM m x).isSome:=by
     unfold lookM at h ⊢
     rwa [List.find?_cons_of_neg (by simpa using hp)] at h
    have:=ih h'
    unfold lookM at this ⊢
    by_cases hpy:p.1=y
    ·have hyx:y≠x:=fun e=>hp (hpy.trans e)
     rw [List.find?_cons_of_pos (by simpa using hpy),if_neg hyx,List.find?_cons_of_pos (by simpa using hpy)]
    ·rw [List.find?_cons_of_neg (by simpa using hpy),List.find?_cons_of_neg (by simpa using hpy)]
     exact this
 ·rw [if_neg h]
  have h0:lookM m x=none:=by simpa using h
  unfold lookM at h0 ⊢
  rw [List.find?_append]
  by_cases hy:y=x
  ·subst hy
   rw [if_pos rfl]
   have:m.find? (fun p=>decide (p.1=y))=none:=by simpa using h0
   rw [this];simp
  ·rw [if_neg hy,List.find?_cons_of_neg (by simpa using Ne.symm hy)]
   simp
theorem ZP5 {m:List (Vx × List Int)} {v u:Vx} {i:Int}:atM (ZL5 m v i) u=if u=v then atM m v++[i] else atM m u:=by
 unfold atM ZL5
 rw [ZMO]
 split <;> rfl
theorem ZLS {i j:Int} {v:Vx}:∀ {s:List Vx} {m:List (Vx × List Int)},j∈atM (ZN6 m s i) v↔j∈atM m v\/(j=i/\v∈s)
 | [],m=>by simp [ZN6]
 | u::s,m=>by
  show j∈atM (ZN6 (ZL5 m u i) s i) v↔_
  rw [ZLS (s:=s),ZP5]
  by_cases hv:v=u
  ·subst hv
   rw [if_pos rfl,List.mem_append,List.mem_singleton,List.mem_cons]
   constructor
   ·rintro ((h|h)|h)
    ·exact .inl h
    ·exact .inr ⟨h,.inl rfl⟩
    ·exact .inr ⟨h.1,.inr h.2⟩
   ·rintro (h|h)
    ·exact .inl (.inl h)
    ·exact .inl (.inr h.1)
  ·rw [if_neg hv,List.mem_cons];simp [hv]
theorem ZEe {l:Cx} {j:Int} {v:Vx}:∀ {n:Nat},n≤l.length->(j∈atM (ZIL (l.take n)) v↔∃ (k:Nat) (h:k<l.length),k<n/\j=k/\v∈l[k])
 | 0,_=>by simp [ZIL,atM,lookM]
 | n+1,hn=>by
  rw [ZGK (by omega),ZLS,ZEe (by omega)]
  constructor
  ·rintro (⟨k,h,h1,h2,h3⟩|⟨h1,h2⟩)
   ·exact ⟨k,h,by omega,h2,h3⟩
   ·exact ⟨n,by omega,by omega,h1,h2⟩
  ·rintro ⟨k,h,h1,h2,h3⟩
   by_cases hk:k=n
   ·subst hk;exact .inr ⟨h2,h3⟩
   ·exact .inl ⟨k,h,by omega,h2,h3⟩
theorem ZHw {l:Cx} {j:Int} {v:Vx}:j∈atM (ZIL l) v↔∃ (k:Nat) (h:k<l.length),j=k/\v∈l[k]:=by
 have:=ZEe (l:=l) (j:=j) (v:=v) (Nat.le_refl _)
 rw [List.take_length] at this
 rw [this]
 exact ⟨fun ⟨k,h,_,h2,h3⟩=>⟨k,h,h2,h3⟩,fun ⟨k,h,h2,h3⟩=>⟨k,h,h,h2,h3⟩⟩
theorem ZNA {l:Cx} {v:Vx}:∀ i∈atM (ZIL l) v,0≤i/\i<l.length:=fun i hi=>by
 obtain ⟨k,h,rfl,_⟩:=ZHw.1 hi
 omega
theorem ZKx {l:Cx} (h:∀ s∈l,ZAJ s=0) {s:List Vx} (hs:ZAJ s=0) {v:Vx} (hv:v∈s):(atM (ZIL l) v).any (ZQJ l s)=ZAU l s:=by
 have asc:∀ s∈l,Asc s:=fun s hs=>(ZO.1 (h s hs)).2.2.2
 rw [Bool.eq_iff_iff,List.any_eq_true,ZAW]
 constructor
 ·rintro ⟨i,hi,hc⟩
  obtain ⟨k,hk,rfl,_⟩:=ZHw.1 hi
  have hm:=List.getElem_mem hk
  unfold ZQJ at hc
  rw [Int.toNat_natCast,show l.getD k []=l[k] by simp [List.getD,hk],Bool.and_eq_true,decide_eq_true_eq,ZDJ _ _ (ZO.1 hs).2.2.2 (asc _ hm)] at hc
  exact ⟨l[k],hm,hc.1,hc.2⟩
 ·rintro ⟨x,hx,h1,h2⟩
  obtain ⟨k,hk,rfl⟩:=List.getElem_of_mem hx
  refine ⟨(k:Int),ZHw.2 ⟨k,hk,rfl,?_⟩,?_⟩
  ·unfold ZCC at h2
   have:=List.all_eq_true.1 h2 v hv
   simpa using this
  ·unfold ZQJ
   rw [Int.toNat_natCast,show l.getD k []=l[k] by simp [List.getD,hk],Bool.and_eq_true,decide_eq_true_eq,ZDJ _ _ (ZO.1 hs).2.2.2 (asc _ hx)]
   exact ⟨h1,h2⟩
end
section
theorem ZMP {a b:List Vx} {p:Bool} {x:Vx}:x∈ZGX a b p↔x∈a/\decide (x∈b)=p:=by unfold ZGX;rw [List.mem_filter];simp
theorem ZHE {a b:List Vx} {p:Bool}:(ZGX a b p).Sublist a:=List.filter_sublist
theorem ZL7 {a b:List Vx} {p:Bool} (h:Asc a):Asc (ZGX a b p):=List.Pairwise.sublist ZHE h
theorem ZRK {a s:List Vx} (ha:ZAJ a=0) (hs:s.Sublist a) (hne:s≠[]):ZAJ s=0:=by
 obtain ⟨h1,h2,h3,h4⟩:=ZO.1 ha
 refine ZO.2 ⟨fun h=>hne (List.eq_nil_of_length_eq_zero h),Nat.le_trans hs.length_le h2,fun v hv=>h3 v (hs.subset hv),List.Pairwise.sublist hs h4⟩
theorem ZIj {a:List Vx} (h:Asc a):a.Nodup:=List.Pairwise.imp (fun {x y} hxy e=>by
 subst e
 have:=ZCR.2 (rfl:x=x)
 omega) h
theorem ZT7 {s:List Vx} (h:0<s.length):s≠[]:=fun e=>by subst e;simp at h
end
section
theorem ZCk:∀ (k:Nat) (s x:List Vx),x∈Zg k s↔x.Sublist s/\x.length=k
 | 0,s,x=>by
  have:Zg 0 s=[[]]:=by unfold Zg;rfl
  rw [this,List.mem_singleton]
  constructor
  ·rintro rfl;exact ⟨List.nil_sublist _,rfl⟩
  ·rintro ⟨_,h⟩;exact List.eq_nil_of_length_eq_zero h
 | k+1,[],x=>by
  simp only [Zg,List.not_mem_nil,List.sublist_nil,false_iff]
  rintro ⟨rfl,h⟩;simp at h
 | k+1,v::s,x=>by
  unfold Zg
  rw [List.mem_append,List.mem_map,ZCk (k+1) s x]
  constructor
  ·rintro (⟨y,hy,rfl⟩|⟨h1,h2⟩)
   ·obtain ⟨h1,h2⟩:=(ZCk k s y).1 hy
    exact ⟨h1.cons_cons v,by simp [h2]⟩
   ·exact ⟨h1.cons v,h2⟩
  ·rintro ⟨h1,h2⟩
   rcases List.sublist_cons_iff.1 h1 with h|⟨y,rfl,h⟩
   ·exact .inr ⟨h,h2⟩
   ·exact .inl ⟨y,(ZCk k s y).2 ⟨h,by simpa using h2⟩,rfl⟩
theorem ZMY (s:List Vx):(Zg 0 s).length=1:=by unfold Zg;rfl
theorem ZMX (k:Nat) (v:Vx) (s:List Vx):(Zg (k+1) (v::s)).length=(Zg k s).length+(Zg (k+1) s).length:=by
 conv=>lhs;unfold Zg
 rw [List.length_append,List.length_map]
theorem ZGC {a s:List Vx} {k:Nat} (hs:ZAJ s=0) (hk:0<k) (h:a∈Zg k s):ZAJ a=0/\a.Sublist s/\a.length=k:=by
 obtain ⟨h1,h2⟩:=(ZCk _ _ _).1 h
 exact ⟨ZRK hs h1 (ZT7 (by omega)),h1,h2⟩
theorem ZKB {s:List Vx} (hs:ZAJ s=0) {k:Nat} (h1:0<k) (h2:k≤s.length):ZC2 s k=(Zg k s,0):=by
 unfold ZC2
 rw [if_neg (by simp [hs]),if_neg (by omega)]
 simp
end
section
open Go.RowKit

def twI (l:Cx) (i k:Nat):Bool:=decide (i≠k) && ZCC (l.getD i []) (l.getD k [])
theorem ZHS {n:Nat} {p:Nat->Bool}:(List.range (n+1)).any p=((List.range n).any p || p n):=by rw [List.range_succ,List.any_append];simp
theorem ZM7 {n k:Nat} {p:Nat->Bool} (hk:k<n) (h:p k=true):(List.range n).any p=true:=List.any_eq_true.2 ⟨k,List.mem_range.2 hk,h⟩
theorem ZCw {l:Cx} {k:Nat} (h:k<l.length):l.getD k []=l[k]:=by simp [List.getD,h]
theorem ZD2 (l:Cx):Fn Tryz.prog 30 [dS Cpx l] (dI (ZBH l)):=by
 (refine ZG Tryz.func30 rfl rfl ?_;simp only [Tryz.ntmps30,List.length_cons,List.length_nil,Nat.reduceAdd,Nat.reduceSub,List.replicate_succ,List.replicate_zero,List.cons_append,List.nil_append])
 ((repeat' (first|((first|apply WL.opN|apply WD.opN);exact yF;dsimp only [ZB,z0,z1])|refine WL.nil ?_|refine ZA fun Kx hK=>?_|(refine hK _ _ ?_;clear hK)|refine WC.region ?_|((first|apply ZJ|apply WD.op);(focus (first|exact wN|(apply ZF;(exact wY);((first|exact ZIM|exact ZBs|exact ZAT|exact ZKY|fail);all_goals infer_instance))));dsimp only [ZB,z0,z1])|(apply ZC;(exact oD);all_goals (intro h;try exact xD))|refine WC.skip ?_|refine WC.ret ?_|refine WC.block ?_|refine ThenD.r ?_));all_goals (first|refine WC.id ?_|((repeat clear hK);(repeat clear Kx))))
 ·(refine ⟨trivial,_,rfl,?_⟩;refine FinD.i ?_)
  unfold ZBH;rw [if_pos (by omega)]
 ·have hs:ZBH l=if ZFE none l≠0 then ZFE none l else if ZC3 l=true then 7 else 0:=by unfold ZBH;rw [if_neg (by omega)]
  (refine WC.loopU (X:=Nat) (fun k=>[(4,dI (k:Int)),(2,dA),(5,dA),(13,dA),(14,dA),(15,dA),(16,dA),(17,dA),(18,dA),(19,dA),(20,dA),(21,dA),(22,dA),(23,dA),(24,dA),(25,dA),(26,dA),(27,dA),(28,dA),(29,dA),(30,dA),(31,dA),(32,dA),(33,dA),(34,dA),(35,dA),(36,dA),(37,dA),(38,dA),(39,dA),(40,dA),(41,dA)]) (fun k=>[]) (fun k=>l.length-k) (fun k=>k≤l.length/\ZFE none l=ZFE (l.take k).getLast? (l.drop k)) 0 ?start ?frame0 ?objs0 ?round)
  case start=>exact ⟨Nat.zero_le _,rfl⟩
  case frame0=>((try dsimp only [ZK,z0,z1]);repeat (first|exact LeF.nil|refine ZD (k:=?_)))
  case objs0=>rfl
  case round =>
   rintro k ⟨h3,h4⟩
   dsimp only [ZK,z0,z1]
   ((repeat' (first|((first|apply WL.opN|apply WD.opN);exact yF;dsimp only [ZB,z0,z1])|refine WL.nil ?_|refine WD.nil ?_|refine ZA fun Kx hK=>?_|(refine hK _ _ ?_;clear hK)|(refine Kont.skip ?_;clear hK)|refine WC.region ?_|(apply WC.draw;kernel_rfl;kernel_rfl)|((first|apply ZJ|apply WD.op);(focus (first|exact wN|(apply ZF;(exact wY);((first|(apply SY.call (ZNb _ _) Tryz.call54;(exact aD))|(apply SY.call (chk_c _) Tryz.call66;(exact aD))|(apply ZMm ZBx (OpD.t rfl) (OpD.t rfl) (k-1);omega;omega)|exact ZEs|exact ZCJ|exact ZIM|exact ZR1|exact ZJo|exact ZC1|exact ZMe|exact ZFT|exact ZBs|exact ZX|exact ZEB|fail);all_goals infer_instance))));dsimp only [ZB,z0,z1])|((first|refine Za rfl rfl rfl (fun h=>?_) (fun h=>?_)|refine ZZ rfl rfl rfl (fun h=>?_) (fun h=>?_)|refine ZT rfl rfl rfl (fun h=>?_) (fun h=>?_)|refine ZAE rfl rfl rfl (fun h=>?_) (fun h=>?_)|refine ZAD rfl rfl rfl (fun h=>?_) (fun h=>?_)|refine Zu rfl rfl rfl (fun h=>?_) (fun h=>?_)) <;> (first|(exfalso;first|omega|contradiction)|(dsimp only [z0,z1])))|(apply Zi;(exact oD);(with_reducible rfl))|(apply ZC;(exact oD);all_goals (intro h;try exact xD))|(apply ZL;(exact oD);all_goals (intro h;try exact xD))|refine WC.skip ?_|refine WC.ret ?_|refine WC.exit ?_|refine WC.block ?_|refine ThenD.n ?_|refine ThenD.r ?_|refine InBlockD.r ?_));all_goals (first|refine WC.id ?_|((repeat clear hK);(repeat clear Kx))))
   all_goals try (rw [ZIp l k (by omega)] at h4)
   ·(refine ⟨trivial,_,rfl,?_⟩;refine FinD.i ?_)
    rw [hs,h4,if_pos h,if_pos h]
   ·(refine ⟨trivial,_,rfl,?_⟩;refine FinD.i ?_)
    have h5:¬ ZAJ l[k]≠0:=by omega
    rw [if_neg h5,ZDi _ _ (by omega) (by omega),if_pos (by simpa using h)] at h4
    rw [hs,h4];rfl
   ·(refine ⟨k+1,?_,by first|omega|(simp only;omega),rfl,?_⟩;rotate_left;((try dsimp only [ZK,z0,z1]);repeat (first|exact LeF.nil|refine ZD (k:=?_)));(try dsimp only))
    refine ⟨by omega,?_⟩
    have h5:¬ ZAJ l[k]≠0:=by omega
    rw [h4,if_neg h5,ZDi _ _ (by omega) (by omega),if_neg (by simpa using h)]
   ·(refine ⟨k+1,?_,by first|omega|(simp only;omega),rfl,?_⟩;rotate_left;((try dsimp only [ZK,z0,z1]);repeat (first|exact LeF.nil|refine ZD (k:=?_)));(try dsimp only))
    refine ⟨by omega,?_⟩
    have h5:¬ ZAJ l[k]≠0:=by omega
    have h0:(l.take k).getLast?=none:=by
     have:k=0:=by omega
     rw [this];rfl
    rw [h4,if_neg h5,h0]
    rfl
   ·rw [List.drop_of_length_le (by omega)] at h4
    have h4':ZFE none l=0:=h4
    have hs':ZBH l=if ZC3 l=true then 7 else 0:=by rw [hs,if_neg (by omega)]
    clear hs h4
    (refine WC.loopU (X:=Nat) (fun i=>[(6,dI (i:Int)),(2,dA),(7,dA),(42,dA),(43,dA),(44,dA),(45,dA),(46,dA),(47,dA),(48,dA),(49,dA),(50,dA),(51,dA),(52,dA),(53,dA),(54,dA),(55,dA),(56,dA),(57,dA),(58,dA),(59,dA),(60,dA),(61,dA),(62,dA),(63,dA),(64,dA),(65,dA),(66,dA),(67,dA)]) (fun i=>[]) (fun i=>l.length-i) (fun i=>i≤l.length/\(List.range i).any (fun i=>(List.range l.length).any (twI l i))=false) 0 ?start ?frame0 ?objs0 ?round)
    case start=>exact ⟨Nat.zero_le _,rfl⟩
    case frame0=>((try dsimp only [ZK,z0,z1]);repeat (first|exact LeF.nil|refine ZD (k:=?_)))
    case objs0=>rfl
    case round =>
     rintro i ⟨h5,h6⟩
     dsimp only [ZK,z0,z1]
     ((repeat' (first|((first|apply WL.opN|apply WD.opN);exact yF;dsimp only [ZB,z0,z1])|refine WL.nil ?_|refine ZA fun Kx hK=>?_|(refine hK _ _ ?_;clear hK)|(refine Kont.skip ?_;clear hK)|refine WC.region ?_|((first|apply ZJ|apply WD.op);(focus (first|exact wN|(apply ZF;(exact wY);((first|exact ZCJ|exact ZBs|fail);all_goals infer_instance))));dsimp only [ZB,z0,z1])|(apply ZC;(exact oD);all_goals (intro h;try exact xD))|refine WC.skip ?_|refine WC.ret ?_|refine WC.exit ?_|refine WC.block ?_));all_goals (first|refine WC.id ?_|((repeat clear hK);(repeat clear Kx))))
     ·(refine WC.loopU (X:=Nat) (fun j=>[(7,dI (j:Int)),(2,dA),(48,dA),(49,dA),(50,dA),(51,dA),(52,dA),(53,dA),(54,dA),(55,dA),(56,dA),(57,dA),(58,dA),(59,dA),(60,dA),(61,dA),(62,dA),(63,dA),(64,dA),(65,dA),(66,dA),(67,dA)]) (fun j=>[]) (fun j=>l.length-j) (fun j=>j≤l.length/\(List.range j).any (twI l i)=false) 0 ?start ?frame0 ?objs0 ?round)
      case start=>exact ⟨Nat.zero_le _,rfl⟩
      case frame0=>((try dsimp only [ZK,z0,z1]);repeat (first|exact LeF.nil|refine ZD (k:=?_)))
      case objs0=>rfl
      case round =>
       rintro j ⟨h7,h8⟩
       dsimp only [ZK,z0,z1]
       ((repeat' (first|((first|apply WL.opN|apply WD.opN);exact yF;dsimp only [ZB,z0,z1])|refine WL.nil ?_|refine WD.nil ?_|refine ZA fun Kx hK=>?_|(refine hK _ _ ?_;clear hK)|(refine Kont.skip ?_;clear hK)|refine WC.region ?_|(apply WC.draw;kernel_rfl;kernel_rfl)|((first|apply ZJ|apply WD.op);(focus (first|exact wN|(apply ZF;(exact wY);((first|(apply SY.call (ZQn _ _) Tryz.call67;(exact aD))|exact ZEs|exact ZCJ|exact ZJo|exact ZC1|exact ZFT|exact ZBs|exact ZX|exact ZEB|fail);all_goals infer_instance))));dsimp only [ZB,z0,z1])|((first|refine Za rfl rfl rfl (fun h=>?_) (fun h=>?_)|refine ZZ rfl rfl rfl (fun h=>?_) (fun h=>?_)|refine ZT rfl rfl rfl (fun h=>?_) (fun h=>?_)|refine ZAE rfl rfl rfl (fun h=>?_) (fun h=>?_)|refine ZAD rfl rfl rfl (fun h=>?_) (fun h=>?_)|refine Zu rfl rfl rfl (fun h=>?_) (fun h=>?_)) <;> (first|(exfalso;first|omega|contradiction)|(dsimp only [z0,z1])))|(apply Zi;(exact oD);(with_reducible rfl))|(apply ZC;(exact oD);all_goals (intro h;try exact xD))|(apply WC.cond;(exact oD);all_goals (intro h;try exact xD))|refine WC.skip ?_|refine WC.ret ?_|refine WC.exit ?_|refine WC.block ?_|refine ThenD.n ?_|refine ThenD.r ?_|refine InBlockD.r ?_));all_goals (first|((repeat clear hK);(repeat clear Kx))))
       ·(refine ⟨trivial,_,rfl,?_⟩;refine FinD.i ?_)
        have e:twI l i j=true:=by
         unfold twI
         rw [ZCw (by omega),ZCw (by omega),h,decide_eq_true (by omega)];rfl
        rw [hs',if_pos (show ZC3 l=true from ZM7 (k:=i) (by omega) (ZM7 (k:=j) (by omega) e))]
       ·(refine ⟨j+1,?_,by first|omega|(simp only;omega),rfl,?_⟩;rotate_left;((try dsimp only [ZK,z0,z1]);repeat (first|exact LeF.nil|refine ZD (k:=?_)));(try dsimp only))
        refine ⟨by omega,?_⟩
        rw [ZHS,h8]
        unfold twI
        rw [ZCw (by omega),ZCw (by omega),h,Bool.and_false];rfl
       ·(refine ⟨j+1,?_,by first|omega|(simp only;omega),rfl,?_⟩;rotate_left;((try dsimp only [ZK,z0,z1]);repeat (first|exact LeF.nil|refine ZD (k:=?_)));(try dsimp only))
        refine ⟨by omega,?_⟩
        rw [ZHS,h8]
        unfold twI
        rw [decide_eq_false (by omega)];rfl
       ·rw [show j=l.length by omega] at h8
        (refine ⟨i+1,?_,by first|omega|(simp only;omega),rfl,?_⟩;rotate_left;((try dsimp only [ZK,z0,z1]);repeat (first|exact LeF.nil|refine ZD (k:=?_)));(try dsimp only))
        refine ⟨by omega,?_⟩
        rw [ZHS,h6,h8];rfl
     ·rw [show i=l.length by omega] at h6
      (refine ⟨trivial,_,rfl,?_⟩;refine FinD.i ?_)
      have e:ZC3 l=false:=h6
      rw [hs',e];rfl
def ZJ9 (l:Cx):Int:=l.foldl (fun m s=>if m<(s.length:Int)-1 then (s.length:Int)-1 else m) (-1)
def ZUJ (l:Cx):Bool:=(List.range l.length).all fun i=>decide (i=0) || decide (((l.getD i []).length:Int)-1=ZJ9 (l.take i))
theorem ZCf {l:Cx} {k:Nat} (h:k<l.length):ZJ9 (l.take (k+1))=if ZJ9 (l.take k)<(l[k].length:Int)-1 then (l[k].length:Int)-1 else ZJ9 (l.take k):=by
 unfold ZJ9;rw [ZP h,List.foldl_append];rfl
theorem ZUK (l:Cx):Fn Tryz.prog 14 [dS Cpx l] (dT [dI (ZJ9 l),dB (ZUJ l)]):=by
 (refine ZBF Tryz.func14 rfl rfl ?_;simp only [Tryz.ntmps14,List.length_cons,List.length_nil,Nat.reduceAdd,Nat.reduceSub,List.replicate_succ,List.replicate_zero,List.cons_append,List.nil_append])
 (repeat' (first|(apply WL.opN;exact yF;dsimp only [ZB,z0,z1])|refine WL.nil ?_|refine ZA fun Kx hK=>?_|(refine hK _ _ ?_;clear hK)|refine WC.region ?_|(apply ZJ;(focus (first|exact wN|(apply ZF;(exact wY);((first|exact ZKY|fail);all_goals infer_instance))));dsimp only [ZB,z0,z1])|refine WC.block ?_))
 (first|refine ZS (t:=0) rfl ZFJ fun hl0=>?_|refine ZS (t:=0) rfl ZFI fun hl0=>?_|refine ZS (t:=0) rfl ZPV fun hl0=>?_);simp only [maxLen] at hl0
 (refine WC.loopU (X:=Nat × Int × Bool) (fun x=>[(6,dI (x.1:Int)),(4,dI x.2.1),(5,dB x.2.2),(7,dA),(8,dA),(9,dA),(10,dA),(11,dA),(12,dA),(13,dA),(14,dA),(15,dA),(16,dA),(17,dA),(18,dA),(19,dA),(20,dA),(21,dA),(22,dA),(23,dA),(24,dA),(25,dA),(26,dA),(27,dA),(28,dA),(29,dA),(30,dA),(31,dA),(32,dA),(33,dA),(34,dA),(35,dA)]) (fun x=>[]) (fun x=>l.length-x.1) (fun x=>x.1≤l.length/\x.2.1=ZJ9 (l.take x.1)/\x.2.2=(List.range x.1).all fun i=>decide (i=0) || decide (((l.getD i []).length:Int)-1=ZJ9 (l.take i))) (0,-1,true) ?start ?frame0 ?objs0 ?round)
 case start=>exact ⟨Nat.zero_le _,rfl,rfl⟩
 case frame0=>((try dsimp only [ZK,z0,z1]);repeat (first|exact LeF.nil|refine ZD (k:=?_)))
 case objs0=>rfl
 case round =>
  rintro ⟨k,m,q⟩ ⟨h1,h2,h3⟩
  simp only at h1 h2 h3
  dsimp only [ZK,z0,z1]
  ((repeat' (first|(apply WL.opN;exact yF;dsimp only [ZB,z0,z1])|refine WL.nil ?_|refine ZA fun Kx hK=>?_|(refine hK _ _ ?_;clear hK)|(refine Kont.skip ?_;clear hK)|refine WC.region ?_|(apply ZJ;(focus (first|exact wN|(apply ZF;(exact wY);((first|exact ZCJ|exact ZBs|exact ZX|exact ZAT|fail);all_goals infer_instance))));dsimp only [ZB,z0,z1])|(apply ZC;(exact oD);all_goals (intro h;try exact xD))|refine WC.skip ?_|refine WC.ret ?_|refine WC.exit ?_|refine WC.block ?_));all_goals (first|refine WL.id ?_|((repeat clear hK);(repeat clear Kx))))
  ·refine ZJy (t:=19) rfl ZFJ fun h9=>?_
   simp only [maxLen] at h9
   have e9:(l.getD k []).length=l[k].length:=by rw [ZCw (by omega)]
   have st:∀ (q':Bool),q'=(q && (decide (k=0) || decide (((l[k].length:Nat):Int)-1=m)))->q'=(List.range (k+1)).all fun i=>decide (i=0) || decide (((l.getD i []).length:Int)-1=ZJ9 (l.take i)):=fun q' hq=>by
    rw [hq,h3,List.range_succ,List.all_append,h2,<- e9]
    simp
   clear h3
   ((repeat' (first|(apply WL.opN;exact yF;dsimp only [ZB,z0,z1])|refine WL.nil ?_|refine ZA fun Kx hK=>?_|(refine hK _ _ ?_;clear hK)|refine WC.region ?_ |  (apply ZJ;(focus (apply ZIX;exact ZE9 rfl rfl rfl));dsimp only [ZB,z0,z1])|(apply ZJ;(focus (first|exact wN|(apply ZF;(exact wY);((first|exact ZEs|exact ZIM|exact ZKZ|exact ZC1|exact ZMe|exact ZEB|fail);all_goals infer_instance))));dsimp only [ZB,z0,z1])|((first|refine Za rfl rfl rfl (fun h=>?_) (fun h=>?_)|refine ZZ rfl rfl rfl (fun h=>?_) (fun h=>?_)|refine ZT rfl rfl rfl (fun h=>?_) (fun h=>?_)) <;> (first|(exfalso;first|omega|contradiction)|(dsimp only [z0,z1])))|(apply ZC;(exact oD);all_goals (intro h;try exact xD))|refine WC.skip ?_|refine ThenD.n ?_));all_goals (first|((repeat clear hK);(repeat clear Kx))))
   ·(refine ⟨(k+1,(l[k].length:Int)-1,true),?_,by first|omega|(simp only;omega),rfl,?_⟩;rotate_left;((try dsimp only [ZK,z0,z1]);repeat (first|exact LeF.nil|refine ZD (k:=?_)));(try dsimp only))
    refine ⟨by omega,?_,st _ ?_⟩
    ·rw [ZCf (by omega),<- h2,if_pos (by assumption)]
    ·simp_all
   ·(refine ⟨(k+1,m,true),?_,by first|omega|(simp only;omega),rfl,?_⟩;rotate_left;((try dsimp only [ZK,z0,z1]);repeat (first|exact LeF.nil|refine ZD (k:=?_)));(try dsimp only))
    refine ⟨by omega,?_,st _ ?_⟩
    ·rw [ZCf (by omega),<- h2,if_neg (by assumption)]
    ·simp_all
   ·(refine ⟨(k+1,(l[k].length:Int)-1,decide ((l[k].length:Int)-1=m)),?_,by first|omega|(simp only;omega),rfl,?_⟩;rotate_left;((try dsimp only [ZK,z0,z1]);repeat (first|exact LeF.nil|refine ZD (k:=?_)));(try dsimp only))
    refine ⟨by omega,?_,st _ ?_⟩
    ·rw [ZCf (by omega),<- h2,if_pos (by assumption)]
    ·simp_all
   ·(refine ⟨(k+1,m,decide ((l[k].length:Int)-1=m)),?_,by first|omega|(simp only;omega),rfl,?_⟩;rotate_left;((try dsimp only [ZK,z0,z1]);repeat (first|exact LeF.nil|refine ZD (k:=?_)));(try dsimp only))
    refine ⟨by omega,?_,st _ ?_⟩
    ·rw [ZCf (by omega),<- h2,if_neg (by assumption)]
    ·simp_all
   ·(refine ⟨(k+1,(l[k].length:Int)-1,false),?_,by first|omega|(simp only;omega),rfl,?_⟩;rotate_left;((try dsimp only [ZK,z0,z1]);repeat (first|exact LeF.nil|refine ZD (k:=?_)));(try dsimp only))
    refine ⟨by omega,?_,st _ ?_⟩
    ·rw [ZCf (by omega),<- h2,if_pos (by assumption)]
    ·simp_all
   ·(refine ⟨(k+1,m,false),?_,by first|omega|(simp only;omega),rfl,?_⟩;rotate_left;((try dsimp only [ZK,z0,z1]);repeat (first|exact LeF.nil|refine ZD (k:=?_)));(try dsimp only))
    refine ⟨by omega,?_,st _ ?_⟩
    ·rw [ZCf (by omega),<- h2,if_neg (by assumption)]
    ·simp_all
  ·rw [show k=l.length by omega,List.take_length] at h2
   rw [show k=l.length by omega] at h3
   subst h2 h3
   (refine ⟨trivial,⟨_,rfl,?_⟩,_,rfl,?_⟩ <;> exact fD)
theorem ZK5:∀ (l:Cx) (p:Option (List Vx)),ZFE p l=0->∀ s∈l,ZAJ s=0
 | [],_,_,s,hs=>by simp at hs
 | x::l,p,h,s,hs=>by
  unfold ZFE at h
  by_cases h1:ZAJ x≠0
  ·rw [if_pos h1] at h;exact absurd h h1
  ·rw [if_neg h1] at h
   rcases List.mem_cons.1 hs with rfl|hs
   ·omega
   ·refine ZK5 l (some x) ?_ s hs
    revert h
    split
    ·intro h;omega
    ·exact id
theorem ZNT {l:Cx} (h:ZBH l=0):l.length≤4096/\ZFE none l=0/\ZC3 l=false/\∀ s∈l,ZAJ s=0:=by
 unfold ZBH at h
 by_cases h1:4096<l.length
 ·rw [if_pos h1] at h;omega
 rw [if_neg h1] at h
 by_cases h2:ZFE none l≠0
 ·rw [if_pos h2] at h;exact absurd h h2
 rw [if_neg h2] at h
 refine ⟨by omega,by omega,?_,ZK5 l none (by omega)⟩
 cases h3:ZC3 l with
 | false=>rfl
 | true=>rw [h3,if_pos rfl] at h;omega
end
section
theorem ZHY:∀ (l:Cx) (p:Option (List Vx)),ZFE p l=0->AscL l/\(∀ u,p=some u->∀ s∈l,ZAz u s<0)/\∀ s∈l,ZAJ s=0
 | [],p,_=>⟨by simp [AscL],by simp,by simp⟩
 | s::l,p,h=>by
  unfold ZFE at h
  by_cases h1:ZAJ s≠0
  ·rw [if_pos h1] at h;exact absurd h h1
  rw [if_neg h1] at h
  have key:ZFE (some s) l=0/\∀ u,p=some u->ZAz u s<0:=by
   cases p with
   | none=>exact ⟨by simpa using h,fun u hu=>by cases hu⟩
   | some u =>
    by_cases h2:0≤ZAz u s
    ·simp only [h2,decide_true,if_true] at h
     exact absurd h (by decide)
    ·simp only [h2,decide_false,Bool.false_eq_true,if_false] at h
     exact ⟨h,fun u' hu=>by cases hu;omega⟩
  obtain ⟨h3,h4,h5⟩:=ZHY l (some s) key.1
  have h6:=h4 s rfl
  refine ⟨List.pairwise_cons.2 ⟨h6,h3⟩,fun u hu x hx=>?_,fun x hx=>?_⟩
  ·have h7:=key.2 u hu
   rcases List.mem_cons.1 hx with rfl|hx
   ·exact h7
   ·exact ZCs h7 (h6 x hx)
  ·rcases List.mem_cons.1 hx with rfl|hx
   ·omega
   ·exact h5 x hx
theorem ZNU:∀ (l:Cx) (p:Option (List Vx)),AscL l->(∀ u,p=some u->∀ s∈l,ZAz u s<0)->(∀ s∈l,ZAJ s=0)->ZFE p l=0
 | [],p,_,_,_=>rfl
 | s::l,p,ha,hp,hc=>by
  unfold ZFE
  rw [if_neg (by have:=hc s (by simp);omega),if_neg ?_]
  ·unfold AscL at ha
   rw [List.pairwise_cons] at ha
   exact ZNU l (some s) ha.2 (fun u hu x hx=>by cases hu;exact ha.1 x hx) fun x hx=>hc x (by simp [hx])
  ·cases p with
   | none=>simp
   | some u =>
    have:=hp u rfl s (by simp)
    simp only [decide_eq_true_eq];omega
theorem ZN7 {a b:List Vx} (ha:Asc a) (hb:Asc b) (h:ZCC a b=true) (hne:a≠b):a.length<b.length:=by
 have hsub:∀ x∈a,x∈b:=fun x hx=>by
  have:=List.all_eq_true.1 h x hx
  simpa using this
 have e:ZGX b a true=a:=ZDD (ZL7 hb) ha fun x=>by
  rw [ZMP]
  constructor
  ·intro ⟨_,h⟩;simpa using h
  ·intro hx;exact ⟨hsub x hx,by simpa using hx⟩
 have hs:a.Sublist b:=by rw [<- e];exact ZHE
 rcases Nat.lt_or_ge a.length b.length with h1|h1
 ·exact h1
 ·exact absurd (hs.eq_of_length_le h1) hne
theorem ZGb {l:Cx} (ha:AscL l) (hc:∀ s∈l,ZAJ s=0):ZC3 l=l.any fun s=>ZAU l s:=by
 have asc:∀ s∈l,Asc s:=fun s hs=>(ZO.1 (hc s hs)).2.2.2
 rw [Bool.eq_iff_iff]
 unfold ZC3
 simp only [List.any_eq_true,List.mem_range,Bool.and_eq_true,decide_eq_true_eq,ZAW]
 constructor
 ·rintro ⟨i,hi,k,hk,hne,h⟩
  rw [ZCw hi,ZCw hk] at h
  have hmi:=List.getElem_mem hi
  have hmk:=List.getElem_mem hk
  refine ⟨l[i],hmi,l[k],hmk,ZN7 (asc _ hmi) (asc _ hmk) h fun e=>?_,h⟩
  have hp:=List.pairwise_iff_getElem.1 ha.nodup
  rcases Nat.lt_or_gt_of_ne hne with h1|h1
  ·exact hp i k hi hk h1 e
  ·exact hp k i hk hi h1 e.symm
 ·rintro ⟨s,hs,x,hx,hlt,h⟩
  obtain ⟨i,hi,rfl⟩:=List.getElem_of_mem hs
  obtain ⟨k,hk,rfl⟩:=List.getElem_of_mem hx
  exact ⟨i,hi,k,hk,fun e=>by subst e;omega,by rw [ZCw hi,ZCw hk];exact h⟩
def GoodX (l:Cx):Prop:=l.length≤4096/\AscL l/\(∀ s∈l,ZAJ s=0)/\∀ s∈l,ZAU l s=false
theorem ZAH {l:Cx}:ZBH l=0↔GoodX l:=by
 unfold GoodX
 constructor
 ·intro h
  obtain ⟨h1,h2,h3,h4⟩:=ZNT h
  obtain ⟨h5,_,h6⟩:=ZHY l none h2
  rw [ZGb h5 h6,List.any_eq_false] at h3
  exact ⟨h1,h5,h6,fun s hs=>by simpa using h3 s hs⟩
 ·rintro ⟨h1,h2,h3,h4⟩
  unfold ZBH
  have h5:ZFE none l=0:=ZNU l none h2 (fun u hu=>by cases hu) h3
  have h6:ZC3 l=false:=by
   rw [ZGb h2 h3,List.any_eq_false]
   exact fun s hs=>by simp [h4 s hs]
  rw [if_neg (by omega),if_neg (by omega),if_neg (by simp [h6])]
theorem ZLK {l:Cx} (hc:∀ s∈l,s.length≠0->ZAJ s=0) (hl:(ZDl l).length≤4096):GoodX (ZDl l):=by
 refine ⟨hl,ZFg l,fun s hs=>?_,fun s hs=>?_⟩
 ·obtain ⟨h1,h2⟩:=ZCx.1 hs
  unfold ZPY at h2
  simp only [Bool.and_eq_true,decide_eq_true_eq] at h2
  exact hc s h1 (by omega)
 ·obtain ⟨h1,h2⟩:=ZCx.1 hs
  unfold ZPY at h2
  simp only [Bool.and_eq_true,decide_eq_true_eq,Bool.not_eq_true'] at h2
  rw [Bool.eq_false_iff]
  intro hcv
  obtain ⟨x,hx,hr⟩:=ZAW.1 hcv
  have:=ZAW.2 ⟨x,(ZCx.1 hx).1,hr⟩
  rw [h2.2] at this
  cases this
theorem ZQs {l:Cx} (h:GoodX l):ZDl l=l:=by
 rw [<- ZOR (zs:=l) (fun s hs=>by have:=ZO.1 (h.2.2.1 s hs);omega) h.2.1 fun u=>Iff.rfl]
 rw [List.filter_eq_self]
 intro s hs;simp [h.2.2.2 s hs]
theorem ZP0:∀ {l:Cx} {k:Nat} {x:List Vx},x∈ZPy l k↔∃ f∈l,x∈Zg k f:=by
 have go:∀ (l out:Cx) (k:Nat) (x:List Vx),x∈l.foldl (fun out f=>if f.length<k then out else (Zg k f).foldl ZFL out) out↔x∈out\/∃ f∈l,x∈Zg k f:=by
  intro l
  induction l with
  | nil=>intro out k x;simp
  | cons f l ih =>
   intro out k x
   rw [List.foldl_cons,ih]
   have e:x∈(if f.length<k then out else (Zg k f).foldl ZFL out)↔x∈out\/x∈Zg k f:=by
    split
    ·rename_i h;rw [ZBi k f h];simp
    ·rw [ZD5];exact or_comm
   rw [e]
   constructor
   ·rintro ((h|h)|⟨g,hg,h⟩)
    ·exact .inl h
    ·exact .inr ⟨f,by simp,h⟩
    ·exact .inr ⟨g,by simp [hg],h⟩
   ·rintro (h|⟨g,hg,h⟩)
    ·exact .inl (.inl h)
    ·rcases List.mem_cons.1 hg with rfl|hg
     ·exact .inl (.inr h)
     ·exact .inr ⟨g,hg,h⟩
 intro l k x
 unfold ZPy
 rw [go];simp
theorem ZPz (l:Cx) (k:Nat):AscL (ZPy l k):=by
 have go:∀ (l out:Cx),AscL out->AscL (l.foldl (fun out f=>if f.length<k then out else (Zg k f).foldl ZFL out) out):=by
  intro l
  induction l with
  | nil=>intro out h;exact h
  | cons f l ih =>
   intro out h
   rw [List.foldl_cons]
   refine ih _ ?_
   split
   ·exact h
   ·exact ZD4 h
 exact go l [] (by simp [AscL])
end
section
abbrev CntM:=List (List Vx × Int)
def ZRo (l:Cx) (d:Nat):Cx:=(l.map (Zg d)).flatten
theorem ZQS {l:Cx} {d:Nat} {f:List Vx}:f∈ZRo l d↔f∈ZPy l d:=by
 unfold ZRo
 rw [List.mem_flatten,ZP0]
 constructor
 ·rintro ⟨x,hx,hf⟩
  obtain ⟨s,hs,rfl⟩:=List.mem_map.1 hx
  exact ⟨s,hs,hf⟩
 ·rintro ⟨s,hs,hf⟩
  exact ⟨_,List.mem_map_of_mem hs,hf⟩
end
section
theorem ZNd {a b:Vx} (h:a.1<b.1):ZA0 a b<0:=by
 unfold ZA0
 rw [if_pos h];decide
def AscC (s:List Vx):Prop:=s.Pairwise fun a b=>a.1<b.1
theorem ZHU {s:List Vx} (h:AscC s):Asc s:=List.Pairwise.imp (fun h=>ZNd h) h
theorem ZM9 {a b:Vx} (h:ZA0 a b<0):a.1≤b.1:=by
 unfold ZA0 at h
 split at h
 ·omega
 ·split at h
  ·omega
  ·omega
theorem ZJ1:∀ {s:List Vx},Asc s->Z0 s=true->AscC s
 | [],_,_=>List.Pairwise.nil
 | [a],_,_=>List.pairwise_singleton _ _
 | a::b::s,h,hd=>by
  have h0:=List.pairwise_cons.1 h
  have h1:=ZM9 (h0.1 b (by simp))
  have hab:a.1≠b.1/\Z0 (b::s)=true:=by
   unfold Z0 at hd
   simpa using hd
  have hr:AscC (b::s):=ZJ1 h0.2 hab.2
  refine List.pairwise_cons.2 ⟨fun x hx=>?_,hr⟩
  rcases List.mem_cons.1 hx with rfl|hx
  ·have:=hab.1;omega
  ·have h2:=(List.pairwise_cons.1 hr).1 x hx
   have:=hab.1;omega
theorem ZD8 (s:List Vx) (bl:List Nat):(ZAk s bl).map (·.1)=s.map (·.1):=by
 unfold ZAk
 rw [List.map_map]
 have e:((fun x:Vx=>x.1) ∘ fun p:Vx × Nat=>(p.1.1,((ZBX bl p.2 0:Nat):Int)))=(fun v:Vx=>v.1) ∘ Prod.fst:=rfl
 rw [e,<- List.map_map,List.zipIdx_map_fst]
theorem ZOp {s:List Vx} (h:AscC s) (bl:List Nat):Asc (ZAk s bl):=by
 refine ZHU ?_
 have h1:((ZAk s bl).map (·.1)).Pairwise (· < ·):=by
  rw [ZD8]
  exact List.pairwise_map.2 h
 exact List.pairwise_map.1 h1
theorem ZOq {s:List Vx} (hs:ZAJ s=0) (hd:Z0 s=true) {bl:List Nat} (hb:∀ i,i<s.length->ZBX bl i 0≤1048576):ZAJ (ZAk s bl)=0:=by
 obtain ⟨h1,h2,h3,h4⟩:=ZO.1 hs
 refine ZO.2 ⟨by rw [Z4];exact h1,by rw [Z4];exact h2,fun v hv=>?_,ZOp (ZJ1 h4 hd) bl⟩
 unfold ZAk at hv
 obtain ⟨p,hp,rfl⟩:=List.mem_map.1 hv
 obtain ⟨q,i⟩:=p
 have hi:=List.mem_zipIdx hp
 have hq:q∈s:=by
  have:=hi.2.2
  rw [this]
  exact List.getElem_mem _
 have hr:=h3 q hq
 have hl:=hb i (by omega)
 unfold ZEt at hr ⊢
 simp only [Bool.and_eq_true,decide_eq_true_eq] at hr ⊢
 exact ⟨⟨hr.1.1,by omega⟩,by omega⟩
end
section
def ZBq (s:List Vx):Cx:=(ZBR (2 ^ s.length-1)).map (ZAk s)
def ZEP (s:List Vx) (v:Vx):List Vx:=atB s v.2.toNat
abbrev Sub:=Cx × List Vx × Cx
def ZRJ (s:List Vx):Sub × Int :=
 if ZAJ s≠0 then (([],[],[]),ZAJ s) else if Z0 s=false then (([],[],[]),3) else if 5<s.length then (([],[],[]),5)
 else ((ZDl (ZBq s),ZBE [] (ZBq s).flatten,(ZBE [] (ZBq s).flatten).map (ZEP s)),0)
theorem ZFc {s:List Vx} {t:List Vx} (h:t∈ZBq s):t.length=s.length:=by
 unfold ZBq at h
 obtain ⟨bl,_,rfl⟩:=List.mem_map.1 h
 exact Z4 s bl
end
end Go.Proofs.YtlgmojhmmbhgfaaGreatDoor
