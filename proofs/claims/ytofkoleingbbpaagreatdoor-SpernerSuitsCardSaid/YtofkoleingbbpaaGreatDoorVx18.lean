/- Part 18: walks by contracts, and plain laws. -/
import Derived.Test.YtofkoleingbbpaaGreatDoorVx17
set_option linter.unusedVariables false
set_option linter.unusedSimpArgs false
set_option linter.unusedSectionVars false
set_option maxRecDepth 100000
set_option maxHeartbeats 4000000
namespace Go.Proofs.YtofkoleingbbpaaGreatDoor
section
theorem ZGl:∀ (l:Cx) (p:Option (List Vx)),ZEQ p l=0->AscL l/\(∀ u,p=some u->∀ s∈l,ZAX u s<0)/\∀ s∈l,Z5 s=0
 | [],p,_=>⟨by simp [AscL],by simp,by simp⟩
 | s::l,p,h=>by
  unfold ZEQ at h
  by_cases h1:Z5 s≠0
  ·rw [if_pos h1] at h;exact absurd h h1
  rw [if_neg h1] at h
  have key:ZEQ (some s) l=0/\∀ u,p=some u->ZAX u s<0:=by
   cases p with
   | none=>exact ⟨by simpa using h,fun u hu=>by cases hu⟩
   | some u =>
    by_cases h2:0≤ZAX u s
    ·simp only [h2,decide_true,if_true] at h
     exact absurd h (by decide)
    ·simp only [h2,decide_false,Bool.false_eq_true,if_false] at h
     exact ⟨h,fun u' hu=>by cases hu;omega⟩
  obtain ⟨h3,h4,h5⟩:=ZGl l (some s) key.1
  have h6:=h4 s rfl
  refine ⟨List.pairwise_cons.2 ⟨h6,h3⟩,fun u hu x hx=>?_,fun x hx=>?_⟩
  ·have h7:=key.2 u hu
   rcases List.mem_cons.1 hx with rfl|hx
   ·exact h7
   ·exact ZDe h7 (h6 x hx)
  ·rcases List.mem_cons.1 hx with rfl|hx
   ·omega
   ·exact h5 x hx
theorem ZMf:∀ (l:Cx) (p:Option (List Vx)),AscL l->(∀ u,p=some u->∀ s∈l,ZAX u s<0)->(∀ s∈l,Z5 s=0)->ZEQ p l=0
 | [],p,_,_,_=>rfl
 | s::l,p,ha,hp,hc=>by
  unfold ZEQ
  rw [if_neg (by have:=hc s (by simp);omega),if_neg ?_]
  ·unfold AscL at ha
   rw [List.pairwise_cons] at ha
   exact ZMf l (some s) ha.2 (fun u hu x hx=>by cases hu;exact ha.1 x hx) fun x hx=>hc x (by simp [hx])
  ·cases p with
   | none=>simp
   | some u =>
    have:=hp u rfl s (by simp)
    simp only [decide_eq_true_eq];omega
theorem ZNH {a b:List Vx} (ha:Asc a) (hb:Asc b) (h:ZAu a b=true) (hne:a≠b):a.length<b.length:=by
 have hsub:∀ x∈a,x∈b:=fun x hx=>by
  have:=List.all_eq_true.1 h x hx
  simpa using this
 have e:ZFb b a true=a:=asc_ext (ZKn hb) ha fun x=>by
  rw [ZK9]
  constructor
  ·intro ⟨_,h⟩;simpa using h
  ·intro hx;exact ⟨hsub x hx,by simpa using hx⟩
 have hs:a.Sublist b:=by rw [<- e];exact ZGJ
 rcases Nat.lt_or_ge a.length b.length with h1|h1
 ·exact h1
 ·exact absurd (hs.eq_of_length_le h1) hne
theorem ZFg {l:Cx} (ha:AscL l) (hc:∀ s∈l,Z5 s=0):ZCi l=l.any fun s=>ZDB l s:=by
 have asc:∀ s∈l,Asc s:=fun s hs=>(Zf.1 (hc s hs)).2.2.2
 rw [Bool.eq_iff_iff]
 unfold ZCi
 simp only [List.any_eq_true,List.mem_range,Bool.and_eq_true,decide_eq_true_eq,ZER]
 constructor
 ·rintro ⟨i,hi,k,hk,hne,h⟩
  rw [ZCv hi,ZCv hk] at h
  have hmi:=List.getElem_mem hi
  have hmk:=List.getElem_mem hk
  refine ⟨l[i],hmi,l[k],hmk,ZNH (asc _ hmi) (asc _ hmk) h fun e=>?_,h⟩
  have hp:=List.pairwise_iff_getElem.1 ha.nodup
  rcases Nat.lt_or_gt_of_ne hne with h1|h1
  ·exact hp i k hi hk h1 e
  ·exact hp k i hk hi h1 e.symm
 ·rintro ⟨s,hs,x,hx,hlt,h⟩
  obtain ⟨i,hi,rfl⟩:=List.getElem_of_mem hs
  obtain ⟨k,hk,rfl⟩:=List.getElem_of_mem hx
  exact ⟨i,hi,k,hk,fun e=>by subst e;omega,by rw [ZCv hi,ZCv hk];exact h⟩
def GoodX (l:Cx):Prop:=l.length≤4096/\AscL l/\(∀ s∈l,Z5 s=0)/\∀ s∈l,ZDB l s=false
theorem ZAT {l:Cx}:ZAy l=0↔GoodX l:=by
 unfold GoodX
 constructor
 ·intro h
  obtain ⟨h1,h2,h3,h4⟩:=ZMe h
  obtain ⟨h5,_,h6⟩:=ZGl l none h2
  rw [ZFg h5 h6,List.any_eq_false] at h3
  exact ⟨h1,h5,h6,fun s hs=>by simpa using h3 s hs⟩
 ·rintro ⟨h1,h2,h3,h4⟩
  unfold ZAy
  have h5:ZEQ none l=0:=ZMf l none h2 (fun u hu=>by cases hu) h3
  have h6:ZCi l=false:=by
   rw [ZFg h2 h3,List.any_eq_false]
   exact fun s hs=>by simp [h4 s hs]
  rw [if_neg (by omega),if_neg (by omega),if_neg (by simp [h6])]
theorem ZBt:∀ {l:Cx} {k:Nat} {x:List Vx},x∈ZBX l k↔∃ f∈l,x∈ZX k f:=by
 have go:∀ (l out:Cx) (k:Nat) (x:List Vx),x∈l.foldl (fun out f=>if f.length<k then out else (ZX k f).foldl ZHX out) out↔x∈out\/∃ f∈l,x∈ZX k f:=by
  intro l
  induction l with
  | nil=>intro out k x;simp
  | cons f l ih =>
   intro out k x
   rw [List.foldl_cons,ih]
   have e:x∈(if f.length<k then out else (ZX k f).foldl ZHX out)↔x∈out\/x∈ZX k f:=by
    split
    ·rename_i h;rw [ZBM k f h];simp
    ·rw [ZFI];exact or_comm
   rw [e]
   constructor
   ·rintro ((h|h)|⟨g,hg,h⟩)
    ·exact .inl h
    ·exact .inr ⟨f,by simp,h⟩
    ·exact .inr ⟨g,by simp [hg],h⟩
   ·rintro (h|⟨g,hg,h⟩)
    ·exact .inl (.inl h)
    ·rcases List.mem_cons.1 hg with rfl|hg
     ·exact .inl (.inr h)
     ·exact .inr ⟨g,hg,h⟩
 intro l k x
 unfold ZBX
 rw [go];simp
theorem ZC8 (l:Cx) (k:Nat):AscL (ZBX l k):=by
 have go:∀ (l out:Cx),AscL out->AscL (l.foldl (fun out f=>if f.length<k then out else (ZX k f).foldl ZHX out) out):=by
  intro l
  induction l with
  | nil=>intro out h;exact h
  | cons f l ih =>
   intro out h
   rw [List.foldl_cons]
   refine ih _ ?_
   split
   ·exact h
   ·exact ZFG h
 exact go l [] (by simp [AscL])
def ZHW (out:Cx) (l:Cx):Cx:=l.foldl (fun out f=>if f∈out then out else out++[f]) out
def ZIt (l:Cx) (k:Nat):Cx:=l.foldl (fun out f=>if f.length<k then out else ZHW out (ZX k f)) []
theorem ZIT {out l:Cx} {j:Nat} (h:j<l.length):ZHW out (l.take (j+1))=if l[j]∈ZHW out (l.take j) then ZHW out (l.take j) else ZHW out (l.take j)++[l[j]]:=by
 unfold ZHW;rw [Zc h,List.foldl_append];rfl
theorem ZG4:∀ {l out:Cx} {x:List Vx},x∈ZHW out l↔x∈out\/x∈l
 | [],out,x=>by simp [ZHW]
 | f::l,out,x=>by
  show x∈ZHW (if f∈out then out else out++[f]) l↔_
  rw [ZG4 (l:=l)]
  split
  ·rename_i h
   rw [List.mem_cons]
   constructor
   ·rintro (h1|h1)
    ·exact .inl h1
    ·exact .inr (.inr h1)
   ·rintro (h1|h1|h1)
    ·exact .inl h1
    ·rw [h1];exact .inl h
    ·exact .inr h1
  ·rw [List.mem_append,List.mem_singleton,List.mem_cons,or_assoc]
theorem ZEA:∀ {l out:Cx},out.Nodup->(ZHW out l).Nodup
 | [],out,h=>h
 | f::l,out,h=>by
  show (ZHW (if f∈out then out else out++[f]) l).Nodup
  refine ZEA (l:=l) ?_
  split
  ·exact h
  ·rename_i hf
   rw [List.nodup_append]
   exact ⟨h,by simp,fun a ha b hb=>by rw [List.mem_singleton.1 hb];exact fun e=>hf (e ▸ ha)⟩
theorem ZPa (l out:Cx):out.length≤(ZHW out l).length/\(ZHW out l).length≤out.length+l.length:=by
 induction l generalizing out with
 | nil=>simp [ZHW]
 | cons f l ih =>
  have h:=ih (if f∈out then out else out++[f])
  have e:ZHW out (f::l)=ZHW (if f∈out then out else out++[f]) l:=rfl
  rw [e]
  split at h <;> (simp only [List.length_append,List.length_cons,List.length_nil] at h ⊢;rename_i hf;first|rw [if_pos hf]|rw [if_neg hf]) <;> omega
theorem ZFE {l:Cx} {k i:Nat} (h:i<l.length):ZIt (l.take (i+1)) k=if l[i].length<k then ZIt (l.take i) k else ZHW (ZIt (l.take i) k) (ZX k l[i]):=by
 unfold ZIt;rw [Zc h,List.foldl_append];rfl
theorem ZDC (l:Cx) (k:Nat):∀ n,n≤l.length->(ZIt (l.take n) k).Nodup/\∀ x,x∈ZIt (l.take n) k↔x∈ZBX (l.take n) k
 | 0,_=>by simp [ZIt,ZBX]
 | n+1,hn=>by
  obtain ⟨h1,h2⟩:=ZDC l k n (by omega)
  have h3:∀ x,x∈ZBX (l.take (n+1)) k↔x∈ZBX (l.take n) k\/x∈ZX k l[n]:=fun x=>by
   rw [ZBt,ZBt,Zc (by omega)]
   constructor
   ·rintro ⟨f,hf,hx⟩
    rcases List.mem_append.1 hf with hf|hf
    ·exact .inl ⟨f,hf,hx⟩
    ·rw [List.mem_singleton.1 hf] at hx;exact .inr hx
   ·rintro (⟨f,hf,hx⟩|hx)
    ·exact ⟨f,List.mem_append.2 (.inl hf),hx⟩
    ·exact ⟨l[n],List.mem_append.2 (.inr (List.mem_singleton.2 rfl)),hx⟩
  rw [ZFE (by omega)]
  split
  ·rename_i hs
   refine ⟨h1,fun x=>?_⟩
   rw [h3,h2,ZBM k _ hs];simp
  ·refine ⟨ZEA h1,fun x=>?_⟩
   rw [h3,ZG4,h2]
theorem ZPL (l:Cx) (k n:Nat) (hn:n≤l.length):(ZIt (l.take n) k).length=(ZBX (l.take n) k).length:=by
 obtain ⟨h1,h2⟩:=ZDC l k n hn
 exact ((List.perm_ext_iff_of_nodup h1 (ZC8 _ k).nodup).2 h2).length_eq
theorem ZM2 {l:Cx} {k n:Nat} (hn:n≤l.length):(ZIt (l.take n) k).length≤(ZBX l k).length:=by
 obtain ⟨h1,h2⟩:=ZDC l k n hn
 have hsub:∀ x∈ZIt (l.take n) k,x∈ZBX l k:=fun x hx=>by
  obtain ⟨f,hf,hx⟩:=ZBt.1 ((h2 x).1 hx)
  exact ZBt.2 ⟨f,List.mem_of_mem_take hf,hx⟩
 have hp:(ZIt (l.take n) k).Perm ((ZBX l k).filter fun x=>decide (x∈ZIt (l.take n) k)) :=
  (List.perm_ext_iff_of_nodup h1 ((ZC8 l k).nodup.filter _)).2 fun x=>by
   rw [List.mem_filter,decide_eq_true_eq]
   exact ⟨fun hx=>⟨hsub x hx,hx⟩,fun hx=>hx.2⟩
 rw [hp.length_eq]
 exact List.length_filter_le _ _
theorem ZLP {l ys:Cx} {k:Nat} (hp:ys.Perm (ZIt l k)) (hs:SortL ys):ys=ZBX l k:=by
 have h:=ZDC l k l.length (Nat.le_refl _)
 rw [List.take_length] at h
 refine ZJk ?_ (ZC8 l k) fun x=>by rw [hp.mem_iff];exact h.2 x
 have hn:ys.Nodup:=hp.nodup_iff.2 h.1
 refine List.Pairwise.imp₂ (fun a b h1 h2=>?_) hs hn
 rcases ZF4 a b with h3|h3|h3
 ·exact h3
 ·exact absurd h3 h1
 ·exact absurd h3 h2
end
section
open Go.RowKit

section
variable {P:Program} {ops:Array Oper} {hp:List HObj} {fr:List Dat} {dst:Option Tmp} {ty:TypeId} {ps:String} {af:Array Edge} {g:Option (Nat × Bool)}
theorem ZQw {x y:Operand} {m n:Int} {ats:Array TypeId} (hx:OpD fr x (dI m)) (hy:OpD fr y (dI n)):SY P ops hp ⟨dst,.call { callee:=.builtin .min,args:=#[x,y],argTypes:=ats },ty,ps,af,g⟩ fr (dI (if n<m then n else m)) :=
 SY.val fun {I w a} ho=>⟨.int .i64 (if n<m then n else m),by
  have h1:a.eval x = .int .i64 m:=hx.get (by simp [Op.operands,Call.operands]) ho
  have h2:a.eval y = .int .i64 n:=hy.get (by simp [Op.operands,Call.operands]) ho
  unfold execOp
  simp [resolve,invoke,builtin,h1,h2,Builtin.min_,Builtin.min2],rfl⟩
end
end
section
open Go.RowKit

def ZP0 (k:Nat) (out:Cx) (f:List Vx):Cx:=if f.length<k then out else (ZX k f).foldl ZHX out
theorem ZMN (c:Cx) (k:Nat):ZBX c k=c.foldl (ZP0 k) []:=rfl
theorem ZMO {l:Cx} {k i:Nat} (h:i<l.length):ZBX (l.take (i+1)) k=ZP0 k (ZBX (l.take i) k) l[i]:=by
 rw [ZMN,ZMN,Zc h,List.foldl_append];rfl
theorem ZN4 {k:Nat} {out:Cx} {f:List Vx} (h:f.length≤8):(ZP0 k out f).length≤out.length+256:=by
 unfold ZP0
 split
 ·omega
 ·have h1:=ZFH (ZX k f) out
  have h2:=Nat.le_trans (ZBn k f) (Nat.pow_le_pow_right (by decide) h:2 ^ f.length≤2 ^ 8)
  omega
theorem ZJg:∀ (l:Cx) (k i:Nat),(∀ f∈l,f.length≤8)->i≤l.length->(ZBX (l.take i) k).length≤256*i
 | l,k,0,_,_=>by simp [ZBX]
 | l,k,i+1,h,hi=>by
  rw [ZMO (by omega)]
  have h1:=ZN4 (k:=k) (out:=ZBX (l.take i) k) (h _ (List.getElem_mem (show i<l.length by omega)))
  have h2:=ZJg l k i h (by omega)
  omega
def ZBm (l:Cx) (k:Int):Cx × Int:=if ZAy l≠0 then ([],ZAy l) else if k<1\/8<k then ([],2) else if 4096<(ZBX l k.toNat).length then ([],17) else (ZBX l k.toNat,0)
theorem ZS6 (k:Nat):((k:Int)+1).tmod 2=(((k+1) % 2:Nat):Int):=by rw [Int.tmod_eq_emod_of_nonneg (by omega)];omega
def ZLY (l:Cx):Nat->Int
 | 0=>0
 | k+1=>if (k+1) % 2=1 then ZLY l k+(ZBX l (k+1)).length else ZLY l k-(ZBX l (k+1)).length
def ZES (l:Cx):Int × Int:=if ZAy l≠0 then (0,ZAy l) else if (List.range 8).any (fun k=>decide (4096<(ZBX l (k+1)).length))=true then (0,17) else (ZLY l 8,0)
theorem ZMz (l:Cx) (h:∀ k,(ZBX l k).length≤2000000):∀ k,ZLY l k≤2000000*k /\ -(2000000*(k:Int))≤ZLY l k
 | 0=>by simp [ZLY]
 | k+1=>by
  have h1:=ZMz l h k
  have h2:=h (k+1)
  unfold ZLY
  split <;> omega
end
section
theorem GoodX.asc {l:Cx} (h:GoodX l):∀ s∈l,Asc s:=fun s hs=>(Zf.1 (h.2.2.1 s hs)).2.2.2
theorem ZMS {l:Cx} {s:List Vx} (h:∀ f∈l,Asc f) (hs:Asc s):l.filter (ZBP s)=ZGi l s:=List.filter_congr fun f hf=>ZBu s f hs (h f hf)
theorem ZK4 {l:Cx} {s:List Vx}:ZB1 l s=decide (0<(ZGi l s).length):=by
 unfold ZB1 ZGi
 rw [Bool.eq_iff_iff,List.any_eq_true,decide_eq_true_eq,List.length_pos_iff_exists_mem]
 constructor
 ·rintro ⟨x,hx,h⟩;exact ⟨x,List.mem_filter.2 ⟨hx,h⟩⟩
 ·rintro ⟨x,h⟩;exact ⟨x,(List.mem_filter.1 h).1,(List.mem_filter.1 h).2⟩
end
section
abbrev CntM:=List (List Vx × Int)
def ZOM (l:Cx) (d:Nat):Cx:=(l.map (ZX d)).flatten
theorem ZJx {l:Cx} {d:Nat} {f:List Vx}:f∈ZOM l d↔f∈ZBX l d:=by
 unfold ZOM
 rw [List.mem_flatten,ZBt]
 constructor
 ·rintro ⟨x,hx,hf⟩
  obtain ⟨s,hs,rfl⟩:=List.mem_map.1 hx
  exact ⟨s,hs,hf⟩
 ·rintro ⟨s,hs,hf⟩
  exact ⟨_,List.mem_map_of_mem hs,hf⟩
theorem ZGK {s:List Vx} (h:Asc s) (d:Nat):(ZX d s).Nodup:=List.Pairwise.imp (fun {a b} hab hc=>by
 subst hc;rw [ZEj] at hab;omega) (ZC2 d s h)
end
end Go.Proofs.YtofkoleingbbpaaGreatDoor
namespace Go.Proofs
section
open Go.Shelf
def Tryz.sortS_ren:Go.Shelf.Ren:=⟨fun|6=>154|15=>161|14=>162|28=>177|29=>178|20=>179|21=>180|22=>181|23=>182|24=>183|25=>184|26=>185|27=>186|46=>196|47=>192|48=>193|49=>197|50=>198|57=>202|n=>n,fun|22=>27|24=>22|25=>127|3=>3|39=>177|0=>0|53=>228|55=>207|4=>4|46=>222|45=>221|50=>132|5=>5|9=>9|66=>238|70=>242|76=>246|77=>156|n=>n,fun|n=>n⟩
theorem Tryz.sortS:Go.Proofs.SlLaysF.n6 Tryz.prog Tryz.sortS_ren:={
 mixed:=by kernel_rfl
 f6:=⟨Tryz.f154.name,by decide,Tryz.func154.trans (congrArg some (by kernel_rfl))⟩
 f14:=⟨Tryz.f162.name,by decide,Tryz.func162.trans (congrArg some (by kernel_rfl))⟩
 f15:=Tryz.func161.trans (congrArg some (by kernel_rfl))
 f20:=⟨Tryz.f179.name,by decide,Tryz.func179.trans (congrArg some (by kernel_rfl))⟩
 f21:=⟨Tryz.f180.name,by decide,Tryz.func180.trans (congrArg some (by kernel_rfl))⟩
 f22:=⟨Tryz.f181.name,by decide,Tryz.func181.trans (congrArg some (by kernel_rfl))⟩
 f23:=⟨Tryz.f182.name,by decide,Tryz.func182.trans (congrArg some (by kernel_rfl))⟩
 f24:=⟨Tryz.f183.name,by decide,Tryz.func183.trans (congrArg some (by kernel_rfl))⟩
 f25:=⟨Tryz.f184.name,by decide,Tryz.func184.trans (congrArg some (by kernel_rfl))⟩
 f26:=⟨Tryz.f185.name,by decide,Tryz.func185.trans (congrArg some (by kernel_rfl))⟩
 f27:=⟨Tryz.f186.name,by decide,Tryz.func186.trans (congrArg some (by kernel_rfl))⟩
 f28:=Tryz.func177.trans (congrArg some (by kernel_rfl))
 f29:=Tryz.func178.trans (congrArg some (by kernel_rfl))
 f46:=⟨Tryz.f196.name,by decide,Tryz.func196.trans (congrArg some (by kernel_rfl))⟩
 f47:=Tryz.func192.trans (congrArg some (by kernel_rfl))
 f48:=Tryz.func193.trans (congrArg some (by kernel_rfl))
 f49:=⟨Tryz.f197.name,by decide,Tryz.func197.trans (congrArg some (by kernel_rfl))⟩
 f50:=⟨Tryz.f198.name,by decide,Tryz.func198.trans (congrArg some (by kernel_rfl))⟩
 f57:=⟨Tryz.f202.name,by decide,Tryz.func202.trans (congrArg some (by kernel_rfl))⟩
 t0:=Tryz.underlying0
 a0:=Tryz.isAgg0
 z0:=Tryz.sizeOf0
 v0:=Tryz.zeroValue0
 t3:=Tryz.underlying3
 a3:=Tryz.isAgg3
 z3:=Tryz.sizeOf3
 v3:=Tryz.zeroValue3
 t4:=Tryz.underlying4
 a4:=Tryz.isAgg4
 z4:=Tryz.sizeOf4
 v4:=Tryz.zeroValue4
 t5:=Tryz.underlying5
 a5:=Tryz.isAgg5
 z5:=Tryz.sizeOf5
 v5:=Tryz.zeroValue5
 t9:=Tryz.underlying9
 a9:=Tryz.isAgg9
 z9:=Tryz.sizeOf9
 v9:=Tryz.zeroValue9
 t22:=Tryz.underlying27
 a22:=Tryz.isAgg27
 z22:=Tryz.sizeOf27
 v22:=Tryz.zeroValue27
 a24:=Tryz.isAgg22
 z24:=Tryz.sizeOf22
 t25:=Tryz.underlying127
 a25:=Tryz.isAgg127
 z25:=Tryz.sizeOf127
 v25:=Tryz.zeroValue127
 t39:=Tryz.underlying177
 a39:=Tryz.isAgg177
 z39:=Tryz.sizeOf177
 v39:=Tryz.zeroValue177
 t45:=Tryz.underlying221
 a45:=Tryz.isAgg221
 z45:=Tryz.sizeOf221
 v45:=Tryz.zeroValue221
 t46:=Tryz.underlying222
 a46:=Tryz.isAgg222
 z46:=Tryz.sizeOf222
 v46:=Tryz.zeroValue222
 t50:=Tryz.underlying132
 a50:=Tryz.isAgg132
 z50:=Tryz.sizeOf132
 v50:=Tryz.zeroValue132
 t53:=Tryz.underlying228
 a53:=Tryz.isAgg228
 z53:=Tryz.sizeOf228
 v53:=Tryz.zeroValue228
 t55:=Tryz.underlying207
 a55:=Tryz.isAgg207
 z55:=Tryz.sizeOf207
 v55:=Tryz.zeroValue207
 t66:=Tryz.underlying238
 a66:=Tryz.isAgg238
 z66:=Tryz.sizeOf238
 v66:=Tryz.zeroValue238
 t70:=Tryz.underlying242
 a70:=Tryz.isAgg242
 z70:=Tryz.sizeOf242
 v70:=Tryz.zeroValue242
 t76:=Tryz.underlying246
 a76:=Tryz.isAgg246
 z76:=Tryz.sizeOf246
 v76:=Tryz.zeroValue246
 t77:=Tryz.underlying156
 a77:=Tryz.isAgg156
 z77:=Tryz.sizeOf156
 v77:=Tryz.zeroValue156 }
end
end Go.Proofs
namespace Go.Proofs.YtofkoleingbbpaaGreatDoor
section
open Go.RowKit Go.Sort Go.Shelf
section
variable {w:World} {g n cap:Nat} {os:Array Obj} {cur:Array Value} {e:TypeId} {fz:Nat × Nat} {α:Type} [Inhabited α] {enc:α->Value}
theorem ZFJ (d:Array α):w.grownBy (sortWorld enc w g 0 n d os) (some g):=by
 refine ⟨rfl,rfl,rfl,by simp [sortWorld],fun k hk hne=>?_⟩
 unfold sortWorld
 rw [heap_grow_old _ _ (by simpa using hk)]
 have:g≠k:=fun e=>hne (by rw [e])
 simp [putRow,mapBlock,Sort.ahead,Array.getElem?_modify,this]
theorem ZII (d:Array α) (hb:w.heap[g]?=some (.cells cur e fz)) :
  (sortWorld enc w g 0 n d os).heap[g]?=some (.cells (putCells enc 0 d cur) e fz):=by
 have hg:g<w.heap.size:=(Array.getElem?_eq_some_iff.1 hb).1
 unfold sortWorld
 rw [heap_grow_old _ _ (by simpa using hg)]
 simp [putRow,mapBlock,Sort.ahead,Array.getElem?_modify,hb,onCells]
theorem ZGw {d:Array α} (hb:w.heap[g]?=some (.cells cur e (0,0))) (ht:cur.toList.take d.size=d.toList.map enc):Holds enc w g 0 d:=by
 intro j hj
 refine ⟨?_,by simp [World.frozen?,hb]⟩
 have h1:(cur.toList.take d.size)[j]?=(d.toList.map enc)[j]?:=by rw [ht]
 rw [List.getElem?_take_of_lt hj] at h1
 simp only [World.cell?,hb,Nat.zero_add]
 simp only [Option.isSome_none,Bool.false_eq_true,if_false]
 rw [<- Array.getElem?_toList,h1,getElem!_pos _ j hj]
 simp [hj]
theorem ZFt (cur:Array Value) (d:Array α) (h:d.size≤cur.size):(putCells enc 0 d cur).toList.take d.size=d.toList.map enc:=by
 apply List.ext_getElem?
 intro j
 by_cases hj:j<d.size
 ·rw [List.getElem?_take_of_lt hj,Array.getElem?_toList]
  simp [putCells,hj,show j<cur.size by omega]
 ·rw [List.getElem?_take_eq_none (by omega),List.getElem?_eq_none (by simp;omega)]
end
theorem ZFn {a b c:List Vx} (h:ZAX a b<0) (k:ZAX b c<0):ZAX a c<0:=by
 obtain ⟨h1,h2⟩:=ZDA a b c (by omega) (by omega)
 rcases Int.lt_or_eq_of_le h1 with h3|h3
 ·exact h3
 ·have:=h2 h3;omega
theorem swoL {α:Type} (f:α->List Vx):SWO (ltOf fun x y:α=>ZAX (f x) (f y)) where
 irrefl x:=by simp [ltOf,ZCr.2 (rfl:f x=f x)]
 trans x y z h h':=by
  simp only [ltOf,decide_eq_true_eq] at *
  exact ZFn h h'
 ntrans x y z h h':=by
  simp only [ltOf,decide_eq_false_iff_not] at *
  have e1:=ZC9 (f x) (f y)
  have e2:=ZC9 (f y) (f z)
  have e3:=ZC9 (f x) (f z)
  have:=(ZDA (f z) (f y) (f x) (by omega) (by omega)).1
  omega
section
variable {ops:Array Oper} {hp:List HObj} {fr:List Dat} {Q:Zu} {rest:List Oper} {dst:Option Tmp} {ty:TypeId} {ps:String} {af:Array Edge}
theorem ZOu {x:Operand} {v:Value} {e:TypeId} {xs:List (List Vx)} {ats:Array TypeId} (hx:OpD fr x (dX v)) (hlen:xs.length<4611686018427387904)
  (h:∀ ys:List (List Vx),ys.Perm xs->ys.Pairwise (fun a b=>¬ ZAX b a<0)->WL Tryz.prog ops Q rest (ZB fr dst dA) (Zn v e ZJ ys::hp)) :
  WL Tryz.prog ops Q (⟨dst,.call { callee:=.value (.func 154),args:=#[x,.func 80],argTypes:=ats },ty,ps,af,none⟩::rest) fr (Zn v e ZJ xs::hp):=by
 refine WL.of fun P0 B w0 w a hh hf=>?_
 have hok:=hh.ok (Zn v e ZJ xs) (by simp)
 obtain ⟨us,h1,h2,h3⟩:=hok
 have hev:a.eval x=v:=hx.ev hf
 obtain ⟨hfl,hv⟩:=h2
 have hrun:(execOp a.eval ⟨dst,.call { callee:=.value (.func 154),args:=#[x,.func 80],argTypes:=ats },ty,ps,af,none⟩).run Tryz.prog w = .ok (.enter 154 #[v,.func (.func 80) #[] #[]]) w:=by
  unfold execOp
  simp only [resolve]
  have he:(#[x,Operand.func 80]:Array Operand).map a.eval=#[v,.func (.func 80) #[] #[]]:=by simp [hev];rfl
  rw [he]
  simp [Act.eval,Deferred.ofValue,invoke,Tryz.call154]
 by_cases hne:xs=[]
 ·subst hne
  have hv0:∃ p cap,v = .slice p 0 cap:=by
   rcases hv with ⟨hv,_⟩|⟨g,cap,cur,hv,_⟩
   ·exact ⟨_,_,hv⟩
   ·exact ⟨_,_,hv⟩
  obtain ⟨p,cap,hv0⟩:=hv0
  have hcon:=AnyF.slices_SortFunc_none (P:=Tryz.prog) (ρ:=Tryz.sortS_ren) { Tryz.sortS with } p cap (.func (.func 80) #[] #[]) w
  change Calls Tryz.prog 154 _ _ _ at hcon
  refine wpList_plain rfl fun K hK=>?_
  unfold Oper.wp
  rw [hrun,hv0]
  refine hcon.mono fun e' w' ⟨he,hw'⟩=>?_
  subst he
  subst hw'
  exact hK _ _ ((h [] (List.Perm.refl _) List.Pairwise.nil).on hh (hf.put (d:=dA) trivial))
 have hpos:0<xs.length:=List.length_pos_iff.2 hne
 rcases hv with ⟨_,hz⟩|⟨g,cap,cur,hv,hB,hg,hc1,hc2,hc3,hc4⟩
 ·omega
 have hgb:g<w.heap.size:=(Array.getElem?_eq_some_iff.1 hg).1
 let J:Nat->Prop:=fun b=>Imm P0 B (Zn v e ZJ xs::hp) b/\v.ownBlock≠some b
 let α:={p:Value × List Vx // p.1.oneCell'=true/\ZJ J w p.1 p.2}
 let at0:Fin xs.length->α:=fun k=>⟨(us[k.1]'(by omega),xs[k.1]),h3 k.1 (by omega) k.2⟩
 haveI:Inhabited α:=⟨at0 ⟨0,hpos⟩⟩
 let enc:α->Value:=fun p=>p.1.1
 let d:Array α:=(List.ofFn at0).toArray
 have hds:d.size=xs.length:=by simp [d]
 have hdu:d.toList.map enc=us:=by
  apply List.ext_getElem (by simp [d,h1])
  intro k a b
  simp [d,enc,at0]
 have hdx:d.toList.map (fun p=>p.1.2)=xs:=by
  apply List.ext_getElem (by simp [d])
  intro k a b
  simp [d,at0]
 have hown:v.ownBlock=some g:=by rw [hv];rfl
 have hH:Holds enc w g 0 d:=ZGw hg (by rw [hds,hdu];simpa using hc4)
 have hgr:∀ (d':Array α) (n:Nat) (os:Array Obj),w.grownBy (sortWorld enc w g 0 n d' os) (Zn v e ZJ xs).blk:=fun d' n os=>by
  show w.grownBy _ v.ownBlock
  rw [hown];exact ZFJ d'
 have hmove:∀ (p:α) (d':Array α) (n:Nat) (os:Array Obj),ZJ (fun b=>J b/\b<w.heap.size) (sortWorld enc w g 0 n d' os) p.1.1 p.1.2:=fun p d' n os =>
  Good.move (Good.bound p.2.2) fun k hk hlt=>(hgr d' n os).block k hlt fun he=>hk.1.2 he.symm
 have hcon:=Any.slices_SortFunc Tryz.sortS enc (fun p=>p.2.1) (fun p q=>ZAX p.1.2 q.1.2) (swoL fun p:α=>p.1.2) 80 #[] g 0 cap d w Tryz.call80
  (fun m os dk _ p q=>M.ZSV (hmove p dk m os) (hmove q dk m os)) hH hgb (by rw [hds];exact hlen)
 change Calls Tryz.prog 154 _ _ _ at hcon
 refine wpList_plain rfl fun K hK=>?_
 unfold Oper.wp
 rw [hrun]
 have hva:v = .slice (some ⟨g,0,none⟩) d.size cap:=by rw [hds];exact hv
 rw [<- hva] at hcon
 refine hcon.mono fun e' w' ⟨he,d',n,os,hp1,hs,hw'⟩=>?_
 subst he
 subst hw'
 obtain ⟨q1,_,q3⟩:=hp1
 have hperm:d'.toList.Perm d.toList:=by
  have e1:d'.extract 0 d.size=d':=by rw [<- q1];simp
  have e2:d.extract 0 d.size=d:=by simp
  rw [e1,e2] at q3
  exact q3
 have hys:(d'.toList.map fun p=>p.1.2).Perm xs:=by
  have:=hperm.map (fun p:α=>p.1.2)
  rwa [hdx] at this
 have hsort:(d'.toList.map fun p=>p.1.2).Pairwise (fun a b=>¬ ZAX b a<0):=by
  rw [List.pairwise_map,List.pairwise_iff_getElem]
  intro i j hi hj hij
  have hi':i<d'.size:=by simpa using hi
  have hj':j<d'.size:=by simpa using hj
  have:=hs i j (Nat.zero_le _) hij (by omega)
  rw [getElem!_pos d' i hi',getElem!_pos d' j hj'] at this
  simpa [ltOf] using this
 have hlen':(d'.toList.map fun p=>p.1.2).length=xs.length:=by simp;omega
 have hok:(Zn v e ZJ (d'.toList.map fun p=>p.1.2)).ok (fun k=>Imm P0 B (Zn v e ZJ xs::hp) k/\k<w.heap.size) (sortWorld enc w g 0 n d' os):=by
  refine ⟨d'.toList.map enc,by simp,⟨by simp,.inr ⟨g,cap,putCells enc 0 d' cur,?_,hB,ZII _ hg,by omega,hc2,by simp [putCells,hc3],?_⟩⟩,fun k a b=>?_⟩
  ·rw [hlen'];exact hv
  ·rw [hlen',Nat.mul_one,<- hds,<- q1]
   exact ZFt _ _ (by rw [q1,hds,hc3];omega)
  ·have hk:k<d'.toList.length:=by simpa using a
   refine ⟨by rw [List.getElem_map];exact d'.toList[k].2.1,?_⟩
   rw [List.getElem_map,List.getElem_map]
   exact Good.weak (hmove d'.toList[k] d' n os) fun b hb=>⟨⟨hb.1.1,hb.2⟩,hb.1.2⟩
 exact hK _ _ ((h _ hys hsort).on (hh.write (hgr d' n os) (.inl rfl) hok) (Fr.put (hf.mono fun _ _ hd=>ZT (o':=Zn v e ZJ (d'.toList.map fun p=>p.1.2)) (hgr d' n os) (.inl rfl) hd) (d:=dA) trivial))
end
end
section
open Go.RowKit
section
variable {P:Program} {ops:Array Oper} {hp:List HObj} {o:Oper} {fr:List Dat} {d:Dat} {Q:Zu} {rest:List Oper}
variable {dst:Option Tmp} {ty:TypeId} {ps:String} {af:Array Edge} {g:Option (Nat × Bool)} {e e' t T:TypeId} {bytes b cap N:Nat} {z:Value} {ag:Bool} {α:Type} {R:Rel α} {_gR:Good R} {xs:List α} {v:Value}
abbrev hQ (b N cap:Nat) (e:TypeId) (R:Rel α) [Good R] (xs:List α):HObj:=Zn (.slice (some ⟨b,0,none⟩) N cap) e R xs
end
end
section
open Go.RowKit

theorem nil_A {α:Type} {R:Rel α} [Good R] {xs:List α} {I:Nat->Prop} {w:World} {v:Value} (h:(dS (Arr R) xs).rd I w v):∃ a m c,v = .slice a m c/\(a=none->m=0):=by
 obtain ⟨ad,cap,rfl,h1,h2,h3⟩:=(h:Arr R I w v xs)
 refine ⟨_,_,_,rfl,fun hn=>?_⟩
 rcases Nat.eq_zero_or_pos xs.length with hz|hz
 ·exact hz
 ·obtain ⟨us,b,off,_,_,had,_,_⟩:=h3 0 hz
  rw [hn] at had;cases had
end
section
open Go.RowKit

abbrev hM {K V:Type} (b:Nat) (kv:K->Value) (vv:V->Value) (m:List (K × V)):HObj:=ZAY b (ZAE (Z8 kv vv m))
structure IsV (d:Dat) (v:Value):Prop where
 is:∀ (I:Nat->Prop) (w:World) (u:Value),d.rd I w u->u=v
theorem isX {v:Value}:IsV (dX v) v:=⟨fun _ _ _ h=>h⟩
theorem isI {n:Int}:IsV (dI n) (.int .i64 n):=⟨fun _ _ _ h=>h⟩
theorem isB {b:Bool}:IsV (dB b) (.bool b):=⟨fun _ _ _ h=>h⟩
section
variable {P:Program} {ops:Array Oper} {hp:List HObj} {o:Oper} {fr:List Dat} {d d2:Dat} {Q:Zu} {rest:List Oper}
variable {dst:Option Tmp} {ty:TypeId} {ps:String} {af:Array Edge} {g:Option (Nat × Bool)} {t k e:TypeId} {z:Value} {K V:Type} {kv:K->Value} {ok:K->Prop} {vv:V->Value} {b:Nat} {m:List (K × V)}
theorem WL.makeMap (kv:K->Value) (vv:V->Value) (h:∀ b,WL P ops Q rest (ZB fr dst (dX (.map (some b)))) (hM b kv vv []::hp)) :
  WL P ops Q (⟨dst,.makeMap t none,ty,ps,af,none⟩::rest) fr hp:=by
 refine WL.of fun P0 B w0 w a hh hf=>?_
 have hrun:(execOp a.eval ⟨dst,.makeMap t none,ty,ps,af,none⟩).run P w = .ok (.value (.map (some w.heap.size))) (w.alloc (ZAE [])):=by
  unfold execOp
  simp [Instr.makeMap,ZAE,ZS]
 refine Zd rfl hrun ?_
 have hx:=Ext.of_alloc w (ZAE [])
 have hb:∀ k,(hM w.heap.size kv vv []).blk=some k->w.heap.size≤k/\k<(w.alloc (ZAE [])).heap.size:=fun k hk=>by
  cases hk
  exact ⟨Nat.le_refl _,by simp⟩
 refine (h w.heap.size).on (hh.push hx hb (Zr w _)) ?_
 exact Fr.put (hf.mono fun d _ hd=>Zz hx (fun k hk=>(hb k hk).1) hd) rfl
section
variable [DecidableEq K]
theorem SY.lookM {x y:Operand} {v:K} (T:MapT P t k e z) (H:KeyT P k kv ok) (hx:OpD fr x (dX (.map (some b)))) (hm:hM b kv vv m∈hp) (hy:OpD fr y d) (hd:IsV d (kv v)) (ho:ok v) (hok:∀ p∈m,ok p.1) (hn:(m.map (·.1)).Nodup) :
  SY P ops hp ⟨dst,.lookup t x y false,ty,ps,af,g⟩ fr (dX (((Go.Proofs.YtofkoleingbbpaaGreatDoor.lookM m v).map vv).getD z)):=ZAL fun {P0 B w0 w a} hh hon=>by
 have h1:a.eval x=_:=hx.get (by simp [Op.operands]) hon
 have h2:=hd.is _ _ _ (hy.get (by simp [Op.operands]) hon)
 refine ⟨_,w,?_,Ext.refl _,rfl⟩
 unfold execOp
 simp only [h1,h2,Sem.run_bind,ZCO T H hok hn ho (hh.ok _ hm) false,Result.andThen_ok,Sem.run_pure]
 rfl
theorem ZLn {x y:Operand} {v:K} (T:MapT P t k e z) (H:KeyT P k kv ok) (hx:OpD fr x (dX (.map (some b)))) (hm:hM b kv vv m∈hp) (hy:OpD fr y d) (hd:IsV d (kv v)) (ho:ok v) (hok:∀ p∈m,ok p.1) (hn:(m.map (·.1)).Nodup) :
  SY P ops hp ⟨dst,.lookup t x y true,ty,ps,af,g⟩ fr (dT [dX (((Go.Proofs.YtofkoleingbbpaaGreatDoor.lookM m v).map vv).getD z),dB (Go.Proofs.YtofkoleingbbpaaGreatDoor.lookM m v).isSome]):=ZAL fun {P0 B w0 w a} hh hon=>by
 have h1:a.eval x=_:=hx.get (by simp [Op.operands]) hon
 have h2:=hd.is _ _ _ (hy.get (by simp [Op.operands]) hon)
 refine ⟨_,w,?_,Ext.refl _,[((Go.Proofs.YtofkoleingbbpaaGreatDoor.lookM m v).map vv).getD z,.bool (Go.Proofs.YtofkoleingbbpaaGreatDoor.lookM m v).isSome],rfl,rfl,fun i e x he hx=>?_⟩
 ·unfold execOp
  simp only [h1,h2,Sem.run_bind,ZCO T H hok hn ho (hh.ok _ hm) true,Result.andThen_ok,Sem.run_pure]
  rfl
 ·match i,he,hx with
  | 0,he,hx=>cases he;cases hx;rfl
  | 1,he,hx=>cases he;cases hx;rfl
theorem ZA2 {x y c:Operand} {v:K} {u:V} (T:MapT P t k e z) (H:KeyT P k kv ok) (hx:OpD fr x (dX (.map (some b)))) (hy:OpD fr y d) (hd:IsV d (kv v)) (hc:OpD fr c d2) (hd2:IsV d2 (vv u)) (ho:ok v) (hok:∀ p∈m,ok p.1) (hn:(m.map (·.1)).Nodup)
  (h:WL P ops Q rest (ZB fr dst (dX undef)) (hM b kv vv (ZBf m v u)::hp)) :
  WL P ops Q (⟨dst,.mapUpdate t x y c,ty,ps,af,none⟩::rest) fr (hM b kv vv m::hp):=by
 refine WL.of fun P0 B w0 w a hh hf=>?_
 have h1:a.eval x=_:=hx.ev hf
 have h2:=hd.is _ _ _ (hy.ev hf)
 have h3:=hd2.is _ _ _ (hc.ev hf)
 have hrun:(execOp a.eval ⟨dst,.mapUpdate t x y c,ty,ps,af,none⟩).run P w = .ok .skip (w.putObj b (ZAE (Z8 kv vv (ZBf m v u)))):=by
  unfold execOp
  simp only [h1,h2,h3,Sem.run_bind,ZLL T H hok hn ho u (hh.ok (hM b kv vv m) (by simp)),Result.andThen_ok,Sem.run_pure]
  rfl
 refine wpList_plain rfl fun K hK=>?_
 unfold Oper.wp
 rw [hrun]
 exact hK _ _ (h.on (Hp.putObj hh) (Fr.put (hf.mono fun _ _ hd=>ZAP hd) (d:=dX undef) rfl))
end
theorem ZQ3 {x y:Operand} {v:K} (zv:V) (hz:vv zv=z) (T:MapT P t k e z) (H:KeyT P k kv ok) (hx:OpD fr x (dX (.map (some b)))) (hy:OpD fr y d) (hd:IsV d (kv v)) (ho:ok v) (hok:∀ p∈m,ok p.1)
  (h1:∀ (j:Nat) (hj:j<m.length),m[j].1=v->WL P ops Q rest (ZB fr dst (dT [dX (vv m[j].2),dI j])) (hM b kv vv m::hp))
  (h2:(∀ p∈m,p.1≠v)->WL P ops Q rest (ZB fr dst (dT [dX z,dI m.length])) (hM b kv vv (m++[(v,zv)])::hp)) :
  WL P ops Q (⟨dst,.mapEntry t x y,ty,ps,af,none⟩::rest) fr (hM b kv vv m::hp):=by
 refine WL.of fun P0 B w0 w a hh hf=>?_
 have e1:a.eval x=_:=hx.ev hf
 have e2:=hd.is _ _ _ (hy.ev hf)
 have hT:∀ {I:Nat->Prop} {w:World} (u:Value) (n:Int),(dT [dX u,dI n]).rd I w (.tuple #[u,.int .i64 n]):=fun u n=>⟨[u,.int .i64 n],rfl,rfl,fun i e x he hx=>by
  match i,he,hx with
  | 0,he,hx=>cases he;cases hx;rfl
  | 1,he,hx=>cases he;cases hx;rfl⟩
 rcases ZNr T H hok ho (hh.ok (hM b kv vv m) (by simp)) with ⟨j,hj,hjv,hr⟩|⟨hne,hr⟩
 ·have hrun:(execOp a.eval ⟨dst,.mapEntry t x y,ty,ps,af,none⟩).run P w = .ok (.value (.tuple #[vv m[j].2,.int .i64 j])) (w.putObj b (ZAE (Z8 kv vv m))):=by
   unfold execOp
   simp only [e1,e2,Sem.run_bind,hr,Result.andThen_ok,Sem.run_pure]
   rfl
  refine Zd rfl hrun ?_
  exact (h1 j hj hjv).on (Hp.putObj hh) (Fr.put (hf.mono fun _ _ hd=>ZAP hd) (hT _ _))
 ·have hrun:(execOp a.eval ⟨dst,.mapEntry t x y,ty,ps,af,none⟩).run P w = .ok (.value (.tuple #[z,.int .i64 m.length])) (w.putObj b (ZAE (Z8 kv vv (m++[(v,zv)])))):=by
   unfold execOp
   simp only [e1,e2,Sem.run_bind,hr zv hz,Result.andThen_ok,Sem.run_pure]
   rfl
  refine Zd rfl hrun ?_
  exact (h2 hne).on (Hp.putObj hh) (Fr.put (hf.mono fun _ _ hd=>ZAP hd) (hT _ _))
theorem ZL9 {x y c:Operand} {j:Nat} {u:V} (hx:OpD fr x (dX (.map (some b)))) (hy:OpD fr y (dI (j:Int))) (hc:OpD fr c d2) (hd2:IsV d2 (vv u)) (hj:j<m.length)
  (h:WL P ops Q rest (ZB fr dst (dX undef)) (hM b kv vv (m.set j (m[j].1,u))::hp)) :
  WL P ops Q (⟨dst,.entryStore t x y c,ty,ps,af,none⟩::rest) fr (hM b kv vv m::hp):=by
 refine WL.of fun P0 B w0 w a hh hf=>?_
 have h1:a.eval x=_:=hx.ev hf
 have h2:a.eval y = .int .i64 j:=hy.ev hf
 have h3:=hd2.is _ _ _ (hc.ev hf)
 have hrun:(execOp a.eval ⟨dst,.entryStore t x y c,ty,ps,af,none⟩).run P w = .ok .skip (w.putObj b (ZAE (Z8 kv vv (m.set j (m[j].1,u))))):=by
  unfold execOp
  simp only [h1,h2,h3,Sem.run_bind,ZFs hj u (hh.ok (hM b kv vv m) (by simp)),Result.andThen_ok,Sem.run_pure]
  rfl
 refine wpList_plain rfl fun K hK=>?_
 unfold Oper.wp
 rw [hrun]
 exact hK _ _ (h.on (Hp.putObj hh) (Fr.put (hf.mono fun _ _ hd=>ZAP hd) (d:=dX undef) rfl))
end
end
end Go.Proofs.YtofkoleingbbpaaGreatDoor
