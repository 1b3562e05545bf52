/- Part 32: walks by contracts, and plain laws. -/
import Derived.Test.YtekiljakcngcoaaGreatDoorV31
set_option linter.unusedVariables false
set_option linter.unusedSimpArgs false
set_option linter.unusedSectionVars false
set_option maxRecDepth 100000
set_option maxHeartbeats 4000000
namespace Go.Proofs.YtekiljakcngcoaaGreatDoor
section
open Go.RowKit
section
variable {P:Program} {ops:Array Oper} {hp:List HObj} {fr:List Dat} {dst:Option Tmp} {ty:TypeId} {ps:String} {af:Array Edge} {g:Option (Nat × Bool)} {T T2:TypeId} {x y:Operand} {a b:Nat}
theorem ZSD (ha:a<9223372036854775808) (hb:b<9223372036854775808) (hx:OpD fr x (dI (a:Int))) (hy:OpD fr y (dI (b:Int))):SY P ops hp ⟨dst,.binOp .or T x y T2,ty,ps,af,g⟩ fr (dI ((a ||| b:Nat):Int)):=by
 have h:=SY.or (P:=P) (ops:=ops) (hp:=hp) (dst:=dst) (ty:=ty) (ps:=ps) (af:=af) (g:=g) (T:=T) (T2:=T2) hx hy
 rwa [ZIC ha hb] at h
theorem ZS3 (ha:a<9223372036854775808) (hb:b<9223372036854775808) (hx:OpD fr x (dI (a:Int))) (hy:OpD fr y (dI (b:Int))):SY P ops hp ⟨dst,.binOp .and T x y T2,ty,ps,af,g⟩ fr (dI ((a &&& b:Nat):Int)):=by
 have h:=SY.and (P:=P) (ops:=ops) (hp:=hp) (dst:=dst) (ty:=ty) (ps:=ps) (af:=af) (g:=g) (T:=T) (T2:=T2) hx hy
 rwa [ZEb ha hb] at h
theorem ZE1 (hb:b≤64) (hx:OpD fr x (dI (a:Int))) (hy:OpD fr y (dI (b:Int))):SY P ops hp ⟨dst,.binOp .shr T x y T2,ty,ps,af,g⟩ fr (dI ((a >>> b:Nat):Int)):=by
 have h:=SY.shr (P:=P) (ops:=ops) (hp:=hp) (dst:=dst) (ty:=ty) (ps:=ps) (af:=af) (g:=g) (T:=T) (T2:=T2) hx hy (by omega)
 rwa [ZRw hb] at h
theorem ZEz {m i:Nat} (hm:m<9223372036854775808) (hx:OpD fr x (dI ((m >>> i:Nat):Int))):SY P ops hp ⟨dst,.binOp .and T x (.const (.int .i64 1)) T2,ty,ps,af,g⟩ fr (dI (((m >>> i) &&& 1:Nat):Int)) :=
 ZS3 (a:=m >>> i) (b:=1) (Nat.lt_of_le_of_lt (by rw [Nat.shiftRight_eq_div_pow];exact Nat.div_le_self _ _) hm) (by decide) hx OpD.i
end
def ZAa (bl:List Nat):List Int:=bl.map fun b:Nat=>(b:Int)
theorem ZB8 (bl:List Nat):(ZAa bl).length=bl.length:=by simp [ZAa]
theorem ZOq {bl:List Nat} {k:Nat} (h:k<bl.length) (h':k<(ZAa bl).length):(ZAa bl)[k]=(bl[k]:Int):=by simp [ZAa]
theorem ZFA (bl:List Nat) (b:Nat):ZAa (bl++[b])=ZAa bl++[(b:Int)]:=by simp [ZAa]
section
variable {P:Program} {ops:Array Oper} {hp:List HObj} {fr:List Dat} {dst:Option Tmp} {ty:TypeId} {ps:String} {af:Array Edge} {g:Option (Nat × Bool)} {x i:Operand} {t e:TypeId} {z:Value} {bytes:Nat}
theorem ZSB (E:ElT P t e 1 z bytes false) {bl:List Nat} {k:Nat} (hx:OpD fr x (dS ZCC (ZAa bl))) (hi:OpD fr i (dI (k:Int))) (hk:k<bl.length):SY P ops hp ⟨dst,.indexAddr t x i,ty,ps,af,g⟩ fr (dP 1 false (dI ((bl[k]:Nat):Int))):=by
 have h:=SY.ix (R:=RI) (_gR:=inferInstance) (P:=P) (ops:=ops) (hp:=hp) (dst:=dst) (ty:=ty) (ps:=ps) (af:=af) (g:=g) E hx hi (by rw [ZB8];exact hk)
 rwa [ZOq hk] at h
end
def ZGi (n:Nat) (f:Nat->Nat):List Int:=(List.range n).map fun k=>((f k:Nat):Int)
theorem ZEr (n:Nat) (f:Nat->Nat):(ZGi n f).length=n:=by simp [ZGi]
theorem ZIY {n:Nat} {f:Nat->Nat} {k:Nat} (h:k<(ZGi n f).length):(ZGi n f)[k]=((f k:Nat):Int):=by simp [ZGi]
theorem ZFK {n:Nat} {f g:Nat->Nat} (h:∀ k,k<n->f k=g k):ZGi n f=ZGi n g:=by
 unfold ZGi
 exact List.map_congr_left fun k hk=>by rw [h k (List.mem_range.1 hk)]
theorem ZPY (n:Nat):ZGi n (fun _=>0)=List.replicate n (0:Int):=by
 unfold ZGi
 apply List.ext_getElem (by simp)
 intro i h1 h2
 simp
theorem ZRq {n:Nat} {f:Nat->Nat} {i c:Nat}:(ZGi n f).set i (c:Int)=ZGi n fun k=>if k=i then c else f k:=by
 apply List.ext_getElem (by simp [ZGi])
 intro k h1 h2
 rw [List.getElem_set,ZIY h2]
 by_cases hk:i=k
 ·rw [if_pos hk,if_pos hk.symm]
 ·rw [if_neg hk,if_neg fun q=>hk q.symm,ZIY]
end
section
open Go.RowKit
def ZPo (s:Nat):List Nat:=((List.range s).map (· + 1)).filter fun b=>decide (b &&& s=b)
def ZFZ:Nat->Nat->List (List Nat)
 | 0,_=>[[]]
 | k+1,s=>if s=0 then [[]] else (ZPo s).flatMap fun b=>(ZFZ k (s-b)).map (b :: ·)
def ZCD (s:Nat):List (List Nat):=ZFZ 6 s
def ZBw (s x:Nat):Nat:=((List.range 32).find? fun y=>decide (x<y) && decide (y &&& s=y)).getD 0
theorem ZMg:∀ s b:Fin 32,b.val &&& s.val=b.val->ZDG (s.val:Int) (b.val:Int)=((s.val-b.val:Nat):Int)/\b.val≤s.val:=by decide +kernel
theorem ZO9:∀ s x:Fin 32,x.val &&& s.val=x.val->x.val≠s.val->ZKn ((x.val:Int)-(s.val:Int)) (s.val:Int)=(ZBw s.val x.val:Nat):=by decide +kernel
theorem ZMp:∀ s:Fin 32,ZKn (0-(s.val:Int)) (s.val:Int)=(ZBw s.val 0:Nat)\/s.val=0:=by decide +kernel
theorem ZTy:∀ s x:Fin 32,x.val &&& s.val=x.val->x.val≠s.val->x.val<ZBw s.val x.val/\ZBw s.val x.val≤s.val/\ZBw s.val x.val &&& s.val=ZBw s.val x.val:=by decide +kernel
def ZH5 (s x:Nat):List Nat:=(ZPo s).filter fun y=>decide (x≤y)
theorem ZMr:∀ s:Fin 32,s.val≠0->ZH5 s.val (ZBw s.val 0)=ZPo s.val:=by decide +kernel
theorem ZJY:∀ s x:Fin 32,x.val≠0->x.val &&& s.val=x.val->x.val≠s.val->ZH5 s.val x.val=x.val::ZH5 s.val (ZBw s.val x.val):=by decide +kernel
theorem ZJX:∀ s:Fin 32,s.val≠0->ZH5 s.val s.val=[s.val]:=by decide +kernel
theorem ZPp {s b:Nat}:b∈ZPo s↔0<b/\b≤s/\b &&& s=b:=by
 unfold ZPo
 rw [List.mem_filter,List.mem_map,decide_eq_true_eq]
 constructor
 ·rintro ⟨⟨a,ha,rfl⟩,h⟩
  rw [List.mem_range] at ha
  exact ⟨by omega,by omega,h⟩
 ·rintro ⟨h1,h2,h3⟩
  exact ⟨⟨b-1,by rw [List.mem_range];omega,by omega⟩,h3⟩
theorem ZGa:∀ k,ZFZ k 0=[[]]
 | 0=>rfl
 | k+1=>if_pos rfl
theorem ZEo {k s:Nat} (h:s≠0):ZFZ (k+1) s=(ZPo s).flatMap fun b=>(ZFZ k (s-b)).map (b :: ·):=if_neg h
end
section
def insS:List (Vx × List Vx)->Vx->List Vx->List (Vx × List Vx)
 | [],v,c=>[(v,c)]
 | (x,a)::d,v,c=>if ZA8 v x<0 then (v,c)::(x,a)::d else (x,a)::insS d v c
def ZPV (d:List (Vx × List Vx)) (v:Vx) (c:List Vx):List (Vx × List Vx):=if v∈d.map (·.1) then d else insS d v c
theorem ZLy (f:Vx->List Vx) (v:Vx):∀ vs:List Vx,insS (vs.map fun u=>(u,f u)) v (f v)=(ZQB vs v).map fun u=>(u,f u)
 | []=>rfl
 | x::vs=>by
  show (if ZA8 v x<0 then _ else _)=_
  unfold ZQB
  split
  ·rfl
  ·rw [ZLy f v vs];rfl
theorem ZRo (f:Vx->List Vx) (v:Vx) (vs:List Vx):ZPV (vs.map fun u=>(u,f u)) v (f v)=(ZPW vs v).map fun u=>(u,f u):=by
 have e:(vs.map fun u=>(u,f u)).map (·.1)=vs:=by
  rw [List.map_map]
  exact List.map_id' vs
 unfold ZPV ZPW
 rw [e]
 split
 ·rfl
 ·exact ZLy f v vs
theorem allS (f:Vx->List Vx):∀ (L vs:List Vx),L.foldl (fun d v=>ZPV d v (f v)) (vs.map fun u=>(u,f u))=(ZCH vs L).map fun u=>(u,f u)
 | [],_=>rfl
 | v::L,vs=>by
  rw [List.foldl_cons,ZRo,allS f L]
  rfl
def ZCA:List Nat->Nat->Nat->Nat
 | [],_,m=>m
 | b::l,i,m=>if (b >>> i) &&& 1=1 then m ||| b else ZCA l i (m ||| b)
def ZBY (s:List Vx) (bl:List Nat):List Vx:=s.zipIdx.map fun p=>(p.1.1,((ZCA bl p.2 0:Nat):Int))
def atB (s:List Vx) (m:Nat):List Vx:=(s.zipIdx.filter fun p=>decide ((m >>> p.2) &&& 1=1)).map (·.1)
theorem ZAF (s:List Vx) (bl:List Nat):(ZBY s bl).length=s.length:=by simp [ZBY]
end
section
def ZJE (m i:Nat):Bool:=decide ((m >>> i) &&& 1=1)
end
section
def ZLj:List Int->Int->Bool
 | [],rest=>decide (rest=0)
 | b::l,rest=>if b≤0\/ZKn b rest≠b then false else ZLj l (ZDG rest b)
def ZUP:List Int->Nat->Int->Bool
 | [],n,all=>decide (all=((2 ^ n-1:Nat):Int))
 | b::l,n,all=>if b<1\/((2 ^ n:Nat):Int)≤b\/ZKn all b≠0 then false else ZUP l n (ior all b)
theorem ZTo (b:Int) {r:Nat} (hr:r<9223372036854775808):ZKn b (r:Int)≤(r:Int):=by
 have h:(BitVec.ofInt 64 b &&& BitVec.ofInt 64 (r:Int)).toNat≤r:=by
  rw [BitVec.toNat_and,ZDx hr]
  exact Nat.and_le_right
 unfold ZKn
 rw [ZEx (by omega)]
 omega
theorem ZPX {n all rest b:Nat} (h1:all ||| rest=2 ^ n-1) (h2:all &&& rest=0) (hb:b &&& rest=b):(all ||| b) ||| (rest ^^^ (rest &&& b))=2 ^ n-1/\(all ||| b) &&& (rest ^^^ (rest &&& b))=0:=by
 have e:∀ i,(b.testBit i && rest.testBit i)=b.testBit i:=fun i=>by rw [<- Nat.testBit_and,hb]
 have dis:∀ i,(all.testBit i && rest.testBit i)=false:=fun i=>by rw [<- Nat.testBit_and,h2,Nat.zero_testBit]
 constructor
 ·rw [<- h1]
  apply Nat.eq_of_testBit_eq
  intro i
  simp only [Nat.testBit_or,Nat.testBit_xor,Nat.testBit_and]
  have k1:=e i
  cases ha:all.testBit i <;> cases hr:rest.testBit i <;> cases hbi:b.testBit i <;> simp_all
 ·apply Nat.eq_of_testBit_eq
  intro i
  simp only [Nat.testBit_or,Nat.testBit_xor,Nat.testBit_and,Nat.zero_testBit]
  have k1:=e i
  have k2:=dis i
  cases ha:all.testBit i <;> cases hr:rest.testBit i <;> cases hbi:b.testBit i <;> simp_all
theorem ZSX {n:Nat} (hn:n≤62):∀ (l:List Int) (all rest:Nat),all ||| rest=2 ^ n-1->all &&& rest=0->ZUP l n (all:Int)=ZLj l (rest:Int)
 | [],all,rest,h1,h2=>by
  show decide _=decide _
  have hz:all=2 ^ n-1↔rest=0:=by
   constructor
   ·intro h
    have:all &&& rest=rest:=by
     rw [h]
     have hr:rest≤2 ^ n-1:=by rw [<- h1];exact Nat.right_le_or
     rw [Nat.and_comm,Nat.and_two_pow_sub_one_eq_mod]
     exact Nat.mod_eq_of_lt (by have:=Nat.two_pow_pos n;omega)
    rw [<- this];exact h2
   ·intro h
    rw [h,Nat.or_zero] at h1
    exact h1
  exact decide_eq_decide.2 ⟨fun q=>by have:=hz.1 (by omega);omega,fun q=>by have:=hz.2 (by omega);omega⟩
 | b::l,all,rest,h1,h2=>by
  have hp:2 ^ n≤2 ^ 62:=Nat.pow_le_pow_right (by decide) hn
  have hpos:=Nat.two_pow_pos n
  have ha:all≤2 ^ n-1:=by rw [<- h1];exact Nat.left_le_or
  have hr:rest≤2 ^ n-1:=by rw [<- h1];exact Nat.right_le_or
  have h62:(2:Nat) ^ 62=4611686018427387904:=by decide
  unfold ZUP ZLj
  by_cases hb0:b<1
  ·rw [if_pos (.inl hb0),if_pos (.inl (by omega))]
  by_cases hbn:((2 ^ n:Nat):Int)≤b
  ·have:=ZTo b (r:=rest) (by omega)
   rw [if_pos (.inr (.inl hbn)),if_pos (.inr (by omega))]
  obtain ⟨k,rfl⟩:∃ k:Nat,b=(k:Int):=⟨b.toNat,by omega⟩
  have hk:k<2 ^ n:=by omega
  rw [ZEb (by omega) (by omega),ZEb (by omega) (by omega)]
  have hm:=ZO1 h1 h2 hk
  by_cases hc:k &&& rest=k
  ·have hz:=hm.1 hc
   rw [if_neg (by rintro (h|h|h);exact hb0 h;exact hbn h;exact h (by rw [hz];rfl)),if_neg (by rintro (h|h);omega;exact h (by rw [hc]))]
   rw [ZIC (by omega) (by omega),ZJh (by omega) (by omega)]
   obtain ⟨g1,g2⟩:=ZPX h1 h2 hc
   exact ZSX hn l _ _ g1 g2
  ·rw [if_pos (.inr (.inr fun q=>hc (hm.2 (Int.ofNat.inj q)))),if_pos (.inr fun q=>hc (Int.ofNat.inj q))]
theorem ZQ2 {n:Nat} (hn:n≤62) (l:List Int):ZUP l n 0=ZLj l ((2 ^ n-1:Nat):Int):=ZSX hn l 0 (2 ^ n-1) (Nat.zero_or _) (Nat.zero_and _)
end
section
def ZBE:List Nat->Nat->(Nat->Nat)->Nat->Nat
 | [],_,o=>o
 | b::l,m,o=>ZBE l (m ||| b) fun i=>if ZJE b i=true then m ||| b else o i
def divN (n:Nat):List Nat->Nat->Prop
 | [],all=>all=2 ^ n-1
 | b::l,all=>b<2 ^ n/\all &&& b=0/\divN n l (all ||| b)
theorem ZUk {n:Nat} (hn:n≤62):∀ (l:List Int) (all:Nat),all<2 ^ n->ZUP l n (all:Int)=true->∃ bl:List Nat,l=bl.map (fun b:Nat=>(b:Int))/\divN n bl all
 | [],all,_,h=>⟨[],rfl,by
  have h':decide ((all:Int)=((2 ^ n-1:Nat):Int))=true:=h
  rw [decide_eq_true_eq] at h'
  show all=2 ^ n-1
  omega⟩
 | b::l,all,ha,h=>by
  have hp:2 ^ n≤2 ^ 62:=Nat.pow_le_pow_right (by decide) hn
  have h62:(2:Nat) ^ 62=4611686018427387904:=by decide
  unfold ZUP at h
  by_cases hc:b<1\/((2 ^ n:Nat):Int)≤b\/ZKn (all:Int) b≠0
  ·rw [if_pos hc] at h;cases h
  ·rw [if_neg hc] at h
   have h1:¬ b<1:=fun q=>hc (.inl q)
   have h2:¬ ((2 ^ n:Nat):Int)≤b:=fun q=>hc (.inr (.inl q))
   have h3:ZKn (all:Int) b=0:=Classical.byContradiction fun q=>hc (.inr (.inr q))
   obtain ⟨k,rfl⟩:∃ k:Nat,b=(k:Int):=⟨b.toNat,by omega⟩
   have hk:k<2 ^ n:=by omega
   rw [ZEb (by omega) (by omega)] at h3
   rw [ZIC (by omega) (by omega)] at h
   obtain ⟨bl,rfl,hd⟩:=ZUk hn l (all ||| k) (Nat.or_lt_two_pow ha hk) h
   exact ⟨k::bl,rfl,hk,by omega,hd⟩
end
end Go.Proofs.YtekiljakcngcoaaGreatDoor
