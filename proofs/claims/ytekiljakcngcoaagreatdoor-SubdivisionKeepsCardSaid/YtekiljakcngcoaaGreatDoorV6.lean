/- Part 6: walks by contracts, and plain laws. -/
import Derived.Test.YtekiljakcngcoaaGreatDoorV5
set_option linter.unusedVariables false
set_option linter.unusedSimpArgs false
set_option linter.unusedSectionVars false
set_option maxRecDepth 100000
set_option maxHeartbeats 4000000
namespace Go.Proofs.YtekiljakcngcoaaGreatDoor
section
open Go.RowKit

section
variable {P:Program} {ops:Array Oper} {hp:List HObj} {o:Oper} {fr:List Dat} {d:Dat} {Q:ZAW} {rest:List Oper}
variable {dst:Option Tmp} {ty:TypeId} {ps:String} {af:Array Edge} {g:Option (Nat × Bool)}
variable {t e:TypeId} {n bytes:Nat} {z:Value} {ag:Bool}

theorem ZSo {w:World} {base:Nat} {v:Value} {m size:Nat} {cs:List Value} (h:w.ownsRow base e size v m cs) {k:Nat} (hk:v.ownBlock=some k):k<w.heap.size:=(h.lt k hk).2

theorem ZEa {α:Type} {R:Rel α} [Good R] {P0:Nat->Prop} {B:Nat} {w w':World} {ob:HObj} {v':Value} (hg:w.grownBy w' ob.blk) (hat:v'.ownBlock=ob.blk\/v'.ownBlock=some w.heap.size) {u:Value} {x:α} (h:R (Imm P0 B (ob::hp)) w u x) :
  R (fun b=>(Imm P0 B (ob::hp) b/\b<w.heap.size)/\v'.ownBlock≠some b) w' u x:=by
 have h1:=Good.grown (Good.bound h) hg (fun k hk hc=>hc.1.2 ob (by simp) hk)
 refine Good.weak h1 fun b hb=>⟨hb,fun hc=>?_⟩
 rcases hat with h'|h'
 ·rw [h'] at hc;exact hb.1.2 ob (by simp) hc
 ·rw [h'] at hc;cases hc;exact absurd hb.2 (Nat.lt_irrefl _)

theorem ZEN (E:ElT P t e n z bytes ag) {α:Type} {R:Rel α} [Good R] {P0:Nat->Prop} {B:Nat} {w0 w:World} {v:Value} {xs ys:List α} (hh:Hp P0 B w0 (Zp v e n R xs::hp) w) {ad:Addr} {c:Nat} {news:List (List Value)} (hl:news.length=ys.length)
  (hc:∀ j u,news.flatten[j]?=some u->w.cell? (ad.add j)=some u) (hu:∀ u∈news,u.length=n/\∀ c∈u,c.oneCell'=true) (hy:∀ (k:Nat) (h:k<news.length) (h':k<ys.length),R (Imm P0 B (Zp v e n R xs::hp)) w (.agg news[k].toArray) ys[k])
  (hlen:(xs.length+ys.length)*bytes≤140737488355328) (hm:xs.length+ys.length≤maxLen) :
  ∃ v' w',(Builtin.append_ #[t,t] ty #[v,.slice (some ad) ys.length c]).run P w = .ok v' w'/\Hp P0 B w0 (Zp v' e n R (xs++ys)::hp) w'/\w.grownBy w' v.ownBlock/\(v'.ownBlock=v.ownBlock\/∀ k,v'.ownBlock=some k->w.heap.size≤k):=by
 obtain ⟨us,hul,hus,hn,ho,he⟩:=hh.ok (Zp v e n R xs) (by simp)
 obtain ⟨i,hi,hz,hsz,hb⟩:=info_parts E.info
 have hnl:news.flatten.length=ys.length*n:=by rw [ZGR fun u h=>(hu u h).1,hl]
 obtain ⟨v',w',hr,r1,r2,r3,r4⟩:=run_append_own_at (P:=P) w 0 t ty e i z n bytes E.und hi hz hsz hb E.zs hn v xs.length us.flatten ho ad ys.length c news.flatten hnl hc
  (fun u hu'=>by obtain ⟨l,hl',hul'⟩:=List.mem_flatten.1 hu';exact (hu l hl').2 u hul') hm hlen (Nat.zero_le _)
 have hat':v'.ownBlock=(Zp v e n R xs).blk\/v'.ownBlock=some w.heap.size:=r4
 refine ⟨v',w',hr,hh.write (o':=Zp v' e n R (xs++ys)) r2 ?_ ?_,r2,r4.imp id fun h k hk=>by rw [h] at hk;cases hk;exact Nat.le_refl _⟩
 ·rcases r4 with h|h
  ·exact .inl h
  ·refine .inr fun k hk=>?_
   have hk':v'.ownBlock=some k:=hk
   rw [h] at hk';cases hk'
   exact ⟨Nat.le_refl _,ZSo r1 h⟩
 ·refine ⟨us++news,by simp [hul,hl],fun u hu'=>?_,hn,by rw [List.length_append,List.flatten_append];exact r1,fun k h h'=>?_⟩
  ·rcases List.mem_append.1 hu' with h|h
   ·exact hus u h
   ·exact hu u h
  ·by_cases hk:k<us.length
   ·have hk':k<xs.length:=by omega
    rw [List.getElem_append_left hk,List.getElem_append_left hk']
    exact ZEa r2 hat' (Good.weak (he k hk hk') fun b hb=>hb.1)
   ·have e1:k-us.length<news.length:=by rw [List.length_append] at h;omega
    have e2:k-xs.length<ys.length:=by rw [List.length_append] at h';omega
    rw [List.getElem_append_right (by omega),List.getElem_append_right (by omega)]
    have:=hy (k-us.length) e1 (by omega)
    have e3:k-us.length=k-xs.length:=by rw [hul]
    simp only [e3] at this ⊢
    exact ZEa r2 hat' this
theorem ZCW (E:ElT P t e 1 z bytes ag) {α:Type} {R:Rel α} [Good R] {P0:Nat->Prop} {B:Nat} {w0 w:World} {v:Value} {xs ys:List α} (hh:Hp P0 B w0 (Zr v e R xs::hp) w) {ad:Addr} {c:Nat} {news:List Value} (hl:news.length=ys.length)
  (hc:∀ j u,news[j]?=some u->w.cell? (ad.add j)=some u) (hu:∀ u∈news,u.oneCell'=true) (hy:∀ (k:Nat) (h:k<news.length) (h':k<ys.length),R (Imm P0 B (Zr v e R xs::hp)) w news[k] ys[k])
  (hlen:(xs.length+ys.length)*bytes≤140737488355328) (hm:xs.length+ys.length≤maxLen) :
  ∃ v' w',(Builtin.append_ #[t,t] ty #[v,.slice (some ad) ys.length c]).run P w = .ok v' w'/\Hp P0 B w0 (Zr v' e R (xs++ys)::hp) w'/\w.grownBy w' v.ownBlock/\(v'.ownBlock=v.ownBlock\/∀ k,v'.ownBlock=some k->w.heap.size≤k):=by
 obtain ⟨us,hul,ho,he⟩:=hh.ok (Zr v e R xs) (by simp)
 obtain ⟨i,hi,hz,hsz,hb⟩:=info_parts E.info
 obtain ⟨v',w',hr,r1,r2,r3,r4⟩:=run_append_own_at (P:=P) w 0 t ty e i z 1 bytes E.und hi hz hsz hb E.zs Nat.one_pos v xs.length us ho ad ys.length c news (by omega) hc hu hm hlen (Nat.zero_le _)
 have hat':v'.ownBlock=(Zr v e R xs).blk\/v'.ownBlock=some w.heap.size:=r4
 refine ⟨v',w',hr,hh.write (o':=Zr v' e R (xs++ys)) r2 ?_ ?_,r2,r4.imp id fun h k hk=>by rw [h] at hk;cases hk;exact Nat.le_refl _⟩
 ·rcases r4 with h|h
  ·exact .inl h
  ·refine .inr fun k hk=>?_
   have hk':v'.ownBlock=some k:=hk
   rw [h] at hk';cases hk'
   exact ⟨Nat.le_refl _,ZSo r1 h⟩
 ·refine ⟨us++news,by simp [hul,hl],by rw [List.length_append];exact r1,fun k h h'=>?_⟩
  by_cases hk:k<us.length
  ·have hk':k<xs.length:=by omega
   rw [List.getElem_append_left hk,List.getElem_append_left hk']
   exact ⟨(he k hk hk').1,ZEa r2 hat' (Good.weak (he k hk hk').2 fun b hb=>hb.1)⟩
  ·have e1:k-us.length<news.length:=by rw [List.length_append] at h;omega
   have e2:k-xs.length<ys.length:=by rw [List.length_append] at h';omega
   rw [List.getElem_append_right (by omega),List.getElem_append_right (by omega)]
   have:=hy (k-us.length) e1 (by omega)
   have e3:k-us.length=k-xs.length:=by rw [hul]
   simp only [e3] at this ⊢
   exact ⟨hu _ (List.getElem_mem (by omega)),ZEa r2 hat' this⟩

theorem ZCu {a:Act} {k:Tmp} {u:Value} {x:Operand} (h:x ≠ .tmp k):(a.put (some k) u).eval x=a.eval x:=by
 cases x with
 | tmp t =>
  have:k≠t:=fun e=>h (by rw [e])
  simp [Act.eval,Act.put,Array.getD_eq_getD_getElem?,this]
 | _=>rfl
theorem ZBv {a:Act} {k:Tmp} {u:Value} (h:k<a.tmps.size):(a.put (some k) u).eval (.tmp k)=u:=by
 simp [Act.eval,Act.put,Array.getD_eq_getD_getElem?,h]
theorem ZA6 {a:Act} {w w':World} {s y:Operand} {v yv v':Value} {dst2:Option Tmp} {ty2:TypeId} {Qa:Exit->Act->World->Prop} (hs:a.eval s=v) (hy:a.eval y=yv) (hr:(Builtin.append_ #[t,t] ty2 #[v,yv]).run P w = .ok v' w') (hk:wpList P ops Qa rest (a.put dst2 v') w') :
  wpList P ops Qa (⟨dst2,.call { callee:=.builtin .append,args:=#[s,y],argTypes:=#[t,t] },ty2,ps,af,none⟩::rest) a w:=by
 refine Zu rfl (v:=v') (w':=w') ?_ hk
 unfold execOp
 simp only [resolve,invoke,builtin,List.map_toArray,List.map_cons,List.map_nil,hs,hy,Sem.run_bind,Sem.run_pure,Result.andThen_ok,hr]

theorem ZO {s x:Operand} {k:Tmp} {dst2:Option Tmp} {ty2:TypeId} {ps2:String} {af2:Array Edge} (E:ElT P t e n z bytes ag) {α:Type} {R:Rel α} {_gR:Good R} {v:Value} {xs:List α} {y:α} (hs:OpD fr s (dX v)) (hx:OpD fr x (dS R y)) (hsh:∀ a,(dS R a).Shape n true) (hne:s ≠ .tmp k) (hkl:k<fr.length) (hn:0<n/\n≤16777216) (hby:0<bytes)
  (hlen:(xs.length+1)*bytes≤140737488355328) (h:∀ v',WL P ops Q rest (ZA (fr.set k dA) dst2 (dX v')) (Zp v' e n R (xs++[y])::hp)) :
  WL P ops Q (⟨some k,.buildSlice t 1 #[(0,x)],ty,ps,af,none⟩::⟨dst2,.call { callee:=.builtin .append,args:=#[s,.tmp k],argTypes:=#[t,t] },ty2,ps2,af2,none⟩::rest) fr (Zp v e n R xs::hp):=by
 refine WL.of fun P0 B w0 w a hh hf=>?_
 have hxr:=hx.ev hf
 obtain ⟨cs,k1,k0,k2,k3,k4⟩:=hsh y _ _ _ hxr
 simp only [if_true] at k4
 have hb:=ZBP (w:=w) E (us:=[a.eval x]) (css:=[cs]) rfl (fun i u cs' hu hcs=>by
  cases i with
  | zero=>cases hu;cases hcs;exact ⟨k3,k1⟩
  | succ i=>simp at hu) (by simp;omega)
 refine Zu rfl (v:=.slice (some ⟨w.heap.size,0,none⟩) 1 1) (w':=w.alloc (.cells [cs].flatten.toArray e)) ?_ ?_
 ·unfold execOp
  simp only [List.map_toArray,List.map_cons,List.map_nil,Sem.run_bind]
  have:(Instr.buildSlice t 1 #[(0,a.eval x)]).run P w = .ok (.slice (some ⟨w.heap.size,0,none⟩) 1 1) (w.alloc (.cells [cs].flatten.toArray e)):=hb
  simp only [this,Result.andThen_ok,Sem.run_pure]
 have hxe:=Ext.of_alloc w (.cells [cs].flatten.toArray e)
 have hh1:=hh.ext hxe
 have hf1:Fr (Imm P0 B (Zp v e n R xs::hp)) (w.alloc (.cells [cs].flatten.toArray e)) (a.put (some k) (.slice (some ⟨w.heap.size,0,none⟩) 1 1)) (fr.set k dA):=Fr.put (x:=some k) (hf.ext hxe) (d:=dA) trivial
 have hm:xs.length+[y].length≤maxLen:=by
  have:(xs.length+1)*1≤(xs.length+1)*bytes:=Nat.mul_le_mul_left _ hby
  simp only [maxLen,List.length_cons,List.length_nil];omega
 obtain ⟨v',w',hr,r1,r2,r3⟩:=ZEN (ty:=ty2) E hh1 (ad:=⟨w.heap.size,0,none⟩) (c:=1) (ys:=[y]) (news:=[cs]) rfl (fun j u hu=>by
   rw [Addr.add_lit,cell_of_row _ _ _ _ _ _ (Z0 w _),Nat.zero_add]
   simpa using hu) (fun u hu=>by rw [List.mem_singleton.1 hu];exact ⟨k1,k2⟩) (fun j h1 h2=>by
   have hj:j=0:=by simp at h1;omega
   subst hj
   have:=Good.ext (R:=R) hxr hxe
   rw [k4] at this
   exact this) (by simpa using hlen) hm
 refine ZA6 (v:=v) (yv:=.slice (some ⟨w.heap.size,0,none⟩) 1 1) ?_ (ZBv (by rw [hf.size];exact hkl)) hr ?_
 ·rw [ZCu hne];exact hs.ev hf
 ·exact (h v').on r1 (Fr.put (x:=dst2) (hf1.mono fun d _ hd=>ZY (o:=Zp v e n R xs) (o':=Zp v' e n R (xs++[y])) r2 r3 hd) (d:=dX v') rfl)
theorem ZM {s x:Operand} {k:Tmp} {dst2:Option Tmp} {ty2:TypeId} {ps2:String} {af2:Array Edge} (E:ElT P t e 1 z bytes ag) {α:Type} {R:Rel α} {_gR:Good R} {v:Value} {xs:List α} {y:α} (hs:OpD fr s (dX v)) (hx:OpD fr x (dS R y)) (hsh:∀ a,(dS R a).Shape 1 false) (hne:s ≠ .tmp k) (hkl:k<fr.length) (hby:0<bytes)
  (hlen:(xs.length+1)*bytes≤140737488355328) (h:∀ v',WL P ops Q rest (ZA (fr.set k dA) dst2 (dX v')) (Zr v' e R (xs++[y])::hp)) :
  WL P ops Q (⟨some k,.buildSlice t 1 #[(0,x)],ty,ps,af,none⟩::⟨dst2,.call { callee:=.builtin .append,args:=#[s,.tmp k],argTypes:=#[t,t] },ty2,ps2,af2,none⟩::rest) fr (Zr v e R xs::hp):=by
 refine WL.of fun P0 B w0 w a hh hf=>?_
 have hxr:=hx.ev hf
 obtain ⟨cs,k1,k0,k2,k3,k4⟩:=hsh y _ _ _ hxr
 simp only [Bool.false_eq_true,if_false] at k4
 subst k4
 have hb:=ZBP (w:=w) E (us:=[a.eval x]) (css:=[[a.eval x]]) rfl (fun i u cs' hu hcs=>by
  cases i with
  | zero=>cases hu;cases hcs;exact ⟨k3,k1⟩
  | succ i=>simp at hu) (by simp)
 refine Zu rfl (v:=.slice (some ⟨w.heap.size,0,none⟩) 1 1) (w':=w.alloc (.cells [[a.eval x]].flatten.toArray e)) ?_ ?_
 ·unfold execOp
  simp only [List.map_toArray,List.map_cons,List.map_nil,Sem.run_bind]
  have:(Instr.buildSlice t 1 #[(0,a.eval x)]).run P w = .ok (.slice (some ⟨w.heap.size,0,none⟩) 1 1) (w.alloc (.cells [[a.eval x]].flatten.toArray e)):=hb
  simp only [this,Result.andThen_ok,Sem.run_pure]
 have hxe:=Ext.of_alloc w (.cells [[a.eval x]].flatten.toArray e)
 have hh1:=hh.ext hxe
 have hf1:Fr (Imm P0 B (Zr v e R xs::hp)) (w.alloc (.cells [[a.eval x]].flatten.toArray e)) (a.put (some k) (.slice (some ⟨w.heap.size,0,none⟩) 1 1)) (fr.set k dA):=Fr.put (x:=some k) (hf.ext hxe) (d:=dA) trivial
 have hm:xs.length+[y].length≤maxLen:=by
  have:(xs.length+1)*1≤(xs.length+1)*bytes:=Nat.mul_le_mul_left _ hby
  simp only [maxLen,List.length_cons,List.length_nil];omega
 obtain ⟨v',w',hr,r1,r2,r3⟩:=ZCW (ty:=ty2) E hh1 (ad:=⟨w.heap.size,0,none⟩) (c:=1) (ys:=[y]) (news:=[a.eval x]) rfl (fun j u hu=>by
   rw [Addr.add_lit,cell_of_row _ _ _ _ _ _ (Z0 w _),Nat.zero_add]
   simpa using hu) k2 (fun j h1 h2=>by
   have hj:j=0:=by simp at h1;omega
   subst hj
   exact Good.ext (R:=R) hxr hxe) (by simpa using hlen) hm
 refine ZA6 (v:=v) (yv:=.slice (some ⟨w.heap.size,0,none⟩) 1 1) ?_ (ZBv (by rw [hf.size];exact hkl)) hr ?_
 ·rw [ZCu hne];exact hs.ev hf
 ·exact (h v').on r1 (Fr.put (x:=dst2) (hf1.mono fun d _ hd=>ZY (o:=Zr v e R xs) (o':=Zr v' e R (xs++[y])) r2 r3 hd) (d:=dX v') rfl)

theorem WL.appK {s y:Operand} {dst2:Option Tmp} {ty2:TypeId} {ps2:String} {af2:Array Edge} (E:ElT P t e n z bytes ag) {α:Type} {R:Rel α} {_gR:Good R} {v:Value} {xs ys:List α} (hs:OpD fr s (dX v)) (hy:OpD fr y (dS (ArrK n R) ys)) (hby:0<bytes)
  (hlen:(xs.length+ys.length)*bytes≤140737488355328) (h:∀ v',WL P ops Q rest (ZA fr dst2 (dX v')) (Zp v' e n R (xs++ys)::hp)) :
  WL P ops Q (⟨dst2,.call { callee:=.builtin .append,args:=#[s,y],argTypes:=#[t,t] },ty2,ps2,af2,none⟩::rest) fr (Zp v e n R xs::hp):=by
 refine WL.of fun P0 B w0 w a hh hf=>?_
 obtain ⟨ad,cap,hv,c1,c2,c0,c3⟩:=(hy.ev hf:ArrK n R _ _ _ _)
 have hm:xs.length+ys.length≤maxLen:=by
  have:(xs.length+ys.length)*1≤(xs.length+ys.length)*bytes:=Nat.mul_le_mul_left _ hby
  simp only [maxLen];omega
 cases ad with
 | none =>
  have hy0:ys=[]:=by
   cases ys with
   | nil=>rfl
   | cons y ys=>obtain ⟨_,_,_,_,_,_,hc,_⟩:=c3 0 (by simp);cases hc
  subst hy0
  obtain ⟨us,_,_,_,ho,_⟩:=hh.ok (Zp v e n R xs) (by simp)
  refine ZA6 (v:=v) (yv:=_) (hs.ev hf) hv (ZB9 E ho cap) ?_
  have:=h v
  rw [List.append_nil] at this
  exact this.on hh (Fr.put hf rfl)
 | some ad =>
  have hch:∀ k:Nat,∃ cs:List Value,∀ h:k<ys.length,cs.length=n/\(∀ c∈cs,c.oneCell'=true)/\(∀ j c,cs[j]?=some c->w.cell? (ad.add (k*n+j))=some c)/\R (Imm P0 B (Zp v e n R xs::hp)) w (.agg cs.toArray) ys[k]:=fun k=>by
   by_cases hk:k<ys.length
   ·obtain ⟨cs,b,off,r1,r2,r3,r4,r5,r6⟩:=c3 k hk
    cases r4
    exact ⟨cs,fun _=>⟨r2,r3,fun j c hc=>by rw [Addr.add_lit,<- Nat.add_assoc];exact r6 j c hc,r1⟩⟩
   ·exact ⟨[],fun h=>absurd h hk⟩
  obtain ⟨f,hfch⟩:=Classical.axiomOfChoice hch
  have hmem:∀ u∈(List.range ys.length).map f,∃ j,j<ys.length/\u=f j:=fun u hu=>by
   simp only [List.mem_map,List.mem_range] at hu
   obtain ⟨j,hj,rfl⟩:=hu
   exact ⟨j,hj,rfl⟩
  obtain ⟨v',w',hr,r1,r2,r3⟩:=ZEN (ty:=ty2) E hh (ad:=ad) (c:=cap) (ys:=ys) (news:=(List.range ys.length).map f) (by simp) (fun j u hu=>by
    have hlt:=(List.getElem?_eq_some_iff.1 hu).1
    have hfl:((List.range ys.length).map f).flatten.length=ys.length*n:=by
     rw [ZGR (n:=n) fun u hu=>by obtain ⟨j,hj,rfl⟩:=hmem u hu;exact (hfch j hj).1];simp
    rw [hfl] at hlt
    have hq:j / n<ys.length:=(Nat.div_lt_iff_lt_mul c0).2 hlt
    have hr:j % n<n:=Nat.mod_lt _ c0
    have hj:j=(j / n)*n+j % n:=by rw [Nat.mul_comm];exact (Nat.div_add_mod j n).symm
    have hlen':=(hfch (j / n) hq).1
    have hg:=ZAV (us:=(List.range ys.length).map f) (n:=n) (k:=j / n) (j:=j % n) (fun u hu=>by obtain ⟨j,hj,rfl⟩:=hmem u hu;exact (hfch j hj).1) (by simpa using hq) (c:=(f (j / n))[j % n]'(by omega)) (by simp)
    rw [<- hj,hu] at hg
    cases hg
    have:=(hfch (j / n) hq).2.2.1 (j % n) _ (List.getElem?_eq_getElem (by omega))
    rw [<- hj] at this
    exact this)
   (fun u hu=>by obtain ⟨j,hj,rfl⟩:=hmem u hu;exact ⟨(hfch j hj).1,(hfch j hj).2.1⟩) (fun k h1 h2=>by
    simp only [List.getElem_map,List.getElem_range]
    exact (hfch k h2).2.2.2) hlen hm
  refine ZA6 (v:=v) (yv:=_) (hs.ev hf) hv hr ?_
  exact (h v').on r1 (Fr.put (x:=dst2) (hf.mono fun d _ hd=>ZY (o:=Zp v e n R xs) (o':=Zp v' e n R (xs++ys)) r2 r3 hd) (d:=dX v') rfl)
theorem WL.app1 {s y:Operand} {dst2:Option Tmp} {ty2:TypeId} {ps2:String} {af2:Array Edge} (E:ElT P t e 1 z bytes ag) {α:Type} {R:Rel α} {_gR:Good R} {v:Value} {xs ys:List α} (hs:OpD fr s (dX v)) (hy:OpD fr y (dS (Arr R) ys)) (hby:0<bytes)
  (hlen:(xs.length+ys.length)*bytes≤140737488355328) (h:∀ v',WL P ops Q rest (ZA fr dst2 (dX v')) (Zr v' e R (xs++ys)::hp)) :
  WL P ops Q (⟨dst2,.call { callee:=.builtin .append,args:=#[s,y],argTypes:=#[t,t] },ty2,ps2,af2,none⟩::rest) fr (Zr v e R xs::hp):=by
 refine WL.of fun P0 B w0 w a hh hf=>?_
 obtain ⟨ad,cap,hv,c1,c2,c3⟩:=(hy.ev hf:Arr R _ _ _ _)
 have hm:xs.length+ys.length≤maxLen:=by
  have:(xs.length+ys.length)*1≤(xs.length+ys.length)*bytes:=Nat.mul_le_mul_left _ hby
  simp only [maxLen];omega
 cases ad with
 | none =>
  have hy0:ys=[]:=by
   cases ys with
   | nil=>rfl
   | cons y ys=>obtain ⟨_,_,_,_,_,hc,_⟩:=c3 0 (by simp);cases hc
  subst hy0
  obtain ⟨us,_,ho,_⟩:=hh.ok (Zr v e R xs) (by simp)
  refine ZA6 (v:=v) (yv:=_) (hs.ev hf) hv (ZB9 E ho cap) ?_
  have:=h v
  rw [List.append_nil] at this
  exact this.on hh (Fr.put hf rfl)
 | some ad =>
  have hch:∀ k:Nat,∃ u:Value,∀ h:k<ys.length,w.cell? (ad.add k)=some u/\u.oneCell'=true/\R (Imm P0 B (Zr v e R xs::hp)) w u ys[k]:=fun k=>by
   by_cases hk:k<ys.length
   ·obtain ⟨u,b,off,r1,r2,r3,r4,r5⟩:=c3 k hk
    cases r3
    exact ⟨u,fun _=>⟨by rw [Addr.add_lit];exact r5,r2,r1⟩⟩
   ·exact ⟨undef,fun h=>absurd h hk⟩
  obtain ⟨f,hfch⟩:=Classical.axiomOfChoice hch
  obtain ⟨v',w',hr,r1,r2,r3⟩:=ZCW (ty:=ty2) E hh (ad:=ad) (c:=cap) (ys:=ys) (news:=(List.range ys.length).map f) (by simp) (fun j u hu=>by
    obtain ⟨hjl,hju⟩:=List.getElem?_eq_some_iff.1 hu
    simp at hjl hju
    subst hju
    exact (hfch j hjl).1) (fun u hu=>by
    simp only [List.mem_map,List.mem_range] at hu
    obtain ⟨j,hj,rfl⟩:=hu
    exact (hfch j hj).2.1) (fun k h1 h2=>by
    simp only [List.getElem_map,List.getElem_range]
    exact (hfch k h2).2.2) hlen hm
  refine ZA6 (v:=v) (yv:=_) (hs.ev hf) hv hr ?_
  exact (h v').on r1 (Fr.put (x:=dst2) (hf.mono fun d _ hd=>ZY (o:=Zr v e R xs) (o':=Zr v' e R (xs++ys)) r2 r3 hd) (d:=dX v') rfl)
theorem ZE2 (E:ElT P t e n z bytes ag) {α:Type} (R:Rel α) [Good R] (hn:0<n) (h:∀ v,WL P ops Q rest (ZA fr dst (dX v)) (Zp v e n R ([]:List α)::hp)):WL P ops Q (⟨dst,.buildSlice t 0 #[],ty,ps,af,none⟩::rest) fr hp:=by
 refine WL.of fun P0 B w0 w a hh hf=>?_
 have hb:=ZBP (w:=w) E (us:=[]) (css:=[]) rfl (fun i u cs' hu hcs=>by simp at hu) (by simp)
 refine Zu rfl (v:=.slice (some ⟨w.heap.size,0,none⟩) 0 0) (w':=w.alloc (.cells #[] e)) ?_ ?_
 ·unfold execOp
  simp only [List.map_toArray,List.map_nil,Sem.run_bind]
  have:(Instr.buildSlice t 0 #[]).run P w = .ok (.slice (some ⟨w.heap.size,0,none⟩) 0 0) (w.alloc (.cells #[] e)):=hb
  simp only [this,Result.andThen_ok,Sem.run_pure]
 have hx:=Ext.of_alloc w (.cells #[] e)
 have hob:∀ k,(Zp (.slice (some ⟨w.heap.size,0,none⟩) 0 0) e n R ([]:List α)).blk=some k->w.heap.size≤k/\k<(w.alloc (.cells #[] e)).heap.size:=fun k hk=>by
  cases hk
  exact ⟨Nat.le_refl _,by simp⟩
 refine (h _).on (hh.push (o:=Zp (.slice (some ⟨w.heap.size,0,none⟩) 0 0) e n R ([]:List α)) hx hob ⟨[],rfl,fun u hu=>by simp at hu,hn,?_,fun k h=>absurd h (Nat.not_lt_zero k)⟩) (Fr.put (hf.mono fun d _ hd=>Z6 hx (fun k hk=>(hob k hk).1) hd) rfl)
 refine ⟨by simp,.inr ⟨w.heap.size,0,#[],rfl,Nat.zero_le _,Z0 w _,by simp,by simp [maxLen],by simp,by simp⟩⟩
theorem ZG7 (E:ElT P t e 1 z bytes ag) {α:Type} (R:Rel α) [Good R] (h:∀ v,WL P ops Q rest (ZA fr dst (dX v)) (Zr v e R ([]:List α)::hp)):WL P ops Q (⟨dst,.buildSlice t 0 #[],ty,ps,af,none⟩::rest) fr hp:=by
 refine WL.of fun P0 B w0 w a hh hf=>?_
 have hb:=ZBP (w:=w) E (us:=[]) (css:=[]) rfl (fun i u cs' hu hcs=>by simp at hu) (by simp)
 refine Zu rfl (v:=.slice (some ⟨w.heap.size,0,none⟩) 0 0) (w':=w.alloc (.cells #[] e)) ?_ ?_
 ·unfold execOp
  simp only [List.map_toArray,List.map_nil,Sem.run_bind]
  have:(Instr.buildSlice t 0 #[]).run P w = .ok (.slice (some ⟨w.heap.size,0,none⟩) 0 0) (w.alloc (.cells #[] e)):=hb
  simp only [this,Result.andThen_ok,Sem.run_pure]
 have hx:=Ext.of_alloc w (.cells #[] e)
 have hob:∀ k,(Zr (.slice (some ⟨w.heap.size,0,none⟩) 0 0) e R ([]:List α)).blk=some k->w.heap.size≤k/\k<(w.alloc (.cells #[] e)).heap.size:=fun k hk=>by
  cases hk
  exact ⟨Nat.le_refl _,by simp⟩
 refine (h _).on (hh.push (o:=Zr (.slice (some ⟨w.heap.size,0,none⟩) 0 0) e R ([]:List α)) hx hob ⟨[],rfl,?_,fun k h=>absurd h (Nat.not_lt_zero k)⟩) (Fr.put (hf.mono fun d _ hd=>Z6 hx (fun k hk=>(hob k hk).1) hd) rfl)
 refine ⟨by simp,.inr ⟨w.heap.size,0,#[],rfl,Nat.zero_le _,Z0 w _,by simp,by simp [maxLen],by simp,by simp⟩⟩
theorem ZCn {α:Type} {R:Rel α} [Good R] {P0:Nat->Prop} {B:Nat} {w0 w:World} {v:Value} {xs:List α} (hh:Hp P0 B w0 (Zr v e R xs::hp) w):Arr R (Imm P0 B hp) w v xs:=by
 obtain ⟨us,hl,ho,he⟩:=hh.ok (Zr v e R xs) (by simp)
 obtain ⟨a,cap,hv,h1,h2,h3⟩:=ZAJ ho
 refine ⟨a,cap,hv,h1,h2,fun k hk=>?_⟩
 have hk':k<us.length:=by omega
 obtain ⟨gb,ha,hob,_,hc⟩:=h3 k us[k] (List.getElem?_eq_getElem hk')
 obtain ⟨r1,r2⟩:=he k hk' hk
 exact ⟨us[k],gb,0,Good.weak r2 (fun b hb=>Imm.sub b hb.1),r1,ha,⟨.inr (hh.own (Zr v e R xs) (by simp) gb hob).1,fun o' ho' hk=>(List.pairwise_cons.1 hh.apart).1 o' ho' gb hob hk⟩,by rw [Nat.zero_add];exact hc⟩
theorem ZD9 {α:Type} {R:Rel α} [Good R] {P0:Nat->Prop} {B:Nat} {w0 w:World} {v:Value} {xs:List α} (hh:Hp P0 B w0 (Zp v e n R xs::hp) w):ArrK n R (Imm P0 B hp) w v xs:=by
 obtain ⟨us,hl,hu,hn,ho,he⟩:=hh.ok (Zp v e n R xs) (by simp)
 obtain ⟨a,cap,hv,h1,h2,h3⟩:=ZAJ ho
 refine ⟨a,cap,hv,h1,h2,hn,fun k hk=>?_⟩
 have hk':k<us.length:=by omega
 have hmem:=hu us[k] (List.getElem_mem hk')
 have hlen:∀ u∈us,u.length=n:=fun u h=>(hu u h).1
 have hc0:0<us[k].length:=by rw [hmem.1];exact hn
 obtain ⟨gb,ha,hob,hB,_⟩:=h3 (k*n+0) us[k][0] (ZAV hlen hk' (List.getElem?_eq_getElem hc0))
 refine ⟨us[k],gb,0,Good.weak (he k hk' hk) (fun b hb=>Imm.sub b hb.1),hmem.1,hmem.2,ha,⟨.inr (hh.own (Zp v e n R xs) (by simp) gb hob).1,fun o' ho' hk=>(List.pairwise_cons.1 hh.apart).1 o' ho' gb hob hk⟩,fun j c hc=>?_⟩
 obtain ⟨g',ha',_,_,hc'⟩:=h3 (k*n+j) c (ZAV hlen hk' hc)
 rw [ha] at ha'
 cases ha'
 rw [Nat.zero_add];exact hc'
theorem ZDH {P0:Nat->Prop} {B:Nat} {w:World} {a:Act} {ob:HObj} {v:Value} (hf:Fr (Imm P0 B (ob::hp)) w a fr) {s:Tmp} (hs:fr[s]?=some (dX v)) (hd:d.rd (Imm P0 B hp) w v):Fr (Imm P0 B hp) w a (fr.set s d):=by
 refine ⟨hf.defers,by rw [hf.size,List.length_set],fun t' d' hd'=>?_⟩
 by_cases htt:s=t'
 ·subst htt
  rw [List.getElem?_set] at hd'
  simp only [if_true] at hd'
  split at hd'
  ·cases hd'
   have hv:a.tmps.getD s undef=v:=hf.rd s _ hs
   rw [hv];exact hd
  ·cases hd'
 ·rw [List.getElem?_set_ne htt] at hd'
  exact d'.weak (hf.rd t' d' hd') Imm.sub
theorem ZLL {α:Type} {R:Rel α} {_gR:Good R} {v:Value} {xs:List α} {s:Tmp} (hs:fr[s]?=some (dX v)) (h:WL P ops Q rest (fr.set s (dS (Arr R) xs)) hp):WL P ops Q rest fr (Zr v e R xs::hp):=WL.of fun _ _ _ _ _ hh hf=>h.on hh.drop (ZDH hf hs (d:=dS (Arr R) xs) (ZCn hh))
theorem ZHc {α:Type} {R:Rel α} {_gR:Good R} {v:Value} {xs:List α} {s:Tmp} (hs:fr[s]?=some (dX v)) (h:WL P ops Q rest (fr.set s (dS (ArrK n R) xs)) hp):WL P ops Q rest fr (Zp v e n R xs::hp):=WL.of fun _ _ _ _ _ hh hf=>h.on hh.drop (ZDH hf hs (d:=dS (ArrK n R) xs) (ZD9 hh))
theorem ZMh {α:Type} {R:Rel α} {PB:Nat->Prop} {w:World} {ad:Option Addr} {cap l h:Nat} {xs:List α} (hv:ArrK n R PB w (.slice ad xs.length cap) xs) (h1:l≤h) (h2:h≤xs.length) :
  ArrK n R PB w (.slice (if cap=l then ad else ad.map (·.add (l*n))) (h-l) (cap-l)) ((xs.drop l).take (h-l)):=by
 obtain ⟨ad',cap',hv,c1,c2,c0,c3⟩:=hv
 cases hv
 have hlen:((xs.drop l).take (h-l)).length=h-l:=by simp;omega
 refine ⟨_,_,by rw [hlen],by rw [hlen];omega,by omega,c0,fun k hk=>?_⟩
 rw [hlen] at hk
 obtain ⟨u,b,off,r1,r2,r3,rfl,r4,r5⟩:=c3 (l+k) (by omega)
 have hne:¬ cap=l:=by omega
 refine ⟨u,b,off+l*n,by simpa using r1,r2,r3,?_,r4,fun j c hc=>?_⟩
 ·rw [if_neg hne];simp [Addr.add_lit]
 ·have:=r5 j c hc
  rw [Nat.add_mul] at this
  rw [show off+l*n+k*n+j=off+(l*n+k*n)+j by omega]
  exact this
def BndD (fr:List Dat) (x:Option Operand) (dflt k:Nat):Prop:=(x=none/\k=dflt)\/∃ y,x=some y/\OpD fr y (dI (k:Int))
theorem ZF3 {k:Nat}:BndD fr none k k:=.inl ⟨rfl,rfl⟩
theorem ZBS {y:Operand} {k m:Nat} {j:Int} (h:OpD fr y (dI j)) (hj:j=(k:Int)):BndD fr (some y) m k:=.inr ⟨y,rfl,by rw [<- hj];exact h⟩
theorem BndD.get {x:Option Operand} {dflt k:Nat} {o:Oper} {I:Nat->Prop} {w:World} {a:Act} (h:BndD fr x dflt k) (hm:∀ y,x=some y->y∈o.op.operands.toList) (ho:On (o.looksAt ops) I w a fr):Bnd (x.map a.eval) dflt k:=by
 rcases h with ⟨rfl,h⟩|⟨y,rfl,h⟩
 ·exact .inl ⟨rfl,h⟩
 ·exact .inr ⟨.i64,by rw [Option.map_some];exact congrArg some (h.get (hm y rfl) ho)⟩
theorem ZF4 {x:Operand} {lo hi:Option Operand} (E:ElT P t e n z bytes ag) {α:Type} {R:Rel α} {_gR:Good R} {xs:List α} {l h:Nat} (hx:OpD fr x (dS (ArrK n R) xs)) (hlo:BndD fr lo 0 l) (hhi:BndD fr hi xs.length h) (h1:l≤h) (h2:h≤xs.length) :
  SY P ops hp ⟨dst,.slice t x lo hi none,ty,ps,af,g⟩ fr (dS (ArrK n R) ((xs.drop l).take (h-l))):=SY.val fun {I w a} ho=>by
 have hv:ArrK n R I w (a.eval x) xs:=hx.get (by simp [Op.operands]) ho
 have b1:=hlo.get (o:=⟨dst,.slice t x lo hi none,ty,ps,af,g⟩) (fun y hy=>by subst hy;simp [Op.operands]) ho
 have b2:=hhi.get (o:=⟨dst,.slice t x lo hi none,ty,ps,af,g⟩) (fun y hy=>by subst hy;simp [Op.operands]) ho
 have hv':=hv
 obtain ⟨ad,cap,he,c1,c2,c0,c3⟩:=hv
 rw [he] at hv'
 refine ⟨_,?_,ZMh hv' h1 h2⟩
 have hr:=ZDN (w:=w) (ad:=ad) E b1 b2 h1 (by omega:h≤cap)
 unfold execOp
 simp only [he,Option.map_none,Sem.run_bind,hr,Result.andThen_ok,Sem.run_pure]
theorem ZHX {x:Operand} {T T2:TypeId} {α:Type} {xs:List α} (hx:OpD fr x d) (hd:∀ (I:Nat->Prop) (w:World) (v:Value),d.rd I w v->∃ a m c,v = .slice a m c/\(a=none->m=0)) (hl:∀ (I:Nat->Prop) (w:World) (v:Value),d.rd I w v->Len v xs.length) (hq:∀ (x y:Operand) ad m c w,(do eqGuard .eql T x y (.slice ad m c) (.slice none 0 0);Go.binOp .eql T (.slice ad m c) (.slice none 0 0)).run P w = .ok (.bool ad.isNone) w) :
  SY P ops hp ⟨dst,.binOp .eql T x (.const (.slice none 0 0)) T2,ty,ps,af,g⟩ fr (dE (fun b:Bool=>b=true->xs=[]) dB):=SY.val fun {I w a} ho=>by
 have h1:=hx.get (by simp [Op.operands]) ho
 obtain ⟨ad,m,c,hv,hm⟩:=hd _ _ _ h1
 obtain ⟨a2,c2,hv2⟩:=hl _ _ _ h1
 refine ⟨.bool ad.isNone,?_,ad.isNone,fun hn=>?_,rfl⟩
 ·have:=hq x (.const (.slice none 0 0)) ad m c w
  unfold execOp
  have hc:a.eval (.const (.slice none 0 0)) = .slice none 0 0:=rfl
  simp only [hv,hc]
  rw [Sem.run_bind,this]
  simp
 ·rw [hv] at hv2
  cases hv2
  have h0:ad=none:=by simpa using hn
  exact List.eq_nil_of_length_eq_zero (hm h0)

def ZKn (x y:Int):Int:=IntKind.i64.wrap (BitVec.ofInt 64 x &&& BitVec.ofInt 64 y).toNat
def ior (x y:Int):Int:=IntKind.i64.wrap (BitVec.ofInt 64 x ||| BitVec.ofInt 64 y).toNat
def ZDG (x y:Int):Int:=IntKind.i64.wrap (BitVec.ofInt 64 x &&& ~~~ BitVec.ofInt 64 y).toNat
def ishl (x:Int) (y:Int):Int:=IntKind.i64.wrap (x*2 ^ min y.toNat 64)
def ishr (x:Int) (y:Int):Int:=x.fdiv (2 ^ min y.toNat 64)
section
variable {x y:Operand} {T T2:TypeId} {p q:Int} (hx:OpD fr x (dI p)) (hy:OpD fr y (dI q))
include hx hy
theorem SY.and:SY P ops hp ⟨dst,.binOp .and T x y T2,ty,ps,af,g⟩ fr (dI (ZKn p q)):=ZBA hx hy (fun w=>by simp [Go.binOp,Op.intBits];rfl) fun _ _=>rfl
theorem SY.or:SY P ops hp ⟨dst,.binOp .or T x y T2,ty,ps,af,g⟩ fr (dI (ior p q)):=ZBA hx hy (fun w=>by simp [Go.binOp,Op.intBits];rfl) fun _ _=>rfl
theorem SY.andNot:SY P ops hp ⟨dst,.binOp .andNot T x y T2,ty,ps,af,g⟩ fr (dI (ZDG p q)):=ZBA hx hy (fun _=>rfl) fun _ _=>rfl
theorem SY.shl (h:0≤q):SY P ops hp ⟨dst,.binOp .shl T x y T2,ty,ps,af,g⟩ fr (dI (ishl p q)):=ZBA hx hy (fun w=>by
 have:¬ q<0:=by omega
 simp [Go.binOp,Op.shift,this];rfl) fun _ _=>rfl
theorem SY.shr (h:0≤q):SY P ops hp ⟨dst,.binOp .shr T x y T2,ty,ps,af,g⟩ fr (dI (ishr p q)):=ZBA hx hy (fun w=>by
 have:¬ q<0:=by omega
 simp [Go.binOp,Op.shift,this];rfl) fun _ _=>rfl
theorem SY.rem (h:q≠0):SY P ops hp ⟨dst,.binOp .rem T x y T2,ty,ps,af,g⟩ fr (dI (p.tmod q)):=ZBA hx hy (fun w=>by simp [Go.binOp,Op.intDiv,h]) fun _ _=>rfl
end
theorem ZSx (p q:Int × Int):(decide (p.1=q.1) && decide (p.2=q.2))=decide (p=q):=by
 obtain ⟨a,b⟩:=p
 obtain ⟨c,d⟩:=q
 simp [Prod.mk.injEq]

structure VxT (P:Program) (T:TypeId):Prop where
 fld0:∀ b off w,(Instr.fieldAt T (.pointer (some ⟨b,off,none⟩)) 0).run P w = .ok (.pointer (some ⟨b,off+0,none⟩)) w
 fld1:∀ b off w,(Instr.fieldAt T (.pointer (some ⟨b,off,none⟩)) 1).run P w = .ok (.pointer (some ⟨b,off+1,none⟩)) w
 eql:∀ (x y:Operand) p q p' q' w,(do eqGuard .eql T x y (.agg #[.int .i64 p,.int .i64 q]) (.agg #[.int .i64 p',.int .i64 q']);Go.binOp .eql T (.agg #[.int .i64 p,.int .i64 q]) (.agg #[.int .i64 p',.int .i64 q'])).run P w = .ok (.bool (decide (p=p') && decide (q=q'))) w
 neq:∀ (x y:Operand) p q p' q' w,(do eqGuard .neq T x y (.agg #[.int .i64 p,.int .i64 q]) (.agg #[.int .i64 p',.int .i64 q']);Go.binOp .neq T (.agg #[.int .i64 p,.int .i64 q]) (.agg #[.int .i64 p',.int .i64 q'])).run P w = .ok (.bool (!(decide (p=p') && decide (q=q')))) w
 mkv:∀ p q w,(Instr.build T #[(0,.int .i64 p),(1,.int .i64 q)]).run P w = .ok (.agg #[.int .i64 p,.int .i64 q]) w
 mk0:∀ p w,(Instr.build T #[(0,.int .i64 p)]).run P w = .ok (.agg #[.int .i64 p,.int .i64 0]) w
 mk1:∀ q w,(Instr.build T #[(1,.int .i64 q)]).run P w = .ok (.agg #[.int .i64 0,.int .i64 q]) w
section
variable {T T2:TypeId} (V:VxT P T) {x y:Operand} {p q:Int × Int}
include V
theorem SY.fld0 (hx:OpD fr x (dP 2 true (dS RV p))):SY P ops hp ⟨dst,.fieldAddr T x 0,ty,ps,af,g⟩ fr (dP 1 false (dI p.1)):=SY.val fun {I w a} ho=>by
 obtain ⟨b,off,u,h1,⟨hb,cs,k1,k0,k2,k3,k4⟩,h3⟩:=hx.get (by simp [Op.operands]) ho
 have hu:u = .agg #[.int .i64 p.1,.int .i64 p.2]:=h3
 simp only [if_true] at k4
 rw [k4] at hu
 have hcs:cs=[.int .i64 p.1,.int .i64 p.2]:=by injection hu with hu;exact List.toArray_inj hu
 subst hcs
 refine ⟨_,?_,b,off+0,.int .i64 p.1,rfl,⟨hb,[.int .i64 p.1],rfl,Nat.one_pos,by simp [Value.oneCell'],fun j c hc=>?_,rfl⟩,rfl⟩
 ·unfold execOp
  simp only [h1,Sem.run_bind,V.fld0,Result.andThen_ok,Sem.run_pure]
 ·have hj:j=0:=by have:=(List.getElem?_eq_some_iff.1 hc).1;simpa using this
  subst hj
  cases hc
  exact k3 0 _ rfl
theorem SY.fld1 (hx:OpD fr x (dP 2 true (dS RV p))):SY P ops hp ⟨dst,.fieldAddr T x 1,ty,ps,af,g⟩ fr (dP 1 false (dI p.2)):=SY.val fun {I w a} ho=>by
 obtain ⟨b,off,u,h1,⟨hb,cs,k1,k0,k2,k3,k4⟩,h3⟩:=hx.get (by simp [Op.operands]) ho
 have hu:u = .agg #[.int .i64 p.1,.int .i64 p.2]:=h3
 simp only [if_true] at k4
 rw [k4] at hu
 have hcs:cs=[.int .i64 p.1,.int .i64 p.2]:=by injection hu with hu;exact List.toArray_inj hu
 subst hcs
 refine ⟨_,?_,b,off+1,.int .i64 p.2,rfl,⟨hb,[.int .i64 p.2],rfl,Nat.one_pos,by simp [Value.oneCell'],fun j c hc=>?_,rfl⟩,rfl⟩
 ·unfold execOp
  simp only [h1,Sem.run_bind,V.fld1,Result.andThen_ok,Sem.run_pure]
 ·have hj:j=0:=by have:=(List.getElem?_eq_some_iff.1 hc).1;simpa using this
  subst hj
  cases hc
  exact k3 1 _ rfl
theorem ZC7 (hx:OpD fr x (dS RV p)) (hy:OpD fr y (dS RV q)):SY P ops hp ⟨dst,.binOp .eql T x y T2,ty,ps,af,g⟩ fr (dB (decide (p=q))):=SY.val fun {I w a} ho=>by
 have h1:a.eval x = .agg #[.int .i64 p.1,.int .i64 p.2]:=hx.get (by simp [Op.operands]) ho
 have h2:a.eval y = .agg #[.int .i64 q.1,.int .i64 q.2]:=hy.get (by simp [Op.operands]) ho
 refine ⟨.bool (decide (p=q)),?_,rfl⟩
 have:=V.eql x y p.1 p.2 q.1 q.2 w
 rw [ZSx] at this
 unfold execOp
 simp only [h1,h2]
 rw [Sem.run_bind,this]
 simp
theorem Zm (hx:OpD fr x (dS RV p)) (hy:OpD fr y (dS RV q)):SY P ops hp ⟨dst,.binOp .neq T x y T2,ty,ps,af,g⟩ fr (dB (!decide (p=q))):=SY.val fun {I w a} ho=>by
 have h1:a.eval x = .agg #[.int .i64 p.1,.int .i64 p.2]:=hx.get (by simp [Op.operands]) ho
 have h2:a.eval y = .agg #[.int .i64 q.1,.int .i64 q.2]:=hy.get (by simp [Op.operands]) ho
 refine ⟨.bool (!decide (p=q)),?_,rfl⟩
 have:=V.neq x y p.1 p.2 q.1 q.2 w
 rw [ZSx] at this
 unfold execOp
 simp only [h1,h2]
 rw [Sem.run_bind,this]
 simp
theorem ZAo {a b:Int} (hx:OpD fr x (dI a)) (hy:OpD fr y (dI b)):SY P ops hp ⟨dst,.build T #[(0,x),(1,y)],ty,ps,af,g⟩ fr (dS RV (a,b)):=SY.val fun {I w a'} ho=>by
 have h1:a'.eval x = .int .i64 a:=hx.get (by simp [Op.operands]) ho
 have h2:a'.eval y = .int .i64 b:=hy.get (by simp [Op.operands]) ho
 refine ⟨.agg #[.int .i64 a,.int .i64 b],?_,rfl⟩
 unfold execOp
 simp only [List.map_toArray,List.map_cons,List.map_nil,h1,h2,Sem.run_bind,V.mkv,Result.andThen_ok,Sem.run_pure]
end
end

end
end Go.Proofs.YtekiljakcngcoaaGreatDoor
