/- Part 29: walks by contracts, and plain laws. -/
import Derived.Deep.OwnRows
import Derived.Shelf.Strconv.Itoa3
import Derived.Shelf.Strings.BuilderK
import Derived.Test.YtekiljakcngcoaaGreatDoorV1
import Derived.Test.YtekiljakcngcoaaGreatDoorV28
set_option linter.unusedVariables false
set_option linter.unusedSimpArgs false
set_option linter.unusedSectionVars false
set_option maxRecDepth 100000
set_option maxHeartbeats 4000000
namespace Go.Proofs.YtekiljakcngcoaaGreatDoor
section
open Go.RowKit
theorem ZOz (z:Value) (n:Nat):(madeCells #[z] n).toList=List.replicate n z:=by
 unfold madeCells
 apply List.ext_getElem (by simp)
 intro i h1 h2
 simp [Nat.mod_one]
section
variable {P:Program} {ops:Array Oper} {hp:List HObj} {fr:List Dat} {d:Dat} {Q:ZAW} {rest:List Oper}
variable {dst:Option Tmp} {ty:TypeId} {ps:String} {af:Array Edge} {bytes:Nat} {e t:TypeId}
theorem ZQX {n:Nat} {j:Int} {y y':Operand} (E:ElT P t e 1 (.int .i64 0) bytes false) (hy:OpD fr y (dI j)) (hy':OpD fr y' (dI j)) (hj:j=(n:Int)) (hb:bytes*n≤281474976710656) (hm:n≤1000000000) (h:∀ v,WL P ops Q rest (ZA fr dst (dX v)) (Zr v e RI (List.replicate n (0:Int))::hp)) :
  WL P ops Q (⟨dst,.makeSlice t y y',ty,ps,af,none⟩::rest) fr hp:=by
 refine WL.of fun P0 B w0 w a hh hf=>?_
 have h1:a.eval y = .int .i64 n:=by rw [<- hj];exact hy.ev hf
 have h2:a.eval y' = .int .i64 n:=by rw [<- hj];exact hy'.ev hf
 have hr:=run_make_row' (P:=P) t e (.int .i64 0) bytes E.und E.info rfl .i64 .i64 n hb (by omega) w
 refine Zu rfl (v:=.slice (some ⟨w.heap.size,0,none⟩) n n) (w':=w.alloc (.cells (madeCells #[.int .i64 0] n) e)) ?_ ?_
 ·unfold execOp
  simp only [h1,h2,Sem.run_bind,hr,Result.andThen_ok,Sem.run_pure]
 have hx:=Ext.of_alloc w (.cells (madeCells #[.int .i64 0] n) e)
 have hb':∀ q,(Zr (.slice (some ⟨w.heap.size,0,none⟩) n n) e RI (List.replicate n (0:Int))).blk=some q->w.heap.size≤q/\q<(w.alloc (.cells (madeCells #[.int .i64 0] n) e)).heap.size:=fun q hq=>by
  cases hq
  exact ⟨Nat.le_refl _,by simp⟩
 refine (h _).on (hh.push hx hb' ?_) (Fr.put (hf.mono fun d _ hd=>Z6 hx (fun k hk=>(hb' k hk).1) hd) rfl)
 refine ⟨List.replicate n (.int .i64 0),by simp,⟨by simp,.inr ⟨w.heap.size,n,madeCells #[.int .i64 0] n,by simp,Nat.zero_le _,Z0 w _,by simp,by simp only [maxLen];omega,by simp [size_madeCells],?_⟩⟩,fun k a b=>?_⟩
 ·rw [ZOz,List.length_replicate,Nat.mul_one,List.take_of_length_le (by simp)]
 ·simp only [List.getElem_replicate]
  exact ⟨rfl,rfl⟩
end
end
section
theorem ZKs {α β:Type} [DecidableEq β] (R:α->β->Prop):∀ {A:List α} {B:List β},A.Nodup->(∀ a∈A,∃ b∈B,R a b)->(∀ a∈A,∀ a'∈A,∀ b,R a b->R a' b->a=a')->A.length≤B.length
 | [],_,_,_,_=>Nat.zero_le _
 | a::A,B,hn,h1,h2=>by
  rw [List.nodup_cons] at hn
  obtain ⟨b,hb,hr⟩:=h1 a (List.mem_cons_self ..)
  have h:=ZKs R (A:=A) (B:=B.erase b) hn.2 (fun a' ha'=>by
   obtain ⟨b',hb',hr'⟩:=h1 a' (List.mem_cons_of_mem _ ha')
   refine ⟨b',(List.mem_erase_of_ne fun e=>?_).2 hb',hr'⟩
   subst e
   have:=h2 a (List.mem_cons_self ..) a' (List.mem_cons_of_mem _ ha') _ hr hr'
   subst this
   exact hn.1 ha') (fun a' ha' a'' ha'' b'=>h2 a' (List.mem_cons_of_mem _ ha') a'' (List.mem_cons_of_mem _ ha'') b')
  have h3:=List.length_erase_of_mem hb
  have h4:=List.length_pos_of_mem hb
  rw [List.length_cons];omega
end
section
open S50 (Pv mkQ ZFF ZJc ZUO chkW Sd psi atG ZAk)
theorem ZIf (l:Cx) (u v:Vx):ZAu (ufC l) u=ZAu (ufC l) v↔Conn (ZHz l) u v:=ZLg (ZHz l) u v
structure SdX (T:Nat->List (List Pv)) (ei:List Nat->Nat->Nat) (tg:List Vx->Nat->Int) (num:List Vx->Int) (carF:Int->List Vx) (l FL X:Cx):Prop where
 sd:Sd (mkQ T) ei tg num l FL
 t:∀ n,1≤n->n≤3->ZUO T n=true
 w:∀ n,1≤n->n≤3->chkW T ei n=true
 x:∀ f,f∈X↔∃ s∈l,∃ t∈T s.length,f=t.map (psi tg num s)
 car:∀ F∈FL,carF (num F)=F
section
variable {T:Nat->List (List Pv)} {ei:List Nat->Nat->Nat} {tg:List Vx->Nat->Int} {num:List Vx->Int} {carF:Int->List Vx} {l FL X:Cx} (H:SdX T ei tg num carF l FL X)
include H
theorem SdX.tt {n:Nat} (h1:1≤n) (h3:n≤3):0<(T n).length/\∀ t∈T n,t.length=n/\S50.un t=2 ^ n-1/\t∈ZJc (T n) 6:=by
 have h:=H.t n h1 h3
 unfold ZUO at h
 rw [Bool.and_eq_true,decide_eq_true_eq,List.all_eq_true] at h
 refine ⟨h.1,fun t ht=>?_⟩
 have:=h.2 t ht
 rw [Bool.and_eq_true,Bool.and_eq_true,decide_eq_true_eq,decide_eq_true_eq,decide_eq_true_eq] at this
 exact ⟨this.1.1,this.1.2,this.2⟩
theorem SdX.q {s:List Vx} (hs:s∈l) {t:List Pv} (ht:t∈T s.length):t∈mkQ T s.length:=by
 obtain ⟨s1,s3⟩:=H.sd.sz s hs
 have:=((H.tt s1 s3).2 t ht).1
 exact ZFF.2 ⟨fun e=>by rw [e] at this;simp at this;omega,t,ht,List.Sublist.refl _⟩
theorem SdX.pi_in {s:List Vx} (hs:s∈l) {t:List Pv} (ht:t∈T s.length) {v:Vx} (hv:v∈t.map (psi tg num s)):hdV (carF v.2)∈s:=by
 obtain ⟨s1,s3⟩:=H.sd.sz s hs
 obtain ⟨p,hp,rfl⟩:=List.mem_map.1 hv
 have hq:=((H.sd.pat.q s1 s3 (H.q hs ht)).2.2 p hp).1
 have hF:=H.sd.at_face hs (M:=p.2) (by omega) hq.2
 show hdV (carF (num (atG s p.2)))∈s
 rw [H.car _ hF]
 exact (S50.at_sub s p.2).subset (ZDs (H.sd.face hF).2.1)
theorem SdX.grow {s:List Vx} (hs:s∈l):∀ k,∀ t∈ZJc (T s.length) k,t∈T s.length/\ZAj X (t.map (psi tg num s))=ZAj X (((T s.length).headD []).map (psi tg num s))
 | 0,t,ht=>by
  unfold ZJc at ht
  refine ⟨List.mem_of_mem_take ht,?_⟩
  cases h:T s.length with
  | nil=>rw [h] at ht;cases ht
  | cons a L =>
   rw [h] at ht
   have:t=a:=by simpa using ht
   rw [this];rfl
 | k+1,t,ht=>by
  unfold ZJc at ht
  obtain ⟨h1,h2⟩:=List.mem_filter.1 ht
  refine ⟨h1,?_⟩
  rw [Bool.or_eq_true,decide_eq_true_eq] at h2
  rcases h2 with h2|h2
  ·exact (SdX.grow hs k t h2).2
  ·obtain ⟨v,hv,h3⟩:=List.any_eq_true.1 h2
   obtain ⟨u,hu,h4⟩:=List.any_eq_true.1 h3
   obtain ⟨i1,i2⟩:=SdX.grow hs k u hu
   rw [<- i2]
   exact ZGh ((H.x _).2 ⟨s,hs,t,h1,rfl⟩) ((H.x _).2 ⟨s,hs,u,i1,rfl⟩) (List.mem_map_of_mem hv) (List.mem_map_of_mem (of_decide_eq_true h4))
theorem SdX.root {s:List Vx} (hs:s∈l) {t:List Pv} (ht:t∈T s.length):ZAj X (t.map (psi tg num s))=ZAj X (((T s.length).headD []).map (psi tg num s)):=by
 obtain ⟨s1,s3⟩:=H.sd.sz s hs
 exact (H.grow hs 6 t ((H.tt s1 s3).2 t ht).2.2).2
theorem SdX.iota {s:List Vx} (hs:s∈l) {a:Vx} (ha:a∈s):ZAu (ufC X) (tg [a] 0,num [a])=ZAj X (((T s.length).headD []).map (psi tg num s)):=by
 obtain ⟨s1,s3⟩:=H.sd.sz s hs
 obtain ⟨i,hi,rfl⟩:=List.getElem_of_mem ha
 have h:=List.all_eq_true.1 (H.w s.length s1 s3) i (List.mem_range.2 hi)
 rw [Bool.and_eq_true,decide_eq_true_eq] at h
 obtain ⟨t,ht,h2⟩:=List.any_eq_true.1 h.2
 have h2:=of_decide_eq_true h2
 have hlt:2 ^ i<2 ^ s.length:=Nat.pow_lt_pow_right (by decide) hi
 have hat:atG s (2 ^ i)=[s[i]]:=by
  rw [S50.at_bits (0,0),h.1,List.map_singleton,List.getD_eq_getElem?_getD,List.getElem?_eq_getElem hi];rfl
 have htg:=H.sd.tgc s hs (2 ^ i) hlt 0 (by rw [h.1];simp)
 rw [hat,h.1] at htg
 have hv:((tg [s[i]] 0,num [s[i]]):Vx)∈t.map (psi tg num s):=by
  have:=List.mem_map_of_mem (f:=psi tg num s) h2
  unfold psi at this ⊢
  simp only at this
  rw [hat,<- htg] at this
  exact this
 rw [ZGg ((H.x _).2 ⟨s,hs,t,ht,rfl⟩) hv]
 exact H.root hs ht
theorem SdX.up {u w:Vx} (h:Conn (ZHz l) u w):ZAu (ufC X) (tg [u] 0,num [u])=ZAu (ufC X) (tg [w] 0,num [w]):=by
 have key:∀ x y:Vx,(x,y)∈ZHz l->ZAu (ufC X) (tg [x] 0,num [x])=ZAu (ufC X) (tg [y] 0,num [y]):=fun x y hxy=>by
  obtain ⟨f,hf,h1,h2⟩:=ZFo.1 hxy
  simp only at h1 h2
  have hx:x∈f:=by rw [h1];exact ZDs (H.sd.sz f hf).1
  rw [H.iota hf hx,H.iota hf (List.mem_of_mem_drop h2)]
 induction h with
 | refl=>rfl
 | step _ e ih =>
  rcases e with e|e
  ·exact ih.trans (key _ _ e)
  ·exact ih.trans (key _ _ e).symm
theorem SdX.down {u w:Vx} (h:Conn (ZHz X) u w):Conn (ZHz l) (hdV (carF u.2)) (hdV (carF w.2)):=by
 have key:∀ x y:Vx,(x,y)∈ZHz X->ZAu (ufC l) (hdV (carF x.2))=ZAu (ufC l) (hdV (carF y.2)):=fun x y hxy=>by
  obtain ⟨f,hf,h1,h2⟩:=ZFo.1 hxy
  simp only at h1 h2
  obtain ⟨s,hs,t,ht,rfl⟩:=(H.x f).1 hf
  have hpos:0<(t.map (psi tg num s)).length:=by
   have:=List.mem_of_mem_drop h2
   exact List.length_pos_of_mem this
  have hx:x∈t.map (psi tg num s):=by rw [h1];exact ZDs hpos
  rw [ZGg hs (H.pi_in hs ht hx),ZGg hs (H.pi_in hs ht (List.mem_of_mem_drop h2))]
 refine (ZIf l _ _).1 ?_
 induction h with
 | refl=>rfl
 | step _ e ih =>
  rcases e with e|e
  ·exact ih.trans (key _ _ e)
  ·exact ih.trans (key _ _ e).symm
theorem SdX.hd {s:List Vx} (hs:s∈l):(T s.length).headD []∈T s.length:=by
 obtain ⟨s1,s3⟩:=H.sd.sz s hs
 have:=(H.tt s1 s3).1
 cases h:T s.length with
 | nil=>rw [h] at this;cases this
 | cons a L=>simp
theorem SdX.same {s s':List Vx} (hs:s∈l) (hs':s'∈l):ZAj X (((T s.length).headD []).map (psi tg num s))=ZAj X (((T s'.length).headD []).map (psi tg num s'))↔ZAj l s=ZAj l s':=by
 have p1:=(H.sd.sz s hs).1
 have p2:=(H.sd.sz s' hs').1
 constructor
 ·intro h
  have c:=H.down ((ZIf X _ _).1 (show ZAu (ufC X) (hdV _)=ZAu (ufC X) (hdV _) from h))
  have hne:∀ {s:List Vx},s∈l->0<(((T s.length).headD []).map (psi tg num s)).length:=fun {s} hs=>by
   rw [List.length_map,((H.tt (H.sd.sz s hs).1 (H.sd.sz s hs).2).2 _ (H.hd hs)).1]
   exact (H.sd.sz s hs).1
  have m1:=H.pi_in hs (H.hd hs) (ZDs (hne hs))
  have m2:=H.pi_in hs' (H.hd hs') (ZDs (hne hs'))
  have:=(ZIf l _ _).2 c
  rwa [ZGg hs m1,ZGg hs' m2] at this
 ·intro h
  have c:=H.up ((ZIf l _ _).1 (show ZAu (ufC l) (hdV s)=ZAu (ufC l) (hdV s') from h))
  rwa [H.iota hs (ZDs p1),H.iota hs' (ZDs p2)] at c
theorem SdX.parts:ZC1 X=ZC1 l:=by
 refine Nat.le_antisymm ?_ ?_
 ·unfold ZC1
  refine ZKs (fun r r'=>∃ s∈l,ZAj X (((T s.length).headD []).map (psi tg num s))=r/\ZAj l s=r') (ZBk _).1 (fun r hr=>?_) fun r _ r' _ b ⟨s,hs,a1,a2⟩ ⟨s',hs',b1,b2⟩=>?_
  ·obtain ⟨f,hf,rfl⟩:=List.mem_map.1 (((ZBk _).2 r).1 hr)
   obtain ⟨s,hs,t,ht,rfl⟩:=(H.x f).1 hf
   exact ⟨ZAj l s,ZFz hs,s,hs,(H.root hs ht).symm,rfl⟩
  ·rw [<- a1,<- b1]
   exact (H.same hs hs').2 (a2.trans b2.symm)
 ·unfold ZC1
  refine ZKs (fun r r'=>∃ s∈l,ZAj X (((T s.length).headD []).map (psi tg num s))=r'/\ZAj l s=r) (ZBk _).1 (fun r hr=>?_) fun r _ r' _ b ⟨s,hs,a1,a2⟩ ⟨s',hs',b1,b2⟩=>?_
  ·obtain ⟨s,hs,rfl⟩:=List.mem_map.1 (((ZBk _).2 r).1 hr)
   exact ⟨_,ZFz ((H.x _).2 ⟨s,hs,_,H.hd hs,rfl⟩),s,hs,rfl,rfl⟩
  ·rw [<- a2,<- b2]
   exact (H.same hs hs').1 (a1.trans b1.symm)
end
end
end Go.Proofs.YtekiljakcngcoaaGreatDoor
namespace Go.Proofs
section
open Go.Shelf
def Tryz.lays169_ren:Go.Shelf.Ren:=⟨fun|169=>57|n=>n,fun|70=>95|9=>9|0=>0|72=>98|37=>96|127=>133|3=>3|5=>5|n=>n,fun|n=>n⟩
theorem Tryz.lays169:Go.Proofs.Lays.n169 Tryz.prog Tryz.lays169_ren:={
 mixed:=by kernel_rfl
 f169:=Tryz.func57.trans (congrArg some (by kernel_rfl))
 t0:=Tryz.underlying0
 a0:=Tryz.isAgg0
 z0:=Tryz.sizeOf0
 v0:=Tryz.zeroValue0
 t3:=Tryz.underlying3
 a3:=Tryz.isAgg3
 z3:=Tryz.sizeOf3
 v3:=Tryz.zeroValue3
 t9:=Tryz.underlying9
 a9:=Tryz.isAgg9
 z9:=Tryz.sizeOf9
 v9:=Tryz.zeroValue9
 t37:=Tryz.underlying96
 a37:=Tryz.isAgg96
 z37:=Tryz.sizeOf96
 v37:=Tryz.zeroValue96
 t70:=Tryz.underlying95
 a70:=Tryz.isAgg95
 z70:=Tryz.sizeOf95
 v70:=Tryz.zeroValue95
 t72:=Tryz.underlying98
 a72:=Tryz.isAgg98
 z72:=Tryz.sizeOf98
 v72:=Tryz.zeroValue98
 t127:=Tryz.underlying133
 a127:=Tryz.isAgg133
 z127:=Tryz.sizeOf133
 v127:=Tryz.zeroValue133 }
def Tryz.laysM171_ren:Go.Shelf.Ren:=⟨fun|171=>56|243=>83|246=>103|283=>127|284=>128|285=>129|286=>130|129=>115|317=>140|318=>141|319=>142|320=>143|337=>146|338=>147|n=>n,fun|3=>3|9=>9|2=>2|4=>4|171=>169|0=>0|53=>161|37=>96|5=>5|173=>171|212=>182|51=>159|20=>20|213=>183|46=>137|232=>188|233=>189|n=>n,fun|17=>0|18=>1|19=>2|n=>n⟩
theorem Tryz.laysM171:Go.Proofs.LaysM.n171 Tryz.prog Tryz.laysM171_ren:={
 mixed:=by kernel_rfl
 f129:=Tryz.func115.trans (congrArg some (by kernel_rfl))
 f171:=Tryz.func56.trans (congrArg some (by kernel_rfl))
 f243:=Tryz.func83.trans (congrArg some (by kernel_rfl))
 f246:=Tryz.func103.trans (congrArg some (by kernel_rfl))
 f283:=Tryz.func127.trans (congrArg some (by kernel_rfl))
 f284:=Tryz.func128.trans (congrArg some (by kernel_rfl))
 f285:=Tryz.func129.trans (congrArg some (by kernel_rfl))
 f286:=Tryz.func130.trans (congrArg some (by kernel_rfl))
 f317:=Tryz.func140.trans (congrArg some (by kernel_rfl))
 f318:=Tryz.func141.trans (congrArg some (by kernel_rfl))
 f319:=Tryz.func142.trans (congrArg some (by kernel_rfl))
 f320:=Tryz.func143.trans (congrArg some (by kernel_rfl))
 f337:=Tryz.func146.trans (congrArg some (by kernel_rfl))
 f338:=Tryz.func147.trans (congrArg some (by kernel_rfl))
 t0:=Tryz.underlying0
 a0:=Tryz.isAgg0
 z0:=Tryz.sizeOf0
 v0:=Tryz.zeroValue0
 t2:=Tryz.underlying2
 a2:=Tryz.isAgg2
 z2:=Tryz.sizeOf2
 v2:=Tryz.zeroValue2
 t3:=Tryz.underlying3
 a3:=Tryz.isAgg3
 z3:=Tryz.sizeOf3
 v3:=Tryz.zeroValue3
 t4:=Tryz.underlying4
 a4:=Tryz.isAgg4
 z4:=Tryz.sizeOf4
 v4:=Tryz.zeroValue4
 t5:=Tryz.underlying5
 a5:=Tryz.isAgg5
 z5:=Tryz.sizeOf5
 v5:=Tryz.zeroValue5
 t9:=Tryz.underlying9
 a9:=Tryz.isAgg9
 z9:=Tryz.sizeOf9
 v9:=Tryz.zeroValue9
 t20:=Tryz.underlying20
 a20:=Tryz.isAgg20
 z20:=Tryz.sizeOf20
 v20:=Tryz.zeroValue20
 t37:=Tryz.underlying96
 a37:=Tryz.isAgg96
 z37:=Tryz.sizeOf96
 v37:=Tryz.zeroValue96
 t46:=Tryz.underlying137
 a46:=Tryz.isAgg137
 z46:=Tryz.sizeOf137
 v46:=Tryz.zeroValue137
 t51:=Tryz.underlying159
 a51:=Tryz.isAgg159
 z51:=Tryz.sizeOf159
 v51:=Tryz.zeroValue159
 t53:=Tryz.underlying161
 a53:=Tryz.isAgg161
 z53:=Tryz.sizeOf161
 v53:=Tryz.zeroValue161
 t171:=Tryz.underlying169
 a171:=Tryz.isAgg169
 z171:=Tryz.sizeOf169
 v171:=Tryz.zeroValue169
 t173:=Tryz.underlying171
 a173:=Tryz.isAgg171
 z173:=Tryz.sizeOf171
 v173:=Tryz.zeroValue171
 t212:=Tryz.underlying182
 a212:=Tryz.isAgg182
 z212:=Tryz.sizeOf182
 v212:=Tryz.zeroValue182
 t213:=Tryz.underlying183
 a213:=Tryz.isAgg183
 z213:=Tryz.sizeOf183
 t232:=Tryz.underlying188
 a232:=Tryz.isAgg188
 z232:=Tryz.sizeOf188
 v232:=Tryz.zeroValue188
 t233:=Tryz.underlying189
 a233:=Tryz.isAgg189
 z233:=Tryz.sizeOf189
 v233:=Tryz.zeroValue189
 g17:=by kernel_rfl
 g18:=by kernel_rfl
 g19:=by kernel_rfl
 i0:=by kernel_rfl
 i2:=by kernel_rfl
 i3:=by kernel_rfl
 i4:=by kernel_rfl
 i5:=by kernel_rfl
 i9:=by kernel_rfl
 i20:=by kernel_rfl
 i37:=by kernel_rfl
 i46:=by kernel_rfl
 i51:=by kernel_rfl
 i53:=by kernel_rfl
 i171:=by kernel_rfl
 i173:=by kernel_rfl
 i212:=by kernel_rfl
 i232:=by kernel_rfl
 i233:=by kernel_rfl
 m17:=by kernel_rfl
 m18:=by kernel_rfl
 m19:=by kernel_rfl }
def Tryz.lays166_ren:Go.Shelf.Ren:=⟨fun|166=>55|240=>82|276=>102|n=>n,fun|0=>0|3=>3|4=>4|9=>9|20=>20|37=>96|70=>95|72=>98|75=>100|80=>104|164=>146|5=>5|n=>n,fun|n=>n⟩
theorem Tryz.lays166:Go.Proofs.Lays.n166 Tryz.prog Tryz.lays166_ren:={
 mixed:=by kernel_rfl
 f166:=Tryz.func55.trans (congrArg some (by kernel_rfl))
 f240:=Tryz.func82.trans (congrArg some (by kernel_rfl))
 f276:=Tryz.func102.trans (congrArg some (by kernel_rfl))
 t0:=Tryz.underlying0
 a0:=Tryz.isAgg0
 z0:=Tryz.sizeOf0
 v0:=Tryz.zeroValue0
 t3:=Tryz.underlying3
 a3:=Tryz.isAgg3
 z3:=Tryz.sizeOf3
 v3:=Tryz.zeroValue3
 t4:=Tryz.underlying4
 a4:=Tryz.isAgg4
 z4:=Tryz.sizeOf4
 v4:=Tryz.zeroValue4
 t9:=Tryz.underlying9
 a9:=Tryz.isAgg9
 z9:=Tryz.sizeOf9
 v9:=Tryz.zeroValue9
 t20:=Tryz.underlying20
 a20:=Tryz.isAgg20
 z20:=Tryz.sizeOf20
 v20:=Tryz.zeroValue20
 t37:=Tryz.underlying96
 a37:=Tryz.isAgg96
 z37:=Tryz.sizeOf96
 v37:=Tryz.zeroValue96
 t70:=Tryz.underlying95
 a70:=Tryz.isAgg95
 z70:=Tryz.sizeOf95
 v70:=Tryz.zeroValue95
 t72:=Tryz.underlying98
 a72:=Tryz.isAgg98
 z72:=Tryz.sizeOf98
 v72:=Tryz.zeroValue98
 t75:=Tryz.underlying100
 a75:=Tryz.isAgg100
 z75:=Tryz.sizeOf100
 v75:=Tryz.zeroValue100
 t164:=Tryz.underlying146
 a164:=Tryz.isAgg146
 z164:=Tryz.sizeOf146
 v164:=Tryz.zeroValue146 }
theorem Tryz.Builder_Extra_166:Builder.Extra Tryz.prog Tryz.lays166_ren where
 sizeBuilder:=by kernel_rfl
 liesBuilder:=by kernel_rfl
 t5:=Tryz.underlying5
 a5:=Tryz.isAgg5
 z5:=Tryz.sizeOf5
 v5:=Tryz.zeroValue5
 infoByte:=by kernel_rfl
 cellsByte:=by kernel_rfl
 sizeByte:=by kernel_rfl
 neB5:=by decide
theorem Tryz.Builder_Extra_169:Builder.Extra Tryz.prog Tryz.lays169_ren where
 sizeBuilder:=by kernel_rfl
 liesBuilder:=by kernel_rfl
 t5:=Tryz.underlying5
 a5:=Tryz.isAgg5
 z5:=Tryz.sizeOf5
 v5:=Tryz.zeroValue5
 infoByte:=by kernel_rfl
 cellsByte:=by kernel_rfl
 sizeByte:=by kernel_rfl
 neB5:=by decide
end
end Go.Proofs
namespace Go.Proofs.YtekiljakcngcoaaGreatDoor
section
open Go.RowKit
def ZAP (b:Nat) (T:TypeId) (ds:List Dat):HObj where
 blk:=some b
 ok:=fun P w=>∃ cs:List Value,w.heap[b]?=some (.cells cs.toArray T)/\cs.length=ds.length/\(∀ c∈cs,c.oneCell'=true)/\∀ (k:Nat) (c:Value) (d:Dat),cs[k]?=some c->ds[k]?=some d->d.rd P w c
 weak:=fun h q=>by obtain ⟨cs,h1,h2,h3,h4⟩:=h;exact ⟨cs,h1,h2,h3,fun k c d hc hd=>d.weak (h4 k c d hc hd) q⟩
 bound:=fun h=>by obtain ⟨cs,h1,h2,h3,h4⟩:=h;exact ⟨cs,h1,h2,h3,fun k c d hc hd=>d.bound (h4 k c d hc hd)⟩
 move:=fun h hg hP hne=>by
  obtain ⟨cs,h1,h2,h3,h4⟩:=h
  have hlt:b<_:=(Array.getElem?_eq_some_iff.1 h1).1
  refine ⟨cs,(hg.block b hlt ?_).trans h1,h2,h3,fun k c d hc hd=>d.grown (h4 k c d hc hd) hg hP⟩
  rcases hne with h|h
  ·cases h
  ·exact h
def ZGJ (ds:List Dat):Dat where
 rd:=fun P w v=>∃ cs:List Value,v = .agg cs.toArray/\cs.length=ds.length/\(∀ c∈cs,c.oneCell'=true)/\∀ (k:Nat) (c:Value) (d:Dat),cs[k]?=some c->ds[k]?=some d->d.rd P w c
 weak:=fun ⟨cs,h1,h2,h3,h4⟩ q=>⟨cs,h1,h2,h3,fun k c d hc hd=>d.weak (h4 k c d hc hd) q⟩
 move:=fun ⟨cs,h1,h2,h3,h4⟩ q=>⟨cs,h1,h2,h3,fun k c d hc hd=>d.move (h4 k c d hc hd) q⟩
 bound:=fun ⟨cs,h1,h2,h3,h4⟩=>⟨cs,h1,h2,h3,fun k c d hc hd=>d.bound (h4 k c d hc hd)⟩
theorem ZJ7 {ds:List Dat} {n:Nat} (hn:0<n) (hl:ds.length=n):(ZGJ ds).Shape n true:=fun _ _ _ h=>by
 obtain ⟨cs,rfl,h2,h3,_⟩:=h
 exact ⟨cs,by omega,by omega,h3,rfl,rfl⟩
structure StrT (P:Program) (T:TypeId) (n:Nat):Prop where
 fld:∀ b off i w,i<n->(Instr.fieldAt T (.pointer (some ⟨b,off,none⟩)) i).run P w = .ok (.pointer (some ⟨b,off+i,none⟩)) w
section
variable {P:Program} {ops:Array Oper} {hp:List HObj} {fr:List Dat} {d:Dat} {Q:ZAW} {rest:List Oper}
variable {dst:Option Tmp} {ty:TypeId} {ps:String} {af:Array Edge} {g:Option (Nat × Bool)} {T T1 T2:TypeId} {b off k n:Nat} {ds ds':List Dat}
theorem ZEG {zs:List Value} (hz:TyZ P T (.agg zs.toArray)) (hn:0<zs.length) (h1:∀ c∈zs,c.oneCell'=true) (h:∀ b,WL P ops Q rest (ZA fr dst (dX (.pointer (some ⟨b,0,none⟩)))) (ZAP b T (zs.map dX)::hp)) :
  WL P ops Q (⟨dst,.alloc T,ty,ps,af,none⟩::rest) fr hp :=
 WL.alloc (n:=zs.length) (agg:=true) hz (fun _ _ _ q=>by cases (q:_=_);exact ⟨zs,rfl,hn,h1,rfl,rfl⟩) fun b=>WL.of fun P0 B w0 w a hh hf=>by
  obtain ⟨cs,u,c1,c2,c0,c3,c4,c5⟩:=hh.ok (Zh b T zs.length true (dX (.agg zs.toArray))) (by simp)
  have hu:u = .agg zs.toArray:=c5
  simp only [if_true] at c4
  rw [hu] at c4
  have hcs:zs=cs:=by injection c4 with c4;exact List.toArray_inj c4
  subst hcs
  have hgr:w.grownBy w (Zh b T zs.length true (dX (.agg zs.toArray))).blk:=⟨rfl,rfl,rfl,Nat.le_refl _,fun _ _ _=>rfl⟩
  have hok:(ZAP b T (zs.map dX)).ok (fun k=>Imm P0 B (Zh b T zs.length true (dX (.agg zs.toArray))::hp) k/\k<w.heap.size) w :=
   ⟨zs,c1,by simp,h1,fun k c d hc hd=>by
    rw [List.getElem?_map,hc] at hd
    cases hd
    rfl⟩
  exact (h b).on (hh.write hgr (.inl rfl) hok) (hf.mono fun _ _ hd=>ZY (o':=ZAP b T (zs.map dX)) hgr (.inl rfl) hd)
theorem ZAU {x:Operand} {i:Nat} (S:StrT P T n) (hx:OpD fr x (dX (.pointer (some ⟨b,off,none⟩)))) (hi:i<n) :
  SY P ops hp ⟨dst,.fieldAddr T x i,ty,ps,af,g⟩ fr (dX (.pointer (some ⟨b,off+i,none⟩))):=SY.val fun {I w a} ho=>by
 have h1:a.eval x=_:=hx.get (by simp [Op.operands]) ho
 refine ⟨_,?_,rfl⟩
 unfold execOp
 simp only [h1,Sem.run_bind,S.fld b off i w hi,Result.andThen_ok,Sem.run_pure]
theorem ZR0 {I:Nat->Prop} {w:World} (h:(ZAP b T2 ds).ok I w) (hk:ds[k]?=some d):∃ c,w.cell? ⟨b,k,none⟩=some c/\c.oneCell'=true/\d.rd I w c:=by
 obtain ⟨cs,c1,c2,c3,c4⟩:=h
 have hlt:=(List.getElem?_eq_some_iff.1 hk).1
 have hl:k<cs.length:=by omega
 exact ⟨cs[k],by simp [World.cell?,c1,hl],c3 _ (List.getElem_mem hl),c4 k _ d (List.getElem?_eq_getElem hl) hk⟩
theorem Z1 {x:Operand} (T':TyI P T1 1 false) (hx:OpD fr x (dX (.pointer (some ⟨b,k,none⟩)))) (hm:ZAP b T2 ds∈hp) (hk:ds[k]?=some d) :
  SY P ops hp ⟨dst,.load T1 x,ty,ps,af,g⟩ fr d:=ZAf fun {P0 B w0 w a} hh ho=>by
 have h1:a.eval x = .pointer (some ⟨b,k,none⟩):=hx.get (by simp [Op.operands]) ho
 obtain ⟨c,q1,q2,q3⟩:=ZR0 (hh.ok _ hm) hk
 have hc:Cells (fun _=>True) w b k 1 false c:=by
  refine ⟨trivial,[c],rfl,by decide,by simp [q2],fun i c' hc=>?_,rfl⟩
  have hi:i=0:=by
   have:=(List.getElem?_eq_some_iff.1 hc).1
   simp at this;exact this
  subst hi
  cases hc
  exact q1
 refine ⟨c,w,?_,Ext.refl _,q3⟩
 unfold execOp
 simp only [h1,Sem.run_bind,ZA3 T' hc,Result.andThen_ok,Sem.run_pure]
theorem ZLC {x:Operand} (T':TyI P T1 n true) (hx:OpD fr x (dX (.pointer (some ⟨b,0,none⟩)))) (hm:ZAP b T2 ds∈hp) (hn:0<n) (hl:ds.length=n) :
  SY P ops hp ⟨dst,.load T1 x,ty,ps,af,g⟩ fr (ZGJ ds):=ZAf fun {P0 B w0 w a} hh ho=>by
 have h1:a.eval x = .pointer (some ⟨b,0,none⟩):=hx.get (by simp [Op.operands]) ho
 obtain ⟨cs,c1,c2,c3,c4⟩:=hh.ok _ hm
 have hc:Cells (fun _=>True) w b 0 n true (.agg cs.toArray):=by
  refine ⟨trivial,cs,by omega,hn,c3,fun j c hc=>?_,rfl⟩
  simp [World.cell?,c1,hc]
 refine ⟨_,w,?_,Ext.refl _,cs,rfl,c2,c3,c4⟩
 unfold execOp
 simp only [h1,Sem.run_bind,ZA3 T' hc,Result.andThen_ok,Sem.run_pure]
theorem ZB3 {t:Nat} {x:Operand} (T':TyI P T1 1 false) (hp0:OpD fr (.tmp t) (dX (.pointer (some ⟨b,k,none⟩)))) (hx:OpD fr x d) (hs:d.Shape 1 false) (hk:k<ds.length)
  (h:WL P ops Q rest (ZA fr dst (dX undef)) (ZAP b T2 (ds.set k d)::hp)) :
  WL P ops Q (⟨dst,.store T1 (.tmp t) x,ty,ps,af,none⟩::rest) fr (ZAP b T2 ds::hp):=by
 refine WL.of fun P0 B w0 w a hh hf=>?_
 obtain ⟨cs,c1,c2,c3,c4⟩:=hh.ok (ZAP b T2 ds) (by simp)
 have h1:a.eval (.tmp t)=_:=hp0.ev hf
 have hd:d.rd (Imm P0 B (ZAP b T2 ds::hp)) w (a.eval x):=hx.ev hf
 obtain ⟨us,u1,u0,u2,u3,u4⟩:=hs _ _ _ hd
 obtain ⟨u,rfl⟩:∃ u,us=[u]:=List.length_eq_one_iff.1 u1
 have hu:a.eval x=u:=by
  simp only [Bool.false_eq_true,if_false] at u4
  exact (List.cons.inj u4).1.symm
 have hone:u.oneCell'=true:=u2 u (by simp)
 have hdu:d.rd (Imm P0 B (ZAP b T2 ds::hp)) w u:=by rw [hu] at hd;exact hd
 have hkc:k<cs.length:=by omega
 have hset:=setCell_eq_setRow w b k cs.toArray T2 (0,0) u c1
 have hc:w.cell? ⟨b,k,none⟩=some cs[k]:=by simp [World.cell?,c1,hkc]
 have hfz:w.frozen? ⟨b,k,none⟩=false:=by simp [World.frozen?,c1]
 have hst:(store ((⟨b,k,none⟩:Addr).add 0) u).run P w = .ok () (w.setCell ⟨b,k,none⟩ u):=by
  rw [show ((⟨b,k,none⟩:Addr).add 0)=⟨b,k,none⟩ from rfl,run_store P w _ u _ hone,hc]
  simp [hfz]
 have hsz:(sizeOf T1).run P w = .ok 1 w:=by
  have h5:=T'.size
  cases hq:P.info? T1 with
  | none=>rw [hq] at h5;cases h5
  | some i =>
   rw [hq] at h5
   have:i.size=1:=by simpa using h5
   rw [<- this]
   rw [run_sizeOf w hq]
   simp [Program.cellsOf,hq]
 have hw:w.setCell ⟨b,k,none⟩ u=w.setRow b (cs.set k u).toArray:=by rw [hset];simp
 have hrun:(execOp a.eval ⟨dst,.store T1 (.tmp t) x,ty,ps,af,none⟩).run P w = .ok .skip (w.setRow b (cs.set k u).toArray):=by
  rw [<- hw]
  unfold execOp
  simp only [h1,hu,Instr.storeAt,Instr.sureAddr,storeVar,Sem.run_bind,hsz,Result.andThen_ok,Sem.run_pure]
  simp [ZB5 hone,storeCells,hst]
 refine wpList_plain rfl fun K hK=>?_
 unfold Oper.wp
 rw [hrun]
 have hgr:w.grownBy (w.setRow b (cs.set k u).toArray) (ZAP b T2 ds).blk:=ZAM
 have hok:(ZAP b T2 (ds.set k d)).ok (fun j=>Imm P0 B (ZAP b T2 ds::hp) j/\j<w.heap.size) (w.setRow b (cs.set k u).toArray):=by
  refine ⟨cs.set k u,setRow_heap w b _ _ _ _ c1,by simp [c2],fun c hc=>?_,fun j c e hc he=>?_⟩
  ·rcases List.mem_or_eq_of_mem_set hc with hc|rfl
   ·exact c3 c hc
   ·exact hone
  ·rw [List.getElem?_set] at hc he
   by_cases hjk:k=j
   ·rw [if_pos hjk,if_pos (by omega)] at hc he
    cases hc;cases he
    exact d.grown (d.bound hdu) hgr fun j q hj=>hj.1.2 (ZAP b T2 ds) (by simp) q
   ·rw [if_neg hjk] at hc he
    exact e.grown (e.bound (c4 j c e hc he)) hgr fun j q hj=>hj.1.2 (ZAP b T2 ds) (by simp) q
 exact hK _ _ (h.on (hh.write hgr (.inl rfl) hok) (Fr.put (hf.mono fun _ _ hd=>ZY (o':=ZAP b T2 (ds.set k d)) hgr (.inl rfl) hd) (d:=dX undef) rfl))
theorem ZEK {t:Nat} {x:Operand} (T':TyI P T1 n true) (hp0:OpD fr (.tmp t) (dX (.pointer (some ⟨b,0,none⟩)))) (hx:OpD fr x (ZGJ ds')) (hl:ds.length=n) (hl':ds'.length=n)
  (h:WL P ops Q rest (ZA fr dst (dX undef)) (ZAP b T2 ds'::hp)) :
  WL P ops Q (⟨dst,.store T1 (.tmp t) x,ty,ps,af,none⟩::rest) fr (ZAP b T2 ds::hp):=by
 refine WL.of fun P0 B w0 w a hh hf=>?_
 obtain ⟨cs,c1,c2,c3,c4⟩:=hh.ok (ZAP b T2 ds) (by simp)
 have h1:a.eval (.tmp t)=_:=hp0.ev hf
 obtain ⟨us,u1,u2,u3,u4⟩:=(hx.ev hf:(ZGJ ds').rd (Imm P0 B (ZAP b T2 ds::hp)) w (a.eval x))
 have hr:=ZB1 (u:=a.eval x) (cs:=cs) (cs':=us) T'.size c1 (by omega) (by omega) u3 (by rw [u1];rfl)
 have hrun:(execOp a.eval ⟨dst,.store T1 (.tmp t) x,ty,ps,af,none⟩).run P w = .ok .skip (w.setRow b us.toArray):=by
  unfold execOp
  simp only [h1,Sem.run_bind,hr,Result.andThen_ok,Sem.run_pure]
 refine wpList_plain rfl fun K hK=>?_
 unfold Oper.wp
 rw [hrun]
 have hgr:w.grownBy (w.setRow b us.toArray) (ZAP b T2 ds).blk:=ZAM
 have hok:(ZAP b T2 ds').ok (fun j=>Imm P0 B (ZAP b T2 ds::hp) j/\j<w.heap.size) (w.setRow b us.toArray) :=
  ⟨us,setRow_heap w b _ _ _ _ c1,u2,u3,fun j c e hc he=>e.grown (e.bound (u4 j c e hc he)) hgr fun j q hj=>hj.1.2 (ZAP b T2 ds) (by simp) q⟩
 exact hK _ _ (h.on (hh.write hgr (.inl rfl) hok) (Fr.put (hf.mono fun _ _ hd=>ZY (o':=ZAP b T2 ds') hgr (.inl rfl) hd) (d:=dX undef) rfl))
end
def R3 {α β γ:Type} (R:Rel α) (S:Rel β) (T:Rel γ):Rel (α × β × γ):=fun P w v x=>∃ u u' u'',v = .agg #[u,u',u'']/\(u.oneCell'=true/\u'.oneCell'=true/\u''.oneCell'=true)/\R P w u x.1/\S P w u' x.2.1/\T P w u'' x.2.2
instance {α β γ:Type} (R:Rel α) (S:Rel β) (T:Rel γ) [Good R] [Good S] [Good T]:Good (R3 R S T) where
 weak:=fun ⟨u,u',u'',h1,h0,h2,h3,h4⟩ q=>⟨u,u',u'',h1,h0,Good.weak h2 q,Good.weak h3 q,Good.weak h4 q⟩
 move:=fun ⟨u,u',u'',h1,h0,h2,h3,h4⟩ q=>⟨u,u',u'',h1,h0,Good.move h2 q,Good.move h3 q,Good.move h4 q⟩
 bound:=fun ⟨u,u',u'',h1,h0,h2,h3,h4⟩=>⟨u,u',u'',h1,h0,Good.bound h2,Good.bound h3,Good.bound h4⟩
section
variable {α β γ:Type} {R:Rel α} {S:Rel β} {T:Rel γ} [Good R] [Good S] [Good T] {x:α} {y:β} {z:γ}
theorem ZAd {p:α × β × γ}:(dS (R3 R S T) p).Shape 3 true:=fun _ _ _ h=>by
 obtain ⟨u,u',u'',rfl,⟨h0,h1,h2⟩,_⟩:=h
 exact ⟨[u,u',u''],rfl,by omega,fun c hc=>by
  simp only [List.mem_cons,List.not_mem_nil,or_false] at hc
  rcases hc with rfl|rfl|rfl <;> assumption,rfl,rfl⟩
theorem ZSH:(ZGJ [dS R x,dS S y,dS T z]).le (dS (R3 R S T) (x,y,z)):=fun _ _ _ h=>by
 obtain ⟨cs,rfl,h2,h3,h4⟩:=h
 match cs,h2 with
 | [u,u',u''],_=>exact ⟨u,u',u'',rfl,⟨h3 u (by simp),h3 u' (by simp),h3 u'' (by simp)⟩,h4 0 u _ rfl rfl,h4 1 u' _ rfl rfl,h4 2 u'' _ rfl rfl⟩
theorem ZCy {p:α × β × γ}:(dS (R3 R S T) p).le (ZGJ [dS R p.1,dS S p.2.1,dS T p.2.2]):=fun _ _ _ h=>by
 obtain ⟨u,u',u'',rfl,⟨h0,h1,h2⟩,h3,h4,h5⟩:=h
 refine ⟨[u,u',u''],rfl,rfl,fun c hc=>?_,fun k c d hc hd=>?_⟩
 ·simp only [List.mem_cons,List.not_mem_nil,or_false] at hc
  rcases hc with rfl|rfl|rfl <;> assumption
 ·match k,hc,hd with
  | 0,hc,hd=>cases hc;cases hd;exact h3
  | 1,hc,hd=>cases hc;cases hd;exact h4
  | 2,hc,hd=>cases hc;cases hd;exact h5
end
end
end Go.Proofs.YtekiljakcngcoaaGreatDoor
