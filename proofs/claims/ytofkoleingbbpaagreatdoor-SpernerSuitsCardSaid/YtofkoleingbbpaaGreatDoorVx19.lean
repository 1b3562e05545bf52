/- Part 19: walks by contracts, and plain laws. -/
import Derived.Test.YtofkoleingbbpaaGreatDoorVx18
set_option linter.unusedVariables false
set_option linter.unusedSimpArgs false
set_option linter.unusedSectionVars false
set_option maxRecDepth 100000
set_option maxHeartbeats 4000000
namespace Go.Proofs.YtofkoleingbbpaaGreatDoor
section
open Go.RowKit
def ZEa {K α:Type} (kv:K->Value) (R:Rel α):Rel (List (K × α)):=fun P w v m =>
 ∃ (b:Nat) (us:List Value),v = .map (some b)/\P b/\us.length=m.length/\w.heap[b]?=some (ZAE (Z8 kv id ((m.map (·.1)).zip us)))/\∀ k (h:k<us.length) (h':k<m.length),R P w us[k] m[k].2
theorem ZGB {w:World} {b:Nat} {o:Obj} (h:w.heap[b]?=some o):b<w.heap.size:=(Array.getElem?_eq_some_iff.1 h).1
instance {K α:Type} (kv:K->Value) (R:Rel α) [Good R]:Good (ZEa kv R) where
 weak:=fun ⟨b,us,h1,h2,h3,h4,h5⟩ q=>⟨b,us,h1,q b h2,h3,h4,fun k a c=>Good.weak (h5 k a c) q⟩
 move:=fun ⟨b,us,h1,h2,h3,h4,h5⟩ q=>⟨b,us,h1,h2,h3,(q b h2 (ZGB h4)).trans h4,fun k a c=>Good.move (h5 k a c) q⟩
 bound:=fun ⟨b,us,h1,h2,h3,h4,h5⟩=>⟨b,us,h1,⟨h2,ZGB h4⟩,h3,h4,fun k a c=>Good.bound (h5 k a c)⟩
section
variable {P:Program} {ops:Array Oper} {hp:List HObj} {fr:List Dat} {d:Dat}
variable {dst:Option Tmp} {ty:TypeId} {ps:String} {af:Array Edge} {g:Option (Nat × Bool)} {t k e:TypeId} {z:Value} {K α:Type} [DecidableEq K] {kv:K->Value} {ok:K->Prop} {R:Rel α} {m:List (K × α)}
theorem ZIO {m:List (K × α)} {us:List Value} (h:us.length=m.length) (x:K):(lookM m x=none/\lookM ((m.map (·.1)).zip us) x=none)\/∃ (j:Nat) (h1:j<us.length) (h2:j<m.length),lookM m x=some m[j].2/\lookM ((m.map (·.1)).zip us) x=some us[j]:=by
 induction m generalizing us with
 | nil=>exact .inl ⟨rfl,by cases us <;> rfl⟩
 | cons p m ih =>
  cases us with
  | nil=>simp at h
  | cons u us =>
   by_cases hp:p.1=x
   ·refine .inr ⟨0,by simp,by simp,?_,?_⟩
    ·unfold lookM;rw [List.find?_cons_of_pos (by simpa using hp)];rfl
    ·unfold lookM;simp only [List.map_cons,List.zip_cons_cons];rw [List.find?_cons_of_pos (by simpa using hp)];rfl
   ·rcases ih (us:=us) (by simpa using h) with ⟨h1,h2⟩|⟨j,h1,h2,h3,h4⟩
    ·refine .inl ⟨?_,?_⟩
     ·unfold lookM at h1 ⊢;rw [List.find?_cons_of_neg (by simpa using hp)];exact h1
     ·unfold lookM at h2 ⊢;simp only [List.map_cons,List.zip_cons_cons];rw [List.find?_cons_of_neg (by simpa using hp)];exact h2
    ·refine .inr ⟨j+1,by simpa using h1,by simpa using h2,?_,?_⟩
     ·unfold lookM at h3 ⊢;rw [List.find?_cons_of_neg (by simpa using hp)];exact h3
     ·unfold lookM at h4 ⊢;simp only [List.map_cons,List.zip_cons_cons];rw [List.find?_cons_of_neg (by simpa using hp)];exact h4
theorem ZDZ [Good R] {x y:Operand} {v:K} {a0:α} (T:MapT P t k e z) (H:KeyT P k kv ok) (hx:OpD fr x (dS (ZEa kv R) m)) (hy:OpD fr y d) (hd:IsV d (kv v)) (ho:ok v) (hok:∀ p∈m,ok p.1) (hn:(m.map (·.1)).Nodup) (hz:∀ I w,R I w z a0) :
  SY P ops hp ⟨dst,.lookup t x y false,ty,ps,af,g⟩ fr (dS R ((Go.Proofs.YtofkoleingbbpaaGreatDoor.lookM m v).getD a0)):=SY.val fun {I w a} hon=>by
 obtain ⟨b,us,h1,h2,h3,h4,h5⟩:=hx.get (by simp [Op.operands]) hon
 have h6:=hd.is _ _ _ (hy.get (by simp [Op.operands]) hon)
 have hkeys:((m.map (·.1)).zip us).map (·.1)=m.map (·.1):=by rw [List.map_fst_zip];simp [h3]
 refine ⟨((Go.Proofs.YtofkoleingbbpaaGreatDoor.lookM ((m.map (·.1)).zip us) v).map id).getD z,?_,?_⟩
 ·unfold execOp
  simp only [h1,h6,Sem.run_bind,ZCO (vv:=id) T H (fun (p:K × Value) (hp:p∈(m.map (·.1)).zip us)=>by
   have:p.1∈m.map (·.1):=by rw [<- hkeys];exact List.mem_map_of_mem hp
   obtain ⟨q,hq,he⟩:=List.mem_map.1 this
   rw [<- he];exact hok q hq) (by rw [hkeys];exact hn) ho h4 false,Result.andThen_ok,Sem.run_pure]
  rfl
 ·rcases ZIO h3 v with ⟨e1,e2⟩|⟨j,j1,j2,e1,e2⟩
  ·rw [e1,e2];exact hz I w
  ·rw [e1,e2];exact h5 j j1 j2
end
theorem FinD.map {hp:List HObj} {b:Nat} {e:TypeId} {K α:Type} {kv:K->Value} {R:Rel α} {_gR:Good R} {M:List (K × Value × List α)} (hm:hM b kv (fun p:Value × List α=>p.1) M∈hp) (hr:∀ p∈M,Zn p.2.1 e R p.2.2∈hp) :
  FinD hp (dX (.map (some b))) (dS (ZEa kv (Arr R)) (M.map fun p=>(p.1,p.2.2))):=FinD.mk fun {P0 B w0 w u} hh hd=>by
 have hb:w.heap[b]?=some (ZAE _):=hh.ok _ hm
 refine ⟨b,M.map fun p=>p.2.1,hd,ZEB hh hm rfl,by simp,?_,fun k h1 h2=>?_⟩
 ·rw [hb]
  congr 2
  unfold Z8
  simp only [List.map_map]
  rw [List.zip_map',List.map_map]
  rfl
 ·have hk:k<M.length:=by simpa using h1
  have:Arr R (fun b=>P0 b\/B≤b) w M[k].2.1 M[k].2.2:=(FinD.row (hr _ (List.getElem_mem hk))).out (v:=M[k].2.1) hh rfl
  simpa using this
end
section
open Go.RowKit
theorem ZSn:laidOutB Tryz.prog=true:=by kernel_rfl
def ZSA (n:Int):Prop:=-9223372036854775808≤n/\n≤9223372036854775807
theorem wf64 {n:Int} (h:ZSA n):(Lit.int .i64 n).wf=true:=by
 obtain ⟨h1,h2⟩:=h
 show (decide (IntKind.i64.min≤n) && decide (n≤IntKind.i64.max))=true
 have e1:IntKind.i64.min = -9223372036854775808:=by decide
 have e2:IntKind.i64.max=9223372036854775807:=by decide
 rw [e1,e2,decide_eq_true h1,decide_eq_true h2];rfl
def kvV (x:Int × Int):Value:=.agg #[.int .i64 x.1,.int .i64 x.2]
def okV (x:Int × Int):Prop:=ZSA x.1/\ZSA x.2
theorem ZS2:77<Tryz.prog.types.size:=of_decide_eq_true (by kernel_rfl)
theorem ZI4:Tryz.prog.cellsOf 77=2:=by kernel_rfl
theorem ZQ9:Tryz.prog.cellsOf 3=1:=by kernel_rfl
theorem ZQY (d:Nat) {x:Int × Int} (h:okV x):Tryz.prog.keyLits (d+2) 77 [.int .i64 x.1,.int .i64 x.2]=some [.int .i64 x.1,.int .i64 x.2]:=by
 obtain ⟨h1,h2⟩:=h
 unfold Program.keyLits
 simp only [Tryz.underlying77,ZI4]
 simp [ZQ9,Program.keyLits,Tryz.underlying3,wf64 h1,wf64 h2]
theorem ZQV:KeyT Tryz.prog 77 kvV okV where
 law:=Go.Maps.Keyed.of_law (deep_law_laid ZSn (m:=2) (by omega) ZS2 (by kernel_rfl) (by rw [Tryz.underlying77]))
 lit:=fun x h=>by
  refine ⟨.string (keyBytes [.int .i64 x.1,.int .i64 x.2]),?_⟩
  unfold keyOf
  simp only [Tryz.underlying77]
  have hk:Tryz.prog.keyType 77=true:=by kernel_rfl
  have hf:(kvV x).formed Tryz.prog 77=true:=by simp [kvV,Value.formed,Tryz.underlying77,ZI4]
  obtain ⟨d,hd⟩:∃ d,Tryz.prog.types.size=d+1:=⟨Tryz.prog.types.size-1,by have:=ZS2;omega⟩
  rw [hk,hf,hd]
  have:=ZQY d h
  simp only [Bool.and_self,if_true]
  rw [show (kvV x).cells.toList=[.int .i64 x.1,.int .i64 x.2] from rfl,this]
  rfl
 inj:=fun x y _ _ h=>by
  unfold kvV at h
  simp at h
  exact Prod.ext h.1 h.2
def ZJH (s:List Vx):List Vx:=s++List.replicate (8-s.length) (-1,0)
def kvK (s:List Vx):Value:=.agg (Zg (ZJH s)).toArray
def okK (s:List Vx):Prop:=s.length≤8/\∀ v∈s,okV v/\0≤v.1
theorem ZS1:202<Tryz.prog.types.size:=of_decide_eq_true (by kernel_rfl)
theorem ZMa:Tryz.prog.cellsOf 202=16:=by kernel_rfl
theorem ZDn {s:List Vx} (h:s.length≤8):(ZJH s).length=8:=by unfold ZJH;simp;omega
theorem ZRh {s:List Vx} (h:okK s):∀ v∈ZJH s,okV v:=fun v hv=>by
 unfold ZJH at hv
 rcases List.mem_append.1 hv with hv|hv
 ·exact (h.2 v hv).1
 ·rw [(List.mem_replicate.1 hv).2];exact ⟨by unfold ZSA;omega,by unfold ZSA;omega⟩
theorem ZKD {α β:Type} {f:α->Option β} {g:α->β}:∀ (L:List α),(∀ i∈L,f i=some (g i))->L.mapM f=some (L.map g)
 | [],_=>rfl
 | a::L,h=>by
  rw [List.mapM_cons,h a (by simp),ZKD L fun i hi=>h i (by simp [hi])]
  rfl
theorem ZJz:∀ (l:List Vx) (i:Nat) (h:i<l.length),((Zg l).drop (i*2)).take 2=[.int .i64 l[i].1,.int .i64 l[i].2]
 | [],i,h=>by simp at h
 | x::l,0,_=>by simp [ZAW]
 | x::l,i+1,h=>by
  rw [ZAW,show (i+1)*2=i*2+2 by omega]
  simpa using ZJz l i (by simpa using h)
theorem ZSp (d:Nat) {s:List Vx} (h:okK s):∃ l,Tryz.prog.keyLits (d+3) 202 (Zg (ZJH s))=some l:=by
 have hl:(Zg (ZJH s)).length=16:=by rw [Zk,ZDn h.1]
 unfold Program.keyLits
 simp only [Tryz.underlying202,ZMa,hl]
 simp only [if_true,ZI4]
 rw [ZKD (g:=fun i=>[Lit.int .i64 ((ZJH s).getD i (0,0)).1,Lit.int .i64 ((ZJH s).getD i (0,0)).2]) _ fun i hi=>?_]
 ·exact ⟨_,rfl⟩
 ·have hi':i<(ZJH s).length:=by rw [ZDn h.1];exact List.mem_range.1 hi
  rw [ZJz _ i hi',ZQY d (ZRh h _ (List.getElem_mem hi'))]
  simp [List.getD,hi']
theorem ZID:∀ {a b:List Vx},Zg a=Zg b->a=b
 | [],[],_=>rfl
 | [],y::b,h=>by simp [ZAW,ZBj] at h
 | x::a,[],h=>by simp [ZAW,ZBj] at h
 | x::a,y::b,h=>by
  rw [ZAW,ZAW] at h
  simp at h
  rw [Prod.ext h.1 h.2.1,ZID h.2.2]
theorem ZPh:∀ {a b:List Vx},(∀ v∈a,0≤v.1)->(∀ v∈b,0≤v.1)->ZJH a=ZJH b->a=b:=by
 have go:∀ {a b:List Vx} (i j:Nat),(∀ v∈a,0≤v.1)->(∀ v∈b,0≤v.1)->a++List.replicate i ((-1,0):Vx)=b++List.replicate j (-1,0)->a=b:=by
  intro a
  induction a with
  | nil =>
   intro b i j _ hb h
   cases b with
   | nil=>rfl
   | cons y b =>
    cases i with
    | zero=>simp at h
    | succ i =>
     rw [List.replicate_succ] at h
     simp at h
     have:=hb y (by simp)
     rw [<- h.1] at this
     simp at this
  | cons x a ih =>
   intro b i j ha hb h
   cases b with
   | nil =>
    cases j with
    | zero=>simp at h
    | succ j =>
     rw [List.replicate_succ] at h
     simp at h
     have:=ha x (by simp)
     rw [h.1] at this
     simp at this
   | cons y b =>
    simp only [List.cons_append,List.cons.injEq] at h
    rw [h.1,ih i j (fun v hv=>ha v (by simp [hv])) (fun v hv=>hb v (by simp [hv])) h.2]
 intro a b ha hb h
 exact go _ _ ha hb h
theorem ZQU:KeyT Tryz.prog 202 kvK okK where
 law:=Go.Maps.Keyed.of_law (deep_law_laid ZSn (m:=3) (by omega) ZS1 (by kernel_rfl) (by rw [Tryz.underlying202]))
 lit:=fun s h=>by
  obtain ⟨d,hd⟩:∃ d,Tryz.prog.types.size=d+2:=⟨Tryz.prog.types.size-2,by have:=ZS1;omega⟩
  obtain ⟨l,hl⟩:=ZSp d h
  refine ⟨.string (keyBytes l),?_⟩
  unfold keyOf
  simp only [Tryz.underlying202]
  have hk:Tryz.prog.keyType 202=true:=by kernel_rfl
  have hf:(kvK s).formed Tryz.prog 202=true:=by
   simp [kvK,Value.formed,Tryz.underlying202,ZMa,Zk,ZDn h.1]
  rw [hk,hf,hd]
  simp only [Bool.and_self,if_true]
  rw [show (kvK s).cells.toList=Zg (ZJH s) from rfl,hl]
  rfl
 inj:=fun x y hx hy h=>by
  unfold kvK at h
  injection h with h
  exact ZPh (fun v hv=>(hx.2 v hv).2) (fun v hv=>(hy.2 v hv).2) (ZID (List.toArray_inj h))
end
section
open Go.RowKit

theorem ZKE:MapT Tryz.prog 128 77 23 (.slice none 0 0):=⟨Tryz.underlying128,fun w=>by kernel_rfl⟩
abbrev ZOK:=List (Vx × Value × List Int)
abbrev hI (b:Nat) (M:ZOK):HObj:=hM b kvV (fun p:Value × List Int=>p.1) M
def ZDJ (M:ZOK):List HObj:=M.map fun p=>Zn p.2.1 3 RI p.2.2
def ZCj (M:ZOK):List (Vx × List Int):=M.map fun p=>(p.1,p.2.2)
theorem ZKt (M:ZOK):(ZCj M).map (·.1)=M.map (·.1):=by unfold ZCj;rw [List.map_map];rfl
theorem ZEp {α:Type} (a:α):∀ (l:List α) (q:Nat),q<l.length->(a::l.eraseIdx q).Perm (l.set q a)
 | [],q,h=>by simp at h
 | x::l,0,_=>by simp
 | x::l,q+1,h=>by
  simp only [List.eraseIdx_cons_succ,List.set_cons_succ]
  exact (List.Perm.swap _ _ _).trans (List.Perm.cons _ (ZEp a l q (by simpa using h)))
theorem ZRk {α:Type} (l:List α) (q:Nat) (h:q<l.length):(l[q]::l.eraseIdx q).Perm l:=by
 have:=ZEp l[q] l q h
 rwa [List.set_getElem_self] at this
theorem ZFQ {α β:Type} (M:List (α × β)) (q:Nat) (h:q<M.length) (u:β):(M.set q (M[q].1,u)).map (·.1)=M.map (·.1):=by
 rw [List.map_set]
 have:(M.map (·.1))[q]'(by simpa using h)=M[q].1:=by simp
 rw [<- this,List.set_getElem_self]
theorem ZMp {M:ZOK} (hn:(M.map (·.1)).Nodup) {q:Nat} (h:q<M.length) (v':Value) (i:Int):ZCj (M.set q (M[q].1,(v',M[q].2.2++[i])))=ZKi (ZCj M) M[q].1 i:=by
 have hl:q<(ZCj M).length:=by simpa [ZCj] using h
 have e1:(ZCj M)[q]=(M[q].1,M[q].2.2):=by simp [ZCj]
 have hn':((ZCj M).map (·.1)).Nodup:=by rw [ZKt];exact hn
 have h2:=ZCK hn' hl
 have h3:=ZDp hn' (v:=M[q].2.2++[i]) hl
 rw [e1] at h2 h3
 unfold ZKi
 rw [h2]
 show _=ZBf (ZCj M) M[q].1 (M[q].2.2++[i])
 rw [h3]
 unfold ZCj
 rw [List.map_set]
theorem ZMo {M:ZOK} {v:Vx} (hne:∀ p∈M,p.1≠v) (v':Value) (i:Int):ZCj (M++[(v,(v',[i]))])=ZKi (ZCj M) v i:=by
 have hne':∀ p∈ZCj M,p.1≠v:=fun p hp=>by
  obtain ⟨q,hq,rfl⟩:=List.mem_map.1 hp
  exact hne q hq
 unfold ZKi
 rw [ZBd hne',ZCa hne']
 simp [ZCj]
theorem ZNo (M:ZOK) (q:Nat) (h:q<M.length) (p:Vx × Value × List Int):(Zn p.2.1 3 RI p.2.2::(ZDJ M).eraseIdx q).Perm (ZDJ (M.set q p)):=by
 have:=ZEp (Zn p.2.1 3 RI p.2.2) (ZDJ M) q (by simpa [ZDJ] using h)
 have e:ZDJ (M.set q p)=(ZDJ M).set q (Zn p.2.1 3 RI p.2.2):=by unfold ZDJ;rw [List.map_set]
 rw [e];exact this
theorem ZLI (M:ZOK) (p:Vx × Value × List Int):(Zn p.2.1 3 RI p.2.2::ZDJ M).Perm (ZDJ (M++[p])):=by
 unfold ZDJ
 rw [List.map_append]
 exact (List.perm_append_singleton _ _).symm
theorem ZJD (l:Cx) (hl:l.length≤1000000) (hs:∀ s∈l,∀ v∈s,okV v) (h8:∀ s∈l,s.length≤1000):Fn Tryz.prog 81 [dS Zv l] (dS (ZEa kvV ZBD) (ZHV l)):=by
 (refine ZE Tryz.func81 rfl rfl ?_;simp only [Tryz.ntmps81,List.length_cons,List.length_nil,Nat.reduceAdd,Nat.reduceSub,List.replicate_succ,List.replicate_zero,List.cons_append,List.nil_append])
 (repeat' (first|(apply WL.opN;exact yF;dsimp only [ZB,z0,z1])|refine WL.nil ?_|refine ZA fun Kx hK=>?_|(refine hK _ _ ?_;clear hK)|refine WC.region ?_ |  (refine WL.makeMap kvV (fun p:Value × List Int=>p.1) fun b=>?_;dsimp only [ZB,z0,z1])|(apply WL.opN;(focus ((first|exact ZBg|fail);all_goals infer_instance));dsimp only [ZB,z0,z1])|refine WC.block ?_))
 (refine WC.loopU (X:=Nat × ZOK) (fun x=>[(11,dI (x.1:Int)),(4,dA),(5,dA),(7,dA),(12,dA),(13,dA),(14,dA),(15,dA),(16,dA),(17,dA),(18,dA),(19,dA),(20,dA),(21,dA),(22,dA),(23,dA),(24,dA),(25,dA),(26,dA),(27,dA),(28,dA),(29,dA),(30,dA),(31,dA)]) (fun x=>hI b x.2::ZDJ x.2) (fun x=>l.length-x.1) (fun x=>x.1≤l.length/\(x.2.map (·.1)).Nodup/\(∀ p∈x.2,okV p.1)/\(∀ p∈x.2,p.2.2.length≤2000*x.1)/\ZCj x.2=ZHV (l.take x.1)) (0,[]) ?start ?frame0 ?objs0 ?round)
 case start=>exact ⟨Nat.zero_le _,by simp,by simp,by simp,rfl⟩
 case frame0=>((try dsimp only [ZK,z0,z1]);repeat (first|exact LeF.nil|refine ZD (k:=?_)))
 case objs0=>rfl
 case round =>
  rintro ⟨i,M⟩ ⟨h1,h2,h3,h4,h5⟩
  simp only at h1 h2 h3 h4 h5
  dsimp only [ZK,z0,z1]
  ((repeat' (first|(apply WL.opN;exact yF;dsimp only [ZB,z0,z1])|refine WL.nil ?_|refine ZA fun Kx hK=>?_|(refine hK _ _ ?_;clear hK)|(refine Kont.skip ?_;clear hK)|refine WC.region ?_|(apply WL.opN;(focus ((first|exact ZBx|exact ZBg|exact ZV|fail);all_goals infer_instance));dsimp only [ZB,z0,z1])|(apply ZC;(exact oD);all_goals (intro h;try exact xD))|refine WC.skip ?_|refine WC.ret ?_|refine WC.exit ?_|refine WC.block ?_));all_goals (first|refine WC.id ?_|((repeat clear hK);(repeat clear Kx))))
  ·have hm:=List.getElem_mem (show i<l.length by omega)
   have h8m:=h8 _ hm
   (refine WC.loopU (X:=Nat × ZOK) (fun x=>[(18,dI (x.1:Int)),(7,dA),(19,dA),(20,dA),(21,dA),(22,dA),(23,dA),(24,dA),(25,dA),(26,dA),(27,dA),(28,dA),(29,dA),(30,dA)]) (fun x=>hI b x.2::ZDJ x.2) (fun x=>l[i].length-x.1) (fun x=>x.1≤l[i].length/\(x.2.map (·.1)).Nodup/\(∀ p∈x.2,okV p.1)/\(∀ p∈x.2,p.2.2.length≤2000*i+x.1)/\ZCj x.2=ZNG (ZHV (l.take i)) (l[i].take x.1) (i:Int)) (0,M) ?start ?frame0 ?objs0 ?round)
   case start=>exact ⟨Nat.zero_le _,h2,h3,h4,h5⟩
   case frame0=>((try dsimp only [ZK,z0,z1]);repeat (first|exact LeF.nil|refine ZD (k:=?_)))
   case objs0=>rfl
   case round =>
    rintro ⟨j,M⟩ ⟨g1,g2,g3,g4,g5⟩
    simp only at g1 g2 g3 g4 g5
    dsimp only [ZK,z0,z1]
    ((repeat' (first|(apply WL.opN;exact yF;dsimp only [ZB,z0,z1])|refine WL.nil ?_|refine ZA fun Kx hK=>?_|(refine hK _ _ ?_;clear hK)|(refine Kont.skip ?_;clear hK)|refine WC.region ?_|(apply WL.alloc;(first|exact tzV|exact tzC);(first|exact Zs rfl|exact ZAJ|exact shape_C0 rfl);(intro _;dsimp only [ZB,z0,z1]))|(apply ZR;(exact tD);rfl;(exact oD);(exact hD);dsimp only [ZB,z0,z1])|(apply WL.opN;(focus ((first|exact ZBx|exact ZC5|exact ZV|exact ZDX|fail);all_goals infer_instance));dsimp only [ZB,z0,z1])|(apply ZC;(exact oD);all_goals (intro h;try exact xD))|refine WC.skip ?_|refine WC.exit ?_|refine WC.block ?_|refine ThenD.n ?_));all_goals (first|refine WL.id ?_|((repeat clear hK);(repeat clear Kx))))
    ·have hjl:j<l[i].length:=by omega
     refine ZQ3 (zv:=((.slice none 0 0,[]):Value × List Int)) rfl ZKE ZQV (OpD.t rfl) (OpD.t rfl) ⟨fun _ _ _ h=>h⟩ (hs _ hm _ (List.getElem_mem hjl)) g3 (fun q hq hqv=>?_) (fun hne=>?_)
     ·have hq':q<(ZDJ M).length:=by unfold ZDJ;simpa using hq
      have hrow:(ZDJ M)[q]=Zn M[q].2.1 3 RI M[q].2.2:=by simp [ZDJ]
      have hlen:=g4 _ (List.getElem_mem hq)
      refine WL.perm (((List.Perm.cons _ (ZRk _ q hq').symm)).trans (List.Perm.swap _ _ _)) ?_
      rw [hrow]
      dsimp only [ZB,z0,z1]
      (repeat' (first|((first|apply WL.appK|apply WL.app1);(exact eD);exact OpD.t rfl;(exact oD);decide;(exact lD);(intro _;dsimp only [ZB,z0,z1]);all_goals (try infer_instance))|(apply WL.opN;(focus ((first|exact ZDG|fail);all_goals infer_instance));dsimp only [ZB,z0,z1])))
      rename_i v'
      refine WL.perm (List.Perm.swap _ _ _) ?_
      refine ZL9 (u:=(v',M[q].2.2++[(i:Int)])) (OpD.t rfl) (OpD.t rfl) (OpD.t rfl) ⟨fun _ _ _ h=>h⟩ hq ?_
      refine WL.perm (List.Perm.cons _ (ZNo M q hq (M[q].1,(v',M[q].2.2++[(i:Int)])))) ?_
      dsimp only [ZB]
      ((repeat' (first|(apply WL.opN;exact yF;dsimp only [ZB,z0,z1])|refine WL.nil ?_|(refine hK _ _ ?_;clear hK)|refine WC.region ?_|(apply WL.opN;(focus ((first|exact ZC5|fail);all_goals infer_instance));dsimp only [ZB,z0,z1])|refine ThenD.n ?_));all_goals (first|((repeat clear hK);(repeat clear Kx))))
      (refine ⟨(j+1,M.set q (M[q].1,(v',M[q].2.2++[(i:Int)]))),?_,by first|omega|(simp only;omega),rfl,?_⟩;rotate_left;((try dsimp only [ZK,z0,z1]);repeat (first|exact LeF.nil|refine ZD (k:=?_)));(try dsimp only))
      refine ⟨by omega,?_,?_,?_,?_⟩
      ·rw [ZFQ];exact g2
      ·intro p hp
       rcases List.mem_or_eq_of_mem_set hp with hp|rfl
       ·exact g3 p hp
       ·exact (show okV M[q].1 from g3 _ (List.getElem_mem hq))
      ·intro p hp
       rcases List.mem_or_eq_of_mem_set hp with hp|rfl
       ·have:=g4 p hp;omega
       ·simp only [List.length_append,List.length_cons,List.length_nil];omega
      ·rw [ZMp g2 hq,g5,hqv,<- ZIL]
     ·refine ZDb 3 RI ?_
      dsimp only [ZB,z0,z1]
      (repeat' (first|((first|apply WL.appK|apply WL.app1);(exact eD);exact OpD.t rfl;(exact oD);decide;(exact lD);(intro _;dsimp only [ZB,z0,z1]);all_goals (try infer_instance))|(apply WL.opN;(focus ((first|exact ZDG|fail);all_goals infer_instance));dsimp only [ZB,z0,z1])))
      rename_i v'
      refine WL.perm (List.Perm.swap _ _ _) ?_
      have hlen:M.length<(M++[((l[i][j],((.slice none 0 0,[]):Value × List Int)))]).length:=by simp
      refine ZL9 (j:=M.length) (u:=(v',[(i:Int)])) (OpD.t rfl) (OpD.t rfl) (OpD.t rfl) ⟨fun _ _ _ h=>h⟩ hlen ?_
      have eset:(M++[((l[i][j],((.slice none 0 0,[]):Value × List Int)))]).set M.length ((M++[((l[i][j],((.slice none 0 0,[]):Value × List Int)))])[M.length].1,(v',[(i:Int)]))=M++[(l[i][j],(v',[(i:Int)]))]:=by simp
      rw [eset]
      refine WL.perm (List.Perm.cons _ (ZLI M (l[i][j],(v',[(i:Int)])))) ?_
      dsimp only [ZB]
      ((repeat' (first|(apply WL.opN;exact yF;dsimp only [ZB,z0,z1])|refine WL.nil ?_|(refine hK _ _ ?_;clear hK)|refine WC.region ?_|(apply WL.opN;(focus ((first|exact ZC5|fail);all_goals infer_instance));dsimp only [ZB,z0,z1])|refine ThenD.n ?_));all_goals (first|((repeat clear hK);(repeat clear Kx))))
      (refine ⟨(j+1,M++[(l[i][j],(v',[(i:Int)]))]),?_,by first|omega|(simp only;omega),rfl,?_⟩;rotate_left;((try dsimp only [ZK,z0,z1]);repeat (first|exact LeF.nil|refine ZD (k:=?_)));(try dsimp only))
      refine ⟨by omega,?_,?_,?_,?_⟩
      ·rw [List.map_append,List.nodup_append]
       refine ⟨g2,by simp,fun a ha c hc=>?_⟩
       have:c=l[i][j]:=by simpa using hc
       subst this
       obtain ⟨p,hp,rfl⟩:=List.mem_map.1 ha
       exact hne p hp
      ·intro p hp
       rcases List.mem_append.1 hp with hp|hp
       ·exact g3 p hp
       ·rw [List.mem_singleton.1 hp];exact hs _ hm _ (List.getElem_mem hjl)
      ·intro p hp
       rcases List.mem_append.1 hp with hp|hp
       ·have:=g4 p hp;omega
       ·rw [List.mem_singleton.1 hp];simp only [List.length_cons,List.length_nil];omega
      ·rw [ZMo hne,g5,<- ZIL]
    ·(refine ⟨(i+1,M),?_,by first|omega|(simp only;omega),rfl,?_⟩;rotate_left;((try dsimp only [ZK,z0,z1]);repeat (first|exact LeF.nil|refine ZD (k:=?_)));(try dsimp only))
     refine ⟨by omega,g2,g3,fun p hp=>by have:=g4 p hp;omega,?_⟩
     rw [List.take_of_length_le (show l[i].length≤j by omega)] at g5
     show ZCj M=_
     rw [g5,<- ZFL (by omega)]
  ·rw [List.take_of_length_le (by omega)] at h5
   rw [<- h5]
   exact ⟨trivial,_,rfl,FinD.map (.head _) fun p hp=>.tail _ (List.mem_map_of_mem (f:=fun p:Vx × Value × List Int=>Zn p.2.1 3 RI p.2.2) hp)⟩
end
section
open Go.RowKit
section
variable {P:Program} {ops:Array Oper} {hp:List HObj} {o:Oper} {fr:List Dat} {d:Dat} {Q:Zu} {rest:List Oper}
variable {dst:Option Tmp} {ty:TypeId} {ps:String} {af:Array Edge} {g:Option (Nat × Bool)} {e:TypeId} {b:Nat} {T1 T2:TypeId} {v v':Value} {α:Type} {R:Rel α} {_gR:Good R} {xs:List α}
abbrev hC1 (b:Nat) (T:TypeId) (v:Value):HObj:=Zb b T 1 true (dX (.agg #[v]))
theorem ZD2 {c0:Prop} (hm:Zn v e R xs∈hp) (hc:(∃ a c,v = .slice a xs.length c)->c0) (h:c0->WL P ops Q rest fr hp):WL P ops Q rest fr hp:=WL.of fun _ _ _ _ _ hh hf=>by
 refine (h (hc ?_)).on hh hf
 obtain ⟨us,_,⟨_,hv⟩,_⟩:=hh.ok (Zn v e R xs) hm
 rcases hv with ⟨hv,h0⟩|⟨g,cap,cur,hv,_⟩
 ·exact ⟨_,_,by rw [hv,h0]⟩
 ·exact ⟨_,_,hv⟩
end
end
section
open Go.RowKit

theorem ZGn (xs:List Vx) (hl:xs.length≤1000):Fn Tryz.prog 47 [dS ZJ xs] (dS ZJ xs):=by
 (refine ZE Tryz.func47 rfl rfl ?_;simp only [Tryz.ntmps47,List.length_cons,List.length_nil,Nat.reduceAdd,Nat.reduceSub,List.replicate_succ,List.replicate_zero,List.cons_append,List.nil_append])
 ((repeat' (first |  (refine ZGe 4 rfl fun b hb=>?_;dsimp only [z0,z1])|(apply WL.opN;exact yF;dsimp only [ZB,z0,z1])|refine WL.nil ?_|refine ZA fun Kx hK=>?_|(refine hK _ _ ?_;clear hK)|refine WC.region ?_ |  (apply ZC7 elV RV (by decide);(intro _;dsimp only [ZB,z0,z1]);all_goals (try infer_instance))|((first|apply WL.appK|apply WL.app1);(exact eD);exact OpD.t rfl;(exact oD);decide;(exact lD);(intro _;dsimp only [ZB,z0,z1]);all_goals (try infer_instance))|(apply WL.opN;(focus ((first|(apply ZGT;exact OpD.t rfl;(exact fun _ _ _ h=>ZSt h);exact ZK8;exact ZMx)|fail);all_goals infer_instance));dsimp only [ZB,z0,z1])|(apply WC.cond;(exact oD);all_goals (intro h;try exact xD))|refine WC.skip ?_|refine WC.ret ?_|refine ThenD.r ?_));all_goals (first|((repeat clear hK);(repeat clear Kx))))
 ·rw [hb h];(refine ⟨trivial,_,rfl,?_⟩;exact fD)
 ·rw [List.nil_append];(refine ⟨trivial,_,rfl,?_⟩;exact fD)
theorem ZPd {s:List Vx} (h:Z5 s=0):∀ v∈s,okV v:=fun v hv=>by
 have:=ZKO.1 ((Zf.1 h).2.2.1 v hv)
 unfold okV ZSA
 omega
theorem ZFB {l:Cx}:∀ n,n≤l.length->((ZHV (l.take n)).map (·.1)).Nodup/\∀ v,v∈(ZHV (l.take n)).map (·.1)->∃ s∈l,v∈s:=by
 have put:∀ (m:List (Vx × List Int)) (v:Vx) (i:Int),(m.map (·.1)).Nodup->((ZKi m v i).map (·.1)).Nodup/\∀ u,u∈(ZKi m v i).map (·.1)->u=v\/u∈m.map (·.1):=by
  intro m v i hm
  unfold ZKi ZBf
  split
  ·rename_i h
   have e:(m.map fun p=>if p.1=v then (v,(lookM m v).getD []++[i]) else p).map (·.1)=m.map (·.1):=by
    rw [List.map_map]
    refine List.map_congr_left fun p _=>?_
    show (if p.1=v then (v,(lookM m v).getD []++[i]) else p).1=p.1
    split
    ·rename_i h;exact h.symm
    ·rfl
   rw [e]
   exact ⟨hm,fun u hu=>.inr hu⟩
  ·rename_i h
   rw [List.map_append]
   refine ⟨?_,fun u hu=>?_⟩
   ·rw [List.nodup_append]
    refine ⟨hm,by simp,fun a ha b hb=>?_⟩
    have:b=v:=by simpa using hb
    subst this
    intro hab
    subst hab
    obtain ⟨p,hp,hpv⟩:=List.mem_map.1 ha
    apply h
    unfold lookM
    rw [Option.isSome_map]
    rw [List.find?_isSome]
    exact ⟨p,hp,by simpa using hpv⟩
   ·rcases List.mem_append.1 hu with hu|hu
    ·exact .inr hu
    ·exact .inl (by simpa using hu)
 have all:∀ (s:List Vx) (m:List (Vx × List Int)) (i:Int),(m.map (·.1)).Nodup->((ZNG m s i).map (·.1)).Nodup/\∀ u,u∈(ZNG m s i).map (·.1)->u∈s\/u∈m.map (·.1):=by
  intro s
  induction s with
  | nil=>intro m i hm;exact ⟨hm,fun u hu=>.inr hu⟩
  | cons v s ih =>
   intro m i hm
   obtain ⟨h1,h2⟩:=put m v i hm
   obtain ⟨h3,h4⟩:=ih (ZKi m v i) i h1
   refine ⟨h3,fun u hu=>?_⟩
   rcases h4 u hu with h|h
   ·exact .inl (by simp [h])
   ·rcases h2 u h with h|h
    ·exact .inl (by simp [h])
    ·exact .inr h
 intro n
 induction n with
 | zero=>intro _;exact ⟨by simp [ZHV],fun v hv=>by simp [ZHV] at hv⟩
 | succ n ih =>
  intro hn
  obtain ⟨h1,h2⟩:=ih (by omega)
  rw [ZFL (by omega)]
  obtain ⟨h3,h4⟩:=all l[n] (ZHV (l.take n)) (n:Int) h1
  refine ⟨h3,fun v hv=>?_⟩
  rcases h4 v hv with h|h
  ·exact ⟨l[n],List.getElem_mem _,h⟩
  ·exact h2 v h
theorem ZK6 (l:Cx):((ZHV l).map (·.1)).Nodup:=by
 have:=(ZFB (l:=l) l.length (Nat.le_refl _)).1
 rwa [List.take_length] at this
theorem ZRT {l:Cx} (h:∀ s∈l,Z5 s=0):∀ p∈ZHV l,okV p.1:=fun p hp=>by
 have:=(ZFB (l:=l) l.length (Nat.le_refl _)).2 p.1
 rw [List.take_length] at this
 obtain ⟨s,hs,hv⟩:=this (List.mem_map_of_mem hp)
 exact ZPd (h s hs) _ hv
theorem isKV {x:Vx}:IsV (dS RV x) (kvV x):=⟨fun _ _ _ h=>h⟩
theorem ZRq {s:List Vx} (h:Z5 s=0):0<s.length:=by have:=Zf.1 h;omega
theorem ZFM {s:List Vx} (h:Z5 s=0):s.length≤8:=by have:=Zf.1 h;omega
end
section
open Go.RowKit

theorem ZO4 {l:Cx} {p:List Vx->Bool} {k:Nat} (h:k<l.length):(l.take (k+1)).any p=((l.take k).any p || p l[k]):=by rw [Zc h,List.any_append];simp
set_option maxHeartbeats 4000000 in
theorem ZB0 (l:Cx):Fn Tryz.prog 43 [dS Cpx l] (dI (ZAy l)):=by
 (refine ZE Tryz.func43 rfl rfl ?_;simp only [Tryz.ntmps43,List.length_cons,List.length_nil,Nat.reduceAdd,Nat.reduceSub,List.replicate_succ,List.replicate_zero,List.cons_append,List.nil_append])
 ((repeat' (first|((first|apply WL.opN|apply WD.opN);exact yF;dsimp only [ZB,z0,z1])|refine WL.nil ?_|refine ZA fun Kx hK=>?_|(refine hK _ _ ?_;clear hK)|refine WC.region ?_|((first|apply ZF|apply WD.op);(focus (first|exact wN|(apply SYG.yes;(exact wY);((first|exact ZGN|exact ZBg|exact Z3|exact ZFl|fail);all_goals infer_instance))));dsimp only [ZB,z0,z1])|(apply ZC;(exact oD);all_goals (intro h;try exact xD))|refine WC.skip ?_|refine WC.ret ?_|refine WC.block ?_|refine ThenD.r ?_));all_goals (first|refine WC.id ?_|((repeat clear hK);(repeat clear Kx))))
 ·(refine ⟨trivial,_,rfl,?_⟩;refine FinD.i ?_)
  unfold ZAy;rw [if_pos (by omega)]
 ·have hs:ZAy l=if ZEQ none l≠0 then ZEQ none l else if ZCi l=true then 7 else 0:=by unfold ZAy;rw [if_neg (by omega)]
  (refine WC.loopU (X:=Nat) (fun k=>[(16,dI (k:Int)),(2,dA),(3,dA),(4,dA),(5,dA),(17,dA),(18,dA),(19,dA),(20,dA),(21,dA),(22,dA),(23,dA),(24,dA),(25,dA),(26,dA),(27,dA),(28,dA),(29,dA),(30,dA),(31,dA),(32,dA),(33,dA),(34,dA),(35,dA),(36,dA),(37,dA),(38,dA),(39,dA)]) (fun k=>[]) (fun k=>l.length-k) (fun k=>k≤l.length/\ZEQ none l=ZEQ (l.take k).getLast? (l.drop k)) 0 ?start ?frame0 ?objs0 ?round)
  case start=>exact ⟨Nat.zero_le _,rfl⟩
  case frame0=>((try dsimp only [ZK,z0,z1]);repeat (first|exact LeF.nil|refine ZD (k:=?_)))
  case objs0=>rfl
  case round =>
   rintro k ⟨h3,h4⟩
   dsimp only [ZK,z0,z1]
   ((repeat' (first|((first|apply WL.opN|apply WD.opN);exact yF;dsimp only [ZB,z0,z1])|refine WL.nil ?_|refine ZA fun Kx hK=>?_|(refine hK _ _ ?_;clear hK)|(refine Kont.skip ?_;clear hK)|refine WC.region ?_|((first|apply ZF|apply WD.op);(focus (first|exact wN|(apply SYG.yes;(exact wY);((first|(apply SY.call (ZF5 _ _) Tryz.call80;(exact aD))|(apply SY.call (ZKp _) Tryz.call39;(exact aD))|(apply ZQG ZFC (OpD.t rfl) (OpD.t rfl) (k-1);omega;omega)|exact ZDv|exact ZBx|exact ZGN|exact ZOS|exact ZEu|exact ZC5|exact ZR5|exact ZEg|exact ZV|exact Z3|exact ZDY|fail);all_goals infer_instance))));dsimp only [ZB,z0,z1])|((first|refine ZN rfl rfl rfl (fun h=>?_) (fun h=>?_)|refine ZM rfl rfl rfl (fun h=>?_) (fun h=>?_)|refine ZL rfl rfl rfl (fun h=>?_) (fun h=>?_)|refine Za rfl rfl rfl (fun h=>?_) (fun h=>?_)|refine ZZ rfl rfl rfl (fun h=>?_) (fun h=>?_)|refine ZW rfl rfl rfl (fun h=>?_) (fun h=>?_)) <;> (first|(exfalso;first|omega|contradiction)|(dsimp only [z0,z1])))|(apply ZY;(exact oD);(with_reducible rfl))|(apply ZC;(exact oD);all_goals (intro h;try exact xD))|(apply ZG;(exact oD);all_goals (intro h;try exact xD))|refine WC.skip ?_|refine WC.ret ?_|refine WC.exit ?_|refine WC.block ?_|refine ThenD.n ?_|refine ThenD.r ?_|refine InBlockD.r ?_));all_goals (first|refine WL.id ?_|((repeat clear hK);(repeat clear Kx))))
   all_goals try (rw [ZH5 l k (by omega)] at h4)
   ·(refine ⟨trivial,_,rfl,?_⟩;refine FinD.i ?_)
    rw [hs,h4,if_pos h,if_pos h]
   ·(refine ⟨trivial,_,rfl,?_⟩;refine FinD.i ?_)
    have h5:¬ Z5 l[k]≠0:=by omega
    rw [if_neg h5,ZDE _ _ (by omega) (by omega),if_pos (by simpa using h)] at h4
    rw [hs,h4];rfl
   ·(refine ⟨k+1,?_,by first|omega|(simp only;omega),rfl,?_⟩;rotate_left;((try dsimp only [ZK,z0,z1]);repeat (first|exact LeF.nil|refine ZD (k:=?_)));(try dsimp only))
    refine ⟨by omega,?_⟩
    have h5:¬ Z5 l[k]≠0:=by omega
    rw [h4,if_neg h5,ZDE _ _ (by omega) (by omega),if_neg (by simpa using h)]
   ·(refine ⟨k+1,?_,by first|omega|(simp only;omega),rfl,?_⟩;rotate_left;((try dsimp only [ZK,z0,z1]);repeat (first|exact LeF.nil|refine ZD (k:=?_)));(try dsimp only))
    refine ⟨by omega,?_⟩
    have h5:¬ Z5 l[k]≠0:=by omega
    have h0:(l.take k).getLast?=none:=by
     have:k=0:=by omega
     rw [this];rfl
    rw [h4,if_neg h5,h0]
    rfl
   ·rw [List.drop_of_length_le (by omega)] at h4
    have h4':ZEQ none l=0:=h4
    have hs':ZAy l=if ZCi l=true then 7 else 0:=by rw [hs,if_neg (by omega)]
    clear hs h4
    obtain ⟨ha,_,hg⟩:=ZGl l none h4'
    rw [ZFg ha hg] at hs'
    have hl1:l.length≤1000000:=by omega
    (repeat' (first|((first|apply WL.opN|apply WD.opN);exact yF;dsimp only [ZB,z0,z1])|refine WL.nil ?_|refine ZA fun Kx hK=>?_|(refine hK _ _ ?_;clear hK)|refine WC.region ?_|((first|apply ZF|apply WD.op);(focus (first|exact wN|(apply SYG.yes;(exact wY);((first|(apply SY.call (ZJD l hl1 (fun s hs=>ZPd (hg s hs)) (fun s hs=>Nat.le_trans (ZFM (hg s hs)) (by decide))) Tryz.call81;(exact aD))|exact ZBg|exact Z3|fail);all_goals infer_instance))));dsimp only [ZB,z0,z1])|refine WC.block ?_))
    (refine WC.loopU (X:=Nat) (fun i=>[(46,dI (i:Int)),(2,dA),(8,dA),(47,dA),(48,dA),(49,dA),(50,dA),(51,dA),(52,dA),(53,dA),(54,dA),(55,dA),(56,dA),(57,dA),(58,dA),(59,dA)]) (fun i=>[]) (fun i=>l.length-i) (fun i=>i≤l.length/\(l.take i).any (fun s=>ZDB l s)=false) 0 ?start ?frame0 ?objs0 ?round)
    case start=>exact ⟨Nat.zero_le _,rfl⟩
    case frame0=>((try dsimp only [ZK,z0,z1]);repeat (first|exact LeF.nil|refine ZD (k:=?_)))
    case objs0=>rfl
    case round =>
     rintro i ⟨h5,h6⟩
     dsimp only [ZK,z0,z1]
     ((repeat' (first|((first|apply WL.opN|apply WD.opN);exact yF;dsimp only [ZB,z0,z1])|refine WL.nil ?_|refine WD.nil ?_|refine ZA fun Kx hK=>?_|(refine hK _ _ ?_;clear hK)|(refine Kont.skip ?_;clear hK)|refine WC.region ?_|(apply WC.draw;kernel_rfl;kernel_rfl)|((first|apply ZF|apply WD.op);(focus (first|exact wN|(apply SYG.yes;(exact wY);((first|(apply ZGX elV (OpD.t rfl) OpD.i 0 rfl;exact ZRq (hg _ (List.getElem_mem _)))|(refine ZDZ (a0:=([]:List Int)) ZKE ZQV (OpD.t rfl) (OpD.t rfl) isKV (ZPd (hg _ (List.getElem_mem _)) _ (List.getElem_mem _)) (ZRT hg) (ZK6 l) (fun _ _=>ZBr))|(apply SY.call (ZKu _ _ _ ZQ6) Tryz.call82;(exact aD))|exact ZBx|exact ZC5|exact ZV|exact Z3|fail);all_goals infer_instance))));dsimp only [ZB,z0,z1])|(apply ZC;(exact oD);all_goals (intro h;try exact xD))|(apply WC.cond;(exact oD);all_goals (intro h;try exact xD))|refine WC.skip ?_|refine WC.ret ?_|refine WC.exit ?_|refine WC.block ?_|refine ThenD.n ?_|refine ThenD.r ?_|refine InBlockD.r ?_));all_goals (first|((repeat clear hK);(repeat clear Kx))))
     ·rw [ZQK hg (hg _ (List.getElem_mem (show i<l.length by omega))) (List.getElem_mem _)] at h
      (refine ⟨trivial,_,rfl,?_⟩;refine FinD.i ?_)
      rw [hs',if_pos]
      exact List.any_eq_true.2 ⟨l[i],List.getElem_mem _,h⟩
     ·rw [ZQK hg (hg _ (List.getElem_mem (show i<l.length by omega))) (List.getElem_mem _)] at h
      (refine ⟨i+1,?_,by first|omega|(simp only;omega),rfl,?_⟩;rotate_left;((try dsimp only [ZK,z0,z1]);repeat (first|exact LeF.nil|refine ZD (k:=?_)));(try dsimp only))
      exact ⟨by omega,by rw [ZO4 (by omega),h6,h];rfl⟩
     ·rw [List.take_of_length_le (by omega)] at h6
      (refine ⟨trivial,_,rfl,?_⟩;refine FinD.i ?_)
      rw [hs',if_neg (by rw [h6];decide)]
end
end Go.Proofs.YtofkoleingbbpaaGreatDoor
