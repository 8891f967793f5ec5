/- Parts of the proof, in order. -/
import Derived.Deep.Cut
import Derived.Deep.RegionLaw
import Derived.Defers
import Derived.Recover
import Derived.Laws.Pointers
import Derived.Test.YtlnhppgfhkkidaaGreatRows
import Derived.ProofKit
import Derived.OpenShut
import Derived.Deep.Strs
import Derived.Test.YtlnhppgfhkkidaaGreatKPcl5
set_option linter.unusedSimpArgs false
set_option linter.unusedVariables false
set_option maxHeartbeats 32000000
set_option maxRecDepth 100000
namespace Go.Proofs.YtlnhppgfhkkidaaGreat
open Go.Proofs.Tryz renaming prog → zq
open Go.RowKit
theorem Z3E (xs:List LN): ∀r∈xs.map VN,r.length=19:=by
 intro r hr;obtain⟨x,_,rfl⟩:=List.mem_map.1 hr;exact Z2l x
theorem Zb2 (xs:List LN): ∀r∈xs.map VN,∀v∈r,v.oneCell'=true:=by
 intro r hr;obtain⟨x,_,rfl⟩:=List.mem_map.1 hr;exact x.n.cells_one _ _
theorem Vj.of_own {w:World}{base g n c:Nat}{xs:List LN}(h:w.ownsRow base 47 19 (.slice (some ⟨g,0,none⟩) n c) n (ZB xs))(hn:xs.length=n): ∃sz,Vj w g 47 19 sz (xs.map VN):=by
 have hrd:=ZW.of_own h;rcases h.2 with ⟨h2,_⟩ | ⟨g',cap,cur,hv,_,hg,hnc,hcm,hs,ht⟩
 ·cases h2
 ·simp only[Value.slice.injEq,Option.some.injEq,Addr.mk.injEq]at hv;obtain⟨⟨rfl,_,_⟩,_,rfl⟩:=hv;refine⟨cur.size,⟨cur,hg,rfl⟩,by rw[List.length_map,hn,hs];exact Nat.mul_le_mul_right _ hnc,fun i r hi j v hj=>?_,Z3E xs,Zb2 xs⟩;have h1:(ZB xs)[i * 19+j]? = some v:=(Ug 19 _ (Z3E xs) i r hi j (by rw[<-Z3E xs r (List.mem_of_getElem? hi)];exact(List.getElem?_eq_some_iff.1 hj).1)).trans hj;rw[<-ht,List.getElem?_take]at h1;split at h1
  ·rw[Array.getElem?_toList]at h1;simp[World.cell?,hg,h1]
  ·cases h1
theorem Zah (w:World)(ty:TypeId)(g o m c:Nat)(hm:0 < m)(ht:w.there g o (m * 19)):
  (Builtin.clear_ #[24] ty #[.slice (some ⟨g,o,none⟩) m c]).run zq w = .ok (.tuple #[]) (w.setCells g o (Builtin.zeroCells (Z5 Zh none 0) m).toList):=by
 have hsz:(Builtin.zeroCells (Z5 Zh none 0) m).toList.length=m * 19:=by
  unfold Builtin.zeroCells;rw[Z17];simp
 have h1 : ∀v∈(Builtin.zeroCells (Z5 Zh none 0) m).toList,v.oneCell'=true:=by
  intro v hv;unfold Builtin.zeroCells at hv;rw[Z17]at hv;simp only[Array.toList_map,List.mem_map]at hv;obtain⟨i,_,rfl⟩:=hv;have hi:i % 19 < (Z5 Zh none 0).size:=by rw[Z17];omega
  rw[getElem!_pos (Z5 Zh none 0) (i % 19) hi];exact(Array.all_eq_true_iff_forall_mem.1 (Zm Zh none 0)) _ (Array.getElem_mem hi)
 generalize hz:Z5 Zh none 0=z at *;have hst:=run_storeCells_cells (P:=zq) g o (Builtin.zeroCells z m).toList 0 w (fun j hj=>(ht j (by omega)).1) (fun j hj=>(ht j (by omega)).2) h1;simp only[Nat.add_zero]at hst;obtain⟨k,rfl⟩ : ∃k,m=k+1:=⟨m - 1,by omega⟩;have hzn : ∀W,(zeroValue 47).run zq W = .ok (.agg z) W:=fun W=>by rw[<-hz];exact Je W
 simp[Builtin.clear_,run_underlying Tryz.underlying24,hzn,Value.cells,hst]
theorem Z01 {P:Program}{ops:Array Oper}{rest:List Oper}{op:Oper}{a:Act}{w w':World}{Q:Exit->Act->World->Prop}(hgd:op.guard=none)(s:Operand)(t:TypeId)(ho:op.op = .call { callee := .builtin .clear,args := #[s],argTypes := #[t] })(v1 v:Value)
  (hs:a.eval s=v1) (hr:(Builtin.clear_ #[t] op.type #[v1]).run P w = .ok v w') (h:wpList P ops Q rest (a.put op.dst v) w'):wpList P ops Q (op :: rest) a w:=by
 refine wpList_plain hgd fun K hK=>?_;unfold Oper.wp;simp[execOp,ho,resolve,invoke,builtin,hs,hr,Result.andThen];exact hK _ _ h
structure Z1R (xs R:List LN)(q:LN->Bool)(i j:Nat):Prop where
 len:R.length=xs.length
 kept:R.take i=(xs.take j).filter q
 todo:R.drop j=xs.drop j
 lt:i < j
 le:j<=xs.length
theorem Z1R.get {xs R:List LN}{q:LN->Bool}{i j k:Nat}(h:Z1R xs R q i j)(hk:j<=k):R[k]? = xs[k]? := by
 have h1:=congrArg (fun l=>l[k - j]?) h.todo;simp only[List.getElem?_drop]at h1;rwa [show j+(k - j)=k by omega]at h1
theorem Z7z {A:Type}{l m:List A}{j:Nat}(h : ∀k,j<=k->l[k]? = m[k]?):l.drop j=m.drop j:=by
 apply List.ext_getElem?;intro i;rw[List.getElem?_drop,List.getElem?_drop];exact h _ (Nat.le_add_right _ _)
theorem Z1R.keep {xs R:List LN}{q:LN->Bool}{i j:Nat}(h:Z1R xs R q i j){x:LN}(hx:xs[j]? = some x)(hq:q x=true):Z1R xs (R.set i x) q (i+1) (j+1):=by
 have hj:=(List.getElem?_eq_some_iff.1 hx).1;have hi:i < R.length:=by rw[h.len];have:=h.lt;omega
 refine⟨by rw[List.length_set];exact h.len,?_,Z7z fun k hk=>?_,Nat.succ_lt_succ h.lt,hj⟩
 ·rw[JD (xs:=R.set i x) (by rw[List.getElem?_set_self hi]),JD hx,List.filter_append,<-h.kept];congr 1
  ·exact List.take_set_of_le (Nat.le_refl _)
  ·simp[hq]
 ·rw[List.getElem?_set_ne (by have:=h.lt;omega)];exact h.get (by omega)
theorem Z1R.skip {xs R:List LN}{q:LN->Bool}{i j:Nat}(h:Z1R xs R q i j){x:LN}(hx:xs[j]? = some x)(hq:q x=false):Z1R xs R q i (j+1):=by
 have hj:=(List.getElem?_eq_some_iff.1 hx).1;refine⟨h.len,?_,Z7z fun k hk=>h.get (by omega),by have:=h.lt;omega,hj⟩;rw[JD hx,List.filter_append,<-h.kept];simp[hq]
theorem Z1R.start {xs:List LN}{p:LN->Bool}{i:Nat}(h:xs.findIdx? p=some i):Z1R xs xs (fun x=>!p x) i (i+1):=by
 obtain⟨h1,h2,h3⟩:=List.findIdx?_eq_some_iff_getElem.1 h;have hx:xs[i]? = some xs[i]:=List.getElem?_eq_getElem h1;refine⟨rfl,?_,rfl,Nat.lt_succ_self i,h1⟩;rw[JD hx,List.filter_append,List.filter_eq_self.2 (fun x hx=>?_)]
 ·simp[h2]
 ·obtain⟨j,hj,rfl⟩:=List.mem_take_iff_getElem.1 hx;have:=h3 j (by omega);simpa using this
theorem Z1R.done {xs R:List LN}{q:LN->Bool}{i:Nat}(h:Z1R xs R q i xs.length):R.take i=xs.filter q/\(xs.filter q).length=i:=by
 have h1:=h.kept;rw[List.take_length]at h1;refine⟨h1,?_⟩;rw[<-h1,List.length_take,h.len];have:=h.lt;omega
theorem Zbl {xs:List LN}{p:LN->Bool}(h:xs.findIdx? p=none):xs.filter (fun x=>!p x)=xs:=by
 rw[List.findIdx?_eq_none_iff]at h;exact List.filter_eq_self.2 fun x hx=>by simp[h x hx]
theorem ZaS {w w':World}{B g:Nat}{x:LN}{cur:ZV}(h:w.ownsRow B 3 1 (.slice x.sa x.n.strokes.length x.sc) x.n.strokes.length (x.n.strokes.map Yq))(hg:w.heap[g]? = some (.cells cur 47))(hs:Za (fun k=>k=g) w w'):
  w'.ownsRow B 3 1 (.slice x.sa x.n.strokes.length x.sc) x.n.strokes.length (x.n.strokes.map Yq):=
 Ze h hs fun b hb e=>Zn h hg (by intro cur;simp) (by rw[hb,show b=g from e])
theorem ZbT (xs:List LN)(pred:LN->Bool)(fn:Nat)(cv:Value)(hfn : ∀(args:ZV) (w:World),(callFunc fn args).run zq w = .ok (.enter fn args) w)
  (a:zA) (n c:Nat) (V w:World) (hm:U5 V w a c n xs)
  (hp : ∀e∈xs,∀W,Za (fun k=>Value.ownBlock (.slice a n c)=some k) w W->Calls zq fn #[.agg (Z5 e.n e.sa e.sc),cv] W fun r W'=>r = .returned (.bool (pred e))/\Below W.heap.size W W'):
  Calls zq 67 #[.slice a n c,.func (.func fn) #[] #[cv]] w fun e w'=>(∃a' i c',e = .returned (.slice a' i c')/\Z8M V.heap.size w'.heap.size w' a' i c' (xs.filter (fun x=>!pred x))/\i<=n)/\Below V.heap.size w w':=by
 have I43:=zH zI;have I19:(zq.info? 47).map (·.size)=some 19:=by kernel_rfl
 have RL:UQ w a n c xs:=Z1r (ZW.of_own hm.own) (fun y hy=>ZW.of_own (hm.str y hy));have IX:=zH (Z4a xs pred fn cv hfn a n c w RL (fun e he W hb=>hp e he W (Za.of_below hb)));have HM:=zH hm;have HR:=zH RL;have HPD:=zH hp;have HN:=zH hm.len;have hn63:n<=9223372036854775807:=by have h1:=RL.2.1;have h2:=RL.2.2.1;unfold maxLen at h2;omega
 have H63:=zH hn63;clear hm hp RL hn63;go_enter Tryz.func67,Tryz.ntmps67;go_wp2_with fail;refine IX.out.mono ?_;rintro e w1 ⟨rfl,b1⟩;have B1:=zH b1;clear b1;cases hix:xs.findIdx? pred with
 | none=>
  have hv:Z4b xs pred = -1:=by simp[Z4b,hix]
  have RF:=zH (show Z8M V.heap.size w1.heap.size w1 a n c (xs.filter (fun x=>!pred x))by rw[Zbl hix];exact(HM.out.below B1.out).kept);rw[hv];clear hv hix;go_wp2;go_ret;exact⟨⟨a,n,c,rfl,RF.out,Nat.le_refl _⟩,B1.out.mono HM.out.bel.size⟩
 | some i0=>
  have hv:Z4b xs pred=(i0:Int):=by simp[Z4b,hix]
  have D0:=zH (Z1R.start hix);rw[hv];clear hv hix;obtain⟨g,rfl,LG⟩ : ∃g,a=some ⟨g,0,none⟩/\Hid (V.heap.size<=g):=by
   rcases HM.out.own.2 with ⟨h2,h3⟩ | ⟨g,cap,cur,hv,hg,_⟩
   ·have h4:=D0.out.le;rw[HN.out,h3]at h4;omega
   ·cases hv;exact⟨g,rfl,zH hg⟩
  obtain⟨sz,SR⟩:=Vj.of_own HM.out.own HN.out;have SR1:=zH (SR.below B1.out);have SM1:Hid (Za (fun k=>k=g) w w1):=zH (Za.of_below B1.out);have HPE:=zH (show ∀e∈xs,∀W,Za (fun k=>k=g) w W->Calls zq fn #[.agg (Z5 e.n e.sa e.sc),cv] W fun r W'=>r = .returned (.bool (pred e))/\Below W.heap.size W W' from fun e he W hs=>HPD.out e he W (hs.weaken fun k hk=>by rw[show k=g from hk];rfl));have Jl:Hid ((i0:Int)+1<=9223372036854775807):=zH (by have h1:=D0.out.le;have h2:=HN.out;have h3:=H63.out;omega);clear SR;have q1:((i0:Int) == -1)=false:=by rw[beq_eq_false_iff_ne];omega
  go_upto_region 4 with fail;clear q1;have hk64:=Jl.out;go_wp2_with fail;clear hk64;go_loopw [5,6] (fun iv jv wr=>∃(i j:Nat) (R:List LN),iv = .int .i64 (i:Int)/\jv = .int .i64 (j:Int)/\j<=n/\Hid (Z1R xs R (fun x=>!pred x) i j)/\Hid (Vj wr g 47 19 sz (R.map VN))/\Hid (Za (fun k=>k=g) w wr)) (fun _ jv _=>n - (intOf jv).toNat)
  case atStart=>exact⟨i0,i0+1,xs,rfl,by go_num,by have:=D0.out.le;have:=HN.out;omega,D0,SR1,SM1⟩
  case round=>
   obtain⟨i,j,R,rfl,rfl,hj,DS,SR,SM⟩:=hrel;by_cases hlt:j < n
   ·have t0:decide ((j:Int) < (n:Int))=true:=by simp;omega
    obtain⟨x,Hx⟩ : ∃x,xs[j]? = some x:=⟨_,List.getElem?_eq_getElem (by rw[HN.out];exact hlt)⟩;have HX:=zH Hx;have hrx:(R.map VN)[j]? = some (VN x):=by rw[List.getElem?_map,DS.out.get (Nat.le_refl _),Hx];rfl
    have HRX:=zH (SR.out.rng j _ hrx);obtain⟨o,ho⟩:=zX (0+j * 19);have ho2:j * 19=o:=by have:=ho.out;omega
    rw[ho2]at HRX;have hi:=fun W=>YR (W:=W) (c:=c) (b:=g) Tryz.underlying24 I19 hlt ho.out;clear Hx hrx ho2;go_upto_region 8 with (first
     |(refine wpList_load_mid rfl 47 _ rfl g o rfl (x.n.cells x.sa x.sc) _ HRX.out Tryz.underlying47 rfl (by exact I19) ?_)
     |(refine zP wr wr.heap.size (Z5 x.n x.sa x.sc) ?_))
    clear t0 hi HRX;have bt:Below wr.heap.size wr (wr.alloc (.cells (Z5 x.n x.sa x.sc) 47)):=zB _ _;have P7:=zH (Z9 wr (.cells (Z5 x.n x.sa x.sc) 47));have SR2:=zH (SR.out.below bt);have SM2:Hid (Za (fun k=>k=g) w _):=zH (SM.out.trans (Za.of_below bt));have LG2:Hid (g < wr.heap.size):=zH (by obtain⟨cur,h1,_⟩:=SR.out.blk;exact Zj h1);obtain⟨p7,hp7⟩:=zX (wr.heap.size);rw[hp7.out]at P7 LG2 ⊢;generalize wr.alloc (.cells (Z5 x.n x.sa x.sc) 47)=wt at *;clear bt SR SM;go_wp2_with (refine zL p7 P7.out ?_);refine(HPE.out x (List.mem_of_getElem? HX.out) _ SM2.out).mono ?_;rintro e w3 ⟨rfl,b3⟩;have SR3:=zH (SR2.out.below b3);have SM3:Hid (Za (fun k=>k=g) w w3):=zH (SM2.out.trans (Za.of_below b3));have P73:=zH (Z7 b3 P7.out);have HJ64:Hid ((j:Int)+1<=9223372036854775807):=zH (by have h3:=H63.out;omega);clear b3 SR2 SM2 P7;cases hpx:pred x with
    | true=>
     have DS2:=zH (DS.out.skip HX.out (show(!pred x)=false by rw[hpx];rfl));clear hpx;go_upto_region 6 with fail;have hj64:=HJ64.out;go_wp2;go_roundw
     case rel=>exact⟨i,j+1,R,rfl,by go_num,by omega,DS2,SR3,SM3⟩
     case measure=>simp[intOf];omega
    | false=>
     have DS2:=zH (DS.out.keep HX.out (show(!pred x)=true by rw[hpx];rfl));clear hpx;have hin:i < n:=by have:=DS.out.lt;omega
     have hiR:i < (R.map VN).length:=by rw[List.length_map,DS.out.len,HN.out];exact hin
     have TH:=zH (SR3.out.there hiR);have ST:=zH (SR3.out.set hiR (r:=VN x) rfl (Z5j x));obtain⟨u,hu⟩:=zX (0+i * 19);have hu2:i * 19=u:=by have:=hu.out;omega
     rw[hu2]at TH ST;have hiu:=fun W=>YR (W:=W) (c:=c) (b:=g) Tryz.underlying24 I19 hin hu.out;have HI64:Hid ((i:Int)+1<=9223372036854775807):=zH (by have h3:=H63.out;omega);have ST2:=ST;rw[<-List.map_set]at ST2;clear hiR hu2 ST;go_upto_region 10 with (first
      |(refine zL p7 P73.out ?_)
      |(refine wpList_store_mid rfl 47 _ _ rfl g u (Z5 x.n x.sa x.sc) rfl rfl TH.out (I43.out _ _ _) (Zm x.n x.sa x.sc) ?_))
     have SM4:=zH (SM3.out.trans (QJ g u (Z5 x.n x.sa x.sc).toList w3));generalize hw4:w3.setCells g u (Z5 x.n x.sa x.sc).toList=w4 at *;have ST4:Hid (Vj w4 g 47 19 sz ((R.set i x).map VN)):=zH (by rw[<-hw4];exact ST2.out);clear hw4 ST2 hiu TH SR3;have hi64:=HI64.out;go_upto_region 6 with fail;clear hi64;have hj64:=HJ64.out;go_wp2;go_roundw
     case rel=>exact⟨i+1,j+1,R.set i x,by go_num,by go_num,by omega,DS2,ST4,SM4⟩
     case measure=>simp[intOf];omega
   ·have t0:decide ((j:Int) < (n:Int))=false:=by simp;omega
    go_upto_region 11 with fail;clear t0;have hjn:j=xs.length:=by have:=HN.out;omega
    have DN:=zH (show R.take i=xs.filter (fun x=>!pred x)/\(xs.filter (fun x=>!pred x)).length=i from by have h:=DS.out;rw[hjn]at h;exact h.done);have hin:i < n:=by have:=DS.out.lt;omega
    have HIN:=zH hin;have hcn:=HR.out.2.1;have hcM:=HR.out.2.2.1;have RC:Hid (i<=n/\n<=c/\c<=maxLen):=zH ⟨by omega,hcn,hcM⟩;clear hcn hcM;obtain⟨inf,hi1,hi2⟩ : ∃t,zq.info? 47=some t/\t.size=19:=by
     cases hq:zq.info? 47 with
     | none=>simp[hq]at I19
     | some t=>exact⟨t,rfl,by simpa [hq] using I19⟩
    have hel:zq.elem 24=47:=by simp[Program.elem,Tryz.underlying24]
    have hcut1 : ∀W,(Instr.sliceAt 24 (.slice (some ⟨g,0,none⟩) n c) (some (.int .i64 (i:Int))) none none).run zq W = .ok (.slice (some ⟨g,i * 19,none⟩) (n - i) (c - i)) W:=fun W=>by
     have h1:=RC.out;rw[run_sliceAt_slice (P:=zq) W _ _ _ _ _ (by rw[hel];exact Tryz.underlying24),run_slice_any (P:=zq) W _ _ n c (by rw[hel];exact Tryz.underlying24)];simp[Instr.sliceBounds,run_sliceBound,Result.andThen,sizeOf,typeInfo,hel,hi1,hi2,sliced,h1.1,show ¬c=i by omega,Addr.add];omega
    have hcut2 : ∀W,(Instr.sliceAt 24 (.slice (some ⟨g,0,none⟩) n c) none (some (.int .i64 (i:Int))) none).run zq W = .ok (.slice (some ⟨g,0,none⟩) i c) W:=fun W=>by
     have h1:=RC.out;rw[run_sliceAt_slice (P:=zq) W _ _ _ _ _ (by rw[hel];exact Tryz.underlying24),run_slice_any (P:=zq) W _ _ n c (by rw[hel];exact Tryz.underlying24)];simp[Instr.sliceBounds,run_sliceBound,Result.andThen,sizeOf,typeInfo,hel,hi1,hi2,sliced,show i<=c by omega,Addr.add]
    have hthere:wr.there g (i * 19) ((n - i) * 19):=by
     intro k hk;obtain⟨cur,h1,h2⟩:=SR.out.blk;have h3:=SR.out.le;rw[List.length_map,DS.out.len,HN.out]at h3;have h4:(n - i) * 19+i * 19=n * 19:=by rw[<-Nat.add_mul];congr 1;omega
     have h5:i * 19+k < cur.size:=by omega
     exact⟨by simp[World.cell?,h1,h5],by simp[World.frozen?,h1]⟩
    have hclr:=fun ty=>Zah wr ty g (i * 19) (n - i) (c - i) (by omega) hthere;have SMc:=zH (SM.out.trans (QJ g (i * 19) (Builtin.zeroCells (Z5 Zh none 0) (n - i)).toList wr));have RNG:=zH (show ∀q x,(xs.filter (fun x=>!pred x))[q]? = some x->(wr.setCells g (i * 19) (Builtin.zeroCells (Z5 Zh none 0) (n - i)).toList).rangeAt g (0+q * 19) (x.n.cells x.sa x.sc)from fun q x hx=>by
     have hq:=(List.getElem?_eq_some_iff.1 hx).1;rw[DN.out.2]at hq;rw[<-DN.out.1,List.getElem?_take,if_pos hq]at hx;have h1:=SR.out.rng q (VN x) (by rw[List.getElem?_map,hx];rfl);rw[Nat.zero_add];refine World.rangeAt_setCells_apart h1 _ _ _ (.inr (.inl ?_));have h2:(q+1) * 19<=i * 19:=Nat.mul_le_mul_right _ hq;rw[Nat.add_mul]at h2;rw[Z2l];omega)
    clear hthere hi1 hi2 hel;generalize wr.setCells g (i * 19) (Builtin.zeroCells (Z5 Zh none 0) (n - i)).toList=wc at *;go_wp2_with (refine Z01 rfl _ _ rfl _ _ rfl (hclr _) ?_);go_ret;refine⟨⟨some ⟨g,0,none⟩,i,c,rfl,⟨Nat.le_refl _,fun W2 hs2=>⟨DN.out.2,by have h1:=RC.out;omega,RC.out.2.2,.inr ⟨g,0,rfl,fun q x hx=>⟨?_,?_⟩⟩⟩⟩,Nat.le_of_lt HIN.out⟩,?_⟩
    ·have hgl:g < wc.heap.size:=by
      have h1:=RNG.out q x hx 0 _ rfl;exact World.block_lt_of_cell? wc _ h1
     have hb:=hs2.block g hgl (fun h=>by have:=LG.out;omega);intro j v hj;have h1:=RNG.out q x hx j v hj;rw[<-h1];exact World.cell?_of_block hb
    ·obtain⟨cur,h1⟩ : ∃cur,w.heap[g]? = some (.cells cur 47):=by
      rcases HM.out.own.2 with ⟨h2,h3⟩ | ⟨g',cap,cur,hv,_,hg,_⟩
      ·cases h2
      ·cases hv;exact⟨cur,hg⟩
     have h3:=ZaS (HM.out.str x (List.mem_filter.1 (List.mem_of_getElem? hx)).1) h1 SMc.out;exact ZW.of_own (Ze h3 hs2 (fun b hb hx=>by have:=h3.lt b hb;omega))
    ·exact SMc.out.below (Below.refl _ _) HM.out.bel.size (fun k hk=>by rw[show k=g from hk];exact LG.out)
theorem Vb (r s d:Int)(w:World):Calls zq 52 #[.agg #[.int .i64 r,.int .i64 s,.int .i64 d]] w fun e w'=>e = .returned (.bool (Yh.valid ⟨r,s,d⟩))/\Below w.heap.size w w':=by
 have hb:=zB w (.cells #[.int .i64 r,.int .i64 s,.int .i64 d] 23);have hv:Yh.valid ⟨r,s,d⟩=(decide (1<=r) && (decide (r<=24) && (decide (2<=s) && (decide (s<=96) && (decide (1<=d) && decide (d<=s)))))):=by
  simp only[Yh.valid,JC];grind
 rw[hv];clear hv;cases h0:decide (1<=r)
 ·go_enter Tryz.func52,Tryz.ntmps52;go_wp2;go_ret;exact⟨rfl,hb⟩
 ·cases h1:decide (r<=24)
  ·go_enter Tryz.func52,Tryz.ntmps52;go_wp2;go_ret;exact⟨rfl,hb⟩
  ·cases h2:decide (2<=s)
   ·go_enter Tryz.func52,Tryz.ntmps52;go_wp2;go_ret;exact⟨rfl,hb⟩
   ·cases h3:decide (s<=96)
    ·go_enter Tryz.func52,Tryz.ntmps52;go_wp2;go_ret;exact⟨rfl,hb⟩
    ·cases h4:decide (1<=d)
     ·go_enter Tryz.func52,Tryz.ntmps52;go_wp2;go_ret;exact⟨rfl,hb⟩
     ·cases h5:decide (d<=s)
      ·go_enter Tryz.func52,Tryz.ntmps52;go_wp2;go_ret;exact⟨rfl,hb⟩
      ·go_enter Tryz.func52,Tryz.ntmps52;go_wp2;go_ret;exact⟨rfl,hb⟩
theorem ZeQ {P T:Nat->Nat->Nat->World->Prop}{G:Prop}(h1:(∀a b c W,P a b c W->T a b c W)->G)(h2 : ∀a b c W,P a b c W->T a b c W):G:=h1 h2
theorem Z7j (p mb sp:Nat)(G:Nm->Option LN)(SF:Nat->Prop)(S:Zf)(w:World)(hh:Y8 w p mb sp G SF S)(hi:Xe S)(hlen:S.l.length<=400):
  Calls zq 14 #[.pointer (some ⟨p,0,none⟩)] w fun e w'=>(∃a un c zs,e = .returned (.slice a un c)/\U5 w w' a c un zs/\zs.map LN.n=S.l)/\Below w.heap.size w w':=by
 have LI:=zH (Z0e mb S.l.length G w hh.map (by omega) (hh.gok hi));have HH:=zH hh;have HI:=zH hi;have c4:=Z6 hh.blk 4 (.map (some mb)) rfl;have MD:=zH (VM w p mb sp S.f S.id S.c hh.blk);clear hh hi hlen;go_enter Tryz.func14,Tryz.ntmps14;go_wp2_with fail;refine MD.out.mono ?_;rintro e w1 ⟨rfl,rfl⟩;go_wp2_with fail;refine LI.out.mono ?_;rintro e w2 ⟨⟨a,un,c,zs,ks,rfl,h1,h2,h3,h4,h5,h6⟩,b2⟩;have M:=zH h1;have E:Hid (zs.map LN.n=S.l):=zH (h2.trans (HH.out.list HI.out h3 h4 h5));have B:=zH b2;clear h1 h2 h3 h4 h5 h6 b2 c4;go_wp2;go_ret;exact⟨⟨a,un,c,zs,rfl,M.out,E.out⟩,B.out⟩
def V8 (c:Int->Nat):List Int:=[(c 1:Int),(c 2:Int),(c 3:Int),(c 4:Int),(c 5:Int),(c 6:Int),(c 7:Int),(c 8:Int)]
theorem Z7l (p mb sp:Nat)(G:Nm->Option LN)(SF:Nat->Prop)(S:Zf)(w:World)(hh:Y8 w p mb sp G SF S):
  Calls zq 17 #[.pointer (some ⟨p,0,none⟩)] w fun e w'=>(∃a c,e = .returned (.slice a 8 c)/\XU w' a 8 c (V8 S.c))/\Below w.heap.size w w':=by
 have RC:XU w (some ⟨p,6,none⟩) 8 8 (V8 S.c):=⟨rfl,Nat.le_refl _,by unfold maxLen;omega,.inr ⟨p,6,rfl,fun j v hv=>by
  have hj:j < 8:=(List.getElem?_eq_some_iff.1 hv).1;refine Z6 hh.blk (6+j) v ?_;have:j=0\/j=1\/j=2\/j=3\/j=4\/j=5\/j=6\/j=7:=by omega
  rcases this with rfl | rfl | rfl | rfl | rfl | rfl | rfl | rfl <;> simpa [Xy,V8,Yq] using hv⟩⟩
 have CL:=zH (Z1d (some ⟨p,6,none⟩) 8 8 (V8 S.c) w (by decide) RC);have MD:=zH (VM w p mb sp S.f S.id S.c hh.blk);have hsl:(Instr.sliceAt 107 (.pointer (some ⟨p,5,none⟩)) (some (.int .i64 1)) none none).run zq w = .ok (.slice (some ⟨p,6,none⟩) 8 8) w:=by
  have hsz:(zq.info? 3).map (·.size)=some 1:=by kernel_rfl
  cases hq:zq.info? 3 with
  | none=>simp[hq]at hsz
  | some i=>
   simp only[hq,Option.map_some,Option.some.injEq]at hsz;simp[Instr.sliceAt,run_underlying Tryz.underlying107,Instr.sureAddr,sizeOf,typeInfo,hq,hsz,Addr.add,Instr.sliceBounds,Instr.sliceBound,asIntOf,Result.andThen]
 clear hh RC;go_enter Tryz.func17,Tryz.ntmps17;go_wp2_with fail;refine MD.out.mono ?_;rintro e w1 ⟨rfl,rfl⟩;go_wp2_with fail;refine CL.out.mono ?_;rintro e w2 ⟨a,c,rfl,h1,b2⟩;have R:=zH (show XU w2 a 8 c (V8 S.c)from ZW.of_own h1);have B:=zH b2;clear h1 b2 hsl;go_wp2;go_ret;exact⟨⟨a,c,rfl,R.out⟩,B.out⟩
def Z0S (cs:List Int)(n:Z8):Bool:=match cs[(n.house - 1).toNat]? with | some v=>decide (n.house<=(cs.length:Int)) && decide (n.num<=v) | none=>false
theorem Z9L {cs:List Int}{n:Z8}(_h1:1<=n.house)(h:decide (n.house<=(cs.length:Int))=false):Z0S cs n=false:=by
 unfold Z0S;split
 ·rw[h];rfl
 ·rfl
theorem Zbh {cs:List Int}{n:Z8}{k:Nat}{v:Int}(hk:n.house=(k:Int)+1)(h:decide (n.house<=(cs.length:Int))=true)(hv:cs[k]? = some v):Z0S cs n=decide (n.num<=v):=by
 unfold Z0S;rw[show(n.house - 1).toNat=k by omega,hv];simp only[h,Bool.true_and]
theorem Z73 (args:ZV)(w:World):(callFunc 68 args).run zq w = .ok (.enter 68 args) w:=by kernel_rfl
theorem Z5Z (cs:List Int)(ca:zA)(cn cc:Nat)(pB:Nat)(n:Z8)(sa:zA)(sc:Nat)(w:World)(hb:w.heap[pB]? = some (.cells #[.slice ca cn cc] 37))
  (hc:XU w ca cn cc cs) (hn:1<=n.house/\n.house<=1000):
  Calls zq 68 #[.agg (Z5 n sa sc),.pointer (some ⟨pB,0,none⟩)] w fun e w'=>e = .returned (.bool (Z0S cs n))/\Below w.heap.size w w':=by
 have I1:(zq.info? 3).map (·.size)=some 1:=by kernel_rfl
 have HL:Hid (cs.length=cn):=zH (by have:=hc.len;simpa using this);obtain⟨k,hk⟩ : ∃k:Nat,n.house=(k:Int)+1:=⟨(n.house - 1).toNat,by omega⟩;have HK:=zH hk;have HB:=zH hn;have B0:=zH (zB w (.cells (Z5 n sa sc) 47));have N0:=zH (Z9 w (.cells (Z5 n sa sc) 47));have PB0:=zH (Z7 B0.out hb);have RC0:=zH (hc.below B0.out);clear hb hc hn hk;go_enter Tryz.func68,Tryz.ntmps68;go_upto_region 1 with fail;obtain⟨p2,hp2⟩:=zX (w.heap.size);rw[hp2.out]at N0;rw[hp2.out];generalize w.alloc (.cells (Z5 n sa sc) 47)=wr at *;have hC0:Below wr.heap.size wr wr.drew:=(Below.refl _ _).drew;have LB:=zH (show ∀w0,Below wr.heap.size wr w0->w0.heap[pB]? = some (.cells #[.slice ca cn cc] 37)from fun w0 h=>Z7 h PB0.out);have LN2:=zH (show ∀w0,Below wr.heap.size wr w0->w0.heap[p2]? = some (.cells (Z5 n sa sc) 47)from fun w0 h=>Z7 h N0.out);have BW:=zH (show ∀w0,Below wr.heap.size wr w0->Below w.heap.size w w0 from fun w0 h=>B0.out.trans (h.mono B0.out.size));have RW:=zH (show ∀w0,Below wr.heap.size wr w0->XU w0 ca cn cc cs from fun w0 h=>RC0.out.below h);try simp only[Act.put,lq3,lq4,lq5]
 cases hq:decide (n.house<=(cn:Int))
 ·have MF:Hid (Z0S cs n=false):=zH (Z9L (by have:=HB.out;omega) (by rw[HL.out];exact hq));refine zC (fun w':World=>Below wr.heap.size wr w') hC0 ?_;refine zv p2 0 ?_;refine zQ (.int .i64 n.house) (fun w0 hC=>?_) ?_
  ·have c0:=Z6 (LN2.out w0 hC) 0 (.int .i64 n.house) rfl;clear hC;go_simp
  refine zQ (.slice ca cn cc) (fun w0 hC=>?_) ?_
  ·have c0:=Z6 (LB.out w0 hC) 0 (.slice ca cn cc) rfl;clear hC;go_simp
  refine zV (.int .i64 (cn:Int)) ?_;refine zV (.bool false) ?_;go_big_quiet_step (fail)
  iterate 9 go_big_quiet_skip
  refine zV (.bool false) ?_;go_big_quiet_step (fail);refine wpQuiet_nil ?_;intro w' hC;have B9:=zH (BW.out w' hC);clear hC;go_wp2;go_ret;exact⟨by rw[MF.out] <;> rfl,B9.out⟩
 ·have MT:Hid (∀v,cs[k]? = some v->Z0S cs n=decide (n.num<=v)):=zH (fun v hv=>Zbh HK.out (by rw[HL.out];exact hq) hv);have hkc:k < cn:=by have h1:=HK.out;have h2:=of_decide_eq_true hq;omega
  obtain⟨v,hv⟩ : ∃v,cs[k]? = some v:=⟨_,List.getElem?_eq_getElem (by rw[HL.out];exact hkc)⟩;have MV:=zH (MT.out v hv);obtain⟨cb,coff,rfl,hat⟩:=RC0.out.at (show 0 < cn by omega);obtain⟨o,ho⟩:=zX (coff+k * 1);have hix:=zH (fun W=>YR (W:=W) (c:=cc) (b:=cb) Tryz.underlying37 I1 hkc ho.out);have VC:=zH (show ∀w0,Below wr.heap.size wr w0->w0.cell? ⟨cb,o,none⟩=some (.int .i64 v)from fun w0 h=>by
   obtain⟨cb',coff',e,hat'⟩:=(RW.out w0 h).at (show 0 < cn by omega);cases e;have h3:=hat' k hkc;rw[hv]at h3;rw[<-ho.out,Nat.mul_one];exact h3)
  clear hat hkc hv MT;refine zC (fun w':World=>Below wr.heap.size wr w') hC0 ?_;refine zv p2 0 ?_;refine zQ (.int .i64 n.house) (fun w0 hC=>?_) ?_
  ·have c0:=Z6 (LN2.out w0 hC) 0 (.int .i64 n.house) rfl;clear hC;go_simp
  refine zQ (.slice (some ⟨cb,coff,none⟩) cn cc) (fun w0 hC=>?_) ?_
  ·have c0:=Z6 (LB.out w0 hC) 0 (.slice (some ⟨cb,coff,none⟩) cn cc) rfl;clear hC;go_simp
  refine zV (.int .i64 (cn:Int)) ?_;refine zV (.bool true) ?_;go_big_quiet_step (fail);refine zv p2 1 ?_;refine zQ (.int .i64 n.num) (fun w0 hC=>?_) ?_
  ·have c1:=Z6 (LN2.out w0 hC) 1 (.int .i64 n.num) rfl;clear hC;go_simp
  refine zQ (.slice (some ⟨cb,coff,none⟩) cn cc) (fun w0 hC=>?_) ?_
  ·have c0:=Z6 (LB.out w0 hC) 0 (.slice (some ⟨cb,coff,none⟩) cn cc) rfl;clear hC;go_simp
  refine zv p2 0 ?_;refine zQ (.int .i64 n.house) (fun w0 hC=>?_) ?_
  ·have c0:=Z6 (LN2.out w0 hC) 0 (.int .i64 n.house) rfl;clear hC;go_simp
  refine zQ (.int .i64 (k:Int)) (fun w0 hC=>?_) ?_
  ·have hk:=HK.out;have hb:=HB.out;clear hC;rw[hk];go_simp;rw[IntKind.wrap_i64];omega
  refine zQ (.pointer (some ⟨cb,o,none⟩)) (fun w0 hC=>?_) ?_
  ·have hi:=hix.out;clear hC;go_simp
  refine zQ (.int .i64 v) (fun w0 hC=>?_) ?_
  ·have hv:=VC.out w0 hC;clear hC;go_simp
  refine zV (.bool (decide (n.num<=v))) ?_;refine zV (.bool (decide (n.num<=v))) ?_;go_big_quiet_step (fail);refine wpQuiet_nil ?_;intro w' hC;have B9:=zH (BW.out w' hC);clear hC;go_wp2;go_ret;exact⟨by rw[MV.out] <;> rfl,B9.out⟩
def ZdN (l:List Z8)(w:World)(e:Ending)(W:World):Prop := ∃a i c zs,e = .returned (.slice a i c)/\Z8M w.heap.size W.heap.size W a i c zs/\zs.map LN.n=l
theorem Z1z (p mb sp:Nat)(G:Nm->Option LN)(SF:Nat->Prop)(S:Zf)(cs:List Int)(ca:zA)(cn cc:Nat)(w:World)(hh:Y8 w p mb sp G SF S)(hi:Xe S)(hlen:S.l.length<=400)(hc:XU w ca cn cc cs):
  Calls zq 16 #[.pointer (some ⟨p,0,none⟩),.slice ca cn cc] w fun e w'=>ZdN (S.l.filter (fun n=>!Z0S cs n)) w e w'/\Below w.heap.size w w':=by
 have B0:=zH (zB w (.cells #[.slice ca cn cc] 37));have P0:=zH (Z9 w (.cells #[.slice ca cn cc] 37));have HH:=zH (hh.below B0.out);have HI:=zH hi;have HC:=zH (hc.below B0.out);have HL:=zH hlen;clear hh hi hc hlen;go_enter Tryz.func16,Tryz.ntmps16;go_upto_region 1 with fail;obtain⟨pB,hpB⟩:=zX (w.heap.size);rw[hpB.out]at P0;rw[hpB.out];generalize w.alloc (.cells #[.slice ca cn cc] 37)=w1 at *;have c4:=Z6 HH.out.blk 4 (.map (some mb)) rfl;go_wp2_with fail;refine(VM w1 p mb sp S.f S.id S.c HH.out.blk).mono ?_;rintro e w2 ⟨rfl,hw2⟩;rw[hw2];clear hw2 w2;go_upto_region 3 with fail;go_wp2_with fail;refine(Z0e mb S.l.length G w1 HH.out.map (by have:=HL.out;omega) (HH.out.gok HI.out)).mono ?_;rintro e w2 ⟨⟨a,un,c,zs,ks,rfl,h1,h2,h3,h4,h5,h6⟩,b2⟩;have M:=zH h1;have E:Hid (zs.map LN.n=S.l):=zH (h2.trans (HH.out.list HI.out h3 h4 h5));have B2:=zH (B0.out.trans (b2.mono B0.out.size));have P2:=zH (Z7 b2 P0.out);have C2:=zH (HC.out.below b2);have PL:=zH (Zj P0.out);have CK:Hid (∀W,Za (fun k=>Value.ownBlock (.slice a un c)=some k) w2 W->XU W ca cn cc cs/\W.heap[pB]? = some (.cells #[.slice ca cn cc] 37)):=zH (fun W hs=>by
  have hlt : ∀k,Value.ownBlock (.slice a un c)=some k->w1.heap.size<=k:=fun k hk=>(M.out.own.lt k hk).1;have hb:Below w1.heap.size w1 W:=hs.below b2 M.out.bel.size hlt;exact⟨HC.out.below hb,Z7 hb P0.out⟩)
 clear h1 h2 h3 h4 h5 h6 b2 c4;go_wp2_with fail;refine(ZbT zs (fun x=>Z0S cs x.n) 68 (.pointer (some ⟨pB,0,none⟩)) Z73 a un c w1 w2 M.out (fun e he W hs=>Z5Z cs ca cn cc pB e.n e.sa e.sc W (CK.out W hs).2 (CK.out W hs).1 (by
  have hm:e.n∈S.l:=by rw[<-E.out];exact List.mem_map_of_mem he
  have h1:=Y6 (HI.out.frm _ hm);omega))).mono ?_
 rintro e w3 ⟨⟨a',i,c',rfl,hr,hin⟩,b3⟩;have R3:Hid (Z8M w.heap.size w3.heap.size w3 a' i c' _):=zH ⟨hr.1,fun W2 hs2=>hr.2 W2 (hs2.weaken (fun k hk=>hk.imp (fun h=>Nat.lt_of_lt_of_le h B0.out.size) id))⟩;have B3:=zH (B0.out.trans ((M.out.bel.trans b3).mono B0.out.size));clear hr hin b3;go_wp2;go_ret;exact⟨⟨a',i,c',_,rfl,R3.out,by rw[<-E.out,List.filter_map];rfl⟩,B3.out⟩
theorem Zbf (m:Int)(h:m * 2 % 65521=0):m % 65521=0:=by
 obtain⟨q,hq⟩:=Int.dvd_of_emod_eq_zero h;have h1:q=2 * (m - 32760 * q):=by
  have e:2 * (m - 32760 * q)=m * 2 - 65520 * q:=by rw[Int.mul_sub,<-Int.mul_assoc,Int.mul_comm 2 m];rfl
  rw[e,hq,<-Int.sub_mul];exact(Int.one_mul q).symm
 have h2:m=65521 * (m - 32760 * q):=by
  refine Int.eq_of_mul_eq_mul_right (a:=2) (by decide) ?_;rw[hq,Int.mul_assoc,Int.mul_comm _ 2,<-h1]
 rw[h2];exact Int.mul_emod_right _ _
theorem ZcC (b:Nat): ∀(m:Int),(m * ((2 ^ b:Nat):Int)) % 65521=0->m % 65521=0:=by
 induction b with
 | zero=>intro m h;simpa using h
 | succ b ih=>
  intro m h;have h2:=ih (m * 2) (by rw[Int.mul_assoc];rw[Nat.pow_succ]at h;push_cast at h ⊢;rwa [Int.mul_comm 2 _]);exact Zbf m h2
theorem Zaj (x:zU)(j b:Nat)(hj:j < x.length)(hb:b < 8)(hx:x.length<=8192):chk (ZO x j b)≠chk x:=by
 intro h;have h1:=Z4t x j b hj (x.length - (j+1));rw[show j+1+(x.length - (j+1))=x.length by omega]at h1;have h2:=Z8H (ZO x j b);have h3:=Z8H x;rw[zj,h,h3]at h2;rw[<-h2,Int.sub_self,Int.zero_sub]at h1;have h4:=Z4i (x[j]?.getD 0) b hb;have h5 : ¬(((j+1:Nat):Int) * ((2 ^ b:Nat):Int)) % 65521=0:=fun h5=>by have:=ZcC b _ h5;omega
 generalize ((x[j]?.getD 0) ^^^ UInt8.ofNat (2 ^ b)).toNat=P at *;generalize (x[j]?.getD 0).toNat=Q at *;generalize 2 ^ b=T at *;rcases h4 with h4 | h4
 ·have e:((j:Int)+1) * ((P:Int) - (Q:Int))=((j+1:Nat):Int) * (T:Int):=by
   rw[show(P:Int) - (Q:Int)=(T:Int)by omega];push_cast;rfl
  rw[e]at h1;omega
 ·have e:((j:Int)+1) * ((P:Int) - (Q:Int)) = -(((j+1:Nat):Int) * (T:Int)):=by
   rw[show(P:Int) - (Q:Int) = -(T:Int)by omega,Int.mul_neg];push_cast;rfl
  rw[e]at h1;omega
theorem Z7a (x S F:zU)(i b:Nat)(hi:i < x.length+2)(hb:b < 8)(hx:x.length<=8192):Zt (ZO (Zw x) i b ++ S) (ZK x ++ F)=[]:=by
 apply QC;rintro⟨h1,h2,h3,h4,h5⟩;rw[List.take_left' (YN x)]at h5;have hlen:(((ZO (Zw x) i b ++ S).drop 2).take (Qs (ZO (Zw x) i b ++ S) 0)).length=Qs (ZO (Zw x) i b ++ S) 0:=by
  rw[List.length_take,List.length_drop];omega
 obtain⟨h6,h7⟩:=ZbI (by omega) (by rw[hlen];omega) h5;rw[hlen]at h6;by_cases h:i < 2
 ·have h0:=Z0C x S (by omega);rw[<-Z0k _ _ _ _ (by rw[YS];exact hi)]at h6;have e0:=Vz (Zw x ++ S) i b 0;have e1:=Vz (Zw x ++ S) i b 1;have hl:i < (Zw x ++ S).length:=by rw[List.length_append,YS];omega
  obtain⟨b1,b2⟩:=Z3t b hb;have h8:=Z4i ((Zw x ++ S)[i]?.getD 0) b hb;simp only[Qs,Nat.zero_add]at h0 h6;have hc:i=0\/i=1:=by omega
  rcases hc with rfl | rfl
  ·rw[if_pos ⟨rfl,hl⟩]at e0;rw[if_neg (by omega)]at e1;rw[e0,e1]at h6;omega
  ·rw[if_pos ⟨rfl,hl⟩]at e1;rw[if_neg (by omega)]at e0;rw[e0,e1]at h6;omega
 ·have e:ZO (Zw x) i b=two x.length ++ ZO x (i - 2) b:=by
   rw[Zw,Qm _ _ _ _ (by rw[Z8Q];omega),Z8Q]
  have e2:((ZO (Zw x) i b ++ S).drop 2).take (Qs (ZO (Zw x) i b ++ S) 0)=ZO x (i - 2) b:=by
   rw[<-h6,e,List.append_assoc,show(two x.length ++ (ZO x (i - 2) b ++ S)).drop 2=ZO x (i - 2) b ++ S from rfl,List.take_left' (zj ..)]
  rw[e2]at h7;exact Zaj x (i - 2) b (by omega) hb hx h7.symm
theorem Z7b (x S F:zU)(i b:Nat)(hi:i < 4)(hb:b < 8)(hx:x.length<=8192):Zt (Zw x ++ S) (ZO (ZK x) i b ++ F)=[]:=by
 apply QC;rintro⟨h1,h2,h3,h4,h5⟩;rw[Z0C x S (by omega),Z4x,List.take_left' (by rw[zj,YN])]at h5;have e:=Vz (ZK x) i b i;rw[if_pos ⟨rfl,by rw[YN];exact hi⟩,h5]at e;have h8:=Z4i ((ZK x)[i]?.getD 0) b hb;rw[<-e]at h8;obtain⟨b1,b2⟩:=Z3t b hb;omega
theorem Z2m (l:List (zU))(hl : ∀x∈l,x.length<=8192)(k i b:Nat)(hb:b < 8)(hk:k < l.length)(h1:(Xg (l.take k)).length<=i)(h2:i < (Xg (l.take (k+1))).length):
  Zt (ZO (Xg l) i b) (Jk l)=l.take k:=by
 have e:l=l.take k ++ (l[k] :: l.drop (k+1)):=by rw[List.getElem_cons_drop,List.take_append_drop]
 have hx:l[k].length<=8192:=hl _ (List.getElem_mem hk);rw[List.take_add_one,List.getElem?_eq_getElem hk,QZ,List.length_append,show Xg (some l[k]).toList=Zw l[k]from by simp[Xg],YS]at h2;have e1:ZO (Xg l) i b=Xg (l.take k) ++ (ZO (Zw l[k]) (i - (Xg (l.take k)).length) b ++ Xg (l.drop (k+1))):=by
  conv=>lhs;rw[e]
  rw[QZ,Qm _ _ _ _ h1,JJ,Z0k _ _ _ _ (by rw[YS];omega)]
 have e2:Jk l=Jk (l.take k) ++ (ZK l[k] ++ Jk (l.drop (k+1))):=by
  conv=>lhs;rw[e]
  rw[Uj,VB]
 rw[e1,e2,Z47 _ (fun x hx=>by have:=hl x (List.mem_of_mem_take hx);omega),Z7a _ _ _ _ _ (by omega) hb hx,List.append_nil]
theorem Z3b (l:List (zU))(hl : ∀x∈l,x.length<=8192)(i b:Nat)(hb:b < 8)(hi:i < 4 * l.length):
  Zt (Xg l) (ZO (Jk l) i b)=l.take (i / 4):=by
 have hk:i / 4 < l.length:=by omega
 generalize hK:i / 4=k at *;have e:l=l.take k ++ (l[k] :: l.drop (k+1)):=by rw[List.getElem_cons_drop,List.take_append_drop]
 have hx:l[k].length<=8192:=hl _ (List.getElem_mem hk);have hlen:(Jk (l.take k)).length=4 * k:=by rw[Z7F,List.length_take];omega
 have e1:Xg l=Xg (l.take k) ++ (Zw l[k] ++ Xg (l.drop (k+1))):=by
  conv=>lhs;rw[e]
  rw[QZ,JJ]
 have e2:ZO (Jk l) i b=Jk (l.take k) ++ (ZO (ZK l[k]) (i - 4 * k) b ++ Jk (l.drop (k+1))):=by
  conv=>lhs;rw[e]
  rw[Uj,Qm _ _ _ _ (by omega),hlen,VB,Z0k _ _ _ _ (by rw[YN];omega)]
 rw[e1,e2,Z47 _ (fun x hx=>by have:=hl x (List.mem_of_mem_take hx);omega),Z7b _ _ _ _ _ (by omega) hb hx,List.append_nil]
theorem Z19: ∀(r:Nat) (X Y:zU) (a b:Nat),Y.length<=r -> ∃k,Zt (X.take a) (Y.take b)=(Zt X Y).take k
 | 0,X,Y,a,b,hr=>⟨0,by rw[List.take_zero];exact QC (fun h=>by have:=h.2.1;rw[List.length_take]at this;omega)⟩
 | r+1,X,Y,a,b,hr=>by
  by_cases h:2<=(X.take a).length/\4<=(Y.take b).length/\Qs (X.take a) 0<=8192/\Qs (X.take a) 0+2<=(X.take a).length/\(Y.take b).take 4=ZK (((X.take a).drop 2).take (Qs (X.take a) 0))
  ·have e:=zh h.1 h.2.1 h.2.2.1 h.2.2.2.1 h.2.2.2.2
   obtain⟨h1,h2,h3,h4,h5⟩:=h
   rw[List.length_take]at h1 h2 h4
   have ea:Qs (X.take a) 0=Qs X 0:=by
    simp only[Qs,List.getElem?_take];rw[if_pos (by omega),if_pos (by omega)]
   rw[ea]at e h3 h4 h5;generalize hn:Qs X 0=n at *;have eb:((X.take a).drop 2).take n=(X.drop 2).take n:=by
    rw[List.drop_take,List.take_take,Nat.min_eq_left (by omega)]
   have ey:(Y.take b).take 4=Y.take 4:=by rw[List.take_take,Nat.min_eq_left (by omega)]
   rw[eb]at e h5;rw[ey]at h5;have e2:=zh (st:=X) (fo:=Y) (by omega) (by omega) (by rw[hn];exact h3) (by rw[hn];omega) (by rw[hn];exact h5);rw[hn]at e2;obtain⟨k,hk⟩:=Z19 r (X.drop (n+2)) (Y.drop 4) (a - (n+2)) (b - 4) (by rw[List.length_drop];omega);refine⟨k+1,?_⟩;rw[e,e2,List.take_succ_cons,List.drop_take,List.drop_take,hk]
  ·exact⟨0,by rw[List.take_zero];exact QC h⟩
theorem Z6x: ∀(l:List (zU)) (i:Nat),i < (Xg l).length -> ∃k,k < l.length/\(Xg (l.take k)).length<=i/\i < (Xg (l.take (k+1))).length
 | [],i,h=>by simp[Xg]at h
 | x :: l,i,h=>by
  by_cases hx:i < (Zw x).length
  ·exact⟨0,by simp,by simp[Xg],by simpa [Xg] using hx⟩
  ·rw[JJ,List.length_append]at h
   obtain⟨k,h1,h2,h3⟩:=Z6x l (i - (Zw x).length) (by omega)
   refine⟨k+1,by simpa using h1,?_,?_⟩
   ·rw[List.take_succ_cons,JJ,List.length_append];omega
   ·rw[List.take_succ_cons,JJ,List.length_append];omega
theorem Z5v (l:zU)(i b m:Nat)(h:i < m):ZO (l.take m) i b=(ZO l i b).take m:=by
 unfold ZO;rw[List.getElem?_take,if_pos h,List.take_set]
theorem Z8D (l:List (zU))(hl : ∀x∈l,x.length<=8192)(stock foil:Nat)(flip:Int)(h1:stock<=(Xg l).length)(h2:foil<=(Jk l).length)(h3:flip < 8 * ((stock:Int)+foil)):
  ∃k,k<=l.length/\Zt (Jj (Xg l) 0 stock flip) (J5 (Jk l) 0 stock foil flip)=l.take k:=by
 have hfix : ∀k,∃j,j<=l.length/\l.take k=l.take j:=fun k=>by
  by_cases h:k<=l.length
  ·exact⟨k,h,rfl⟩
  ·exact⟨l.length,Nat.le_refl _,by rw[List.take_length,List.take_of_length_le (by omega)]⟩
 unfold Jj J5;simp only[Nat.zero_add];by_cases hf:0<=flip
 ·obtain⟨z,rfl⟩:=Int.eq_ofNat_of_zero_le hf;simp only[Int.toNat_natCast];have hb:z % 8 < 8:=Nat.mod_lt _ (by decide);by_cases hs:z / 8 < stock
  ·rw[if_pos ⟨hf,hs⟩,if_neg (fun h=>h.2 hs),Z5v _ _ _ _ hs];obtain⟨k,hk⟩:=Z19 _ (ZO (Xg l) (z / 8) (z % 8)) (Jk l) stock foil (Nat.le_refl _);obtain⟨q,q1,q2,q3⟩:=Z6x l (z / 8) (by omega);rw[Z2m l hl q _ _ hb q1 q2 q3,List.take_take]at hk;obtain⟨j,hj,e⟩:=hfix (min k q);exact⟨j,hj,by rw[hk,e]⟩
  ·have hi:z / 8 - stock < foil:=by omega
   rw[if_neg (fun h=>hs h.2),if_pos ⟨hf,hs⟩,Z5v _ _ _ _ hi];obtain⟨k,hk⟩:=Z19 _ (Xg l) (ZO (Jk l) (z / 8 - stock) (z % 8)) stock foil (Nat.le_refl _);rw[Z7F]at h2;rw[Z3b l hl _ _ hb (by omega),List.take_take]at hk;obtain⟨j,hj,e⟩:=hfix (min k ((z / 8 - stock) / 4));exact⟨j,hj,by rw[hk,e]⟩
 ·rw[if_neg (fun h=>hf h.1),if_neg (fun h=>hf h.1)];obtain⟨k,hk,e⟩:=Z7c l hl stock foil;exact⟨k,hk,e⟩
theorem Z7C (l1 l2:List (zU))(hl : ∀x∈l1 ++ l2,x.length<=8192)(stock foil:Nat)(flip:Int)(hc:Z00 (Xg (l1 ++ l2)) (Jk (l1 ++ l2)) (Xg l1).length (Jk l1).length stock foil flip):
  ∃k,k<=l2.length/\Zt (Jj (Xg (l1 ++ l2)) (Xg l1).length stock flip) (J5 (Jk (l1 ++ l2)) (Jk l1).length stock foil flip)=l1 ++ l2.take k:=by
 obtain⟨_,c2,_,c4,_,c6⟩:=hc;rw[QZ,Uj]at *;rw[List.length_append]at c2 c4;obtain⟨k,hk,e⟩:=Z8D l2 (fun x hx=>hl x (List.mem_append_right _ hx)) stock foil flip (by omega) (by omega) c6;refine⟨k,hk,?_⟩;have eS:Jj (Xg l1 ++ Xg l2) (Xg l1).length stock flip=Xg l1 ++ Jj (Xg l2) 0 stock flip:=by
  unfold Jj;rw[List.take_length_add_append,Nat.zero_add,Nat.zero_add];split
  ·rw[Qm _ _ _ _ (Nat.le_add_right _ _),Nat.add_sub_cancel_left]
  ·rfl
 have eF:J5 (Jk l1 ++ Jk l2) (Jk l1).length stock foil flip=Jk l1 ++ J5 (Jk l2) 0 stock foil flip:=by
  unfold J5;rw[List.take_length_add_append,Nat.zero_add,Nat.zero_add];split
  ·rename_i h;rw[Qm _ _ _ _ (by omega)];congr 2;omega
  ·rfl
 rw[eS,eF,Z47 l1 (fun x hx=>hl x (List.mem_append_left _ hx)),e]
def Zdb:PanicEntry := { v := .iface 233 (.agg #[]),recovered:=true }
theorem Z8I (p:Nat)(x:Bool)(w:World)(hh:w.heap[p]? = some (.cells #[.bool x] 4)):
  CallsD zq 179 #[.pointer (some ⟨p,0,none⟩)] (.panicking [Z2F]) w fun e u' w'=>
   e = .returned (.tuple #[])/\u' = .panicking [Zdb]/\w'.heap[p]? = some (.cells #[.bool false] 4)/\Za (fun k=>k=p) w w':=by
 have hc:w.cell? ⟨p,0,none⟩=some (.bool x):=Z6 hh 0 _ rfl;have hz:=Zq hh 0;have hc' : ∀o,(w.alloc o).cell? ⟨p,0,none⟩=some (.bool x):=fun o=>Z6 (Zb w o _ _ hh) 0 _ rfl;have hz' : ∀o,(w.alloc o).frozen? ⟨p,0,none⟩=false:=fun o=>Zq (Zb w o _ _ hh) 0;have hta : ∀w,(Instr.typeAssert (.iface 233 (.agg #[])) 20 233 true).run zq w = .ok (.tuple #[.agg #[],.bool true]) w:=fun _=>rfl;refine callsD_of_wpS Tryz.func179 rfl fun c₀ cs hu=>?_;apply wpS_seq;apply wpS_region;simp[wpOpsS,go_sem,recoverD,hu,Tryz.ntmps179,Exit.thenS,Z2F];refine wpS_of_wp ?_;change Code.wp _ _ _ { tmps := #[.pointer (some ⟨p,0,none⟩),.iface 233 (.agg #[]),undef,undef,.iface 233 (.agg #[]),undef,undef,undef,undef,undef,undef,undef,undef,undef,undef],defers:=[] } w;go_wp2_with fail;refine⟨rfl,?_⟩;simp[results,Tryz.results179];exact⟨rfl,heap_setCell_same _ p 0 _ _ (.bool false) (Zb w _ _ _ hh),(Za.of_below (zB _ _)).trans (Vm _ p 0 (.bool false))⟩
theorem Z4w (p:Nat)(w:World):
  CallsD zq 179 #[.pointer (some ⟨p,0,none⟩)] .returning w fun e u' w'=>e = .returned (.tuple #[])/\u' = .returning/\w'=w:=by
 refine callsD_of_wpS Tryz.func179 rfl fun c₀ cs hu=>?_;apply wpS_seq;apply wpS_region;simp[wpOpsS,go_sem,recoverD,hu,Tryz.ntmps179,Exit.thenS];refine wpS_of_wp ?_;go_wp2_with fail;cases c₀;simp_all[bodyPostS,results,Tryz.results179]
section
attribute [local go_sem] ZS
theorem Zcz (rp np:Nat)(l:zU)(a:zA)(n c:Nat)(w:World)(h:RdP w rp l a n c)(hl:l.length<=1000000)(hnp:w.heap[np]? = some (.cells (Z5 Zh none 0) 47))(hne : ¬np=rp):
  Calls zq 130 #[.pointer (some ⟨rp,0,none⟩),.pointer (some ⟨np,0,none⟩)] w fun e w'=>(∃(m:Z8) (t:zU) (sa:zA) (sc:Nat),Q9 Xo l=some (m,t)/\e = .returned (.tuple #[])/\w'.heap[np]? = some (.cells (Z5 m sa sc) 47)/\w'.ownsRow w.heap.size 3 1 (.slice sa m.strokes.length sc) m.strokes.length (m.strokes.map Yq)/\Za (fun k=>k=rp\/k=np) w w') \/
   (Q9 Xo l=none/\e = .panicked [Z2F]/\Za (fun k=>k=rp\/k=np) w w'):=by
 go_enter Tryz.func130,Tryz.ntmps130;go_wp2_with fail;refine(Zb9 rp l a n c w h hl).mono ?_;rintro e w1 (⟨m,t,sa,sc,a2,n2,c2,h1,rfl,h2,h3,h4⟩ | ⟨h1,rfl,h4⟩)
 ·have g:=zH ((h4.block np (Array.getElem?_eq_some_iff.1 hnp).1 hne).trans hnp);have H1:=zH h1;clear h1;have one1:=Zm m sa sc;go_wp2_with (refine zN np (Z5 m sa sc) g.out ?_);have hSR:Za (fun k=>k=np) w1 (w1.setRow np (Z5 m sa sc)):=⟨rfl,rfl,rfl,by simp,fun k hk hs=>setRow_other w1 np k _ hs⟩;have hnl:=(Array.getElem?_eq_some_iff.1 hnp).1;have hO:=JP h2 hSR (fun b cur fr hb=>.inr (by rw[show b=np from hb];exact hnl));have hg:=setRow_heap w1 np _ (Z5 m sa sc) _ _ g.out;have hS:=(YT h4 (S':=fun k=>k=rp\/k=np) fun k e=>.inl e).trans (YT hSR fun k e=>.inr e);have HO:=hO;go_end0
  first
   | exact .inl ⟨m,t,sa,sc,H1.out,rfl,hg,HO,hS⟩
   | exact .inl ⟨m,⟨t,H1.out⟩,rfl,sa,sc,hg,HO,hS⟩
 ·have H1:=zH h1;clear h1;go_wp2_with fail;exact⟨rfl,.inr ⟨H1.out,rfl,YT h4 fun k e=>.inl e⟩⟩
theorem Z6Q (np:Nat)(l:zU)(a:zA)(n c:Nat)(w:World)(h:Yg w a n c l)(hl:l.length<=1000000)(hnp:w.heap[np]? = some (.cells (Z5 Zh none 0) 47)):
  Calls zq 129 #[.slice a n c,.func (.func 130) #[] #[.pointer (some ⟨np,0,none⟩)]] w fun e w'=>(∃(m:Z8) (t:zU) (sa:zA) (sc:Nat),Q9 Xo l=some (m,t)/\e = .returned (.bool true)/\w'.heap[np]? = some (.cells (Z5 m sa sc) 47)/\w'.ownsRow w.heap.size 3 1 (.slice sa m.strokes.length sc) m.strokes.length (m.strokes.map Yq)/\Za (fun k=>k=np) w w') \/
   (Q9 Xo l=none/\e = .returned (.bool false)/\Za (fun k=>k=np) w w'):=by
 have hmf : ∀(fn:Fn) (first cap:ZV) (w:World),(Instr.makeFunc fn first cap).run zq w = .ok (.func fn first cap) w:=fun _ _ _ _=>rfl;have hnl:=(Array.getElem?_eq_some_iff.1 hnp).1;go_enter_defers Tryz.func129,Tryz.ntmps129;go_wp2_with fail;obtain⟨p,hp⟩:=zX (w.heap.size);obtain⟨rp,hrp⟩:=zX (w.heap.size+1);have b2:Below w.heap.size w ((w.alloc (.cells #[.bool false] 4)).alloc (.cells #[.slice a n c] 236)):=(zB _ _).alloc (by simp) _;have g1:((w.alloc (.cells #[.bool false] 4)).alloc (.cells #[.slice a n c] 236)).heap[p]? = some (.cells #[.bool false] 4):=by rw[<-hp.out];exact Zb _ _ _ _ (Z9 _ _)
 have g2:((w.alloc (.cells #[.bool false] 4)).alloc (.cells #[.slice a n c] 236)).heap[rp]? = some (.cells #[.slice a n c] 236):=by rw[<-hrp.out];exact Zv _ _ _ (by simp)
 rw[hrp.out,hp.out];generalize (w.alloc (.cells #[.bool false] 4)).alloc (.cells #[.slice a n c] 236)=w2 at *;have hne : ¬np=rp /\ ¬p=rp /\ ¬p=np:=by have h1:=hp.out;have h2:=hrp.out;omega
 have hnp2:=(b2.block np hnl).trans hnp;have hpl:=(Array.getElem?_eq_some_iff.1 g1).1;refine(Zcz rp np l a n c w2 ⟨g2,Yg.below h b2⟩ hl hnp2 hne.1).mono ?_;rintro e w3 (⟨m,t,sa,sc,h1,rfl,h2,h3,h4⟩ | ⟨h1,rfl,h4⟩)
 ·have k1:=(h4.block p hpl (by have h1:=hne.2.1;have h2:=hne.2.2;omega)).trans g1;have c1:w3.cell? ⟨p,0,none⟩=some (.bool false):=Z6 k1 0 _ rfl;have f1:=Zq k1 0;have hS:=Vm w3 p 0 (.bool true);have k2:=heap_setCell_same w3 p 0 _ _ (.bool true) k1;have c2:(w3.setCell ⟨p,0,none⟩ (.bool true)).cell? ⟨p,0,none⟩=some (.bool true):=Z6 k2 0 _ rfl;have hn3:=(hS.block np (Array.getElem?_eq_some_iff.1 h2).1 (fun e=>hne.2.2 e.symm)).trans h2;have H1:=zH h1;clear h1;have hFin:Za (fun k=>k=np) w (w3.setCell ⟨p,0,none⟩ (.bool true)):=by
   have hh:=((YT (Za.of_below (S:=fun _=>False) b2) (S':=fun k=>k=rp\/k=np\/k=p) (fun k e=>e.elim)).trans (YT h4 (S':=fun k=>k=rp\/k=np\/k=p) (fun k e=>e.elim .inl (fun e=>.inr (.inl e))))).trans (YT hS (S':=fun k=>k=rp\/k=np\/k=p) (fun k e=>.inr (.inr e)));exact⟨hh.os,hh.tape,hh.output,hh.size,fun k hk hs=>hh.block k hk (by have h1:=hp.out;have h2:=hrp.out;have h3 : ¬k=np:=hs;omega)⟩
  have HF:=zH hFin;clear hFin;have HR:=zH (Zu (JP h3 hS (fun b cur fr hb=>.inr (by rw[show b=p from hb];exact hpl))) b2.size);clear h3;go_wp2_with fail;refine leaves_cons (f:=179) (args := #[.pointer (some ⟨p,0,none⟩)]) (by simp) (by simp[go_sem]) ?_;refine(Z4w p _).mono ?_;rintro e u' w'' ⟨rfl,rfl,rfl⟩;simp[Leaves,settle,results,Tryz.results129,go_sem];exact⟨.bool true,by rw[c2],.inl ⟨m,⟨t,H1.out⟩,rfl,sa,sc,hn3,HR.out,HF.out⟩⟩
 ·have k1:=(h4.block p hpl (by have h1:=hne.2.1;have h2:=hne.2.2;omega)).trans g1;have H1:=zH h1;clear h1;go_wp2_with fail;refine leaves_cons (f:=179) (args := #[.pointer (some ⟨p,0,none⟩)]) (by simp) (by simp[go_sem]) ?_;refine(Z8I p false _ k1).mono ?_;rintro e u' w'' ⟨rfl,rfl,g3,h5⟩;have c3:w''.cell? ⟨p,0,none⟩=some (.bool false):=Z6 g3 0 _ rfl;simp[Leaves,settle,results,Tryz.results129,go_sem,Zdb];refine⟨.bool false,by rw[c3],.inr ⟨H1.out,rfl,?_⟩⟩;have hh:=((YT (Za.of_below (S:=fun _=>False) b2) (S':=fun k=>k=rp\/k=np\/k=p) (fun k e=>e.elim)).trans (YT h4 (S':=fun k=>k=rp\/k=np\/k=p) (fun k e=>e.elim .inl (fun e=>.inr (.inl e))))).trans (YT h5 (S':=fun k=>k=rp\/k=np\/k=p) (fun k e=>.inr (.inr e)));exact⟨hh.os,hh.tape,hh.output,hh.size,fun k hk hs=>hh.block k hk (by have h1:=hp.out;have h2:=hrp.out;have h3 : ¬k=np:=hs;omega)⟩
end
theorem Z9E {l t:zU}{m:Z8}(h:Q9 Xo l=some (m,t)):m.strokes.length<=l.length:=by
 cases e1:XT Xo 15 l with
 | none=>rw[Z8W e1]at h;cases h
 | some p=>
  obtain⟨x,t0⟩:=p;cases e2:VP Xo t0 with
  | none=>rw[Z8V e1 e2]at h;cases h
  | some p=>
   obtain⟨k,t1⟩:=p;rw[Z5X e1 e2]at h;have hk:k<=t1.length:=by
    unfold VP at e2;split at e2
    ·split at e2
     ·simp only[Option.some.injEq,Prod.mk.injEq]at e2;obtain⟨rfl,rfl⟩:=e2;omega
     ·cases e2
    ·cases e2
   have h2:=Z78 e2;have h3:=Z2k _ e1;split at h
   ·rename_i y t2 e3;split at h
    ·simp only[Option.some.injEq,Prod.mk.injEq]at h;have:=VK _ _ _ _ e3;rw[<-h.1,show(mkN x y _).strokes=y from rfl];omega
    ·cases h
   ·cases h
def Qu (f:Yh)(l:zU):Option Z8:=match Q9 Xo l with
 | some (m,_)=>if ZP f m=0/\Y7 m=l then some m else none
 | none=>none
structure Z8L (w W:World)(p0 p1 p2:Nat)(f:Yh)(C:ZV):Prop where
 e0:W.heap[p0]? = some (.cells #[.int .i64 f.rings,.int .i64 f.sectors,.int .i64 f.wide] 23)
 e1:W.heap[p1]? = some (.cells (Z5 Zh none 0) 47)
 e2:W.heap[p2]? = some (.cells C 47)
 b:Below p0 w W
 lt:p0 < p1/\p1 < p2
theorem Z8L.below {w W W':World}{p0 p1 p2:Nat}{f:Yh}{C:ZV}(h:Z8L w W p0 p1 p2 f C)(hb:Below W.heap.size W W'):Z8L w W' p0 p1 p2 f C:=by
 have g : ∀{k:Nat} {o:Obj},W.heap[k]? = some o->W'.heap[k]? = some o:=fun {k o} hk=>(hb.block k (Array.getElem?_eq_some_iff.1 hk).1).trans hk;have h0:=(Array.getElem?_eq_some_iff.1 h.e0).1;exact⟨g h.e0,g h.e1,g h.e2,h.b.trans (hb.mono (by omega)),h.lt⟩
theorem Z8L.done {w W:World}{p0 p1 p2:Nat}{f:Yh}{C:ZV}(h:Z8L w W p0 p1 p2 f C)(C':ZV):(W.setRow p1 C').heap[p1]? = some (.cells C' 47)/\Below p0 w (W.setRow p1 C'):=by
 have hl:=h.lt;exact⟨setRow_heap W p1 _ C' _ _ h.e1,h.b.trans ⟨rfl,rfl,rfl,by simp,fun k hk=>setRow_other W p1 k C' (by omega)⟩⟩
section
attribute [local go_sem] ZS
end
section
attribute [local go_sem] ZS
theorem Z2X (f:Yh)(l:zU)(a:zA)(n c:Nat)(w:World)(h:Yg w a n c l)(hl:l.length<=1000000):
  Calls zq 75 #[f.val,.slice a n c] w fun e w'=>(∃(m:Z8) (sa:zA) (sc:Nat),Qu f l=some m/\e = .returned (.tuple #[.agg (Z5 m sa sc),.int .i64 0])/\w'.ownsRow w.heap.size 3 1 (.slice sa m.strokes.length sc) m.strokes.length (m.strokes.map Yq)/\Below w.heap.size w w') \/
   (Qu f l=none/\e = .returned (.tuple #[.agg (Z5 Zh none 0),.int .i64 90])/\Below w.heap.size w w'):=by
 have I43:=zH zI;have hmf : ∀(fn:Fn) (first cap:ZV) (w:World),(Instr.makeFunc fn first cap).run zq w = .ok (.func fn first cap) w:=fun _ _ _ _=>rfl;unfold Yh.val;go_enter Tryz.func75,Tryz.ntmps75;go_wp2_with fail;rw[<-YI];have oneZ:=Zm Zh none 0;have g0:=Zb _ (.cells (Z5 Zh none 0) 47) _ _ (Zb _ (.cells (Z5 Zh none 0) 47) _ _ (Z9 w (zF f 23)));have g1:=Zb _ (.cells (Z5 Zh none 0) 47) _ _ (Zv (w.alloc (zF f 23)) (.cells (Z5 Zh none 0) 47) (w.heap.size+1) (by simp));have g2:=Zv ((w.alloc (zF f 23)).alloc (.cells (Z5 Zh none 0) 47)) (.cells (Z5 Zh none 0) 47) (w.heap.size+1+1) (by simp);have bb:Below w.heap.size w (((w.alloc (zF f 23)).alloc (.cells (Z5 Zh none 0) 47)).alloc (.cells (Z5 Zh none 0) 47)):=((zB _ _).alloc (by simp) _).alloc (by simp;omega) _;have L0:Hid (Z8L w (((w.alloc (zF f 23)).alloc (.cells (Z5 Zh none 0) 47)).alloc (.cells (Z5 Zh none 0) 47)) w.heap.size (w.heap.size+1) (w.heap.size+1+1) f (Z5 Zh none 0)):=zH ⟨g0,g1,g2,bb,by omega⟩;clear g0 g1 g2 bb;generalize ((w.alloc (zF f 23)).alloc (.cells (Z5 Zh none 0) 47)).alloc (.cells (Z5 Zh none 0) 47)=W3 at *;generalize hp0:w.heap.size=p0 at *;generalize hp1:p0+1=p1 at *;generalize hp2:p1+1=p2 at *;have RB:=zH (show ∀W',Below p0 w W'->Yg W' a n c l from fun W' hb=>h.below (by rw[hp0];exact hb));have HP0:=zH hp0;clear hp0 hp1 hp2;refine(Z6Q p2 l a n c W3 (RB.out _ L0.out.b) hl L0.out.e2).mono ?_;rintro e w4 (⟨m,t,sa,sc,h1,rfl,h2,h3,h4⟩ | ⟨h1,rfl,h4⟩)
 ·have oneM:=Zm m sa sc;have hz2:=(Array.getElem?_eq_some_iff.1 L0.out.e2).1;have P1:Hid (p1 < W3.heap.size):=zH (Nat.lt_trans L0.out.lt.2 hz2);have L1:Hid (Z8L w w4 p0 p1 p2 f (Z5 m sa sc)):=zH ⟨(h4.block p0 (by have:=L0.out.lt;omega) (by have:=L0.out.lt;omega)).trans L0.out.e0,(h4.block p1 (by have:=L0.out.lt;omega) (by have:=L0.out.lt;omega)).trans L0.out.e1,h2,h4.below L0.out.b (by have:=L0.out.lt;omega) (fun k e=>by have:=L0.out.lt;rw[show k=p2 from e];omega),L0.out.lt⟩;have HO:=zH h3;clear h3;have HM:=zH h1;clear h1 h2 h4 hz2;have HLN:=zH (Nat.le_trans (Z9E HM.out) hl);have c0:=Z6 L1.out.e0 0 _ rfl;have c1:=Z6 L1.out.e0 1 _ rfl;have c2:=Z6 L1.out.e0 2 _ rfl;go_wp2_with   (first
    |(refine zL p2 L1.out.e2 ?_)
    |(refine zG p2 L1.out.e2 ?_))
  refine(Ur f m sa sc _ (ZW.of_own HO.out)).mono ?_;rintro e w5 ⟨rfl,b5⟩;have L2:=zH (L1.out.below b5);have HO2:=zH (Zd HO.out b5);clear b5 c0 c1 c2;by_cases hc:ZP f m=0
  ·have hq:(ZP f m != 0)=false:=by simp[hc]
   have HC:=zH hc;clear hc;have HSM:=zH (Z6B HC.out);go_wp2_with   (first
     |(refine zL p2 L2.out.e2 ?_)
     |(refine zG p2 L2.out.e2 ?_))
   refine(QW m sa sc _ (ZW.of_own HO2.out) HSM.out HLN.out).mono ?_;rintro e w6 ⟨a',c',rfl,h6,b6⟩;have L3:=zH (L2.out.below b6);have HO3:=zH (Zd HO2.out b6);have H6:=zH h6;clear h6 b6;go_wp2_with fail;refine(Z2r _ _ _ (Y7 m) _ _ _ l _ (Yg.of_own H6.out) (RB.out _ L3.out.b)).mono ?_;rintro e w7 ⟨r,rfl,hr,q,rfl⟩;have L4:=zH (L3.out.below (below_drewN (Below.refl _ _) q));have HO4:=zH (Zd HO3.out (below_drewN (Below.refl _ _) q));generalize w6.drewN q=w7 at *;cases r with
   | false=>
    have HR:=zH (show Qu f l=none by unfold Qu;rw[HM.out];simp only;rw[if_neg (fun e=>by have:=hr.2 e.2;cases this)]);clear hr;go_wp2_with (refine zN p1 (Z5 Zh none 0) L4.out.e1 ?_);refine bodyPost_ret (ZM rfl _ _ p1 47 (Z5 Zh none 0) (0,0) _ rfl (L4.out.done _).1 Tryz.underlying47 rfl (I43.out _ _ _)) rfl ?_;exact .inr ⟨HR.out,rfl,by rw[HP0.out];exact(L4.out.done _).2⟩
   | true=>
    have HR:=zH (show Qu f l=some m by unfold Qu;rw[HM.out];simp only;rw[if_pos ⟨HC.out,hr.1 rfl⟩]);clear hr;go_wp2_with (first
     |(refine zL p2 L4.out.e2 ?_)
     |(refine zN p1 (Z5 m sa sc) L4.out.e1 ?_))
    refine bodyPost_ret (ZM rfl _ _ p1 47 (Z5 m sa sc) (0,0) _ rfl (L4.out.done _).1 Tryz.underlying47 rfl (I43.out _ _ _)) rfl ?_;have hO:=JP (S:=fun k=>k=p1) HO4.out (W':=World.setRow _ p1 (Z5 m sa sc)) ⟨rfl,rfl,rfl,by simp,fun k hk hs=>setRow_other _ p1 k _ hs⟩ (fun b cur fr hb=>.inr (by rw[show b=p1 from hb];exact P1.out));exact .inl ⟨m,sa,sc,HR.out,rfl,Zu hO L0.out.b.size,by rw[HP0.out];exact(L4.out.done _).2⟩
  ·have hq:(ZP f m != 0)=true:=by simp[hc]
   have HR:=zH (show Qu f l=none by unfold Qu;rw[HM.out];simp only;rw[if_neg (fun e=>hc e.1)]);clear hc;go_wp2_with (refine zN p1 (Z5 Zh none 0) L2.out.e1 ?_);refine bodyPost_ret (ZM rfl _ _ p1 47 (Z5 Zh none 0) (0,0) _ rfl (L2.out.done _).1 Tryz.underlying47 rfl (I43.out _ _ _)) rfl ?_;exact .inr ⟨HR.out,rfl,by rw[HP0.out];exact(L2.out.done _).2⟩
 ·have HR:=zH (show Qu f l=none by unfold Qu;rw[h1]);have hz2:=(Array.getElem?_eq_some_iff.1 L0.out.e2).1;have k0:=(h4.block p0 (by have:=L0.out.lt;omega) (by have:=L0.out.lt;omega)).trans L0.out.e0;have k1:=zH ((h4.block p1 (by have:=L0.out.lt;omega) (by have:=L0.out.lt;omega)).trans L0.out.e1);have kb:=zH (h4.below L0.out.b (by have:=L0.out.lt;omega) (fun k e=>by have:=L0.out.lt;rw[show k=p2 from e];omega));have kl:=zH L0.out.lt;clear h1 h4 hz2 k0;go_wp2_with (refine zN p1 (Z5 Zh none 0) k1.out ?_);refine zr (setRow_heap w4 p1 _ _ _ _ k1.out) ?_;exact .inr ⟨HR.out,rfl,by rw[HP0.out];exact kb.out.trans ⟨rfl,rfl,rfl,by simp,fun k hk=>setRow_other _ p1 k _ (by have:=kl.out;omega)⟩⟩
end
def Zf.sync (S:Zf):Zf := { S with sd:=S.sb.length,fd:=S.fb.length }
theorem Xe.sync {S:Zf}(h:Xe S):Xe S.sync:=⟨h.v,h.id,h.srt,h.frm,h.ok,h.nms,h.len,h.sbl,h.fbl⟩
def Z87 (A:Zf):Option Z8->Option Zf
 | none=>none
 | some n=>if (ZJ A [n]).2.2=0/\(ZJ A [n]).2.1=1 then some (ZJ A [n]).1 else none
def Vh (A:Zf):List (zU)->Zf
 | []=>A
 | b :: bs=>((Z87 A (Qu A.f b)).map (fun A'=>Vh A' bs)).getD A
def CrP (S:Zf)(stock foil flip:Int)(S':Zf)(code:Int):Prop:=
 (¬Z00 S.sb S.fb S.sd S.fd stock foil flip/\S'=S/\code=1) \/
 (Z00 S.sb S.fb S.sd S.fd stock foil flip/\S'=(Vh (Zf.new S.f S.id) (Zt (Jj S.sb S.sd stock.toNat flip) (J5 S.fb S.fd stock.toNat foil.toNat flip))).sync/\code=0)
theorem Z2t {f:Yh}(hv:f.valid=true){n:Z8}(h:Zg f n=true):Qu f (Y7 n)=some n:=by
 unfold Qu;rw[Uq hv n h];simp only;rw[if_pos ⟨by unfold ZP;rw[if_pos hv,if_pos h],trivial⟩]
theorem ZbU {f:Yh}{b:zU}{n:Z8}(h:Qu f b=some n):ZP f n=0/\Y7 n=b:=by
 unfold Qu at h;split at h
 ·split at h
  ·rename_i h2;cases h;exact h2
  ·cases h
 ·cases h
theorem Zat (A:Zf)(n:Z8)(ns:List Z8):A.adds (n :: ns)=(A.add n).adds ns:=by unfold Zf.adds;rw[List.foldl_cons]
theorem Z3H {A A':Zf}{n:Z8}{b:zU}{bs:List (zU)}(h1:Qu A.f b=some n)(h2:ZJ A [n]=(A',1,0)):Vh A (b :: bs)=Vh A' bs:=by
 have e:Z87 A (some n)=some A':=by
  show(if (ZJ A [n]).2.2=0/\(ZJ A [n]).2.1=1 then some (ZJ A [n]).1 else none)=some A';rw[h2];exact if_pos ⟨rfl,rfl⟩
 rw[Vh,h1,e];rfl
theorem Z3G {A:Zf}{b:zU}{bs:List (zU)}(h:Z87 A (Qu A.f b)=none):Vh A (b :: bs)=A:=by
 rw[Vh,h];rfl
theorem Z1K: ∀(l:List Z8) (A:Zf),(A.adds l).ad=A.ad ++ l
 | [],A=>by simp[Zf.adds]
 | n :: ns,A=>by
  show((A.add n).adds ns).ad=_
  rw[Z1K ns (A.add n)]
  show(A.ad ++ [n]) ++ ns=_
  simp
theorem Z2U {K:List Z8}{c:Int->Nat}(h:XW K c)(hn:(K.map Zk).Nodup)(a:Int):Ql K a=c a:=by
 have h1:Ql K a=((K.filter (fun x=>decide (x.house=a))).map Z8.num).length:=by
  unfold Ql;rw[List.length_map,List.countP_eq_length_filter]
 have h2:((List.range (c a)).map (fun k:Nat=>(k:Int)+1)).length=c a:=by rw[List.length_map,List.length_range]
 rw[h1,<-h2];refine List.Perm.length_eq ((List.perm_ext_iff_of_nodup ?_ ?_).2 fun z=>?_)
 ·have h3:K.Pairwise (fun x y=>Zk x≠Zk y):=List.pairwise_map.1 hn;have h4:=List.Pairwise.filter (fun x=>decide (x.house=a)) h3;refine List.pairwise_map.2 (List.Pairwise.imp_of_mem ?_ h4);intro x y hx hy hxy e;have hx2:=(List.mem_filter.1 hx).2;have hy2:=(List.mem_filter.1 hy).2;simp only[decide_eq_true_eq]at hx2 hy2;exact hxy (by show(x.house,x.num)=(y.house,y.num);rw[hx2,hy2,e])
 ·refine List.pairwise_map.2 (List.Pairwise.imp ?_ (List.nodup_range (n:=c a)));intro x y hxy e;omega
 ·have h5:=h a z;constructor
  ·intro hz;obtain⟨x,hx,rfl⟩:=List.mem_map.1 hz;obtain⟨hx1,hx2⟩:=List.mem_filter.1 hx;simp only[decide_eq_true_eq]at hx2;have h6:=h5.1 ⟨x,hx1,by show(x.house,x.num)=_;rw[hx2]⟩;exact List.mem_map.2 ⟨(x.num - 1).toNat,List.mem_range.2 (by omega),by omega⟩
  ·intro hz;obtain⟨k,hk,rfl⟩:=List.mem_map.1 hz;have hk2:=List.mem_range.1 hk;obtain⟨x,hx,e⟩:=h5.2 ⟨by omega,by omega⟩;have e1:x.house=a:=congrArg Prod.fst e;have e2:x.num=(k:Int)+1:=congrArg Prod.snd e;exact List.mem_map.2 ⟨x,List.mem_filter.2 ⟨hx,by simp[e1]⟩,e2⟩
theorem Xe.nodup {S:Zf}(h:Xe S):(S.l.map Zk).Nodup:=
 List.pairwise_map.2 (h.srt.imp (fun {a b} hab e=>by
  unfold ltN at hab
  rw[e]at hab
  have h2:=(Jv _ _).1 hab
  omega))
theorem Z69 {f:Yh}{x:Z8}(h:Zg f x=true):1<=x.kind/\x.kind<=6:=by
 unfold Zg at h;rw[Bool.and_eq_true]at h;have h:=h.1;have hs:ZY f x.kind x=true:=by
  unfold okB at h;split at h
  ·rw[Bool.and_eq_true]at h;exact h.1
  ·split at h
   ·rw[Bool.and_eq_true]at h;exact h.1
   ·exact h
 unfold ZY at hs;grind
def VW (base:Nat)(W:World)(v:Value)(T:Z50):Prop:=
 ∃(ha:zA) (hn hc:Nat) (ea:zA) (en ec:Nat) (ca:zA) (cn cc:Nat) (hs es:List XH),v = .agg #[.slice ha hn hc,.slice ea en ec,.slice ca cn cc] /\
  W.ownsRow base 210 21 (.slice ha hn hc) hn (Xz hs)/\W.ownsRow base 210 21 (.slice ea en ec) en (Xz es)/\W.ownsRow base 45 2 (.slice ca cn cc) cn (ZC T.2.2) /\
  (∀e∈hs ++ es,W.ownsRow base 3 1 (.slice e.x.sa e.x.n.strokes.length e.x.sc) e.x.n.strokes.length (e.x.n.strokes.map Yq))/\hs.map evC=T.1.map evP/\es.map evC=T.2.1.map evP
theorem VW.out {base:Nat}{W:World}{v:Value}{T:Z50}(h:VW base W v T):Vc W v T:=by
 obtain⟨ha,hn,hc,ea,en,ec,ca,cn,cc,hs,es,rfl,h1,h2,h3,h4,h5,h6⟩:=h;exact⟨ha,hn,hc,ea,en,ec,ca,cn,cc,hs,es,rfl,Ut.of_rd (ZW.of_own h1),Ut.of_rd (ZW.of_own h2),ZW.of_own h3,fun e he=>ZW.of_own (h4 e he),h5,h6⟩
theorem VW.kept {base:Nat}{W W':World}{v:Value}{T:Z50}{p:Nat}{c:ZV}(h:VW base W v T)(hg:W.grownBy W' (some p))(hp:W.heap[p]? = some (.cells c 77)):VW base W' v T:=by
 obtain⟨ha,hn,hc,ea,en,ec,ca,cn,cc,hs,es,rfl,h1,h2,h3,h4,h5,h6⟩:=h;exact⟨ha,hn,hc,ea,en,ec,ca,cn,cc,hs,es,rfl,h1.kept hg (.inr (Zn h1 hp (by intro cur;simp)).symm),h2.kept hg (.inr (Zn h2 hp (by intro cur;simp)).symm),h3.kept hg (.inr (Zn h3 hp (by intro cur;simp)).symm),
  fun e he=>(h4 e he).kept hg (.inr (Zn (h4 e he) hp (by intro cur;simp)).symm),h5,h6⟩
theorem VW.shape {base:Nat}{W:World}{v:Value}{T:Z50}(h:VW base W v T): ∃(ha:zA) (hn hc:Nat) (ea:zA) (en ec:Nat) (ca:zA) (cn cc:Nat),v = .agg #[.slice ha hn hc,.slice ea en ec,.slice ca cn cc]:=by
 obtain⟨ha,hn,hc,ea,en,ec,ca,cn,cc,hs,es,rfl,_⟩:=h;exact⟨ha,hn,hc,ea,en,ec,ca,cn,cc,rfl⟩
structure UR (w W:World)(p3 p4:Nat)(m:Z8)(ta:zA)(tc:Nat):Prop where
 bel:Below w.heap.size w W
 n:W.heap[p3]? = some (.cells (Z5 m ta tc) 47)
 z:W.heap[p4]? = some (.cells (Z5 Zh none 0) 47)
 own:W.ownsRow w.heap.size 3 1 (.slice ta m.strokes.length tc) m.strokes.length (m.strokes.map Yq)
 ge:w.heap.size<=p3/\p3 < p4
section
variable {w W W':World}{p3 p4:Nat}{m m':Z8}{ta:zA}{tc:Nat}
theorem UR.below (h:UR w W p3 p4 m ta tc)(hb:Below W.heap.size W W'):UR w W' p3 p4 m ta tc:=
 ⟨h.bel.trans (hb.mono h.bel.size),Z7 hb h.n,Z7 hb h.z,Zd h.own hb,h.ge⟩
theorem UR.set (h:UR w W p3 p4 m ta tc)(hs:Za (fun k=>k=p3) W W')(hn:W'.heap[p3]? = some (.cells (Z5 m' ta tc) 47))(he:m'.strokes=m.strokes):UR w W' p3 p4 m' ta tc:=
 ⟨hs.below h.bel h.bel.size (fun k hk=>by rw[show k=p3 from hk];exact h.ge.1),hn,(hs.block p4 (Zj h.z) (fun e=>by have:=h.ge;omega)).trans h.z,
  by rw[he];exact Ze h.own hs (fun b hb e=>Zn h.own h.n (by intro cur;simp) (by rw[hb,show b=p3 from e])),h.ge⟩
theorem Z4Y {W W':World}(hg:W.grownBy W' none):Below W.heap.size W W':=⟨hg.os,hg.tape,hg.output,hg.size,fun k hk=>hg.block k hk (by simp)⟩
theorem UR.other {r:Nat}{o:Obj}(h:UR w W p3 p4 m ta tc)(hs:Za (fun k=>k=r) W W')(hr:p4 < r)(ho:W.heap[r]? = some o)(hne : ∀cur,o ≠ .cells cur 3):UR w W' p3 p4 m ta tc:=
 ⟨hs.below h.bel h.bel.size (fun k hk=>by rw[show k=r from hk];have:=h.ge;omega),(hs.block p3 (Zj h.n) (fun e=>by have:=h.ge;omega)).trans h.n,(hs.block p4 (Zj h.z) (fun e=>by omega)).trans h.z,
  Ze h.own hs (fun b hb e=>Zn h.own ho hne (by rw[hb,show b=r from e])),h.ge⟩
theorem UR.done (h:UR w W p3 p4 m ta tc)(hs:Za (fun k=>k=p4) W W'):Below w.heap.size w W'/\W'.ownsRow w.heap.size 3 1 (.slice ta m.strokes.length tc) m.strokes.length (m.strokes.map Yq):=
 ⟨hs.below h.bel h.bel.size (fun k hk=>by rw[show k=p4 from hk];have:=h.ge;omega),Ze h.own hs (fun b hb e=>Zn h.own h.z (by intro cur;simp) (by rw[hb,show b=p4 from e]))⟩
end
theorem UA (W:World)(p:Nat)(c:ZV):Za (fun k=>k=p) W (W.setRow p c):=Za.of_grown (Yr W p c) (fun k e=>by cases e;rfl)
theorem ZcD (x y:Int):Z3Z x y=max x y:=by unfold Z3Z;split <;> omega
def doC (S:Zf)(n:Z8)(c:Int):Z8 := { n with house:=S.id,num:=(S.c S.id:Int)+1,clock:=c }
theorem Zc5 {S:Zf}(h:Xe S)(a:Int):S.c a<=400:=by
 by_cases h0:S.c a=0
 ·omega
 ·obtain⟨x,hx,e⟩:=(h.nms a (S.c a:Int)).2 ⟨by omega,Int.le_refl _⟩;have h1:=h.frm x hx;simp only[Zg,Bool.and_eq_true,ZF,Yt]at h1;have h2:x.house=a/\x.num=(S.c a:Int):=by simpa [Zk] using e
  omega
theorem Z8A {S:Zf}{n:Z8}(h:n.Ok)(hf:Zg S.f (QY S n)=true):(QY S n).Ok:=by
 have h1:=Y6 hf;have h2:=Vs hf;have h3:(QY S n).num<=400:=by
  simp only[Zg,Bool.and_eq_true,ZF,Yt]at hf;omega
 exact⟨by unfold Jl;omega,by unfold Jl;omega,by unfold Jl;omega,h.day,h.kind,h.stone,h.heap,h.turns,h.hardLo,h.hardHi,h.diffLo,h.diffHi,h.a,h.b,h.ring,h.refH,h.refN,h.fix,h.strokes⟩
theorem ZcF {G:Nm->Option LN}{L:List Z8}{ks:List Nm}(gs : ∀k x,G k=some x->x.n∈L/\x.nm=k)(gl : ∀n∈L,∃x,G (Zk n)=some x/\x.n=n)(hsr:L.Pairwise ltN)(ha:Jd G ks)(hs:ks.Pairwise (fun x y=>JH x y=true)):(ks.filterMap G).map LN.n=L:=by
 refine UV ?_ hsr fun x=>?_
 ·rw[List.pairwise_map];clear ha
  induction ks with
  | nil=>exact List.Pairwise.nil
  | cons k ks ih=>
   rw[List.pairwise_cons]at hs;cases hk:G k with
   | none=>rw[List.filterMap_cons_none hk];exact ih hs.2
   | some x=>
    rw[List.filterMap_cons_some hk];refine List.pairwise_cons.2 ⟨fun y hy=>?_,ih hs.2⟩;obtain⟨k',hk',h'⟩:=List.mem_filterMap.1 hy;unfold ltN;rw[show Zk x.n=k from(gs k x hk).2,show Zk y.n=k' from(gs k' y h').2];exact hs.1 k' hk'
 ·constructor
  ·intro hx;obtain⟨y,hy,rfl⟩:=List.mem_map.1 hx;obtain⟨k,_,hk⟩:=List.mem_filterMap.1 hy;exact(gs k y hk).1
  ·intro hx;obtain⟨y,hy,rfl⟩:=gl x hx;exact List.mem_map_of_mem (List.mem_filterMap.2 ⟨_,ha _ (by rw[hy];rfl),hy⟩)
theorem Zdh {G:Nm->Option LN}{L:List Z8}{x:LN}(gs : ∀k y,G k=some y->y.n∈L/\y.nm=k): ∀k y,Yv G (Zk x.n) x k=some y->y.n∈YV L x.n/\y.nm=k:=fun k y h=>by
 unfold Yv at h
 split at h
 ·rename_i e
  cases h
  exact⟨Ys.2 (.inr rfl),e.symm⟩
 ·obtain⟨h1,h2⟩:=gs k y h
  exact⟨Ys.2 (.inl h1),h2⟩
theorem Zdi {G:Nm->Option LN}{L:List Z8}{x:LN}(gl : ∀n∈L,∃y,G (Zk n)=some y/\y.n=n)(hf : ∀y∈L,Zk y≠Zk x.n): ∀n∈YV L x.n,∃y,Yv G (Zk x.n) x (Zk n)=some y/\y.n=n:=fun n hn=>by
 rcases Ys.1 hn with hn | rfl
 ·obtain⟨y,h1,h2⟩:=gl n hn
  exact⟨y,by unfold Yv;rw[if_neg (hf n hn)];exact h1,h2⟩
 ·exact⟨x,by unfold Yv;rw[if_pos rfl],rfl⟩
theorem Z8T {W W':World}{p k:Nat}{a:zA}{n c:Nat}{l:List Value}{A:ZV}{t:TypeId}{fr:Nat×Nat}(h:ZW W k a n c l)(hs:Za (fun q=>q=p) W W')(hp:W.heap[p]? = some (.cells A t fr))(hl : ∀v∈l,∃x,v = .int .i64 x)(hA : ∀v∈A.toList,∀x,v ≠ .int .i64 x):ZW W' k a n c l:=by
 refine⟨h.1,h.2.1,h.2.2.1,h.2.2.2.imp id ?_⟩;rintro⟨b,off,rfl,h4⟩;refine⟨b,off,rfl,fun i v hv=>?_⟩;have h5:=h4 i v hv;have hb:b≠p:=fun e=>by
  subst e;simp only[World.cell?,hp]at h5;obtain⟨x,hx⟩:=hl v (List.mem_of_getElem? hv);rw[<-Array.getElem?_toList]at h5;exact hA v (List.mem_of_getElem? (by simpa using h5)) x hx
 rw[<-h5];exact World.cell?_of_block (hs.block b (World.block_lt_of_cell? W _ h5) hb)
theorem ZeP {A1 A2 A3 A4 A5 A6:Type}{P T:A1->A2->A3->A4->A5->A6->Prop}{G:Prop}(h1:(∀x1 x2 x3 x4 x5 x6,P x1 x2 x3 x4 x5 x6->T x1 x2 x3 x4 x5 x6)->G)(h2 : ∀x1 x2 x3 x4 x5 x6,P x1 x2 x3 x4 x5 x6->T x1 x2 x3 x4 x5 x6):G:=h1 h2
section
attribute [local go_sem] ZS X9 XZ XJ
end
def RS (l:zU)(k:Nat)(xs:List Int)(at_:Nat)(bad:Bool):Prop:=(bad=false/\XT Ze3 k l=some (xs,l.drop at_))\/(bad=true/\XT Ze3 k l=none)
section
variable {wf W W':World}{rp p1 nb:Nat}{m:Z8}{sa:zA}{sc:Nat}{l:zU}{a:zA}{n c at_ at':Nat}{bad bad':Bool}
end
section
attribute [local go_sem] ZS
end
def Z9a (f:Yh)(id:Int)(w:World)(e:Ending)(W:World):Prop:=
 (¬(f.valid=true/\1<=id/\id<=8)/\e = .returned (.tuple #[.pointer none,.int .i64 1])) \/
 (f.valid=true/\(1<=id/\id<=8) /\ ∃p mb sp,e = .returned (.tuple #[.pointer (some ⟨p,0,none⟩),.int .i64 0])/\Y8 W p mb sp (fun _=>none) (fun k=>k=sp) (Zf.new f id) /\ ∀k,Yd p mb (fun _=>none) (fun k=>k=sp) k->w.heap.size<=k)
theorem Z0R (f:Yh)(id:Int)(w:World)(hid:1<=id/\id<=8):
  Calls zq 12 #[f.val,.int .i64 id] w fun e w'=>Z9a f id w e w'/\Below w.heap.size w w':=by
 have VF:=zH (fun W=>Vb f.rings f.sectors f.wide W);have hvl:f.val = .agg #[.int .i64 f.rings,.int .i64 f.sectors,.int .i64 f.wide]:=rfl;have HID:=zH (show 1<=id/\id<=8 by omega);rw[hvl];clear hvl;have B0:=zH (zB w (zF f 23));have F0:=zH (Z9 w (zF f 23));have q1:decide (id < 1)=false:=by simp;omega
 have q2:decide (8 < id)=false:=by simp;omega
 clear hid;go_enter Tryz.func12,Tryz.ntmps12;go_upto_region 1 with fail;obtain⟨p2,hp2⟩:=zX (w.heap.size);rw[hp2.out]at F0;rw[hp2.out];generalize w.alloc (zF f 23)=w0 at *;have c0:=Z6 F0.out 0 (.int .i64 f.rings) rfl;have c1:=Z6 F0.out 1 (.int .i64 f.sectors) rfl;have c2:=Z6 F0.out 2 (.int .i64 f.wide) rfl;go_wp2_with fail;refine(VF.out w0).mono ?_;rintro e w1 ⟨rfl,b1⟩;have B1:=zH (B0.out.trans (b1.mono B0.out.size));have F1:=zH (Z7 b1 F0.out);clear b1 c0 c1 c2 q1 q2;cases hv:Yh.valid ⟨f.rings,f.sectors,f.wide⟩
 ·have HV:Hid (¬(f.valid=true/\1<=id/\id<=8)):=zH (fun h=>by
   have h1:Yh.valid ⟨f.rings,f.sectors,f.wide⟩=true:=h.1;rw[hv]at h1;cases h1)
  clear hv;go_wp2_with fail;go_returns;exact⟨.inl ⟨HV.out,rfl⟩,B1.out⟩
 have HV:Hid (f.valid=true):=zH hv;clear hv;have hmm := @run_makeMap zq;go_upto_region 3 with fail;apply ZeQ (P:=fun mb sp p W=>Hid (Below w1.heap.size w1 W/\Y8 W p mb sp (fun _=>none) (fun k=>k=sp) (Zf.new f id)/\w.heap.size<=mb/\w.heap.size<=sp/\w.heap.size<=p))
 ·intro REST;refine zb fun hh=>?_;have HB0:=zH (show Below w1.heap.size w1 w1.drew from(Below.refl _ _).drew);generalize w1.drew=V0 at *;refine zT 0 rfl (.agg #[.int .i64 f.rings,.int .i64 f.sectors,.int .i64 f.wide]) (YB (by kernel_rfl) 23 _ rfl p2 rfl _ 23 (0,0) _ (fun W h=>Z7 h F1.out) Tryz.underlying23 rfl (by kernel_rfl)) ?_;refine zW 1 rfl (.int .i64 id) ?_;refine zM [2,3] rfl (fun K hK=>?_) ?_
  focus
   have bz:Below V0.heap.size V0 (V0.alloc (.map #[] 0)):=zB _ _;have HB1:=zH (HB0.out.trans (bz.mono HB0.out.size));have HM1:=zH (Y4.made (enc:=LN.val) V0);have KGE:Hid (w.heap.size<=V0.heap.size):=zH (Nat.le_trans B1.out.size HB0.out.size);clear bz;go_simp;obtain⟨mb,hmb⟩:=zX (V0.heap.size);rw[hmb.out]at HM1 KGE;rw[hmb.out];generalize V0.alloc (.map #[] 0)=V1 at *;refine zK hK HB1.out fun hh=>?_;clear hK K;refine zR 3 rfl fun K hK=>?_;go_simp;go_at_call 48;refine(za V1).mono ?_;rintro e V2 ⟨rfl,hk,b1⟩;have SGE:Hid (w.heap.size<=V1.heap.size):=zH (Nat.le_trans B1.out.size HB1.out.size);obtain⟨sp,hsp⟩:=zX (V1.heap.size);have HB2:=zH (HB1.out.trans (b1.mono HB1.out.size));have HM2:=zH (HM1.out.below b1);clear b1;rw[hsp.out]at hk SGE;rw[hsp.out];have HK2:=zH hk;clear hk;dsimp only
  rotate_left
  focus
   refine zn fun K hK=>?_;go_simp;go_at_call 48;refine(za V0).mono ?_;rintro e V1 ⟨rfl,hk,b1⟩;have SGE:Hid (w.heap.size<=V0.heap.size):=zH (Nat.le_trans B1.out.size HB0.out.size);obtain⟨sp,hsp⟩:=zX (V0.heap.size);have HB1:=zH (HB0.out.trans (b1.mono HB0.out.size));clear b1;rw[hsp.out]at hk SGE;rw[hsp.out];have HK1:=zH hk;clear hk;dsimp only;refine zK hK HB1.out fun hh=>?_;clear hK K;refine zR 2 rfl fun K hK=>?_;have bz:Below V1.heap.size V1 (V1.alloc (.map #[] 0)):=zB _ _;have HB2:=zH (HB1.out.trans (bz.mono HB1.out.size));have HM2:=zH (Y4.made (enc:=LN.val) V1);have KGE:Hid (w.heap.size<=V1.heap.size):=zH (Nat.le_trans B1.out.size HB1.out.size);have HK2:=zH (HK1.out.same (S:=fun _=>False) (Za.of_below bz) (fun _ h=>h.elim));clear bz;go_simp;obtain⟨mb,hmb⟩:=zX (V1.heap.size);rw[hmb.out]at HM2 KGE;rw[hmb.out];generalize V1.alloc (.map #[] 0)=V2 at *
  all_goals
   refine zK hK HB2.out fun hh=>?_;clear hK K;refine zS 4 rfl (.agg (Xy f id mb (fun _=>0) sp)) (fun W _=>by kernel_rfl) ?_;refine zR 5 rfl fun K hK=>?_;have bz:Below V2.heap.size V2 (V2.alloc (.cells (Xy f id mb (fun _=>0) sp) 109)):=zB _ _;have HB3:=zH (HB2.out.trans (bz.mono HB2.out.size));have HM3:=zH (HM2.out.below bz);have HK3:=zH (HK2.out.same (S:=fun _=>False) (Za.of_below bz) (fun _ h=>h.elim));have HP3:=zH (Z9 V2 (.cells (Xy f id mb (fun _=>0) sp) 109));have PGE:Hid (w.heap.size<=V2.heap.size):=zH (Nat.le_trans B1.out.size HB2.out.size);clear bz;go_simp;obtain⟨p,hp⟩:=zX (V2.heap.size);rw[hp.out]at HP3 PGE;rw[hp.out];generalize V2.alloc (.cells (Xy f id mb (fun _=>0) sp) 109)=V3 at *;refine zK hK HB3.out fun hh=>?_;clear hK K;refine zw 6 rfl p 0 ?_;refine zW 7 rfl (.int .i64 0) ?_;refine zE ?_;exact REST mb sp p V3 (zH ⟨HB3.out,⟨HP3.out,HM3.out,(fun k x h=>by cases h),(fun n h=>by cases h),(fun k x h=>by cases h),HK3.out⟩,KGE.out,SGE.out,PGE.out⟩)
 intro mb sp p W QQ;go_wp2_with fail;go_returns;exact⟨.inr ⟨HV.out,HID.out,p,mb,sp,rfl,QQ.out.2.1,fun k hk=>by
  have hp:=QQ.out.2.2;rcases hk with h | h | h | ⟨a,x,h,_⟩
  ·omega
  ·omega
  ·have h2:k=sp:=h;omega
  ·cases h⟩,B1.out.trans (QQ.out.1.mono B1.out.size)⟩
theorem Z4P (f:Yh)(id:Int)(w:World)(hid : ¬(1<=id/\id<=8)):
  Calls zq 12 #[f.val,.int .i64 id] w fun e w'=>e = .returned (.tuple #[.pointer none,.int .i64 1])/\Below w.heap.size w w':=by
 have hvl:f.val = .agg #[.int .i64 f.rings,.int .i64 f.sectors,.int .i64 f.wide]:=rfl;rw[hvl];clear hvl;have B0:=zH (zB w (zF f 23));by_cases h1:id < 1
 focus
  have q1:decide (id < 1)=true:=by simp[h1]
 rotate_left
 focus
  have q1:decide (id < 1)=false:=by simp;omega
  have q2:decide (8 < id)=true:=by simp;omega
 all_goals
  clear h1 hid;go_enter Tryz.func12,Tryz.ntmps12;go_wp2_with fail;go_returns;exact⟨rfl,B0.out⟩
theorem Z4O (f:Yh)(id:Int)(w:World):Calls zq 12 #[f.val,.int .i64 id] w fun e w'=>Z9a f id w e w'/\Below w.heap.size w w':=by
 by_cases hid:1<=id/\id<=8
 ·exact Z0R f id w hid
 ·refine(Z4P f id w hid).mono fun e w' h=>⟨.inl ⟨fun h2=>hid h2.2,h.1⟩,h.2⟩
theorem Jh (p mb sp:Nat)(G:Nm->Option LN)(SF:Nat->Prop)(S:Zf)(w:World)(hh:Y8 w p mb sp G SF S):
  Calls zq 20 #[.pointer (some ⟨p,0,none⟩)] w fun e w'=>e = .returned (.tuple #[])/\Y8 w' p mb sp G SF S.sync/\Za (fun k=>k=sp) w w':=by
 have HH:=zH hh;have DIS:=zH hh.dis;have SP:=zH hh.stk.self;have c14:=Z6 hh.blk 14 (.pointer (some ⟨sp,0,none⟩)) rfl;have MD:=zH (VM w p mb sp S.f S.id S.c hh.blk);have SY:=zH (Z3u w sp SF S.sb S.fb S.sd S.fd hh.stk);clear hh;go_enter Tryz.func20,Tryz.ntmps20;go_wp2_with fail;refine MD.out.mono ?_;rintro e w1 ⟨rfl,rfl⟩;go_wp2_with fail;refine SY.out.mono ?_;rintro e w2 ⟨rfl,hk,hs⟩;have K:=zH hk;have HS:=zH hs;clear hk hs c14;go_wp2;go_end0;have hne : ∀k,SF k->k≠p/\k≠mb:=fun k hk=>⟨fun e=>DIS.out.ps (e ▸ hk),fun e=>DIS.out.ms (e ▸ hk)⟩;exact⟨rfl,⟨(HS.out.block p (Zj HH.out.blk) (fun e=>(hne sp SP.out).1 e.symm)).trans HH.out.blk,HH.out.map.of_block (HS.out.block mb HH.out.map.lt (fun e=>(hne sp SP.out).2 e.symm)),HH.out.gs,HH.out.gl,
  fun k x hk=>Ze (HH.out.str k x hk) HS.out (fun b hb e=>(DIS.out.st k x hk b hb).2.2 (by rw[show b=sp from e];exact SP.out)),K.out⟩,HS.out⟩
theorem Z21 {z:Int}(h:Ym z):Jl z:=by
 unfold Ym far at h;unfold Jl;omega
theorem ZaX {n:Z8}(h:Z2A n):n.Ok:=by
 obtain⟨h1,h2,h3,_⟩:=h;have a : ∀z∈ZX n,Jl z:=fun z hz=>Z21 (h1 z hz);have b : ∀z∈ZQ n,Jl z:=fun z hz=>Z21 (h3 z hz);simp only[ZX,ZQ,List.mem_cons,List.not_mem_nil,or_false]at a b;refine⟨a _ ?_,a _ ?_,a _ ?_,a _ ?_,a _ ?_,a _ ?_,a _ ?_,a _ ?_,a _ ?_,a _ ?_,a _ ?_,a _ ?_,a _ ?_,a _ ?_,a _ ?_,b _ ?_,b _ ?_,b _ ?_,fun z hz=>Z21 (h2 z hz)⟩ <;> simp
theorem Z5m: ∀(k:Nat) (st fo:zU),(UE k st fo).length<=k /\ ∀x∈UE k st fo,x.length<=8192
 | 0,_,_=>⟨Nat.le_refl _,fun x h=>by simp[UE]at h⟩
 | k+1,st,fo=>by
  unfold UE
  split
  ·rename_i h
   obtain⟨h1,h2⟩:=Z5m k (st.drop (Qs st 0+2)) (fo.drop 4)
   refine⟨by rw[List.length_cons];omega,fun x hx=>?_⟩
   rcases List.mem_cons.1 hx with rfl | hx
   ·rw[List.length_take];have:=h.2.2.1;omega
   ·exact h2 x hx
  ·exact⟨Nat.zero_le _,fun x h=>by simp at h⟩
theorem Zdy (S:Zf)(l:List Z8):(ZJ S l).1.f=S.f:=by
 unfold ZJ;split
 ·rfl
 ·split
  ·rfl
  ·exact Z1e _ _
theorem Za4 {A:Zf}{n:Z8}(h : ¬((ZJ A [n]).2.2=0/\(ZJ A [n]).2.1=1)):(ZJ A [n]).1=A:=by
 cases hb:[n].any (fun n=>!decide (ZP A.f n=0))with
 | true=>rw[Z0y hb]
 | false=>
  cases hg:ZZ A.l [] A.c [n]with
  | none=>rw[zi hb hg]
  | some r=>
   obtain⟨fr,c'⟩:=r;rw[UH hb hg]at h ⊢;have h2:fr=[]:=by
    rw[ZZ]at hg;split at hg
    ·split at hg
     ·simp[ZZ]at hg;exact hg.1
     ·cases hg
    ·split at hg
     ·simp[ZZ]at hg;exact hg.1
     ·simp[ZZ]at hg;obtain⟨rfl,_⟩:=hg;exact absurd ⟨rfl,rfl⟩ h
   rw[h2];rfl
theorem ZbR {α:Type}{l:List α}{i:Nat}{x:α}(h:l[i]? = some x):l.drop i=x :: l.drop (i+1):=by
 obtain⟨h1,h2⟩:=List.getElem?_eq_some_iff.1 h;rw[List.drop_eq_getElem_cons h1,h2]
theorem Z23 (W:World)(p:Nat)(c:ZV):Za (fun k=>k=p) W (W.setRow p c):=Za.of_grown (Yr W p c) (fun k e=>by cases e;rfl)
def ZeJ (w:World)(p mb:Nat)(G:Nm->Option LN)(SF:Nat->Prop)(S:Zf)(stock foil flip:Int)(e:Ending)(W:World):Prop:=
 ∃S' code,CrP S stock foil flip S' code/\Xe S'/\e = .returned (.int .i64 code) /\ ∃mb' sp' G' SF',Y8 W p mb' sp' G' SF' S'/\Za (Yd p mb G SF) w W /\ ∀k,Yd p mb' G' SF' k->Yd p mb G SF k\/w.heap.size<=k
structure Z7Q (w W3 W:World)(p p2 mb2 sp2:Nat)(SF:Nat->Prop)(S:Zf)(mb sp:Nat)(G2:Nm->Option LN)(SF2:Nat->Prop)(A:Zf)(bs:List (zU))(i:Nat):Prop where
 hou:Y8 W p2 mb2 sp2 G2 SF2 A
 inv:Xe A
 f:A.f=S.f
 rcv:Vh (Zf.new S.f S.id) bs=Vh A (bs.drop i)
 len:A.l.length<=i
 same:Za (fun k=>k=p2\/k=mb2\/k=sp2\/W3.heap.size<=k) W3 W
 foot : ∀k,Yd p2 mb2 G2 SF2 k->k=p2\/k=mb2\/k=sp2\/W3.heap.size<=k
 blk:W.heap[p]? = some (.cells (Xy S.f S.id mb S.c sp) 109)
 np:p≠p2/\p≠mb2/\p≠sp2/\p < W3.heap.size
section
variable {w W3 W W':World}{p p2 mb2 sp2:Nat}{SF:Nat->Prop}{S:Zf}{mb sp:Nat}{G2 G3:Nm->Option LN}{SF2 SF3:Nat->Prop}{A A':Zf}{bs:List (zU)}{i j:Nat}
theorem Z7Q.below (h:Z7Q w W3 W p p2 mb2 sp2 SF S mb sp G2 SF2 A bs i)(hb:Below W.heap.size W W'):Z7Q w W3 W' p p2 mb2 sp2 SF S mb sp G2 SF2 A bs i:=
 ⟨h.hou.below hb,h.inv,h.f,h.rcv,h.len,h.same.trans (Za.of_below hb),h.foot,Z7 hb h.blk,h.np⟩
theorem Z7Q.step (h:Z7Q w W3 W p p2 mb2 sp2 SF S mb sp G2 SF2 A bs i)(hh:Y8 W' p2 mb2 sp2 G3 SF3 A')(hi:Xe A')(hf:A'.f=S.f)(hr:Vh (Zf.new S.f S.id) bs=Vh A' (bs.drop j))(hl:A'.l.length<=j)
  (hs:Za (Yd p2 mb2 G2 SF2) W W') (hn : ∀k,Yd p2 mb2 G3 SF3 k->Yd p2 mb2 G2 SF2 k\/W.heap.size<=k):Z7Q w W3 W' p p2 mb2 sp2 SF S mb sp G3 SF3 A' bs j:=
 ⟨hh,hi,hf,hr,hl,h.same.trans (hs.weaken h.foot),fun k hk=>(hn k hk).elim (h.foot k) (fun h2=>.inr (.inr (.inr (Nat.le_trans h.same.size h2)))),
  (hs.block p (Zj h.blk) (fun hk=>by rcases h.foot p hk with h2 | h2 | h2 | h2 <;> have:=h.np <;> omega)).trans h.blk,h.np⟩
end
theorem Z4d (f:Yh)(id:Int)(mb:Nat)(c:Int->Nat)(sp:Nat):(Xy f id mb c sp).all (·.oneCell')=true:=by simp[Xy,Value.oneCell']
theorem Z8r (p mb sp:Nat)(G:Nm->Option LN)(SF:Nat->Prop)(S:Zf)(stock foil flip:Int)(w:World)(hh:Y8 w p mb sp G SF S)(hi:Xe S)(hlen:S.l.length < 400):
  Calls zq 21 #[.pointer (some ⟨p,0,none⟩),.int .i64 stock,.int .i64 foil,.int .i64 flip] w fun e w'=>ZeJ w p mb G SF S stock foil flip e w':=by
 have HH:=zH hh;have HI:=zH hi;have HLEN:=zH hlen;have DIS:=zH hh.dis;have HLT:=zH hh.lt;have MD:=zH (VM w p mb sp S.f S.id S.c hh.blk);have c14:=Z6 hh.blk 14 (.pointer (some ⟨sp,0,none⟩)) rfl;by_cases hok:Z00 S.sb S.fb S.sd S.fd stock foil flip
 case neg=>
  have HC:=zH hok;have CN:=zH (ZbX w sp SF S.sb S.fb S.sd S.fd stock foil flip hh.stk hok);clear hh hi hok hlen;go_enter Tryz.func21,Tryz.ntmps21;go_wp2_with fail;refine MD.out.mono ?_;rintro e w1 ⟨rfl,rfl⟩;go_wp2_with fail;refine CN.out.mono ?_;rintro e w2 ⟨rfl,q,rfl⟩;clear c14;go_wp2;go_ret;have bq:=below_drewN (Below.refl w1.heap.size w1) q;exact⟨S,1,.inl ⟨HC.out,rfl,rfl⟩,HI.out,rfl,mb,sp,G,SF,HH.out.below bq,Za.of_below bq,fun k hk=>.inl hk⟩
 have HC:=zH hok;obtain⟨st,rfl⟩:=Int.eq_ofNat_of_zero_le hok.1;obtain⟨fo,rfl⟩:=Int.eq_ofNat_of_zero_le hok.2.2.1;have CY:=zH (Z5x w sp SF S.sb S.fb S.sd S.fd st fo flip hh.stk hok);clear hh hi hok hlen;go_enter Tryz.func21,Tryz.ntmps21;go_wp2_with fail;refine MD.out.mono ?_;rintro e w1 ⟨rfl,rfl⟩;go_wp2_with fail;refine CY.out.mono ?_;rintro e W1 ⟨rfl,F1,h1,h2,h3⟩;clear c14;have K1:=zH h1;have S1:=zH h2;have P1:Hid (W1.heap[p]? = some (.cells (Xy S.f S.id mb S.c sp) 109)):=zH ((h2.block p (Zj HH.out.blk) DIS.out.ps).trans HH.out.blk);have PW1:Hid (p < W1.heap.size):=zH (Zj P1.out);clear h1 h2 h3 CY MD;obtain⟨cs,hcs⟩:=zX (Jj S.sb S.sd st flip);obtain⟨cf,hcf⟩:=zX (J5 S.fb S.fd st fo flip);have CFL:Hid (cf.length<=S.fb.length):=zH (by
  rw[<-hcf.out];unfold J5;split
  ·rw[zj,List.length_take];omega
  ·rw[List.length_take];omega)
 rw[hcs.out,hcf.out]at K1;go_upto_region 6 with fail;refine zp P1.out fun hh=>?_;have BU:=zH ((zd W1));generalize W1.drew=U at *;refine zw 0 rfl p 0 ?_;refine zw 1 rfl p 0 ?_;refine zw 2 rfl p 0 ?_;refine zS 3 rfl (.agg #[.int .i64 S.f.rings,.int .i64 S.f.sectors,.int .i64 S.f.wide]) (fun W h=>by have h0:=Z6 h 0 (.int .i64 S.f.rings) rfl;have h1:=Z6 h 1 (.int .i64 S.f.sectors) rfl;have h2:=Z6 h 2 (.int .i64 S.f.wide) rfl;go_simp) ?_;refine zw 4 rfl p 0 ?_;refine zw 5 rfl p 0 ?_;refine zw 6 rfl p 3 ?_;refine zS 7 rfl (.int .i64 S.id) (fun W h=>by have hc:=Z6 h 3 (.int .i64 S.id) rfl;go_simp) ?_;refine zR 8 rfl fun K hK=>?_;go_simp;go_at_call 12;refine(Z0R S.f S.id U HI.out.id).mono ?_;rintro e W2 ⟨h1,bb⟩;rcases h1 with ⟨hbad,_⟩ | ⟨_,_,p2,mb2,sp2,rfl,h2,h3⟩
 ·exact absurd ⟨HI.out.v,HI.out.id⟩ hbad
 have B2:=zH (BU.out.trans (bb.mono BU.out.size));have P2:=zH (Z7 bb hh);have H2:=zH h2;have GE2:=zH (show ∀k,Yd p2 mb2 (fun _=>none) (fun k=>k=sp2) k->W1.heap.size<=k from fun k hk=>Nat.le_trans BU.out.size (h3 k hk));clear bb h2 h3 hh;dsimp only;refine zK hK P2.out fun hh=>?_;clear hK K;refine zW 9 rfl (.tuple #[.pointer (some ⟨p2,0,none⟩),.int .i64 0]) ?_;refine zw 10 rfl p2 0 ?_;refine zW 11 rfl (.int .i64 0) ?_;refine zw 12 rfl p2 0 ?_;refine zW 13 rfl (.int .i64 0) ?_;refine zE ?_;clear hh BU P1;have K2:=zH (K1.out.same (S:=fun _=>False) (Za.of_below B2.out) (fun _ h=>h.elim));have c14:=Z6 P2.out 14 (.pointer (some ⟨sp,0,none⟩)) rfl;go_wp2_with fail;refine(Z0O W2 sp F1 cs cf cs.length cf.length K2.out).mono ?_;rintro e W3 ⟨oa,oc,rfl,h1,b3⟩;have L2:=zH H2.out.lt;have OB:=zH h1;have P3:=zH (Z7 b3 P2.out);have H3:=zH (H2.out.below b3);have B3:=zH (B2.out.trans (b3.mono B2.out.size));have SZ3:=zH b3.size;clear h1 b3 c14 K2 P2 K1;obtain⟨bs,hbs⟩:=zX (Zt cs cf);rw[hbs.out]at OB ⊢;have BL:Hid (bs.length<=S.l.length /\ ∀x∈bs,x.length<=8192):=zH (by
  rw[<-hbs.out];unfold Zt;obtain⟨h1,h2⟩:=Z5m (cf.length / 4) cs cf;refine⟨?_,h2⟩;have h3:=CFL.out;have h4:=HI.out.fbl;have h5:=HI.out.len;omega)
 obtain⟨n,hn⟩:=zX (bs.length);rw[hn.out]at OB BL ⊢;have BBX:Hid (∀W',Za (fun k=>k=p2\/k=mb2\/k=sp2\/W3.heap.size<=k) W3 W'->Z2B W' oa n oc bs):=zH (fun W' hs=>by
  obtain⟨vs,o1,o2,o3⟩:=OB.out;have l1:p2 < W2.heap.size:=L2.out p2 (.inl rfl);have l2:mb2 < W2.heap.size:=L2.out mb2 (.inr (.inl rfl));have l3:sp2 < W2.heap.size:=L2.out sp2 (.inr (.inr (.inl H2.out.stk.self)));have:XS W' W2.heap.size oa n oc bs:=⟨vs,Ze o1 hs (fun b hb h=>by
    have h4:=o1.lt b hb;rcases h with h | h | h | h <;> omega),o2,fun i hi=>by
    obtain⟨ai,ci,q1,q2⟩:=o3 i hi;refine⟨ai,ci,q1,Ze q2 hs (fun b hb h=>?_)⟩;obtain⟨cur,hk⟩:=Z6U q2 b hb;rcases h with rfl | rfl | rfl | h
    ·rw[H3.out.blk]at hk;simp only[Option.some.injEq,Obj.cells.injEq]at hk;exact absurd hk.2.1 (by decide)
    ·obtain⟨es,cl,hm⟩:=H3.out.map.blk;rw[hm]at hk;cases hk
    ·obtain⟨sa,sc,fa,fc,g1,_⟩:=id H3.out.stk;rw[g1]at hk;simp only[Option.some.injEq,Obj.cells.injEq]at hk;exact absurd hk.2.1 (by decide)
    ·have:=(q2.lt b hb).2;omega⟩
  exact this.rd)
 have FT0 : ∀k,Yd p2 mb2 (fun _=>none) (fun k=>k=sp2) k->k=p2\/k=mb2\/k=sp2\/W3.heap.size<=k:=fun k hk=>by
  rcases hk with h | h | h | ⟨a,x,h,_⟩
  ·exact .inl h
  ·exact .inr (.inl h)
  ·exact .inr (.inr (.inl h))
  ·cases h
 have NP0:p≠p2/\p≠mb2/\p≠sp2/\p < W3.heap.size:=by
  have q1:=GE2.out p2 (.inl rfl);have q2:=GE2.out mb2 (.inr (.inl rfl));have q3:=GE2.out sp2 (.inr (.inr (.inl rfl)));have q4:=PW1.out;have q5:=Zj P3.out;omega
 have CA0:Hid (Z7Q w1 W3 W3 p p2 mb2 sp2 SF S mb sp (fun _=>none) (fun k=>k=sp2) (Zf.new S.f S.id) bs 0):=zH ⟨H3.out,Xe.new HI.out.v HI.out.id,rfl,by rw[List.drop_zero],Nat.le_refl _,Za.refl _ _,FT0,P3.out,NP0⟩;clear FT0 NP0 OB H3 P3 H2 L2;have N63:Hid ((n:Int)<=400):=zH (by have h1:=BL.out.1;have h2:=HLEN.out;have h3:=hn.out;omega);go_wp2_with fail;go_loopw [50] (fun iv wr=>∃(i:Nat) (A:Zf) (G2:Nm->Option LN) (SF2:Nat->Prop),iv = .int .i64 (i:Int)/\i<=n/\Hid (Z7Q w1 W3 wr p p2 mb2 sp2 SF S mb sp G2 SF2 A bs i)) (fun iv _=>n - (intOf iv).toNat)
 case atStart=>exact⟨0,_,_,_,rfl,Nat.zero_le _,CA0⟩
 case round=>
  clear CA0;obtain⟨i,A,G2,SF2,rfl,hin,CA⟩:=hrel;by_cases hlt:i < n
  ·have t0:decide ((i:Int) < (n:Int))=true:=by simp;omega
   obtain⟨b,off,hoa,hc⟩:=(BBX.out wr CA.out.same).at (show 0 < n by omega);obtain⟨ai,ci,hx,hri⟩:=hc i hlt;obtain⟨x,Hx⟩ : ∃x,bs[i]? = some x:=⟨_,List.getElem?_eq_getElem (by rw[hn.out];exact hlt)⟩;rw[Hx]at hx hri;have RX:=zH (show Yg wr ai x.length ci x from hri);have XL:=zH (BL.out.2 x (List.mem_of_getElem? Hx));have DR:=zH (ZbR Hx);have hk64:(i:Int) < n:=by omega
   simp only[Option.getD_some]at hx;clear hc hri Hx;subst hoa;have c0:=Z6 CA.out.blk 0 (.int .i64 S.f.rings) rfl;have c1:=Z6 CA.out.blk 1 (.int .i64 S.f.sectors) rfl;have c2:=Z6 CA.out.blk 2 (.int .i64 S.f.wide) rfl;go_wp2_with fail;clear t0;have DC:=zH (Z2X S.f x ai x.length ci wr RX.out (Nat.le_trans XL.out (by decide)));have hvl:S.f.val = .agg #[.int .i64 S.f.rings,.int .i64 S.f.sectors,.int .i64 S.f.wide]:=rfl;rw[hvl]at DC;clear hvl;refine DC.out.mono ?_;clear DC;rintro e w5 (⟨m,sa,sc,hdec,rfl,ho,b5⟩ | ⟨hdec,rfl,b5⟩)
   ·have DE:Hid (Qu A.f x=some m):=zH (by rw[CA.out.f];exact hdec);have MC:=zH (ZbU hdec);have MOK:Hid m.Ok:=zH (ZaX (Z6B MC.out.1));have O5:=zH ho;have F2L:=zH CA.out.hou.lt;have WRS:=zH b5.size;replace CA:=zH (CA.out.below b5);clear hdec ho b5 c0 c1 c2 hx;go_upto_region 11 with (first
     |(refine zP w5 w5.heap.size (Z5 m sa sc) ?_))
    have bt:Below w5.heap.size w5 (w5.alloc (.cells (Z5 m sa sc) 47)):=zB _ _;have N14:=zH (Z9 w5 (.cells (Z5 m sa sc) 47));replace CA:=zH (CA.out.below bt);replace O5:=zH (Zd O5.out bt);replace WRS:=zH (Nat.le_trans WRS.out bt.size);obtain⟨p14,hp14⟩:=zX (w5.heap.size);rw[hp14.out]at N14;rw[hp14.out];generalize w5.alloc (.cells (Z5 m sa sc) 47)=w6 at *;clear bt hp14;have b7:Below w6.heap.size w6 (w6.alloc (.cells (Z5 m sa sc) 47)):=zB _ _;have R7:=zH (Z9 w6 (.cells (Z5 m sa sc) 47));have CA7:=zH (CA.out.below b7);have O7:=zH (Zd O5.out b7);have PB:Hid (wr.heap.size<=w6.heap.size):=zH WRS.out;obtain⟨pb,hpb⟩:=zX (w6.heap.size);go_wp2_with (first
     |(refine zL p14 N14.out ?_)
     |(refine Jm rfl _ rfl m sa sc rfl ?_))
    rw[hpb.out]at R7 PB;rw[hpb.out];generalize w6.alloc (.cells (Z5 m sa sc) 47)=w7 at *;clear b7 hpb;refine(Z5q p2 mb2 sp2 G2 SF2 A (some ⟨pb,0,none⟩) 1 1 [m] [⟨m,sa,sc⟩] w7 CA7.out.hou CA7.out.inv rfl (fun W hs=>⟨rfl,Nat.le_refl _,by decide,.inr ⟨pb,0,rfl,fun j y hy=>by
     have hj:j=0:=by have:=(List.getElem?_eq_some_iff.1 hy).1;simp at this;exact this
     subst hj;simp only[List.getElem?_cons_zero,Option.some.injEq]at hy;subst hy;refine⟨fun q v hv=>?_,ZW.of_own (Ze O7.out hs (fun b hb h=>by have h1:=F2L.out b h;have h2:=(O7.out.lt b hb).1;omega))⟩;have hb2:=hs.block pb (Zj R7.out) (fun h=>by have h1:=F2L.out pb h;have h2:=PB.out;omega);have h3:W.heap[pb]? = some (.cells (Z5 m sa sc) 47):=hb2.trans R7.out;rw[show 0+0 * 19+q=q by omega];exact Z6 h3 q v (by rw[<-Array.getElem?_toList];exact hv)⟩⟩) (fun y hy=>by rw[List.mem_singleton.1 hy];exact MOK.out) (by have h1:=CA7.out.len;have h2:=N63.out;omega)).mono ?_
    rintro e w8 ⟨rfl,G3,SF3,h1,h2,h3⟩;obtain⟨A',XT,code,hap⟩ : ∃A' XT code,Hid (ZJ A [m]=(A',XT,code)):=⟨_,_,_,zH rfl⟩;have HI2:=(Z2p CA7.out.inv (l:=[m]) (fun y hy=>by rw[List.mem_singleton.1 hy];exact MOK.out));have HF2:=Zdy A [m];have HST := @Za4 A m;rw[hap.out]at h1 HI2 HF2 HST ⊢;dsimp only at h1 HI2 HF2 HST ⊢;have H8:=zH h1;have S8:=zH h2;have F8:=zH h3;have I8:=zH HI2;have E8:=zH HF2;have T8:=zH HST;clear h1 h2 h3 HI2 HF2 HST;by_cases hgo:code=0/\XT=1
    ·obtain⟨rfl,rfl⟩:=hgo;have CA8:=zH (CA7.out.step (j:=i+1) H8.out I8.out.1 (E8.out.trans CA7.out.f) (CA7.out.rcv.trans (by rw[DR.out];exact Z3H DE.out hap.out)) (Nat.le_trans I8.out.2 (Nat.add_le_add_right CA7.out.len 1)) S8.out F8.out);clear CA CA7 H8 S8 F8 I8 E8 T8 hap;have hi64:(i:Int)+1<=401:=by have:=N63.out;omega
     go_wp2;go_roundw
     case rel=>exact⟨i+1,A',G3,SF3,by go_num,by omega,CA8⟩
     case measure=>simp[intOf];omega
    have hAA:A'=A:=T8.out hgo;have REC:Hid (Vh (Zf.new S.f S.id) bs=A):=zH (by
     rw[CA7.out.rcv,DR.out];refine Z3G ?_;rw[DE.out];show(if (ZJ A [m]).2.2=0/\(ZJ A [m]).2.1=1 then some (ZJ A [m]).1 else none)=none;rw[hap.out];exact if_neg hgo)
    rw[hAA]at H8;replace CA:=zH (CA7.out.step (j:=i) H8.out CA7.out.inv CA7.out.f CA7.out.rcv CA7.out.len S8.out F8.out);clear CA7 H8 S8 F8 I8 E8 T8 hap hAA;by_cases hc0:code=0
    focus
     have t1:(XT != 1)=true:=by
      have:XT≠1:=fun h=>hgo ⟨hc0,h⟩;simp[this]
     subst hc0;clear hgo
    rotate_left
    focus
     have t1:(code != 0)=true:=by simp[hc0]
     clear hgo hc0
    all_goals
     go_upto_region 15 with fail;clear t1 hlt;go_wp2_with fail;refine(Jh p2 mb2 sp2 G3 SF3 A _ CA.out.hou).mono ?_;rintro e X1 ⟨rfl,h1,h2⟩;have HS:=zH h1;have SX:=zH h2;have PX:=zH ((h2.block p (Zj CA.out.blk) CA.out.np.2.2.1).trans CA.out.blk);have P2X:Hid (X1.heap[p2]? = some (.cells (Xy A.f A.id mb2 A.c sp2) 109)):=zH h1.blk;have SP2:=zH CA.out.hou.stk.self;have HSZ:Hid ((zq.info? 109).map (·.size)=some (Xy A.f A.id mb2 A.c sp2).size):=zH (by kernel_rfl);clear h1 h2;have oneH:=Z4d A.f A.id mb2 A.c sp2;go_wp2_with (first
      |(refine wpList_load_row rfl 109 _ rfl p2 rfl 109 (Xy A.f A.id mb2 A.c sp2) (0,0) _ P2X.out Tryz.underlying109 rfl HSZ.out ?_)
      |(refine Xr rfl 109 _ _ rfl p (Xy S.f S.id mb S.c sp) (Xy A.f A.id mb2 A.c sp2) 109 rfl rfl PX.out HSZ.out rfl oneH ?_))
     go_ret;have S3:=Z23 X1 p (Xy A.f A.id mb2 A.c sp2);have g1:=GE2.out p2 (.inl rfl);have g2:=GE2.out mb2 (.inr (.inl rfl));have g3:=GE2.out sp2 (.inr (.inr (.inl rfl)));have g4:=S1.out.size;have g5:=B3.out.size;have g6 : ∀k,k=p2\/k=mb2\/k=sp2\/W3.heap.size<=k->w1.heap.size<=k:=fun k hk=>by omega
     have HS3:=HS.out.same S3 (fun k hk h=>by
      rw[show k=p from hk]at h;have h5:=CA.out.np;rcases CA.out.foot p h with h | h | h | h <;> omega)
     have SW1:Za (Yd p mb G SF) w1 W3:=(S1.out.weaken (fun k hk=>.inr (.inr (.inl hk)))).trans (Za.of_below B3.out);have SW2:=Xj SW1 CA.out.same (fun k hk=>.inr (g6 k hk));have SW3:=Xj SW2 SX.out (fun k hk=>.inr (g6 k (.inr (.inr (.inl hk)))));have SW4:=SW3.trans (S3.weaken (fun k hk=>.inl hk));exact⟨A.sync,0,.inr ⟨HC.out,by rw[Int.toNat_natCast,Int.toNat_natCast,hcs.out,hcf.out,hbs.out,REC.out],rfl⟩,CA.out.inv.sync,rfl,mb2,sp2,G3,SF3,
      ⟨Yp X1 p _ (Xy A.f A.id mb2 A.c sp2) _ _ PX.out,HS3.map,HS3.gs,HS3.gl,HS3.str,HS3.stk⟩,SW4,fun k hk=>by
       rcases hk with h | h
       ·exact .inl (.inl h)
       ·exact .inr (g6 k (CA.out.foot k (.inr h)))⟩
   ·have REC:Hid (Vh (Zf.new S.f S.id) bs=A):=zH (by
     rw[CA.out.rcv,DR.out];refine Z3G ?_;rw[CA.out.f,hdec];rfl)
    replace CA:=zH (CA.out.below b5);clear hdec b5 c0 c1 c2 hx;go_upto_region 11 with (first
     |(refine zP w5 w5.heap.size (Z5 Zh none 0) ?_))
    have bt:Below w5.heap.size w5 (w5.alloc (.cells (Z5 Zh none 0) 47)):=zB _ _;replace CA:=zH (CA.out.below bt);clear bt;generalize w5.alloc (.cells (Z5 Zh none 0) 47)=w6 at *;go_upto_region 15 with fail;clear hlt;go_wp2_with fail;refine(Jh p2 mb2 sp2 G2 SF2 A _ CA.out.hou).mono ?_;rintro e X1 ⟨rfl,h1,h2⟩;have HS:=zH h1;have SX:=zH h2;have PX:=zH ((h2.block p (Zj CA.out.blk) CA.out.np.2.2.1).trans CA.out.blk);have P2X:Hid (X1.heap[p2]? = some (.cells (Xy A.f A.id mb2 A.c sp2) 109)):=zH h1.blk;have SP2:=zH CA.out.hou.stk.self;have HSZ:Hid ((zq.info? 109).map (·.size)=some (Xy A.f A.id mb2 A.c sp2).size):=zH (by kernel_rfl);clear h1 h2;have oneH:=Z4d A.f A.id mb2 A.c sp2;go_wp2_with (first
     |(refine wpList_load_row rfl 109 _ rfl p2 rfl 109 (Xy A.f A.id mb2 A.c sp2) (0,0) _ P2X.out Tryz.underlying109 rfl HSZ.out ?_)
     |(refine Xr rfl 109 _ _ rfl p (Xy S.f S.id mb S.c sp) (Xy A.f A.id mb2 A.c sp2) 109 rfl rfl PX.out HSZ.out rfl oneH ?_))
    go_ret;have S3:=Z23 X1 p (Xy A.f A.id mb2 A.c sp2);have g1:=GE2.out p2 (.inl rfl);have g2:=GE2.out mb2 (.inr (.inl rfl));have g3:=GE2.out sp2 (.inr (.inr (.inl rfl)));have g4:=S1.out.size;have g5:=B3.out.size;have g6 : ∀k,k=p2\/k=mb2\/k=sp2\/W3.heap.size<=k->w1.heap.size<=k:=fun k hk=>by omega
    have HS3:=HS.out.same S3 (fun k hk h=>by
     rw[show k=p from hk]at h;have h5:=CA.out.np;rcases CA.out.foot p h with h | h | h | h <;> omega)
    have SW1:Za (Yd p mb G SF) w1 W3:=(S1.out.weaken (fun k hk=>.inr (.inr (.inl hk)))).trans (Za.of_below B3.out);have SW2:=Xj SW1 CA.out.same (fun k hk=>.inr (g6 k hk));have SW3:=Xj SW2 SX.out (fun k hk=>.inr (g6 k (.inr (.inr (.inl hk)))));have SW4:=SW3.trans (S3.weaken (fun k hk=>.inl hk));exact⟨A.sync,0,.inr ⟨HC.out,by rw[Int.toNat_natCast,Int.toNat_natCast,hcs.out,hcf.out,hbs.out,REC.out],rfl⟩,CA.out.inv.sync,rfl,mb2,sp2,G2,SF2,
     ⟨Yp X1 p _ (Xy A.f A.id mb2 A.c sp2) _ _ PX.out,HS3.map,HS3.gs,HS3.gl,HS3.str,HS3.stk⟩,SW4,fun k hk=>by
      rcases hk with h | h
      ·exact .inl (.inl h)
      ·exact .inr (g6 k (CA.out.foot k (.inr h)))⟩
  ·have t0:decide ((i:Int) < (n:Int))=false:=by simp;omega
   have REC:Hid (Vh (Zf.new S.f S.id) bs=A):=zH (by rw[CA.out.rcv,List.drop_of_length_le (by rw[hn.out];omega)];rfl);go_upto_region 15 with fail;clear t0 hlt;go_wp2_with fail;refine(Jh p2 mb2 sp2 G2 SF2 A _ CA.out.hou).mono ?_;rintro e X1 ⟨rfl,h1,h2⟩;have HS:=zH h1;have SX:=zH h2;have PX:=zH ((h2.block p (Zj CA.out.blk) CA.out.np.2.2.1).trans CA.out.blk);have P2X:Hid (X1.heap[p2]? = some (.cells (Xy A.f A.id mb2 A.c sp2) 109)):=zH h1.blk;have SP2:=zH CA.out.hou.stk.self;have HSZ:Hid ((zq.info? 109).map (·.size)=some (Xy A.f A.id mb2 A.c sp2).size):=zH (by kernel_rfl);clear h1 h2;have oneH:=Z4d A.f A.id mb2 A.c sp2;go_wp2_with (first
    |(refine wpList_load_row rfl 109 _ rfl p2 rfl 109 (Xy A.f A.id mb2 A.c sp2) (0,0) _ P2X.out Tryz.underlying109 rfl HSZ.out ?_)
    |(refine Xr rfl 109 _ _ rfl p (Xy S.f S.id mb S.c sp) (Xy A.f A.id mb2 A.c sp2) 109 rfl rfl PX.out HSZ.out rfl oneH ?_))
   go_ret;have S3:=Z23 X1 p (Xy A.f A.id mb2 A.c sp2);have g1:=GE2.out p2 (.inl rfl);have g2:=GE2.out mb2 (.inr (.inl rfl));have g3:=GE2.out sp2 (.inr (.inr (.inl rfl)));have g4:=S1.out.size;have g5:=B3.out.size;have g6 : ∀k,k=p2\/k=mb2\/k=sp2\/W3.heap.size<=k->w1.heap.size<=k:=fun k hk=>by omega
   have HS3:=HS.out.same S3 (fun k hk h=>by
    rw[show k=p from hk]at h;have h5:=CA.out.np;rcases CA.out.foot p h with h | h | h | h <;> omega)
   have SW1:Za (Yd p mb G SF) w1 W3:=(S1.out.weaken (fun k hk=>.inr (.inr (.inl hk)))).trans (Za.of_below B3.out);have SW2:=Xj SW1 CA.out.same (fun k hk=>.inr (g6 k hk));have SW3:=Xj SW2 SX.out (fun k hk=>.inr (g6 k (.inr (.inr (.inl hk)))));have SW4:=SW3.trans (S3.weaken (fun k hk=>.inl hk));exact⟨A.sync,0,.inr ⟨HC.out,by rw[Int.toNat_natCast,Int.toNat_natCast,hcs.out,hcf.out,hbs.out,REC.out],rfl⟩,CA.out.inv.sync,rfl,mb2,sp2,G2,SF2,
    ⟨Yp X1 p _ (Xy A.f A.id mb2 A.c sp2) _ _ PX.out,HS3.map,HS3.gs,HS3.gl,HS3.str,HS3.stk⟩,SW4,fun k hk=>by
     rcases hk with h | h
     ·exact .inl (.inl h)
     ·exact .inr (g6 k (CA.out.foot k (.inr h)))⟩
open Go.ChangeShapes Go.WideShapes Go.ChangeAt Go.RowKit
theorem Tryz.own:ownKnob zq.godebug=none:=by kernel_rfl
theorem Tryz.laidOut:laidOutB zq=true:=by kernel_rfl
theorem Z0X {H:Type}{enc:TypeId×Value->H}{P:Program}(hl:laidOutB P=true){W W':World}(hb:Below W.heap.size W W'):
  ∀(ts:List TypeId) {vs:List Value} {ds:List (DataW H)} {ps:List MemPlace},ts.all (fun t=>P.readableRec t && decide (t < P.types.size))=true->(∀x∈ps,x.block < W.heap.size)->
   DataW.TrodAll enc P W 0 (fun _=>true) true ts vs ds ps->DataW.TrodAll enc P W' 0 (fun b=>decide (b < W.heap.size)) true ts vs ds ps
 | [],[],[],_,_,_,h=>h
 | [],_ :: _,_,_,_,_,h=>h.elim
 | [],[],_ :: _,_,_,_,h=>h.elim
 | _ :: _,[],_,_,_,_,h=>h.elim
 | _ :: _,_ :: _,[],_,_,_,h=>h.elim
 | t :: ts,v :: vs,d :: ds,ps,hr,hlt,h=>by
  obtain⟨p,q,h1,h2,rfl⟩:=h
  simp only[List.all_cons,Bool.and_eq_true,decide_eq_true_eq]at hr
  exact⟨p,q,Below.trod hl hr.1.1 hr.1.2 h1 hb (fun x hx=>hlt x (List.mem_append_left _ hx)),Z0X hl hb ts hr.2 (fun x hx=>hlt x (List.mem_append_right _ hx)) h2,rfl⟩
theorem Z6R {H:Type}{enc:TypeId×Value->H}{P:Program}(hl:laidOutB P=true){t:TypeId}(ht:P.underlying t=some .bool){f:Func}{s:ChangeSpec}{W W':World}{args:ZV}{ds:List (DataW H)}{ps:List MemPlace}
  (hv:s.vars=[]) (hf:f.resultTypes = #[t]) (hr:f.params.toList.all (fun t=>P.readableRec t && decide (t < P.types.size))=true)
  (hW:DataW.Whole enc P f.params.toList s.vars false W args.toList ds [] ps) (hA:DataW.TrodAll enc P W 0 (fun _=>true) true f.params.toList args.toList ds ps)
  (hs:s.fn H (ds ++ []) = { results:=[.lit (.bool true)],args:=ds }) (hb:Below W.heap.size W W'):s.post enc P f false true false false W args (.bool true) W':=by
 refine⟨ds,[],ps,[],ps,[],hW,?_,?_,?_,hb.frame _,fun h=>by cases h⟩
 ·rw[hs,hf];exact trodAll_mk1 (shut_bool ht _)
 ·rw[hs];exact Z0X hl hb _ hr hW.lt hA
 ·rw[hs,hv];rfl
theorem YJ {x:Int}(h:(Lit.int .i64 x).wf=true):Jl x:=by
 simp[Lit.wf,IntKind.min,IntKind.max,IntKind.signed,IntKind.bits]at h;unfold Jl;omega
theorem Tryz.cells3:zq.cellsOf 3=1:=by kernel_rfl
theorem Tryz.cells37:zq.cellsOf 37=1:=by kernel_rfl
theorem Tryz.cells43:zq.cellsOf 43=2:=by kernel_rfl
theorem Tryz.cells45:zq.cellsOf 45=2:=by kernel_rfl
theorem Tryz.cells47:zq.cellsOf 47=19:=by kernel_rfl
section
variable {H:Type}{enc:TypeId×Value->H}{W:World}{fuel:Nat}
theorem Zb7 {cs:List Value}{y:DataW H×List MemPlace}(h:DataW.trod enc zq W 0 (fun _=>true) true fuel 37 cs=some y): ∃a c l,cs=[.slice a l.length c]/\XU W a l.length c l /\ ∀z∈l,Jl z:=by
 rcases open_ints Tryz.underlying37 Tryz.underlying3 Tryz.cells3 h with ⟨hcs,hx⟩ | ⟨a,n,c,zs,hcs,_,hl,hm,hz,hx,hcell,hwz⟩
 ·exact⟨none,0,[],hcs,ZW.nil _ _,fun z hz=>by cases hz⟩
 ·simp only[if_true]at hz;have hlen:(zs.take n).length=n:=by rw[List.length_take];omega
  refine⟨some a,c,zs.take n,by rw[hlen];exact hcs,⟨by simp,by omega,hm,?_⟩,fun z hz=>YJ (hwz z (List.mem_of_mem_take hz))⟩;by_cases hc0:c=0
  ·exact .inl hc0
  ·obtain⟨ab,ao,spot⟩:=a;have hspot:spot=none:=by simpa [Addr.add] using World.cell?_spot (hcell 0 (by omega))
   subst hspot;refine .inr ⟨ab,ao,rfl,fun i x hx=>?_⟩;rw[List.getElem?_map,List.getElem?_take]at hx;split at hx
   ·rename_i hi;have hiz:i < zs.length:=by omega
    rw[List.getElem?_eq_getElem hiz,Option.map_some]at hx;simp only[Option.some.injEq]at hx;subst hx;have hc:=hcell i hiz;rw[Addr.add_lit]at hc;rw[hc,List.getD_eq_getElem?_getD,List.getElem?_eq_getElem hiz];rfl
   ·cases hx
theorem Y5 {α:Type}{xs:List α}{n i:Nat}(h:xs.length=n)(hi:i < n): ∃y,xs[i]? = some y:=⟨xs[i]'(by omega),List.getElem?_eq_getElem (by omega)⟩
theorem Z3I {t:TypeId}{cs:List Value}{y:DataW H×List MemPlace}{f0 f1:Field}(ht:zq.underlying t=some (.struct #[f0,f1]))(h0:f0.type=3)(h1:f1.type=3)(o0:f0.offset=0)(o1:f1.offset=1)(hc:zq.cellsOf t=2)
  (h:DataW.trod enc zq W 0 (fun _=>true) true fuel t cs=some y) : ∃x z,cs=[.int .i64 x,.int .i64 z]/\Jl x/\Jl z:=by
 obtain⟨y0,y1,n,_,hl,g0,g1⟩:=trod_struct2 ht h;rw[hc]at hl
 match cs,hl with
 | [c0,c1],_=>
  rw[h0,o0,Tryz.cells3]at g0;rw[h1,o1,Tryz.cells3]at g1;obtain⟨x,a0,_,b0⟩:=DataW.trod_int Tryz.underlying3 g0;obtain⟨z,a1,_,b1⟩:=DataW.trod_int Tryz.underlying3 g1;simp at a0 a1;exact⟨x,z,by rw[a0,a1],YJ b0,YJ b1⟩
theorem Z8d {cs:List Value}{y:DataW H×List MemPlace}(h:DataW.trod enc zq W 0 (fun _=>true) true fuel 47 cs=some y): ∃n:Z8,ZdL W cs n:=by
 obtain⟨xs,m,_,_,hl,hlen,hf⟩:=DataW.trod_struct Tryz.underlying47 h;rw[Tryz.cells47]at hl
 match cs,hl with
 | [c0,c1,c2,c3,c4,c5,c6,c7,c8,c9,c10,c11,c12,c13,c14,c15,c16,c17,c18],_=>
  obtain⟨y0,e0⟩:=Y5 hlen (i:=0) (by decide);have HG:=fun(K T:Nat) {y} (h:DataW.trod enc zq W 0 (fun _=>true) true m T (([c0,c1,c2,c3,c4,c5,c6,c7,c8,c9,c10,c11,c12,c13,c14,c15,c16,c17,c18].drop K).take (zq.cellsOf T))=some y)=>h;have g0:=HG 0 3 ((hf 0 _ rfl).trans e0);rw[Tryz.cells3]at g0;obtain⟨x0,a0,_,b0⟩:=DataW.trod_int Tryz.underlying3 g0;simp at a0;clear e0 g0;obtain⟨y1,e1⟩:=Y5 hlen (i:=1) (by decide);have g1:=HG 1 3 ((hf 1 _ rfl).trans e1);rw[Tryz.cells3]at g1;obtain⟨x1,a1,_,b1⟩:=DataW.trod_int Tryz.underlying3 g1;simp at a1;clear e1 g1;obtain⟨y2,e2⟩:=Y5 hlen (i:=2) (by decide);have g2:=HG 2 3 ((hf 2 _ rfl).trans e2);rw[Tryz.cells3]at g2;obtain⟨x2,a2,_,b2⟩:=DataW.trod_int Tryz.underlying3 g2;simp at a2;clear e2 g2;obtain⟨y3,e3⟩:=Y5 hlen (i:=3) (by decide);have g3:=HG 3 3 ((hf 3 _ rfl).trans e3);rw[Tryz.cells3]at g3;obtain⟨x3,a3,_,b3⟩:=DataW.trod_int Tryz.underlying3 g3;simp at a3;clear e3 g3;obtain⟨y4,e4⟩:=Y5 hlen (i:=4) (by decide);have g4:=HG 4 3 ((hf 4 _ rfl).trans e4);rw[Tryz.cells3]at g4;obtain⟨x4,a4,_,b4⟩:=DataW.trod_int Tryz.underlying3 g4;simp at a4;clear e4 g4;obtain⟨y5,e5⟩:=Y5 hlen (i:=5) (by decide);have g5:=HG 5 3 ((hf 5 _ rfl).trans e5);rw[Tryz.cells3]at g5;obtain⟨x5,a5,_,b5⟩:=DataW.trod_int Tryz.underlying3 g5;simp at a5;clear e5 g5;obtain⟨y6,e6⟩:=Y5 hlen (i:=6) (by decide);have g6:=HG 6 3 ((hf 6 _ rfl).trans e6);rw[Tryz.cells3]at g6;obtain⟨x6,a6,_,b6⟩:=DataW.trod_int Tryz.underlying3 g6;simp at a6;clear e6 g6;obtain⟨y7,e7⟩:=Y5 hlen (i:=7) (by decide);have g7:=HG 7 3 ((hf 7 _ rfl).trans e7);rw[Tryz.cells3]at g7;obtain⟨x7,a7,_,b7⟩:=DataW.trod_int Tryz.underlying3 g7;simp at a7;clear e7 g7;obtain⟨y8,e8⟩:=Y5 hlen (i:=8) (by decide);have g8:=HG 8 43 ((hf 8 _ rfl).trans e8);rw[Tryz.cells43]at g8;obtain⟨x8,z8,a8,b8,d8⟩:=Z3I Tryz.underlying43 rfl rfl rfl rfl Tryz.cells43 g8;simp at a8;clear e8 g8;obtain⟨y9,e9⟩:=Y5 hlen (i:=9) (by decide);have g9:=HG 10 43 ((hf 9 _ rfl).trans e9);rw[Tryz.cells43]at g9;obtain⟨x9,z9,a9,b9,d9⟩:=Z3I Tryz.underlying43 rfl rfl rfl rfl Tryz.cells43 g9
  simp at a9;clear e9 g9;obtain⟨y10,e10⟩:=Y5 hlen (i:=10) (by decide);have g10:=HG 12 3 ((hf 10 _ rfl).trans e10);rw[Tryz.cells3]at g10;obtain⟨x10,a10,_,b10⟩:=DataW.trod_int Tryz.underlying3 g10;simp at a10;clear e10 g10;obtain⟨y11,e11⟩:=Y5 hlen (i:=11) (by decide);have g11:=HG 13 3 ((hf 11 _ rfl).trans e11);rw[Tryz.cells3]at g11;obtain⟨x11,a11,_,b11⟩:=DataW.trod_int Tryz.underlying3 g11;simp at a11;clear e11 g11;obtain⟨y12,e12⟩:=Y5 hlen (i:=12) (by decide);have g12:=HG 14 3 ((hf 12 _ rfl).trans e12);rw[Tryz.cells3]at g12;obtain⟨x12,a12,_,b12⟩:=DataW.trod_int Tryz.underlying3 g12;simp at a12;clear e12 g12;obtain⟨y13,e13⟩:=Y5 hlen (i:=13) (by decide);have g13:=HG 15 37 ((hf 13 _ rfl).trans e13);rw[Tryz.cells37]at g13;obtain⟨sa,sc,l,a13,r13,b13⟩:=Zb7 g13;simp at a13;clear e13 g13;obtain⟨y14,e14⟩:=Y5 hlen (i:=14) (by decide);have g14:=HG 16 45 ((hf 14 _ rfl).trans e14);rw[Tryz.cells45]at g14;obtain⟨x14,z14,a14,b14,d14⟩:=Z3I Tryz.underlying45 rfl rfl rfl rfl Tryz.cells45 g14;simp at a14;clear e14 g14;obtain⟨y15,e15⟩:=Y5 hlen (i:=15) (by decide);have g15:=HG 18 3 ((hf 15 _ rfl).trans e15);rw[Tryz.cells3]at g15;obtain⟨x15,a15,_,b15⟩:=DataW.trod_int Tryz.underlying3 g15;simp at a15;clear e15 g15;exact⟨{ house:=x0,num:=x1,clock:=x2,day:=x3,kind:=x4,stone:=x5,heap:=x6,turns:=x7,hardLo:=x8,hardHi:=z8,diffLo:=x9,diffHi:=z9,a:=x10,b:=x11,ring:=x12,strokes:=l,refH:=x14,refN:=z14,fix:=x15 },sa,sc,by simp only[Z8.cells];rw[a0,a1,a2,a3,a4,a5,a6,a7,a8.1,a8.2,a9.1,a9.2,a10,a11,a12,a13,a14.1,a14.2,a15],r13,{ house:=YJ b0,num:=YJ b1,clock:=YJ b2,day:=YJ b3,kind:=YJ b4,stone:=YJ b5,heap:=YJ b6,turns:=YJ b7,hardLo:=b8,hardHi:=d8,diffLo:=b9,diffHi:=d9,a:=YJ b10,b:=YJ b11,ring:=YJ b12,strokes:=b13,refH:=b14,refN:=d14,fix:=YJ b15 }⟩
end
theorem Tryz.cells23:zq.cellsOf 23=3:=by kernel_rfl
section
variable {H:Type}{enc:TypeId×Value->H}{W:World}
theorem Z7i {base:Nat}{v:Value}{d:DataW H}{p:List MemPlace}(hval:Value.okWide zq W .any base 23 v)
  (h:DataW.Trod enc zq W 0 (fun _=>true) true 23 v d p) : ∃f:Yh,v=f.val:=by
 obtain⟨cs,rfl,hsz⟩:=okWide_struct Tryz.underlying23 hval;obtain⟨fuel,hf⟩:=h;obtain⟨y0,y1,y2,n,_,hl,g0,g1,g2⟩:=Go.Deep.trod_struct3 Tryz.underlying23 hf;rw[Tryz.cells23]at hsz;obtain⟨l⟩:=cs
 match l,hsz with
 | [c0,c1,c2],_=>
  have g0':DataW.trod enc zq W 0 (fun _=>true) true n 3 (([c0,c1,c2].drop 0).take (zq.cellsOf 3))=some y0:=g0;have g1':DataW.trod enc zq W 0 (fun _=>true) true n 3 (([c0,c1,c2].drop 1).take (zq.cellsOf 3))=some y1:=g1;have g2':DataW.trod enc zq W 0 (fun _=>true) true n 3 (([c0,c1,c2].drop 2).take (zq.cellsOf 3))=some y2:=g2;rw[Tryz.cells3]at g0' g1' g2';obtain⟨x0,a0,_,_⟩:=DataW.trod_int Tryz.underlying3 g0';obtain⟨x1,a1,_,_⟩:=DataW.trod_int Tryz.underlying3 g1';obtain⟨x2,a2,_,_⟩:=DataW.trod_int Tryz.underlying3 g2';simp at a0 a1 a2;exact⟨⟨x0,x1,x2⟩,by rw[a0,a1,a2];rfl⟩
theorem Z4v {a:Addr}{n:Nat}{cs:List Value}(hn:0 < n)(h:W.cells? 0 a n=some cs):a.spot=none:=by
 have h2:=World.cells?_some h;have h3:=h2.2.2 0 (by have:=h2.1;omega);rw[List.getElem?_eq_getElem (by have:=h2.1;omega)]at h3;simpa [Addr.add] using World.cell?_spot h3
theorem Z7E {α:Type}{n:Nat}{P:Nat->α->Prop}(h : ∀i,i < n -> ∃x,P i x): ∃l:List α,l.length=n /\ ∀i x,l[i]? = some x->P i x:=by
 induction n with
 | zero=>exact⟨[],rfl,by simp⟩
 | succ n ih=>
  obtain⟨l,h1,h2⟩:=ih (fun i hi=>h i (by omega));obtain⟨x,hx⟩:=h n (by omega);refine⟨l ++ [x],by simp[h1],fun i y hy=>?_⟩;rcases Nat.lt_or_ge i l.length with hi | hi
  ·rw[List.getElem?_append_left hi]at hy;exact h2 i y hy
  ·rw[List.getElem?_append_right hi]at hy;have:i - l.length=0:=by
    rcases Nat.eq_zero_or_pos (i - l.length)with h0 | h0
    ·exact h0
    ·rw[List.getElem?_eq_none (by simp;omega)]at hy;cases hy
   rw[this]at hy;simp at hy;subst hy;have:i=n:=by omega
   rw[this];exact hx
end
theorem Z6a {f:Yh}(hv:f.valid=true){l:List Z8}(h : ∀x∈l,Zg f x=true):l.any (fun n=>!decide (ZP f n=0))=false:=by
 rw[List.any_eq_false];intro x hx;have:ZP f x=0:=by unfold ZP;rw[if_pos hv,if_pos (h x hx)]
 simp[this]
theorem VT {x:Z8}: ∀{fr l:List Z8},x∈Q8 l fr↔x∈l\/x∈fr
 | [],l=>by simp[Q8]
 | n :: fr,l=>by
  show x∈Q8 (YV l n) fr↔_
  rw[VT,Ys,List.mem_cons,or_assoc]
theorem Z57: ∀{fr gs:List Z8} {S:Zf},QS S.c fr->QS (S.adds fr).c gs->QS S.c (fr ++ gs)
 | [],gs,S,_,h=>h
 | m :: fr,gs,S,h,h2=>⟨h.1,Z57 (S:=S.add m) h.2 h2⟩
theorem Z7L (S:Zf)(a b:List Z8):S.adds (a ++ b)=(S.adds a).adds b:=by unfold Zf.adds;rw[List.foldl_append]
theorem Z97: ∀(l:List Z8) (A:Zf),(A.adds l).sb=A.sb ++ Xg (l.map Y7)/\(A.adds l).fb=A.fb ++ Jk (l.map Y7)/\(A.adds l).sd=A.sd/\(A.adds l).fd=A.fd
 | [],A=>by simp[Zf.adds,Xg,Jk]
 | n :: l,A=>by
  obtain⟨h1,h2,h3,h4⟩:=Z97 l (A.add n)
  refine⟨?_,?_,h3,h4⟩
  ·show((A.add n).adds l).sb=_
   rw[h1,List.map_cons,JJ]
   show(A.sb ++ Zw (Y7 n)) ++ _=_
   rw[List.append_assoc]
  ·show((A.add n).adds l).fb=_
   rw[h2,List.map_cons,VB]
   show(A.fb ++ ZK (Y7 n)) ++ _=_
   rw[List.append_assoc]
theorem ZcZ (c:Int->Nat)(h a:Int):c a<=QD c h a:=by unfold QD;split <;> omega
theorem Z5D: ∀(l:List Z8) (A:Zf) (a:Int),A.c a<=(A.adds l).c a
 | [],_,_=>Nat.le_refl _
 | n :: l,A,a=>Nat.le_trans (ZcZ A.c n.house a) (Z5D l (A.add n) a)
theorem Z5C: ∀(l:List Z8) (A:Zf) (a:Int),(∀x∈l,x.house≠a)->(A.adds l).c a=A.c a
 | [],_,_,_=>rfl
 | n :: l,A,a,h=>by
  show((A.add n).adds l).c a=_
  rw[Z5C l (A.add n) a (fun x hx=>h x (List.mem_cons_of_mem _ hx))]
  show QD A.c n.house a=_
  unfold QD
  rw[if_neg (fun e=>h n (List.mem_cons_self ..) e.symm)]
theorem Z2s (S:Zf)(hv:S.f.valid=true)(n:Z8):((VA S n).1=S/\(VA S n).2.2≠0/\(VA S n).2.1=Zh)\/(VA S n=(S.add (QY S n),QY S n,0)/\Zg S.f (QY S n)=true):=by
 unfold VA;split
 ·exact .inl ⟨rfl,by show(2:Int)≠0;decide,rfl⟩
 ·split
  ·exact .inl ⟨rfl,by show(80:Int)≠0;decide,rfl⟩
  ·rename_i h2;split
   ·exact .inl ⟨rfl,by show(91:Int)≠0;decide,rfl⟩
   ·refine .inr ⟨rfl,?_⟩;have h3:ZP S.f (QY S n)=0:=by
     by_cases h3:ZP S.f (QY S n)=0
     ·exact h3
     ·exact absurd h3 (by simpa using h2)
    unfold ZP at h3;rw[if_pos hv]at h3;by_cases h4:Zg S.f (QY S n)=true
    ·exact h4
    ·rw[if_neg h4]at h3;cases h3
theorem Z0h {S:Zf}(hi:Xe S)(l:List Z8)(hok : ∀x∈l,x.Ok):((ZJ S l).1=S/\(ZJ S l).2.2≠0) \/ ∃fr,(ZJ S l)=(S.adds fr,(fr.length:Int),0)/\QS S.c fr/\(∀x∈fr,x∈l/\Zg S.f x=true/\x.Ok)/\((S.l ++ fr).map Zk).Nodup/\XW (S.l ++ fr) (S.adds fr).c:=by
 cases hb:l.any (fun n=>!decide (ZP S.f n=0))with
 | true=>rw[Z0y hb];exact .inl ⟨rfl,by show(80:Int)≠0;decide⟩
 | false=>
  have hf:=zm hi.v hb;cases hg:ZZ S.l [] S.c l with
  | none=>rw[zi hb hg];exact .inl ⟨rfl,by show(81:Int)≠0;decide⟩
  | some r=>
   obtain⟨fr,c'⟩:=r;rw[UH hb hg];have hn:XW (S.l ++ []) S.c:=by rw[List.append_nil];exact hi.nms
   obtain⟨t,e,hs,hm⟩:=UG l [] S.c hn (fun n hn=>(Y6 (hf n hn)).2.2) hg;rw[List.nil_append]at e;subst e;obtain⟨h1,h2,_⟩:=Z1A l [] S.c hn (by rw[List.append_nil];exact YH hi.srt) (fun n hn=>(Y6 (hf n hn)).2.2) hg;have hinv:=Z0q fr S hi hs (fun x hx=>⟨hf x (hm x hx),hok x (hm x hx)⟩);refine .inr ⟨fr,rfl,hs,fun x hx=>⟨hm x hx,hf x (hm x hx),hok x (hm x hx)⟩,h2,hinv.nms.perm fun x=>?_⟩;rw[Z0p,VT,List.mem_append]
structure VX (s:Nat)(S:Zf):Prop where
 inv:Xe S
 lad:S.l=Q8 [] S.ad
 sq:QS (fun _=>0) S.ad
 cc:S.c=((Zf.new S.f S.id).adds S.ad).c
 sb:S.sb=Xg (S.ad.map Y7)
 fb:S.fb=Jk (S.ad.map Y7)
 le:s<=S.ad.length
 sd:S.sd=(Xg ((S.ad.take s).map Y7)).length
 fd:S.fd=(Jk ((S.ad.take s).map Y7)).length
theorem VX.mem {s:Nat}{S:Zf}(h:VX s S){x:Z8}: x∈S.l↔x∈S.ad:=by
 rw[h.lad,VT];simp
theorem VX.new {f:Yh}{id:Int}(hv:f.valid=true)(h:1<=id/\id<=8):VX 0 (Zf.new f id):=
 ⟨Xe.new hv h,rfl,trivial,rfl,rfl,rfl,Nat.le_refl _,rfl,rfl⟩
theorem VX.sync {s:Nat}{S:Zf}(h:VX s S):VX S.ad.length S.sync:=
 ⟨h.inv.sync,h.lad,h.sq,h.cc,h.sb,h.fb,Nat.le_refl _,by
  show S.sb.length=(Xg ((S.ad.take S.ad.length).map Y7)).length
  rw[List.take_length,h.sb],by
  show S.fb.length=(Jk ((S.ad.take S.ad.length).map Y7)).length
  rw[List.take_length,h.fb]⟩
theorem VX.adds {s:Nat}{S:Zf}{fr:List Z8}(h:VX s S)(hs:QS S.c fr)(hf : ∀x∈fr,Zg S.f x=true/\x.Ok):VX s (S.adds fr):=by
 obtain⟨b1,b2,b3,b4⟩:=Z97 fr S;have ea:=Z1K fr S;have et:(S.adds fr).ad.take s=S.ad.take s:=by rw[ea,List.take_append_of_le_length h.le]
 refine⟨Z0q fr S h.inv hs hf,?_,?_,?_,?_,?_,?_,?_,?_⟩
 ·rw[Z0p,ea,h.lad];unfold Q8;rw[List.foldl_append]
 ·rw[ea];have h1:QS (Zf.new S.f S.id).c (S.ad ++ fr):=Z57 h.sq (by rw[<-h.cc];exact hs);exact h1
 ·rw[ea,Z1e,Z0E,Z7L];have hc : ∀(l:List Z8) (A B:Zf),A.c=B.c->(A.adds l).c=(B.adds l).c:=by
   intro l
   induction l with
   | nil=>intro A B e;exact e
   | cons n l ih=>intro A B e;exact ih (A.add n) (B.add n) (by show QD A.c n.house=QD B.c n.house;rw[e])
  exact hc fr _ _ h.cc
 ·rw[b1,ea,List.map_append,QZ,h.sb]
 ·rw[b2,ea,List.map_append,Uj,h.fb]
 ·rw[ea,List.length_append];exact Nat.le_trans h.le (Nat.le_add_right _ _)
 ·rw[b3,et];exact h.sd
 ·rw[b4,et];exact h.fd
theorem VX.add {s:Nat}{S:Zf}{n:Z8}(h:VX s S)(hf:Zg S.f n=true)(hok:n.Ok)(hn:n.num=(S.c n.house:Int)+1):VX s (S.add n):=
 h.adds (fr:=[n]) ⟨hn,trivial⟩ (fun x hx=>by rw[List.mem_singleton.1 hx];exact⟨hf,hok⟩)
theorem Za5 {A:Zf}{n:Z8}(h:Xe A)(hf:Zg A.f n=true)(hok:n.Ok)(hn:n.num=(A.c n.house:Int)+1):ZJ A [n]=(A.add n,1,0):=by
 have hb:[n].any (fun n=>!decide (ZP A.f n=0))=false:=by
  have:ZP A.f n=0:=by unfold ZP;rw[if_pos h.v,if_pos hf]
  simp[this]
 have hfree:=(h.add hf hok hn).2;have hg:ZZ A.l [] A.c [n]=some ([n],QD A.c n.house):=by
  rw[ZZ,List.append_nil,zg hfree];simp only;rw[if_neg (by omega)];rfl
 rw[UH hb hg];rfl
theorem Z2L {f:Yh}: ∀(l:List Z8) (A:Zf),Xe A->A.f=f->QS A.c l->(∀x∈l,Zg f x=true/\x.Ok)->Vh A (l.map Y7)=A.adds l
 | [],A,h,_,_,_=>rfl
 | n :: ns,A,h,hf,ho,hx=>by
  have h1:Zg A.f n=true:=by rw[hf];exact(hx n (List.mem_cons_self ..)).1
  have h2:=(hx n (List.mem_cons_self ..)).2
  have e:=Za5 h h1 h2 ho.1
  have ih:=Z2L ns (A.add n) (h.add h1 h2 ho.1).1 hf ho.2 (fun x hm=>hx x (List.mem_cons_of_mem _ hm))
  rw[Zat,List.map_cons,Z3H (Z2t h.v h1) e]
  exact ih
theorem VX.crash {s:Nat}{S S':Zf}{stock foil flip code:Int}(h:VX s S)(hc:CrP S stock foil flip S' code):
  (code=1/\S'=S)\/(code=0 /\ ∃k,s<=k/\k<=S.ad.length/\S'=((Zf.new S.f S.id).adds (S.ad.take k)).sync/\S'.ad=S.ad.take k/\VX S'.ad.length S'):=by
 rcases hc with ⟨_,h1,h2⟩ | ⟨hc,h1,h2⟩
 ·exact .inl ⟨h2,h1⟩
 refine .inr ⟨h2,?_⟩;have e1:S.ad.map Y7=(S.ad.take s).map Y7 ++ (S.ad.drop s).map Y7:=by rw[<-List.map_append,List.take_append_drop]
 have hcs:0<=stock/\0<=foil:=⟨hc.1,hc.2.2.1⟩;obtain⟨st,rfl⟩:=Int.eq_ofNat_of_zero_le hcs.1;obtain⟨fo,rfl⟩:=Int.eq_ofNat_of_zero_le hcs.2;have hfm : ∀x∈S.ad,Zg S.f x=true/\x.Ok:=fun x hx=>by
  have hx2:=h.mem.2 hx;exact⟨h.inv.frm x hx2,h.inv.ok x hx2⟩
 have hl : ∀x∈(S.ad.take s).map Y7 ++ (S.ad.drop s).map Y7,x.length<=8192:=fun x hx=>by
  rw[<-e1]at hx;obtain⟨y,hy,rfl⟩:=List.mem_map.1 hx;have:=Q7 h.inv.v (hfm y hy).1;omega
 rw[h.sb,h.fb,h.sd,h.fd,e1]at hc;obtain⟨k,hk,e⟩:=Z7C _ _ hl st fo flip hc;simp only[Int.toNat_natCast]at h1;rw[h.sb,h.fb,h.sd,h.fd,e1,e,<-List.map_take,<-List.map_append]at h1;have e2:S.ad.take s ++ (S.ad.drop s).take k=S.ad.take (s+k):=by rw[List.take_add]
 rw[e2]at h1;have hfk : ∀x∈S.ad.take (s+k),Zg S.f x=true/\x.Ok:=fun x hx=>hfm x (List.mem_of_mem_take hx);have hsq:QS (Zf.new S.f S.id).c (S.ad.take (s+k)):=Z14 _ _ _ h.sq;have hnew:=VX.new h.inv.v h.inv.id;rw[Z2L (f:=S.f) (S.ad.take (s+k)) (Zf.new S.f S.id) hnew.inv rfl hsq hfk]at h1;have hsk:s+k<=S.ad.length:=by
  rw[List.length_map,List.length_drop]at hk;have:=h.le;omega
 have e3:((Zf.new S.f S.id).adds (S.ad.take (s+k))).ad=S.ad.take (s+k):=by rw[Z1K];rfl
 refine⟨s+k,Nat.le_add_right _ _,hsk,h1,by rw[h1];exact e3,?_⟩;rw[h1];exact(hnew.adds hsq hfk).sync
inductive Xa where
 | ask (c:List Int)
 | gift (l:List Z8)
def Yo (l:List Z8):zU:=l.flatMap fun n=>XE ((Y7 n).length:Int) ++ Y7 n
def Xa.body:Xa->zU
 | .ask c=>XE 1 ++ (XE (c.length:Int) ++ ZA c)
 | .gift l=>XE 2 ++ (XE (l.length:Int) ++ Yo l)
structure MlV where
 frm:Int
 to:Int
 cont:Xa
def MlV.body (m:MlV):zU:=m.cont.body
structure ZD where
 f:Yh
 hs:List Zf
 ms:List MlV
structure YU where
 kind:Int
 house:Int
 to:Int
 idx:Int
 note:Z8
 keep:Int
 flip:Int
def Y9 (W:ZD)(h:Int):Option Zf:=if 1<=h then W.hs[(h - 1).toNat]? else none
def JM (W:ZD)(h:Int)(S:Zf):ZD := { W with hs:=W.hs.set (h - 1).toNat S }
def Qr (W:ZD)(i:Int):Option MlV:=if 0<=i then W.ms[i.toNat]? else none
def Xf (W:ZD)(i:Int):ZD := { W with ms:=W.ms.eraseIdx i.toNat }
def Vg (W:ZD)(m:MlV):ZD := { W with ms:=W.ms ++ [m] }
def JK (W:ZD)(a:YU):ZD×Int:=match Y9 W a.house with
 | none=>(W,1)
 | some S=>(JM W a.house (if (VA S a.note).2.2=0/\((VA S a.note).2.1.kind=2\/(VA S a.note).2.1.kind=4)then (VA S a.note).1.sync else (VA S a.note).1),(VA S a.note).2.2)
def JO (W:ZD)(a:YU):ZD×Int:=match Y9 W a.house with
 | none=>(W,1)
 | some S=>(JM W a.house S.sync,0)
def Xu (W:ZD)(a:YU):ZD×Int:=match Y9 W a.house with
 | none=>(W,1)
 | some S=>if (Y9 W a.to).isNone=true\/a.to=a.house then (W,1)else if 64<=W.ms.length then (W,2)else (Vg W ⟨a.house,a.to,.ask (V8 S.c)⟩,0)
def Z04 (S:Zf)(c:List Int):List Z8:=S.l.filter (fun n=>!Z0S c n)
def XB (W:ZD)(m:MlV):ZD×Int:=match Y9 W m.to with
 | none=>(W,1)
 | some S=>match m.cont with
  | .gift l=>(JM W m.to (ZJ S l).1,(ZJ S l).2.2)
  | .ask c=>if Z04 S c=[]then (JM W m.to S.sync,0)else (Vg (JM W m.to S.sync) ⟨m.to,m.frm,.gift ((Z04 S c).take 16)⟩,0)
def Yw (W:ZD)(a:YU):ZD×Int:=match Qr W a.idx with
 | none=>(W,3)
 | some m=>XB (Xf W a.idx) m
def Jq (W:ZD)(a:YU):ZD×Int:=match Qr W a.idx with
 | none=>(W,3)
 | some _=>(Xf W a.idx,0)
def Xb (W:ZD)(a:YU):ZD×Int:=match Qr W a.idx with
 | none=>(W,3)
 | some m=>if 64<=W.ms.length then (W,2)else (Vg W m,0)
noncomputable def crS (S:Zf) (stock foil flip:Int):Zf×Int:=open Classical in
 if Z00 S.sb S.fb S.sd S.fd stock foil flip then ((Vh (Zf.new S.f S.id) (Zt (Jj S.sb S.sd stock.toNat flip) (J5 S.fb S.fd stock.toNat foil.toNat flip))).sync,0)else (S,1)
theorem ZdG {S S':Zf}{x y z c:Int}(h:CrP S x y z S' c):crS S x y z=(S',c):=by
 unfold crS;rcases h with ⟨h1,h2,h3⟩ | ⟨h1,h2,h3⟩
 ·rw[if_neg h1,h2,h3]
 ·rw[if_pos h1,h2,h3]
theorem Z8N (S:Zf)(x y z:Int):CrP S x y z (crS S x y z).1 (crS S x y z).2:=by
 unfold crS;split
 ·rename_i h;exact .inr ⟨h,rfl,rfl⟩
 ·rename_i h;exact .inl ⟨h,rfl,rfl⟩
noncomputable def Xq (W:ZD) (a:YU):ZD×Int:=match Y9 W a.house with
 | none=>(W,1)
 | some S=>(JM W a.house (crS S a.keep a.flip a.idx).1,(crS S a.keep a.flip a.idx).2)
noncomputable def YZ (W:ZD) (a:YU):ZD×Int:=
 if a.kind=1 then JK W a else if a.kind=2 then JO W a else if a.kind=3 then Xu W a else if a.kind=4 then Yw W a
 else if a.kind=5 then Jq W a else if a.kind=6 then Xb W a else if a.kind=7 then Xq W a else (W,1)
def ZD.new (f:Yh)(n:Nat):ZD:=⟨f,(List.range n).map fun(i:Nat)=>Zf.new f ((i:Int)+1),[]⟩
def Dur (hs:List Zf)(ss:List Nat)(x:Z8):Prop := ∃(j:Nat) (S:Zf) (s:Nat),x.house=(j:Int)+1/\hs[j]? = some S/\ss[j]? = some s/\x∈S.ad.take s
def ZdP (hs:List Zf)(ss:List Nat):Xa->Prop
 | .ask c=>c.length=8 /\ ∀z∈c,0<=z/\z<=400
 | .gift l=>l≠[]/\l.length<=16 /\ ∀x∈l,Dur hs ss x
structure Zd8 (hs:List Zf)(ss:List Nat)(m:MlV):Prop where
 frm:1<=m.frm/\m.frm<=hs.length
 to:1<=m.to/\m.to<=hs.length
 cont:ZdP hs ss m.cont
def Z25 (hs:List Zf):Nat:=(hs.map fun S=>S.c S.id).sum
structure Y3 (W:ZD)(ss:List Nat)(T:Nat):Prop where
 v:W.f.valid=true
 n:1<=W.hs.length/\W.hs.length<=8
 st : ∀(k:Nat) (S:Zf),W.hs[k]? = some S -> ∃s,ss[k]? = some s/\VX s S/\S.f=W.f/\S.id=(k:Int)+1
 hou : ∀(k:Nat) (S:Zf) (x:Z8),W.hs[k]? = some S->x∈S.l->x.house=(k:Int)+1\/Dur W.hs ss x
 ml : ∀m∈W.ms,Zd8 W.hs ss m
 mn:W.ms.length<=64
 tot:Z25 W.hs<=T
theorem Z8R: ∀{l:List Zf} {k:Nat} {S S':Zf} (f:Zf->Nat),l[k]? = some S->((l.set k S').map f).sum+f S=(l.map f).sum+f S'
 | [],k,S,S',f,h=>by simp at h
 | a :: l,0,S,S',f,h=>by
  simp at h
  subst h
  simp
  omega
 | a :: l,k+1,S,S',f,h=>by
  have:=Z8R (l:=l) (k:=k) (S':=S') f (by simpa using h)
  simp at this ⊢
  omega
theorem Z8a {hs:List Zf}{k:Nat}{S S':Zf}(h:hs[k]? = some S):Z25 (hs.set k S')+S.c S.id=Z25 hs+S'.c S'.id:=Z8R (fun S=>S.c S.id) h
section
variable {W:ZD}{ss:List Nat}{T:Nat}
theorem Dur.elim (h:Y3 W ss T){x:Z8}(hx:Dur W.hs ss x): ∃(j:Nat) (S:Zf) (s:Nat),x.house=(j:Int)+1/\W.hs[j]? = some S/\ss[j]? = some s/\x∈S.ad.take s/\VX s S/\S.f=W.f/\S.id=(j:Int)+1/\x∈S.l:=by
 obtain⟨j,S,s,h1,h2,h3,h4⟩:=hx;obtain⟨s',e1,e2,e3,e4⟩:=h.st j S h2;rw[h3]at e1;cases e1;exact⟨j,S,s,h1,h2,h3,h4,e2,e3,e4,e2.mem.2 (List.mem_of_mem_take h4)⟩
theorem Dur.ok (h:Y3 W ss T){x:Z8}(hx:Dur W.hs ss x):Zg W.f x=true/\x.Ok/\1<=x.house/\x.house<=W.hs.length:=by
 obtain⟨j,S,s,h1,h2,_,_,h5,h6,_,h8⟩:=hx.elim h;have h9:=h5.inv.frm x h8;rw[h6]at h9;have:=(List.getElem?_eq_some_iff.1 h2).1;exact⟨h9,h5.inv.ok x h8,by omega,by omega⟩
theorem Y3.st' (h:Y3 W ss T){k:Nat}{S:Zf}(hk:W.hs[k]? = some S):Xe S/\S.f=W.f/\S.id=(k:Int)+1:=by
 obtain⟨s,_,h1,h2,h3⟩:=h.st k S hk;exact⟨h1.inv,h2,h3⟩
theorem Y3.named (h:Y3 W ss T){k:Nat}{S:Zf}{x:Z8}(hk:W.hs[k]? = some S)(hx:x∈S.l): ∃(j:Nat) (S':Zf),x.house=(j:Int)+1/\W.hs[j]? = some S'/\x∈S'.l:=by
 rcases h.hou k S x hk hx with h1 | h1
 ·exact⟨k,S,h1,hk,hx⟩
 ·obtain⟨j,S',s,h1,h2,_,_,_,_,_,h8⟩:=h1.elim h;exact⟨j,S',h1,h2,h8⟩
theorem Y3.one (h:Y3 W ss T){i k:Nat}{S R:Zf}{x y:Z8}(hi:W.hs[i]? = some S)(hk:W.hs[k]? = some R)(hx:x∈S.l)(hy:y∈R.l)(e:Zk x=Zk y):x=y:=by
 obtain⟨j,S',h1,h2,h3⟩:=h.named hi hx;obtain⟨j',R',k1,k2,k3⟩:=h.named hk hy;have eh:x.house=y.house:=congrArg Prod.fst e;have:j=j':=by omega
 subst this;rw[h2]at k2;cases k2;exact Qz (h.st' h2).1.nodup h3 k3 e
theorem Dur.known (h:Y3 W ss T){x:Z8}(hx:Dur W.hs ss x): ∃(j:Nat) (S:Zf),W.hs[j]? = some S/\x∈S.l:=by
 obtain⟨j,S,s,_,h2,_,_,_,_,_,h8⟩:=hx.elim h;exact⟨j,S,h2,h8⟩
theorem Y3.set (h:Y3 W ss T){k:Nat}{S S':Zf}{s s' T':Nat}(hk:W.hs[k]? = some S)(hs:ss[k]? = some s)(h':VX s' S')(hf:S'.f=S.f)(hid:S'.id=S.id)
  (hd : ∀x∈S.ad.take s,x∈S'.ad.take s') (hn : ∀x∈S'.l,x∈S.l\/x.house=(k:Int)+1\/Dur W.hs ss x) (ht:S'.c S'.id+T<=S.c S.id+T'):Y3 { W with hs:=W.hs.set k S' } (ss.set k s') T':=by
 have hkl:=(List.getElem?_eq_some_iff.1 hk).1;have hsl:=(List.getElem?_eq_some_iff.1 hs).1;have dm : ∀x,Dur W.hs ss x->Dur (W.hs.set k S') (ss.set k s') x:=by
  rintro x ⟨j,R,r,h1,h2,h3,h4⟩;by_cases e:k=j
  ·subst e;rw[hk]at h2;rw[hs]at h3;cases h2;cases h3;exact⟨k,S',s',h1,List.getElem?_set_self hkl,List.getElem?_set_self hsl,hd x h4⟩
  ·exact⟨j,R,r,h1,by rw[List.getElem?_set_ne e];exact h2,by rw[List.getElem?_set_ne e];exact h3,h4⟩
 refine⟨h.v,by simpa using h.n,fun j R hj=>?_,fun j R x hj hx=>?_,fun m hm=>?_,h.mn,?_⟩
 ·have hj:(W.hs.set k S')[j]? = some R:=hj;by_cases e:k=j
  ·subst e;rw[List.getElem?_set_self hkl]at hj;cases hj;obtain⟨_,h2,h3⟩:=h.st' hk;exact⟨s',List.getElem?_set_self hsl,h',hf.trans h2,hid.trans h3⟩
  ·rw[List.getElem?_set_ne e]at hj;obtain⟨r,h1,h2⟩:=h.st j R hj;exact⟨r,by rw[List.getElem?_set_ne e];exact h1,h2⟩
 ·have hj:(W.hs.set k S')[j]? = some R:=hj;by_cases e:k=j
  ·subst e;rw[List.getElem?_set_self hkl]at hj;cases hj;rcases hn x hx with h1 | h1 | h1
   ·exact(h.hou k S x hk h1).imp id (dm x)
   ·exact .inl h1
   ·exact .inr (dm x h1)
  ·rw[List.getElem?_set_ne e]at hj;exact(h.hou j R x hj hx).imp id (dm x)
 ·obtain⟨h1,h2,h3⟩:=h.ml m hm;refine⟨by simpa using h1,by simpa using h2,?_⟩;cases hc:m.cont with
  | ask c=>rw[hc]at h3;exact h3
  | gift l=>rw[hc]at h3;exact⟨h3.1,h3.2.1,fun x hx=>dm x (h3.2.2 x hx)⟩
 ·have:=Z8a (S':=S') hk;have:=h.tot;show Z25 (W.hs.set k S')<=T';omega
theorem Y3.mails (h:Y3 W ss T){ms:List MlV}(hm : ∀m∈ms,Zd8 W.hs ss m)(hl:ms.length<=64):Y3 { W with ms:=ms } ss T:=⟨h.v,h.n,h.st,h.hou,hm,hl,h.tot⟩
theorem Y3.drop (h:Y3 W ss T)(i:Int):Y3 (Xf W i) ss T:=
 h.mails (fun m hm=>h.ml m (List.mem_of_mem_eraseIdx hm)) (by have:=h.mn;have:=List.length_eraseIdx_le W.ms i.toNat;omega)
theorem Y3.send (h:Y3 W ss T){m:MlV}(hm:Zd8 W.hs ss m)(hl:W.ms.length < 64):Y3 (Vg W m) ss T:=
 h.mails (fun x hx=>by
  rcases List.mem_append.1 hx with hx | hx
  ·exact h.ml x hx
  ·rw[List.mem_singleton.1 hx];exact hm) (by rw[List.length_append];simp;omega)
theorem Y3.mono (h:Y3 W ss T){T':Nat}(ht:T<=T'):Y3 W ss T':=⟨h.v,h.n,h.st,h.hou,h.ml,h.mn,Nat.le_trans h.tot ht⟩
theorem Ye {h:Int}{S:Zf}(e:Y9 W h=some S): ∃k:Nat,h=(k:Int)+1/\(h - 1).toNat=k/\W.hs[k]? = some S:=by
 unfold Y9 at e;split at e
 ·exact⟨(h - 1).toNat,by omega,rfl,e⟩
 ·cases e
theorem Z68 {k:Nat}{S:Zf}(e:W.hs[k]? = some S):Y9 W ((k:Int)+1)=some S:=by
 unfold Y9;rw[if_pos (by omega),show((k:Int)+1 - 1).toNat=k by omega];exact e
theorem ZcL {h:Int}(h1:1<=h)(h2:h<=W.hs.length): ∃S,Y9 W h=some S:=by
 refine⟨W.hs[(h - 1).toNat]'(by omega),?_⟩;unfold Y9;rw[if_pos h1,List.getElem?_eq_getElem]
theorem Z2o {h:Int}(e:Y9 W h=none):h < 1\/(W.hs.length:Int) < h:=by
 unfold Y9 at e;split at e
 ·rw[List.getElem?_eq_none_iff]at e;omega
 ·omega
theorem QA {i:Int}{m:MlV}(e:Qr W i=some m): ∃k:Nat,i=(k:Int)/\i.toNat=k/\W.ms[k]? = some m:=by
 unfold Qr at e;split at e
 ·exact⟨i.toNat,by omega,rfl,e⟩
 ·cases e
theorem Z5h {i:Int}(e:Qr W i=none):i < 0\/(W.ms.length:Int)<=i:=by
 unfold Qr at e;split at e
 ·rw[List.getElem?_eq_none_iff]at e;omega
 ·omega
theorem Zbw (h:Y3 W ss T){k:Nat}{S:Zf}{s:Nat}(hk:W.hs[k]? = some S)(hs:ss[k]? = some s)(hst:VX s S){l:List Z8}(hl : ∀x∈l,Dur W.hs ss x):
  VX s (ZJ S l).1/\(ZJ S l).1.f=S.f/\(ZJ S l).1.id=S.id/\(∀x∈S.ad.take s,x∈(ZJ S l).1.ad.take s)/\(∀x∈(ZJ S l).1.l,x∈S.l\/Dur W.hs ss x)/\(ZJ S l).1.c S.id=S.c S.id:=by
 rcases Z0h hst.inv l (fun x hx=>((hl x hx).ok h).2.1)with ⟨h1,_⟩ | ⟨fr,h1,h2,h3,h4,h5⟩
 ·rw[h1];exact⟨hst,rfl,rfl,fun x hx=>hx,fun x hx=>.inl hx,rfl⟩
 ·rw[h1];refine⟨hst.adds h2 (fun x hx=>(h3 x hx).2),Z1e _ _,Z0E _ _,fun x hx=>?_,fun x hx=>?_,?_⟩
  ·show x∈(S.adds fr).ad.take s;rw[Z1K,List.take_append_of_le_length hst.le];exact hx
  ·have hx:x∈(S.adds fr).l:=hx;rw[Z0p,VT]at hx;exact hx.imp id (fun hx=>hl x (h3 x hx).1)
  ·refine Z5C fr S S.id fun x hx e=>?_;obtain⟨j,R,r,g1,g2,g3,g4,g5,g6,g7,g8⟩:=(hl x (h3 x hx).1).elim h;have hid:=(h.st' hk).2.2;have:j=k:=by omega
   subst this;rw[hk]at g2;cases g2;rw[List.map_append]at h4;exact(List.nodup_append.1 h4).2.2 _ (List.mem_map_of_mem g8) _ (List.mem_map_of_mem hx) rfl
theorem Z93 {S:Zf}(h:Xe S):(V8 S.c).length=8 /\ ∀z∈V8 S.c,0<=z/\z<=400:=by
 refine⟨rfl,fun z hz=>?_⟩;have hc:=fun a=>Zc5 h a;simp only[V8,List.mem_cons,List.not_mem_nil,or_false]at hz;rcases hz with rfl | rfl | rfl | rfl | rfl | rfl | rfl | rfl <;> exact⟨Int.natCast_nonneg _,Int.ofNat_le.2 (hc _)⟩
theorem Z9r {s:Nat}{l:List Z8}(h:s<=l.length){x:Z8}(hx:x∈l.take s):x∈l.take l.length:=by
 rw[List.take_length];exact List.mem_of_mem_take hx
theorem Y3.syncK (h:Y3 W ss T){k:Nat}{S:Zf}(hk:W.hs[k]? = some S):Y3 { W with hs:=W.hs.set k S.sync } (ss.set k S.ad.length) T:=by
 obtain⟨s,hs,hst,_,_⟩:=h.st k S hk;exact h.set hk hs hst.sync rfl rfl (fun x hx=>Z9r hst.le hx) (fun x hx=>.inl hx) (Nat.le_refl _)
theorem JY {h:Int}{k:Nat}{S:Zf}(e:(h - 1).toNat=k):JM W h S = { W with hs:=W.hs.set k S } := by unfold JM;rw[e]
theorem Y3.doStep (h:Y3 W ss T)(a:YU)(hok:a.note.Ok): ∃ss',Y3 (JK W a).1 ss' (T+1):=by
 unfold JK;cases e:Y9 W a.house with
 | none=>exact⟨ss,h.mono (Nat.le_succ _)⟩
 | some S=>
  obtain⟨k,e1,e2,hk⟩:=Ye e;obtain⟨s,hs,hst,hf,hid⟩:=h.st k S hk;dsimp only;rw[JY e2];have hkl:=(List.getElem?_eq_some_iff.1 hk).1;have hsl:=(List.getElem?_eq_some_iff.1 hs).1;have hd:Y3 { W with hs:=W.hs.set k (VA S a.note).1 } (ss.set k s) (T+1):=by
   rcases Z2s S (by rw[hf];exact h.v) a.note with ⟨h1,_⟩ | ⟨h1,h2⟩
   ·rw[h1];exact h.set hk hs hst rfl rfl (fun x hx=>hx) (fun x hx=>.inl hx) (by omega)
   ·rw[h1];have hn:(QY S a.note).num=(S.c (QY S a.note).house:Int)+1:=rfl;refine h.set hk hs (hst.add h2 (Z8A hok h2) hn) rfl rfl (fun x hx=>?_) (fun x hx=>?_) ?_
    ·show x∈(S.ad ++ [QY S a.note]).take s;rw[List.take_append_of_le_length hst.le];exact hx
    ·rcases Ys.1 hx with hx | rfl
     ·exact .inl hx
     ·exact .inr (.inl hid)
    ·show QD S.c (QY S a.note).house S.id+T<=_;unfold QD;split <;> omega
  split
  ·have h2:=hd.syncK (k:=k) (S:=(VA S a.note).1) (List.getElem?_set_self hkl);have e3:(W.hs.set k (VA S a.note).1).set k (VA S a.note).1.sync=W.hs.set k (VA S a.note).1.sync:=by rw[List.set_set]
   have h3:Y3 { W with hs:=(W.hs.set k (VA S a.note).1).set k (VA S a.note).1.sync } ((ss.set k s).set k (VA S a.note).1.ad.length) (T+1):=h2;rw[e3]at h3;exact⟨_,h3⟩
  ·exact⟨_,hd⟩
theorem Y3.arrive (h:Y3 W ss T)(m:MlV)(hm:Zd8 W.hs ss m)(hl:W.ms.length < 64): ∃ss',Y3 (XB W m).1 ss' T:=by
 unfold XB;cases e:Y9 W m.to with
 | none=>exact⟨ss,h⟩
 | some S=>
  obtain⟨k,e1,e2,hk⟩:=Ye e;obtain⟨s,hs,hst,hf,hid⟩:=h.st k S hk;have hkl:=(List.getElem?_eq_some_iff.1 hk).1;have hsl:=(List.getElem?_eq_some_iff.1 hs).1;dsimp only;have hc:=hm.cont;cases hmc:m.cont with
  | gift l=>
   rw[hmc]at hc;dsimp only;rw[JY e2];obtain⟨a1,a2,a3,a4,a5,a6⟩:=Zbw h hk hs hst hc.2.2;refine⟨_,h.set hk hs a1 a2 a3 a4 (fun x hx=>(a5 x hx).imp id .inr) ?_⟩;rw[a3,a6];exact Nat.le_refl _
  | ask c=>
   dsimp only;rw[JY e2];have h2:=h.syncK hk;split
   ·exact⟨_,h2⟩
   ·rename_i hne;refine⟨_,h2.send ⟨?_,?_,?_⟩ (by exact hl)⟩
    ·have:=hm.to;simpa using this
    ·have:=hm.frm;simpa using this
    ·refine⟨fun e0=>hne ?_,by rw[List.length_take];exact Nat.min_le_left _ _,fun x hx=>?_⟩
     ·rcases List.take_eq_nil_iff.1 e0 with h5 | h5
      ·cases h5
      ·exact h5
     ·have hx2:x∈S.l:=(List.mem_filter.1 (List.mem_of_mem_take hx)).1;rcases h2.hou k S.sync x (List.getElem?_set_self hkl) hx2 with h5 | h5
      ·refine⟨k,S.sync,S.ad.length,h5,List.getElem?_set_self hkl,List.getElem?_set_self hsl,?_⟩;show x∈S.ad.take S.ad.length;rw[List.take_length];exact hst.mem.1 hx2
      ·exact h5
theorem Y3.step (h:Y3 W ss T)(a:YU)(hok:a.note.Ok): ∃ss',Y3 (YZ W a).1 ss' (T+1):=by
 unfold YZ;split
 ·exact h.doStep a hok
 split
 ·unfold JO;cases e:Y9 W a.house with
  | none=>exact⟨ss,h.mono (Nat.le_succ _)⟩
  | some S=>
   obtain⟨k,e1,e2,hk⟩:=Ye e;dsimp only;rw[JY e2];exact⟨_,(h.syncK hk).mono (Nat.le_succ _)⟩
 split
 ·unfold Xu;cases e:Y9 W a.house with
  | none=>exact⟨ss,h.mono (Nat.le_succ _)⟩
  | some S=>
   obtain⟨k,e1,e2,hk⟩:=Ye e;have hkl:=(List.getElem?_eq_some_iff.1 hk).1;dsimp only;split
   ·exact⟨ss,h.mono (Nat.le_succ _)⟩
   ·rename_i h1;split
    ·exact⟨ss,h.mono (Nat.le_succ _)⟩
    ·rename_i h2;refine⟨ss,(h.send (m:=⟨a.house,a.to,.ask (V8 S.c)⟩) ⟨by show 1<=a.house/\a.house<=_;omega,?_,Z93 (h.st' hk).1⟩ (by omega)).mono (Nat.le_succ _)⟩;cases e5:Y9 W a.to with
     | none=>exact absurd (.inl (by rw[e5];rfl)) h1
     | some R=>
      obtain⟨j,g1,g2,hj⟩:=Ye e5;have:=(List.getElem?_eq_some_iff.1 hj).1;show 1<=a.to/\a.to<=_;omega
 split
 ·unfold Yw;cases e:Qr W a.idx with
  | none=>exact⟨ss,h.mono (Nat.le_succ _)⟩
  | some m=>
   obtain⟨i,e1,e2,hi⟩:=QA e;have hil:=(List.getElem?_eq_some_iff.1 hi).1;obtain⟨ss',h2⟩:=(h.drop a.idx).arrive m (h.ml m (List.mem_of_getElem? hi)) (by
    show(W.ms.eraseIdx a.idx.toNat).length < 64;rw[List.length_eraseIdx,if_pos (by omega)];have:=h.mn;omega)
   exact⟨ss',h2.mono (Nat.le_succ _)⟩
 split
 ·unfold Jq;cases e:Qr W a.idx with
  | none=>exact⟨ss,h.mono (Nat.le_succ _)⟩
  | some m=>exact⟨ss,(h.drop a.idx).mono (Nat.le_succ _)⟩
 split
 ·unfold Xb;cases e:Qr W a.idx with
  | none=>exact⟨ss,h.mono (Nat.le_succ _)⟩
  | some m=>
   obtain⟨i,e1,e2,hi⟩:=QA e;dsimp only;split
   ·exact⟨ss,h.mono (Nat.le_succ _)⟩
   ·exact⟨ss,(h.send (h.ml m (List.mem_of_getElem? hi)) (by omega)).mono (Nat.le_succ _)⟩
 split
 ·unfold Xq;cases e:Y9 W a.house with
  | none=>exact⟨ss,h.mono (Nat.le_succ _)⟩
  | some S=>
   obtain⟨k,e1,e2,hk⟩:=Ye e;obtain⟨s,hs,hst,hf,hid⟩:=h.st k S hk;dsimp only;rw[JY e2];rcases hst.crash (Z8N S a.keep a.flip a.idx)with ⟨h1,h2⟩ | ⟨h1,q,q1,q2,q3,q4,q5⟩
   ·rw[h2];exact⟨_,h.set hk hs hst rfl rfl (fun x hx=>hx) (fun x hx=>.inl hx) (by omega)⟩
   ·refine⟨_,h.set hk hs q5 ?_ ?_ (fun x hx=>?_) (fun x hx=>.inl ?_) ?_⟩
    ·rw[q3];exact Z1e _ _
    ·rw[q3];exact Z0E _ _
    ·rw[List.take_length,q4];have:S.ad.take s=(S.ad.take q).take s:=by rw[List.take_take,Nat.min_eq_left q1]
     rw[this]at hx;exact List.mem_of_mem_take hx
    ·have:=q5.mem.1 hx;rw[q4]at this;exact hst.mem.2 (List.mem_of_mem_take this)
    ·have e5:(crS S a.keep a.flip a.idx).1.id=S.id:=by rw[q3];exact Z0E _ _
     rw[e5];have e6:(crS S a.keep a.flip a.idx).1.c=((Zf.new S.f S.id).adds (S.ad.take q)).c:=by rw[q3];rfl
     rw[e6];have e7:S.c=((Zf.new S.f S.id).adds (S.ad.take q ++ S.ad.drop q)).c:=by rw[List.take_append_drop];exact hst.cc
     rw[Z7L]at e7;have:=Z5D (S.ad.drop q) ((Zf.new S.f S.id).adds (S.ad.take q)) S.id;rw[<-e7]at this;omega
 ·exact⟨ss,h.mono (Nat.le_succ _)⟩
end
theorem Y3.new {f:Yh}{n:Nat}(hv:f.valid=true)(hn:1<=n/\n<=8):Y3 (ZD.new f n) (List.replicate n 0) 0:=by
 have hg : ∀(k:Nat) (S:Zf),(ZD.new f n).hs[k]? = some S->k < n/\S=Zf.new f ((k:Int)+1):=fun k S h=>by
  unfold ZD.new at h;simp only[List.getElem?_map]at h;rcases Nat.lt_or_ge k n with hk | hk
  ·rw[List.getElem?_range hk]at h;cases h;exact⟨hk,rfl⟩
  ·rw[List.getElem?_eq_none (by rw[List.length_range];exact hk)]at h;cases h
 refine⟨hv,by simpa [ZD.new] using hn,fun k S h=>?_,fun k S x h hx=>?_,fun m hm=>(by cases hm),Nat.zero_le _,?_⟩
 ·obtain⟨hk,rfl⟩:=hg k S h;exact⟨0,by rw[List.getElem?_replicate,if_pos hk],VX.new hv (by omega),rfl,rfl⟩
 ·obtain⟨hk,rfl⟩:=hg k S h;cases hx
 ·have : ∀(l:List Nat),((l.map fun(i:Nat)=>Zf.new f ((i:Int)+1)).map fun S=>S.c S.id).sum=0:=fun l=>by
   induction l with
   | nil=>rfl
   | cons i l ih=>rw[List.map_cons,List.map_cons,List.sum_cons,ih];rfl
  exact Nat.le_of_eq (this _)
theorem Z63: ∀(n:Nat) (l:List Z8),(∀x∈l,1<=x.house/\x.house<=n)->l.length<=((List.range n).map fun(j:Nat)=>Ql l ((j:Int)+1)).sum
 | 0,l,h=>by
  cases l with
  | nil=>simp
  | cons x l=>have:=h x (List.mem_cons_self ..);omega
 | n+1,l,h=>by
  have ih:=Z63 n (l.filter (fun x=>!decide (x.house=(n:Int)+1))) (fun x hx=>by
   rw[List.mem_filter]at hx
   have h1:=h x hx.1
   have h2:x.house≠(n:Int)+1:=by simpa using hx.2
   omega)
  rw[List.range_succ,List.map_append,List.sum_append]
  have h1:l.length=l.countP (fun x=>decide (x.house=(n:Int)+1))+(l.filter (fun x=>!decide (x.house=(n:Int)+1))).length:=by
   rw[List.length_eq_countP_add_countP (fun x=>decide (x.house=(n:Int)+1)),<-List.countP_eq_length_filter];congr 1;refine List.countP_congr fun x _=>?_;by_cases e:x.house=(n:Int)+1 <;> simp[e]
  have h2:((List.range n).map fun(j:Nat)=>Ql (l.filter (fun x=>!decide (x.house=(n:Int)+1))) ((j:Int)+1)).sum<=((List.range n).map fun(j:Nat)=>Ql l ((j:Int)+1)).sum:=by
   have hm : ∀j,Ql (l.filter (fun x=>!decide (x.house=(n:Int)+1))) ((j:Int)+1)<=Ql l ((j:Int)+1):=fun j=>List.filter_sublist.countP_le;generalize List.range n=r
   induction r with
   | nil=>exact Nat.le_refl _
   | cons j r ihr=>rw[List.map_cons,List.map_cons,List.sum_cons,List.sum_cons];have:=hm j;omega
  have h3:Ql l ((n:Int)+1)=l.countP (fun x=>decide (x.house=(n:Int)+1)):=rfl;simp only[List.map_cons,List.map_nil,List.sum_cons,List.sum_nil];omega
theorem Z5b {A:Type}(g:Zf->A)(d:A): ∀(l:List Zf),l.map g=(List.range l.length).map fun j=>((l[j]?).map g).getD d:=fun l=>by
 refine List.ext_getElem? fun i=>?_
 rw[List.getElem?_map,List.getElem?_map]
 rcases Nat.lt_or_ge i l.length with hi | hi
 ·rw[List.getElem?_range hi,List.getElem?_eq_getElem hi]
  simp[List.getElem?_eq_getElem hi]
 ·rw[List.getElem?_eq_none hi,List.getElem?_eq_none (by rw[List.length_range];exact hi)]
  rfl
theorem Y3.cle {W:ZD}{ss:List Nat}{T:Nat}(h:Y3 W ss T){k j:Nat}{S R:Zf}(hk:W.hs[k]? = some S)(hj:W.hs[j]? = some R):S.c ((j:Int)+1)<=R.c ((j:Int)+1):=by
 by_cases h0:S.c ((j:Int)+1)=0
 ·omega
 ·obtain⟨x,hx,e⟩:=((h.st' hk).1.nms ((j:Int)+1) (S.c ((j:Int)+1):Int)).2 ⟨by omega,Int.le_refl _⟩;obtain⟨i,R',g1,g2,g3⟩:=h.named hk hx;have h2:x.house=(j:Int)+1/\x.num=(S.c ((j:Int)+1):Int):=by simpa [Zk] using e
  have:i=j:=by omega
  subst this;rw[hj]at g2;cases g2;have:=((h.st' hj).1.nms ((i:Int)+1) (S.c ((i:Int)+1):Int)).1 ⟨x,g3,e⟩;omega
theorem Y3.len {W:ZD}{ss:List Nat}{T:Nat}(h:Y3 W ss T){k:Nat}{S:Zf}(hk:W.hs[k]? = some S):S.l.length<=T:=by
 have hi:=h.st' hk;refine Nat.le_trans (Z63 W.hs.length S.l (fun x hx=>by
  obtain⟨j,R,g1,g2,g3⟩:=h.named hk hx;have:=(List.getElem?_eq_some_iff.1 g2).1;omega)) (Nat.le_trans ?_ h.tot)
 unfold Z25;rw[Z5b (fun S=>S.c S.id) 0 W.hs];have hm : ∀j,j < W.hs.length->Ql S.l ((j:Int)+1)<=((W.hs[j]?).map (fun S=>S.c S.id)).getD 0:=fun j hj=>by
  rw[List.getElem?_eq_getElem hj];have e:=List.getElem?_eq_getElem hj;rw[Z2U hi.1.nms hi.1.nodup];show _<=W.hs[j].c W.hs[j].id;rw[(h.st' e).2.2];exact h.cle hk e
 have hl : ∀j∈List.range W.hs.length,j < W.hs.length:=fun j hj=>List.mem_range.1 hj;generalize List.range W.hs.length=r at *
 induction r with
 | nil=>exact Nat.le_refl _
 | cons j r ihr=>
  rw[List.map_cons,List.map_cons,List.sum_cons,List.sum_cons];have a1:=hm j (hl j (List.mem_cons_self ..));have a2:=ihr (fun i hi=>hl i (List.mem_cons_of_mem _ hi));omega
def Qb (l:List Z8)(x:Z8):List Z8:=if (YQ l x).isNone=true then YV l x else l
def Zx (hs:List Zf):List Z8:=hs.foldl (fun out S=>S.l.foldl Qb out) []
def Ua (V:ZD):ZD := { V with hs:=V.hs.map fun S=>(ZJ S.sync (Zx V.hs)).1.sync }
theorem ZaC {l:List Z8}{x:Z8}(h : ∀y∈l,Zk y≠Zk x):Qb l x=YV l x:=by
 unfold Qb;rw[zg h];rfl
theorem Z9k {l:List Z8}{x y:Z8}(hy:y∈l)(e:Zk y=Zk x):Qb l x=l:=by
 unfold Qb;cases hk:YQ l x with
 | none=>exact absurd e (Xx hk y hy)
 | some z=>rfl
theorem ZaD {l:List Z8}{x:Z8}(hs:l.Pairwise ltN)(h1 : ∀y∈l,Zk y=Zk x->y=x):(Qb l x).Pairwise ltN /\ ∀y,y∈Qb l x↔y∈l\/y=x:=by
 by_cases h : ∃y∈l,Zk y=Zk x
 ·obtain⟨y,hy,e⟩:=h;rw[Z9k hy e];refine⟨hs,fun z=>⟨.inl,fun hz=>?_⟩⟩;rcases hz with hz | hz
  ·exact hz
  ·rw[hz,<-h1 y hy e];exact hy
 ·have h2 : ∀y∈l,Zk y≠Zk x:=fun y hy e=>h ⟨y,hy,e⟩;rw[ZaC h2];exact⟨Uf hs h2,fun y=>Ys⟩
theorem Z7p: ∀(ns l:List Z8),l.Pairwise ltN->(∀x y,(x∈l\/x∈ns)->(y∈l\/y∈ns)->Zk x=Zk y->x=y)->(ns.foldl Qb l).Pairwise ltN /\ ∀y,y∈ns.foldl Qb l↔y∈l\/y∈ns
 | [],l,hs,_=>⟨hs,fun y=>by simp⟩
 | x :: ns,l,hs,h1=>by
  obtain⟨g1,g2⟩:=ZaD (x:=x) hs (fun y hy e=>h1 y x (.inl hy) (.inr (List.mem_cons_self ..)) e)
  have hm : ∀z,(z∈Qb l x\/z∈ns)->(z∈l\/z∈x :: ns):=fun z hz=>by
   rcases hz with hz | hz
   ·rcases(g2 z).1 hz with e | e
    ·exact .inl e
    ·rw[e];exact .inr (List.mem_cons_self ..)
   ·exact .inr (List.mem_cons_of_mem _ hz)
  obtain⟨k1,k2⟩:=Z7p ns (Qb l x) g1 (fun a b ha hb e=>h1 a b (hm a ha) (hm b hb) e)
  refine⟨k1,fun y=>?_⟩
  show y∈ns.foldl Qb (Qb l x)↔_
  rw[k2,g2,List.mem_cons,or_assoc]
def Z6o (hs:List Zf):Prop := ∀S∈hs,∀R∈hs,∀x∈S.l,∀y∈R.l,Zk x=Zk y->x=y
theorem Z3r: ∀(hs:List Zf) (l:List Z8),l.Pairwise ltN->(∀x y,(x∈l \/ ∃S∈hs,x∈S.l)->(y∈l \/ ∃S∈hs,y∈S.l)->Zk x=Zk y->x=y)->
  (hs.foldl (fun out S=>S.l.foldl Qb out) l).Pairwise ltN /\ ∀y,y∈hs.foldl (fun out S=>S.l.foldl Qb out) l↔y∈l \/ ∃S∈hs,y∈S.l
 | [],l,hs,_=>⟨hs,fun y=>by simp⟩
 | S :: hs,l,hl,h1=>by
  obtain⟨g1,g2⟩:=Z7p S.l l hl (fun x y hx hy e=>h1 x y (hx.imp id fun h=>⟨S,List.mem_cons_self ..,h⟩) (hy.imp id fun h=>⟨S,List.mem_cons_self ..,h⟩) e)
  have hm : ∀z,(z∈S.l.foldl Qb l \/ ∃R∈hs,z∈R.l)->(z∈l \/ ∃R∈S :: hs,z∈R.l):=fun z hz=>by
   rcases hz with hz | ⟨R,hR,hz⟩
   ·rcases(g2 z).1 hz with e | e
    ·exact .inl e
    ·exact .inr ⟨S,List.mem_cons_self ..,e⟩
   ·exact .inr ⟨R,List.mem_cons_of_mem _ hR,hz⟩
  obtain⟨k1,k2⟩:=Z3r hs (S.l.foldl Qb l) g1 (fun a b ha hb e=>h1 a b (hm a ha) (hm b hb) e)
  refine⟨k1,fun y=>?_⟩
  show y∈hs.foldl (fun out S=>S.l.foldl Qb out) (S.l.foldl Qb l)↔_
  rw[k2,g2]
  constructor
  ·rintro((h | h) | ⟨R,hR,h⟩)
   ·exact .inl h
   ·exact .inr ⟨S,List.mem_cons_self ..,h⟩
   ·exact .inr ⟨R,List.mem_cons_of_mem _ hR,h⟩
  ·rintro(h | ⟨R,hR,h⟩)
   ·exact .inl (.inl h)
   ·rcases List.mem_cons.1 hR with e | hR
    ·rw[e]at h;exact .inl (.inr h)
    ·exact .inr ⟨R,hR,h⟩
theorem Xp {hs:List Zf}(h:Z6o hs):(Zx hs).Pairwise ltN /\ ∀y,y∈Zx hs ↔ ∃S∈hs,y∈S.l:=by
 obtain⟨h1,h2⟩:=Z3r hs [] List.Pairwise.nil (fun x y hx hy e=>by
  rcases hx with hx | ⟨S,hS,hx⟩
  ·cases hx
  ·rcases hy with hy | ⟨R,hR,hy⟩
   ·cases hy
   ·exact h S hS R hR x hx y hy e)
 exact⟨h1,fun y=>by rw[show y∈Zx hs↔_ from h2 y];simp⟩
section
variable {W:ZD}{ss:List Nat}{T:Nat}
theorem Y3.oneN (h:Y3 W ss T):Z6o W.hs:=fun S hS R hR x hx y hy e=>by
 obtain⟨i,hi⟩:=List.getElem?_of_mem hS
 obtain⟨k,hk⟩:=List.getElem?_of_mem hR
 exact h.one hi hk hx hy e
theorem Z6o.take {hs:List Zf}(h:Z6o hs)(k:Nat):Z6o (hs.take k):=fun S hS R hR=>h S (List.mem_of_mem_take hS) R (List.mem_of_mem_take hR)
theorem Y3.unionNms (h:Y3 W ss T):XW (Zx W.hs) (fun a=>match Y9 W a with | some S=>S.c S.id | none=>0):=fun a k=>by
 obtain⟨u1,u2⟩:=Xp h.oneN
 constructor
 ·rintro⟨x,hx,e⟩
  obtain⟨S,hS,hxS⟩:=(u2 x).1 hx
  obtain⟨i,hi⟩:=List.getElem?_of_mem hS
  obtain⟨j,R,g1,g2,g3⟩:=h.named hi hxS
  have e2:x.house=a/\x.num=k:=by simpa [Zk] using e
  have e3:=(h.st' g2).1.nms.le g3
  dsimp only
  rw[<-e2.1,g1,Z68 g2]
  show 1<=k/\k<=(R.c R.id:Int)
  rw[(h.st' g2).2.2,<-g1]
  omega
 ·rintro⟨h1,h2⟩
  dsimp only at h2
  cases ha:Y9 W a with
  | none=>rw[ha]at h2;simp at h2;omega
  | some S=>
   rw[ha]at h2
   obtain⟨j,g1,g2,g3⟩:=Ye ha
   have h3:k<=(S.c S.id:Int):=h2
   rw[(h.st' g3).2.2]at h3
   obtain⟨x,hx,e⟩:=((h.st' g3).1.nms ((j:Int)+1) k).2 ⟨h1,h3⟩
   exact⟨x,(u2 x).2 ⟨S,List.mem_of_getElem? g3,hx⟩,by rw[g1];exact e⟩
theorem Y3.unionLen (h:Y3 W ss T):(Zx W.hs).length<=T:=by
 obtain⟨u1,u2⟩:=Xp h.oneN;have hnd:((Zx W.hs).map Zk).Nodup:=YH u1;have hnm:=h.unionNms;refine Nat.le_trans (Z63 W.hs.length (Zx W.hs) (fun x hx=>by
  obtain⟨S,hS,hxS⟩:=(u2 x).1 hx;obtain⟨i,hi⟩:=List.getElem?_of_mem hS;obtain⟨j,R,g1,g2,g3⟩:=h.named hi hxS;have:=(List.getElem?_eq_some_iff.1 g2).1;omega)) (Nat.le_trans ?_ h.tot)
 unfold Z25;rw[Z5b (fun S=>S.c S.id) 0 W.hs];have hm : ∀j,j < W.hs.length->Ql (Zx W.hs) ((j:Int)+1)<=((W.hs[j]?).map (fun S=>S.c S.id)).getD 0:=fun j hj=>by
  rw[Z2U hnm hnd];have e:=List.getElem?_eq_getElem hj;rw[Z68 e,e];exact Nat.le_refl _
 have hl : ∀j∈List.range W.hs.length,j < W.hs.length:=fun j hj=>List.mem_range.1 hj;generalize List.range W.hs.length=r at *
 induction r with
 | nil=>exact Nat.le_refl _
 | cons j r ihr=>
  rw[List.map_cons,List.map_cons,List.sum_cons,List.sum_cons];have a1:=hm j (hl j (List.mem_cons_self ..));have a2:=ihr (fun i hi=>hl i (List.mem_cons_of_mem _ hi));omega
theorem Y3.unionOk (h:Y3 W ss T): ∀x∈Zx W.hs,Zg W.f x=true/\x.Ok:=fun x hx=>by
 obtain⟨S,hS,hxS⟩:=((Xp h.oneN).2 x).1 hx
 obtain⟨i,hi⟩:=List.getElem?_of_mem hS
 have:=h.st' hi
 exact⟨this.2.1 ▸ this.1.frm x hxS,this.1.ok x hxS⟩
end
theorem VI: ∀{l m:List Nm},l.Nodup->(∀x∈l,x∈m)->l.length<=m.length
 | [],m,_,_=>Nat.zero_le _
 | x :: l,m,h,hs=>by
  obtain⟨a,b,e⟩:=List.append_of_mem (hs x (List.mem_cons_self ..))
  rw[List.nodup_cons]at h
  have h2:=VI (m:=a ++ b) h.2 (fun y hy=>by
   have h3:=hs y (List.mem_cons_of_mem _ hy)
   rw[e,List.mem_append,List.mem_cons]at h3
   rw[List.mem_append]
   rcases h3 with h3 | h3 | h3
   ·exact .inl h3
   ·rw[h3]at hy;exact absurd hy h.1
   ·exact .inr h3)
  rw[e]
  simp only[List.length_append,List.length_cons]at h2 ⊢
  omega
theorem Z9A {w:World}{k:TypeId}{b n m:Nat}{D:DataW Value}(h:w.ownsMap zq k JV b n D)(hs:Maps.size D<=m):w.ownsMap zq k JV b m D:=by
 obtain⟨es,clock,hb,F,hn,rfl⟩:=h;refine⟨es,clock,hb,F,?_,rfl⟩;rw[Maps.size_eq,length_read]at hs;exact hs
theorem Z6J {α:Type}{enc:α->Value}{f:Nm->Option α}{w:World}{b n:Nat}{t e:TypeId}(hmap:Y4 enc w b n f)(hn:n < maxLen)(ht:zq.underlying t=some (.map 45 e))(h m:Int)(hk:Um (h,m))(y:α):
  ∃w',(Instr.mapUpdate t (.map (some b)) (.agg #[.int .i64 h,.int .i64 m]) (enc y)).run zq w = .ok () w'/\Y4 enc w' b (n+(if (f (h,m)).isNone=true then 1 else 0)) (Yv f (h,m) y)/\w.mapTurned w' b:=by
 obtain⟨D,h1,h2⟩:=hmap;obtain⟨w',h3,h4,h5⟩:=h1.store Ju ht hn (VQ (h,m) hk) (val:=enc y) (d := .held (enc y)) (ps:=[]) rfl;refine⟨w',h3,⟨_,Z9A h4 ?_,h2.put h1.isMap hk y⟩,h5⟩;have h6:=h1.size_le;rw[Maps.size_put (h1.tidy Ju),h2.has (h,m) hk];cases hf:f (h,m)with
 | none=>simp;omega
 | some z=>simp;omega
theorem Zbc {f g:Nm->Option LN}{ks:List Nm}{k:Nm}(h:k ∉ ks):Z4Q f g ks k=f k:=if_neg h
structure Z0u (w wr:World)(bd bs r nd n:Nat)(f g:Nm->Option LN)(kr ks:List Nm)(cnt:Nat):Prop where
 rng:Ya LN.val wr bs r n g kr cnt
 dst:Y4 LN.val wr bd (nd+(ks.filter fun k=>(f k).isNone).length) (Z4Q f g ks)
 nod:ks.Nodup
 same:Za (fun k=>k=bd) w wr
 r_ge:w.heap.size<=r
 all : ∀k∈ks,(g k).isSome=true
 bd_lt:bd < w.heap.size
 ne:bd≠bs
section
variable {w wr W':World}{bd bs r nd n:Nat}{f g:Nm->Option LN}{kr ks:List Nm}{cnt:Nat}
theorem Z0u.below (h:Z0u w wr bd bs r nd n f g kr ks cnt)(hb:Below wr.heap.size wr W'):Z0u w W' bd bs r nd n f g kr ks cnt:=
 ⟨h.rng.below hb,h.dst.below hb,h.nod,h.same.trans (Za.of_below hb),h.r_ge,h.all,h.bd_lt,h.ne⟩
theorem Z0u.came (h:Z0u w wr bd bs r nd n f g kr ks cnt){kh km:Int}{y:LN}{cnt':Nat}(hN:Z7O LN.val wr bs r n cnt g kr kh km y W' cnt'):Z0u w W' bd bs r nd n f g (kr ++ [(kh,km)]) ks cnt':=
 ⟨hN.range,h.dst.kept hN.grown (fun e=>by have h1:=h.r_ge;have h2:=h.bd_lt;have:=Option.some.inj e;omega),h.nod,h.same.reg (Za.of_grown hN.grown (fun k e=>by cases e;exact .inr h.r_ge)),h.r_ge,h.all,h.bd_lt,h.ne⟩
theorem Z0u.put {k:Nm}{y:LN}(h:Z0u w wr bd bs r nd n f g (ks ++ [k]) ks cnt)(hnew:k ∉ ks)(hk:g k=some y)(hm:Y4 LN.val W' bd (nd+(ks.filter fun k=>(f k).isNone).length+(if (f k).isNone=true then 1 else 0)) (Yv (Z4Q f g ks) k y))(ht:wr.mapTurned W' bd):Z0u w W' bd bs r nd n f g (ks ++ [k]) (ks ++ [k]) cnt:=by
 have h1:=h.r_ge;have h2:=h.bd_lt;refine⟨h.rng.of_blocks (ht.grown.block _ h.rng.map.lt (fun e=>h.ne (Option.some.inj e).symm)) (ht.grown.block _ h.rng.lt (fun e=>by have:=Option.some.inj e;omega)),?_,?_,h.same.reg (Za.of_grown ht.grown (fun k e=>by cases e;exact .inl rfl)),h.r_ge,fun a ha=>?_,h.bd_lt,h.ne⟩
 ·rw[Z9K hk,List.filter_append,List.length_append];have e:([k].filter fun k=>(f k).isNone).length=if (f k).isNone=true then 1 else 0:=by
   by_cases h3:(f k).isNone=true <;> simp[h3]
  rw[e,<-Nat.add_assoc];exact hm
 ·rw[List.nodup_append];exact⟨h.nod,by simp,fun a ha b hb e=>hnew (by rw[List.mem_singleton.1 hb]at e;exact e ▸ ha)⟩
 ·rcases List.mem_append.1 ha with ha | ha
  ·exact h.all a ha
  ·rw[List.mem_singleton.1 ha,hk];rfl
end
theorem Z4R (bd nd bs n:Nat)(f g:Nm->Option LN)(w:World)(hd:Y4 LN.val w bd nd f)(hs:Y4 LN.val w bs n g)(hne:bd≠bs)(hlen:nd+n<=1000000):
  Calls zq 94 #[.map (some bd),.map (some bs)] w fun e w'=>e = .returned (.tuple #[])/\(∃ks:List Nm,ks.Nodup/\Jd g ks/\(∀k∈ks,(g k).isSome=true)/\Y4 LN.val w' bd (nd+(ks.filter fun k=>(f k).isNone).length) (Z1H f g))/\Za (fun k=>k=bd) w w':=by
 have I43:=zH zI;have HLEN:=zH hlen;clear hlen;go_enter Tryz.func94,Tryz.ntmps94;go_wp2_with (first
  |(at_range;refine J7 _ rfl _ 106 47 rfl Tryz.underlying106 bs n rfl hs ?_;intro w0 cnt0 hrg0 hg0 hs0)
  | fail)
 go_frame;obtain⟨r,hr⟩:=zX (w.heap.size);have b0:Below w.heap.size w w0:=(Below.refl _ _).grown hg0 (Nat.le_refl _) (fun q hq=>by cases hq);have S0:Hid (Z0u w w0 bd bs r nd n f g [] [] cnt0):=zH ⟨by rw[<-hr.out];exact hrg0,by rw[Zbd];exact hd.below b0,List.nodup_nil,Za.of_below b0,by rw[<-hr.out];exact Nat.le_refl _,(fun k hk=>by cases hk),hd.lt,hne⟩;rw[hr.out];clear hrg0 hg0 hs0 b0 hd hs hne;go_loopw [10] (fun _ wr=>∃(ks:List Nm) (cnt:Nat),Hid (Z0u w wr bd bs r nd n f g ks ks cnt)) (fun _ wr=>wr.rangeLeft bs r)
 case atStart=>exact⟨_,_,S0⟩
 case round=>
  clear S0;obtain⟨ks,cnt,HS⟩:=hrel;go_upto_region 2 with (first
   |(at_next;refine Jo wr rfl _ rfl bs r n cnt ks rfl HS.out.rng ?_ ?_)
   | fail)
  ·intro hall;have HALL:=zH hall;clear hall;go_wp2;go_end0;exact⟨rfl,⟨ks,HS.out.nod,HALL.out,HS.out.all,by have h1:=HS.out.dst;rwa [Zbe HALL.out HS.out.all]at h1⟩,HS.out.same⟩
  ·intro kh km y w1 cnt1 HN hen;have HF:=zH HN.out.at_;have HKok:=zH HN.out.ok;have S1:=zH (HS.out.came HN.out);have HKL:Hid (ks.length+1<=n):=zH (by have:=HN.out.range.count;rw[List.length_append]at this;simp at this;omega);have HM:=zH (show wr.rangeLeft bs r=cnt from HS.out.rng.left_eq);have HLT:=zH HN.out.lt;have NEW:=zH HN.out.new;clear HS HN;unfold LN.val at hen;go_upto_region 3 with (first
    |(refine Zr (w1.alloc (.cells #[.int .i64 kh,.int .i64 km] 45)) rfl 47 _ _ rfl (w1.heap.size+1) (by simp) _ (Z5 y.n y.sa y.sc) rfl rfl (I43.out _ _ _) rfl (Zm y.n y.sa y.sc) ?_))
   clear hen;have hbt:Below w1.heap.size w1 ((w1.alloc (.cells #[.int .i64 kh,.int .i64 km] 45)).alloc (.cells (Z5 y.n y.sa y.sc) 47)):=(zB _ _).alloc (by simp) _;have CS:=zH (S1.out.below hbt);have CN:=zH (Zb _ (.cells (Z5 y.n y.sa y.sc) 47) _ _ (Z9 w1 (.cells #[.int .i64 kh,.int .i64 km] 45)));have CT:=zH (Zv (w1.alloc (.cells #[.int .i64 kh,.int .i64 km] 45)) (.cells (Z5 y.n y.sa y.sc) 47) (w1.heap.size+1) (by simp));obtain⟨p4,hp4⟩:=zX (w1.heap.size);obtain⟨p5,hp5⟩:=zX (p4+1);rw[hp4.out]at CN CT ⊢;rw[hp5.out]at CT ⊢;generalize (w1.alloc (.cells #[.int .i64 kh,.int .i64 km] 45)).alloc (.cells (Z5 y.n y.sa y.sc) 47)=wt at *;clear hbt S1;have n0:=Z6 CN.out 0 (.int .i64 kh) rfl;have n1:=Z6 CN.out 1 (.int .i64 km) rfl;have FL:Hid ((ks.filter fun k=>(f k).isNone).length<=ks.length):=zH (List.length_filter_le _ _);obtain⟨w5,hrun,hm5,ht5⟩:=Z6J (t:=106) CS.out.dst (by have:=HLEN.out;have:=HKL.out;have:=FL.out;unfold maxLen;omega) Tryz.underlying106 kh km HKok.out y;rw[Zbc NEW.out]at hm5;have S5:=zH (CS.out.put NEW.out HF.out hm5 ht5);clear hm5 ht5;unfold LN.val at hrun;go_wp2_with (first
    |(refine zL p5 CT.out ?_)
    | fail)
   go_roundw
   case rel=>exact⟨_,_,S5⟩
   case measure=>rw[S5.out.rng.left_eq,HM.out];exact HLT.out
def Uu (w:World)(p:Nat)(F:Nat->Prop)(S:Zf):Prop := ∃mb sp G SF,Y8 w p mb sp G SF S /\ ∀k,F k↔Yd p mb G SF k
structure JX (PH:World->Nat->(Nat->Prop)->Zf->Prop):Prop where
 same : ∀{w w':World} {p:Nat} {F:Nat->Prop} {S:Zf} {X:Nat->Prop},PH w p F S->Za X w w'->(∀k,X k -> ¬F k)->PH w' p F S
 lt : ∀{w:World} {p:Nat} {F:Nat->Prop} {S:Zf},PH w p F S -> ∀k,F k->k < w.heap.size
theorem Zl:JX Uu:=
 ⟨fun {w w' p F S X} h hs hd=>by
  obtain⟨mb,sp,G,SF,h1,h2⟩:=h
  exact⟨mb,sp,G,SF,h1.same hs (fun k hk hF=>hd k hk ((h2 k).2 hF)),h2⟩,
  fun {w p F S} h k hk=>by
  obtain⟨mb,sp,G,SF,h1,h2⟩:=h
  exact h1.lt k ((h2 k).1 hk)⟩
def Z1Q (PH:World->Nat->(Nat->Prop)->Zf->Prop)(w:World)(p:Nat)(F:Nat->Prop)(S':Zf)(W:World):Prop := ∃F',PH W p F' S'/\Za F w W /\ ∀k,F' k->F k\/w.heap.size<=k
def zx (Fs:List (Nat->Prop)):Nat->Prop:=fun k=>∃(i:Nat) (F:Nat->Prop),Fs[i]? = some F/\F k
structure U6 (PH:World->Nat->(Nat->Prop)->Zf->Prop)(w:World)(ps:List Nat)(Fs:List (Nat->Prop))(Ss:List Zf):Prop where
 len:Fs.length=ps.length/\Ss.length=ps.length
 hou : ∀(i p:Nat) (F:Nat->Prop) (S:Zf),ps[i]? = some p->Fs[i]? = some F->Ss[i]? = some S->PH w p F S
 dis : ∀(i j:Nat) (F G:Nat->Prop),i≠j->Fs[i]? = some F->Fs[j]? = some G -> ∀k,F k -> ¬G k
section
variable {PH:World->Nat->(Nat->Prop)->Zf->Prop}{w w':World}{ps:List Nat}{Fs:List (Nat->Prop)}{Ss:List Zf}
theorem U6.get (h:U6 PH w ps Fs Ss){i:Nat}{S:Zf}(hi:Ss[i]? = some S): ∃p F,ps[i]? = some p/\Fs[i]? = some F/\PH w p F S:=by
 have hl:=(List.getElem?_eq_some_iff.1 hi).1;have h1:=h.len;have e1:=List.getElem?_eq_getElem (l:=ps) (i:=i) (by omega);have e2:=List.getElem?_eq_getElem (l:=Fs) (i:=i) (by omega);exact⟨_,_,e1,e2,h.hou i _ _ S e1 e2 hi⟩
theorem U6.nil (w:World):U6 PH w [] [] []:=⟨⟨rfl,rfl⟩,fun i p F S h=>by simp at h,fun i j F G _ h=>by simp at h⟩
theorem U6.lt (hp:JX PH)(h:U6 PH w ps Fs Ss): ∀k,zx Fs k->k < w.heap.size:=by
 rintro k ⟨i,F,h1,h2⟩;have hl:=(List.getElem?_eq_some_iff.1 h1).1;have h3:=h.len;exact hp.lt (h.hou i _ F _ (List.getElem?_eq_getElem (by omega)) h1 (List.getElem?_eq_getElem (by omega))) k h2
theorem U6.same (hp:JX PH){X:Nat->Prop}(h:U6 PH w ps Fs Ss)(hs:Za X w w')(hd : ∀k,X k -> ¬zx Fs k):U6 PH w' ps Fs Ss:=
 ⟨h.len,fun i p F S h1 h2 h3=>hp.same (h.hou i p F S h1 h2 h3) hs (fun k hk hF=>hd k hk ⟨i,F,h2,hF⟩),h.dis⟩
theorem U6.below (hp:JX PH)(h:U6 PH w ps Fs Ss)(hb:Below w.heap.size w w'):U6 PH w' ps Fs Ss:=h.same hp (X:=fun _=>False) (Za.of_below hb) (fun _ e=>e.elim)
theorem U6.upd (hp:JX PH)(h:U6 PH w ps Fs Ss){i p:Nat}{F F':Nat->Prop}{S':Zf}(h1:ps[i]? = some p)(h2:Fs[i]? = some F)(h':PH w' p F' S')(hs:Za F w w')(hn : ∀k,F' k->F k\/w.heap.size<=k):
  U6 PH w' ps (Fs.set i F') (Ss.set i S') /\ ∀k,zx (Fs.set i F') k->zx Fs k\/w.heap.size<=k:=by
 have hil:=(List.getElem?_eq_some_iff.1 h2).1;have hlt:=h.lt hp;have hl:=h.len;refine⟨⟨by simpa using h.len,fun j q G R g1 g2 g3=>?_,fun j l G K hjl g1 g2 k hG hK=>?_⟩,?_⟩
 ·by_cases e:i=j
  ·subst e;rw[List.getElem?_set_self hil]at g2;rw[List.getElem?_set_self (by omega)]at g3;rw[h1]at g1;cases g1;cases g2;cases g3;exact h'
  ·rw[List.getElem?_set_ne e]at g2 g3;exact hp.same (h.hou j q G R g1 g2 g3) hs (fun k hk hG=>h.dis i j F G e h2 g2 k hk hG)
 ·by_cases e:i=j
  ·subst e;rw[List.getElem?_set_self hil]at g1;cases g1;rw[List.getElem?_set_ne hjl]at g2;rcases hn k hG with h5 | h5
   ·exact h.dis i l F K hjl h2 g2 k h5 hK
   ·have:=hlt k ⟨l,K,g2,hK⟩;omega
  ·rw[List.getElem?_set_ne e]at g1;by_cases e2:i=l
   ·subst e2;rw[List.getElem?_set_self hil]at g2;cases g2;rcases hn k hK with h5 | h5
    ·exact h.dis j i G F hjl g1 h2 k hG h5
    ·have:=hlt k ⟨j,G,g1,hG⟩;omega
   ·rw[List.getElem?_set_ne e2]at g2;exact h.dis j l G K hjl g1 g2 k hG hK
 ·rintro k ⟨j,G,g1,g2⟩;by_cases e:i=j
  ·subst e;rw[List.getElem?_set_self hil]at g1;cases g1;exact(hn k g2).imp (fun h5=>⟨i,F,h2,h5⟩) id
  ·rw[List.getElem?_set_ne e]at g1;exact .inl ⟨j,G,g1,g2⟩
theorem U6.push (hp:JX PH)(h:U6 PH w ps Fs Ss){p:Nat}{F:Nat->Prop}{S:Zf}(hb:Below w.heap.size w w')(h':PH w' p F S)(hn : ∀k,F k->w.heap.size<=k):U6 PH w' (ps ++ [p]) (Fs ++ [F]) (Ss ++ [S]) /\ ∀k,zx (Fs ++ [F]) k->zx Fs k\/w.heap.size<=k:=by
 have hlt:=h.lt hp;have hk:=h.below hp hb;obtain⟨l1,l2⟩:=h.len;have hg : ∀{A:Type} (l:List A) (x:A) (i:Nat) (y:A),(l ++ [x])[i]? = some y->(i < l.length/\l[i]? = some y)\/(i=l.length/\y=x):=fun {A} l x i y e=>by
  rcases Nat.lt_or_ge i l.length with hi | hi
  ·rw[List.getElem?_append_left hi]at e;exact .inl ⟨hi,e⟩
  ·rw[List.getElem?_append_right hi]at e;have h0:i - l.length=0:=by
    have:=(List.getElem?_eq_some_iff.1 e).1;simp at this;omega
   rw[h0]at e;simp at e;exact .inr ⟨by omega,e.symm⟩
 refine⟨⟨by simp[l1,l2],fun i q G R g1 g2 g3=>?_,fun i j G K hij g1 g2 k hG hK=>?_⟩,?_⟩
 ·rcases hg _ _ _ _ g1 with ⟨a1,b1⟩ | ⟨a1,b1⟩ <;> rcases hg _ _ _ _ g2 with ⟨a2,b2⟩ | ⟨a2,b2⟩ <;> rcases hg _ _ _ _ g3 with ⟨a3,b3⟩ | ⟨a3,b3⟩ <;> first | omega | skip
  ·exact hk.hou i q G R b1 b2 b3
  ·rw[b1,b2,b3];exact h'
 ·rcases hg _ _ _ _ g1 with ⟨a1,b1⟩ | ⟨a1,b1⟩ <;> rcases hg _ _ _ _ g2 with ⟨a2,b2⟩ | ⟨a2,b2⟩
  ·exact h.dis i j G K hij b1 b2 k hG hK
  ·subst b2;have:=hlt k ⟨i,G,b1,hG⟩;have:=hn k hK;omega
  ·subst b1;have:=hlt k ⟨j,K,b2,hK⟩;have:=hn k hG;omega
  ·omega
 ·rintro k ⟨i,G,g1,g2⟩;rcases hg _ _ _ _ g1 with ⟨a1,b1⟩ | ⟨a1,b1⟩
  ·exact .inl ⟨i,G,b1,g2⟩
  ·subst b1;exact .inr (hn k g2)
end
structure LM where
 m:MlV
 a:zA
 c:Nat
def LM.val (x:LM):Value := .slice x.a x.m.body.length x.c
def LM.cells (x:LM):List Value:=[.int .i64 x.m.frm,.int .i64 x.m.to,x.val]
def Zz (l:List LM):List Value:=l.flatMap LM.cells
theorem QV (l:List LM):(Zz l).length=l.length * 3:=by
 induction l with
 | nil=>rfl
 | cons x l ih=>show(LM.cells x ++ Zz l).length=_;rw[List.length_append,ih,List.length_cons];show 3+_=_;omega
theorem Z2P (l m:List LM):Zz (l ++ m)=Zz l ++ Zz m:=by simp[Zz]
theorem Z76 (x:LM):Zz [x]=x.cells:=by simp[Zz]
theorem Z61 (l:List LM): ∀v∈Zz l,v.oneCell'=true:=by
 intro v hv;obtain⟨x,_,hv⟩:=List.mem_flatMap.1 hv;simp only[LM.cells,LM.val,List.mem_cons,List.not_mem_nil,or_false]at hv;rcases hv with rfl | rfl | rfl <;> rfl
theorem Zbi: ∀(l:List LM) (q:Nat),(Zz l).take (q * 3)=Zz (l.take q)
 | [],q=>by simp[Zz]
 | x :: l,0=>by simp[Zz]
 | x :: l,q+1=>by
  show(x.cells ++ Zz l).take ((q+1) * 3)=x.cells ++ Zz (l.take q)
  rw[List.take_append,show(q+1) * 3 - x.cells.length=q * 3 by show _ - 3=_;omega,Zbi l q,List.take_of_length_le (by show 3<=_;omega)]
theorem Zbj: ∀(l:List LM) (q:Nat),(Zz l).drop (q * 3)=Zz (l.drop q)
 | [],q=>by simp[Zz]
 | x :: l,0=>by simp
 | x :: l,q+1=>by
  show(x.cells ++ Zz l).drop ((q+1) * 3)=Zz (l.drop q)
  rw[List.drop_append,show(q+1) * 3 - x.cells.length=q * 3 by show _ - 3=_;omega,Zbj l q,List.drop_of_length_le (by show 3<=_;omega)]
  rfl
theorem Z18: ∀{l:List LM} {i:Nat} {x:LM},l[i]? = some x -> ∀(j:Nat) (v:Value),x.cells[j]? = some v->(Zz l)[i * 3+j]? = some v
 | [],i,x,h,_,_,_=>by simp at h
 | y :: l,0,x,h,j,v,hv=>by
  simp at h
  subst h
  have hj:j < 3:=(List.getElem?_eq_some_iff.1 hv).1
  show(y.cells ++ Zz l)[0 * 3+j]? = _
  rw[List.getElem?_append_left (by show _ < 3;omega),Nat.zero_mul,Nat.zero_add]
  exact hv
 | y :: l,i+1,x,h,j,v,hv=>by
  show(y.cells ++ Zz l)[(i+1) * 3+j]? = _
  rw[List.getElem?_append_right (by show 3<=_;omega),show(i+1) * 3+j - y.cells.length=i * 3+j by show _ - 3=_;omega]
  exact Z18 (l:=l) (by simpa using h) j v hv
structure Us (PH:World->Nat->(Nat->Prop)->Zf->Prop)(tW tH:TypeId)(bf:Value->Value->ZV)(w:World)(p:Nat)(ps:List Nat)(Fs:List (Nat->Prop))(ha:zA)(hc:Nat)(xs:List LM)(ma:zA)(mc:Nat)(V:ZD):Prop where
 blk:w.heap[p]? = some (.cells (bf (.slice ha ps.length hc) (.slice ma xs.length mc)) tW (0,0))
 hrow:w.ownsRow 0 tH 1 (.slice ha ps.length hc) ps.length (ps.map fun q=>.pointer (some ⟨q,0,none⟩))
 hs:U6 PH w ps Fs V.hs
 mrow:w.ownsRow 0 152 3 (.slice ma xs.length mc) xs.length (Zz xs)
 mls:xs.map LM.m=V.ms
 bod : ∀x∈xs,w.ownsRow 0 5 1 x.val x.m.body.length (x.m.body.map Zs)
 sp : ¬zx Fs p
 sh : ∀k,zx Fs k->Value.ownBlock (.slice ha ps.length hc)≠some k
 sm : ∀k,zx Fs k->Value.ownBlock (.slice ma xs.length mc)≠some k
 sb : ∀k,zx Fs k -> ∀x∈xs,x.val.ownBlock≠some k
def wF (p:Nat)(Fs:List (Nat->Prop))(ha:zA)(hn hc:Nat)(xs:List LM)(ma:zA)(mc:Nat):Nat->Prop:=fun k=>k=p\/Value.ownBlock (.slice ha hn hc)=some k\/zx Fs k\/Value.ownBlock (.slice ma xs.length mc)=some k \/ ∃x∈xs,x.val.ownBlock=some k
section
variable {PH:World->Nat->(Nat->Prop)->Zf->Prop}{tW tH:TypeId}{bf:Value->Value->ZV}{w w':World}{p:Nat}{ps:List Nat}{Fs:List (Nat->Prop)}{ha:zA}{hc:Nat}{xs:List LM}{ma:zA}{mc:Nat}{V:ZD}
theorem Us.nh (h:Us PH tW tH bf w p ps Fs ha hc xs ma mc V):V.hs.length=ps.length:=h.hs.len.2
theorem Us.nm (h:Us PH tW tH bf w p ps Fs ha hc xs ma mc V):V.ms.length=xs.length:=by rw[<-h.mls,List.length_map]
theorem Us.same (hp:JX PH){X:Nat->Prop}(h:Us PH tW tH bf w p ps Fs ha hc xs ma mc V)(hs:Za X w w')(hd : ∀k,X k -> ¬wF p Fs ha ps.length hc xs ma mc k):Us PH tW tH bf w' p ps Fs ha hc xs ma mc V:=
 ⟨(hs.block p (Zj h.blk) (fun hX=>hd p hX (.inl rfl))).trans h.blk,Ze h.hrow hs (fun b hb hX=>hd b hX (.inr (.inl hb))),h.hs.same hp hs (fun k hk hF=>hd k hk (.inr (.inr (.inl hF)))),
  Ze h.mrow hs (fun b hb hX=>hd b hX (.inr (.inr (.inr (.inl hb))))),h.mls,fun x hx=>Ze (h.bod x hx) hs (fun b hb hX=>hd b hX (.inr (.inr (.inr (.inr ⟨x,hx,hb⟩))))),h.sp,h.sh,h.sm,h.sb⟩
theorem Us.below (hp:JX PH)(h:Us PH tW tH bf w p ps Fs ha hc xs ma mc V)(hb:Below w.heap.size w w'):Us PH tW tH bf w' p ps Fs ha hc xs ma mc V:=h.same hp (X:=fun _=>False) (Za.of_below hb) (fun _ e=>e.elim)
theorem Us.lt (hp:JX PH)(h:Us PH tW tH bf w p ps Fs ha hc xs ma mc V): ∀k,wF p Fs ha ps.length hc xs ma mc k->k < w.heap.size:=by
 rintro k (rfl | h1 | h1 | h1 | ⟨x,hx,h1⟩)
 ·exact Zj h.blk
 ·exact(h.hrow.lt k h1).2
 ·exact h.hs.lt hp k h1
 ·exact(h.mrow.lt k h1).2
 ·exact((h.bod x hx).lt k h1).2
theorem Us.house (hp:JX PH)(h:Us PH tW tH bf w p ps Fs ha hc xs ma mc V){i q:Nat}{F:Nat->Prop}{S':Zf}(h1:ps[i]? = some q)(h2:Fs[i]? = some F)(hr:Z1Q PH w q F S' w'):
  ∃Fs',Us PH tW tH bf w' p ps Fs' ha hc xs ma mc { V with hs:=V.hs.set i S' } /\ Za (zx Fs) w w'/\(∀k,wF p Fs' ha ps.length hc xs ma mc k->wF p Fs ha ps.length hc xs ma mc k\/w.heap.size<=k):=by
 obtain⟨F',g1,g2,g3⟩:=hr;obtain⟨u1,u2⟩:=h.hs.upd hp h1 h2 g1 g2 g3;have hS:Za (zx Fs) w w':=g2.weaken (fun k hk=>⟨i,F,h2,hk⟩);refine⟨Fs.set i F',⟨(hS.block p (Zj h.blk) h.sp).trans h.blk,Ze h.hrow hS (fun b hb hX=>h.sh b hX hb),u1,Ze h.mrow hS (fun b hb hX=>h.sm b hX hb),h.mls,
  fun x hx=>Ze (h.bod x hx) hS (fun b hb hX=>h.sb b hX x hx hb),fun hk=>?_,fun k hk hb=>?_,fun k hk hb=>?_,fun k hk x hx hb=>?_⟩,hS,?_⟩
 ·rcases u2 p hk with h5 | h5
  ·exact h.sp h5
  ·have:=Zj h.blk;omega
 ·rcases u2 k hk with h5 | h5
  ·exact h.sh k h5 hb
  ·have:=(h.hrow.lt k hb).2;omega
 ·rcases u2 k hk with h5 | h5
  ·exact h.sm k h5 hb
  ·have:=(h.mrow.lt k hb).2;omega
 ·rcases u2 k hk with h5 | h5
  ·exact h.sb k h5 x hx hb
  ·have:=((h.bod x hx).lt k hb).2;omega
 ·rintro k (e | e | e | e | e)
  ·exact .inl (.inl e)
  ·exact .inl (.inr (.inl e))
  ·exact(u2 k e).imp (fun e=>.inr (.inr (.inl e))) id
  ·exact .inl (.inr (.inr (.inr (.inl e))))
  ·exact .inl (.inr (.inr (.inr (.inr e))))
theorem Us.mail (hp:JX PH)(h:Us PH tW tH bf w p ps Fs ha hc xs ma mc V){X:Nat->Prop}{xs':List LM}{ma':zA}{mc':Nat}(hs:Za X w w')(hX : ∀k,X k -> ¬zx Fs k/\Value.ownBlock (.slice ha ps.length hc)≠some k)
  (hb:w'.heap[p]? = some (.cells (bf (.slice ha ps.length hc) (.slice ma' xs'.length mc')) tW (0,0))) (hm:w'.ownsRow 0 152 3 (.slice ma' xs'.length mc') xs'.length (Zz xs')) (hB : ∀x∈xs',w'.ownsRow 0 5 1 x.val x.m.body.length (x.m.body.map Zs))
  (hn : ∀k,(Value.ownBlock (.slice ma' xs'.length mc')=some k \/ ∃x∈xs',x.val.ownBlock=some k)->w.heap.size<=k\/Value.ownBlock (.slice ma xs.length mc)=some k \/ ∃x∈xs,x.val.ownBlock=some k):
  Us PH tW tH bf w' p ps Fs ha hc xs' ma' mc' { V with ms:=xs'.map LM.m } /\ (∀k,wF p Fs ha ps.length hc xs' ma' mc' k->wF p Fs ha ps.length hc xs ma mc k\/w.heap.size<=k):=by
 have hL:=h.hs.lt hp;have hno : ∀k,zx Fs k -> ¬(Value.ownBlock (.slice ma' xs'.length mc')=some k \/ ∃x∈xs',x.val.ownBlock=some k):=fun k hk e=>by
  rcases hn k e with h5 | h5 | ⟨x,hx,h5⟩
  ·have:=hL k hk;omega
  ·exact h.sm k hk h5
  ·exact h.sb k hk x hx h5
 refine⟨⟨hb,Ze h.hrow hs (fun b hb hk=>(hX b hk).2 hb),h.hs.same hp hs (fun k hk=>(hX k hk).1),hm,rfl,hB,h.sp,h.sh,fun k hk e=>hno k hk (.inl e),fun k hk x hx e=>hno k hk (.inr ⟨x,hx,e⟩)⟩,?_⟩;have ho : ∀k,(Value.ownBlock (.slice ma' xs'.length mc')=some k \/ ∃x∈xs',x.val.ownBlock=some k)->wF p Fs ha ps.length hc xs ma mc k\/w.heap.size<=k:=fun k e=>by
  rcases hn k e with h5 | h5 | h5
  ·exact .inr h5
  ·exact .inl (.inr (.inr (.inr (.inl h5))))
  ·exact .inl (.inr (.inr (.inr (.inr h5))))
 rintro k (e | e | e | e | e)
 ·exact .inl (.inl e)
 ·exact .inl (.inr (.inl e))
 ·exact .inl (.inr (.inr (.inl e)))
 ·exact ho k (.inl e)
 ·exact ho k (.inr e)
end
def Wld (PH:World->Nat->(Nat->Prop)->Zf->Prop)(tW tH:TypeId)(bf:Value->Value->ZV)(w:World)(p:Nat)(F:Nat->Prop)(V:ZD):Prop := ∃ps Fs ha hc xs ma mc,Us PH tW tH bf w p ps Fs ha hc xs ma mc V /\ ∀k,F k↔wF p Fs ha ps.length hc xs ma mc k
def Qt (PH:World->Nat->(Nat->Prop)->Zf->Prop)(tW tH:TypeId)(bf:Value->Value->ZV)(w:World)(p:Nat)(F:Nat->Prop)(V':ZD)(W:World):Prop := ∃F',Wld PH tW tH bf W p F' V'/\Za F w W /\ ∀k,F' k->F k\/w.heap.size<=k
def bfP (h m:Value):ZV := #[h,m]
abbrev Vu:=Wld Uu 141 27 bfP
abbrev Yj:=Qt Uu 141 27 bfP
section
variable {PH:World->Nat->(Nat->Prop)->Zf->Prop}{tW tH:TypeId}{bf:Value->Value->ZV}{w w':World}{p:Nat}{F:Nat->Prop}{V:ZD}
theorem Wld.same (hp:JX PH){X:Nat->Prop}(h:Wld PH tW tH bf w p F V)(hs:Za X w w')(hd : ∀k,X k -> ¬F k):Wld PH tW tH bf w' p F V:=by
 obtain⟨ps,Fs,ha,hc,xs,ma,mc,h1,h2⟩:=h;exact⟨ps,Fs,ha,hc,xs,ma,mc,h1.same hp hs (fun k hk hF=>hd k hk ((h2 k).2 hF)),h2⟩
theorem Wld.below (hp:JX PH)(h:Wld PH tW tH bf w p F V)(hb:Below w.heap.size w w'):Wld PH tW tH bf w' p F V:=h.same hp (X:=fun _=>False) (Za.of_below hb) (fun _ e=>e.elim)
theorem Wld.lt (hp:JX PH)(h:Wld PH tW tH bf w p F V): ∀k,F k->k < w.heap.size:=by
 obtain⟨ps,Fs,ha,hc,xs,ma,mc,h1,h2⟩:=h;exact fun k hk=>h1.lt hp k ((h2 k).1 hk)
theorem Qt.after {w0:World}{V':ZD}(h:Qt PH tW tH bf w p F V' w')(hb:Below w0.heap.size w0 w):Qt PH tW tH bf w0 p F V' w':=by
 obtain⟨F',h1,h2,h3⟩:=h;exact⟨F',h1,(Za.of_below hb).trans h2,fun k hk=>(h3 k hk).imp id (fun e=>Nat.le_trans hb.size e)⟩
theorem Qt.then {w2:World}{V':ZD}(hp:JX PH)(h:Qt PH tW tH bf w p F V' w')(hb:Below w'.heap.size w' w2):Qt PH tW tH bf w p F V' w2:=by
 obtain⟨F',h1,h2,h3⟩:=h;exact⟨F',h1.below hp hb,h2.trans (Za.of_below hb),h3⟩
theorem Qt.refl (h:Wld PH tW tH bf w p F V):Qt PH tW tH bf w p F V w:=⟨F,h,Za.refl _ _,fun k hk=>.inl hk⟩
end
end Go.Proofs.YtlnhppgfhkkidaaGreat
