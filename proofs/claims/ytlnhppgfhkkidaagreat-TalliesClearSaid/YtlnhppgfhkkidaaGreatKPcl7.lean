/- Parts of the proof, in order. -/
import Derived.Deep.RegionLaw
import Derived.Lib.SliceRun
import Derived.OrdersHeld
import Derived.StillTail
import Derived.Deep.RegionHeld3
import Derived.WalkKit
import Derived.Test.YtlnhppgfhkkidaaGreatKPcl6
set_option linter.unusedSimpArgs false
set_option linter.unusedVariables false
set_option maxHeartbeats 32000000
set_option maxRecDepth 100000
namespace Go.Proofs.YtlnhppgfhkkidaaGreat
open Go.Proofs.Tryz renaming prog → zq
open Go.RowKit
theorem Zdc {W:World}{k:Nat}{a:zA}{n c:Nat}{xs:List Value}(h:ZW W k a n c xs)(h0:0 < n): ∃b off,a=some ⟨b,off,none⟩ /\ ∀i x,xs[i]? = some x->W.cell? ⟨b,off+i,none⟩=some x:=h.at h0
theorem Us.at {PH:World->Nat->(Nat->Prop)->Zf->Prop}{tW tH:TypeId}{bf:Value->Value->ZV}{w:World}{p:Nat}{ps:List Nat}{Fs:List (Nat->Prop)}{ha:zA}{hc:Nat}{xs:List LM}{ma:zA}{mc:Nat}{V:ZD}
  (h:Us PH tW tH bf w p ps Fs ha hc xs ma mc V) {i:Int} {S:Zf} (hi:Y9 V i=some S) : ∃(k q:Nat) (F:Nat->Prop),i=(k:Int)+1/\(i - 1).toNat=k/\ps[k]? = some q/\Fs[k]? = some F/\PH w q F S/\V.hs[k]? = some S:=by
 obtain⟨k,h1,h2,h3⟩:=Ye hi;obtain⟨q,F,g1,g2,g3⟩:=h.hs.get h3;exact⟨k,q,F,h1,h2,g1,g2,g3,h3⟩
theorem Us.ret {PH:World->Nat->(Nat->Prop)->Zf->Prop}{tW tH:TypeId}{bf:Value->Value->ZV}{w w':World}{p:Nat}{ps:List Nat}{Fs:List (Nat->Prop)}{ha:zA}{hc:Nat}{xs:List LM}{ma:zA}{mc:Nat}{V:ZD}(hp:JX PH)
  (h:Us PH tW tH bf w p ps Fs ha hc xs ma mc V) {i:Int} {k q:Nat} {F:Nat->Prop} {S':Zf} (e:(i - 1).toNat=k) (h1:ps[k]? = some q) (h2:Fs[k]? = some F) (hr:Z1Q PH w q F S' w'):
  Qt PH tW tH bf w p (wF p Fs ha ps.length hc xs ma mc) (JM V i S') w':=by
 obtain⟨Fs',g1,g2,g3⟩:=h.house hp h1 h2 hr;rw[JY e];exact⟨_,⟨ps,Fs',ha,hc,xs,ma,mc,g1,fun k=>Iff.rfl⟩,g2.weaken (fun k hk=>.inr (.inr (.inl hk))),g3⟩
theorem Wld.open {PH:World->Nat->(Nat->Prop)->Zf->Prop}{tW tH:TypeId}{bf:Value->Value->ZV}{w:World}{p:Nat}{F:Nat->Prop}{V:ZD}(h:Wld PH tW tH bf w p F V):
  ∃ps Fs ha hc xs ma mc,Us PH tW tH bf w p ps Fs ha hc xs ma mc V/\F=wF p Fs ha ps.length hc xs ma mc:=by
 obtain⟨ps,Fs,ha,hc,xs,ma,mc,h1,h2⟩:=h;exact⟨ps,Fs,ha,hc,xs,ma,mc,h1,funext fun k=>propext (h2 k)⟩
def YU.cells (a:YU)(sa:zA)(sc:Nat):List Value:=[.int .i64 a.kind,.int .i64 a.house,.int .i64 a.to,.int .i64 a.idx] ++ (a.note.cells sa sc ++ [.int .i64 a.keep,.int .i64 a.flip])
section
variable {w:World}{p:Nat}{ps:List Nat}{Fs:List (Nat->Prop)}{ha:zA}{hc:Nat}{xs:List LM}{ma:zA}{mc:Nat}{V:ZD}
theorem Xi (h:Us Uu 141 27 bfP w p ps Fs ha hc xs ma mc V)(i:Int)(k q:Nat)(hik:i=(k:Int)+1)(hk:ps[k]? = some q):
  Calls zq 86 #[.pointer (some ⟨p,0,none⟩),.int .i64 i] w fun e w'=>e = .returned (.pointer (some ⟨q,0,none⟩))/\w'=w:=by
 have hkl:=(List.getElem?_eq_some_iff.1 hk).1;have hr:=ZW.of_own h.hrow;have hmx:=hr.maxn;have c0:=Z6 h.blk 0 (.slice ha ps.length hc) rfl;have J1:(zq.info? 27).map (·.size)=some 1:=by kernel_rfl
 obtain⟨b,off,rfl,hat⟩:=hr.at (by omega);have hcl:=hat k (.pointer (some ⟨q,0,none⟩)) (by rw[List.getElem?_map,hk];rfl);have hix:=fun W=>YR (W:=W) (c:=hc) (b:=b) (off:=off) Tryz.underlying139 J1 hkl (by rw[Nat.mul_one]);have t1:decide (i < 1)=false:=by simp;omega
 have t2:decide ((ps.length:Int) < i)=false:=by simp;omega
 have E1:=zH (show wrap64 (i - 1)=(k:Int)by unfold wrap64;omega);clear h hr hat hmx hk hkl hik;go_enter Tryz.func86,Tryz.ntmps86;go_upto_region 3 with fail;have e1:=E1.out;go_wp2;go_ret;exact⟨rfl,rfl⟩
theorem Z09 (h:Us Uu 141 27 bfP w p ps Fs ha hc xs ma mc V)(i:Int)(hi:i < 1\/(ps.length:Int) < i):
  Calls zq 86 #[.pointer (some ⟨p,0,none⟩),.int .i64 i] w fun e w'=>e = .returned (.pointer none)/\w'=w:=by
 have c0:=Z6 h.blk 0 (.slice ha ps.length hc) rfl;by_cases h1:i < 1
 focus
  have t1:decide (i < 1)=true:=by simp;omega
 rotate_left
 focus
  have t1:decide (i < 1)=false:=by simp;omega
  have t2:decide ((ps.length:Int) < i)=true:=by simp;omega
 all_goals
  clear h hi h1;go_enter Tryz.func86,Tryz.ntmps86;go_wp2;go_ret;exact⟨rfl,rfl⟩
theorem Vw (h:Us Uu 141 27 bfP w p ps Fs ha hc xs ma mc V)(h0:0 < ps.length):
  Calls zq 85 #[.pointer (some ⟨p,0,none⟩)] w fun e w'=>e = .returned (.bool true)/\w'=w:=by
 have c0:=Z6 h.blk 0 (.slice ha ps.length hc) rfl;have T1:=zH (show decide (0 < ps.length)=true by simp;omega);clear h h0;go_enter Tryz.func85,Tryz.ntmps85;go_wp2;go_ret;refine⟨?_,rfl⟩;show Ending.returned (.bool (decide (0 < ps.length)))=_;rw[T1.out]
theorem Z0v (h:Us Uu 141 27 bfP w p ps Fs ha hc xs ma mc V):
  Calls zq 142 #[.pointer (some ⟨p,0,none⟩)] w fun e w'=>e = .returned (.bool (decide (64<=V.ms.length)))/\w'=w:=by
 have c0:=Z6 h.blk 1 (.slice ma xs.length mc) rfl;rw[h.nm];have e:decide (64<=xs.length)=decide ((64:Int)<=(xs.length:Int)):=by rw[decide_eq_decide];omega
 rw[e];clear h e;go_enter Tryz.func142,Tryz.ntmps142;go_wp2;go_ret;exact⟨rfl,rfl⟩
end
theorem Z9e (p:Nat)(F:Nat->Prop)(V:ZD)(a:YU)(sa:zA)(sc:Nat)(S:Zf)(w:World)(h:Vu w p F V)(hS:Y9 V a.house=some S):
  Calls zq 88 #[.pointer (some ⟨p,0,none⟩),.agg (a.cells sa sc).toArray] w fun e w'=>e = .returned (.int .i64 0)/\Yj w p F (JM V a.house S.sync) w':=by
 have b0:=zB w (.cells (a.cells sa sc).toArray 67);have C1:=zH (show(a.cells sa sc).toArray[1]? = some (.int .i64 a.house)from rfl);obtain⟨OA,hOA⟩:=zX ((a.cells sa sc).toArray);rw[hOA.out]at b0 C1 ⊢;have X0:=zH (Z9 w (.cells OA 67));have H0:=zH (h.below Zl b0);have B0:=zH b0;clear b0 hOA h;go_enter Tryz.func88,Tryz.ntmps88;go_upto_region 1 with fail;obtain⟨p3,hp3⟩:=zX (w.heap.size);rw[hp3.out]at X0 ⊢;generalize w.alloc (.cells OA 67)=W0 at *;obtain⟨ps,Fs,ha,hc,xs,ma,mc,h1,h2⟩:=H0.out.open;obtain⟨k,q,Fk,e1,e2,g1,g2,g3,g4⟩:=h1.at hS;have c1:=Z6 X0.out 1 (.int .i64 a.house) C1.out;have HH:=zH (Xi h1 a.house k q e1 g1);obtain⟨mb,sp,G,SF,k1,k2⟩:=g3;have HK:=zH k1;have FIN:Hid (∀w',Y8 w' q mb sp G SF S.sync->Za (fun k=>k=sp) W0 w'->Yj w p F (JM V a.house S.sync) w'):=zH (fun w' j1 j2=>by
  rw[h2];refine Qt.after (w:=W0) ?_ B0.out;refine h1.ret Zl e2 g1 g2 ⟨Fk,⟨mb,sp,G,SF,j1,k2⟩,j2.weaken (fun b hb=>(k2 b).2 ?_),fun b hb=>.inl hb⟩;rw[show b=sp from hb];exact .inr (.inr (.inl k1.stk.self)))
 clear h1 h2 k1 k2 g1 g2 g4 H0 hS e1 e2;go_wp2_with fail;refine HH.out.mono ?_;rintro e w1 ⟨rfl,rfl⟩;go_wp2_with fail;refine(Jh q mb sp G SF S _ HK.out).mono ?_;rintro e w2 ⟨rfl,j1,j2⟩;have R:=zH (FIN.out _ j1 j2);clear j1 j2 c1;go_wp2;go_ret;exact⟨rfl,R.out⟩
def mz:List Value:=[.int .i64 0,.int .i64 0,.slice none 0 0]
theorem Z8G (w:World)(ty:TypeId)(g o c:Nat)(ht:w.there g o 3):
  (Builtin.clear_ #[89] ty #[.slice (some ⟨g,o,none⟩) 1 c]).run zq w = .ok (.tuple #[]) (w.setCells g o mz):=by
 have hst:=run_storeCells_cells (P:=zq) g o mz 0 w (fun j hj=>(ht j hj).1) (fun j hj=>(ht j hj).2) (by intro v hv;simp only[mz,List.mem_cons,List.not_mem_nil,or_false]at hv;rcases hv with rfl | rfl | rfl <;> rfl);simp only[Nat.add_zero]at hst;have hzn : ∀W,(zeroValue 152).run zq W = .ok (.agg #[.int .i64 0,.int .i64 0,.slice none 0 0]) W:=fun W=>by kernel_rfl
 have e:(Builtin.zeroCells #[.int .i64 0,.int .i64 0,.slice none 0 0] 1).toList=mz:=by kernel_rfl
 simp[Builtin.clear_,run_underlying Tryz.underlying89,hzn,Value.cells,e,hst]
theorem Z5V {w w':World}{base k n m c:Nat}{e:TypeId}{a:zA}{xs ys:List Value}{g:Nat}(h:w.ownsRow base e k (.slice a n c) n xs)(ha:a=some ⟨g,0,none⟩)(hm:m<=n)(hl:ys.length=m * k)
  (hb : ∀cur,w.heap[g]? = some (.cells cur e (0,0)) -> ∃cur',w'.heap[g]? = some (.cells cur' e (0,0))/\cur'.size=cur.size) (hc : ∀j v,ys[j]? = some v->w'.cell? ⟨g,j,none⟩=some v):w'.ownsRow base e k (.slice a m c) m ys:=by
 subst ha;refine⟨hl,.inr ?_⟩;rcases h.2 with ⟨h1,_⟩ | ⟨g',cap,cur,h1,h2,h3,h4,h5,h6,h7⟩
 ·cases h1
 ·cases h1;obtain⟨cur',e1,e2⟩:=hb cur h3;refine⟨g,c,cur',rfl,h2,e1,Nat.le_trans hm h4,h5,e2.trans h6,?_⟩;refine List.ext_getElem? fun j=>?_;rw[List.getElem?_take];split
  ·rename_i hj;have hj2:j < ys.length:=by omega
   have h8:=hc j _ (List.getElem?_eq_getElem hj2);rw[List.getElem?_eq_getElem hj2,<-h8];have hsz:j < cur'.size:=by
    rw[e2,h6];have:m * k<=c * k:=Nat.mul_le_mul_right _ (Nat.le_trans hm h4);omega
   simp[World.cell?,e1,hsz]
  ·rename_i hj;rw[List.getElem?_eq_none (by omega)]
theorem Z4m (xs:List LM)(i:Nat):Zz (xs.eraseIdx i)=Zz (xs.take i) ++ Zz (xs.drop (i+1)):=by
 rw[List.eraseIdx_eq_take_drop_succ,Z2P]
theorem Z9N (xs:List LM)(a:zA)(c i j:Nat)(hj:j=i+1)(w:World)(ho:w.ownsRow 0 152 3 (.slice a xs.length c) xs.length (Zz xs))(hi:i < xs.length):
  Calls zq 188 #[.slice a xs.length c,.int .i64 (i:Int),.int .i64 (j:Int)] w fun e w'=>e = .returned (.slice a (xs.length - 1) c) /\
   w'.ownsRow 0 152 3 (.slice a (xs.length - 1) c) (xs.length - 1) (Zz (xs.eraseIdx i))/\Za (fun k=>Value.ownBlock (.slice a xs.length c)=some k) w w':=by
 obtain⟨g,rfl⟩ : ∃g,a=some ⟨g,0,none⟩:=by
  rcases ho.2 with ⟨h1,h2⟩ | ⟨g,cap,cur,h1,_⟩
  ·omega
  ·cases h1;exact⟨g,rfl⟩
 have hr:=ZW.of_own ho;have hnc:=hr.le;have hcm:=hr.max;have hmx:=hr.maxn;have I3:(zq.info? 152).map (·.size)=some 3:=by kernel_rfl
 obtain⟨inf,hi1,hi2⟩ : ∃t,zq.info? 152=some t/\t.size=3:=by
  cases hq:zq.info? 152 with
  | none=>simp[hq]at I3
  | some t=>exact⟨t,rfl,by simpa [hq] using I3⟩
 obtain⟨cur,hcur,hcs,hct⟩ : ∃cur,w.heap[g]? = some (.cells cur 152)/\cur.size=c * 3/\cur.toList.take (xs.length * 3)=Zz xs:=by
  rcases ho.2 with ⟨h1,_⟩ | ⟨g',cap,cur,h1,_,h3,_,_,h6,h7⟩
  ·cases h1
  ·cases h1;exact⟨cur,h3,h6,h7⟩
 have hL:(Zz xs).length=xs.length * 3:=QV xs;have hcell : ∀j v,(Zz xs)[j]? = some v->w.cell? ⟨g,j,none⟩=some v:=fun j v hv=>by
  have hj:=(List.getElem?_eq_some_iff.1 hv).1;rw[<-hct,List.getElem?_take,if_pos (by omega)]at hv;have hs:j < cur.size:=by have:xs.length * 3<=c * 3:=Nat.mul_le_mul_right _ hnc;omega
  have hv2:cur[j]? = some v:=by simpa using hv
  have hv3:cur[j]=v:=by rw[Array.getElem?_eq_getElem hs]at hv2;exact Option.some.inj hv2
  simp[World.cell?,hcur,hs,hv3]
 obtain⟨news,hnews⟩ : ∃news,news=Zz (xs.drop j):=⟨_,rfl⟩;have hnl:news.length=(xs.length - j) * 3:=by rw[hnews,QV,List.length_drop]
 obtain⟨A,hA,hsrc⟩ : ∃A:Addr,(if c=j then some (⟨g,0,none⟩:Addr)else some ⟨g,j * 3,none⟩)=some A/\Hid (∀t u,news[t]? = some u->w.drew.cell? (A.add t)=some u):=by
  by_cases h:c=j
  ·refine⟨⟨g,0,none⟩,by simp[h],fun t u hu=>?_⟩;have h0:news.length=0:=by rw[hnl];omega
   rw[List.length_eq_zero_iff.1 h0]at hu;simp at hu
  ·refine⟨⟨g,j * 3,none⟩,by simp[h],fun t u hu=>?_⟩;rw[hnews,<-Zbj,List.getElem?_drop]at hu;rw[Addr.add_lit];exact hcell _ _ hu
 have s2:Hid (∀u∈news,u.oneCell'=true):=fun u hu=>by rw[hnews]at hu;exact Z61 _ u hu
 have s3:Hid (∀t,t < news.length->(w.drew.cell? ⟨g,0+i * 3+t,none⟩).isSome=true/\w.drew.frozen? ⟨g,0+i * 3+t,none⟩=false):=fun t ht=>by
  have h5:0+i * 3+t < cur.size:=by
   rw[hnl]at ht;have:xs.length * 3<=c * 3:=Nat.mul_le_mul_right _ hnc;omega
  refine⟨by show(w.cell? _).isSome=true;simp[World.cell?,hcur];omega,by show w.frozen? _=false;simp[World.frozen?,hcur]⟩
 obtain⟨W1,hW1⟩ : ∃W1,W1=w.drew.setCells g (0+i * 3) news:=⟨_,rfl⟩;obtain⟨cur1,hcur1,hcs1⟩ : ∃cur1,W1.heap[g]? = some (.cells cur1 152)/\cur1.size=cur.size:=by
  rw[hW1];exact Vl g news _ w.drew cur _ _ hcur
 obtain⟨k,hk⟩ : ∃k,xs.length=k+1:=⟨xs.length - 1,by omega⟩;have hk1:xs.length - 1=k:=by omega
 have hth:W1.there g (k * 3) 3:=fun j hj=>by
  have h5:k * 3+j < cur1.size:=by
   have:xs.length * 3<=c * 3:=Nat.mul_le_mul_right _ hnc;omega
  exact⟨by simp[World.cell?,hcur1,h5],by simp[World.frozen?,hcur1]⟩
 have hclr:=fun ty=>Z8G W1 ty g (k * 3) (c - k) hth;have hS:Za (fun k=>Value.ownBlock (.slice (some ⟨g,0,none⟩) xs.length c)=some k) w (W1.setCells g (k * 3) mz):=by
  have e1:Za (fun k=>k=g) w W1:=by rw[hW1];exact(Za.of_below ((Below.refl _ _).drew)).trans (QJ g _ news w.drew)
  exact(e1.trans (QJ g _ mz W1)).weaken (fun k hk=>by rw[show k=g from hk];rfl)
 have hown:(W1.setCells g (k * 3) mz).ownsRow 0 152 3 (.slice (some ⟨g,0,none⟩) k c) k (Zz (xs.eraseIdx i)):=by
  refine Z5V ho rfl (by omega) (by rw[QV,List.length_eraseIdx,if_pos hi,hk1]) (fun cur0 h0=>?_) (fun u v hv=>?_)
  ·rw[hcur]at h0;cases h0;obtain⟨cur',g1,g2⟩:=Vl g mz (k * 3) W1 cur1 _ _ hcur1;exact⟨cur',g1,g2.trans hcs1⟩
  ·have hu:=(List.getElem?_eq_some_iff.1 hv).1;rw[QV,List.length_eraseIdx,if_pos hi,hk1]at hu;rw[World.cell?_setCells_out g mz _ _ _ (fun _ _=>.inl hu),hW1];rw[Z4m,<-hj]at hv;have hti:(Zz (xs.take i)).length=i * 3:=by rw[QV,List.length_take,Nat.min_eq_left (by omega)]
   rcases Nat.lt_or_ge u (i * 3)with h5 | h5
   ·rw[List.getElem?_append_left (by omega),<-Zbi,List.getElem?_take,if_pos h5]at hv;rw[World.cell?_setCells_out g news _ _ _ (fun _ _=>.inl (by show u < 0+i * 3;omega))];exact hcell u v hv
   ·rw[List.getElem?_append_right (by omega),hti,<-hnews]at hv;have h6:=(List.getElem?_eq_some_iff.1 hv).1;have h7:=World.cell?_setCells_in g news (0+i * 3) w.drew (fun t ht=>(s3.out t ht).1) (u - i * 3) h6;rw[show 0+i * 3+(u - i * 3)=u by omega]at h7;rw[h7];exact congrArg some (List.getElem?_eq_some_iff.1 hv).2
 have OWN:=zH hown;have SM:=zH hS;have hW:Hid (W1=w.drew.setCells g (0+i * 3) news):=zH hW1;have HCL:=zH hclr;have HNL:=zH hnl;have HA:=zH hA;have HLT:Hid (j<=xs.length/\xs.length<=c):=zH ⟨by omega,hnc⟩;have HJ:Hid (j=i+1):=zH hj;have t1:((i:Int)==(j:Int))=false:=by rw[beq_eq_false_iff_ne];omega
 have hel:zq.elem 89=152:=by simp[Program.elem,Tryz.underlying89]
 have hcut0 : ∀W,(Instr.sliceAt 89 (.slice (some ⟨g,0,none⟩) xs.length c) (some (.int .i64 (i:Int))) (some (.int .i64 (j:Int))) (some (.int .i64 (xs.length:Int)))).run zq W = .ok (.slice (some ⟨g,i * 3,none⟩) 1 (xs.length - i)) W:=fun W=>by
  rw[run_sliceAt_slice (P:=zq) W _ _ _ _ _ (by rw[hel];exact Tryz.underlying89),run_slice_any (P:=zq) W _ _ xs.length c (by rw[hel];exact Tryz.underlying89)];simp[Instr.sliceBounds,run_sliceBound,Result.andThen,sizeOf,typeInfo,hel,hi1,hi2,sliced,Addr.add,show i<=j by omega,show j<=xs.length by omega,hnc,show j - i=1 by omega,show ¬xs.length=i by omega];intro h;simp[h]
 have hcut1 : ∀W,(Instr.sliceAt 89 (.slice (some ⟨g,0,none⟩) xs.length c) none (some (.int .i64 (i:Int))) none).run zq W = .ok (.slice (some ⟨g,0,none⟩) i c) W:=fun W=>by
  rw[run_sliceAt_slice (P:=zq) W _ _ _ _ _ (by rw[hel];exact Tryz.underlying89),run_slice_any (P:=zq) W _ _ xs.length c (by rw[hel];exact Tryz.underlying89)];simp[Instr.sliceBounds,run_sliceBound,Result.andThen,sizeOf,typeInfo,hel,hi1,hi2,sliced,show i<=c by omega,Addr.add]
 have hcut2 : ∀W,(Instr.sliceAt 89 (.slice (some ⟨g,0,none⟩) xs.length c) (some (.int .i64 (j:Int))) none none).run zq W = .ok (.slice (some A) (xs.length - j) (c - j)) W:=fun W=>by
  rw[run_sliceAt_slice (P:=zq) W _ _ _ _ _ (by rw[hel];exact Tryz.underlying89),run_slice_any (P:=zq) W _ _ xs.length c (by rw[hel];exact Tryz.underlying89)];simp[Instr.sliceBounds,run_sliceBound,Result.andThen,sizeOf,typeInfo,hel,hi1,hi2,sliced,Addr.add,show j<=xs.length by omega,hnc,<-hA,show ¬j * 3=0 by omega]
 have hcut3 : ∀W,(Instr.sliceAt 89 (.slice (some ⟨g,0,none⟩) k c) (some (.int .i64 (k:Int))) (some (.int .i64 (xs.length:Int))) none).run zq W = .ok (.slice (some ⟨g,k * 3,none⟩) 1 (c - k)) W:=fun W=>by
  rw[run_sliceAt_slice (P:=zq) W _ _ _ _ _ (by rw[hel];exact Tryz.underlying89),run_slice_any (P:=zq) W _ _ k c (by rw[hel];exact Tryz.underlying89)];simp[Instr.sliceBounds,run_sliceBound,Result.andThen,sizeOf,typeInfo,hel,hi1,hi2,sliced,Addr.add,hnc,show k<=xs.length by omega,show ¬c=k by omega];refine⟨by intro h;simp[h],by omega⟩
 have HIK:Hid (i+(xs.length - j)=k/\xs.length - 1=k):=zH ⟨by omega,hk1⟩;clear hk hk1 hth hj hown hS hW1 hclr hnl hA hcur hcs hct hcell hnews hcur1 hcs1 ho hr hL hi hnc hel;go_enter Tryz.func188,Tryz.ntmps188;go_wp2_with fail;go_region_law (refine step_append_room (by rfl) (.tmp 22) (.tmp 25) 89 (by rfl) 152 inf 3 Tryz.underlying89 hi1 hi2 g 0 i c (by simp[Act.eval,Act.put]) A (xs.length - j) (c - j) news (by simp[Act.eval,Act.put]) HNL.out hsrc.out s2.out (by have:=HLT.out;have:=HJ.out;omega) s3.out ?_;rw[<-hW.out,HIK.out.1]);go_wp2_with (refine Z01 rfl _ _ rfl _ _ rfl (HCL.out _) ?_);rw[HIK.out.2];go_ret;exact⟨rfl,OWN.out,SM.out⟩
theorem Z74 (xs:List LM)(a:zA)(c i:Nat)(w:World)(ho:w.ownsRow 0 152 3 (.slice a xs.length c) xs.length (Zz xs))(hi:i < xs.length):
  Calls zq 188 #[.slice a xs.length c,.int .i64 (i:Int),.int .i64 ((i:Int)+1)] w fun e w'=>e = .returned (.slice a (xs.length - 1) c) /\
   w'.ownsRow 0 152 3 (.slice a (xs.length - 1) c) (xs.length - 1) (Zz (xs.eraseIdx i))/\Za (fun k=>Value.ownBlock (.slice a xs.length c)=some k) w w':=Z9N xs a c i (i+1) rfl w ho hi
def Z2C (w:World)(p mb sp:Nat)(G:Nm->Option LN)(SF:Nat->Prop)(S:Zf)(n:Z8)(e:Ending)(W:World):Prop:=
 (∃ta tc,e = .returned (.tuple #[.agg (Z5 (VA S n).2.1 ta tc),.int .i64 (VA S n).2.2])/\W.ownsRow w.heap.size 3 1 (.slice ta (VA S n).2.1.strokes.length tc) (VA S n).2.1.strokes.length ((VA S n).2.1.strokes.map Yq)) /\
 ∃G' SF',Y8 W p mb sp G' SF' (VA S n).1/\Za (Yd p mb G SF) w W /\ ∀k,Yd p mb G' SF' k->Yd p mb G SF k\/w.heap.size<=k
theorem Z2C.no {w W:World}{p mb sp:Nat}{G:Nm->Option LN}{SF:Nat->Prop}{S:Zf}{n:Z8}{e:Ending}{c:Int}(hd:VA S n=(S,Zh,c))(he:e = .returned (.tuple #[.agg (Z5 Zh none 0),.int .i64 c]))(hh:Y8 w p mb sp G SF S)(hb:Below w.heap.size w W):Z2C w p mb sp G SF S n e W:=
 ⟨⟨none,0,by rw[hd];exact he,by rw[hd];exact World.ownsRow_nil _ _ _ _⟩,G,SF,by rw[hd];exact hh.below hb,Za.of_below hb,fun k hk=>.inl hk⟩
section
attribute [local go_sem] ZS X9 XZ XJ
theorem Zby (p mb sp:Nat)(G:Nm->Option LN)(SF:Nat->Prop)(S:Zf)(n:Z8)(sa:zA)(sc:Nat)(w:World)(hh:Y8 w p mb sp G SF S)(hi:Xe S)(hs:XU w sa n.strokes.length sc n.strokes)(hok:n.Ok)(hst:n.strokes.length<=1000000000)(hlen:S.l.length < 400):
  Calls zq 19 #[.pointer (some ⟨p,0,none⟩),.agg (Z5 n sa sc)] w fun e w'=>Z2C w p mb sp G SF S n e w':=by
 have HH:=zH hh;have HI:=zH hi;have HOK:=zH hok;have HLEN:=zH hlen;have HLT:=zH hh.lt;obtain⟨k,hk,hk8⟩ : ∃k:Nat,S.id=(k:Int)/\k<=8:=⟨S.id.toNat,by have:=hi.id;omega,by have:=hi.id;omega⟩;have HK:=zH hk;have HK8:=zH hk8;have CB:Hid (S.c (k:Int)<=400):=zH (Zc5 hi _);have oneZ:=zH (Zm Zh none 0);have B0:Hid (Below w.heap.size w ((w.alloc (.cells (Z5 n sa sc) 47)).alloc (.cells (Z5 Zh none 0) 47))):=zH ((zB _ _).alloc (by simp) _);have N0:=zH (Zb _ (.cells (Z5 Zh none 0) 47) _ _ (Z9 w (.cells (Z5 n sa sc) 47)));have Z0:=zH (Zv (w.alloc (.cells (Z5 n sa sc) 47)) (.cells (Z5 Zh none 0) 47) (w.heap.size+1) (by simp));have RS:=zH (hs.below B0.out);clear hh hi hs hok hlen hk hk8;go_enter Tryz.func19,Tryz.ntmps19;go_upto_region 1 with fail;rw[<-YI];obtain⟨p3,hp3⟩:=zX (w.heap.size);obtain⟨p4,hp4⟩:=zX (w.heap.size+1);have GE0:Hid (w.heap.size<=p3/\p3 < p4):=zH (by have:=hp3.out;have:=hp4.out;omega);rw[hp3.out]at N0;rw[hp4.out]at Z0;rw[hp4.out,hp3.out];generalize (w.alloc (.cells (Z5 n sa sc) 47)).alloc (.cells (Z5 Zh none 0) 47)=w0 at *;go_wp2_with fail;refine(VM w0 p mb sp S.f S.id S.c (HH.out.below B0.out).blk).mono ?_;rintro e w1 ⟨rfl,hw1⟩;rw[hw1];clear hw1 w1;go_upto_region 3 with fail;go_wp2_with (first
  |(refine zL p3 N0.out ?_))
 refine(Z0n n sa sc w0 RS.out hst).mono ?_;rintro e w2 ⟨ta,tc,rfl,ho,b2⟩;have N2:=zH (Z7 b2 N0.out);have Z2:=zH (Z7 b2 Z0.out);have B2:=zH (B0.out.trans (b2.mono B0.out.size));have O2:=zH (Zu ho B0.out.size);clear ho b2 N0 Z0 RS;have oneN:=Zm n ta tc;go_upto_region 4 with (refine zN p3 (Z5 n ta tc) N2.out ?_);clear oneN;have N3:=zH (Yp w2 p3 _ (Z5 n ta tc) _ _ N2.out);have S3:=zH (UA w2 p3 (Z5 n ta tc));generalize w2.setRow p3 (Z5 n ta tc)=w3 at *;have DA:Hid (UR w w3 p3 p4 n ta tc):=zH ⟨S3.out.below B2.out B2.out.size (fun q hq=>by rw[show q=p3 from hq];exact GE0.out.1),N3.out,(S3.out.block p4 (Zj Z2.out) (fun e=>by have:=GE0.out;omega)).trans Z2.out,Ze O2.out S3.out (fun b hb e=>Zn O2.out N2.out (by intro cur;simp) (by rw[hb,show b=p3 from e])),GE0.out⟩;clear N2 Z2 O2 N3 S3 B2 GE0 hst;refine zp ((HH.out.below DA.out.bel).blk) fun hh=>?_;have DB:=zH (DA.out.below ((zd w3)));generalize w3.drew=V0 at *;clear DA;refine zw 0 rfl p 0 ?_;refine zw 1 rfl p 0 ?_;refine zw 2 rfl p 3 ?_;refine zS 3 rfl (.int .i64 (k:Int)) (fun W h=>by have hc:=Z6 h 3 (.int .i64 (k:Int)) (by rw[HK.out];rfl);go_simp) ?_;refine zw 4 rfl p 0 ?_;refine zw 5 rfl p 0 ?_;refine zw 6 rfl p 0 ?_;refine zw 7 rfl p 3 ?_;refine zS 8 rfl (.int .i64 (k:Int)) (fun W h=>by have hc:=Z6 h 3 (.int .i64 (k:Int)) (by rw[HK.out];rfl);go_simp) ?_;refine zw 9 rfl p 0 ?_;refine zw 10 rfl p 5 ?_;refine zS 11 rfl (.pointer (some ⟨p,5+k,none⟩)) (fun W h=>by have hc:=Z66 (W:=W) (p:=p) (k:=k) (by have:=HK8.out;omega);go_simp) ?_;refine zS 12 rfl (.int .i64 (S.c (k:Int):Int)) (fun W h=>by have hc:=Z6 h (5+k) (.int .i64 (S.c (k:Int):Int)) (Z4e _ _ _ _ _ k HK8.out);go_simp) ?_;refine zS 13 rfl (.int .i64 ((S.c (k:Int):Int)+1)) (fun W h=>by have hcb:IntKind.i64.wrap ((S.c (k:Int):Int)+1)=(S.c (k:Int):Int)+1:=(by have h9:=CB.out;rw[IntKind.wrap_i64];omega);go_simp) ?_;refine zw 14 rfl p3 0 ?_;refine zR 15 rfl fun K hK=>?_;have hc:=Z6 DB.out.n 0 _ rfl;have hfz:=Zq DB.out.n 0
 have DE:Hid (UR w (V0.setCell ⟨p3,0,none⟩ (.int .i64 (k:Int))) p3 p4 { n with house:=(k:Int) } ta tc):=zH (DB.out.set (Za.of_grown (Zp _ p3 0 _) (fun q e=>by cases e;rfl)) (by have h1:=ZI DB.out.n 0 (.int .i64 (k:Int));exact h1) rfl);have HP1:=zH ((HH.out.below DE.out.bel).blk);go_simp;clear hc hfz hh;refine zK hK HP1.out fun hh=>?_;clear hK K;refine zw 16 rfl p3 1 ?_;refine zR 17 rfl fun K hK=>?_;have hc:=Z6 DE.out.n 1 _ rfl;have hfz:=Zq DE.out.n 1;have DF:Hid (UR w ((V0.setCell ⟨p3,0,none⟩ (.int .i64 (k:Int))).setCell ⟨p3,1,none⟩ (.int .i64 ((S.c (k:Int):Int)+1))) p3 p4 { n with house:=(k:Int),num:=(S.c (k:Int):Int)+1 } ta tc):=zH (DE.out.set (Za.of_grown (Zp _ p3 1 _) (fun q e=>by cases e;rfl)) (by have h1:=ZI DE.out.n 1 (.int .i64 ((S.c (k:Int):Int)+1));exact h1) rfl);have HP2:=zH ((HH.out.below DF.out.bel).blk);go_simp;clear hc hfz hh;refine zK hK HP2.out fun hh=>?_;clear hK K;refine zw 18 rfl p3 2 ?_;refine zR 19 rfl fun K hK=>?_;have hc:=Z6 DF.out.n 2 _ rfl;have hfz:=Zq DF.out.n 2;have DG:Hid (UR w (((V0.setCell ⟨p3,0,none⟩ (.int .i64 (k:Int))).setCell ⟨p3,1,none⟩ (.int .i64 ((S.c (k:Int):Int)+1))).setCell ⟨p3,2,none⟩ (.int .i64 1)) p3 p4 { n with house:=(k:Int),num:=(S.c (k:Int):Int)+1,clock:=1 } ta tc):=zH (DF.out.set (Za.of_grown (Zp _ p3 2 _) (fun q e=>by cases e;rfl)) (by have h1:=ZI DF.out.n 2 (.int .i64 1);exact h1) rfl);have HP3:=zH ((HH.out.below DG.out.bel).blk);go_simp;clear hc hfz hh;refine zK hK HP3.out fun hh=>?_;clear hK K;refine zE ?_;clear HP1 HP2 HP3 DB DE DF hh;have DA:Hid (UR w (((V0.setCell ⟨p3,0,none⟩ (.int .i64 (k:Int))).setCell ⟨p3,1,none⟩ (.int .i64 ((S.c (k:Int):Int)+1))).setCell ⟨p3,2,none⟩ (.int .i64 1)) p3 p4 (doC S n 1) ta tc):=zH (by
  have h:=DG.out;unfold doC;rw[HK.out];exact h)
 clear DG;generalize ((V0.setCell ⟨p3,0,none⟩ (.int .i64 (k:Int))).setCell ⟨p3,1,none⟩ (.int .i64 ((S.c (k:Int):Int)+1))).setCell ⟨p3,2,none⟩ (.int .i64 1)=w4 at *;have c4:=Z6 (HH.out.below DA.out.bel).blk 4 (.map (some mb)) rfl;go_wp2_with (first
  |(at_range;refine J7 _ rfl _ 106 47 rfl Tryz.underlying106 mb S.l.length rfl (HH.out.below DA.out.bel).map ?_;intro w5 cnt0 hrg0 hg0 hs0)
  | fail)
 go_frame;have DA5:=zH (DA.out.below (Z4Y hg0));obtain⟨r,hr⟩:=zX (w4.heap.size);have RNG:=zH hrg0;have RGE:Hid (p4 < r):=zH (by have:=Zj DA.out.z;have:=hr.out;omega);rw[hr.out]at RNG;rw[hr.out];clear hrg0 hg0 hs0 c4;go_loopw [39] (fun _ wr=>∃(ks:List Nm) (cnt:Nat) (c:Int),Hid (Ya LN.val wr mb r S.l.length G ks cnt)/\Hid (UR w wr p3 p4 (doC S n c) ta tc)/\Hid (Qw ((ks.filterMap G).map LN.n) c)) (fun _ wr=>wr.rangeLeft mb r)
 case atStart=>exact⟨[],cnt0,1,RNG,DA5,zH Qw.nil⟩
 case round=>
  obtain⟨ks,cnt,c,HR,DR,HC⟩:=hrel;clear RNG DA5 DA;go_upto_region 7 with (first
   |(at_next;refine Jo wr rfl _ rfl mb r S.l.length cnt ks rfl HR.out ?_ ?_)
   | fail)
  ·intro hall;have HALL:=zH hall;clear hall;have CK:Hid (c=Z6e S.l):=zH (HC.out.uniq ((Z95 S.l).mem fun x=>by
    constructor
    ·intro hx;obtain⟨y,hy,rfl⟩:=List.mem_map.1 hx;obtain⟨q,_,hq⟩:=List.mem_filterMap.1 hy;exact(HH.out.gs q y hq).1
    ·intro hx;obtain⟨y,hy,rfl⟩:=HH.out.gl x hx;exact List.mem_map_of_mem (List.mem_filterMap.2 ⟨_,HALL.out _ (by rw[hy];rfl),hy⟩)))
   have DA:Hid (UR w wr p3 p4 (QY S n) ta tc):=zH (by have h:=DR.out;rw[CK.out]at h;exact h);have CK2:Hid (Z6e S.l<=1099511627777):=zH (by
    rcases(Z95 S.l).2.2 with h | ⟨x,hx,h⟩
    ·omega
    ·have:=Vs (HI.out.frm x hx);omega)
   clear HR DR HC HALL CK;have c4:=Z6 (HH.out.below DA.out.bel).blk 4 (.map (some mb)) rfl;have cn:=Z6 DA.out.n 2 (.int .i64 (Z6e S.l)) rfl;by_cases hck:1099511627776 < Z6e S.l
   ·have HD:=zH (show VA S n=(S,Zh,2)by unfold VA;rw[if_pos (.inr hck)]);have t1:decide (1099511627776 < Z6e S.l)=true:=by simp[hck]
    clear hck;go_wp2_with (first
     |(at_len;refine QG rfl _ 106 47 rfl Tryz.underlying106 mb S.l.length rfl (HH.out.below DA.out.bel).map ?_;intro kk hkk;have tkk:decide ((400:Int)<=(kk:Int))=false:=(by have:=HLEN.out;simp;omega))
     |(refine zN p4 (Z5 Zh none 0) DA.out.z ?_))
    refine zr (Yp _ p4 _ _ _ _ DA.out.z) ?_;exact Z2C.no HD.out rfl HH.out (DA.out.done (UA _ p4 _)).1
   ·have t1:decide (1099511627776 < Z6e S.l)=false:=by simp;omega
    have CK3:=zH hck;clear hck;go_upto_region 11 with (first
      |(at_len;refine QG rfl _ 106 47 rfl Tryz.underlying106 mb S.l.length rfl (HH.out.below DA.out.bel).map ?_;intro kk hkk;have tkk:decide ((400:Int)<=(kk:Int))=false:=(by have:=HLEN.out;simp;omega))
      | fail)
    clear t1 tkk hkk c4 cn;have CN:=zH (fun W (hb:Below wr.heap.size wr W)=>Ur S.f (QY S n) ta tc W (ZW.of_own (Zd DA.out.own hb)));have hvl:S.f.val = .agg #[.int .i64 S.f.rings,.int .i64 S.f.sectors,.int .i64 S.f.wide]:=rfl;rw[hvl]at CN;clear hvl;obtain⟨z,hz⟩:=zX (ZP S.f (QY S n));rw[hz.out]at CN;have hC0:Below wr.heap.size wr wr.drew:=(Below.refl _ _).drew;have LH:=zH (show ∀w0,Below wr.heap.size wr w0->w0.heap[p]? = some (.cells (Xy S.f S.id mb S.c sp) 109)from fun w0 h=>(HH.out.below (DA.out.below h).bel).blk);have LN3:=zH (show ∀w0,Below wr.heap.size wr w0->w0.heap[p3]? = some (.cells (Z5 (QY S n) ta tc) 47)from fun w0 h=>(DA.out.below h).n);try simp only[Act.put,lq3,lq4,lq5]
    refine zC (fun w':World=>Below wr.heap.size wr w') hC0 ?_;go_big_quiet_step (fail);refine zv p 0 ?_;refine zv p 0 ?_;refine zQ (.agg #[.int .i64 S.f.rings,.int .i64 S.f.sectors,.int .i64 S.f.wide]) (fun w0 hC=>?_) ?_
    ·have c0:=Z6 (LH.out w0 hC) 0 (.int .i64 S.f.rings) rfl;have c1:=Z6 (LH.out w0 hC) 1 (.int .i64 S.f.sectors) rfl;have c2:=Z6 (LH.out w0 hC) 2 (.int .i64 S.f.wide) rfl;clear hC;go_simp
    refine zQ (.agg (Z5 (QY S n) ta tc)) (fun w0 hC=>Qe (.tmp 3) rfl p3 rfl (QY S n) ta tc (LN3.out w0 hC)) ?_;refine zQ (.int .i64 z) (fun w0 hC=>?_) ?_
    ·go_simp;refine(CN.out w0 hC).mono ?_;rintro e w1 ⟨rfl,b1⟩;exact⟨rfl,hC.trans (b1.mono hC.size)⟩
    refine zV (.bool (z != 0)) ?_;refine wpQuiet_nil ?_;intro w' hC;replace DA:=zH (DA.out.below hC);clear hC LH LN3 CN hC0;generalize hwr:wr=wold at *;clear hwr;generalize w'=wr at *;by_cases hz0:z=0
    case neg=>
     have HD:=zH (show VA S n=(S,Zh,80)by unfold VA;rw[if_neg (by have:=HLEN.out;have:=CK3.out;omega),if_pos (by rw[hz.out];exact hz0)]);have t1:(z != 0)=true:=by simp[hz0]
     clear hz0;go_wp2_with (first
      |(refine zN p4 (Z5 Zh none 0) DA.out.z ?_))
     refine zr (Yp _ p4 _ _ _ _ DA.out.z) ?_;exact Z2C.no HD.out rfl HH.out (DA.out.done (UA _ p4 _)).1
    rw[hz0];have CZ:Hid (ZP S.f (QY S n)=0):=zH (hz.out.trans hz0);clear hz hz0;have FM:Hid (Zg S.f (QY S n)=true):=zH (by
     have h:=CZ.out;unfold ZP at h;rw[if_pos HI.out.v]at h;by_cases h2:Zg S.f (QY S n)=true
     ·exact h2
     ·rw[if_neg h2]at h;cases h)
    have MOK:=zH (Z8A HOK.out FM.out);have HNUM:Hid ((QY S n).num=(S.c (QY S n).house:Int)+1):=zH rfl;have HADD:=zH (HI.out.add FM.out MOK.out HNUM.out);have NOK:Hid (Um ((QY S n).house,(QY S n).num)):=zH ⟨MOK.out.house,MOK.out.num⟩;have KIND:Hid ((QY S n).kind=n.kind):=zH rfl;obtain⟨m,hm⟩:=zX (QY S n);rw[hm.out]at DA FM MOK HNUM HADD NOK KIND;have c4:=Z6 (HH.out.below DA.out.bel).blk 4 (.map (some mb)) rfl;go_wp2_with fail;refine(Un mb S.l.length G wr (HH.out.below DA.out.bel).map).mono ?_;rintro e w14 ⟨rfl,hmk,bk⟩;have MK:=zH hmk;have KGE:Hid (p4 < wr.heap.size):=zH (Zj DA.out.z);replace DA:=zH (DA.out.below bk);clear bk hmk c4;obtain⟨kb,hkb⟩:=zX (wr.heap.size);rw[hkb.out]at MK KGE;rw[hkb.out];go_upto_region 14 with fail;refine zp DA.out.n fun hh=>?_;replace DA:=zH (DA.out.below ((zd w14)));replace MK:=zH (MK.out.below ((zd w14)));generalize w14.drew=V at *;refine zW 0 rfl (.map (some kb)) ?_;refine zT 1 rfl (.agg (Z5 m ta tc)) (zY p3 fun W h=>h) ?_;refine zT 3 rfl (.agg (Z5 m ta tc)) (zY p3 fun W h=>h) ?_;refine zR 2 rfl fun K hK=>?_;go_simp;go_at_call 58;refine(QU m ta tc V).mono ?_;rintro e V' ⟨rfl,bb⟩;replace DA:=zH (DA.out.below bb);replace MK:=zH (MK.out.below bb);clear bb hh;dsimp only;generalize hVo:V=Vo at *;clear hVo;generalize V'=V at *;refine zK hK DA.out.n fun hh=>?_;clear hK K;refine zR 4 rfl fun K hK=>?_;obtain⟨V',hrun,hm3,ht3⟩:=Qx (t:=106) MK.out (by have:=HLEN.out;unfold maxLen;omega) Tryz.underlying106 m.house m.num NOK.out (⟨m,ta,tc⟩:LN);have DA2:Hid (UR w V' p3 p4 m ta tc):=zH (by
     obtain⟨es,cl,hb⟩:=MK.out.blk;exact DA.out.other (Za.of_grown (S:=fun q=>q=kb) ht3.grown (fun q e=>by cases e;rfl)) KGE.out hb (by intro cur;simp))
    have MK2:Hid (Y4 LN.val V' kb (S.l.length+1) (Yv G (Zk m) ⟨m,ta,tc⟩)):=zH hm3;clear hm3 ht3 hh;unfold LN.val at hrun;go_simp;clear hrun DA MK;generalize hVo:V=Vo at *;clear hVo;generalize V'=V at *;refine zK hK DA2.out.n fun hh=>?_;clear hK K;refine zE ?_;clear hh;have GOK2:Hid (GOk (Yv G (Zk m) ⟨m,ta,tc⟩) V):=zH (fun q x hx=>by
     unfold Yv at hx;split at hx
     ·rename_i e;cases hx;exact⟨ZW.of_own DA2.out.own,by rw[e];exact NOK.out,Nat.le_trans (Jx HI.out.v FM.out) (by decide)⟩
     ·exact((HH.out.gok HI.out).below DA2.out.bel) q x hx)
    obtain⟨G2,hG2⟩:=zX (Yv G (Zk m) ⟨m,ta,tc⟩);rw[hG2.out]at MK2 GOK2;have LST:Hid (∀ks,Jd G2 ks->ks.Pairwise (fun x y=>JH x y=true)->(ks.filterMap G2).map LN.n=YV S.l m):=zH (by
     rw[<-hG2.out];exact fun ks h1 h2=>ZcF (Zdh (x:=⟨m,ta,tc⟩) HH.out.gs) (Zdi (x:=⟨m,ta,tc⟩) HH.out.gl HADD.out.2) HADD.out.1.srt h1 h2)
    have IOK:Hid (∀x∈YV S.l m,x.Ok):=zH HADD.out.1.ok;go_upto_region 15 with fail;apply ZeP (P:=fun(xa:zA) (xn xc:Nat) (v:Value) (p9:Nat) (W:World)=>Hid (UR w W p3 p4 m ta tc /\ ∃va vb ca cn cc,v = .agg #[va,vb,.slice ca cn cc]/\W.heap[p9]? = some (.cells #[va,vb,.slice ca cn cc] 77)/\ZW W 2 ca cn cc (ZC (Z4K S.f (YV S.l m) (YV S.l m) 99999).2.2)))
    ·intro REST;refine zp ((HH.out.below DA2.out.bel).blk) fun hh=>?_;replace DA2:=zH (DA2.out.below ((zd V)));replace MK2:=zH (MK2.out.below ((zd V)));replace GOK2:=zH (GOK2.out.below ((zd V)));generalize V.drew=U at *;refine zw 0 rfl p 0 ?_;refine zw 1 rfl p 0 ?_;refine zw 2 rfl p 0 ?_;refine zS 3 rfl (.agg #[.int .i64 S.f.rings,.int .i64 S.f.sectors,.int .i64 S.f.wide]) (fun W h=>by have h0:=Z6 h 0 (.int .i64 S.f.rings) rfl;have h1:=Z6 h 1 (.int .i64 S.f.sectors) rfl;have h2:=Z6 h 2 (.int .i64 S.f.wide) rfl;go_simp) ?_;refine zW 4 rfl (.map (some kb)) ?_;refine zM [5,10] rfl (fun K hK=>?_) ?_
     focus
      go_simp;go_at_call 61;refine(Z0e kb (S.l.length+1) G2 U MK2.out (by have:=HLEN.out;omega) GOK2.out).mono ?_;rintro e U' ⟨⟨xa,xn,xc,zs,ks,rfl,h1,h2,h3,h4,h5,h6⟩,bb⟩;have RX:Hid (UP U' xa xn xc (YV S.l m)):=zH (by have h7:=h1.rd;rwa [h2,LST.out ks h3 h4]at h7);replace DA2:=zH (DA2.out.below bb);replace MK2:=zH (MK2.out.below bb);replace GOK2:=zH (GOK2.out.below bb);clear h1 h2 h3 h4 h5 h6 bb hh;dsimp only;generalize hVo:U=Uo at *;clear hVo;generalize U'=U at *;refine zK hK (HH.out.below DA2.out.bel).blk fun hh=>?_;clear hK K;refine zM [6,10] rfl (fun K hK=>?_) ?_
      ·go_simp;go_at_call 34;refine(Z7n S.f xa xn xc (YV S.l m) U RX.out IOK.out).mono ?_;rintro e U' ⟨v,rfl,h1,bb⟩;have RV:=zH h1;replace DA2:=zH (DA2.out.below bb);replace MK2:=zH (MK2.out.below bb);replace GOK2:=zH (GOK2.out.below bb);replace RX:=zH (RX.out.below bb);clear h1 bb hh;dsimp only;generalize hVo:U=Uo at *;clear hVo;generalize U'=U at *;refine zK hK (HH.out.below DA2.out.bel).blk fun hh=>?_;clear hK K;refine zW 7 rfl (.tuple #[v,.int .i64 (Z6c S.f (YV S.l m))]) ?_;refine zW 8 rfl v ?_;refine zW 9 rfl (.int .i64 (Z6c S.f (YV S.l m))) ?_;refine zR 10 rfl fun K hK=>?_;have bb:Below U.heap.size U (U.alloc (.cells #[.slice none 0 0,.slice none 0 0,.slice none 0 0] 77)):=zB _ _;have P9:=zH (Z9 U (.cells #[.slice none 0 0,.slice none 0 0,.slice none 0 0] 77));have GE9:Hid (p4 < U.heap.size):=zH (Zj DA2.out.z);replace DA2:=zH (DA2.out.below bb);replace MK2:=zH (MK2.out.below bb);replace GOK2:=zH (GOK2.out.below bb);replace RV:=zH (RV.out.below bb);clear bb hh;go_simp;obtain⟨p9,hp9⟩:=zX (U.heap.size);rw[hp9.out]at P9 GE9 ⊢;generalize hVo:U.alloc (.cells #[.slice none 0 0,.slice none 0 0,.slice none 0 0] 77)=U' at *;clear hVo hp9;generalize hVo:U=Uo at *;clear hVo;generalize U'=U at *;refine zK hK (HH.out.below DA2.out.bel).blk fun hh=>?_;clear hK K;refine zR 11 rfl fun K hK=>?_;obtain⟨ha,hn,hc,ea,en,ec,ca,cn,cc,hs,es,hv,_,_,h3,_⟩:=id RV.out;refine ZT 77 _ _ rfl p9 #[.slice none 0 0,.slice none 0 0,.slice none 0 0] #[.slice ha hn hc,.slice ea en ec,.slice ca cn cc] 77 rfl hv P9.out (by kernel_rfl) rfl (by simp[Value.oneCell']) ?_;intro U' q1 q2 q3;have S9:Hid (Za (fun q=>q=p9) U U'):=zH (Za.of_grown q2 (fun q e=>by cases e;rfl));have RC:Hid (ZW U' 2 ca cn cc (ZC (Z4K S.f (YV S.l m) (YV S.l m) 99999).2.2)):=zH (Z8T h3 S9.out P9.out (fun u hu=>by
        rw[ZC,List.mem_flatMap]at hu;obtain⟨x,_,h⟩:=hu;simp only[List.mem_cons,List.not_mem_nil,or_false]at h;rcases h with rfl | rfl <;> exact⟨_,rfl⟩) (fun u hu x=>by
        simp only[List.mem_cons,List.not_mem_nil,or_false]at hu;rcases hu with rfl | rfl | rfl <;> simp))
       replace DA2:=zH (DA2.out.other S9.out GE9.out P9.out (by intro cur;simp));have HV:=zH hv;have Q1:=zH q1;clear q1 q2 q3 h3 hv P9 RV MK2 GOK2 S9 hh;generalize hVo:U=Uo at *;clear hVo;generalize U'=U at *;refine zK hK (HH.out.below DA2.out.bel).blk fun hh=>?_;clear hK K;refine zW 12 rfl (.int .i64 (Z6c S.f (YV S.l m))) ?_;refine zE ?_;exact REST xa xn xc v p9 U (zH ⟨DA2.out,_,_,ca,cn,cc,HV.out,Q1.out,RC.out⟩)
      refine zn fun K hK=>?_;have bb:Below U.heap.size U (U.alloc (.cells #[.slice none 0 0,.slice none 0 0,.slice none 0 0] 77)):=zB _ _;have P9:=zH (Z9 U (.cells #[.slice none 0 0,.slice none 0 0,.slice none 0 0] 77));have GE9:Hid (p4 < U.heap.size):=zH (Zj DA2.out.z);replace DA2:=zH (DA2.out.below bb);replace MK2:=zH (MK2.out.below bb);replace GOK2:=zH (GOK2.out.below bb);replace RX:=zH (RX.out.below bb);clear bb hh;go_simp;obtain⟨p9,hp9⟩:=zX (U.heap.size);rw[hp9.out]at P9 GE9 ⊢;generalize hVo:U.alloc (.cells #[.slice none 0 0,.slice none 0 0,.slice none 0 0] 77)=U' at *;clear hVo hp9
     rotate_left
     focus
      refine zn fun K hK=>?_;have bb:Below U.heap.size U (U.alloc (.cells #[.slice none 0 0,.slice none 0 0,.slice none 0 0] 77)):=zB _ _;have P9:=zH (Z9 U (.cells #[.slice none 0 0,.slice none 0 0,.slice none 0 0] 77));have GE9:Hid (p4 < U.heap.size):=zH (Zj DA2.out.z);replace DA2:=zH (DA2.out.below bb);replace MK2:=zH (MK2.out.below bb);replace GOK2:=zH (GOK2.out.below bb);clear bb hh;go_simp;obtain⟨p9,hp9⟩:=zX (U.heap.size);rw[hp9.out]at P9 GE9 ⊢;generalize hVo:U.alloc (.cells #[.slice none 0 0,.slice none 0 0,.slice none 0 0] 77)=U' at *;clear hVo hp9;generalize hVo:U=Uo at *;clear hVo;generalize U'=U at *;refine zK hK (HH.out.below DA2.out.bel).blk fun hh=>?_;clear hK K;refine zR 5 rfl fun K hK=>?_;go_simp;go_at_call 61;refine(Z0e kb (S.l.length+1) G2 U MK2.out (by have:=HLEN.out;omega) GOK2.out).mono ?_;rintro e U' ⟨⟨xa,xn,xc,zs,ks,rfl,h1,h2,h3,h4,h5,h6⟩,bb⟩;have RX:Hid (UP U' xa xn xc (YV S.l m)):=zH (by have h7:=h1.rd;rwa [h2,LST.out ks h3 h4]at h7);replace DA2:=zH (DA2.out.below bb);replace MK2:=zH (MK2.out.below bb);replace GOK2:=zH (GOK2.out.below bb);replace P9:=zH (Z7 bb P9.out);clear h1 h2 h3 h4 h5 h6 bb hh;dsimp only
     all_goals
      generalize hVo:U=Uo at *;clear hVo;generalize U'=U at *;refine zK hK (HH.out.below DA2.out.bel).blk fun hh=>?_;clear hK K;refine zR 6 rfl fun K hK=>?_;go_simp;go_at_call 34;refine(Z7n S.f xa xn xc (YV S.l m) U RX.out IOK.out).mono ?_;rintro e U' ⟨v,rfl,h1,bb⟩;have RV:=zH h1;replace DA2:=zH (DA2.out.below bb);replace MK2:=zH (MK2.out.below bb);replace GOK2:=zH (GOK2.out.below bb);replace P9:=zH (Z7 bb P9.out);replace RX:=zH (RX.out.below bb);clear h1 bb hh;dsimp only;generalize hVo:U=Uo at *;clear hVo;generalize U'=U at *;refine zK hK (HH.out.below DA2.out.bel).blk fun hh=>?_;clear hK K;refine zW 7 rfl (.tuple #[v,.int .i64 (Z6c S.f (YV S.l m))]) ?_;refine zW 8 rfl v ?_;refine zW 9 rfl (.int .i64 (Z6c S.f (YV S.l m))) ?_;refine zR 11 rfl fun K hK=>?_;obtain⟨ha,hn,hc,ea,en,ec,ca,cn,cc,hs,es,hv,_,_,h3,_⟩:=id RV.out;refine ZT 77 _ _ rfl p9 #[.slice none 0 0,.slice none 0 0,.slice none 0 0] #[.slice ha hn hc,.slice ea en ec,.slice ca cn cc] 77 rfl hv P9.out (by kernel_rfl) rfl (by simp[Value.oneCell']) ?_;intro U' q1 q2 q3;have S9:Hid (Za (fun q=>q=p9) U U'):=zH (Za.of_grown q2 (fun q e=>by cases e;rfl));have RC:Hid (ZW U' 2 ca cn cc (ZC (Z4K S.f (YV S.l m) (YV S.l m) 99999).2.2)):=zH (Z8T h3 S9.out P9.out (fun u hu=>by
       rw[ZC,List.mem_flatMap]at hu;obtain⟨x,_,h⟩:=hu;simp only[List.mem_cons,List.not_mem_nil,or_false]at h;rcases h with rfl | rfl <;> exact⟨_,rfl⟩) (fun u hu x=>by
       simp only[List.mem_cons,List.not_mem_nil,or_false]at hu;rcases hu with rfl | rfl | rfl <;> simp))
      replace DA2:=zH (DA2.out.other S9.out GE9.out P9.out (by intro cur;simp));have HV:=zH hv;have Q1:=zH q1;clear q1 q2 q3 h3 hv P9 RV MK2 GOK2 S9 hh;generalize hVo:U=Uo at *;clear hVo;generalize U'=U at *;refine zK hK (HH.out.below DA2.out.bel).blk fun hh=>?_;clear hK K;refine zW 12 rfl (.int .i64 (Z6c S.f (YV S.l m))) ?_;refine zE ?_;exact REST xa xn xc v p9 U (zH ⟨DA2.out,_,_,ca,cn,cc,HV.out,Q1.out,RC.out⟩)
    intro xa xn xc v p9 W9 QQ;clear DA2 MK2 GOK2 LST IOK hG2;obtain⟨DA,va,vb,ca,cn,cc,hv,hp9,hrc⟩:=QQ.out;replace DA:=zH DA;have P9:=zH hp9;have RC:=zH hrc;clear QQ hp9 hrc hv;obtain⟨cf,hcf⟩:=zX ((Z4K S.f (YV S.l m) (YV S.l m) 99999).2.2);rw[hcf.out]at RC;have DP:Hid (VA S n=if (n.kind≠5/\n.kind≠6)/\Zk m∈cf then (S,Zh,91)else (S.add m,m,0)):=zH (by
     unfold VA;rw[if_neg (by have:=HLEN.out;have:=CK3.out;omega),if_neg (by rw[CZ.out];decide),hm.out,hcf.out])
    clear CZ hcf hm CK3;have ck:=Z6 DA.out.n 4 (.int .i64 n.kind) (by rw[<-KIND.out];rfl);have c9:=Z6 P9.out 2 (.slice ca cn cc) rfl;have hmf : ∀(fn:Fn) (first cap:ZV) (w:World),(Instr.makeFunc fn first cap).run zq w = .ok (.func fn first cap) w:=fun _ _ _ _=>rfl;by_cases hk5:n.kind=5
    focus
     have q1:(n.kind != 5)=false:=by simp[hk5]
     have DP2:=zH (show VA S n=(S.add m,m,0)by rw[DP.out,if_neg (fun h=>h.1.1 hk5)]);clear hk5 DP;go_upto_region 18 with fail;clear q1 ck c9 hmf
    rotate_left
    focus
     by_cases hk6:n.kind=6
     ·have q1:(n.kind != 5)=true:=by simp[hk5]
      have q2:(n.kind != 6)=false:=by simp[hk6]
      have DP2:=zH (show VA S n=(S.add m,m,0)by rw[DP.out,if_neg (fun h=>h.1.2 hk6)]);clear hk5 hk6 DP;go_upto_region 18 with fail;clear q1 q2 ck c9 hmf;go_wp2_with (first
       |(refine zL p3 DA.out.n ?_))
      refine(Z4g p mb sp G SF S m ta tc _ (HH.out.below DA.out.bel) HI.out (fun W hs=>ZW.of_own (Ze DA.out.own hs (fun b hb h=>by have h1:=HLT.out b h;have h2:=(DA.out.own.lt b hb).1;omega))) FM.out MOK.out HNUM.out (Nat.le_of_lt HLEN.out)).mono ?_;rintro e Y2 ⟨rfl,ta2,tc2,SF',h1,h2,h3⟩;have GB:=zH DA.out.bel;have GE:=zH DA.out.ge;have ZL:=zH (Zj DA.out.z);have NH:Hid (∀q,w.heap.size<=q -> ¬Yd p mb G SF q):=zH (fun q hq h=>by have:=HLT.out q h;omega);have N2:=zH ((h2.block p3 (Zj DA.out.n) (NH.out p3 GE.out.1)).trans DA.out.n);have Z2:=zH ((h2.block p4 (Zj DA.out.z) (NH.out p4 (by have:=GE.out;omega))).trans DA.out.z);have O2:=zH (Ze DA.out.own h2 (fun b hb h=>NH.out b (DA.out.own.lt b hb).1 h));have H2:=zH h1;have S2:=zH h2;have F2:=zH h3;clear h1 h2 h3;have oneM:=Zm m ta tc;go_wp2_with (first
       |(refine zL p3 N2.out ?_)
       |(refine zN p4 (Z5 m ta tc) Z2.out ?_))
      refine zr (Yp _ p4 _ _ _ _ Z2.out) ?_;have S3:=UA Y2 p4 (Z5 m ta tc);have P4G:w.heap.size<=p4:=by have:=GE.out;omega
      refine⟨⟨ta,tc,by rw[DP2.out] <;> rfl,by rw[DP2.out];exact Ze O2.out S3 (fun b hb e=>Zn O2.out Z2.out (by intro cur;simp) (by rw[hb,show b=p4 from e]))⟩,_,SF',by
       rw[DP2.out];exact H2.out.same S3 (fun q hq h=>by
        rw[show q=p4 from hq]at h;rcases F2.out p4 h with h5 | h5
        ·exact NH.out p4 P4G h5
        ·have:=ZL.out;omega),Xj ((Za.of_below GB.out).trans S2.out) S3 (fun q hq=>.inr (by rw[show q=p4 from hq];exact P4G)),fun q hq=>(F2.out q hq).imp id (fun h=>Nat.le_trans GB.out.size h)⟩
     have q1:(n.kind != 5)=true:=by simp[hk5]
     have q2:(n.kind != 6)=true:=by simp[hk6]
     go_wp2_with fail;refine(Z4V cf (fun x=>decide (x=Zk m)) 73 (.pointer (some ⟨p3,0,none⟩)) ZdE ca cn cc W9 RC.out (fun x _ W hb=>ZcU p3 m ta tc x W (DA.out.below hb).n)).mono ?_;rintro e X1 ⟨rfl,bb⟩;replace DA:=zH (DA.out.below bb);clear q1 q2 ck c9 hmf bb P9 RC;cases han:cf.any (fun x=>decide (x=Zk m))
     case true=>
      have HD:=zH (show VA S n=(S,Zh,91)by
       have hmem:Zk m∈cf:=by
        obtain⟨x,hx,h⟩:=List.any_eq_true.1 han;rw[<-of_decide_eq_true h];exact hx
       rw[DP.out,if_pos ⟨⟨hk5,hk6⟩,hmem⟩])
      clear han hk5 hk6 DP;go_wp2_with (first
       |(refine zN p4 (Z5 Zh none 0) DA.out.z ?_))
      refine zr (Yp _ p4 _ _ _ _ DA.out.z) ?_;exact Z2C.no HD.out rfl HH.out (DA.out.done (UA _ p4 _)).1
     have DP2:=zH (show VA S n=(S.add m,m,0)by
      rw[DP.out,if_neg (fun h=>by
       have h1:=List.any_eq_false.1 han _ h.2;simp at h1)])
     clear han hk5 hk6 DP;go_upto_region 18 with fail
    all_goals
     go_wp2_with (first
      |(refine zL p3 DA.out.n ?_))
     refine(Z4g p mb sp G SF S m ta tc _ (HH.out.below DA.out.bel) HI.out (fun W hs=>ZW.of_own (Ze DA.out.own hs (fun b hb h=>by have h1:=HLT.out b h;have h2:=(DA.out.own.lt b hb).1;omega))) FM.out MOK.out HNUM.out (Nat.le_of_lt HLEN.out)).mono ?_;rintro e Y2 ⟨rfl,ta2,tc2,SF',h1,h2,h3⟩;have GB:=zH DA.out.bel;have GE:=zH DA.out.ge;have ZL:=zH (Zj DA.out.z);have NH:Hid (∀q,w.heap.size<=q -> ¬Yd p mb G SF q):=zH (fun q hq h=>by have:=HLT.out q h;omega);have N2:=zH ((h2.block p3 (Zj DA.out.n) (NH.out p3 GE.out.1)).trans DA.out.n);have Z2:=zH ((h2.block p4 (Zj DA.out.z) (NH.out p4 (by have:=GE.out;omega))).trans DA.out.z);have O2:=zH (Ze DA.out.own h2 (fun b hb h=>NH.out b (DA.out.own.lt b hb).1 h));have H2:=zH h1;have S2:=zH h2;have F2:=zH h3;clear h1 h2 h3;have oneM:=Zm m ta tc;go_wp2_with (first
      |(refine zL p3 N2.out ?_)
      |(refine zN p4 (Z5 m ta tc) Z2.out ?_))
     refine zr (Yp _ p4 _ _ _ _ Z2.out) ?_;have S3:=UA Y2 p4 (Z5 m ta tc);have P4G:w.heap.size<=p4:=by have:=GE.out;omega
     refine⟨⟨ta,tc,by rw[DP2.out] <;> rfl,by rw[DP2.out];exact Ze O2.out S3 (fun b hb e=>Zn O2.out Z2.out (by intro cur;simp) (by rw[hb,show b=p4 from e]))⟩,_,SF',by
      rw[DP2.out];exact H2.out.same S3 (fun q hq h=>by
       rw[show q=p4 from hq]at h;rcases F2.out p4 h with h5 | h5
       ·exact NH.out p4 P4G h5
       ·have:=ZL.out;omega),Xj ((Za.of_below GB.out).trans S2.out) S3 (fun q hq=>.inr (by rw[show q=p4 from hq];exact P4G)),fun q hq=>(F2.out q hq).imp id (fun h=>Nat.le_trans GB.out.size h)⟩
  ·intro kh km y w6 cnt1 HN hen;unfold LN.val at hen;have GY:Hid (G (kh,km)=some y):=zH HN.out.at_;have R6:=zH HN.out.range;have D6:=zH (by
    obtain⟨bb,since,seen,cc,hb⟩:=HR.out.blk;exact DR.out.other (Za.of_grown (S:=fun q=>q=r) HN.out.grown (fun q e=>by cases e;rfl)) RGE.out hb (by intro cur;simp))
   have LT6:=zH HN.out.lt;have HC6:Hid (Qw (((ks ++ [(kh,km)]).filterMap G).map LN.n) (Z3Z c (y.n.clock+1))):=zH (by
    rw[List.filterMap_append,List.map_append,List.filterMap_cons_some GY.out,List.filterMap_nil];exact HC.out.snoc y.n)
   have YC:Hid (1<=y.n.clock/\y.n.clock<=1099511627776):=zH (Vs (HI.out.frm _ (HH.out.gs _ y GY.out).1));clear HC DR;go_upto_region 8 with (first
    |(refine zP w6 w6.heap.size (Z5 y.n y.sa y.sc) ?_))
   have bt:Below w6.heap.size w6 (w6.alloc (.cells (Z5 y.n y.sa y.sc) 47)):=zB _ _;have P7:=zH (Z9 w6 (.cells (Z5 y.n y.sa y.sc) 47));have R7:=zH (R6.out.below bt);have D7:=zH (D6.out.below bt);obtain⟨p7,hp7⟩:=zX (w6.heap.size);rw[hp7.out]at P7;rw[hp7.out];generalize w6.alloc (.cells (Z5 y.n y.sa y.sc) 47)=w7 at *;clear bt hen R6 D6 HN;have cn:=Z6 D7.out.n 2 (.int .i64 c) rfl;have cfz:=Zq D7.out.n 2;have cy:=Z6 P7.out 2 (.int .i64 y.n.clock) rfl;have hw:wrap64 (y.n.clock+1)=y.n.clock+1:=by have h1:=YC.out;unfold wrap64;omega
   have D8:=zH (D7.out.set (m':=doC S n (Z3Z c (y.n.clock+1))) (Za.of_grown (Zp w7 p3 2 (.int .i64 (Z3Z c (y.n.clock+1)))) (fun q e=>by cases e;rfl)) (by have h1:=ZI D7.out.n 2 (.int .i64 (Z3Z c (y.n.clock+1)));exact h1) rfl);have R8:=zH (R7.out.of_blocks (w':=w7.setCell ⟨p3,2,none⟩ (.int .i64 (Z3Z c (y.n.clock+1)))) (Below.heap_setCell _ _ _ _ (fun e=>by have:=HLT.out mb (.inr (.inl rfl));have:=D7.out.ge.1;have e2:mb=p3:=e;omega)) (Below.heap_setCell _ _ _ _ (fun e=>by have:=RGE.out;have:=D7.out.ge.2;have e2:r=p3:=e;omega)));clear R7 D7 P7;rw[ZcD]at D8 R8 HC6;go_wp2;go_roundw
   case rel=>exact⟨_,_,_,R8,D8,HC6⟩
   case measure=>rw[R8.out.left_eq,HR.out.left_eq];exact LT6.out
end
theorem Z9s {V:ZD}{a:YU}{S:Zf}(h:Y9 V a.house=some S):JK V a=(JM V a.house (if (VA S a.note).2.2=0/\((VA S a.note).2.1.kind=2\/(VA S a.note).2.1.kind=4)then (VA S a.note).1.sync else (VA S a.note).1),(VA S a.note).2.2):=by
 unfold JK;rw[h]
theorem Z1C {w w':World}{p mb sp:Nat}{G G':Nm->Option LN}{F SF SF':Nat->Prop}{S':Zf}(h0 : ∀k,F k↔Yd p mb G SF k)(h1:Y8 w' p mb sp G' SF' S')(h2:Za (Yd p mb G SF) w w')(h3 : ∀k,Yd p mb G' SF' k->Yd p mb G SF k\/w.heap.size<=k):Z1Q Uu w p F S' w':=
 ⟨Yd p mb G' SF',⟨mb,sp,G',SF',h1,fun k=>Iff.rfl⟩,h2.weaken (fun k hk=>(h0 k).2 hk),fun k hk=>(h3 k hk).imp (fun e=>(h0 k).2 e) id⟩
section
attribute [local go_sem] ZS X9 XZ XJ
theorem Zcu (p:Nat)(F:Nat->Prop)(V:ZD)(a:YU)(sa:zA)(sc:Nat)(S:Zf)(w:World)(h:Vu w p F V)(hS:Y9 V a.house=some S)(hi:Xe S)(hs:XU w sa a.note.strokes.length sc a.note.strokes)(hok:a.note.Ok)(hst:a.note.strokes.length<=1000000000)(hlen:S.l.length < 400):
  Calls zq 87 #[.pointer (some ⟨p,0,none⟩),.agg (a.cells sa sc).toArray] w fun e w'=>e = .returned (.int .i64 (JK V a).2)/\Yj w p F (JK V a).1 w':=by
 rw[Z9s hS];obtain⟨S',m,z,hD⟩ : ∃S' m z,Hid (VA S a.note=(S',m,z)):=⟨_,_,_,zH rfl⟩;rw[hD.out];dsimp only;obtain⟨Y,hY⟩:=zX ((if z=0/\(m.kind=2\/m.kind=4)then S'.sync else S'));rw[hY.out];have J19:=zH (show(zq.info? 47).map (·.size)=some (a.note.cells sa sc).length from by kernel_rfl);have b0:=zB w (.cells (a.cells sa sc).toArray 67);have C1:=zH (show(a.cells sa sc).toArray[1]? = some (.int .i64 a.house)from rfl);have CN:Hid (∀j v,(a.note.cells sa sc)[j]? = some v->(a.cells sa sc).toArray[4+j]? = some v):=zH (fun j v hv=>by
  rw[List.getElem?_toArray];unfold YU.cells;rw[List.getElem?_append_right (by show 4<=_;omega),show 4+j - _=j from by show 4+j - 4=j;omega,List.getElem?_append_left (List.getElem?_eq_some_iff.1 hv).1];exact hv)
 obtain⟨OA,hOA⟩:=zX ((a.cells sa sc).toArray);rw[hOA.out]at b0 C1 CN ⊢;have X0:=zH (Z9 w (.cells OA 67));have H0:=zH (h.below Zl b0);have RS:=zH (hs.below b0);have B0:=zH b0;have HI:=zH hi;have HOK:=zH hok;have HST:=zH hst;have HLEN:=zH hlen;clear b0 hOA h hs hi hok hst hlen;go_enter Tryz.func87,Tryz.ntmps87;go_upto_region 1 with fail;obtain⟨p3,hp3⟩:=zX (w.heap.size);rw[hp3.out]at X0 ⊢;generalize w.alloc (.cells OA 67)=W0 at *;obtain⟨ps,Fs,ha,hc,xs,ma,mc,h1,h2⟩:=H0.out.open;obtain⟨k,q,Fk,e1,e2,g1,g2,g3,g4⟩:=h1.at hS;have c1:=Z6 X0.out 1 (.int .i64 a.house) C1.out;have HH:=zH (Xi h1 a.house k q e1 g1);obtain⟨mb,sp,G,SF,k1,k2⟩:=g3;have HK:=zH k1;have FIN:Hid (∀S' w',Z1Q Uu W0 q Fk S' w'->Yj w p F (JM V a.house S') w'):=zH (fun S' w' j=>by
  rw[h2];exact Qt.after (w:=W0) (h1.ret Zl e2 g1 g2 j) B0.out)
 have K2:=zH k2;have HX:=zH (show W0.rangeAt p3 4 (a.note.cells sa sc)from fun j v hv=>Z6 X0.out (4+j) v (CN.out j v hv));clear h1 h2 k1 k2 g1 g2 g4 H0 hS e1 e2;go_wp2_with fail;refine HH.out.mono ?_;rintro e w1 ⟨rfl,rfl⟩;go_wp2_with (refine wpList_load_mid rfl 47 _ rfl p3 4 rfl (a.note.cells sa sc) _ HX.out Tryz.underlying47 rfl (by exact J19.out) ?_);refine(Zby q mb sp G SF S a.note sa sc _ HK.out HI.out RS.out HOK.out HST.out HLEN.out).mono ?_;rintro e V1 ⟨⟨ta,tc,rfl,hrt⟩,G1,SF1,j1,j2,j3⟩;have J1:=zH j1;have J2:=zH j2;have J3:=zH j3;clear hrt j1 j2 j3 HX c1;rw[hD.out]at J1 ⊢;dsimp only at J1 ⊢;go_upto_region 3 with (refine zP V1 V1.heap.size (Z5 m ta tc) ?_);have b2:Below V1.heap.size V1 (V1.alloc (.cells (Z5 m ta tc) 47)):=zB _ _;have N11:=Z9 V1 (.cells (Z5 m ta tc) 47);have R:Hid (Y8 (V1.alloc (.cells (Z5 m ta tc) 47)) q mb sp G1 SF1 S'/\Za (Yd q mb G SF) w1 (V1.alloc (.cells (Z5 m ta tc) 47))):=zH ⟨J1.out.below b2,J2.out.trans (Za.of_below b2)⟩;obtain⟨p11,hp11⟩:=zX (V1.heap.size);rw[hp11.out]at N11 ⊢;generalize V1.alloc (.cells (Z5 m ta tc) 47)=V2 at *;clear b2 hp11;have c4:=Z6 N11 4 (.int .i64 m.kind) (XJ m ta tc);clear N11;have END:Hid (Z1Q Uu w1 q Fk S' V2):=zH (Z1C K2.out R.out.1 R.out.2 J3.out);have SYN:Hid (∀w',Y8 w' q mb sp G1 SF1 S'.sync->Za (fun k=>k=sp) V2 w'->Z1Q Uu w1 q Fk S'.sync w'):=zH (fun w' j1 j2=>by
  refine Z1C K2.out j1 ?_ J3.out;refine R.out.2.trans2 (F1:=fun k=>Yd q mb G1 SF1 k) (j2.weaken fun b hb=>?_) (fun b hb=>(J3.out b hb));rw[show b=sp from hb];exact .inr (.inr (.inl R.out.1.stk.self)))
 have SY:Hid (Y=S'.sync -> ∀w',Y8 w' q mb sp G1 SF1 S'.sync->Za (fun k=>k=sp) V2 w'->Yj w p F (JM V a.house Y) w'):=zH (fun e w' j1 j2=>by rw[e];exact FIN.out _ _ (SYN.out w' j1 j2));have EN:Hid (Y=S'->Yj w p F (JM V a.house Y) V2):=zH (fun e=>by rw[e];exact FIN.out _ _ END.out);clear FIN SYN END J3 K2;by_cases z0:z=0
 ·subst z0;have t1:((0:Int)==0)=true:=rfl;by_cases m2:m.kind=2
  ·have t2:(m.kind==2)=true:=by simp[m2]
   have HY:=zH (show Y=S'.sync from hY.out.symm.trans (if_pos ⟨rfl,.inl m2⟩));clear m2 hY;go_wp2_with fail;refine(Jh q mb sp G1 SF1 S' _ R.out.1).mono ?_;rintro e w2 ⟨rfl,j1,j2⟩;have J:=zH (SY.out HY.out _ j1 j2);clear j1 j2 c4;go_wp2;go_ret;exact⟨rfl,J.out⟩
  ·have t2:(m.kind==2)=false:=by simp[m2]
   by_cases m4:m.kind=4
   focus
    have t3:(m.kind==4)=true:=by simp[m4]
    have HY:=zH (show Y=S'.sync from hY.out.symm.trans (if_pos ⟨rfl,.inr m4⟩));clear m2 m4 hY;go_wp2_with fail;refine(Jh q mb sp G1 SF1 S' _ R.out.1).mono ?_;rintro e w2 ⟨rfl,j1,j2⟩;have J:=zH (SY.out HY.out _ j1 j2);clear j1 j2 c4
   rotate_left
   focus
    have t3:(m.kind==4)=false:=by simp[m4]
    have J:=zH (EN.out (hY.out.symm.trans (if_neg (by rintro⟨_,e | e⟩;exact m2 e;exact m4 e))));clear m2 m4 hY
   all_goals
    go_wp2;go_ret;exact⟨rfl,J.out⟩
 ·have t1:(z==0)=false:=by simp[z0]
  have J:=zH (EN.out (hY.out.symm.trans (if_neg (fun e=>z0 e.1))));clear z0 hY;go_wp2;go_ret;exact⟨rfl,J.out⟩
end
theorem Zbq:(zq.info? 152).map (fun i=>(i.zero,i.size,i.bytes))=some (some (.agg #[.int .i64 0,.int .i64 0,.slice none 0 0]),3,40):=by kernel_rfl
theorem Z15 (w:World)(base:Nat)(sa:zA)(sn sc:Nat)(xs:List Value)(hown:w.ownsRow base 152 3 (.slice sa sn sc) sn xs)(xa:zA)(m xc:Nat)(ys:List Value)(hrd:ZW w 3 xa m xc ys)(h1 : ∀u∈ys,u.oneCell'=true)
  (hbytes:(sn+m) * 40<=140737488355328) (hbase:base<=w.heap.size):
  ∃a' c' w',(Builtin.append_ #[89,89] 89 #[.slice sa sn sc,.slice xa m xc]).run zq w = .ok (.slice a' (sn+m) c') w'/\w'.ownsRow base 152 3 (.slice a' (sn+m) c') (sn+m) (xs ++ ys)/\w.grownBy w' (Value.ownBlock (.slice sa sn sc))/\(a'=sa\/a'=some ⟨w.heap.size,0,none⟩):=by
 obtain⟨i,hi,hz0,hz1,hz2⟩:=info_parts Zbq;obtain⟨a',c',w',hr,h2,h3⟩:=Yk w base 89 89 152 i _ 3 40 Tryz.underlying89 hi hz0 hz1 hz2 rfl (by decide) sa sn sc xs hown xa m xc ys hrd h1 (by unfold maxLen;omega) hbytes hbase;have hloc:=Qd (P:=zq) w base 89 89 152 i _ 3 40 Tryz.underlying89 hi hz0 hz1 hz2 sa sn sc _ hown xa m xc _ hrd h1 (by unfold maxLen;omega) hbytes _ _ hr;refine⟨a',c',w',hr,h2,h3,?_⟩;rcases hloc with ⟨n',c'',h⟩ | ⟨n',c'',h⟩
 ·simp only[Value.slice.injEq]at h;exact .inl h.1
 ·simp only[Value.slice.injEq]at h;exact .inr h.1
theorem Z5M (w:World)(a0 a1:Int):
  (Instr.buildSlice 37 2 #[(0,.int .i64 a0),(1,.int .i64 a1)]).run zq w = .ok (.slice (some ⟨w.heap.size,0,none⟩) 2 2) (w.alloc (.cells #[.int .i64 a0,.int .i64 a1] 3)):=by
 kernel_rfl
theorem Z5N (w:World)(a0:Int):
  (Instr.buildSlice 37 1 #[(0,.int .i64 a0)]).run zq w = .ok (.slice (some ⟨w.heap.size,0,none⟩) 1 1) (w.alloc (.cells #[.int .i64 a0] 3)):=by
 kernel_rfl
theorem Z41 (W:World)(a0 a1 a2:Value):ZW (W.alloc (.cells #[a0,a1,a2] 152)) 3 (some ⟨W.heap.size,0,none⟩) 1 1 [a0,a1,a2]:=
 ZW.of_own (World.ownsRow_lit (base:=W.heap.size) (e:=152) (size:=3) W #[a0,a1,a2] 1 (Nat.le_refl _) (by unfold maxLen;omega) rfl)
theorem Z54 (base:Nat)(w:World)(y z:Int):VY base (w.alloc (.cells #[.int .i64 y,.int .i64 z] 3)) (some ⟨w.heap.size,0,none⟩):=by
 intro b off e _;cases e;exact z6 (Z9 w _) (by decide)
theorem Qg {w:World}{b1 b2:Nat}{e1 e2:TypeId}{k1 k2:Nat}{v1 v2:Value}{n1 n2:Nat}{l1 l2:List Value}(h1:w.ownsRow b1 e1 k1 v1 n1 l1)(h2:w.ownsRow b2 e2 k2 v2 n2 l2)(hne:e1≠e2): ∀k,v1.ownBlock=some k->v2.ownBlock≠some k:=by
 intro k hk hk2;rcases h2.2 with ⟨rfl,_⟩ | ⟨g,cap,cur,rfl,_,h3,_⟩
 ·simp[Value.ownBlock]at hk2
 ·simp only[Value.ownBlock,Option.some.injEq]at hk2;subst hk2;exact ZH h1 h3 hne hk
theorem Q6 {P:Program}{op:Oper}{a:Act}{w w':World}{K:Act->World->Prop}{Q:Exit->Act->World->Prop}(v:Value)(h:(execOp a.eval op).run P w = .ok (.value v) w')(hK:K (a.put op.dst v) w'):op.wp P a w K Q:=by
 unfold Oper.wp;rw[h];exact hK
section
variable {PH:World->Nat->(Nat->Prop)->Zf->Prop}{tW tH:TypeId}{bf:Value->Value->ZV}{w w1 w2 w3:World}{p:Nat}{ps:List Nat}{Fs:List (Nat->Prop)}{ha:zA}{hc:Nat}{xs:List LM}{ma:zA}{mc:Nat}{V:ZD}
theorem Us.sent (hp:JX PH)(h:Us PH tW tH bf w p ps Fs ha hc xs ma mc V)(x:LM)(hb1:Below w.heap.size w w1)(hx:w1.ownsRow 0 5 1 x.val x.m.body.length (x.m.body.map Zs))(hxb : ∀k,x.val.ownBlock=some k->w.heap.size<=k \/ ∃y∈xs,y.val.ownBlock=some k)
  {ma':zA} {mc':Nat} (hxm : ∀k,x.val.ownBlock=some k->Value.ownBlock (.slice ma xs.length mc)≠some k/\k≠p) (ho:w2.ownsRow 0 152 3 (.slice ma' (xs.length+1) mc') (xs.length+1) (Zz xs ++ x.cells)) (hg:w1.grownBy w2 (Value.ownBlock (.slice ma xs.length mc))) (hl:ma'=ma\/ma'=some ⟨w1.heap.size,0,none⟩)
  (hbd : ∀y∈xs,∀k,y.val.ownBlock=some k->Value.ownBlock (.slice ma xs.length mc)≠some k/\k≠p)
  (hpm : ∀k,Value.ownBlock (.slice ma xs.length mc)=some k\/Value.ownBlock (.slice ha ps.length hc)=some k->k≠p) (hmh : ∀k,Value.ownBlock (.slice ma xs.length mc)=some k->Value.ownBlock (.slice ha ps.length hc)≠some k)
  (hb:w3.heap[p]? = some (.cells (bf (.slice ha ps.length hc) (.slice ma' (xs.length+1) mc')) tW (0,0))) (hs:Za (fun k=>k=p) w2 w3):
  Qt PH tW tH bf w p (wF p Fs ha ps.length hc xs ma mc) (Vg V x.m) w3:=by
 have e1:xs.length+1=(xs ++ [x]).length:=by simp
 have e2:Zz xs ++ x.cells=Zz (xs ++ [x]):=by rw[Z2P,Z76]
 rw[e2,e1]at ho;rw[e1]at hb;have hlt:=h.lt hp;have hX:Za (fun k=>k=p\/Value.ownBlock (.slice ma xs.length mc)=some k) w w3:=by
  have g1:Za (fun k=>k=p\/Value.ownBlock (.slice ma xs.length mc)=some k) w w1:=Za.of_below hb1;exact(g1.trans (Za.of_grown hg (fun k hk=>.inr hk))).trans (hs.weaken fun k hk=>.inl hk)
 have hm2 : ∀k,Value.ownBlock (.slice ma' (xs ++ [x]).length mc')=some k->Value.ownBlock (.slice ma xs.length mc)=some k\/w.heap.size<=k:=fun k hk=>by
  rcases XY (n:=xs.length) (c:=mc) hl hk with h5 | h5
  ·exact .inl h5
  ·exact .inr (h5 ▸ hb1.size)
 have hpw:=Zj h.blk;have q1 : ∀k,(k=p\/Value.ownBlock (.slice ma xs.length mc)=some k) -> ¬zx Fs k/\Value.ownBlock (.slice ha ps.length hc)≠some k:=fun k hk=>by
  rcases hk with e | hk
  ·rw[e];exact⟨h.sp,fun e=>hpm _ (.inr e) rfl⟩
  ·exact⟨fun hF=>h.sm k hF hk,hmh k hk⟩
 have q2:w3.ownsRow 0 152 3 (.slice ma' (xs ++ [x]).length mc') (xs ++ [x]).length (Zz (xs ++ [x])):=by
  refine Ze ho hs (fun b hb2 e=>?_);rw[show b=p from e]at hb2;rcases hm2 p hb2 with h5 | h5
  ·exact hpm _ (.inl h5) rfl
  ·omega
 have q3 : ∀y∈xs ++ [x],w3.ownsRow 0 5 1 y.val y.m.body.length (y.m.body.map Zs):=fun y hy=>by
  rcases List.mem_append.1 hy with hy | hy
  ·refine Ze (h.bod y hy) hX (fun b hb2 e=>?_);have h5:=hbd y hy b hb2;rcases e with e | e
   ·exact h5.2 e
   ·exact h5.1 e
  ·rw[List.mem_singleton.1 hy];exact Ze (Ze hx (Za.of_grown (S:=fun k=>Value.ownBlock (.slice ma xs.length mc)=some k) hg (fun k hk=>hk)) (fun b hb2 e=>(hxm b hb2).1 e)) hs (fun b hb2 e=>(hxm b hb2).2 e)
 have q4 : ∀k,(Value.ownBlock (.slice ma' (xs ++ [x]).length mc')=some k \/ ∃y∈xs ++ [x],y.val.ownBlock=some k)->w.heap.size<=k\/Value.ownBlock (.slice ma xs.length mc)=some k \/ ∃y∈xs,y.val.ownBlock=some k:=fun k hk=>by
  rcases hk with hk | ⟨y,hy,hk⟩
  ·exact(hm2 k hk).symm.imp id .inl
  ·rcases List.mem_append.1 hy with hy | hy
   ·exact .inr (.inr ⟨y,hy,hk⟩)
   ·rw[List.mem_singleton.1 hy]at hk;exact(hxb k hk).imp id .inr
 obtain⟨g1,g2⟩:=h.mail hp hX q1 hb q2 q3 q4;refine⟨_,⟨ps,Fs,ha,hc,xs ++ [x],ma',mc',?_,fun k=>Iff.rfl⟩,hX.weaken (fun k hk=>?_),g2⟩
 ·have e3:Vg V x.m = { V with ms:=(xs ++ [x]).map LM.m } := by unfold Vg;rw[List.map_append,h.mls];rfl
  rw[e3];exact g1
 ·rcases hk with rfl | hk
  ·exact .inl rfl
  ·exact .inr (.inr (.inr (.inl hk)))
theorem Us.send (hp:JX PH)(h:Us PH tW tH bf w p ps Fs ha hc xs ma mc V)(n1:152≠tH)(n2:152≠tW)(n3:tH≠tW)(n4:5≠152)(n5:5≠tW)(x:LM)(hb1:Below w.heap.size w w1)(hx:w1.ownsRow 0 5 1 x.val x.m.body.length (x.m.body.map Zs))(hxb : ∀k,x.val.ownBlock=some k->w.heap.size<=k \/ ∃y∈xs,y.val.ownBlock=some k)
  {ma':zA} {mc':Nat} (ho:w2.ownsRow 0 152 3 (.slice ma' (xs.length+1) mc') (xs.length+1) (Zz xs ++ x.cells)) (hg:w1.grownBy w2 (Value.ownBlock (.slice ma xs.length mc))) (hl:ma'=ma\/ma'=some ⟨w1.heap.size,0,none⟩)
  (hb:w3.heap[p]? = some (.cells (bf (.slice ha ps.length hc) (.slice ma' (xs.length+1) mc')) tW (0,0))) (hs:Za (fun k=>k=p) w2 w3):
  Qt PH tW tH bf w p (wF p Fs ha ps.length hc xs ma mc) (Vg V x.m) w3:=by
 have m1:=Zd h.mrow hb1;have b1:=Z7 hb1 h.blk;refine h.sent hp x hb1 hx hxb (fun k hk=>⟨Qg hx m1 n4 k hk,fun e=>ZH hx b1 n5 (e ▸ hk)⟩) ho hg hl (fun y hy k hk=>⟨Qg (h.bod y hy) h.mrow n4 k hk,fun e=>ZH (h.bod y hy) h.blk n5 (e ▸ hk)⟩) (fun k hk e=>?_) (Qg h.mrow h.hrow n1) hb hs;rcases hk with hk | hk
 ·exact ZH h.mrow h.blk n2 (e ▸ hk)
 ·exact ZH h.hrow h.blk n3 (e ▸ hk)
end
section
variable {P:Program}{ops:Array Oper}{Q:Exit->Act->World->Prop}{md:Region.Mode}{m:Nat}{S:World->Prop}
def Yb (P:Program)(md:Region.Mode)(ops:Array Oper)(Q:Exit->Act->World->Prop)(m:Nat)(S:World->Prop):Nat->Array Bool->Act->World->Prop
 | 0,l,a,w=>Region.ready md ops l=[]/\Q .normal a w
 | n+1,l,a,w=>(Region.ready md ops l=[]->Q .normal a w) /\ ∀i∈Region.ready md ops l,wpOp P ops Q i (fun a' w'=>(i≠m->S w')/\Yb P md ops Q m S n (l.setIfInBounds i true) a' w') a w
theorem Yb.any: ∀(n:Nat) (l:Array Bool) (a:Act) (w:World),Yb P md ops Q m S n l a w->wpAny P md ops Q n l a w
 | 0,_,_,_,h=>h
 | n+1,_,_,_,h=>⟨h.1,fun i hi=>wpOp_mono (fun a' w' h'=>Yb.any n _ a' w' h'.2) (h.2 i hi)⟩
theorem Yb.done {l:Array Bool}{a:Act}{w:World}(hr:Region.ready md ops l=[])(h:Q .normal a w): ∀n,Yb P md ops Q m S n l a w
 | 0=>⟨hr,h⟩
 | _+1=>⟨fun _=>h,by rw[hr];simp⟩
theorem Z9G {i:Nat}{l:Array Bool}(hm:Region.waitsFor md ops m i=true)(hi:l.getD i true=false):m ∉ Region.ready md ops l:=fun hr=>by
 obtain⟨oj,hj,e,he,hb,hon⟩:=Region.waitsFor_spec hm
 obtain⟨_,oj',hj',hall⟩:=mem_ready.1 hr
 have h0:oj'=oj:=Option.some.inj (hj'.symm.trans hj)
 subst h0
 have h1:=hall e he hb
 rw[hon,getD_both hi]at h1
 cases h1
theorem Yb.first {i:Nat}{oi:Oper}{v:Value}(hi:ops[i]? = some oi)(hsel : ∀(j:Nat) (o:Oper) cs b,ops[j]? = some o->o.op ≠ .select cs b)(hm:Region.waitsFor md ops m i=true)(hne:i≠m)
  (hQ : ∀c a w,Q (.panic c) (a.put oi.dst v) w->Q (.panic c) a w) : ∀(n:Nat) (l:Array Bool) (a:Act) (w:World),
   (∀j oj,ops[j]? = some oj->j≠i->l.getD j true=false->(∀e∈oj.after,Region.binds md e=true->e.on≠i)->oi.apart ops oj=true)->
   i∈Region.ready md ops l->YieldsIf P ops S oi v a->S w->Yb P md ops Q m S n (l.setIfInBounds i true) (a.put oi.dst v) w->Yb P md ops Q m S (n+1) l a w:=by
 intro n
 induction n with
 | zero=>
  intro l a w _ hr hy hS H;refine⟨fun h=>(by rw[h]at hr;cases hr),fun j hj=>?_⟩;by_cases e:j=i
  ·rw[e];exact hy.wpOp hi hS ⟨fun _=>hS,H⟩
  ·have h1:=ready_mono hj e;rw[H.1]at h1;cases h1
 | succ n ih=>
  intro l a w hfree hr hy hS H;refine⟨fun h=>(by rw[h]at hr;cases hr),fun j hj=>?_⟩;by_cases e:j=i
  ·rw[e];exact hy.wpOp hi hS ⟨fun _=>hS,H⟩
  ·obtain⟨hjun,oj,hoj,hall⟩:=mem_ready.1 hj;have hiun:=(mem_ready.1 hr).1;have hjm:j≠m:=fun e2=>Z9G hm hiun (e2 ▸ hj);have hno : ∀x∈oj.after,Region.binds md x=true->x.on≠i:=fun x hx hb heq=>by
    have h1:=hall x hx hb;rw[heq,getD_both hiun]at h1;cases h1
   have h2:=wpOp_putIf hoj (hfree j oj hoj e hjun hno) (fun cs b=>hsel i oi cs b hi) (fun cs b=>hsel j oj cs b hoj) hQ hy (H.2 j (ready_mono hj e));refine wpOp_mono (fun a' w' h3=>⟨fun _=>h3.2.1 hjm,ih (l.setIfInBounds j true) a' w' (fun k ok hk hki hun hn=>?_) (ready_mono hr (Ne.symm e)) h3.1 (h3.2.1 hjm) ?_⟩) h2
   ·refine hfree k ok hk hki ?_ hn;by_cases e2:j=k
    ·rw[<-e2];exact hjun
    ·rw[getD_set_ne true e2]at hun;exact hun
   ·rw[Array.setIfInBounds_comm _ _ e];exact h3.2.2
theorem Yb.take {i:Nat}{oi:Oper}{v:Value}{n:Nat}{l:Array Bool}{a:Act}{w:World}(hi:ops[i]? = some oi)(hs:Region.noSelect ops=true)(hf:Region.free md ops l i=true)(hr:(Region.ready md ops l).contains i=true)
  (hm:(Region.waitsFor md ops m i && decide (i≠m))=true) (hQ : ∀c a w,Q (.panic c) (a.put oi.dst v) w->Q (.panic c) a w) (hy:YieldsIf P ops S oi v a) (hS:S w)
  (h:Yb P md ops Q m S n (l.setIfInBounds i true) (a.put oi.dst v) w):Yb P md ops Q m S (n+1) l a w:=by
 rw[Bool.and_eq_true,decide_eq_true_eq]at hm;exact Yb.first hi (Region.noSelect_spec hs) hm.1 hm.2 hQ n l a w (Region.free_spec hi hf) (by simpa using hr) hy hS h
def VZ (P:Program)(md:Region.Mode)(ops:Array Oper)(Q:Exit->Act->World->Prop)(m:Nat)(S:World->Prop)(n:Nat)(l:Array Bool)(a:Act)(w:World)(rs:List Nat):Prop:=
 ∀i∈rs,wpOp P ops Q i (fun a' w'=>(i≠m->S w')/\Yb P md ops Q m S n (l.setIfInBounds i true) a' w') a w
theorem VZ.nil {n:Nat}{l:Array Bool}{a:Act}{w:World}: VZ P md ops Q m S n l a w []:=fun _ h=>by cases h
theorem VZ.cons {n:Nat}{l:Array Bool}{a:Act}{w:World}{i:Nat}{o:Oper}{rs:List Nat}(ho:ops[i]? = some o)
  (h : ∀K:Act->World->Prop,Shut (∀a w,S w->(S w->Yb P md ops Q m S n (l.setIfInBounds i true) a w)->K a w)->if Region.wanted o (yielded ops a.tmps)=true then Oper.wp P o a w K Q else K (a.put o.dst undef) w)
  (hs:VZ P md ops Q m S n l a w rs):VZ P md ops Q m S n l a w (i :: rs):=fun j hj=>by
 rcases List.mem_cons.1 hj with e | hj
 ·rw[e]
  exact wpOp_step ho (fun K hK=>h K (fun a w hS hW=>hK a w ⟨fun _=>hS,hW hS⟩))
 ·exact hs j hj
theorem VZ.last {n:Nat}{l:Array Bool}{a:Act}{w:World}{o:Oper}(ho:ops[m]? = some o)
  (h : ∀K:Act->World->Prop,Shut (∀a w,Yb P md ops Q m S n (l.setIfInBounds m true) a w->K a w)->if Region.wanted o (yielded ops a.tmps)=true then Oper.wp P o a w K Q else K (a.put o.dst undef) w):VZ P md ops Q m S n l a w [m]:=fun j hj=>by
 rw[List.mem_singleton.1 hj]
 exact wpOp_step ho (fun K hK=>h K (fun a w hW=>hK a w ⟨fun e=>absurd rfl e,hW⟩))
theorem Yb.ready {rs:List Nat}{n:Nat}{l:Array Bool}{a:Act}{w:World}(hr:Region.ready md ops l=rs)(hne:rs≠[])(h:VZ P md ops Q m S n l a w rs):Yb P md ops Q m S (n+1) l a w:=
 ⟨fun h0=>absurd (hr ▸ h0) hne,hr ▸ h⟩
theorem bW {n:Nat}{l:Array Bool}{a a':Act}{w:World}(i:Nat){oi:Oper}(hi:ops[i]? = some oi)(v:Value)(h:Yb P md ops Q m S n (l.setIfInBounds i true) a' w)
  (hs:Region.noSelect ops=true:=by kernel_rfl) (hf:Region.free md ops l i=true:=by kernel_rfl) (hr:(Region.ready md ops l).contains i=true:=by kernel_rfl) (hm:(Region.waitsFor md ops m i && decide (i≠m))=true:=by kernel_rfl)
  (hQ : ∀c a w,Q (.panic c) (a.put oi.dst v) w->Q (.panic c) a w:=by exact fun _ _ _ h=>h) (hS:S w:=by assumption) (hy:YieldsIf P ops S oi v a:=by exact Or.inl ⟨by kernel_rfl,by intro W _;go_simp⟩)
  (ha:a.put oi.dst v=a':=by first|(simp only[Act.put,List.getElem_toArray,List.getElem_cons_succ,List.getElem_cons_zero,List.setIfInBounds_toArray,List.set_cons_zero,List.set_cons_succ];rfl) | rfl):
  Yb P md ops Q m S (n+1) l a w:=Yb.take hi hs hf hr hm hQ hy hS (ha ▸ h)
theorem bS {n:Nat}{l:Array Bool}{a a':Act}{w:World}(i:Nat){oi:Oper}(hi:ops[i]? = some oi)(v:Value)(hq : ∀W,S W->(execOp a.eval oi).run P W = .ok (.value v) W)(h:Yb P md ops Q m S n (l.setIfInBounds i true) a' w)
  (hs:Region.noSelect ops=true:=by kernel_rfl) (hf:Region.free md ops l i=true:=by kernel_rfl) (hr:(Region.ready md ops l).contains i=true:=by kernel_rfl) (hm:(Region.waitsFor md ops m i && decide (i≠m))=true:=by kernel_rfl)
  (hQ : ∀c a w,Q (.panic c) (a.put oi.dst v) w->Q (.panic c) a w:=by exact fun _ _ _ h=>h) (hS:S w:=by assumption) (hw:Region.wanted oi (yielded ops a.tmps)=true:=by kernel_rfl)
  (ha:a.put oi.dst v=a':=by first|(simp only[Act.put,List.getElem_toArray,List.getElem_cons_succ,List.getElem_cons_zero,List.setIfInBounds_toArray,List.set_cons_zero,List.set_cons_succ];rfl) | rfl):
  Yb P md ops Q m S (n+1) l a w:=Yb.take hi hs hf hr hm hQ (.inl ⟨hw,hq⟩) hS (ha ▸ h)
theorem bR {n:Nat}{l:Array Bool}{a:Act}{w:World}(i:Nat){o:Oper}(ho:ops[i]? = some o)
  (h : ∀K:Act->World->Prop,Shut (∀a w,S w->(S w->Yb P md ops Q m S n (l.setIfInBounds i true) a w)->K a w)->if Region.wanted o (yielded ops a.tmps)=true then Oper.wp P o a w K Q else K (a.put o.dst undef) w)
  (hr:Region.ready md ops l=[i]:=by kernel_rfl):Yb P md ops Q m S (n+1) l a w:=Yb.ready hr (by simp) (VZ.cons ho h VZ.nil)
theorem bL {n:Nat}{l:Array Bool}{a:Act}{w:World}{o:Oper}(ho:ops[m]? = some o)
  (h : ∀K:Act->World->Prop,Shut (∀a w,Yb P md ops Q m S n (l.setIfInBounds m true) a w->K a w)->if Region.wanted o (yielded ops a.tmps)=true then Oper.wp P o a w K Q else K (a.put o.dst undef) w)
  (hr:Region.ready md ops l=[m]:=by kernel_rfl):Yb P md ops Q m S (n+1) l a w:=Yb.ready hr (by simp) (VZ.last ho h)
theorem bK {n:Nat}{l:Array Bool}{a a':Act}{w:World}{K:Act->World->Prop}(hK:Shut (∀a w,S w->(S w->Yb P md ops Q m S n l a w)->K a w))(hS:S w)(h:S w->Yb P md ops Q m S n l a' w)
  (ha:a=a':=by first|(simp only[Act.put,List.getElem_toArray,List.getElem_cons_succ,List.getElem_cons_zero,List.setIfInBounds_toArray,List.set_cons_zero,List.set_cons_succ];rfl) | rfl):K a w:=by
 subst ha;exact hK.out _ _ hS h
theorem bE {n:Nat}{l:Array Bool}{a:Act}{w:World}{Q:Exit->Act->World->Prop}(h:Q .normal a w)(hr:Region.ready md ops l=[]:=by kernel_rfl):Yb P md ops (NoPanic Q) m S n l a w:=Yb.done hr (NoPanic.normal h) _
theorem bD {id:Nat}{a:Act}{w:World}{Q:Exit->Act->World->Prop}(m:Nat)(S:World->Prop)(hS:S w.drew)(h:S w.drew->Yb P .any ops (NoPanic Q) m S ops.size (Array.replicate ops.size false) a w.drew)(hm:P.follows .mixedOrders=true:=by kernel_rfl):
  (Code.region id ops true).wp P Q a w:=wp_region_noPanic (wp_region_any hm (Yb.any _ _ _ _ (h hS)))
end
theorem Z3x {V:ZD}{a:YU}{S:Zf}(h:Y9 V a.house=some S)(h2:(Y9 V a.to).isNone=true\/a.to=a.house):Xu V a=(V,1):=by
 unfold Xu;rw[h];exact if_pos h2
theorem Z5K {V:ZD}{a:YU}{S:Zf}(h:Y9 V a.house=some S)(h2 : ¬((Y9 V a.to).isNone=true\/a.to=a.house))(h3:64<=V.ms.length):Xu V a=(V,2):=by
 unfold Xu;rw[h];show(if _ then _ else _)=_;rw[if_neg h2,if_pos h3]
theorem Z81 {V:ZD}{a:YU}{S:Zf}(h:Y9 V a.house=some S)(h2 : ¬((Y9 V a.to).isNone=true\/a.to=a.house))(h3 : ¬64<=V.ms.length):Xu V a=(Vg V ⟨a.house,a.to,.ask (V8 S.c)⟩,0):=by
 unfold Xu;rw[h];show(if _ then _ else _)=_;rw[if_neg h2,if_neg h3]
theorem Zb4 {W W':World}{k:Nat}{a:zA}{n c:Nat}{xs:List Value}(h:ZW W k a n c xs)(hk:0 < n * k):VY W.heap.size W' a:=by
 obtain⟨h1,h2,h3,h4⟩:=h;intro b off e hb hU;rcases h4 with h4 | ⟨b',o',e',h5⟩
 ·rw[h4]at h2;have h6:n=0:=by omega
  rw[h6]at hk;omega
 ·rw[e]at e';cases e';have hx:=List.getElem?_eq_getElem (l:=xs) (i:=0) (by omega);have:=World.block_lt_of_cell? W _ (h5 0 _ hx);have:=hU.1;show False;simp only at *;omega
theorem Z8n: ∀z∈([1,8]:List Int),Jl z:=by intro z hz;simp at hz;rcases hz with rfl | rfl <;> (unfold Jl;omega)
theorem ZaH (p:Nat)(F:Nat->Prop)(V:ZD)(a:YU)(sa:zA)(sc:Nat)(S:Zf)(w:World)(h:Vu w p F V)(hS:Y9 V a.house=some S)(hi:Xe S):
  Calls zq 89 #[.pointer (some ⟨p,0,none⟩),.agg (a.cells sa sc).toArray] w fun e w'=>e = .returned (.int .i64 (Xu V a).2)/\Yj w p F (Xu V a).1 w':=by
 have b0:=zB w (.cells (a.cells sa sc).toArray 67);have C1:=zH (show(a.cells sa sc).toArray[1]? = some (.int .i64 a.house)from rfl);have C2:=zH (show(a.cells sa sc).toArray[2]? = some (.int .i64 a.to)from rfl);obtain⟨OA,hOA⟩:=zX ((a.cells sa sc).toArray);rw[hOA.out]at b0 C1 C2 ⊢;have X0:=zH (Z9 w (.cells OA 67));have H0:=zH (h.below Zl b0);have B0:=zH b0;have CO:=zH (Z93 hi);obtain⟨Y,hY⟩:=zX (Xu V a);rw[hY.out];clear b0 hOA h hi;go_enter Tryz.func89,Tryz.ntmps89;go_upto_region 1 with fail;obtain⟨p3,hp3⟩:=zX (w.heap.size);rw[hp3.out]at X0 ⊢;generalize w.alloc (.cells OA 67)=W0 at *;have RF:=zH ((Qt.refl H0.out).after B0.out);obtain⟨ps,Fs,ha,hc,xs,ma,mc,h1,h2⟩:=H0.out.open;obtain⟨k,q,Fk,e1,e2,g1,g2,g3,g4⟩:=h1.at hS;have c1:=Z6 X0.out 1 (.int .i64 a.house) C1.out;have c2:=Z6 X0.out 2 (.int .i64 a.to) C2.out;have HH:=zH (Xi h1 a.house k q e1 g1);cases hT:Y9 V a.to with
 | none=>
  have HT:=zH (Z09 h1 a.to (by have:=Z2o hT;rw[h1.nh]at this;exact this));have R:Hid (Y=(V,1)):=zH (hY.out.symm.trans (Z3x hS (.inl (by rw[hT];rfl))));clear h1 h2 g1 g2 g3 g4 H0 hS e1 e2 hT hY;go_wp2_with fail;refine HT.out.mono ?_;rintro e w1 ⟨rfl,rfl⟩;go_wp2;go_ret;rw[R.out];exact⟨rfl,RF.out⟩
 | some T=>
 obtain⟨j,q2,Fj,u1,u2,u3,u4,u5,u6⟩:=h1.at hT;have HT:=zH (Xi h1 a.to j q2 u1 u3);by_cases hself:a.to=a.house
 ·have t1:(a.to==a.house)=true:=by simp[hself]
  have R:Hid (Y=(V,1)):=zH (hY.out.symm.trans (Z3x hS (.inr hself)));clear h1 h2 g1 g2 g3 g4 H0 hS e1 e2 hT hY u1 u2 u3 u4 u5 u6 hself;go_wp2_with fail;refine HT.out.mono ?_;rintro e w1 ⟨rfl,rfl⟩;go_wp2;go_ret;rw[R.out];exact⟨rfl,RF.out⟩
 have t1:(a.to==a.house)=false:=by simp[hself]
 have hno : ¬((Y9 V a.to).isNone=true\/a.to=a.house):=by rw[hT];simp[hself]
 by_cases hf:64<=V.ms.length
 ·have hfull:=Z0v h1;rw[show decide (64<=V.ms.length)=true by simp[hf]]at hfull;have HF:=zH hfull;have R:Hid (Y=(V,2)):=zH (hY.out.symm.trans (Z5K hS hno hf));clear h1 h2 g1 g2 g3 g4 H0 hS e1 e2 hT hY u1 u2 u3 u4 u5 u6 hself hno hf hfull;go_wp2_with fail;refine HT.out.mono ?_;rintro e w1 ⟨rfl,rfl⟩;go_wp2_with fail;refine HF.out.mono ?_;rintro e w2 ⟨rfl,rfl⟩;go_wp2;go_ret;rw[R.out];exact⟨rfl,RF.out⟩
 have hfull:=Z0v h1;rw[show decide (64<=V.ms.length)=false by simp[hf]]at hfull;have HF:=zH hfull;have R:Hid (Y=(Vg V ⟨a.house,a.to,.ask (V8 S.c)⟩,0)):=zH (hY.out.symm.trans (Z81 hS hno hf));have LN:=zH (show xs.length < 64 by have:=h1.nm;omega);obtain⟨mb,sp,G,SF,k1,k2⟩:=g3;have HK:=zH k1;have H1:=zH h1;have H2:=zH h2;clear h1 h2 g1 g2 g4 H0 hS e1 e2 hT hY u1 u2 u3 u4 u5 u6 hself hno hf hfull k1 k2;go_wp2_with fail;refine HT.out.mono ?_;rintro e w1 ⟨rfl,rfl⟩;go_wp2_with fail;refine HF.out.mono ?_;rintro e w2 ⟨rfl,rfl⟩;go_wp2_with fail;refine HH.out.mono ?_;rintro e w3 ⟨rfl,rfl⟩;go_wp2_with fail;refine(Z7l q mb sp G SF S _ HK.out).mono ?_;rintro e V1 ⟨⟨ca,cc,rfl,hcr⟩,b1⟩;have CR:=zH hcr;have PB:=zH (show V1.heap[p]? = some (.cells #[.slice ha ps.length hc,.slice ma xs.length mc] 141)from Z7 b1 H1.out.blk);have PX:=zH (Z7 b1 X0.out);have BB:=zH b1;clear hcr b1 c1 c2;go_upto_region 6 with fail;refine bD 20 (fun W'=>W'.heap[p]? = some (.cells #[.slice ha ps.length hc,.slice ma xs.length mc] 141)/\W'.heap[p3]? = some (.cells OA 67)) ⟨PB.out,PX.out⟩ (fun hh=>?_);refine bW 0 rfl (.pointer (some ⟨p,0,none⟩)) ?_;refine bW 1 rfl (.pointer (some ⟨p,0,none⟩)) ?_;refine bW 2 rfl (.pointer (some ⟨p,0,none⟩)) ?_;refine bW 3 rfl (.pointer (some ⟨p,1,none⟩)) ?_;refine bS 4 rfl (.slice ma xs.length mc) (fun W hW=>by have c:=Z6 hW.1 1 (.slice ma xs.length mc) rfl;go_simp) ?_;refine bW 5 rfl (.pointer (some ⟨p3,1,none⟩)) ?_;refine bS 6 rfl (.int .i64 a.house) (fun W hW=>by have c:=Z6 hW.2 1 (.int .i64 a.house) C1.out;go_simp) ?_;refine bW 7 rfl (.pointer (some ⟨p3,2,none⟩)) ?_;refine bS 8 rfl (.int .i64 a.to) (fun W hW=>by have c:=Z6 hW.2 2 (.int .i64 a.to) C2.out;go_simp) ?_;refine bW 9 rfl (.slice ca 8 cc) ?_;refine bW 10 rfl (.int .i64 8) ?_;refine bW 13 rfl (.slice ca 8 cc) ?_;have AP:=zH (fun W':World=>Zb4 (W':=W') CR.out (by decide));have HCL:=zH (CO.out.1);have b1:Below V1.heap.size V1 V1.drew:=(Below.refl _ _).drew;have BD:=zH b1;have CZ:Hid (∀z∈V8 S.c,Jl z):=zH (fun z hz=>by have:=CO.out.2 z hz;unfold Jl;omega)
 clear b1 CO;generalize V1.drew=V2 at *;refine bR 11 rfl (fun K hK=>?_);rw[if_pos (by kernel_rfl)];refine Q6 (w':=V2.alloc (.cells #[.int .i64 1,.int .i64 8] 3)) (.slice (some ⟨V2.heap.size,0,none⟩) 2 2) (by kernel_rfl) ?_;have b3:Below V2.heap.size V2 (V2.alloc (.cells #[.int .i64 1,.int .i64 8] 3)):=zB _ _;have R2:=zH (ZaQ V2 1 8);have A2:=zH (Z54 V1.heap.size V2 1 8);have B3:Hid (Below V1.heap.size V1 (V2.alloc (.cells #[.int .i64 1,.int .i64 8] 3))):=zH (BD.out.trans (b3.mono BD.out.size));have hS3:=And.intro (Z7 b3 hh.1) (Z7 b3 hh.2);clear b3 hh;obtain⟨p5,hp5⟩:=zX (V2.heap.size);rw[hp5.out]at R2 A2 ⊢;generalize V2.alloc (.cells #[.int .i64 1,.int .i64 8] 3)=V3 at *;refine bK hK hS3 (fun hh=>?_);clear hK K hS3 hp5;refine bR 12 rfl (fun K hK=>?_);go_simp;refine(VG V1.heap.size none 0 0 [] (some ⟨p5,0,none⟩) 2 2 [1,8] V3 B3.out.size (World.ownsRow_nil _ _ _ _) R2.out (fun _=>A2.out) Z8n (by rw[List.nil_append];have:=Qo [1,8] Z8n;simp at this;omega)).mono ?_;rintro e V4 ⟨a4,c4,rfl,o4,ab4⟩;rw[List.nil_append]at o4;have O4:=zH o4;have hS4:=And.intro ((ab4.block p (Zj hh.1) (z6 hh.1 (by decide))).trans hh.1) ((ab4.block p3 (Zj hh.2) (z6 hh.2 (by decide))).trans hh.2);have B4:Hid (Below V1.heap.size V1 V4):=zH (ab4.into B3.out B3.out.size);clear o4 ab4 hh R2 A2;dsimp only;refine bK hK hS4 (fun hh=>?_);clear hK K hS4;refine bR 14 rfl (fun K hK=>?_);go_simp;refine(VG V1.heap.size a4 _ c4 (ZA [1,8]) ca 8 cc (V8 S.c) V4 B4.out.size O4.out (CR.out.below B4.out) (fun _=>AP.out V4) CZ.out (by rw[List.length_append];have h1:=Qo [1,8] Z8n;have h2:=Qo (V8 S.c) CZ.out;rw[HCL.out]at h2;simp at h1;omega)).mono ?_;rintro e V5 ⟨a5,c5,rfl,o5,ab5⟩;have hS5:=And.intro ((ab5.block p (Zj hh.1) (z6 hh.1 (by decide))).trans hh.1) ((ab5.block p3 (Zj hh.2) (z6 hh.2 (by decide))).trans hh.2);have B5:Hid (Below V1.heap.size V1 V5):=zH (ab5.into B4.out B4.out.size);have hbody:ZA [1,8] ++ ZA (V8 S.c)=(Xa.ask (V8 S.c)).body:=by
  show _=XE 1 ++ (XE ((V8 S.c).length:Int) ++ ZA (V8 S.c));rw[HCL.out,show ZA [1,8]=XE 1 ++ XE 8 by simp[ZA],List.append_assoc];rfl
 rw[hbody]at o5 ⊢;have O5:=zH o5;clear o5 ab5 hh hbody O4;obtain⟨x,hx⟩ : ∃x:LM,Hid (x=⟨⟨a.house,a.to,.ask (V8 S.c)⟩,a5,c5⟩):=⟨_,zH rfl⟩;dsimp only;refine bK hK hS5 (fun hh=>?_);clear hK K hS5;refine bW 15 rfl (.agg #[.int .i64 a.house,.int .i64 a.to,.slice a5 (Xa.ask (V8 S.c)).body.length c5]) ?_;refine bR 16 rfl (fun K hK=>?_);rw[if_pos (by kernel_rfl)];refine Q6 (w':=V5.alloc (.cells #[.int .i64 a.house,.int .i64 a.to,.slice a5 (Xa.ask (V8 S.c)).body.length c5] 152)) (.slice (some ⟨V5.heap.size,0,none⟩) 1 1) (by kernel_rfl) ?_;have b6:Below V5.heap.size V5 (V5.alloc (.cells #[.int .i64 a.house,.int .i64 a.to,.slice a5 (Xa.ask (V8 S.c)).body.length c5] 152)):=zB _ _;have R6:=zH (Z41 V5 (.int .i64 a.house) (.int .i64 a.to) (.slice a5 (Xa.ask (V8 S.c)).body.length c5));have O6:=zH (Zd O5.out b6);have B6:Hid (Below w3.heap.size w3 (V5.alloc (.cells #[.int .i64 a.house,.int .i64 a.to,.slice a5 (Xa.ask (V8 S.c)).body.length c5] 152))):=zH (BB.out.trans ((B5.out.trans (b6.mono B5.out.size)).mono BB.out.size));have hS6:=And.intro (Z7 b6 hh.1) (Z7 b6 hh.2);clear b6 hh;obtain⟨p6,hp6⟩:=zX (V5.heap.size);rw[hp6.out]at R6 ⊢;generalize V5.alloc (.cells #[.int .i64 a.house,.int .i64 a.to,.slice a5 (Xa.ask (V8 S.c)).body.length c5] 152)=V6 at *;refine bK hK hS6 (fun hh=>?_);clear hK K hS6;refine bR 17 rfl (fun K hK=>?_);rw[if_pos (by kernel_rfl)];obtain⟨a7,c7,V7,hrun,ho,hg,hl⟩:=Z15 V6 0 ma xs.length mc (Zz xs) (Zd H1.out.mrow B6.out) (some ⟨p6,0,none⟩) 1 1 _ R6.out (by intro u hu;simp at hu;rcases hu with rfl | rfl | rfl <;> rfl) (by have:=LN.out;omega) (Nat.zero_le _);refine ZR _ _ _ rfl _ _ _ rfl rfl hrun ?_;clear hrun;have HO:=zH ho;have HG:=zH hg;have HL:=zH hl;have hne : ∀{cur:ZV} {t:TypeId} {g:Nat},V6.heap[g]? = some (.cells cur t (0,0))->152≠t->Value.ownBlock (.slice ma xs.length mc)≠some g:=fun hgg ht=>ZH (Zd H1.out.mrow B6.out) hgg ht;have hS7:=And.intro (Zc hg hh.1 (Ne.symm (hne hh.1 (by decide)))) (Zc hg hh.2 (Ne.symm (hne hh.2 (by decide))))
 clear ho hg hl hne hh;refine bK hK hS7 (fun hh=>?_);clear hK K hS7;refine bR 18 rfl (fun K hK=>?_);go_simp;refine bK hK hh (fun hh=>?_);clear hK K;refine bW 19 rfl (.pointer (some ⟨p,1,none⟩)) ?_;refine bL rfl (fun K hK=>?_);have hce:=Z6 hh.1 1 (.slice ma xs.length mc) rfl;have hfz:=Zq hh.1 1;have P8:(V7.setCell ⟨p,1,none⟩ (.slice a7 (xs.length+1) c7)).heap[p]? = some (.cells #[.slice ha ps.length hc,.slice a7 (xs.length+1) c7] 141):=ZI hh.1 1 _;have FIN:Hid (Yj w p F (Vg V x.m) (V7.setCell ⟨p,1,none⟩ (.slice a7 (xs.length+1) c7))):=zH (by
  rw[H2.out];refine Qt.after (w:=w3) ?_ B0.out;refine H1.out.send Zl (by decide) (by decide) (by decide) (by decide) (by decide) x B6.out ?_ ?_ (ma':=a7) (mc':=c7) ?_ HG.out HL.out P8 (JE V7 p 1 _)
  ·rw[hx.out];exact Zu O6.out (Nat.zero_le _)
  ·intro k hk;rw[hx.out]at hk;have h1:=(O6.out.lt k hk).1;exact .inl (Nat.le_trans BB.out.size h1)
  ·rw[hx.out];exact HO.out)
 clear P8 hh;go_simp;refine hK.out _ _ ?_;clear hK K hce hfz;refine bE ?_;go_wp2;go_ret;rw[R.out];refine⟨rfl,?_⟩;have h9:=FIN.out;rw[hx.out]at h9;exact h9
theorem Z5I {V:ZD}{a:YU}{S:Zf}(h:Y9 V a.house=some S):Xq V a=(JM V a.house (crS S a.keep a.flip a.idx).1,(crS S a.keep a.flip a.idx).2):=by
 unfold Xq;rw[h]
theorem Z7U (p:Nat)(F:Nat->Prop)(V:ZD)(a:YU)(sa:zA)(sc:Nat)(S:Zf)(w:World)(h:Vu w p F V)(hS:Y9 V a.house=some S)(hi:Xe S)(hlen:S.l.length < 400):
  Calls zq 93 #[.pointer (some ⟨p,0,none⟩),.agg (a.cells sa sc).toArray] w fun e w'=>e = .returned (.int .i64 (Xq V a).2)/\Yj w p F (Xq V a).1 w':=by
 rw[Z5I hS];have b0:=zB w (.cells (a.cells sa sc).toArray 67);have C1:=zH (show(a.cells sa sc).toArray[1]? = some (.int .i64 a.house)from rfl);have C3:=zH (show(a.cells sa sc).toArray[3]? = some (.int .i64 a.idx)from rfl);have C23:=zH (show(a.cells sa sc).toArray[23]? = some (.int .i64 a.keep)from rfl);have C24:=zH (show(a.cells sa sc).toArray[24]? = some (.int .i64 a.flip)from rfl);obtain⟨OA,hOA⟩:=zX ((a.cells sa sc).toArray);rw[hOA.out]at b0 C1 C3 C23 C24 ⊢;obtain⟨S',z,hC⟩ : ∃S' z,Hid (crS S a.keep a.flip a.idx=(S',z)):=⟨_,_,zH rfl⟩;rw[hC.out];have X0:=zH (Z9 w (.cells OA 67));have H0:=zH (h.below Zl b0);have B0:=zH b0;have NF:=zH (show ¬F w.heap.size from fun e=>Nat.lt_irrefl _ (h.lt Zl _ e));have HI:=zH hi;have HLEN:=zH hlen;clear b0 hOA h hi hlen;go_enter Tryz.func93,Tryz.ntmps93;go_upto_region 1 with fail;obtain⟨p3,hp3⟩:=zX (w.heap.size);rw[hp3.out]at X0 NF ⊢;generalize w.alloc (.cells OA 67)=W0 at *;refine zp X0.out (fun hh=>?_);have bd:Below W0.heap.size W0 W0.drew:=(Below.refl _ _).drew;replace B0:=zH (B0.out.trans (bd.mono B0.out.size));replace H0:=zH (H0.out.below Zl bd);clear bd;generalize W0.drew=W1 at *;obtain⟨ps,Fs,ha,hc,xs,ma,mc,h1,h2⟩:=H0.out.open;obtain⟨k,q,Fk,e1,e2,g1,g2,g3,g4⟩:=h1.at hS;have HH:=zH (Xi h1 a.house k q e1 g1);obtain⟨mb,sp,G,SF,k1,k2⟩:=g3;have HK:=zH k1;have K2:=zH k2;have FIN:Hid (∀S' w',Z1Q Uu W1 q Fk S' w'->Yj w p F (JM V a.house S') w'):=zH (fun S' w' j=>by
  rw[h2];exact Qt.after (w:=W1) (h1.ret Zl e2 g1 g2 j) B0.out)
 have NX:=zH (show ¬Yd q mb G SF p3 from fun e=>NF.out (by rw[h2];exact .inr (.inr (.inl ⟨k,Fk,g2,(k2 _).2 e⟩))));clear h1 h2 k1 k2 g1 g2 g4 H0 hS e1 e2;refine zW 0 rfl (.pointer (some ⟨p,0,none⟩)) ?_;refine zW 1 rfl (.pointer (some ⟨p3,1,none⟩)) ?_;refine zS 2 rfl (.int .i64 a.house) (fun W hW=>by have c:=Z6 hW 1 (.int .i64 a.house) C1.out;go_simp) ?_;refine zW 4 rfl (.pointer (some ⟨p3,23,none⟩)) ?_;refine zS 5 rfl (.int .i64 a.keep) (fun W hW=>by have c:=Z6 hW 23 (.int .i64 a.keep) C23.out;go_simp) ?_;refine zW 6 rfl (.pointer (some ⟨p3,24,none⟩)) ?_;refine zS 7 rfl (.int .i64 a.flip) (fun W hW=>by have c:=Z6 hW 24 (.int .i64 a.flip) C24.out;go_simp) ?_;refine zW 8 rfl (.pointer (some ⟨p3,3,none⟩)) ?_;refine zS 9 rfl (.int .i64 a.idx) (fun W hW=>by have c:=Z6 hW 3 (.int .i64 a.idx) C3.out;go_simp) ?_;refine zR 3 rfl (fun K hK=>?_);go_simp;refine HH.out.mono ?_;rintro e w1 ⟨rfl,rfl⟩;dsimp only;refine zK hK hh (fun hh=>?_);clear hK K;refine zR 10 rfl (fun K hK=>?_);go_simp;refine(Z8r q mb sp G SF S a.keep a.flip a.idx _ HK.out HI.out HLEN.out).mono ?_;rintro e w2 ⟨S2,code,cp,hi2,rfl,mb2,sp2,G2,SF2,j1,j2,j3⟩;have e0:=ZdG cp;rw[hC.out]at e0;cases e0;have J:=zH (FIN.out S' w2 ⟨Yd q mb2 G2 SF2,⟨mb2,sp2,G2,SF2,j1,fun k=>Iff.rfl⟩,j2.weaken (fun b hb=>(K2.out b).2 hb),fun b hb=>(j3 b hb).imp (fun e=>(K2.out b).2 e) id⟩);have hS2:=(j2.block p3 (Zj hh) NX.out).trans hh;clear cp hi2 j1 j2 j3;dsimp only;refine zK hK hS2 (fun hh=>?_);clear hK K;refine zW 11 rfl (.int .i64 z) ?_;refine zE ?_;go_wp2;go_ret;exact⟨rfl,J.out⟩
theorem Zam {B:Nat}{W:World}{p:Nat}{c:ZV}(h:B<=W.heap.size)(hp:B<=p):Below B W (W.setRow p c):=
 (Za.of_grown (S:=fun k=>k=p) (Yr W p c) (fun k e=>(Option.some.inj e).symm)).below (Below.refl B W) h (fun k e=>by rw[show k=p from e];exact hp)
theorem Qj (x y:Int)(v:zA×Nat×Nat):(#[Value.int .i64 x,.int .i64 y,.slice v.1 v.2.1 v.2.2]:ZV).all (·.oneCell')=true:=by simp[Value.oneCell']
def ZdU:Value := .agg #[.int .i64 0,.int .i64 0,.slice none 0 0]
theorem Z3p (p:Nat)(F:Nat->Prop)(V:ZD)(i:Int)(w:World)(h:Vu w p F V)(hi:Qr V i=none):
  Calls zq 144 #[.pointer (some ⟨p,0,none⟩),.int .i64 i] w fun e w'=>e = .returned (.tuple #[ZdU,.int .i64 3])/\Below w.heap.size w w':=by
 obtain⟨ps,Fs,ha,hc,xs,ma,mc,h1,h2⟩:=h.open;have hn:=Z5h hi;rw[h1.nm]at hn;have b0:=zB w (.cells #[.int .i64 0,.int .i64 0,.slice none 0 0] 152);have B0:=zH b0;have P0:=zH (Z7 b0 h1.blk);have X0:=zH (Z9 w (.cells #[.int .i64 0,.int .i64 0,.slice none 0 0] 152));clear h1 h2 h hi b0;go_enter Tryz.func144,Tryz.ntmps144;go_upto_region 1 with fail;obtain⟨p4,hp4⟩:=zX (w.heap.size);rw[hp4.out]at X0 ⊢;generalize w.alloc (.cells #[.int .i64 0,.int .i64 0,.slice none 0 0] 152)=W0 at *;have c1:=Z6 P0.out 1 (.slice ma xs.length mc) rfl;have I3:=zH (show(zq.info? 152).map (·.size)=some (#[Value.int .i64 0,.int .i64 0,.slice none 0 0]:ZV).size from by kernel_rfl);have FB:Hid (Below w.heap.size w (W0.setRow p4 #[.int .i64 0,.int .i64 0,.slice none 0 0])):=zH (B0.out.trans (Zam B0.out.size (by rw[hp4.out];exact Nat.le_refl _)));rcases Int.lt_or_le i 0 with hi0 | hi0
 focus
  have t1:decide (i < 0)=true:=by simp[hi0]
 rotate_left
 focus
  have t1:decide (i < 0)=false:=by simp;omega
  have t2:decide ((xs.length:Int)<=i)=true:=by simp;omega
 all_goals
  clear hn hi0;go_wp2_with (refine Xr rfl 152 _ _ rfl p4 #[.int .i64 0,.int .i64 0,.slice none 0 0] #[.int .i64 0,.int .i64 0,.slice none 0 0] 152 rfl rfl X0.out I3.out rfl (Qj 0 0 (none,0,0)) ?_);refine bodyPost_ret (ZM rfl _ _ p4 152 #[.int .i64 0,.int .i64 0,.slice none 0 0] (0,0) _ rfl (Yp _ _ _ _ _ _ X0.out) Tryz.underlying152 rfl I3.out) rfl ?_;exact⟨rfl,FB.out⟩
theorem Z5W (ma:zA)(n n' c:Nat):Value.ownBlock (.slice ma n c)=Value.ownBlock (.slice ma n' c):=by cases ma <;> rfl
section
variable {PH:World->Nat->(Nat->Prop)->Zf->Prop}{tW tH:TypeId}{bf:Value->Value->ZV}{w w1 w2 w3:World}{p:Nat}{ps:List Nat}{Fs:List (Nat->Prop)}{ha:zA}{hc:Nat}{xs:List LM}{ma:zA}{mc:Nat}{V:ZD}
theorem Us.drop (hp:JX PH)(h:Us PH tW tH bf w p ps Fs ha hc xs ma mc V)(n1:152≠tH)(n2:152≠tW)(n3:tH≠tW)(n4:5≠152)(n5:5≠tW){k:Nat}(hk:k < xs.length)(hb1:Below w.heap.size w w1)
  (ho:w2.ownsRow 0 152 3 (.slice ma (xs.length - 1) mc) (xs.length - 1) (Zz (xs.eraseIdx k))) (hg:Za (fun j=>Value.ownBlock (.slice ma xs.length mc)=some j) w1 w2)
  (hb:w3.heap[p]? = some (.cells (bf (.slice ha ps.length hc) (.slice ma (xs.length - 1) mc)) tW (0,0))) (hs:Za (fun j=>j=p) w2 w3):
  Us PH tW tH bf w3 p ps Fs ha hc (xs.eraseIdx k) ma mc { V with ms:=V.ms.eraseIdx k } /\ Za (wF p Fs ha ps.length hc xs ma mc) w w3 /\ ∀j,wF p Fs ha ps.length hc (xs.eraseIdx k) ma mc j->wF p Fs ha ps.length hc xs ma mc j:=by
 have e1:xs.length - 1=(xs.eraseIdx k).length:=by rw[List.length_eraseIdx,if_pos hk]
 rw[e1]at ho hb;have hX:Za (fun j=>j=p\/Value.ownBlock (.slice ma xs.length mc)=some j) w w3:=by
  have g1:Za (fun j=>j=p\/Value.ownBlock (.slice ma xs.length mc)=some j) w w1:=Za.of_below hb1;exact(g1.trans (hg.weaken fun j hj=>.inr hj)).trans (hs.weaken fun j hj=>.inl hj)
 have hmh:=Qg h.mrow h.hrow n1;have q1 : ∀j,(j=p\/Value.ownBlock (.slice ma xs.length mc)=some j) -> ¬zx Fs j/\Value.ownBlock (.slice ha ps.length hc)≠some j:=fun j hj=>by
  rcases hj with e | hj
  ·rw[e];exact⟨h.sp,ZH h.hrow h.blk n3⟩
  ·exact⟨fun hF=>h.sm j hF hj,hmh j hj⟩
 have q2:w3.ownsRow 0 152 3 (.slice ma (xs.eraseIdx k).length mc) (xs.eraseIdx k).length (Zz (xs.eraseIdx k)):=by
  refine Ze ho hs (fun b hb2 e=>?_);rw[show b=p from e,Z5W ma _ xs.length mc]at hb2;exact ZH h.mrow h.blk n2 hb2
 have hin : ∀y,y∈xs.eraseIdx k->y∈xs:=fun y hy=>(List.eraseIdx_sublist xs k).mem hy;have q3 : ∀y∈xs.eraseIdx k,w3.ownsRow 0 5 1 y.val y.m.body.length (y.m.body.map Zs):=fun y hy=>by
  refine Ze (h.bod y (hin y hy)) hX (fun b hb2 e=>?_);rcases e with e | e
  ·exact ZH (h.bod y (hin y hy)) h.blk n5 (e ▸ hb2)
  ·exact Qg (h.bod y (hin y hy)) h.mrow n4 b hb2 e
 have q4 : ∀j,(Value.ownBlock (.slice ma (xs.eraseIdx k).length mc)=some j \/ ∃y∈xs.eraseIdx k,y.val.ownBlock=some j)->w.heap.size<=j\/Value.ownBlock (.slice ma xs.length mc)=some j \/ ∃y∈xs,y.val.ownBlock=some j:=fun j hj=>by
  rcases hj with hj | ⟨y,hy,hj⟩
  ·exact .inr (.inl (by rw[Z5W ma xs.length (xs.eraseIdx k).length mc];exact hj))
  ·exact .inr (.inr ⟨y,hin y hy,hj⟩)
 obtain⟨g1,g2⟩:=h.mail hp hX q1 hb q2 q3 q4;have e3:(xs.eraseIdx k).map LM.m=V.ms.eraseIdx k:=by rw[<-h.mls,List.eraseIdx_eq_take_drop_succ,List.eraseIdx_eq_take_drop_succ,List.map_append,List.map_take,List.map_drop]
 rw[e3]at g1;refine⟨g1,hX.weaken (fun j hj=>?_),fun j hj=>?_⟩
 ·rcases hj with e | hj
  ·exact .inl e
  ·exact .inr (.inr (.inr (.inl hj)))
 ·rcases hj with e | e | e | e | ⟨y,hy,e⟩
  ·exact .inl e
  ·exact .inr (.inl e)
  ·exact .inr (.inr (.inl e))
  ·exact .inr (.inr (.inr (.inl (by rw[Z5W ma xs.length (xs.eraseIdx k).length mc];exact e))))
  ·exact .inr (.inr (.inr (.inr ⟨y,hin y hy,e⟩)))
end
theorem UT (p:Nat)(F:Nat->Prop)(V:ZD)(i:Int)(m:MlV)(w:World)(h:Vu w p F V)(hi:Qr V i=some m):
  Calls zq 144 #[.pointer (some ⟨p,0,none⟩),.int .i64 i] w fun e w' => ∃ba bc,e = .returned (.tuple #[.agg #[.int .i64 m.frm,.int .i64 m.to,.slice ba m.body.length bc],.int .i64 0])/\Yg w' ba m.body.length bc m.body/\Yj w p F (Xf V i) w':=by
 obtain⟨ps,Fs,ha,hc,xs,ma,mc,h1,h2⟩:=h.open;obtain⟨k,rfl,ek,hk⟩:=QA hi;have hkx:k < xs.length:=by rw[<-h1.nm];exact(List.getElem?_eq_some_iff.1 hk).1
 obtain⟨x,hx,hxm⟩ : ∃x,xs[k]? = some x/\x.m=m:=by
  rw[<-h1.mls,List.getElem?_map]at hk;cases hq:xs[k]? with
  | none=>rw[hq]at hk;cases hk
  | some x=>rw[hq]at hk;exact⟨x,rfl,Option.some.inj hk⟩
 subst hxm;have b0:=zB w (.cells #[.int .i64 0,.int .i64 0,.slice none 0 0] 152);have hr:=ZW.of_own (Zd h1.mrow b0);have hmx:=hr.maxn;obtain⟨b,off,rfl,hat⟩:=Zdc hr (by omega);have X0:=zH (Z9 w (.cells #[.int .i64 0,.int .i64 0,.slice none 0 0] 152));have I3:=zH (show ∀x y z:Value,(zq.info? 152).map (·.size)=some (#[x,y,z]:ZV).size from fun x y z=>by kernel_rfl);have J3:=zH (show(zq.info? 152).map (·.size)=some x.cells.length from by kernel_rfl);have H0:=zH h1;have B0:=zH b0;have HX:Hid ((w.alloc (.cells #[.int .i64 0,.int .i64 0,.slice none 0 0] 152)).rangeAt b (off+k * 3) x.cells):=zH (fun j v hv=>by
  rw[Nat.add_assoc];exact hat _ v (Z18 hx j v hv))
 have P0:=zH (Z7 b0 h1.blk);have hix:=fun W=>YR (W:=W) (c:=mc) (b:=b) (off:=off) Tryz.underlying89 (show(zq.info? 152).map (·.size)=some 3 by kernel_rfl) hkx (rfl:off+k * 3=off+k * 3);have t1:decide ((k:Int) < 0)=false:=by simp
 have t2:decide (xs.length<=k)=false:=by simp;omega
 have E1:=zH (show wrap64 ((k:Int)+1)=(k:Int)+1 by unfold wrap64;omega);have HK:=zH hkx;have HX1:=zH hx;have H2:=zH h2;clear h1 h2 h hi hk hr hat b0 hx hkx hmx ek;go_enter Tryz.func144,Tryz.ntmps144;go_upto_region 1 with fail;obtain⟨p4,hp4⟩:=zX (w.heap.size);rw[hp4.out]at X0 ⊢;generalize w.alloc (.cells #[.int .i64 0,.int .i64 0,.slice none 0 0] 152)=W0 at *;have c1:=Z6 P0.out 1 (.slice (some ⟨b,off,none⟩) xs.length mc) rfl;go_upto_region 4 with (first
  |(refine wpList_load_mid rfl 152 _ rfl b (off+k * 3) rfl x.cells _ HX.out Tryz.underlying152 rfl (by exact J3.out) ?_)
  |(refine Zr W0 rfl 152 _ _ rfl W0.heap.size rfl _ #[.int .i64 x.m.frm,.int .i64 x.m.to,x.val] rfl rfl (I3.out _ _ _) rfl (Qj x.m.frm x.m.to (x.a,x.m.body.length,x.c)) ?_)
  | fail)
 have b1:Below W0.heap.size W0 (W0.alloc (.cells #[.int .i64 x.m.frm,.int .i64 x.m.to,x.val] 152)):=zB _ _;have X6:=zH (Z9 W0 (.cells #[.int .i64 x.m.frm,.int .i64 x.m.to,x.val] 152));have X4:=zH (Z7 b1 X0.out);have P1:=zH (Z7 b1 P0.out);have B1:=zH (B0.out.trans (b1.mono B0.out.size));have O1:=zH (Zd H0.out.mrow B1.out);have L6:=zH (show p4 < W0.heap.size from Zj X0.out);obtain⟨p6,hp6⟩:=zX (W0.heap.size);rw[hp6.out]at X6 L6 ⊢;generalize W0.alloc (.cells #[.int .i64 x.m.frm,.int .i64 x.m.to,x.val] 152)=W1 at *;clear b1 c1 hix t1 t2 HX P0 X0 B0;have c1:=Z6 P1.out 1 (.slice (some ⟨b,off,none⟩) xs.length mc) rfl;have e1:=E1.out;go_wp2_with fail;refine(Z74 xs (some ⟨b,off,none⟩) mc k W1 O1.out HK.out).mono ?_;rintro e W2 ⟨rfl,o2,s2⟩;have hm4 : ¬(Value.ownBlock (.slice (some ⟨b,off,none⟩) xs.length mc)=some p4):=fun e=>by
  have h5:=(H0.out.mrow.lt p4 e).2;have h6:=hp4.out;omega
 have hm6 : ¬(Value.ownBlock (.slice (some ⟨b,off,none⟩) xs.length mc)=some p6):=fun e=>by
  have h5:=(H0.out.mrow.lt p6 e).2;have h6:=hp4.out;have h7:=L6.out;omega
 have hmp : ¬(Value.ownBlock (.slice (some ⟨b,off,none⟩) xs.length mc)=some p):=ZH H0.out.mrow H0.out.blk (by decide);have P2:=zH ((s2.block p (Zj P1.out) hmp).trans P1.out);have X42:=zH ((s2.block p4 (Zj X4.out) hm4).trans X4.out);have X62:=zH ((s2.block p6 (Zj X6.out) hm6).trans X6.out);have O2:=zH o2;have S2:=zH s2;clear c1 o2 s2 hm4 hm6 hmp;have c1:=Z6 P2.out 1 (.slice (some ⟨b,off,none⟩) xs.length mc) rfl;have f1:=Zq P2.out 1;go_upto_region 5 with fail;have PL:=Zj H0.out.blk;have hp46:=hp4.out;have l6:=L6.out;have s3:=JE W2 p 1 (.slice (some ⟨b,off,none⟩) (xs.length - 1) mc);have P3:(W2.setCell ⟨p,1,none⟩ (.slice (some ⟨b,off,none⟩) (xs.length - 1) mc)).heap[p]? = some (.cells (bfP (.slice ha ps.length hc) (.slice (some ⟨b,off,none⟩) (xs.length - 1) mc)) 141 (0,0)):=ZI P2.out 1 _;have X43:=zH ((s3.block p4 (Zj X42.out) (by omega)).trans X42.out);have X63:=zH ((s3.block p6 (Zj X62.out) (by omega)).trans X62.out);have DR:=zH (H0.out.drop Zl (by decide) (by decide) (by decide) (by decide) (by decide) HK.out B1.out O2.out S2.out P3 s3);have hbx:=H0.out.bod x (List.mem_of_getElem? HX1.out);have ob1:=Ze (Ze (Zd hbx B1.out) S2.out (fun j hj e=>Qg hbx H0.out.mrow (by decide) j hj e)) s3 (fun j hj e=>ZH hbx H0.out.blk (by decide) (show x.val.ownBlock=some p from(show j=p from e) ▸ hj));have OB:=zH ob1;have HB4:=zH (show x.val.ownBlock≠some p4 from fun e=>by have:=(hbx.lt p4 e).2;omega);have N4:Hid (¬wF p Fs ha ps.length hc xs (some ⟨b,off,none⟩) mc p4):=zH (fun e=>by have:=H0.out.lt Zl p4 e;omega);clear s3 P3 hbx ob1 c1 f1 PL hp46 l6 e1;generalize W2.setCell ⟨p,1,none⟩ (.slice (some ⟨b,off,none⟩) (xs.length - 1) mc)=W3 at *;go_wp2_with (first
  |(refine wpList_load_row rfl 152 _ rfl p6 rfl 152 #[.int .i64 x.m.frm,.int .i64 x.m.to,x.val] (0,0) _ X63.out Tryz.underlying152 rfl (I3.out _ _ _) ?_)
  |(refine Xr rfl 152 _ _ rfl p4 #[.int .i64 0,.int .i64 0,.slice none 0 0] #[.int .i64 x.m.frm,.int .i64 x.m.to,x.val] 152 rfl rfl X43.out (I3.out _ _ _) rfl (Qj x.m.frm x.m.to (x.a,x.m.body.length,x.c)) ?_)
  | fail)
 refine bodyPost_ret (ZM rfl _ _ p4 152 #[.int .i64 x.m.frm,.int .i64 x.m.to,x.val] (0,0) _ rfl (Yp _ _ _ _ _ _ X43.out) Tryz.underlying152 rfl (I3.out _ _ _)) rfl ?_;have s4:Za (fun k=>k=p4) W3 (W3.setRow p4 #[.int .i64 x.m.frm,.int .i64 x.m.to,x.val]):=Za.of_grown (Yr W3 p4 _) (fun k e=>(Option.some.inj e).symm);obtain⟨d1,d2,d3⟩:=DR.out;refine⟨x.a,x.c,rfl,Yg.of_own (Ze OB.out s4 (fun j hj e=>HB4.out (by rw[<-show j=p4 from e];exact hj))),?_⟩;rw[H2.out];refine⟨_,⟨ps,Fs,ha,hc,xs.eraseIdx k,some ⟨b,off,none⟩,mc,d1.same Zl s4 (fun j e hF=>N4.out (by rw[<-show j=p4 from e];exact d3 j hF)),fun k=>Iff.rfl⟩,?_,fun j hj=>.inl (d3 j hj)⟩;refine d2.trans2 s4 (fun j e=>.inr ?_);rw[show j=p4 from e,<-hp4.out];exact Nat.le_refl _
theorem Z9h (p:Nat)(F:Nat->Prop)(V:ZD)(a:YU)(sa:zA)(sc:Nat)(w:World)(h:Vu w p F V):
  Calls zq 91 #[.pointer (some ⟨p,0,none⟩),.agg (a.cells sa sc).toArray] w fun e w'=>e = .returned (.int .i64 (Jq V a).2)/\Yj w p F (Jq V a).1 w':=by
 have b0:=zB w (.cells (a.cells sa sc).toArray 67);have C3:=zH (show(a.cells sa sc).toArray[3]? = some (.int .i64 a.idx)from rfl);obtain⟨OA,hOA⟩:=zX ((a.cells sa sc).toArray);rw[hOA.out]at b0 C3 ⊢;have X0:=zH (Z9 w (.cells OA 67));have H0:=zH (h.below Zl b0);have B0:=zH b0;obtain⟨Y,hY⟩:=zX (Jq V a);rw[hY.out];have I3:=zH (show ∀x y z:Value,(zq.info? 152).map (·.size)=some (#[x,y,z]:ZV).size from fun x y z=>by kernel_rfl);clear b0 hOA h;go_enter Tryz.func91,Tryz.ntmps91;go_upto_region 1 with fail;obtain⟨p3,hp3⟩:=zX (w.heap.size);rw[hp3.out]at X0 ⊢;generalize w.alloc (.cells OA 67)=W0 at *;have c1:=Z6 X0.out 3 (.int .i64 a.idx) C3.out;go_wp2_with fail;cases hm:Qr V a.idx with
 | none=>
  have R:Hid (Y=(V,3)):=zH (hY.out.symm.trans (by unfold Jq;rw[hm]));refine(Z3p p F V a.idx _ H0.out hm).mono ?_;rintro e w1 ⟨rfl,b1⟩;have RR:=zH (((Qt.refl H0.out).after B0.out).then Zl (b1.mono (Nat.le_refl _)):Yj w p F V w1);clear b1 c1 hm hY;go_upto_region 2 with (refine Zr w1 rfl 152 _ _ rfl w1.heap.size rfl _ #[.int .i64 0,.int .i64 0,.slice none 0 0] rfl rfl (I3.out _ _ _) rfl (Qj 0 0 (none,0,0)) ?_);have RF:=zH (RR.out.then Zl (zB _ (.cells #[.int .i64 0,.int .i64 0,.slice none 0 0] 152)));generalize w1.alloc (.cells #[.int .i64 0,.int .i64 0,.slice none 0 0] 152)=w2 at *;go_wp2;go_ret;rw[R.out];exact⟨rfl,RF.out⟩
 | some m=>
  have R:Hid (Y=(Xf V a.idx,0)):=zH (hY.out.symm.trans (by unfold Jq;rw[hm]));refine(UT p F V a.idx m _ H0.out hm).mono ?_;rintro e w1 ⟨ba,bc,rfl,hb,hr⟩;have RR:=zH (hr.after B0.out);clear hb hr c1 hm hY;go_upto_region 2 with (refine Zr w1 rfl 152 _ _ rfl w1.heap.size rfl _ #[.int .i64 m.frm,.int .i64 m.to,.slice ba m.body.length bc] rfl rfl (I3.out _ _ _) rfl (Qj m.frm m.to (ba,m.body.length,bc)) ?_);have RF:=zH (RR.out.then Zl (zB _ (.cells #[.int .i64 m.frm,.int .i64 m.to,.slice ba m.body.length bc] 152)));generalize w1.alloc (.cells #[.int .i64 m.frm,.int .i64 m.to,.slice ba m.body.length bc] 152)=w2 at *;go_wp2;go_ret;rw[R.out];exact⟨rfl,RF.out⟩
theorem Z6v (p:Nat)(F:Nat->Prop)(V:ZD)(a:YU)(sa:zA)(sc:Nat)(w:World)(h:Vu w p F V):
  Calls zq 92 #[.pointer (some ⟨p,0,none⟩),.agg (a.cells sa sc).toArray] w fun e w'=>e = .returned (.int .i64 (Xb V a).2)/\Yj w p F (Xb V a).1 w':=by
 have b0:=zB w (.cells (a.cells sa sc).toArray 67);have C3:=zH (show(a.cells sa sc).toArray[3]? = some (.int .i64 a.idx)from rfl);obtain⟨OA,hOA⟩:=zX ((a.cells sa sc).toArray);rw[hOA.out]at b0 C3 ⊢;have X0:=zH (Z9 w (.cells OA 67));have H0:=zH (h.below Zl b0);have B0:=zH b0;obtain⟨Y,hY⟩:=zX (Xb V a);rw[hY.out];clear b0 hOA h;go_enter Tryz.func92,Tryz.ntmps92;go_upto_region 1 with fail;obtain⟨p3,hp3⟩:=zX (w.heap.size);rw[hp3.out]at X0 ⊢;generalize w.alloc (.cells OA 67)=W0 at *;have RF:=zH ((Qt.refl H0.out).after B0.out);obtain⟨ps,Fs,ha,hc,xs,ma,mc,h1,h2⟩:=H0.out.open;have c1:=Z6 X0.out 3 (.int .i64 a.idx) C3.out;have c2:=Z6 h1.blk 1 (.slice ma xs.length mc) rfl;cases hm:Qr V a.idx with
 | none=>
  have R:Hid (Y=(V,3)):=zH (hY.out.symm.trans (by unfold Xb;rw[hm]));have RG:=zH (fun n=>RF.out.then Zl (below_drewN (Below.refl W0.heap.size W0) n));have hn:=Z5h hm;rw[h1.nm]at hn;rcases Int.lt_or_le a.idx 0 with hi0 | hi0
  focus
   have t1:decide (a.idx < 0)=true:=by simp[hi0]
  rotate_left
  focus
   have t1:decide (a.idx < 0)=false:=by simp;omega
   have t2:decide ((xs.length:Int)<=a.idx)=true:=by simp;omega
  all_goals
   clear hn hi0 hm hY h1 h2;go_quiet (fail);go_wp2;go_ret;rw[R.out];exact⟨rfl,RG.out _⟩
 | some m=>
 obtain⟨k,ei,ek,hk⟩:=QA hm;have hkx:k < xs.length:=by rw[<-h1.nm];exact(List.getElem?_eq_some_iff.1 hk).1
 obtain⟨x,hx,hxm⟩ : ∃x,xs[k]? = some x/\x.m=m:=by
  rw[<-h1.mls,List.getElem?_map]at hk;cases hq:xs[k]? with
  | none=>rw[hq]at hk;cases hk
  | some x=>rw[hq]at hk;exact⟨x,rfl,Option.some.inj hk⟩
 have t1:decide (a.idx < 0)=false:=by simp;omega
 have t2:decide ((xs.length:Int)<=a.idx)=false:=by simp;omega
 have hr:=ZW.of_own h1.mrow;have hmx:=hr.maxn;obtain⟨b,off,rfl,hat⟩:=Zdc hr (by omega);have HX:=zH (show W0.rangeAt b (off+k * 3) x.cells from fun j v hv=>by
  rw[Nat.add_assoc];exact hat _ v (Z18 hx j v hv))
 have HIX:=zH (show ∀W:World,(Instr.indexAt 89 (.slice (some ⟨b,off,none⟩) xs.length mc) (.int .i64 a.idx)).run zq W = .ok (.pointer (some ⟨b,off+k * 3,none⟩)) W from fun W=>by rw[ei];exact YR (W:=W) (c:=mc) (b:=b) (off:=off) Tryz.underlying89 (show(zq.info? 152).map (·.size)=some 3 by kernel_rfl) hkx (rfl:off+k * 3=off+k * 3));have J3:=zH (show(zq.info? 152).map (·.size)=some x.cells.length from by kernel_rfl);have H1:=zH h1;have H2:=zH h2;have HXM:=zH (List.mem_of_getElem? hx);have HMM:=zH hxm;by_cases hf:64<=V.ms.length
 ·have R:Hid (Y=(V,2)):=zH (hY.out.symm.trans (by unfold Xb;rw[hm];exact if_pos hf));have FU:=zH (fun n=>Z0v (h1.below Zl (below_drewN (Below.refl W0.heap.size W0) n)));rw[show decide (64<=V.ms.length)=true by simp[hf]]at FU;have RG:=zH (fun n=>RF.out.then Zl (below_drewN (Below.refl W0.heap.size W0) n));clear h1 h2 hm hY hf hr hmx hat hx hxm hkx ei ek hk;go_quiet (fail);go_wp2_with fail;refine(FU.out _).mono ?_;rintro e w2 ⟨rfl,rfl⟩;go_wp2;go_ret;rw[R.out];exact⟨rfl,RG.out _⟩
 have R:Hid (Y=(Vg V m,0)):=zH (hY.out.symm.trans (by unfold Xb;rw[hm];exact if_neg hf));have FU:=zH (fun n=>Z0v (h1.below Zl (below_drewN (Below.refl W0.heap.size W0) n)));rw[show decide (64<=V.ms.length)=false by simp[hf]]at FU;have LN:=zH (show xs.length < 64 by have:=h1.nm;omega);have BN:=zH (fun n=>below_drewN (Below.refl W0.heap.size W0) n);clear h1 h2 hm hY hf hr hmx hat hx hxm hkx ei ek hk;go_quiet (fail);go_wp2_with fail;refine(FU.out _).mono ?_;rintro e w2 ⟨rfl,rfl⟩;go_upto_region 5 with fail;refine bD 17 (fun W'=>W'.heap[p]? = some (.cells #[.slice ha ps.length hc,.slice (some ⟨b,off,none⟩) xs.length mc] 141)/\W'.heap[p3]? = some (.cells OA 67)) ⟨H1.out.blk,X0.out⟩ (fun hh=>?_);have BV:=zH (show Below W0.heap.size W0 (W0.drewN nq).drew from(BN.out nq).drew);have HXV:=zH (show(W0.drewN nq).drew.rangeAt b (off+k * 3) x.cells from fun j v hv=>HX.out j v hv);clear c1 c2 t1 t2 FU HX;generalize (W0.drewN nq).drew=V2 at *;refine bW 0 rfl (.pointer (some ⟨p,0,none⟩)) ?_;refine bW 1 rfl (.pointer (some ⟨p,0,none⟩)) ?_;refine bW 2 rfl (.pointer (some ⟨p,0,none⟩)) ?_;refine bW 3 rfl (.pointer (some ⟨p,1,none⟩)) ?_;refine bS 4 rfl (.slice (some ⟨b,off,none⟩) xs.length mc) (fun W hW=>by have c:=Z6 hW.1 1 (.slice (some ⟨b,off,none⟩) xs.length mc) rfl;go_simp) ?_;refine bW 5 rfl (.pointer (some ⟨p,0,none⟩)) ?_;refine bW 6 rfl (.pointer (some ⟨p,0,none⟩)) ?_;refine bW 7 rfl (.pointer (some ⟨p,1,none⟩)) ?_;refine bS 8 rfl (.slice (some ⟨b,off,none⟩) xs.length mc) (fun W hW=>by have c:=Z6 hW.1 1 (.slice (some ⟨b,off,none⟩) xs.length mc) rfl;go_simp) ?_;refine bW 9 rfl (.pointer (some ⟨p3,3,none⟩)) ?_;refine bS 10 rfl (.int .i64 a.idx) (fun W hW=>by have c:=Z6 hW.2 3 (.int .i64 a.idx) C3.out;go_simp) ?_;refine bS 11 rfl (.pointer (some ⟨b,off+k * 3,none⟩)) (fun W hW=>by have h:=HIX.out W;go_simp) ?_;refine bR 12 rfl (fun K hK=>?_);rw[if_pos (by kernel_rfl)];refine wp_load_mid 152 _ rfl b (off+k * 3) rfl x.cells _ HXV.out Tryz.underlying152 rfl (by exact J3.out) ?_;refine bK hK hh (fun hh=>?_)
 clear hK K;refine bR 13 rfl (fun K hK=>?_);rw[if_pos (by kernel_rfl)];refine Q6 (w':=V2.alloc (.cells #[.int .i64 x.m.frm,.int .i64 x.m.to,x.val] 152)) (.slice (some ⟨V2.heap.size,0,none⟩) 1 1) (by kernel_rfl) ?_;have b6:Below V2.heap.size V2 (V2.alloc (.cells #[.int .i64 x.m.frm,.int .i64 x.m.to,x.val] 152)):=zB _ _;have R6:=zH (Z41 V2 (.int .i64 x.m.frm) (.int .i64 x.m.to) x.val);have B6:=zH (BV.out.trans (b6.mono BV.out.size));have hS6:=And.intro (Z7 b6 hh.1) (Z7 b6 hh.2);clear b6 hh;obtain⟨p6,hp6⟩:=zX (V2.heap.size);rw[hp6.out]at R6 ⊢;generalize V2.alloc (.cells #[.int .i64 x.m.frm,.int .i64 x.m.to,x.val] 152)=V6 at *;refine bK hK hS6 (fun hh=>?_);clear hK K hS6;refine bR 14 rfl (fun K hK=>?_);rw[if_pos (by kernel_rfl)];obtain⟨a7,c7,V7,hrun,ho,hg,hl⟩:=Z15 V6 0 (some ⟨b,off,none⟩) xs.length mc (Zz xs) (Zd H1.out.mrow B6.out) (some ⟨p6,0,none⟩) 1 1 _ R6.out (by intro u hu;simp at hu;rcases hu with rfl | rfl | rfl <;> rfl) (by have:=LN.out;omega) (Nat.zero_le _);refine ZR _ _ _ rfl _ _ _ rfl rfl hrun ?_;clear hrun;have HO:=zH ho;have HG:=zH hg;have HL:=zH hl;have hne : ∀{cur:ZV} {t:TypeId} {g:Nat},V6.heap[g]? = some (.cells cur t (0,0))->152≠t->Value.ownBlock (.slice (some ⟨b,off,none⟩) xs.length mc)≠some g:=fun hgg ht=>ZH (Zd H1.out.mrow B6.out) hgg ht;have hS7:=And.intro (Zc hg hh.1 (Ne.symm (hne hh.1 (by decide)))) (Zc hg hh.2 (Ne.symm (hne hh.2 (by decide))));clear ho hg hl hne hh;refine bK hK hS7 (fun hh=>?_);clear hK K hS7;refine bR 15 rfl (fun K hK=>?_);go_simp;refine bK hK hh (fun hh=>?_);clear hK K;refine bW 16 rfl (.pointer (some ⟨p,1,none⟩)) ?_;refine bL rfl (fun K hK=>?_);have hce:=Z6 hh.1 1 (.slice (some ⟨b,off,none⟩) xs.length mc) rfl;have hfz:=Zq hh.1 1;have P8:(V7.setCell ⟨p,1,none⟩ (.slice a7 (xs.length+1) c7)).heap[p]? = some (.cells #[.slice ha ps.length hc,.slice a7 (xs.length+1) c7] 141):=ZI hh.1 1 _;have FIN:Hid (Yj w p F (Vg V x.m) (V7.setCell ⟨p,1,none⟩ (.slice a7 (xs.length+1) c7))):=zH (by
  rw[H2.out];refine Qt.after (w:=W0) ?_ B0.out;exact H1.out.send Zl (by decide) (by decide) (by decide) (by decide) (by decide) x B6.out (Zd (H1.out.bod x HXM.out) B6.out) (fun j hj=>.inr ⟨x,HXM.out,hj⟩) (ma':=a7) (mc':=c7) HO.out HG.out HL.out P8 (JE V7 p 1 _))
 clear P8 hh;go_simp;refine hK.out _ _ ?_;clear hK K hce hfz;refine bE ?_;go_wp2;go_ret;rw[R.out,<-HMM.out];exact⟨rfl,FIN.out⟩
def Z1g (V:ZD)(w:World)(h:Int)(e:Ending)(W:World):Prop:=match Y9 V h with
 | none=>e = .returned (.tuple #[.slice none 0 0,.int .i64 3])
 | some S => ∃a un c zs,e = .returned (.tuple #[.slice a un c,.int .i64 0])/\U5 w W a c un zs/\zs.map LN.n=S.l
theorem Z3q (p:Nat)(F:Nat->Prop)(V:ZD)(i:Int)(w:World)(h:Vu w p F V)(h0:0 < V.hs.length)(hi : ∀S∈V.hs,Xe S/\S.l.length<=400):
  Calls zq 30 #[.pointer (some ⟨p,0,none⟩),.int .i64 i] w fun e w'=>Z1g V w i e w'/\Below w.heap.size w w':=by
 obtain⟨ps,Fs,ha,hc,xs,ma,mc,h1,h2⟩:=h.open;have HM:=zH (Vw h1 (by rw[<-h1.nh];exact h0));cases hT:Y9 V i with
 | none=>
  have HT:=zH (Z09 h1 i (by have:=Z2o hT;rw[h1.nh]at this;exact this));have R:Hid (∀e W,e = .returned (.tuple #[.slice none 0 0,.int .i64 3])->Z1g V w i e W):=zH (fun e W h=>by unfold Z1g;rw[hT];exact h);clear h1 h2 h hT h0 hi;go_enter Tryz.func30,Tryz.ntmps30;go_wp2_with fail;refine HM.out.mono ?_;rintro e w1 ⟨rfl,rfl⟩;go_wp2_with fail;refine HT.out.mono ?_;rintro e w1 ⟨rfl,rfl⟩;go_wp2_with fail;go_returns;exact⟨R.out _ _ rfl,Below.refl _ _⟩
 | some S=>
  obtain⟨k,q,Fk,e1,e2,g1,g2,g3,g4⟩:=h1.at hT;have HT:=zH (Xi h1 i k q e1 g1);obtain⟨mb,sp,G,SF,k1,k2⟩:=g3;have HK:=zH k1;have HI:=zH (hi S (List.mem_of_getElem? g4));have R:Hid (∀e W,(∃a un c zs,e = .returned (.tuple #[.slice a un c,.int .i64 0])/\U5 w W a c un zs/\zs.map LN.n=S.l)->Z1g V w i e W):=zH (fun e W h=>by unfold Z1g;rw[hT];exact h);clear h1 h2 h hT h0 hi e1 e2 g1 g2 g4 k1 k2;go_enter Tryz.func30,Tryz.ntmps30;go_wp2_with fail;refine HM.out.mono ?_;rintro e w1 ⟨rfl,rfl⟩;go_wp2_with fail;refine HT.out.mono ?_;rintro e w1 ⟨rfl,rfl⟩;go_wp2_with fail;refine(Z7j q mb sp G SF S _ HK.out HI.out.1 HI.out.2).mono ?_;rintro e w2 ⟨⟨a,un,c,zs,rfl,m1,m2⟩,b1⟩;have M1:=zH m1;have M2:=zH m2;have BB:=zH b1;clear m1 m2 b1;go_wp2_with fail;go_returns;exact⟨R.out _ _ ⟨a,un,c,zs,rfl,M1.out,M2.out⟩,BB.out⟩
section
variable {PH:World->Nat->(Nat->Prop)->Zf->Prop}{tW tH:TypeId}{bf:Value->Value->ZV}{w w1 w2 w3:World}{p:Nat}{ps:List Nat}{Fs:List (Nat->Prop)}{ha:zA}{hc:Nat}{xs:List LM}{ma:zA}{mc:Nat}{V:ZD}
theorem Us.pushH (hp:JX PH)(h:Us PH tW tH bf w p ps Fs ha hc xs ma mc V)(n1:152≠tH)(n2:152≠tW)(n3:tH≠tW)(n4:5≠tH)(n5:5≠tW)(hb1:Below w.heap.size w w1){q:Nat}{F:Nat->Prop}{S:Zf}(hS:PH w1 q F S)(hF : ∀k,F k->w.heap.size<=k)
  {ha':zA} {hc':Nat} (ho:w2.ownsRow 0 tH 1 (.slice ha' (ps.length+1) hc') (ps.length+1) ((ps.map fun q=>Value.pointer (some ⟨q,0,none⟩)) ++ [.pointer (some ⟨q,0,none⟩)])) (hg:w1.grownBy w2 (Value.ownBlock (.slice ha ps.length hc))) (hl:ha'=ha\/ha'=some ⟨w1.heap.size,0,none⟩)
  (hb:w3.heap[p]? = some (.cells (bf (.slice ha' (ps.length+1) hc') (.slice ma xs.length mc)) tW (0,0))) (hs:Za (fun k=>k=p) w2 w3):
  Us PH tW tH bf w3 p (ps ++ [q]) (Fs ++ [F]) ha' hc' xs ma mc { V with hs:=V.hs ++ [S] } /\ Za (wF p Fs ha ps.length hc xs ma mc) w w3 /\ ∀k,wF p (Fs ++ [F]) ha' (ps ++ [q]).length hc' xs ma mc k->wF p Fs ha ps.length hc xs ma mc k\/w.heap.size<=k:=by
 have e1:ps.length+1=(ps ++ [q]).length:=by simp
 have e2:(ps.map fun q=>Value.pointer (some ⟨q,0,none⟩)) ++ [.pointer (some ⟨q,0,none⟩)]=(ps ++ [q]).map fun q=>Value.pointer (some ⟨q,0,none⟩):=by simp
 rw[e2,e1]at ho;rw[e1]at hb;have hpw:=Zj h.blk;have hX:Za (fun k=>k=p\/Value.ownBlock (.slice ha ps.length hc)=some k) w w3:=by
  have g1:Za (fun k=>k=p\/Value.ownBlock (.slice ha ps.length hc)=some k) w w1:=Za.of_below hb1;exact(g1.trans (Za.of_grown hg (fun k hk=>.inr hk))).trans (hs.weaken fun k hk=>.inl hk)
 have hX1:Za (fun k=>k=p\/Value.ownBlock (.slice ha ps.length hc)=some k) w1 w3:=(Za.of_grown (S:=fun k=>k=p\/Value.ownBlock (.slice ha ps.length hc)=some k) hg (fun k hk=>.inr hk)).trans (hs.weaken fun k hk=>.inl hk);have hrl : ∀k,Value.ownBlock (.slice ha ps.length hc)=some k->k < w.heap.size:=fun k hk=>(h.hrow.lt k hk).2;have hm2 : ∀k,Value.ownBlock (.slice ha' (ps ++ [q]).length hc')=some k->Value.ownBlock (.slice ha ps.length hc)=some k\/k=w1.heap.size:=fun k hk=>XY (n:=ps.length) (c:=hc) hl hk;have hFlt:=hp.lt hS;have hsz:=hb1.size;obtain⟨u1,u2⟩:=h.hs.push hp hb1 hS hF;have hany : ∀k,zx (Fs ++ [F]) k->k < w1.heap.size:=u1.lt hp;refine⟨⟨hb,?_,?_,?_,h.mls,fun y hy=>?_,fun hk=>?_,fun k hk hb2=>?_,fun k hk hb2=>?_,fun k hk y hy hb2=>?_⟩,hX.weaken (fun k hk=>?_),fun k hk=>?_⟩
 ·refine Ze ho hs (fun b hb2 e=>?_);rw[show b=p from e]at hb2;rcases hm2 p hb2 with h5 | h5
  ·exact ZH h.hrow h.blk n3 h5
  ·omega
 ·refine u1.same hp hX1 (fun k hk hF2=>?_);rcases u2 k hF2 with h5 | h5
  ·rcases hk with e | e
   ·exact h.sp (e ▸ h5)
   ·exact h.sh k h5 e
  ·rcases hk with e | e
   ·omega
   ·have:=hrl k e;omega
 ·refine Ze h.mrow hX (fun b hb2 e=>?_);rcases e with e | e
  ·exact ZH h.mrow h.blk n2 (e ▸ hb2)
  ·exact Qg h.mrow h.hrow n1 b hb2 e
 ·refine Ze (h.bod y hy) hX (fun b hb2 e=>?_);rcases e with e | e
  ·exact ZH (h.bod y hy) h.blk n5 (e ▸ hb2)
  ·exact Qg (h.bod y hy) h.hrow n4 b hb2 e
 ·rcases u2 p hk with h5 | h5
  ·exact h.sp h5
  ·omega
 ·have h7:=hany k hk;rcases hm2 k hb2 with h6 | h6
  ·rcases u2 k hk with h5 | h5
   ·exact h.sh k h5 h6
   ·have:=hrl k h6;omega
  ·omega
 ·rcases u2 k hk with h5 | h5
  ·exact h.sm k h5 hb2
  ·have:=(h.mrow.lt k hb2).2;omega
 ·rcases u2 k hk with h5 | h5
  ·exact h.sb k h5 y hy hb2
  ·have:=((h.bod y hy).lt k hb2).2;omega
 ·rcases hk with e | e
  ·exact .inl e
  ·exact .inr (.inl e)
 ·rcases hk with e | e | e | e | e
  ·exact .inl (.inl e)
  ·rcases hm2 k e with h6 | h6
   ·exact .inl (.inr (.inl h6))
   ·exact .inr (by omega)
  ·exact(u2 k e).imp (fun e=>.inr (.inr (.inl e))) id
  ·exact .inl (.inr (.inr (.inr (.inl e))))
  ·exact .inl (.inr (.inr (.inr (.inr e))))
end
def Z0I (f:Yh)(k:Nat):ZD:=⟨f,(List.range k).map fun(i:Nat)=>Zf.new f ((i:Int)+1),[]⟩
theorem Z9J (f:Yh)(k:Nat): { Z0I f k with hs:=(Z0I f k).hs ++ [Zf.new f ((k:Int)+1)] } = Z0I f (k+1):=by
 unfold Z0I;rw[List.range_succ,List.map_append];rfl
theorem Zdw:(zq.info? 27).map (fun i=>(i.zero,i.size,i.bytes))=some (some (.pointer none),1,8):=by kernel_rfl
theorem Z83 (w:World)(base:Nat)(sa:zA)(sn sc:Nat)(xs:List Value)(hown:w.ownsRow base 27 1 (.slice sa sn sc) sn xs)(xa:zA)(m xc:Nat)(ys:List Value)(hrd:ZW w 1 xa m xc ys)(h1 : ∀u∈ys,u.oneCell'=true)
  (hbytes:(sn+m) * 8<=140737488355328) (hbase:base<=w.heap.size):
  ∃a' c' w',(Builtin.append_ #[139,139] 139 #[.slice sa sn sc,.slice xa m xc]).run zq w = .ok (.slice a' (sn+m) c') w'/\w'.ownsRow base 27 1 (.slice a' (sn+m) c') (sn+m) (xs ++ ys)/\w.grownBy w' (Value.ownBlock (.slice sa sn sc))/\(a'=sa\/a'=some ⟨w.heap.size,0,none⟩):=by
 obtain⟨i,hi,hz0,hz1,hz2⟩:=info_parts Zdw;obtain⟨a',c',w',hr,h2,h3⟩:=Yk w base 139 139 27 i _ 1 8 Tryz.underlying139 hi hz0 hz1 hz2 rfl (by decide) sa sn sc xs hown xa m xc ys hrd h1 (by unfold maxLen;omega) hbytes hbase;have hloc:=Qd (P:=zq) w base 139 139 27 i _ 1 8 Tryz.underlying139 hi hz0 hz1 hz2 sa sn sc _ hown xa m xc _ hrd h1 (by unfold maxLen;omega) hbytes _ _ hr;refine⟨a',c',w',hr,h2,h3,?_⟩;rcases hloc with ⟨n',c'',h⟩ | ⟨n',c'',h⟩
 ·simp only[Value.slice.injEq]at h;exact .inl h.1
 ·simp only[Value.slice.injEq]at h;exact .inr h.1
theorem Zdr (W:World)(q:Nat):ZW (W.alloc (.cells #[.pointer (some ⟨q,0,none⟩)] 27)) 1 (some ⟨W.heap.size,0,none⟩) 1 1 [.pointer (some ⟨q,0,none⟩)]:=
 ZW.of_own (World.ownsRow_lit (base:=W.heap.size) (e:=27) (size:=1) W #[.pointer (some ⟨q,0,none⟩)] 1 (Nat.le_refl _) (by unfold maxLen;omega) rfl)
theorem Us.empty (w:World)(f:Yh){p:Nat}(hb:w.heap[p]? = some (.cells #[.slice none 0 0,.slice none 0 0] 141)):Us Uu 141 27 bfP w p [] [] none 0 [] none 0 (Z0I f 0):=
 ⟨hb,World.ownsRow_nil _ _ _ _,U6.nil w,World.ownsRow_nil _ _ _ _,rfl,fun x hx=>by simp at hx,fun⟨i,F,h,_⟩=>by simp at h,fun k ⟨i,F,h,_⟩=>by simp at h,fun k ⟨i,F,h,_⟩=>by simp at h,fun k ⟨i,F,h,_⟩=>by simp at h⟩
theorem Z71 (f:Yh)(m:Nat)(w:World)(hv:f.valid=true)(h1:1<=m)(h8:m<=8):
  Calls zq 29 #[f.val,.int .i64 (m:Int)] w fun e w' => ∃p F,e = .returned (.tuple #[.pointer (some ⟨p,0,none⟩),.int .i64 0])/\Vu w' p F (Z0I f m)/\(∀k,F k->w.heap.size<=k)/\Below w.heap.size w w':=by
 have t1:decide ((m:Int) < 1)=false:=by simp;omega
 have t2:decide ((8:Int) < (m:Int))=false:=by simp;omega
 have b0:=zB w (zF f 23);have X0:=zH (Z9 w (zF f 23));have B0:=zH b0;have HV:=zH hv;have HM:=zH (show 1<=m/\m<=8 from⟨h1,h8⟩);clear b0 hv h1 h8;unfold Yh.val;go_enter Tryz.func29,Tryz.ntmps29;go_upto_region 1 with fail;obtain⟨pf,hpf⟩:=zX (w.heap.size);rw[hpf.out]at X0 ⊢;generalize w.alloc (zF f 23)=W0 at *;have c0:=Z6 X0.out 0 (.int .i64 f.rings) rfl;have c1:=Z6 X0.out 1 (.int .i64 f.sectors) rfl;have c2:=Z6 X0.out 2 (.int .i64 f.wide) rfl;go_wp2_with fail;refine(Vb f.rings f.sectors f.wide _).mono ?_;rintro e w1 ⟨rfl,b1⟩;rw[show Yh.valid ⟨f.rings,f.sectors,f.wide⟩=true from HV.out];have X1:=zH (Z7 b1 X0.out);have B1:=zH (B0.out.trans (b1.mono B0.out.size));clear b1 c0 c1 c2 t1 t2;go_upto_region 4 with fail;have b2:Below w1.heap.size w1 (w1.alloc (.cells #[.slice none 0 0,.slice none 0 0] 141)):=zB _ _;have E0:=Us.empty _ f (Z9 w1 (.cells #[.slice none 0 0,.slice none 0 0] 141));have X2:=zH (Z7 b2 X1.out);have B2:=zH (B1.out.trans (b2.mono B1.out.size));have PW:=zH (show w.heap.size<=w1.heap.size from B1.out.size);have NE:=zH (show pf < w1.heap.size from Zj X1.out);obtain⟨p,hp⟩:=zX (w1.heap.size);rw[hp.out]at E0 PW NE ⊢;have EE:=zH E0;clear b2 E0 X1 B1;generalize w1.alloc (.cells #[.slice none 0 0,.slice none 0 0] 141)=W2 at *;go_wp2_with fail;go_loopw [24] (fun iv wr=>∃(k:Nat) (ps:List Nat) (Fs:List (Nat->Prop)) (ha:zA) (hc:Nat),iv = .int .i64 (k:Int)/\k<=m/\Hid (Us Uu 141 27 bfP wr p ps Fs ha hc [] none 0 (Z0I f k))/\Hid (Below w.heap.size w wr)/\Hid (wr.heap[pf]? = some (.cells #[.int .i64 f.rings,.int .i64 f.sectors,.int .i64 f.wide] 23))/\Hid (∀j,wF p Fs ha ps.length hc [] none 0 j->p<=j)) (fun iv _=>m - (intOf iv).toNat)
 case atStart=>
  refine⟨0,[],[],none,0,rfl,Nat.zero_le _,EE,B2,X2,zH (fun j hj=>?_)⟩;rcases hj with e | e | ⟨i,F,e,_⟩ | e | ⟨y,hy,_⟩
  ·rw[e];exact Nat.le_refl _
  ·simp[Value.ownBlock]at e
  ·simp at e
  ·simp[Value.ownBlock]at e
  ·simp at hy
 case round=>
  obtain⟨k,ps,Fs,ha,hc,rfl,hk,HA,HB,HX,HF⟩:=hrel;by_cases hlt:k < m
  ·have t1:decide ((k:Int) < (m:Int))=true:=by simp;omega
   have E1:=zH (show wrap64 ((k:Int)+1)=(k:Int)+1 by have:=HM.out;unfold wrap64;omega);have e1:=E1.out;have c0:=Z6 HX.out 0 (.int .i64 f.rings) rfl;have c1:=Z6 HX.out 1 (.int .i64 f.sectors) rfl;have c2:=Z6 HX.out 2 (.int .i64 f.wide) rfl;go_wp2_with fail;refine(Z4O f ((k:Int)+1) wr).mono ?_;rintro e W3 ⟨hr | ⟨_,_,q,mb,sp,rfl,hq,hqn⟩,b3⟩
   ·exact absurd ⟨HV.out,by omega,by have:=HM.out;omega⟩ hr.1
   have HQ:=zH (show Uu W3 q (fun j=>Yd q mb (fun _=>none) (fun k=>k=sp) j) (Zf.new f ((k:Int)+1))from⟨mb,sp,_,_,hq,fun j=>Iff.rfl⟩);have HQN:=zH hqn;have B3:=zH b3;have b4:Below W3.heap.size W3 (W3.alloc (.cells #[.pointer (some ⟨q,0,none⟩)] 27)):=zB _ _;have B4:=zH (b3.trans (b4.mono b3.size));have HQ4:=zH (Zl.same HQ.out (X:=fun _=>False) (Za.of_below b4) (fun _ e=>e.elim));have hby:(ps.length+1) * 8<=140737488355328:=by
    have h5:=HA.out.nh;have h6:(Z0I f k).hs.length=k:=by simp[Z0I]
    have:=HM.out;omega
   obtain⟨a7,c7,V7,hrun,ho,hg,hl⟩:=Z83 (W3.alloc (.cells #[.pointer (some ⟨q,0,none⟩)] 27)) 0 ha ps.length hc _ (Zd HA.out.hrow B4.out) (some ⟨W3.heap.size,0,none⟩) 1 1 _ (Zdr W3 q) (by intro u hu;simp at hu;subst hu;rfl) hby (Nat.zero_le _);have HR:=zH hrun;have HO:=zH ho;have HG:=zH hg;have HL:=zH hl;have P4:=Z7 B4.out HA.out.blk;have P7:=zH (Zc hg P4 (Ne.symm (ZH HA.out.hrow HA.out.blk (by decide))));have X7:=zH (Zc hg (Z7 B4.out HX.out) (fun e=>by have h5:=(HA.out.hrow.lt pf e.symm);have h6:=HF.out pf (.inr (.inl e.symm));have:=NE.out;omega));have d0:=Z6 (Z7 B3.out HA.out.blk) 0 (.slice ha ps.length hc) rfl;have d1:=Z6 P7.out 0 (.slice ha ps.length hc) rfl;have d2:=Zq P7.out 0;clear hq hqn b3 b4 hrun ho hg hl P4 c0 c1 c2 t1 e1;go_wp2_with (refine YG rfl _ _ _ rfl _ _ _ rfl rfl HR.out ?_);go_roundw
   case rel=>
    have P8:(V7.setCell ⟨p,0,none⟩ (.slice a7 (ps.length+1) c7)).heap[p]? = some (.cells (bfP (.slice a7 (ps.length+1) c7) (.slice none 0 0)) 141 (0,0)):=ZI P7.out 0 _;have s8:=JE V7 p 0 (.slice a7 (ps.length+1) c7);obtain⟨u1,u2,u3⟩:=HA.out.pushH Zl (by decide) (by decide) (by decide) (by decide) (by decide) B4.out HQ4.out HQN.out (ha':=a7) (hc':=c7) HO.out HG.out HL.out P8 s8;rw[Z9J]at u1;refine⟨k+1,ps ++ [q],Fs ++ [fun j=>Yd q mb (fun _=>none) (fun k=>k=sp) j],a7,c7,by go_num,by omega,zH u1,zH (u2.below HB.out HB.out.size (fun j hj=>Nat.le_trans PW.out (HF.out j hj))),zH ((s8.block pf (Zj X7.out) (by have:=NE.out;omega)).trans X7.out),zH (fun j hj=>?_)⟩;rcases u3 j hj with h5 | h5
    ·exact HF.out j h5
    ·have:=Zj HA.out.blk;omega
   case measure=>simp[intOf];omega
  ·have hkm:k=m:=by omega
   subst hkm;have t1:decide ((k:Int) < (k:Int))=false:=by simp
   have FIN:=zH (show Vu wr p (wF p Fs ha ps.length hc [] none 0) (Z0I f k)from⟨ps,Fs,ha,hc,[],none,0,HA.out,fun j=>Iff.rfl⟩);go_wp2_with fail;go_returns;exact⟨p,_,rfl,FIN.out,fun j hj=>Nat.le_trans PW.out (HF.out j hj),HB.out⟩
theorem Z72 (f:Yh)(n:Int)(w:World)(hno : ¬(1<=n/\n<=8/\f.valid=true)):
  Calls zq 29 #[f.val,.int .i64 n] w fun e w'=>e = .returned (.tuple #[.pointer none,.int .i64 1])/\Below w.heap.size w w':=by
 have b0:=zB w (zF f 23);have X0:=zH (Z9 w (zF f 23));have B0:=zH b0;have HN:=zH hno;clear b0 hno;unfold Yh.val;go_enter Tryz.func29,Tryz.ntmps29;go_upto_region 1 with fail;obtain⟨pf,hpf⟩:=zX (w.heap.size);rw[hpf.out]at X0 ⊢;generalize w.alloc (zF f 23)=W0 at *;by_cases h1:n < 1
 ·have t1:decide (n < 1)=true:=by simp[h1]
  clear h1;go_wp2_with fail;go_returns;exact⟨rfl,B0.out⟩
 have t1:decide (n < 1)=false:=by simp;omega
 by_cases h2:8 < n
 ·have t2:decide (8 < n)=true:=by simp[h2]
  clear h1 h2;go_wp2_with fail;go_returns;exact⟨rfl,B0.out⟩
 have t2:decide (8 < n)=false:=by simp;omega
 have HV:=zH (show f.valid=false by
  cases hv:f.valid with
  | false=>rfl
  | true=>exact absurd ⟨by omega,by omega,hv⟩ HN.out)
 clear h1 h2;have c0:=Z6 X0.out 0 (.int .i64 f.rings) rfl;have c1:=Z6 X0.out 1 (.int .i64 f.sectors) rfl;have c2:=Z6 X0.out 2 (.int .i64 f.wide) rfl;go_wp2_with fail;refine(Vb f.rings f.sectors f.wide _).mono ?_;rintro e w1 ⟨rfl,b1⟩;rw[show Yh.valid ⟨f.rings,f.sectors,f.wide⟩=false from HV.out];have B1:=zH (B0.out.trans (b1.mono B0.out.size));clear b1 c0 c1 c2 t1 t2;go_wp2_with fail;go_returns;exact⟨rfl,B1.out⟩
theorem ZaY {k:Nat}(h:k<=1000000000):Ym (k:Int):=by unfold Ym far;omega
theorem Z43 {k:Nat}{t:zU}(hk:k<=t.length)(h:k<=1000000000):VP Xo (XE (k:Int) ++ t)=some (k,t):=by
 unfold VP;rw[QT (ZaY h)];simp only;rw[if_pos ⟨by omega,by omega⟩,Int.toNat_natCast]
theorem Zad {c:List Int}{k:Nat}{z:Int}(h:c[k]? = some z):ZA (c.drop k)=XE z ++ ZA (c.drop (k+1)):=by
 obtain⟨hk,e⟩:=List.getElem?_eq_some_iff.1 h;rw[List.drop_eq_getElem_cons hk,e];simp[ZA]
theorem Z9D {c:List Int}{k:Nat}{z:Int}(h:c[k]? = some z)(hs:Ym z):Xo (ZA (c.drop k))=some (z,ZA (c.drop (k+1))):=by
 rw[Zad h];exact QT hs _
theorem Zd2 (c:List Int):Xo (Xa.ask c).body=some (1,XE (c.length:Int) ++ ZA c):=QT (by unfold Ym far;omega) _
theorem ZbB (l:List Z8):Xo (Xa.gift l).body=some (2,XE (l.length:Int) ++ Yo l):=QT (by unfold Ym far;omega) _
theorem Zd3 {c:List Int}(h:c.length<=1000000000):VP Xo (XE (c.length:Int) ++ ZA c)=some (c.length,ZA c):=Z43 (Z4o c) h
theorem Z8u {l:List Z8}{k:Nat}{x:Z8}(h:l[k]? = some x):Yo (l.drop k)=XE ((Y7 x).length:Int) ++ (Y7 x ++ Yo (l.drop (k+1))):=by
 obtain⟨hk,e⟩:=List.getElem?_eq_some_iff.1 h;rw[List.drop_eq_getElem_cons hk,e];simp[Yo]
theorem Z5t {l:List Z8}{k:Nat}{x:Z8}(h:l[k]? = some x)(hx:(Y7 x).length<=1000000000):VP Xo (Yo (l.drop k))=some ((Y7 x).length,Y7 x ++ Yo (l.drop (k+1))):=by
 rw[Z8u h];exact Z43 (by rw[List.length_append];omega) hx
theorem ZbL (z:Int):1<=(XE z).length:=by
 have h:=Z4o [z];rw[Jy]at h;exact h
theorem Z5u: ∀l:List Z8,l.length<=(Yo l).length
 | []=>Nat.zero_le _
 | x :: l=>by
  have h1:=Z5u l
  have h2:=ZbL ((Y7 x).length:Int)
  show _<=((XE ((Y7 x).length:Int) ++ Y7 x) ++ Yo l).length
  rw[List.length_append,List.length_append,List.length_cons]
  omega
theorem ZbC {l:List Z8}(h:l.length<=1000000000):VP Xo (XE (l.length:Int) ++ Yo l)=some (l.length,Yo l):=Z43 (Z5u l) h
theorem Z2M (bA bC bH bG:Nat)(l:zU)(a:zA)(n c:Nat)(w:World)(R:World->Prop)(h:Yg w a n c l)
  (hrun : ∀rp W,w.heap.size < rp->Below w.heap.size w W->RdP W rp l a n c->W.heap[w.heap.size]? = some (.cells #[.bool false] 4)->
   Calls zq 145 #[.pointer (some ⟨rp,0,none⟩),.pointer (some ⟨bA,0,none⟩),.pointer (some ⟨bC,0,none⟩),.pointer (some ⟨bH,0,none⟩),.pointer (some ⟨bG,0,none⟩)] W fun e w'=>e = .returned (.tuple #[])/\w'.heap[w.heap.size]? = some (.cells #[.bool false] 4) /\ ∀W4,Za (fun k=>k=w.heap.size) w' W4->W4.heap[w.heap.size]? = some (.cells #[.bool true] 4)->R W4):
  Calls zq 129 #[.slice a n c,.func (.func 145) #[] #[.pointer (some ⟨bA,0,none⟩),.pointer (some ⟨bC,0,none⟩),.pointer (some ⟨bH,0,none⟩),.pointer (some ⟨bG,0,none⟩)]] w fun e w'=>e = .returned (.bool true)/\R w':=by
 have hmf : ∀(fn:Fn) (first cap:ZV) (w:World),(Instr.makeFunc fn first cap).run zq w = .ok (.func fn first cap) w:=fun _ _ _ _=>rfl;have HR:=zH hrun;clear hrun;go_enter_defers Tryz.func129,Tryz.ntmps129;go_wp2_with fail;obtain⟨p,hp⟩:=zX (w.heap.size);obtain⟨rp,hrp⟩:=zX (w.heap.size+1);have b2:Below w.heap.size w ((w.alloc (.cells #[.bool false] 4)).alloc (.cells #[.slice a n c] 236)):=(zB _ _).alloc (by simp) _;have g1:((w.alloc (.cells #[.bool false] 4)).alloc (.cells #[.slice a n c] 236)).heap[p]? = some (.cells #[.bool false] 4):=by rw[<-hp.out];exact Zb _ _ _ _ (Z9 _ _)
 have g2:((w.alloc (.cells #[.bool false] 4)).alloc (.cells #[.slice a n c] 236)).heap[rp]? = some (.cells #[.slice a n c] 236):=by rw[<-hrp.out];exact Zv _ _ _ (by simp)
 rw[hrp.out,hp.out];generalize (w.alloc (.cells #[.bool false] 4)).alloc (.cells #[.slice a n c] 236)=w2 at *;refine(HR.out rp w2 (by have:=hrp.out;omega) b2 ⟨g2,Yg.below h b2⟩ (by rw[hp.out];exact g1)).mono ?_;rintro e w3 ⟨rfl,k1,K4⟩;rw[hp.out]at k1;have KR:=zH K4;clear K4;have c1:w3.cell? ⟨p,0,none⟩=some (.bool false):=Z6 k1 0 _ rfl;have f1:=Zq k1 0;have k2:=heap_setCell_same w3 p 0 _ _ (.bool true) k1;have c2:(w3.setCell ⟨p,0,none⟩ (.bool true)).cell? ⟨p,0,none⟩=some (.bool true):=Z6 k2 0 _ rfl;have FIN:Hid (R (w3.setCell ⟨p,0,none⟩ (.bool true))):=zH (KR.out _ (by rw[hp.out];exact Vm w3 p 0 (.bool true)) (by rw[hp.out];exact k2));go_wp2_with fail;refine leaves_cons (f:=179) (args := #[.pointer (some ⟨p,0,none⟩)]) (by simp) (by simp[go_sem]) ?_;refine(Z4w p _).mono ?_;rintro e u' w'' ⟨rfl,rfl,rfl⟩;simp[Leaves,settle,results,Tryz.results129,go_sem];exact⟨.bool true,by rw[c2],rfl,FIN.out⟩
theorem Z1Z (rp:Nat)(x t:zU)(k:Nat)(a:zA)(n c:Nat)(w:World)(h:RdP w rp (x ++ t) a n c)(hk:x.length=k)(hs:k<=1000000000):
  Calls zq 148 #[.pointer (some ⟨rp,0,none⟩),.int .i64 (k:Int)] w fun e w' => ∃a1 c1 a2 n2 c2,e = .returned (.slice a1 k c1)/\Yg w' a1 k c1 x/\RdP w' rp t a2 n2 c2/\Za (fun k=>k=rp) w w'/\(∀W,Yg W a n c (x ++ t)->Yg W a2 n2 c2 t):=by
 have hn:n=k+t.length:=by have:=h.r.1;rw[List.length_map,List.length_append,hk]at this;simpa using this.symm
 have hkn:k<=n:=by omega
 have HKN:=zH hkn;have c0:w.cell? ⟨rp,0,none⟩=some (.slice a n c):=Z6 h.e 0 _ rfl;have f0:=Zq h.e 0;have hr:=zH h.r;have HH:=zH h;clear h;have hlt:decide ((k:Int) < 0)=false:=by simp
 have hgt:decide (n < k)=false:=by simp;omega
 have hgt2:decide ((n:Int) < (k:Int))=false:=by simp;omega
 have HK:=zH hk;have EN:=zH hn;clear hk hn hs hkn;go_enter Tryz.func148,Tryz.ntmps148;go_wp2_with (first
  |(refine Z1o _ rfl _ _ none rfl _ _ _ _ rfl hr.out k n (.inr ⟨_,.i64,rfl,by go_num⟩) (.inl ⟨rfl,rfl⟩) HKN.out (Nat.le_refl _) ?_;intro sb hsb;have HSB:=zH hsb;clear hsb)
  |(refine Z2G _ rfl _ none _ rfl _ _ _ _ rfl hr.out 0 k (.inl ⟨rfl,rfl⟩) (.inr ⟨_,.i64,rfl,by go_num⟩) (Nat.zero_le _) HKN.out ?_;intro sa hsl;have HSL:=zH hsl;clear hsl))
 go_ret;have hS:=Vm w rp 0 (.slice sb (n - k) (c - k));have he:=heap_setCell_same w rp 0 _ _ (.slice sb (n - k) (c - k)) HH.out.e;have hcell : ∀v ∈ #[Value.slice a n c],∀x,v≠Zs x:=by intro v hv x;simp at hv;subst hv;intro hh;cases hh
 have e1:Yg w sa k c x:=by
  have h1:=HSL.out;rw[List.drop_zero,Nat.sub_zero,Nat.sub_zero]at h1;rw[List.take_append_of_le_length (by rw[HK.out];exact Nat.le_refl _),List.take_of_length_le (by rw[HK.out];exact Nat.le_refl _)]at h1;exact h1
 have e3 : ∀W,Yg W a n c (x ++ t)->Yg W sb (n - k) (c - k) t:=fun W hW=>by
  have h1:=HSB.out W hW;rw[show(x ++ t).drop k=t by rw[<-HK.out,List.drop_left],List.take_of_length_le (by rw[EN.out];omega)]at h1;exact h1
 have e2:=e3 w HH.out.r;exact⟨sa,c,sb,n - k,c - k,rfl,Z1q e1 hS (fun h0=>VE HH.out.e hcell e1 h0),⟨he,Z1q e2 hS (fun h0=>VE HH.out.e hcell e2 h0)⟩,hS,e3⟩
theorem Uh (f:Yh)(x:Z8)(a:zA)(n c:Nat)(w:World)(hv:f.valid=true)(hf:Zg f x=true)(h:Yg w a n c (Y7 x)):
  Calls zq 75 #[.agg #[.int .i64 f.rings,.int .i64 f.sectors,.int .i64 f.wide],.slice a n c] w fun e w' => ∃(sa:zA) (sc:Nat),e = .returned (.tuple #[.agg (Z5 x sa sc),.int .i64 0])/\w'.ownsRow w.heap.size 3 1 (.slice sa x.strokes.length sc) x.strokes.length (x.strokes.map Yq)/\Below w.heap.size w w':=by
 have hl:=(Q7 hv hf);refine(Z2X f (Y7 x) a n c w h (by omega)).mono ?_;rintro e w1 (⟨m,sa,sc,hd,rfl,ho,b⟩ | ⟨hd,rfl,b⟩)
 ·rw[Z2t hv hf]at hd;cases hd;exact⟨sa,sc,rfl,ho,b⟩
 ·rw[Z2t hv hf]at hd;cases hd
theorem Ud (rp:Nat)(l t:zU)(k:Nat)(a:zA)(n c:Nat)(w:World)(h:RdP w rp l a n c)(hn:VP Xo l=some (k,t)):
  Calls zq 147 #[.pointer (some ⟨rp,0,none⟩)] w fun e w' => ∃a2 n2 c2,e = .returned (.int .i64 (k:Int))/\RdP w' rp t a2 n2 c2/\Za (fun k=>k=rp) w w'/\(∀W,Yg W a n c l->Yg W a2 n2 c2 t):=by
 refine(Z42 rp l a n c w h).mono ?_;rintro e w1 (⟨k',t',a2,n2,c2,h1,_,rfl,h2,h3⟩ | ⟨h1,_⟩)
 ·rw[hn]at h1;cases h1;exact⟨a2,n2,c2,rfl,h2,h3⟩
 ·rw[hn]at h1;cases h1
theorem QL {op:Oper}{a:Act}{w:World}{K:Act->World->Prop}{Q:Exit->Act->World->Prop}(ho:op.op = .alloc 47)
  (h:K (a.put op.dst (.pointer (some ⟨w.heap.size,0,none⟩))) (w.alloc (.cells (Z5 Zh none 0) 47))):op.wp zq a w K Q:=by
 have e1:(Instr.alloc 47 true (.tuple #[])).run zq w = .ok (.pointer (some ⟨w.heap.size,0,none⟩)) (w.alloc (.cells (Z5 Zh none 0) 47)):=by kernel_rfl
 unfold Oper.wp execOp;simp[ho,e1,Result.andThen];exact h
theorem UY (n:Z8)(sa:zA)(sc:Nat): ∀v∈Z5 n sa sc,∀x,v≠Zs x:=by
 intro v hv x hh;subst hh;simp[Z5,Z8.cells,Zs]at hv
structure US (w wr:World)(rp bA bG bH hq B:Nat)(OH:ZV)(L:zU)(l:List Z8)(k:Nat)(a:zA)(n cc:Nat)(ga:zA)(gc:Nat)(es:List LN):Prop where
 r:RdP wr rp L a n cc
 r0:Yg w a n cc L
 eA:wr.heap[bA]? = some (.cells #[.bool false] 4)
 eG:wr.heap[bG]? = some (.cells #[.slice ga k gc] 24)
 eH:wr.heap[bH]? = some (.cells #[.pointer (some ⟨hq,0,none⟩)] 27)
 eF:wr.heap[hq]? = some (.cells OH 109)
 own:wr.ownsRow B 47 19 (.slice ga k gc) k (ZB es)
 eo:Z0Z wr B es
 en:es.map LN.n=l.take k
 s:Za (fun j=>j=rp\/j=bA\/j=bG) w wr
theorem Zb3 {w:World}{a:zA}{n c:Nat}{l:zU}(h:Yg w a n c l)(h0:0 < n): ∀b off,a=some ⟨b,off,none⟩->b < w.heap.size:=by
 intro b off e;obtain⟨b',off',e',hat⟩:=ZW.at h h0;rw[e]at e';cases e';have hl:(l.map Zs).length=n:=h.1.trans (Nat.mul_one n);have h1:=hat 0 _ (List.getElem?_eq_getElem (by omega));cases hq:w.heap[b]? with
 | none=>simp[World.cell?,hq]at h1
 | some o=>exact(Array.getElem?_eq_some_iff.1 hq).1
section
variable {w wr W':World}{rp bA bG bH hq B:Nat}{OH:ZV}{L L':zU}{l:List Z8}{k:Nat}{a a':zA}{n cc n' cc':Nat}{ga:zA}{gc:Nat}{es:List LN}
theorem US.rd (h:US w wr rp bA bG bH hq B OH L l k a n cc ga gc es)(hs:Za (fun j=>j=rp) wr W')(hr:RdP W' rp L' a' n' cc')(h0 : ∀W,Yg W a n cc L->Yg W a' n' cc' L'):US w W' rp bA bG bH hq B OH L' l k a' n' cc' ga gc es:=by
 have hb : ∀{b:Nat} {c:ZV} {t:TypeId},wr.heap[b]? = some (.cells c t (0,0))->t≠236->W'.heap[b]? = some (.cells c t (0,0)):=fun {b c t} hb ht=>by
  refine(hs.block b (Zj hb) (fun e=>?_)).trans hb;rw[show b=rp from e,h.r.e]at hb;cases hb;exact ht rfl
 exact⟨hr,h0 w h.r0,hb h.eA (by decide),hb h.eG (by decide),hb h.eH (by decide),hb h.eF (by decide),Ze h.own hs (fun b h1 e=>ZH h.own h.r.e (by decide) ((show b=rp from e) ▸ h1)),
  fun x hx=>Ze (h.eo x hx) hs (fun b h1 e=>ZH (h.eo x hx) h.r.e (by decide) ((show b=rp from e) ▸ h1)),h.en,h.s.trans (hs.weaken fun j e=>.inl e)⟩
theorem US.below (h:US w wr rp bA bG bH hq B OH L l k a n cc ga gc es)(hb:Below wr.heap.size wr W'):US w W' rp bA bG bH hq B OH L l k a n cc ga gc es:=
 ⟨h.r.same (S:=fun _=>False) (Za.of_below hb) (fun e=>e) (fun _ _ _ _ e=>e),h.r0,Z7 hb h.eA,Z7 hb h.eG,Z7 hb h.eH,Z7 hb h.eF,Zd h.own hb,h.eo.below hb,h.en,h.s.trans (Za.of_below hb)⟩
theorem US.row {p6:Nat}{c:ZV}(h:US w wr rp bA bG bH hq B OH L l k a n cc ga gc es)(hp:wr.heap[p6]? = some (.cells c 47))(hc : ∀v∈c,∀x,v≠Zs x)(hg:wr.grownBy W' (some p6))(hn:Value.ownBlock (.slice ga k gc)≠some p6)(hw:w.heap.size<=p6):
  US w W' rp bA bG bH hq B OH L l k a n cc ga gc es:=by
 have hs:Za (fun j=>j=p6) wr W':=Za.of_grown hg (fun j e=>(Option.some.inj e).symm);have hb : ∀{b:Nat} {c:ZV} {t:TypeId},wr.heap[b]? = some (.cells c t (0,0))->t≠47->W'.heap[b]? = some (.cells c t (0,0)):=fun {b c t} hb ht=>by
  refine(hs.block b (Zj hb) (fun e=>?_)).trans hb;rw[show b=p6 from e,hp]at hb;cases hb;exact ht rfl
 have hrp : ¬rp=p6:=fun e=>by
  have h1:=h.r.e;rw[e,hp]at h1;cases h1
 exact⟨h.r.same hs hrp (fun h0 b off e hb=>VE hp hc h.r.r h0 b off e hb),h.r0,hb h.eA (by decide),hb h.eG (by decide),hb h.eH (by decide),hb h.eF (by decide),Ze h.own hs (fun b h1 e=>hn ((show b=p6 from e) ▸ h1)),
  fun x hx=>Ze (h.eo x hx) hs (fun b h1 e=>ZH (h.eo x hx) hp (by decide) ((show b=p6 from e) ▸ h1)),h.en,h.s.trans2 hs (fun j e=>.inr ((show j=p6 from e) ▸ hw))⟩
theorem US.ask (h:US w wr rp bA bG bH hq B OH L l k a n cc ga gc es):US w (wr.setCell ⟨bA,0,none⟩ (.bool false)) rp bA bG bH hq B OH L l k a n cc ga gc es:=by
 have s2:=JE wr bA 0 (.bool false);have hc : ∀v ∈ #[Value.bool false],∀x,v≠Zs x:=by intro v hv x;simp at hv;subst hv;intro hh;cases hh
 have hk2 : ∀{b:Nat} {c:ZV} {t:TypeId},wr.heap[b]? = some (.cells c t (0,0))->t≠4->(wr.setCell ⟨bA,0,none⟩ (.bool false)).heap[b]? = some (.cells c t (0,0)):=fun {b c t} hb ht=>by
  refine(s2.block b (Zj hb) (fun e=>?_)).trans hb;rw[show b=bA from e,h.eA]at hb;cases hb;exact ht rfl
 have hns : ¬(fun j=>j=bA) rp:=fun e=>by
  have h2:=h.r.e;rw[show rp=bA from e,h.eA]at h2;cases h2
 exact⟨h.r.same s2 hns (fun h0 b off e hb=>VE h.eA hc h.r.r h0 b off e hb),h.r0,ZI h.eA 0 _,hk2 h.eG (by decide),hk2 h.eH (by decide),hk2 h.eF (by decide),Ze h.own s2 (fun b h2 e=>ZH h.own h.eA (by decide) ((show b=bA from e) ▸ h2)),
  fun x hx=>Ze (h.eo x hx) s2 (fun b h2 e=>ZH (h.eo x hx) h.eA (by decide) ((show b=bA from e) ▸ h2)),h.en,h.s.trans (s2.weaken fun j e=>.inr (.inl e))⟩
theorem US.push {wn V:World}{x:Z8}{sa ga':zA}{sc gc':Nat}(h:US w wr rp bA bG bH hq B OH L l k a n cc ga gc es)(hB:w.heap.size<=B)(hx:l[k]? = some x)(so:wr.ownsRow B 3 1 (.slice sa x.strokes.length sc) x.strokes.length (x.strokes.map Yq))(hb:Below wr.heap.size wr wn)
  (ho:V.ownsRow B 47 19 (.slice ga' (k+1) gc') (k+1) (ZB es ++ x.cells sa sc)) (hg:wn.grownBy V (Value.ownBlock (.slice ga k gc))):
  US w (V.setCell ⟨bG,0,none⟩ (.slice ga' (k+1) gc')) rp bA bG bH hq B OH L l (k+1) a n cc ga' gc' (es ++ [⟨x,sa,sc⟩]):=by
 have h1:=h.below hb;have s1:Za (fun j=>Value.ownBlock (.slice ga k gc)=some j) wn V:=Za.of_grown hg (fun j e=>e);have hk : ∀{b:Nat} {c:ZV} {t:TypeId},wn.heap[b]? = some (.cells c t (0,0))->47≠t->V.heap[b]? = some (.cells c t (0,0)):=fun {b c t} hb ht=>(s1.block b (Zj hb) (fun e=>ZH h1.own hb ht e)).trans hb;have hrd:RdP V rp L a n cc:=h1.r.same s1 (fun e=>ZH h1.own h1.r.e (by decide) e) (fun h0 b off e hb=>by
  have h2:=Zb3 h.r0 h0 b off e;have h3:=(h1.own.lt b hb).1;omega)
 have eG:=hk h1.eG (by decide);have s2:=JE V bG 0 (.slice ga' (k+1) gc');have hc : ∀v ∈ #[Value.slice ga k gc],∀x,v≠Zs x:=by intro v hv x;simp at hv;subst hv;intro hh;cases hh
 have hk2 : ∀{b:Nat} {c:ZV} {t:TypeId},V.heap[b]? = some (.cells c t (0,0))->t≠24->(V.setCell ⟨bG,0,none⟩ (.slice ga' (k+1) gc')).heap[b]? = some (.cells c t (0,0)):=fun {b c t} hb ht=>by
  refine(s2.block b (Zj hb) (fun e=>?_)).trans hb;rw[show b=bG from e,eG]at hb;cases hb;exact ht rfl
 have hns : ¬(fun j=>j=bG) rp:=fun e=>by
  have h2:=hrd.e;rw[show rp=bG from e,eG]at h2;cases h2
 refine⟨hrd.same s2 hns (fun h0 b off e hb=>VE eG hc hrd.r h0 b off e hb),h.r0,hk2 (hk h1.eA (by decide)) (by decide),ZI eG 0 _,hk2 (hk h1.eH (by decide)) (by decide),hk2 (hk h1.eF (by decide)) (by decide),?_,?_,?_,?_⟩
 ·rw[Vq];exact Ze ho s2 (fun b h2 e=>ZH ho eG (by decide) ((show b=bG from e) ▸ h2))
 ·intro y hy;have h2 : ∀{z:LN},wn.ownsRow B 3 1 (.slice z.sa z.n.strokes.length z.sc) z.n.strokes.length (z.n.strokes.map Yq)->(V.setCell ⟨bG,0,none⟩ (.slice ga' (k+1) gc')).ownsRow B 3 1 (.slice z.sa z.n.strokes.length z.sc) z.n.strokes.length (z.n.strokes.map Yq):=fun {z} hz=>by
   have h3:=Ze hz s1 (fun b h4 e=>Qg hz h1.own (by decide) b h4 e);exact Ze h3 s2 (fun b h4 e=>ZH h3 eG (by decide) ((show b=bG from e) ▸ h4))
  rcases List.mem_append.1 hy with hy | hy
  ·exact h2 (h1.eo y hy)
  ·rw[List.mem_singleton.1 hy];exact h2 (z:=⟨x,sa,sc⟩) (Zd so hb)
 ·rw[List.map_append,h.en,List.take_add_one,hx];rfl
 ·exact(h1.s.trans2 s1 (fun j e=>.inr (Nat.le_trans hB (h1.own.lt j e).1))).trans (s2.weaken fun j e=>.inr (.inr e))
end
structure Z1j (w wr:World)(rp bA bC B:Nat)(L:zU)(c:List Int)(k:Nat)(a:zA)(n cc:Nat)(ca:zA)(c2:Nat):Prop where
 r:RdP wr rp L a n cc
 r0:Yg w a n cc L
 eA : ∃v,wr.heap[bA]? = some (.cells #[.bool v] 4)
 eC:wr.heap[bC]? = some (.cells #[.slice ca k c2] 37)
 own:wr.ownsRow B 3 1 (.slice ca k c2) k ((c.take k).map Yq)
 s:Za (fun j=>j=rp\/j=bA\/j=bC) w wr
section
variable {w wr W':World}{rp bA bC B:Nat}{L L':zU}{c:List Int}{k:Nat}{a a':zA}{n cc n' cc':Nat}{ca:zA}{c2:Nat}
theorem Z1j.rd (h:Z1j w wr rp bA bC B L c k a n cc ca c2)(hs:Za (fun j=>j=rp) wr W')(hr:RdP W' rp L' a' n' cc')(h0 : ∀W,Yg W a n cc L->Yg W a' n' cc' L'):Z1j w W' rp bA bC B L' c k a' n' cc' ca c2 /\ ∀v,wr.heap[bA]? = some (.cells #[.bool v] 4)->W'.heap[bA]? = some (.cells #[.bool v] 4):=by
 have hb : ∀{b:Nat} {c:ZV} {t:TypeId},wr.heap[b]? = some (.cells c t (0,0))->t≠236->W'.heap[b]? = some (.cells c t (0,0)):=fun {b c t} hb ht=>by
  refine(hs.block b (Zj hb) (fun e=>?_)).trans hb;rw[show b=rp from e,h.r.e]at hb;cases hb;exact ht rfl
 exact⟨⟨hr,h0 w h.r0,h.eA.imp fun v e=>hb e (by decide),hb h.eC (by decide),Ze h.own hs (fun b h1 e=>ZH h.own h.r.e (by decide) ((show b=rp from e) ▸ h1)),h.s.trans (hs.weaken fun j e=>.inl e)⟩,fun v e=>hb e (by decide)⟩
theorem Z1j.below (h:Z1j w wr rp bA bC B L c k a n cc ca c2)(hb:Below wr.heap.size wr W'):Z1j w W' rp bA bC B L c k a n cc ca c2:=
 ⟨h.r.same (S:=fun _=>False) (Za.of_below hb) (fun e=>e) (fun _ _ _ _ e=>e),h.r0,h.eA.imp fun v e=>Z7 hb e,Z7 hb h.eC,Zd h.own hb,h.s.trans (Za.of_below hb)⟩
theorem Z1j.ask {x:Bool}(h:Z1j w wr rp bA bC B L c k a n cc ca c2):Z1j w (wr.setCell ⟨bA,0,none⟩ (.bool x)) rp bA bC B L c k a n cc ca c2/\(wr.setCell ⟨bA,0,none⟩ (.bool x)).heap[bA]? = some (.cells #[.bool x] 4):=by
 obtain⟨v,hA⟩:=h.eA;have s2:=JE wr bA 0 (.bool x);have hc : ∀y ∈ #[Value.bool v],∀x,y≠Zs x:=by intro v hv x;simp at hv;subst hv;intro hh;cases hh
 have hns : ¬(fun j=>j=bA) rp:=fun e=>by
  have h2:=h.r.e;rw[show rp=bA from e,hA]at h2;cases h2
 have hA2:(wr.setCell ⟨bA,0,none⟩ (.bool x)).heap[bA]? = some (.cells #[.bool x] 4):=ZI hA 0 _;refine⟨⟨h.r.same s2 hns (fun h0 b off e hb=>VE hA hc h.r.r h0 b off e hb),h.r0,⟨x,hA2⟩,(s2.block bC (Zj h.eC) (fun e=>?_)).trans h.eC,Ze h.own s2 (fun b h2 e=>ZH h.own hA (by decide) ((show b=bA from e) ▸ h2)),h.s.trans (s2.weaken fun j e=>.inr (.inl e))⟩,hA2⟩;have h2:=h.eC;rw[show bC=bA from e,hA]at h2;cases h2
theorem Z1j.push {wn V:World}{z:Int}{ca':zA}{c2':Nat}{v:Bool}(h:Z1j w wr rp bA bC B L c k a n cc ca c2)(hA:wr.heap[bA]? = some (.cells #[.bool v] 4))(hB:w.heap.size<=B)(hz:c[k]? = some z)(hb:Below wr.heap.size wr wn)
  (ho:V.ownsRow B 3 1 (.slice ca' (k+1) c2') (k+1) ((c.take k).map Yq ++ [.int .i64 z])) (hg:wn.grownBy V (Value.ownBlock (.slice ca k c2))):
  Z1j w (V.setCell ⟨bC,0,none⟩ (.slice ca' (k+1) c2')) rp bA bC B L c (k+1) a n cc ca' c2'/\(V.setCell ⟨bC,0,none⟩ (.slice ca' (k+1) c2')).heap[bA]? = some (.cells #[.bool v] 4):=by
 have h1:=h.below hb;have s1:Za (fun j=>Value.ownBlock (.slice ca k c2)=some j) wn V:=Za.of_grown hg (fun j e=>e);have hk : ∀{b:Nat} {c:ZV} {t:TypeId},wn.heap[b]? = some (.cells c t (0,0))->3≠t->V.heap[b]? = some (.cells c t (0,0)):=fun {b c t} hb ht=>(s1.block b (Zj hb) (fun e=>ZH h1.own hb ht e)).trans hb;have hrd:RdP V rp L a n cc:=h1.r.same s1 (fun e=>ZH h1.own h1.r.e (by decide) e) (fun h0 b off e hb=>by
  have h2:=Zb3 h.r0 h0 b off e;have h3:=(h1.own.lt b hb).1;omega)
 have eC:=hk h1.eC (by decide);have eA:=hk (Z7 hb hA) (by decide);have s2:=JE V bC 0 (.slice ca' (k+1) c2');have hc : ∀v ∈ #[Value.slice ca k c2],∀x,v≠Zs x:=by intro v hv x;simp at hv;subst hv;intro hh;cases hh
 have hns : ¬(fun j=>j=bC) rp:=fun e=>by
  have h2:=hrd.e;rw[show rp=bC from e,eC]at h2;cases h2
 have hA2:(V.setCell ⟨bC,0,none⟩ (.slice ca' (k+1) c2')).heap[bA]? = some (.cells #[.bool v] 4):=(s2.block bA (Zj eA) (fun e=>by
  rw[show bA=bC from e,eC]at eA;cases eA)).trans eA
 refine⟨⟨hrd.same s2 hns (fun h0 b off e hb=>VE eC hc hrd.r h0 b off e hb),h.r0,⟨v,hA2⟩,ZI eC 0 _,?_,?_⟩,hA2⟩
 ·rw[List.take_add_one,hz,List.map_append];exact Ze ho s2 (fun b h2 e=>ZH ho eC (by decide) ((show b=bC from e) ▸ h2))
 ·exact(h1.s.trans2 s1 (fun j e=>.inr (Nat.le_trans hB (h1.own.lt j e).1))).trans (s2.weaken fun j e=>.inr (.inr e))
end
theorem ZbV (rp bA bC bH bG:Nat)(c:List Int)(a:zA)(n cc:Nat)(w:World)(h:RdP w rp (Xa.ask c).body a n cc)(hA:w.heap[bA]? = some (.cells #[.bool false] 4))(hC:w.heap[bC]? = some (.cells #[.slice none 0 0] 37))
  (hc : ∀z∈c,Ym z) (hl:c.length<=1000):
  Calls zq 145 #[.pointer (some ⟨rp,0,none⟩),.pointer (some ⟨bA,0,none⟩),.pointer (some ⟨bC,0,none⟩),.pointer (some ⟨bH,0,none⟩),.pointer (some ⟨bG,0,none⟩)] w fun e w'=>e = .returned (.tuple #[]) /\ ∃a n cc ca c2,Z1j w w' rp bA bC w.heap.size (ZA (c.drop c.length)) c c.length a n cc ca c2/\w'.heap[bA]? = some (.cells #[.bool true] 4):=by
 have D0:=zH (show Z1j w w rp bA bC w.heap.size (Xa.ask c).body c 0 a n cc none 0 from⟨h,h.r,⟨false,hA⟩,hC,World.ownsRow_nil _ _ _ _,Za.refl _ _⟩);have HA:=zH hA;have HS:=zH hc;have HL:=zH hl;clear h hA hC hc hl;go_enter Tryz.func145,Tryz.ntmps145;go_wp2_with fail;refine(Ub rp _ _ 1 a n cc w D0.out.r (Zd2 c)).mono ?_;rintro e w1 ⟨a1,n1,c1,rfl,r1,s1,q1⟩;have D1:=zH (D0.out.rd s1 r1 q1).1;have A1:=zH ((D0.out.rd s1 r1 q1).2 false HA.out);clear D0 HA r1 s1 q1;have x0:=Z6 A1.out 0 (.bool false) rfl;have f0:=Zq A1.out 0;go_upto_region 1 with fail;have D2:=zH (D1.out.ask (x:=true)).1;have A2:=zH (D1.out.ask (x:=true)).2;clear D1 A1 x0 f0;generalize w1.setCell ⟨bA,0,none⟩ (.bool true)=w2 at *;go_wp2_with fail;refine(Ud rp _ _ c.length a1 n1 c1 _ D2.out.r (Zd3 (by have:=HL.out;omega))).mono ?_;rintro e w3 ⟨a3,n3,c3,rfl,r3,s3,q3⟩;have D3:=zH (D2.out.rd s3 r3 q3).1;have A3:=zH ((D2.out.rd s3 r3 q3).2 true A2.out);clear r3 s3 q3 D2 A2;go_wp2_with fail;go_loopw [13] (fun iv wr=>∃(k:Nat) (a:zA) (n cc:Nat) (ca:zA) (c2:Nat),iv = .int .i64 (k:Int)/\k<=c.length/\Hid (Z1j w wr rp bA bC w.heap.size (ZA (c.drop k)) c k a n cc ca c2/\wr.heap[bA]? = some (.cells #[.bool true] 4))) (fun iv _=>c.length - (intOf iv).toNat)
 case atStart=>exact⟨0,a3,n3,c3,none,0,rfl,Nat.zero_le _,zH ⟨D3.out,A3.out⟩⟩
 case round=>
  clear D3 A3;obtain⟨k,a,n,cc,ca,c2,rfl,hk,HK⟩:=hrel;by_cases hlt:k < c.length
  ·have E1:=zH (show wrap64 ((k:Int)+1)=(k:Int)+1 by have:=HL.out;unfold wrap64;omega);have t1:decide (k < c.length)=true:=by simp[hlt]
   have x0:=Z6 HK.out.2 0 (.bool true) rfl;go_upto_region 4 with fail;clear t1 x0;obtain⟨z,hz⟩ : ∃z,c[k]? = some z:=⟨c[k],List.getElem?_eq_getElem hlt⟩;have HZ:=zH hz;clear hz;have b1:Below wr.heap.size wr wr.drew:=(Below.refl _ _).drew;have DB:=zH (HK.out.1.below b1);have AB:=zH (Z7 b1 HK.out.2);clear b1 HK;refine bD 5 (fun W'=>W'.heap[bC]? = some (.cells #[.slice ca k c2] 37)) DB.out.eC (fun hh=>?_);generalize wr.drew=W0 at *;refine bS 0 rfl (.slice ca k c2) (fun W hW=>by have c:=Z6 hW 0 (.slice ca k c2) rfl;go_simp) ?_;refine bW 1 rfl (.pointer (some ⟨rp,0,none⟩)) ?_;refine bR 2 rfl (fun K hK=>?_);go_simp;refine(Ub rp _ _ z a n cc _ DB.out.r (Z9D HZ.out (HS.out z (List.mem_of_getElem? HZ.out)))).mono ?_;rintro e W1 ⟨a4,n4,c4,rfl,r4,s4,q4⟩;have D4:=zH (DB.out.rd s4 r4 q4).1;have A4:=zH ((DB.out.rd s4 r4 q4).2 true AB.out);have hS4:=D4.out.eC;clear r4 s4 q4 DB AB hh;dsimp only;refine bK hK hS4 (fun hh=>?_);clear hK K hS4;refine bR 3 rfl (fun K hK=>?_);rw[if_pos (by kernel_rfl)];refine Q6 (w':=W1.alloc (.cells #[.int .i64 z] 3)) (.slice (some ⟨W1.heap.size,0,none⟩) 1 1) (by kernel_rfl) ?_;have b5:Below W1.heap.size W1 (W1.alloc (.cells #[.int .i64 z] 3)):=zB _ _;have L5:=zH (Z27 W1 z);have B5:=zH b5;have hS5:=Z7 b5 hh;clear b5 hh;obtain⟨p5,hp5⟩:=zX (W1.heap.size);rw[hp5.out]at L5 ⊢;generalize W1.alloc (.cells #[.int .i64 z] 3)=W5 at *;refine bK hK hS5 (fun hh=>?_);clear hK K hS5;refine bR 4 rfl (fun K hK=>?_);rw[if_pos (by kernel_rfl)];obtain⟨a7,c7,V7,hrun,ho,hg⟩:=Z6M W5 w.heap.size ca k c2 _ (Zd D4.out.own B5.out) (some ⟨p5,0,none⟩) 1 1 _ L5.out (by intro u hu;simp at hu;subst hu;rfl) (by have:=HL.out;omega) (Nat.le_trans D4.out.s.size B5.out.size);refine ZR _ _ _ rfl _ _ _ rfl rfl hrun ?_;clear hrun;have D8:=zH (D4.out.push A4.out (Nat.le_refl _) HZ.out B5.out ho hg);have hS7:=Zc hg hh (Ne.symm (ZH (Zd D4.out.own B5.out) hh (by decide)));clear ho hg hh;refine bK hK hS7 (fun hh=>?_);clear hK K hS7;refine bL rfl (fun K hK=>?_)
   have hce:=Z6 hh 0 (.slice ca k c2) rfl;have hfz:=Zq hh 0;clear hh;go_simp;refine hK.out _ _ ?_;clear hK K hce hfz;refine bE ?_;have e1:=E1.out;go_wp2;go_roundw
   case rel=>exact⟨k+1,a4,n4,c4,a7,c7,by go_num,by omega,D8⟩
   case measure=>clear e1;rw[E1.out];simp[intOf];omega
  ·have hkm:k=c.length:=by omega
   subst hkm;have t1:decide (c.length < c.length)=false:=by simp
   go_wp2;go_end0;exact⟨rfl,a,n,cc,ca,c2,HK.out⟩
structure Z9b (w wr W:World)(rp bA bG bH hq B:Nat)(OH:ZV)(L:zU)(l:List Z8)(k:Nat)(a:zA)(n cc:Nat)(ga:zA)(gc:Nat)(es:List LN)(p6:Nat)(x:Z8)(sa:zA)(sc:Nat):Prop where
 st:US w W rp bA bG bH hq B OH L l k a n cc ga gc es
 nt:W.heap[p6]? = some (.cells (Z5 x sa sc) 47)
 so:W.ownsRow B 3 1 (.slice sa x.strokes.length sc) x.strokes.length (x.strokes.map Yq)
 sz:wr.heap.size<=W.heap.size
theorem ZdF {A1 A2 A3 A4 A5 A6 A7 A8 A9:Type}{P T:A1->A2->A3->A4->A5->A6->A7->A8->A9->Prop}{G:Prop}
  (h1:(∀x1 x2 x3 x4 x5 x6 x7 x8 x9,P x1 x2 x3 x4 x5 x6 x7 x8 x9->T x1 x2 x3 x4 x5 x6 x7 x8 x9)->G) (h2 : ∀x1 x2 x3 x4 x5 x6 x7 x8 x9,P x1 x2 x3 x4 x5 x6 x7 x8 x9->T x1 x2 x3 x4 x5 x6 x7 x8 x9):G:=h1 h2
theorem Zae (f:Yh)(rp bA bC bH bG hq:Nat)(OH:ZV)(l:List Z8)(a:zA)(n cc:Nat)(w:World)(h:RdP w rp (Xa.gift l).body a n cc)(hA:w.heap[bA]? = some (.cells #[.bool false] 4))(hG:w.heap[bG]? = some (.cells #[.slice none 0 0] 24))
  (hH:w.heap[bH]? = some (.cells #[.pointer (some ⟨hq,0,none⟩)] 27)) (hF:w.heap[hq]? = some (.cells OH 109)) (hO:OH[0]? = some (.int .i64 f.rings)/\OH[1]? = some (.int .i64 f.sectors)/\OH[2]? = some (.int .i64 f.wide))
  (hv:f.valid=true) (hl : ∀x∈l,Zg f x=true) (hlen:l.length<=16):
  Calls zq 145 #[.pointer (some ⟨rp,0,none⟩),.pointer (some ⟨bA,0,none⟩),.pointer (some ⟨bC,0,none⟩),.pointer (some ⟨bH,0,none⟩),.pointer (some ⟨bG,0,none⟩)] w fun e w'=>e = .returned (.tuple #[]) /\ ∃a n cc ga gc es,US w w' rp bA bG bH hq w.heap.size OH (Yo (l.drop l.length)) l l.length a n cc ga gc es:=by
 have I43:=zH zI;have J3:=zH (show(zq.info? 23).map (·.size)=some [Value.int .i64 f.rings,.int .i64 f.sectors,.int .i64 f.wide].length from by kernel_rfl);have D0:=zH (show US w w rp bA bG bH hq w.heap.size OH (Xa.gift l).body l 0 a n cc none 0 []from⟨h,h.r,hA,hG,hH,hF,World.ownsRow_nil _ _ _ _,fun x hx=>by simp at hx,by simp,Za.refl _ _⟩);have HV:=zH hv;have HL:=zH hl;have HN:=zH hlen;have FR:Hid (∀W:World,W.heap[hq]? = some (.cells OH 109)->W.rangeAt hq 0 [Value.int .i64 f.rings,.int .i64 f.sectors,.int .i64 f.wide]):=zH (fun W hW j v hv=>by
  rw[Nat.zero_add];refine Z6 hW j v ?_;have hj:j < 3:=(List.getElem?_eq_some_iff.1 hv).1;have:j=0\/j=1\/j=2:=by omega
  rcases this with rfl | rfl | rfl
  ·exact hO.1.trans hv
  ·exact hO.2.1.trans hv
  ·exact hO.2.2.trans hv)
 clear h hA hG hH hF hO hv hl hlen;go_enter Tryz.func145,Tryz.ntmps145;go_wp2_with fail;refine(Ub rp _ _ 2 a n cc w D0.out.r (ZbB l)).mono ?_;rintro e w1 ⟨a1,n1,c1,rfl,r1,s1,q1⟩;have D1:=zH (D0.out.rd s1 r1 q1);clear D0 r1 s1 q1;have x0:=Z6 D1.out.eA 0 (.bool false) rfl;have f0:=Zq D1.out.eA 0;go_upto_region 1 with fail;have D2:Hid (US w (w1.setCell ⟨bA,0,none⟩ (.bool false)) rp bA bG bH hq w.heap.size OH (XE (l.length:Int) ++ Yo l) l 0 a1 n1 c1 none 0 []):=zH (D1.out.ask);clear D1 x0 f0;generalize w1.setCell ⟨bA,0,none⟩ (.bool false)=w2 at *;go_wp2_with fail;refine(Ud rp _ _ l.length a1 n1 c1 _ D2.out.r (ZbC (by have:=HN.out;omega))).mono ?_;rintro e w3 ⟨a3,n3,c3,rfl,r3,s3,q3⟩;have D3:=zH (D2.out.rd s3 r3 q3);clear r3 s3 q3 D2;go_wp2_with fail;go_loopw [13] (fun iv wr=>∃(k:Nat) (a:zA) (n cc:Nat) (ga:zA) (gc:Nat) (es:List LN),iv = .int .i64 (k:Int)/\k<=l.length/\Hid (US w wr rp bA bG bH hq w.heap.size OH (Yo (l.drop k)) l k a n cc ga gc es)) (fun iv _=>l.length - (intOf iv).toNat)
 case atStart=>exact⟨0,a3,n3,c3,none,0,[],rfl,Nat.zero_le _,D3⟩
 case round=>
  obtain⟨k,a,n,cc,ga,gc,es,rfl,hk,DG⟩:=hrel;by_cases hlt:k < l.length
  ·have E1:=zH (show wrap64 ((k:Int)+1)=(k:Int)+1 by have:=HN.out;unfold wrap64;omega);have t1:decide (k < l.length)=true:=by simp[hlt]
   have x0:=Z6 DG.out.eA 0 (.bool false) rfl;obtain⟨x,hx⟩ : ∃x,l[k]? = some x:=⟨l[k],List.getElem?_eq_getElem hlt⟩;have HX:=zH hx;have FX:=zH (HL.out x (List.mem_of_getElem? hx));have LX:Hid ((Y7 x).length<=1000000000):=zH (by have:=Q7 HV.out FX.out;omega);clear hx;go_upto_region 5 with fail;clear t1 x0;apply ZdF (P:=fun(W:World) (p6:Nat) (sa:zA) (sc:Nat) (a:zA) (n cc:Nat) (_:zA) (_:Nat)=>Hid (Z9b w wr W rp bA bG bH hq w.heap.size OH (Yo (l.drop (k+1))) l k a n cc ga gc es p6 x sa sc))
   ·intro REST;have b1:Below wr.heap.size wr wr.drew:=(Below.refl _ _).drew;replace DG:=zH (DG.out.below b1);have GL:Hid (∀j,Value.ownBlock (.slice ga k gc)=some j->j < wr.heap.size):=zH (fun j hj=>by have h1:=(DG.out.own.lt j hj).2;simpa using h1);have SZ:Hid (wr.heap.size<=wr.drew.heap.size):=zH b1.size;have BW:Hid (w.heap.size<=wr.heap.size):=zH (by have h1:=DG.out.s.size;simpa using h1);clear b1;refine zD (fun W'=>W'.heap[bH]? = some (.cells #[.pointer (some ⟨hq,0,none⟩)] 27)/\W'.heap[hq]? = some (.cells OH 109)) ⟨DG.out.eH,DG.out.eF⟩ (fun hh=>?_);generalize wr.drew=V0 at *;refine zS 0 rfl (.pointer (some ⟨hq,0,none⟩)) (fun W hW=>by have c:=Z6 hW.1 0 (.pointer (some ⟨hq,0,none⟩)) rfl;go_simp) ?_;refine zW 1 rfl (.pointer (some ⟨hq,0,none⟩)) ?_;refine zW 2 rfl (.pointer (some ⟨hq,0,none⟩)) ?_;refine zT 3 rfl (.agg #[.int .i64 f.rings,.int .i64 f.sectors,.int .i64 f.wide]) (Z2E (by kernel_rfl) 23 _ rfl hq 0 rfl [.int .i64 f.rings,.int .i64 f.sectors,.int .i64 f.wide] _ (fun W hW=>FR.out W hW.2) Tryz.underlying23 rfl (by exact J3.out)) ?_;refine zW 4 rfl (.pointer (some ⟨rp,0,none⟩)) ?_;refine zW 5 rfl (.pointer (some ⟨rp,0,none⟩)) ?_;refine zM [6,12] rfl (fun K hK=>?_) (zn (i:=12) (fun K hK=>?_))
    ·skip;go_simp;refine(Ud rp _ _ (Y7 x).length _ _ _ _ DG.out.r (Z5t HX.out LX.out)).mono ?_;rintro e V1 ⟨a1,n1,c1,rfl,r1,s1,q1⟩;replace SZ:=zH (Nat.le_trans SZ.out s1.size);have DQ:=zH (DG.out.rd s1 r1 q1);clear DG r1 s1 q1;have DG:=DQ;clear DQ;have hS:=And.intro DG.out.eH DG.out.eF;dsimp only;refine zK hK hS (fun hh=>?_);clear hK K hS;refine zM [7,12] rfl (fun K hK=>?_) (zn (i:=12) (fun K hK=>?_))
     ·skip;go_simp;refine(Z1Z rp (Y7 x) (Yo (l.drop (k+1))) _ _ _ _ _ DG.out.r rfl LX.out).mono ?_;rintro e V2 ⟨a2,c2,a1,n1,c1,rfl,rb,r1,s1,q1⟩;have RB:=zH rb;replace SZ:=zH (Nat.le_trans SZ.out s1.size);have DQ:=zH (DG.out.rd s1 r1 q1);clear DG r1 s1 q1 rb;have DG:=DQ;clear DQ;have hS:=And.intro DG.out.eH DG.out.eF;dsimp only;refine zK hK hS (fun hh=>?_);clear hK K hS;refine zM [8,12] rfl (fun K hK=>?_) (zn (i:=12) (fun K hK=>?_))
      focus
       skip;go_simp;refine(Uh f x _ _ _ _ HV.out FX.out RB.out).mono ?_;rintro e V3 ⟨sa,sc,rfl,so,b⟩;have SO:=zH (Zu so (Nat.le_trans BW.out SZ.out));replace SZ:=zH (Nat.le_trans SZ.out b.size);have DQ:=zH (DG.out.below b);clear DG so b RB;have DG:=DQ;clear DQ;have hS:=And.intro DG.out.eH DG.out.eF;dsimp only;refine zK hK hS (fun hh=>?_);clear hK K hS;refine zW 9 rfl (.tuple #[.agg (Z5 x sa sc),.int .i64 0]) ?_;refine zW 10 rfl (.agg (Z5 x sa sc)) ?_;refine zW 11 rfl (.int .i64 0) ?_;refine zR 12 rfl (fun K hK=>?_);rw[if_pos (by kernel_rfl)];refine QL rfl ?_;have b:Below V3.heap.size V3 (V3.alloc (.cells (Z5 Zh none 0) 47)):=zB _ _;have NT:=zH (Z9 V3 (.cells (Z5 Zh none 0) 47));have NP:Hid (wr.heap.size<=V3.heap.size):=zH SZ.out;replace SZ:=zH (Nat.le_trans SZ.out b.size);have DQ:=zH (DG.out.below b);clear DG;have DG:=DQ;clear DQ;replace SO:=zH (Zd SO.out b);have hS:=And.intro DG.out.eH DG.out.eF;clear b;obtain⟨p6,hp6⟩:=zX (V3.heap.size);rw[hp6.out]at NT NP ⊢;clear hp6;generalize V3.alloc (.cells (Z5 Zh none 0) 47)=V4 at *;refine zK hK hS (fun hh=>?_);clear hK K hS
      rotate_left
      focus
       rw[if_pos (by kernel_rfl)];refine QL rfl ?_;have b:Below V2.heap.size V2 (V2.alloc (.cells (Z5 Zh none 0) 47)):=zB _ _;have NT:=zH (Z9 V2 (.cells (Z5 Zh none 0) 47));have NP:Hid (wr.heap.size<=V2.heap.size):=zH SZ.out;replace SZ:=zH (Nat.le_trans SZ.out b.size);have DQ:=zH (DG.out.below b);clear DG;have DG:=DQ;clear DQ;replace RB:=zH (Yg.below RB.out b);have hS:=And.intro DG.out.eH DG.out.eF;clear b;obtain⟨p6,hp6⟩:=zX (V2.heap.size);rw[hp6.out]at NT NP ⊢;clear hp6;generalize V2.alloc (.cells (Z5 Zh none 0) 47)=V3 at *;refine zK hK hS (fun hh=>?_);clear hK K hS;refine zR 8 rfl (fun K hK=>?_);go_simp;refine(Uh f x _ _ _ _ HV.out FX.out RB.out).mono ?_;rintro e V4 ⟨sa,sc,rfl,so,b⟩;have SO:=zH (Zu so (Nat.le_trans BW.out SZ.out));replace NT:=zH (Z7 b NT.out);replace SZ:=zH (Nat.le_trans SZ.out b.size);have DQ:=zH (DG.out.below b);clear DG so b RB;have DG:=DQ;clear DQ;have hS:=And.intro DG.out.eH DG.out.eF;dsimp only;refine zK hK hS (fun hh=>?_);clear hK K hS;refine zW 9 rfl (.tuple #[.agg (Z5 x sa sc),.int .i64 0]) ?_;refine zW 10 rfl (.agg (Z5 x sa sc)) ?_;refine zW 11 rfl (.int .i64 0) ?_
      all_goals
       refine zR 13 rfl (fun K hK=>?_);rw[if_pos (by kernel_rfl)];refine ZT 47 _ _ rfl p6 (Z5 Zh none 0) (Z5 x sa sc) 47 rfl rfl NT.out (I43.out _ _ _) rfl (Zm x sa sc) ?_;intro X h8 hg8 hs8;have DQ:=zH (DG.out.row NT.out (UY _ _ _) hg8 (fun e=>by have h1:=GL.out p6 e;have h2:=NP.out;omega) (Nat.le_trans BW.out NP.out));have MID:Hid (Z9b w wr X rp bA bG bH hq w.heap.size OH (Yo (l.drop (k+1))) l k _ _ _ ga gc es p6 x sa sc):=zH ⟨DQ.out,h8,SO.out.kept hg8 (.inr (Zn SO.out NT.out (by intro cur;simp)).symm),by rw[hs8];exact SZ.out⟩;have hS:=And.intro DQ.out.eH DQ.out.eF;clear h8 hg8 hs8;refine zK hK hS (fun hh=>?_);clear hK K hS;refine zW 14 rfl (.int .i64 0) ?_;refine zE ?_;exact REST X p6 sa sc _ _ _ a2 c2 MID
     ·rw[if_pos (by kernel_rfl)];refine QL rfl ?_;have b:Below V1.heap.size V1 (V1.alloc (.cells (Z5 Zh none 0) 47)):=zB _ _;have NT:=zH (Z9 V1 (.cells (Z5 Zh none 0) 47));have NP:Hid (wr.heap.size<=V1.heap.size):=zH SZ.out;replace SZ:=zH (Nat.le_trans SZ.out b.size);have DQ:=zH (DG.out.below b);clear DG;have DG:=DQ;clear DQ;have hS:=And.intro DG.out.eH DG.out.eF;clear b;obtain⟨p6,hp6⟩:=zX (V1.heap.size);rw[hp6.out]at NT NP ⊢;clear hp6;generalize V1.alloc (.cells (Z5 Zh none 0) 47)=V2 at *;refine zK hK hS (fun hh=>?_);clear hK K hS;refine zR 7 rfl (fun K hK=>?_);go_simp;refine(Z1Z rp (Y7 x) (Yo (l.drop (k+1))) _ _ _ _ _ DG.out.r rfl LX.out).mono ?_;rintro e V3 ⟨a2,c2,a1,n1,c1,rfl,rb,r1,s1,q1⟩;have RB:=zH rb;replace NT:=zH ((s1.block p6 (Zj NT.out) (fun e=>by have h1:=DG.out.r.e;have h2:=NT.out;rw[<-show p6=rp from e,h2]at h1;cases h1)).trans NT.out);replace SZ:=zH (Nat.le_trans SZ.out s1.size);have DQ:=zH (DG.out.rd s1 r1 q1);clear DG r1 s1 q1 rb;have DG:=DQ;clear DQ;have hS:=And.intro DG.out.eH DG.out.eF;dsimp only;refine zK hK hS (fun hh=>?_);clear hK K hS;refine zR 8 rfl (fun K hK=>?_);go_simp;refine(Uh f x _ _ _ _ HV.out FX.out RB.out).mono ?_;rintro e V4 ⟨sa,sc,rfl,so,b⟩;have SO:=zH (Zu so (Nat.le_trans BW.out SZ.out));replace NT:=zH (Z7 b NT.out);replace SZ:=zH (Nat.le_trans SZ.out b.size);have DQ:=zH (DG.out.below b);clear DG so b RB;have DG:=DQ;clear DQ;have hS:=And.intro DG.out.eH DG.out.eF;dsimp only;refine zK hK hS (fun hh=>?_);clear hK K hS;refine zW 9 rfl (.tuple #[.agg (Z5 x sa sc),.int .i64 0]) ?_;refine zW 10 rfl (.agg (Z5 x sa sc)) ?_;refine zW 11 rfl (.int .i64 0) ?_;refine zR 13 rfl (fun K hK=>?_);rw[if_pos (by kernel_rfl)];refine ZT 47 _ _ rfl p6 (Z5 Zh none 0) (Z5 x sa sc) 47 rfl rfl NT.out (I43.out _ _ _) rfl (Zm x sa sc) ?_;intro X h8 hg8 hs8;have DQ:=zH (DG.out.row NT.out (UY _ _ _) hg8 (fun e=>by have h1:=GL.out p6 e;have h2:=NP.out;omega) (Nat.le_trans BW.out NP.out));have MID:Hid (Z9b w wr X rp bA bG bH hq w.heap.size OH (Yo (l.drop (k+1))) l k _ _ _ ga gc es p6 x sa sc):=zH ⟨DQ.out,h8,SO.out.kept hg8 (.inr (Zn SO.out NT.out (by intro cur;simp)).symm),by rw[hs8];exact SZ.out⟩
      have hS:=And.intro DQ.out.eH DQ.out.eF;clear h8 hg8 hs8;refine zK hK hS (fun hh=>?_);clear hK K hS;refine zW 14 rfl (.int .i64 0) ?_;refine zE ?_;exact REST X p6 sa sc _ _ _ a2 c2 MID
    ·rw[if_pos (by kernel_rfl)];refine QL rfl ?_;have b:Below V0.heap.size V0 (V0.alloc (.cells (Z5 Zh none 0) 47)):=zB _ _;have NT:=zH (Z9 V0 (.cells (Z5 Zh none 0) 47));have NP:Hid (wr.heap.size<=V0.heap.size):=zH SZ.out;replace SZ:=zH (Nat.le_trans SZ.out b.size);have DQ:=zH (DG.out.below b);clear DG;have DG:=DQ;clear DQ;have hS:=And.intro DG.out.eH DG.out.eF;clear b;obtain⟨p6,hp6⟩:=zX (V0.heap.size);rw[hp6.out]at NT NP ⊢;clear hp6;generalize V0.alloc (.cells (Z5 Zh none 0) 47)=V1 at *;refine zK hK hS (fun hh=>?_);clear hK K hS;refine zR 6 rfl (fun K hK=>?_);go_simp;refine(Ud rp _ _ (Y7 x).length _ _ _ _ DG.out.r (Z5t HX.out LX.out)).mono ?_;rintro e V2 ⟨a1,n1,c1,rfl,r1,s1,q1⟩;replace NT:=zH ((s1.block p6 (Zj NT.out) (fun e=>by have h1:=DG.out.r.e;have h2:=NT.out;rw[<-show p6=rp from e,h2]at h1;cases h1)).trans NT.out);replace SZ:=zH (Nat.le_trans SZ.out s1.size);have DQ:=zH (DG.out.rd s1 r1 q1);clear DG r1 s1 q1;have DG:=DQ;clear DQ;have hS:=And.intro DG.out.eH DG.out.eF;dsimp only;refine zK hK hS (fun hh=>?_);clear hK K hS;refine zR 7 rfl (fun K hK=>?_);go_simp;refine(Z1Z rp (Y7 x) (Yo (l.drop (k+1))) _ _ _ _ _ DG.out.r rfl LX.out).mono ?_;rintro e V3 ⟨a2,c2,a1,n1,c1,rfl,rb,r1,s1,q1⟩;have RB:=zH rb;replace NT:=zH ((s1.block p6 (Zj NT.out) (fun e=>by have h1:=DG.out.r.e;have h2:=NT.out;rw[<-show p6=rp from e,h2]at h1;cases h1)).trans NT.out);replace SZ:=zH (Nat.le_trans SZ.out s1.size);have DQ:=zH (DG.out.rd s1 r1 q1);clear DG r1 s1 q1 rb;have DG:=DQ;clear DQ;have hS:=And.intro DG.out.eH DG.out.eF;dsimp only;refine zK hK hS (fun hh=>?_);clear hK K hS;refine zR 8 rfl (fun K hK=>?_);go_simp;refine(Uh f x _ _ _ _ HV.out FX.out RB.out).mono ?_;rintro e V4 ⟨sa,sc,rfl,so,b⟩;have SO:=zH (Zu so (Nat.le_trans BW.out SZ.out));replace NT:=zH (Z7 b NT.out);replace SZ:=zH (Nat.le_trans SZ.out b.size);have DQ:=zH (DG.out.below b);clear DG so b RB;have DG:=DQ;clear DQ;have hS:=And.intro DG.out.eH DG.out.eF;dsimp only;refine zK hK hS (fun hh=>?_);clear hK K hS
     refine zW 9 rfl (.tuple #[.agg (Z5 x sa sc),.int .i64 0]) ?_;refine zW 10 rfl (.agg (Z5 x sa sc)) ?_;refine zW 11 rfl (.int .i64 0) ?_;refine zR 13 rfl (fun K hK=>?_);rw[if_pos (by kernel_rfl)];refine ZT 47 _ _ rfl p6 (Z5 Zh none 0) (Z5 x sa sc) 47 rfl rfl NT.out (I43.out _ _ _) rfl (Zm x sa sc) ?_;intro X h8 hg8 hs8;have DQ:=zH (DG.out.row NT.out (UY _ _ _) hg8 (fun e=>by have h1:=GL.out p6 e;have h2:=NP.out;omega) (Nat.le_trans BW.out NP.out));have MID:Hid (Z9b w wr X rp bA bG bH hq w.heap.size OH (Yo (l.drop (k+1))) l k _ _ _ ga gc es p6 x sa sc):=zH ⟨DQ.out,h8,SO.out.kept hg8 (.inr (Zn SO.out NT.out (by intro cur;simp)).symm),by rw[hs8];exact SZ.out⟩;have hS:=And.intro DQ.out.eH DQ.out.eF;clear h8 hg8 hs8;refine zK hK hS (fun hh=>?_);clear hK K hS;refine zW 14 rfl (.int .i64 0) ?_;refine zE ?_;exact REST X p6 sa sc _ _ _ a2 c2 MID
   intro V p6 sa sc a n cc a2 c2 MID;have bn:Below V.heap.size V (V.alloc (.cells (Z5 x sa sc) 47)):=zB _ _;have c0:=Z6 MID.out.st.eG 0 (.slice ga k gc) rfl;obtain⟨ga',gc',v9,hrun,ho9,hg9⟩:=Q5 (V.alloc (.cells (Z5 x sa sc) 47)) w.heap.size ga k gc _ (Zd MID.out.st.own bn) _ 1 1 _ (Qk V x sa sc) (x.cells_one _ _) (by have h1:=HN.out;omega) (Nat.le_trans MID.out.st.s.size bn.size);have HNW:=zH (MID.out.st.push (Nat.le_refl _) HX.out MID.out.so bn ho9 hg9);have eG9:=Zc hg9 (Z7 bn MID.out.st.eG) (Zn (Zd MID.out.st.own bn) (Z7 bn MID.out.st.eG) (by intro cur;simp));have c9:=Z6 eG9 0 (.slice ga k gc) rfl;have f9:=Zq eG9 0;have e1:=E1.out;clear bn ho9 hg9 eG9;go_wp2_with (first
    |(refine zL p6 MID.out.nt ?_)
    |(refine Jm rfl _ rfl x sa sc rfl ?_)
    |(refine YG rfl _ _ _ rfl _ _ _ rfl rfl hrun ?_)
    | fail)
   go_roundw
   case rel=>exact⟨k+1,a,n,cc,ga',gc',es ++ [⟨x,sa,sc⟩],by go_num,by omega,HNW⟩
   case measure=>clear e1;rw[E1.out];simp[intOf];omega
  ·have hkm:k=l.length:=by omega
   subst hkm;have t1:decide (l.length < l.length)=false:=by simp
   go_wp2;go_end0;exact⟨rfl,a,n,cc,ga,gc,es,DG.out⟩
theorem Z2x {w:World}{b b':Nat}{c c':ZV}{t t':TypeId}(h:w.heap[b]? = some (.cells c t (0,0)))(h':w.heap[b']? = some (.cells c' t' (0,0)))(ht:t≠t'):b≠b':=fun e=>by
 rw[e,h']at h
 cases h
 exact ht rfl
theorem Z8s (f:Yh)(bA bC bH bG hq:Nat)(OH:ZV)(l:List Z8)(a:zA)(n cc:Nat)(w:World)(h:Yg w a n cc (Xa.gift l).body)(hA:w.heap[bA]? = some (.cells #[.bool false] 4))(hG:w.heap[bG]? = some (.cells #[.slice none 0 0] 24))
  (hH:w.heap[bH]? = some (.cells #[.pointer (some ⟨hq,0,none⟩)] 27)) (hF:w.heap[hq]? = some (.cells OH 109)) (hO:OH[0]? = some (.int .i64 f.rings)/\OH[1]? = some (.int .i64 f.sectors)/\OH[2]? = some (.int .i64 f.wide))
  (hv:f.valid=true) (hl : ∀x∈l,Zg f x=true) (hlen:l.length<=16):
  Calls zq 129 #[.slice a n cc,.func (.func 145) #[] #[.pointer (some ⟨bA,0,none⟩),.pointer (some ⟨bC,0,none⟩),.pointer (some ⟨bH,0,none⟩),.pointer (some ⟨bG,0,none⟩)]] w fun e w'=>e = .returned (.bool true) /\
   ∃ga gc es,w'.heap[bA]? = some (.cells #[.bool false] 4)/\w'.heap[bH]? = some (.cells #[.pointer (some ⟨hq,0,none⟩)] 27)/\w'.heap[bG]? = some (.cells #[.slice ga l.length gc] 24)/\w'.ownsRow w.heap.size 47 19 (.slice ga l.length gc) l.length (ZB es)/\Z0Z w' w.heap.size es/\es.map LN.n=l/\Za (fun j=>j=bA\/j=bG) w w':=by
 refine Z2M bA bC bH bG _ a n cc w _ h (fun rp W hrp hb hr hfalse=>?_);refine(Zae f rp bA bC bH bG hq OH l a n cc W hr (Z7 hb hA) (Z7 hb hG) (Z7 hb hH) (Z7 hb hF) hO hv hl hlen).mono ?_;rintro e W3 ⟨rfl,a,n,cc,ga,gc,es,D⟩;have hlA:=Zj hA;have hlG:=Zj hG;have hlH:=Zj hH;refine⟨rfl,(D.s.block _ (Zj hfalse) (by omega)).trans hfalse,fun W4 s4 h4=>⟨ga,gc,es,(s4.block bA (Zj D.eA) (by omega)).trans D.eA,(s4.block bH (Zj D.eH) (by omega)).trans D.eH,(s4.block bG (Zj D.eG) (by omega)).trans D.eG,?_,?_,?_,?_⟩⟩
 ·have hf3:=(D.s.block _ (Zj hfalse) (by omega)).trans hfalse;exact Zu (Ze D.own s4 (fun b h1 e=>ZH D.own hf3 (by decide) ((show b=_ from e) ▸ h1))) hb.size
 ·have hf3:=(D.s.block _ (Zj hfalse) (by omega)).trans hfalse;exact fun x hx=>Zu (Ze (D.eo x hx) s4 (fun b h1 e=>ZH (D.eo x hx) hf3 (by decide) ((show b=_ from e) ▸ h1))) hb.size
 ·rw[D.en,List.take_length]
 ·have g1:Za (fun j=>j=bA\/j=bG) w W3:=(Za.of_below hb).trans2 D.s (fun j hj=>by
   rcases hj with e | e | e
   ·exact .inr (by omega)
   ·exact .inl (.inl e)
   ·exact .inl (.inr e))
  exact g1.trans2 s4 (fun j hj=>.inr (by rw[show j=w.heap.size from hj];exact Nat.le_refl _))
theorem Z5A (bA bC bH bG hq:Nat)(c:List Int)(a:zA)(n cc:Nat)(w:World)(h:Yg w a n cc (Xa.ask c).body)(hA:w.heap[bA]? = some (.cells #[.bool false] 4))(hC:w.heap[bC]? = some (.cells #[.slice none 0 0] 37))
  (hH:w.heap[bH]? = some (.cells #[.pointer (some ⟨hq,0,none⟩)] 27)) (hc : ∀z∈c,Ym z) (hl:c.length<=1000):
  Calls zq 129 #[.slice a n cc,.func (.func 145) #[] #[.pointer (some ⟨bA,0,none⟩),.pointer (some ⟨bC,0,none⟩),.pointer (some ⟨bH,0,none⟩),.pointer (some ⟨bG,0,none⟩)]] w fun e w'=>e = .returned (.bool true) /\
   ∃ca c2,w'.heap[bA]? = some (.cells #[.bool true] 4)/\w'.heap[bH]? = some (.cells #[.pointer (some ⟨hq,0,none⟩)] 27)/\w'.heap[bC]? = some (.cells #[.slice ca c.length c2] 37)/\w'.ownsRow w.heap.size 3 1 (.slice ca c.length c2) c.length (c.map Yq)/\Za (fun j=>j=bA\/j=bC) w w':=by
 refine Z2M bA bC bH bG _ a n cc w _ h (fun rp W hrp hb hr hfalse=>?_);refine(ZbV rp bA bC bH bG c a n cc W hr (Z7 hb hA) (Z7 hb hC) hc hl).mono ?_;rintro e W3 ⟨rfl,a,n,cc,ca,c2,D,eA⟩;have hlA:=Zj hA;have hlC:=Zj hC;have hlH:=Zj hH;have hf3:=(D.s.block _ (Zj hfalse) (by omega)).trans hfalse;have g1:Za (fun j=>j=bA\/j=bC) w W3:=(Za.of_below hb).trans2 D.s (fun j hj=>by
  rcases hj with e | e | e
  ·exact .inr (by omega)
  ·exact .inl (.inl e)
  ·exact .inl (.inr e))
 refine⟨rfl,hf3,fun W4 s4 h4=>?_⟩;have g4:Za (fun j=>j=bA\/j=bC) w W4:=g1.trans2 s4 (fun j hj=>.inr (by rw[show j=w.heap.size from hj];exact Nat.le_refl _));refine⟨ca,c2,(s4.block bA (Zj eA) (by omega)).trans eA,(g4.block bH hlH (fun e=>?_)).trans hH,(s4.block bC (Zj D.eC) (by omega)).trans D.eC,?_,g4⟩
 ·rcases e with e | e
  ·exact Z2x hH hA (by decide) e
  ·exact Z2x hH hC (by decide) e
 ·have ho:=Ze D.own s4 (fun b h1 e=>ZH D.own hf3 (by decide) ((show b=_ from e) ▸ h1));rw[List.take_length]at ho;exact Zu ho hb.size
end Go.Proofs.YtlnhppgfhkkidaaGreat
