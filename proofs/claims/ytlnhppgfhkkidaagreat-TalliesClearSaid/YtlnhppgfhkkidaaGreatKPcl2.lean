/- Parts of the proof, in order. -/
import Derived.Deep.RegionHeld3
import Derived.WalkSmall
import Derived.RangeFuncNested
import Derived.RangeFuncBound
import Derived.RangeFuncCalls
import Derived.RangeFuncLeaves
import Derived.WalkKit
import Derived.OwnWalkIn
import Derived.TacticsInMore
import Derived.LoopNIn
import Derived.LoopIn
import Derived.Shelf.RegionOpen
import Derived.Sort.QuietIn
import Derived.WalkLawsBesides
import Derived.Deep.RegionLaw
import Derived.RegionTactic
import Derived.Deep.QuietTactic
import Derived.BigQuiet
import Derived.Deep.RegionWith
import Derived.StillTailTactics
import Derived.BigRegion
import Derived.Maps.RangeWalk
import Derived.Maps.OwnSet
import Derived.DeepKeys4
import Derived.Test.YtlnhppgfhkkidaaGreatKPcl1
set_option linter.unusedSimpArgs false
set_option linter.unusedVariables false
set_option maxHeartbeats 32000000
set_option maxRecDepth 100000
namespace Go.Proofs.YtlnhppgfhkkidaaGreat
open Go.Proofs.Tryz renaming prog → zq
open Go.RowKit
def ZP (f:Yh)(n:Z8):Int:=if f.valid then if Zg f n then 0 else 80 else 1
section
attribute [local go_sem] ZS
variable (f:Yh)(n:Z8)(sa:zA)(sc:Nat)(w:World)
theorem Ur (hs:XU w sa n.strokes.length sc n.strokes):
  Calls zq 56 #[f.val,.agg (Z5 n sa sc)] w fun e w'=>e = .returned (.int .i64 (ZP f n))/\Below w.heap.size w w':=by
 have I43:=zH (show(zq.info? 47).map (·.size)=some (Z5 n sa sc).size by kernel_rfl);have g1:=Zv (w.alloc (zF f 23)) (.cells (Z5 n sa sc) 47) (w.heap.size+1) (by simp);have g2:=Zb _ (zF f 174) _ _ g1;have b0:Below w.heap.size w (((w.alloc (zF f 23)).alloc (.cells (Z5 n sa sc) 47)).alloc (zF f 174)):=
  ((zB _ _).alloc (by simp) _).alloc (by simp;omega) _
 have g3:=Zv ((w.alloc (zF f 23)).alloc (.cells (Z5 n sa sc) 47)) (zF f 174) (w.heap.size+1+1) (by simp);have G2:=zH g2;clear g1 g2;have G3:=zH g3;clear g3;have B0:=zH b0;clear b0;unfold Yh.val;go_enter Tryz.func56,Tryz.ntmps56;go_wp2_with fail;generalize ((w.alloc (zF f 23)).alloc (.cells (Z5 n sa sc) 47)).alloc (zF f 174)=W0 at *;refine(Z53 f.rings f.sectors f.wide _).mono ?_;rintro e w1 ⟨rfl,b1⟩;have hz:=(Array.getElem?_eq_some_iff.1 G3.out).1;have h1:=(b1.block _ (by omega)).trans G2.out;have h2:=(b1.block _ hz).trans G3.out;have B1:=zH (B0.out.trans (b1.mono B0.out.size));clear b1;cases hv:f.valid
 ·have hR:ZP f n=1:=by unfold ZP;rw[hv];rfl
  have HR:=zH hR;clear hR hv;go_wp2;go_ret;rw[HR.out];exact⟨rfl,B1.out⟩
 ·have c0:w1.cell? ⟨w.heap.size+1+1,0,none⟩=some (.int .i64 f.rings):=by simp[World.cell?,h2]
  have c1:w1.cell? ⟨w.heap.size+1+1,1,none⟩=some (.int .i64 f.sectors):=by simp[World.cell?,h2]
  have c2:w1.cell? ⟨w.heap.size+1+1,2,none⟩=some (.int .i64 f.wide):=by simp[World.cell?,h2]
  have HV:=zH hv;clear hv;have H1:=zH h1;clear h1 h2;go_wp2_with (refine zL (w.heap.size+1) H1.out ?_);refine(Z1b f n sa sc _ HV.out (hs.below B1.out)).mono ?_;rintro e w2 ⟨rfl,b2⟩;have B2:=zH (B1.out.trans (b2.mono B1.out.size));clear b2;cases hf:Zg f n
  focus
   have hR:ZP f n=80:=by unfold ZP;rw[HV.out,hf];rfl
  rotate_left
  focus
   have hR:ZP f n=0:=by unfold ZP;rw[HV.out,hf];rfl
  all_goals
   have HR:=zH hR;clear hR hf;go_wp2;go_ret;rw[HR.out];exact⟨rfl,B2.out⟩
end
theorem Z6 {W:World}{p:Nat}{A:ZV}{t:TypeId}{sp:Nat×Nat}(h:W.heap[p]? = some (.cells A t sp))(j:Nat)(v:Value)(hv:A[j]? = some v):W.cell? ⟨p,j,none⟩=some v:=by
 simp[World.cell?,h,hv]
theorem Z4y (n:Z8)(sa:zA)(sc:Nat): ∀k,k < 15->(Z5 n sa sc)[k]? = some (.int .i64 ((ZX n)[k]?.getD 0))
 | 0,_=>rfl
 | 1,_=>rfl
 | 2,_=>rfl
 | 3,_=>rfl
 | 4,_=>rfl
 | 5,_=>rfl
 | 6,_=>rfl
 | 7,_=>rfl
 | 8,_=>rfl
 | 9,_=>rfl
 | 10,_=>rfl
 | 11,_=>rfl
 | 12,_=>rfl
 | 13,_=>rfl
 | 14,_=>rfl
 | k+15,h=>absurd h (by omega)
theorem Z2Y (n:Z8)(sa:zA)(sc:Nat): ∀k,k < 3->(Z5 n sa sc)[16+k]? = some (.int .i64 ((ZQ n)[k]?.getD 0))
 | 0,_=>rfl
 | 1,_=>rfl
 | 2,_=>rfl
 | k+3,h=>absurd h (by omega)
theorem Z2Z (p:Nat): ∀k,k < 15->(Z9z p Z8J).toArray[k]? = some (.pointer (some ⟨p,k,none⟩))
 | 0,_=>rfl
 | 1,_=>rfl
 | 2,_=>rfl
 | 3,_=>rfl
 | 4,_=>rfl
 | 5,_=>rfl
 | 6,_=>rfl
 | 7,_=>rfl
 | 8,_=>rfl
 | 9,_=>rfl
 | 10,_=>rfl
 | 11,_=>rfl
 | 12,_=>rfl
 | 13,_=>rfl
 | 14,_=>rfl
 | k+15,h=>absurd h (by omega)
theorem Z1J (p:Nat): ∀k,k < 3->(Z9z p Z6j).toArray[k]? = some (.pointer (some ⟨p,16+k,none⟩))
 | 0,_=>rfl
 | 1,_=>rfl
 | 2,_=>rfl
 | k+3,h=>absurd h (by omega)
theorem Z0a {z:Int}(h:Ym z):Jl z:=by
 unfold Ym far at h;unfold Jl;omega
theorem Z27 (w:World)(z:Int):XU (w.alloc (.cells #[.int .i64 z] 3)) (some ⟨w.heap.size,0,none⟩) 1 1 [z]:=
 ZW.of_own (World.ownsRow_lit (base:=w.heap.size) (e:=3) (size:=1) w #[.int .i64 z] 1 (Nat.le_refl _) (by unfold maxLen;omega) rfl)
theorem Z28 (base:Nat)(w:World)(z:Int):VY base (w.alloc (.cells #[.int .i64 z] 3)) (some ⟨w.heap.size,0,none⟩):=by
 intro b off e _;cases e;exact z6 (Z9 w _) (by decide)
theorem Z7x (n:Z8)(h:Z2A n):(Y7 n).length<=190+10 * n.strokes.length:=by
 obtain⟨h1,h2,h3,h4⟩:=h;have g1:=Qo (ZX n) (fun z hz=>Z0a (h1 z hz));have g2:=Qo n.strokes (fun z hz=>Z0a (h2 z hz));have g3:=Qo (ZQ n) (fun z hz=>Z0a (h3 z hz));have g4:=Z7w (Z0a h4);have e1:(ZX n).length=15:=rfl;have e3:(ZQ n).length=3:=rfl;unfold Y7;simp only[List.length_append];omega
section
variable (n:Z8)(sa:zA)(sc:Nat)(w:World)
theorem QW (hs:XU w sa n.strokes.length sc n.strokes)(hsm:Z2A n)(hlen:n.strokes.length<=1000000):
  Calls zq 117 #[.agg (Z5 n sa sc)] w fun e w' => ∃a' c',e = .returned (.slice a' (Y7 n).length c') /\
   w'.ownsRow w.heap.size 5 1 (.slice a' (Y7 n).length c') (Y7 n).length ((Y7 n).map Zs)/\Below w.heap.size w w':=by
 obtain⟨xs,hxs⟩ : ∃xs:zU,Hid (xs=[]):=⟨_,zH rfl⟩;have hN:=Z7x n hsm;have hT:Y7 n=xs ++ ZA (ZX n) ++ ZA [(n.strokes.length:Int)] ++ ZA n.strokes ++ ZA (ZQ n):=by
  rw[hxs.out,Jy];unfold Y7;simp only[List.nil_append,List.append_assoc]
 rw[hT]at hN;have HLP:Hid ((xs ++ ZA (ZX n)).length<=140737488355328):=zH (by simp only[List.length_append]at hN ⊢;omega);have HL1:Hid ((xs ++ ZA (ZX n) ++ ZA [(n.strokes.length:Int)]).length<=140737488355328):=zH (by simp only[List.length_append]at hN ⊢;omega);have HL2:Hid ((xs ++ ZA (ZX n) ++ ZA [(n.strokes.length:Int)] ++ ZA n.strokes).length<=140737488355328):=zH (by simp only[List.length_append]at hN ⊢;omega);have HL3:Hid ((xs ++ ZA (ZX n) ++ ZA [(n.strokes.length:Int)] ++ ZA n.strokes ++ ZA (ZQ n)).length<=140737488355328):=zH (by omega);clear hN hT;have hlast:=Z9 w (.cells (Z5 n sa sc) 47);have bb:Below w.heap.size w (w.alloc (.cells (Z5 n sa sc) 47)):=zB _ _;have hlt:w.heap.size < (w.alloc (.cells (Z5 n sa sc) 47)).heap.size:=by simp
 have AP:=zH (show ∀W:World,0 < n.strokes.length->VY w.heap.size W sa from fun W h0=>VY.old fun b off e=>by
  obtain⟨b',off',e',hc⟩:=ZW.at hs h0;rw[e]at e';cases e';exact World.block_lt_of_cell? w _ (hc 0 _ (List.getElem?_eq_getElem (by have:=hs.1;omega))))
 have H0:=zH (And.intro hlast (And.intro bb hlt));clear hlast bb hlt;go_enter Tryz.func117,Tryz.ntmps117;go_wp2_with fail;generalize w.alloc (.cells (Z5 n sa sc) 47)=w0 at *;refine(Z4k w.heap.size w0).mono ?_;rintro e wf ⟨rfl,g1,g2,b1⟩;obtain⟨base,hbase⟩:=zX (w.heap.size);obtain⟨P,hP⟩:=zX (w0.heap.size);obtain⟨Q,hQ⟩:=zX (w0.heap.size+1);rw[hbase.out,hP.out]at g1;rw[hbase.out,hQ.out]at g2;have AW:Hid (Jc base w wf):=zH ⟨(b1.mono (Nat.le_of_lt H0.out.2.2)).os.trans H0.out.2.1.os,(b1.mono (Nat.le_of_lt H0.out.2.2)).tape.trans H0.out.2.1.tape,(b1.mono (Nat.le_of_lt H0.out.2.2)).output.trans H0.out.2.1.output,Nat.le_trans H0.out.2.1.size b1.size,fun k hk _=>(b1.block k (Nat.lt_trans hk H0.out.2.2)).trans (H0.out.2.1.block k hk)⟩;have hn1:=(b1.block _ H0.out.2.2).trans H0.out.1;rw[hbase.out]at hn1;have LN:=zH (And.intro (show base < wf.heap.size from(Array.getElem?_eq_some_iff.1 hn1).1) (And.intro (show ¬U8 base wf base from z6 hn1 (by decide)) hn1));have LP:=zH (And.intro (show P < wf.heap.size from(Array.getElem?_eq_some_iff.1 g1).1) (And.intro (show ¬U8 base wf P from z6 g1 (by decide)) g1));have LQ:=zH (And.intro (show Q < wf.heap.size from(Array.getElem?_eq_some_iff.1 g2).1) (And.intro (show ¬U8 base wf Q from z6 g2 (by decide)) g2));have HB:Hid (base<=wf.heap.size):=zH (Nat.le_of_lt LN.out.1);have hbw:Hid (base<=w.heap.size):=zH (by rw[hbase.out];exact Nat.le_refl _);rw[hbase.out]at AP;rw[hQ.out,hP.out,hbase.out];clear g1 g2 hn1 b1 H0;go_wp2_with fail;go_loopw [5,7,16] (fun b _ i wr=>∃(k m:Nat) (a':zA) (c':Nat),b = .slice a' m c'/\k<=15/\i = .int .i64 k/\Hid (wr.ownsRow base 5 1 (.slice a' m c') m ((xs ++ ZA ((ZX n).take k)).map Zs))/\Hid (Jc base wf wr)) (fun _ _ i _=>15 - (intOf i).toNat)
 case atStart=>exact⟨0,0,none,0,rfl,Nat.zero_le _,rfl,zH (by rw[hxs.out];exact World.ownsRow_nil _ _ _ _),zH (Jc.refl _ _)⟩
 case round=>
  obtain⟨k,m,a',c',rfl,hk,rfl,HW,HA⟩:=hrel;by_cases hlt:k < 15
  ·have e1:wr.cell? ⟨P,k,none⟩=some (.pointer (some ⟨base,k,none⟩)):=Z6 ((HA.out.block _ LP.out.1 LP.out.2.1).trans LP.out.2.2) _ _ (Z2Z base k hlt);have e2:wr.cell? ⟨base,k,none⟩=some (.int .i64 ((ZX n)[k]?.getD 0)):=Z6 ((HA.out.block _ LN.out.1 LN.out.2.1).trans LN.out.2.2) _ _ (Z4y n sa sc k hlt);have hzk:Jl ((ZX n)[k]?.getD 0):=Z0a (hsm.1 _ (by rw[List.getElem?_eq_getElem (show k < (ZX n).length from hlt),Option.getD_some];exact List.getElem_mem _));have HT:=zH (Z0A (l:=ZX n) (k:=k) hlt);have hz63:(k:Int)<=9223372036854775807:=by omega
   have hln:((xs ++ ZA ((ZX n).take k)) ++ ZA [(ZX n)[k]?.getD 0]).length<=140737488355328:=by
    have h1:=HLP.out;have h2:=Z3m (ZX n) (k+1);rw[Jy,List.append_assoc,<-HT.out];simp only[List.length_append]at h1 ⊢;omega
   have HLN:=zH hln;clear hln;have HZK:=zH hzk;clear hzk;have HSB:=zH (Nat.le_trans HB.out HA.out.size);generalize (ZX n)[k]?.getD 0=z at *;go_wp2_with fail;refine(VG base _ _ _ (xs ++ ZA ((ZX n).take k)) _ 1 1 [z] _ ?_ (Zd HW.out (zB _ _)) (Z27 wr z) (fun _=>Z28 base wr z) (by simpa using HZK.out) HLN.out).mono ?_
   ·simp;exact Nat.le_succ_of_le HSB.out
   rintro e w3 ⟨a3,c3,rfl,h1,h2⟩;have HE:Hid (xs ++ ZA ((ZX n).take k) ++ ZA [z]=xs ++ ZA ((ZX n).take (k+1))):=zH (by rw[Jy,List.append_assoc,<-HT.out]);rw[HE.out]at h1;rw[HE.out];obtain⟨m3,HM3⟩ : ∃m3,Hid (m3=(xs ++ ZA ((ZX n).take (k+1))).length):=⟨_,zH rfl⟩;rw[<-HM3.out]at h1 ⊢;have H1:=zH h1;clear h1;have H2:=zH (HA.out.trans ((Jc.of_below (zB _ _)).trans h2));clear h2;go_wp2;go_roundw
   case rel=>exact⟨k+1,_,a3,c3,rfl,by omega,by go_num,H1,H2⟩
   case measure=>simp[intOf];omega
  ·have hkn:k=15:=by omega
   subst hkn;have HX:Hid ((ZX n).take 15=ZX n):=zH rfl;rw[HX.out]at HW;have hm:m=(xs ++ ZA (ZX n)).length:=by
    have:=HW.out.1;simpa using this.symm
   have e15:wr.cell? ⟨base,15,none⟩=some (.slice sa n.strokes.length sc):=Z6 ((HA.out.block _ LN.out.1 LN.out.2.1).trans LN.out.2.2) _ _ rfl;have HSB:=zH (Nat.le_trans HB.out HA.out.size);have HM:=zH hm;clear hm;go_wp2_with fail;refine(VG base _ _ _ (xs ++ ZA (ZX n)) _ 1 1 [(n.strokes.length:Int)] _ ?_ (Zd HW.out (zB _ _)) (Z27 wr _) (fun _=>Z28 base wr _) (by simpa using Z0a hsm.2.2.2) HL1.out).mono ?_
   ·simp;exact Nat.le_succ_of_le HSB.out
   rintro e w2 ⟨a2,c2,rfl,h1,h2⟩;obtain⟨m2,HM2⟩ : ∃m2,Hid (m2=(xs ++ ZA (ZX n) ++ ZA [(n.strokes.length:Int)]).length):=⟨_,zH rfl⟩;rw[<-HM2.out]at h1 ⊢;have H2:=zH h1;clear h1;have A2:=zH (HA.out.trans ((Jc.of_below (zB _ _)).trans h2));clear h2 e15;have e15:w2.cell? ⟨base,15,none⟩=some (.slice sa n.strokes.length sc):=Z6 ((A2.out.block _ LN.out.1 LN.out.2.1).trans LN.out.2.2) _ _ rfl;go_wp2_with fail;refine(VG base _ _ _ (xs ++ ZA (ZX n) ++ ZA [(n.strokes.length:Int)]) _ _ _ n.strokes _ (Nat.le_trans HB.out A2.out.size) H2.out (hs.below (by rw[hbase.out];exact(AW.out.below hbw.out).trans (A2.out.below HB.out))) (fun h0=>AP.out _ h0) (fun z hz=>Z0a (hsm.2.1 z hz)) HL2.out).mono ?_;rintro e w3 ⟨a3,c3,rfl,h1,h2⟩;have H3:=zH h1;clear h1;have A3:=zH (A2.out.trans h2);clear h2 e15;obtain⟨X,HXX⟩ : ∃X,Hid (X=xs ++ ZA (ZX n) ++ ZA [(n.strokes.length:Int)] ++ ZA n.strokes):=⟨_,zH rfl⟩;rw[<-HXX.out]at H3 ⊢;obtain⟨m3,HM3⟩ : ∃m3,Hid (m3=X.length):=⟨_,zH rfl⟩;rw[<-HM3.out]at H3 ⊢;have HLQ:Hid ((X ++ ZA (ZQ n)).length<=140737488355328):=zH (by rw[HXX.out];exact HL3.out);go_wp2_with fail;go_loopw [5,9,39] (fun b _ i wr=>∃(k m:Nat) (a':zA) (c':Nat),b = .slice a' m c'/\k<=3/\i = .int .i64 k/\Hid (wr.ownsRow base 5 1 (.slice a' m c') m ((X ++ ZA ((ZQ n).take k)).map Zs))/\Hid (Jc base wf wr)) (fun _ _ i _=>3 - (intOf i).toNat)
   case atStart=>exact⟨0,_,a3,c3,rfl,Nat.zero_le _,rfl,zH (by simpa [ZA] using H3.out),A3⟩
   case round=>
    obtain⟨k,m,a',c',rfl,hk,rfl,HW,HA⟩:=hrel;by_cases hlt:k < 3
    ·have e1:wr.cell? ⟨Q,k,none⟩=some (.pointer (some ⟨base,16+k,none⟩)):=Z6 ((HA.out.block _ LQ.out.1 LQ.out.2.1).trans LQ.out.2.2) _ _ (Z1J base k hlt);have e2:wr.cell? ⟨base,16+k,none⟩=some (.int .i64 ((ZQ n)[k]?.getD 0)):=Z6 ((HA.out.block _ LN.out.1 LN.out.2.1).trans LN.out.2.2) _ _ (Z2Y n sa sc k hlt);have hzk:Jl ((ZQ n)[k]?.getD 0):=Z0a (hsm.2.2.1 _ (by rw[List.getElem?_eq_getElem (show k < (ZQ n).length from hlt),Option.getD_some];exact List.getElem_mem _));have HT:=zH (Z0A (l:=ZQ n) (k:=k) hlt);have hz63:(k:Int)<=9223372036854775807:=by omega
     have hln:((X ++ ZA ((ZQ n).take k)) ++ ZA [(ZQ n)[k]?.getD 0]).length<=140737488355328:=by
      have h1:=HLQ.out;have h2:=Z3m (ZQ n) (k+1);rw[Jy,List.append_assoc,<-HT.out];simp only[List.length_append]at h1 ⊢;omega
     have HLN:=zH hln;clear hln;have HZK:=zH hzk;clear hzk;have HSB:=zH (Nat.le_trans HB.out HA.out.size);generalize (ZQ n)[k]?.getD 0=z at *;go_wp2_with fail;refine(VG base _ _ _ (X ++ ZA ((ZQ n).take k)) _ 1 1 [z] _ ?_ (Zd HW.out (zB _ _)) (Z27 wr z) (fun _=>Z28 base wr z) (by simpa using HZK.out) HLN.out).mono ?_
     ·simp;exact Nat.le_succ_of_le HSB.out
     rintro e w3 ⟨a3,c3,rfl,h1,h2⟩;have HE:Hid (X ++ ZA ((ZQ n).take k) ++ ZA [z]=X ++ ZA ((ZQ n).take (k+1))):=zH (by rw[Jy,List.append_assoc,<-HT.out]);rw[HE.out]at h1;rw[HE.out];obtain⟨m3,HM3⟩ : ∃m3,Hid (m3=(X ++ ZA ((ZQ n).take (k+1))).length):=⟨_,zH rfl⟩;rw[<-HM3.out]at h1 ⊢;have H1:=zH h1;clear h1;have H2:=zH (HA.out.trans ((Jc.of_below (zB _ _)).trans h2));clear h2;go_wp2;go_roundw
     case rel=>exact⟨k+1,_,a3,c3,rfl,by omega,by go_num,H1,H2⟩
     case measure=>simp[intOf];omega
    ·have hkn:k=3:=by omega
     subst hkn;have HX:Hid ((ZQ n).take 3=ZQ n):=zH rfl;rw[HX.out]at HW;have hm:m=(X ++ ZA (ZQ n)).length:=by
      have:=HW.out.1;simpa using this.symm
     have hX:X ++ ZA (ZQ n)=Y7 n:=by
      rw[HXX.out,hxs.out,Jy];unfold Y7;simp only[List.nil_append,List.append_assoc]
     rw[hX]at hm HW;subst hm;go_wp2;go_ret;exact⟨_,_,rfl,by rw[hbase.out];exact HW.out,by rw[hbase.out];exact(AW.out.below hbw.out).trans (HA.out.below HB.out)⟩
end
theorem Ze2 {w:World}{k:Nat}{a:zA}{n c:Nat}{xs:List Value}(hr:ZW w k a n c xs)(h0:0 < n)(hk:0 < k): ∀b off,a=some ⟨b,off,none⟩->b < w.heap.size:=by
 intro b off e;obtain⟨b',off',e',hc⟩:=hr.at h0;rw[e]at e';cases e';have hl:0 < xs.length:=by rw[hr.len];exact Nat.mul_pos h0 hk
 exact World.block_lt_of_cell? w _ (hc 0 _ (List.getElem?_eq_getElem hl))
def Qs (l:zU)(i:Nat):Nat:=(l[i]?.getD 0).toNat+256 * (l[i+1]?.getD 0).toNat
theorem ZdH (l:zU)(i:Nat):Qs l i < 65536:=by
 have h1:=(l[i]?.getD 0).toNat_lt;have h2:=(l[i+1]?.getD 0).toNat_lt;unfold Qs;omega
def UE:Nat->zU->zU->List (zU)
 | 0,_,_=>[]
 | k+1,st,fo=>
  if 2<=st.length/\4<=fo.length/\Qs st 0<=8192/\Qs st 0+2<=st.length/\fo.take 4=ZK ((st.drop 2).take (Qs st 0))then
   ((st.drop 2).take (Qs st 0)) :: UE k (st.drop (Qs st 0+2)) (fo.drop 4)
  else []
def Zt (st fo:zU):List (zU):=UE (fo.length / 4) st fo
def sOf (ls:List (zU)):Nat:=(ls.map fun b=>b.length+2).sum
theorem Z48: ∀(k m:Nat) (st fo:zU),fo.length / 4<=k->fo.length / 4<=m->UE k st fo=UE m st fo
 | 0,0,_,_,_,_=>rfl
 | 0,m+1,st,fo,h,_=>by
  simp only[UE]
  rw[if_neg (by omega)]
 | k+1,0,st,fo,_,h=>by
  simp only[UE]
  rw[if_neg (by omega)]
 | k+1,m+1,st,fo,h1,h2=>by
  simp only[UE]
  split
  ·rename_i h
   rw[Z48 k m]
   ·simp only[List.length_drop];omega
   ·simp only[List.length_drop];omega
  ·rfl
theorem zh {st fo:zU}(h1:2<=st.length)(h2:4<=fo.length)(h3:Qs st 0<=8192)(h4:Qs st 0+2<=st.length)(h5:fo.take 4=ZK ((st.drop 2).take (Qs st 0))):
  Zt st fo=((st.drop 2).take (Qs st 0)) :: Zt (st.drop (Qs st 0+2)) (fo.drop 4):=by
 unfold Zt;obtain⟨k,hk⟩ : ∃k,fo.length / 4=k+1:=⟨fo.length / 4 - 1,by omega⟩;rw[hk,UE,if_pos ⟨h1,h2,h3,h4,h5⟩];congr 1;apply Z48
 ·simp only[List.length_drop];omega
 ·simp
theorem QC {st fo:zU}(h : ¬(2<=st.length/\4<=fo.length/\Qs st 0<=8192/\Qs st 0+2<=st.length/\fo.take 4=ZK ((st.drop 2).take (Qs st 0)))):Zt st fo=[]:=by
 unfold Zt;cases hk:fo.length / 4 with
 | zero=>rfl
 | succ k=>rw[UE,if_neg h]
theorem VS (l:zU)(i j:Nat):Qs (l.drop i) j=Qs l (i+j):=by
 simp[Qs,List.getElem?_drop,Nat.add_assoc]
theorem Z1D {fo b:zU}(h:4<=fo.length)(hb:b.length < 65536):fo.take 4=ZK b↔Qs fo 0=b.length/\Qs fo 2=chk b:=by
 obtain⟨x,y,z,u,r,rfl⟩ : ∃x y z u r,fo=x :: y :: z :: u :: r:=by
  match fo,h with
  | x :: y :: z :: u :: r,_=>exact⟨x,y,z,u,r,rfl⟩
 have hc:=Zce b;have tw : ∀(x y:UInt8) (n:Nat),n < 65536->([x,y]=two n↔x.toNat+256 * y.toNat=n):=by
  intro x y n hn;have hx:=x.toNat_lt;have hy:=y.toNat_lt;simp only[two,List.cons.injEq,and_true,<-UInt8.toNat_inj,UInt8.toNat_ofNat'];omega
 have e1:(x :: y :: z :: u :: r).take 4=[x,y] ++ [z,u]:=rfl;rw[e1,ZK,show Qs (x :: y :: z :: u :: r) 0=x.toNat+256 * y.toNat from rfl,show Qs (x :: y :: z :: u :: r) 2=z.toNat+256 * u.toNat from rfl,<-tw x y _ hb,<-tw z u _ (by omega)];constructor
 ·intro h;exact List.append_inj h rfl
 ·rintro⟨h1,h2⟩;rw[h1,h2]
def XS (w:World)(base:Nat)(a:zA)(n c:Nat)(ls:List (zU)):Prop:=
 ∃vs:List Value,w.ownsRow base 41 1 (.slice a n c) n vs/\ls.length=n /\ ∀i,i < n -> ∃ai ci,vs[i]? = some (.slice ai (ls[i]?.getD []).length ci)/\w.ownsRow 0 5 1 (.slice ai (ls[i]?.getD []).length ci) (ls[i]?.getD []).length ((ls[i]?.getD []).map Zs)
theorem XS.rd {w:World}{base:Nat}{a:zA}{n c:Nat}{ls:List (zU)}(h:XS w base a n c ls):Z2B w a n c ls:=by
 obtain⟨vs,h1,h2,h3⟩:=h;refine⟨vs,ZW.of_own h1,h2,fun i hi=>?_⟩;obtain⟨ai,ci,h4,h5⟩:=h3 i hi;exact⟨ai,ci,h4,Yg.of_own h5⟩
theorem XS.nil (w:World)(base:Nat):XS w base none 0 0 []:=⟨[],World.ownsRow_nil _ _ _ _,rfl,fun i hi=>by omega⟩
theorem XS.below {w w':World}{base:Nat}{a:zA}{n c:Nat}{ls:List (zU)}(h:XS w base a n c ls)(hb:Below w.heap.size w w'):XS w' base a n c ls:=by
 obtain⟨vs,h1,h2,h3⟩:=h;refine⟨vs,Zd h1 hb,h2,fun i hi=>?_⟩;obtain⟨ai,ci,h4,h5⟩:=h3 i hi;exact⟨ai,ci,h4,Zd h5 hb⟩
theorem XS.lt {w:World}{base:Nat}{a:zA}{n c:Nat}{ls:List (zU)}(h:XS w base a n c ls): ∀k,Value.ownBlock (.slice a n c)=some k->base<=k/\k < w.heap.size:=by
 obtain⟨vs,h1,_⟩:=h;exact h1.lt
theorem Z5d {w w':World}{base base':Nat}{e e':TypeId}(hne:e≠e'){k k':Nat}{v v':Value}{n n':Nat}{xs xs':List Value}(h:w.ownsRow base e k v n xs)(h':w.ownsRow base' e' k' v' n' xs')(hg:w.grownBy w' v'.ownBlock):w'.ownsRow base e k v n xs:=by
 refine h.kept hg ?_;rcases h.2 with ⟨rfl,_⟩ | ⟨g,cap,cur,rfl,_,hgg,_⟩
 ·exact .inl rfl
 ·right;rcases h'.2 with ⟨rfl,_⟩ | ⟨g',cap',cur',rfl,_,hgg',_⟩
  ·simp[Value.ownBlock]
  ·simp only[Value.ownBlock,ne_eq,Option.some.injEq];intro e;subst e;rw[hgg]at hgg';simp only[Option.some.injEq,Obj.cells.injEq]at hgg';exact hne hgg'.2.1
theorem Za0:(zq.info? 41).map (fun i=>(i.zero,i.size,i.bytes))=some (some (.slice none 0 0),1,24):=by kernel_rfl
theorem Z6N (w:World)(ty:TypeId)(base:Nat)(sa:zA)(sn sc:Nat)(xs:List (zU))(hown:XS w base sa sn sc xs)
  (g:Nat) (ya:zA) (m yc:Nat) (l:zU) (hc:w.cell? ⟨g,0,none⟩=some (.slice ya m yc))
  (hy:w.ownsRow 0 5 1 (.slice ya m yc) m (l.map Zs)) (hbytes:sn+1<=16777216) (hbase:base<=w.heap.size):
  ∃a' c' w',(Builtin.append_ #[98,98] ty #[.slice sa sn sc,.slice (some ⟨g,0,none⟩) 1 1]).run zq w = .ok (.slice a' (sn+1) c') w'/\XS w' base a' (sn+1) c' (xs ++ [l])/\w.grownBy w' (Value.ownBlock (.slice sa sn sc)):=by
 obtain⟨i,hi,hz0,hz1,hz2⟩:=info_parts Za0;obtain⟨vs,h1,h2,h3⟩:=hown;have hlen:l.length=m:=by simpa using hy.1
 subst hlen;have hrd:ZW w 1 (some ⟨g,0,none⟩) 1 1 [.slice ya l.length yc]:=by
  refine⟨rfl,Nat.le_refl _,by unfold maxLen;omega,.inr ⟨g,0,rfl,fun i x hx=>?_⟩⟩
  match i,hx with
  | 0,hx=>simp at hx;subst hx;exact hc
 obtain⟨a',c',w',hr,ho',hg'⟩:=Yk (P:=zq) w base 98 ty 41 i (.slice none 0 0) 1 24 Tryz.underlying98 hi hz0 hz1 hz2 rfl (by decide) sa sn sc vs h1 _ 1 1 _ hrd (by intro u hu;simp at hu;subst hu;rfl) (by unfold maxLen;omega) (by omega) hbase;refine⟨a',c',w',hr,⟨_,ho',by simp[h2],fun i hi=>?_⟩,hg'⟩;have hvl:vs.length=sn:=by simpa using h1.1
 by_cases hin:i < sn
 ·obtain⟨ai,ci,h4,h5⟩:=h3 i hin;have e1:(xs ++ [l])[i]? = xs[i]? := List.getElem?_append_left (by omega);have e2:(vs ++ [.slice ya l.length yc])[i]? = vs[i]? := List.getElem?_append_left (by omega);rw[e1,e2];exact⟨ai,ci,h4,Z5d (by decide) h5 h1 hg'⟩
 ·have hi':i=sn:=by omega
  have e1:(xs ++ [l])[i]? = some l:=by rw[List.getElem?_append_right (by omega)];simp[hi',h2]
  have e2:(vs ++ [.slice ya l.length yc])[i]? = some (.slice ya l.length yc):=by rw[List.getElem?_append_right (by omega)];simp[hi',hvl]
  rw[e1,e2];exact⟨ya,yc,rfl,Z5d (by decide) hy h1 hg'⟩
theorem Z2G (w:World){ops:Array Oper}{rest:List Oper}{o:Oper}{a:Act}{Q:Exit->Act->World->Prop}(hgd:o.guard=none)(x:Operand)(lo hi:Option Operand)
  (ho:o.op = .slice 41 x lo hi none) (xa:zA) (n c:Nat) (l:zU) (hx:a.eval x = .slice xa n c) (hrd:Yg w xa n c l) (L H:Nat)
  (hl:(lo=none/\L=0) \/ ∃q kd,lo=some q/\a.eval q = .int kd (L:Int)) (hh:(hi=none/\H=n) \/ ∃q kd,hi=some q/\a.eval q = .int kd (H:Int)) (h1:L<=H) (h2:H<=n)
  (h : ∀a',Yg w a' (H - L) (c - L) ((l.drop L).take (H - L))->wpList zq ops Q rest (a.put o.dst (.slice a' (H - L) (c - L))) w):wpList zq ops Q (o :: rest) a w:=by
 obtain⟨i,hi',hz0,hz1,hz2⟩:=info_parts UF;refine Z33 w hgd x lo hi 41 ho 5 i 1 Tryz.underlying41 hi' hz1 xa n c _ hx hrd L H hl hh h1 h2 (fun a' hr=>h a' ?_);unfold Yg;rw[List.map_take,List.map_drop];simpa using hr
theorem Z6I (d:List (zU))(b:zU):sOf (d ++ [b])=sOf d+(b.length+2):=by simp[sOf]
def Xn (st:zU)(S:Nat):zU:=(st.drop (S+2)).take (Qs st S)
def Z1S (st fo:zU)(S F:Nat):Prop:=
 S+2<=st.length/\F+4<=fo.length/\Qs st S<=8192/\S+2+Qs st S<=st.length/\Qs fo F=Qs st S/\Qs fo (F+2)=chk (Xn st S)
theorem zt {st:zU}{S:Nat}(h:S+2+Qs st S<=st.length):(Xn st S).length=Qs st S:=by
 simp only[Xn,List.length_take,List.length_drop];omega
theorem Z0o (st fo:zU)(S F:Nat):Z1S st fo S F ↔
  (2<=(st.drop S).length/\4<=(fo.drop F).length/\Qs (st.drop S) 0<=8192/\Qs (st.drop S) 0+2<=(st.drop S).length/\(fo.drop F).take 4=ZK (((st.drop S).drop 2).take (Qs (st.drop S) 0))):=by
 have hb:((st.drop S).drop 2).take (Qs (st.drop S) 0)=Xn st S:=by rw[List.drop_drop,VS,Xn,Nat.add_zero]
 rw[hb,VS,Nat.add_zero];simp only[List.length_drop];constructor
 ·rintro⟨h1,h2,h3,h4,h5,h6⟩;refine⟨by omega,by omega,h3,by omega,?_⟩;rw[Z1D (by simp only[List.length_drop];omega) (by rw[zt h4];omega),zt h4,VS,VS];exact⟨h5,h6⟩
 ·rintro⟨h1,h2,h3,h4,h5⟩;have h4':S+2+Qs st S<=st.length:=by omega
  rw[Z1D (by simp only[List.length_drop];omega) (by rw[zt h4'];omega),zt h4',VS,VS]at h5;exact⟨by omega,by omega,h3,h4',h5.1,h5.2⟩
theorem Z9X {st fo:zU}{S F:Nat}(h : ¬Z1S st fo S F):Zt (st.drop S) (fo.drop F)=[]:=QC (fun h'=>h ((Z0o st fo S F).2 h'))
theorem ZcH {st fo:zU}{S F:Nat}(h:Z1S st fo S F):Zt (st.drop S) (fo.drop F)=Xn st S :: Zt (st.drop (S+(2+Qs st S))) (fo.drop (F+4)):=by
 obtain⟨h1,h2,h3,h4,h5⟩:=(Z0o st fo S F).1 h;rw[zh h1 h2 h3 h4 h5];simp only[List.drop_drop,VS,Nat.add_zero,Xn];rw[show S+(Qs st S+2)=S+(2+Qs st S)by omega]
def ZG (rec:LoopState->Option Code->Loop)(D:Nat)(st:LoopState)(pe:Option Code)(W:World):Prop:=
 W.heap[D+1]? = some (.loop (rec st pe))/\W.heap[D]? = some (.deferred (some []))
theorem ZG.kept {rec:LoopState->Option Code->Loop}{D:Nat}{st:LoopState}{pe:Option Code}{W W':World}(h:ZG rec D st pe W)(hk:KeepsFrom D W W'):ZG rec D st pe W':=
 ⟨hk.same _ _ (by omega) h.1 rfl,hk.same _ _ (Nat.le_refl _) h.2 rfl⟩
def Z6O (D:Nat)(B:World->Prop)(X:Code->World->Prop)(W:World):Exit->Act->World->Prop
 | .normal,_,W'=>KeepsFrom D W W'/\B W'
 | .ret,_,W'=>KeepsFrom D W W'/\X .ret W'
 | .exit id,_,W'=>KeepsFrom D W W'/\X (.exit id) W'
 | .goto t,_,W'=>KeepsFrom D W W'/\X (.goto t) W'
 | .panic _,_,_=>False
 | .outgrown,_,_=>False
theorem Z5F {P:Program}{σ:Type}{n:Nat}{g:Operand}{ps:Array Tmp}{assign body:Code}{Q:Exit->Act->World->Prop}{a:Act}{w:World}
  {gf:Nat} {lb:ZV} (hg:a.eval g = .func (.func gf) #[] lb) (eg : ∀args w,(callFunc gf args).run P w = .ok (.enter gf args) w)
  (encs:σ->ZV) (hps : ∀x,(encs x).size=ps.size)
  (A B:σ->World->Prop) (X:Code->σ->World->Prop) (Done:World->Prop) (Stop:Code->World->Prop)
  (hA : ∀s W o,A s W->(∃r,W.heap[w.heap.size+1]? = some (.loop r))->A s (W.putObj (w.heap.size+1) (.loop o)))
  (hB : ∀s W o,B s W->(∃r,W.heap[w.heap.size+1]? = some (.loop r))->B s (W.putObj (w.heap.size+1) (.loop o)))
  (hX : ∀c s W o,X c s W->(∃r,W.heap[w.heap.size+1]? = some (.loop r))->X c s (W.putObj (w.heap.size+1) (.loop o)))
  (hDone : ∀W o,Done W->(∃r,W.heap[w.heap.size+1]? = some (.loop r))->Done (W.putObj (w.heap.size+1) (.loop o)))
  (hStop : ∀c W o,Stop c W->(∃r,W.heap[w.heap.size+1]? = some (.loop r))->Stop c (W.putObj (w.heap.size+1) (.loop o)))
  (a₁:σ->Act)
  (hassign : ∀(s:σ) (W:World) (K:Act->World->Prop),A s W->K (a₁ s) W->
   assign.wpIn (Fence.wide.inRound (w.heap.size+1)) (n - 1) P (Exit.then K (fun _ _ _=>False)) { tmps:=(ps.zip (encs s)).foldl (fun t (p,v)=>t.setIfInBounds p v) a.tmps,defers:=[] } W)
  (hbody : ∀(s:σ) (W:World),A s W->(∃r,W.heap[w.heap.size+1]? = some (.loop r))->W.heap[w.heap.size]? = some (.deferred (some []))->body.wpIn (Fence.wide.inRound (w.heap.size+1)) (n - 1) P (Z6O w.heap.size (B s) (fun c=>X c s) W) (a₁ s) W)
  (hiter : ∀(rec:LoopState->Option Code->Loop),
   ZG rec w.heap.size .ready none ((w.alloc (.deferred (some []))).alloc (.loop (rec .ready none)))->
   (∀s W,A s W->ZG rec w.heap.size .ready none W->YieldAt Fence.wide (n - 1) P (w.heap.size+1) (encs s) W fun e W'=>
    (e = .returned (.bool true)/\B s W'/\ZG rec w.heap.size .ready none W')\/(∃c,e = .returned (.bool false)/\X c s W'/\ZG rec w.heap.size .done (some c) W'))->
   CallsIn Fence.wide n P gf (#[.func (.yield (w.heap.size+1)) #[] #[]] ++ lb) ((w.alloc (.deferred (some []))).alloc (.loop (rec .ready none))) fun e W'=>
    (∃v,e = .returned v)/\((Done W'/\ZG rec w.heap.size .ready none W')\/(∃c,Stop c W'/\ZG rec w.heap.size .done (some c) W')))
  (hdone : ∀(W:World),Done W->W.heap[w.heap.size]? = some (.deferred (some []))->Q .normal { a with defers := { target := .collected w.heap.size,args := #[] } :: a.defers } W)
  (hstop : ∀(c:Code) (W:World),Stop c W->W.heap[w.heap.size]? = some (.deferred (some []))->c.wpIn Fence.wide (n+1) P Q { a with defers := { target := .collected w.heap.size,args := #[] } :: a.defers } W):
  (Code.rangeFunc g ps assign body).wpIn Fence.wide (n+1) P Q a w:=by
 refine wpIn_rangeFunc ?_;intro fn hfn;obtain⟨rec,hrec⟩ : ∃rec:LoopState->Option Code->Loop,rec=fun st pe=>{ state:=st,pending:=pe,fn,tmps:=a.tmps,params:=ps,assign,body,defers:=w.heap.size } := ⟨_,rfl⟩;have hnew:ZG rec w.heap.size .ready none ((w.alloc (.deferred (some []))).alloc (.loop (rec .ready none))):=by
  refine⟨?_,(Below.heap_alloc _ _ _ (by simp)).trans (World.alloc_heap_new w _)⟩;have:=World.alloc_heap_new (w.alloc (.deferred (some []))) (.loop (rec .ready none));rwa [World.size_alloc]at this
 have hput : ∀(W:World) (st st':LoopState) (pe pe':Option Code),ZG rec w.heap.size st pe W->ZG rec w.heap.size st' pe' (W.putObj (w.heap.size+1) (.loop (rec st' pe'))):=
  fun W st st' pe pe' h=>⟨World.putObj_heap_same (Array.getElem?_eq_some_iff.1 h.1).1,(World.putObj_heap_other (by omega)).trans h.2⟩
 refine⟨w.heap.size+1,[{ target := .collected w.heap.size,args := #[] }],(w.alloc (.deferred (some []))).alloc (.loop (rec .ready none)),{ target := .fn (.func gf) lb,args := #[.func (.yield (w.heap.size+1)) #[] #[]] },(w.alloc (.deferred (some []))).alloc (.loop (rec .ready none)),gf,
  #[.func (.yield (w.heap.size+1)) #[] #[]] ++ lb,(w.alloc (.deferred (some []))).alloc (.loop (rec .ready none)),?_,?_,?_,?_,?_,?_⟩
 ·rw[hrec];exact run_enterLoop_outer _ _ _ _ _
 ·simp only[resolve,hg];simp[go_sem]
 ·intro f' _;trivial
 ·simp[invoke,go_sem,eg]
 ·intro h;simp[Fence.wide]at h
 ·rw[Nat.add_sub_cancel];refine(hiter rec hnew ?_).mono ?_
  ·intro s W hs hl;have hy:=run_yield (P:=P) (args:=encs s) hl.1 (by rw[hrec];exact hps s);rw[hrec]at hy;refine⟨fn,_,assign,body,hy,roundIn_of_wpIn hfn (hassign s W _ hs ⟨_,run_beginRound hl.1 (by rw[hrec]),?_⟩)⟩;have hbusy:({ rec .ready none with state := .busy } : Loop)=rec .busy none:=by rw[hrec]
   rw[hbusy];have hl2:=hput W .ready .busy none none hl;refine wpIn_mono (hbody s _ (hA s W _ hs ⟨_,hl.1⟩) ⟨_,hl2.1⟩ hl2.2) ?_;have fin : ∀(jump:Option Code) (W3:World),KeepsFrom w.heap.size (W.putObj (w.heap.size+1) (.loop (rec .busy none))) W3->
     (Instr.endRound (w.heap.size+1) jump).run P W3 = .ok (.bool jump.isNone) (W3.putObj (w.heap.size+1) (.loop (rec (if jump.isNone then .ready else .done) jump))) /\
     ZG rec w.heap.size .busy none W3/\ZG rec w.heap.size (if jump.isNone then .ready else .done) jump (W3.putObj (w.heap.size+1) (.loop (rec (if jump.isNone then .ready else .done) jump))):=fun jump W3 hk=>by
    have h3:=hl2.kept hk;have hr:=run_endRound (P:=P) jump h3.1;rw[hrec]at hr ⊢;exact⟨hr,by rw[hrec]at h3;exact h3,by have:=hput W3 .busy (if jump.isNone then .ready else .done) none jump h3;rw[hrec]at this;exact this⟩
   rintro e a3 W3 hp;cases e with
   | normal=>
    obtain⟨hk,hb⟩:=hp;obtain⟨hr,h3,h4⟩:=fin none W3 hk;exact⟨_,_,hr,.inl ⟨rfl,hB s W3 _ hb ⟨_,h3.1⟩,h4⟩⟩
   | ret=>
    obtain⟨hk,hb⟩:=hp;obtain⟨hr,h3,h4⟩:=fin (some .ret) W3 hk;exact⟨_,_,hr,.inr ⟨.ret,rfl,hX _ s W3 _ hb ⟨_,h3.1⟩,h4⟩⟩
   | exit id=>
    obtain⟨hk,hb⟩:=hp;obtain⟨hr,h3,h4⟩:=fin (some (.exit id)) W3 hk;exact⟨_,_,hr,.inr ⟨.exit id,rfl,hX _ s W3 _ hb ⟨_,h3.1⟩,h4⟩⟩
   | goto t=>
    obtain⟨hk,hb⟩:=hp;obtain⟨hr,h3,h4⟩:=fin (some (.goto t)) W3 hk;exact⟨_,_,hr,.inr ⟨.goto t,rfl,hX _ s W3 _ hb ⟨_,h3.1⟩,h4⟩⟩
   | panic ch=>exact hp.elim
   | outgrown=>exact hp.elim
  ·rintro e W2 ⟨⟨v,rfl⟩,(⟨hd,hl⟩ | ⟨c,hs,hl⟩)⟩
   ·refine⟨none,_,by have:=run_endLoop (P:=P) hl.1 (by rw[hrec];simp);rw[hrec]at this;exact this,?_⟩;exact hdone _ (hDone W2 _ hd ⟨_,hl.1⟩) ((World.putObj_heap_other (by omega)).trans hl.2)
   ·refine⟨some c,_,by have:=run_endLoop (P:=P) hl.1 (by rw[hrec];simp);rw[hrec]at this;exact this,?_⟩;exact hstop c _ (hStop c W2 _ hs ⟨_,hl.1⟩) ((World.putObj_heap_other (by omega)).trans hl.2)
attribute [local go_sem] Oper.semAt_some
theorem Zar {F:Fence}{n:Nat}(w:World){ops:Array Oper}{rest:List Oper}{o:Oper}{a:Act}{Q:Exit->Act->World->Prop}(hgd:o.guard=none)(s x:Operand)
  (ho:o.op = .call { callee := .builtin .append,args := #[s,x],argTypes := #[98,98] }) (base:Nat)
  (sa:zA) (sn sc:Nat) (xs:List (zU)) (hs:a.eval s = .slice sa sn sc) (hown:XS w base sa sn sc xs)
  (g:Nat) (ya:zA) (m yc:Nat) (l:zU) (hx:a.eval x = .slice (some ⟨g,0,none⟩) 1 1) (hc:w.cell? ⟨g,0,none⟩=some (.slice ya m yc))
  (hy:w.ownsRow 0 5 1 (.slice ya m yc) m (l.map Zs)) (hbytes:sn+1<=16777216) (hbase:base<=w.heap.size)
  (h : ∀a' c' w',XS w' base a' (sn+1) c' (xs ++ [l])->w.grownBy w' (Value.ownBlock (.slice sa sn sc))->wpListIn F n zq ops Q rest (a.put o.dst (.slice a' (sn+1) c')) w'):
  wpListIn F n zq ops Q (o :: rest) a w:=by
 obtain⟨a',c',w',hr,h2,h3⟩:=Z6N w o.type base sa sn sc xs hown g ya m yc l hc hy hbytes hbase;refine wpListIn_plain hgd fun K hK=>?_;unfold Oper.wpIn;refine⟨?_,?_⟩
 ·simp[Oper.about,ho,resolve,Target.leads,Sem.run_pure]
 ·rw[Oper.semAt_plain F _ _ (by rw[ho];intro c hc';cases hc')];simp[execOp,ho,resolve,invoke,builtin,hs,hx,hr,Result.andThen];exact hK _ _ (h a' c' w' h2 h3)
structure Za (S:Nat->Prop)(W W':World):Prop where
 os:W'.os=W.os
 tape:W'.tape=W.tape
 output:W'.output=W.output
 size:W.heap.size<=W'.heap.size
 block : ∀k,k < W.heap.size -> ¬S k->W'.heap[k]? = W.heap[k]?
theorem Za.of_below {S:Nat->Prop}{W W':World}(h:Below W.heap.size W W'):Za S W W':=⟨h.os,h.tape,h.output,h.size,fun k hk _=>h.block k hk⟩
theorem Za.of_grown {S:Nat->Prop}{W W':World}{row:Option Nat}(h:W.grownBy W' row)(hr : ∀k,row=some k->S k):Za S W W':=
 ⟨h.os,h.tape,h.output,h.size,fun k hk hs=>h.block k hk (fun e=>hs (hr k e.symm))⟩
theorem Za.trans {S:Nat->Prop}{A B C:World}(h:Za S A B)(k:Za S B C):Za S A C:=
 ⟨k.os.trans h.os,k.tape.trans h.tape,k.output.trans h.output,Nat.le_trans h.size k.size,fun i hi hs=>(k.block i (Nat.lt_of_lt_of_le hi h.size) hs).trans (h.block i hi hs)⟩
theorem Za.below {S:Nat->Prop}{B:Nat}{A W W':World}(h:Za S W W')(hb:Below B A W)(hB:B<=W.heap.size)(hs : ∀k,S k->B<=k):Below B A W':=
 hb.trans ⟨h.os,h.tape,h.output,h.size,fun k hk=>h.block k (by omega) (fun e=>by have:=hs k e;omega)⟩
theorem JP {S:Nat->Prop}{W W':World}{base:Nat}{e:TypeId}{k:Nat}{v:Value}{n:Nat}{xs:List Value}(h:W.ownsRow base e k v n xs)(hs:Za S W W')
  (hd : ∀b cur fr,S b->W.heap[b]? ≠ some (.cells cur e fr)\/b < base):W'.ownsRow base e k v n xs:=by
 refine⟨h.1,?_⟩;rcases h.2 with h | ⟨g,cap,cur,h,hg,hgg,hr⟩
 ·exact .inl h
 ·refine .inr ⟨g,cap,cur,h,hg,(hs.block g (Array.getElem?_eq_some_iff.1 hgg).1 (fun hsg=>?_)).trans hgg,hr⟩;rcases hd g cur (0,0) hsg with h' | h'
  ·exact h' hgg
  ·omega
theorem XS.same {S:Nat->Prop}{W W':World}{base:Nat}{a:zA}{n c:Nat}{ls:List (zU)}(h:XS W base a n c ls)(hs:Za S W W')
  (h1 : ∀b cur fr,S b->W.heap[b]? ≠ some (.cells cur 41 fr)\/b < base) (h2 : ∀b cur fr,S b->W.heap[b]? ≠ some (.cells cur 5 fr)):XS W' base a n c ls:=by
 obtain⟨vs,k1,k2,k3⟩:=h;refine⟨vs,JP k1 hs h1,k2,fun i hi=>?_⟩;obtain⟨ai,ci,k4,k5⟩:=k3 i hi;exact⟨ai,ci,k4,JP k5 hs (fun b cur fr hb=>.inl (h2 b cur fr hb))⟩
theorem Z6w (v v':Value)(hv : ∃a n c,v = .slice a n c)(hv' : ∃a n c,v' = .slice a n c)(w:World):
  Calls zq 108 #[v,v'] w fun e w'=>e = .returned (.func (.func 163) #[] #[.pointer (some ⟨w.heap.size,0,none⟩),.pointer (some ⟨w.heap.size+1,0,none⟩)]) /\
   (w.alloc (.cells #[v] 41)).alloc (.cells #[v'] 41)=w':=by
 obtain⟨a,n,c,rfl⟩:=hv;obtain⟨a',n',c',rfl⟩:=hv';go_enter Tryz.func108,Tryz.ntmps108;go_wp2;go_ret;exact⟨rfl,rfl⟩
def Box (W:World)(b:Nat)(t:TypeId)(v:Value):Prop:=W.heap[b]? = some (.cells #[v] t (0,0))
theorem Box.cell {W:World}{b:Nat}{t:TypeId}{v:Value}(h:Box W b t v):W.cell? ⟨b,0,none⟩=some v:=cell_of_one h
theorem Box.free {W:World}{b:Nat}{t:TypeId}{v:Value}(h:Box W b t v):W.frozen? ⟨b,0,none⟩=false:=free_of_one h
theorem Box.same {S:Nat->Prop}{W W':World}{b:Nat}{t:TypeId}{v:Value}(h:Box W b t v)(hs:Za S W W')(hn : ¬S b):Box W' b t v:=
 (hs.block b (Array.getElem?_eq_some_iff.1 h).1 hn).trans h
theorem Box.new (W:World)(t:TypeId)(v:Value){b:Nat}(hb:b=W.heap.size):Box (W.alloc (.cells #[v] t)) b t v:=by subst hb;exact heap_alloc_new W _
theorem Box.alloc {W:World}{b:Nat}{t:TypeId}{v:Value}(h:Box W b t v)(o:Obj):Box (W.alloc o) b t v:=h.same (Za.of_below (S:=fun _=>False) (zB _ o)) id
theorem Box.set {W:World}{b:Nat}{t:TypeId}{v:Value}(h:Box W b t v)(u:Value):Box (W.setCell ⟨b,0,none⟩ u) b t u:=one_setCell h
theorem Box.set_other {W:World}{b b':Nat}{t:TypeId}{v:Value}(h:Box W b t v)(u:Value)(hne:b≠b'):Box (W.setCell ⟨b',0,none⟩ u) b t v:=
 (Below.heap_setCell W ⟨b',0,none⟩ u b hne).trans h
theorem Za.setCell {S:Nat->Prop}{W:World}{b:Nat}(u:Value)(h:S b):Za S W (W.setCell ⟨b,0,none⟩ u):=Za.of_grown (grownBy_setCell' W b u) (fun k e=>by cases e;exact h)
def U4 (w:World)(W:World)(d:List (zU)):Prop:=
 ∃oa oc,Box W w.heap.size 98 (.slice oa d.length oc)/\XS W (w.heap.size+5) oa d.length oc d/\Box W (w.heap.size+1) 3 (.int .i64 (sOf d))/\Box W (w.heap.size+2) 3 (.int .i64 (4 * (d.length:Int)))/\Below w.heap.size w W/\w.heap.size+5<=W.heap.size
def Vv (w:World)(W:World)(l1 l2:zU):Prop:=
 ∃sa sc fa fc,Box W (w.heap.size+3) 41 (.slice sa l1.length sc)/\Yg w sa l1.length sc l1/\Box W (w.heap.size+4) 41 (.slice fa l2.length fc)/\Yg w fa l2.length fc l2
theorem U4.same {w W W':World}{d:List (zU)}(h:U4 w W d){S:Nat->Prop}(hs:Za S W W')(hS : ∀k,S k->w.heap.size+3<=k)
  (hd : ∀b cur fr,S b->(W.heap[b]? ≠ some (.cells cur 41 fr)\/b < w.heap.size+5)/\W.heap[b]? ≠ some (.cells cur 5 fr)):U4 w W' d:=by
 obtain⟨oa,oc,h1,h2,h3,h4,h5,h6⟩:=h;exact⟨oa,oc,h1.same hs (fun e=>by have:=hS _ e;omega),h2.same hs (fun b cur fr hb=>(hd b cur fr hb).1) (fun b cur fr hb=>(hd b cur fr hb).2),
  h3.same hs (fun e=>by have:=hS _ e;omega),h4.same hs (fun e=>by have:=hS _ e;omega),hs.below h5 h5.size (fun k e=>by have:=hS k e;omega),Nat.le_trans h6 hs.size⟩
theorem Vv.same {w W W':World}{l1 l2:zU}(h:Vv w W l1 l2){S:Nat->Prop}(hs:Za S W W')(h3 : ¬S (w.heap.size+3))(h4 : ¬S (w.heap.size+4)):Vv w W' l1 l2:=by
 obtain⟨sa,sc,fa,fc,k1,k2,k3,k4⟩:=h;exact⟨sa,sc,fa,fc,k1.same hs h3,k2,k3.same hs h4,k4⟩
theorem U4.putObj {w W:World}{d:List (zU)}(h:U4 w W d)(o:Loop)(hl : ∃r,W.heap[w.heap.size+5+1]? = some (.loop r)):U4 w (W.putObj (w.heap.size+5+1) (.loop o)) d:=by
 obtain⟨r,hl⟩:=hl;refine h.same (S:=fun k=>k=w.heap.size+5+1) (Za.of_grown (grownBy_putObj' W _ _) (fun k e=>by cases e;rfl)) (fun k e=>by omega) (fun b cur fr hb=>?_);subst hb;rw[hl];exact⟨.inl (by simp),by simp⟩
theorem Vv.putObj {w W:World}{l1 l2:zU}(h:Vv w W l1 l2)(o:Loop):Vv w (W.putObj (w.heap.size+5+1) (.loop o)) l1 l2:=
 h.same (S:=fun k=>k=w.heap.size+5+1) (Za.of_grown (grownBy_putObj' W _ _) (fun k e=>by cases e;rfl)) (by omega) (by omega)
theorem U4.below {w W W':World}{d:List (zU)}(h:U4 w W d)(hb:Below W.heap.size W W'):U4 w W' d:=
 h.same (S:=fun _=>False) (Za.of_below hb) (fun _ e=>e.elim) (fun _ _ _ e=>e.elim)
theorem Vv.below {w W W':World}{l1 l2:zU}(h:Vv w W l1 l2)(hb:Below W.heap.size W W'):Vv w W' l1 l2:=
 h.same (S:=fun _=>False) (Za.of_below hb) id id
theorem U4.step {w W W3:World}{d:List (zU)}{b:zU}{oa a':zA}{oc c':Nat}(h1:Box W w.heap.size 98 (.slice oa d.length oc))(h3:Box W (w.heap.size+1) 3 (.int .i64 (sOf d)))
  (h4:Box W (w.heap.size+2) 3 (.int .i64 (4 * (d.length:Int)))) (h5:Below w.heap.size w W) (h6:w.heap.size+5<=W.heap.size) (hs:Za (fun k=>w.heap.size+5<=k) W W3)
  (ho:XS W3 (w.heap.size+5) a' (d.length+1) c' (d ++ [b])):
  U4 w (((W3.setCell ⟨w.heap.size,0,none⟩ (.slice a' (d.length+1) c')).setCell ⟨w.heap.size+1,0,none⟩ (.int .i64 ((sOf d:Int)+((b.length:Int)+2)))).setCell ⟨w.heap.size+1+1,0,none⟩ (.int .i64 (4 * (d.length:Int)+4))) (d ++ [b]):=by
 have k1:=h1.same hs (by omega);have k3:=h3.same hs (by omega);have k4:=h4.same hs (by omega);have hA:=Za.setCell (S:=fun k=>k=w.heap.size\/k=w.heap.size+1\/k=w.heap.size+2) (W:=W3) (b:=w.heap.size) (.slice a' (d.length+1) c') (.inl rfl);have hB:=Za.setCell (S:=fun k=>k=w.heap.size\/k=w.heap.size+1\/k=w.heap.size+2) (W:=W3.setCell ⟨w.heap.size,0,none⟩ (.slice a' (d.length+1) c')) (b:=w.heap.size+1) (.int .i64 ((sOf d:Int)+((b.length:Int)+2))) (.inr (.inl rfl));have hC:=Za.setCell (S:=fun k=>k=w.heap.size\/k=w.heap.size+1\/k=w.heap.size+2) (W:=(W3.setCell ⟨w.heap.size,0,none⟩ (.slice a' (d.length+1) c')).setCell ⟨w.heap.size+1,0,none⟩ (.int .i64 ((sOf d:Int)+((b.length:Int)+2)))) (b:=w.heap.size+1+1) (.int .i64 (4 * (d.length:Int)+4)) (.inr (.inr rfl));have hall:=(hA.trans hB).trans hC;have hlen:(d ++ [b]).length=d.length+1:=by simp
 refine⟨a',c',?_,?_,?_,?_,?_,?_⟩
 ·rw[hlen];exact((k1.set _).set_other _ (by omega)).set_other _ (by omega)
 ·rw[hlen];refine ho.same hall (fun q cur fr hq=>.inr (by omega)) (fun q cur fr hq=>?_);rcases hq with rfl | rfl | rfl
  ·rw[show W3.heap[w.heap.size]? = _ from k1];simp
  ·rw[show W3.heap[w.heap.size+1]? = _ from k3];simp
  ·rw[show W3.heap[w.heap.size+2]? = _ from k4];simp
 ·have e:((sOf (d ++ [b]):Nat):Int)=(sOf d:Int)+((b.length:Int)+2):=by rw[Z6I];omega
  rw[e];exact((k3.set_other _ (by omega)).set _).set_other _ (by omega)
 ·have e:(4 * ((d ++ [b]).length:Int))=4 * (d.length:Int)+4:=by rw[hlen];omega
  rw[e];exact((k4.set_other _ (by omega)).set_other _ (by omega)).set _
 ·exact hall.below (hs.below h5 h5.size (fun k e=>by omega)) (Nat.le_trans h5.size hs.size) (fun k e=>by omega)
 ·exact Nat.le_trans h6 (Nat.le_trans hs.size hall.size)
def boxLen (W:World)(b:Nat):Nat:=match W.cell? ⟨b,0,none⟩with | some (.slice _ n _)=>n | _=>0
theorem Vv.boxLen {w W:World}{l1 l2:zU}(h:Vv w W l1 l2):boxLen W (w.heap.size+4)=l2.length:=by
 obtain⟨sa,sc,fa,fc,k1,k2,k3,k4⟩:=h;simp[Go.Proofs.YtlnhppgfhkkidaaGreat.boxLen,k3.cell]
theorem Zb6 (x y:Nat)(hx:x < 256)(hy:y < 256):bits .or .i64 (x:Int) ((y:Int) * 256)=((x+256 * y:Nat):Int):=by
 have h:=(bits_nat .i64 16 (by decide) (fun n h0 h1=>by rw[IntKind.wrap_i64];omega) x (256 * y) (by omega) (by omega)).2;have e:(256 * y:Nat)=2 ^ 8 * y:=by omega
 rw[show((y:Int) * 256)=((256 * y:Nat):Int)by omega,h,Nat.or_comm,e,<-Nat.two_pow_add_eq_or_of_lt (by omega) y];omega
theorem Z4p {w:World}{xa:zA}{n c:Nat}{l:zU}(hrd:Yg w xa n c l)(L H:Nat)(lo hi:Option Value)
  (hl:(lo=none/\L=0) \/ ∃kd,lo=some (.int kd (L:Int))) (hh:(hi=none/\H=n) \/ ∃kd,hi=some (.int kd (H:Int))) (h1:L<=H) (h2:H<=n):
  ∃a',(∀W,(Instr.sliceAt 41 (.slice xa n c) lo hi none).run zq W = .ok (.slice a' (H - L) (c - L)) W)/\Yg w a' (H - L) (c - L) ((l.drop L).take (H - L)):=by
 obtain⟨i,hi',hz0,hz1,hz2⟩:=info_parts UF;obtain⟨a',hs,hr⟩:=ZW.sliced hrd L H h1 h2;have hnc:=hrd.2.1;refine⟨a',fun W=>?_,?_⟩
 ·rw[<-hs];have hel:zq.elem 41=5:=by simp[Program.elem,Tryz.underlying41]
  rw[run_sliceAt_slice (P:=zq) W 41 _ _ _ _ (by rw[hel];exact Tryz.underlying41),run_slice_any (P:=zq) W 41 xa n c (by rw[hel];exact Tryz.underlying41)];have hb:(Instr.sliceBounds true n c lo hi none).run zq W = .ok (L,H,c) W:=by
   rcases hl with ⟨rfl,rfl⟩ | ⟨kd,rfl⟩ <;> rcases hh with ⟨rfl,rfl⟩ | ⟨kd',rfl⟩
   ·simp[Instr.sliceBounds]
   ·simp[Instr.sliceBounds,run_sliceBound,Result.andThen,(by omega:H<=c)]
   ·simp[Instr.sliceBounds,run_sliceBound,Result.andThen,h1]
   ·simp[Instr.sliceBounds,run_sliceBound,Result.andThen,(by omega:H<=c),h1]
  rw[hb,hel];simp[Result.andThen,sizeOf,typeInfo,hi',hz1]
 ·unfold Yg;rw[List.map_take,List.map_drop];simpa using hr
theorem Vv.step {w W:World}{d:List (zU)}{m1 m2:zU}{v1 v2:Value}(hT:U4 w W d)(j1:Box W (w.heap.size+3) 41 v1)(j3:Box W (w.heap.size+4) 41 v2)
  {na ma:zA} {nn mn nc mc:Nat} (h1:Yg w na nn nc m1) (h2:Yg w ma mn mc m2) {rec:LoopState->Option Code->Loop} (hl:ZG rec (w.heap.size+5) .ready none W):
  U4 w ((W.setCell ⟨w.heap.size+3,0,none⟩ (.slice na nn nc)).setCell ⟨w.heap.size+4,0,none⟩ (.slice ma mn mc)).drew d /\
  Vv w ((W.setCell ⟨w.heap.size+3,0,none⟩ (.slice na nn nc)).setCell ⟨w.heap.size+4,0,none⟩ (.slice ma mn mc)).drew m1 m2 /\
  ZG rec (w.heap.size+5) .ready none ((W.setCell ⟨w.heap.size+3,0,none⟩ (.slice na nn nc)).setCell ⟨w.heap.size+4,0,none⟩ (.slice ma mn mc)).drew:=by
 have hA:=Za.setCell (S:=fun k=>k=w.heap.size+3\/k=w.heap.size+4) (W:=W) (b:=w.heap.size+3) (.slice na nn nc) (.inl rfl);have hB:=Za.setCell (S:=fun k=>k=w.heap.size+3\/k=w.heap.size+4) (W:=W.setCell ⟨w.heap.size+3,0,none⟩ (.slice na nn nc)) (b:=w.heap.size+4) (.slice ma mn mc) (.inr rfl);have hC:=(hA.trans hB);have hall:Za (fun k=>k=w.heap.size+3\/k=w.heap.size+4) W ((W.setCell ⟨w.heap.size+3,0,none⟩ (.slice na nn nc)).setCell ⟨w.heap.size+4,0,none⟩ (.slice ma mn mc)).drew:=⟨hC.os,hC.tape,hC.output,hC.size,hC.block⟩;refine⟨hT.same hall (fun k e=>by omega) (fun b cur fr hb=>?_),?_,?_⟩
 ·rcases hb with rfl | rfl
  ·rw[show W.heap[w.heap.size+3]? = _ from j1];exact⟨.inr (by omega),by simp⟩
  ·rw[show W.heap[w.heap.size+4]? = _ from j3];exact⟨.inr (by omega),by simp⟩
 ·obtain rfl:=h1.len;obtain rfl:=h2.len;exact⟨na,nc,ma,mc,(j1.set _).set_other _ (by omega),h1,(j3.set_other _ (by omega)).set _,h2⟩
 ·exact⟨(hall.block _ (Array.getElem?_eq_some_iff.1 hl.1).1 (by omega)).trans hl.1,(hall.block _ (Array.getElem?_eq_some_iff.1 hl.2).1 (by omega)).trans hl.2⟩
theorem XS.cells {W:World}{base:Nat}{a:zA}{n c:Nat}{ls:List (zU)}(h:XS W base a n c ls): ∀(j:Nat) (o:Obj),Value.ownBlock (.slice a n c)=some j->W.heap[j]? = some o->o.isCells=true:=by
 obtain⟨vs,h1,_⟩:=h;intro j o hj ho;rcases h1.2 with ⟨h2,_⟩ | ⟨g,cap,cur,h2,_,hg,_⟩
 ·rw[h2]at hj;simp[Value.ownBlock]at hj
 ·rw[h2]at hj;simp only[Value.ownBlock,Option.some.injEq]at hj;subst hj;rw[hg]at ho;cases ho;rfl
theorem XS.mono {W:World}{base B:Nat}{a:zA}{n c:Nat}{ls:List (zU)}(h:XS W base a n c ls)(hB:B<=base):XS W B a n c ls:=by
 obtain⟨vs,h1,h2,h3⟩:=h;exact⟨vs,Zu h1 hB,h2,h3⟩
theorem Vv.step3 {w W W3:World}{l1 l2:zU}(h:Vv w W l1 l2)(hs:Za (fun k=>w.heap.size+5<=k) W W3)(v0 v1 v2:Value):
  Vv w (((W3.setCell ⟨w.heap.size,0,none⟩ v0).setCell ⟨w.heap.size+1,0,none⟩ v1).setCell ⟨w.heap.size+1+1,0,none⟩ v2) l1 l2:=by
 obtain⟨sa,sc,fa,fc,k1,k2,k3,k4⟩:=h;have j1:=k1.same hs (by omega);have j3:=k3.same hs (by omega);exact⟨sa,sc,fa,fc,((j1.set_other _ (by omega)).set_other _ (by omega)).set_other _ (by omega),k2,((j3.set_other _ (by omega)).set_other _ (by omega)).set_other _ (by omega),k4⟩
structure Z99 where
 d:List (zU)
 l1:zU
 l2:zU
 b:zU
 xa:zA
 xc:Nat
def Z9c (w:World)(s:Z99)(W:World):Prop:=
 U4 w W s.d/\Vv w W s.l1 s.l2/\W.ownsRow 0 5 1 (.slice s.xa s.b.length s.xc) s.b.length (s.b.map Zs)/\s.d.length+1<=4194304/\sOf s.d<=16777216/\s.b.length<=16777216
theorem ZG.below {rec:LoopState->Option Code->Loop}{D:Nat}{st:LoopState}{pe:Option Code}{W W':World}(h:ZG rec D st pe W)(hb:Below W.heap.size W W'):ZG rec D st pe W':=
 ⟨(hb.block _ (Array.getElem?_eq_some_iff.1 h.1).1).trans h.1,(hb.block _ (Array.getElem?_eq_some_iff.1 h.2).1).trans h.2⟩
theorem Zbp (k:Nat)(w:World)(st fo:zU)(hst:st.length<=16777216)(hfo:fo.length<=16777216)(rec:LoopState->Option Code->Loop)(W1:World)(h0:U4 w W1 [])(hL:Vv w W1 st fo)(hl:ZG rec (w.heap.size+5) .ready none W1)
  (hY : ∀s W,Z9c w s W->ZG rec (w.heap.size+5) .ready none W->YieldAt Fence.wide (k - 1) zq (w.heap.size+5+1) #[.slice s.xa s.b.length s.xc] W fun e W'=>
    (e = .returned (.bool true)/\(U4 w W' (s.d ++ [s.b])/\Vv w W' s.l1 s.l2)/\ZG rec (w.heap.size+5) .ready none W')\/(∃c,e = .returned (.bool false)/\False/\ZG rec (w.heap.size+5) .done (some c) W')):
  CallsIn Fence.wide k zq 163 #[.func (.yield (w.heap.size+5+1)) #[] #[],.pointer (some ⟨w.heap.size+3,0,none⟩),.pointer (some ⟨w.heap.size+4,0,none⟩)] W1 fun e W'=>
    (∃v,e = .returned v)/\((U4 w W' (Zt st fo)/\ZG rec (w.heap.size+5) .ready none W')\/(∃c:Code,False/\ZG rec (w.heap.size+5) .done (some c) W')):=by
 refine callsIn_of_wp Tryz.func163 rfl trivial ?_;simp only[Tryz.ntmps163,List.size_toArray,List.length_cons,List.length_nil,Nat.reduceAdd,Nat.reduceSub,Array.replicate_succ,Array.replicate_zero,List.push_toArray,List.append_toArray,List.nil_append,List.cons_append];gi_wp2;gi_loopw [4,5,6,7] (fun _ _ _ _ wr=>∃(d:List (zU)) (l1 l2:zU),U4 w wr d/\Vv w wr l1 l2/\ZG rec (w.heap.size+5) .ready none wr/\Hid (Zt st fo=d ++ Zt l1 l2)/\Hid (sOf d+l1.length=st.length)/\Hid (4 * d.length+l2.length=fo.length)) (fun _ _ _ _ wr=>boxLen wr (w.heap.size+4))
 case atStart=>exact⟨[],st,fo,h0,hL,hl,show _=_ by simp,show _=_ by simp[sOf],show _=_ by simp⟩
 case round=>
  obtain⟨d,l1,l2,hT,hLf,hla,HJ,HS,HD⟩:=hrel;have hbl:=zH hLf.boxLen;obtain⟨sa,sc,fa,fc,k1,k2,k3,k4⟩:=hLf;have c1:=k1.cell;have c2:=k3.cell;have m1:=ZW.maxn k2;have m2:=ZW.maxn k4;have hbw:Below w.heap.size w wr:=by obtain⟨_,_,_,_,_,_,h,_⟩:=hT;exact h
  have HE:Hid (¬Z1S l1 l2 0 0->Zt st fo=d):=by
   intro h;have:=Z9X h;rw[List.drop_zero,List.drop_zero]at this;rw[HJ.out,this,List.append_nil]
  by_cases h1:2<=l1.length
  ·by_cases h2:4<=l2.length
   ·have g1:decide ((2:Int)<=(l1.length:Int))=true:=by simp;omega
    have g2:decide ((4:Int)<=(l2.length:Int))=true:=by simp;omega
    have k2w:=k2.below hbw;have k4w:=k4.below hbw;obtain⟨b,off,rfl,hc⟩:=k2w.at (by omega);have hc0:=hc 0 (by omega);have hc1:=hc 1 (by omega);rw[Nat.add_zero]at hc0;clear hc;have q1:(0:Int) < (l1.length:Int):=by omega
    have q2:(1:Int) < (l1.length:Int):=by omega
    have q3:=zo l1 0;have q4:=zo l1 1;gi_wp2;gi_quiet (fail);have hor:=Zb6 (l1[0]?.getD 0).toNat (l1[1]?.getD 0).toNat (by omega) (by omega);have hN:=ZdH l1 0;have hat:(l1[0]?.getD 0).toNat+256 * (l1[1]?.getD 0).toNat=Qs l1 0:=rfl;rw[hat]at hor;rw[hor];clear hor hat hc0 hc1 q3 q4;generalize hNe:Qs l1 0=N at *;have HN:=zH hNe;clear hNe;have hT1:=hT.below (below_drewN (Below.refl _ _) nq);have hla1:=hla.below (below_drewN (Below.refl _ _) nq);have k1':Box (wr.drewN nq) (w.heap.size+3) 41 _:=k1;have k3':Box (wr.drewN nq) (w.heap.size+4) 41 _:=k3;by_cases h3:N<=8192
    ·have g3:decide ((8192:Int) < (N:Int))=false:=by simp;omega
     by_cases h4:N+2<=l1.length
     ·have g4:decide ((l1.length:Int) < (N:Int)+2)=false:=by simp;omega
      obtain⟨ba,hcut,hbr⟩:=Z4p k2 2 (N+2) (some (.int .i64 2)) (some (.int .i64 ((N:Int)+2))) (.inr ⟨_,rfl⟩) (.inr ⟨_,by go_num⟩) (by omega) h4;have hBe:(l1.drop 2).take (N+2 - 2)=Xn l1 0:=by rw[Xn,HN.out,Nat.zero_add,Nat.add_sub_cancel]
      have hkb:Yg w ba N (sc - 2) (Xn l1 0):=by rw[hBe,Nat.add_sub_cancel]at hbr;exact hbr
      have hBl:(Xn l1 0).length=N:=hkb.len;have HB:=zH hBl;clear hBl;have hbw2:Below w.heap.size w (wr.drewN nq):=below_drewN hbw nq;obtain⟨fa4,hcutf,hbf⟩:=Z4p k4 0 4 none (some (.int .i64 4)) (.inl ⟨rfl,rfl⟩) (.inr ⟨_,rfl⟩) (by omega) h2;clear hbr hBe k1 k3 hla hT k2w k4w;gi_wp2_with fail;clear c1 c2;generalize wr.drewN nq=W2 at *;refine⟨trivial,fun h=>by simp[Fence.wide]at h,?_⟩;refine(callsIn_wide.2 (Z1a _ _ _ (Xn l1 0) _ (hkb.below hbw2) (by omega))).mono ?_;rintro e W3 ⟨a1,c1,a2,c2,rfl,hw1,hw2',hb3⟩;have hw2:=Yg.of_own hw2';clear hw2';have hT3:=hT1.below hb3;have hla3:=hla1.below hb3;have k13:=k1'.same (Za.of_below (S:=fun _=>False) hb3) id;have k33:=k3'.same (Za.of_below (S:=fun _=>False) hb3) id;have hbw3:=hbw2.trans (hb3.mono hbw2.size);have d1:=k13.cell;have d2:=k33.cell;clear hT1 hla1 k1' k3' hw1;gi_wp2_with fail;refine⟨trivial,fun h=>by simp[Fence.wide]at h,?_⟩;refine(callsIn_wide.2 (Z2r _ _ _ _ _ _ _ _ _ hw2 (hbf.below hbw3))).mono ?_;rintro e W4 ⟨bq,rfl,hiff,q,rfl⟩;have hiff':bq=true↔Z1S l1 l2 0 0:=by
       rw[hiff,Z0o];simp only[List.drop_zero,Nat.sub_zero];constructor
       ·intro h;exact⟨h1,h2,by rw[HN.out];exact h3,by rw[HN.out];exact h4,by rw[<-h,HN.out];simp only[Xn,HN.out,Nat.zero_add]⟩
       ·intro h;rw[h.2.2.2.2,HN.out];simp only[Xn,HN.out,Nat.zero_add]
      have HI:=zH hiff';clear hiff hiff' hw2;have hbq:Below W3.heap.size W3 (W3.drewN q):=below_drewN (Below.refl _ _) q;have hT4:=hT3.below hbq;have hla4:=hla3.below hbq;have hbw4:=hbw3.trans (hbq.mono hbw3.size);have k14:=k13.same (Za.of_below (S:=fun _=>False) hbq) id;have k34:=k33.same (Za.of_below (S:=fun _=>False) hbq) id;clear hT3 hla3 k13 k33 hbf hb3;cases bq with
      | false=>
       gi_wp2;refine⟨trivial,?_⟩;gi_wp2;refine⟨fun _ h=>(by cases h),?_⟩;gi_wp2;refine bodyPost_ret (results_none rfl _ _ _) rfl ?_;exact⟨⟨_,rfl⟩,.inl ⟨by rw[HE.out (fun h=>by have:=HI.out.2 h;cases this)];exact hT4,hla4⟩⟩
      | true=>
       gi_wp2_with fail;generalize W3.drewN q=W4 at *;refine⟨trivial,fun h=>by simp[Fence.wide]at h,?_⟩;refine(callsIn_wide.2 (Z5y _ _ _ _ _ (by omega) (hkb.below hbw4))).mono ?_;rintro e W5 ⟨xa,xc,rfl,hox,hb5⟩;have hT5:=hT4.below hb5;have hla5:=hla4.below hb5;have k15:=k14.same (Za.of_below (S:=fun _=>False) hb5) id;have k35:=k34.same (Za.of_below (S:=fun _=>False) hb5) id;have hL5:Vv w W5 l1 l2:=⟨_,_,_,_,k15,k2,k35,k4⟩;have hox5:W5.ownsRow 0 5 1 (.slice xa (Xn l1 0).length xc) (Xn l1 0).length ((Xn l1 0).map Zs):=by
        rw[HB.out];exact Zu hox (Nat.zero_le _)
       obtain⟨fn,tmps,assign,body,hy,hR⟩:=hY ⟨d,l1,l2,Xn l1 0,xa,xc⟩ W5 ⟨hT5,hL5,hox5,by have:=HD.out;show d.length+1<=_;omega,by have:=HS.out;show sOf d<=_;omega,by show(Xn l1 0).length<=_;rw[HB.out];omega⟩ hla5;dsimp only at hy;rw[HB.out]at hy;clear hox hox5 hL5 hT5 hT4 hla4 hla5 k14 k34 k15 k35 hb5 d1 d2;gi_wp2_with fail;refine⟨fun h=>by simp[Fence.wide]at h,?_⟩;refine hR.mono ?_;rintro e W6 (⟨rfl,⟨hT6,hL6⟩,hla6⟩ | ⟨c,_,hf,_⟩)
       ·clear hR hy;obtain⟨sa',sc',fa',fc',j1,j2,j3,j4⟩:=hL6;obtain⟨na,hcn,hrn⟩:=Z4p j2 (N+2) l1.length (some (.int .i64 ((N:Int)+2))) none (.inr ⟨_,by go_num⟩) (.inl ⟨rfl,rfl⟩) h4 (Nat.le_refl _);obtain⟨ma,hcm,hrm⟩:=Z4p j4 4 l2.length (some (.int .i64 4)) none (.inr ⟨_,rfl⟩) (.inl ⟨rfl,rfl⟩) h2 (Nat.le_refl _);have d1:=j1.cell;have d2:=j3.cell;have f1:=j1.free;have f2:=j3.free;gi_wp2;gi_region;have hrn':Yg w na (l1.length - (N+2)) (sc' - (N+2)) (l1.drop (N+2)):=by
         rw[List.take_of_length_le (by simp)]at hrn;exact hrn
        have hrm':Yg w ma (l2.length - 4) (fc' - 4) (l2.drop 4):=by
         rw[List.take_of_length_le (by simp)]at hrm;exact hrm
        obtain⟨hT7,hL7,hla7⟩:=Vv.step hT6 j1 j3 hrn' hrm' hla6;have hgo:=ZcH (HI.out.1 trivial);rw[List.drop_zero,List.drop_zero,HN.out,Nat.zero_add,Nat.zero_add,Nat.add_comm 2 N]at hgo;have HG:=zH hgo;have HB7:=zH hL7.boxLen;clear hgo j1 j2 j3 j4 hcn hrn hcm hrm d1 d2 f1 f2 hrn' hrm' hT6 hla6;have E1:Hid (Zt st fo=(d ++ [Xn l1 0]) ++ Zt (l1.drop (N+2)) (l2.drop 4)):=by
         show _=_;rw[HJ.out,HG.out,List.append_assoc];rfl
        have E2:Hid (sOf (d ++ [Xn l1 0])+(l1.drop (N+2)).length=st.length):=by
         show _=_;rw[Z6I,HB.out,List.length_drop,<-HS.out];omega
        have E3:Hid (4 * (d ++ [Xn l1 0]).length+(l2.drop 4).length=fo.length):=by
         show _=_;rw[List.length_append,List.length_drop,<-HD.out];simp;omega
        go_roundw
        case rel=>
         (repeat apply Exists.intro)
         exact⟨⟨d ++ [Xn l1 0],l1.drop (N+2),l2.drop 4,hT7,hL7,hla7,E1,E2,E3⟩,rfl⟩
        case measure=>rw[HB7.out,hbl.out,List.length_drop];omega
       ·exact hf.elim
     ·have g4:decide ((l1.length:Int) < (N:Int)+2)=true:=by simp;omega
      gi_wp2;refine bodyPost_ret (results_none rfl _ _ _) rfl ?_;exact⟨⟨_,rfl⟩,.inl ⟨by rw[HE.out (fun h=>h4 (by have:=h.2.2.2.1;rw[HN.out]at this;omega))];exact hT1,hla1⟩⟩
    ·have g3:decide ((8192:Int) < (N:Int))=true:=by simp;omega
     gi_wp2;refine bodyPost_ret (results_none rfl _ _ _) rfl ?_;exact⟨⟨_,rfl⟩,.inl ⟨by rw[HE.out (fun h=>h3 (by have:=h.2.2.1;rw[HN.out]at this;omega))];exact hT1,hla1⟩⟩
   ·have g1:decide ((2:Int)<=(l1.length:Int))=true:=by simp;omega
    have g2:decide ((4:Int)<=(l2.length:Int))=false:=by simp;omega
    gi_wp2;go_end0;exact⟨⟨_,rfl⟩,.inl ⟨by rw[HE.out (fun h=>h2 (by have:=h.2.1;omega))];exact hT,hla⟩⟩
  ·have g1:decide ((2:Int)<=(l1.length:Int))=false:=by simp;omega
   gi_wp2;go_end0;exact⟨⟨_,rfl⟩,.inl ⟨by rw[HE.out (fun h=>h1 (by have:=h.1;omega))];exact hT,hla⟩⟩
theorem Z7d (a:zA)(n c:Nat)(st:zU)(a':zA)(n' c':Nat)(fo:zU)(w:World)(hr:Yg w a n c st)(hr':Yg w a' n' c' fo)(hn:n<=16777216)(hn':n'<=16777216):
  Calls zq 47 #[.slice a n c,.slice a' n' c'] w fun e w' => ∃oa oc,e = .returned (.tuple #[.slice oa (Zt st fo).length oc,.int .i64 (sOf (Zt st fo)),.int .i64 (4 * ((Zt st fo).length:Int))]) /\
   XS w' w.heap.size oa (Zt st fo).length oc (Zt st fo)/\Below w.heap.size w w':=by
 have hl:=hr.len;have hl':=hr'.len;have hst:st.length<=16777216:=by omega
 have hfo:fo.length<=16777216:=by omega
 subst hl;subst hl';refine(callsIn_wide (n:=4)).1 ?_;refine callsIn_of_wp_marks Tryz.func47 rfl trivial ?_;simp only[Tryz.ntmps47,List.size_toArray,List.length_cons,List.length_nil,Nat.reduceAdd,Nat.reduceSub,Array.replicate_succ,Array.replicate_zero,List.push_toArray,List.append_toArray,List.nil_append,List.cons_append];gi_wp2_with (refine⟨trivial,?_⟩;gi_at_call 108;refine(callsIn_wide.2 (Z6w _ _ ⟨_,_,_,rfl⟩ ⟨_,_,_,rfl⟩ _)).mono ?_;rintro e w' ⟨rfl,rfl⟩);have hsz:(((((w.alloc (.cells #[.slice none 0 0] 98)).alloc (.cells #[.int .i64 0] 3)).alloc (.cells #[.int .i64 0] 3)).alloc (.cells #[.slice a st.length c] 41)).alloc (.cells #[.slice a' fo.length c'] 41)).heap.size=w.heap.size+5:=by simp
 have hbl:Below w.heap.size w (((((w.alloc (.cells #[.slice none 0 0] 98)).alloc (.cells #[.int .i64 0] 3)).alloc (.cells #[.int .i64 0] 3)).alloc (.cells #[.slice a st.length c] 41)).alloc (.cells #[.slice a' fo.length c'] 41)):=
  ((((zB _ _).alloc (by simp) _).alloc (by simp;omega) _).alloc (by simp;omega) _).alloc (by simp;omega) _
 have hT:U4 w (((((w.alloc (.cells #[.slice none 0 0] 98)).alloc (.cells #[.int .i64 0] 3)).alloc (.cells #[.int .i64 0] 3)).alloc (.cells #[.slice a st.length c] 41)).alloc (.cells #[.slice a' fo.length c'] 41)) []:=by
  exact⟨none,0,((((Box.new w _ _ rfl).alloc _).alloc _).alloc _).alloc _,XS.nil _ _,(((Box.new _ _ _ (by simp)).alloc _).alloc _).alloc _,((Box.new _ _ _ (by simp)).alloc _).alloc _,hbl,by rw[hsz];omega⟩
 have hL:Vv w (((((w.alloc (.cells #[.slice none 0 0] 98)).alloc (.cells #[.int .i64 0] 3)).alloc (.cells #[.int .i64 0] 3)).alloc (.cells #[.slice a st.length c] 41)).alloc (.cells #[.slice a' fo.length c'] 41)) st fo:=by
  exact⟨a,c,a',c',(Box.new _ _ _ (by simp)).alloc _,hr,Box.new _ _ _ (by simp),hr'⟩
 generalize (((((w.alloc (.cells #[.slice none 0 0] 98)).alloc (.cells #[.int .i64 0] 3)).alloc (.cells #[.int .i64 0] 3)).alloc (.cells #[.slice a st.length c] 41)).alloc (.cells #[.slice a' fo.length c'] 41))=W5 at *;refine Z5F (n:=3) (σ:=Z99) (w:=W5) (gf:=163) (lb := #[.pointer (some ⟨w.heap.size+3,0,none⟩),.pointer (some ⟨w.heap.size+4,0,none⟩)]) rfl (enters_of Tryz.func163 (by kernel_rfl) rfl)
  (fun s=>#[.slice s.xa s.b.length s.xc]) (fun _=>rfl) (fun s W=>Z9c w s W) (fun s W=>U4 w W (s.d ++ [s.b])/\Vv w W s.l1 s.l2) (fun _ _ _=>False) (fun W=>U4 w W (Zt st fo)) (fun _ _=>False) ?hA ?hB ?hX ?hD ?hS
  (fun s=>{ tmps := #[.slice a st.length c,.slice a' fo.length c',undef,undef,.pointer (some ⟨w.heap.size,0,none⟩),.pointer (some ⟨w.heap.size+1,0,none⟩),.pointer (some ⟨w.heap.size+1+1,0,none⟩),.slice s.xa s.b.length s.xc,.slice a st.length c,.slice a' fo.length c',.func (.func 163) #[] #[.pointer (some ⟨w.heap.size+3,0,none⟩),.pointer (some ⟨w.heap.size+4,0,none⟩)],.slice s.xa s.b.length s.xc,undef,undef,undef,undef,undef,undef,undef,undef,undef,undef,undef,undef,undef,undef],defers:=[] })
  ?assign ?body ?iter ?done ?stop
 case hA=>
  rw[hsz];rintro s W o ⟨h1,h2,h3,h4⟩ hlp;obtain⟨r,hr⟩:=hlp;exact⟨h1.putObj o ⟨r,hr⟩,h2.putObj o,ownsRow_putObj h3 _ hr rfl,h4⟩
 case hB=>
  rw[hsz];rintro s W o ⟨h1,h2⟩ hlp;exact⟨h1.putObj o hlp,h2.putObj o⟩
 case hX=>intro _ _ _ _ h _;exact h.elim
 case hD=>
  rw[hsz];intro W o h hlp;exact h.putObj o hlp
 case hS=>intro _ _ _ h _;exact h.elim
 case assign=>
  intro s W K hs hK;gi_wp2;exact hK
 case body=>
  rw[hsz];rintro s W ⟨⟨oa,oc,t1,t2,t3,t4,t5,t6⟩,hLf,hox,hb1,hb2,hb3⟩ hlp hdp;have b1:=t1.cell;have b2:=t3.cell;have b3:=t4.cell;have e1:=t1.free;have e2:=t3.free;have e3:=t4.free;have hal:=zB W (Obj.cells #[Value.slice s.xa s.b.length s.xc] 41);have t2':=t2.below hal;have hy':=Zd hox hal;gi_wp2_with (gi_at_builtin;refine Zar _ rfl _ _ rfl (w.heap.size+5) _ _ _ s.d rfl t2' W.heap.size _ _ _ s.b rfl (cell_of_one (heap_alloc_new W _)) hy' (by omega) (by simp;omega) ?_;intro a5 c5 w5 ho5 hg5;refine Hid.out ?_);refine zH ?_;have hW5:Za (fun k=>w.heap.size+5<=k) W w5:=(Za.of_below hal).trans (Za.of_grown hg5 (fun k hk=>(t2.lt k hk).1));have hko:KeepsOthers W w5:=(KeepsOthers.alloc W _).trans (KeepsOthers.of_grownBy hg5 t2'.cells);have u1:=t1.same hW5 (by omega);have u2:=t3.same hW5 (by omega);have u3:=t4.same hW5 (by omega);have b1:=u1.cell;have b2:=u2.cell;have b3:=u3.cell;have e1:=u1.free;have e2:=u2.free;have e3:=u3.free;have hst:=U4.step t1 t3 t4 t5 t6 hW5 ho5;have hlf:=hLf.step3 hW5 (.slice a5 (s.d.length+1) c5) (.int .i64 ((sOf s.d:Int)+((s.b.length:Int)+2))) (.int .i64 (4 * (s.d.length:Int)+4));clear hal t2' hy' hg5 ho5 u1 u2 u3 hW5 hox t1 t2 t3 t4;gi_wp2;exact⟨((hko.trans (KeepsOthers.setCell _ _ _)).trans (KeepsOthers.setCell _ _ _)).trans (KeepsOthers.setCell _ _ _) |>.from _,hst,hlf⟩
 case iter=>
  intro rec hlr hY;rw[hsz]at hlr hY ⊢;have hbb:=(zB W5 (.deferred (some []))).alloc (by simp) (.loop (rec .ready none));exact Zbp 3 w st fo hst hfo rec _ (hT.below hbb) (hL.below hbb) hlr hY
 case done=>
  rw[hsz];rintro W ⟨oa,oc,t1,t2,t3,t4,t5,t6⟩ hK;have b1:=t1.cell;have b2:=t3.cell;have b3:=t4.cell;have e1:=t1.free;have e2:=t3.free;have e3:=t4.free;gi_wp2;gi_region;have hS:Za (fun k=>k=w.heap.size\/k=w.heap.size+1\/k=w.heap.size+2) W (((W.setCell ⟨w.heap.size,0,none⟩ (.slice oa (Zt st fo).length oc)).setCell ⟨w.heap.size+1,0,none⟩ (.int .i64 (sOf (Zt st fo)))).setCell ⟨w.heap.size+1+1,0,none⟩ (.int .i64 (4 * ((Zt st fo).length:Int)))).drew:=by
   have h:=((Za.setCell (S:=fun k=>k=w.heap.size\/k=w.heap.size+1\/k=w.heap.size+2) (W:=W) (.slice oa (Zt st fo).length oc) (.inl rfl)).trans (Za.setCell (.int .i64 (sOf (Zt st fo))) (.inr (.inl rfl)))).trans (Za.setCell (.int .i64 (4 * ((Zt st fo).length:Int))) (.inr (.inr rfl)));exact⟨h.os,h.tape,h.output,h.size,h.block⟩
  have r1:Box (((W.setCell ⟨w.heap.size,0,none⟩ (.slice oa (Zt st fo).length oc)).setCell ⟨w.heap.size+1,0,none⟩ (.int .i64 (sOf (Zt st fo)))).setCell ⟨w.heap.size+1+1,0,none⟩ (.int .i64 (4 * ((Zt st fo).length:Int)))).drew w.heap.size 98 _:=((t1.set _).set_other _ (by omega)).set_other _ (by omega);have r2:Box (((W.setCell ⟨w.heap.size,0,none⟩ (.slice oa (Zt st fo).length oc)).setCell ⟨w.heap.size+1,0,none⟩ (.int .i64 (sOf (Zt st fo)))).setCell ⟨w.heap.size+1+1,0,none⟩ (.int .i64 (4 * ((Zt st fo).length:Int)))).drew (w.heap.size+1) 3 _:=((t3.set_other _ (by omega)).set _).set_other _ (by omega);have r3:Box (((W.setCell ⟨w.heap.size,0,none⟩ (.slice oa (Zt st fo).length oc)).setCell ⟨w.heap.size+1,0,none⟩ (.int .i64 (sOf (Zt st fo)))).setCell ⟨w.heap.size+1+1,0,none⟩ (.int .i64 (4 * ((Zt st fo).length:Int)))).drew (w.heap.size+1+1) 3 _:=((t4.set_other _ (by omega)).set_other _ (by omega)).set _;have hK':=(hS.block _ (Array.getElem?_eq_some_iff.1 hK).1 (by omega)).trans hK;have ho':=t2.same hS (fun b cur fr hb=>.inr (by omega)) (fun b cur fr hb=>by
   rcases hb with rfl | rfl | rfl
   ·rw[show W.heap[w.heap.size]? = _ from t1];simp
   ·rw[show W.heap[w.heap.size+1]? = _ from t3];simp
   ·rw[show W.heap[w.heap.size+2]? = _ from t4];simp)
  have hb':=hS.below t5 t5.size (fun k e=>by omega);generalize (((W.setCell ⟨w.heap.size,0,none⟩ (.slice oa (Zt st fo).length oc)).setCell ⟨w.heap.size+1,0,none⟩ (.int .i64 (sOf (Zt st fo)))).setCell ⟨w.heap.size+1+1,0,none⟩ (.int .i64 (4 * ((Zt st fo).length:Int)))).drew=W7 at *;gi_wp2;refine⟨by simp,.inl ⟨_,_,rfl,run_takeDeferred hK',?_⟩⟩;have hp:Za (fun k=>k=w.heap.size+5) W7 (W7.putObj (w.heap.size+5) (.deferred none)):=Za.of_grown (grownBy_putObj' W7 _ _) (fun k e=>by cases e;rfl);have s1:=(r1.same hp (by omega)).cell;have s2:=(r2.same hp (by omega)).cell;have s3:=(r3.same hp (by omega)).cell;have hb'':=hp.below hb' hb'.size (fun k e=>by omega);have ho'':=ho'.same hp (fun b cur fr hb=>.inl (by subst hb;rw[hK'];simp)) (fun b cur fr hb=>by subst hb;rw[hK'];simp);generalize W7.putObj (w.heap.size+5) (.deferred none)=W8 at *;clear hS r1 r2 r3 hp;refine⟨.tuple #[.slice oa (Zt st fo).length oc,.int .i64 (sOf (Zt st fo)),.int .i64 (4 * ((Zt st fo).length:Int))],?_,oa,oc,rfl,ho''.mono (by omega),hb''⟩;simp[results,Tryz.results47,go_sem,s1,s2,s3]
 case stop=>intro c W h;exact h.elim
theorem Zq {W:World}{p:Nat}{A:ZV}{t:TypeId}(h:W.heap[p]? = some (.cells A t (0,0)))(j:Nat):W.frozen? ⟨p,j,none⟩=false:=by
 simp[World.frozen?,h]
theorem Vm (w:World)(p o:Nat)(v:Value):Za (fun k=>k=p) w (w.setCell ⟨p,o,none⟩ v):=
 Za.of_grown (row:=some p) ⟨rfl,rfl,rfl,by simp[World.setCell],fun k _ hk=>Below.heap_setCell w ⟨p,o,none⟩ _ k (fun e=>hk (by rw[e]))⟩ (fun k e=>by cases e;rfl)
structure RdP (W:World)(rp:Nat)(l:zU)(a:zA)(n c:Nat):Prop where
 e:W.heap[rp]? = some (.cells #[.slice a n c] 236)
 r:Yg W a n c l
theorem VE {W:World}{rp:Nat}{A:ZV}{t:TypeId}{sp:Nat×Nat}{a:zA}{n c:Nat}{l:zU}(e:W.heap[rp]? = some (.cells A t sp))(hA : ∀v∈A,∀x,v≠Zs x)(hr:Yg W a n c l)(h0:0 < n):
  ∀b off,a=some ⟨b,off,none⟩->b≠rp:=by
 intro b off ha hb;subst hb;obtain⟨b',off',e',hc⟩:=ZW.at hr h0;rw[ha]at e';cases e';have hl:=hr.1;have h1:(l.map Zs)[0]? = some ((l.map Zs)[0]'(by rw[hl];omega)):=List.getElem?_eq_getElem _;have h2:=hc 0 _ h1;simp only[World.cell?,e]at h2;have h3:=Array.mem_of_getElem? h2;rw[List.getElem_map]at h3;exact hA _ h3 _ rfl
theorem Z1q {W W':World}{a:zA}{n c:Nat}{l:zU}{S:Nat->Prop}(hr:Yg W a n c l)(hs:Za S W W')(hn:0 < n -> ∀b off,a=some ⟨b,off,none⟩ -> ¬S b):Yg W' a n c l:=by
 by_cases h0:0 < n
 ·exact ZW.of_cells hr fun b ⟨off,hb⟩ hlt=>hs.block b hlt (hn h0 b off hb)
 ·have hz:n=0:=by omega
  subst hz;obtain⟨h1,h2,h3,h4⟩:=hr;have hl:l.map Zs=[]:=List.eq_nil_of_length_eq_zero (by omega);refine⟨h1,h2,h3,?_⟩;rcases h4 with h | ⟨b,off,h,_⟩
  ·exact .inl h
  ·exact .inr ⟨b,off,h,fun i x hx=>by rw[hl]at hx;simp at hx⟩
theorem RdP.same {W W':World}{rp:Nat}{l:zU}{a:zA}{n c:Nat}{S:Nat->Prop}(h:RdP W rp l a n c)(hs:Za S W W')(h1 : ¬S rp)(h2:0 < n -> ∀b off,a=some ⟨b,off,none⟩ -> ¬S b):RdP W' rp l a n c:=
 ⟨(hs.block _ (Array.getElem?_eq_some_iff.1 h.e).1 h1).trans h.e,Z1q h.r hs h2⟩
theorem Z1V {P:Program}(w:World){ops:Array Oper}{rest:List Oper}{o:Oper}{a:Act}{Q:Exit->Act->World->Prop}(hgd:o.guard=none)(x:Operand)(lo hi:Option Operand)(t:TypeId)
  (ho:o.op = .slice t x lo hi none) (e:TypeId) (i:TypeInfo) (size:Nat) (ht:P.underlying t=some (.slice e)) (hi':P.info? e=some i) (hsize:i.size=size)
  (xa:zA) (n c:Nat) (xs:List Value) (hx:a.eval x = .slice xa n c) (hrd:ZW w size xa n c xs) (L H:Nat)
  (hl:(lo=none/\L=0) \/ ∃q kd,lo=some q/\a.eval q = .int kd (L:Int)) (hh:(hi=none/\H=n) \/ ∃q kd,hi=some q/\a.eval q = .int kd (H:Int)) (h1:L<=H) (h2:H<=n)
  (a':zA) (hs:Go.sliced xa L H c size = .slice a' (H - L) (c - L))
  (h:wpList P ops Q rest (a.put o.dst (.slice a' (H - L) (c - L))) w):wpList P ops Q (o :: rest) a w:=by
 refine wpList_plain hgd fun K hK=>?_;have hnc:=hrd.2.1;have hrun:(Instr.sliceAt t (a.eval x) (lo.map a.eval) (hi.map a.eval) none).run P w = .ok (.slice a' (H - L) (c - L)) w:=by
  rw[hx,<-hs];have hel:P.elem t=e:=by simp[Program.elem,ht]
  rw[run_sliceAt_slice (P:=P) w t _ _ _ _ (by rw[hel];exact ht),run_slice_any (P:=P) w t xa n c (by rw[hel];exact ht)];have hb:(Instr.sliceBounds true n c (lo.map a.eval) (hi.map a.eval) none).run P w = .ok (L,H,c) w:=by
   rcases hl with ⟨rfl,rfl⟩ | ⟨q,kd,rfl,hq⟩ <;> rcases hh with ⟨rfl,rfl⟩ | ⟨q',kd',rfl,hq'⟩
   ·simp[Instr.sliceBounds]
   ·simp[Instr.sliceBounds,hq',run_sliceBound,Result.andThen,(by omega:H<=c)]
   ·simp[Instr.sliceBounds,hq,run_sliceBound,Result.andThen,h1]
   ·simp[Instr.sliceBounds,hq,hq',run_sliceBound,Result.andThen,(by omega:H<=c),h1]
  rw[hb,hel];simp[Result.andThen,sizeOf,typeInfo,hi',hsize]
 unfold Oper.wp;simp only[execOp,ho];simp[hrun,Result.andThen];exact hK _ _ h
theorem Z1o (w:World){ops:Array Oper}{rest:List Oper}{o:Oper}{a:Act}{Q:Exit->Act->World->Prop}(hgd:o.guard=none)(x:Operand)(lo hi:Option Operand)
  (ho:o.op = .slice 41 x lo hi none) (xa:zA) (n c:Nat) (l:zU) (hx:a.eval x = .slice xa n c) (hrd:Yg w xa n c l) (L H:Nat)
  (hl:(lo=none/\L=0) \/ ∃q kd,lo=some q/\a.eval q = .int kd (L:Int)) (hh:(hi=none/\H=n) \/ ∃q kd,hi=some q/\a.eval q = .int kd (H:Int)) (h1:L<=H) (h2:H<=n)
  (h : ∀a',(∀W,Yg W xa n c l->Yg W a' (H - L) (c - L) ((l.drop L).take (H - L)))->wpList zq ops Q rest (a.put o.dst (.slice a' (H - L) (c - L))) w):wpList zq ops Q (o :: rest) a w:=by
 obtain⟨i,hi',hz0,hz1,hz2⟩:=info_parts UF;obtain⟨a1,hs1,hr1⟩:=ZW.sliced hrd L H h1 h2;have key : ∀W,Yg W xa n c l->Yg W a1 (H - L) (c - L) ((l.drop L).take (H - L)):=fun W hW=>by
  obtain⟨a2,hs2,hr2⟩:=ZW.sliced hW L H h1 h2;rw[hs1]at hs2;cases hs2;unfold Yg;rw[List.map_take,List.map_drop];simpa using hr2
 have hg:=h a1 key;refine Z1V w hgd x lo hi 41 ho 5 i 1 Tryz.underlying41 hi' hz1 xa n c _ hx hrd L H hl hh h1 h2 a1 hs1 hg
def Z2F:PanicEntry := { v := .iface 233 (.agg #[]),recovered:=false }
theorem Z9q (rp:Nat)(a:zA)(n c:Nat)(w:World)(h:RdP w rp [] a n c):
  Calls zq 148 #[.pointer (some ⟨rp,0,none⟩),.int .i64 1] w fun e w'=>e = .panicked [Z2F]/\w'=w:=by
 have hn:n=0:=by have:=h.r.1;simpa using this.symm
 subst hn;have c0:w.cell? ⟨rp,0,none⟩=some (.slice a 0 c):=Z6 h.e 0 _ rfl;go_enter Tryz.func148,Tryz.ntmps148;go_wp2_with fail;exact⟨rfl,rfl,rfl⟩
theorem Z9p (rp:Nat)(x:UInt8)(t:zU)(a:zA)(n c:Nat)(w:World)(h:RdP w rp (x :: t) a n c):
  Calls zq 148 #[.pointer (some ⟨rp,0,none⟩),.int .i64 1] w fun e w' => ∃a1 c1 a2 n2 c2,e = .returned (.slice a1 1 c1)/\Yg w' a1 1 c1 [x]/\RdP w' rp t a2 n2 c2/\Za (fun k=>k=rp) w w'/\(∀W,Yg W a n c (x :: t)->Yg W a2 n2 c2 t):=by
 have hn:n=t.length+1:=by have:=h.r.1;simpa using this.symm
 subst hn;obtain⟨m,hm⟩ : ∃m,Hid (m=t.length+1):=⟨_,zH rfl⟩;rw[<-hm.out]at h;have h1m:1<=m:=by have:=hm.out;omega
 have c0:w.cell? ⟨rp,0,none⟩=some (.slice a m c):=Z6 h.e 0 _ rfl;have f0:=Zq h.e 0;have hr:=zH h.r;have HH:=zH h;clear h;have hgt:decide ((m:Int) < 1)=false:=by simp;omega
 go_enter Tryz.func148,Tryz.ntmps148;go_wp2_with (first
  |(refine Z1o _ rfl _ _ none rfl _ _ _ _ rfl hr.out 1 m (.inr ⟨_,.i64,rfl,by go_num⟩) (.inl ⟨rfl,rfl⟩) h1m (Nat.le_refl _) ?_;intro sb hsb;have HSB:=zH hsb;clear hsb)
  |(refine Z2G _ rfl _ none _ rfl _ _ _ _ rfl hr.out 0 1 (.inl ⟨rfl,rfl⟩) (.inr ⟨_,.i64,rfl,by go_num⟩) (by omega) h1m ?_;intro sa hsl;have HSL:=zH hsl;clear hsl))
 go_ret;have hS:=Vm w rp 0 (.slice sb (m - 1) (c - 1));have he:=heap_setCell_same w rp 0 _ _ (.slice sb (m - 1) (c - 1)) HH.out.e;have hcell : ∀v ∈ #[Value.slice a m c],∀x,v≠Zs x:=by intro v hv x;simp at hv;subst hv;intro hh;cases hh
 have h1:Yg (w.setCell ⟨rp,0,none⟩ (.slice sb (m - 1) (c - 1))) sa 1 c [x]:=Z1q (by simpa using HSL.out) hS (fun h0=>VE HH.out.e hcell (by simpa using HSL.out) h0);have h4 : ∀W,Yg W a m c (x :: t)->Yg W sb (m - 1) (c - 1) t:=fun W hW=>by have:=HSB.out W hW;rw[hm.out]at this ⊢;simpa using this
 have h2:=h4 w HH.out.r;have h3:RdP (w.setCell ⟨rp,0,none⟩ (.slice sb (m - 1) (c - 1))) rp t sb (m - 1) (c - 1):=⟨he,Z1q h2 hS (fun h0=>VE HH.out.e hcell h2 h0)⟩
 first
  | exact⟨sa,c,sb,m - 1,c - 1,rfl,h1,h3,hS,by rw[<-hm.out];exact h4⟩
theorem Z7X (x:Nat)(h:x < 18446744073709551616):bits .and .u64 (x:Int) 127=((x % 128:Nat):Int):=by
 show IntKind.u64.wrap ((BitVec.ofInt 64 (x:Int) &&& BitVec.ofInt 64 127).toNat:Int)=_;have h1:(BitVec.ofInt 64 (x:Int)).toNat=x:=by rw[BitVec.ofInt_natCast,BitVec.toNat_ofNat];exact Nat.mod_eq_of_lt (by omega)
 rw[BitVec.toNat_and,h1,show(BitVec.ofInt 64 127).toNat=2 ^ 7 - 1 from rfl,Nat.and_two_pow_sub_one_eq_mod,IntKind.wrap_u64];omega
theorem ZaO (x:Nat)(h:x < 18446744073709551616):bits .and .u64 (x:Int) 1=((x % 2:Nat):Int):=by
 show IntKind.u64.wrap ((BitVec.ofInt 64 (x:Int) &&& BitVec.ofInt 64 1).toNat:Int)=_;have h1:(BitVec.ofInt 64 (x:Int)).toNat=x:=by rw[BitVec.ofInt_natCast,BitVec.toNat_ofNat];exact Nat.mod_eq_of_lt (by omega)
 rw[BitVec.toNat_and,h1,show(BitVec.ofInt 64 1).toNat=2 ^ 1 - 1 from rfl,Nat.and_two_pow_sub_one_eq_mod,IntKind.wrap_u64];omega
theorem Z7W (i v y:Nat)(hi:i<=8)(hv:v < 128 ^ i)(hy:y < 128):bits .or .u64 (v:Int) ((y * 128 ^ i:Nat):Int)=((v+y * 128 ^ i:Nat):Int):=by
 have hp:128 ^ i<=128 ^ 8:=Nat.pow_le_pow_right (by omega) hi;have hp8:128 ^ 8=72057594037927936:=by decide
 have hm:y * 128 ^ i<=127 * 128 ^ i:=Nat.mul_le_mul_right _ (by omega);show IntKind.u64.wrap ((BitVec.ofInt 64 (v:Int) ||| BitVec.ofInt 64 ((y * 128 ^ i:Nat):Int)).toNat:Int)=_;have h1 : ∀z:Nat,z < 18446744073709551616->(BitVec.ofInt 64 (z:Int)).toNat=z:=fun z hz=>by rw[BitVec.ofInt_natCast,BitVec.toNat_ofNat];exact Nat.mod_eq_of_lt (by omega)
 rw[BitVec.toNat_or,h1 v (by omega),h1 _ (by omega),Nat.or_comm];have e:128 ^ i=2 ^ (7 * i):=by rw[Nat.pow_mul]
 have h2:=Nat.two_pow_add_eq_or_of_lt (i:=7 * i) (b:=v) (by rw[<-e];exact hv) y;rw[<-e]at h2;rw[Nat.mul_comm y,<-h2,IntKind.wrap_u64,Nat.mul_comm]at *;omega
theorem Zdk (y i:Nat)(hi:i<=8)(hy:y < 128):IntKind.u64.wrap ((y:Int) * 2 ^ (7 * i))=((y * 128 ^ i:Nat):Int):=by
 have e:128 ^ i=2 ^ (7 * i):=by rw[Nat.pow_mul]
 have hp:128 ^ i<=128 ^ 8:=Nat.pow_le_pow_right (by omega) hi;have hp8:128 ^ 8=72057594037927936:=by decide
 have hm:y * 128 ^ i<=127 * 128 ^ i:=Nat.mul_le_mul_right _ (by omega);have e2:(y:Int) * 2 ^ (7 * i)=((y * 128 ^ i:Nat):Int):=by
  rw[e];push_cast;rfl
 rw[e2,IntKind.wrap_u64];omega
theorem Zaf (i v y:Nat)(hv:v < 128 ^ i)(hy:y < 128):v+y * 128 ^ i < 128 ^ (i+1):=by
 have hm:y * 128 ^ i<=127 * 128 ^ i:=Nat.mul_le_mul_right _ (by omega);rw[Nat.pow_succ];omega
theorem v63 (i v:Nat)(hi:i<=8)(hv:v < 128 ^ (i+1)):v < 9223372036854775808:=by
 have h2:128 ^ (i+1)<=128 ^ 9:=Nat.pow_le_pow_right (by omega) (by omega);have h3:128 ^ 9=9223372036854775808:=by decide
 exact Nat.lt_of_lt_of_le hv (h3 ▸ h2)
theorem Za9 {v:Nat}(h:v < 9223372036854775808):wrap64 ((v:Int) / 2)=((v / 2:Nat):Int):=by unfold wrap64;omega
theorem ZcN {v:Nat}(h:v < 9223372036854775808):v / 2 < 4611686018427387904:=by omega
theorem Z5f {l:zU}(h:Z0J 0 0 l=none):Xo l=none:=by unfold Xo;rw[h]
theorem Z5e {l t:zU}{u:Nat}(h:Z0J 0 0 l=some (u,t)):Xo l=some (zag u,t):=by unfold Xo;rw[h]
theorem VH (rp:Nat)(l:zU)(a:zA)(n c:Nat)(w:World)(h:RdP w rp l a n c):
  Calls zq 146 #[.pointer (some ⟨rp,0,none⟩)] w fun e w'=>(∃z t a2 n2 c2,Xo l=some (z,t)/\e = .returned (.int .i64 z)/\RdP w' rp t a2 n2 c2/\Za (fun k=>k=rp) w w'/\(∀W,Yg W a n c l->Yg W a2 n2 c2 t)) \/
   (Xo l=none/\e = .panicked [Z2F]/\Za (fun k=>k=rp) w w'):=by
 have HH:=zH h;clear h;have hsg:IntKind.u64.signed=false:=rfl;go_enter Tryz.func146,Tryz.ntmps146;go_wp2_with fail;go_loopw [3,4,5] (fun u s _ wr=>∃(i v:Nat) (k:zU) (a':zA) (n' c':Nat),u = .int .u64 v/\s = .int .i64 (7 * i:Nat)/\i<=9/\v < 128 ^ i/\Hid (Z0J i v k=Z0J 0 0 l)/\Hid (RdP wr rp k a' n' c')/\Hid (Za (fun k=>k=rp) w wr /\ ∀W,Yg W a n c l->Yg W a' n' c' k)) (fun _ s _ _=>100 - (intOf s).toNat)
 case atStart=>exact⟨0,0,l,a,n,c,rfl,rfl,by omega,by simp,zH rfl,HH,zH ⟨⟨rfl,rfl,rfl,Nat.le_refl _,fun _ _ _=>rfl⟩,fun _ h=>h⟩⟩
 case round=>
  obtain⟨i,v,k,a',n',c',rfl,rfl,hi,hv,HD,HR,HS⟩:=hrel;have HV:=zH hv;clear hv;cases k with
  | nil=>
   go_wp2_with fail;refine(Z9q rp a' n' c' wr HR.out).mono ?_;rintro e w1 ⟨rfl,rfl⟩;go_wp2_with fail;exact⟨rfl,.inr ⟨Z5f (by rw[<-HD.out];rfl),rfl,HS.out.1⟩⟩
  | cons x t=>
   go_wp2_with fail;refine(Z9p rp x t a' n' c' wr HR.out).mono ?_;rintro e w1 ⟨a1,c1,a2,n2,c2,rfl,h1,h2,h3,h4⟩;obtain⟨b,off,rfl,hc⟩:=ZW.at h1 (by omega);have e1:w1.cell? ⟨b,off,none⟩=some (.int .u8 (x.toNat:Int)):=by have:=hc 0 (Zs x) rfl;simpa [Zs] using this
   have hx:=x.toNat_lt;have H2:=zH h2;have H3:=zH (show Za (fun k=>k=rp) w w1 /\ ∀W,Yg W a n c l->Yg W a2 n2 c2 t from⟨HS.out.1.trans h3,fun W hW=>h4 W (HS.out.2 W hW)⟩);clear hc h1 h2 h3 h4;by_cases h9:9<=i
   ·have h56:decide ((56:Int) < 7 * (i:Int))=true:=by simp;omega
    go_wp2_with fail;exact⟨rfl,.inr ⟨Z5f (by rw[<-HD.out,Z0J,if_pos h9]),rfl,H3.out.1⟩⟩
   ·have h56:decide ((56:Int) < 7 * (i:Int))=false:=by simp;omega
    have hand:=Z7X x.toNat (by omega);have hor:=Z7W i v (x.toNat % 128) (by omega) HV.out (by omega);have hshl:=Zdk (x.toNat % 128) i (by omega) (by omega);have hw:=Zaf i v (x.toNat % 128) HV.out (by omega);have HDD:=zH (show Z0J i v (x :: t)=if x.toNat < 128 then some (v+x.toNat % 128 * 128 ^ i,t)else Z0J (i+1) (v+x.toNat % 128 * 128 ^ i) t by rw[Z0J,if_neg h9]);have HW:=zH hw;clear hw;obtain⟨p,hp⟩ : ∃p,Hid (p=x.toNat % 128 * 128 ^ i):=⟨_,zH rfl⟩;rw[<-hp.out]at hor hshl HDD HW;obtain⟨y,hy⟩ : ∃y,Hid (y=x.toNat % 128):=⟨_,zH rfl⟩;rw[<-hy.out]at hand hshl;obtain⟨v2,hv2⟩ : ∃v2,Hid (v2=v+p):=⟨_,zH rfl⟩;rw[<-hv2.out]at hor HDD HW;have hv63:=v63 i v2 (by omega) HW.out;have hand1:=ZaO v2 (Nat.lt_trans hv63 (by decide));have hw2:=Za9 hv63;have hlt:=ZcN hv63;obtain⟨q,hq⟩ : ∃q,Hid (q=v2 / 2):=⟨_,zH rfl⟩;rw[<-hq.out]at hw2 hlt;have HV63:=zH hv63;clear hv63;by_cases h128:(x.toNat:Int) < 128
    ·have HDE:=zH (HD.out.symm.trans (HDD.out.trans (if_pos (by omega))));rcases Nat.mod_two_eq_zero_or_one v2 with hm | hm
     ·have hb1:(((v2 % 2:Nat):Int)==1)=false:=by rw[hm];rfl
      have HM:=zH hm;clear hm;obtain⟨r,hr⟩ : ∃r,Hid (r=v2 % 2):=⟨_,zH rfl⟩;rw[<-hr.out]at hb1 hand1;go_wp2;go_ret;refine .inl ⟨_,_,_,_,_,Z5e HDE.out,?_,H2.out,H3.out⟩;rw[zag,if_pos HM.out,<-hq.out];show Ending.returned (Value.int .i64 (wrap64 ((v2:Int) / 2)))=_;rw[hw2]
     ·have hb1:(((v2 % 2:Nat):Int)==1)=true:=by rw[hm];rfl
      have HM:=zH hm;clear hm;obtain⟨r,hr⟩ : ∃r,Hid (r=v2 % 2):=⟨_,zH rfl⟩;rw[<-hr.out]at hb1 hand1;go_wp2;go_ret;refine .inl ⟨_,_,_,_,_,Z5e HDE.out,?_,H2.out,H3.out⟩;rw[zag,if_neg (by rw[HM.out];decide),<-hq.out];rfl
    ·have HDE:=zH (HD.out.symm.trans (HDD.out.trans (if_neg (by omega))));go_wp2;go_roundw
     case rel=>exact⟨i+1,v2,t,a2,n2,c2,rfl,by go_num,by omega,HW.out,zH HDE.out.symm,H2,H3⟩
     case measure=>simp[intOf];omega
theorem Z9t: ∀(xs:List Int) (z:Int),xs.length < 15->(Z5 (mkN xs [] []) none 0).setIfInBounds xs.length (.int .i64 z)=Z5 (mkN (xs ++ [z]) [] []) none 0
 | [],_,_=>rfl
 | [_],_,_=>rfl
 | [_,_],_,_=>rfl
 | [_,_,_],_,_=>rfl
 | [_,_,_,_],_,_=>rfl
 | [_,_,_,_,_],_,_=>rfl
 | [_,_,_,_,_,_],_,_=>rfl
 | [_,_,_,_,_,_,_],_,_=>rfl
 | [_,_,_,_,_,_,_,_],_,_=>rfl
 | [_,_,_,_,_,_,_,_,_],_,_=>rfl
 | [_,_,_,_,_,_,_,_,_,_],_,_=>rfl
 | [_,_,_,_,_,_,_,_,_,_,_],_,_=>rfl
 | [_,_,_,_,_,_,_,_,_,_,_,_],_,_=>rfl
 | [_,_,_,_,_,_,_,_,_,_,_,_,_],_,_=>rfl
 | [_,_,_,_,_,_,_,_,_,_,_,_,_,_],_,_=>rfl
 | _ :: _ :: _ :: _ :: _ :: _ :: _ :: _ :: _ :: _ :: _ :: _ :: _ :: _ :: _ :: _,_,h=>absurd h (by simp only[List.length_cons];omega)
theorem Z82 (xs ys:List Int)(sa:zA)(sc:Nat): ∀(zs:List Int) (z:Int),zs.length < 3->(Z5 (mkN xs ys zs) sa sc).setIfInBounds (16+zs.length) (.int .i64 z)=Z5 (mkN xs ys (zs ++ [z])) sa sc
 | [],_,_=>rfl
 | [_],_,_=>rfl
 | [_,_],_,_=>rfl
 | _ :: _ :: _ :: _,_,h=>absurd h (by simp only[List.length_cons];omega)
theorem Z6D (xs ys ys':List Int)(sa sa':zA)(sc sc' m:Nat)(h:m=ys'.length):(Z5 (mkN xs ys []) sa sc).setIfInBounds 15 (.slice sa' m sc')=Z5 (mkN xs ys' []) sa' sc':=by
 subst h;rfl
theorem Z2i {f:zU->Option (Int×zU)}{k:Nat}{l t t':zU}{xs:List Int}{z:Int}(h:XT f k l=some (xs,t))(h2:f t=some (z,t')):XT f (k+1) l=some (xs ++ [z],t'):=by
 rw[XT,h];simp only[h2]
theorem Z9O {f:zU->Option (Int×zU)}{l:zU}{k:Nat}(h:XT f k l=none): ∀j,k<=j->XT f j l=none:=by
 intro j hj
 induction j with
 | zero=>rw[show(0:Nat)=k by omega];exact h
 | succ j ih=>
  by_cases hk:k=j+1
  ·rw[<-hk];exact h
  ·rw[XT,ih (by omega)]
theorem Z2j {f:zU->Option (Int×zU)}{k:Nat}{l t:zU}{xs:List Int}(h:XT f k l=some (xs,t))(h2:f t=none)(j:Nat)(hj:k < j):XT f j l=none:=by
 refine Z9O (k:=k+1) ?_ j hj;rw[XT,h];simp only[h2]
def VP (f:zU->Option (Int×zU))(l:zU):Option (Nat×zU):=match f l with
 | some (c,t)=>if 0<=c/\c<=t.length then some (c.toNat,t)else none
 | none=>none
theorem Z8W {f:zU->Option (Int×zU)}{l:zU}(h:XT f 15 l=none):Q9 f l=none:=by
 unfold Q9;rw[h]
theorem Z8V {f:zU->Option (Int×zU)}{l t:zU}{x:List Int}(h:XT f 15 l=some (x,t))(h2:VP f t=none):Q9 f l=none:=by
 unfold Q9 VP at *;rw[h];cases e:f t with
 | none=>simp only[e]
 | some p=>
  obtain⟨c,t1⟩:=p;rw[e]at h2;simp only at h2;simp only[e];split at h2
  ·cases h2
  ·rename_i h3;rw[if_neg h3]
theorem Z5X {f:zU->Option (Int×zU)}{l t t1:zU}{x:List Int}{k:Nat}(h:XT f 15 l=some (x,t))(h2:VP f t=some (k,t1)):Q9 f l=match XT f k t1 with
  | some (y,t2)=>match XT f 3 t2 with
   | some (z,t3)=>some (mkN x y z,t3)
   | none=>none
  | none=>none:=by
 unfold Q9 VP at *;rw[h];cases e:f t with
 | none=>rw[e]at h2;cases h2
 | some p=>
  obtain⟨c,t1'⟩:=p;rw[e]at h2;simp only at h2;split at h2
  ·rename_i h3;simp only[Option.some.injEq,Prod.mk.injEq]at h2;obtain⟨rfl,rfl⟩:=h2;simp only[e,if_pos h3];rfl
  ·cases h2
theorem Z42 (rp:Nat)(l:zU)(a:zA)(n c:Nat)(w:World)(h:RdP w rp l a n c):
  Calls zq 147 #[.pointer (some ⟨rp,0,none⟩)] w fun e w'=>(∃(k:Nat) (t:zU) (a2:zA) (n2 c2:Nat),VP Xo l=some (k,t)/\k<=t.length/\e = .returned (.int .i64 k)/\RdP w' rp t a2 n2 c2/\Za (fun k=>k=rp) w w'/\(∀W,Yg W a n c l->Yg W a2 n2 c2 t)) \/
   (VP Xo l=none/\e = .panicked [Z2F]/\Za (fun k=>k=rp) w w'):=by
 go_enter Tryz.func147,Tryz.ntmps147;go_wp2_with fail;refine(VH rp l a n c w h).mono ?_;rintro e w1 (⟨z,t,a2,n2,c2,h1,rfl,h2,h3⟩ | ⟨h1,rfl,h3⟩)
 ·obtain⟨h3,h4⟩:=h3;have c0:w1.cell? ⟨rp,0,none⟩=some (.slice a2 n2 c2):=Z6 h2.e 0 _ rfl;have hn:t.length=n2:=by have:=h2.r.1;simpa using this
  have H1:=zH h1;clear h1;have H2:=zH h2;clear h2;have H3:=zH h3;clear h3;have H4:=zH h4;clear h4;have HN:=zH hn;clear hn;by_cases hz:z < 0
  ·have HF:=zH (show VP Xo l=none by unfold VP;rw[H1.out];simp only;rw[if_neg (by omega)]);have hz1:decide (z < 0)=true:=by simp[hz]
   go_wp2_with fail;exact⟨rfl,.inr ⟨HF.out,rfl,H3.out⟩⟩
  ·have hz1:decide (z < 0)=false:=by simp;omega
   by_cases hc:(n2:Int) < z
   ·have HF:=zH (show VP Xo l=none by unfold VP;rw[H1.out];simp only;rw[if_neg (by rw[HN.out];omega)]);have hc1:decide ((n2:Int) < z)=true:=by simp[hc]
    go_wp2_with fail;exact⟨rfl,.inr ⟨HF.out,rfl,H3.out⟩⟩
   ·have HF:=zH (show VP Xo l=some (z.toNat,t)by unfold VP;rw[H1.out];simp only;rw[if_pos (by rw[HN.out];omega)]);have hc1:decide ((n2:Int) < z)=false:=by simp;omega
    obtain⟨k,rfl⟩ : ∃k:Nat,z=(k:Int):=⟨z.toNat,by omega⟩;go_wp2;go_ret;exact .inl ⟨k,t,a2,n2,c2,HF.out,by rw[HN.out];omega,rfl,H2.out,H3.out,H4.out⟩
 ·have H1:=zH h1;clear h1;have H3:=zH h3;clear h3;go_wp2_with fail;exact⟨rfl,.inr ⟨by unfold VP;rw[H1.out],rfl,H3.out⟩⟩
theorem YT {W W':World}{S S':Nat->Prop}(h:Za S W W')(hi : ∀k,S k->S' k):Za S' W W':=
 ⟨h.os,h.tape,h.output,h.size,fun k hk hs=>h.block k hk (fun e=>hs (hi k e))⟩
theorem Z1s (m:Z8)(sa:zA)(sc:Nat): ∀v∈Z5 m sa sc,∀x,v≠Zs x:=by
 intro v hv x;simp only[Z5,Z8.cells,List.mem_toArray,List.mem_cons,List.not_mem_nil,or_false]at hv;rcases hv with rfl | rfl | rfl | rfl | rfl | rfl | rfl | rfl | rfl | rfl | rfl | rfl | rfl | rfl | rfl | rfl | rfl | rfl | rfl <;> (intro h;cases h)
theorem Z7B: ∀(l:zU) (i u v:Nat) (t:zU),Z0J i u l=some (v,t)->t.length<=l.length
 | [],i,u,v,t,h=>by simp[Z0J]at h
 | c :: l,i,u,v,t,h=>by
  rw[Z0J]at h
  split at h
  ·cases h
  ·split at h
   ·simp only[Option.some.injEq,Prod.mk.injEq]at h
    rw[<-h.2,List.length_cons];omega
   ·have:=Z7B l _ _ v t h
    rw[List.length_cons];omega
theorem Z6X {l t:zU}{z:Int}(h:Xo l=some (z,t)):t.length<=l.length:=by
 unfold Xo at h;split at h
 ·rename_i e;simp only[Option.some.injEq,Prod.mk.injEq]at h;rw[<-h.2];exact Z7B _ _ _ _ _ e
 ·cases h
theorem Z2k {l:zU}: ∀(k:Nat) {t:zU} {xs:List Int},XT Xo k l=some (xs,t)->t.length<=l.length
 | 0,t,xs,h=>by simp only[XT,Option.some.injEq,Prod.mk.injEq]at h;rw[h.2];exact Nat.le_refl _
 | k+1,t,xs,h=>by
  rw[XT]at h
  split at h
  ·rename_i e
   split at h
   ·rename_i e2
    simp only[Option.some.injEq,Prod.mk.injEq]at h
    rw[<-h.2]
    exact Nat.le_trans (Z6X e2) (Z2k k e)
   ·cases h
  ·cases h
theorem Z78 {l t:zU}{k:Nat}(h:VP Xo l=some (k,t)):t.length<=l.length:=by
 unfold VP at h;split at h
 ·rename_i e;split at h
  ·simp only[Option.some.injEq,Prod.mk.injEq]at h;rw[<-h.2];exact Z6X e
  ·cases h
 ·cases h
structure Z0M (wf W:World)(rp nb B:Nat)(m:Z8)(sa:zA)(sc:Nat)(t:zU)(a:zA)(n c:Nat):Prop where
 e:W.heap[nb]? = some (.cells (Z5 m sa sc) 47)
 r:RdP W rp t a n c
 s:Za (fun k=>k=rp\/k=nb\/B<=k) wf W
 o:Yg wf a n c t
section
variable {wf W W':World}{rp nb B:Nat}{m:Z8}{sa:zA}{sc:Nat}{t:zU}{a:zA}{n c:Nat}
theorem Z0M.number (h:Z0M wf W rp nb B m sa sc t a n c){t':zU}{a2:zA}{n2 c2:Nat}(hr:RdP W' rp t' a2 n2 c2)(hs:Za (fun k=>k=rp) W W')(hq : ∀W,Yg W a n c t->Yg W a2 n2 c2 t')(hne : ¬nb=rp):Z0M wf W' rp nb B m sa sc t' a2 n2 c2:=
 ⟨(hs.block _ (Array.getElem?_eq_some_iff.1 h.e).1 hne).trans h.e,hr,h.s.trans (YT hs fun k e=>.inl e),hq wf h.o⟩
theorem Z0M.set (h:Z0M wf W rp nb B m sa sc t a n c)(j:Nat)(v:Value){m':Z8}{sa':zA}{sc':Nat}(hv:(Z5 m sa sc).setIfInBounds j v=Z5 m' sa' sc')(hne : ¬rp=nb):Z0M wf (W.setCell ⟨nb,j,none⟩ v) rp nb B m' sa' sc' t a n c:=
 ⟨by rw[<-hv];exact heap_setCell_same W nb j _ _ v h.e,h.r.same (Vm W nb j v) hne (fun h0 b off e=>VE h.e (Z1s m sa sc) h.r.r h0 b off e),h.s.trans (YT (Vm W nb j v) fun k e=>.inr (.inl e)),h.o⟩
theorem Z0M.below (h:Z0M wf W rp nb B m sa sc t a n c)(hb:Below W.heap.size W W'):Z0M wf W' rp nb B m sa sc t a n c:=
 ⟨(hb.block _ (Array.getElem?_eq_some_iff.1 h.e).1).trans h.e,h.r.same (S:=fun _=>False) (Za.of_below hb) id (fun _ _ _ _=>id),h.s.trans (Za.of_below hb),h.o⟩
theorem Z0M.grown (h:Z0M wf W rp nb B m sa sc t a n c){v:Value}{q k:Nat}{xs:List Value}{e:TypeId}(hg:W.grownBy W' v.ownBlock)(ho:W.ownsRow B e k v q xs)(hB:wf.heap.size=B)(hnb:nb < B)(hrp:rp < B):Z0M wf W' rp nb B m sa sc t a n c:=by
 have hlt:=fun b hb=>(ho.lt b hb).1;have hs:Za (fun k=>v.ownBlock=some k) W W':=Za.of_grown hg (fun k e=>e);have h1 : ¬v.ownBlock=some nb:=fun e=>by have:=hlt _ e;omega
 have h2 : ¬v.ownBlock=some rp:=fun e=>by have:=hlt _ e;omega
 refine⟨(hs.block _ (Array.getElem?_eq_some_iff.1 h.e).1 h1).trans h.e,h.r.same hs h2 (fun h0 b off e hb=>?_),h.s.trans (YT hs fun k e=>.inr (.inr (hlt k e))),h.o⟩;have h3:=Ze2 h.o h0 (by omega) b off e;have h4:=hlt b hb;omega
end
theorem Z65:(zq.info? 3).map (fun i=>(i.zero,i.size,i.bytes))=some (some (.int .i64 0),1,8):=by kernel_rfl
theorem Z4F {w:World}{ops:Array Oper}{o:Oper}{a:Act}{K:Act->World->Prop}{Q:Exit->Act->World->Prop}{E:Prop}(hgd:o.guard=none)(s x:Operand)
  (ho:o.op = .call { callee := .builtin .append,args := #[s,x],argTypes := #[37,37] }) (base:Nat)
  (sa:zA) (sn sc:Nat) (xs:List Int) (hs:a.eval s = .slice sa sn sc) (hown:w.ownsRow base 3 1 (.slice sa sn sc) sn (xs.map Yq))
  (xa:zA) (m xc:Nat) (ys:List Int) (hx:a.eval x = .slice xa m xc) (hrd:XU w xa m xc ys) (hbytes:(sn+m) * 8<=140737488355328) (hbase:base<=w.heap.size)
  (h : ∀a' c' w',w'.ownsRow base 3 1 (.slice a' (sn+m) c') (sn+m) ((xs ++ ys).map Yq)->w.grownBy w' (Value.ownBlock (.slice sa sn sc))->K (a.put o.dst (.slice a' (sn+m) c')) w'):
  if Region.wanted o (yielded ops a.tmps)=true then Oper.wp zq o a w K Q else E:=by
 have hw:Region.wanted o (yielded ops a.tmps)=true:=by simp[Region.wanted,hgd]
 rw[if_pos hw];obtain⟨i,hi,hz0,hz1,hz2⟩:=info_parts Z65;obtain⟨a',c',w',hr,h2,h3⟩:=Yk (P:=zq) w base 37 o.type 3 i (.int .i64 0) 1 8 Tryz.underlying37 hi hz0 hz1 hz2 rfl (by decide) sa sn sc _ hown xa m xc _ hrd (Z7e _) (by unfold maxLen;omega) (by omega) hbase;unfold Oper.wp;simp[execOp,ho,resolve,invoke,builtin,hs,hx,hr,Result.andThen];exact h a' c' w' (by rw[List.map_append];exact h2) h3
theorem Ub (rp:Nat)(l t:zU)(z:Int)(a:zA)(n c:Nat)(w:World)(h:RdP w rp l a n c)(hn:Xo l=some (z,t)):
  Calls zq 146 #[.pointer (some ⟨rp,0,none⟩)] w fun e w' => ∃a2 n2 c2,e = .returned (.int .i64 z)/\RdP w' rp t a2 n2 c2/\Za (fun k=>k=rp) w w'/\(∀W,Yg W a n c l->Yg W a2 n2 c2 t):=by
 refine(VH rp l a n c w h).mono ?_;rintro e w1 (⟨z',t',a2,n2,c2,h1,rfl,h2,h3⟩ | ⟨h1,rfl,h3⟩)
 ·rw[hn]at h1;cases h1;exact⟨a2,n2,c2,rfl,h2,h3⟩
 ·rw[hn]at h1;cases h1
theorem Z6W (rp:Nat)(l:zU)(a:zA)(n c:Nat)(w:World)(h:RdP w rp l a n c)(hn:Xo l=none):
  Calls zq 146 #[.pointer (some ⟨rp,0,none⟩)] w fun e w'=>e = .panicked [Z2F]/\Za (fun k=>k=rp) w w':=by
 refine(VH rp l a n c w h).mono ?_;rintro e w1 (⟨z',t',a2,n2,c2,h1,rfl,h2,h3⟩ | ⟨h1,rfl,h3⟩)
 ·rw[hn]at h1;cases h1
 ·exact⟨rfl,h3⟩
section
attribute [local go_sem] ZS X9 XZ QP XJ QO QN QM Vp Vn Qi Qh JS JR JQ XQ J9 J8 Jt
theorem Zb9 (rp:Nat)(l:zU)(a:zA)(n c:Nat)(w:World)(h:RdP w rp l a n c)(hl:l.length<=1000000):
  Calls zq 131 #[.pointer (some ⟨rp,0,none⟩)] w fun e w'=>(∃(m:Z8) (t:zU) (sa:zA) (sc:Nat) (a2:zA) (n2 c2:Nat),Q9 Xo l=some (m,t)/\e = .returned (.agg (Z5 m sa sc))/\w'.ownsRow w.heap.size 3 1 (.slice sa m.strokes.length sc) m.strokes.length (m.strokes.map Yq)/\RdP w' rp t a2 n2 c2/\Za (fun k=>k=rp) w w') \/
   (Q9 Xo l=none/\e = .panicked [Z2F]/\Za (fun k=>k=rp) w w'):=by
 have I43:=zH zI;have hrp:rp < w.heap.size:=(Array.getElem?_eq_some_iff.1 h.e).1;have hlast:(w.alloc (.cells (Z5 Zh none 0) 47)).heap[w.heap.size]? = some (.cells (Z5 (mkN [] [] []) none 0) 47):=Z9 w (.cells (Z5 Zh none 0) 47);have bb:Below w.heap.size w (w.alloc (.cells (Z5 Zh none 0) 47)):=zB _ _;have hz0:w.heap.size < (w.alloc (.cells (Z5 Zh none 0) 47)).heap.size:=by simp
 obtain⟨nb,hnb⟩:=zX (w.heap.size);rw[hnb.out]at hrp hlast hz0;have HRP:=zH hrp;clear hrp;have HH:=zH h;clear h;have H0:=zH (And.intro hlast (And.intro bb hz0));clear hlast bb hz0;have HL:=zH hl;clear hl;go_enter Tryz.func131,Tryz.ntmps131;go_wp2_with fail;rw[<-YI,hnb.out];generalize w.alloc (.cells (Z5 Zh none 0) 47)=w0 at *;refine(Z4k nb w0).mono ?_;rintro e wf ⟨rfl,g1,g2,b1⟩;have HW:Hid (Below w.heap.size w wf):=zH (H0.out.2.1.trans (b1.mono (by rw[hnb.out];exact Nat.le_of_lt H0.out.2.2)));have hn1:=(b1.block _ H0.out.2.2).trans H0.out.1;obtain⟨P,hP⟩:=zX (w0.heap.size);obtain⟨Q,hQ⟩:=zX (w0.heap.size+1);obtain⟨B,hB⟩:=zX (wf.heap.size);rw[hQ.out,hP.out];rw[hP.out]at g1;rw[hQ.out]at g2;have hPn:nb < P:=by rw[<-hP.out];exact H0.out.2.2
 have hQn:nb < Q:=by rw[<-hQ.out];exact Nat.lt_succ_of_lt H0.out.2.2
 have hPB:P < B:=by rw[<-hB.out];exact(Array.getElem?_eq_some_iff.1 g1).1
 have hQB:Q < B:=by rw[<-hB.out];exact(Array.getElem?_eq_some_iff.1 g2).1
 have LP:=zH (And.intro hPn (And.intro hPB g1));clear hPn hPB g1;have LQ:=zH (And.intro hQn (And.intro hQB g2));clear hQn hQB g2;have LB:Hid (nb < B/\rp < B):=zH ⟨Nat.lt_trans LP.out.1 LP.out.2.1,Nat.lt_trans HRP.out (Nat.lt_trans LP.out.1 LP.out.2.1)⟩;have hI:Z0M wf wf rp nb B (mkN [] [] []) none 0 l a n c:=⟨hn1,HH.out.same (S:=fun _=>False) (Za.of_below HW.out) id (fun _ _ _ _=>id),⟨rfl,rfl,rfl,Nat.le_refl _,fun _ _ _=>rfl⟩,Yg.below HH.out.r HW.out⟩;have HI:=zH hI;clear hI hn1 H0 b1 HH;have FR:Hid (∀W,Za (fun k=>k=rp\/k=nb\/B<=k) wf W->Za (fun k=>k=rp) w W):=zH fun W hS=>
  ⟨hS.os.trans HW.out.os,hS.tape.trans HW.out.tape,hS.output.trans HW.out.output,Nat.le_trans HW.out.size hS.size,fun k hk hr=>by
   have hkn:k < nb:=by rw[<-hnb.out];exact hk
   have:=LB.out.1;exact(hS.block k (Nat.lt_of_lt_of_le hk HW.out.size) (by omega)).trans (HW.out.block k hk)⟩
 have NR:Hid (¬nb=rp /\ ¬rp=nb):=zH (by have:=HRP.out;omega);go_wp2_with fail;go_loopw [6,15] (fun _ i wr=>∃(k:Nat) (xs:List Int) (t:zU) (a:zA) (n c:Nat),i = .int .i64 k/\k<=15/\Hid (XT Xo k l=some (xs,t))/\Hid (Z0M wf wr rp nb B (mkN xs [] []) none 0 t a n c)) (fun _ i _=>15 - (intOf i).toNat)
 case atStart=>exact⟨0,[],l,a,n,c,rfl,by omega,zH rfl,HI⟩
 case round=>
  obtain⟨k,xs,t,a,n,c,rfl,hk,HM,HN⟩:=hrel;by_cases hlt:k < 15
  ·have hxl:=VK _ _ _ _ HM.out;have e1:wr.cell? ⟨P,k,none⟩=some (.pointer (some ⟨nb,k,none⟩)):=Z6 ((HN.out.s.block P (by rw[hB.out];exact LP.out.2.1) (by have h1:=LP.out.1;have h2:=LP.out.2.1;have h3:=HRP.out;omega)).trans LP.out.2.2) _ _ (Z2Z nb k hlt);have hz63:(k:Int)<=9223372036854775807:=by omega
   have HXL:=zH hxl;clear hxl;go_wp2_with fail;refine(VH rp t a n c wr HN.out.r).mono ?_;rintro e w1 (⟨z,t',a2,n2,c2,h1,rfl,h2,h3⟩ | ⟨h1,rfl,h3⟩)
   ·have HN1:=zH (HN.out.number h2 h3.1 h3.2 NR.out.1);have H1:=zH (Z2i HM.out h1);clear h1 h2 h3 e1;have e2:w1.cell? ⟨nb,k,none⟩=some (.int .i64 ((ZX (mkN xs [] []))[k]?.getD 0)):=Z6 HN1.out.e _ _ (Z4y (mkN xs [] []) none 0 k hlt);have f2:=Zq HN1.out.e k;generalize (ZX (mkN xs [] []))[k]?.getD 0=y at *;have HN2:=zH (HN1.out.set k (.int .i64 z) (by rw[<-HXL.out];exact Z9t xs z (by rw[HXL.out];exact hlt)) NR.out.2);go_wp2;go_roundw
    case rel=>exact⟨k+1,xs ++ [z],t',a2,n2,c2,by go_num,by omega,H1,HN2⟩
    case measure=>simp[intOf];omega
   ·have HF:=zH (Z8W (Z2j HM.out h1 15 hlt));have HS:=zH (FR.out _ (HN.out.s.trans (YT h3 fun k e=>.inl e)));clear h1 h3 e1;go_wp2_with fail;exact⟨rfl,.inr ⟨HF.out,rfl,HS.out⟩⟩
  ·have hkn:k=15:=by omega
   subst hkn;go_wp2_with fail;refine(Z42 rp t a n c wr HN.out.r).mono ?_;rintro e w1 (⟨cnt,t1,a2,n2,c2,h1,hcnt,rfl,h2,h3⟩ | ⟨h1,rfl,h3⟩)
   ·have HN1:=zH (HN.out.number h2 h3.1 h3.2 NR.out.1);have hc2:cnt<=1000000:=Nat.le_trans hcnt (Nat.le_trans (Z78 h1) (Nat.le_trans (Z2k _ HM.out) HL.out));have H1:=zH h1;clear h1 h2 h3 hcnt;go_wp2_with fail;go_loopw [26] (fun i wr=>∃(k:Nat) (ys:List Int) (t:zU) (a:zA) (n c:Nat) (sa:zA) (sc:Nat),i = .int .i64 k/\k<=cnt/\Hid (XT Xo k t1=some (ys,t))/\Hid (Z0M wf wr rp nb B (mkN xs ys []) sa sc t a n c)/\Hid (wr.ownsRow B 3 1 (.slice sa k sc) k (ys.map Yq))) (fun i _=>cnt - (intOf i).toNat)
    case atStart=>exact⟨0,[],t1,a2,n2,c2,none,0,rfl,Nat.zero_le _,zH rfl,HN1,zH (World.ownsRow_nil _ _ _ _)⟩
    case round=>
     obtain⟨k,ys,t,a,n,c,sa,sc,rfl,hk,HM2,HN2,HO⟩:=hrel;by_cases hlt:k < cnt
     ·cases hnum:Xo t with
      | none=>
       go_wp2_with fail;have hyl:ys.length=k:=VK _ _ _ _ HM2.out;have HND:=zH (HN2.out.below (zd wr));have e15:wr.drew.cell? ⟨nb,15,none⟩=some (.slice sa k sc):=Z6 HND.out.e 15 _ (by rw[<-hyl];rfl);have HF:=zH (show Q9 Xo l=none by rw[Z5X HM.out H1.out,Z2j HM2.out hnum cnt hlt]);refine wp_region_any (by kernel_rfl) ?_;change wpAny _ _ _ _ _ _ _ (World.drew _);refine wpAny_take (i:=0) (v := ?_) rfl (by kernel_rfl) (by kernel_rfl) (by kernel_rfl) (fun _ _ _ h=>h) (Or.inl ⟨by rfl,?_⟩) ?_;rotate_left
       ·intro w;go_simp
        first | done | with_reducible rfl
       refine wpAny_take (i:=2) (v := ?_) rfl (by kernel_rfl) (by kernel_rfl) (by kernel_rfl) (fun _ _ _ h=>h) (Or.inl ⟨by rfl,?_⟩) ?_;rotate_left
       ·intro w;go_simp
        first | done | with_reducible rfl
       refine wpAny_ready (rs:=[1,3]) (by kernel_rfl) (by simp) ?_;refine AllReady.cons rfl (fun K hK=>?_) ?_
       focus
        go_simp;refine hK _ _ ?_;clear hK K;refine wpAny_ready (rs:=[3]) (by kernel_rfl) (by simp) ?_;refine AllReady.cons rfl (fun K hK=>?_) AllReady.nil
       rotate_left
       focus
        refine AllReady.cons rfl (fun K hK=>?_) AllReady.nil
       all_goals
        go_simp;go_at_call 146;refine(Z6W rp t a n c _ HND.out.r hnum).mono ?_;rintro e w1 ⟨rfl,h3⟩;exact⟨rfl,.inr ⟨HF.out,rfl,FR.out _ (HND.out.s.trans (YT h3 fun k e=>.inl e))⟩⟩
      | some p=>
       obtain⟨z,t'⟩:=p;go_wp2_with fail;have hyl:ys.length=k:=VK _ _ _ _ HM2.out;have HYL:=zH hyl;clear hyl;have HND:=zH (HN2.out.below (zd wr));have OD:=zH (Zd HO.out (zd wr));have e15:wr.drew.cell? ⟨nb,15,none⟩=some (.slice sa k sc):=Z6 HND.out.e 15 _ (by rw[<-HYL.out];rfl);go_region_law (first
        |(refine Z4F rfl _ _ rfl B _ _ _ ys rfl O3.out _ _ _ [z] rfl (Z27 w1 z) (by omega) hBs ?_;intro sa' sc' w3 h5 h6;have HN4:=zH ((HN3.out.below (zB w1 (.cells #[.int .i64 z] 3))).grown h6 O3.out hB.out LB.out.1 LB.out.2);have e18:w3.cell? ⟨nb,15,none⟩=some (.slice sa k sc):=Z6 HN4.out.e 15 _ (by rw[<-HYL.out];try rfl);have f18:=Zq HN4.out.e 15;have H5:=zH h5;clear h5 h6)
        |(go_simp;go_at_call 146;refine(Ub rp t t' z a n c _ HND.out.r hnum).mono ?_;rintro e w1 ⟨a3,n3,c3,rfl,h2,h3⟩;have HN3:=zH (HND.out.number h2 h3.1 h3.2 NR.out.1);have e16:w1.cell? ⟨nb,15,none⟩=some (.slice sa k sc):=Z6 HN3.out.e 15 _ (by rw[<-HYL.out];try rfl);have e17 : ∀o,(w1.alloc o).cell? ⟨nb,15,none⟩=some (.slice sa k sc):=fun o=>Z6 (Zb w1 o _ _ HN3.out.e) 15 _ (by rw[<-HYL.out];try rfl);have O3:=zH (Zd (JP OD.out h3.1 (fun b cur fr hb=>.inr ((show b=rp from hb).symm ▸ LB.out.2))) (zB w1 (.cells #[.int .i64 z] 3)));have hBs:B<=(w1.alloc (.cells #[.int .i64 z] 3)).heap.size:=Nat.le_trans (Nat.le_of_eq hB.out.symm) (Nat.le_trans HN3.out.s.size (by simp));clear h2 h3))
       all_goals
        have HN5:=zH (HN4.out.set 15 (.slice sa' (k+1) sc') (Z6D xs ys (ys ++ [z]) sa sa' sc sc' (k+1) (by simp[HYL.out])) NR.out.2);have HO5:=zH (JP H5.out (Vm w3 nb 15 (.slice sa' (k+1) sc')) (fun b cur fr hb=>.inr ((show b=nb from hb).symm ▸ LB.out.1)));clear e15 e16 e17 e18 f18;go_wp2;go_roundw
        case rel=>exact⟨k+1,ys ++ [z],t',a3,n3,c3,sa',sc',by go_num,by omega,zH (Z2i HM2.out hnum),HN5,HO5⟩
        case measure=>simp[intOf];omega
     ·have hkn:k=cnt:=by omega
      subst hkn;have HF3:=zH (Z5X HM.out H1.out);go_wp2_with fail;go_loopw [8,38] (fun _ i wr=>∃(j:Nat) (zs:List Int) (t':zU) (a:zA) (n c:Nat),i = .int .i64 j/\j<=3/\Hid (XT Xo j t=some (zs,t'))/\Hid (Z0M wf wr rp nb B (mkN xs ys zs) sa sc t' a n c)/\Hid (wr.ownsRow B 3 1 (.slice sa k sc) k (ys.map Yq))) (fun _ i _=>3 - (intOf i).toNat)
      case atStart=>exact⟨0,[],t,a,n,c,rfl,by omega,zH rfl,HN2,HO⟩
      case round=>
       obtain⟨j,zs,t',a,n,c,rfl,hj,HM3,HN3,HO3⟩:=hrel;by_cases hlt:j < 3
       ·have hxl:=VK _ _ _ _ HM3.out;have e1:wr.cell? ⟨Q,j,none⟩=some (.pointer (some ⟨nb,16+j,none⟩)):=Z6 ((HN3.out.s.block Q (by rw[hB.out];exact LQ.out.2.1) (by have h1:=LQ.out.1;have h2:=LQ.out.2.1;have h3:=HRP.out;omega)).trans LQ.out.2.2) _ _ (Z1J nb j hlt);have hz63:(j:Int)<=9223372036854775807:=by omega
        have HXL:=zH hxl;clear hxl;go_wp2_with fail;refine(VH rp t' a n c wr HN3.out.r).mono ?_;rintro e w1 (⟨z,t2,a2,n2,c2,h1,rfl,h2,h3⟩ | ⟨h1,rfl,h3⟩)
        ·have HN4:=zH (HN3.out.number h2 h3.1 h3.2 NR.out.1);have HO4:=zH (JP HO3.out h3.1 (fun b cur fr hb=>.inr ((show b=rp from hb).symm ▸ LB.out.2)));have H1':=zH (Z2i HM3.out h1);clear h1 h2 h3 e1;have e2:w1.cell? ⟨nb,16+j,none⟩=some (.int .i64 ((ZQ (mkN xs ys zs))[j]?.getD 0)):=Z6 HN4.out.e _ _ (Z2Y (mkN xs ys zs) sa sc j hlt);have f2:=Zq HN4.out.e (16+j);generalize (ZQ (mkN xs ys zs))[j]?.getD 0=y at *;have HN5:=zH (HN4.out.set (16+j) (.int .i64 z) (by rw[<-HXL.out];exact Z82 xs ys sa sc zs z (by rw[HXL.out];exact hlt)) NR.out.2);have HO5:=zH (JP HO4.out (Vm w1 nb (16+j) (.int .i64 z)) (fun b cur fr hb=>.inr ((show b=nb from hb).symm ▸ LB.out.1)));go_wp2;go_roundw
         case rel=>exact⟨j+1,zs ++ [z],t2,a2,n2,c2,by go_num,by omega,H1',HN5,HO5⟩
         case measure=>simp[intOf];omega
        ·have HF:=zH (show Q9 Xo l=none by rw[HF3.out,HM2.out];simp only;rw[Z2j HM3.out h1 3 hlt]);have HS:=zH (FR.out _ (HN3.out.s.trans (YT h3 fun k e=>.inl e)));clear h1 h3 e1;go_wp2_with fail;exact⟨rfl,.inr ⟨HF.out,rfl,HS.out⟩⟩
       ·have hjn:j=3:=by omega
        subst hjn;have HF:=zH (show Q9 Xo l=some (mkN xs ys zs,t')by rw[HF3.out,HM2.out];simp only;rw[HM3.out]);have hyl:ys.length=k:=VK _ _ _ _ HM2.out;obtain⟨N,hN⟩:=zX (mkN xs ys zs);have hNs:N.strokes=ys:=by rw[<-hN.out];rfl
        rw[hN.out]at HN3 HF;have one1:=Zm N sa sc;have HY:=zH (And.intro hNs hyl);clear hyl hNs;go_wp2_with (first
         |(refine zL nb HN3.out.e ?_)
         |(refine zN nb (Z5 N sa sc) HN3.out.e ?_))
        refine bodyPost_ret (results_cell_row rfl _ _ nb 47 (Z5 N sa sc) (0,0) _ rfl ?hg Tryz.underlying47 rfl (I43.out _ _ _)) rfl ?_
        case hg=>exact setRow_heap wr nb _ _ _ _ HN3.out.e
        have hSR:Za (fun k=>k=nb) wr (wr.setRow nb (Z5 N sa sc)):=⟨rfl,rfl,rfl,by simp,fun k hk hs=>setRow_other wr nb k _ hs⟩;have hO:=JP HO3.out hSR (fun b cur fr hb=>.inr ((show b=nb from hb).symm ▸ LB.out.1));refine .inl ⟨N,t',sa,sc,a,n,c,HF.out,rfl,?_,?_,?_⟩
        ·rw[HY.out.1,HY.out.2];exact Zu hO (by rw[hnb.out];exact Nat.le_of_lt LB.out.1)
        ·exact HN3.out.r.same hSR NR.out.2 (fun h0 b off e=>VE HN3.out.e (Z1s N sa sc) HN3.out.r.r h0 b off e)
        ·exact FR.out _ (HN3.out.s.trans (YT hSR fun k e=>.inr (.inl e)))
   ·have HF:=zH (Z8V HM.out h1);have HS:=zH (FR.out _ (HN.out.s.trans (YT h3 fun k e=>.inl e)));clear h1 h3;go_wp2_with fail;exact⟨rfl,.inr ⟨HF.out,rfl,HS.out⟩⟩
end
section
variable {W W':World}{rp:Nat}{l:zU}{a:zA}{n c at_:Nat}{bad:Bool}
theorem Za.refl (S:Nat->Prop)(W:World):Za S W W:=⟨rfl,rfl,rfl,Nat.le_refl _,fun _ _ _=>rfl⟩
end
theorem Zck (w:World){ops:Array Oper}{rest:List Oper}{o:Oper}{a:Act}{Q:Exit->Act->World->Prop}(hgd:o.guard=none)(s x:Operand)
  (ho:o.op = .call { callee := .builtin .append,args := #[s,x],argTypes := #[37,37] }) (base:Nat)
  (sa:zA) (sn sc:Nat) (xs:List Int) (hs:a.eval s = .slice sa sn sc) (hown:w.ownsRow base 3 1 (.slice sa sn sc) sn (xs.map Yq))
  (xa:zA) (m xc:Nat) (ys:List Int) (hx:a.eval x = .slice xa m xc) (hrd:XU w xa m xc ys) (hbytes:(sn+m) * 8<=140737488355328) (hbase:base<=w.heap.size)
  (h : ∀a' c' w',w'.ownsRow base 3 1 (.slice a' (sn+m) c') (sn+m) ((xs ++ ys).map Yq)->w.grownBy w' (Value.ownBlock (.slice sa sn sc))->wpList zq ops Q rest (a.put o.dst (.slice a' (sn+m) c')) w'):
  wpList zq ops Q (o :: rest) a w:=by
 obtain⟨i,hi,hz0,hz1,hz2⟩:=info_parts Z65;exact Ux w hgd s x 37 ho base 3 i (.int .i64 0) 1 8 Tryz.underlying37 hi hz0 hz1 hz2 rfl (by decide) sa sn sc _ hs hown xa m xc _ hx hrd (Z7e _) (by unfold maxLen;omega) hbytes hbase
  (fun a' c' w' h1 h2=>h a' c' w' (by rw[List.map_append];exact h1) h2)
theorem Qd {P:Program}(w:World)(base:Nat)(t ty e:TypeId)(i:TypeInfo)(z:Value)(size bytes:Nat)(ht:P.underlying t=some (.slice e))(hi:P.info? e=some i)(hz:i.zero=some z)
  (hsize:i.size=size) (hby:i.bytes=bytes)
  (sa:zA) (sn sc:Nat) (xs:List Value) (hown:w.ownsRow base e size (.slice sa sn sc) sn xs)
  (xa:zA) (m xc:Nat) (ys:List Value) (hrd:ZW w size xa m xc ys) (h1 : ∀u∈ys,u.oneCell'=true)
  (h63:sn+m<=maxLen) (hbytes:(sn+m) * bytes<=140737488355328) (v:Value) (w':World) (hr:(Builtin.append_ #[t,t] ty #[.slice sa sn sc,.slice xa m xc]).run P w = .ok v w'):
  (∃n' c',v = .slice sa n' c') \/ ∃n' c',v = .slice (some ⟨w.heap.size,0,none⟩) n' c':=by
 subst hsize;subst hby;have hsmall:((sn+m:Nat):Int)<=9223372036854775807:=by simp only[maxLen]at h63;omega
 have hkind:(xa=none/\m=0/\xc=0) \/ ∃ad,xa=some ad /\ ∀j u,ys[j]? = some u->w.cell? (ad.add j)=some u:=by
  rcases hrd.2.2.2 with rfl | ⟨b,off,rfl,h4⟩
  ·have hm:m=0:=by have:=hrd.2.1;omega
   subst hm;have hy:ys=[]:=List.eq_nil_of_length_eq_zero (by simpa using hrd.1);cases xa with
   | none=>exact .inl ⟨rfl,rfl,rfl⟩
   | some ad=>exact .inr ⟨ad,rfl,fun j u hu=>by rw[hy]at hu;simp at hu⟩
  ·exact .inr ⟨_,rfl,fun j u hu=>by rw[Addr.add_lit];exact h4 j u hu⟩
 rcases hkind with ⟨rfl,rfl,rfl⟩ | ⟨ad,rfl,hnews⟩
 ·rw[run_append_owned_none (P:=P) (w:=w) base t ty e i i.size ht hi _ sn xs hown]at hr;cases hr;exact .inl ⟨_,_,rfl⟩
 ·rcases hown.2 with ⟨h2,rfl⟩ | ⟨g,cap,cur,h2,hbg,hg,hnc,hcm,hcs,htake⟩
  ·simp only[Value.slice.injEq]at h2;obtain⟨rfl,_,rfl⟩:=h2;by_cases hm:m=0
   ·subst hm;have hy:ys=[]:=List.eq_nil_of_length_eq_zero (by simpa using hrd.1);have hr':(Builtin.append_ #[t,t] ty #[.slice none 0 0,.slice (some ad) 0 xc]).run P w = .ok (.slice none 0 0) w:=by
     simp[Builtin.append_,run_underlying ht,sizeOf,typeInfo,hi,Builtin.lenOf,Builtin.firstCells,loadCells,loadCellsFrom]
    rw[hr']at hr;cases hr;exact .inl ⟨_,_,rfl⟩
   ·rw[run_append_nil (P:=P) w t ty e i z ht hi hz ad m xc ys hrd.1 hnews (by omega) (by omega) (by have hb:=hbytes;simp only[Nat.zero_add]at hb;omega)]at hr;cases hr;exact .inr ⟨_,_,rfl⟩
  ·simp only[Value.slice.injEq]at h2;obtain⟨rfl,_,rfl⟩:=h2;by_cases hroom:sn+m<=sc
   ·have hfit:sn * i.size+ys.length<=cur.size:=by rw[hrd.1,hcs,<-Nat.add_mul];exact Nat.mul_le_mul_right _ hroom
    rw[run_append_room (P:=P) w t ty e i ht hi g sn sc cur hg ad m xc ys hrd.1 hnews h1 hroom hfit]at hr;cases hr;exact .inl ⟨_,_,rfl⟩
   ·have holds : ∀j u,xs[j]? = some u->w.cell? ((⟨g,0,none⟩:Addr).add j)=some u:=hown.cells (g:=g) rfl;rw[run_append_grow (P:=P) w t ty e i z ht hi hz ⟨g,0,none⟩ sn sc xs hown.1 holds ad m xc ys hrd.1 hnews (by omega) hsmall (growslice_fits (by omega) hbytes)]at hr;cases hr;exact .inr ⟨_,_,rfl⟩
theorem zu (w:World){ops:Array Oper}{rest:List Oper}{o:Oper}{a:Act}{Q:Exit->Act->World->Prop}(hgd:o.guard=none)(s x:Operand)
  (ho:o.op = .call { callee := .builtin .append,args := #[s,x],argTypes := #[41,41] }) (base:Nat)
  (sa:zA) (sn sc:Nat) (xs:zU) (hs:a.eval s = .slice sa sn sc) (hown:w.ownsRow base 5 1 (.slice sa sn sc) sn (xs.map Zs))
  (xa:zA) (m xc:Nat) (ys:zU) (hx:a.eval x = .slice xa m xc) (hrd:Yg w xa m xc ys) (hbytes:sn+m<=140737488355328) (hbase:base<=w.heap.size)
  (h : ∀a' c' w',(a'=sa\/a'=some ⟨w.heap.size,0,none⟩)->w'.ownsRow base 5 1 (.slice a' (sn+m) c') (sn+m) ((xs ++ ys).map Zs)->w.grownBy w' (Value.ownBlock (.slice sa sn sc))->wpList zq ops Q rest (a.put o.dst (.slice a' (sn+m) c')) w'):
  wpList zq ops Q (o :: rest) a w:=by
 obtain⟨i,hi,hz0,hz1,hz2⟩:=info_parts UF;refine wpList_plain hgd fun K hK=>?_;obtain⟨a',c',w',hr,h2,h3⟩:=Yk (P:=zq) w base 41 o.type 5 i (.int .u8 0) 1 1 Tryz.underlying41 hi hz0 hz1 hz2 rfl (by decide) sa sn sc _ hown xa m xc _ hrd (Z2w _) (by unfold maxLen;omega) (by omega) hbase;have hloc:=Qd (P:=zq) w base 41 o.type 5 i (.int .u8 0) 1 1 Tryz.underlying41 hi hz0 hz1 hz2 sa sn sc _ hown xa m xc _ hrd (Z2w _) (by unfold maxLen;omega) (by omega) _ _ hr;have hloc':a'=sa\/a'=some ⟨w.heap.size,0,none⟩:=by
  rcases hloc with ⟨n',c'',h⟩ | ⟨n',c'',h⟩
  ·simp only[Value.slice.injEq]at h;exact .inl h.1
  ·simp only[Value.slice.injEq]at h;exact .inr h.1
 unfold Oper.wp;simp[execOp,ho,resolve,invoke,builtin,hs,hx,hr,Result.andThen];exact hK _ _ (h a' c' w' hloc' (by rw[List.map_append];exact h2) h3)
structure JAt (w:World)(p o:Nat)(a:zA)(n c:Nat)(d:Nat):Prop where
 c0:w.cell? ⟨p,o,none⟩=some (.slice a n c)
 c1:w.cell? ⟨p,o+1,none⟩=some (.int .i64 d)
 f0:w.frozen? ⟨p,o,none⟩=false
 f1:w.frozen? ⟨p,o+1,none⟩=false
theorem Z5k (w:World)(p o:Nat)(a:zA)(n c d:Nat)(h:JAt w p o a n c d):
  Calls zq 128 #[.pointer (some ⟨p,o,none⟩)] w fun e w'=>e = .returned (.tuple #[])/\w.setCell ⟨p,o+1,none⟩ (.int .i64 n)=w':=by
 obtain⟨c0,c1,f0,f1⟩:=h;go_enter Tryz.func128,Tryz.ntmps128;go_wp2;go_end0;exact⟨rfl,rfl⟩
theorem Vr (w:World)(p o:Nat)(a:zA)(n c d:Nat)(h:JAt w p o a n c d)(hd:d<=n)(hn:n<=9223372036854775807):
  Calls zq 110 #[.pointer (some ⟨p,o,none⟩)] w fun e w'=>e = .returned (.int .i64 ((n:Int) - d)) /\ ∃q,w'=w.drewN q:=by
 obtain⟨c0,c1,f0,f1⟩:=h;go_enter Tryz.func110,Tryz.ntmps110;go_wp2;go_quiet (fail);go_wp2;go_ret;exact⟨rfl,_,rfl⟩
theorem Z5n (w:World)(p o:Nat)(a:zA)(n c d:Nat)(l:zU)(h:JAt w p o a n c d)(hr:Yg w a n c l)(m:Nat)(hm:d+m<=n)(hn:n<=16777216):
  Calls zq 111 #[.pointer (some ⟨p,o,none⟩),.int .i64 m] w fun e w'=>e = .returned (.tuple #[]) /\ ∃a' c' w1,w1.ownsRow w.heap.size 5 1 (.slice a' (d+m) c') (d+m) ((l.take (d+m)).map Zs)/\Below w.heap.size w w1/\w'=w1.setCell ⟨p,o,none⟩ (.slice a' (d+m) c'):=by
 obtain⟨c0,c1,f0,f1⟩:=h;obtain⟨ka,hcut,hrk⟩:=Z4p hr 0 (d+m) none (some (.int .i64 ((d:Int)+m))) (.inl ⟨rfl,rfl⟩) (.inr ⟨_,by go_num⟩) (Nat.zero_le _) hm;rw[Nat.sub_zero,Nat.sub_zero,List.drop_zero]at hrk;have hw:IntKind.i64.wrap ((d:Int)+m)=(d:Int)+m:=by rw[IntKind.wrap_i64];omega
 go_enter Tryz.func111,Tryz.ntmps111;go_wp2;have hlt:p < w.heap.size:=World.block_lt_of_cell? w ⟨p,o,none⟩ c0;go_region_with (go_at_call 102;refine(Z5y ka (d+m) c (l.take (d+m)) _ (by omega) (hrk.below (Below.refl _ _).drew)).mono ?_;rintro e w1 ⟨a',c',rfl,ho,hb⟩;have d0:=(hb.cell (p:=⟨p,o,none⟩) hlt).trans c0;have e0:=(hb.frozen (p:=⟨p,o,none⟩) hlt).trans f0)
 all_goals
  go_end0;exact⟨rfl,a',c',w1,ho,(Below.refl _ _).drew.trans hb,rfl⟩
def VU (w:World)(p:Nat)(F:Nat->Prop)(sb fb:zU)(sd fd:Nat):Prop:=
 ∃sa sc fa fc,w.heap[p]? = some (.cells #[.slice sa sb.length sc,.int .i64 sd,.slice fa fb.length fc,.int .i64 fd] 168) /\
  w.ownsRow 0 5 1 (.slice sa sb.length sc) sb.length (sb.map Zs)/\w.ownsRow 0 5 1 (.slice fa fb.length fc) fb.length (fb.map Zs) /\
  (∀k,Value.ownBlock (.slice sa sb.length sc)=some k->Value.ownBlock (.slice fa fb.length fc)≠some k) /\
  (∀k,F k↔(k=p\/Value.ownBlock (.slice sa sb.length sc)=some k\/Value.ownBlock (.slice fa fb.length fc)=some k)) /\
  sd<=sb.length/\fd<=fb.length/\sb.length<=16777216/\fb.length<=16777216
theorem VU.lt {w:World}{p:Nat}{F:Nat->Prop}{sb fb:zU}{sd fd:Nat}(h:VU w p F sb fb sd fd): ∀k,F k->k < w.heap.size:=by
 obtain⟨sa,sc,fa,fc,h1,h2,h3,h4,h5,h6⟩:=h;intro k hk;rcases(h5 k).1 hk with rfl | h | h
 ·exact(Array.getElem?_eq_some_iff.1 h1).1
 ·exact(h2.lt k h).2
 ·exact(h3.lt k h).2
theorem Ze {S:Nat->Prop}{W W':World}{base:Nat}{e:TypeId}{k:Nat}{v:Value}{n:Nat}{xs:List Value}(h:W.ownsRow base e k v n xs)(hs:Za S W W')
  (hd : ∀b,v.ownBlock=some b -> ¬S b):W'.ownsRow base e k v n xs:=by
 refine⟨h.1,?_⟩;rcases h.2 with h | ⟨g,cap,cur,rfl,hg,hgg,hr⟩
 ·exact .inl h
 ·exact .inr ⟨g,cap,cur,rfl,hg,(hs.block g (Array.getElem?_eq_some_iff.1 hgg).1 (hd g rfl)).trans hgg,hr⟩
theorem VU.same {w w':World}{p:Nat}{F S:Nat->Prop}{sb fb:zU}{sd fd:Nat}(h:VU w p F sb fb sd fd)(hs:Za S w w')(hd : ∀k,S k -> ¬F k):VU w' p F sb fb sd fd:=by
 obtain⟨sa,sc,fa,fc,h1,h2,h3,h4,h5,h6⟩:=h;refine⟨sa,sc,fa,fc,?_,Ze h2 hs (fun b hb hS=>hd b hS ((h5 b).2 (.inr (.inl hb)))),Ze h3 hs (fun b hb hS=>hd b hS ((h5 b).2 (.inr (.inr hb)))),h4,h5,h6⟩;exact(hs.block p (Array.getElem?_eq_some_iff.1 h1).1 (fun hS=>hd p hS ((h5 p).2 (.inl rfl)))).trans h1
theorem za (w:World):Calls zq 48 #[] w fun e w'=>e = .returned (.pointer (some ⟨w.heap.size,0,none⟩))/\VU w' w.heap.size (fun k=>k=w.heap.size) [] [] 0 0/\Below w.heap.size w w':=by
 go_enter Tryz.func48,Tryz.ntmps48;go_wp2;go_ret;exact⟨rfl,⟨none,0,none,0,heap_alloc_new w _,World.ownsRow_nil _ _ _ _,World.ownsRow_nil _ _ _ _,fun k h=>by simp[Value.ownBlock]at h,fun k=>by simp[Value.ownBlock],Nat.le_refl _,Nat.le_refl _,Nat.zero_le _,Nat.zero_le _⟩,zB _ _⟩
theorem ZH {w:World}{base:Nat}{e e':TypeId}{k:Nat}{v:Value}{n:Nat}{xs:List Value}(h:w.ownsRow base e k v n xs){p:Nat}{cur:ZV}{fr:Nat×Nat}(hp:w.heap[p]? = some (.cells cur e' fr))(hne:e≠e'):Value.ownBlock v≠some p:=by
 intro hk;rcases h.2 with ⟨rfl,_⟩ | ⟨g,cap,cu,rfl,_,hg,_⟩
 ·simp[Value.ownBlock]at hk
 ·simp only[Value.ownBlock,Option.some.injEq]at hk;subst hk;rw[hg]at hp;simp only[Option.some.injEq,Obj.cells.injEq]at hp;exact hne hp.2.1
theorem XY {sa a':zA}{w:World}{n c n' c':Nat}(h:a'=sa\/a'=some ⟨w.heap.size,0,none⟩){k:Nat}(hk:Value.ownBlock (.slice a' n' c')=some k):Value.ownBlock (.slice sa n c)=some k\/k=w.heap.size:=by
 rcases h with rfl | rfl
 ·left;cases a' <;> simp_all[Value.ownBlock]
 ·right;simp[Value.ownBlock]at hk;exact hk.symm
theorem Z8U (w:World)(p:Nat)(F:Nat->Prop)(sb fb:zU)(sd fd:Nat)(a:zA)(n c:Nat)(l:zU)(h:VU w p F sb fb sd fd)(hr:Yg w a n c l)(hn:n < 65536)
  (hs:sb.length+n+2<=16777216) (hf:fb.length+4<=16777216):
  Calls zq 109 #[.pointer (some ⟨p,0,none⟩),.slice a n c] w fun e w'=>e = .returned (.tuple #[]) /\ ∃F',VU w' p F' (sb ++ Zw l) (fb ++ ZK l) sd fd/\Za F w w'/\(∀k,F' k->F k\/w.heap.size<=k):=by
 have hFlt:=h.lt;go_enter Tryz.func109,Tryz.ntmps109;go_wp2_with fail;refine(Z1a _ _ _ l _ hr hn).mono ?_;rintro e w1 ⟨a1,c1,a2,c2,rfl,hw1,hw2,hb1⟩;have h1:=h.same (S:=fun _=>False) (Za.of_below hb1) (fun _ e=>e.elim);obtain⟨sa,sc,fa,fc,g1,g2,g3,g4,g5,g6,g7,g8,g9⟩:=h1;have e1:w1.cell? ⟨p,0,none⟩=some (.slice sa sb.length sc):=by simp[World.cell?,g1]
 have hlen:=(YS l);have hll:=hr.len;have HLS:=zH hlen;clear hlen;have HLL:=zH hll;clear hll;have HLF:=zH (YN l);have G4:=zH g4;clear g4;have G5:=zH g5;clear g5;have hFlt':=zH hFlt;clear hFlt;have hws:=Yg.of_own hw1;go_wp2_with (at_builtin;refine zu _ rfl _ _ rfl 0 _ _ _ sb rfl g2 _ _ _ (Zw l) rfl hws (by rw[HLS.out,HLL.out];omega) (Nat.zero_le _) ?_;intro sa' sc' w2 hloc ho2 hg2;refine Hid.out ?_);refine zH ?_;have n1:=ZH g2 g1 (by decide);have n2:=ZH g3 g1 (by decide);have hp1:p < w1.heap.size:=(Array.getElem?_eq_some_iff.1 g1).1;have p2:w2.heap[p]? = _:=(hg2.block p hp1 (fun e=>n1 e.symm)).trans g1;have g3':w2.ownsRow 0 5 1 (.slice fa fb.length fc) fb.length (fb.map Zs):=g3.kept hg2 (by
  cases hv:Value.ownBlock (.slice fa fb.length fc)with
  | none=>exact .inl rfl
  | some k=>exact .inr (fun e=>G4.out k e.symm hv))
 have hw2':=hw2.kept hg2 (by
  cases hv:Value.ownBlock (.slice a2 (ZK l).length c2)with
  | none=>exact .inl rfl
  | some k=>exact .inr (fun e=>by
    have:=(hw2.lt k hv).1;have:=hFlt'.out k ((G5.out k).2 (.inr (.inl e.symm)));omega))
 have hz2:=hg2.size;have n3:=ZH ho2 p2 (by decide);have e2:w2.cell? ⟨p,0,none⟩=some (.slice sa sb.length sc):=by simp[World.cell?,p2]
 have e3:w2.frozen? ⟨p,0,none⟩=false:=by simp[World.frozen?,p2]
 have p3:=heap_setCell_same w2 p 0 _ 168 (.slice sa' (sb.length+(Zw l).length) sc') p2;simp only[List.setIfInBounds_toArray,List.set_cons_zero]at p3;have s3:Za (fun k=>k=p) w2 (w2.setCell ⟨p,0,none⟩ (.slice sa' (sb.length+(Zw l).length) sc')):=Za.setCell _ rfl;have ho3:=Ze ho2 s3 (fun b hb e=>n3 (by rw[hb,e]));have n2':=ZH g3' p2 (by decide);have g33:=Ze g3' s3 (fun b hb e=>n2' (by rw[hb,e]));have n4:=ZH hw2' p2 (by decide);have hw3:=Yg.of_own (Ze hw2' s3 (fun b hb e=>n4 (by rw[hb,e])));have hz3:=s3.size;have e4:w2.cell? ⟨p,2,none⟩=some (.slice fa fb.length fc):=by simp[World.cell?,p2]
 have G6:=zH p2;clear p2;have G7:=zH p3;clear p3;clear e1 g1 g2 g3 g3' hw1 hw2 hw2' hws;go_wp2_with (at_builtin;refine zu _ rfl _ _ rfl 0 _ _ _ fb rfl g33 _ _ _ (ZK l) rfl hw3 (by rw[HLF.out];omega) (Nat.zero_le _) ?_;intro fa' fc' w4 hloc4 ho4 hg4;refine Hid.out ?_);refine zH ?_;generalize hw3e:w2.setCell ⟨p,0,none⟩ (.slice sa' (sb.length+(Zw l).length) sc')=w3 at *;have HW3:=zH hw3e;clear hw3e e2 e3 e4;have p3:=G7.out;have m2:=ZH g33 p3 (by decide);have hp3:p < w3.heap.size:=(Array.getElem?_eq_some_iff.1 p3).1;have p4:w4.heap[p]? = _:=(hg4.block p hp3 (fun e=>m2 e.symm)).trans p3;have e2:w4.cell? ⟨p,2,none⟩=some (.slice fa fb.length fc):=by simp[World.cell?,p4]
 have e3:w4.frozen? ⟨p,2,none⟩=false:=by simp[World.frozen?,p4]
 have P4:=zH p4;clear p4 p3;go_wp2_with fail;have p5:=heap_setCell_same w4 p 2 _ 168 (.slice fa' (fb.length+(ZK l).length) fc') P4.out;have s5:Za (fun k=>k=p) w4 (w4.setCell ⟨p,2,none⟩ (.slice fa' (fb.length+(ZK l).length) fc')):=
  Za.of_grown (row:=some p) ⟨rfl,rfl,rfl,by simp[World.setCell],fun k _ hk=>Below.heap_setCell w4 ⟨p,2,none⟩ _ k (fun e=>hk (by rw[e]))⟩ (fun k e=>by cases e;rfl)
 generalize w4.setCell ⟨p,2,none⟩ (.slice fa' (fb.length+(ZK l).length) fc')=w5 at *;have hz1:=hb1.size;have hz4:=hg4.size;have hfa : ∀k,Value.ownBlock (.slice fa fb.length fc)=some k->k < w.heap.size:=fun k hk=>hFlt'.out k ((G5.out k).2 (.inr (.inr hk)));have hsa : ∀k,Value.ownBlock (.slice sa sb.length sc)=some k->k < w.heap.size:=fun k hk=>hFlt'.out k ((G5.out k).2 (.inr (.inl hk)));have ho34:=ho3.kept hg4 (by
  cases hv:Value.ownBlock (.slice sa' (sb.length+(Zw l).length) sc')with
  | none=>exact .inl rfl
  | some k=>
   refine .inr (fun e=>?_);rcases XY (n:=sb.length) (c:=sc) hloc hv with h1 | h1
   ·exact G4.out k h1 e.symm
   ·have:=hfa k e.symm;omega)
 have ho35:=Ze ho34 s5 (fun b hb e=>n3 (by rw[hb,e]));have n5:=ZH ho4 P4.out (by decide);have ho45:=Ze ho4 s5 (fun b hb e=>n5 (by rw[hb,e]));have hAll:Za F w w5:=
  ((((Za.of_below hb1).trans (Za.of_grown hg2 (fun k hk=>(G5.out k).2 (.inr (.inl hk))))).trans ⟨s3.os,s3.tape,s3.output,s3.size,fun k hk hF=>s3.block k hk (fun e=>hF ((G5.out k).2 (.inl e)))⟩).trans (Za.of_grown hg4 (fun k hk=>(G5.out k).2 (.inr (.inr hk))))).trans ⟨s5.os,s5.tape,s5.output,s5.size,fun k hk hF=>s5.block k hk (fun e=>hF ((G5.out k).2 (.inl e)))⟩
 have e1:(sb ++ Zw l).length=sb.length+(Zw l).length:=List.length_append;have e2:(fb ++ ZK l).length=fb.length+(ZK l).length:=List.length_append;go_end0;refine⟨rfl,fun k=>k=p\/Value.ownBlock (.slice sa' (sb ++ Zw l).length sc')=some k\/Value.ownBlock (.slice fa' (fb ++ ZK l).length fc')=some k,⟨sa',sc',fa',fc',?_,?_,?_,?_,fun k=>Iff.rfl,?_,?_,?_,?_⟩,hAll,?_⟩
 ·rw[e1,e2,p5];rfl
 ·rw[e1];exact ho35
 ·rw[e2];exact ho45
 ·intro k hk hk';rw[e1]at hk;rw[e2]at hk';rcases XY (n:=sb.length) (c:=sc) hloc hk with h1 | h1 <;> rcases XY (n:=fb.length) (c:=fc) hloc4 hk' with h2 | h2
  ·exact G4.out k h1 h2
  ·have:=hsa k h1;omega
  ·have:=hfa k h2;omega
  ·have:=(ho2.lt k hk).2;omega
 ·rw[e1];omega
 ·rw[e2];omega
 ·rw[e1,HLS.out,HLL.out];omega
 ·rw[e2,HLF.out];omega
 ·rintro k (rfl | hk | hk)
  ·exact .inl ((G5.out _).2 (.inl rfl))
  ·rcases XY (n:=sb.length) (c:=sc) hloc hk with h1 | h1
   ·exact .inl ((G5.out k).2 (.inr (.inl h1)))
   ·exact .inr (by omega)
  ·rcases XY (n:=fb.length) (c:=fc) hloc4 hk with h1 | h1
   ·exact .inl ((G5.out k).2 (.inr (.inr h1)))
   ·exact .inr (by omega)
theorem Z9g (w:World)(p:Nat)(F:Nat->Prop)(sb fb:zU)(sd fd:Nat)(a:zA)(n c:Nat)(l:zU)(h:VU w p F sb fb sd fd)(hr:Yg w a n c l)
  (h1:n<=8192) (h2:sb.length+n+2<=16777216) (h3:fb.length+4<=16777216):
  Calls zq 49 #[.pointer (some ⟨p,0,none⟩),.slice a n c] w fun e w'=>e = .returned (.int .i64 0) /\ ∃F',VU w' p F' (sb ++ Zw l) (fb ++ ZK l) sd fd/\Za F w w'/\(∀k,F' k->F k\/w.heap.size<=k):=by
 have hput:=Z8U w p F sb fb sd fd a n c l h hr (by omega) h2 h3;obtain⟨sa,sc,fa,fc,g1,g2,g3,g4,g5,g6,g7,g8,g9⟩:=h;have e1:w.cell? ⟨p,0,none⟩=some (.slice sa sb.length sc):=by simp[World.cell?,g1]
 have e2:w.cell? ⟨p,2,none⟩=some (.slice fa fb.length fc):=by simp[World.cell?,g1]
 have q1:decide ((8192:Int) < (n:Int))=false:=by simp;omega
 have q2:decide ((16777216:Int) < (sb.length:Int)+n+2)=false:=by simp;omega
 have q3:decide ((16777216:Int) < (fb.length:Int)+4)=false:=by simp;omega
 clear g1 g2 g3 g4 g5;have HP:=zH hput;clear hput;go_enter Tryz.func49,Tryz.ntmps49;go_wp2_with fail;refine HP.out.mono ?_;rintro e w' ⟨rfl,hpost⟩;go_wp2;go_ret;exact⟨rfl,hpost⟩
theorem VU.j0 {w:World}{p:Nat}{F:Nat->Prop}{sb fb:zU}{sd fd:Nat}(h:VU w p F sb fb sd fd): ∃a c,JAt w p 0 a sb.length c sd/\w.ownsRow 0 5 1 (.slice a sb.length c) sb.length (sb.map Zs):=by
 obtain⟨sa,sc,fa,fc,g1,g2,g3,g4,g5,g6,g7,g8,g9⟩:=h;exact⟨sa,sc,⟨by simp[World.cell?,g1],by simp[World.cell?,g1],by simp[World.frozen?,g1],by simp[World.frozen?,g1]⟩,g2⟩
theorem VU.j2 {w:World}{p:Nat}{F:Nat->Prop}{sb fb:zU}{sd fd:Nat}(h:VU w p F sb fb sd fd): ∃a c,JAt w p 2 a fb.length c fd/\w.ownsRow 0 5 1 (.slice a fb.length c) fb.length (fb.map Zs):=by
 obtain⟨sa,sc,fa,fc,g1,g2,g3,g4,g5,g6,g7,g8,g9⟩:=h;exact⟨fa,fc,⟨by simp[World.cell?,g1],by simp[World.cell?,g1],by simp[World.frozen?,g1],by simp[World.frozen?,g1]⟩,g3⟩
theorem VU.setDur {w:World}{p:Nat}{F:Nat->Prop}{sb fb:zU}{sd fd:Nat}(h:VU w p F sb fb sd fd)(d:Nat):
  (d<=sb.length->VU (w.setCell ⟨p,1,none⟩ (.int .i64 d)) p F sb fb d fd)/\(d<=fb.length->VU (w.setCell ⟨p,3,none⟩ (.int .i64 d)) p F sb fb sd d):=by
 obtain⟨sa,sc,fa,fc,g1,g2,g3,g4,g5,g6,g7,g8,g9⟩:=h;have n1:=ZH g2 g1 (by decide);have n2:=ZH g3 g1 (by decide);have s1 : ∀o,Za (fun k=>k=p) w (w.setCell ⟨p,o,none⟩ (.int .i64 d)):=fun o=>
  Za.of_grown (row:=some p) ⟨rfl,rfl,rfl,by simp[World.setCell],fun k _ hk=>Below.heap_setCell w ⟨p,o,none⟩ _ k (fun e=>hk (by rw[e]))⟩ (fun k e=>by cases e;rfl)
 constructor
 ·intro hd;refine⟨sa,sc,fa,fc,?_,Ze g2 (s1 1) (fun b hb e=>n1 (by rw[hb,e])),Ze g3 (s1 1) (fun b hb e=>n2 (by rw[hb,e])),g4,g5,hd,g7,g8,g9⟩;rw[heap_setCell_same w p 1 _ 168 _ g1];rfl
 ·intro hd;refine⟨sa,sc,fa,fc,?_,Ze g2 (s1 3) (fun b hb e=>n1 (by rw[hb,e])),Ze g3 (s1 3) (fun b hb e=>n2 (by rw[hb,e])),g4,g5,g6,hd,g8,g9⟩;rw[heap_setCell_same w p 3 _ 168 _ g1];rfl
theorem Z3u (w:World)(p:Nat)(F:Nat->Prop)(sb fb:zU)(sd fd:Nat)(h:VU w p F sb fb sd fd):
  Calls zq 74 #[.pointer (some ⟨p,0,none⟩)] w fun e w'=>e = .returned (.tuple #[])/\VU w' p F sb fb sb.length fb.length/\Za (fun k=>k=p) w w':=by
 obtain⟨sa,sc,j1,_⟩:=h.j0;have h2:=(h.setDur sb.length).1 (Nat.le_refl _);have h3:=(h2.setDur fb.length).2 (Nat.le_refl _);obtain⟨fa,fc,j3,_⟩:=h2.j2;have HH:=zH h3;clear h3 h2 h;go_enter Tryz.func74,Tryz.ntmps74;go_wp2_with fail;refine(Z5k _ _ _ _ _ _ _ j1).mono ?_;rintro e w' ⟨rfl,rfl⟩;go_wp2_with fail;refine(Z5k _ _ _ _ _ _ _ j3).mono ?_;rintro e w' ⟨rfl,rfl⟩;go_wp2;go_end0;refine⟨rfl,HH.out,?_⟩;refine Za.trans (Za.of_grown (row:=some p) (W':=w.setCell ⟨p,1,none⟩ (.int .i64 sb.length)) ⟨rfl,rfl,rfl,by simp[World.setCell],fun k _ hk=>Below.heap_setCell w ⟨p,1,none⟩ _ k (fun e=>hk (by rw[e]))⟩ (fun k e=>by cases e;rfl)) ?_;exact Za.of_grown (row:=some p) ⟨rfl,rfl,rfl,by simp[World.setCell],fun k _ hk=>Below.heap_setCell _ ⟨p,3,none⟩ _ k (fun e=>hk (by rw[e]))⟩ (fun k e=>by cases e;rfl)
theorem Z0O (w:World)(p:Nat)(F:Nat->Prop)(sb fb:zU)(sd fd:Nat)(h:VU w p F sb fb sd fd):
  Calls zq 51 #[.pointer (some ⟨p,0,none⟩)] w fun e w' => ∃oa oc,e = .returned (.slice oa (Zt sb fb).length oc)/\XS w' w.heap.size oa (Zt sb fb).length oc (Zt sb fb)/\Below w.heap.size w w':=by
 obtain⟨sa,sc,fa,fc,g1,g2,g3,g4,g5,g6,g7,g8,g9⟩:=h;have e1:w.cell? ⟨p,0,none⟩=some (.slice sa sb.length sc):=by simp[World.cell?,g1]
 have e2:w.cell? ⟨p,2,none⟩=some (.slice fa fb.length fc):=by simp[World.cell?,g1]
 have hlt:p < w.heap.size:=(Array.getElem?_eq_some_iff.1 g1).1;have r1:=Yg.of_own g2;have r2:=Yg.of_own g3;clear g1 g2 g3 g4 g5;go_enter Tryz.func51,Tryz.ntmps51;go_wp2_with fail;go_region_held3 (fun w'=>w'.cell? ⟨p,0,none⟩=some (.slice sa sb.length sc)/\w'.cell? ⟨p,2,none⟩=some (.slice fa fb.length fc)) (first | exact⟨e1,e2⟩ | exact⟨(hb.cell (p:=⟨p,0,none⟩) hlt).trans e1,(hb.cell (p:=⟨p,2,none⟩) hlt).trans e2⟩)
  (first|(go_at_call 47;refine(Z7d _ _ _ sb _ _ _ fb _ (r1.below (Below.refl _ _).drew) (r2.below (Below.refl _ _).drew) (by omega) (by omega)).mono ?_;rintro e w1 ⟨oa,oc,rfl,ho,hb⟩))
 go_wp2;go_ret;exact⟨oa,oc,rfl,ho,(Below.refl _ _).drew.trans hb⟩
def Z00 (sb fb:zU)(sd fd:Nat)(stock foil flip:Int):Prop:=
 0<=stock/\stock<=(sb.length:Int) - sd/\0<=foil/\foil<=(fb.length:Int) - fd /\ -1<=flip/\flip < 8 * (stock+foil)
theorem ZbX (w:World)(p:Nat)(F:Nat->Prop)(sb fb:zU)(sd fd:Nat)(stock foil flip:Int)(h:VU w p F sb fb sd fd)(hc : ¬Z00 sb fb sd fd stock foil flip):
  Calls zq 50 #[.pointer (some ⟨p,0,none⟩),.int .i64 stock,.int .i64 foil,.int .i64 flip] w fun e w'=>e = .returned (.int .i64 1) /\ ∃q,w'=w.drewN q:=by
 have hq : ∀q,VU (w.drewN q) p F sb fb sd fd:=fun q=>h.same (S:=fun _=>False) (Za.of_below (below_drewN (Below.refl _ _) q)) (fun _ e=>e.elim);obtain⟨_,_,_,_,_,_,_,_,_,g6,g7,g8,g9⟩:=id h;have P1 : ∀q,Calls zq 110 #[.pointer (some ⟨p,0,none⟩)] (w.drewN q) fun e w'=>e = .returned (.int .i64 ((sb.length:Int) - sd)) /\ ∃q',w'=w.drewN q':=by
  intro q;obtain⟨a,c,j,_⟩:=(hq q).j0;refine(Vr _ _ _ _ _ _ _ j g6 (by omega)).mono ?_;rintro e w' ⟨rfl,q',rfl⟩;exact⟨rfl,q+q',by rw[World.drewN_drewN]⟩
 have P2 : ∀q,Calls zq 110 #[.pointer (some ⟨p,2,none⟩)] (w.drewN q) fun e w'=>e = .returned (.int .i64 ((fb.length:Int) - fd)) /\ ∃q',w'=w.drewN q':=by
  intro q;obtain⟨a,c,j,_⟩:=(hq q).j2;refine(Vr _ _ _ _ _ _ _ j g7 (by omega)).mono ?_;rintro e w' ⟨rfl,q',rfl⟩;exact⟨rfl,q+q',by rw[World.drewN_drewN]⟩
 have H1:=zH P1;clear P1;have H2:=zH P2;clear P2 hq h;have hd0:w=w.drewN 0:=rfl;have D0:=zH hd0;clear hd0;by_cases c1:0<=stock
 ·have q1:decide (stock < 0)=false:=by simp;omega
  by_cases c2:stock<=(sb.length:Int) - sd
  ·have q2:decide ((sb.length:Int) - sd < stock)=false:=by simp;omega
   by_cases c3:0<=foil
   ·have q3:decide (foil < 0)=false:=by simp;omega
    by_cases c4:foil<=(fb.length:Int) - fd
    ·have q4:decide ((fb.length:Int) - fd < foil)=false:=by simp;omega
     by_cases c5 : -1<=flip
     focus
      have q5:decide (flip < -1)=false:=by simp;omega
      have q6:decide (8 * (stock+foil)<=flip)=true:=by
       simp only[decide_eq_true_eq];by_cases hx:8 * (stock+foil)<=flip
       ·exact hx
       ·exact absurd ⟨c1,c2,c3,c4,c5,by omega⟩ hc
     rotate_left
     focus
      have q5:decide (flip < -1)=true:=by simp;omega
     all_goals
      clear hc;go_enter Tryz.func50,Tryz.ntmps50;go_wp2_with fail;refine(H1.out 0).mono ?_;rintro e w' ⟨rfl,q,rfl⟩;go_wp2_with fail;refine(H2.out q).mono ?_;rintro e w' ⟨rfl,q',rfl⟩;go_wp2;go_ret;exact⟨rfl,_,rfl⟩
    ·have q4:decide ((fb.length:Int) - fd < foil)=true:=by simp;omega
     clear hc;go_enter Tryz.func50,Tryz.ntmps50;go_wp2_with fail;refine(H1.out 0).mono ?_;rintro e w' ⟨rfl,q,rfl⟩;go_wp2_with fail;refine(H2.out q).mono ?_;rintro e w' ⟨rfl,q',rfl⟩;go_wp2;go_ret;exact⟨rfl,_,rfl⟩
   ·have q3:decide (foil < 0)=true:=by simp;omega
    clear hc;go_enter Tryz.func50,Tryz.ntmps50;go_wp2_with fail;refine(H1.out 0).mono ?_;rintro e w' ⟨rfl,q,rfl⟩;go_wp2;go_ret;exact⟨rfl,_,rfl⟩
  ·have q2:decide ((sb.length:Int) - sd < stock)=true:=by simp;omega
   clear hc;go_enter Tryz.func50,Tryz.ntmps50;go_wp2_with fail;refine(H1.out 0).mono ?_;rintro e w' ⟨rfl,q,rfl⟩;go_wp2;go_ret;exact⟨rfl,_,rfl⟩
 ·have q1:decide (stock < 0)=true:=by simp;omega
  clear hc;go_enter Tryz.func50,Tryz.ntmps50;go_wp2;go_ret;exact⟨rfl,0,rfl⟩
def ZO (l:zU)(i b:Nat):zU:=l.set i ((l[i]?.getD 0) ^^^ UInt8.ofNat (2 ^ b))
theorem zj (l:zU)(i b:Nat):(ZO l i b).length=l.length:=by simp[ZO]
def Jj (sb:zU)(sd stock:Nat)(flip:Int):zU:=
 if 0<=flip/\flip.toNat / 8 < stock then ZO (sb.take (sd+stock)) (sd+flip.toNat / 8) (flip.toNat % 8)else sb.take (sd+stock)
def J5 (fb:zU)(fd stock foil:Nat)(flip:Int):zU:=
 if 0<=flip /\ ¬flip.toNat / 8 < stock then ZO (fb.take (fd+foil)) (fd+flip.toNat / 8 - stock) (flip.toNat % 8)else fb.take (fd+foil)
theorem VU.setStock {w w1:World}{p:Nat}{F:Nat->Prop}{sb fb:zU}{sd fd:Nat}(h:VU w p F sb fb sd fd)(hb:Below w.heap.size w w1){a:zA}{m c:Nat}{l:zU}
  (ho:w1.ownsRow w.heap.size 5 1 (.slice a m c) m (l.map Zs)) (hd:sd<=m) (hm:m<=16777216):
  ∃F',VU (w1.setCell ⟨p,0,none⟩ (.slice a m c)) p F' l fb sd fd/\Za F w (w1.setCell ⟨p,0,none⟩ (.slice a m c))/\(∀k,F' k->F k\/w.heap.size<=k):=by
 have hlt:=h.lt;obtain⟨sa,sc,fa,fc,g1,g2,g3,g4,g5,g6,g7,g8,g9⟩:=h.same (S:=fun _=>False) (Za.of_below hb) (fun _ e=>e.elim);have hl:l.length=m:=by simpa using ho.1
 have n1:=ZH ho g1 (by decide);have n2:=ZH g3 g1 (by decide);have s1:Za (fun k=>k=p) w1 (w1.setCell ⟨p,0,none⟩ (.slice a m c)):=Za.setCell _ rfl;refine⟨fun k=>k=p\/Value.ownBlock (.slice a l.length c)=some k\/Value.ownBlock (.slice fa fb.length fc)=some k,⟨a,c,fa,fc,?_,?_,Ze g3 s1 (fun b hb e=>n2 (by rw[hb,e])),?_,fun k=>Iff.rfl,by omega,g7,by omega,g9⟩,?_,?_⟩
 ·rw[heap_setCell_same w1 p 0 _ 168 _ g1,hl];rfl
 ·rw[hl];exact Zu (Ze ho s1 (fun b hb e=>n1 (by rw[hb,e]))) (Nat.zero_le _)
 ·intro k hk hk';rw[hl]at hk;have:=(ho.lt k hk).1;have:=hlt k ((g5 k).2 (.inr (.inr hk')));omega
 ·exact(Za.of_below hb).trans ⟨s1.os,s1.tape,s1.output,s1.size,fun k hk hF=>s1.block k hk (fun e=>hF ((g5 k).2 (.inl e)))⟩
 ·rintro k (rfl | hk | hk)
  ·exact .inl ((g5 _).2 (.inl rfl))
  ·rw[hl]at hk;exact .inr (ho.lt k hk).1
  ·exact .inl ((g5 k).2 (.inr (.inr hk)))
theorem VU.setFoil {w w1:World}{p:Nat}{F:Nat->Prop}{sb fb:zU}{sd fd:Nat}(h:VU w p F sb fb sd fd)(hb:Below w.heap.size w w1){a:zA}{m c:Nat}{l:zU}
  (ho:w1.ownsRow w.heap.size 5 1 (.slice a m c) m (l.map Zs)) (hd:fd<=m) (hm:m<=16777216):
  ∃F',VU (w1.setCell ⟨p,2,none⟩ (.slice a m c)) p F' sb l sd fd/\Za F w (w1.setCell ⟨p,2,none⟩ (.slice a m c))/\(∀k,F' k->F k\/w.heap.size<=k):=by
 have hlt:=h.lt;obtain⟨sa,sc,fa,fc,g1,g2,g3,g4,g5,g6,g7,g8,g9⟩:=h.same (S:=fun _=>False) (Za.of_below hb) (fun _ e=>e.elim);have hl:l.length=m:=by simpa using ho.1
 have n1:=ZH ho g1 (by decide);have n2:=ZH g2 g1 (by decide);have s1:Za (fun k=>k=p) w1 (w1.setCell ⟨p,2,none⟩ (.slice a m c)):=
  Za.of_grown (row:=some p) ⟨rfl,rfl,rfl,by simp[World.setCell],fun k _ hk=>Below.heap_setCell w1 ⟨p,2,none⟩ _ k (fun e=>hk (by rw[e]))⟩ (fun k e=>by cases e;rfl)
 refine⟨fun k=>k=p\/Value.ownBlock (.slice sa sb.length sc)=some k\/Value.ownBlock (.slice a l.length c)=some k,⟨sa,sc,a,c,?_,Ze g2 s1 (fun b hb e=>n2 (by rw[hb,e])),?_,?_,fun k=>Iff.rfl,g6,by omega,g8,by omega⟩,?_,?_⟩
 ·rw[heap_setCell_same w1 p 2 _ 168 _ g1,hl];rfl
 ·rw[hl];exact Zu (Ze ho s1 (fun b hb e=>n1 (by rw[hb,e]))) (Nat.zero_le _)
 ·intro k hk hk';rw[hl]at hk';have:=(ho.lt k hk').1;have:=hlt k ((g5 k).2 (.inr (.inl hk)));omega
 ·exact(Za.of_below hb).trans ⟨s1.os,s1.tape,s1.output,s1.size,fun k hk hF=>s1.block k hk (fun e=>hF ((g5 k).2 (.inl e)))⟩
 ·rintro k (rfl | hk | hk)
  ·exact .inl ((g5 _).2 (.inl rfl))
  ·exact .inl ((g5 k).2 (.inr (.inl hk)))
  ·rw[hl]at hk;exact .inr (ho.lt k hk).1
theorem VU.flipS {w:World}{p:Nat}{F:Nat->Prop}{sb fb:zU}{sd fd:Nat}(h:VU w p F sb fb sd fd)(i:Nat)(hi:i < sb.length)(x:UInt8):
  ∃g c,w.cell? ⟨p,0,none⟩=some (.slice (some ⟨g,0,none⟩) sb.length c)/\w.cell? ⟨p,1,none⟩=some (.int .i64 sd)/\w.cell? ⟨g,i,none⟩=some (.int .u8 ((sb[i]?.getD 0).toNat:Int))/\w.frozen? ⟨g,i,none⟩=false /\
   VU (w.setCell ⟨g,i,none⟩ (.int .u8 (x.toNat:Int))) p F (sb.set i x) fb sd fd/\Za F w (w.setCell ⟨g,i,none⟩ (.int .u8 (x.toNat:Int))):=by
 obtain⟨sa,sc,fa,fc,g1,g2,g3,g4,g5,g6,g7,g8,g9⟩:=h;obtain⟨b,off,hb,hcells⟩:=(Yg.of_own g2).at (by omega);have hoff:off=0:=by
  rcases g2.2 with ⟨h,_⟩ | ⟨g,cap,cur,h,_⟩
  ·rw[hb]at h;simp at h
  ·rw[hb]at h;simp at h;exact h.1.2
 subst hb;subst hoff;have hc:=hcells i hi;rw[Nat.zero_add]at hc;have hfz:=g2.frozenAt i;obtain⟨hst,hgr⟩:=g2.stored i (.int .u8 (x.toNat:Int));have hS:Za (fun k=>k=b) w (w.setCell ⟨b,i,none⟩ (.int .u8 (x.toNat:Int))):=Za.of_grown hgr (fun k e=>by cases e;rfl);have n2:=ZH g2 g1 (by decide);have hset:(sb.map Zs).set i (.int .u8 (x.toNat:Int))=(sb.set i x).map Zs:=by rw[List.map_set];rfl
 rw[hset]at hst;have hls:(sb.set i x).length=sb.length:=List.length_set;refine⟨b,sc,by simp[World.cell?,g1],by simp[World.cell?,g1],hc,hfz,⟨some ⟨b,0,none⟩,sc,fa,fc,?_,?_,?_,?_,?_,?_,g7,?_,g9⟩,⟨hS.os,hS.tape,hS.output,hS.size,fun k hk hF=>hS.block k hk (fun e=>hF ((g5 k).2 (.inr (.inl (by rw[e];rfl)))))⟩⟩
 ·rw[hls,hS.block p (Array.getElem?_eq_some_iff.1 g1).1 (fun e=>n2 (by rw[e];rfl))];exact g1
 ·rw[hls];exact hst
 ·exact Ze g3 hS (fun k hk e=>g4 k (by rw[e];rfl) hk)
 ·rw[hls];exact g4
 ·rw[hls];exact g5
 ·rw[hls];exact g6
 ·rw[hls];exact g8
theorem VU.flipF {w:World}{p:Nat}{F:Nat->Prop}{sb fb:zU}{sd fd:Nat}(h:VU w p F sb fb sd fd)(i:Nat)(hi:i < fb.length)(x:UInt8):
  ∃g c,w.cell? ⟨p,2,none⟩=some (.slice (some ⟨g,0,none⟩) fb.length c)/\w.cell? ⟨p,3,none⟩=some (.int .i64 fd)/\w.cell? ⟨g,i,none⟩=some (.int .u8 ((fb[i]?.getD 0).toNat:Int))/\w.frozen? ⟨g,i,none⟩=false /\
   VU (w.setCell ⟨g,i,none⟩ (.int .u8 (x.toNat:Int))) p F sb (fb.set i x) sd fd/\Za F w (w.setCell ⟨g,i,none⟩ (.int .u8 (x.toNat:Int))):=by
 obtain⟨sa,sc,fa,fc,g1,g2,g3,g4,g5,g6,g7,g8,g9⟩:=h;obtain⟨b,off,hb,hcells⟩:=(Yg.of_own g3).at (by omega);have hoff:off=0:=by
  rcases g3.2 with ⟨h,_⟩ | ⟨g,cap,cur,h,_⟩
  ·rw[hb]at h;simp at h
  ·rw[hb]at h;simp at h;exact h.1.2
 subst hb;subst hoff;have hc:=hcells i hi;rw[Nat.zero_add]at hc;have hfz:=g3.frozenAt i;obtain⟨hst,hgr⟩:=g3.stored i (.int .u8 (x.toNat:Int));have hS:Za (fun k=>k=b) w (w.setCell ⟨b,i,none⟩ (.int .u8 (x.toNat:Int))):=Za.of_grown hgr (fun k e=>by cases e;rfl);have n2:=ZH g3 g1 (by decide);have hset:(fb.map Zs).set i (.int .u8 (x.toNat:Int))=(fb.set i x).map Zs:=by rw[List.map_set];rfl
 rw[hset]at hst;have hls:(fb.set i x).length=fb.length:=List.length_set;refine⟨b,fc,by simp[World.cell?,g1],by simp[World.cell?,g1],hc,hfz,⟨sa,sc,some ⟨b,0,none⟩,fc,?_,?_,?_,?_,?_,g6,?_,g8,?_⟩,⟨hS.os,hS.tape,hS.output,hS.size,fun k hk hF=>hS.block k hk (fun e=>hF ((g5 k).2 (.inr (.inr (by rw[e];rfl)))))⟩⟩
 ·rw[hls,hS.block p (Array.getElem?_eq_some_iff.1 g1).1 (fun e=>n2 (by rw[e];rfl))];exact g1
 ·exact Ze g2 hS (fun k hk e=>g4 k hk (by rw[e];rfl))
 ·rw[hls];exact hst
 ·rw[hls];exact g4
 ·rw[hls];exact g5
 ·rw[hls];exact g7
 ·rw[hls];exact g9
theorem Za.trans2 {F F1:Nat->Prop}{a b c:World}(h:Za F a b)(k:Za F1 b c)(hF : ∀k,F1 k->F k\/a.heap.size<=k):Za F a c:=
 ⟨k.os.trans h.os,k.tape.trans h.tape,k.output.trans h.output,Nat.le_trans h.size k.size,fun i hi hs=>(k.block i (Nat.lt_of_lt_of_le hi h.size) (fun h1=>by
  rcases hF i h1 with h2 | h2
  ·exact hs h2
  ·omega)).trans (h.block i hi hs)⟩
theorem Z52 (x y:UInt8):bits .xor .u8 (x.toNat:Int) (y.toNat:Int)=((x ^^^ y).toNat:Int):=by
 have hx:=x.toNat_lt;have hy:=y.toNat_lt;have h:x.toNat ^^^ y.toNat < 2 ^ 8:=Nat.xor_lt_two_pow hx hy;show IntKind.u8.wrap (((BitVec.ofInt 8 (x.toNat:Int)) ^^^ (BitVec.ofInt 8 (y.toNat:Int)):BitVec 8)).toNat=_;rw[BitVec.ofInt_natCast,BitVec.ofInt_natCast,BitVec.toNat_xor,BitVec.toNat_ofNat,BitVec.toNat_ofNat,Nat.mod_eq_of_lt hx,Nat.mod_eq_of_lt hy,IntKind.wrap_u8,UInt8.toNat_xor];omega
theorem ZcE (b:Nat):((2:Int) ^ b % 256)=((UInt8.ofNat (2 ^ b)).toNat:Int):=by
 rw[UInt8.toNat_ofNat'];simp
theorem VU.self {w:World}{p:Nat}{F:Nat->Prop}{sb fb:zU}{sd fd:Nat}(h:VU w p F sb fb sd fd):F p:=by
 obtain⟨sa,sc,fa,fc,h1,h2,h3,h4,h5,h6⟩:=h;exact(h5 p).2 (.inl rfl)
theorem Z5x (w:World)(p:Nat)(F:Nat->Prop)(sb fb:zU)(sd fd:Nat)(stock foil:Nat)(flip:Int)(h:VU w p F sb fb sd fd)(hc:Z00 sb fb sd fd stock foil flip):
  Calls zq 50 #[.pointer (some ⟨p,0,none⟩),.int .i64 stock,.int .i64 foil,.int .i64 flip] w fun e w'=>e = .returned (.int .i64 0) /\
   ∃F',VU w' p F' (Jj sb sd stock flip) (J5 fb fd stock foil flip) (Jj sb sd stock flip).length (J5 fb fd stock foil flip).length/\Za F w w'/\(∀k,F' k->F k\/w.heap.size<=k):=by
 obtain⟨c1,c2,c3,c4,c5,c6⟩:=hc;have hq : ∀q,VU (w.drewN q) p F sb fb sd fd:=fun q=>h.same (S:=fun _=>False) (Za.of_below (below_drewN (Below.refl _ _) q)) (fun _ e=>e.elim);obtain⟨_,_,_,_,_,_,_,_,_,g6,g7,g8,g9⟩:=id h;have P1 : ∀q,Calls zq 110 #[.pointer (some ⟨p,0,none⟩)] (w.drewN q) fun e w'=>e = .returned (.int .i64 ((sb.length:Int) - sd)) /\ ∃q',w'=w.drewN q':=by
  intro q;obtain⟨a,c,j,_⟩:=(hq q).j0;refine(Vr _ _ _ _ _ _ _ j g6 (by omega)).mono ?_;rintro e w' ⟨rfl,q',rfl⟩;exact⟨rfl,q+q',by rw[World.drewN_drewN]⟩
 have P2 : ∀q,Calls zq 110 #[.pointer (some ⟨p,2,none⟩)] (w.drewN q) fun e w'=>e = .returned (.int .i64 ((fb.length:Int) - fd)) /\ ∃q',w'=w.drewN q':=by
  intro q;obtain⟨a,c,j,_⟩:=(hq q).j2;refine(Vr _ _ _ _ _ _ _ j g7 (by omega)).mono ?_;rintro e w' ⟨rfl,q',rfl⟩;exact⟨rfl,q+q',by rw[World.drewN_drewN]⟩
 have H1:=zH P1;clear P1;have H2:=zH P2;clear P2;have HQ:=zH hq;clear hq;have HP:=zH h.self;clear h;have q1:decide ((stock:Int) < 0)=false:=by simp
 have q2:decide ((sb.length:Int) - sd < stock)=false:=by simp;omega
 have q3:decide ((foil:Int) < 0)=false:=by simp
 have q4:decide ((fb.length:Int) - fd < foil)=false:=by simp;omega
 have q5:decide (flip < -1)=false:=by simp;omega
 have q6:decide (8 * ((stock:Int)+foil)<=flip)=false:=by simp;omega
 go_enter Tryz.func50,Tryz.ntmps50;go_wp2_with fail;refine(H1.out 0).mono ?_;rintro e w' ⟨rfl,q,rfl⟩;go_wp2_with fail;refine(H2.out q).mono ?_;rintro e w' ⟨rfl,q',rfl⟩;have hS:=HQ.out q';have hbq:Below w.heap.size w (w.drewN q'):=below_drewN (Below.refl _ _) q';have HB:=zH hbq;clear hbq;go_wp2_with fail;generalize w.drewN q'=w0 at *;have hb0:=HB.out;have hz0:=hb0.size;obtain⟨a0,k0,j0,o0⟩:=hS.j0;refine(Z5n w0 p 0 a0 sb.length k0 sd sb j0 (Yg.of_own o0) stock (by omega) (by omega)).mono ?_;rintro e w' ⟨rfl,a1,k1,w1,ho1,hb1,rfl⟩;obtain⟨F1,hS1,hF1,hF1'⟩:=hS.setStock hb1 ho1 (by omega) (by omega);clear j0 o0 hb1 ho1;go_wp2_with fail;generalize w1.setCell ⟨p,0,none⟩ (.slice a1 (sd+stock) k1)=w2 at *;obtain⟨a2,k2,j2,o2⟩:=hS1.j2;refine(Z5n w2 p 2 a2 fb.length k2 fd fb j2 (Yg.of_own o2) foil (by omega) (by omega)).mono ?_;rintro e w' ⟨rfl,a3,k3,w3,ho3,hb3,rfl⟩;obtain⟨F2,hS2,hF2,hF2'⟩:=hS1.setFoil hb3 ho3 (by omega) (by omega);clear j2 o2 hb3 ho3;have hSame:Za F w (w3.setCell ⟨p,2,none⟩ (.slice a3 (fd+foil) k3)):=((Za.of_below hb0).trans2 hF1 (fun k hk=>.inl hk)).trans2 hF2 (fun k hk=>by
  rcases hF1' k hk with h | h
  ·exact .inl h
  ·exact .inr (by omega))
 have hFoot : ∀k,F2 k->F k\/w.heap.size<=k:=fun k hk=>by
  rcases hF2' k hk with h | h
  ·rcases hF1' k h with h | h
   ·exact .inl h
   ·exact .inr (by omega)
  ·have:=hF1.size;exact .inr (by omega)
 have HS:=zH hSame;clear hSame;have HF:=zH hFoot;clear hFoot hF1 hF1' hF2 hF2' hS hS1;by_cases hm:flip < 0
 ·have e1:Jj sb sd stock flip=sb.take (sd+stock):=by unfold Jj;rw[if_neg (by omega)]
  have e2:J5 fb fd stock foil flip=fb.take (fd+foil):=by unfold J5;rw[if_neg (by omega)]
  have E1:=zH e1;clear e1;have E2:=zH e2;clear e2;go_wp2_with fail;generalize w3.setCell ⟨p,2,none⟩ (.slice a3 (fd+foil) k3)=w4 at *;refine(Z3u _ _ _ _ _ _ _ hS2).mono ?_;rintro e w' ⟨rfl,hS3,hF3⟩;go_wp2;go_ret;rw[E1.out,E2.out];exact⟨rfl,F2,hS3,HS.out.trans2 hF3 (fun k hk=>.inl (by subst hk;exact HP.out)),HF.out⟩
 ·obtain⟨f,rfl⟩:=Int.eq_ofNat_of_zero_le (show 0<=flip by omega);go_wp2_with fail;go_quiet (fail);have hS3:=hS2.same (S:=fun _=>False) (Za.of_below (below_drewN (Below.refl _ _) nq)) (fun _ e=>e.elim);have hA:(f:Int) / 8=((f / 8:Nat):Int):=by omega
  have hlen1:(sb.take (sd+stock)).length=sd+stock:=by rw[List.length_take];omega
  have hlen2:(fb.take (fd+foil)).length=fd+foil:=by rw[List.length_take];omega
  have HL1:=zH hlen1;clear hlen1;have HL2:=zH hlen2;clear hlen2;have hS0:=HS.out.trans (Za.of_below (S:=F) (below_drewN (Below.refl _ _) nq));have HS0:=zH hS0;clear hS0;rw[ZcE,hA];clear hA hS2 HS;generalize (w3.setCell ⟨p,2,none⟩ (.slice a3 (fd+foil) k3)).drewN nq=w4 at *;by_cases hat:f / 8 < stock
  focus
   have e1:Jj sb sd stock f=ZO (sb.take (sd+stock)) (sd+f / 8) (f % 8):=by unfold Jj;rw[if_pos (by simp;exact hat)];simp
   have e2:J5 fb fd stock foil f=fb.take (fd+foil):=by unfold J5;rw[if_neg (by simp;omega)]
   have E1:=zH e1;clear e1;have E2:=zH e2;clear e2;obtain⟨g,k,y1,y2,y3,y4,hS4,hF4⟩:=hS3.flipS (sd+f / 8) (by rw[HL1.out];omega) (((sb.take (sd+stock))[sd+f / 8]?.getD 0) ^^^ UInt8.ofNat (2 ^ (f % 8)));rw[HL1.out]at y1;have hx:=Z52 ((sb.take (sd+stock))[sd+f / 8]?.getD 0) (UInt8.ofNat (2 ^ (f % 8)));have E3:Hid (ZO (sb.take (sd+stock)) (sd+f / 8) (f % 8)=(sb.take (sd+stock)).set (sd+f / 8) (((sb.take (sd+stock))[sd+f / 8]?.getD 0) ^^^ UInt8.ofNat (2 ^ (f % 8)))):=show _=_ from rfl;generalize (sb.take (sd+stock))[sd+f / 8]?.getD 0=bt at *;generalize UInt8.ofNat (2 ^ (f % 8))=mk at *;generalize f / 8=A at *;have HS4:=zH hS4;clear hS4;have HF4:=zH hF4;clear hF4 hS3;clear w0 hb0 hz0 HB H1 H2 HQ;go_wp2_with fail;go_region;rw[<-UInt8.toNat_xor];have hS5:=HS4.out.same (S:=fun _=>False) (w':=(w4.setCell ⟨g,sd+A,none⟩ (.int .u8 ((bt ^^^ mk).toNat:Int))).drew) (Za.of_below (below_drewN (Below.refl _ _) 1)) (fun _ e=>e.elim);have hF5:Za F2 w4 (w4.setCell ⟨g,sd+A,none⟩ (.int .u8 ((bt ^^^ mk).toNat:Int))).drew:=HF4.out.trans (Za.of_below (below_drewN (Below.refl _ _) 1));generalize (w4.setCell ⟨g,sd+A,none⟩ (.int .u8 ((bt ^^^ mk).toNat:Int))).drew=w5 at *
  rotate_left
  focus
   have e1:Jj sb sd stock f=sb.take (sd+stock):=by unfold Jj;rw[if_neg (by simp;omega)]
   have e2:J5 fb fd stock foil f=ZO (fb.take (fd+foil)) (fd+f / 8 - stock) (f % 8):=by unfold J5;rw[if_pos (by simp;omega)];simp
   have E1:=zH e1;clear e1;have E2:=zH e2;clear e2;have hlt:fd+f / 8 - stock < fd+foil:=by omega
   obtain⟨g,k,y1,y2,y3,y4,hS4,hF4⟩:=hS3.flipF (fd+f / 8 - stock) (by rw[HL2.out];exact hlt) (((fb.take (fd+foil))[fd+f / 8 - stock]?.getD 0) ^^^ UInt8.ofNat (2 ^ (f % 8)));rw[HL2.out]at y1;have hx:=Z52 ((fb.take (fd+foil))[fd+f / 8 - stock]?.getD 0) (UInt8.ofNat (2 ^ (f % 8)));have E3:Hid (ZO (fb.take (fd+foil)) (fd+f / 8 - stock) (f % 8)=(fb.take (fd+foil)).set (fd+f / 8 - stock) (((fb.take (fd+foil))[fd+f / 8 - stock]?.getD 0) ^^^ UInt8.ofNat (2 ^ (f % 8)))):=show _=_ from rfl;generalize (fb.take (fd+foil))[fd+f / 8 - stock]?.getD 0=bt at *;generalize UInt8.ofNat (2 ^ (f % 8))=mk at *;have HS4:=zH hS4;clear hS4;have HF4:=zH hF4;clear hF4 hS3;clear w0 hb0 hz0 HB H1 H2 HQ;go_wp2_with fail;go_region;rw[<-UInt8.toNat_xor];have hS5:=HS4.out.same (S:=fun _=>False) (w':=(w4.setCell ⟨g,fd+f / 8 - stock,none⟩ (.int .u8 ((bt ^^^ mk).toNat:Int))).drew) (Za.of_below (below_drewN (Below.refl _ _) 1)) (fun _ e=>e.elim);have hF5:Za F2 w4 (w4.setCell ⟨g,fd+f / 8 - stock,none⟩ (.int .u8 ((bt ^^^ mk).toNat:Int))).drew:=HF4.out.trans (Za.of_below (below_drewN (Below.refl _ _) 1));generalize (w4.setCell ⟨g,fd+f / 8 - stock,none⟩ (.int .u8 ((bt ^^^ mk).toNat:Int))).drew=w5 at *
  all_goals
   have HF5:=zH hF5;clear hF5 HS4 HF4 y1 y2 y3 y4 hx;go_wp2_with fail;refine(Z3u _ _ _ _ _ _ _ hS5).mono ?_;rintro e w' ⟨rfl,hS6,hF6⟩;go_wp2;go_ret;rw[E1.out,E2.out,E3.out];exact⟨rfl,F2,hS6,(HS0.out.trans2 HF5.out HF.out).trans2 hF6 (fun k hk=>.inl (by subst hk;exact HP.out)),HF.out⟩
theorem Yg.lit (w:World)(l:zU)(hl:l.length<=1000000):Yg (w.alloc (.cells (l.map Zs).toArray 5)) (some ⟨w.heap.size,0,none⟩) l.length l.length l:=by
 have h:=World.ownsRow_lit (base:=w.heap.size) (e:=5) (size:=1) w (l.map Zs).toArray l.length (Nat.le_refl _) (by unfold maxLen;omega) (by simp);exact ZW.of_own h
theorem zl {w:World}{a:zA}{n c:Nat}{l:zU}(h:Yg w a n c l):(convert 41 9 (.slice a n c)).run zq w = .ok (.string ⟨l.toArray⟩) w:=
 Z35 41 9 5 Tryz.underlying41 Tryz.underlying5 Tryz.underlying9 h
theorem Z79 (w:World)(A B:zU)(hA:A.length<=1000)(hB:B.length<=1000):
  Calls zq 47 #[.slice (some ⟨w.heap.size,0,none⟩) A.length A.length,.slice (some ⟨w.heap.size+1,0,none⟩) B.length B.length] ((w.alloc (.cells (A.map Zs).toArray 5)).alloc (.cells (B.map Zs).toArray 5)) fun e w'=>
   ∃oa oc,e = .returned (.tuple #[.slice oa (Zt A B).length oc,.int .i64 (sOf (Zt A B)),.int .i64 (4 * ((Zt A B).length:Int))])/\Below w.heap.size w w':=by
 have r2:=Yg.lit w A (by omega);have r3:=Yg.lit (w.alloc (.cells (A.map Zs).toArray 5)) B (by omega);rw[World.size_alloc]at r3;have b2:=(Below.refl (w.alloc (.cells (A.map Zs).toArray 5)).heap.size (w.alloc (.cells (A.map Zs).toArray 5))).alloc (Nat.le_refl _) (.cells (B.map Zs).toArray 5);have b1:=zB w (.cells (A.map Zs).toArray 5);have b3:=b1.trans (b2.mono (by simp));refine(Z7d _ _ _ A _ _ _ B _ (r2.below b2) r3 (by omega) (by omega)).mono ?_;rintro e w' ⟨oa,oc,rfl,_,hb⟩;exact⟨oa,oc,rfl,b3.trans (hb.mono b3.size)⟩
theorem Zbo (w:World):Calls zq 47 #[.slice (some ⟨w.heap.size,0,none⟩) 5 5,.slice (some ⟨w.heap.size+1,0,none⟩) 4 4]
  ((w.alloc (.cells #[.int .u8 1,.int .u8 0,.int .u8 7,.int .u8 0,.int .u8 0] 5)).alloc (.cells #[.int .u8 1,.int .u8 0,.int .u8 8,.int .u8 0] 5)) fun e w'=>
   ∃oa oc,e = .returned (.tuple #[.slice oa 1 oc,.int .i64 3,.int .i64 4])/\Below w.heap.size w w':=by
 have h:=Z79 w [1,0,7,0,0] [1,0,8,0] (by decide) (by decide);have e:Zt [1,0,7,0,0] [1,0,8,0]=[[7]]:=by decide+kernel
 rw[e]at h;exact h
theorem Zbn (w:World):Calls zq 47 #[.slice (some ⟨w.heap.size,0,none⟩) 3 3,.slice (some ⟨w.heap.size+1,0,none⟩) 4 4]
  ((w.alloc (.cells #[.int .u8 1,.int .u8 0,.int .u8 6] 5)).alloc (.cells #[.int .u8 1,.int .u8 0,.int .u8 8,.int .u8 0] 5)) fun e w'=>
   ∃oa oc,e = .returned (.tuple #[.slice oa 0 oc,.int .i64 0,.int .i64 0])/\Below w.heap.size w w':=by
 have h:=Z79 w [1,0,6] [1,0,8,0] (by decide) (by decide);have e:Zt [1,0,6] [1,0,8,0]=[]:=by decide+kernel
 rw[e]at h;exact h
theorem ZaT (w:World)(p:Nat)(F:Nat->Prop)(h:VU w p F [1,0,7] [1,0,8,0] 0 0):
  Calls zq 50 #[.pointer (some ⟨p,0,none⟩),.int .i64 3,.int .i64 2,.int .i64 (-1)] w fun e w'=>e = .returned (.int .i64 0) /\ ∃F',VU w' p F' [1,0,7] [1,0] 3 2/\Za F w w'/\(∀k,F' k->F k\/w.heap.size<=k):=by
 have h:=Z5x w p F [1,0,7] [1,0,8,0] 0 0 3 2 (-1) h ⟨by decide,by decide,by decide,by decide,by decide,by decide⟩;have e1:Jj [1,0,7] 0 3 (-1)=[1,0,7]:=by decide+kernel
 have e2:J5 [1,0,8,0] 0 3 2 (-1)=[1,0]:=by decide+kernel
 rw[e1,e2]at h;exact h
theorem Z7Y (w:World)(p:Nat)(F:Nat->Prop)(h:VU w p F [1,0,7] [1,0] 3 2):
  Calls zq 51 #[.pointer (some ⟨p,0,none⟩)] w fun e w'=>(∃oa oc,e = .returned (.slice oa 0 oc))/\Below w.heap.size w w':=by
 have h:=Z0O w p F _ _ _ _ h;have e1:Zt [1,0,7] [1,0]=[]:=by decide+kernel
 rw[e1]at h;exact h.mono fun e w' ⟨oa,oc,he,_,hb⟩=>⟨⟨oa,oc,he⟩,hb⟩
theorem Zao (w:World):Calls zq 10 #[] w fun e w'=>e = .returned (.bool true)/\Below w.heap.size w w':=by
 go_enter Tryz.func10,Tryz.ntmps10;go_wp2_with fail;have r1:Yg (w.alloc (.cells #[.int .u8 7] 5)) (some ⟨w.heap.size,0,none⟩) 1 1 [7]:=Yg.lit w [7] (by decide);have b0:=zB w (.cells #[.int .u8 7] 5);refine(Z9F _ _ _ [7] _ r1 (by decide)).mono ?_;rintro e w1 ⟨sa,sc,fa,fc,rfl,hs,hf,b1⟩;have hb1:=b0.trans (b1.mono b0.size);have e1:Zw [7]=[1,0,7]:=by decide+kernel
 have e2:ZK [7]=[1,0,8,0]:=by decide+kernel
 rw[e1]at hs ⊢;rw[e2]at hf ⊢;clear r1 b0 b1 e1 e2;have HB:=zH hb1;clear hb1;go_wp2_with fail;refine(Zbo w1).mono ?_;rintro e w2 ⟨oa,oc,rfl,b2⟩;have hb2:=HB.out.trans (b2.mono HB.out.size);have hs2:=hs.below b2;have hf2:=hf.below b2;have HB2:=zH hb2;clear hb2 b2 hs hf;go_wp2_with fail;refine(Zbn w2).mono ?_;rintro e w3 ⟨oa3,oc3,rfl,b3⟩;have hb3:=HB2.out.trans (b3.mono HB2.out.size);have hs3:=hs2.below b3;have hf3:=hf2.below b3;have HB3:=zH hb3;clear hb3 b3 hs2 hf2;go_wp2_with fail;refine(za w3).mono ?_;rintro e w4 ⟨rfl,hst4,b4⟩;have hz4:w3.heap.size < w4.heap.size:=hst4.lt _ rfl;have B4:=zH b4;clear b4;go_wp2_with fail;have ba:=zB w4 (.cells #[.int .u8 7] 5);have hst5:=hst4.same (S:=fun _=>False) (Za.of_below ba) (fun _ e=>e.elim);refine(Z9g _ _ _ _ _ _ _ _ _ _ [7] hst5 (Yg.lit w4 [7] (by decide)) (by decide) (by decide) (by decide)).mono ?_;rintro e w5 ⟨rfl,F5,hst5',hF5,hF5'⟩;have e1:([]:zU) ++ Zw [7]=[1,0,7]:=by decide+kernel
 have e2:([]:zU) ++ ZK [7]=[1,0,8,0]:=by decide+kernel
 rw[e1,e2]at hst5';have b5:Below w3.heap.size w3 w5:=hF5.below (B4.out.trans (ba.mono (by omega))) (by simp;omega) (fun k hk=>by omega);have hG5 : ∀k,F5 k->w3.heap.size<=k:=fun k hk=>by
  rcases hF5' k hk with h | h
  ·omega
  ·simp at h;omega
 have B5:=zH b5;clear b5 hst5 ba hF5 hF5' hst4;have G5:=zH hG5;clear hG5;go_wp2_with fail;refine(ZaT w5 _ F5 hst5').mono ?_;rintro e w6 ⟨rfl,F6,hst6,hF6,hF6'⟩;have b6:Below w3.heap.size w3 w6:=hF6.below B5.out B5.out.size G5.out;have hs6:=hs3.below b6;have hf6:=hf3.below b6;have hb6:=HB3.out.trans (b6.mono HB3.out.size);have HB6:=zH hb6;clear hb6 b6 hF6 hF6' hst5' hs3 hf3;have c1:(convert 41 9 (.slice sa 3 sc)).run zq w6 = .ok (.string ⟨[1,0,7].toArray⟩) w6:=zl hs6;have c2:(convert 41 9 (.slice (some ⟨w6.heap.size,0,none⟩) 3 3)).run zq (w6.alloc (.cells #[.int .u8 1,.int .u8 0,.int .u8 7] 5)) = .ok (.string ⟨[1,0,7].toArray⟩) (w6.alloc (.cells #[.int .u8 1,.int .u8 0,.int .u8 7] 5)):=zl (Yg.lit w6 [1,0,7] (by decide));have ba:=zB w6 (.cells #[.int .u8 1,.int .u8 0,.int .u8 7] 5);have c3:(convert 41 9 (.slice fa 4 fc)).run zq (w6.alloc (.cells #[.int .u8 1,.int .u8 0,.int .u8 7] 5)) = .ok (.string ⟨[1,0,8,0].toArray⟩) (w6.alloc (.cells #[.int .u8 1,.int .u8 0,.int .u8 7] 5)):=zl (hf6.below ba);have c4:(convert 41 9 (.slice (some ⟨w6.heap.size+1,0,none⟩) 4 4)).run zq ((w6.alloc (.cells #[.int .u8 1,.int .u8 0,.int .u8 7] 5)).alloc (.cells #[.int .u8 1,.int .u8 0,.int .u8 8,.int .u8 0] 5)) = .ok (.string ⟨[1,0,8,0].toArray⟩) ((w6.alloc (.cells #[.int .u8 1,.int .u8 0,.int .u8 7] 5)).alloc (.cells #[.int .u8 1,.int .u8 0,.int .u8 8,.int .u8 0] 5)):=by
  have h:=Yg.lit (w6.alloc (.cells #[.int .u8 1,.int .u8 0,.int .u8 7] 5)) [1,0,8,0] (by decide);rw[World.size_alloc]at h;exact zl h
 have bb:=ba.alloc (by simp) (.cells #[.int .u8 1,.int .u8 0,.int .u8 8,.int .u8 0] 5);have hst7:=hst6.same (S:=fun _=>False) (Za.of_below bb) (fun _ e=>e.elim);have HST:=zH hst7;have HBB:=zH bb;clear hst6 hst7 hs6 hf6 ba bb;go_wp2_with fail;refine(Z7Y _ _ _ HST.out).mono ?_;rintro e w7 ⟨⟨oa7,oc7,rfl⟩,b7⟩;have hb7:=HB6.out.trans ((HBB.out.trans (b7.mono HBB.out.size)).mono HB6.out.size);have HB7:=zH hb7;clear hb7 b7;go_wp2;go_ret;exact⟨rfl,HB7.out⟩
section
attribute [local go_sem] ZS
end
theorem YB {P:Program}{ops:Array Oper}{S:World->Prop}{op:Oper}{a:Act}(hw:Region.wanted op (yielded ops a.tmps)=true)(ty:TypeId)(x:Operand)(ho:op.op = .load ty x)
  (b:Nat) (hx:a.eval x = .pointer (some ⟨b,0,none⟩)) (cs:ZV) (t:TypeId) (fr:Nat×Nat) (d:TypeDesc) (hS : ∀w,S w->w.heap[b]? = some (.cells cs t fr))
  (hu:P.underlying ty=some d) (hd:(match d with | .struct _ | .array _ _=>true | _=>false)=true) (hi:(P.info? ty).map (·.size)=some cs.size):YieldsIf P ops S op (.agg cs) a:=
 .inl ⟨hw,fun w hw'=>by
  unfold execOp
  simp only[ho,hx,Instr.loadAt,Instr.sureAddr,Sem.run_bind,Sem.run_pure,Result.andThen_ok,run_loadVar_row w b t ty cs fr d (hS w hw') hu hd hi]⟩
section
attribute [local go_sem] ZS
end
def Yl (x y:Int):Int:=if x < y then -1 else if y < x then 1 else 0
def orI (x y:Int):Int:=if x=0 then y else x
def Yx (h m h' m':Int):Int:=orI (Yl h h') (Yl m m')
def Xm (x y:Z8):Int:=orI (Yl x.clock y.clock) (Yx x.house x.num y.house y.num)
def XV (x y:Z8):Int:=orI (Yl x.day y.day) (Xm x y)
def YP (n:Z8):Bool:=JC n.kind 1 4
def Jn (x r:Z8):Bool:=decide (x.kind=6) ||(decide (x.kind=5) && (!decide (x.fix=2) || decide (r.kind=2)))
theorem Z0x (x:Int)(w:World):Calls zq 206 #[.int .i64 x] w fun e w'=>e = .returned (.bool false)/\w'=w:=by
 have h:(x != x)=false:=by simp
 go_enter Tryz.func206,Tryz.ntmps206;go_wp2;go_ret;exact⟨rfl,rfl⟩
theorem XA (x y:Int)(w:World):Calls zq 173 #[.int .i64 x,.int .i64 y] w fun e w'=>e = .returned (.int .i64 (Yl x y))/\w'=w:=by
 have K : ∀{v:Int},Yl x y=v->Hid (Yl x y=v):=fun h=>zH h;by_cases h1:x < y
 ·have HK:=K (if_pos h1);have t1:decide (x < y)=true:=by simp[h1]
  go_enter Tryz.func173,Tryz.ntmps173;go_wp2_with fail;refine(Z0x x w).mono ?_;rintro e w1 ⟨rfl,rfl⟩;go_wp2_with fail;refine(Z0x y _).mono ?_;rintro e w1 ⟨rfl,rfl⟩;go_wp2;go_ret;rw[HK.out];exact⟨rfl,rfl⟩
 ·have t1:decide (x < y)=false:=by simp;omega
  by_cases h2:y < x
  focus
   have HK:=K ((if_neg h1).trans (if_pos h2));have t2:decide (y < x)=true:=by simp[h2]
  rotate_left
  focus
   have HK:=K ((if_neg h1).trans (if_neg h2));have t2:decide (y < x)=false:=by simp;omega
  all_goals
   go_enter Tryz.func173,Tryz.ntmps173;go_wp2_with fail;refine(Z0x x w).mono ?_;rintro e w1 ⟨rfl,rfl⟩;go_wp2_with fail;refine(Z0x y _).mono ?_;rintro e w1 ⟨rfl,rfl⟩;go_wp2;go_ret;rw[HK.out];exact⟨rfl,rfl⟩
theorem ZaQ (w:World)(x y:Int):XU (w.alloc (.cells #[.int .i64 x,.int .i64 y] 3)) (some ⟨w.heap.size,0,none⟩) 2 2 [x,y]:=
 ZW.of_own (World.ownsRow_lit (base:=w.heap.size) (e:=3) (size:=1) w #[.int .i64 x,.int .i64 y] 2 (Nat.le_refl _) (by unfold maxLen;omega) rfl)
theorem Z26 (b:Nat)(x y:Int)(w:World)(h:w.heap[b]? = some (.cells #[.int .i64 x,.int .i64 y] 3)):Calls zq 172 #[.slice (some ⟨b,0,none⟩) 2 2] w fun e w'=>e = .returned (.int .i64 (orI x y))/\w'=w:=by
 have c0:w.cell? ⟨b,0,none⟩=some (.int .i64 x):=Z6 h 0 _ rfl;have c1:w.cell? ⟨b,1,none⟩=some (.int .i64 y):=Z6 h 1 _ rfl;go_enter Tryz.func172,Tryz.ntmps172;go_wp2_with fail;go_loopw [5,8] (fun _ i wr=>((i = .int .i64 0)\/(i = .int .i64 1/\Hid (x=0))\/(i = .int .i64 2/\Hid (x=0/\y=0)))/\Hid (w=wr)) (fun _ i _=>2 - (intOf i).toNat)
 case atStart=>exact⟨.inl rfl,zH rfl⟩
 case round=>
  obtain⟨hr,HE⟩:=hrel;have:=HE.out;subst this;rcases hr with rfl | ⟨rfl,hx⟩ | ⟨rfl,hx⟩
  ·by_cases h0:x=0
   ·have t0:(x != 0)=false:=by simp[h0]
    have H0:=zH h0;clear h0;go_wp2;go_roundw
    case rel=>exact⟨.inr (.inl ⟨rfl,H0⟩),zH (by trivial)⟩
    case measure=>simp[intOf]
   ·have t0:(x != 0)=true:=by simp[h0]
    have H0:=zH (show orI x y=x from if_neg h0);clear h0;go_wp2;go_ret;rw[H0.out];exact⟨rfl,rfl⟩
  ·by_cases h0:y=0
   ·have t0:(y != 0)=false:=by simp[h0]
    have H0:=zH (show x=0/\y=0 from⟨hx.out,h0⟩);clear h0;go_wp2;go_roundw
    case rel=>exact⟨.inr (.inr ⟨rfl,H0⟩),zH (by trivial)⟩
    case measure=>simp[intOf]
   ·have t0:(y != 0)=true:=by simp[h0]
    have H0:=zH (show orI x y=y from if_pos hx.out);clear h0;go_wp2;go_ret;rw[H0.out];exact⟨rfl,rfl⟩
  ·have H0:=zH (show orI x y=0 by rw[orI,if_pos hx.out.1];exact hx.out.2);go_wp2;go_ret;rw[H0.out];exact⟨rfl,rfl⟩
structure Z6m (w W:World)(p q:Nat)(A B:ZV)(t:TypeId):Prop where
 e1:W.heap[p]? = some (.cells A t (0,0))
 e2:W.heap[q]? = some (.cells B t (0,0))
 b:Below p w W
 lt:p < q
theorem Z6m.below {w W W':World}{p q:Nat}{A B:ZV}{t:TypeId}(h:Z6m w W p q A B t)(hb:Below W.heap.size W W'):Z6m w W' p q A B t:=by
 have g : ∀{k:Nat} {o:Obj},W.heap[k]? = some o->W'.heap[k]? = some o:=fun {k o} hk=>(hb.block k (Array.getElem?_eq_some_iff.1 hk).1).trans hk;have h0:=(Array.getElem?_eq_some_iff.1 h.e1).1;exact⟨g h.e1,g h.e2,h.b.trans (hb.mono (by omega)),h.lt⟩
theorem UK (x m y k:Int)(w:World):Calls zq 124 #[.agg #[.int .i64 x,.int .i64 m],.agg #[.int .i64 y,.int .i64 k]] w fun e w'=>e = .returned (.int .i64 (Yx x m y k))/\Below w.heap.size w w':=by
 have g1:=Zb _ (.cells (#[.int .i64 y,.int .i64 k]) 45) _ _ (Z9 w (.cells (#[.int .i64 x,.int .i64 m]) 45));have g2:=Zv (w.alloc (.cells (#[.int .i64 x,.int .i64 m]) 45)) (.cells (#[.int .i64 y,.int .i64 k]) 45) (w.heap.size+1) (by simp);have bb:Below w.heap.size w ((w.alloc (.cells (#[.int .i64 x,.int .i64 m]) 45)).alloc (.cells (#[.int .i64 y,.int .i64 k]) 45)):=(zB _ _).alloc (by simp) _;have T0:Hid (Z6m w ((w.alloc (.cells (#[.int .i64 x,.int .i64 m]) 45)).alloc (.cells (#[.int .i64 y,.int .i64 k]) 45)) w.heap.size (w.heap.size+1) (#[.int .i64 x,.int .i64 m]) (#[.int .i64 y,.int .i64 k]) 45):=zH ⟨g1,g2,bb,by omega⟩;clear g1 g2 bb;go_enter Tryz.func124,Tryz.ntmps124;go_upto_region 1 with fail;generalize (w.alloc (.cells (#[.int .i64 x,.int .i64 m]) 45)).alloc (.cells (#[.int .i64 y,.int .i64 k]) 45)=W0 at *;obtain⟨p,hp⟩:=zX (w.heap.size);obtain⟨q,hq⟩:=zX (w.heap.size+1);rw[hq.out,hp.out]at T0;rw[hq.out,hp.out];have T1:=zH (T0.out.below (zd W0));refine wp_region_noPanic ?_;refine wp_region_held_drew (S:=fun w'=>Z6m w w' p q (#[.int .i64 x,.int .i64 m]) (#[.int .i64 y,.int .i64 k]) 45) (by kernel_rfl) T1.out (fun hh=>?_);refine zS 0 rfl (.pointer (some ⟨p,0,none⟩)) (fun W _=>by go_simp) ?_;refine zS 1 rfl (.int .i64 x) (fun W h=>by have hc:=Z6 h.e1 0 (.int .i64 x) rfl;go_simp) ?_;refine zS 2 rfl (.pointer (some ⟨q,0,none⟩)) (fun W _=>by go_simp) ?_;refine zS 3 rfl (.int .i64 y) (fun W h=>by have hc:=Z6 h.e2 0 (.int .i64 y) rfl;go_simp) ?_;refine zS 5 rfl (.pointer (some ⟨p,1,none⟩)) (fun W _=>by go_simp) ?_;refine zS 6 rfl (.int .i64 m) (fun W h=>by have hc:=Z6 h.e1 1 (.int .i64 m) rfl;go_simp) ?_;refine zS 7 rfl (.pointer (some ⟨q,1,none⟩)) (fun W _=>by go_simp) ?_;refine zS 8 rfl (.int .i64 k) (fun W h=>by have hc:=Z6 h.e2 1 (.int .i64 k) rfl;go_simp) ?_;refine zR 4 rfl fun K hK=>?_;go_simp;go_at_call 173;refine(XA x y _).mono ?_;rintro e w1 ⟨rfl,rfl⟩;dsimp only;refine zK hK T1.out fun hh=>?_;clear hK K;refine zR 9 rfl fun K hK=>?_;go_simp;go_at_call 173
 refine(XA m k _).mono ?_;rintro e w1 ⟨rfl,rfl⟩;dsimp only;refine zK hK T1.out fun hh=>?_;clear hK K;refine zR 10 rfl fun K hK=>?_;go_simp;have TB:=zH (T1.out.below ((Below.refl W0.drew.heap.size W0.drew).alloc (Nat.le_refl _) (.cells #[.int .i64 (Yl x y),.int .i64 (Yl m k)] 3)));refine zK hK TB.out fun hh=>?_;clear hK K;refine zR 11 rfl fun K hK=>?_;go_simp;go_at_call 172;refine(Z26 W0.drew.heap.size (Yl x y) (Yl m k) _ (Z9 W0.drew _)).mono ?_;rintro e w1 ⟨rfl,rfl⟩;dsimp only;refine zK hK TB.out fun hh=>?_;clear hK K;refine zS 12 rfl (.int .i64 (orI (Yl x y) (Yl m k))) (fun W _=>by go_simp) ?_;have TE:=TB;refine zE ?_;change Exit.then _ _ Exit.normal { tmps := #[.agg #[.int .i64 x,.int .i64 m],.agg #[.int .i64 y,.int .i64 k],.pointer (some ⟨p,0,none⟩),.pointer (some ⟨q,0,none⟩),.int .i64 (orI (Yl x y) (Yl m k)),.pointer (some ⟨p,0,none⟩),.int .i64 x,.pointer (some ⟨q,0,none⟩),.int .i64 y,.int .i64 (Yl x y),.pointer (some ⟨p,1,none⟩),.int .i64 m,.pointer (some ⟨q,1,none⟩),.int .i64 k,.int .i64 (Yl m k),.slice (some ⟨W0.drew.heap.size,0,none⟩) 2 2,.int .i64 (orI (Yl x y) (Yl m k))],defers:=[] } _;go_wp2;go_ret;exact⟨rfl,by rw[hp.out];exact TE.out.b⟩
section
attribute [local go_sem] ZS
theorem Z9T (n r:Z8)(sa:zA)(sc:Nat)(ta:zA)(tc:Nat)(w:World):Calls zq 191 #[.agg (Z5 n sa sc),.agg (Z5 r ta tc)] w fun e w'=>e = .returned (.int .i64 (Xm n r))/\Below w.heap.size w w':=by
 have I43:=zH zI;have g1:=Zb _ (.cells (Z5 r ta tc) 47) _ _ (Z9 w (.cells (Z5 n sa sc) 47));have g2:=Zv (w.alloc (.cells (Z5 n sa sc) 47)) (.cells (Z5 r ta tc) 47) (w.heap.size+1) (by simp);have bb:Below w.heap.size w ((w.alloc (.cells (Z5 n sa sc) 47)).alloc (.cells (Z5 r ta tc) 47)):=(zB _ _).alloc (by simp) _;have T0:Hid (Z6m w ((w.alloc (.cells (Z5 n sa sc) 47)).alloc (.cells (Z5 r ta tc) 47)) w.heap.size (w.heap.size+1) (Z5 n sa sc) (Z5 r ta tc) 47):=zH ⟨g1,g2,bb,by omega⟩;clear g1 g2 bb;go_enter Tryz.func191,Tryz.ntmps191;go_upto_region 1 with fail;generalize (w.alloc (.cells (Z5 n sa sc) 47)).alloc (.cells (Z5 r ta tc) 47)=W0 at *;obtain⟨p,hp⟩:=zX (w.heap.size);obtain⟨q,hq⟩:=zX (w.heap.size+1);rw[hq.out,hp.out]at T0;rw[hq.out,hp.out];have T1:=zH (T0.out.below (zd W0));refine wp_region_noPanic ?_;refine wp_region_held_drew (S:=fun w'=>Z6m w w' p q (Z5 n sa sc) (Z5 r ta tc) 47) (by kernel_rfl) T1.out (fun hh=>?_);refine zS 0 rfl (.pointer (some ⟨p,2,none⟩)) (fun W _=>by go_simp) ?_;refine zS 1 rfl (.int .i64 n.clock) (fun W h=>by have hc:=Z6 h.e1 2 (.int .i64 n.clock) rfl;go_simp) ?_;refine zS 2 rfl (.pointer (some ⟨q,2,none⟩)) (fun W _=>by go_simp) ?_;refine zS 3 rfl (.int .i64 r.clock) (fun W h=>by have hc:=Z6 h.e2 2 (.int .i64 r.clock) rfl;go_simp) ?_;refine zT 5 rfl (.agg (Z5 n sa sc)) (YB (by rfl) 47 _ rfl p rfl _ 47 (0,0) _ (fun W h=>h.e1) Tryz.underlying47 rfl (I43.out _ _ _)) ?_;refine zT 7 rfl (.agg (Z5 r ta tc)) (YB (by rfl) 47 _ rfl q rfl _ 47 (0,0) _ (fun W h=>h.e2) Tryz.underlying47 rfl (I43.out _ _ _)) ?_;refine zR 4 rfl fun K hK=>?_;go_simp;go_at_call 173;refine(XA n.clock r.clock _).mono ?_;rintro e w1 ⟨rfl,rfl⟩;dsimp only;refine zK hK T1.out fun hh=>?_;clear hK K;refine zR 6 rfl fun K hK=>?_;go_simp;go_at_call 167;refine(Yc n sa sc _).mono ?_;rintro e w1 ⟨rfl,b1⟩;have T2:=zH (T1.out.below b1);clear b1;dsimp only;refine zK hK T2.out fun hh=>?_;clear hK K;refine zR 8 rfl fun K hK=>?_
 go_simp;go_at_call 167;refine(Yc r ta tc _).mono ?_;rintro e w2 ⟨rfl,b1⟩;have T3:=zH (T2.out.below b1);clear b1;dsimp only;refine zK hK T3.out fun hh=>?_;clear hK K;refine zR 9 rfl fun K hK=>?_;go_simp;go_at_call 124;refine(UK n.house n.num r.house r.num _).mono ?_;rintro e w3 ⟨rfl,b1⟩;have T4:=zH (T3.out.below b1);clear b1;dsimp only;refine zK hK T4.out fun hh=>?_;clear hK K;refine zR 10 rfl fun K hK=>?_;go_simp;have TB:=zH (T4.out.below (zB w3 (.cells #[.int .i64 (Yl n.clock r.clock),.int .i64 (Yx n.house n.num r.house r.num)] 3)));refine zK hK TB.out fun hh=>?_;clear hK K;refine zR 11 rfl fun K hK=>?_;go_simp;go_at_call 172;refine(Z26 w3.heap.size (Yl n.clock r.clock) (Yx n.house n.num r.house r.num) _ (Z9 w3 _)).mono ?_;rintro e w4 ⟨rfl,rfl⟩;dsimp only;refine zK hK TB.out fun hh=>?_;clear hK K;refine zS 12 rfl (.int .i64 (orI (Yl n.clock r.clock) (Yx n.house n.num r.house r.num))) (fun W _=>by go_simp) ?_;have TE:=TB;refine zE ?_;change Exit.then _ _ Exit.normal { tmps := #[.agg (Z5 n sa sc),.agg (Z5 r ta tc),.pointer (some ⟨p,0,none⟩),.pointer (some ⟨q,0,none⟩),.int .i64 (orI (Yl n.clock r.clock) (Yx n.house n.num r.house r.num)),.pointer (some ⟨p,2,none⟩),.int .i64 n.clock,.pointer (some ⟨q,2,none⟩),.int .i64 r.clock,.int .i64 (Yl n.clock r.clock),.agg (Z5 n sa sc),.agg #[.int .i64 n.house,.int .i64 n.num],.agg (Z5 r ta tc),.agg #[.int .i64 r.house,.int .i64 r.num],.int .i64 (Yx n.house n.num r.house r.num),.slice (some ⟨w3.heap.size,0,none⟩) 2 2,.int .i64 (orI (Yl n.clock r.clock) (Yx n.house n.num r.house r.num))],defers:=[] } _;go_wp2;go_ret;exact⟨rfl,by rw[hp.out];exact TE.out.b⟩
end
theorem Z1d (a:zA)(n c:Nat)(l:List Int)(w:World)(hn:n<=1000000000)(hr:XU w a n c l):
  Calls zq 69 #[.slice a n c] w fun e w' => ∃a' c',e = .returned (.slice a' n c')/\w'.ownsRow w.heap.size 3 1 (.slice a' n c') n (l.map Yq)/\Below w.heap.size w w':=by
 have hnc:=hr.2.1;by_cases ha:a=none
 ·subst ha;have hc:n=0/\c=0:=by
   rcases hr.2.2.2 with h | ⟨b,off,h,_⟩
   ·omega
   ·cases h
  obtain⟨rfl,rfl⟩:=hc;have hl:l=[]:=List.eq_nil_of_length_eq_zero hr.len;subst hl;clear hr hnc;have heq : ∀w,(binOp .eql 37 (.slice none 0 0) (.slice none 0 0)).run zq w = .ok (.bool true) w:=fun w=>Lib.run_eql_slice_nil (P:=zq) w 37 3 none 0 0 0 0 Tryz.underlying37;go_enter Tryz.func69,Tryz.ntmps69;go_wp2;go_ret;exact⟨_,_,rfl,World.ownsRow_nil _ _ _ _,Below.refl _ _⟩
 ·obtain⟨ad,rfl⟩:=Option.ne_none_iff_exists'.1 ha;clear ha;have heq : ∀w,(binOp .eql 37 (.slice (some ad) n c) (.slice none 0 0)).run zq w = .ok (.bool false) w:=fun w=>Lib.run_eql_slice_nil (P:=zq) w 37 3 (some ad) n c 0 0 Tryz.underlying37;have hown:=World.ownsRow_lit (base:=w.heap.size) (e:=3) (size:=1) w #[] 0 (Nat.le_refl _) (by unfold maxLen;omega) rfl;have hr1:=hr.below (zB w (Obj.cells #[] 3));go_enter Tryz.func69,Tryz.ntmps69;go_wp2_with (at_builtin;refine Zck _ rfl _ _ rfl w.heap.size _ _ _ [] rfl hown _ _ _ l rfl hr1 (by omega) (by simp) ?_);intro a' c' w' h1 h2;have hb:=(zB w (Obj.cells #[] 3)).grown h2 (by simp) (fun q hq=>(hown.lt q hq).1);have H1:=zH (show w'.ownsRow w.heap.size 3 1 (.slice a' n c') n (l.map Yq)by simpa using h1);clear h1 h2;try simp only[Nat.zero_add]
  go_wp2;go_ret;exact⟨_,_,rfl,H1.out,hb⟩
section
attribute [local go_sem] ZS X9 XZ QP XJ QO QN QM Vp Vn Qi Qh JS JR JQ XQ J9 J8 Jt
variable (n:Z8)(sa:zA)(sc:Nat)(w:World)
theorem Z1F:Calls zq 189 #[.agg (Z5 n sa sc)] w fun e w'=>e = .returned (.bool (YP n))/\Below w.heap.size w w':=by
 have hb:=zB w (.cells (Z5 n sa sc) 47);go_enter Tryz.func189,Tryz.ntmps189;go_wp2_with fail;refine(Yf n.kind 1 4 _).mono ?_;rintro e w' ⟨rfl,rfl⟩;go_wp2;go_ret;exact⟨rfl,hb⟩
theorem Z8h (r:Z8)(ta:zA)(tc:Nat):Calls zq 190 #[.agg (Z5 n sa sc),.agg (Z5 r ta tc)] w fun e w'=>e = .returned (.bool (Jn n r))/\Below w.heap.size w w':=by
 have hb:=(zB w (.cells (Z5 n sa sc) 47)).alloc (by simp) (.cells (Z5 r ta tc) 47);have hl:=Zb _ (.cells (Z5 r ta tc) 47) _ _ (Z9 w (.cells (Z5 n sa sc) 47));have hl2:=Zv (w.alloc (.cells (Z5 n sa sc) 47)) (.cells (Z5 r ta tc) 47) (w.heap.size+1) (by simp);have c4:=Z6 hl 4 (.int .i64 n.kind) rfl;have c18:=Z6 hl 18 (.int .i64 n.fix) rfl;have d4:=Z6 hl2 4 (.int .i64 r.kind) rfl;have HB:=zH hb;clear hb hl hl2;by_cases h6:n.kind=6
 ·have q6:(n.kind==6)=true:=by simp[h6]
  have HR:=zH (show Jn n r=true by simp[Jn,h6]);clear h6;go_enter Tryz.func190,Tryz.ntmps190;go_wp2;go_ret;rw[HR.out];exact⟨rfl,HB.out⟩
 ·have q6:(n.kind==6)=false:=by simp[h6]
  by_cases h5:n.kind=5
  ·have q5:(n.kind==5)=true:=by simp[h5]
   by_cases h2:n.fix=2
   focus
    have q2:(n.fix != 2)=false:=by simp[h2]
    have HR:=zH (show Jn n r=(r.kind==2)by simp[Jn,h5,h2];by_cases h:r.kind=2 <;> simp[h])
   rotate_left
   focus
    have q2:(n.fix != 2)=true:=by simp[h2]
    have HR:=zH (show Jn n r=true by simp[Jn,h5,h2])
   all_goals
    clear h6 h5 h2;go_enter Tryz.func190,Tryz.ntmps190;go_wp2;go_ret;rw[HR.out];exact⟨rfl,HB.out⟩
  ·have q5:(n.kind==5)=false:=by simp[h5]
   have HR:=zH (show Jn n r=false by simp[Jn,h5,h6]);clear h6 h5;go_enter Tryz.func190,Tryz.ntmps190;go_wp2;go_ret;rw[HR.out];exact⟨rfl,HB.out⟩
end
open Go.Maps (Keyed)
abbrev Nm:=Int×Int
def nmV (a:Nm):Value := .agg #[.int .i64 a.1,.int .i64 a.2]
def Um (a:Nm):Prop:=Jl a.1/\Jl a.2
def nmL (a:Nm):Lit := .string (keyBytes [.int .i64 a.1,.int .i64 a.2])
theorem ZcG:laidOutB zq=true:=by kernel_rfl
theorem Zdn:(45:TypeId) < zq.types.size:=of_decide_eq_true (by kernel_rfl)
theorem ZcB:zq.keyTypeAt 2 45=true:=by kernel_rfl
theorem Zdo:WideMaps.KeyLaw zq 45:=by
 refine deep_law_laid ZcG (m:=2) (by omega) Zdn ZcB ?_;rw[Tryz.underlying45]
theorem Ju:Keyed zq 45:=Keyed.of_law Zdo
theorem Z3U:zq.cellsOf 45=2:=by kernel_rfl
theorem Zdg {z:Int}(h:Jl z):(Lit.int .i64 z).wf=true:=by
 have h1:=h.1;have h2:=h.2;simp[Lit.wf,IntKind.min,IntKind.max,IntKind.signed,IntKind.bits];omega
theorem Z8m {z:Int}(h:(Lit.int .i64 z).wf=true):Jl z:=by
 simp[Lit.wf,IntKind.min,IntKind.max,IntKind.signed,IntKind.bits]at h;unfold Jl;omega
theorem Z44:zq.keyType 45=true:=by kernel_rfl
theorem Z45 (d:Nat)(c0 c1:Value):zq.keyLits (d+2) 45 [c0,c1]=(do let a <-zq.keyLits (d+1) 3 [c0];let b <-zq.keyLits (d+1) 3 [c1];pure (a ++ b)):=by
 have hc:zq.cellsOf 3=1:=by kernel_rfl
 rw[show d+2=(d+1)+1 from rfl]
 conv=>lhs;unfold Program.keyLits;rw[Tryz.underlying45]
 simp[Z3U,hc];cases zq.keyLits (d+1) 3 [c0] <;> cases zq.keyLits (d+1) 3 [c1] <;> simp
theorem Z2S (d:Nat)(z:Int)(h:Jl z):zq.keyLits (d+1) 3 [.int .i64 z]=some [.int .i64 z]:=by
 unfold Program.keyLits;rw[Tryz.underlying3];simp[Zdg h]
theorem Z05 (d:Nat)(v:Value)(ls:List Lit)(h:zq.keyLits (d+1) 3 [v]=some ls): ∃z,v = .int .i64 z/\Jl z/\ls=[.int .i64 z]:=by
 unfold Program.keyLits at h;generalize hu:zq.underlying 3=u at h;rw[Tryz.underlying3]at hu;subst hu;cases v <;> simp at h
 obtain⟨⟨rfl,hw⟩,rfl⟩:=h;exact⟨_,rfl,Z8m hw,rfl⟩
theorem Z3s: ∃d,zq.types.size+1=d+2:=by
 have h:0 < zq.types.size:=of_decide_eq_true (by kernel_rfl);generalize zq.types.size=s at h;exact⟨s - 1,by omega⟩
theorem VQ (a:Nm)(h:Um a):keyOf zq 45 (nmV a)=some (nmL a):=by
 obtain⟨d,hd⟩:=Z3s;have hf:(nmV a).formed zq 45=true:=by simp[nmV,Value.formed,Tryz.underlying45,Z3U]
 unfold keyOf;rw[Tryz.underlying45];simp only[Z44,hf,Bool.and_self,if_true,hd];rw[show(nmV a).cells.toList=[.int .i64 a.1,.int .i64 a.2]from rfl,Z45,Z2S _ _ h.1,Z2S _ _ h.2];rfl
theorem Z0w {v:Value}{kl:Lit}(h:keyOf zq 45 v=some kl): ∃a,v=nmV a/\Um a/\kl=nmL a:=by
 obtain⟨d,hd⟩:=Z3s;unfold keyOf at h;rw[Tryz.underlying45]at h;simp only[Z44,Bool.true_and,hd]at h;split at h
 ·rename_i hf;cases v <;> simp[Value.formed,Tryz.underlying45,Z3U]at hf
  rename_i cs;obtain⟨l⟩:=cs
  match l,hf with
  | [c0,c1],_=>
   rw[show(Value.agg #[c0,c1]).cells.toList=[c0,c1]from rfl,Z45]at h;cases h0:zq.keyLits (d+1) 3 [c0]with
   | none=>simp[h0]at h
   | some l0=>
    cases h1:zq.keyLits (d+1) 3 [c1]with
    | none=>simp[h0,h1]at h
    | some l1=>
     obtain⟨z0,rfl,hz0,rfl⟩:=Z05 _ _ _ h0;obtain⟨z1,rfl,hz1,rfl⟩:=Z05 _ _ _ h1;simp[h0,h1]at h;exact⟨(z0,z1),rfl,⟨hz0,hz1⟩,h.symm⟩
 ·cases h
theorem Z1u (a:Nm):WideAt.IsKeyLit (nmL a):=trivial
theorem Z5Y {a b:Nm}(h:nmV a=nmV b):a=b:=by
 simp[nmV]at h;exact Prod.ext h.1 h.2
theorem z7 {a b:Nm}(ha:Um a)(hb:Um b)(h:nmL a=nmL b):a=b:=
 Z5Y (Ju.inj (VQ a ha) (h ▸ VQ b hb))
def JV:Value->Option (DataW Value×List MemPlace):=fun v=>some (.held v,[])
structure Z0r {α:Type}(enc:α->Value)(D:DataW Value)(f:Nm->Option α):Prop where
 ok : ∀a,(f a).isSome=true->Um a
 has : ∀a,Um a->Maps.has D (nmL a)=(f a).isSome
 val : ∀a x,f a=some x -> ∀z,D.atKey (nmL a) z = .held (enc x)
def Y4 {α:Type}(enc:α->Value)(w:World)(b n:Nat)(f:Nm->Option α):Prop := ∃D,w.ownsMap zq 45 JV b n D/\Z0r enc D f
def Yv {α:Type}(f:Nm->Option α)(k:Nm)(x:α):Nm->Option α:=fun a=>if a=k then some x else f a
def Z6d {α:Type}(f:Nm->Option α)(k:Nm):Nm->Option α:=fun a=>if a=k then none else f a
section
variable {α:Type}{enc:α->Value}{D:DataW Value}{f:Nm->Option α}
theorem Z0r.empty:Z0r enc (.map []) (fun _=>none):=⟨by simp,fun a _=>rfl,by simp⟩
theorem Z0r.put (h:Z0r enc D f)(hm:Maps.IsMap D){k:Nm}(hk:Um k)(x:α):Z0r enc (D.put (nmL k) (.held (enc x))) (Yv f k x):=by
 refine⟨fun a ha=>?_,fun a ha=>?_,fun a y hy z=>?_⟩
 ·unfold Yv at ha;split at ha
  ·rename_i e;rw[e];exact hk
  ·exact h.ok a ha
 ·unfold Yv;split
  ·rename_i e;rw[e,Maps.has_put_same hm (Z1u _)];rfl
  ·rename_i e;rw[Maps.has_put_other (fun he=>e (z7 ha hk he))];exact h.has a ha
 ·unfold Yv at hy;split at hy
  ·rename_i e;cases hy;rw[e,Maps.atKey_put_same hm (Z1u _)]
  ·rename_i e;rw[Maps.atKey_put_other (fun he=>e (z7 (h.ok a (by rw[hy];rfl)) hk he))];exact h.val a y hy z
theorem Z0r.del (h:Z0r enc D f){k:Nm}(hk:Um k):Z0r enc (D.del (nmL k)) (Z6d f k):=by
 refine⟨fun a ha=>?_,fun a ha=>?_,fun a y hy z=>?_⟩
 ·unfold Z6d at ha;split at ha
  ·cases ha
  ·exact h.ok a ha
 ·unfold Z6d;split
  ·rename_i e;rw[e,Maps.has_del_same];rfl
  ·rename_i e;rw[Maps.has_del_other (fun he=>e (z7 ha hk he))];exact h.has a ha
 ·unfold Z6d at hy;split at hy
  ·cases hy
  ·rename_i e;rw[Maps.atKey_del_other (fun he=>e (z7 (h.ok a (by rw[hy];rfl)) hk he))];exact h.val a y hy z
variable {w:World}{b n:Nat}
theorem Y4.made (w:World):Y4 enc (w.alloc (.map #[] 0)) w.heap.size 0 (fun _=>none):=⟨_,World.ownsMap_made w _ _ _,Z0r.empty⟩
theorem Y4.lt (h:Y4 enc w b n f):b < w.heap.size:=by obtain⟨D,h1,_⟩:=h;exact h1.lt
theorem Y4.kept {w':World}{row:Option Nat}(h:Y4 enc w b n f)(hg:w.grownBy w' row)(hne:some b≠row):Y4 enc w' b n f:=by
 obtain⟨D,h1,h2⟩:=h;exact⟨D,h1.kept hg hne,h2⟩
theorem Y4.of_block {w':World}(h:Y4 enc w b n f)(hb:w'.heap[b]? = w.heap[b]?):Y4 enc w' b n f:=by
 obtain⟨D,⟨es,clock,h1,h2⟩,h3⟩:=h;exact⟨D,⟨es,clock,hb.trans h1,h2⟩,h3⟩
theorem Y4.below {w':World}(h:Y4 enc w b n f)(hb:Below w.heap.size w w'):Y4 enc w' b n f:=h.of_block (hb.block b h.lt)
theorem Y4.mono {m:Nat}(h:Y4 enc w b n f)(hn:n<=m):Y4 enc w b m f:=by obtain⟨D,h1,h2⟩:=h;exact⟨D,h1.mono hn,h2⟩
end
def Ya {α:Type}(enc:α->Value)(w:World)(b r n:Nat)(f:Nm->Option α)(ks:List Nm)(cnt:Nat):Prop:=
 ∃D left,w.ranges zq 45 JV b r n D left cnt/\Z0r enc D f/\(∀a,Um a->left (nmL a)=((f a).isSome && !decide (a∈ks)))/\ks.Nodup/\cnt+ks.length<=n
section
variable {α:Type}{enc:α->Value}{f:Nm->Option α}{w:World}{b r n cnt:Nat}{ks:List Nm}
theorem Ya.map (h:Ya enc w b r n f ks cnt):Y4 enc w b n f:=by obtain⟨D,left,h1,h2,_⟩:=h;exact⟨D,h1.owns,h2⟩
theorem Ya.left_eq (h:Ya enc w b r n f ks cnt):w.rangeLeft b r=cnt:=by obtain⟨D,left,h1,_⟩:=h;exact h1.left_eq
theorem Ya.lt (h:Ya enc w b r n f ks cnt):r < w.heap.size:=by obtain⟨D,left,h1,_⟩:=h;exact h1.lt
theorem Ya.nodup (h:Ya enc w b r n f ks cnt):ks.Nodup:=by obtain⟨D,left,_,_,_,h1,_⟩:=h;exact h1
theorem Ya.count (h:Ya enc w b r n f ks cnt):cnt+ks.length<=n:=by obtain⟨D,left,_,_,_,_,h1⟩:=h;exact h1
theorem Ya.of_blocks {w':World}(h:Ya enc w b r n f ks cnt)(hb:w'.heap[b]? = w.heap[b]?)(hr:w'.heap[r]? = w.heap[r]?):Ya enc w' b r n f ks cnt:=by
 obtain⟨D,left,⟨es,clock,since,seen,c0,h1,h2,h3,h4,h5,h6⟩,h7⟩:=h;exact⟨D,left,⟨es,clock,since,seen,c0,hb.trans h1,h2,h3,h4,hr.trans h5,h6⟩,h7⟩
theorem Ya.below {w':World}(h:Ya enc w b r n f ks cnt)(hb:Below w.heap.size w w'):Ya enc w' b r n f ks cnt:=h.of_blocks (hb.block b h.map.lt) (hb.block r h.lt)
end
section
variable {α:Type}{enc:α->Value}{f:Nm->Option α}{P:Program}(w:World){ops:Array Oper}{rest:List Oper}{o:Oper}{a:Act}{Q:Exit->Act->World->Prop}
theorem J7 (hg:o.guard=none)(m:Operand)(t e:TypeId)(hop:o.op=Op.range t m)(ht:zq.underlying t=some (.map 45 e))(b n:Nat)(hm:a.eval m = .map (some b))(hmap:Y4 enc w b n f)
  (hK : ∀w' cnt,Ya enc w' b w.heap.size n f [] cnt->w.grownBy w' none->w'.heap.size=w.heap.size+1->wpList zq ops Q rest (a.put o.dst (.pointer (some ⟨w.heap.size,0,none⟩))) w'):wpList zq ops Q (o :: rest) a w:=by
 obtain⟨D,h1,h2⟩:=hmap;exact wpList_range_own w hg m t hop 45 e Ju ht JV b n D hm h1 (fun w' h3 h4 h5=>hK w' _ ⟨D,_,h3,h2,fun k hk=>by rw[h2.has k hk];simp,List.nodup_nil,by have:=h1.size_le;simpa using this⟩ h4 h5)
structure Z7O {α:Type}(enc:α->Value)(w:World)(b r n cnt:Nat)(f:Nm->Option α)(ks:List Nm)(kh km:Int)(y:α)(w':World)(cnt':Nat):Prop where
 at_:f (kh,km)=some y
 new:(kh,km) ∉ ks
 ok:Um (kh,km)
 range:Ya enc w' b r n f (ks ++ [(kh,km)]) cnt'
 lt:cnt' < cnt
 grown:w.grownBy w' (some r)
 size:w'.heap.size=w.heap.size
def Jd {α:Type}(f:Nm->Option α)(ks:List Nm):Prop := ∀k,(f k).isSome=true->k∈ks
theorem Jo (hg:o.guard=none)(it:Operand)(hop:o.op=Op.next it false)(b r n cnt:Nat)(ks:List Nm)(hit:a.eval it = .pointer (some ⟨r,0,none⟩))(h:Ya enc w b r n f ks cnt)
  (hDone:Jd f ks->wpList zq ops Q rest (a.put o.dst (.tuple #[.bool false])) w)
  (hMore : ∀kh km y w' cnt',Hid (Z7O enc w b r n cnt f ks kh km y w' cnt')->
   (Instr.entry (.pointer (some ⟨r,0,none⟩))).run zq w' = .ok (.tuple #[.agg #[.int .i64 kh,.int .i64 km],enc y]) w'->wpList zq ops Q rest (a.put o.dst (.tuple #[.bool true,.agg #[.int .i64 kh,.int .i64 km],enc y])) w'):wpList zq ops Q (o :: rest) a w:=by
 obtain⟨D,left,h1,h2,h3,h4,hcn⟩:=h;refine wpList_next_ranges (α:=Nm) (β:=Value) w hg it hop 45 Ju JV nmV id (fun key kl hk=>by obtain⟨a,rfl,_⟩:=Z0w hk;exact⟨a,rfl⟩) (fun v _ _=>⟨v,rfl⟩) b r n D left cnt hit h1 (fun _ hl=>hDone (fun k hk=>?_)) (fun k c kl y w' cnt' hkey hlk hv hat hrg hlt hgr hsz hen => ?_)
 ·have:=hl (nmL k);rw[h3 k (h2.ok k hk),hk]at this;simpa using this
 ·obtain⟨k',e1,hk',rfl⟩:=Z0w hkey;cases Z5Y e1;rw[h3 k hk']at hlk;simp only[Bool.and_eq_true,Bool.not_eq_true',decide_eq_false_iff_not]at hlk;obtain⟨x,hx⟩:=Option.isSome_iff_exists.1 hlk.1;have hy:=hat (.lit (.bool true));rw[h2.val k x hx]at hy;simp only[JV,Option.some.injEq]at hv;rw[<-hv]at hy;simp only[DataW.held.injEq,id_eq]at hy;subst hy;refine hMore k.1 k.2 x w' cnt' (zH ⟨hx,hlk.2,hk',⟨D,_,hrg,h2,fun a ha=>?_,?_,by rw[List.length_append,List.length_singleton];omega⟩,hlt,hgr,hsz⟩) hen
  ·rw[h3 a ha];by_cases e:a=k
   ·subst e;have:(nmL a).sameKey (nmL a)=true:=WideAt.sameKey_self (Z1u _);simp[this]
   ·have:(nmL a).sameKey (nmL k)=false:=Maps.sameKey_ne (fun he=>e (z7 ha hk' he));simp[this,e]
  ·exact List.nodup_append.2 ⟨h4,by simp,fun a ha b hb e=>hlk.2 (by rw[List.mem_singleton]at hb;rw[<-show b=k from hb,<-e];exact ha)⟩
theorem Z4E (hg:o.guard=none)(m x:Operand)(t e:TypeId)(hop:o.op=Op.call { callee:=Callee.builtin Builtin.delete,args := #[m,x],argTypes := #[t,45] })(ht:zq.underlying t=some (.map 45 e))(b r n cnt:Nat)(ks:List Nm)(k:Nm)
  (hm:a.eval m = .map (some b)) (h:Ya enc w b r n f ks cnt) (hx:a.eval x=nmV k) (hk:Um k) (hin:k∈ks)
  (hK : ∀w' cnt',Ya enc w' b r n (Z6d f k) ks cnt'->cnt'<=cnt->w.mapTurned w' b->wpList zq ops Q rest (a.put o.dst (.tuple #[])) w'):wpList zq ops Q (o :: rest) a w:=by
 obtain⟨D,left,h1,h2,h3,h4,hcn⟩:=h;refine wpList_delete_ranges w hg m x t 45 hop e Ju ht JV b r n D left cnt hm h1 (nmV k) (nmL k) hx (VQ k hk) (fun w' cnt' h5 h6 h7=>hK w' cnt' ⟨_,_,h5,h2.del hk,fun a ha=>?_,h4,by omega⟩ h6 h7);rw[h3 a ha];by_cases e:a=k
 ·subst e;have:(nmL a).sameKey (nmL a)=true:=WideAt.sameKey_self (Z1u _);simp[this,Z6d]
 ·have:(nmL a).sameKey (nmL k)=false:=Maps.sameKey_ne (fun he=>e (z7 ha hk he));simp[this,Z6d,e]
end
section
variable {α:Type}{enc:α->Value}{f:Nm->Option α}{w:World}{b n:Nat}{t e:TypeId}
theorem Qx (hmap:Y4 enc w b n f)(hn:n < maxLen)(ht:zq.underlying t=some (.map 45 e))(h m:Int)(hk:Um (h,m))(y:α):
  ∃w',(Instr.mapUpdate t (.map (some b)) (.agg #[.int .i64 h,.int .i64 m]) (enc y)).run zq w = .ok () w'/\Y4 enc w' b (n+1) (Yv f (h,m) y)/\w.mapTurned w' b:=by
 obtain⟨D,h1,h2⟩:=hmap;obtain⟨w',h3,h4,h5⟩:=h1.store Ju ht hn (VQ (h,m) hk) (val:=enc y) (d := .held (enc y)) (ps:=[]) rfl;exact⟨w',h3,⟨_,h4,h2.put h1.isMap hk y⟩,h5⟩
theorem Js (hmap:Y4 enc w b n f)(ht:zq.underlying t=some (.map 45 e)){z:Value}(hz:(zeroValue e).run zq w = .ok z w)(h m:Int)(hk:Um (h,m)):
  (Instr.lookup t (.map (some b)) (.agg #[.int .i64 h,.int .i64 m]) true).run zq w = .ok (.tuple #[((f (h,m)).map enc).getD z,.bool (f (h,m)).isSome]) w:=by
 obtain⟨D,h1,h2⟩:=hmap;obtain⟨v,ps,h3,h4⟩:=h1.look_ok Ju ht hz (zd := .held z) (zp:=[]) rfl (VQ (h,m) hk);rw[h2.has (h,m) hk]at h3;simp only[JV,Option.some.injEq,Prod.mk.injEq]at h4;refine h3.trans ?_;cases hf:f (h,m)with
 | none=>
  rw[Maps.atKey_of_not_has (by rw[h2.has (h,m) hk,hf];rfl)]at h4;have:=h4.1;simp only[DataW.held.injEq]at this;rw[this];rfl
 | some y=>
  rw[h2.val (h,m) y hf]at h4;have:=h4.1;simp only[DataW.held.injEq]at this;rw[this];rfl
end
end Go.Proofs.YtlnhppgfhkkidaaGreat
