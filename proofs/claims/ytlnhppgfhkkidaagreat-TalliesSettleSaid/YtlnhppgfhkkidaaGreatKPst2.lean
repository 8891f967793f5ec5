/- Parts of the proof, in order. -/
import Derived.Deep.RegionHeld3
import Derived.WalkSmall
import Derived.RangeFuncNested
import Derived.RangeFuncBound
import Derived.RangeFuncCalls
import Derived.RangeFuncLeaves
import Derived.WalkKit
import Derived.OwnWalkIn
import Derived.TacticsInMore
import Derived.LoopNIn
import Derived.LoopIn
import Derived.Shelf.RegionOpen
import Derived.Sort.QuietIn
import Derived.WalkLawsBesides
import Derived.Deep.RegionLaw
import Derived.RegionTactic
import Derived.Deep.QuietTactic
import Derived.BigQuiet
import Derived.Deep.RegionWith
import Derived.StillTailTactics
import Derived.BigRegion
import Derived.Test.YtlnhppgfhkkidaaGreatKPst1
set_option linter.unusedSimpArgs false
set_option linter.unusedVariables false
set_option maxHeartbeats 32000000
set_option maxRecDepth 100000
namespace Go.Proofs.YtlnhppgfhkkidaaGreat
open Go.Proofs.Tryz renaming prog → zq
open Go.RowKit
def ZX (f:Yo)(n:Z8):Int:=if f.valid then if Zg f n then 0 else 80 else 1
section
attribute [local go_sem] ZY
variable (f:Yo)(n:Z8)(sa:zA)(sc:Nat)(w:World)
theorem UJ (hs:Xs w sa n.strokes.length sc n.strokes):
  Calls zq 56 #[f.val,.agg (Z5 n sa sc)] w fun e w'=>e = .returned (.int .i64 (ZX f n))/\Below w.heap.size w w':=by
 have I43:=zH (show(zq.info? 47).map (·.size)=some (Z5 n sa sc).size by kernel_rfl);have g1:=Zy (w.alloc (zF f 23)) (.cells (Z5 n sa sc) 47) (w.heap.size+1) (by simp);have g2:=Z9 _ (zF f 174) _ _ g1;have b0:Below w.heap.size w (((w.alloc (zF f 23)).alloc (.cells (Z5 n sa sc) 47)).alloc (zF f 174)):=
  ((zB _ _).alloc (by simp) _).alloc (by simp;omega) _
 have g3:=Zy ((w.alloc (zF f 23)).alloc (.cells (Z5 n sa sc) 47)) (zF f 174) (w.heap.size+1+1) (by simp);have G2:=zH g2;clear g1 g2;have G3:=zH g3;clear g3;have B0:=zH b0;clear b0;unfold Yo.val;go_enter Tryz.func56,Tryz.ntmps56;go_wp2_with fail;generalize ((w.alloc (zF f 23)).alloc (.cells (Z5 n sa sc) 47)).alloc (zF f 174)=W0 at *;refine(Z5l f.rings f.sectors f.wide _).mono ?_;rintro e w1 ⟨rfl,b1⟩;have hz:=(Array.getElem?_eq_some_iff.1 G3.out).1;have h1:=(b1.block _ (by omega)).trans G2.out;have h2:=(b1.block _ hz).trans G3.out;have B1:=zH (B0.out.trans (b1.mono B0.out.size));clear b1;cases hv:f.valid
 ·have hR:ZX f n=1:=by unfold ZX;rw[hv];rfl
  have HR:=zH hR;clear hR hv;go_wp2;go_ret;rw[HR.out];exact⟨rfl,B1.out⟩
 ·have c0:w1.cell? ⟨w.heap.size+1+1,0,none⟩=some (.int .i64 f.rings):=by simp[World.cell?,h2]
  have c1:w1.cell? ⟨w.heap.size+1+1,1,none⟩=some (.int .i64 f.sectors):=by simp[World.cell?,h2]
  have c2:w1.cell? ⟨w.heap.size+1+1,2,none⟩=some (.int .i64 f.wide):=by simp[World.cell?,h2]
  have HV:=zH hv;clear hv;have H1:=zH h1;clear h1 h2;go_wp2_with (refine zL (w.heap.size+1) H1.out ?_);refine(Z1z f n sa sc _ HV.out (hs.below B1.out)).mono ?_;rintro e w2 ⟨rfl,b2⟩;have B2:=zH (B1.out.trans (b2.mono B1.out.size));clear b2;cases hf:Zg f n
  focus
   have hR:ZX f n=80:=by unfold ZX;rw[HV.out,hf];rfl
  rotate_left
  focus
   have hR:ZX f n=0:=by unfold ZX;rw[HV.out,hf];rfl
  all_goals
   have HR:=zH hR;clear hR hf;go_wp2;go_ret;rw[HR.out];exact⟨rfl,B2.out⟩
end
theorem Z6 {W:World}{p:Nat}{A:Y6}{t:TypeId}{sp:Nat×Nat}(h:W.heap[p]? = some (.cells A t sp))(j:Nat)(v:Value)(hv:A[j]? = some v):W.cell? ⟨p,j,none⟩=some v:=by
 simp[World.cell?,h,hv]
theorem Z4N (n:Z8)(sa:zA)(sc:Nat): ∀k,k < 15->(Z5 n sa sc)[k]? = some (.int .i64 ((ZA n)[k]?.getD 0))
 | 0,_=>rfl
 | 1,_=>rfl
 | 2,_=>rfl
 | 3,_=>rfl
 | 4,_=>rfl
 | 5,_=>rfl
 | 6,_=>rfl
 | 7,_=>rfl
 | 8,_=>rfl
 | 9,_=>rfl
 | 10,_=>rfl
 | 11,_=>rfl
 | 12,_=>rfl
 | 13,_=>rfl
 | 14,_=>rfl
 | k+15,h=>absurd h (by omega)
theorem Z3m (n:Z8)(sa:zA)(sc:Nat): ∀k,k < 3->(Z5 n sa sc)[16+k]? = some (.int .i64 ((Zu n)[k]?.getD 0))
 | 0,_=>rfl
 | 1,_=>rfl
 | 2,_=>rfl
 | k+3,h=>absurd h (by omega)
theorem Z3n (p:Nat): ∀k,k < 15->(Za7 p Z9e).toArray[k]? = some (.pointer (some ⟨p,k,none⟩))
 | 0,_=>rfl
 | 1,_=>rfl
 | 2,_=>rfl
 | 3,_=>rfl
 | 4,_=>rfl
 | 5,_=>rfl
 | 6,_=>rfl
 | 7,_=>rfl
 | 8,_=>rfl
 | 9,_=>rfl
 | 10,_=>rfl
 | 11,_=>rfl
 | 12,_=>rfl
 | 13,_=>rfl
 | 14,_=>rfl
 | k+15,h=>absurd h (by omega)
theorem Z2a (p:Nat): ∀k,k < 3->(Za7 p Z6N).toArray[k]? = some (.pointer (some ⟨p,16+k,none⟩))
 | 0,_=>rfl
 | 1,_=>rfl
 | 2,_=>rfl
 | k+3,h=>absurd h (by omega)
theorem VW {z:Int}(h:Yk z):J6 z:=by
 unfold Yk far at h;unfold J6;omega
theorem Z2w (w:World)(z:Int):Xs (w.alloc (.cells #[.int .i64 z] 3)) (some ⟨w.heap.size,0,none⟩) 1 1 [z]:=
 Y3.of_own (World.ownsRow_lit (base:=w.heap.size) (e:=3) (size:=1) w #[.int .i64 z] 1 (Nat.le_refl _) (by unfold maxLen;omega) rfl)
theorem Z2x (base:Nat)(w:World)(z:Int):Uf base (w.alloc (.cells #[.int .i64 z] 3)) (some ⟨w.heap.size,0,none⟩):=by
 intro b off e _;cases e;exact Vt (Za w _) (by decide)
theorem Z4B (n:Z8)(h:Uc n):(Y5 n).length<=190+10 * n.strokes.length:=by
 obtain⟨h1,h2,h3,h4⟩:=h;have g1:=Qd (ZA n) (fun z hz=>VW (h1 z hz));have g2:=Qd n.strokes (fun z hz=>VW (h2 z hz));have g3:=Qd (Zu n) (fun z hz=>VW (h3 z hz));have g4:=Z26 (VW h4);have e1:(ZA n).length=15:=rfl;have e3:(Zu n).length=3:=rfl;unfold Y5;simp only[List.length_append];omega
section
variable (n:Z8)(sa:zA)(sc:Nat)(w:World)
theorem Vm (hs:Xs w sa n.strokes.length sc n.strokes)(hsm:Uc n)(hlen:n.strokes.length<=1000000):
  Calls zq 117 #[.agg (Z5 n sa sc)] w fun e w' => ∃a' c',e = .returned (.slice a' (Y5 n).length c') /\
   w'.ownsRow w.heap.size 5 1 (.slice a' (Y5 n).length c') (Y5 n).length ((Y5 n).map Zr)/\Below w.heap.size w w':=by
 obtain⟨xs,hxs⟩ : ∃xs:zU,Hid (xs=[]):=⟨_,zH rfl⟩;have hN:=Z4B n hsm;have hT:Y5 n=xs ++ Zt (ZA n) ++ Zt [(n.strokes.length:Int)] ++ Zt n.strokes ++ Zt (Zu n):=by
  rw[hxs.out,JJ];unfold Y5;simp only[List.nil_append,List.append_assoc]
 rw[hT]at hN;have HLP:Hid ((xs ++ Zt (ZA n)).length<=140737488355328):=zH (by simp only[List.length_append]at hN ⊢;omega);have HL1:Hid ((xs ++ Zt (ZA n) ++ Zt [(n.strokes.length:Int)]).length<=140737488355328):=zH (by simp only[List.length_append]at hN ⊢;omega);have HL2:Hid ((xs ++ Zt (ZA n) ++ Zt [(n.strokes.length:Int)] ++ Zt n.strokes).length<=140737488355328):=zH (by simp only[List.length_append]at hN ⊢;omega);have HL3:Hid ((xs ++ Zt (ZA n) ++ Zt [(n.strokes.length:Int)] ++ Zt n.strokes ++ Zt (Zu n)).length<=140737488355328):=zH (by omega);clear hN hT;have hlast:=Za w (.cells (Z5 n sa sc) 47);have bb:Below w.heap.size w (w.alloc (.cells (Z5 n sa sc) 47)):=zB _ _;have hlt:w.heap.size < (w.alloc (.cells (Z5 n sa sc) 47)).heap.size:=by simp
 have AP:=zH (show ∀W:World,0 < n.strokes.length->Uf w.heap.size W sa from fun W h0=>Uf.old fun b off e=>by
  obtain⟨b',off',e',hc⟩:=Y3.at hs h0;rw[e]at e';cases e';exact World.block_lt_of_cell? w _ (hc 0 _ (List.getElem?_eq_getElem (by have:=hs.1;omega))))
 have H0:=zH (And.intro hlast (And.intro bb hlt));clear hlast bb hlt;go_enter Tryz.func117,Tryz.ntmps117;go_wp2_with fail;generalize w.alloc (.cells (Z5 n sa sc) 47)=w0 at *;refine(Z4z w.heap.size w0).mono ?_;rintro e wf ⟨rfl,g1,g2,b1⟩;obtain⟨base,hbase⟩:=zX (w.heap.size);obtain⟨P,hP⟩:=zX (w0.heap.size);obtain⟨Q,hQ⟩:=zX (w0.heap.size+1);rw[hbase.out,hP.out]at g1;rw[hbase.out,hQ.out]at g2;have AW:Hid (X9 base w wf):=zH ⟨(b1.mono (Nat.le_of_lt H0.out.2.2)).os.trans H0.out.2.1.os,(b1.mono (Nat.le_of_lt H0.out.2.2)).tape.trans H0.out.2.1.tape,(b1.mono (Nat.le_of_lt H0.out.2.2)).output.trans H0.out.2.1.output,Nat.le_trans H0.out.2.1.size b1.size,fun k hk _=>(b1.block k (Nat.lt_trans hk H0.out.2.2)).trans (H0.out.2.1.block k hk)⟩;have hn1:=(b1.block _ H0.out.2.2).trans H0.out.1;rw[hbase.out]at hn1;have LN:=zH (And.intro (show base < wf.heap.size from(Array.getElem?_eq_some_iff.1 hn1).1) (And.intro (show ¬U8 base wf base from Vt hn1 (by decide)) hn1));have LP:=zH (And.intro (show P < wf.heap.size from(Array.getElem?_eq_some_iff.1 g1).1) (And.intro (show ¬U8 base wf P from Vt g1 (by decide)) g1));have LQ:=zH (And.intro (show Q < wf.heap.size from(Array.getElem?_eq_some_iff.1 g2).1) (And.intro (show ¬U8 base wf Q from Vt g2 (by decide)) g2));have HB:Hid (base<=wf.heap.size):=zH (Nat.le_of_lt LN.out.1);have hbw:Hid (base<=w.heap.size):=zH (by rw[hbase.out];exact Nat.le_refl _);rw[hbase.out]at AP;rw[hQ.out,hP.out,hbase.out];clear g1 g2 hn1 b1 H0;go_wp2_with fail;go_loopw [5,7,16] (fun b _ i wr=>∃(k m:Nat) (a':zA) (c':Nat),b = .slice a' m c'/\k<=15/\i = .int .i64 k/\Hid (wr.ownsRow base 5 1 (.slice a' m c') m ((xs ++ Zt ((ZA n).take k)).map Zr))/\Hid (X9 base wf wr)) (fun _ _ i _=>15 - (intOf i).toNat)
 case atStart=>exact⟨0,0,none,0,rfl,Nat.zero_le _,rfl,zH (by rw[hxs.out];exact World.ownsRow_nil _ _ _ _),zH (X9.refl _ _)⟩
 case round=>
  obtain⟨k,m,a',c',rfl,hk,rfl,HW,HA⟩:=hrel;by_cases hlt:k < 15
  ·have e1:wr.cell? ⟨P,k,none⟩=some (.pointer (some ⟨base,k,none⟩)):=Z6 ((HA.out.block _ LP.out.1 LP.out.2.1).trans LP.out.2.2) _ _ (Z3n base k hlt);have e2:wr.cell? ⟨base,k,none⟩=some (.int .i64 ((ZA n)[k]?.getD 0)):=Z6 ((HA.out.block _ LN.out.1 LN.out.2.1).trans LN.out.2.2) _ _ (Z4N n sa sc k hlt);have hzk:J6 ((ZA n)[k]?.getD 0):=VW (hsm.1 _ (by rw[List.getElem?_eq_getElem (show k < (ZA n).length from hlt),Option.getD_some];exact List.getElem_mem _));have HT:=zH (QT (l:=ZA n) (k:=k) hlt);have hz63:(k:Int)<=9223372036854775807:=by omega
   have hln:((xs ++ Zt ((ZA n).take k)) ++ Zt [(ZA n)[k]?.getD 0]).length<=140737488355328:=by
    have h1:=HLP.out;have h2:=Z0b (ZA n) (k+1);rw[JJ,List.append_assoc,<-HT.out];simp only[List.length_append]at h1 ⊢;omega
   have HLN:=zH hln;clear hln;have HZK:=zH hzk;clear hzk;have HSB:=zH (Nat.le_trans HB.out HA.out.size);generalize (ZA n)[k]?.getD 0=z at *;go_wp2_with fail;refine(VY base _ _ _ (xs ++ Zt ((ZA n).take k)) _ 1 1 [z] _ ?_ (Zd HW.out (zB _ _)) (Z2w wr z) (fun _=>Z2x base wr z) (by simpa using HZK.out) HLN.out).mono ?_
   ·simp;exact Nat.le_succ_of_le HSB.out
   rintro e w3 ⟨a3,c3,rfl,h1,h2⟩;have HE:Hid (xs ++ Zt ((ZA n).take k) ++ Zt [z]=xs ++ Zt ((ZA n).take (k+1))):=zH (by rw[JJ,List.append_assoc,<-HT.out]);rw[HE.out]at h1;rw[HE.out];obtain⟨m3,HM3⟩ : ∃m3,Hid (m3=(xs ++ Zt ((ZA n).take (k+1))).length):=⟨_,zH rfl⟩;rw[<-HM3.out]at h1 ⊢;have H1:=zH h1;clear h1;have H2:=zH (HA.out.trans ((X9.of_below (zB _ _)).trans h2));clear h2;go_wp2;go_roundw
   case rel=>exact⟨k+1,_,a3,c3,rfl,by omega,by go_num,H1,H2⟩
   case measure=>simp[intOf];omega
  ·have hkn:k=15:=by omega
   subst hkn;have HX:Hid ((ZA n).take 15=ZA n):=zH rfl;rw[HX.out]at HW;have hm:m=(xs ++ Zt (ZA n)).length:=by
    have:=HW.out.1;simpa using this.symm
   have e15:wr.cell? ⟨base,15,none⟩=some (.slice sa n.strokes.length sc):=Z6 ((HA.out.block _ LN.out.1 LN.out.2.1).trans LN.out.2.2) _ _ rfl;have HSB:=zH (Nat.le_trans HB.out HA.out.size);have HM:=zH hm;clear hm;go_wp2_with fail;refine(VY base _ _ _ (xs ++ Zt (ZA n)) _ 1 1 [(n.strokes.length:Int)] _ ?_ (Zd HW.out (zB _ _)) (Z2w wr _) (fun _=>Z2x base wr _) (by simpa using VW hsm.2.2.2) HL1.out).mono ?_
   ·simp;exact Nat.le_succ_of_le HSB.out
   rintro e w2 ⟨a2,c2,rfl,h1,h2⟩;obtain⟨m2,HM2⟩ : ∃m2,Hid (m2=(xs ++ Zt (ZA n) ++ Zt [(n.strokes.length:Int)]).length):=⟨_,zH rfl⟩;rw[<-HM2.out]at h1 ⊢;have H2:=zH h1;clear h1;have A2:=zH (HA.out.trans ((X9.of_below (zB _ _)).trans h2));clear h2 e15;have e15:w2.cell? ⟨base,15,none⟩=some (.slice sa n.strokes.length sc):=Z6 ((A2.out.block _ LN.out.1 LN.out.2.1).trans LN.out.2.2) _ _ rfl;go_wp2_with fail;refine(VY base _ _ _ (xs ++ Zt (ZA n) ++ Zt [(n.strokes.length:Int)]) _ _ _ n.strokes _ (Nat.le_trans HB.out A2.out.size) H2.out (hs.below (by rw[hbase.out];exact(AW.out.below hbw.out).trans (A2.out.below HB.out))) (fun h0=>AP.out _ h0) (fun z hz=>VW (hsm.2.1 z hz)) HL2.out).mono ?_;rintro e w3 ⟨a3,c3,rfl,h1,h2⟩;have H3:=zH h1;clear h1;have A3:=zH (A2.out.trans h2);clear h2 e15;obtain⟨X,HXX⟩ : ∃X,Hid (X=xs ++ Zt (ZA n) ++ Zt [(n.strokes.length:Int)] ++ Zt n.strokes):=⟨_,zH rfl⟩;rw[<-HXX.out]at H3 ⊢;obtain⟨m3,HM3⟩ : ∃m3,Hid (m3=X.length):=⟨_,zH rfl⟩;rw[<-HM3.out]at H3 ⊢;have HLQ:Hid ((X ++ Zt (Zu n)).length<=140737488355328):=zH (by rw[HXX.out];exact HL3.out);go_wp2_with fail;go_loopw [5,9,39] (fun b _ i wr=>∃(k m:Nat) (a':zA) (c':Nat),b = .slice a' m c'/\k<=3/\i = .int .i64 k/\Hid (wr.ownsRow base 5 1 (.slice a' m c') m ((X ++ Zt ((Zu n).take k)).map Zr))/\Hid (X9 base wf wr)) (fun _ _ i _=>3 - (intOf i).toNat)
   case atStart=>exact⟨0,_,a3,c3,rfl,Nat.zero_le _,rfl,zH (by simpa [Zt] using H3.out),A3⟩
   case round=>
    obtain⟨k,m,a',c',rfl,hk,rfl,HW,HA⟩:=hrel;by_cases hlt:k < 3
    ·have e1:wr.cell? ⟨Q,k,none⟩=some (.pointer (some ⟨base,16+k,none⟩)):=Z6 ((HA.out.block _ LQ.out.1 LQ.out.2.1).trans LQ.out.2.2) _ _ (Z2a base k hlt);have e2:wr.cell? ⟨base,16+k,none⟩=some (.int .i64 ((Zu n)[k]?.getD 0)):=Z6 ((HA.out.block _ LN.out.1 LN.out.2.1).trans LN.out.2.2) _ _ (Z3m n sa sc k hlt);have hzk:J6 ((Zu n)[k]?.getD 0):=VW (hsm.2.2.1 _ (by rw[List.getElem?_eq_getElem (show k < (Zu n).length from hlt),Option.getD_some];exact List.getElem_mem _));have HT:=zH (QT (l:=Zu n) (k:=k) hlt);have hz63:(k:Int)<=9223372036854775807:=by omega
     have hln:((X ++ Zt ((Zu n).take k)) ++ Zt [(Zu n)[k]?.getD 0]).length<=140737488355328:=by
      have h1:=HLQ.out;have h2:=Z0b (Zu n) (k+1);rw[JJ,List.append_assoc,<-HT.out];simp only[List.length_append]at h1 ⊢;omega
     have HLN:=zH hln;clear hln;have HZK:=zH hzk;clear hzk;have HSB:=zH (Nat.le_trans HB.out HA.out.size);generalize (Zu n)[k]?.getD 0=z at *;go_wp2_with fail;refine(VY base _ _ _ (X ++ Zt ((Zu n).take k)) _ 1 1 [z] _ ?_ (Zd HW.out (zB _ _)) (Z2w wr z) (fun _=>Z2x base wr z) (by simpa using HZK.out) HLN.out).mono ?_
     ·simp;exact Nat.le_succ_of_le HSB.out
     rintro e w3 ⟨a3,c3,rfl,h1,h2⟩;have HE:Hid (X ++ Zt ((Zu n).take k) ++ Zt [z]=X ++ Zt ((Zu n).take (k+1))):=zH (by rw[JJ,List.append_assoc,<-HT.out]);rw[HE.out]at h1;rw[HE.out];obtain⟨m3,HM3⟩ : ∃m3,Hid (m3=(X ++ Zt ((Zu n).take (k+1))).length):=⟨_,zH rfl⟩;rw[<-HM3.out]at h1 ⊢;have H1:=zH h1;clear h1;have H2:=zH (HA.out.trans ((X9.of_below (zB _ _)).trans h2));clear h2;go_wp2;go_roundw
     case rel=>exact⟨k+1,_,a3,c3,rfl,by omega,by go_num,H1,H2⟩
     case measure=>simp[intOf];omega
    ·have hkn:k=3:=by omega
     subst hkn;have HX:Hid ((Zu n).take 3=Zu n):=zH rfl;rw[HX.out]at HW;have hm:m=(X ++ Zt (Zu n)).length:=by
      have:=HW.out.1;simpa using this.symm
     have hX:X ++ Zt (Zu n)=Y5 n:=by
      rw[HXX.out,hxs.out,JJ];unfold Y5;simp only[List.nil_append,List.append_assoc]
     rw[hX]at hm HW;subst hm;go_wp2;go_ret;exact⟨_,_,rfl,by rw[hbase.out];exact HW.out,by rw[hbase.out];exact(AW.out.below hbw.out).trans (HA.out.below HB.out)⟩
end
theorem Zbv {z:Int}(h:J6 z)(hn:z < 0):IntKind.u64.wrap (IntKind.u64.wrap (2 * IntKind.u64.wrap (wrap64 (-wrap64 (z+1))))+1)=(zig z:Int):=by
 unfold J6 at h;rw[show wrap64 (z+1)=z+1 by unfold wrap64;omega,show wrap64 (-(z+1)) = -(z+1)by unfold wrap64;omega];simp only[IntKind.wrap_u64];unfold zig;rw[if_neg (by omega)];omega
theorem Us (z:Int)(hz:J6 z)(w:World):
  Calls zq 98 #[.int .i64 z] w fun e w' => ∃a' c',e = .returned (.slice a' (Yh z).length c') /\
   w'.ownsRow w.heap.size 5 1 (.slice a' (Yh z).length c') (Yh z).length ((Yh z).map Zr)/\Below w.heap.size w w':=by
 have HZ:=zH hz;obtain⟨base,hbase⟩:=zX (w.heap.size);rw[hbase.out];have hsg:IntKind.u64.signed=false:=rfl;have hL:=Z26 hz;by_cases hneg:z < 0
 ·have hu:Hid (IntKind.u64.wrap (IntKind.u64.wrap (2 * IntKind.u64.wrap (wrap64 (-wrap64 (z+1))))+1)=(zig z:Int)):=zH (Zbv hz hneg);go_enter Tryz.func98,Tryz.ntmps98;go_wp2_with fail;go_loopw [3,4] (fun u b wi=>∃(v m2:Nat) (ys:zU) (a2:zA) (c2:Nat),u = .int .u64 v/\b = .slice a2 m2 c2/\v < 18446744073709551616/\Hid (ys ++ Z0a v=Yh z)/\Hid (wi.ownsRow base 5 1 (.slice a2 m2 c2) m2 (ys.map Zr))/\Hid (X9 base w wi)) (fun u _ _=>(intOf u).toNat)
  case atStart=>exact⟨zig z,0,[],none,0,congrArg (Value.int .u64) hu.out,rfl,Z3K HZ.out,zH rfl,zH (World.ownsRow_nil _ _ _ _),zH (X9.refl _ _)⟩
  case round=>
   obtain⟨v,m2,ys,a2,c2,rfl,rfl,hv,HY,HW2,HA2⟩:=hrel;have hm2:m2=ys.length:=by have:=HW2.out.1;simpa using this.symm
   have hle:m2+(Z0a v).length<=10:=by
    have h1:=congrArg List.length HY.out;simp only[List.length_append]at h1;omega
   have hps:=Z0J v;subst hm2;obtain⟨cb,hcb⟩ : ∃cb,Hid (cb=UInt8.ofNat (v % 128+128)):=⟨_,zH rfl⟩;obtain⟨cd,hcd⟩ : ∃cd,Hid (cd=UInt8.ofNat v):=⟨_,zH rfl⟩;have hb2:base<=wr.heap.size:=by rw[<-hbase.out];exact HA2.out.size
   by_cases hge:(128:Int)<=v
   ·have hq:IntKind.u64.wrap ((v:Int) / 128)=((v / 128:Nat):Int):=by rw[IntKind.wrap_u64];omega
    go_wp2_with (at_builtin;refine Z16 _ rfl _ _ rfl base _ _ _ ys rfl HW2.out cb _ (by rw[hcb.out,JW (by omega)];first | omega | rfl) rfl (by omega) hb2 ?_);intro a3 c3 w3 h1 h2;have H1:=zH h1;clear h1;go_wp2;go_roundw
    case rel=>exact⟨v / 128,ys.length+1,ys ++ [cb],a3,c3,by go_num,rfl,by omega,zH (by rw[List.append_assoc,List.singleton_append,hcb.out,<-Z11 (by omega)];exact HY.out),zH (by rw[List.map_append];exact H1.out),zH (HA2.out.trans h2)⟩
    case measure=>simp[intOf];omega
   ·go_wp2_with (at_builtin;refine Z16 _ rfl _ _ rfl base _ _ _ ys rfl HW2.out cd (v:Int) (by rw[hcd.out,JW (by omega)]) rfl (by omega) hb2 ?_);intro a3 c3 w3 h1 h2;have H1:=zH h1;clear h1;have HE:ys ++ [cd]=Yh z:=by rw[hcd.out,<-Z10 (by omega)];exact HY.out
    have hl:ys.length+1=(Yh z).length:=by rw[<-HE];simp
    have hm:(Yh z).map Zr=ys.map Zr ++ [Zr cd]:=by rw[<-HE,List.map_append];rfl
    rw[<-hm,hl]at H1;have HH:=zH HE;clear HE;rw[hl];go_wp2;go_ret;exact⟨_,_,rfl,H1.out,(HA2.out.trans h2).below (by rw[<-hbase.out];exact Nat.le_refl _)⟩
 ·have hu:Hid (IntKind.u64.wrap (2 * IntKind.u64.wrap z)=(zig z:Int)):=zH (Z62 hz (by omega));go_enter Tryz.func98,Tryz.ntmps98;go_wp2_with fail;go_loopw [3,4] (fun u b wi=>∃(v m2:Nat) (ys:zU) (a2:zA) (c2:Nat),u = .int .u64 v/\b = .slice a2 m2 c2/\v < 18446744073709551616/\Hid (ys ++ Z0a v=Yh z)/\Hid (wi.ownsRow base 5 1 (.slice a2 m2 c2) m2 (ys.map Zr))/\Hid (X9 base w wi)) (fun u _ _=>(intOf u).toNat)
  case atStart=>exact⟨zig z,0,[],none,0,congrArg (Value.int .u64) hu.out,rfl,Z3K HZ.out,zH rfl,zH (World.ownsRow_nil _ _ _ _),zH (X9.refl _ _)⟩
  case round=>
   obtain⟨v,m2,ys,a2,c2,rfl,rfl,hv,HY,HW2,HA2⟩:=hrel;have hm2:m2=ys.length:=by have:=HW2.out.1;simpa using this.symm
   have hle:m2+(Z0a v).length<=10:=by
    have h1:=congrArg List.length HY.out;simp only[List.length_append]at h1;omega
   have hps:=Z0J v;subst hm2;obtain⟨cb,hcb⟩ : ∃cb,Hid (cb=UInt8.ofNat (v % 128+128)):=⟨_,zH rfl⟩;obtain⟨cd,hcd⟩ : ∃cd,Hid (cd=UInt8.ofNat v):=⟨_,zH rfl⟩;have hb2:base<=wr.heap.size:=by rw[<-hbase.out];exact HA2.out.size
   by_cases hge:(128:Int)<=v
   ·have hq:IntKind.u64.wrap ((v:Int) / 128)=((v / 128:Nat):Int):=by rw[IntKind.wrap_u64];omega
    go_wp2_with (at_builtin;refine Z16 _ rfl _ _ rfl base _ _ _ ys rfl HW2.out cb _ (by rw[hcb.out,JW (by omega)];first | omega | rfl) rfl (by omega) hb2 ?_);intro a3 c3 w3 h1 h2;have H1:=zH h1;clear h1;go_wp2;go_roundw
    case rel=>exact⟨v / 128,ys.length+1,ys ++ [cb],a3,c3,by go_num,rfl,by omega,zH (by rw[List.append_assoc,List.singleton_append,hcb.out,<-Z11 (by omega)];exact HY.out),zH (by rw[List.map_append];exact H1.out),zH (HA2.out.trans h2)⟩
    case measure=>simp[intOf];omega
   ·go_wp2_with (at_builtin;refine Z16 _ rfl _ _ rfl base _ _ _ ys rfl HW2.out cd (v:Int) (by rw[hcd.out,JW (by omega)]) rfl (by omega) hb2 ?_);intro a3 c3 w3 h1 h2;have H1:=zH h1;clear h1;have HE:ys ++ [cd]=Yh z:=by rw[hcd.out,<-Z10 (by omega)];exact HY.out
    have hl:ys.length+1=(Yh z).length:=by rw[<-HE];simp
    have hm:(Yh z).map Zr=ys.map Zr ++ [Zr cd]:=by rw[<-HE,List.map_append];rfl
    rw[<-hm,hl]at H1;have HH:=zH HE;clear HE;rw[hl];go_wp2;go_ret;exact⟨_,_,rfl,H1.out,(HA2.out.trans h2).below (by rw[<-hbase.out];exact Nat.le_refl _)⟩
theorem Zeq {w:World}{k:Nat}{a:zA}{n c:Nat}{xs:List Value}(hr:Y3 w k a n c xs)(h0:0 < n)(hk:0 < k): ∀b off,a=some ⟨b,off,none⟩->b < w.heap.size:=by
 intro b off e;obtain⟨b',off',e',hc⟩:=hr.at h0;rw[e]at e';cases e';have hl:0 < xs.length:=by rw[hr.len];exact Nat.mul_pos h0 hk
 exact World.block_lt_of_cell? w _ (hc 0 _ (List.getElem?_eq_getElem hl))
theorem Z6h (la:zA)(n lc:Nat)(zs:List Int)(w:World)(hr:Xs w la n lc zs)(hz : ∀z∈zs,J6 z)(hn:n<=1000000):
  Calls zq 99 #[.slice la n lc] w fun e w' => ∃a' c',e = .returned (.slice a' (Yh n ++ Zt zs).length c') /\
   w'.ownsRow w.heap.size 5 1 (.slice a' (Yh n ++ Zt zs).length c') (Yh n ++ Zt zs).length ((Yh n ++ Zt zs).map Zr)/\Below w.heap.size w w':=by
 have hl:=zH hr.len;have HZ:=zH hz;clear hz;obtain⟨base,hbase⟩:=zX (w.heap.size);have hlen:(Yh n ++ Zt zs).length<=10000010:=by
  have h1:=Qd zs HZ.out;have h2:=Z26 (z:=(n:Int)) (by unfold J6;omega);have h3:=hl.out;rw[List.length_append];omega
 have HL:=zH hlen;clear hlen;have HR:=zH hr;rw[hbase.out];obtain⟨X,HX⟩ : ∃X,Hid (X=Yh (n:Int)):=⟨_,zH rfl⟩;go_enter Tryz.func99,Tryz.ntmps99;go_wp2_with fail;refine(Us n (by unfold J6;omega) w).mono ?_;rintro e w1 ⟨a1,c1,rfl,h1,b1⟩;rw[hbase.out]at h1 b1;rw[<-HX.out]at h1 HL ⊢;have H1:=zH h1;clear h1;have B1:=zH b1;clear b1;obtain⟨m1,HM1⟩:=zX (X.length);rw[HM1.out]at H1 ⊢;go_wp2_with fail;go_loopw [3,4] (fun b i wr=>∃(k m:Nat) (a':zA) (c':Nat),b = .slice a' m c'/\k<=n/\i = .int .i64 k/\Hid (wr.ownsRow base 5 1 (.slice a' m c') m ((X ++ Zt (zs.take k)).map Zr))/\Hid (Below base w wr)) (fun _ i _=>n - (intOf i).toNat)
 case atStart=>exact⟨0,m1,a1,c1,rfl,Nat.zero_le _,rfl,zH (by simpa [Zt] using H1.out),B1⟩
 case round=>
  obtain⟨k,m,a',c',rfl,hk,rfl,HW,HB⟩:=hrel;by_cases hlt:k < n
  ·obtain⟨b,off,rfl,hc⟩:=Xs.at (hr.below (by rw[hbase.out];exact HB.out)) (by omega);have e1:=hc k hlt;have hk64:(k:Int)<=9223372036854775807:=by omega
   have HZK:=zH (HZ.out (zs[k]?.getD 0) (by rw[List.getElem?_eq_getElem (by rw[hl.out];exact hlt),Option.getD_some];exact List.getElem_mem _));have HT:=zH (QT (l:=zs) (k:=k) (by rw[hl.out];exact hlt));have HLE:=zH (Z0b zs (k+1));have hbs:base<=wr.heap.size:=by rw[<-hbase.out];exact HB.out.size
   generalize zs[k]?.getD 0=z at *;clear hc;go_wp2_with fail;refine(Us z HZK.out wr).mono ?_;rintro e w2 ⟨a2,c2,rfl,h2,b2⟩;have H2:=zH h2;clear h2;have O2:=zH (Zd HW.out b2);have hm:m=(X ++ Zt (zs.take k)).length:=by have:=O2.out.1;simpa using this.symm
   have hb2:base<=w2.heap.size:=Nat.le_trans hbs b2.size;have B2:=zH (HB.out.trans (b2.mono hbs));clear b2;obtain⟨m2,HM2⟩:=zX ((Yh z).length);rw[HM2.out]at H2 ⊢;have hml:m+m2<=140737488355328:=by
    have h1:=HL.out;have h2:=HLE.out;rw[HT.out]at h2;simp only[List.length_append]at h1 h2 hm;have h3:=HM2.out;omega
   clear hm;go_wp2_with (at_builtin;refine Qr _ rfl _ _ rfl base _ _ _ (X ++ Zt (zs.take k)) rfl O2.out _ _ _ (Yh z) rfl (Ye.of_own H2.out) hml hb2 ?_);intro a3 c3 w3 h3 h4;have H3:=zH (show w3.ownsRow base 5 1 (.slice a3 (m+m2) c3) (m+m2) ((X ++ Zt (zs.take (k+1))).map Zr)by rw[HT.out,<-List.append_assoc];simpa using h3);clear h3;have B3:=zH (B2.out.trans ((X9.of_own O2.out h4).below hb2));clear h4;go_wp2;go_roundw
   case rel=>exact⟨k+1,m+m2,a3,c3,by first | rfl | simp,by omega,by go_num,H3,B3⟩
   case measure=>simp[intOf];omega
  ·have hkn:k=n:=by omega
   subst hkn;have hm:m=(X ++ Zt zs).length:=by
    have:=HW.out.1;rw[List.take_of_length_le (by rw[hl.out];exact Nat.le_refl _)]at this;simpa using this.symm
   have HWW:=zH (show wr.ownsRow base 5 1 (.slice a' m c') m ((X ++ Zt zs).map Zr)by
    have:=HW.out;rwa [List.take_of_length_le (by rw[hl.out];exact Nat.le_refl _)]at this)
   have HM:=zH hm;clear hm;go_wp2;go_ret;rw[<-HX.out,<-HM.out];exact⟨_,_,rfl,HWW.out,HB.out⟩
theorem Z0T {w W:World}{A B:Y6}{s t:TypeId}(hb:Below w.heap.size w W):((W.alloc (.cells A s)).alloc (.cells B t)).drew.heap[W.heap.size]? = some (.cells A s (0,0))/\((W.alloc (.cells A s)).alloc (.cells B t)).drew.heap[W.heap.size+1]? = some (.cells B t (0,0))/\Below w.heap.size w ((W.alloc (.cells A s)).alloc (.cells B t)).drew:=by
 refine⟨Z9 _ _ _ _ (Za _ _),?_,?_⟩
 ·have:=Za (W.alloc (.cells A s)) (.cells B t);have e:(W.alloc (.cells A s)).heap.size=W.heap.size+1:=by simp
  rw[e]at this;exact this
 ·have b:=(hb.alloc hb.size (.cells A s)).alloc (Nat.le_trans hb.size (by simp)) (.cells B t);exact⟨b.os,b.tape,b.output,b.size,b.block⟩
theorem Z36 (n:Z8)(sa:zA)(sc:Nat)(w:World):
  Calls zq 178 #[.agg (Z5 n sa sc)] w fun e w' => ∃P Q,e = .returned (.tuple #[.slice (some ⟨P,0,none⟩) 15 15,.slice (some ⟨Q,0,none⟩) 3 3]) /\
   w'.heap[P]? = some (.cells ((ZA n).map Ys).toArray 3 (0,0))/\w'.heap[Q]? = some (.cells ((Zu n).map Ys).toArray 3 (0,0))/\w.heap.size<=P/\w.heap.size<=Q/\Below w.heap.size w w':=by
 have hlast:=Za w (.cells (Z5 n sa sc) 47);have bb:Below w.heap.size w (w.alloc (.cells (Z5 n sa sc) 47)):=zB _ _;have hz:w.heap.size < (w.alloc (.cells (Z5 n sa sc) 47)).heap.size:=by simp
 have k0:=Z6 hlast 0 (.int .i64 n.house) rfl;have k1:=Z6 hlast 1 (.int .i64 n.num) rfl;have k2:=Z6 hlast 2 (.int .i64 n.clock) rfl;have k3:=Z6 hlast 3 (.int .i64 n.day) rfl;have k4:=Z6 hlast 4 (.int .i64 n.kind) rfl;have k5:=Z6 hlast 5 (.int .i64 n.stone) rfl;have k6:=Z6 hlast 6 (.int .i64 n.heap) rfl;have k7:=Z6 hlast 7 (.int .i64 n.turns) rfl;have k8:=Z6 hlast 8 (.int .i64 n.hardLo) rfl;have k9:=Z6 hlast 9 (.int .i64 n.hardHi) rfl;have k10:=Z6 hlast 10 (.int .i64 n.diffLo) rfl;have k11:=Z6 hlast 11 (.int .i64 n.diffHi) rfl;have k12:=Z6 hlast 12 (.int .i64 n.a) rfl;have k13:=Z6 hlast 13 (.int .i64 n.b) rfl;have k14:=Z6 hlast 14 (.int .i64 n.ring) rfl;have k16:=Z6 hlast 16 (.int .i64 n.refH) rfl;have k17:=Z6 hlast 17 (.int .i64 n.refN) rfl;have k18:=Z6 hlast 18 (.int .i64 n.fix) rfl;have BB:=zH bb;clear bb;have HZ:=zH hz;clear hz;have HL:=zH hlast;clear hlast;go_enter Tryz.func178,Tryz.ntmps178;go_upto_region 1 with fail;generalize w.alloc (.cells (Z5 n sa sc) 47)=W at *;generalize hp:w.heap.size=p at *;have HP:=zH hp;clear hp;have hk0:(fun w':World=>w'.cell? ⟨p,0,none⟩=some (.int .i64 n.house)/\w'.cell? ⟨p,1,none⟩=some (.int .i64 n.num)/\w'.cell? ⟨p,2,none⟩=some (.int .i64 n.clock)/\w'.cell? ⟨p,3,none⟩=some (.int .i64 n.day)/\w'.cell? ⟨p,4,none⟩=some (.int .i64 n.kind)/\w'.cell? ⟨p,5,none⟩=some (.int .i64 n.stone)/\w'.cell? ⟨p,6,none⟩=some (.int .i64 n.heap)/\w'.cell? ⟨p,7,none⟩=some (.int .i64 n.turns)/\w'.cell? ⟨p,8,none⟩=some (.int .i64 n.hardLo)/\w'.cell? ⟨p,9,none⟩=some (.int .i64 n.hardHi)/\w'.cell? ⟨p,10,none⟩=some (.int .i64 n.diffLo)/\w'.cell? ⟨p,11,none⟩=some (.int .i64 n.diffHi)/\w'.cell? ⟨p,12,none⟩=some (.int .i64 n.a)/\w'.cell? ⟨p,13,none⟩=some (.int .i64 n.b)/\w'.cell? ⟨p,14,none⟩=some (.int .i64 n.ring)/\w'.cell? ⟨p,16,none⟩=some (.int .i64 n.refH)/\w'.cell? ⟨p,17,none⟩=some (.int .i64 n.refN)/\w'.cell? ⟨p,18,none⟩=some (.int .i64 n.fix)) W:=⟨Z6 (HL.out) 0 _ rfl,Z6 (HL.out) 1 _ rfl,Z6 (HL.out) 2 _ rfl,Z6 (HL.out) 3 _ rfl,Z6 (HL.out) 4 _ rfl,Z6 (HL.out) 5 _ rfl,Z6 (HL.out) 6 _ rfl,Z6 (HL.out) 7 _ rfl,Z6 (HL.out) 8 _ rfl,Z6 (HL.out) 9 _ rfl,Z6 (HL.out) 10 _ rfl,Z6 (HL.out) 11 _ rfl,Z6 (HL.out) 12 _ rfl,Z6 (HL.out) 13 _ rfl,Z6 (HL.out) 14 _ rfl,Z6 (HL.out) 16 _ rfl,Z6 (HL.out) 17 _ rfl,Z6 (HL.out) 18 _ rfl⟩
 have hk1 : ∀o,(fun w':World=>w'.cell? ⟨p,0,none⟩=some (.int .i64 n.house)/\w'.cell? ⟨p,1,none⟩=some (.int .i64 n.num)/\w'.cell? ⟨p,2,none⟩=some (.int .i64 n.clock)/\w'.cell? ⟨p,3,none⟩=some (.int .i64 n.day)/\w'.cell? ⟨p,4,none⟩=some (.int .i64 n.kind)/\w'.cell? ⟨p,5,none⟩=some (.int .i64 n.stone)/\w'.cell? ⟨p,6,none⟩=some (.int .i64 n.heap)/\w'.cell? ⟨p,7,none⟩=some (.int .i64 n.turns)/\w'.cell? ⟨p,8,none⟩=some (.int .i64 n.hardLo)/\w'.cell? ⟨p,9,none⟩=some (.int .i64 n.hardHi)/\w'.cell? ⟨p,10,none⟩=some (.int .i64 n.diffLo)/\w'.cell? ⟨p,11,none⟩=some (.int .i64 n.diffHi)/\w'.cell? ⟨p,12,none⟩=some (.int .i64 n.a)/\w'.cell? ⟨p,13,none⟩=some (.int .i64 n.b)/\w'.cell? ⟨p,14,none⟩=some (.int .i64 n.ring)/\w'.cell? ⟨p,16,none⟩=some (.int .i64 n.refH)/\w'.cell? ⟨p,17,none⟩=some (.int .i64 n.refN)/\w'.cell? ⟨p,18,none⟩=some (.int .i64 n.fix)) (W.alloc o):=fun o=>⟨Z6 (Z9 W o _ _ HL.out) 0 _ rfl,Z6 (Z9 W o _ _ HL.out) 1 _ rfl,Z6 (Z9 W o _ _ HL.out) 2 _ rfl,Z6 (Z9 W o _ _ HL.out) 3 _ rfl,Z6 (Z9 W o _ _ HL.out) 4 _ rfl,Z6 (Z9 W o _ _ HL.out) 5 _ rfl,Z6 (Z9 W o _ _ HL.out) 6 _ rfl,Z6 (Z9 W o _ _ HL.out) 7 _ rfl,Z6 (Z9 W o _ _ HL.out) 8 _ rfl,Z6 (Z9 W o _ _ HL.out) 9 _ rfl,Z6 (Z9 W o _ _ HL.out) 10 _ rfl,Z6 (Z9 W o _ _ HL.out) 11 _ rfl,Z6 (Z9 W o _ _ HL.out) 12 _ rfl,Z6 (Z9 W o _ _ HL.out) 13 _ rfl,Z6 (Z9 W o _ _ HL.out) 14 _ rfl,Z6 (Z9 W o _ _ HL.out) 16 _ rfl,Z6 (Z9 W o _ _ HL.out) 17 _ rfl,Z6 (Z9 W o _ _ HL.out) 18 _ rfl⟩;have hk2 : ∀o o',(fun w':World=>w'.cell? ⟨p,0,none⟩=some (.int .i64 n.house)/\w'.cell? ⟨p,1,none⟩=some (.int .i64 n.num)/\w'.cell? ⟨p,2,none⟩=some (.int .i64 n.clock)/\w'.cell? ⟨p,3,none⟩=some (.int .i64 n.day)/\w'.cell? ⟨p,4,none⟩=some (.int .i64 n.kind)/\w'.cell? ⟨p,5,none⟩=some (.int .i64 n.stone)/\w'.cell? ⟨p,6,none⟩=some (.int .i64 n.heap)/\w'.cell? ⟨p,7,none⟩=some (.int .i64 n.turns)/\w'.cell? ⟨p,8,none⟩=some (.int .i64 n.hardLo)/\w'.cell? ⟨p,9,none⟩=some (.int .i64 n.hardHi)/\w'.cell? ⟨p,10,none⟩=some (.int .i64 n.diffLo)/\w'.cell? ⟨p,11,none⟩=some (.int .i64 n.diffHi)/\w'.cell? ⟨p,12,none⟩=some (.int .i64 n.a)/\w'.cell? ⟨p,13,none⟩=some (.int .i64 n.b)/\w'.cell? ⟨p,14,none⟩=some (.int .i64 n.ring)/\w'.cell? ⟨p,16,none⟩=some (.int .i64 n.refH)/\w'.cell? ⟨p,17,none⟩=some (.int .i64 n.refN)/\w'.cell? ⟨p,18,none⟩=some (.int .i64 n.fix)) ((W.alloc o).alloc o'):=fun o o'=>⟨Z6 (Z9 _ o' _ _ (Z9 W o _ _ HL.out)) 0 _ rfl,Z6 (Z9 _ o' _ _ (Z9 W o _ _ HL.out)) 1 _ rfl,Z6 (Z9 _ o' _ _ (Z9 W o _ _ HL.out)) 2 _ rfl,Z6 (Z9 _ o' _ _ (Z9 W o _ _ HL.out)) 3 _ rfl,Z6 (Z9 _ o' _ _ (Z9 W o _ _ HL.out)) 4 _ rfl,Z6 (Z9 _ o' _ _ (Z9 W o _ _ HL.out)) 5 _ rfl,Z6 (Z9 _ o' _ _ (Z9 W o _ _ HL.out)) 6 _ rfl,Z6 (Z9 _ o' _ _ (Z9 W o _ _ HL.out)) 7 _ rfl,Z6 (Z9 _ o' _ _ (Z9 W o _ _ HL.out)) 8 _ rfl,Z6 (Z9 _ o' _ _ (Z9 W o _ _ HL.out)) 9 _ rfl,Z6 (Z9 _ o' _ _ (Z9 W o _ _ HL.out)) 10 _ rfl,Z6 (Z9 _ o' _ _ (Z9 W o _ _ HL.out)) 11 _ rfl,Z6 (Z9 _ o' _ _ (Z9 W o _ _ HL.out)) 12 _ rfl,Z6 (Z9 _ o' _ _ (Z9 W o _ _ HL.out)) 13 _ rfl,Z6 (Z9 _ o' _ _ (Z9 W o _ _ HL.out)) 14 _ rfl,Z6 (Z9 _ o' _ _ (Z9 W o _ _ HL.out)) 16 _ rfl,Z6 (Z9 _ o' _ _ (Z9 W o _ _ HL.out)) 17 _ rfl,Z6 (Z9 _ o' _ _ (Z9 W o _ _ HL.out)) 18 _ rfl⟩
 go_region_held3 (fun w'=>w'.cell? ⟨p,0,none⟩=some (.int .i64 n.house)/\w'.cell? ⟨p,1,none⟩=some (.int .i64 n.num)/\w'.cell? ⟨p,2,none⟩=some (.int .i64 n.clock)/\w'.cell? ⟨p,3,none⟩=some (.int .i64 n.day)/\w'.cell? ⟨p,4,none⟩=some (.int .i64 n.kind)/\w'.cell? ⟨p,5,none⟩=some (.int .i64 n.stone)/\w'.cell? ⟨p,6,none⟩=some (.int .i64 n.heap)/\w'.cell? ⟨p,7,none⟩=some (.int .i64 n.turns)/\w'.cell? ⟨p,8,none⟩=some (.int .i64 n.hardLo)/\w'.cell? ⟨p,9,none⟩=some (.int .i64 n.hardHi)/\w'.cell? ⟨p,10,none⟩=some (.int .i64 n.diffLo)/\w'.cell? ⟨p,11,none⟩=some (.int .i64 n.diffHi)/\w'.cell? ⟨p,12,none⟩=some (.int .i64 n.a)/\w'.cell? ⟨p,13,none⟩=some (.int .i64 n.b)/\w'.cell? ⟨p,14,none⟩=some (.int .i64 n.ring)/\w'.cell? ⟨p,16,none⟩=some (.int .i64 n.refH)/\w'.cell? ⟨p,17,none⟩=some (.int .i64 n.refN)/\w'.cell? ⟨p,18,none⟩=some (.int .i64 n.fix)) (first | exact hk0 | exact hk1 _ | exact hk2 _ _) (fail)
 all_goals clear hk0 hk1 hk2 k0 k1 k2 k3 k4 k5 k6 k7 k8 k9 k10 k11 k12 k13 k14 k16 k17 k18
 all_goals go_wp2_with fail
 all_goals go_returns
 all_goals have hb:Below w.heap.size w W:=by rw[HP.out];exact BB.out
 all_goals have hs:=hb.size
 ·exact⟨W.heap.size,W.heap.size+1,rfl,(Z0T hb).1,(Z0T hb).2.1,hs,Nat.le_succ_of_le hs,(Z0T hb).2.2⟩
 ·exact⟨W.heap.size+1,W.heap.size,rfl,(Z0T hb).2.1,(Z0T hb).1,Nat.le_succ_of_le hs,hs,(Z0T hb).2.2⟩
theorem Z8f (n:Z8): ∀k,k < 15->((ZA n).map Ys).toArray[k]? = some (.int .i64 ((ZA n)[k]?.getD 0))
 | 0,_=>rfl
 | 1,_=>rfl
 | 2,_=>rfl
 | 3,_=>rfl
 | 4,_=>rfl
 | 5,_=>rfl
 | 6,_=>rfl
 | 7,_=>rfl
 | 8,_=>rfl
 | 9,_=>rfl
 | 10,_=>rfl
 | 11,_=>rfl
 | 12,_=>rfl
 | 13,_=>rfl
 | 14,_=>rfl
 | k+15,h=>absurd h (by omega)
theorem Z6O (n:Z8): ∀k,k < 3->((Zu n).map Ys).toArray[k]? = some (.int .i64 ((Zu n)[k]?.getD 0))
 | 0,_=>rfl
 | 1,_=>rfl
 | 2,_=>rfl
 | k+3,h=>absurd h (by omega)
section
variable (n:Z8)(sa:zA)(sc:Nat)(w:World)
theorem Z5q (hs:Xs w sa n.strokes.length sc n.strokes)(hsm:Uc n)(hlen:n.strokes.length<=1000000):
  Calls zq 125 #[.agg (Z5 n sa sc)] w fun e w' => ∃a' c',e = .returned (.slice a' (Y5 n).length c') /\
   w'.ownsRow w.heap.size 5 1 (.slice a' (Y5 n).length c') (Y5 n).length ((Y5 n).map Zr)/\Below w.heap.size w w':=by
 obtain⟨xs,hxs⟩ : ∃xs:zU,Hid (xs=[]):=⟨_,zH rfl⟩;have hN:=Z4B n hsm;have hT:Y5 n=xs ++ Zt (ZA n) ++ (Yh (n.strokes.length:Int) ++ Zt n.strokes) ++ Zt (Zu n):=by
  rw[hxs.out];unfold Y5;simp only[List.nil_append,List.append_assoc]
 rw[hT]at hN;have HLP:Hid ((xs ++ Zt (ZA n)).length<=140737488355328):=zH (by simp only[List.length_append]at hN ⊢;omega);have HL3:Hid ((xs ++ Zt (ZA n) ++ (Yh (n.strokes.length:Int) ++ Zt n.strokes) ++ Zt (Zu n)).length<=140737488355328):=zH (by omega);clear hN hT;have hlast:=Za w (.cells (Z5 n sa sc) 47);have bb:Below w.heap.size w (w.alloc (.cells (Z5 n sa sc) 47)):=zB _ _;have hlt:w.heap.size < (w.alloc (.cells (Z5 n sa sc) 47)).heap.size:=by simp
 have H0:=zH (And.intro hlast (And.intro bb hlt));clear hlast bb hlt;obtain⟨base,hbase⟩:=zX (w.heap.size);go_enter Tryz.func125,Tryz.ntmps125;go_upto_region 1 with fail;generalize w.alloc (.cells (Z5 n sa sc) 47)=w0 at *;rw[hbase.out];rw[hbase.out]at H0;have hbw:Hid (base<=w.heap.size):=zH (by rw[hbase.out];exact Nat.le_refl _);go_wp2_with (refine zL base H0.out.1 ?_);refine(Z36 n sa sc w0).mono ?_;rintro e wf ⟨P,Q,rfl,g1,g2,_,_,b1⟩;have hlb:=Nat.le_of_lt H0.out.2.2;have AW:Hid (X9 base w wf):=zH ⟨(b1.mono hlb).os.trans H0.out.2.1.os,(b1.mono hlb).tape.trans H0.out.2.1.tape,(b1.mono hlb).output.trans H0.out.2.1.output,Nat.le_trans H0.out.2.1.size b1.size,fun k hk _=>by rw[hbase.out]at hk;exact(b1.block k (Nat.lt_trans hk H0.out.2.2)).trans (H0.out.2.1.block k hk)⟩;have hn1:=(b1.block _ H0.out.2.2).trans H0.out.1;have LN:=zH (And.intro (show base < wf.heap.size from(Array.getElem?_eq_some_iff.1 hn1).1) (And.intro (show ¬U8 base wf base from Vt hn1 (by decide)) hn1));have LP:=zH (And.intro (show P < wf.heap.size from(Array.getElem?_eq_some_iff.1 g1).1) (And.intro (show ¬U8 base wf P from Vt g1 (by decide)) g1));have LQ:=zH (And.intro (show Q < wf.heap.size from(Array.getElem?_eq_some_iff.1 g2).1) (And.intro (show ¬U8 base wf Q from Vt g2 (by decide)) g2));have HB:Hid (base<=wf.heap.size):=zH (Nat.le_of_lt LN.out.1);clear g1 g2 hn1 b1 H0 hlb;go_wp2_with fail;go_loopw [5,6] (fun b i wr=>∃(k m:Nat) (a':zA) (c':Nat),b = .slice a' m c'/\k<=15/\i = .int .i64 k/\Hid (wr.ownsRow base 5 1 (.slice a' m c') m ((xs ++ Zt ((ZA n).take k)).map Zr))/\Hid (X9 base wf wr)) (fun _ i _=>15 - (intOf i).toNat)
 case atStart=>exact⟨0,0,none,0,rfl,Nat.zero_le _,rfl,zH (by rw[hxs.out];exact World.ownsRow_nil _ _ _ _),zH (X9.refl _ _)⟩
 case round=>
  obtain⟨k,m,a',c',rfl,hk,rfl,HW,HA⟩:=hrel;by_cases hlt:k < 15
  ·have e1:wr.cell? ⟨P,k,none⟩=some (.int .i64 ((ZA n)[k]?.getD 0)):=Z6 ((HA.out.block _ LP.out.1 LP.out.2.1).trans LP.out.2.2) _ _ (Z8f n k hlt);have HZK:=zH (show J6 ((ZA n)[k]?.getD 0)from VW (hsm.1 _ (by rw[List.getElem?_eq_getElem (show k < (ZA n).length from hlt),Option.getD_some];exact List.getElem_mem _)));have HT:=zH (QT (l:=ZA n) (k:=k) hlt);have HLE:=zH (Z0b (ZA n) (k+1));have hz63:(k:Int)<=9223372036854775807:=by omega
   have hbs:base<=wr.heap.size:=Nat.le_trans HB.out HA.out.size;generalize (ZA n)[k]?.getD 0=z at *;go_wp2_with fail;refine(Us z HZK.out wr).mono ?_;rintro e w2 ⟨a2,c2,rfl,h2,b2⟩;have H2:=zH h2;clear h2;have O2:=zH (Zd HW.out b2);have hm:m=(xs ++ Zt ((ZA n).take k)).length:=by have:=O2.out.1;simpa using this.symm
   have hb2:base<=w2.heap.size:=Nat.le_trans hbs b2.size;have B2:=zH (HA.out.trans (X9.of_below b2));clear b2;obtain⟨m2,HM2⟩:=zX ((Yh z).length);rw[HM2.out]at H2 ⊢;have hml:m+m2<=140737488355328:=by
    have h1:=HLP.out;have h2:=HLE.out;rw[HT.out]at h2;simp only[List.length_append]at h1 h2 hm;have h3:=HM2.out;omega
   clear hm;go_wp2_with (at_builtin;refine Qr _ rfl _ _ rfl base _ _ _ (xs ++ Zt ((ZA n).take k)) rfl O2.out _ _ _ (Yh z) rfl (Ye.of_own H2.out) hml hb2 ?_);intro a3 c3 w3 h3 h4;have H3:=zH (show w3.ownsRow base 5 1 (.slice a3 (m+m2) c3) (m+m2) ((xs ++ Zt ((ZA n).take (k+1))).map Zr)by rw[HT.out,<-List.append_assoc];simpa using h3);clear h3;have B3:=zH (B2.out.trans (X9.of_own O2.out h4));clear h4;go_wp2;go_roundw
   case rel=>exact⟨k+1,m+m2,a3,c3,by first | rfl | simp,by omega,by go_num,H3,B3⟩
   case measure=>simp[intOf];omega
  ·have hkn:k=15:=by omega
   subst hkn;have HX:Hid ((ZA n).take 15=ZA n):=zH rfl;rw[HX.out]at HW;have hm:m=(xs ++ Zt (ZA n)).length:=by
    have:=HW.out.1;simpa using this.symm
   have e15:wr.cell? ⟨base,15,none⟩=some (.slice sa n.strokes.length sc):=Z6 ((HA.out.block _ LN.out.1 LN.out.2.1).trans LN.out.2.2) _ _ rfl;have HSB:=zH (Nat.le_trans HB.out HA.out.size);have HM:=zH hm;clear hm;go_wp2_with fail;refine(Z6h _ _ _ n.strokes _ (hs.below (by rw[hbase.out];exact(AW.out.below hbw.out).trans (HA.out.below HB.out))) (fun z hz=>VW (hsm.2.1 z hz)) hlen).mono ?_;rintro e w2 ⟨a2,c2,rfl,h2,b2⟩;have H2:=zH h2;clear h2;have O2:=zH (Zd HW.out b2);have hb2:base<=w2.heap.size:=Nat.le_trans HSB.out b2.size;have B2:=zH (HA.out.trans (X9.of_below b2));clear b2 e15;obtain⟨m2,HM2⟩:=zX ((Yh (n.strokes.length:Int) ++ Zt n.strokes).length);rw[HM2.out]at H2 ⊢;have hml:m+m2<=140737488355328:=by
    have h1:=HL3.out;rw[HM.out,<-HM2.out];simp only[List.length_append]at h1 ⊢;omega
   go_wp2_with (at_builtin;refine Qr _ rfl _ _ rfl base _ _ _ (xs ++ Zt (ZA n)) rfl O2.out _ _ _ (Yh (n.strokes.length:Int) ++ Zt n.strokes) rfl (Ye.of_own H2.out) hml hb2 ?_);intro a3 c3 w3 h3 h4;obtain⟨X,HXX⟩ : ∃X,Hid (X=xs ++ Zt (ZA n) ++ (Yh (n.strokes.length:Int) ++ Zt n.strokes)):=⟨_,zH rfl⟩;obtain⟨m3,HM3⟩ : ∃m3,Hid (m3=m+m2):=⟨_,zH rfl⟩;rw[<-HM3.out]at h3 ⊢;have H3:=zH (show w3.ownsRow base 5 1 (.slice a3 m3 c3) m3 (X.map Zr)by rw[HXX.out];simpa using h3);clear h3;have A3:=zH (B2.out.trans (X9.of_own O2.out h4));clear h4;have HLQ:Hid ((X ++ Zt (Zu n)).length<=140737488355328):=zH (by rw[HXX.out];exact HL3.out);go_wp2_with fail;go_loopw [5,7] (fun b i wr=>∃(k m:Nat) (a':zA) (c':Nat),b = .slice a' m c'/\k<=3/\i = .int .i64 k/\Hid (wr.ownsRow base 5 1 (.slice a' m c') m ((X ++ Zt ((Zu n).take k)).map Zr))/\Hid (X9 base wf wr)) (fun _ i _=>3 - (intOf i).toNat)
   case atStart=>exact⟨0,_,a3,c3,rfl,Nat.zero_le _,rfl,zH (by simpa [Zt] using H3.out),A3⟩
   case round=>
    obtain⟨k,m,a',c',rfl,hk,rfl,HW,HA⟩:=hrel;by_cases hlt:k < 3
    ·have e1:wr.cell? ⟨Q,k,none⟩=some (.int .i64 ((Zu n)[k]?.getD 0)):=Z6 ((HA.out.block _ LQ.out.1 LQ.out.2.1).trans LQ.out.2.2) _ _ (Z6O n k hlt);have HZK:=zH (show J6 ((Zu n)[k]?.getD 0)from VW (hsm.2.2.1 _ (by rw[List.getElem?_eq_getElem (show k < (Zu n).length from hlt),Option.getD_some];exact List.getElem_mem _)));have HT:=zH (QT (l:=Zu n) (k:=k) hlt);have HLE:=zH (Z0b (Zu n) (k+1));have hz63:(k:Int)<=9223372036854775807:=by omega
     have hbs:base<=wr.heap.size:=Nat.le_trans HB.out HA.out.size;generalize (Zu n)[k]?.getD 0=z at *;go_wp2_with fail;refine(Us z HZK.out wr).mono ?_;rintro e w2 ⟨a2,c2,rfl,h2,b2⟩;have H2:=zH h2;clear h2;have O2:=zH (Zd HW.out b2);have hm:m=(X ++ Zt ((Zu n).take k)).length:=by have:=O2.out.1;simpa using this.symm
     have hb2:base<=w2.heap.size:=Nat.le_trans hbs b2.size;have B2:=zH (HA.out.trans (X9.of_below b2));clear b2;obtain⟨m2,HM2⟩:=zX ((Yh z).length);rw[HM2.out]at H2 ⊢;have hml:m+m2<=140737488355328:=by
      have h1:=HLQ.out;have h2:=HLE.out;rw[HT.out]at h2;simp only[List.length_append]at h1 h2 hm;have h3:=HM2.out;omega
     clear hm;go_wp2_with (at_builtin;refine Qr _ rfl _ _ rfl base _ _ _ (X ++ Zt ((Zu n).take k)) rfl O2.out _ _ _ (Yh z) rfl (Ye.of_own H2.out) hml hb2 ?_);intro a3 c3 w3 h3 h4;have H3:=zH (show w3.ownsRow base 5 1 (.slice a3 (m+m2) c3) (m+m2) ((X ++ Zt ((Zu n).take (k+1))).map Zr)by rw[HT.out,<-List.append_assoc];simpa using h3);clear h3;have B3:=zH (B2.out.trans (X9.of_own O2.out h4));clear h4;go_wp2;go_roundw
     case rel=>exact⟨k+1,m+m2,a3,c3,by first | rfl | simp,by omega,by go_num,H3,B3⟩
     case measure=>simp[intOf];omega
    ·have hkn:k=3:=by omega
     subst hkn;have HX:Hid ((Zu n).take 3=Zu n):=zH rfl;rw[HX.out]at HW;have hm:m=(X ++ Zt (Zu n)).length:=by
      have:=HW.out.1;simpa using this.symm
     have hX:X ++ Zt (Zu n)=Y5 n:=by
      rw[HXX.out,hxs.out];unfold Y5;simp only[List.nil_append,List.append_assoc]
     rw[hX]at hm HW;subst hm;go_wp2;go_ret;exact⟨_,_,rfl,by rw[hbase.out];exact HW.out,by rw[hbase.out];exact(AW.out.below hbw.out).trans (HA.out.below HB.out)⟩
end
def QJ (l:zU)(i:Nat):Nat:=(l[i]?.getD 0).toNat+256 * (l[i+1]?.getD 0).toNat
theorem Ze6 (l:zU)(i:Nat):QJ l i < 65536:=by
 have h1:=(l[i]?.getD 0).toNat_lt;have h2:=(l[i+1]?.getD 0).toNat_lt;unfold QJ;omega
def z7:Nat->zU->zU->List (zU)
 | 0,_,_=>[]
 | k+1,st,fo=>
  if 2<=st.length/\4<=fo.length/\QJ st 0<=8192/\QJ st 0+2<=st.length/\fo.take 4=ZQ ((st.drop 2).take (QJ st 0))then
   ((st.drop 2).take (QJ st 0)) :: z7 k (st.drop (QJ st 0+2)) (fo.drop 4)
  else []
def Zz (st fo:zU):List (zU):=z7 (fo.length / 4) st fo
def sOf (ls:List (zU)):Nat:=(ls.map fun b=>b.length+2).sum
theorem Z4o: ∀(k m:Nat) (st fo:zU),fo.length / 4<=k->fo.length / 4<=m->z7 k st fo=z7 m st fo
 | 0,0,_,_,_,_=>rfl
 | 0,m+1,st,fo,h,_=>by
  simp only[z7]
  rw[if_neg (by omega)]
 | k+1,0,st,fo,_,h=>by
  simp only[z7]
  rw[if_neg (by omega)]
 | k+1,m+1,st,fo,h1,h2=>by
  simp only[z7]
  split
  ·rename_i h
   rw[Z4o k m]
   ·simp only[List.length_drop];omega
   ·simp only[List.length_drop];omega
  ·rfl
theorem Z06 {st fo:zU}(h1:2<=st.length)(h2:4<=fo.length)(h3:QJ st 0<=8192)(h4:QJ st 0+2<=st.length)(h5:fo.take 4=ZQ ((st.drop 2).take (QJ st 0))):
  Zz st fo=((st.drop 2).take (QJ st 0)) :: Zz (st.drop (QJ st 0+2)) (fo.drop 4):=by
 unfold Zz;obtain⟨k,hk⟩ : ∃k,fo.length / 4=k+1:=⟨fo.length / 4 - 1,by omega⟩;rw[hk,z7,if_pos ⟨h1,h2,h3,h4,h5⟩];congr 1;apply Z4o
 ·simp only[List.length_drop];omega
 ·simp
theorem QS {st fo:zU}(h : ¬(2<=st.length/\4<=fo.length/\QJ st 0<=8192/\QJ st 0+2<=st.length/\fo.take 4=ZQ ((st.drop 2).take (QJ st 0)))):Zz st fo=[]:=by
 unfold Zz;cases hk:fo.length / 4 with
 | zero=>rfl
 | succ k=>rw[z7,if_neg h]
theorem U9 (l:zU)(i j:Nat):QJ (l.drop i) j=QJ l (i+j):=by
 simp[QJ,List.getElem?_drop,Nat.add_assoc]
theorem Z24 {fo b:zU}(h:4<=fo.length)(hb:b.length < 65536):fo.take 4=ZQ b↔QJ fo 0=b.length/\QJ fo 2=chk b:=by
 obtain⟨x,y,z,u,r,rfl⟩ : ∃x y z u r,fo=x :: y :: z :: u :: r:=by
  match fo,h with
  | x :: y :: z :: u :: r,_=>exact⟨x,y,z,u,r,rfl⟩
 have hc:=ZcE b;have tw : ∀(x y:UInt8) (n:Nat),n < 65536->([x,y]=two n↔x.toNat+256 * y.toNat=n):=by
  intro x y n hn;have hx:=x.toNat_lt;have hy:=y.toNat_lt;simp only[two,List.cons.injEq,and_true,<-UInt8.toNat_inj,UInt8.toNat_ofNat'];omega
 have e1:(x :: y :: z :: u :: r).take 4=[x,y] ++ [z,u]:=rfl;rw[e1,ZQ,show QJ (x :: y :: z :: u :: r) 0=x.toNat+256 * y.toNat from rfl,show QJ (x :: y :: z :: u :: r) 2=z.toNat+256 * u.toNat from rfl,<-tw x y _ hb,<-tw z u _ (by omega)];constructor
 ·intro h;exact List.append_inj h rfl
 ·rintro⟨h1,h2⟩;rw[h1,h2]
def J5 (w:World)(base:Nat)(a:zA)(n c:Nat)(ls:List (zU)):Prop:=
 ∃vs:List Value,w.ownsRow base 41 1 (.slice a n c) n vs/\ls.length=n /\ ∀i,i < n -> ∃ai ci,vs[i]? = some (.slice ai (ls[i]?.getD []).length ci)/\w.ownsRow 0 5 1 (.slice ai (ls[i]?.getD []).length ci) (ls[i]?.getD []).length ((ls[i]?.getD []).map Zr)
theorem J5.rd {w:World}{base:Nat}{a:zA}{n c:Nat}{ls:List (zU)}(h:J5 w base a n c ls):Z2Z w a n c ls:=by
 obtain⟨vs,h1,h2,h3⟩:=h;refine⟨vs,Y3.of_own h1,h2,fun i hi=>?_⟩;obtain⟨ai,ci,h4,h5⟩:=h3 i hi;exact⟨ai,ci,h4,Ye.of_own h5⟩
theorem J5.nil (w:World)(base:Nat):J5 w base none 0 0 []:=⟨[],World.ownsRow_nil _ _ _ _,rfl,fun i hi=>by omega⟩
theorem J5.below {w w':World}{base:Nat}{a:zA}{n c:Nat}{ls:List (zU)}(h:J5 w base a n c ls)(hb:Below w.heap.size w w'):J5 w' base a n c ls:=by
 obtain⟨vs,h1,h2,h3⟩:=h;refine⟨vs,Zd h1 hb,h2,fun i hi=>?_⟩;obtain⟨ai,ci,h4,h5⟩:=h3 i hi;exact⟨ai,ci,h4,Zd h5 hb⟩
theorem J5.lt {w:World}{base:Nat}{a:zA}{n c:Nat}{ls:List (zU)}(h:J5 w base a n c ls): ∀k,Value.ownBlock (.slice a n c)=some k->base<=k/\k < w.heap.size:=by
 obtain⟨vs,h1,_⟩:=h;exact h1.lt
theorem Z5u {w w':World}{base base':Nat}{e e':TypeId}(hne:e≠e'){k k':Nat}{v v':Value}{n n':Nat}{xs xs':List Value}(h:w.ownsRow base e k v n xs)(h':w.ownsRow base' e' k' v' n' xs')(hg:w.grownBy w' v'.ownBlock):w'.ownsRow base e k v n xs:=by
 refine h.kept hg ?_;rcases h.2 with ⟨rfl,_⟩ | ⟨g,cap,cur,rfl,_,hgg,_⟩
 ·exact .inl rfl
 ·right;rcases h'.2 with ⟨rfl,_⟩ | ⟨g',cap',cur',rfl,_,hgg',_⟩
  ·simp[Value.ownBlock]
  ·simp only[Value.ownBlock,ne_eq,Option.some.injEq];intro e;subst e;rw[hgg]at hgg';simp only[Option.some.injEq,Obj.cells.injEq]at hgg';exact hne hgg'.2.1
theorem Zax:(zq.info? 41).map (fun i=>(i.zero,i.size,i.bytes))=some (some (.slice none 0 0),1,24):=by kernel_rfl
theorem Z7h (w:World)(ty:TypeId)(base:Nat)(sa:zA)(sn sc:Nat)(xs:List (zU))(hown:J5 w base sa sn sc xs)
  (g:Nat) (ya:zA) (m yc:Nat) (l:zU) (hc:w.cell? ⟨g,0,none⟩=some (.slice ya m yc))
  (hy:w.ownsRow 0 5 1 (.slice ya m yc) m (l.map Zr)) (hbytes:sn+1<=16777216) (hbase:base<=w.heap.size):
  ∃a' c' w',(Builtin.append_ #[98,98] ty #[.slice sa sn sc,.slice (some ⟨g,0,none⟩) 1 1]).run zq w = .ok (.slice a' (sn+1) c') w'/\J5 w' base a' (sn+1) c' (xs ++ [l])/\w.grownBy w' (Value.ownBlock (.slice sa sn sc)):=by
 obtain⟨i,hi,hz0,hz1,hz2⟩:=info_parts Zax;obtain⟨vs,h1,h2,h3⟩:=hown;have hlen:l.length=m:=by simpa using hy.1
 subst hlen;have hrd:Y3 w 1 (some ⟨g,0,none⟩) 1 1 [.slice ya l.length yc]:=by
  refine⟨rfl,Nat.le_refl _,by unfold maxLen;omega,.inr ⟨g,0,rfl,fun i x hx=>?_⟩⟩
  match i,hx with
  | 0,hx=>simp at hx;subst hx;exact hc
 obtain⟨a',c',w',hr,ho',hg'⟩:=Yu (P:=zq) w base 98 ty 41 i (.slice none 0 0) 1 24 Tryz.underlying98 hi hz0 hz1 hz2 rfl (by decide) sa sn sc vs h1 _ 1 1 _ hrd (by intro u hu;simp at hu;subst hu;rfl) (by unfold maxLen;omega) (by omega) hbase;refine⟨a',c',w',hr,⟨_,ho',by simp[h2],fun i hi=>?_⟩,hg'⟩;have hvl:vs.length=sn:=by simpa using h1.1
 by_cases hin:i < sn
 ·obtain⟨ai,ci,h4,h5⟩:=h3 i hin;have e1:(xs ++ [l])[i]? = xs[i]? := List.getElem?_append_left (by omega);have e2:(vs ++ [.slice ya l.length yc])[i]? = vs[i]? := List.getElem?_append_left (by omega);rw[e1,e2];exact⟨ai,ci,h4,Z5u (by decide) h5 h1 hg'⟩
 ·have hi':i=sn:=by omega
  have e1:(xs ++ [l])[i]? = some l:=by rw[List.getElem?_append_right (by omega)];simp[hi',h2]
  have e2:(vs ++ [.slice ya l.length yc])[i]? = some (.slice ya l.length yc):=by rw[List.getElem?_append_right (by omega)];simp[hi',hvl]
  rw[e1,e2];exact⟨ya,yc,rfl,Z5u (by decide) hy h1 hg'⟩
theorem Z33 (w:World){ops:Array Oper}{rest:List Oper}{o:Oper}{a:Act}{Q:Exit->Act->World->Prop}(hgd:o.guard=none)(x:Operand)(lo hi:Option Operand)
  (ho:o.op = .slice 41 x lo hi none) (xa:zA) (n c:Nat) (l:zU) (hx:a.eval x = .slice xa n c) (hrd:Ye w xa n c l) (L H:Nat)
  (hl:(lo=none/\L=0) \/ ∃q kd,lo=some q/\a.eval q = .int kd (L:Int)) (hh:(hi=none/\H=n) \/ ∃q kd,hi=some q/\a.eval q = .int kd (H:Int)) (h1:L<=H) (h2:H<=n)
  (h : ∀a',Ye w a' (H - L) (c - L) ((l.drop L).take (H - L))->wpList zq ops Q rest (a.put o.dst (.slice a' (H - L) (c - L))) w):wpList zq ops Q (o :: rest) a w:=by
 obtain⟨i,hi',hz0,hz1,hz2⟩:=info_parts za;refine Z3r w hgd x lo hi 41 ho 5 i 1 Tryz.underlying41 hi' hz1 xa n c _ hx hrd L H hl hh h1 h2 (fun a' hr=>h a' ?_);unfold Ye;rw[List.map_take,List.map_drop];simpa using hr
theorem Z7d (d:List (zU))(b:zU):sOf (d ++ [b])=sOf d+(b.length+2):=by simp[sOf]
def Xr (st:zU)(S:Nat):zU:=(st.drop (S+2)).take (QJ st S)
def Z2i (st fo:zU)(S F:Nat):Prop:=
 S+2<=st.length/\F+4<=fo.length/\QJ st S<=8192/\S+2+QJ st S<=st.length/\QJ fo F=QJ st S/\QJ fo (F+2)=chk (Xr st S)
theorem Z0f {st:zU}{S:Nat}(h:S+2+QJ st S<=st.length):(Xr st S).length=QJ st S:=by
 simp only[Xr,List.length_take,List.length_drop];omega
theorem Z0M (st fo:zU)(S F:Nat):Z2i st fo S F ↔
  (2<=(st.drop S).length/\4<=(fo.drop F).length/\QJ (st.drop S) 0<=8192/\QJ (st.drop S) 0+2<=(st.drop S).length/\(fo.drop F).take 4=ZQ (((st.drop S).drop 2).take (QJ (st.drop S) 0))):=by
 have hb:((st.drop S).drop 2).take (QJ (st.drop S) 0)=Xr st S:=by rw[List.drop_drop,U9,Xr,Nat.add_zero]
 rw[hb,U9,Nat.add_zero];simp only[List.length_drop];constructor
 ·rintro⟨h1,h2,h3,h4,h5,h6⟩;refine⟨by omega,by omega,h3,by omega,?_⟩;rw[Z24 (by simp only[List.length_drop];omega) (by rw[Z0f h4];omega),Z0f h4,U9,U9];exact⟨h5,h6⟩
 ·rintro⟨h1,h2,h3,h4,h5⟩;have h4':S+2+QJ st S<=st.length:=by omega
  rw[Z24 (by simp only[List.length_drop];omega) (by rw[Z0f h4'];omega),Z0f h4',U9,U9]at h5;exact⟨by omega,by omega,h3,h4',h5.1,h5.2⟩
theorem Zau {st fo:zU}{S F:Nat}(h : ¬Z2i st fo S F):Zz (st.drop S) (fo.drop F)=[]:=QS (fun h'=>h ((Z0M st fo S F).2 h'))
theorem Zd1 {st fo:zU}{S F:Nat}(h:Z2i st fo S F):Zz (st.drop S) (fo.drop F)=Xr st S :: Zz (st.drop (S+(2+QJ st S))) (fo.drop (F+4)):=by
 obtain⟨h1,h2,h3,h4,h5⟩:=(Z0M st fo S F).1 h;rw[Z06 h1 h2 h3 h4 h5];simp only[List.drop_drop,U9,Nat.add_zero,Xr];rw[show S+(QJ st S+2)=S+(2+QJ st S)by omega]
def ZG (rec:LoopState->Option Code->Loop)(D:Nat)(st:LoopState)(pe:Option Code)(W:World):Prop:=
 W.heap[D+1]? = some (.loop (rec st pe))/\W.heap[D]? = some (.deferred (some []))
theorem ZG.kept {rec:LoopState->Option Code->Loop}{D:Nat}{st:LoopState}{pe:Option Code}{W W':World}(h:ZG rec D st pe W)(hk:KeepsFrom D W W'):ZG rec D st pe W':=
 ⟨hk.same _ _ (by omega) h.1 rfl,hk.same _ _ (Nat.le_refl _) h.2 rfl⟩
def Z7i (D:Nat)(B:World->Prop)(X:Code->World->Prop)(W:World):Exit->Act->World->Prop
 | .normal,_,W'=>KeepsFrom D W W'/\B W'
 | .ret,_,W'=>KeepsFrom D W W'/\X .ret W'
 | .exit id,_,W'=>KeepsFrom D W W'/\X (.exit id) W'
 | .goto t,_,W'=>KeepsFrom D W W'/\X (.goto t) W'
 | .panic _,_,_=>False
 | .outgrown,_,_=>False
theorem Z64 {P:Program}{σ:Type}{n:Nat}{g:Operand}{ps:Array Tmp}{assign body:Code}{Q:Exit->Act->World->Prop}{a:Act}{w:World}
  {gf:Nat} {lb:Y6} (hg:a.eval g = .func (.func gf) #[] lb) (eg : ∀args w,(callFunc gf args).run P w = .ok (.enter gf args) w)
  (encs:σ->Y6) (hps : ∀x,(encs x).size=ps.size)
  (A B:σ->World->Prop) (X:Code->σ->World->Prop) (Done:World->Prop) (Stop:Code->World->Prop)
  (hA : ∀s W o,A s W->(∃r,W.heap[w.heap.size+1]? = some (.loop r))->A s (W.putObj (w.heap.size+1) (.loop o)))
  (hB : ∀s W o,B s W->(∃r,W.heap[w.heap.size+1]? = some (.loop r))->B s (W.putObj (w.heap.size+1) (.loop o)))
  (hX : ∀c s W o,X c s W->(∃r,W.heap[w.heap.size+1]? = some (.loop r))->X c s (W.putObj (w.heap.size+1) (.loop o)))
  (hDone : ∀W o,Done W->(∃r,W.heap[w.heap.size+1]? = some (.loop r))->Done (W.putObj (w.heap.size+1) (.loop o)))
  (hStop : ∀c W o,Stop c W->(∃r,W.heap[w.heap.size+1]? = some (.loop r))->Stop c (W.putObj (w.heap.size+1) (.loop o)))
  (a₁:σ->Act)
  (hassign : ∀(s:σ) (W:World) (K:Act->World->Prop),A s W->K (a₁ s) W->
   assign.wpIn (Fence.wide.inRound (w.heap.size+1)) (n - 1) P (Exit.then K (fun _ _ _=>False)) { tmps:=(ps.zip (encs s)).foldl (fun t (p,v)=>t.setIfInBounds p v) a.tmps,defers:=[] } W)
  (hbody : ∀(s:σ) (W:World),A s W->(∃r,W.heap[w.heap.size+1]? = some (.loop r))->W.heap[w.heap.size]? = some (.deferred (some []))->body.wpIn (Fence.wide.inRound (w.heap.size+1)) (n - 1) P (Z7i w.heap.size (B s) (fun c=>X c s) W) (a₁ s) W)
  (hiter : ∀(rec:LoopState->Option Code->Loop),
   ZG rec w.heap.size .ready none ((w.alloc (.deferred (some []))).alloc (.loop (rec .ready none)))->
   (∀s W,A s W->ZG rec w.heap.size .ready none W->YieldAt Fence.wide (n - 1) P (w.heap.size+1) (encs s) W fun e W'=>
    (e = .returned (.bool true)/\B s W'/\ZG rec w.heap.size .ready none W')\/(∃c,e = .returned (.bool false)/\X c s W'/\ZG rec w.heap.size .done (some c) W'))->
   CallsIn Fence.wide n P gf (#[.func (.yield (w.heap.size+1)) #[] #[]] ++ lb) ((w.alloc (.deferred (some []))).alloc (.loop (rec .ready none))) fun e W'=>
    (∃v,e = .returned v)/\((Done W'/\ZG rec w.heap.size .ready none W')\/(∃c,Stop c W'/\ZG rec w.heap.size .done (some c) W')))
  (hdone : ∀(W:World),Done W->W.heap[w.heap.size]? = some (.deferred (some []))->Q .normal { a with defers := { target := .collected w.heap.size,args := #[] } :: a.defers } W)
  (hstop : ∀(c:Code) (W:World),Stop c W->W.heap[w.heap.size]? = some (.deferred (some []))->c.wpIn Fence.wide (n+1) P Q { a with defers := { target := .collected w.heap.size,args := #[] } :: a.defers } W):
  (Code.rangeFunc g ps assign body).wpIn Fence.wide (n+1) P Q a w:=by
 refine wpIn_rangeFunc ?_;intro fn hfn;obtain⟨rec,hrec⟩ : ∃rec:LoopState->Option Code->Loop,rec=fun st pe=>{ state:=st,pending:=pe,fn,tmps:=a.tmps,params:=ps,assign,body,defers:=w.heap.size } := ⟨_,rfl⟩;have hnew:ZG rec w.heap.size .ready none ((w.alloc (.deferred (some []))).alloc (.loop (rec .ready none))):=by
  refine⟨?_,(Below.heap_alloc _ _ _ (by simp)).trans (World.alloc_heap_new w _)⟩;have:=World.alloc_heap_new (w.alloc (.deferred (some []))) (.loop (rec .ready none));rwa [World.size_alloc]at this
 have hput : ∀(W:World) (st st':LoopState) (pe pe':Option Code),ZG rec w.heap.size st pe W->ZG rec w.heap.size st' pe' (W.putObj (w.heap.size+1) (.loop (rec st' pe'))):=
  fun W st st' pe pe' h=>⟨World.putObj_heap_same (Array.getElem?_eq_some_iff.1 h.1).1,(World.putObj_heap_other (by omega)).trans h.2⟩
 refine⟨w.heap.size+1,[{ target := .collected w.heap.size,args := #[] }],(w.alloc (.deferred (some []))).alloc (.loop (rec .ready none)),{ target := .fn (.func gf) lb,args := #[.func (.yield (w.heap.size+1)) #[] #[]] },(w.alloc (.deferred (some []))).alloc (.loop (rec .ready none)),gf,
  #[.func (.yield (w.heap.size+1)) #[] #[]] ++ lb,(w.alloc (.deferred (some []))).alloc (.loop (rec .ready none)),?_,?_,?_,?_,?_,?_⟩
 ·rw[hrec];exact run_enterLoop_outer _ _ _ _ _
 ·simp only[resolve,hg];simp[go_sem]
 ·intro f' _;trivial
 ·simp[invoke,go_sem,eg]
 ·intro h;simp[Fence.wide]at h
 ·rw[Nat.add_sub_cancel];refine(hiter rec hnew ?_).mono ?_
  ·intro s W hs hl;have hy:=run_yield (P:=P) (args:=encs s) hl.1 (by rw[hrec];exact hps s);rw[hrec]at hy;refine⟨fn,_,assign,body,hy,roundIn_of_wpIn hfn (hassign s W _ hs ⟨_,run_beginRound hl.1 (by rw[hrec]),?_⟩)⟩;have hbusy:({ rec .ready none with state := .busy } : Loop)=rec .busy none:=by rw[hrec]
   rw[hbusy];have hl2:=hput W .ready .busy none none hl;refine wpIn_mono (hbody s _ (hA s W _ hs ⟨_,hl.1⟩) ⟨_,hl2.1⟩ hl2.2) ?_;have fin : ∀(jump:Option Code) (W3:World),KeepsFrom w.heap.size (W.putObj (w.heap.size+1) (.loop (rec .busy none))) W3->
     (Instr.endRound (w.heap.size+1) jump).run P W3 = .ok (.bool jump.isNone) (W3.putObj (w.heap.size+1) (.loop (rec (if jump.isNone then .ready else .done) jump))) /\
     ZG rec w.heap.size .busy none W3/\ZG rec w.heap.size (if jump.isNone then .ready else .done) jump (W3.putObj (w.heap.size+1) (.loop (rec (if jump.isNone then .ready else .done) jump))):=fun jump W3 hk=>by
    have h3:=hl2.kept hk;have hr:=run_endRound (P:=P) jump h3.1;rw[hrec]at hr ⊢;exact⟨hr,by rw[hrec]at h3;exact h3,by have:=hput W3 .busy (if jump.isNone then .ready else .done) none jump h3;rw[hrec]at this;exact this⟩
   rintro e a3 W3 hp;cases e with
   | normal=>
    obtain⟨hk,hb⟩:=hp;obtain⟨hr,h3,h4⟩:=fin none W3 hk;exact⟨_,_,hr,.inl ⟨rfl,hB s W3 _ hb ⟨_,h3.1⟩,h4⟩⟩
   | ret=>
    obtain⟨hk,hb⟩:=hp;obtain⟨hr,h3,h4⟩:=fin (some .ret) W3 hk;exact⟨_,_,hr,.inr ⟨.ret,rfl,hX _ s W3 _ hb ⟨_,h3.1⟩,h4⟩⟩
   | exit id=>
    obtain⟨hk,hb⟩:=hp;obtain⟨hr,h3,h4⟩:=fin (some (.exit id)) W3 hk;exact⟨_,_,hr,.inr ⟨.exit id,rfl,hX _ s W3 _ hb ⟨_,h3.1⟩,h4⟩⟩
   | goto t=>
    obtain⟨hk,hb⟩:=hp;obtain⟨hr,h3,h4⟩:=fin (some (.goto t)) W3 hk;exact⟨_,_,hr,.inr ⟨.goto t,rfl,hX _ s W3 _ hb ⟨_,h3.1⟩,h4⟩⟩
   | panic ch=>exact hp.elim
   | outgrown=>exact hp.elim
  ·rintro e W2 ⟨⟨v,rfl⟩,(⟨hd,hl⟩ | ⟨c,hs,hl⟩)⟩
   ·refine⟨none,_,by have:=run_endLoop (P:=P) hl.1 (by rw[hrec];simp);rw[hrec]at this;exact this,?_⟩;exact hdone _ (hDone W2 _ hd ⟨_,hl.1⟩) ((World.putObj_heap_other (by omega)).trans hl.2)
   ·refine⟨some c,_,by have:=run_endLoop (P:=P) hl.1 (by rw[hrec];simp);rw[hrec]at this;exact this,?_⟩;exact hstop c _ (hStop c W2 _ hs ⟨_,hl.1⟩) ((World.putObj_heap_other (by omega)).trans hl.2)
attribute [local go_sem] Oper.semAt_some
theorem ZaU {F:Fence}{n:Nat}(w:World){ops:Array Oper}{rest:List Oper}{o:Oper}{a:Act}{Q:Exit->Act->World->Prop}(hgd:o.guard=none)(s x:Operand)
  (ho:o.op = .call { callee := .builtin .append,args := #[s,x],argTypes := #[98,98] }) (base:Nat)
  (sa:zA) (sn sc:Nat) (xs:List (zU)) (hs:a.eval s = .slice sa sn sc) (hown:J5 w base sa sn sc xs)
  (g:Nat) (ya:zA) (m yc:Nat) (l:zU) (hx:a.eval x = .slice (some ⟨g,0,none⟩) 1 1) (hc:w.cell? ⟨g,0,none⟩=some (.slice ya m yc))
  (hy:w.ownsRow 0 5 1 (.slice ya m yc) m (l.map Zr)) (hbytes:sn+1<=16777216) (hbase:base<=w.heap.size)
  (h : ∀a' c' w',J5 w' base a' (sn+1) c' (xs ++ [l])->w.grownBy w' (Value.ownBlock (.slice sa sn sc))->wpListIn F n zq ops Q rest (a.put o.dst (.slice a' (sn+1) c')) w'):
  wpListIn F n zq ops Q (o :: rest) a w:=by
 obtain⟨a',c',w',hr,h2,h3⟩:=Z7h w o.type base sa sn sc xs hown g ya m yc l hc hy hbytes hbase;refine wpListIn_plain hgd fun K hK=>?_;unfold Oper.wpIn;refine⟨?_,?_⟩
 ·simp[Oper.about,ho,resolve,Target.leads,Sem.run_pure]
 ·rw[Oper.semAt_plain F _ _ (by rw[ho];intro c hc';cases hc')];simp[execOp,ho,resolve,invoke,builtin,hs,hx,hr,Result.andThen];exact hK _ _ (h a' c' w' h2 h3)
structure Zb (S:Nat->Prop)(W W':World):Prop where
 os:W'.os=W.os
 tape:W'.tape=W.tape
 output:W'.output=W.output
 size:W.heap.size<=W'.heap.size
 block : ∀k,k < W.heap.size -> ¬S k->W'.heap[k]? = W.heap[k]?
theorem Zb.of_below {S:Nat->Prop}{W W':World}(h:Below W.heap.size W W'):Zb S W W':=⟨h.os,h.tape,h.output,h.size,fun k hk _=>h.block k hk⟩
theorem Zb.of_grown {S:Nat->Prop}{W W':World}{row:Option Nat}(h:W.grownBy W' row)(hr : ∀k,row=some k->S k):Zb S W W':=
 ⟨h.os,h.tape,h.output,h.size,fun k hk hs=>h.block k hk (fun e=>hs (hr k e.symm))⟩
theorem Zb.trans {S:Nat->Prop}{A B C:World}(h:Zb S A B)(k:Zb S B C):Zb S A C:=
 ⟨k.os.trans h.os,k.tape.trans h.tape,k.output.trans h.output,Nat.le_trans h.size k.size,fun i hi hs=>(k.block i (Nat.lt_of_lt_of_le hi h.size) hs).trans (h.block i hi hs)⟩
theorem Zb.below {S:Nat->Prop}{B:Nat}{A W W':World}(h:Zb S W W')(hb:Below B A W)(hB:B<=W.heap.size)(hs : ∀k,S k->B<=k):Below B A W':=
 hb.trans ⟨h.os,h.tape,h.output,h.size,fun k hk=>h.block k (by omega) (fun e=>by have:=hs k e;omega)⟩
theorem Q4 {S:Nat->Prop}{W W':World}{base:Nat}{e:TypeId}{k:Nat}{v:Value}{n:Nat}{xs:List Value}(h:W.ownsRow base e k v n xs)(hs:Zb S W W')
  (hd : ∀b cur fr,S b->W.heap[b]? ≠ some (.cells cur e fr)\/b < base):W'.ownsRow base e k v n xs:=by
 refine⟨h.1,?_⟩;rcases h.2 with h | ⟨g,cap,cur,h,hg,hgg,hr⟩
 ·exact .inl h
 ·refine .inr ⟨g,cap,cur,h,hg,(hs.block g (Array.getElem?_eq_some_iff.1 hgg).1 (fun hsg=>?_)).trans hgg,hr⟩;rcases hd g cur (0,0) hsg with h' | h'
  ·exact h' hgg
  ·omega
theorem J5.same {S:Nat->Prop}{W W':World}{base:Nat}{a:zA}{n c:Nat}{ls:List (zU)}(h:J5 W base a n c ls)(hs:Zb S W W')
  (h1 : ∀b cur fr,S b->W.heap[b]? ≠ some (.cells cur 41 fr)\/b < base) (h2 : ∀b cur fr,S b->W.heap[b]? ≠ some (.cells cur 5 fr)):J5 W' base a n c ls:=by
 obtain⟨vs,k1,k2,k3⟩:=h;refine⟨vs,Q4 k1 hs h1,k2,fun i hi=>?_⟩;obtain⟨ai,ci,k4,k5⟩:=k3 i hi;exact⟨ai,ci,k4,Q4 k5 hs (fun b cur fr hb=>.inl (h2 b cur fr hb))⟩
theorem Z6Z (v v':Value)(hv : ∃a n c,v = .slice a n c)(hv' : ∃a n c,v' = .slice a n c)(w:World):
  Calls zq 108 #[v,v'] w fun e w'=>e = .returned (.func (.func 163) #[] #[.pointer (some ⟨w.heap.size,0,none⟩),.pointer (some ⟨w.heap.size+1,0,none⟩)]) /\
   (w.alloc (.cells #[v] 41)).alloc (.cells #[v'] 41)=w':=by
 obtain⟨a,n,c,rfl⟩:=hv;obtain⟨a',n',c',rfl⟩:=hv';go_enter Tryz.func108,Tryz.ntmps108;go_wp2;go_ret;exact⟨rfl,rfl⟩
def Box (W:World)(b:Nat)(t:TypeId)(v:Value):Prop:=W.heap[b]? = some (.cells #[v] t (0,0))
theorem Box.cell {W:World}{b:Nat}{t:TypeId}{v:Value}(h:Box W b t v):W.cell? ⟨b,0,none⟩=some v:=cell_of_one h
theorem Box.free {W:World}{b:Nat}{t:TypeId}{v:Value}(h:Box W b t v):W.frozen? ⟨b,0,none⟩=false:=free_of_one h
theorem Box.same {S:Nat->Prop}{W W':World}{b:Nat}{t:TypeId}{v:Value}(h:Box W b t v)(hs:Zb S W W')(hn : ¬S b):Box W' b t v:=
 (hs.block b (Array.getElem?_eq_some_iff.1 h).1 hn).trans h
theorem Box.new (W:World)(t:TypeId)(v:Value){b:Nat}(hb:b=W.heap.size):Box (W.alloc (.cells #[v] t)) b t v:=by subst hb;exact heap_alloc_new W _
theorem Box.alloc {W:World}{b:Nat}{t:TypeId}{v:Value}(h:Box W b t v)(o:Obj):Box (W.alloc o) b t v:=h.same (Zb.of_below (S:=fun _=>False) (zB _ o)) id
theorem Box.set {W:World}{b:Nat}{t:TypeId}{v:Value}(h:Box W b t v)(u:Value):Box (W.setCell ⟨b,0,none⟩ u) b t u:=one_setCell h
theorem Box.set_other {W:World}{b b':Nat}{t:TypeId}{v:Value}(h:Box W b t v)(u:Value)(hne:b≠b'):Box (W.setCell ⟨b',0,none⟩ u) b t v:=
 (Below.heap_setCell W ⟨b',0,none⟩ u b hne).trans h
theorem Zb.setCell {S:Nat->Prop}{W:World}{b:Nat}(u:Value)(h:S b):Zb S W (W.setCell ⟨b,0,none⟩ u):=Zb.of_grown (grownBy_setCell' W b u) (fun k e=>by cases e;exact h)
def Ul (w:World)(W:World)(d:List (zU)):Prop:=
 ∃oa oc,Box W w.heap.size 98 (.slice oa d.length oc)/\J5 W (w.heap.size+5) oa d.length oc d/\Box W (w.heap.size+1) 3 (.int .i64 (sOf d))/\Box W (w.heap.size+2) 3 (.int .i64 (4 * (d.length:Int)))/\Below w.heap.size w W/\w.heap.size+5<=W.heap.size
def VP (w:World)(W:World)(l1 l2:zU):Prop:=
 ∃sa sc fa fc,Box W (w.heap.size+3) 41 (.slice sa l1.length sc)/\Ye w sa l1.length sc l1/\Box W (w.heap.size+4) 41 (.slice fa l2.length fc)/\Ye w fa l2.length fc l2
theorem Ul.same {w W W':World}{d:List (zU)}(h:Ul w W d){S:Nat->Prop}(hs:Zb S W W')(hS : ∀k,S k->w.heap.size+3<=k)
  (hd : ∀b cur fr,S b->(W.heap[b]? ≠ some (.cells cur 41 fr)\/b < w.heap.size+5)/\W.heap[b]? ≠ some (.cells cur 5 fr)):Ul w W' d:=by
 obtain⟨oa,oc,h1,h2,h3,h4,h5,h6⟩:=h;exact⟨oa,oc,h1.same hs (fun e=>by have:=hS _ e;omega),h2.same hs (fun b cur fr hb=>(hd b cur fr hb).1) (fun b cur fr hb=>(hd b cur fr hb).2),
  h3.same hs (fun e=>by have:=hS _ e;omega),h4.same hs (fun e=>by have:=hS _ e;omega),hs.below h5 h5.size (fun k e=>by have:=hS k e;omega),Nat.le_trans h6 hs.size⟩
theorem VP.same {w W W':World}{l1 l2:zU}(h:VP w W l1 l2){S:Nat->Prop}(hs:Zb S W W')(h3 : ¬S (w.heap.size+3))(h4 : ¬S (w.heap.size+4)):VP w W' l1 l2:=by
 obtain⟨sa,sc,fa,fc,k1,k2,k3,k4⟩:=h;exact⟨sa,sc,fa,fc,k1.same hs h3,k2,k3.same hs h4,k4⟩
theorem Ul.putObj {w W:World}{d:List (zU)}(h:Ul w W d)(o:Loop)(hl : ∃r,W.heap[w.heap.size+5+1]? = some (.loop r)):Ul w (W.putObj (w.heap.size+5+1) (.loop o)) d:=by
 obtain⟨r,hl⟩:=hl;refine h.same (S:=fun k=>k=w.heap.size+5+1) (Zb.of_grown (grownBy_putObj' W _ _) (fun k e=>by cases e;rfl)) (fun k e=>by omega) (fun b cur fr hb=>?_);subst hb;rw[hl];exact⟨.inl (by simp),by simp⟩
theorem VP.putObj {w W:World}{l1 l2:zU}(h:VP w W l1 l2)(o:Loop):VP w (W.putObj (w.heap.size+5+1) (.loop o)) l1 l2:=
 h.same (S:=fun k=>k=w.heap.size+5+1) (Zb.of_grown (grownBy_putObj' W _ _) (fun k e=>by cases e;rfl)) (by omega) (by omega)
theorem Ul.below {w W W':World}{d:List (zU)}(h:Ul w W d)(hb:Below W.heap.size W W'):Ul w W' d:=
 h.same (S:=fun _=>False) (Zb.of_below hb) (fun _ e=>e.elim) (fun _ _ _ e=>e.elim)
theorem VP.below {w W W':World}{l1 l2:zU}(h:VP w W l1 l2)(hb:Below W.heap.size W W'):VP w W' l1 l2:=
 h.same (S:=fun _=>False) (Zb.of_below hb) id id
theorem Ul.step {w W W3:World}{d:List (zU)}{b:zU}{oa a':zA}{oc c':Nat}(h1:Box W w.heap.size 98 (.slice oa d.length oc))(h3:Box W (w.heap.size+1) 3 (.int .i64 (sOf d)))
  (h4:Box W (w.heap.size+2) 3 (.int .i64 (4 * (d.length:Int)))) (h5:Below w.heap.size w W) (h6:w.heap.size+5<=W.heap.size) (hs:Zb (fun k=>w.heap.size+5<=k) W W3)
  (ho:J5 W3 (w.heap.size+5) a' (d.length+1) c' (d ++ [b])):
  Ul w (((W3.setCell ⟨w.heap.size,0,none⟩ (.slice a' (d.length+1) c')).setCell ⟨w.heap.size+1,0,none⟩ (.int .i64 ((sOf d:Int)+((b.length:Int)+2)))).setCell ⟨w.heap.size+1+1,0,none⟩ (.int .i64 (4 * (d.length:Int)+4))) (d ++ [b]):=by
 have k1:=h1.same hs (by omega);have k3:=h3.same hs (by omega);have k4:=h4.same hs (by omega);have hA:=Zb.setCell (S:=fun k=>k=w.heap.size\/k=w.heap.size+1\/k=w.heap.size+2) (W:=W3) (b:=w.heap.size) (.slice a' (d.length+1) c') (.inl rfl);have hB:=Zb.setCell (S:=fun k=>k=w.heap.size\/k=w.heap.size+1\/k=w.heap.size+2) (W:=W3.setCell ⟨w.heap.size,0,none⟩ (.slice a' (d.length+1) c')) (b:=w.heap.size+1) (.int .i64 ((sOf d:Int)+((b.length:Int)+2))) (.inr (.inl rfl));have hC:=Zb.setCell (S:=fun k=>k=w.heap.size\/k=w.heap.size+1\/k=w.heap.size+2) (W:=(W3.setCell ⟨w.heap.size,0,none⟩ (.slice a' (d.length+1) c')).setCell ⟨w.heap.size+1,0,none⟩ (.int .i64 ((sOf d:Int)+((b.length:Int)+2)))) (b:=w.heap.size+1+1) (.int .i64 (4 * (d.length:Int)+4)) (.inr (.inr rfl));have hall:=(hA.trans hB).trans hC;have hlen:(d ++ [b]).length=d.length+1:=by simp
 refine⟨a',c',?_,?_,?_,?_,?_,?_⟩
 ·rw[hlen];exact((k1.set _).set_other _ (by omega)).set_other _ (by omega)
 ·rw[hlen];refine ho.same hall (fun q cur fr hq=>.inr (by omega)) (fun q cur fr hq=>?_);rcases hq with rfl | rfl | rfl
  ·rw[show W3.heap[w.heap.size]? = _ from k1];simp
  ·rw[show W3.heap[w.heap.size+1]? = _ from k3];simp
  ·rw[show W3.heap[w.heap.size+2]? = _ from k4];simp
 ·have e:((sOf (d ++ [b]):Nat):Int)=(sOf d:Int)+((b.length:Int)+2):=by rw[Z7d];omega
  rw[e];exact((k3.set_other _ (by omega)).set _).set_other _ (by omega)
 ·have e:(4 * ((d ++ [b]).length:Int))=4 * (d.length:Int)+4:=by rw[hlen];omega
  rw[e];exact((k4.set_other _ (by omega)).set_other _ (by omega)).set _
 ·exact hall.below (hs.below h5 h5.size (fun k e=>by omega)) (Nat.le_trans h5.size hs.size) (fun k e=>by omega)
 ·exact Nat.le_trans h6 (Nat.le_trans hs.size hall.size)
def boxLen (W:World)(b:Nat):Nat:=match W.cell? ⟨b,0,none⟩with | some (.slice _ n _)=>n | _=>0
theorem VP.boxLen {w W:World}{l1 l2:zU}(h:VP w W l1 l2):boxLen W (w.heap.size+4)=l2.length:=by
 obtain⟨sa,sc,fa,fc,k1,k2,k3,k4⟩:=h;simp[Go.Proofs.YtlnhppgfhkkidaaGreat.boxLen,k3.cell]
theorem ZbB (x y:Nat)(hx:x < 256)(hy:y < 256):bits .or .i64 (x:Int) ((y:Int) * 256)=((x+256 * y:Nat):Int):=by
 have h:=(bits_nat .i64 16 (by decide) (fun n h0 h1=>by rw[IntKind.wrap_i64];omega) x (256 * y) (by omega) (by omega)).2;have e:(256 * y:Nat)=2 ^ 8 * y:=by omega
 rw[show((y:Int) * 256)=((256 * y:Nat):Int)by omega,h,Nat.or_comm,e,<-Nat.two_pow_add_eq_or_of_lt (by omega) y];omega
theorem Z4D {w:World}{xa:zA}{n c:Nat}{l:zU}(hrd:Ye w xa n c l)(L H:Nat)(lo hi:Option Value)
  (hl:(lo=none/\L=0) \/ ∃kd,lo=some (.int kd (L:Int))) (hh:(hi=none/\H=n) \/ ∃kd,hi=some (.int kd (H:Int))) (h1:L<=H) (h2:H<=n):
  ∃a',(∀W,(Instr.sliceAt 41 (.slice xa n c) lo hi none).run zq W = .ok (.slice a' (H - L) (c - L)) W)/\Ye w a' (H - L) (c - L) ((l.drop L).take (H - L)):=by
 obtain⟨i,hi',hz0,hz1,hz2⟩:=info_parts za;obtain⟨a',hs,hr⟩:=Y3.sliced hrd L H h1 h2;have hnc:=hrd.2.1;refine⟨a',fun W=>?_,?_⟩
 ·rw[<-hs];have hel:zq.elem 41=5:=by simp[Program.elem,Tryz.underlying41]
  rw[run_sliceAt_slice (P:=zq) W 41 _ _ _ _ (by rw[hel];exact Tryz.underlying41),run_slice_any (P:=zq) W 41 xa n c (by rw[hel];exact Tryz.underlying41)];have hb:(Instr.sliceBounds true n c lo hi none).run zq W = .ok (L,H,c) W:=by
   rcases hl with ⟨rfl,rfl⟩ | ⟨kd,rfl⟩ <;> rcases hh with ⟨rfl,rfl⟩ | ⟨kd',rfl⟩
   ·simp[Instr.sliceBounds]
   ·simp[Instr.sliceBounds,run_sliceBound,Result.andThen,(by omega:H<=c)]
   ·simp[Instr.sliceBounds,run_sliceBound,Result.andThen,h1]
   ·simp[Instr.sliceBounds,run_sliceBound,Result.andThen,(by omega:H<=c),h1]
  rw[hb,hel];simp[Result.andThen,sizeOf,typeInfo,hi',hz1]
 ·unfold Ye;rw[List.map_take,List.map_drop];simpa using hr
theorem VP.step {w W:World}{d:List (zU)}{m1 m2:zU}{v1 v2:Value}(hT:Ul w W d)(j1:Box W (w.heap.size+3) 41 v1)(j3:Box W (w.heap.size+4) 41 v2)
  {na ma:zA} {nn mn nc mc:Nat} (h1:Ye w na nn nc m1) (h2:Ye w ma mn mc m2) {rec:LoopState->Option Code->Loop} (hl:ZG rec (w.heap.size+5) .ready none W):
  Ul w ((W.setCell ⟨w.heap.size+3,0,none⟩ (.slice na nn nc)).setCell ⟨w.heap.size+4,0,none⟩ (.slice ma mn mc)).drew d /\
  VP w ((W.setCell ⟨w.heap.size+3,0,none⟩ (.slice na nn nc)).setCell ⟨w.heap.size+4,0,none⟩ (.slice ma mn mc)).drew m1 m2 /\
  ZG rec (w.heap.size+5) .ready none ((W.setCell ⟨w.heap.size+3,0,none⟩ (.slice na nn nc)).setCell ⟨w.heap.size+4,0,none⟩ (.slice ma mn mc)).drew:=by
 have hA:=Zb.setCell (S:=fun k=>k=w.heap.size+3\/k=w.heap.size+4) (W:=W) (b:=w.heap.size+3) (.slice na nn nc) (.inl rfl);have hB:=Zb.setCell (S:=fun k=>k=w.heap.size+3\/k=w.heap.size+4) (W:=W.setCell ⟨w.heap.size+3,0,none⟩ (.slice na nn nc)) (b:=w.heap.size+4) (.slice ma mn mc) (.inr rfl);have hC:=(hA.trans hB);have hall:Zb (fun k=>k=w.heap.size+3\/k=w.heap.size+4) W ((W.setCell ⟨w.heap.size+3,0,none⟩ (.slice na nn nc)).setCell ⟨w.heap.size+4,0,none⟩ (.slice ma mn mc)).drew:=⟨hC.os,hC.tape,hC.output,hC.size,hC.block⟩;refine⟨hT.same hall (fun k e=>by omega) (fun b cur fr hb=>?_),?_,?_⟩
 ·rcases hb with rfl | rfl
  ·rw[show W.heap[w.heap.size+3]? = _ from j1];exact⟨.inr (by omega),by simp⟩
  ·rw[show W.heap[w.heap.size+4]? = _ from j3];exact⟨.inr (by omega),by simp⟩
 ·obtain rfl:=h1.len;obtain rfl:=h2.len;exact⟨na,nc,ma,mc,(j1.set _).set_other _ (by omega),h1,(j3.set_other _ (by omega)).set _,h2⟩
 ·exact⟨(hall.block _ (Array.getElem?_eq_some_iff.1 hl.1).1 (by omega)).trans hl.1,(hall.block _ (Array.getElem?_eq_some_iff.1 hl.2).1 (by omega)).trans hl.2⟩
theorem J5.cells {W:World}{base:Nat}{a:zA}{n c:Nat}{ls:List (zU)}(h:J5 W base a n c ls): ∀(j:Nat) (o:Obj),Value.ownBlock (.slice a n c)=some j->W.heap[j]? = some o->o.isCells=true:=by
 obtain⟨vs,h1,_⟩:=h;intro j o hj ho;rcases h1.2 with ⟨h2,_⟩ | ⟨g,cap,cur,h2,_,hg,_⟩
 ·rw[h2]at hj;simp[Value.ownBlock]at hj
 ·rw[h2]at hj;simp only[Value.ownBlock,Option.some.injEq]at hj;subst hj;rw[hg]at ho;cases ho;rfl
theorem J5.mono {W:World}{base B:Nat}{a:zA}{n c:Nat}{ls:List (zU)}(h:J5 W base a n c ls)(hB:B<=base):J5 W B a n c ls:=by
 obtain⟨vs,h1,h2,h3⟩:=h;exact⟨vs,Zx h1 hB,h2,h3⟩
theorem VP.step3 {w W W3:World}{l1 l2:zU}(h:VP w W l1 l2)(hs:Zb (fun k=>w.heap.size+5<=k) W W3)(v0 v1 v2:Value):
  VP w (((W3.setCell ⟨w.heap.size,0,none⟩ v0).setCell ⟨w.heap.size+1,0,none⟩ v1).setCell ⟨w.heap.size+1+1,0,none⟩ v2) l1 l2:=by
 obtain⟨sa,sc,fa,fc,k1,k2,k3,k4⟩:=h;have j1:=k1.same hs (by omega);have j3:=k3.same hs (by omega);exact⟨sa,sc,fa,fc,((j1.set_other _ (by omega)).set_other _ (by omega)).set_other _ (by omega),k2,((j3.set_other _ (by omega)).set_other _ (by omega)).set_other _ (by omega),k4⟩
structure Z9B where
 d:List (zU)
 l1:zU
 l2:zU
 b:zU
 xa:zA
 xc:Nat
def Z9E (w:World)(s:Z9B)(W:World):Prop:=
 Ul w W s.d/\VP w W s.l1 s.l2/\W.ownsRow 0 5 1 (.slice s.xa s.b.length s.xc) s.b.length (s.b.map Zr)/\s.d.length+1<=4194304/\sOf s.d<=16777216/\s.b.length<=16777216
theorem ZG.below {rec:LoopState->Option Code->Loop}{D:Nat}{st:LoopState}{pe:Option Code}{W W':World}(h:ZG rec D st pe W)(hb:Below W.heap.size W W'):ZG rec D st pe W':=
 ⟨(hb.block _ (Array.getElem?_eq_some_iff.1 h.1).1).trans h.1,(hb.block _ (Array.getElem?_eq_some_iff.1 h.2).1).trans h.2⟩
theorem ZbT (k:Nat)(w:World)(st fo:zU)(hst:st.length<=16777216)(hfo:fo.length<=16777216)(rec:LoopState->Option Code->Loop)(W1:World)(h0:Ul w W1 [])(hL:VP w W1 st fo)(hl:ZG rec (w.heap.size+5) .ready none W1)
  (hY : ∀s W,Z9E w s W->ZG rec (w.heap.size+5) .ready none W->YieldAt Fence.wide (k - 1) zq (w.heap.size+5+1) #[.slice s.xa s.b.length s.xc] W fun e W'=>
    (e = .returned (.bool true)/\(Ul w W' (s.d ++ [s.b])/\VP w W' s.l1 s.l2)/\ZG rec (w.heap.size+5) .ready none W')\/(∃c,e = .returned (.bool false)/\False/\ZG rec (w.heap.size+5) .done (some c) W')):
  CallsIn Fence.wide k zq 163 #[.func (.yield (w.heap.size+5+1)) #[] #[],.pointer (some ⟨w.heap.size+3,0,none⟩),.pointer (some ⟨w.heap.size+4,0,none⟩)] W1 fun e W'=>
    (∃v,e = .returned v)/\((Ul w W' (Zz st fo)/\ZG rec (w.heap.size+5) .ready none W')\/(∃c:Code,False/\ZG rec (w.heap.size+5) .done (some c) W')):=by
 refine callsIn_of_wp Tryz.func163 rfl trivial ?_;simp only[Tryz.ntmps163,List.size_toArray,List.length_cons,List.length_nil,Nat.reduceAdd,Nat.reduceSub,Array.replicate_succ,Array.replicate_zero,List.push_toArray,List.append_toArray,List.nil_append,List.cons_append];gi_wp2;gi_loopw [4,5,6,7] (fun _ _ _ _ wr=>∃(d:List (zU)) (l1 l2:zU),Ul w wr d/\VP w wr l1 l2/\ZG rec (w.heap.size+5) .ready none wr/\Hid (Zz st fo=d ++ Zz l1 l2)/\Hid (sOf d+l1.length=st.length)/\Hid (4 * d.length+l2.length=fo.length)) (fun _ _ _ _ wr=>boxLen wr (w.heap.size+4))
 case atStart=>exact⟨[],st,fo,h0,hL,hl,show _=_ by simp,show _=_ by simp[sOf],show _=_ by simp⟩
 case round=>
  obtain⟨d,l1,l2,hT,hLf,hla,HJ,HS,HD⟩:=hrel;have hbl:=zH hLf.boxLen;obtain⟨sa,sc,fa,fc,k1,k2,k3,k4⟩:=hLf;have c1:=k1.cell;have c2:=k3.cell;have m1:=Y3.maxn k2;have m2:=Y3.maxn k4;have hbw:Below w.heap.size w wr:=by obtain⟨_,_,_,_,_,_,h,_⟩:=hT;exact h
  have HE:Hid (¬Z2i l1 l2 0 0->Zz st fo=d):=by
   intro h;have:=Zau h;rw[List.drop_zero,List.drop_zero]at this;rw[HJ.out,this,List.append_nil]
  by_cases h1:2<=l1.length
  ·by_cases h2:4<=l2.length
   ·have g1:decide ((2:Int)<=(l1.length:Int))=true:=by simp;omega
    have g2:decide ((4:Int)<=(l2.length:Int))=true:=by simp;omega
    have k2w:=k2.below hbw;have k4w:=k4.below hbw;obtain⟨b,off,rfl,hc⟩:=k2w.at (by omega);have hc0:=hc 0 (by omega);have hc1:=hc 1 (by omega);rw[Nat.add_zero]at hc0;clear hc;have q1:(0:Int) < (l1.length:Int):=by omega
    have q2:(1:Int) < (l1.length:Int):=by omega
    have q3:=Z0e l1 0;have q4:=Z0e l1 1;gi_wp2;gi_quiet (fail);have hor:=ZbB (l1[0]?.getD 0).toNat (l1[1]?.getD 0).toNat (by omega) (by omega);have hN:=Ze6 l1 0;have hat:(l1[0]?.getD 0).toNat+256 * (l1[1]?.getD 0).toNat=QJ l1 0:=rfl;rw[hat]at hor;rw[hor];clear hor hat hc0 hc1 q3 q4;generalize hNe:QJ l1 0=N at *;have HN:=zH hNe;clear hNe;have hT1:=hT.below (below_drewN (Below.refl _ _) nq);have hla1:=hla.below (below_drewN (Below.refl _ _) nq);have k1':Box (wr.drewN nq) (w.heap.size+3) 41 _:=k1;have k3':Box (wr.drewN nq) (w.heap.size+4) 41 _:=k3;by_cases h3:N<=8192
    ·have g3:decide ((8192:Int) < (N:Int))=false:=by simp;omega
     by_cases h4:N+2<=l1.length
     ·have g4:decide ((l1.length:Int) < (N:Int)+2)=false:=by simp;omega
      obtain⟨ba,hcut,hbr⟩:=Z4D k2 2 (N+2) (some (.int .i64 2)) (some (.int .i64 ((N:Int)+2))) (.inr ⟨_,rfl⟩) (.inr ⟨_,by go_num⟩) (by omega) h4;have hBe:(l1.drop 2).take (N+2 - 2)=Xr l1 0:=by rw[Xr,HN.out,Nat.zero_add,Nat.add_sub_cancel]
      have hkb:Ye w ba N (sc - 2) (Xr l1 0):=by rw[hBe,Nat.add_sub_cancel]at hbr;exact hbr
      have hBl:(Xr l1 0).length=N:=hkb.len;have HB:=zH hBl;clear hBl;have hbw2:Below w.heap.size w (wr.drewN nq):=below_drewN hbw nq;obtain⟨fa4,hcutf,hbf⟩:=Z4D k4 0 4 none (some (.int .i64 4)) (.inl ⟨rfl,rfl⟩) (.inr ⟨_,rfl⟩) (by omega) h2;clear hbr hBe k1 k3 hla hT k2w k4w;gi_wp2_with fail;clear c1 c2;generalize wr.drewN nq=W2 at *;refine⟨trivial,fun h=>by simp[Fence.wide]at h,?_⟩;refine(callsIn_wide.2 (Z1y _ _ _ (Xr l1 0) _ (hkb.below hbw2) (by omega))).mono ?_;rintro e W3 ⟨a1,c1,a2,c2,rfl,hw1,hw2',hb3⟩;have hw2:=Ye.of_own hw2';clear hw2';have hT3:=hT1.below hb3;have hla3:=hla1.below hb3;have k13:=k1'.same (Zb.of_below (S:=fun _=>False) hb3) id;have k33:=k3'.same (Zb.of_below (S:=fun _=>False) hb3) id;have hbw3:=hbw2.trans (hb3.mono hbw2.size);have d1:=k13.cell;have d2:=k33.cell;clear hT1 hla1 k1' k3' hw1;gi_wp2_with fail;refine⟨trivial,fun h=>by simp[Fence.wide]at h,?_⟩;refine(callsIn_wide.2 (Z2Q _ _ _ _ _ _ _ _ _ hw2 (hbf.below hbw3))).mono ?_;rintro e W4 ⟨bq,rfl,hiff,q,rfl⟩;have hiff':bq=true↔Z2i l1 l2 0 0:=by
       rw[hiff,Z0M];simp only[List.drop_zero,Nat.sub_zero];constructor
       ·intro h;exact⟨h1,h2,by rw[HN.out];exact h3,by rw[HN.out];exact h4,by rw[<-h,HN.out];simp only[Xr,HN.out,Nat.zero_add]⟩
       ·intro h;rw[h.2.2.2.2,HN.out];simp only[Xr,HN.out,Nat.zero_add]
      have HI:=zH hiff';clear hiff hiff' hw2;have hbq:Below W3.heap.size W3 (W3.drewN q):=below_drewN (Below.refl _ _) q;have hT4:=hT3.below hbq;have hla4:=hla3.below hbq;have hbw4:=hbw3.trans (hbq.mono hbw3.size);have k14:=k13.same (Zb.of_below (S:=fun _=>False) hbq) id;have k34:=k33.same (Zb.of_below (S:=fun _=>False) hbq) id;clear hT3 hla3 k13 k33 hbf hb3;cases bq with
      | false=>
       gi_wp2;refine⟨trivial,?_⟩;gi_wp2;refine⟨fun _ h=>(by cases h),?_⟩;gi_wp2;refine bodyPost_ret (results_none rfl _ _ _) rfl ?_;exact⟨⟨_,rfl⟩,.inl ⟨by rw[HE.out (fun h=>by have:=HI.out.2 h;cases this)];exact hT4,hla4⟩⟩
      | true=>
       gi_wp2_with fail;generalize W3.drewN q=W4 at *;refine⟨trivial,fun h=>by simp[Fence.wide]at h,?_⟩;refine(callsIn_wide.2 (Z5U _ _ _ _ _ (by omega) (hkb.below hbw4))).mono ?_;rintro e W5 ⟨xa,xc,rfl,hox,hb5⟩;have hT5:=hT4.below hb5;have hla5:=hla4.below hb5;have k15:=k14.same (Zb.of_below (S:=fun _=>False) hb5) id;have k35:=k34.same (Zb.of_below (S:=fun _=>False) hb5) id;have hL5:VP w W5 l1 l2:=⟨_,_,_,_,k15,k2,k35,k4⟩;have hox5:W5.ownsRow 0 5 1 (.slice xa (Xr l1 0).length xc) (Xr l1 0).length ((Xr l1 0).map Zr):=by
        rw[HB.out];exact Zx hox (Nat.zero_le _)
       obtain⟨fn,tmps,assign,body,hy,hR⟩:=hY ⟨d,l1,l2,Xr l1 0,xa,xc⟩ W5 ⟨hT5,hL5,hox5,by have:=HD.out;show d.length+1<=_;omega,by have:=HS.out;show sOf d<=_;omega,by show(Xr l1 0).length<=_;rw[HB.out];omega⟩ hla5;dsimp only at hy;rw[HB.out]at hy;clear hox hox5 hL5 hT5 hT4 hla4 hla5 k14 k34 k15 k35 hb5 d1 d2;gi_wp2_with fail;refine⟨fun h=>by simp[Fence.wide]at h,?_⟩;refine hR.mono ?_;rintro e W6 (⟨rfl,⟨hT6,hL6⟩,hla6⟩ | ⟨c,_,hf,_⟩)
       ·clear hR hy;obtain⟨sa',sc',fa',fc',j1,j2,j3,j4⟩:=hL6;obtain⟨na,hcn,hrn⟩:=Z4D j2 (N+2) l1.length (some (.int .i64 ((N:Int)+2))) none (.inr ⟨_,by go_num⟩) (.inl ⟨rfl,rfl⟩) h4 (Nat.le_refl _);obtain⟨ma,hcm,hrm⟩:=Z4D j4 4 l2.length (some (.int .i64 4)) none (.inr ⟨_,rfl⟩) (.inl ⟨rfl,rfl⟩) h2 (Nat.le_refl _);have d1:=j1.cell;have d2:=j3.cell;have f1:=j1.free;have f2:=j3.free;gi_wp2;gi_region;have hrn':Ye w na (l1.length - (N+2)) (sc' - (N+2)) (l1.drop (N+2)):=by
         rw[List.take_of_length_le (by simp)]at hrn;exact hrn
        have hrm':Ye w ma (l2.length - 4) (fc' - 4) (l2.drop 4):=by
         rw[List.take_of_length_le (by simp)]at hrm;exact hrm
        obtain⟨hT7,hL7,hla7⟩:=VP.step hT6 j1 j3 hrn' hrm' hla6;have hgo:=Zd1 (HI.out.1 trivial);rw[List.drop_zero,List.drop_zero,HN.out,Nat.zero_add,Nat.zero_add,Nat.add_comm 2 N]at hgo;have HG:=zH hgo;have HB7:=zH hL7.boxLen;clear hgo j1 j2 j3 j4 hcn hrn hcm hrm d1 d2 f1 f2 hrn' hrm' hT6 hla6;have E1:Hid (Zz st fo=(d ++ [Xr l1 0]) ++ Zz (l1.drop (N+2)) (l2.drop 4)):=by
         show _=_;rw[HJ.out,HG.out,List.append_assoc];rfl
        have E2:Hid (sOf (d ++ [Xr l1 0])+(l1.drop (N+2)).length=st.length):=by
         show _=_;rw[Z7d,HB.out,List.length_drop,<-HS.out];omega
        have E3:Hid (4 * (d ++ [Xr l1 0]).length+(l2.drop 4).length=fo.length):=by
         show _=_;rw[List.length_append,List.length_drop,<-HD.out];simp;omega
        go_roundw
        case rel=>
         (repeat apply Exists.intro)
         exact⟨⟨d ++ [Xr l1 0],l1.drop (N+2),l2.drop 4,hT7,hL7,hla7,E1,E2,E3⟩,rfl⟩
        case measure=>rw[HB7.out,hbl.out,List.length_drop];omega
       ·exact hf.elim
     ·have g4:decide ((l1.length:Int) < (N:Int)+2)=true:=by simp;omega
      gi_wp2;refine bodyPost_ret (results_none rfl _ _ _) rfl ?_;exact⟨⟨_,rfl⟩,.inl ⟨by rw[HE.out (fun h=>h4 (by have:=h.2.2.2.1;rw[HN.out]at this;omega))];exact hT1,hla1⟩⟩
    ·have g3:decide ((8192:Int) < (N:Int))=true:=by simp;omega
     gi_wp2;refine bodyPost_ret (results_none rfl _ _ _) rfl ?_;exact⟨⟨_,rfl⟩,.inl ⟨by rw[HE.out (fun h=>h3 (by have:=h.2.2.1;rw[HN.out]at this;omega))];exact hT1,hla1⟩⟩
   ·have g1:decide ((2:Int)<=(l1.length:Int))=true:=by simp;omega
    have g2:decide ((4:Int)<=(l2.length:Int))=false:=by simp;omega
    gi_wp2;go_end0;exact⟨⟨_,rfl⟩,.inl ⟨by rw[HE.out (fun h=>h2 (by have:=h.2.1;omega))];exact hT,hla⟩⟩
  ·have g1:decide ((2:Int)<=(l1.length:Int))=false:=by simp;omega
   gi_wp2;go_end0;exact⟨⟨_,rfl⟩,.inl ⟨by rw[HE.out (fun h=>h1 (by have:=h.1;omega))];exact hT,hla⟩⟩
theorem Z7L (a:zA)(n c:Nat)(st:zU)(a':zA)(n' c':Nat)(fo:zU)(w:World)(hr:Ye w a n c st)(hr':Ye w a' n' c' fo)(hn:n<=16777216)(hn':n'<=16777216):
  Calls zq 47 #[.slice a n c,.slice a' n' c'] w fun e w' => ∃oa oc,e = .returned (.tuple #[.slice oa (Zz st fo).length oc,.int .i64 (sOf (Zz st fo)),.int .i64 (4 * ((Zz st fo).length:Int))]) /\
   J5 w' w.heap.size oa (Zz st fo).length oc (Zz st fo)/\Below w.heap.size w w':=by
 have hl:=hr.len;have hl':=hr'.len;have hst:st.length<=16777216:=by omega
 have hfo:fo.length<=16777216:=by omega
 subst hl;subst hl';refine(callsIn_wide (n:=4)).1 ?_;refine callsIn_of_wp_marks Tryz.func47 rfl trivial ?_;simp only[Tryz.ntmps47,List.size_toArray,List.length_cons,List.length_nil,Nat.reduceAdd,Nat.reduceSub,Array.replicate_succ,Array.replicate_zero,List.push_toArray,List.append_toArray,List.nil_append,List.cons_append];gi_wp2_with (refine⟨trivial,?_⟩;gi_at_call 108;refine(callsIn_wide.2 (Z6Z _ _ ⟨_,_,_,rfl⟩ ⟨_,_,_,rfl⟩ _)).mono ?_;rintro e w' ⟨rfl,rfl⟩);have hsz:(((((w.alloc (.cells #[.slice none 0 0] 98)).alloc (.cells #[.int .i64 0] 3)).alloc (.cells #[.int .i64 0] 3)).alloc (.cells #[.slice a st.length c] 41)).alloc (.cells #[.slice a' fo.length c'] 41)).heap.size=w.heap.size+5:=by simp
 have hbl:Below w.heap.size w (((((w.alloc (.cells #[.slice none 0 0] 98)).alloc (.cells #[.int .i64 0] 3)).alloc (.cells #[.int .i64 0] 3)).alloc (.cells #[.slice a st.length c] 41)).alloc (.cells #[.slice a' fo.length c'] 41)):=
  ((((zB _ _).alloc (by simp) _).alloc (by simp;omega) _).alloc (by simp;omega) _).alloc (by simp;omega) _
 have hT:Ul w (((((w.alloc (.cells #[.slice none 0 0] 98)).alloc (.cells #[.int .i64 0] 3)).alloc (.cells #[.int .i64 0] 3)).alloc (.cells #[.slice a st.length c] 41)).alloc (.cells #[.slice a' fo.length c'] 41)) []:=by
  exact⟨none,0,((((Box.new w _ _ rfl).alloc _).alloc _).alloc _).alloc _,J5.nil _ _,(((Box.new _ _ _ (by simp)).alloc _).alloc _).alloc _,((Box.new _ _ _ (by simp)).alloc _).alloc _,hbl,by rw[hsz];omega⟩
 have hL:VP w (((((w.alloc (.cells #[.slice none 0 0] 98)).alloc (.cells #[.int .i64 0] 3)).alloc (.cells #[.int .i64 0] 3)).alloc (.cells #[.slice a st.length c] 41)).alloc (.cells #[.slice a' fo.length c'] 41)) st fo:=by
  exact⟨a,c,a',c',(Box.new _ _ _ (by simp)).alloc _,hr,Box.new _ _ _ (by simp),hr'⟩
 generalize (((((w.alloc (.cells #[.slice none 0 0] 98)).alloc (.cells #[.int .i64 0] 3)).alloc (.cells #[.int .i64 0] 3)).alloc (.cells #[.slice a st.length c] 41)).alloc (.cells #[.slice a' fo.length c'] 41))=W5 at *;refine Z64 (n:=3) (σ:=Z9B) (w:=W5) (gf:=163) (lb := #[.pointer (some ⟨w.heap.size+3,0,none⟩),.pointer (some ⟨w.heap.size+4,0,none⟩)]) rfl (enters_of Tryz.func163 (by kernel_rfl) rfl)
  (fun s=>#[.slice s.xa s.b.length s.xc]) (fun _=>rfl) (fun s W=>Z9E w s W) (fun s W=>Ul w W (s.d ++ [s.b])/\VP w W s.l1 s.l2) (fun _ _ _=>False) (fun W=>Ul w W (Zz st fo)) (fun _ _=>False) ?hA ?hB ?hX ?hD ?hS
  (fun s=>{ tmps := #[.slice a st.length c,.slice a' fo.length c',undef,undef,.pointer (some ⟨w.heap.size,0,none⟩),.pointer (some ⟨w.heap.size+1,0,none⟩),.pointer (some ⟨w.heap.size+1+1,0,none⟩),.slice s.xa s.b.length s.xc,.slice a st.length c,.slice a' fo.length c',.func (.func 163) #[] #[.pointer (some ⟨w.heap.size+3,0,none⟩),.pointer (some ⟨w.heap.size+4,0,none⟩)],.slice s.xa s.b.length s.xc,undef,undef,undef,undef,undef,undef,undef,undef,undef,undef,undef,undef,undef,undef],defers:=[] })
  ?assign ?body ?iter ?done ?stop
 case hA=>
  rw[hsz];rintro s W o ⟨h1,h2,h3,h4⟩ hlp;obtain⟨r,hr⟩:=hlp;exact⟨h1.putObj o ⟨r,hr⟩,h2.putObj o,ownsRow_putObj h3 _ hr rfl,h4⟩
 case hB=>
  rw[hsz];rintro s W o ⟨h1,h2⟩ hlp;exact⟨h1.putObj o hlp,h2.putObj o⟩
 case hX=>intro _ _ _ _ h _;exact h.elim
 case hD=>
  rw[hsz];intro W o h hlp;exact h.putObj o hlp
 case hS=>intro _ _ _ h _;exact h.elim
 case assign=>
  intro s W K hs hK;gi_wp2;exact hK
 case body=>
  rw[hsz];rintro s W ⟨⟨oa,oc,t1,t2,t3,t4,t5,t6⟩,hLf,hox,hb1,hb2,hb3⟩ hlp hdp;have b1:=t1.cell;have b2:=t3.cell;have b3:=t4.cell;have e1:=t1.free;have e2:=t3.free;have e3:=t4.free;have hal:=zB W (Obj.cells #[Value.slice s.xa s.b.length s.xc] 41);have t2':=t2.below hal;have hy':=Zd hox hal;gi_wp2_with (gi_at_builtin;refine ZaU _ rfl _ _ rfl (w.heap.size+5) _ _ _ s.d rfl t2' W.heap.size _ _ _ s.b rfl (cell_of_one (heap_alloc_new W _)) hy' (by omega) (by simp;omega) ?_;intro a5 c5 w5 ho5 hg5;refine Hid.out ?_);refine zH ?_;have hW5:Zb (fun k=>w.heap.size+5<=k) W w5:=(Zb.of_below hal).trans (Zb.of_grown hg5 (fun k hk=>(t2.lt k hk).1));have hko:KeepsOthers W w5:=(KeepsOthers.alloc W _).trans (KeepsOthers.of_grownBy hg5 t2'.cells);have u1:=t1.same hW5 (by omega);have u2:=t3.same hW5 (by omega);have u3:=t4.same hW5 (by omega);have b1:=u1.cell;have b2:=u2.cell;have b3:=u3.cell;have e1:=u1.free;have e2:=u2.free;have e3:=u3.free;have hst:=Ul.step t1 t3 t4 t5 t6 hW5 ho5;have hlf:=hLf.step3 hW5 (.slice a5 (s.d.length+1) c5) (.int .i64 ((sOf s.d:Int)+((s.b.length:Int)+2))) (.int .i64 (4 * (s.d.length:Int)+4));clear hal t2' hy' hg5 ho5 u1 u2 u3 hW5 hox t1 t2 t3 t4;gi_wp2;exact⟨((hko.trans (KeepsOthers.setCell _ _ _)).trans (KeepsOthers.setCell _ _ _)).trans (KeepsOthers.setCell _ _ _) |>.from _,hst,hlf⟩
 case iter=>
  intro rec hlr hY;rw[hsz]at hlr hY ⊢;have hbb:=(zB W5 (.deferred (some []))).alloc (by simp) (.loop (rec .ready none));exact ZbT 3 w st fo hst hfo rec _ (hT.below hbb) (hL.below hbb) hlr hY
 case done=>
  rw[hsz];rintro W ⟨oa,oc,t1,t2,t3,t4,t5,t6⟩ hK;have b1:=t1.cell;have b2:=t3.cell;have b3:=t4.cell;have e1:=t1.free;have e2:=t3.free;have e3:=t4.free;gi_wp2;gi_region;have hS:Zb (fun k=>k=w.heap.size\/k=w.heap.size+1\/k=w.heap.size+2) W (((W.setCell ⟨w.heap.size,0,none⟩ (.slice oa (Zz st fo).length oc)).setCell ⟨w.heap.size+1,0,none⟩ (.int .i64 (sOf (Zz st fo)))).setCell ⟨w.heap.size+1+1,0,none⟩ (.int .i64 (4 * ((Zz st fo).length:Int)))).drew:=by
   have h:=((Zb.setCell (S:=fun k=>k=w.heap.size\/k=w.heap.size+1\/k=w.heap.size+2) (W:=W) (.slice oa (Zz st fo).length oc) (.inl rfl)).trans (Zb.setCell (.int .i64 (sOf (Zz st fo))) (.inr (.inl rfl)))).trans (Zb.setCell (.int .i64 (4 * ((Zz st fo).length:Int))) (.inr (.inr rfl)));exact⟨h.os,h.tape,h.output,h.size,h.block⟩
  have r1:Box (((W.setCell ⟨w.heap.size,0,none⟩ (.slice oa (Zz st fo).length oc)).setCell ⟨w.heap.size+1,0,none⟩ (.int .i64 (sOf (Zz st fo)))).setCell ⟨w.heap.size+1+1,0,none⟩ (.int .i64 (4 * ((Zz st fo).length:Int)))).drew w.heap.size 98 _:=((t1.set _).set_other _ (by omega)).set_other _ (by omega);have r2:Box (((W.setCell ⟨w.heap.size,0,none⟩ (.slice oa (Zz st fo).length oc)).setCell ⟨w.heap.size+1,0,none⟩ (.int .i64 (sOf (Zz st fo)))).setCell ⟨w.heap.size+1+1,0,none⟩ (.int .i64 (4 * ((Zz st fo).length:Int)))).drew (w.heap.size+1) 3 _:=((t3.set_other _ (by omega)).set _).set_other _ (by omega);have r3:Box (((W.setCell ⟨w.heap.size,0,none⟩ (.slice oa (Zz st fo).length oc)).setCell ⟨w.heap.size+1,0,none⟩ (.int .i64 (sOf (Zz st fo)))).setCell ⟨w.heap.size+1+1,0,none⟩ (.int .i64 (4 * ((Zz st fo).length:Int)))).drew (w.heap.size+1+1) 3 _:=((t4.set_other _ (by omega)).set_other _ (by omega)).set _;have hK':=(hS.block _ (Array.getElem?_eq_some_iff.1 hK).1 (by omega)).trans hK;have ho':=t2.same hS (fun b cur fr hb=>.inr (by omega)) (fun b cur fr hb=>by
   rcases hb with rfl | rfl | rfl
   ·rw[show W.heap[w.heap.size]? = _ from t1];simp
   ·rw[show W.heap[w.heap.size+1]? = _ from t3];simp
   ·rw[show W.heap[w.heap.size+2]? = _ from t4];simp)
  have hb':=hS.below t5 t5.size (fun k e=>by omega);generalize (((W.setCell ⟨w.heap.size,0,none⟩ (.slice oa (Zz st fo).length oc)).setCell ⟨w.heap.size+1,0,none⟩ (.int .i64 (sOf (Zz st fo)))).setCell ⟨w.heap.size+1+1,0,none⟩ (.int .i64 (4 * ((Zz st fo).length:Int)))).drew=W7 at *;gi_wp2;refine⟨by simp,.inl ⟨_,_,rfl,run_takeDeferred hK',?_⟩⟩;have hp:Zb (fun k=>k=w.heap.size+5) W7 (W7.putObj (w.heap.size+5) (.deferred none)):=Zb.of_grown (grownBy_putObj' W7 _ _) (fun k e=>by cases e;rfl);have s1:=(r1.same hp (by omega)).cell;have s2:=(r2.same hp (by omega)).cell;have s3:=(r3.same hp (by omega)).cell;have hb'':=hp.below hb' hb'.size (fun k e=>by omega);have ho'':=ho'.same hp (fun b cur fr hb=>.inl (by subst hb;rw[hK'];simp)) (fun b cur fr hb=>by subst hb;rw[hK'];simp);generalize W7.putObj (w.heap.size+5) (.deferred none)=W8 at *;clear hS r1 r2 r3 hp;refine⟨.tuple #[.slice oa (Zz st fo).length oc,.int .i64 (sOf (Zz st fo)),.int .i64 (4 * ((Zz st fo).length:Int))],?_,oa,oc,rfl,ho''.mono (by omega),hb''⟩;simp[results,Tryz.results47,go_sem,s1,s2,s3]
 case stop=>intro c W h;exact h.elim
theorem Zq {W:World}{p:Nat}{A:Y6}{t:TypeId}(h:W.heap[p]? = some (.cells A t (0,0)))(j:Nat):W.frozen? ⟨p,j,none⟩=false:=by
 simp[World.frozen?,h]
theorem VE (w:World)(p o:Nat)(v:Value):Zb (fun k=>k=p) w (w.setCell ⟨p,o,none⟩ v):=
 Zb.of_grown (row:=some p) ⟨rfl,rfl,rfl,by simp[World.setCell],fun k _ hk=>Below.heap_setCell w ⟨p,o,none⟩ _ k (fun e=>hk (by rw[e]))⟩ (fun k e=>by cases e;rfl)
structure RdP (W:World)(rp:Nat)(l:zU)(a:zA)(n c:Nat):Prop where
 e:W.heap[rp]? = some (.cells #[.slice a n c] 236)
 r:Ye W a n c l
theorem VX {W:World}{rp:Nat}{A:Y6}{t:TypeId}{sp:Nat×Nat}{a:zA}{n c:Nat}{l:zU}(e:W.heap[rp]? = some (.cells A t sp))(hA : ∀v∈A,∀x,v≠Zr x)(hr:Ye W a n c l)(h0:0 < n):
  ∀b off,a=some ⟨b,off,none⟩->b≠rp:=by
 intro b off ha hb;subst hb;obtain⟨b',off',e',hc⟩:=Y3.at hr h0;rw[ha]at e';cases e';have hl:=hr.1;have h1:(l.map Zr)[0]? = some ((l.map Zr)[0]'(by rw[hl];omega)):=List.getElem?_eq_getElem _;have h2:=hc 0 _ h1;simp only[World.cell?,e]at h2;have h3:=Array.mem_of_getElem? h2;rw[List.getElem_map]at h3;exact hA _ h3 _ rfl
theorem Z1N {W W':World}{a:zA}{n c:Nat}{l:zU}{S:Nat->Prop}(hr:Ye W a n c l)(hs:Zb S W W')(hn:0 < n -> ∀b off,a=some ⟨b,off,none⟩ -> ¬S b):Ye W' a n c l:=by
 by_cases h0:0 < n
 ·exact Y3.of_cells hr fun b ⟨off,hb⟩ hlt=>hs.block b hlt (hn h0 b off hb)
 ·have hz:n=0:=by omega
  subst hz;obtain⟨h1,h2,h3,h4⟩:=hr;have hl:l.map Zr=[]:=List.eq_nil_of_length_eq_zero (by omega);refine⟨h1,h2,h3,?_⟩;rcases h4 with h | ⟨b,off,h,_⟩
  ·exact .inl h
  ·exact .inr ⟨b,off,h,fun i x hx=>by rw[hl]at hx;simp at hx⟩
theorem RdP.same {W W':World}{rp:Nat}{l:zU}{a:zA}{n c:Nat}{S:Nat->Prop}(h:RdP W rp l a n c)(hs:Zb S W W')(h1 : ¬S rp)(h2:0 < n -> ∀b off,a=some ⟨b,off,none⟩ -> ¬S b):RdP W' rp l a n c:=
 ⟨(hs.block _ (Array.getElem?_eq_some_iff.1 h.e).1 h1).trans h.e,Z1N h.r hs h2⟩
theorem Z2k {P:Program}(w:World){ops:Array Oper}{rest:List Oper}{o:Oper}{a:Act}{Q:Exit->Act->World->Prop}(hgd:o.guard=none)(x:Operand)(lo hi:Option Operand)(t:TypeId)
  (ho:o.op = .slice t x lo hi none) (e:TypeId) (i:TypeInfo) (size:Nat) (ht:P.underlying t=some (.slice e)) (hi':P.info? e=some i) (hsize:i.size=size)
  (xa:zA) (n c:Nat) (xs:List Value) (hx:a.eval x = .slice xa n c) (hrd:Y3 w size xa n c xs) (L H:Nat)
  (hl:(lo=none/\L=0) \/ ∃q kd,lo=some q/\a.eval q = .int kd (L:Int)) (hh:(hi=none/\H=n) \/ ∃q kd,hi=some q/\a.eval q = .int kd (H:Int)) (h1:L<=H) (h2:H<=n)
  (a':zA) (hs:Go.sliced xa L H c size = .slice a' (H - L) (c - L))
  (h:wpList P ops Q rest (a.put o.dst (.slice a' (H - L) (c - L))) w):wpList P ops Q (o :: rest) a w:=by
 refine wpList_plain hgd fun K hK=>?_;have hnc:=hrd.2.1;have hrun:(Instr.sliceAt t (a.eval x) (lo.map a.eval) (hi.map a.eval) none).run P w = .ok (.slice a' (H - L) (c - L)) w:=by
  rw[hx,<-hs];have hel:P.elem t=e:=by simp[Program.elem,ht]
  rw[run_sliceAt_slice (P:=P) w t _ _ _ _ (by rw[hel];exact ht),run_slice_any (P:=P) w t xa n c (by rw[hel];exact ht)];have hb:(Instr.sliceBounds true n c (lo.map a.eval) (hi.map a.eval) none).run P w = .ok (L,H,c) w:=by
   rcases hl with ⟨rfl,rfl⟩ | ⟨q,kd,rfl,hq⟩ <;> rcases hh with ⟨rfl,rfl⟩ | ⟨q',kd',rfl,hq'⟩
   ·simp[Instr.sliceBounds]
   ·simp[Instr.sliceBounds,hq',run_sliceBound,Result.andThen,(by omega:H<=c)]
   ·simp[Instr.sliceBounds,hq,run_sliceBound,Result.andThen,h1]
   ·simp[Instr.sliceBounds,hq,hq',run_sliceBound,Result.andThen,(by omega:H<=c),h1]
  rw[hb,hel];simp[Result.andThen,sizeOf,typeInfo,hi',hsize]
 unfold Oper.wp;simp only[execOp,ho];simp[hrun,Result.andThen];exact hK _ _ h
theorem Z1K (w:World){ops:Array Oper}{rest:List Oper}{o:Oper}{a:Act}{Q:Exit->Act->World->Prop}(hgd:o.guard=none)(x:Operand)(lo hi:Option Operand)
  (ho:o.op = .slice 41 x lo hi none) (xa:zA) (n c:Nat) (l:zU) (hx:a.eval x = .slice xa n c) (hrd:Ye w xa n c l) (L H:Nat)
  (hl:(lo=none/\L=0) \/ ∃q kd,lo=some q/\a.eval q = .int kd (L:Int)) (hh:(hi=none/\H=n) \/ ∃q kd,hi=some q/\a.eval q = .int kd (H:Int)) (h1:L<=H) (h2:H<=n)
  (h : ∀a',(∀W,Ye W xa n c l->Ye W a' (H - L) (c - L) ((l.drop L).take (H - L)))->wpList zq ops Q rest (a.put o.dst (.slice a' (H - L) (c - L))) w):wpList zq ops Q (o :: rest) a w:=by
 obtain⟨i,hi',hz0,hz1,hz2⟩:=info_parts za;obtain⟨a1,hs1,hr1⟩:=Y3.sliced hrd L H h1 h2;have key : ∀W,Ye W xa n c l->Ye W a1 (H - L) (c - L) ((l.drop L).take (H - L)):=fun W hW=>by
  obtain⟨a2,hs2,hr2⟩:=Y3.sliced hW L H h1 h2;rw[hs1]at hs2;cases hs2;unfold Ye;rw[List.map_take,List.map_drop];simpa using hr2
 have hg:=h a1 key;refine Z2k w hgd x lo hi 41 ho 5 i 1 Tryz.underlying41 hi' hz1 xa n c _ hx hrd L H hl hh h1 h2 a1 hs1 hg
def Z32:PanicEntry := { v := .iface 233 (.agg #[]),recovered:=false }
theorem Z9T (rp:Nat)(a:zA)(n c:Nat)(w:World)(h:RdP w rp [] a n c):
  Calls zq 148 #[.pointer (some ⟨rp,0,none⟩),.int .i64 1] w fun e w'=>e = .panicked [Z32]/\w'=w:=by
 have hn:n=0:=by have:=h.r.1;simpa using this.symm
 subst hn;have c0:w.cell? ⟨rp,0,none⟩=some (.slice a 0 c):=Z6 h.e 0 _ rfl;go_enter Tryz.func148,Tryz.ntmps148;go_wp2_with fail;exact⟨rfl,rfl,rfl⟩
theorem Z9S (rp:Nat)(x:UInt8)(t:zU)(a:zA)(n c:Nat)(w:World)(h:RdP w rp (x :: t) a n c):
  Calls zq 148 #[.pointer (some ⟨rp,0,none⟩),.int .i64 1] w fun e w' => ∃a1 c1 a2 n2 c2,e = .returned (.slice a1 1 c1)/\Ye w' a1 1 c1 [x]/\RdP w' rp t a2 n2 c2/\Zb (fun k=>k=rp) w w'/\(∀W,Ye W a n c (x :: t)->Ye W a2 n2 c2 t):=by
 have hn:n=t.length+1:=by have:=h.r.1;simpa using this.symm
 subst hn;obtain⟨m,hm⟩ : ∃m,Hid (m=t.length+1):=⟨_,zH rfl⟩;rw[<-hm.out]at h;have h1m:1<=m:=by have:=hm.out;omega
 have c0:w.cell? ⟨rp,0,none⟩=some (.slice a m c):=Z6 h.e 0 _ rfl;have f0:=Zq h.e 0;have hr:=zH h.r;have HH:=zH h;clear h;have hgt:decide ((m:Int) < 1)=false:=by simp;omega
 go_enter Tryz.func148,Tryz.ntmps148;go_wp2_with (first
  |(refine Z1K _ rfl _ _ none rfl _ _ _ _ rfl hr.out 1 m (.inr ⟨_,.i64,rfl,by go_num⟩) (.inl ⟨rfl,rfl⟩) h1m (Nat.le_refl _) ?_;intro sb hsb;have HSB:=zH hsb;clear hsb)
  |(refine Z33 _ rfl _ none _ rfl _ _ _ _ rfl hr.out 0 1 (.inl ⟨rfl,rfl⟩) (.inr ⟨_,.i64,rfl,by go_num⟩) (by omega) h1m ?_;intro sa hsl;have HSL:=zH hsl;clear hsl))
 go_ret;have hS:=VE w rp 0 (.slice sb (m - 1) (c - 1));have he:=heap_setCell_same w rp 0 _ _ (.slice sb (m - 1) (c - 1)) HH.out.e;have hcell : ∀v ∈ #[Value.slice a m c],∀x,v≠Zr x:=by intro v hv x;simp at hv;subst hv;intro hh;cases hh
 have h1:Ye (w.setCell ⟨rp,0,none⟩ (.slice sb (m - 1) (c - 1))) sa 1 c [x]:=Z1N (by simpa using HSL.out) hS (fun h0=>VX HH.out.e hcell (by simpa using HSL.out) h0);have h4 : ∀W,Ye W a m c (x :: t)->Ye W sb (m - 1) (c - 1) t:=fun W hW=>by have:=HSB.out W hW;rw[hm.out]at this ⊢;simpa using this
 have h2:=h4 w HH.out.r;have h3:RdP (w.setCell ⟨rp,0,none⟩ (.slice sb (m - 1) (c - 1))) rp t sb (m - 1) (c - 1):=⟨he,Z1N h2 hS (fun h0=>VX HH.out.e hcell h2 h0)⟩
 first
  | exact⟨sa,c,sb,m - 1,c - 1,rfl,h1,h3,hS,by rw[<-hm.out];exact h4⟩
theorem Z8s (x:Nat)(h:x < 18446744073709551616):bits .and .u64 (x:Int) 127=((x % 128:Nat):Int):=by
 show IntKind.u64.wrap ((BitVec.ofInt 64 (x:Int) &&& BitVec.ofInt 64 127).toNat:Int)=_;have h1:(BitVec.ofInt 64 (x:Int)).toNat=x:=by rw[BitVec.ofInt_natCast,BitVec.toNat_ofNat];exact Nat.mod_eq_of_lt (by omega)
 rw[BitVec.toNat_and,h1,show(BitVec.ofInt 64 127).toNat=2 ^ 7 - 1 from rfl,Nat.and_two_pow_sub_one_eq_mod,IntKind.wrap_u64];omega
theorem Zbj (x:Nat)(h:x < 18446744073709551616):bits .and .u64 (x:Int) 1=((x % 2:Nat):Int):=by
 show IntKind.u64.wrap ((BitVec.ofInt 64 (x:Int) &&& BitVec.ofInt 64 1).toNat:Int)=_;have h1:(BitVec.ofInt 64 (x:Int)).toNat=x:=by rw[BitVec.ofInt_natCast,BitVec.toNat_ofNat];exact Nat.mod_eq_of_lt (by omega)
 rw[BitVec.toNat_and,h1,show(BitVec.ofInt 64 1).toNat=2 ^ 1 - 1 from rfl,Nat.and_two_pow_sub_one_eq_mod,IntKind.wrap_u64];omega
theorem Z8r (i v y:Nat)(hi:i<=8)(hv:v < 128 ^ i)(hy:y < 128):bits .or .u64 (v:Int) ((y * 128 ^ i:Nat):Int)=((v+y * 128 ^ i:Nat):Int):=by
 have hp:128 ^ i<=128 ^ 8:=Nat.pow_le_pow_right (by omega) hi;have hp8:128 ^ 8=72057594037927936:=by decide
 have hm:y * 128 ^ i<=127 * 128 ^ i:=Nat.mul_le_mul_right _ (by omega);show IntKind.u64.wrap ((BitVec.ofInt 64 (v:Int) ||| BitVec.ofInt 64 ((y * 128 ^ i:Nat):Int)).toNat:Int)=_;have h1 : ∀z:Nat,z < 18446744073709551616->(BitVec.ofInt 64 (z:Int)).toNat=z:=fun z hz=>by rw[BitVec.ofInt_natCast,BitVec.toNat_ofNat];exact Nat.mod_eq_of_lt (by omega)
 rw[BitVec.toNat_or,h1 v (by omega),h1 _ (by omega),Nat.or_comm];have e:128 ^ i=2 ^ (7 * i):=by rw[Nat.pow_mul]
 have h2:=Nat.two_pow_add_eq_or_of_lt (i:=7 * i) (b:=v) (by rw[<-e];exact hv) y;rw[<-e]at h2;rw[Nat.mul_comm y,<-h2,IntKind.wrap_u64,Nat.mul_comm]at *;omega
theorem ZdI (y i:Nat)(hi:i<=8)(hy:y < 128):IntKind.u64.wrap ((y:Int) * 2 ^ (7 * i))=((y * 128 ^ i:Nat):Int):=by
 have e:128 ^ i=2 ^ (7 * i):=by rw[Nat.pow_mul]
 have hp:128 ^ i<=128 ^ 8:=Nat.pow_le_pow_right (by omega) hi;have hp8:128 ^ 8=72057594037927936:=by decide
 have hm:y * 128 ^ i<=127 * 128 ^ i:=Nat.mul_le_mul_right _ (by omega);have e2:(y:Int) * 2 ^ (7 * i)=((y * 128 ^ i:Nat):Int):=by
  rw[e];push_cast;rfl
 rw[e2,IntKind.wrap_u64];omega
theorem ZaM (i v y:Nat)(hv:v < 128 ^ i)(hy:y < 128):v+y * 128 ^ i < 128 ^ (i+1):=by
 have hm:y * 128 ^ i<=127 * 128 ^ i:=Nat.mul_le_mul_right _ (by omega);rw[Nat.pow_succ];omega
theorem v63 (i v:Nat)(hi:i<=8)(hv:v < 128 ^ (i+1)):v < 9223372036854775808:=by
 have h2:128 ^ (i+1)<=128 ^ 9:=Nat.pow_le_pow_right (by omega) (by omega);have h3:128 ^ 9=9223372036854775808:=by decide
 exact Nat.lt_of_lt_of_le hv (h3 ▸ h2)
theorem ZaF {v:Nat}(h:v < 9223372036854775808):wrap64 ((v:Int) / 2)=((v / 2:Nat):Int):=by unfold wrap64;omega
theorem Zd6 {v:Nat}(h:v < 9223372036854775808):v / 2 < 4611686018427387904:=by omega
theorem Z5w {l:zU}(h:Z19 0 0 l=none):Xu l=none:=by unfold Xu;rw[h]
theorem Z5v {l t:zU}{u:Nat}(h:Z19 0 0 l=some (u,t)):Xu l=some (zag u,t):=by unfold Xu;rw[h]
theorem VZ (rp:Nat)(l:zU)(a:zA)(n c:Nat)(w:World)(h:RdP w rp l a n c):
  Calls zq 146 #[.pointer (some ⟨rp,0,none⟩)] w fun e w'=>(∃z t a2 n2 c2,Xu l=some (z,t)/\e = .returned (.int .i64 z)/\RdP w' rp t a2 n2 c2/\Zb (fun k=>k=rp) w w'/\(∀W,Ye W a n c l->Ye W a2 n2 c2 t)) \/
   (Xu l=none/\e = .panicked [Z32]/\Zb (fun k=>k=rp) w w'):=by
 have HH:=zH h;clear h;have hsg:IntKind.u64.signed=false:=rfl;go_enter Tryz.func146,Tryz.ntmps146;go_wp2_with fail;go_loopw [3,4,5] (fun u s _ wr=>∃(i v:Nat) (k:zU) (a':zA) (n' c':Nat),u = .int .u64 v/\s = .int .i64 (7 * i:Nat)/\i<=9/\v < 128 ^ i/\Hid (Z19 i v k=Z19 0 0 l)/\Hid (RdP wr rp k a' n' c')/\Hid (Zb (fun k=>k=rp) w wr /\ ∀W,Ye W a n c l->Ye W a' n' c' k)) (fun _ s _ _=>100 - (intOf s).toNat)
 case atStart=>exact⟨0,0,l,a,n,c,rfl,rfl,by omega,by simp,zH rfl,HH,zH ⟨⟨rfl,rfl,rfl,Nat.le_refl _,fun _ _ _=>rfl⟩,fun _ h=>h⟩⟩
 case round=>
  obtain⟨i,v,k,a',n',c',rfl,rfl,hi,hv,HD,HR,HS⟩:=hrel;have HV:=zH hv;clear hv;cases k with
  | nil=>
   go_wp2_with fail;refine(Z9T rp a' n' c' wr HR.out).mono ?_;rintro e w1 ⟨rfl,rfl⟩;go_wp2_with fail;exact⟨rfl,.inr ⟨Z5w (by rw[<-HD.out];rfl),rfl,HS.out.1⟩⟩
  | cons x t=>
   go_wp2_with fail;refine(Z9S rp x t a' n' c' wr HR.out).mono ?_;rintro e w1 ⟨a1,c1,a2,n2,c2,rfl,h1,h2,h3,h4⟩;obtain⟨b,off,rfl,hc⟩:=Y3.at h1 (by omega);have e1:w1.cell? ⟨b,off,none⟩=some (.int .u8 (x.toNat:Int)):=by have:=hc 0 (Zr x) rfl;simpa [Zr] using this
   have hx:=x.toNat_lt;have H2:=zH h2;have H3:=zH (show Zb (fun k=>k=rp) w w1 /\ ∀W,Ye W a n c l->Ye W a2 n2 c2 t from⟨HS.out.1.trans h3,fun W hW=>h4 W (HS.out.2 W hW)⟩);clear hc h1 h2 h3 h4;by_cases h9:9<=i
   ·have h56:decide ((56:Int) < 7 * (i:Int))=true:=by simp;omega
    go_wp2_with fail;exact⟨rfl,.inr ⟨Z5w (by rw[<-HD.out,Z19,if_pos h9]),rfl,H3.out.1⟩⟩
   ·have h56:decide ((56:Int) < 7 * (i:Int))=false:=by simp;omega
    have hand:=Z8s x.toNat (by omega);have hor:=Z8r i v (x.toNat % 128) (by omega) HV.out (by omega);have hshl:=ZdI (x.toNat % 128) i (by omega) (by omega);have hw:=ZaM i v (x.toNat % 128) HV.out (by omega);have HDD:=zH (show Z19 i v (x :: t)=if x.toNat < 128 then some (v+x.toNat % 128 * 128 ^ i,t)else Z19 (i+1) (v+x.toNat % 128 * 128 ^ i) t by rw[Z19,if_neg h9]);have HW:=zH hw;clear hw;obtain⟨p,hp⟩ : ∃p,Hid (p=x.toNat % 128 * 128 ^ i):=⟨_,zH rfl⟩;rw[<-hp.out]at hor hshl HDD HW;obtain⟨y,hy⟩ : ∃y,Hid (y=x.toNat % 128):=⟨_,zH rfl⟩;rw[<-hy.out]at hand hshl;obtain⟨v2,hv2⟩ : ∃v2,Hid (v2=v+p):=⟨_,zH rfl⟩;rw[<-hv2.out]at hor HDD HW;have hv63:=v63 i v2 (by omega) HW.out;have hand1:=Zbj v2 (Nat.lt_trans hv63 (by decide));have hw2:=ZaF hv63;have hlt:=Zd6 hv63;obtain⟨q,hq⟩ : ∃q,Hid (q=v2 / 2):=⟨_,zH rfl⟩;rw[<-hq.out]at hw2 hlt;have HV63:=zH hv63;clear hv63;by_cases h128:(x.toNat:Int) < 128
    ·have HDE:=zH (HD.out.symm.trans (HDD.out.trans (if_pos (by omega))));rcases Nat.mod_two_eq_zero_or_one v2 with hm | hm
     ·have hb1:(((v2 % 2:Nat):Int)==1)=false:=by rw[hm];rfl
      have HM:=zH hm;clear hm;obtain⟨r,hr⟩ : ∃r,Hid (r=v2 % 2):=⟨_,zH rfl⟩;rw[<-hr.out]at hb1 hand1;go_wp2;go_ret;refine .inl ⟨_,_,_,_,_,Z5v HDE.out,?_,H2.out,H3.out⟩;rw[zag,if_pos HM.out,<-hq.out];show Ending.returned (Value.int .i64 (wrap64 ((v2:Int) / 2)))=_;rw[hw2]
     ·have hb1:(((v2 % 2:Nat):Int)==1)=true:=by rw[hm];rfl
      have HM:=zH hm;clear hm;obtain⟨r,hr⟩ : ∃r,Hid (r=v2 % 2):=⟨_,zH rfl⟩;rw[<-hr.out]at hb1 hand1;go_wp2;go_ret;refine .inl ⟨_,_,_,_,_,Z5v HDE.out,?_,H2.out,H3.out⟩;rw[zag,if_neg (by rw[HM.out];decide),<-hq.out];rfl
    ·have HDE:=zH (HD.out.symm.trans (HDD.out.trans (if_neg (by omega))));go_wp2;go_roundw
     case rel=>exact⟨i+1,v2,t,a2,n2,c2,rfl,by go_num,by omega,HW.out,zH HDE.out.symm,H2,H3⟩
     case measure=>simp[intOf];omega
theorem Za1: ∀(xs:List Int) (z:Int),xs.length < 15->(Z5 (mkN xs [] []) none 0).setIfInBounds xs.length (.int .i64 z)=Z5 (mkN (xs ++ [z]) [] []) none 0
 | [],_,_=>rfl
 | [_],_,_=>rfl
 | [_,_],_,_=>rfl
 | [_,_,_],_,_=>rfl
 | [_,_,_,_],_,_=>rfl
 | [_,_,_,_,_],_,_=>rfl
 | [_,_,_,_,_,_],_,_=>rfl
 | [_,_,_,_,_,_,_],_,_=>rfl
 | [_,_,_,_,_,_,_,_],_,_=>rfl
 | [_,_,_,_,_,_,_,_,_],_,_=>rfl
 | [_,_,_,_,_,_,_,_,_,_],_,_=>rfl
 | [_,_,_,_,_,_,_,_,_,_,_],_,_=>rfl
 | [_,_,_,_,_,_,_,_,_,_,_,_],_,_=>rfl
 | [_,_,_,_,_,_,_,_,_,_,_,_,_],_,_=>rfl
 | [_,_,_,_,_,_,_,_,_,_,_,_,_,_],_,_=>rfl
 | _ :: _ :: _ :: _ :: _ :: _ :: _ :: _ :: _ :: _ :: _ :: _ :: _ :: _ :: _ :: _,_,h=>absurd h (by simp only[List.length_cons];omega)
theorem Z8x (xs ys:List Int)(sa:zA)(sc:Nat): ∀(zs:List Int) (z:Int),zs.length < 3->(Z5 (mkN xs ys zs) sa sc).setIfInBounds (16+zs.length) (.int .i64 z)=Z5 (mkN xs ys (zs ++ [z])) sa sc
 | [],_,_=>rfl
 | [_],_,_=>rfl
 | [_,_],_,_=>rfl
 | _ :: _ :: _ :: _,_,h=>absurd h (by simp only[List.length_cons];omega)
theorem Z77 (xs ys ys':List Int)(sa sa':zA)(sc sc' m:Nat)(h:m=ys'.length):(Z5 (mkN xs ys []) sa sc).setIfInBounds 15 (.slice sa' m sc')=Z5 (mkN xs ys' []) sa' sc':=by
 subst h;rfl
theorem Z2H {f:zU->Option (Int×zU)}{k:Nat}{l t t':zU}{xs:List Int}{z:Int}(h:J7 f k l=some (xs,t))(h2:f t=some (z,t')):J7 f (k+1) l=some (xs ++ [z],t'):=by
 rw[J7,h];simp only[h2]
theorem Zal {f:zU->Option (Int×zU)}{l:zU}{k:Nat}(h:J7 f k l=none): ∀j,k<=j->J7 f j l=none:=by
 intro j hj
 induction j with
 | zero=>rw[show(0:Nat)=k by omega];exact h
 | succ j ih=>
  by_cases hk:k=j+1
  ·rw[<-hk];exact h
  ·rw[J7,ih (by omega)]
theorem Z2I {f:zU->Option (Int×zU)}{k:Nat}{l t:zU}{xs:List Int}(h:J7 f k l=some (xs,t))(h2:f t=none)(j:Nat)(hj:k < j):J7 f j l=none:=by
 refine Zal (k:=k+1) ?_ j hj;rw[J7,h];simp only[h2]
def U6 (f:zU->Option (Int×zU))(l:zU):Option (Nat×zU):=match f l with
 | some (c,t)=>if 0<=c/\c<=t.length then some (c.toNat,t)else none
 | none=>none
theorem Z9q {f:zU->Option (Int×zU)}{l:zU}(h:J7 f 15 l=none):Qq f l=none:=by
 unfold Qq;rw[h]
theorem Z9p {f:zU->Option (Int×zU)}{l t:zU}{x:List Int}(h:J7 f 15 l=some (x,t))(h2:U6 f t=none):Qq f l=none:=by
 unfold Qq U6 at *;rw[h];cases e:f t with
 | none=>simp only[e]
 | some p=>
  obtain⟨c,t1⟩:=p;rw[e]at h2;simp only at h2;simp only[e];split at h2
  ·cases h2
  ·rename_i h3;rw[if_neg h3]
theorem Z6r {f:zU->Option (Int×zU)}{l t t1:zU}{x:List Int}{k:Nat}(h:J7 f 15 l=some (x,t))(h2:U6 f t=some (k,t1)):Qq f l=match J7 f k t1 with
  | some (y,t2)=>match J7 f 3 t2 with
   | some (z,t3)=>some (mkN x y z,t3)
   | none=>none
  | none=>none:=by
 unfold Qq U6 at *;rw[h];cases e:f t with
 | none=>rw[e]at h2;cases h2
 | some p=>
  obtain⟨c,t1'⟩:=p;rw[e]at h2;simp only at h2;split at h2
  ·rename_i h3;simp only[Option.some.injEq,Prod.mk.injEq]at h2;obtain⟨rfl,rfl⟩:=h2;simp only[e,if_pos h3];rfl
  ·cases h2
theorem Z4j (rp:Nat)(l:zU)(a:zA)(n c:Nat)(w:World)(h:RdP w rp l a n c):
  Calls zq 147 #[.pointer (some ⟨rp,0,none⟩)] w fun e w'=>(∃(k:Nat) (t:zU) (a2:zA) (n2 c2:Nat),U6 Xu l=some (k,t)/\k<=t.length/\e = .returned (.int .i64 k)/\RdP w' rp t a2 n2 c2/\Zb (fun k=>k=rp) w w'/\(∀W,Ye W a n c l->Ye W a2 n2 c2 t)) \/
   (U6 Xu l=none/\e = .panicked [Z32]/\Zb (fun k=>k=rp) w w'):=by
 go_enter Tryz.func147,Tryz.ntmps147;go_wp2_with fail;refine(VZ rp l a n c w h).mono ?_;rintro e w1 (⟨z,t,a2,n2,c2,h1,rfl,h2,h3⟩ | ⟨h1,rfl,h3⟩)
 ·obtain⟨h3,h4⟩:=h3;have c0:w1.cell? ⟨rp,0,none⟩=some (.slice a2 n2 c2):=Z6 h2.e 0 _ rfl;have hn:t.length=n2:=by have:=h2.r.1;simpa using this
  have H1:=zH h1;clear h1;have H2:=zH h2;clear h2;have H3:=zH h3;clear h3;have H4:=zH h4;clear h4;have HN:=zH hn;clear hn;by_cases hz:z < 0
  ·have HF:=zH (show U6 Xu l=none by unfold U6;rw[H1.out];simp only;rw[if_neg (by omega)]);have hz1:decide (z < 0)=true:=by simp[hz]
   go_wp2_with fail;exact⟨rfl,.inr ⟨HF.out,rfl,H3.out⟩⟩
  ·have hz1:decide (z < 0)=false:=by simp;omega
   by_cases hc:(n2:Int) < z
   ·have HF:=zH (show U6 Xu l=none by unfold U6;rw[H1.out];simp only;rw[if_neg (by rw[HN.out];omega)]);have hc1:decide ((n2:Int) < z)=true:=by simp[hc]
    go_wp2_with fail;exact⟨rfl,.inr ⟨HF.out,rfl,H3.out⟩⟩
   ·have HF:=zH (show U6 Xu l=some (z.toNat,t)by unfold U6;rw[H1.out];simp only;rw[if_pos (by rw[HN.out];omega)]);have hc1:decide ((n2:Int) < z)=false:=by simp;omega
    obtain⟨k,rfl⟩ : ∃k:Nat,z=(k:Int):=⟨z.toNat,by omega⟩;go_wp2;go_ret;exact .inl ⟨k,t,a2,n2,c2,HF.out,by rw[HN.out];omega,rfl,H2.out,H3.out,H4.out⟩
 ·have H1:=zH h1;clear h1;have H3:=zH h3;clear h3;go_wp2_with fail;exact⟨rfl,.inr ⟨by unfold U6;rw[H1.out],rfl,H3.out⟩⟩
theorem YZ {W W':World}{S S':Nat->Prop}(h:Zb S W W')(hi : ∀k,S k->S' k):Zb S' W W':=
 ⟨h.os,h.tape,h.output,h.size,fun k hk hs=>h.block k hk (fun e=>hs (hi k e))⟩
theorem Z1Q (m:Z8)(sa:zA)(sc:Nat): ∀v∈Z5 m sa sc,∀x,v≠Zr x:=by
 intro v hv x;simp only[Z5,Z8.cells,List.mem_toArray,List.mem_cons,List.not_mem_nil,or_false]at hv;rcases hv with rfl | rfl | rfl | rfl | rfl | rfl | rfl | rfl | rfl | rfl | rfl | rfl | rfl | rfl | rfl | rfl | rfl | rfl | rfl <;> (intro h;cases h)
theorem Z86: ∀(l:zU) (i u v:Nat) (t:zU),Z19 i u l=some (v,t)->t.length<=l.length
 | [],i,u,v,t,h=>by simp[Z19]at h
 | c :: l,i,u,v,t,h=>by
  rw[Z19]at h
  split at h
  ·cases h
  ·split at h
   ·simp only[Option.some.injEq,Prod.mk.injEq]at h
    rw[<-h.2,List.length_cons];omega
   ·have:=Z86 l _ _ v t h
    rw[List.length_cons];omega
theorem Z7s {l t:zU}{z:Int}(h:Xu l=some (z,t)):t.length<=l.length:=by
 unfold Xu at h;split at h
 ·rename_i e;simp only[Option.some.injEq,Prod.mk.injEq]at h;rw[<-h.2];exact Z86 _ _ _ _ _ e
 ·cases h
theorem Z2J {l:zU}: ∀(k:Nat) {t:zU} {xs:List Int},J7 Xu k l=some (xs,t)->t.length<=l.length
 | 0,t,xs,h=>by simp only[J7,Option.some.injEq,Prod.mk.injEq]at h;rw[h.2];exact Nat.le_refl _
 | k+1,t,xs,h=>by
  rw[J7]at h
  split at h
  ·rename_i e
   split at h
   ·rename_i e2
    simp only[Option.some.injEq,Prod.mk.injEq]at h
    rw[<-h.2]
    exact Nat.le_trans (Z7s e2) (Z2J k e)
   ·cases h
  ·cases h
theorem Z7G {l t:zU}{k:Nat}(h:U6 Xu l=some (k,t)):t.length<=l.length:=by
 unfold U6 at h;split at h
 ·rename_i e;split at h
  ·simp only[Option.some.injEq,Prod.mk.injEq]at h;rw[<-h.2];exact Z7s e
  ·cases h
 ·cases h
structure Z1b (wf W:World)(rp nb B:Nat)(m:Z8)(sa:zA)(sc:Nat)(t:zU)(a:zA)(n c:Nat):Prop where
 e:W.heap[nb]? = some (.cells (Z5 m sa sc) 47)
 r:RdP W rp t a n c
 s:Zb (fun k=>k=rp\/k=nb\/B<=k) wf W
 o:Ye wf a n c t
section
variable {wf W W':World}{rp nb B:Nat}{m:Z8}{sa:zA}{sc:Nat}{t:zU}{a:zA}{n c:Nat}
theorem Z1b.number (h:Z1b wf W rp nb B m sa sc t a n c){t':zU}{a2:zA}{n2 c2:Nat}(hr:RdP W' rp t' a2 n2 c2)(hs:Zb (fun k=>k=rp) W W')(hq : ∀W,Ye W a n c t->Ye W a2 n2 c2 t')(hne : ¬nb=rp):Z1b wf W' rp nb B m sa sc t' a2 n2 c2:=
 ⟨(hs.block _ (Array.getElem?_eq_some_iff.1 h.e).1 hne).trans h.e,hr,h.s.trans (YZ hs fun k e=>.inl e),hq wf h.o⟩
theorem Z1b.set (h:Z1b wf W rp nb B m sa sc t a n c)(j:Nat)(v:Value){m':Z8}{sa':zA}{sc':Nat}(hv:(Z5 m sa sc).setIfInBounds j v=Z5 m' sa' sc')(hne : ¬rp=nb):Z1b wf (W.setCell ⟨nb,j,none⟩ v) rp nb B m' sa' sc' t a n c:=
 ⟨by rw[<-hv];exact heap_setCell_same W nb j _ _ v h.e,h.r.same (VE W nb j v) hne (fun h0 b off e=>VX h.e (Z1Q m sa sc) h.r.r h0 b off e),h.s.trans (YZ (VE W nb j v) fun k e=>.inr (.inl e)),h.o⟩
theorem Z1b.below (h:Z1b wf W rp nb B m sa sc t a n c)(hb:Below W.heap.size W W'):Z1b wf W' rp nb B m sa sc t a n c:=
 ⟨(hb.block _ (Array.getElem?_eq_some_iff.1 h.e).1).trans h.e,h.r.same (S:=fun _=>False) (Zb.of_below hb) id (fun _ _ _ _=>id),h.s.trans (Zb.of_below hb),h.o⟩
theorem Z1b.grown (h:Z1b wf W rp nb B m sa sc t a n c){v:Value}{q k:Nat}{xs:List Value}{e:TypeId}(hg:W.grownBy W' v.ownBlock)(ho:W.ownsRow B e k v q xs)(hB:wf.heap.size=B)(hnb:nb < B)(hrp:rp < B):Z1b wf W' rp nb B m sa sc t a n c:=by
 have hlt:=fun b hb=>(ho.lt b hb).1;have hs:Zb (fun k=>v.ownBlock=some k) W W':=Zb.of_grown hg (fun k e=>e);have h1 : ¬v.ownBlock=some nb:=fun e=>by have:=hlt _ e;omega
 have h2 : ¬v.ownBlock=some rp:=fun e=>by have:=hlt _ e;omega
 refine⟨(hs.block _ (Array.getElem?_eq_some_iff.1 h.e).1 h1).trans h.e,h.r.same hs h2 (fun h0 b off e hb=>?_),h.s.trans (YZ hs fun k e=>.inr (.inr (hlt k e))),h.o⟩;have h3:=Zeq h.o h0 (by omega) b off e;have h4:=hlt b hb;omega
end
theorem Z6A:(zq.info? 3).map (fun i=>(i.zero,i.size,i.bytes))=some (some (.int .i64 0),1,8):=by kernel_rfl
theorem Z4W {w:World}{ops:Array Oper}{o:Oper}{a:Act}{K:Act->World->Prop}{Q:Exit->Act->World->Prop}{E:Prop}(hgd:o.guard=none)(s x:Operand)
  (ho:o.op = .call { callee := .builtin .append,args := #[s,x],argTypes := #[37,37] }) (base:Nat)
  (sa:zA) (sn sc:Nat) (xs:List Int) (hs:a.eval s = .slice sa sn sc) (hown:w.ownsRow base 3 1 (.slice sa sn sc) sn (xs.map Ys))
  (xa:zA) (m xc:Nat) (ys:List Int) (hx:a.eval x = .slice xa m xc) (hrd:Xs w xa m xc ys) (hbytes:(sn+m) * 8<=140737488355328) (hbase:base<=w.heap.size)
  (h : ∀a' c' w',w'.ownsRow base 3 1 (.slice a' (sn+m) c') (sn+m) ((xs ++ ys).map Ys)->w.grownBy w' (Value.ownBlock (.slice sa sn sc))->K (a.put o.dst (.slice a' (sn+m) c')) w'):
  if Region.wanted o (yielded ops a.tmps)=true then Oper.wp zq o a w K Q else E:=by
 have hw:Region.wanted o (yielded ops a.tmps)=true:=by simp[Region.wanted,hgd]
 rw[if_pos hw];obtain⟨i,hi,hz0,hz1,hz2⟩:=info_parts Z6A;obtain⟨a',c',w',hr,h2,h3⟩:=Yu (P:=zq) w base 37 o.type 3 i (.int .i64 0) 1 8 Tryz.underlying37 hi hz0 hz1 hz2 rfl (by decide) sa sn sc _ hown xa m xc _ hrd (Z7M _) (by unfold maxLen;omega) (by omega) hbase;unfold Oper.wp;simp[execOp,ho,resolve,invoke,builtin,hs,hx,hr,Result.andThen];exact h a' c' w' (by rw[List.map_append];exact h2) h3
theorem Ut (rp:Nat)(l t:zU)(z:Int)(a:zA)(n c:Nat)(w:World)(h:RdP w rp l a n c)(hn:Xu l=some (z,t)):
  Calls zq 146 #[.pointer (some ⟨rp,0,none⟩)] w fun e w' => ∃a2 n2 c2,e = .returned (.int .i64 z)/\RdP w' rp t a2 n2 c2/\Zb (fun k=>k=rp) w w'/\(∀W,Ye W a n c l->Ye W a2 n2 c2 t):=by
 refine(VZ rp l a n c w h).mono ?_;rintro e w1 (⟨z',t',a2,n2,c2,h1,rfl,h2,h3⟩ | ⟨h1,rfl,h3⟩)
 ·rw[hn]at h1;cases h1;exact⟨a2,n2,c2,rfl,h2,h3⟩
 ·rw[hn]at h1;cases h1
theorem Z7r (rp:Nat)(l:zU)(a:zA)(n c:Nat)(w:World)(h:RdP w rp l a n c)(hn:Xu l=none):
  Calls zq 146 #[.pointer (some ⟨rp,0,none⟩)] w fun e w'=>e = .panicked [Z32]/\Zb (fun k=>k=rp) w w':=by
 refine(VZ rp l a n c w h).mono ?_;rintro e w1 (⟨z',t',a2,n2,c2,h1,rfl,h2,h3⟩ | ⟨h1,rfl,h3⟩)
 ·rw[hn]at h1;cases h1
 ·exact⟨rfl,h3⟩
section
attribute [local go_sem] ZY YV Jd Vf XU Ve Vd Vc VH VG Qz Qy Qa Q9 Q8 XY Jl Jk JE
theorem ZbE (rp:Nat)(l:zU)(a:zA)(n c:Nat)(w:World)(h:RdP w rp l a n c)(hl:l.length<=1000000):
  Calls zq 131 #[.pointer (some ⟨rp,0,none⟩)] w fun e w'=>(∃(m:Z8) (t:zU) (sa:zA) (sc:Nat) (a2:zA) (n2 c2:Nat),Qq Xu l=some (m,t)/\e = .returned (.agg (Z5 m sa sc))/\w'.ownsRow w.heap.size 3 1 (.slice sa m.strokes.length sc) m.strokes.length (m.strokes.map Ys)/\RdP w' rp t a2 n2 c2/\Zb (fun k=>k=rp) w w') \/
   (Qq Xu l=none/\e = .panicked [Z32]/\Zb (fun k=>k=rp) w w'):=by
 have I43:=zH zI;have hrp:rp < w.heap.size:=(Array.getElem?_eq_some_iff.1 h.e).1;have hlast:(w.alloc (.cells (Z5 Zh none 0) 47)).heap[w.heap.size]? = some (.cells (Z5 (mkN [] [] []) none 0) 47):=Za w (.cells (Z5 Zh none 0) 47);have bb:Below w.heap.size w (w.alloc (.cells (Z5 Zh none 0) 47)):=zB _ _;have hz0:w.heap.size < (w.alloc (.cells (Z5 Zh none 0) 47)).heap.size:=by simp
 obtain⟨nb,hnb⟩:=zX (w.heap.size);rw[hnb.out]at hrp hlast hz0;have HRP:=zH hrp;clear hrp;have HH:=zH h;clear h;have H0:=zH (And.intro hlast (And.intro bb hz0));clear hlast bb hz0;have HL:=zH hl;clear hl;go_enter Tryz.func131,Tryz.ntmps131;go_wp2_with fail;rw[<-YS,hnb.out];generalize w.alloc (.cells (Z5 Zh none 0) 47)=w0 at *;refine(Z4z nb w0).mono ?_;rintro e wf ⟨rfl,g1,g2,b1⟩;have HW:Hid (Below w.heap.size w wf):=zH (H0.out.2.1.trans (b1.mono (by rw[hnb.out];exact Nat.le_of_lt H0.out.2.2)));have hn1:=(b1.block _ H0.out.2.2).trans H0.out.1;obtain⟨P,hP⟩:=zX (w0.heap.size);obtain⟨Q,hQ⟩:=zX (w0.heap.size+1);obtain⟨B,hB⟩:=zX (wf.heap.size);rw[hQ.out,hP.out];rw[hP.out]at g1;rw[hQ.out]at g2;have hPn:nb < P:=by rw[<-hP.out];exact H0.out.2.2
 have hQn:nb < Q:=by rw[<-hQ.out];exact Nat.lt_succ_of_lt H0.out.2.2
 have hPB:P < B:=by rw[<-hB.out];exact(Array.getElem?_eq_some_iff.1 g1).1
 have hQB:Q < B:=by rw[<-hB.out];exact(Array.getElem?_eq_some_iff.1 g2).1
 have LP:=zH (And.intro hPn (And.intro hPB g1));clear hPn hPB g1;have LQ:=zH (And.intro hQn (And.intro hQB g2));clear hQn hQB g2;have LB:Hid (nb < B/\rp < B):=zH ⟨Nat.lt_trans LP.out.1 LP.out.2.1,Nat.lt_trans HRP.out (Nat.lt_trans LP.out.1 LP.out.2.1)⟩;have hI:Z1b wf wf rp nb B (mkN [] [] []) none 0 l a n c:=⟨hn1,HH.out.same (S:=fun _=>False) (Zb.of_below HW.out) id (fun _ _ _ _=>id),⟨rfl,rfl,rfl,Nat.le_refl _,fun _ _ _=>rfl⟩,Ye.below HH.out.r HW.out⟩;have HI:=zH hI;clear hI hn1 H0 b1 HH;have FR:Hid (∀W,Zb (fun k=>k=rp\/k=nb\/B<=k) wf W->Zb (fun k=>k=rp) w W):=zH fun W hS=>
  ⟨hS.os.trans HW.out.os,hS.tape.trans HW.out.tape,hS.output.trans HW.out.output,Nat.le_trans HW.out.size hS.size,fun k hk hr=>by
   have hkn:k < nb:=by rw[<-hnb.out];exact hk
   have:=LB.out.1;exact(hS.block k (Nat.lt_of_lt_of_le hk HW.out.size) (by omega)).trans (HW.out.block k hk)⟩
 have NR:Hid (¬nb=rp /\ ¬rp=nb):=zH (by have:=HRP.out;omega);go_wp2_with fail;go_loopw [6,15] (fun _ i wr=>∃(k:Nat) (xs:List Int) (t:zU) (a:zA) (n c:Nat),i = .int .i64 k/\k<=15/\Hid (J7 Xu k l=some (xs,t))/\Hid (Z1b wf wr rp nb B (mkN xs [] []) none 0 t a n c)) (fun _ i _=>15 - (intOf i).toNat)
 case atStart=>exact⟨0,[],l,a,n,c,rfl,by omega,zH rfl,HI⟩
 case round=>
  obtain⟨k,xs,t,a,n,c,rfl,hk,HM,HN⟩:=hrel;by_cases hlt:k < 15
  ·have hxl:=U2 _ _ _ _ HM.out;have e1:wr.cell? ⟨P,k,none⟩=some (.pointer (some ⟨nb,k,none⟩)):=Z6 ((HN.out.s.block P (by rw[hB.out];exact LP.out.2.1) (by have h1:=LP.out.1;have h2:=LP.out.2.1;have h3:=HRP.out;omega)).trans LP.out.2.2) _ _ (Z3n nb k hlt);have hz63:(k:Int)<=9223372036854775807:=by omega
   have HXL:=zH hxl;clear hxl;go_wp2_with fail;refine(VZ rp t a n c wr HN.out.r).mono ?_;rintro e w1 (⟨z,t',a2,n2,c2,h1,rfl,h2,h3⟩ | ⟨h1,rfl,h3⟩)
   ·have HN1:=zH (HN.out.number h2 h3.1 h3.2 NR.out.1);have H1:=zH (Z2H HM.out h1);clear h1 h2 h3 e1;have e2:w1.cell? ⟨nb,k,none⟩=some (.int .i64 ((ZA (mkN xs [] []))[k]?.getD 0)):=Z6 HN1.out.e _ _ (Z4N (mkN xs [] []) none 0 k hlt);have f2:=Zq HN1.out.e k;generalize (ZA (mkN xs [] []))[k]?.getD 0=y at *;have HN2:=zH (HN1.out.set k (.int .i64 z) (by rw[<-HXL.out];exact Za1 xs z (by rw[HXL.out];exact hlt)) NR.out.2);go_wp2;go_roundw
    case rel=>exact⟨k+1,xs ++ [z],t',a2,n2,c2,by go_num,by omega,H1,HN2⟩
    case measure=>simp[intOf];omega
   ·have HF:=zH (Z9q (Z2I HM.out h1 15 hlt));have HS:=zH (FR.out _ (HN.out.s.trans (YZ h3 fun k e=>.inl e)));clear h1 h3 e1;go_wp2_with fail;exact⟨rfl,.inr ⟨HF.out,rfl,HS.out⟩⟩
  ·have hkn:k=15:=by omega
   subst hkn;go_wp2_with fail;refine(Z4j rp t a n c wr HN.out.r).mono ?_;rintro e w1 (⟨cnt,t1,a2,n2,c2,h1,hcnt,rfl,h2,h3⟩ | ⟨h1,rfl,h3⟩)
   ·have HN1:=zH (HN.out.number h2 h3.1 h3.2 NR.out.1);have hc2:cnt<=1000000:=Nat.le_trans hcnt (Nat.le_trans (Z7G h1) (Nat.le_trans (Z2J _ HM.out) HL.out));have H1:=zH h1;clear h1 h2 h3 hcnt;go_wp2_with fail;go_loopw [26] (fun i wr=>∃(k:Nat) (ys:List Int) (t:zU) (a:zA) (n c:Nat) (sa:zA) (sc:Nat),i = .int .i64 k/\k<=cnt/\Hid (J7 Xu k t1=some (ys,t))/\Hid (Z1b wf wr rp nb B (mkN xs ys []) sa sc t a n c)/\Hid (wr.ownsRow B 3 1 (.slice sa k sc) k (ys.map Ys))) (fun i _=>cnt - (intOf i).toNat)
    case atStart=>exact⟨0,[],t1,a2,n2,c2,none,0,rfl,Nat.zero_le _,zH rfl,HN1,zH (World.ownsRow_nil _ _ _ _)⟩
    case round=>
     obtain⟨k,ys,t,a,n,c,sa,sc,rfl,hk,HM2,HN2,HO⟩:=hrel;by_cases hlt:k < cnt
     ·cases hnum:Xu t with
      | none=>
       go_wp2_with fail;have hyl:ys.length=k:=U2 _ _ _ _ HM2.out;have HND:=zH (HN2.out.below (zd wr));have e15:wr.drew.cell? ⟨nb,15,none⟩=some (.slice sa k sc):=Z6 HND.out.e 15 _ (by rw[<-hyl];rfl);have HF:=zH (show Qq Xu l=none by rw[Z6r HM.out H1.out,Z2I HM2.out hnum cnt hlt]);refine wp_region_any (by kernel_rfl) ?_;change wpAny _ _ _ _ _ _ _ (World.drew _);refine wpAny_take (i:=0) (v := ?_) rfl (by kernel_rfl) (by kernel_rfl) (by kernel_rfl) (fun _ _ _ h=>h) (Or.inl ⟨by rfl,?_⟩) ?_;rotate_left
       ·intro w;go_simp
        first | done | with_reducible rfl
       refine wpAny_take (i:=2) (v := ?_) rfl (by kernel_rfl) (by kernel_rfl) (by kernel_rfl) (fun _ _ _ h=>h) (Or.inl ⟨by rfl,?_⟩) ?_;rotate_left
       ·intro w;go_simp
        first | done | with_reducible rfl
       refine wpAny_ready (rs:=[1,3]) (by kernel_rfl) (by simp) ?_;refine AllReady.cons rfl (fun K hK=>?_) ?_
       focus
        go_simp;refine hK _ _ ?_;clear hK K;refine wpAny_ready (rs:=[3]) (by kernel_rfl) (by simp) ?_;refine AllReady.cons rfl (fun K hK=>?_) AllReady.nil
       rotate_left
       focus
        refine AllReady.cons rfl (fun K hK=>?_) AllReady.nil
       all_goals
        go_simp;go_at_call 146;refine(Z7r rp t a n c _ HND.out.r hnum).mono ?_;rintro e w1 ⟨rfl,h3⟩;exact⟨rfl,.inr ⟨HF.out,rfl,FR.out _ (HND.out.s.trans (YZ h3 fun k e=>.inl e))⟩⟩
      | some p=>
       obtain⟨z,t'⟩:=p;go_wp2_with fail;have hyl:ys.length=k:=U2 _ _ _ _ HM2.out;have HYL:=zH hyl;clear hyl;have HND:=zH (HN2.out.below (zd wr));have OD:=zH (Zd HO.out (zd wr));have e15:wr.drew.cell? ⟨nb,15,none⟩=some (.slice sa k sc):=Z6 HND.out.e 15 _ (by rw[<-HYL.out];rfl);go_region_law (first
        |(refine Z4W rfl _ _ rfl B _ _ _ ys rfl O3.out _ _ _ [z] rfl (Z2w w1 z) (by omega) hBs ?_;intro sa' sc' w3 h5 h6;have HN4:=zH ((HN3.out.below (zB w1 (.cells #[.int .i64 z] 3))).grown h6 O3.out hB.out LB.out.1 LB.out.2);have e18:w3.cell? ⟨nb,15,none⟩=some (.slice sa k sc):=Z6 HN4.out.e 15 _ (by rw[<-HYL.out];try rfl);have f18:=Zq HN4.out.e 15;have H5:=zH h5;clear h5 h6)
        |(go_simp;go_at_call 146;refine(Ut rp t t' z a n c _ HND.out.r hnum).mono ?_;rintro e w1 ⟨a3,n3,c3,rfl,h2,h3⟩;have HN3:=zH (HND.out.number h2 h3.1 h3.2 NR.out.1);have e16:w1.cell? ⟨nb,15,none⟩=some (.slice sa k sc):=Z6 HN3.out.e 15 _ (by rw[<-HYL.out];try rfl);have e17 : ∀o,(w1.alloc o).cell? ⟨nb,15,none⟩=some (.slice sa k sc):=fun o=>Z6 (Z9 w1 o _ _ HN3.out.e) 15 _ (by rw[<-HYL.out];try rfl);have O3:=zH (Zd (Q4 OD.out h3.1 (fun b cur fr hb=>.inr ((show b=rp from hb).symm ▸ LB.out.2))) (zB w1 (.cells #[.int .i64 z] 3)));have hBs:B<=(w1.alloc (.cells #[.int .i64 z] 3)).heap.size:=Nat.le_trans (Nat.le_of_eq hB.out.symm) (Nat.le_trans HN3.out.s.size (by simp));clear h2 h3))
       all_goals
        have HN5:=zH (HN4.out.set 15 (.slice sa' (k+1) sc') (Z77 xs ys (ys ++ [z]) sa sa' sc sc' (k+1) (by simp[HYL.out])) NR.out.2);have HO5:=zH (Q4 H5.out (VE w3 nb 15 (.slice sa' (k+1) sc')) (fun b cur fr hb=>.inr ((show b=nb from hb).symm ▸ LB.out.1)));clear e15 e16 e17 e18 f18;go_wp2;go_roundw
        case rel=>exact⟨k+1,ys ++ [z],t',a3,n3,c3,sa',sc',by go_num,by omega,zH (Z2H HM2.out hnum),HN5,HO5⟩
        case measure=>simp[intOf];omega
     ·have hkn:k=cnt:=by omega
      subst hkn;have HF3:=zH (Z6r HM.out H1.out);go_wp2_with fail;go_loopw [8,38] (fun _ i wr=>∃(j:Nat) (zs:List Int) (t':zU) (a:zA) (n c:Nat),i = .int .i64 j/\j<=3/\Hid (J7 Xu j t=some (zs,t'))/\Hid (Z1b wf wr rp nb B (mkN xs ys zs) sa sc t' a n c)/\Hid (wr.ownsRow B 3 1 (.slice sa k sc) k (ys.map Ys))) (fun _ i _=>3 - (intOf i).toNat)
      case atStart=>exact⟨0,[],t,a,n,c,rfl,by omega,zH rfl,HN2,HO⟩
      case round=>
       obtain⟨j,zs,t',a,n,c,rfl,hj,HM3,HN3,HO3⟩:=hrel;by_cases hlt:j < 3
       ·have hxl:=U2 _ _ _ _ HM3.out;have e1:wr.cell? ⟨Q,j,none⟩=some (.pointer (some ⟨nb,16+j,none⟩)):=Z6 ((HN3.out.s.block Q (by rw[hB.out];exact LQ.out.2.1) (by have h1:=LQ.out.1;have h2:=LQ.out.2.1;have h3:=HRP.out;omega)).trans LQ.out.2.2) _ _ (Z2a nb j hlt);have hz63:(j:Int)<=9223372036854775807:=by omega
        have HXL:=zH hxl;clear hxl;go_wp2_with fail;refine(VZ rp t' a n c wr HN3.out.r).mono ?_;rintro e w1 (⟨z,t2,a2,n2,c2,h1,rfl,h2,h3⟩ | ⟨h1,rfl,h3⟩)
        ·have HN4:=zH (HN3.out.number h2 h3.1 h3.2 NR.out.1);have HO4:=zH (Q4 HO3.out h3.1 (fun b cur fr hb=>.inr ((show b=rp from hb).symm ▸ LB.out.2)));have H1':=zH (Z2H HM3.out h1);clear h1 h2 h3 e1;have e2:w1.cell? ⟨nb,16+j,none⟩=some (.int .i64 ((Zu (mkN xs ys zs))[j]?.getD 0)):=Z6 HN4.out.e _ _ (Z3m (mkN xs ys zs) sa sc j hlt);have f2:=Zq HN4.out.e (16+j);generalize (Zu (mkN xs ys zs))[j]?.getD 0=y at *;have HN5:=zH (HN4.out.set (16+j) (.int .i64 z) (by rw[<-HXL.out];exact Z8x xs ys sa sc zs z (by rw[HXL.out];exact hlt)) NR.out.2);have HO5:=zH (Q4 HO4.out (VE w1 nb (16+j) (.int .i64 z)) (fun b cur fr hb=>.inr ((show b=nb from hb).symm ▸ LB.out.1)));go_wp2;go_roundw
         case rel=>exact⟨j+1,zs ++ [z],t2,a2,n2,c2,by go_num,by omega,H1',HN5,HO5⟩
         case measure=>simp[intOf];omega
        ·have HF:=zH (show Qq Xu l=none by rw[HF3.out,HM2.out];simp only;rw[Z2I HM3.out h1 3 hlt]);have HS:=zH (FR.out _ (HN3.out.s.trans (YZ h3 fun k e=>.inl e)));clear h1 h3 e1;go_wp2_with fail;exact⟨rfl,.inr ⟨HF.out,rfl,HS.out⟩⟩
       ·have hjn:j=3:=by omega
        subst hjn;have HF:=zH (show Qq Xu l=some (mkN xs ys zs,t')by rw[HF3.out,HM2.out];simp only;rw[HM3.out]);have hyl:ys.length=k:=U2 _ _ _ _ HM2.out;obtain⟨N,hN⟩:=zX (mkN xs ys zs);have hNs:N.strokes=ys:=by rw[<-hN.out];rfl
        rw[hN.out]at HN3 HF;have one1:=Zm N sa sc;have HY:=zH (And.intro hNs hyl);clear hyl hNs;go_wp2_with (first
         |(refine zL nb HN3.out.e ?_)
         |(refine zN nb (Z5 N sa sc) HN3.out.e ?_))
        refine bodyPost_ret (results_cell_row rfl _ _ nb 47 (Z5 N sa sc) (0,0) _ rfl ?hg Tryz.underlying47 rfl (I43.out _ _ _)) rfl ?_
        case hg=>exact setRow_heap wr nb _ _ _ _ HN3.out.e
        have hSR:Zb (fun k=>k=nb) wr (wr.setRow nb (Z5 N sa sc)):=⟨rfl,rfl,rfl,by simp,fun k hk hs=>setRow_other wr nb k _ hs⟩;have hO:=Q4 HO3.out hSR (fun b cur fr hb=>.inr ((show b=nb from hb).symm ▸ LB.out.1));refine .inl ⟨N,t',sa,sc,a,n,c,HF.out,rfl,?_,?_,?_⟩
        ·rw[HY.out.1,HY.out.2];exact Zx hO (by rw[hnb.out];exact Nat.le_of_lt LB.out.1)
        ·exact HN3.out.r.same hSR NR.out.2 (fun h0 b off e=>VX HN3.out.e (Z1Q N sa sc) HN3.out.r.r h0 b off e)
        ·exact FR.out _ (HN3.out.s.trans (YZ hSR fun k e=>.inr (.inl e)))
   ·have HF:=zH (Z9p HM.out h1);have HS:=zH (FR.out _ (HN.out.s.trans (YZ h3 fun k e=>.inl e)));clear h1 h3;go_wp2_with fail;exact⟨rfl,.inr ⟨HF.out,rfl,HS.out⟩⟩
end
section
variable {W W':World}{rp:Nat}{l:zU}{a:zA}{n c at_:Nat}{bad:Bool}
theorem Zb.refl (S:Nat->Prop)(W:World):Zb S W W:=⟨rfl,rfl,rfl,Nat.le_refl _,fun _ _ _=>rfl⟩
end
theorem Z4M (w:World){ops:Array Oper}{rest:List Oper}{o:Oper}{a:Act}{Q:Exit->Act->World->Prop}(hgd:o.guard=none)(s x:Operand)
  (ho:o.op = .call { callee := .builtin .append,args := #[s,x],argTypes := #[37,37] }) (base:Nat)
  (sa:zA) (sn sc:Nat) (xs:List Int) (hs:a.eval s = .slice sa sn sc) (hown:w.ownsRow base 3 1 (.slice sa sn sc) sn (xs.map Ys))
  (xa:zA) (m xc:Nat) (ys:List Int) (hx:a.eval x = .slice xa m xc) (hrd:Xs w xa m xc ys) (hbytes:(sn+m) * 8<=140737488355328) (hbase:base<=w.heap.size)
  (h : ∀a' c' w',w'.ownsRow base 3 1 (.slice a' (sn+m) c') (sn+m) ((xs ++ ys).map Ys)->w.grownBy w' (Value.ownBlock (.slice sa sn sc))->wpList zq ops Q rest (a.put o.dst (.slice a' (sn+m) c')) w'):
  wpList zq ops Q (o :: rest) a w:=by
 obtain⟨i,hi,hz0,hz1,hz2⟩:=info_parts Z6A;exact UQ w hgd s x 37 ho base 3 i (.int .i64 0) 1 8 Tryz.underlying37 hi hz0 hz1 hz2 rfl (by decide) sa sn sc _ hs hown xa m xc _ hx hrd (Z7M _) (by unfold maxLen;omega) hbytes hbase
  (fun a' c' w' h1 h2=>h a' c' w' (by rw[List.map_append];exact h1) h2)
theorem Qv {P:Program}(w:World)(base:Nat)(t ty e:TypeId)(i:TypeInfo)(z:Value)(size bytes:Nat)(ht:P.underlying t=some (.slice e))(hi:P.info? e=some i)(hz:i.zero=some z)
  (hsize:i.size=size) (hby:i.bytes=bytes)
  (sa:zA) (sn sc:Nat) (xs:List Value) (hown:w.ownsRow base e size (.slice sa sn sc) sn xs)
  (xa:zA) (m xc:Nat) (ys:List Value) (hrd:Y3 w size xa m xc ys) (h1 : ∀u∈ys,u.oneCell'=true)
  (h63:sn+m<=maxLen) (hbytes:(sn+m) * bytes<=140737488355328) (v:Value) (w':World) (hr:(Builtin.append_ #[t,t] ty #[.slice sa sn sc,.slice xa m xc]).run P w = .ok v w'):
  (∃n' c',v = .slice sa n' c') \/ ∃n' c',v = .slice (some ⟨w.heap.size,0,none⟩) n' c':=by
 subst hsize;subst hby;have hsmall:((sn+m:Nat):Int)<=9223372036854775807:=by simp only[maxLen]at h63;omega
 have hkind:(xa=none/\m=0/\xc=0) \/ ∃ad,xa=some ad /\ ∀j u,ys[j]? = some u->w.cell? (ad.add j)=some u:=by
  rcases hrd.2.2.2 with rfl | ⟨b,off,rfl,h4⟩
  ·have hm:m=0:=by have:=hrd.2.1;omega
   subst hm;have hy:ys=[]:=List.eq_nil_of_length_eq_zero (by simpa using hrd.1);cases xa with
   | none=>exact .inl ⟨rfl,rfl,rfl⟩
   | some ad=>exact .inr ⟨ad,rfl,fun j u hu=>by rw[hy]at hu;simp at hu⟩
  ·exact .inr ⟨_,rfl,fun j u hu=>by rw[Addr.add_lit];exact h4 j u hu⟩
 rcases hkind with ⟨rfl,rfl,rfl⟩ | ⟨ad,rfl,hnews⟩
 ·rw[run_append_owned_none (P:=P) (w:=w) base t ty e i i.size ht hi _ sn xs hown]at hr;cases hr;exact .inl ⟨_,_,rfl⟩
 ·rcases hown.2 with ⟨h2,rfl⟩ | ⟨g,cap,cur,h2,hbg,hg,hnc,hcm,hcs,htake⟩
  ·simp only[Value.slice.injEq]at h2;obtain⟨rfl,_,rfl⟩:=h2;by_cases hm:m=0
   ·subst hm;have hy:ys=[]:=List.eq_nil_of_length_eq_zero (by simpa using hrd.1);have hr':(Builtin.append_ #[t,t] ty #[.slice none 0 0,.slice (some ad) 0 xc]).run P w = .ok (.slice none 0 0) w:=by
     simp[Builtin.append_,run_underlying ht,sizeOf,typeInfo,hi,Builtin.lenOf,Builtin.firstCells,loadCells,loadCellsFrom]
    rw[hr']at hr;cases hr;exact .inl ⟨_,_,rfl⟩
   ·rw[run_append_nil (P:=P) w t ty e i z ht hi hz ad m xc ys hrd.1 hnews (by omega) (by omega) (by have hb:=hbytes;simp only[Nat.zero_add]at hb;omega)]at hr;cases hr;exact .inr ⟨_,_,rfl⟩
  ·simp only[Value.slice.injEq]at h2;obtain⟨rfl,_,rfl⟩:=h2;by_cases hroom:sn+m<=sc
   ·have hfit:sn * i.size+ys.length<=cur.size:=by rw[hrd.1,hcs,<-Nat.add_mul];exact Nat.mul_le_mul_right _ hroom
    rw[run_append_room (P:=P) w t ty e i ht hi g sn sc cur hg ad m xc ys hrd.1 hnews h1 hroom hfit]at hr;cases hr;exact .inl ⟨_,_,rfl⟩
   ·have holds : ∀j u,xs[j]? = some u->w.cell? ((⟨g,0,none⟩:Addr).add j)=some u:=hown.cells (g:=g) rfl;rw[run_append_grow (P:=P) w t ty e i z ht hi hz ⟨g,0,none⟩ sn sc xs hown.1 holds ad m xc ys hrd.1 hnews (by omega) hsmall (growslice_fits (by omega) hbytes)]at hr;cases hr;exact .inr ⟨_,_,rfl⟩
theorem Z0h (w:World){ops:Array Oper}{rest:List Oper}{o:Oper}{a:Act}{Q:Exit->Act->World->Prop}(hgd:o.guard=none)(s x:Operand)
  (ho:o.op = .call { callee := .builtin .append,args := #[s,x],argTypes := #[41,41] }) (base:Nat)
  (sa:zA) (sn sc:Nat) (xs:zU) (hs:a.eval s = .slice sa sn sc) (hown:w.ownsRow base 5 1 (.slice sa sn sc) sn (xs.map Zr))
  (xa:zA) (m xc:Nat) (ys:zU) (hx:a.eval x = .slice xa m xc) (hrd:Ye w xa m xc ys) (hbytes:sn+m<=140737488355328) (hbase:base<=w.heap.size)
  (h : ∀a' c' w',(a'=sa\/a'=some ⟨w.heap.size,0,none⟩)->w'.ownsRow base 5 1 (.slice a' (sn+m) c') (sn+m) ((xs ++ ys).map Zr)->w.grownBy w' (Value.ownBlock (.slice sa sn sc))->wpList zq ops Q rest (a.put o.dst (.slice a' (sn+m) c')) w'):
  wpList zq ops Q (o :: rest) a w:=by
 obtain⟨i,hi,hz0,hz1,hz2⟩:=info_parts za;refine wpList_plain hgd fun K hK=>?_;obtain⟨a',c',w',hr,h2,h3⟩:=Yu (P:=zq) w base 41 o.type 5 i (.int .u8 0) 1 1 Tryz.underlying41 hi hz0 hz1 hz2 rfl (by decide) sa sn sc _ hown xa m xc _ hrd (Z2U _) (by unfold maxLen;omega) (by omega) hbase;have hloc:=Qv (P:=zq) w base 41 o.type 5 i (.int .u8 0) 1 1 Tryz.underlying41 hi hz0 hz1 hz2 sa sn sc _ hown xa m xc _ hrd (Z2U _) (by unfold maxLen;omega) (by omega) _ _ hr;have hloc':a'=sa\/a'=some ⟨w.heap.size,0,none⟩:=by
  rcases hloc with ⟨n',c'',h⟩ | ⟨n',c'',h⟩
  ·simp only[Value.slice.injEq]at h;exact .inl h.1
  ·simp only[Value.slice.injEq]at h;exact .inr h.1
 unfold Oper.wp;simp[execOp,ho,resolve,invoke,builtin,hs,hx,hr,Result.andThen];exact hK _ _ (h a' c' w' hloc' (by rw[List.map_append];exact h2) h3)
structure JAt (w:World)(p o:Nat)(a:zA)(n c:Nat)(d:Nat):Prop where
 c0:w.cell? ⟨p,o,none⟩=some (.slice a n c)
 c1:w.cell? ⟨p,o+1,none⟩=some (.int .i64 d)
 f0:w.frozen? ⟨p,o,none⟩=false
 f1:w.frozen? ⟨p,o+1,none⟩=false
theorem Z5F (w:World)(p o:Nat)(a:zA)(n c d:Nat)(h:JAt w p o a n c d):
  Calls zq 128 #[.pointer (some ⟨p,o,none⟩)] w fun e w'=>e = .returned (.tuple #[])/\w.setCell ⟨p,o+1,none⟩ (.int .i64 n)=w':=by
 obtain⟨c0,c1,f0,f1⟩:=h;go_enter Tryz.func128,Tryz.ntmps128;go_wp2;go_end0;exact⟨rfl,rfl⟩
theorem VK (w:World)(p o:Nat)(a:zA)(n c d:Nat)(h:JAt w p o a n c d)(hd:d<=n)(hn:n<=9223372036854775807):
  Calls zq 110 #[.pointer (some ⟨p,o,none⟩)] w fun e w'=>e = .returned (.int .i64 ((n:Int) - d)) /\ ∃q,w'=w.drewN q:=by
 obtain⟨c0,c1,f0,f1⟩:=h;go_enter Tryz.func110,Tryz.ntmps110;go_wp2;go_quiet (fail);go_wp2;go_ret;exact⟨rfl,_,rfl⟩
theorem Z5I (w:World)(p o:Nat)(a:zA)(n c d:Nat)(l:zU)(h:JAt w p o a n c d)(hr:Ye w a n c l)(m:Nat)(hm:d+m<=n)(hn:n<=16777216):
  Calls zq 111 #[.pointer (some ⟨p,o,none⟩),.int .i64 m] w fun e w'=>e = .returned (.tuple #[]) /\ ∃a' c' w1,w1.ownsRow w.heap.size 5 1 (.slice a' (d+m) c') (d+m) ((l.take (d+m)).map Zr)/\Below w.heap.size w w1/\w'=w1.setCell ⟨p,o,none⟩ (.slice a' (d+m) c'):=by
 obtain⟨c0,c1,f0,f1⟩:=h;obtain⟨ka,hcut,hrk⟩:=Z4D hr 0 (d+m) none (some (.int .i64 ((d:Int)+m))) (.inl ⟨rfl,rfl⟩) (.inr ⟨_,by go_num⟩) (Nat.zero_le _) hm;rw[Nat.sub_zero,Nat.sub_zero,List.drop_zero]at hrk;have hw:IntKind.i64.wrap ((d:Int)+m)=(d:Int)+m:=by rw[IntKind.wrap_i64];omega
 go_enter Tryz.func111,Tryz.ntmps111;go_wp2;have hlt:p < w.heap.size:=World.block_lt_of_cell? w ⟨p,o,none⟩ c0;go_region_with (go_at_call 102;refine(Z5U ka (d+m) c (l.take (d+m)) _ (by omega) (hrk.below (Below.refl _ _).drew)).mono ?_;rintro e w1 ⟨a',c',rfl,ho,hb⟩;have d0:=(hb.cell (p:=⟨p,o,none⟩) hlt).trans c0;have e0:=(hb.frozen (p:=⟨p,o,none⟩) hlt).trans f0)
 all_goals
  go_end0;exact⟨rfl,a',c',w1,ho,(Below.refl _ _).drew.trans hb,rfl⟩
def Ub (w:World)(p:Nat)(F:Nat->Prop)(sb fb:zU)(sd fd:Nat):Prop:=
 ∃sa sc fa fc,w.heap[p]? = some (.cells #[.slice sa sb.length sc,.int .i64 sd,.slice fa fb.length fc,.int .i64 fd] 168) /\
  w.ownsRow 0 5 1 (.slice sa sb.length sc) sb.length (sb.map Zr)/\w.ownsRow 0 5 1 (.slice fa fb.length fc) fb.length (fb.map Zr) /\
  (∀k,Value.ownBlock (.slice sa sb.length sc)=some k->Value.ownBlock (.slice fa fb.length fc)≠some k) /\
  (∀k,F k↔(k=p\/Value.ownBlock (.slice sa sb.length sc)=some k\/Value.ownBlock (.slice fa fb.length fc)=some k)) /\
  sd<=sb.length/\fd<=fb.length/\sb.length<=16777216/\fb.length<=16777216
theorem Ub.lt {w:World}{p:Nat}{F:Nat->Prop}{sb fb:zU}{sd fd:Nat}(h:Ub w p F sb fb sd fd): ∀k,F k->k < w.heap.size:=by
 obtain⟨sa,sc,fa,fc,h1,h2,h3,h4,h5,h6⟩:=h;intro k hk;rcases(h5 k).1 hk with rfl | h | h
 ·exact(Array.getElem?_eq_some_iff.1 h1).1
 ·exact(h2.lt k h).2
 ·exact(h3.lt k h).2
theorem Ze {S:Nat->Prop}{W W':World}{base:Nat}{e:TypeId}{k:Nat}{v:Value}{n:Nat}{xs:List Value}(h:W.ownsRow base e k v n xs)(hs:Zb S W W')
  (hd : ∀b,v.ownBlock=some b -> ¬S b):W'.ownsRow base e k v n xs:=by
 refine⟨h.1,?_⟩;rcases h.2 with h | ⟨g,cap,cur,rfl,hg,hgg,hr⟩
 ·exact .inl h
 ·exact .inr ⟨g,cap,cur,rfl,hg,(hs.block g (Array.getElem?_eq_some_iff.1 hgg).1 (hd g rfl)).trans hgg,hr⟩
theorem Ub.same {w w':World}{p:Nat}{F S:Nat->Prop}{sb fb:zU}{sd fd:Nat}(h:Ub w p F sb fb sd fd)(hs:Zb S w w')(hd : ∀k,S k -> ¬F k):Ub w' p F sb fb sd fd:=by
 obtain⟨sa,sc,fa,fc,h1,h2,h3,h4,h5,h6⟩:=h;refine⟨sa,sc,fa,fc,?_,Ze h2 hs (fun b hb hS=>hd b hS ((h5 b).2 (.inr (.inl hb)))),Ze h3 hs (fun b hb hS=>hd b hS ((h5 b).2 (.inr (.inr hb)))),h4,h5,h6⟩;exact(hs.block p (Array.getElem?_eq_some_iff.1 h1).1 (fun hS=>hd p hS ((h5 p).2 (.inl rfl)))).trans h1
theorem Z02 (w:World):Calls zq 48 #[] w fun e w'=>e = .returned (.pointer (some ⟨w.heap.size,0,none⟩))/\Ub w' w.heap.size (fun k=>k=w.heap.size) [] [] 0 0/\Below w.heap.size w w':=by
 go_enter Tryz.func48,Tryz.ntmps48;go_wp2;go_ret;exact⟨rfl,⟨none,0,none,0,heap_alloc_new w _,World.ownsRow_nil _ _ _ _,World.ownsRow_nil _ _ _ _,fun k h=>by simp[Value.ownBlock]at h,fun k=>by simp[Value.ownBlock],Nat.le_refl _,Nat.le_refl _,Nat.zero_le _,Nat.zero_le _⟩,zB _ _⟩
theorem ZK {w:World}{base:Nat}{e e':TypeId}{k:Nat}{v:Value}{n:Nat}{xs:List Value}(h:w.ownsRow base e k v n xs){p:Nat}{cur:Y6}{fr:Nat×Nat}(hp:w.heap[p]? = some (.cells cur e' fr))(hne:e≠e'):Value.ownBlock v≠some p:=by
 intro hk;rcases h.2 with ⟨rfl,_⟩ | ⟨g,cap,cu,rfl,_,hg,_⟩
 ·simp[Value.ownBlock]at hk
 ·simp only[Value.ownBlock,Option.some.injEq]at hk;subst hk;rw[hg]at hp;simp only[Option.some.injEq,Obj.cells.injEq]at hp;exact hne hp.2.1
theorem Jb {sa a':zA}{w:World}{n c n' c':Nat}(h:a'=sa\/a'=some ⟨w.heap.size,0,none⟩){k:Nat}(hk:Value.ownBlock (.slice a' n' c')=some k):Value.ownBlock (.slice sa n c)=some k\/k=w.heap.size:=by
 rcases h with rfl | rfl
 ·left;cases a' <;> simp_all[Value.ownBlock]
 ·right;simp[Value.ownBlock]at hk;exact hk.symm
theorem Z9n (w:World)(p:Nat)(F:Nat->Prop)(sb fb:zU)(sd fd:Nat)(a:zA)(n c:Nat)(l:zU)(h:Ub w p F sb fb sd fd)(hr:Ye w a n c l)(hn:n < 65536)
  (hs:sb.length+n+2<=16777216) (hf:fb.length+4<=16777216):
  Calls zq 109 #[.pointer (some ⟨p,0,none⟩),.slice a n c] w fun e w'=>e = .returned (.tuple #[]) /\ ∃F',Ub w' p F' (sb ++ ZB l) (fb ++ ZQ l) sd fd/\Zb F w w'/\(∀k,F' k->F k\/w.heap.size<=k):=by
 have hFlt:=h.lt;go_enter Tryz.func109,Tryz.ntmps109;go_wp2_with fail;refine(Z1y _ _ _ l _ hr hn).mono ?_;rintro e w1 ⟨a1,c1,a2,c2,rfl,hw1,hw2,hb1⟩;have h1:=h.same (S:=fun _=>False) (Zb.of_below hb1) (fun _ e=>e.elim);obtain⟨sa,sc,fa,fc,g1,g2,g3,g4,g5,g6,g7,g8,g9⟩:=h1;have e1:w1.cell? ⟨p,0,none⟩=some (.slice sa sb.length sc):=by simp[World.cell?,g1]
 have hlen:=(YY l);have hll:=hr.len;have HLS:=zH hlen;clear hlen;have HLL:=zH hll;clear hll;have HLF:=zH (YU l);have G4:=zH g4;clear g4;have G5:=zH g5;clear g5;have hFlt':=zH hFlt;clear hFlt;have hws:=Ye.of_own hw1;go_wp2_with (at_builtin;refine Z0h _ rfl _ _ rfl 0 _ _ _ sb rfl g2 _ _ _ (ZB l) rfl hws (by rw[HLS.out,HLL.out];omega) (Nat.zero_le _) ?_;intro sa' sc' w2 hloc ho2 hg2;refine Hid.out ?_);refine zH ?_;have n1:=ZK g2 g1 (by decide);have n2:=ZK g3 g1 (by decide);have hp1:p < w1.heap.size:=(Array.getElem?_eq_some_iff.1 g1).1;have p2:w2.heap[p]? = _:=(hg2.block p hp1 (fun e=>n1 e.symm)).trans g1;have g3':w2.ownsRow 0 5 1 (.slice fa fb.length fc) fb.length (fb.map Zr):=g3.kept hg2 (by
  cases hv:Value.ownBlock (.slice fa fb.length fc)with
  | none=>exact .inl rfl
  | some k=>exact .inr (fun e=>G4.out k e.symm hv))
 have hw2':=hw2.kept hg2 (by
  cases hv:Value.ownBlock (.slice a2 (ZQ l).length c2)with
  | none=>exact .inl rfl
  | some k=>exact .inr (fun e=>by
    have:=(hw2.lt k hv).1;have:=hFlt'.out k ((G5.out k).2 (.inr (.inl e.symm)));omega))
 have hz2:=hg2.size;have n3:=ZK ho2 p2 (by decide);have e2:w2.cell? ⟨p,0,none⟩=some (.slice sa sb.length sc):=by simp[World.cell?,p2]
 have e3:w2.frozen? ⟨p,0,none⟩=false:=by simp[World.frozen?,p2]
 have p3:=heap_setCell_same w2 p 0 _ 168 (.slice sa' (sb.length+(ZB l).length) sc') p2;simp only[List.setIfInBounds_toArray,List.set_cons_zero]at p3;have s3:Zb (fun k=>k=p) w2 (w2.setCell ⟨p,0,none⟩ (.slice sa' (sb.length+(ZB l).length) sc')):=Zb.setCell _ rfl;have ho3:=Ze ho2 s3 (fun b hb e=>n3 (by rw[hb,e]));have n2':=ZK g3' p2 (by decide);have g33:=Ze g3' s3 (fun b hb e=>n2' (by rw[hb,e]));have n4:=ZK hw2' p2 (by decide);have hw3:=Ye.of_own (Ze hw2' s3 (fun b hb e=>n4 (by rw[hb,e])));have hz3:=s3.size;have e4:w2.cell? ⟨p,2,none⟩=some (.slice fa fb.length fc):=by simp[World.cell?,p2]
 have G6:=zH p2;clear p2;have G7:=zH p3;clear p3;clear e1 g1 g2 g3 g3' hw1 hw2 hw2' hws;go_wp2_with (at_builtin;refine Z0h _ rfl _ _ rfl 0 _ _ _ fb rfl g33 _ _ _ (ZQ l) rfl hw3 (by rw[HLF.out];omega) (Nat.zero_le _) ?_;intro fa' fc' w4 hloc4 ho4 hg4;refine Hid.out ?_);refine zH ?_;generalize hw3e:w2.setCell ⟨p,0,none⟩ (.slice sa' (sb.length+(ZB l).length) sc')=w3 at *;have HW3:=zH hw3e;clear hw3e e2 e3 e4;have p3:=G7.out;have m2:=ZK g33 p3 (by decide);have hp3:p < w3.heap.size:=(Array.getElem?_eq_some_iff.1 p3).1;have p4:w4.heap[p]? = _:=(hg4.block p hp3 (fun e=>m2 e.symm)).trans p3;have e2:w4.cell? ⟨p,2,none⟩=some (.slice fa fb.length fc):=by simp[World.cell?,p4]
 have e3:w4.frozen? ⟨p,2,none⟩=false:=by simp[World.frozen?,p4]
 have P4:=zH p4;clear p4 p3;go_wp2_with fail;have p5:=heap_setCell_same w4 p 2 _ 168 (.slice fa' (fb.length+(ZQ l).length) fc') P4.out;have s5:Zb (fun k=>k=p) w4 (w4.setCell ⟨p,2,none⟩ (.slice fa' (fb.length+(ZQ l).length) fc')):=
  Zb.of_grown (row:=some p) ⟨rfl,rfl,rfl,by simp[World.setCell],fun k _ hk=>Below.heap_setCell w4 ⟨p,2,none⟩ _ k (fun e=>hk (by rw[e]))⟩ (fun k e=>by cases e;rfl)
 generalize w4.setCell ⟨p,2,none⟩ (.slice fa' (fb.length+(ZQ l).length) fc')=w5 at *;have hz1:=hb1.size;have hz4:=hg4.size;have hfa : ∀k,Value.ownBlock (.slice fa fb.length fc)=some k->k < w.heap.size:=fun k hk=>hFlt'.out k ((G5.out k).2 (.inr (.inr hk)));have hsa : ∀k,Value.ownBlock (.slice sa sb.length sc)=some k->k < w.heap.size:=fun k hk=>hFlt'.out k ((G5.out k).2 (.inr (.inl hk)));have ho34:=ho3.kept hg4 (by
  cases hv:Value.ownBlock (.slice sa' (sb.length+(ZB l).length) sc')with
  | none=>exact .inl rfl
  | some k=>
   refine .inr (fun e=>?_);rcases Jb (n:=sb.length) (c:=sc) hloc hv with h1 | h1
   ·exact G4.out k h1 e.symm
   ·have:=hfa k e.symm;omega)
 have ho35:=Ze ho34 s5 (fun b hb e=>n3 (by rw[hb,e]));have n5:=ZK ho4 P4.out (by decide);have ho45:=Ze ho4 s5 (fun b hb e=>n5 (by rw[hb,e]));have hAll:Zb F w w5:=
  ((((Zb.of_below hb1).trans (Zb.of_grown hg2 (fun k hk=>(G5.out k).2 (.inr (.inl hk))))).trans ⟨s3.os,s3.tape,s3.output,s3.size,fun k hk hF=>s3.block k hk (fun e=>hF ((G5.out k).2 (.inl e)))⟩).trans (Zb.of_grown hg4 (fun k hk=>(G5.out k).2 (.inr (.inr hk))))).trans ⟨s5.os,s5.tape,s5.output,s5.size,fun k hk hF=>s5.block k hk (fun e=>hF ((G5.out k).2 (.inl e)))⟩
 have e1:(sb ++ ZB l).length=sb.length+(ZB l).length:=List.length_append;have e2:(fb ++ ZQ l).length=fb.length+(ZQ l).length:=List.length_append;go_end0;refine⟨rfl,fun k=>k=p\/Value.ownBlock (.slice sa' (sb ++ ZB l).length sc')=some k\/Value.ownBlock (.slice fa' (fb ++ ZQ l).length fc')=some k,⟨sa',sc',fa',fc',?_,?_,?_,?_,fun k=>Iff.rfl,?_,?_,?_,?_⟩,hAll,?_⟩
 ·rw[e1,e2,p5];rfl
 ·rw[e1];exact ho35
 ·rw[e2];exact ho45
 ·intro k hk hk';rw[e1]at hk;rw[e2]at hk';rcases Jb (n:=sb.length) (c:=sc) hloc hk with h1 | h1 <;> rcases Jb (n:=fb.length) (c:=fc) hloc4 hk' with h2 | h2
  ·exact G4.out k h1 h2
  ·have:=hsa k h1;omega
  ·have:=hfa k h2;omega
  ·have:=(ho2.lt k hk).2;omega
 ·rw[e1];omega
 ·rw[e2];omega
 ·rw[e1,HLS.out,HLL.out];omega
 ·rw[e2,HLF.out];omega
 ·rintro k (rfl | hk | hk)
  ·exact .inl ((G5.out _).2 (.inl rfl))
  ·rcases Jb (n:=sb.length) (c:=sc) hloc hk with h1 | h1
   ·exact .inl ((G5.out k).2 (.inr (.inl h1)))
   ·exact .inr (by omega)
  ·rcases Jb (n:=fb.length) (c:=fc) hloc4 hk with h1 | h1
   ·exact .inl ((G5.out k).2 (.inr (.inr h1)))
   ·exact .inr (by omega)
theorem Z9J (w:World)(p:Nat)(F:Nat->Prop)(sb fb:zU)(sd fd:Nat)(a:zA)(n c:Nat)(l:zU)(h:Ub w p F sb fb sd fd)(hr:Ye w a n c l)
  (h1:n<=8192) (h2:sb.length+n+2<=16777216) (h3:fb.length+4<=16777216):
  Calls zq 49 #[.pointer (some ⟨p,0,none⟩),.slice a n c] w fun e w'=>e = .returned (.int .i64 0) /\ ∃F',Ub w' p F' (sb ++ ZB l) (fb ++ ZQ l) sd fd/\Zb F w w'/\(∀k,F' k->F k\/w.heap.size<=k):=by
 have hput:=Z9n w p F sb fb sd fd a n c l h hr (by omega) h2 h3;obtain⟨sa,sc,fa,fc,g1,g2,g3,g4,g5,g6,g7,g8,g9⟩:=h;have e1:w.cell? ⟨p,0,none⟩=some (.slice sa sb.length sc):=by simp[World.cell?,g1]
 have e2:w.cell? ⟨p,2,none⟩=some (.slice fa fb.length fc):=by simp[World.cell?,g1]
 have q1:decide ((8192:Int) < (n:Int))=false:=by simp;omega
 have q2:decide ((16777216:Int) < (sb.length:Int)+n+2)=false:=by simp;omega
 have q3:decide ((16777216:Int) < (fb.length:Int)+4)=false:=by simp;omega
 clear g1 g2 g3 g4 g5;have HP:=zH hput;clear hput;go_enter Tryz.func49,Tryz.ntmps49;go_wp2_with fail;refine HP.out.mono ?_;rintro e w' ⟨rfl,hpost⟩;go_wp2;go_ret;exact⟨rfl,hpost⟩
theorem Ub.j0 {w:World}{p:Nat}{F:Nat->Prop}{sb fb:zU}{sd fd:Nat}(h:Ub w p F sb fb sd fd): ∃a c,JAt w p 0 a sb.length c sd/\w.ownsRow 0 5 1 (.slice a sb.length c) sb.length (sb.map Zr):=by
 obtain⟨sa,sc,fa,fc,g1,g2,g3,g4,g5,g6,g7,g8,g9⟩:=h;exact⟨sa,sc,⟨by simp[World.cell?,g1],by simp[World.cell?,g1],by simp[World.frozen?,g1],by simp[World.frozen?,g1]⟩,g2⟩
theorem Ub.j2 {w:World}{p:Nat}{F:Nat->Prop}{sb fb:zU}{sd fd:Nat}(h:Ub w p F sb fb sd fd): ∃a c,JAt w p 2 a fb.length c fd/\w.ownsRow 0 5 1 (.slice a fb.length c) fb.length (fb.map Zr):=by
 obtain⟨sa,sc,fa,fc,g1,g2,g3,g4,g5,g6,g7,g8,g9⟩:=h;exact⟨fa,fc,⟨by simp[World.cell?,g1],by simp[World.cell?,g1],by simp[World.frozen?,g1],by simp[World.frozen?,g1]⟩,g3⟩
theorem Ub.setDur {w:World}{p:Nat}{F:Nat->Prop}{sb fb:zU}{sd fd:Nat}(h:Ub w p F sb fb sd fd)(d:Nat):
  (d<=sb.length->Ub (w.setCell ⟨p,1,none⟩ (.int .i64 d)) p F sb fb d fd)/\(d<=fb.length->Ub (w.setCell ⟨p,3,none⟩ (.int .i64 d)) p F sb fb sd d):=by
 obtain⟨sa,sc,fa,fc,g1,g2,g3,g4,g5,g6,g7,g8,g9⟩:=h;have n1:=ZK g2 g1 (by decide);have n2:=ZK g3 g1 (by decide);have s1 : ∀o,Zb (fun k=>k=p) w (w.setCell ⟨p,o,none⟩ (.int .i64 d)):=fun o=>
  Zb.of_grown (row:=some p) ⟨rfl,rfl,rfl,by simp[World.setCell],fun k _ hk=>Below.heap_setCell w ⟨p,o,none⟩ _ k (fun e=>hk (by rw[e]))⟩ (fun k e=>by cases e;rfl)
 constructor
 ·intro hd;refine⟨sa,sc,fa,fc,?_,Ze g2 (s1 1) (fun b hb e=>n1 (by rw[hb,e])),Ze g3 (s1 1) (fun b hb e=>n2 (by rw[hb,e])),g4,g5,hd,g7,g8,g9⟩;rw[heap_setCell_same w p 1 _ 168 _ g1];rfl
 ·intro hd;refine⟨sa,sc,fa,fc,?_,Ze g2 (s1 3) (fun b hb e=>n1 (by rw[hb,e])),Ze g3 (s1 3) (fun b hb e=>n2 (by rw[hb,e])),g4,g5,g6,hd,g8,g9⟩;rw[heap_setCell_same w p 3 _ 168 _ g1];rfl
theorem Z3P (w:World)(p:Nat)(F:Nat->Prop)(sb fb:zU)(sd fd:Nat)(h:Ub w p F sb fb sd fd):
  Calls zq 74 #[.pointer (some ⟨p,0,none⟩)] w fun e w'=>e = .returned (.tuple #[])/\Ub w' p F sb fb sb.length fb.length/\Zb (fun k=>k=p) w w':=by
 obtain⟨sa,sc,j1,_⟩:=h.j0;have h2:=(h.setDur sb.length).1 (Nat.le_refl _);have h3:=(h2.setDur fb.length).2 (Nat.le_refl _);obtain⟨fa,fc,j3,_⟩:=h2.j2;have HH:=zH h3;clear h3 h2 h;go_enter Tryz.func74,Tryz.ntmps74;go_wp2_with fail;refine(Z5F _ _ _ _ _ _ _ j1).mono ?_;rintro e w' ⟨rfl,rfl⟩;go_wp2_with fail;refine(Z5F _ _ _ _ _ _ _ j3).mono ?_;rintro e w' ⟨rfl,rfl⟩;go_wp2;go_end0;refine⟨rfl,HH.out,?_⟩;refine Zb.trans (Zb.of_grown (row:=some p) (W':=w.setCell ⟨p,1,none⟩ (.int .i64 sb.length)) ⟨rfl,rfl,rfl,by simp[World.setCell],fun k _ hk=>Below.heap_setCell w ⟨p,1,none⟩ _ k (fun e=>hk (by rw[e]))⟩ (fun k e=>by cases e;rfl)) ?_;exact Zb.of_grown (row:=some p) ⟨rfl,rfl,rfl,by simp[World.setCell],fun k _ hk=>Below.heap_setCell _ ⟨p,3,none⟩ _ k (fun e=>hk (by rw[e]))⟩ (fun k e=>by cases e;rfl)
theorem Z1c (w:World)(p:Nat)(F:Nat->Prop)(sb fb:zU)(sd fd:Nat)(h:Ub w p F sb fb sd fd):
  Calls zq 51 #[.pointer (some ⟨p,0,none⟩)] w fun e w' => ∃oa oc,e = .returned (.slice oa (Zz sb fb).length oc)/\J5 w' w.heap.size oa (Zz sb fb).length oc (Zz sb fb)/\Below w.heap.size w w':=by
 obtain⟨sa,sc,fa,fc,g1,g2,g3,g4,g5,g6,g7,g8,g9⟩:=h;have e1:w.cell? ⟨p,0,none⟩=some (.slice sa sb.length sc):=by simp[World.cell?,g1]
 have e2:w.cell? ⟨p,2,none⟩=some (.slice fa fb.length fc):=by simp[World.cell?,g1]
 have hlt:p < w.heap.size:=(Array.getElem?_eq_some_iff.1 g1).1;have r1:=Ye.of_own g2;have r2:=Ye.of_own g3;clear g1 g2 g3 g4 g5;go_enter Tryz.func51,Tryz.ntmps51;go_wp2_with fail;go_region_held3 (fun w'=>w'.cell? ⟨p,0,none⟩=some (.slice sa sb.length sc)/\w'.cell? ⟨p,2,none⟩=some (.slice fa fb.length fc)) (first | exact⟨e1,e2⟩ | exact⟨(hb.cell (p:=⟨p,0,none⟩) hlt).trans e1,(hb.cell (p:=⟨p,2,none⟩) hlt).trans e2⟩)
  (first|(go_at_call 47;refine(Z7L _ _ _ sb _ _ _ fb _ (r1.below (Below.refl _ _).drew) (r2.below (Below.refl _ _).drew) (by omega) (by omega)).mono ?_;rintro e w1 ⟨oa,oc,rfl,ho,hb⟩))
 go_wp2;go_ret;exact⟨oa,oc,rfl,ho,(Below.refl _ _).drew.trans hb⟩
def Z0n (sb fb:zU)(sd fd:Nat)(stock foil flip:Int):Prop:=
 0<=stock/\stock<=(sb.length:Int) - sd/\0<=foil/\foil<=(fb.length:Int) - fd /\ -1<=flip/\flip < 8 * (stock+foil)
theorem Zcs (w:World)(p:Nat)(F:Nat->Prop)(sb fb:zU)(sd fd:Nat)(stock foil flip:Int)(h:Ub w p F sb fb sd fd)(hc : ¬Z0n sb fb sd fd stock foil flip):
  Calls zq 50 #[.pointer (some ⟨p,0,none⟩),.int .i64 stock,.int .i64 foil,.int .i64 flip] w fun e w'=>e = .returned (.int .i64 1) /\ ∃q,w'=w.drewN q:=by
 have hq : ∀q,Ub (w.drewN q) p F sb fb sd fd:=fun q=>h.same (S:=fun _=>False) (Zb.of_below (below_drewN (Below.refl _ _) q)) (fun _ e=>e.elim);obtain⟨_,_,_,_,_,_,_,_,_,g6,g7,g8,g9⟩:=id h;have P1 : ∀q,Calls zq 110 #[.pointer (some ⟨p,0,none⟩)] (w.drewN q) fun e w'=>e = .returned (.int .i64 ((sb.length:Int) - sd)) /\ ∃q',w'=w.drewN q':=by
  intro q;obtain⟨a,c,j,_⟩:=(hq q).j0;refine(VK _ _ _ _ _ _ _ j g6 (by omega)).mono ?_;rintro e w' ⟨rfl,q',rfl⟩;exact⟨rfl,q+q',by rw[World.drewN_drewN]⟩
 have P2 : ∀q,Calls zq 110 #[.pointer (some ⟨p,2,none⟩)] (w.drewN q) fun e w'=>e = .returned (.int .i64 ((fb.length:Int) - fd)) /\ ∃q',w'=w.drewN q':=by
  intro q;obtain⟨a,c,j,_⟩:=(hq q).j2;refine(VK _ _ _ _ _ _ _ j g7 (by omega)).mono ?_;rintro e w' ⟨rfl,q',rfl⟩;exact⟨rfl,q+q',by rw[World.drewN_drewN]⟩
 have H1:=zH P1;clear P1;have H2:=zH P2;clear P2 hq h;have hd0:w=w.drewN 0:=rfl;have D0:=zH hd0;clear hd0;by_cases c1:0<=stock
 ·have q1:decide (stock < 0)=false:=by simp;omega
  by_cases c2:stock<=(sb.length:Int) - sd
  ·have q2:decide ((sb.length:Int) - sd < stock)=false:=by simp;omega
   by_cases c3:0<=foil
   ·have q3:decide (foil < 0)=false:=by simp;omega
    by_cases c4:foil<=(fb.length:Int) - fd
    ·have q4:decide ((fb.length:Int) - fd < foil)=false:=by simp;omega
     by_cases c5 : -1<=flip
     focus
      have q5:decide (flip < -1)=false:=by simp;omega
      have q6:decide (8 * (stock+foil)<=flip)=true:=by
       simp only[decide_eq_true_eq];by_cases hx:8 * (stock+foil)<=flip
       ·exact hx
       ·exact absurd ⟨c1,c2,c3,c4,c5,by omega⟩ hc
     rotate_left
     focus
      have q5:decide (flip < -1)=true:=by simp;omega
     all_goals
      clear hc;go_enter Tryz.func50,Tryz.ntmps50;go_wp2_with fail;refine(H1.out 0).mono ?_;rintro e w' ⟨rfl,q,rfl⟩;go_wp2_with fail;refine(H2.out q).mono ?_;rintro e w' ⟨rfl,q',rfl⟩;go_wp2;go_ret;exact⟨rfl,_,rfl⟩
    ·have q4:decide ((fb.length:Int) - fd < foil)=true:=by simp;omega
     clear hc;go_enter Tryz.func50,Tryz.ntmps50;go_wp2_with fail;refine(H1.out 0).mono ?_;rintro e w' ⟨rfl,q,rfl⟩;go_wp2_with fail;refine(H2.out q).mono ?_;rintro e w' ⟨rfl,q',rfl⟩;go_wp2;go_ret;exact⟨rfl,_,rfl⟩
   ·have q3:decide (foil < 0)=true:=by simp;omega
    clear hc;go_enter Tryz.func50,Tryz.ntmps50;go_wp2_with fail;refine(H1.out 0).mono ?_;rintro e w' ⟨rfl,q,rfl⟩;go_wp2;go_ret;exact⟨rfl,_,rfl⟩
  ·have q2:decide ((sb.length:Int) - sd < stock)=true:=by simp;omega
   clear hc;go_enter Tryz.func50,Tryz.ntmps50;go_wp2_with fail;refine(H1.out 0).mono ?_;rintro e w' ⟨rfl,q,rfl⟩;go_wp2;go_ret;exact⟨rfl,_,rfl⟩
 ·have q1:decide (stock < 0)=true:=by simp;omega
  clear hc;go_enter Tryz.func50,Tryz.ntmps50;go_wp2;go_ret;exact⟨rfl,0,rfl⟩
def ZV (l:zU)(i b:Nat):zU:=l.set i ((l[i]?.getD 0) ^^^ UInt8.ofNat (2 ^ b))
theorem Z09 (l:zU)(i b:Nat):(ZV l i b).length=l.length:=by simp[ZV]
def Jx (sb:zU)(sd stock:Nat)(flip:Int):zU:=
 if 0<=flip/\flip.toNat / 8 < stock then ZV (sb.take (sd+stock)) (sd+flip.toNat / 8) (flip.toNat % 8)else sb.take (sd+stock)
def Jf (fb:zU)(fd stock foil:Nat)(flip:Int):zU:=
 if 0<=flip /\ ¬flip.toNat / 8 < stock then ZV (fb.take (fd+foil)) (fd+flip.toNat / 8 - stock) (flip.toNat % 8)else fb.take (fd+foil)
theorem Ub.setStock {w w1:World}{p:Nat}{F:Nat->Prop}{sb fb:zU}{sd fd:Nat}(h:Ub w p F sb fb sd fd)(hb:Below w.heap.size w w1){a:zA}{m c:Nat}{l:zU}
  (ho:w1.ownsRow w.heap.size 5 1 (.slice a m c) m (l.map Zr)) (hd:sd<=m) (hm:m<=16777216):
  ∃F',Ub (w1.setCell ⟨p,0,none⟩ (.slice a m c)) p F' l fb sd fd/\Zb F w (w1.setCell ⟨p,0,none⟩ (.slice a m c))/\(∀k,F' k->F k\/w.heap.size<=k):=by
 have hlt:=h.lt;obtain⟨sa,sc,fa,fc,g1,g2,g3,g4,g5,g6,g7,g8,g9⟩:=h.same (S:=fun _=>False) (Zb.of_below hb) (fun _ e=>e.elim);have hl:l.length=m:=by simpa using ho.1
 have n1:=ZK ho g1 (by decide);have n2:=ZK g3 g1 (by decide);have s1:Zb (fun k=>k=p) w1 (w1.setCell ⟨p,0,none⟩ (.slice a m c)):=Zb.setCell _ rfl;refine⟨fun k=>k=p\/Value.ownBlock (.slice a l.length c)=some k\/Value.ownBlock (.slice fa fb.length fc)=some k,⟨a,c,fa,fc,?_,?_,Ze g3 s1 (fun b hb e=>n2 (by rw[hb,e])),?_,fun k=>Iff.rfl,by omega,g7,by omega,g9⟩,?_,?_⟩
 ·rw[heap_setCell_same w1 p 0 _ 168 _ g1,hl];rfl
 ·rw[hl];exact Zx (Ze ho s1 (fun b hb e=>n1 (by rw[hb,e]))) (Nat.zero_le _)
 ·intro k hk hk';rw[hl]at hk;have:=(ho.lt k hk).1;have:=hlt k ((g5 k).2 (.inr (.inr hk')));omega
 ·exact(Zb.of_below hb).trans ⟨s1.os,s1.tape,s1.output,s1.size,fun k hk hF=>s1.block k hk (fun e=>hF ((g5 k).2 (.inl e)))⟩
 ·rintro k (rfl | hk | hk)
  ·exact .inl ((g5 _).2 (.inl rfl))
  ·rw[hl]at hk;exact .inr (ho.lt k hk).1
  ·exact .inl ((g5 k).2 (.inr (.inr hk)))
theorem Ub.setFoil {w w1:World}{p:Nat}{F:Nat->Prop}{sb fb:zU}{sd fd:Nat}(h:Ub w p F sb fb sd fd)(hb:Below w.heap.size w w1){a:zA}{m c:Nat}{l:zU}
  (ho:w1.ownsRow w.heap.size 5 1 (.slice a m c) m (l.map Zr)) (hd:fd<=m) (hm:m<=16777216):
  ∃F',Ub (w1.setCell ⟨p,2,none⟩ (.slice a m c)) p F' sb l sd fd/\Zb F w (w1.setCell ⟨p,2,none⟩ (.slice a m c))/\(∀k,F' k->F k\/w.heap.size<=k):=by
 have hlt:=h.lt;obtain⟨sa,sc,fa,fc,g1,g2,g3,g4,g5,g6,g7,g8,g9⟩:=h.same (S:=fun _=>False) (Zb.of_below hb) (fun _ e=>e.elim);have hl:l.length=m:=by simpa using ho.1
 have n1:=ZK ho g1 (by decide);have n2:=ZK g2 g1 (by decide);have s1:Zb (fun k=>k=p) w1 (w1.setCell ⟨p,2,none⟩ (.slice a m c)):=
  Zb.of_grown (row:=some p) ⟨rfl,rfl,rfl,by simp[World.setCell],fun k _ hk=>Below.heap_setCell w1 ⟨p,2,none⟩ _ k (fun e=>hk (by rw[e]))⟩ (fun k e=>by cases e;rfl)
 refine⟨fun k=>k=p\/Value.ownBlock (.slice sa sb.length sc)=some k\/Value.ownBlock (.slice a l.length c)=some k,⟨sa,sc,a,c,?_,Ze g2 s1 (fun b hb e=>n2 (by rw[hb,e])),?_,?_,fun k=>Iff.rfl,g6,by omega,g8,by omega⟩,?_,?_⟩
 ·rw[heap_setCell_same w1 p 2 _ 168 _ g1,hl];rfl
 ·rw[hl];exact Zx (Ze ho s1 (fun b hb e=>n1 (by rw[hb,e]))) (Nat.zero_le _)
 ·intro k hk hk';rw[hl]at hk';have:=(ho.lt k hk').1;have:=hlt k ((g5 k).2 (.inr (.inl hk)));omega
 ·exact(Zb.of_below hb).trans ⟨s1.os,s1.tape,s1.output,s1.size,fun k hk hF=>s1.block k hk (fun e=>hF ((g5 k).2 (.inl e)))⟩
 ·rintro k (rfl | hk | hk)
  ·exact .inl ((g5 _).2 (.inl rfl))
  ·exact .inl ((g5 k).2 (.inr (.inl hk)))
  ·rw[hl]at hk;exact .inr (ho.lt k hk).1
theorem Ub.flipS {w:World}{p:Nat}{F:Nat->Prop}{sb fb:zU}{sd fd:Nat}(h:Ub w p F sb fb sd fd)(i:Nat)(hi:i < sb.length)(x:UInt8):
  ∃g c,w.cell? ⟨p,0,none⟩=some (.slice (some ⟨g,0,none⟩) sb.length c)/\w.cell? ⟨p,1,none⟩=some (.int .i64 sd)/\w.cell? ⟨g,i,none⟩=some (.int .u8 ((sb[i]?.getD 0).toNat:Int))/\w.frozen? ⟨g,i,none⟩=false /\
   Ub (w.setCell ⟨g,i,none⟩ (.int .u8 (x.toNat:Int))) p F (sb.set i x) fb sd fd/\Zb F w (w.setCell ⟨g,i,none⟩ (.int .u8 (x.toNat:Int))):=by
 obtain⟨sa,sc,fa,fc,g1,g2,g3,g4,g5,g6,g7,g8,g9⟩:=h;obtain⟨b,off,hb,hcells⟩:=(Ye.of_own g2).at (by omega);have hoff:off=0:=by
  rcases g2.2 with ⟨h,_⟩ | ⟨g,cap,cur,h,_⟩
  ·rw[hb]at h;simp at h
  ·rw[hb]at h;simp at h;exact h.1.2
 subst hb;subst hoff;have hc:=hcells i hi;rw[Nat.zero_add]at hc;have hfz:=g2.frozenAt i;obtain⟨hst,hgr⟩:=g2.stored i (.int .u8 (x.toNat:Int));have hS:Zb (fun k=>k=b) w (w.setCell ⟨b,i,none⟩ (.int .u8 (x.toNat:Int))):=Zb.of_grown hgr (fun k e=>by cases e;rfl);have n2:=ZK g2 g1 (by decide);have hset:(sb.map Zr).set i (.int .u8 (x.toNat:Int))=(sb.set i x).map Zr:=by rw[List.map_set];rfl
 rw[hset]at hst;have hls:(sb.set i x).length=sb.length:=List.length_set;refine⟨b,sc,by simp[World.cell?,g1],by simp[World.cell?,g1],hc,hfz,⟨some ⟨b,0,none⟩,sc,fa,fc,?_,?_,?_,?_,?_,?_,g7,?_,g9⟩,⟨hS.os,hS.tape,hS.output,hS.size,fun k hk hF=>hS.block k hk (fun e=>hF ((g5 k).2 (.inr (.inl (by rw[e];rfl)))))⟩⟩
 ·rw[hls,hS.block p (Array.getElem?_eq_some_iff.1 g1).1 (fun e=>n2 (by rw[e];rfl))];exact g1
 ·rw[hls];exact hst
 ·exact Ze g3 hS (fun k hk e=>g4 k (by rw[e];rfl) hk)
 ·rw[hls];exact g4
 ·rw[hls];exact g5
 ·rw[hls];exact g6
 ·rw[hls];exact g8
theorem Ub.flipF {w:World}{p:Nat}{F:Nat->Prop}{sb fb:zU}{sd fd:Nat}(h:Ub w p F sb fb sd fd)(i:Nat)(hi:i < fb.length)(x:UInt8):
  ∃g c,w.cell? ⟨p,2,none⟩=some (.slice (some ⟨g,0,none⟩) fb.length c)/\w.cell? ⟨p,3,none⟩=some (.int .i64 fd)/\w.cell? ⟨g,i,none⟩=some (.int .u8 ((fb[i]?.getD 0).toNat:Int))/\w.frozen? ⟨g,i,none⟩=false /\
   Ub (w.setCell ⟨g,i,none⟩ (.int .u8 (x.toNat:Int))) p F sb (fb.set i x) sd fd/\Zb F w (w.setCell ⟨g,i,none⟩ (.int .u8 (x.toNat:Int))):=by
 obtain⟨sa,sc,fa,fc,g1,g2,g3,g4,g5,g6,g7,g8,g9⟩:=h;obtain⟨b,off,hb,hcells⟩:=(Ye.of_own g3).at (by omega);have hoff:off=0:=by
  rcases g3.2 with ⟨h,_⟩ | ⟨g,cap,cur,h,_⟩
  ·rw[hb]at h;simp at h
  ·rw[hb]at h;simp at h;exact h.1.2
 subst hb;subst hoff;have hc:=hcells i hi;rw[Nat.zero_add]at hc;have hfz:=g3.frozenAt i;obtain⟨hst,hgr⟩:=g3.stored i (.int .u8 (x.toNat:Int));have hS:Zb (fun k=>k=b) w (w.setCell ⟨b,i,none⟩ (.int .u8 (x.toNat:Int))):=Zb.of_grown hgr (fun k e=>by cases e;rfl);have n2:=ZK g3 g1 (by decide);have hset:(fb.map Zr).set i (.int .u8 (x.toNat:Int))=(fb.set i x).map Zr:=by rw[List.map_set];rfl
 rw[hset]at hst;have hls:(fb.set i x).length=fb.length:=List.length_set;refine⟨b,fc,by simp[World.cell?,g1],by simp[World.cell?,g1],hc,hfz,⟨sa,sc,some ⟨b,0,none⟩,fc,?_,?_,?_,?_,?_,g6,?_,g8,?_⟩,⟨hS.os,hS.tape,hS.output,hS.size,fun k hk hF=>hS.block k hk (fun e=>hF ((g5 k).2 (.inr (.inr (by rw[e];rfl)))))⟩⟩
 ·rw[hls,hS.block p (Array.getElem?_eq_some_iff.1 g1).1 (fun e=>n2 (by rw[e];rfl))];exact g1
 ·exact Ze g2 hS (fun k hk e=>g4 k hk (by rw[e];rfl))
 ·rw[hls];exact hst
 ·rw[hls];exact g4
 ·rw[hls];exact g5
 ·rw[hls];exact g7
 ·rw[hls];exact g9
theorem Zb.trans2 {F F1:Nat->Prop}{a b c:World}(h:Zb F a b)(k:Zb F1 b c)(hF : ∀k,F1 k->F k\/a.heap.size<=k):Zb F a c:=
 ⟨k.os.trans h.os,k.tape.trans h.tape,k.output.trans h.output,Nat.le_trans h.size k.size,fun i hi hs=>(k.block i (Nat.lt_of_lt_of_le hi h.size) (fun h1=>by
  rcases hF i h1 with h2 | h2
  ·exact hs h2
  ·omega)).trans (h.block i hi hs)⟩
theorem Z5k (x y:UInt8):bits .xor .u8 (x.toNat:Int) (y.toNat:Int)=((x ^^^ y).toNat:Int):=by
 have hx:=x.toNat_lt;have hy:=y.toNat_lt;have h:x.toNat ^^^ y.toNat < 2 ^ 8:=Nat.xor_lt_two_pow hx hy;show IntKind.u8.wrap (((BitVec.ofInt 8 (x.toNat:Int)) ^^^ (BitVec.ofInt 8 (y.toNat:Int)):BitVec 8)).toNat=_;rw[BitVec.ofInt_natCast,BitVec.ofInt_natCast,BitVec.toNat_xor,BitVec.toNat_ofNat,BitVec.toNat_ofNat,Nat.mod_eq_of_lt hx,Nat.mod_eq_of_lt hy,IntKind.wrap_u8,UInt8.toNat_xor];omega
theorem ZcY (b:Nat):((2:Int) ^ b % 256)=((UInt8.ofNat (2 ^ b)).toNat:Int):=by
 rw[UInt8.toNat_ofNat'];simp
theorem Ub.self {w:World}{p:Nat}{F:Nat->Prop}{sb fb:zU}{sd fd:Nat}(h:Ub w p F sb fb sd fd):F p:=by
 obtain⟨sa,sc,fa,fc,h1,h2,h3,h4,h5,h6⟩:=h;exact(h5 p).2 (.inl rfl)
theorem Z5T (w:World)(p:Nat)(F:Nat->Prop)(sb fb:zU)(sd fd:Nat)(stock foil:Nat)(flip:Int)(h:Ub w p F sb fb sd fd)(hc:Z0n sb fb sd fd stock foil flip):
  Calls zq 50 #[.pointer (some ⟨p,0,none⟩),.int .i64 stock,.int .i64 foil,.int .i64 flip] w fun e w'=>e = .returned (.int .i64 0) /\
   ∃F',Ub w' p F' (Jx sb sd stock flip) (Jf fb fd stock foil flip) (Jx sb sd stock flip).length (Jf fb fd stock foil flip).length/\Zb F w w'/\(∀k,F' k->F k\/w.heap.size<=k):=by
 obtain⟨c1,c2,c3,c4,c5,c6⟩:=hc;have hq : ∀q,Ub (w.drewN q) p F sb fb sd fd:=fun q=>h.same (S:=fun _=>False) (Zb.of_below (below_drewN (Below.refl _ _) q)) (fun _ e=>e.elim);obtain⟨_,_,_,_,_,_,_,_,_,g6,g7,g8,g9⟩:=id h;have P1 : ∀q,Calls zq 110 #[.pointer (some ⟨p,0,none⟩)] (w.drewN q) fun e w'=>e = .returned (.int .i64 ((sb.length:Int) - sd)) /\ ∃q',w'=w.drewN q':=by
  intro q;obtain⟨a,c,j,_⟩:=(hq q).j0;refine(VK _ _ _ _ _ _ _ j g6 (by omega)).mono ?_;rintro e w' ⟨rfl,q',rfl⟩;exact⟨rfl,q+q',by rw[World.drewN_drewN]⟩
 have P2 : ∀q,Calls zq 110 #[.pointer (some ⟨p,2,none⟩)] (w.drewN q) fun e w'=>e = .returned (.int .i64 ((fb.length:Int) - fd)) /\ ∃q',w'=w.drewN q':=by
  intro q;obtain⟨a,c,j,_⟩:=(hq q).j2;refine(VK _ _ _ _ _ _ _ j g7 (by omega)).mono ?_;rintro e w' ⟨rfl,q',rfl⟩;exact⟨rfl,q+q',by rw[World.drewN_drewN]⟩
 have H1:=zH P1;clear P1;have H2:=zH P2;clear P2;have HQ:=zH hq;clear hq;have HP:=zH h.self;clear h;have q1:decide ((stock:Int) < 0)=false:=by simp
 have q2:decide ((sb.length:Int) - sd < stock)=false:=by simp;omega
 have q3:decide ((foil:Int) < 0)=false:=by simp
 have q4:decide ((fb.length:Int) - fd < foil)=false:=by simp;omega
 have q5:decide (flip < -1)=false:=by simp;omega
 have q6:decide (8 * ((stock:Int)+foil)<=flip)=false:=by simp;omega
 go_enter Tryz.func50,Tryz.ntmps50;go_wp2_with fail;refine(H1.out 0).mono ?_;rintro e w' ⟨rfl,q,rfl⟩;go_wp2_with fail;refine(H2.out q).mono ?_;rintro e w' ⟨rfl,q',rfl⟩;have hS:=HQ.out q';have hbq:Below w.heap.size w (w.drewN q'):=below_drewN (Below.refl _ _) q';have HB:=zH hbq;clear hbq;go_wp2_with fail;generalize w.drewN q'=w0 at *;have hb0:=HB.out;have hz0:=hb0.size;obtain⟨a0,k0,j0,o0⟩:=hS.j0;refine(Z5I w0 p 0 a0 sb.length k0 sd sb j0 (Ye.of_own o0) stock (by omega) (by omega)).mono ?_;rintro e w' ⟨rfl,a1,k1,w1,ho1,hb1,rfl⟩;obtain⟨F1,hS1,hF1,hF1'⟩:=hS.setStock hb1 ho1 (by omega) (by omega);clear j0 o0 hb1 ho1;go_wp2_with fail;generalize w1.setCell ⟨p,0,none⟩ (.slice a1 (sd+stock) k1)=w2 at *;obtain⟨a2,k2,j2,o2⟩:=hS1.j2;refine(Z5I w2 p 2 a2 fb.length k2 fd fb j2 (Ye.of_own o2) foil (by omega) (by omega)).mono ?_;rintro e w' ⟨rfl,a3,k3,w3,ho3,hb3,rfl⟩;obtain⟨F2,hS2,hF2,hF2'⟩:=hS1.setFoil hb3 ho3 (by omega) (by omega);clear j2 o2 hb3 ho3;have hSame:Zb F w (w3.setCell ⟨p,2,none⟩ (.slice a3 (fd+foil) k3)):=((Zb.of_below hb0).trans2 hF1 (fun k hk=>.inl hk)).trans2 hF2 (fun k hk=>by
  rcases hF1' k hk with h | h
  ·exact .inl h
  ·exact .inr (by omega))
 have hFoot : ∀k,F2 k->F k\/w.heap.size<=k:=fun k hk=>by
  rcases hF2' k hk with h | h
  ·rcases hF1' k h with h | h
   ·exact .inl h
   ·exact .inr (by omega)
  ·have:=hF1.size;exact .inr (by omega)
 have HS:=zH hSame;clear hSame;have HF:=zH hFoot;clear hFoot hF1 hF1' hF2 hF2' hS hS1;by_cases hm:flip < 0
 ·have e1:Jx sb sd stock flip=sb.take (sd+stock):=by unfold Jx;rw[if_neg (by omega)]
  have e2:Jf fb fd stock foil flip=fb.take (fd+foil):=by unfold Jf;rw[if_neg (by omega)]
  have E1:=zH e1;clear e1;have E2:=zH e2;clear e2;go_wp2_with fail;generalize w3.setCell ⟨p,2,none⟩ (.slice a3 (fd+foil) k3)=w4 at *;refine(Z3P _ _ _ _ _ _ _ hS2).mono ?_;rintro e w' ⟨rfl,hS3,hF3⟩;go_wp2;go_ret;rw[E1.out,E2.out];exact⟨rfl,F2,hS3,HS.out.trans2 hF3 (fun k hk=>.inl (by subst hk;exact HP.out)),HF.out⟩
 ·obtain⟨f,rfl⟩:=Int.eq_ofNat_of_zero_le (show 0<=flip by omega);go_wp2_with fail;go_quiet (fail);have hS3:=hS2.same (S:=fun _=>False) (Zb.of_below (below_drewN (Below.refl _ _) nq)) (fun _ e=>e.elim);have hA:(f:Int) / 8=((f / 8:Nat):Int):=by omega
  have hlen1:(sb.take (sd+stock)).length=sd+stock:=by rw[List.length_take];omega
  have hlen2:(fb.take (fd+foil)).length=fd+foil:=by rw[List.length_take];omega
  have HL1:=zH hlen1;clear hlen1;have HL2:=zH hlen2;clear hlen2;have hS0:=HS.out.trans (Zb.of_below (S:=F) (below_drewN (Below.refl _ _) nq));have HS0:=zH hS0;clear hS0;rw[ZcY,hA];clear hA hS2 HS;generalize (w3.setCell ⟨p,2,none⟩ (.slice a3 (fd+foil) k3)).drewN nq=w4 at *;by_cases hat:f / 8 < stock
  focus
   have e1:Jx sb sd stock f=ZV (sb.take (sd+stock)) (sd+f / 8) (f % 8):=by unfold Jx;rw[if_pos (by simp;exact hat)];simp
   have e2:Jf fb fd stock foil f=fb.take (fd+foil):=by unfold Jf;rw[if_neg (by simp;omega)]
   have E1:=zH e1;clear e1;have E2:=zH e2;clear e2;obtain⟨g,k,y1,y2,y3,y4,hS4,hF4⟩:=hS3.flipS (sd+f / 8) (by rw[HL1.out];omega) (((sb.take (sd+stock))[sd+f / 8]?.getD 0) ^^^ UInt8.ofNat (2 ^ (f % 8)));rw[HL1.out]at y1;have hx:=Z5k ((sb.take (sd+stock))[sd+f / 8]?.getD 0) (UInt8.ofNat (2 ^ (f % 8)));have E3:Hid (ZV (sb.take (sd+stock)) (sd+f / 8) (f % 8)=(sb.take (sd+stock)).set (sd+f / 8) (((sb.take (sd+stock))[sd+f / 8]?.getD 0) ^^^ UInt8.ofNat (2 ^ (f % 8)))):=show _=_ from rfl;generalize (sb.take (sd+stock))[sd+f / 8]?.getD 0=bt at *;generalize UInt8.ofNat (2 ^ (f % 8))=mk at *;generalize f / 8=A at *;have HS4:=zH hS4;clear hS4;have HF4:=zH hF4;clear hF4 hS3;clear w0 hb0 hz0 HB H1 H2 HQ;go_wp2_with fail;go_region;rw[<-UInt8.toNat_xor];have hS5:=HS4.out.same (S:=fun _=>False) (w':=(w4.setCell ⟨g,sd+A,none⟩ (.int .u8 ((bt ^^^ mk).toNat:Int))).drew) (Zb.of_below (below_drewN (Below.refl _ _) 1)) (fun _ e=>e.elim);have hF5:Zb F2 w4 (w4.setCell ⟨g,sd+A,none⟩ (.int .u8 ((bt ^^^ mk).toNat:Int))).drew:=HF4.out.trans (Zb.of_below (below_drewN (Below.refl _ _) 1));generalize (w4.setCell ⟨g,sd+A,none⟩ (.int .u8 ((bt ^^^ mk).toNat:Int))).drew=w5 at *
  rotate_left
  focus
   have e1:Jx sb sd stock f=sb.take (sd+stock):=by unfold Jx;rw[if_neg (by simp;omega)]
   have e2:Jf fb fd stock foil f=ZV (fb.take (fd+foil)) (fd+f / 8 - stock) (f % 8):=by unfold Jf;rw[if_pos (by simp;omega)];simp
   have E1:=zH e1;clear e1;have E2:=zH e2;clear e2;have hlt:fd+f / 8 - stock < fd+foil:=by omega
   obtain⟨g,k,y1,y2,y3,y4,hS4,hF4⟩:=hS3.flipF (fd+f / 8 - stock) (by rw[HL2.out];exact hlt) (((fb.take (fd+foil))[fd+f / 8 - stock]?.getD 0) ^^^ UInt8.ofNat (2 ^ (f % 8)));rw[HL2.out]at y1;have hx:=Z5k ((fb.take (fd+foil))[fd+f / 8 - stock]?.getD 0) (UInt8.ofNat (2 ^ (f % 8)));have E3:Hid (ZV (fb.take (fd+foil)) (fd+f / 8 - stock) (f % 8)=(fb.take (fd+foil)).set (fd+f / 8 - stock) (((fb.take (fd+foil))[fd+f / 8 - stock]?.getD 0) ^^^ UInt8.ofNat (2 ^ (f % 8)))):=show _=_ from rfl;generalize (fb.take (fd+foil))[fd+f / 8 - stock]?.getD 0=bt at *;generalize UInt8.ofNat (2 ^ (f % 8))=mk at *;have HS4:=zH hS4;clear hS4;have HF4:=zH hF4;clear hF4 hS3;clear w0 hb0 hz0 HB H1 H2 HQ;go_wp2_with fail;go_region;rw[<-UInt8.toNat_xor];have hS5:=HS4.out.same (S:=fun _=>False) (w':=(w4.setCell ⟨g,fd+f / 8 - stock,none⟩ (.int .u8 ((bt ^^^ mk).toNat:Int))).drew) (Zb.of_below (below_drewN (Below.refl _ _) 1)) (fun _ e=>e.elim);have hF5:Zb F2 w4 (w4.setCell ⟨g,fd+f / 8 - stock,none⟩ (.int .u8 ((bt ^^^ mk).toNat:Int))).drew:=HF4.out.trans (Zb.of_below (below_drewN (Below.refl _ _) 1));generalize (w4.setCell ⟨g,fd+f / 8 - stock,none⟩ (.int .u8 ((bt ^^^ mk).toNat:Int))).drew=w5 at *
  all_goals
   have HF5:=zH hF5;clear hF5 HS4 HF4 y1 y2 y3 y4 hx;go_wp2_with fail;refine(Z3P _ _ _ _ _ _ _ hS5).mono ?_;rintro e w' ⟨rfl,hS6,hF6⟩;go_wp2;go_ret;rw[E1.out,E2.out,E3.out];exact⟨rfl,F2,hS6,(HS0.out.trans2 HF5.out HF.out).trans2 hF6 (fun k hk=>.inl (by subst hk;exact HP.out)),HF.out⟩
theorem Ye.lit (w:World)(l:zU)(hl:l.length<=1000000):Ye (w.alloc (.cells (l.map Zr).toArray 5)) (some ⟨w.heap.size,0,none⟩) l.length l.length l:=by
 have h:=World.ownsRow_lit (base:=w.heap.size) (e:=5) (size:=1) w (l.map Zr).toArray l.length (Nat.le_refl _) (by unfold maxLen;omega) (by simp);exact Y3.of_own h
theorem Jh {w:World}{a:zA}{n c:Nat}{l:zU}(h:Ye w a n c l):(convert 41 9 (.slice a n c)).run zq w = .ok (.string ⟨l.toArray⟩) w:=
 Z3t 41 9 5 Tryz.underlying41 Tryz.underlying5 Tryz.underlying9 h
theorem Z7H (w:World)(A B:zU)(hA:A.length<=1000)(hB:B.length<=1000):
  Calls zq 47 #[.slice (some ⟨w.heap.size,0,none⟩) A.length A.length,.slice (some ⟨w.heap.size+1,0,none⟩) B.length B.length] ((w.alloc (.cells (A.map Zr).toArray 5)).alloc (.cells (B.map Zr).toArray 5)) fun e w'=>
   ∃oa oc,e = .returned (.tuple #[.slice oa (Zz A B).length oc,.int .i64 (sOf (Zz A B)),.int .i64 (4 * ((Zz A B).length:Int))])/\Below w.heap.size w w':=by
 have r2:=Ye.lit w A (by omega);have r3:=Ye.lit (w.alloc (.cells (A.map Zr).toArray 5)) B (by omega);rw[World.size_alloc]at r3;have b2:=(Below.refl (w.alloc (.cells (A.map Zr).toArray 5)).heap.size (w.alloc (.cells (A.map Zr).toArray 5))).alloc (Nat.le_refl _) (.cells (B.map Zr).toArray 5);have b1:=zB w (.cells (A.map Zr).toArray 5);have b3:=b1.trans (b2.mono (by simp));refine(Z7L _ _ _ A _ _ _ B _ (r2.below b2) r3 (by omega) (by omega)).mono ?_;rintro e w' ⟨oa,oc,rfl,_,hb⟩;exact⟨oa,oc,rfl,b3.trans (hb.mono b3.size)⟩
theorem ZbS (w:World):Calls zq 47 #[.slice (some ⟨w.heap.size,0,none⟩) 5 5,.slice (some ⟨w.heap.size+1,0,none⟩) 4 4]
  ((w.alloc (.cells #[.int .u8 1,.int .u8 0,.int .u8 7,.int .u8 0,.int .u8 0] 5)).alloc (.cells #[.int .u8 1,.int .u8 0,.int .u8 8,.int .u8 0] 5)) fun e w'=>
   ∃oa oc,e = .returned (.tuple #[.slice oa 1 oc,.int .i64 3,.int .i64 4])/\Below w.heap.size w w':=by
 have h:=Z7H w [1,0,7,0,0] [1,0,8,0] (by decide) (by decide);have e:Zz [1,0,7,0,0] [1,0,8,0]=[[7]]:=by decide+kernel
 rw[e]at h;exact h
theorem ZbR (w:World):Calls zq 47 #[.slice (some ⟨w.heap.size,0,none⟩) 3 3,.slice (some ⟨w.heap.size+1,0,none⟩) 4 4]
  ((w.alloc (.cells #[.int .u8 1,.int .u8 0,.int .u8 6] 5)).alloc (.cells #[.int .u8 1,.int .u8 0,.int .u8 8,.int .u8 0] 5)) fun e w'=>
   ∃oa oc,e = .returned (.tuple #[.slice oa 0 oc,.int .i64 0,.int .i64 0])/\Below w.heap.size w w':=by
 have h:=Z7H w [1,0,6] [1,0,8,0] (by decide) (by decide);have e:Zz [1,0,6] [1,0,8,0]=[]:=by decide+kernel
 rw[e]at h;exact h
theorem Zbo (w:World)(p:Nat)(F:Nat->Prop)(h:Ub w p F [1,0,7] [1,0,8,0] 0 0):
  Calls zq 50 #[.pointer (some ⟨p,0,none⟩),.int .i64 3,.int .i64 2,.int .i64 (-1)] w fun e w'=>e = .returned (.int .i64 0) /\ ∃F',Ub w' p F' [1,0,7] [1,0] 3 2/\Zb F w w'/\(∀k,F' k->F k\/w.heap.size<=k):=by
 have h:=Z5T w p F [1,0,7] [1,0,8,0] 0 0 3 2 (-1) h ⟨by decide,by decide,by decide,by decide,by decide,by decide⟩;have e1:Jx [1,0,7] 0 3 (-1)=[1,0,7]:=by decide+kernel
 have e2:Jf [1,0,8,0] 0 3 2 (-1)=[1,0]:=by decide+kernel
 rw[e1,e2]at h;exact h
theorem Z8t (w:World)(p:Nat)(F:Nat->Prop)(h:Ub w p F [1,0,7] [1,0] 3 2):
  Calls zq 51 #[.pointer (some ⟨p,0,none⟩)] w fun e w'=>(∃oa oc,e = .returned (.slice oa 0 oc))/\Below w.heap.size w w':=by
 have h:=Z1c w p F _ _ _ _ h;have e1:Zz [1,0,7] [1,0]=[]:=by decide+kernel
 rw[e1]at h;exact h.mono fun e w' ⟨oa,oc,he,_,hb⟩=>⟨⟨oa,oc,he⟩,hb⟩
theorem ZaS (w:World):Calls zq 10 #[] w fun e w'=>e = .returned (.bool true)/\Below w.heap.size w w':=by
 go_enter Tryz.func10,Tryz.ntmps10;go_wp2_with fail;have r1:Ye (w.alloc (.cells #[.int .u8 7] 5)) (some ⟨w.heap.size,0,none⟩) 1 1 [7]:=Ye.lit w [7] (by decide);have b0:=zB w (.cells #[.int .u8 7] 5);refine(Zad _ _ _ [7] _ r1 (by decide)).mono ?_;rintro e w1 ⟨sa,sc,fa,fc,rfl,hs,hf,b1⟩;have hb1:=b0.trans (b1.mono b0.size);have e1:ZB [7]=[1,0,7]:=by decide+kernel
 have e2:ZQ [7]=[1,0,8,0]:=by decide+kernel
 rw[e1]at hs ⊢;rw[e2]at hf ⊢;clear r1 b0 b1 e1 e2;have HB:=zH hb1;clear hb1;go_wp2_with fail;refine(ZbS w1).mono ?_;rintro e w2 ⟨oa,oc,rfl,b2⟩;have hb2:=HB.out.trans (b2.mono HB.out.size);have hs2:=hs.below b2;have hf2:=hf.below b2;have HB2:=zH hb2;clear hb2 b2 hs hf;go_wp2_with fail;refine(ZbR w2).mono ?_;rintro e w3 ⟨oa3,oc3,rfl,b3⟩;have hb3:=HB2.out.trans (b3.mono HB2.out.size);have hs3:=hs2.below b3;have hf3:=hf2.below b3;have HB3:=zH hb3;clear hb3 b3 hs2 hf2;go_wp2_with fail;refine(Z02 w3).mono ?_;rintro e w4 ⟨rfl,hst4,b4⟩;have hz4:w3.heap.size < w4.heap.size:=hst4.lt _ rfl;have B4:=zH b4;clear b4;go_wp2_with fail;have ba:=zB w4 (.cells #[.int .u8 7] 5);have hst5:=hst4.same (S:=fun _=>False) (Zb.of_below ba) (fun _ e=>e.elim);refine(Z9J _ _ _ _ _ _ _ _ _ _ [7] hst5 (Ye.lit w4 [7] (by decide)) (by decide) (by decide) (by decide)).mono ?_;rintro e w5 ⟨rfl,F5,hst5',hF5,hF5'⟩;have e1:([]:zU) ++ ZB [7]=[1,0,7]:=by decide+kernel
 have e2:([]:zU) ++ ZQ [7]=[1,0,8,0]:=by decide+kernel
 rw[e1,e2]at hst5';have b5:Below w3.heap.size w3 w5:=hF5.below (B4.out.trans (ba.mono (by omega))) (by simp;omega) (fun k hk=>by omega);have hG5 : ∀k,F5 k->w3.heap.size<=k:=fun k hk=>by
  rcases hF5' k hk with h | h
  ·omega
  ·simp at h;omega
 have B5:=zH b5;clear b5 hst5 ba hF5 hF5' hst4;have G5:=zH hG5;clear hG5;go_wp2_with fail;refine(Zbo w5 _ F5 hst5').mono ?_;rintro e w6 ⟨rfl,F6,hst6,hF6,hF6'⟩;have b6:Below w3.heap.size w3 w6:=hF6.below B5.out B5.out.size G5.out;have hs6:=hs3.below b6;have hf6:=hf3.below b6;have hb6:=HB3.out.trans (b6.mono HB3.out.size);have HB6:=zH hb6;clear hb6 b6 hF6 hF6' hst5' hs3 hf3;have c1:(convert 41 9 (.slice sa 3 sc)).run zq w6 = .ok (.string ⟨[1,0,7].toArray⟩) w6:=Jh hs6;have c2:(convert 41 9 (.slice (some ⟨w6.heap.size,0,none⟩) 3 3)).run zq (w6.alloc (.cells #[.int .u8 1,.int .u8 0,.int .u8 7] 5)) = .ok (.string ⟨[1,0,7].toArray⟩) (w6.alloc (.cells #[.int .u8 1,.int .u8 0,.int .u8 7] 5)):=Jh (Ye.lit w6 [1,0,7] (by decide));have ba:=zB w6 (.cells #[.int .u8 1,.int .u8 0,.int .u8 7] 5);have c3:(convert 41 9 (.slice fa 4 fc)).run zq (w6.alloc (.cells #[.int .u8 1,.int .u8 0,.int .u8 7] 5)) = .ok (.string ⟨[1,0,8,0].toArray⟩) (w6.alloc (.cells #[.int .u8 1,.int .u8 0,.int .u8 7] 5)):=Jh (hf6.below ba);have c4:(convert 41 9 (.slice (some ⟨w6.heap.size+1,0,none⟩) 4 4)).run zq ((w6.alloc (.cells #[.int .u8 1,.int .u8 0,.int .u8 7] 5)).alloc (.cells #[.int .u8 1,.int .u8 0,.int .u8 8,.int .u8 0] 5)) = .ok (.string ⟨[1,0,8,0].toArray⟩) ((w6.alloc (.cells #[.int .u8 1,.int .u8 0,.int .u8 7] 5)).alloc (.cells #[.int .u8 1,.int .u8 0,.int .u8 8,.int .u8 0] 5)):=by
  have h:=Ye.lit (w6.alloc (.cells #[.int .u8 1,.int .u8 0,.int .u8 7] 5)) [1,0,8,0] (by decide);rw[World.size_alloc]at h;exact Jh h
 have bb:=ba.alloc (by simp) (.cells #[.int .u8 1,.int .u8 0,.int .u8 8,.int .u8 0] 5);have hst7:=hst6.same (S:=fun _=>False) (Zb.of_below bb) (fun _ e=>e.elim);have HST:=zH hst7;have HBB:=zH bb;clear hst6 hst7 hs6 hf6 ba bb;go_wp2_with fail;refine(Z8t _ _ _ HST.out).mono ?_;rintro e w7 ⟨⟨oa7,oc7,rfl⟩,b7⟩;have hb7:=HB6.out.trans ((HBB.out.trans (b7.mono HBB.out.size)).mono HB6.out.size);have HB7:=zH hb7;clear hb7 b7;go_wp2;go_ret;exact⟨rfl,HB7.out⟩
end Go.Proofs.YtlnhppgfhkkidaaGreat
