/- Parts of the proof, in order. -/
import Derived.Deep.RegionHeld3
import Derived.Deep.AppendLies
import Derived.Deep.DrawnRows
import Derived.Deep.Cut
import Derived.Test.YtlnhppgfhkkidaaGreatKPho6
set_option linter.unusedSimpArgs false
set_option linter.unusedVariables false
set_option maxHeartbeats 32000000
set_option maxRecDepth 100000
namespace Go.Proofs.YtlnhppgfhkkidaaGreat
open Go.Proofs.Tryz renaming prog → zq
open Go.RowKit
structure Z7N (w W:World)(p0 p1:Nat)(f:Ys)(n:NoteV)(sa:zA)(sc:Nat):Prop where
 e0:W.heap[p0]? = some (.cells #[.int .i64 f.rings,.int .i64 f.sectors,.int .i64 f.wide] 23)
 e1:W.heap[p1]? = some (.cells (Z5 n sa sc) 47)
 b:Below p0 w W
 lt:p0 < p1
theorem Z7N.below {w W W':World}{p0 p1:Nat}{f:Ys}{n:NoteV}{sa:zA}{sc:Nat}(h:Z7N w W p0 p1 f n sa sc)(hb:Below W.heap.size W W'):Z7N w W' p0 p1 f n sa sc:=by
 have g : ∀{k:Nat} {o:Obj},W.heap[k]? = some o->W'.heap[k]? = some o:=fun {k o} hk=>(hb.block k (Array.getElem?_eq_some_iff.1 hk).1).trans hk;have h0:=(Array.getElem?_eq_some_iff.1 h.e0).1;exact⟨g h.e0,g h.e1,h.b.trans (hb.mono (by omega)),h.lt⟩
theorem Yz {W:World}{p:Nat}{A:Xz}{t:TypeId}{sp:Nat×Nat}(h:W.heap[p]? = some (.cells A t sp))(j:Nat)(v:Value)(hv:A[j]? = some v):W.cell? ⟨p,j,none⟩=some v:=by
 simp[World.cell?,h,hv]
section
attribute [local go_sem] ZS Xi Jg Qz Jf Qy Qx Qw Ve Vd JY JX JG JE JD J5 Jj Ji Js
variable (f:Ys)(n:NoteV)(sa:zA)(sc:Nat)(w:World)
theorem Zcu (hv:f.valid=true)(hs:Xe w sa n.strokes.length sc n.strokes)(hk:n.kind=2):
  Calls zq 186 #[f.val,.agg (Z5 n sa sc)] w fun e w'=>e = .returned (.bool (Zz f n))/\Below w.heap.size w w':=by
 have g1:=Zm (w.alloc (zF f 23)) (.cells (Z5 n sa sc) 47) (w.heap.size+1) (by simp);have g0:=Z8 (w.alloc (zF f 23)) (.cells (Z5 n sa sc) 47) _ _ (Zm w (zF f 23) _ rfl);have bb:Below w.heap.size w ((w.alloc (zF f 23)).alloc (.cells (Z5 n sa sc) 47)):=(zB _ _).alloc (by simp) _;have L0:Hid (Z7N w ((w.alloc (zF f 23)).alloc (.cells (Z5 n sa sc) 47)) w.heap.size (w.heap.size+1) f n sa sc):=zH ⟨g0,g1,bb,by omega⟩;clear g0 g1 bb;unfold Ys.val;go_enter Tryz.func186,Tryz.ntmps186;go_upto_region 1 with fail;generalize hW0:(w.alloc (zF f 23)).alloc (.cells (Z5 n sa sc) 47)=W0 at *;generalize hp0:w.heap.size=p0 at *;generalize hp1:p0+1=p1 at *;have RDb:=zH (show ∀W',Below p0 w W'->Xe W' sa n.strokes.length sc n.strokes from fun W' h=>hs.below (by rw[hp0];exact h));have HP0:=zH hp0;clear hp0 hp1 hW0;have HV:=zH hv;clear hv;have HK:=zH hk;clear hk;have q2:(n.kind==2)=true:=by simp[HK.out]
 have q2':decide (n.kind=2)=true:=by simp[HK.out]
 have q5:(n.kind==5)=false:=by simp[HK.out]
 have q5':decide (n.kind=5)=false:=by simp[HK.out]
 have q6:(n.kind==6)=false:=by simp[HK.out]
 have q6':decide (n.kind=6)=false:=by simp[HK.out]
 have HRS:=zH (show Yu n=true by simp[Yu,HK.out]);have HK2:=zH (show ¬n.kind=6 /\ ¬n.kind=5 by rw[HK.out];decide);go_wp2_with   (first
   |(refine zL p1 L0.out.e1 ?_)
   |(refine zG p1 L0.out.e1 ?_))
 refine(ZA n sa sc _).mono ?_;rintro e w1 ⟨rfl,b1⟩;have L1:=zH (L0.out.below b1);clear b1;go_wp2_with fail;refine(YU n.house n.num _).mono ?_;rintro e w2 ⟨rfl,b2⟩;have L2:=zH (L1.out.below b2);clear b2;cases hrn:Zy n.house n.num
 ·have hR:Zz f n=false:=by simp[Zz,HRS.out,HK2.out.1,HK2.out.2,hrn]
  have HRX:=zH hR;clear hR;go_wp2;go_ret;rw[HRX.out];exact⟨rfl,by first | exact L2.out.b|(rw[HP0.out];exact L2.out.b)⟩
 ·have HRN:=zH hrn;clear hrn;have k2:=zc L2.out.e1 2 _ rfl;have k3:=zc L2.out.e1 3 _ rfl;have k4:=zc L2.out.e1 4 _ rfl;have k16:=zc L2.out.e1 16 _ rfl;have k17:=zc L2.out.e1 17 _ rfl;go_wp2_with fail;refine(Yt n.clock 1 1099511627776 _).mono ?_;rintro e w' ⟨rfl,rfl⟩;cases hcl:Xx n.clock 1 1099511627776
  ·have hR:Zz f n=false:=by simp[Zz,HRS.out,HK2.out.1,HK2.out.2,HRN.out,hcl]
   have HRX:=zH hR;clear hR;go_wp2;go_ret;rw[HRX.out];exact⟨rfl,by first | exact L2.out.b|(rw[HP0.out];exact L2.out.b)⟩
  ·have HCL:=zH hcl;clear hcl;go_wp2_with fail;refine(Yt n.day 0 99999 _).mono ?_;rintro e w' ⟨rfl,rfl⟩;cases hda:Xx n.day 0 99999
   ·have hR:Zz f n=false:=by simp[Zz,HRS.out,HK2.out.1,HK2.out.2,HRN.out,HCL.out,hda]
    have HRX:=zH hR;clear hR;go_wp2;go_ret;rw[HRX.out];exact⟨rfl,by first | exact L2.out.b|(rw[HP0.out];exact L2.out.b)⟩
   ·have HDA:=zH hda;clear hda;by_cases h16:n.refH=0
    ·by_cases h17:n.refN=0
     ·have r16:(n.refH==0)=true:=by simp[h16]
      have r16':decide (n.refH=0)=true:=by simp[h16]
      have r17:(n.refN==0)=true:=by simp[h17]
      have r17':decide (n.refN=0)=true:=by simp[h17]
      have HNM:=zH (show Y4 n=false by simp[Y4,h16,h17]);clear h16 h17;have hR:Zz f n=false:=by simp[Zz,HRS.out,HK2.out.1,HK2.out.2,HRN.out,HCL.out,HDA.out,HNM.out]
      have HRX:=zH hR;clear hR;go_wp2;go_ret;rw[HRX.out];exact⟨rfl,by first | exact L2.out.b|(rw[HP0.out];exact L2.out.b)⟩
     ·have r16:(n.refH==0)=true:=by simp[h16]
      have r16':decide (n.refH=0)=true:=by simp[h16]
      have r17:(n.refN==0)=false:=by simp[h17]
      have r17':decide (n.refN=0)=false:=by simp[h17]
      have HNM:=zH (show Y4 n=true by simp[Y4,h16,h17]);clear h16 h17;go_wp2_with fail;refine(YU n.refH n.refN _).mono ?_;rintro e w3 ⟨rfl,b3⟩;have L3:=zH (L2.out.below b3);clear b3;cases hrf:Zy n.refH n.refN
      ·have hR:Zz f n=false:=by simp[Zz,HRS.out,HK2.out.1,HK2.out.2,HRN.out,HCL.out,HDA.out,HNM.out,hrf]
       have HRX:=zH hR;clear hR;go_wp2;go_ret;rw[HRX.out];exact⟨rfl,by first | exact L3.out.b|(rw[HP0.out];exact L3.out.b)⟩
      ·have HRF:=zH hrf;clear hrf;clear k2 k3 k4 k16 k17;have k4:=zc L3.out.e1 4 _ rfl;by_cases hfx:n.fix=0
       ·have hfx1:(n.fix==0)=true:=by simp[hfx]
        have hfx2:decide (n.fix=0)=true:=by simp[hfx]
        have HFX:=zH hfx;clear hfx;have k18:=zc L3.out.e1 18 _ rfl;have c0:=Yz L3.out.e0 0 _ rfl;have c1:=Yz L3.out.e0 1 _ rfl;have c2:=Yz L3.out.e0 2 _ rfl;go_wp2_with   (first
          |(refine zL p1 L3.out.e1 ?_)
          |(refine zG p1 L3.out.e1 ?_))
        refine(UK f n sa sc _ HV.out (RDb.out _ L3.out.b) (n.kind)).mono ?_;rintro e w5 ⟨rfl,b5⟩;have L5:=zH (L3.out.below b5);clear b5;cases hr:ZO f (n.kind) n
        ·have hR:Zz f n=false:=by simp[Zz,HRS.out,HK2.out.1,HK2.out.2,HRN.out,HCL.out,HDA.out,HNM.out,HRF.out,HFX.out,hr]
         have HRX:=zH hR;clear hR;go_wp2;go_ret;rw[HRX.out];exact⟨rfl,by first | exact L5.out.b|(rw[HP0.out];exact L5.out.b)⟩
        ·have HRR:=zH hr;clear hr;go_wp2_with   (first
           |(refine zL p1 L5.out.e1 ?_)
           |(refine zG p1 L5.out.e1 ?_))
         refine(Uc n sa sc _ (RDb.out _ L5.out.b) (n.kind)).mono ?_;rintro e w6 ⟨ta,tc,rfl,hrd,b6⟩;have L6:=zH (L5.out.below b6);clear b6;have hR:Zz f n=Yv (ZV (n.kind) n) Zd:=by simp[Zz,HRS.out,HK2.out.1,HK2.out.2,HRN.out,HCL.out,HDA.out,HNM.out,HRF.out,HFX.out,HRR.out]
         obtain⟨N,HN⟩:=zX (ZV (n.kind) n);rw[HN.out]at hrd hR;have HRX:=zH hR;clear hR;have RD6:=zH hrd;clear hrd;rw[HN.out];go_wp2_with fail;refine(QV N Zd ta tc none 0 _ RD6.out (ZX.nil _ 1)).mono ?_;rintro e w7 ⟨rfl,b7⟩;have L7:=zH (L6.out.below b7);clear b7;go_wp2;go_ret;rw[HRX.out];exact⟨rfl,by first | exact L7.out.b|(rw[HP0.out];exact L7.out.b)⟩
       ·have hfx1:(n.fix==0)=false:=by simp[hfx]
        have hfx2:decide (n.fix=0)=false:=by simp[hfx]
        have HFX:=zH hfx;clear hfx;have k18:=zc L3.out.e1 18 _ rfl;have hR:Zz f n=false:=by simp[Zz,HRS.out,HK2.out.1,HK2.out.2,HRN.out,HCL.out,HDA.out,HNM.out,HRF.out,HFX.out]
        have HRX:=zH hR;clear hR;go_wp2;go_ret;rw[HRX.out];exact⟨rfl,by first | exact L3.out.b|(rw[HP0.out];exact L3.out.b)⟩
    ·have r16:(n.refH==0)=false:=by simp[h16]
     have r16':decide (n.refH=0)=false:=by simp[h16]
     have HNM:=zH (show Y4 n=true by simp[Y4,h16]);clear h16;go_wp2_with fail;refine(YU n.refH n.refN _).mono ?_;rintro e w3 ⟨rfl,b3⟩;have L3:=zH (L2.out.below b3);clear b3;cases hrf:Zy n.refH n.refN
     ·have hR:Zz f n=false:=by simp[Zz,HRS.out,HK2.out.1,HK2.out.2,HRN.out,HCL.out,HDA.out,HNM.out,hrf]
      have HRX:=zH hR;clear hR;go_wp2;go_ret;rw[HRX.out];exact⟨rfl,by first | exact L3.out.b|(rw[HP0.out];exact L3.out.b)⟩
     ·have HRF:=zH hrf;clear hrf;clear k2 k3 k4 k16 k17;have k4:=zc L3.out.e1 4 _ rfl;by_cases hfx:n.fix=0
      ·have hfx1:(n.fix==0)=true:=by simp[hfx]
       have hfx2:decide (n.fix=0)=true:=by simp[hfx]
       have HFX:=zH hfx;clear hfx;have k18:=zc L3.out.e1 18 _ rfl;have c0:=Yz L3.out.e0 0 _ rfl;have c1:=Yz L3.out.e0 1 _ rfl;have c2:=Yz L3.out.e0 2 _ rfl;go_wp2_with   (first
         |(refine zL p1 L3.out.e1 ?_)
         |(refine zG p1 L3.out.e1 ?_))
       refine(UK f n sa sc _ HV.out (RDb.out _ L3.out.b) (n.kind)).mono ?_;rintro e w5 ⟨rfl,b5⟩;have L5:=zH (L3.out.below b5);clear b5;cases hr:ZO f (n.kind) n
       ·have hR:Zz f n=false:=by simp[Zz,HRS.out,HK2.out.1,HK2.out.2,HRN.out,HCL.out,HDA.out,HNM.out,HRF.out,HFX.out,hr]
        have HRX:=zH hR;clear hR;go_wp2;go_ret;rw[HRX.out];exact⟨rfl,by first | exact L5.out.b|(rw[HP0.out];exact L5.out.b)⟩
       ·have HRR:=zH hr;clear hr;go_wp2_with   (first
          |(refine zL p1 L5.out.e1 ?_)
          |(refine zG p1 L5.out.e1 ?_))
        refine(Uc n sa sc _ (RDb.out _ L5.out.b) (n.kind)).mono ?_;rintro e w6 ⟨ta,tc,rfl,hrd,b6⟩;have L6:=zH (L5.out.below b6);clear b6;have hR:Zz f n=Yv (ZV (n.kind) n) Zd:=by simp[Zz,HRS.out,HK2.out.1,HK2.out.2,HRN.out,HCL.out,HDA.out,HNM.out,HRF.out,HFX.out,HRR.out]
        obtain⟨N,HN⟩:=zX (ZV (n.kind) n);rw[HN.out]at hrd hR;have HRX:=zH hR;clear hR;have RD6:=zH hrd;clear hrd;rw[HN.out];go_wp2_with fail;refine(QV N Zd ta tc none 0 _ RD6.out (ZX.nil _ 1)).mono ?_;rintro e w7 ⟨rfl,b7⟩;have L7:=zH (L6.out.below b7);clear b7;go_wp2;go_ret;rw[HRX.out];exact⟨rfl,by first | exact L7.out.b|(rw[HP0.out];exact L7.out.b)⟩
      ·have hfx1:(n.fix==0)=false:=by simp[hfx]
       have hfx2:decide (n.fix=0)=false:=by simp[hfx]
       have HFX:=zH hfx;clear hfx;have k18:=zc L3.out.e1 18 _ rfl;have hR:Zz f n=false:=by simp[Zz,HRS.out,HK2.out.1,HK2.out.2,HRN.out,HCL.out,HDA.out,HNM.out,HRF.out,HFX.out]
       have HRX:=zH hR;clear hR;go_wp2;go_ret;rw[HRX.out];exact⟨rfl,by first | exact L3.out.b|(rw[HP0.out];exact L3.out.b)⟩
theorem Zct (hv:f.valid=true)(hs:Xe w sa n.strokes.length sc n.strokes)(hk:n.kind=5):
  Calls zq 186 #[f.val,.agg (Z5 n sa sc)] w fun e w'=>e = .returned (.bool (Zz f n))/\Below w.heap.size w w':=by
 have g1:=Zm (w.alloc (zF f 23)) (.cells (Z5 n sa sc) 47) (w.heap.size+1) (by simp);have g0:=Z8 (w.alloc (zF f 23)) (.cells (Z5 n sa sc) 47) _ _ (Zm w (zF f 23) _ rfl);have bb:Below w.heap.size w ((w.alloc (zF f 23)).alloc (.cells (Z5 n sa sc) 47)):=(zB _ _).alloc (by simp) _;have L0:Hid (Z7N w ((w.alloc (zF f 23)).alloc (.cells (Z5 n sa sc) 47)) w.heap.size (w.heap.size+1) f n sa sc):=zH ⟨g0,g1,bb,by omega⟩;clear g0 g1 bb;unfold Ys.val;go_enter Tryz.func186,Tryz.ntmps186;go_upto_region 1 with fail;generalize hW0:(w.alloc (zF f 23)).alloc (.cells (Z5 n sa sc) 47)=W0 at *;generalize hp0:w.heap.size=p0 at *;generalize hp1:p0+1=p1 at *;have RDb:=zH (show ∀W',Below p0 w W'->Xe W' sa n.strokes.length sc n.strokes from fun W' h=>hs.below (by rw[hp0];exact h));have HP0:=zH hp0;clear hp0 hp1 hW0;have HV:=zH hv;clear hv;have HK:=zH hk;clear hk;have q2:(n.kind==2)=false:=by simp[HK.out]
 have q2':decide (n.kind=2)=false:=by simp[HK.out]
 have q5:(n.kind==5)=true:=by simp[HK.out]
 have q5':decide (n.kind=5)=true:=by simp[HK.out]
 have q6:(n.kind==6)=false:=by simp[HK.out]
 have q6':decide (n.kind=6)=false:=by simp[HK.out]
 have HRS:=zH (show Yu n=true by simp[Yu,HK.out]);go_wp2_with   (first
   |(refine zL p1 L0.out.e1 ?_)
   |(refine zG p1 L0.out.e1 ?_))
 refine(ZA n sa sc _).mono ?_;rintro e w1 ⟨rfl,b1⟩;have L1:=zH (L0.out.below b1);clear b1;go_wp2_with fail;refine(YU n.house n.num _).mono ?_;rintro e w2 ⟨rfl,b2⟩;have L2:=zH (L1.out.below b2);clear b2;cases hrn:Zy n.house n.num
 ·have hR:Zz f n=false:=by simp[Zz,HRS.out,HK.out,hrn]
  have HRX:=zH hR;clear hR;go_wp2;go_ret;rw[HRX.out];exact⟨rfl,by first | exact L2.out.b|(rw[HP0.out];exact L2.out.b)⟩
 ·have HRN:=zH hrn;clear hrn;have k2:=zc L2.out.e1 2 _ rfl;have k3:=zc L2.out.e1 3 _ rfl;have k4:=zc L2.out.e1 4 _ rfl;have k16:=zc L2.out.e1 16 _ rfl;have k17:=zc L2.out.e1 17 _ rfl;go_wp2_with fail;refine(Yt n.clock 1 1099511627776 _).mono ?_;rintro e w' ⟨rfl,rfl⟩;cases hcl:Xx n.clock 1 1099511627776
  ·have hR:Zz f n=false:=by simp[Zz,HRS.out,HK.out,HRN.out,hcl]
   have HRX:=zH hR;clear hR;go_wp2;go_ret;rw[HRX.out];exact⟨rfl,by first | exact L2.out.b|(rw[HP0.out];exact L2.out.b)⟩
  ·have HCL:=zH hcl;clear hcl;go_wp2_with fail;refine(Yt n.day 0 99999 _).mono ?_;rintro e w' ⟨rfl,rfl⟩;cases hda:Xx n.day 0 99999
   ·have hR:Zz f n=false:=by simp[Zz,HRS.out,HK.out,HRN.out,HCL.out,hda]
    have HRX:=zH hR;clear hR;go_wp2;go_ret;rw[HRX.out];exact⟨rfl,by first | exact L2.out.b|(rw[HP0.out];exact L2.out.b)⟩
   ·have HDA:=zH hda;clear hda;by_cases h16:n.refH=0
    ·by_cases h17:n.refN=0
     ·have r16:(n.refH==0)=true:=by simp[h16]
      have r16':decide (n.refH=0)=true:=by simp[h16]
      have r17:(n.refN==0)=true:=by simp[h17]
      have r17':decide (n.refN=0)=true:=by simp[h17]
      have HNM:=zH (show Y4 n=false by simp[Y4,h16,h17]);clear h16 h17;have hR:Zz f n=false:=by simp[Zz,HRS.out,HK.out,HRN.out,HCL.out,HDA.out,HNM.out]
      have HRX:=zH hR;clear hR;go_wp2;go_ret;rw[HRX.out];exact⟨rfl,by first | exact L2.out.b|(rw[HP0.out];exact L2.out.b)⟩
     ·have r16:(n.refH==0)=true:=by simp[h16]
      have r16':decide (n.refH=0)=true:=by simp[h16]
      have r17:(n.refN==0)=false:=by simp[h17]
      have r17':decide (n.refN=0)=false:=by simp[h17]
      have HNM:=zH (show Y4 n=true by simp[Y4,h16,h17]);clear h16 h17;go_wp2_with fail;refine(YU n.refH n.refN _).mono ?_;rintro e w3 ⟨rfl,b3⟩;have L3:=zH (L2.out.below b3);clear b3;cases hrf:Zy n.refH n.refN
      ·have hR:Zz f n=false:=by simp[Zz,HRS.out,HK.out,HRN.out,HCL.out,HDA.out,HNM.out,hrf]
       have HRX:=zH hR;clear hR;go_wp2;go_ret;rw[HRX.out];exact⟨rfl,by first | exact L3.out.b|(rw[HP0.out];exact L3.out.b)⟩
      ·have HRF:=zH hrf;clear hrf;clear k2 k3 k4 k16 k17;have k4:=zc L3.out.e1 4 _ rfl;have k18:=zc L3.out.e1 18 _ rfl;have c0:=Yz L3.out.e0 0 _ rfl;have c1:=Yz L3.out.e0 1 _ rfl;have c2:=Yz L3.out.e0 2 _ rfl;go_wp2_with   (first
         |(refine zL p1 L3.out.e1 ?_)
         |(refine zG p1 L3.out.e1 ?_))
       refine(UK f n sa sc _ HV.out (RDb.out _ L3.out.b) (n.fix)).mono ?_;rintro e w5 ⟨rfl,b5⟩;have L5:=zH (L3.out.below b5);clear b5;cases hr:ZO f (n.fix) n
       ·have hR:Zz f n=false:=by simp[Zz,HRS.out,HK.out,HRN.out,HCL.out,HDA.out,HNM.out,HRF.out,hr]
        have HRX:=zH hR;clear hR;go_wp2;go_ret;rw[HRX.out];exact⟨rfl,by first | exact L5.out.b|(rw[HP0.out];exact L5.out.b)⟩
       ·have HRR:=zH hr;clear hr;go_wp2_with   (first
          |(refine zL p1 L5.out.e1 ?_)
          |(refine zG p1 L5.out.e1 ?_))
        refine(Uc n sa sc _ (RDb.out _ L5.out.b) (n.fix)).mono ?_;rintro e w6 ⟨ta,tc,rfl,hrd,b6⟩;have L6:=zH (L5.out.below b6);clear b6;have hR:Zz f n=Yv (ZV (n.fix) n) Zd:=by simp[Zz,HRS.out,HK.out,HRN.out,HCL.out,HDA.out,HNM.out,HRF.out,HRR.out]
        obtain⟨N,HN⟩:=zX (ZV (n.fix) n);rw[HN.out]at hrd hR;have HRX:=zH hR;clear hR;have RD6:=zH hrd;clear hrd;rw[HN.out];go_wp2_with fail;refine(QV N Zd ta tc none 0 _ RD6.out (ZX.nil _ 1)).mono ?_;rintro e w7 ⟨rfl,b7⟩;have L7:=zH (L6.out.below b7);clear b7;go_wp2;go_ret;rw[HRX.out];exact⟨rfl,by first | exact L7.out.b|(rw[HP0.out];exact L7.out.b)⟩
    ·have r16:(n.refH==0)=false:=by simp[h16]
     have r16':decide (n.refH=0)=false:=by simp[h16]
     have HNM:=zH (show Y4 n=true by simp[Y4,h16]);clear h16;go_wp2_with fail;refine(YU n.refH n.refN _).mono ?_;rintro e w3 ⟨rfl,b3⟩;have L3:=zH (L2.out.below b3);clear b3;cases hrf:Zy n.refH n.refN
     ·have hR:Zz f n=false:=by simp[Zz,HRS.out,HK.out,HRN.out,HCL.out,HDA.out,HNM.out,hrf]
      have HRX:=zH hR;clear hR;go_wp2;go_ret;rw[HRX.out];exact⟨rfl,by first | exact L3.out.b|(rw[HP0.out];exact L3.out.b)⟩
     ·have HRF:=zH hrf;clear hrf;clear k2 k3 k4 k16 k17;have k4:=zc L3.out.e1 4 _ rfl;have k18:=zc L3.out.e1 18 _ rfl;have c0:=Yz L3.out.e0 0 _ rfl;have c1:=Yz L3.out.e0 1 _ rfl;have c2:=Yz L3.out.e0 2 _ rfl;go_wp2_with   (first
        |(refine zL p1 L3.out.e1 ?_)
        |(refine zG p1 L3.out.e1 ?_))
      refine(UK f n sa sc _ HV.out (RDb.out _ L3.out.b) (n.fix)).mono ?_;rintro e w5 ⟨rfl,b5⟩;have L5:=zH (L3.out.below b5);clear b5;cases hr:ZO f (n.fix) n
      ·have hR:Zz f n=false:=by simp[Zz,HRS.out,HK.out,HRN.out,HCL.out,HDA.out,HNM.out,HRF.out,hr]
       have HRX:=zH hR;clear hR;go_wp2;go_ret;rw[HRX.out];exact⟨rfl,by first | exact L5.out.b|(rw[HP0.out];exact L5.out.b)⟩
      ·have HRR:=zH hr;clear hr;go_wp2_with   (first
         |(refine zL p1 L5.out.e1 ?_)
         |(refine zG p1 L5.out.e1 ?_))
       refine(Uc n sa sc _ (RDb.out _ L5.out.b) (n.fix)).mono ?_;rintro e w6 ⟨ta,tc,rfl,hrd,b6⟩;have L6:=zH (L5.out.below b6);clear b6;have hR:Zz f n=Yv (ZV (n.fix) n) Zd:=by simp[Zz,HRS.out,HK.out,HRN.out,HCL.out,HDA.out,HNM.out,HRF.out,HRR.out]
       obtain⟨N,HN⟩:=zX (ZV (n.fix) n);rw[HN.out]at hrd hR;have HRX:=zH hR;clear hR;have RD6:=zH hrd;clear hrd;rw[HN.out];go_wp2_with fail;refine(QV N Zd ta tc none 0 _ RD6.out (ZX.nil _ 1)).mono ?_;rintro e w7 ⟨rfl,b7⟩;have L7:=zH (L6.out.below b7);clear b7;go_wp2;go_ret;rw[HRX.out];exact⟨rfl,by first | exact L7.out.b|(rw[HP0.out];exact L7.out.b)⟩
theorem Zcs (hv:f.valid=true)(hs:Xe w sa n.strokes.length sc n.strokes)(hk:n.kind=6):
  Calls zq 186 #[f.val,.agg (Z5 n sa sc)] w fun e w'=>e = .returned (.bool (Zz f n))/\Below w.heap.size w w':=by
 have g1:=Zm (w.alloc (zF f 23)) (.cells (Z5 n sa sc) 47) (w.heap.size+1) (by simp);have g0:=Z8 (w.alloc (zF f 23)) (.cells (Z5 n sa sc) 47) _ _ (Zm w (zF f 23) _ rfl);have bb:Below w.heap.size w ((w.alloc (zF f 23)).alloc (.cells (Z5 n sa sc) 47)):=(zB _ _).alloc (by simp) _;have L0:Hid (Z7N w ((w.alloc (zF f 23)).alloc (.cells (Z5 n sa sc) 47)) w.heap.size (w.heap.size+1) f n sa sc):=zH ⟨g0,g1,bb,by omega⟩;clear g0 g1 bb;unfold Ys.val;go_enter Tryz.func186,Tryz.ntmps186;go_upto_region 1 with fail;generalize hW0:(w.alloc (zF f 23)).alloc (.cells (Z5 n sa sc) 47)=W0 at *;generalize hp0:w.heap.size=p0 at *;generalize hp1:p0+1=p1 at *;have RDb:=zH (show ∀W',Below p0 w W'->Xe W' sa n.strokes.length sc n.strokes from fun W' h=>hs.below (by rw[hp0];exact h));have HP0:=zH hp0;clear hp0 hp1 hW0;have HV:=zH hv;clear hv;have HK:=zH hk;clear hk;have q2:(n.kind==2)=false:=by simp[HK.out]
 have q2':decide (n.kind=2)=false:=by simp[HK.out]
 have q5:(n.kind==5)=false:=by simp[HK.out]
 have q5':decide (n.kind=5)=false:=by simp[HK.out]
 have q6:(n.kind==6)=true:=by simp[HK.out]
 have q6':decide (n.kind=6)=true:=by simp[HK.out]
 have HRS:=zH (show Yu n=true by simp[Yu,HK.out]);go_wp2_with   (first
   |(refine zL p1 L0.out.e1 ?_)
   |(refine zG p1 L0.out.e1 ?_))
 refine(ZA n sa sc _).mono ?_;rintro e w1 ⟨rfl,b1⟩;have L1:=zH (L0.out.below b1);clear b1;go_wp2_with fail;refine(YU n.house n.num _).mono ?_;rintro e w2 ⟨rfl,b2⟩;have L2:=zH (L1.out.below b2);clear b2;cases hrn:Zy n.house n.num
 ·have hR:Zz f n=false:=by simp[Zz,HRS.out,HK.out,hrn]
  have HRX:=zH hR;clear hR;go_wp2;go_ret;rw[HRX.out];exact⟨rfl,by first | exact L2.out.b|(rw[HP0.out];exact L2.out.b)⟩
 ·have HRN:=zH hrn;clear hrn;have k2:=zc L2.out.e1 2 _ rfl;have k3:=zc L2.out.e1 3 _ rfl;have k4:=zc L2.out.e1 4 _ rfl;have k16:=zc L2.out.e1 16 _ rfl;have k17:=zc L2.out.e1 17 _ rfl;go_wp2_with fail;refine(Yt n.clock 1 1099511627776 _).mono ?_;rintro e w' ⟨rfl,rfl⟩;cases hcl:Xx n.clock 1 1099511627776
  ·have hR:Zz f n=false:=by simp[Zz,HRS.out,HK.out,HRN.out,hcl]
   have HRX:=zH hR;clear hR;go_wp2;go_ret;rw[HRX.out];exact⟨rfl,by first | exact L2.out.b|(rw[HP0.out];exact L2.out.b)⟩
  ·have HCL:=zH hcl;clear hcl;go_wp2_with fail;refine(Yt n.day 0 99999 _).mono ?_;rintro e w' ⟨rfl,rfl⟩;cases hda:Xx n.day 0 99999
   ·have hR:Zz f n=false:=by simp[Zz,HRS.out,HK.out,HRN.out,HCL.out,hda]
    have HRX:=zH hR;clear hR;go_wp2;go_ret;rw[HRX.out];exact⟨rfl,by first | exact L2.out.b|(rw[HP0.out];exact L2.out.b)⟩
   ·have HDA:=zH hda;clear hda;by_cases h16:n.refH=0
    ·by_cases h17:n.refN=0
     ·have r16:(n.refH==0)=true:=by simp[h16]
      have r16':decide (n.refH=0)=true:=by simp[h16]
      have r17:(n.refN==0)=true:=by simp[h17]
      have r17':decide (n.refN=0)=true:=by simp[h17]
      have HNM:=zH (show Y4 n=false by simp[Y4,h16,h17]);clear h16 h17;have hR:Zz f n=false:=by simp[Zz,HRS.out,HK.out,HRN.out,HCL.out,HDA.out,HNM.out]
      have HRX:=zH hR;clear hR;go_wp2;go_ret;rw[HRX.out];exact⟨rfl,by first | exact L2.out.b|(rw[HP0.out];exact L2.out.b)⟩
     ·have r16:(n.refH==0)=true:=by simp[h16]
      have r16':decide (n.refH=0)=true:=by simp[h16]
      have r17:(n.refN==0)=false:=by simp[h17]
      have r17':decide (n.refN=0)=false:=by simp[h17]
      have HNM:=zH (show Y4 n=true by simp[Y4,h16,h17]);clear h16 h17;go_wp2_with fail;refine(YU n.refH n.refN _).mono ?_;rintro e w3 ⟨rfl,b3⟩;have L3:=zH (L2.out.below b3);clear b3;cases hrf:Zy n.refH n.refN
      ·have hR:Zz f n=false:=by simp[Zz,HRS.out,HK.out,HRN.out,HCL.out,HDA.out,HNM.out,hrf]
       have HRX:=zH hR;clear hR;go_wp2;go_ret;rw[HRX.out];exact⟨rfl,by first | exact L3.out.b|(rw[HP0.out];exact L3.out.b)⟩
      ·have HRF:=zH hrf;clear hrf;clear k2 k3 k4 k16 k17;have k4:=zc L3.out.e1 4 _ rfl;by_cases hfx:n.fix=0
       ·have hfx1:(n.fix==0)=true:=by simp[hfx]
        have hfx2:decide (n.fix=0)=true:=by simp[hfx]
        have HFX:=zH hfx;clear hfx;have k18:=zc L3.out.e1 18 _ rfl;go_wp2_with   (first
          |(refine zL p1 L3.out.e1 ?_)
          |(refine zG p1 L3.out.e1 ?_))
        refine(Uc n sa sc _ (RDb.out _ L3.out.b) (0)).mono ?_;rintro e w6 ⟨ta,tc,rfl,hrd,b6⟩;have L6:=zH (L3.out.below b6);clear b6;have hR:Zz f n=Yv (ZV (0) n) Zd:=by simp[Zz,HRS.out,HK.out,HRN.out,HCL.out,HDA.out,HNM.out,HRF.out,HFX.out]
        obtain⟨N,HN⟩:=zX (ZV (0) n);rw[HN.out]at hrd hR;have HRX:=zH hR;clear hR;have RD6:=zH hrd;clear hrd;rw[HN.out];go_wp2_with fail;refine(QV N Zd ta tc none 0 _ RD6.out (ZX.nil _ 1)).mono ?_;rintro e w7 ⟨rfl,b7⟩;have L7:=zH (L6.out.below b7);clear b7;go_wp2;go_ret;rw[HRX.out];exact⟨rfl,by first | exact L7.out.b|(rw[HP0.out];exact L7.out.b)⟩
       ·have hfx1:(n.fix==0)=false:=by simp[hfx]
        have hfx2:decide (n.fix=0)=false:=by simp[hfx]
        have HFX:=zH hfx;clear hfx;have k18:=zc L3.out.e1 18 _ rfl;have hR:Zz f n=false:=by simp[Zz,HRS.out,HK.out,HRN.out,HCL.out,HDA.out,HNM.out,HRF.out,HFX.out]
        have HRX:=zH hR;clear hR;go_wp2;go_ret;rw[HRX.out];exact⟨rfl,by first | exact L3.out.b|(rw[HP0.out];exact L3.out.b)⟩
    ·have r16:(n.refH==0)=false:=by simp[h16]
     have r16':decide (n.refH=0)=false:=by simp[h16]
     have HNM:=zH (show Y4 n=true by simp[Y4,h16]);clear h16;go_wp2_with fail;refine(YU n.refH n.refN _).mono ?_;rintro e w3 ⟨rfl,b3⟩;have L3:=zH (L2.out.below b3);clear b3;cases hrf:Zy n.refH n.refN
     ·have hR:Zz f n=false:=by simp[Zz,HRS.out,HK.out,HRN.out,HCL.out,HDA.out,HNM.out,hrf]
      have HRX:=zH hR;clear hR;go_wp2;go_ret;rw[HRX.out];exact⟨rfl,by first | exact L3.out.b|(rw[HP0.out];exact L3.out.b)⟩
     ·have HRF:=zH hrf;clear hrf;clear k2 k3 k4 k16 k17;have k4:=zc L3.out.e1 4 _ rfl;by_cases hfx:n.fix=0
      ·have hfx1:(n.fix==0)=true:=by simp[hfx]
       have hfx2:decide (n.fix=0)=true:=by simp[hfx]
       have HFX:=zH hfx;clear hfx;have k18:=zc L3.out.e1 18 _ rfl;go_wp2_with   (first
         |(refine zL p1 L3.out.e1 ?_)
         |(refine zG p1 L3.out.e1 ?_))
       refine(Uc n sa sc _ (RDb.out _ L3.out.b) (0)).mono ?_;rintro e w6 ⟨ta,tc,rfl,hrd,b6⟩;have L6:=zH (L3.out.below b6);clear b6;have hR:Zz f n=Yv (ZV (0) n) Zd:=by simp[Zz,HRS.out,HK.out,HRN.out,HCL.out,HDA.out,HNM.out,HRF.out,HFX.out]
       obtain⟨N,HN⟩:=zX (ZV (0) n);rw[HN.out]at hrd hR;have HRX:=zH hR;clear hR;have RD6:=zH hrd;clear hrd;rw[HN.out];go_wp2_with fail;refine(QV N Zd ta tc none 0 _ RD6.out (ZX.nil _ 1)).mono ?_;rintro e w7 ⟨rfl,b7⟩;have L7:=zH (L6.out.below b7);clear b7;go_wp2;go_ret;rw[HRX.out];exact⟨rfl,by first | exact L7.out.b|(rw[HP0.out];exact L7.out.b)⟩
      ·have hfx1:(n.fix==0)=false:=by simp[hfx]
       have hfx2:decide (n.fix=0)=false:=by simp[hfx]
       have HFX:=zH hfx;clear hfx;have k18:=zc L3.out.e1 18 _ rfl;have hR:Zz f n=false:=by simp[Zz,HRS.out,HK.out,HRN.out,HCL.out,HDA.out,HNM.out,HRF.out,HFX.out]
       have HRX:=zH hR;clear hR;go_wp2;go_ret;rw[HRX.out];exact⟨rfl,by first | exact L3.out.b|(rw[HP0.out];exact L3.out.b)⟩
theorem Zcr (hv:f.valid=true)(hs:Xe w sa n.strokes.length sc n.strokes)(k2:n.kind≠2)(k5:n.kind≠5)(k6:n.kind≠6):
  Calls zq 186 #[f.val,.agg (Z5 n sa sc)] w fun e w'=>e = .returned (.bool (Zz f n))/\Below w.heap.size w w':=by
 have g1:=Zm (w.alloc (zF f 23)) (.cells (Z5 n sa sc) 47) (w.heap.size+1) (by simp);have g0:=Z8 (w.alloc (zF f 23)) (.cells (Z5 n sa sc) 47) _ _ (Zm w (zF f 23) _ rfl);have bb:Below w.heap.size w ((w.alloc (zF f 23)).alloc (.cells (Z5 n sa sc) 47)):=(zB _ _).alloc (by simp) _;have L0:Hid (Z7N w ((w.alloc (zF f 23)).alloc (.cells (Z5 n sa sc) 47)) w.heap.size (w.heap.size+1) f n sa sc):=zH ⟨g0,g1,bb,by omega⟩;clear g0 g1 bb;unfold Ys.val;go_enter Tryz.func186,Tryz.ntmps186;go_upto_region 1 with fail;generalize hW0:(w.alloc (zF f 23)).alloc (.cells (Z5 n sa sc) 47)=W0 at *;generalize hp0:w.heap.size=p0 at *;generalize hp1:p0+1=p1 at *;have RDb:=zH (show ∀W',Below p0 w W'->Xe W' sa n.strokes.length sc n.strokes from fun W' h=>hs.below (by rw[hp0];exact h));have HP0:=zH hp0;clear hp0 hp1 hW0;have HV:=zH hv;clear hv;have HK:=zH (And.intro k2 (And.intro k5 k6));clear k2 k5 k6;have q2:(n.kind==2)=false:=by simp[HK.out.1]
 have q2':decide (n.kind=2)=false:=by simp[HK.out.1]
 have q5:(n.kind==5)=false:=by simp[HK.out.2.1]
 have q5':decide (n.kind=5)=false:=by simp[HK.out.2.1]
 have q6:(n.kind==6)=false:=by simp[HK.out.2.2]
 have q6':decide (n.kind=6)=false:=by simp[HK.out.2.2]
 have HRS:=zH (show Yu n=false by simp[Yu,HK.out.1,HK.out.2.1,HK.out.2.2]);go_wp2_with   (first
   |(refine zL p1 L0.out.e1 ?_)
   |(refine zG p1 L0.out.e1 ?_))
 refine(ZA n sa sc _).mono ?_;rintro e w1 ⟨rfl,b1⟩;have L1:=zH (L0.out.below b1);clear b1;go_wp2_with fail;refine(YU n.house n.num _).mono ?_;rintro e w2 ⟨rfl,b2⟩;have L2:=zH (L1.out.below b2);clear b2;cases hrn:Zy n.house n.num
 ·have hR:Zz f n=false:=by simp[Zz,HRS.out,HK.out.2.1,HK.out.2.2,hrn]
  have HRX:=zH hR;clear hR;go_wp2;go_ret;rw[HRX.out];exact⟨rfl,by first | exact L2.out.b|(rw[HP0.out];exact L2.out.b)⟩
 ·have HRN:=zH hrn;clear hrn;have k2:=zc L2.out.e1 2 _ rfl;have k3:=zc L2.out.e1 3 _ rfl;have k4:=zc L2.out.e1 4 _ rfl;have k16:=zc L2.out.e1 16 _ rfl;have k17:=zc L2.out.e1 17 _ rfl;go_wp2_with fail;refine(Yt n.clock 1 1099511627776 _).mono ?_;rintro e w' ⟨rfl,rfl⟩;cases hcl:Xx n.clock 1 1099511627776
  ·have hR:Zz f n=false:=by simp[Zz,HRS.out,HK.out.2.1,HK.out.2.2,HRN.out,hcl]
   have HRX:=zH hR;clear hR;go_wp2;go_ret;rw[HRX.out];exact⟨rfl,by first | exact L2.out.b|(rw[HP0.out];exact L2.out.b)⟩
  ·have HCL:=zH hcl;clear hcl;go_wp2_with fail;refine(Yt n.day 0 99999 _).mono ?_;rintro e w' ⟨rfl,rfl⟩;cases hda:Xx n.day 0 99999
   ·have hR:Zz f n=false:=by simp[Zz,HRS.out,HK.out.2.1,HK.out.2.2,HRN.out,HCL.out,hda]
    have HRX:=zH hR;clear hR;go_wp2;go_ret;rw[HRX.out];exact⟨rfl,by first | exact L2.out.b|(rw[HP0.out];exact L2.out.b)⟩
   ·have HDA:=zH hda;clear hda;by_cases h16:n.refH=0
    ·by_cases h17:n.refN=0
     ·have r16:(n.refH==0)=true:=by simp[h16]
      have r16':decide (n.refH=0)=true:=by simp[h16]
      have r17:(n.refN==0)=true:=by simp[h17]
      have r17':decide (n.refN=0)=true:=by simp[h17]
      have HNM:=zH (show Y4 n=false by simp[Y4,h16,h17]);clear h16 h17;by_cases hfx:n.fix=0
      ·have hfx1:(n.fix==0)=true:=by simp[hfx]
       have hfx2:decide (n.fix=0)=true:=by simp[hfx]
       have HFX:=zH hfx;clear hfx;have k18:=zc L2.out.e1 18 _ rfl;have c0:=Yz L2.out.e0 0 _ rfl;have c1:=Yz L2.out.e0 1 _ rfl;have c2:=Yz L2.out.e0 2 _ rfl;go_wp2_with   (first
         |(refine zL p1 L2.out.e1 ?_)
         |(refine zG p1 L2.out.e1 ?_))
       refine(UK f n sa sc _ HV.out (RDb.out _ L2.out.b) (n.kind)).mono ?_;rintro e w5 ⟨rfl,b5⟩;have L5:=zH (L2.out.below b5);clear b5;cases hr:ZO f (n.kind) n
       ·have hR:Zz f n=false:=by simp[Zz,HRS.out,HK.out.2.1,HK.out.2.2,HRN.out,HCL.out,HDA.out,HNM.out,HFX.out,hr]
        have HRX:=zH hR;clear hR;go_wp2;go_ret;rw[HRX.out];exact⟨rfl,by first | exact L5.out.b|(rw[HP0.out];exact L5.out.b)⟩
       ·have HRR:=zH hr;clear hr;go_wp2_with   (first
          |(refine zL p1 L5.out.e1 ?_)
          |(refine zG p1 L5.out.e1 ?_))
        refine(Uc n sa sc _ (RDb.out _ L5.out.b) (n.kind)).mono ?_;rintro e w6 ⟨ta,tc,rfl,hrd,b6⟩;have L6:=zH (L5.out.below b6);clear b6;have hR:Zz f n=Yv (ZV (n.kind) n) Zd:=by simp[Zz,HRS.out,HK.out.2.1,HK.out.2.2,HRN.out,HCL.out,HDA.out,HNM.out,HFX.out,HRR.out]
        obtain⟨N,HN⟩:=zX (ZV (n.kind) n);rw[HN.out]at hrd hR;have HRX:=zH hR;clear hR;have RD6:=zH hrd;clear hrd;rw[HN.out];go_wp2_with fail;refine(QV N Zd ta tc none 0 _ RD6.out (ZX.nil _ 1)).mono ?_;rintro e w7 ⟨rfl,b7⟩;have L7:=zH (L6.out.below b7);clear b7;go_wp2;go_ret;rw[HRX.out];exact⟨rfl,by first | exact L7.out.b|(rw[HP0.out];exact L7.out.b)⟩
      ·have hfx1:(n.fix==0)=false:=by simp[hfx]
       have hfx2:decide (n.fix=0)=false:=by simp[hfx]
       have HFX:=zH hfx;clear hfx;have k18:=zc L2.out.e1 18 _ rfl;have hR:Zz f n=false:=by simp[Zz,HRS.out,HK.out.2.1,HK.out.2.2,HRN.out,HCL.out,HDA.out,HNM.out,HFX.out]
       have HRX:=zH hR;clear hR;go_wp2;go_ret;rw[HRX.out];exact⟨rfl,by first | exact L2.out.b|(rw[HP0.out];exact L2.out.b)⟩
     ·have r16:(n.refH==0)=true:=by simp[h16]
      have r16':decide (n.refH=0)=true:=by simp[h16]
      have r17:(n.refN==0)=false:=by simp[h17]
      have r17':decide (n.refN=0)=false:=by simp[h17]
      have HNM:=zH (show Y4 n=true by simp[Y4,h16,h17]);clear h16 h17;have hR:Zz f n=false:=by simp[Zz,HRS.out,HK.out.2.1,HK.out.2.2,HRN.out,HCL.out,HDA.out,HNM.out]
      have HRX:=zH hR;clear hR;go_wp2;go_ret;rw[HRX.out];exact⟨rfl,by first | exact L2.out.b|(rw[HP0.out];exact L2.out.b)⟩
    ·have r16:(n.refH==0)=false:=by simp[h16]
     have r16':decide (n.refH=0)=false:=by simp[h16]
     have HNM:=zH (show Y4 n=true by simp[Y4,h16]);clear h16;have hR:Zz f n=false:=by simp[Zz,HRS.out,HK.out.2.1,HK.out.2.2,HRN.out,HCL.out,HDA.out,HNM.out]
     have HRX:=zH hR;clear hR;go_wp2;go_ret;rw[HRX.out];exact⟨rfl,by first | exact L2.out.b|(rw[HP0.out];exact L2.out.b)⟩
theorem Z6v (hv:f.valid=true)(hs:Xe w sa n.strokes.length sc n.strokes):
  Calls zq 186 #[f.val,.agg (Z5 n sa sc)] w fun e w'=>e = .returned (.bool (Zz f n))/\Below w.heap.size w w':=by
 by_cases k2:n.kind=2
 ·exact Zcu f n sa sc w hv hs k2
 by_cases k5:n.kind=5
 ·exact Zct f n sa sc w hv hs k5
 by_cases k6:n.kind=6
 ·exact Zcs f n sa sc w hv hs k6
 exact Zcr f n sa sc w hv hs k2 k5 k6
end
section
attribute [local go_sem] ZS Xi Jg Qz Jf Qy Qx Qw Ve Vd JY JX JG JE JD J5 Jj Ji Js
variable (f:Ys)(n:NoteV)(sa:zA)(sc:Nat)(w:World)
theorem VS (hs:Xe w sa n.strokes.length sc n.strokes):
  Calls zq 138 #[f.val,.agg (Z5 n sa sc)] w fun e w'=>e = .returned (.int .i64 (ZD f n))/\Below w.heap.size w w':=by
 have g1:=Zm (w.alloc (zF f 23)) (.cells (Z5 n sa sc) 47) (w.heap.size+1) (by simp);have g0:=Z8 (w.alloc (zF f 23)) (.cells (Z5 n sa sc) 47) _ _ (Zm w (zF f 23) _ rfl);have bb:Below w.heap.size w ((w.alloc (zF f 23)).alloc (.cells (Z5 n sa sc) 47)):=(zB _ _).alloc (by simp) _;have L0:Hid (Z7N w ((w.alloc (zF f 23)).alloc (.cells (Z5 n sa sc) 47)) w.heap.size (w.heap.size+1) f n sa sc):=zH ⟨g0,g1,bb,by omega⟩;clear g0 g1 bb;unfold Ys.val;go_enter Tryz.func138,Tryz.ntmps138;go_upto_region 1 with fail;generalize hW0:(w.alloc (zF f 23)).alloc (.cells (Z5 n sa sc) 47)=W0 at *;generalize hp0:w.heap.size=p0 at *;generalize hp1:p0+1=p1 at *;have RDb:=zH (show ∀W',Below p0 w W'->Xe W' sa n.strokes.length sc n.strokes from fun W' h=>hs.below (by rw[hp0];exact h));have HP0:=zH hp0;clear hp0 hp1 hW0;have c0:=Z6 L0.out.e0 0 _ rfl;have c1:=Z6 L0.out.e0 1 _ rfl;have c2:=Z6 L0.out.e0 2 _ rfl;go_wp2_with fail;refine(Z0a f.rings f.sectors f.wide _).mono ?_;rintro e w1 ⟨rfl,b1⟩;have L1:=zH (L0.out.below b1);clear b1 c0 c1 c2;cases hv:f.valid
 ·have hR:ZD f n=1:=by unfold ZD;rw[hv];rfl
  have HR:=zH hR;clear hR hv;go_wp2;go_ret;rw[HR.out];exact⟨rfl,by rw[HP0.out];exact L1.out.b⟩
 ·have HV:=zH hv;clear hv;have c0:=Z6 L1.out.e0 0 _ rfl;have c1:=Z6 L1.out.e0 1 _ rfl;have c2:=Z6 L1.out.e0 2 _ rfl;go_wp2_with     (first
    |(refine zL p1 L1.out.e1 ?_)
    |(refine zG p1 L1.out.e1 ?_))
  refine(Z6v f n sa sc _ HV.out (RDb.out _ L1.out.b)).mono ?_;rintro e w2 ⟨rfl,b2⟩;have L2:=zH (L1.out.below b2);clear b2;rw[<-Vh HV.out];cases hf:Zf f n
  focus
   have hR:ZD f n=80:=by unfold ZD;rw[HV.out,hf];rfl
  rotate_left
  focus
   have hR:ZD f n=0:=by unfold ZD;rw[HV.out,hf];rfl
  all_goals
   have HR:=zH hR;clear hR hf;go_wp2;go_ret;rw[HR.out];exact⟨rfl,by rw[HP0.out];exact L2.out.b⟩
theorem Z3H {f:Ys}{n:NoteV}(h:ZD f n=0):JU n:=by
 unfold ZD at h;split at h
 ·rename_i hv;split at h
  ·rename_i hf;exact Yf hv hf
  ·simp at h
 ·simp at h
end
theorem Zb3 (args:Xz)(w:World):(callFunc 55 args).run zq w = .ok (.enter 55 args) w:=by kernel_rfl
theorem Z9Y (f:Ys)(id:Int)(mb sp p pB:Nat)(c:Int->Nat)(n:NoteV)(sa:zA)(sc:Nat)(w:World)(hb:w.heap[pB]? = some (.cells #[.pointer (some ⟨p,0,none⟩)] 27))
  (hh:w.heap[p]? = some (.cells (J6 f id mb c sp) 109)) (hs:Xe w sa n.strokes.length sc n.strokes):
  Calls zq 55 #[.agg (Z5 n sa sc),.pointer (some ⟨pB,0,none⟩)] w fun e w'=>e = .returned (.bool (!decide (ZD f n=0)))/\Below w.heap.size w w':=by
 have CN:=zH (fun W (hb:Below w.heap.size w W)=>UB f n sa sc W (hs.below hb));have hvl:f.val = .agg #[.int .i64 f.rings,.int .i64 f.sectors,.int .i64 f.wide]:=rfl;rw[hvl]at CN;clear hvl;obtain⟨z,hz⟩:=zX (ZD f n);rw[hz.out]at CN ⊢;have QE:Hid ((z != 0) = !decide (z=0)):=zH (by by_cases h:z=0 <;> simp[h]);have B0:=zH (zB w (.cells (Z5 n sa sc) 47));have N0:=zH (Z9 w (.cells (Z5 n sa sc) 47));have PB0:=zH (Z7 B0.out hb);have PH0:=zH (Z7 B0.out hh);clear hb hh hs;go_enter Tryz.func55,Tryz.ntmps55;go_upto_region 1 with fail;obtain⟨p2,hp2⟩:=zX (w.heap.size);rw[hp2.out]at N0;rw[hp2.out];generalize w.alloc (.cells (Z5 n sa sc) 47)=wr at *;have hC0:Below wr.heap.size wr wr.drew:=(Below.refl _ _).drew;have LB:=zH (show ∀w0,Below wr.heap.size wr w0->w0.heap[pB]? = some (.cells #[.pointer (some ⟨p,0,none⟩)] 27)from fun w0 h=>Z7 h PB0.out);have LH:=zH (show ∀w0,Below wr.heap.size wr w0->w0.heap[p]? = some (.cells (J6 f id mb c sp) 109)from fun w0 h=>Z7 h PH0.out);have LN2:=zH (show ∀w0,Below wr.heap.size wr w0->w0.heap[p2]? = some (.cells (Z5 n sa sc) 47)from fun w0 h=>Z7 h N0.out);have BW:=zH (show ∀w0,Below wr.heap.size wr w0->Below w.heap.size w w0 from fun w0 h=>B0.out.trans (h.mono B0.out.size));try simp only[Act.put,VZ,VY,VX]
 refine zC (fun w':World=>Below wr.heap.size wr w') hC0 ?_;refine zQ (.pointer (some ⟨p,0,none⟩)) (fun w0 hC=>?_) ?_
 ·have c0:=Z6 (LB.out w0 hC) 0 (.pointer (some ⟨p,0,none⟩)) rfl;clear hC;go_simp
 refine zv p 0 ?_;refine zv p 0 ?_;refine zQ (.agg #[.int .i64 f.rings,.int .i64 f.sectors,.int .i64 f.wide]) (fun w0 hC=>?_) ?_
 ·have c0:=Z6 (LH.out w0 hC) 0 (.int .i64 f.rings) rfl;have c1:=Z6 (LH.out w0 hC) 1 (.int .i64 f.sectors) rfl;have c2:=Z6 (LH.out w0 hC) 2 (.int .i64 f.wide) rfl;clear hC;go_simp
 refine zQ (.agg (Z5 n sa sc)) (fun w0 hC=>ZG (.tmp 2) rfl p2 rfl n sa sc (LN2.out w0 hC)) ?_;refine zQ (.int .i64 z) (fun w0 hC=>?_) ?_
 ·go_simp;refine(CN.out w0 (BW.out w0 hC)).mono ?_;rintro e w1 ⟨rfl,b1⟩;exact⟨rfl,hC.trans (b1.mono hC.size)⟩
 refine zQ (.bool (!decide (z=0))) (fun w0 hC=>?_) ?_
 ·have qe:=QE.out;clear hC;go_simp
 go_big_quiet_step (fail);refine wpQuiet_nil ?_;intro w' hC;have B9:=zH (BW.out w' hC);clear hC;go_wp2;go_ret;exact⟨rfl,B9.out⟩
theorem Zbg {f:Ys}(hv:f.valid=true){x y:NoteV}(hx:Zf f x=true)(hy:Zf f y=true)(h:Yc x=Yc y):x=y:=by
 have h1:=Vf hv x hx;rw[h,Vf hv y hy]at h1;simpa using h1.symm
theorem Z9o (f:Ys)(hv:f.valid=true)(x y:NoteV)(sa:zA)(sc:Nat)(ta:zA)(tc:Nat)(w:World)(hx:Xe w sa x.strokes.length sc x.strokes)(hy:Xe w ta y.strokes.length tc y.strokes)(hfx:Zf f x=true)(hfy:Zf f y=true):
  Calls zq 59 #[.agg (Z5 x sa sc),.agg (Z5 y ta tc)] w fun e w'=>e = .returned (.bool (Yv x y))/\Below w.heap.size w w':=by
 have EQ:Hid (∀b:Bool,(b=true↔Yc x=Yc y)->b=Yv x y):=zH (fun b hb=>by
  rw[Bool.eq_iff_iff,hb,Z2h];exact⟨Zbg hv hfx hfy,fun e=>by rw[e]⟩)
 have EX:=zH (fun W (hb:Below w.heap.size w W)=>Uu x sa sc W (hx.below hb) (Yf hv hfx) (Nat.le_trans (Yg hv hfx) (by decide)));have EY:=zH (fun W (hb:Below w.heap.size w W)=>Uu y ta tc W (hy.below hb) (Yf hv hfy) (Nat.le_trans (Yg hv hfy) (by decide)));have B0:=zH ((zB w (.cells (Z5 x sa sc) 47)).alloc (by simp) (.cells (Z5 y ta tc) 47));have X0:=zH (Z8 _ (.cells (Z5 y ta tc) 47) _ _ (Z9 w (.cells (Z5 x sa sc) 47)));have Y0:=zH (Zm (w.alloc (.cells (Z5 x sa sc) 47)) (.cells (Z5 y ta tc) 47) (w.heap.size+1) (by simp));clear hx hy hfx hfy;go_enter Tryz.func59,Tryz.ntmps59;go_upto_region 1 with fail;obtain⟨p2,hp2⟩:=zX (w.heap.size);obtain⟨p3,hp3⟩:=zX (w.heap.size+1);rw[hp2.out]at X0;rw[hp3.out]at Y0;rw[hp3.out,hp2.out];generalize (w.alloc (.cells (Z5 x sa sc) 47)).alloc (.cells (Z5 y ta tc) 47)=wr at *;refine zD (fun w'=>w'.heap[p2]? = some (.cells (Z5 x sa sc) 47)/\w'.heap[p3]? = some (.cells (Z5 y ta tc) 47)) (show wr.drew.heap[p2]? = _/\wr.drew.heap[p3]? = _ from⟨X0.out,Y0.out⟩) fun hh=>?_;have XD:=zH (show wr.drew.heap[p2]? = _ from X0.out);have YD:=zH (show wr.drew.heap[p3]? = _ from Y0.out);have BD:=zH (show Below w.heap.size w wr.drew from B0.out.drew);generalize wr.drew=V at *;refine zT 0 rfl (.agg (Z5 x sa sc)) (zY p2 fun W h=>h.1) ?_;refine zT 2 rfl (.agg (Z5 y ta tc)) (zY p3 fun W h=>h.2) ?_;refine zR 1 rfl fun K hK=>?_;go_simp;go_at_call 117;refine(EX.out V BD.out).mono ?_;rintro e v1 ⟨xa,xc,rfl,ho,b1⟩;have B1:=zH (BD.out.trans (b1.mono BD.out.size));have X1:=zH (Z7 b1 XD.out);have Y1:=zH (Z7 b1 YD.out);have R1:=zH (Yb.of_own ho);clear b1 ho;dsimp only;refine zK hK ⟨X1.out,Y1.out⟩ fun hh=>?_;clear hK K;refine zR 3 rfl fun K hK=>?_;go_simp;go_at_call 117;refine(EY.out v1 B1.out).mono ?_;rintro e v2 ⟨ya,yc,rfl,ho,b2⟩;have B2:=zH (B1.out.trans (b2.mono B1.out.size));have X2:=zH (Z7 b2 X1.out);have Y2:=zH (Z7 b2 Y1.out);have R2:=zH (Yb.of_own ho);have R12:=zH (R1.out.below b2)
 clear b2 ho;dsimp only;refine zK hK ⟨X2.out,Y2.out⟩ fun hh=>?_;clear hK K;refine zR 4 rfl fun K hK=>?_;go_simp;go_at_call 116;refine(Z2E xa _ xc (Yc x) ya _ yc (Yc y) v2 R12.out R2.out).mono ?_;rintro e v3 ⟨b,rfl,hb,q3,rfl⟩;have HB:=zH hb;have B3:=zH (below_drewN B2.out q3);clear hb;dsimp only;refine zK hK ⟨X2.out,Y2.out⟩ fun hh=>?_;clear hK K;refine zW 5 rfl (.bool b) ?_;refine zE ?_;go_wp2;go_ret;exact⟨by rw[EQ.out b HB.out] <;> rfl,B3.out⟩
def Z3m (x y:Int):Int:=if y > x then y else x
def QR (l:List NoteV)(c:Int):Prop:=1<=c/\(∀x∈l,x.clock+1<=c)/\(c=1 \/ ∃x∈l,c=x.clock+1)
theorem QR.uniq {l:List NoteV}{c d:Int}(h:QR l c)(k:QR l d):c=d:=by
 obtain⟨h1,h2,h3⟩:=h;obtain⟨k1,k2,k3⟩:=k;have hcd:c<=d:=by
  rcases h3 with rfl | ⟨x,hx,rfl⟩
  ·exact k1
  ·exact k2 x hx
 have hdc:d<=c:=by
  rcases k3 with rfl | ⟨x,hx,rfl⟩
  ·exact h1
  ·exact h2 x hx
 omega
theorem QR.nil:QR [] 1:=⟨Int.le_refl _,fun x h=>(by cases h),.inl rfl⟩
theorem QR.snoc {l:List NoteV}{c:Int}(h:QR l c)(x:NoteV):QR (l ++ [x]) (Z3m c (x.clock+1)):=by
 obtain⟨h1,h2,h3⟩:=h;unfold Z3m;refine⟨by split <;> omega,fun y hy=>?_,?_⟩
 ·rcases List.mem_append.1 hy with hy | hy
  ·have:=h2 y hy;split <;> omega
  ·rw[List.mem_singleton.1 hy];split <;> omega
 ·split
  ·exact .inr ⟨x,by simp,rfl⟩
  ·rcases h3 with h3 | ⟨y,hy,h3⟩
   ·exact .inl h3
   ·exact .inr ⟨y,List.mem_append_left _ hy,h3⟩
theorem QR.mem {l m:List NoteV}{c:Int}(h:QR l c)(hm : ∀x,x∈m↔x∈l):QR m c:=
 ⟨h.1,fun x hx=>h.2.1 x ((hm x).1 hx),h.2.2.imp id (fun⟨x,hx,e⟩=>⟨x,(hm x).2 hx,e⟩)⟩
def Z3n:List NoteV->Int:=fun l=>l.foldl (fun c x=>Z3m c (x.clock+1)) 1
theorem Z3A (l:List NoteV):QR l (Z3n l):=by
 have h : ∀(l pre:List NoteV) (c:Int),QR pre c->QR (pre ++ l) (l.foldl (fun c x=>Z3m c (x.clock+1)) c):=by
  intro l
  induction l with
  | nil=>intro pre c h;simpa using h
  | cons x l ih=>
   intro pre c h;have h2:=ih (pre ++ [x]) _ (h.snoc x);rw[List.append_assoc]at h2;exact h2
 exact h l [] 1 QR.nil
def U7 (S:ZC)(n:NoteV):NoteV := { n with house:=S.id,num:=(S.c S.id:Int)+1,clock:=Z3n S.l }
def UC (S:ZC)(n:NoteV):ZC×NoteV×Int:=
 if 400<=S.l.length\/1099511627776 < Z3n S.l then (S,Zd,2)
 else if ZD S.f (U7 S n)≠0 then (S,Zd,80)
 else if (n.kind≠5/\n.kind≠6)/\Zk (U7 S n)∈(Z07 S.f (YI S.l (U7 S n)) (YI S.l (U7 S n)) 99999).2.2 then (S,Zd,91)
 else (S.add (U7 S n),U7 S n,0)
theorem ZcO (args:Xz)(w:World):(callFunc 73 args).run zq w = .ok (.enter 73 args) w:=by kernel_rfl
theorem Zc8 (pB:Nat)(n:NoteV)(sa:zA)(sc:Nat)(x:Nm)(w:World)(hb:w.heap[pB]? = some (.cells (Z5 n sa sc) 47)):
  Calls zq 73 #[.agg #[.int .i64 x.1,.int .i64 x.2],.pointer (some ⟨pB,0,none⟩)] w fun e w'=>e = .returned (.bool (decide (x=Zk n)))/\Below w.heap.size w w':=by
 have NM:=zH (fun W=>Vg n sa sc W);obtain⟨xh,xm⟩:=x;obtain⟨q,hq⟩:=zX (decide (((xh,xm):Nm)=Zk n));have HQ:Hid (((xh==n.house) && (xm==n.num))=q):=zH (by rw[<-hq.out];unfold Zk;rw[Bool.eq_iff_iff];simp);rw[hq.out];dsimp only;have B0:=zH (zB w (.cells #[.int .i64 xh,.int .i64 xm] 45));have X0:=zH (Z9 w (.cells #[.int .i64 xh,.int .i64 xm] 45));have N0:=zH (Z7 B0.out hb);clear hb hq;go_enter Tryz.func73,Tryz.ntmps73;go_upto_region 1 with fail;obtain⟨p2,hp2⟩:=zX (w.heap.size);rw[hp2.out]at X0;rw[hp2.out];generalize w.alloc (.cells #[.int .i64 xh,.int .i64 xm] 45)=wr at *;have hC0:Below wr.heap.size wr wr.drew:=(Below.refl _ _).drew;have LX:=zH (show ∀w0,Below wr.heap.size wr w0->w0.heap[p2]? = some (.cells #[.int .i64 xh,.int .i64 xm] 45)from fun w0 h=>Z7 h X0.out);have LN2:=zH (show ∀w0,Below wr.heap.size wr w0->w0.heap[pB]? = some (.cells (Z5 n sa sc) 47)from fun w0 h=>Z7 h N0.out);have BW:=zH (show ∀w0,Below wr.heap.size wr w0->Below w.heap.size w w0 from fun w0 h=>B0.out.trans (h.mono B0.out.size));try simp only[Act.put,VZ,VY,VX]
 refine zC (fun w':World=>Below wr.heap.size wr w') hC0 ?_;refine zQ (.agg #[.int .i64 xh,.int .i64 xm]) (fun w0 hC=>?_) ?_
 ·have c0:=Z6 (LX.out w0 hC) 0 (.int .i64 xh) rfl;have c1:=Z6 (LX.out w0 hC) 1 (.int .i64 xm) rfl;clear hC;go_simp
 refine zQ (.agg (Z5 n sa sc)) (fun w0 hC=>ZG (.tmp 1) rfl pB rfl n sa sc (LN2.out w0 hC)) ?_;refine zQ (.agg #[.int .i64 n.house,.int .i64 n.num]) (fun w0 hC=>?_) ?_
 ·go_simp;refine(NM.out w0).mono ?_;rintro e w1 ⟨rfl,b1⟩;exact⟨rfl,hC.trans (b1.mono hC.size)⟩
 refine zQ (.bool q) (fun w0 hC=>?_) ?_
 ·have hq:=HQ.out;clear hC;rw[<-hq];go_simp;try (cases h1:(xh==n.house) <;> cases h2:(xm==n.num) <;> simp_all)
 go_big_quiet_step (fail);refine wpQuiet_nil ?_;intro w' hC;have B9:=zH (BW.out w' hC);clear hC;go_wp2;go_ret;exact⟨rfl,B9.out⟩
theorem Z0f (w:World)(base:Nat)(sa:zA)(sn sc:Nat)(xs:List Value)(hown:w.ownsRow base 3 1 (.slice sa sn sc) sn xs)(xa:zA)(m xc:Nat)(ys:List Value)(hrd:ZX w 1 xa m xc ys)(h1 : ∀u∈ys,u.oneCell'=true)
  (hbytes:(sn+m) * 8<=140737488355328) (hbase:base<=w.heap.size):
  ∃a' c' w',(Builtin.append_ #[37,37] 37 #[.slice sa sn sc,.slice xa m xc]).run zq w = .ok (.slice a' (sn+m) c') w'/\w'.ownsRow base 3 1 (.slice a' (sn+m) c') (sn+m) (xs ++ ys)/\w.grownBy w' (Value.ownBlock (.slice sa sn sc)):=by
 obtain⟨i,hi,hz0,hz1,hz2⟩:=info_parts Z3w;exact Xh w base 37 37 3 i _ 1 8 Tryz.underlying37 hi hz0 hz1 hz2 rfl (by decide) sa sn sc xs hown xa m xc ys hrd h1 (by unfold maxLen;omega) hbytes hbase
section
attribute [local go_sem] J5
theorem Z57 (n:NoteV)(sa:zA)(sc:Nat)(w:World)(hs:Xe w sa n.strokes.length sc n.strokes)(hl:n.strokes.length<=1000000000):
  Calls zq 266 #[.agg (Z5 n sa sc)] w fun e w' => ∃ta tc,e = .returned (.agg (Z5 n ta tc))/\w'.ownsRow w.heap.size 3 1 (.slice ta n.strokes.length tc) n.strokes.length (n.strokes.map Yo)/\Below w.heap.size w w':=by
 have I43:=zH zI;go_enter Tryz.func266,Tryz.ntmps266;go_upto_region 1 with fail;rw[<-ZZ];have g0:=Z8 _ (.cells (Z5 Zd none 0) 47) _ _ (Z9 w (.cells (Z5 n sa sc) 47));have g1:=Zm (w.alloc (.cells (Z5 n sa sc) 47)) (.cells (Z5 Zd none 0) 47) (w.heap.size+1) (by simp);have bb:Below w.heap.size w ((w.alloc (.cells (Z5 n sa sc) 47)).alloc (.cells (Z5 Zd none 0) 47)):=(zB _ _).alloc (by simp) _;have E0:=zH g0;have E1:=zH g1;have B0:=zH bb;have RI:=zH (hs.below bb);clear g0 g1 bb hs;generalize (w.alloc (.cells (Z5 n sa sc) 47)).alloc (.cells (Z5 Zd none 0) 47)=W2 at *;generalize hp0:w.heap.size=p0 at *;generalize hp1:p0+1=p1 at *;have HP0:=zH hp0;have HP1:=zH hp1;clear hp0 hp1;go_upto_region 2 with (first
  |(refine zL p0 E0.out ?_)
  |(refine zP W2 W2.heap.size (Z5 n sa sc) ?_))
 have b2:Below W2.heap.size W2 (W2.alloc (.cells (Z5 n sa sc) 47)):=zB _ _;have E2:=zH (Z9 W2 (.cells (Z5 n sa sc) 47));have F1:=zH (Z7 b2 E1.out);have D0:=zH (Z7 b2 E0.out);have B2:=zH (B0.out.trans (b2.mono (by have:=B0.out.size;have:=HP0.out;omega)));have R2:=zH (RI.out.below b2);have N12:Hid (p1 < W2.heap.size):=zH (Zq E1.out);clear b2 E0 E1 B0 RI;obtain⟨p2,hp2⟩:=zX (W2.heap.size);rw[hp2.out]at E2 N12 ⊢;generalize W2.alloc (.cells (Z5 n sa sc) 47)=W3 at *;obtain⟨m,hm⟩:=zX (n.strokes.length);rw[hm.out]at R2 hl;have hb3:Below W3.heap.size W3 (W3.alloc (.cells #[] 3)):=zB _ _;have c15:(W3.alloc (.cells #[] 3)).cell? ⟨p0,15,none⟩=some (.slice sa m sc):=by rw[<-hm.out];exact Z6 (Z7 hb3 D0.out) 15 _ rfl
 have o0:=World.ownsRow_lit (base:=W3.heap.size) (e:=3) (size:=1) W3 #[] 0 (Nat.le_refl _) (by unfold maxLen;omega) rfl;obtain⟨a',c',v5,hrun,ho,hg⟩:=Z0f (W3.alloc (.cells #[] 3)) W3.heap.size _ 0 0 _ o0 sa m sc _ (R2.out.below hb3) (Z1K _) (by omega) hb3.size;have hb5:Below W3.heap.size W3 v5:=hb3.grown hg hb3.size (fun k hk=>(o0.lt k hk).1);rw[Nat.zero_add]at hrun ho;have O5:Hid (v5.ownsRow W3.heap.size 3 1 (.slice a' m c') m (n.strokes.map Yo)):=zH (by simpa using ho);have G2:=zH (Z7 hb5 E2.out);have G1:=zH (Z7 hb5 F1.out);have B5:=zH (B2.out.trans (hb5.mono (by have:=B2.out.size;have:=HP0.out;omega)));have NX:Hid (p2 < W3.heap.size):=zH (Zq E2.out);have B02:Hid (p0<=W3.heap.size):=zH (by have:=B2.out.size;have:=HP0.out;omega);clear hb3 o0 ho hg hb5 E2 F1 B2 R2;have z15:=Z6 G2.out 15 (.slice sa n.strokes.length sc) rfl;have f15:=Ze G2.out 15;go_upto_region 3 with (first
  |(refine Zu rfl _ _ _ rfl _ _ _ rfl rfl hrun ?_)
  | fail)
 clear c15 z15 f15 hrun;have g5:=Zj v5 p2 15 (.slice a' m c');have E3:Hid ((v5.setCell ⟨p2,15,none⟩ (.slice a' m c')).heap[p2]? = some (.cells (Z5 n a' c') 47)):=zH (by
  have:=ZW G2.out 15 (.slice a' m c');rw[<-hm.out,Z0F]at this;rw[<-hm.out];exact this)
 have E4:Hid ((v5.setCell ⟨p2,15,none⟩ (.slice a' m c')).heap[p1]? = some (.cells (Z5 Zd none 0) 47)):=zH (Zc g5 G1.out (fun e=>by have:=N12.out;have e2:=Option.some.inj e;omega));have O6:=zH (O5.out.kept g5 (.inr (Zg O5.out G2.out (fun cur h=>by simp at h)).symm));have B6:=zH (B5.out.grown g5 (by have:=B5.out.size;have:=HP0.out;omega) (fun q hq=>by cases hq;have:=N12.out;have:=HP1.out;omega));clear g5 O5 G1 G2 B5;generalize v5.setCell ⟨p2,15,none⟩ (.slice a' m c')=W4 at *;have oneN:=Zh n a' c';go_wp2_with (first
  |(refine zL p2 E3.out ?_)
  |(refine zN p1 (Z5 n a' c') E4.out ?_))
 go_wp2_with fail;have hr:=ZP W4 p1 _ (Z5 n a' c') _ _ E4.out;refine bodyPost_ret (results_cell_row rfl _ _ p1 47 (Z5 n a' c') (0,0) _ rfl hr Tryz.underlying47 rfl (I43.out _ _ _)) rfl ?_;have G4:=Y6 W4 p1 (Z5 n a' c');refine⟨a',c',rfl,?_,?_⟩
 ·rw[hm.out];exact Zp (O6.out.kept G4 (.inr (Zg O6.out E4.out (fun cur h=>by simp at h)).symm)) (by have:=B02.out;have:=HP0.out;omega)
 ·rw[HP0.out];exact B6.out.grown G4 (by have:=B6.out.size;have:=HP0.out;omega) (fun q hq=>by cases hq;have:=HP1.out;omega)
end
section
attribute [local go_sem] ZS Xi
theorem JJ (n:NoteV)(sa:zA)(sc:Nat)(w:World):Calls zq 157 #[.agg (Z5 n sa sc)] w fun e w'=>e = .returned (.agg #[.int .i64 n.house,.int .i64 n.num])/\Below w.heap.size w w':=by
 have hb:=zB w (.cells (Z5 n sa sc) 47);go_enter Tryz.func157,Tryz.ntmps157;go_wp2_with fail;go_returns;exact⟨rfl,hb.alloc hb.size _⟩
end
theorem Z7I (x m y k:Int)(w:World):Calls zq 196 #[.agg #[.int .i64 x,.int .i64 m],.agg #[.int .i64 y,.int .i64 k]] w fun e w'=>e = .returned (.bool (Jx (x,m) (y,k)))/\Below w.heap.size w w':=by
 have g1:=Z8 _ (.cells (#[.int .i64 y,.int .i64 k]) 45) _ _ (Z9 w (.cells (#[.int .i64 x,.int .i64 m]) 45));have g2:=Zm (w.alloc (.cells (#[.int .i64 x,.int .i64 m]) 45)) (.cells (#[.int .i64 y,.int .i64 k]) 45) (w.heap.size+1) (by simp);have bb:Below w.heap.size w ((w.alloc (.cells (#[.int .i64 x,.int .i64 m]) 45)).alloc (.cells (#[.int .i64 y,.int .i64 k]) 45)):=(zB _ _).alloc (by simp) _;have BB:=zH bb;clear bb;have a0:=Z6 g1 0 (.int .i64 x) rfl;have a1:=Z6 g1 1 (.int .i64 m) rfl;have b0:=Z6 g2 0 (.int .i64 y) rfl;have b1:=Z6 g2 1 (.int .i64 k) rfl;clear g1 g2;obtain⟨q,hq⟩:=zX (Jx (x,m) (y,k));have HC:Hid ((decide (x < y) ||((x==y) && decide (m < k)))=q):=zH (by
  rw[<-hq.out,Bool.eq_iff_iff,JH];simp)
 rw[hq.out];clear hq;cases h1:decide (x < y)
 ·cases h2:(x==y)
  ·rw[h1,h2]at HC;obtain rfl:false=q:=HC.out;go_enter Tryz.func196,Tryz.ntmps196;go_wp2;go_ret;exact⟨rfl,BB.out⟩
  ·cases h3:decide (m < k)
   focus
    rw[h1,h2,h3]at HC;obtain rfl:false=q:=HC.out
   rotate_left
   focus
    rw[h1,h2,h3]at HC;obtain rfl:true=q:=HC.out
   all_goals
    go_enter Tryz.func196,Tryz.ntmps196;go_wp2;go_ret;exact⟨rfl,BB.out⟩
 ·rw[h1]at HC;obtain rfl:true=q:=HC.out;go_enter Tryz.func196,Tryz.ntmps196;go_wp2;go_ret;exact⟨rfl,BB.out⟩
def howMany (l:List NoteV)(h:Int):Nat:=l.countP (fun x=>decide (x.house=h))
theorem Z68 {l:List NoteV}{k:Nat}{x:NoteV}(h:l[k]? = some x)(a:Int):howMany (l.take (k+1)) a=howMany (l.take k) a+(if x.house=a then 1 else 0):=by
 unfold howMany;rw[Y8 h,List.countP_append];simp
theorem Z4p (l:List NoteV)(a:Int):howMany l a<=l.length:=List.countP_le_length
theorem Z1i (xs:List LN)(a:zA)(n c:Nat)(h:Int)(w:World)(hr:Jb w a n c xs)(hn:n<=100000):
  Calls zq 84 #[.slice a n c,.int .i64 h] w fun e w'=>e = .returned (.int .i64 (howMany (xs.map LN.n) h:Int))/\w'=w:=by
 have J19:(zq.info? 47).map (·.size)=some 19:=by kernel_rfl
 have RL:=zH hr;have HN:=zH hr.1;have HNN:=zH hn;clear hr hn;go_enter Tryz.func84,Tryz.ntmps84;go_wp2_with fail;go_loopw [5,6] (fun z i wr=>∃(k s:Nat),z = .int .i64 (s:Int)/\i = .int .i64 (k:Int)/\k<=n/\Hid (s=howMany ((xs.map LN.n).take k) h)/\Hid (wr=w)) (fun _ i _=>n - (intOf i).toNat)
 case atStart=>exact⟨0,0,rfl,rfl,Nat.zero_le _,zH (by simp[howMany]),zH rfl⟩
 case round=>
  obtain⟨k,s,rfl,rfl,hk,HSU,HW⟩:=hrel;have hw:=HW.out;subst hw;by_cases hlt:k < n
  ·have t0:decide ((k:Int) < (n:Int))=true:=by simp;omega
   obtain⟨x,Hx⟩ : ∃x,xs[k]? = some x:=⟨_,List.getElem?_eq_getElem (by rw[HN.out];exact hlt)⟩;have HSN:=zH (Z68 (l:=xs.map LN.n) (k:=k) (x:=x.n) (by rw[List.getElem?_map,Hx];rfl) h);obtain⟨b,off,rfl,hat⟩:=RL.out.at (by omega);obtain⟨o,ho⟩:=zX (off+k * 19);have hx:=(hat k x Hx).1;rw[ho.out]at hx;have c0:=hx 0 (.int .i64 x.n.house) rfl;rw[Nat.add_zero]at c0;have hix:=fun W=>ZN (W:=W) (c:=c) (b:=b) Tryz.underlying24 J19 hlt ho.out;have HK64:Hid ((k:Int)+1<=9223372036854775807):=zH (by have:=HNN.out;omega);have HLE:Hid (s<=n):=zH (by rw[HSU.out];refine Nat.le_trans (Z4p _ _) ?_;rw[List.length_take,List.length_map,HN.out];omega);have HS64:Hid ((s:Int)+1<=9223372036854775807):=zH (by have:=HNN.out;have:=HLE.out;omega);clear hat hx Hx J19;cases t1:(x.n.house==h)
   ·have HS2:Hid (s=howMany ((xs.map LN.n).take (k+1)) h):=zH (by rw[HSN.out,<-HSU.out,if_neg (by simpa using t1)];rfl);go_upto_region 4 with fail;have hk64:=HK64.out;go_wp2;go_roundw
    case rel=>exact⟨k+1,s,rfl,by go_num,by omega,HS2,(by first | exact zH rfl | exact zH trivial)⟩
    case measure=>simp[intOf];omega
   ·have HS2:Hid (s+1=howMany ((xs.map LN.n).take (k+1)) h):=zH (by rw[HSN.out,<-HSU.out,if_pos (by simpa using t1)]);go_upto_region 6 with fail;have hk64:=HK64.out;have hs64:=HS64.out;go_wp2;go_roundw
    case rel=>exact⟨k+1,s+1,by go_num,by go_num,by omega,HS2,(by first | exact zH rfl | exact zH trivial)⟩
    case measure=>simp[intOf];omega
  ·have t0:decide ((k:Int) < (n:Int))=false:=by simp;omega
   have hkn:k=n:=by omega
   have HE:Hid (s=howMany (xs.map LN.n) h):=zH (by
    have h1:=HSU.out;rw[hkn,List.take_of_length_le (by rw[List.length_map,HN.out];exact Nat.le_refl _)]at h1;exact h1)
   clear HSU hkn;go_wp2;go_ret;exact⟨by rw[HE.out] <;> rfl,rfl⟩
def Z50 (l:List NoteV):Int:=l.foldl (fun c x=>max c x.clock) 0
theorem Za8 {l:List NoteV}{k:Nat}{x:NoteV}(h:l[k]? = some x):Z50 (l.take (k+1))=max (Z50 (l.take k)) x.clock:=by
 unfold Z50;rw[Y8 h,List.foldl_append];rfl
theorem Z8H (xs:List LN)(a:zA)(n c:Nat)(w:World)(hr:Jb w a n c xs)(hn:n<=100000):
  Calls zq 140 #[.slice a n c] w fun e w'=>e = .returned (.int .i64 (Z50 (xs.map LN.n)))/\w'=w:=by
 have J19:(zq.info? 47).map (·.size)=some 19:=by kernel_rfl
 have RL:=zH hr;have HN:=zH hr.1;have HNN:=zH hn;clear hr hn;go_enter Tryz.func140,Tryz.ntmps140;go_wp2_with fail;go_loopw [3,4] (fun z i wr=>∃(k:Nat) (s:Int),z = .int .i64 s/\i = .int .i64 (k:Int)/\k<=n/\Hid (s=Z50 ((xs.map LN.n).take k))/\Hid (wr=w)) (fun _ i _=>n - (intOf i).toNat)
 case atStart=>exact⟨0,0,rfl,rfl,Nat.zero_le _,zH (by simp[Z50]),zH rfl⟩
 case round=>
  obtain⟨k,s,rfl,rfl,hk,HSU,HW⟩:=hrel;have hw:=HW.out;subst hw;by_cases hlt:k < n
  ·have t0:decide ((k:Int) < (n:Int))=true:=by simp;omega
   obtain⟨x,Hx⟩ : ∃x,xs[k]? = some x:=⟨_,List.getElem?_eq_getElem (by rw[HN.out];exact hlt)⟩;have HSN:=zH (Za8 (l:=xs.map LN.n) (k:=k) (x:=x.n) (by rw[List.getElem?_map,Hx];rfl));obtain⟨b,off,rfl,hat⟩:=RL.out.at (by omega);obtain⟨o,ho⟩:=zX (off+k * 19);have hx:=(hat k x Hx).1;rw[ho.out]at hx;have c2:=hx 2 (.int .i64 x.n.clock) rfl;have hix:=fun W=>ZN (W:=W) (c:=c) (b:=b) Tryz.underlying24 J19 hlt ho.out;have hk64:(k:Int)+1<=9223372036854775807:=by have:=HNN.out;omega
   have HS2:Hid (max s x.n.clock=Z50 ((xs.map LN.n).take (k+1))):=zH (by rw[HSN.out,<-HSU.out]);clear hat hx Hx;go_wp2;go_roundw
   case rel=>exact⟨k+1,max s x.n.clock,rfl,by go_num,by omega,HS2,(by first | exact zH rfl | exact zH trivial)⟩
   case measure=>simp[intOf];omega
  ·have t0:decide ((k:Int) < (n:Int))=false:=by simp;omega
   have hkn:k=n:=by omega
   have HE:Hid (s=Z50 (xs.map LN.n)):=zH (by
    have h1:=HSU.out;rw[hkn,List.take_of_length_le (by rw[List.length_map,HN.out];exact Nat.le_refl _)]at h1;exact h1)
   clear HSU hkn;go_wp2;go_ret;exact⟨by rw[HE.out] <;> rfl,rfl⟩
def Jz:List NoteV->Nm->Int
 | [],_ => -1
 | y :: ys,a=>if Zk y=a then 0 else if Jz ys a < 0 then -1 else Jz ys a+1
theorem Z1m: ∀{l:List NoteV} {a:Nm},(∀x∈l,Zk x≠a)->Jz l a = -1
 | [],_,_=>rfl
 | y :: ys,a,h=>by
  rw[Jz,if_neg (h y (List.mem_cons_self ..)),Z1m (fun x hx=>h x (List.mem_cons_of_mem _ hx))]
  rfl
theorem Z7n: ∀{l:List NoteV} {a:Nm} {k:Nat} {x:NoteV},(∀j y,j < k->l[j]? = some y->Zk y≠a)->l[k]? = some x->Zk x=a->Jz l a=(k:Int)
 | [],_,_,_,_,h,_=>by simp at h
 | y :: ys,a,0,x,_,h,e=>by
  simp only[List.getElem?_cons_zero,Option.some.injEq]at h
  subst h
  rw[Jz,if_pos e]
  rfl
 | y :: ys,a,k+1,x,h1,h2,e=>by
  have ih:=Z7n (l:=ys) (a:=a) (k:=k) (x:=x) (fun j z hj hz=>h1 (j+1) z (by omega) (by simpa using hz)) (by simpa using h2) e
  rw[Jz,if_neg (h1 0 y (Nat.succ_pos k) rfl),ih,if_neg (by omega)]
  omega
theorem Z5u {l:List NoteV}{a:Nm}(h:Jz l a < 0): ∀x∈l,Zk x≠a:=by
 induction l with
 | nil=>intro x hx;cases hx
 | cons y ys ih=>
  rw[Jz]at h;split at h
  ·omega
  ·rename_i hy;split at h
   ·rename_i hn;intro x hx;rcases List.mem_cons.1 hx with rfl | hx
    ·exact hy
    ·exact ih hn x hx
   ·omega
theorem Z2C (l:List NoteV)(a:zA)(nn nc:Nat)(h m:Int)(w:World)(hr:JM w a nn nc l)(hlen:nn<=1000):
  Calls zq 156 #[.slice a nn nc,.agg #[.int .i64 h,.int .i64 m]] w fun e w'=>e = .returned (.int .i64 (Jz l (h,m)))/\Below w.heap.size w w':=by
 have J19:(zq.info? 47).map (·.size)=some 19:=by kernel_rfl
 obtain⟨xs,hxs,hrl⟩:=hr.choose;have RL:=zH hrl;have HXS:=zH hxs;have LNX:=zH hrl.1;have HLN:=zH hr.1;clear hr hxs hrl;have B0:=zH (zB w (.cells #[.int .i64 h,.int .i64 m] 45));have R0:=zH (Z9 w (.cells #[.int .i64 h,.int .i64 m] 45));go_enter Tryz.func156,Tryz.ntmps156;go_upto_region 1 with fail;obtain⟨p3,hp3⟩:=zX (w.heap.size);rw[hp3.out]at R0 ⊢;generalize w.alloc (.cells #[.int .i64 h,.int .i64 m] 45)=W0 at *;go_wp2_with fail;go_loopw [5] (fun i wr=>∃k:Nat,i = .int .i64 (k:Int)/\k<=nn/\Hid (∀j y,j < k->l[j]? = some y->Zk y≠(h,m))/\Hid (Below W0.heap.size W0 wr)) (fun i _=>nn - (intOf i).toNat)
 case atStart=>exact⟨0,rfl,Nat.zero_le _,zH (fun j y h=>by omega),zH (Below.refl _ _)⟩
 case round=>
  obtain⟨k,rfl,hk,HA,BB⟩:=hrel;by_cases hlt:k < nn
  ·have t0:decide ((k:Int) < (nn:Int))=true:=by simp;omega
   obtain⟨x,Hx⟩ : ∃x,xs[k]? = some x:=⟨_,List.getElem?_eq_getElem (by rw[LNX.out];exact hlt)⟩;have HLX:=zH (show l[k]? = some x.n by rw[<-HXS.out,List.getElem?_map,Hx];rfl);obtain⟨b,off,rfl,hat⟩:=(RL.out.below (B0.out.trans (BB.out.mono B0.out.size))).at (by omega);have HX:=zH (hat k x Hx).1;obtain⟨o,ho⟩:=zX (off+k * 19);rw[ho.out]at HX;have HIX:=zH (fun W=>ZN (W:=W) (c:=nc) (b:=b) Tryz.underlying24 J19 hlt ho.out);have hk64:(k:Int)+1<=9223372036854775807:=by omega
   have LR:=zH (show ∀w0,Below wr.heap.size wr w0->w0.heap[p3]? = some (.cells #[.int .i64 h,.int .i64 m] 45)from fun w0 hb=>Z7 hb (Z7 BB.out R0.out));have LX:=zH (show ∀w0,Below wr.heap.size wr w0->w0.rangeAt b o (x.n.cells x.sa x.sc)from fun w0 h=>Zs HX.out h);have hC0:Below wr.heap.size wr wr.drew:=(Below.refl _ _).drew;clear hat Hx;go_upto_region 4 with fail;clear t0;try simp only[Act.put,VZ,VY,VX]
   refine zC (fun w':World=>Below wr.heap.size wr w') hC0 ?_
   iterate 2 go_big_quiet_step (fail)
   refine zQ (.pointer (some ⟨b,o,none⟩)) (fun w0 hC=>?_) ?_
   ·have hix:=HIX.out w0;clear hC;go_simp
   refine zQ (.agg (Z5 x.n x.sa x.sc)) (fun w0 hC=>Zx (.tmp 14) rfl b o rfl x.n x.sa x.sc (LX.out w0 hC)) ?_;refine zQ (.agg #[.int .i64 x.n.house,.int .i64 x.n.num]) (fun w0 hC=>?_) ?_
   ·go_simp;refine(JJ x.n x.sa x.sc w0).mono ?_;rintro e w1 ⟨rfl,b1⟩;exact⟨rfl,hC.trans (b1.mono hC.size)⟩
   refine zQ (.agg #[.int .i64 h,.int .i64 m]) (fun w0 hC=>?_) ?_
   ·have c0:=Z6 (LR.out w0 hC) 0 (.int .i64 h) rfl;have c1:=Z6 (LR.out w0 hC) 1 (.int .i64 m) rfl;clear hC;go_simp
   refine zQ (.bool (decide (x.n.house=h/\x.n.num=m))) (fun w0 hC=>?_) ?_
   ·clear hC;go_simp;try (by_cases h1:x.n.house=h <;> by_cases h2:x.n.num=m <;> simp[h1,h2])
   refine wpQuiet_nil ?_;intro w' hC;have BB2:=zH (BB.out.trans (hC.mono BB.out.size));clear hC LX LR HX BB;cases hq:decide (x.n.house=h/\x.n.num=m)
   ·have NE:=zH (of_decide_eq_false hq);clear hq;go_wp2;go_roundw
    case rel=>exact⟨k+1,by go_num,by omega,zH (fun i z hi hz=>by
     rcases Nat.lt_or_ge i k with h' | h'
     ·exact HA.out i z h' hz
     ·have e:i=k:=by omega
      subst e;rw[HLX.out]at hz;cases hz;exact fun e=>NE.out ⟨congrArg Prod.fst e,congrArg Prod.snd e⟩),BB2⟩
    case measure=>simp[intOf];omega
   ·have EQ:Hid (Jz l (h,m)=(k:Int)):=zH (Z7n HA.out HLX.out (Prod.ext (of_decide_eq_true hq).1 (of_decide_eq_true hq).2));clear hq;go_wp2;go_ret;exact⟨by rw[EQ.out] <;> rfl,B0.out.trans (BB2.out.mono B0.out.size)⟩
  ·have t0:decide ((k:Int) < (nn:Int))=false:=by simp;omega
   have NI:Hid (Jz l (h,m) = -1):=zH (Z1m fun x hx=>by
    obtain⟨i,hi⟩:=List.getElem?_of_mem hx;exact HA.out i _ (by have:=(List.getElem?_eq_some_iff.1 hi).1;rw[HLN.out]at this;omega) hi)
   go_wp2;go_ret;exact⟨by rw[NI.out] <;> rfl,B0.out.trans (BB.out.mono B0.out.size)⟩
section
attribute [local go_sem] J5
theorem Qq (n:NoteV)(sa:zA)(sc:Nat)(w:World)(hs:Xe w sa n.strokes.length sc n.strokes)(hl:n.strokes.length<=1000000000):
  Calls zq 83 #[.agg (Z5 n sa sc)] w fun e w' => ∃ta tc,e = .returned (.agg (Z5 n ta tc))/\w'.ownsRow w.heap.size 3 1 (.slice ta n.strokes.length tc) n.strokes.length (n.strokes.map Yo)/\Below w.heap.size w w':=by
 have I43:=zH zI;go_enter Tryz.func83,Tryz.ntmps83;go_upto_region 1 with fail;rw[<-ZZ];have g0:=Z8 _ (.cells (Z5 Zd none 0) 47) _ _ (Z9 w (.cells (Z5 n sa sc) 47));have g1:=Zm (w.alloc (.cells (Z5 n sa sc) 47)) (.cells (Z5 Zd none 0) 47) (w.heap.size+1) (by simp);have bb:Below w.heap.size w ((w.alloc (.cells (Z5 n sa sc) 47)).alloc (.cells (Z5 Zd none 0) 47)):=(zB _ _).alloc (by simp) _;have E2:=zH g0;have F1:=zH g1;have B2:=zH bb;have R2:=zH (hs.below bb);have N12:Hid (w.heap.size+1 < ((w.alloc (.cells (Z5 n sa sc) 47)).alloc (.cells (Z5 Zd none 0) 47)).heap.size):=zH (Zq g1);clear g0 g1 bb hs;generalize (w.alloc (.cells (Z5 n sa sc) 47)).alloc (.cells (Z5 Zd none 0) 47)=W3 at *;generalize hp2:w.heap.size=p2 at *;generalize hp1:p2+1=p1 at *;have HP2:=zH hp2;have HP1:=zH hp1;clear hp2 hp1;obtain⟨m,hm⟩:=zX (n.strokes.length);rw[hm.out]at R2 hl;have hb3:Below W3.heap.size W3 (W3.alloc (.cells #[] 3)):=zB _ _;have c15:(W3.alloc (.cells #[] 3)).cell? ⟨p2,15,none⟩=some (.slice sa m sc):=by rw[<-hm.out];exact Z6 (Z7 hb3 E2.out) 15 _ rfl
 have o0:=World.ownsRow_lit (base:=W3.heap.size) (e:=3) (size:=1) W3 #[] 0 (Nat.le_refl _) (by unfold maxLen;omega) rfl;obtain⟨a',c',v5,hrun,ho,hg⟩:=Z0f (W3.alloc (.cells #[] 3)) W3.heap.size _ 0 0 _ o0 sa m sc _ (R2.out.below hb3) (Z1K _) (by omega) hb3.size;have hb5:Below W3.heap.size W3 v5:=hb3.grown hg hb3.size (fun k hk=>(o0.lt k hk).1);rw[Nat.zero_add]at hrun ho;have O5:Hid (v5.ownsRow W3.heap.size 3 1 (.slice a' m c') m (n.strokes.map Yo)):=zH (by simpa using ho);have G2:=zH (Z7 hb5 E2.out);have G1:=zH (Z7 hb5 F1.out);have B5:=zH (B2.out.trans (hb5.mono (by have:=B2.out.size;have:=HP2.out;omega)));have B02:Hid (p2<=W3.heap.size):=zH (by have:=B2.out.size;have:=HP2.out;omega);clear hb3 o0 ho hg hb5 E2 F1 B2 R2;have z15:=Z6 G2.out 15 (.slice sa n.strokes.length sc) rfl;have f15:=Ze G2.out 15;go_upto_region 2 with (first
  |(refine Zu rfl _ _ _ rfl _ _ _ rfl rfl hrun ?_)
  | fail)
 clear c15 z15 f15 hrun;have g5:=Zj v5 p2 15 (.slice a' m c');have E3:Hid ((v5.setCell ⟨p2,15,none⟩ (.slice a' m c')).heap[p2]? = some (.cells (Z5 n a' c') 47)):=zH (by
  have:=ZW G2.out 15 (.slice a' m c');rw[<-hm.out,Z0F]at this;rw[<-hm.out];exact this)
 have E4:Hid ((v5.setCell ⟨p2,15,none⟩ (.slice a' m c')).heap[p1]? = some (.cells (Z5 Zd none 0) 47)):=zH (Zc g5 G1.out (fun e=>by have:=HP1.out;have e2:=Option.some.inj e;omega));have O6:=zH (O5.out.kept g5 (.inr (Zg O5.out G2.out (fun cur h=>by simp at h)).symm));have B6:=zH (B5.out.grown g5 (by have:=B5.out.size;have:=HP2.out;omega) (fun q hq=>by cases hq;have:=HP2.out;omega));clear g5 O5 G1 G2 B5;generalize v5.setCell ⟨p2,15,none⟩ (.slice a' m c')=W4 at *;have oneN:=Zh n a' c';go_wp2_with (first
  |(refine zL p2 E3.out ?_)
  |(refine zN p1 (Z5 n a' c') E4.out ?_))
 go_wp2_with fail;have hr:=ZP W4 p1 _ (Z5 n a' c') _ _ E4.out;refine bodyPost_ret (results_cell_row rfl _ _ p1 47 (Z5 n a' c') (0,0) _ rfl hr Tryz.underlying47 rfl (I43.out _ _ _)) rfl ?_;have G4:=Y6 W4 p1 (Z5 n a' c');refine⟨a',c',rfl,?_,?_⟩
 ·rw[hm.out];exact Zp (O6.out.kept G4 (.inr (Zg O6.out E4.out (fun cur h=>by simp at h)).symm)) (by have:=B02.out;have:=HP2.out;omega)
 ·rw[HP2.out];exact B6.out.grown G4 (by have:=B6.out.size;have:=HP2.out;omega) (fun q hq=>by cases hq;have:=HP1.out;omega)
end
theorem Z6r {P:Program}{ops:Array Oper}{S:World->Prop}{op:Oper}{a:Act}(hw:Region.wanted op (yielded ops a.tmps)=true)(ty:TypeId)(x:Operand)(ho:op.op = .load ty x)
  (b o:Nat) (hx:a.eval x = .pointer (some ⟨b,o,none⟩)) (cs:List Value) (d:TypeDesc) (hS : ∀w,S w->w.rangeAt b o cs)
  (hu:P.underlying ty=some d) (hd:d.isRow=true) (hi:(P.info? ty).map (·.size)=some cs.length):YieldsIf P ops S op (.agg cs.toArray) a:=
 .inl ⟨hw,fun w hw'=>by
  unfold execOp
  simp only[ho,hx,Instr.loadAt,Instr.sureAddr,Sem.run_bind,Sem.run_pure,Result.andThen_ok,run_loadVar_mid w b o ty cs d (hS w hw') hu hd hi]⟩
theorem Yq {F F1:Nat->Prop}{a b c:World}(h:Za F a b)(k:Za F1 b c)(hF : ∀k,F1 k->F k\/a.heap.size<=k):Za F a c:=
 ⟨k.os.trans h.os,k.tape.trans h.tape,k.output.trans h.output,Nat.le_trans h.size k.size,fun i hi hs=>(k.block i (Nat.lt_of_lt_of_le hi h.size) (fun h1=>by
  rcases hF i h1 with h2 | h2
  ·exact hs h2
  ·omega)).trans (h.block i hi hs)⟩
theorem Zb1 {W:World}{p mb sp:Nat}{f:Ys}{id:Int}{c:Int->Nat}(h:W.heap[p]? = some (.cells (J6 f id mb c sp) 109)):W.rangeAt p 5 [.int .i64 (c 0:Int),.int .i64 (c 1:Int),.int .i64 (c 2:Int),.int .i64 (c 3:Int),.int .i64 (c 4:Int),.int .i64 (c 5:Int),.int .i64 (c 6:Int),.int .i64 (c 7:Int),.int .i64 (c 8:Int)]:=fun j v hv=>by
 have hj:j < 9:=(List.getElem?_eq_some_iff.1 hv).1
 have h1:=Z6 h (5+j) v ?_
 ·exact h1
 ·have:j=0\/j=1\/j=2\/j=3\/j=4\/j=5\/j=6\/j=7\/j=8:=by omega
  rcases this with rfl | rfl | rfl | rfl | rfl | rfl | rfl | rfl | rfl <;> simpa [J6] using hv
def Z2H (c:Int->Nat):Xz := #[.int .i64 (c 0:Int),.int .i64 (c 1:Int),.int .i64 (c 2:Int),.int .i64 (c 3:Int),.int .i64 (c 4:Int),.int .i64 (c 5:Int),.int .i64 (c 6:Int),.int .i64 (c 7:Int),.int .i64 (c 8:Int)]
theorem Z99 (c:Int->Nat)(k:Nat)(hk:k<=8):(Z2H c)[k]? = some (.int .i64 (c (k:Int):Int)):=by
 have:k=0\/k=1\/k=2\/k=3\/k=4\/k=5\/k=6\/k=7\/k=8:=by omega
 rcases this with rfl | rfl | rfl | rfl | rfl | rfl | rfl | rfl | rfl <;> rfl
theorem Zbv (c:Int->Nat)(k:Nat)(hk:k<=8):(Z2H c).setIfInBounds k (.int .i64 ((c (k:Int):Int)+1))=Z2H (Z09 c (k:Int)):=by
 have:k=0\/k=1\/k=2\/k=3\/k=4\/k=5\/k=6\/k=7\/k=8:=by omega
 rcases this with rfl | rfl | rfl | rfl | rfl | rfl | rfl | rfl | rfl <;> simp[Z2H,Z09]
theorem Zbw (c:Int->Nat):(Z2H c).all (·.oneCell')=true:=by simp[Z2H,Value.oneCell']
theorem Z7d {W:World}{p k:Nat}(hk:k < 9):(Instr.indexAt 107 (.pointer (some ⟨p,0,none⟩)) (.int .i64 (k:Int))).run zq W = .ok (.pointer (some ⟨p,k,none⟩)) W:=by
 have hsz:(zq.info? 3).map (·.size)=some 1:=by kernel_rfl
 cases hq:zq.info? 3 with
 | none=>simp[hq]at hsz
 | some i=>
  simp only[hq,Option.map_some,Option.some.injEq]at hsz;simp[Instr.indexAt,run_underlying Tryz.underlying107,Instr.sureAddr,asIntOf,sizeOf,typeInfo,hq,hsz,Addr.add,hk];try exact fun h=>h.symm
theorem Ze6 {P T:Nat->Nat->World->Prop}{G:Prop}(h1:(∀a b W,P a b W->T a b W)->G)(h2 : ∀a b W,P a b W->T a b W):G:=h1 h2
structure Z0t (w W:World)(km pc:Nat)(S:ZC)(l:List NoteV)(xs:List LN)(q:Nat)(GK:Nm->Option LN)(fr:List NoteV)(c:Int->Nat)(fa:zA)(fc:Nat)(ys:List LN):Prop where
 bel:Below w.heap.size w W
 go:Ym S.l [] S.c l=Ym S.l fr c (l.drop q)
 nms:Qr (S.l ++ fr) c
 nd:((S.l ++ fr).map Zk).Nodup
 map:YY LN.val W km (S.l.length+fr.length) GK
 gs : ∀k x,GK k=some x->x.n∈S.l ++ fr/\x.nm=k
 ok : ∀k x,GK k=some x -> ∀W',Below w.heap.size w W'->x.ok W'
 gl : ∀n∈S.l ++ fr,∃x,GK (Zk n)=some x/\x.n=n
 cnt:W.heap[pc]? = some (.cells (Z2H c) 107)
 own:W.ownsRow w.heap.size 47 19 (.slice fa fr.length fc) fr.length (Zw ys)
 eq:ys.map LN.n=fr
 mem : ∀y∈ys,y∈xs
 km_ge:w.heap.size<=km
 pc_ge:w.heap.size<=pc
 fl:fr.length<=q
section
variable {w W W':World}{km pc:Nat}{S:ZC}{l:List NoteV}{xs:List LN}{q:Nat}{GK:Nm->Option LN}{fr:List NoteV}{c:Int->Nat}{fa:zA}{fc:Nat}{ys:List LN}
theorem Z0t.below (h:Z0t w W km pc S l xs q GK fr c fa fc ys)(hb:Below W.heap.size W W'):Z0t w W' km pc S l xs q GK fr c fa fc ys:=
 ⟨h.bel.trans (hb.mono h.bel.size),h.go,h.nms,h.nd,h.map.below hb,h.gs,h.ok,h.gl,Z7 hb h.cnt,Zb h.own hb,h.eq,h.mem,h.km_ge,h.pc_ge,h.fl⟩
theorem Z0t.known (h:Z0t w W km pc S l xs q GK fr c fa fc ys){n:NoteV}{x:LN}(hx:GK (Zk n)=some x):Xn (S.l ++ fr) n=some x.n:=by
 obtain⟨h1,h2⟩:=h.gs _ x hx;cases hk:Xn (S.l ++ fr) n with
 | none=>exact absurd h2 (JQ hk x.n h1)
 | some o=>
  obtain⟨h3,h4⟩:=Z1I hk;rw[Z0G h.nd h3 h1 (h4.trans h2.symm)]
theorem Z0t.unknown (h:Z0t w W km pc S l xs q GK fr c fa fc ys){n:NoteV}(hx:GK (Zk n)=none):Xn (S.l ++ fr) n=none:=
 Z8n fun y hy e=>by
  obtain⟨x,h1,_⟩:=h.gl y hy
  rw[e,hx]at h1
  cases h1
theorem Z0t.skip (h:Z0t w W km pc S l xs q GK fr c fa fc ys){n:NoteV}(hn:l[q]? = some n)(hk:(∃o,Xn (S.l ++ fr) n=some o/\Yv o n=true)\/(Xn (S.l ++ fr) n=none/\(c n.house:Int)+1 < n.num)):Z0t w W km pc S l xs (q+1) GK fr c fa fc ys:=by
 refine⟨h.bel,?_,h.nms,h.nd,h.map,h.gs,h.ok,h.gl,h.cnt,h.own,h.eq,h.mem,h.km_ge,h.pc_ge,Nat.le_succ_of_le h.fl⟩;rw[h.go,Z6c hn,Ym];rcases hk with ⟨o,h1,h2⟩ | ⟨h1,h2⟩
 ·rw[h1];simp only;rw[if_pos h2]
 ·rw[h1];simp only;rw[if_pos h2]
theorem Z0t.fork (h:Z0t w W km pc S l xs q GK fr c fa fc ys){n o:NoteV}(hn:l[q]? = some n)(h1:Xn (S.l ++ fr) n=some o)(h2:Yv o n=false):Ym S.l [] S.c l=none:=by
 rw[h.go,Z6c hn,Ym,h1];simp only;rw[if_neg (by rw[h2];decide)]
theorem Z0t.add {x:LN}{a':zA}{c':Nat}(h:Z0t w W km pc S l xs q GK fr c fa fc ys)(hn:l[q]? = some x.n)(hx:x∈xs)(h1:Xn (S.l ++ fr) x.n=none)(h2 : ¬(c x.n.house:Int)+1 < x.n.num)(hnum:1<=x.n.num)(hok : ∀W',Below w.heap.size w W'->x.ok W')
  (hbel:Below w.heap.size w W') (hm:YY LN.val W' km (S.l.length+fr.length+1) (XE GK (Zk x.n) x)) (hc:W'.heap[pc]? = some (.cells (Z2H (Z09 c x.n.house)) 107))
  (ho:W'.ownsRow w.heap.size 47 19 (.slice a' (fr.length+1) c') (fr.length+1) (Zw ys ++ x.n.cells x.sa x.sc)):Z0t w W' km pc S l xs (q+1) (XE GK (Zk x.n) x) (fr ++ [x.n]) (Z09 c x.n.house) a' c' (ys ++ [x]):=by
 have hfree:=JQ h1;have hlt:=h.nms.free hnum hfree;refine⟨hbel,?_,?_,?_,?_,fun k y hy=>?_,fun k y hy=>?_,fun y hy=>?_,hc,?_,?_,fun y hy=>?_,h.km_ge,h.pc_ge,?_⟩
 ·rw[h.go,Z6c hn,Ym,h1];simp only;rw[if_neg h2]
 ·rw[<-List.append_assoc];exact h.nms.add (by omega)
 ·rw[<-List.append_assoc,List.map_append];refine List.nodup_append.2 ⟨h.nd,by simp,fun a ha b hb e=>?_⟩;rw[List.map_singleton,List.mem_singleton]at hb;obtain⟨y,hy,rfl⟩:=List.mem_map.1 ha;exact hfree y hy (e.trans hb)
 ·rw[List.length_append,List.length_singleton,<-Nat.add_assoc];exact hm
 ·rw[<-List.append_assoc];unfold XE at hy;split at hy
  ·rename_i e;cases hy;exact⟨List.mem_append_right _ (by simp),e.symm⟩
  ·obtain⟨h3,h4⟩:=h.gs k y hy;exact⟨List.mem_append_left _ h3,h4⟩
 ·unfold XE at hy;split at hy
  ·cases hy;exact hok
  ·exact h.ok k y hy
 ·rw[<-List.append_assoc]at hy;rcases List.mem_append.1 hy with hy | hy
  ·obtain⟨z,h3,h4⟩:=h.gl y hy;refine⟨z,?_,h4⟩;unfold XE;rw[if_neg (hfree y hy)];exact h3
  ·rw[List.mem_singleton.1 hy];exact⟨x,by unfold XE;rw[if_pos rfl],rfl⟩
 ·rw[JP,List.length_append,List.length_singleton];exact ho
 ·rw[List.map_append,h.eq];rfl
 ·rcases List.mem_append.1 hy with hy | hy
  ·exact h.mem y hy
  ·rw[List.mem_singleton.1 hy];exact hx
 ·rw[List.length_append,List.length_singleton];have:=h.fl;omega
end
def Zcl (w:World)(p mb sp:Nat)(G:Nm->Option LN)(SF:Nat->Prop)(S:ZC)(l:List NoteV)(e:Ending)(W:World):Prop:=
 e = .returned (.tuple #[.int .i64 (Yy S l).2.1,.int .i64 (Yy S l).2.2]) /\ ∃G' SF',Xl W p mb sp G' SF' (Yy S l).1/\Za (XJ p mb G SF) w W /\ ∀k,XJ p mb G' SF' k->XJ p mb G SF k\/w.heap.size<=k
section
attribute [local go_sem] ZS Xi
theorem Z5q (p mb sp:Nat)(G:Nm->Option LN)(SF:Nat->Prop)(S:ZC)(a:zA)(nn nc:Nat)(l:List NoteV)(xs:List LN)(w:World)(hh:Xl w p mb sp G SF S)(hi:Xr S)(hxs:xs.map LN.n=l)
  (hr : ∀W,Za (XJ p mb G SF) w W->Jb W a nn nc xs) (hok : ∀x∈l,x.Ok) (hlen:S.l.length+nn<=400):
  Calls zq 13 #[.pointer (some ⟨p,0,none⟩),.slice a nn nc] w fun e w'=>Zcl w p mb sp G SF S l e w':=by
 have J19:(zq.info? 47).map (·.size)=some 19:=by kernel_rfl
 have hmf : ∀(fn:Fn) (first cap:Xz) (w:World),(Instr.makeFunc fn first cap).run zq w = .ok (.func fn first cap) w:=fun _ _ _ _=>rfl;have HH:=zH hh;have HI:=zH hi;have HXS:=zH hxs;have HR:=zH hr;have RL:=zH (hr w (Za.of_below (Below.refl _ _)));have LNX:Hid (xs.length=nn):=zH (hr w (Za.of_below (Below.refl _ _))).1;have HLN:Hid (l.length=nn):=zH (by rw[<-hxs,List.length_map];exact(hr w (Za.of_below (Below.refl _ _))).1);have LOK:=zH (show ∀W,Below w.heap.size w W -> ∀x∈xs,x.ok W from fun W hb x hx=>(QP (hr w (Za.of_below (Below.refl _ _))) hx).below hb);have HOK:=zH hok;have HLEN:=zH hlen;have hn4:(nn:Int)<=9223372036854775807:=by omega
 have B0:=zH (zB w (.cells #[.pointer (some ⟨p,0,none⟩)] 27));have P0:=zH (Z9 w (.cells #[.pointer (some ⟨p,0,none⟩)] 27));have H0:=zH (hh.below B0.out);clear hh hi hxs hr hok hlen;go_enter Tryz.func13,Tryz.ntmps13;go_upto_region 1 with fail;obtain⟨pB,hpB⟩:=zX (w.heap.size);rw[hpB.out]at P0;rw[hpB.out];generalize w.alloc (.cells #[.pointer (some ⟨p,0,none⟩)] 27)=w0 at *;have cB:=Z6 P0.out 0 (.pointer (some ⟨p,0,none⟩)) rfl;go_wp2_with fail;refine(VW w0 p mb sp S.f S.id S.c H0.out.blk).mono ?_;rintro e w1 ⟨rfl,rfl⟩;go_wp2_with fail;refine(Z4X xs (fun x=>!decide (ZD S.f x.n=0)) 55 (.pointer (some ⟨pB,0,none⟩)) Zb3 a nn nc w1 (RL.out.below B0.out) (fun x hx W hb=>Z9Y S.f S.id mb sp p pB S.c x.n x.sa x.sc W (Z7 hb P0.out) (Z7 hb H0.out.blk) (LOK.out W (B0.out.trans (hb.mono B0.out.size)) x hx))).mono ?_;rintro e w2 ⟨rfl,b2⟩;have B2:=zH (B0.out.trans (b2.mono B0.out.size));have P2:=zH (Z7 b2 P0.out);have H2:=zH (HH.out.below B2.out);have ANY:Hid ((xs.any fun x=>!decide (ZD S.f x.n=0))=l.any (fun n=>!decide (ZD S.f n=0))):=zH (by rw[<-HXS.out,List.any_map];rfl);rw[ANY.out];clear b2 cB B0 P0 H0 hmf;have UNCH:=zH (show ∀W,Below w.heap.size w W -> ∃G' SF',Xl W p mb sp G' SF' S/\Za (XJ p mb G SF) w W /\ ∀k,XJ p mb G' SF' k->XJ p mb G SF k\/w.heap.size<=k from fun W hb=>⟨G,SF,HH.out.below hb,Za.of_below hb,fun k hk=>.inl hk⟩);have RL2:=zH (RL.out.below B2.out);have LOK2:=zH (show ∀W,Below w2.heap.size w2 W -> ∀x∈xs,x.ok W from fun W hb=>LOK.out W (B2.out.trans (hb.mono B2.out.size)));have UNCH2:=zH (show ∀W,Below w2.heap.size w2 W -> ∃G' SF',Xl W p mb sp G' SF' S/\Za (XJ p mb G SF) w W /\ ∀k,XJ p mb G' SF' k->XJ p mb G SF k\/w.heap.size<=k from fun W hb=>UNCH.out W (B2.out.trans (hb.mono B2.out.size)));cases hbad:l.any (fun n=>!decide (ZD S.f n=0))
 case true=>
  have HE:=zH (UT hbad);clear hbad;go_wp2_with fail;go_returns;exact⟨by rw[HE.out] <;> rfl,by rw[HE.out];exact UNCH.out _ B2.out⟩
 have GOOD:=zH hbad;have FRM:=zH (QJ HI.out.v hbad);clear hbad;go_upto_region 5 with fail;apply Ze6 (P:=fun km pc W=>Hid (Below w2.heap.size w2 W/\YY LN.val W km S.l.length G/\W.heap[pc]? = some (.cells (Z2H S.c) 107)/\w2.heap.size<=km/\w2.heap.size<=pc))
 ·intro REST;refine zb fun hh=>?_;have HB0:=zH (show Below w2.heap.size w2 w2.drew from(Below.refl _ _).drew);generalize w2.drew=V0 at *;refine zS 0 rfl (.pointer (some ⟨p,0,none⟩)) (fun W h=>by have hc:=Z6 (Z7 h P2.out) 0 (.pointer (some ⟨p,0,none⟩)) rfl;go_simp) ?_;refine zw 1 rfl p 0 ?_;refine zw 2 rfl p 4 ?_;refine zS 3 rfl (.map (some mb)) (fun W h=>by have hc:=Z6 (Z7 h H2.out.blk) 4 (.map (some mb)) rfl;go_simp) ?_;refine zS 5 rfl (.pointer (some ⟨p,0,none⟩)) (fun W h=>by have hc:=Z6 (Z7 h P2.out) 0 (.pointer (some ⟨p,0,none⟩)) rfl;go_simp) ?_;refine zw 6 rfl p 0 ?_;refine zw 7 rfl p 5 ?_;refine zT 8 rfl (.agg (Z2H S.c)) (Z6r (by kernel_rfl) 107 _ rfl p 5 rfl [.int .i64 (S.c 0:Int),.int .i64 (S.c 1:Int),.int .i64 (S.c 2:Int),.int .i64 (S.c 3:Int),.int .i64 (S.c 4:Int),.int .i64 (S.c 5:Int),.int .i64 (S.c 6:Int),.int .i64 (S.c 7:Int),.int .i64 (S.c 8:Int)] _ (fun W h=>Zb1 (Z7 h H2.out.blk)) Tryz.underlying107 rfl (by kernel_rfl)) ?_;refine zM [4,9] rfl (fun K hK=>?_) ?_
  focus
   go_simp;go_at_call 57;refine(UA mb S.l.length G V0 (H2.out.map.below HB0.out)).mono ?_;rintro e V1 ⟨rfl,hm,b1⟩;have KGE:Hid (w2.heap.size<=V0.heap.size):=zH HB0.out.size;obtain⟨km,hkm⟩:=zX (V0.heap.size);have HB1:=zH (HB0.out.trans (b1.mono HB0.out.size));clear b1;rw[hkm.out]at hm KGE;rw[hkm.out];have HM1:=zH hm;clear hm;dsimp only;refine zK hK HB1.out fun hh=>?_;clear hK K;refine zR 9 rfl fun K hK=>?_;have bz:Below V1.heap.size V1 (V1.alloc (.cells #[.int .i64 0,.int .i64 0,.int .i64 0,.int .i64 0,.int .i64 0,.int .i64 0,.int .i64 0,.int .i64 0,.int .i64 0] 107)):=zB _ _;have HB2:=zH (HB1.out.trans (bz.mono HB1.out.size));have HP2:=zH (Z9 V1 (.cells #[.int .i64 0,.int .i64 0,.int .i64 0,.int .i64 0,.int .i64 0,.int .i64 0,.int .i64 0,.int .i64 0,.int .i64 0] 107));have CGE:Hid (w2.heap.size<=V1.heap.size):=zH HB1.out.size;have HM2:=zH (HM1.out.below bz);clear bz;go_simp;obtain⟨pc,hpc⟩:=zX (V1.heap.size);rw[hpc.out]at HP2 CGE;rw[hpc.out];generalize V1.alloc (.cells #[.int .i64 0,.int .i64 0,.int .i64 0,.int .i64 0,.int .i64 0,.int .i64 0,.int .i64 0,.int .i64 0,.int .i64 0] 107)=V2 at *
  rotate_left
  focus
   refine zn fun K hK=>?_;have bz:Below V0.heap.size V0 (V0.alloc (.cells #[.int .i64 0,.int .i64 0,.int .i64 0,.int .i64 0,.int .i64 0,.int .i64 0,.int .i64 0,.int .i64 0,.int .i64 0] 107)):=zB _ _;have HB1:=zH (HB0.out.trans (bz.mono HB0.out.size));have HP1:=zH (Z9 V0 (.cells #[.int .i64 0,.int .i64 0,.int .i64 0,.int .i64 0,.int .i64 0,.int .i64 0,.int .i64 0,.int .i64 0,.int .i64 0] 107));have CGE:Hid (w2.heap.size<=V0.heap.size):=zH HB0.out.size;clear bz;go_simp;obtain⟨pc,hpc⟩:=zX (V0.heap.size);rw[hpc.out]at HP1 CGE;rw[hpc.out];generalize V0.alloc (.cells #[.int .i64 0,.int .i64 0,.int .i64 0,.int .i64 0,.int .i64 0,.int .i64 0,.int .i64 0,.int .i64 0,.int .i64 0] 107)=V1 at *;refine zK hK HB1.out fun hh=>?_;clear hK K;refine zR 4 rfl fun K hK=>?_;go_simp;go_at_call 57;refine(UA mb S.l.length G V1 (H2.out.map.below HB1.out)).mono ?_;rintro e V2 ⟨rfl,hm,b1⟩;have KGE:Hid (w2.heap.size<=V1.heap.size):=zH HB1.out.size;obtain⟨km,hkm⟩:=zX (V1.heap.size);have HB2:=zH (HB1.out.trans (b1.mono HB1.out.size));have HP2:=zH (Z7 b1 HP1.out);clear b1;rw[hkm.out]at hm KGE;rw[hkm.out];have HM2:=zH hm;clear hm;dsimp only
  all_goals
   refine zK hK HB2.out fun hh=>?_;clear hK K;refine zW 10 rfl (.map (some km)) ?_;refine zR 11 rfl fun K hK=>?_;rw[if_pos (by kernel_rfl)];refine Yl 107 _ _ rfl pc #[.int .i64 0,.int .i64 0,.int .i64 0,.int .i64 0,.int .i64 0,.int .i64 0,.int .i64 0,.int .i64 0,.int .i64 0] (Z2H S.c) 107 rfl rfl HP2.out (by kernel_rfl) rfl (Zbw _) ?_;intro V3 h8 hg8 hs8;have KPC:Hid (km≠pc):=zH (fun e=>by
    obtain⟨es,cl,h9⟩:=HM2.out.blk;rw[e,HP2.out]at h9;cases h9)
   have HB3:=zH (HB2.out.grown hg8 HB2.out.size (fun q hq=>by cases hq;exact CGE.out));have HM3:=zH (HM2.out.kept hg8 (fun e=>absurd (Option.some.inj e) KPC.out));have HP3:=zH h8;clear h8 hg8 hs8;simp only[Act.put,lq0,lq1,lq2];refine zK hK HB3.out fun hh=>?_;clear hK K;refine zE ?_;exact REST km pc V3 (zH ⟨HB3.out,HM3.out,HP3.out,KGE.out,CGE.out⟩)
 intro km pc W5 QQ;have HS0:Hid (Z0t w2 W5 km pc S l xs 0 G [] S.c none 0 []):=zH ⟨QQ.out.1,by rw[List.drop_zero],by rw[List.append_nil];exact HI.out.nms,by rw[List.append_nil];exact VH HI.out.srt,QQ.out.2.1,by rw[List.append_nil];exact HH.out.gs,
  fun k x hx W' hb=>LN.ok.below (x:=x) (ZX.of_own (H2.out.str k x hx)) hb,by rw[List.append_nil];exact HH.out.gl,QQ.out.2.2.1,World.ownsRow_nil _ _ _ _,rfl,(fun y hy=>by cases hy),QQ.out.2.2.2.1,QQ.out.2.2.2.2,Nat.le_refl _⟩
 clear QQ;go_wp2_with fail;go_loopw [8,32] (fun fv iv wr=>∃(q:Nat) (GK:Nm->Option LN) (fr:List NoteV) (c:Int->Nat) (fa:zA) (fc:Nat) (ys:List LN),fv = .slice fa fr.length fc/\iv = .int .i64 (q:Int)/\q<=nn/\Hid (Z0t w2 wr km pc S l xs q GK fr c fa fc ys)) (fun _ iv _=>nn - (intOf iv).toNat)
 case atStart=>exact⟨0,G,[],S.c,none,0,[],rfl,rfl,Nat.zero_le _,HS0⟩
 case round=>
  clear HS0;obtain⟨q,GK,fr,c,fa,fc,ys,rfl,rfl,hq,HS⟩:=hrel;by_cases hlt:q < nn
  ·have t0:decide ((q:Int) < (nn:Int))=true:=by simp;omega
   obtain⟨x,Hx⟩ : ∃x,xs[q]? = some x:=⟨_,List.getElem?_eq_getElem (by rw[LNX.out];exact hlt)⟩;have HLX:=zH (show l[q]? = some x.n by rw[<-HXS.out,List.getElem?_map,Hx];rfl);have XM:=zH (List.mem_of_getElem? Hx);have XF:=zH (FRM.out x.n (List.mem_of_getElem? HLX.out));have XO:=zH (HOK.out x.n (List.mem_of_getElem? HLX.out));have NOK:Hid (UM (x.n.house,x.n.num)):=zH ⟨XO.out.house,XO.out.num⟩;obtain⟨b,off,rfl,hat⟩:=(RL2.out.below HS.out.bel).at (by omega);obtain⟨o,ho⟩:=zX (off+q * 19);have HX:=zH (hat q x Hx).1;rw[ho.out]at HX;have hix:=fun W=>ZN (W:=W) (c:=nc) (b:=b) Tryz.underlying24 J19 hlt ho.out;have HK64:Hid ((q:Int)+1<=9223372036854775807):=zH (by have:=HLEN.out;omega);clear hat Hx;go_upto_region 10 with (first
    |(refine wpList_load_mid rfl 47 _ rfl b o rfl (x.n.cells x.sa x.sc) _ HX.out Tryz.underlying47 rfl (Qh x.n x.sa x.sc) ?_)
    |(refine zP wr wr.heap.size (Z5 x.n x.sa x.sc) ?_))
   clear hix t0;have bt:Below wr.heap.size wr (wr.alloc (.cells (Z5 x.n x.sa x.sc) 47)):=zB _ _;have HT:=zH (HS.out.below bt);have N10:=zH (Z9 wr (.cells (Z5 x.n x.sa x.sc) 47));have GE10:Hid (w2.heap.size<=wr.heap.size):=zH HS.out.bel.size;have KM10:Hid (km < wr.heap.size/\pc < wr.heap.size):=zH ⟨HS.out.map.lt,Zq HS.out.cnt⟩;obtain⟨p10,hp10⟩:=zX (wr.heap.size);rw[hp10.out]at N10 GE10 KM10;rw[hp10.out];generalize wr.alloc (.cells (Z5 x.n x.sa x.sc) 47)=wt at *;clear bt HS HX;go_wp2_with (first
    |(refine zL p10 N10.out ?_))
   refine(Vg x.n x.sa x.sc wt).mono ?_;rintro e w6 ⟨rfl,b6⟩;have HT6:=zH (HT.out.below b6);have N6:=zH (Z7 b6 N10.out);clear b6 HT N10;cases hgk:GK (x.n.house,x.n.num)with
   | some y=>
    have hget:(Instr.lookup 106 (.map (some km)) (.agg #[.int .i64 x.n.house,.int .i64 x.n.num]) true).run zq w6 = .ok (.tuple #[.agg (Z5 y.n y.sa y.sc),.bool true]) w6:=by
     have:=JC (t:=106) HT6.out.map Tryz.underlying106 (Jt w6) x.n.house x.n.num NOK.out;rw[hgk]at this;exact this
    have KB:=zH (HT6.out.known (n:=x.n) hgk);have YM:=zH (HT6.out.gs _ y hgk).1;have YK:=zH (HT6.out.ok _ y hgk);have YF:Hid (Zf S.f y.n=true):=zH (by
     rcases List.mem_append.1 YM.out with h | h
     ·exact HI.out.frm _ h
     ·rw[<-HT6.out.eq]at h;obtain⟨z,hz,hz2⟩:=List.mem_map.1 h;rw[<-hz2];exact FRM.out _ (by rw[<-HXS.out];exact List.mem_map_of_mem (HT6.out.mem z hz)))
    clear hgk;go_upto_region 14 with (first
     |(refine zP w6 w6.heap.size (Z5 y.n y.sa y.sc) ?_))
    have bt:Below w6.heap.size w6 (w6.alloc (.cells (Z5 y.n y.sa y.sc) 47)):=zB _ _;have HT7:=zH (HT6.out.below bt);have N7:=zH (Z7 bt N6.out);have M7:=zH (Z9 w6 (.cells (Z5 y.n y.sa y.sc) 47));obtain⟨p11,hp11⟩:=zX (w6.heap.size);rw[hp11.out]at M7;rw[hp11.out];generalize w6.alloc (.cells (Z5 y.n y.sa y.sc) 47)=w7 at *;clear bt hget HT6 N6;go_wp2_with (first
     |(refine zG p11 M7.out ?_)
     |(refine zG p10 N7.out ?_))
    refine(Z9o S.f HI.out.v y.n x.n y.sa y.sc x.sa x.sc w7 (YK.out w7 HT7.out.bel) (LOK2.out w7 HT7.out.bel x XM.out) YF.out XF.out).mono ?_;rintro e w8 ⟨rfl,b8⟩;have HT8:=zH (HT7.out.below b8);have N8:=zH (Z7 b8 N7.out);clear b8 HT7 N7 M7;cases hsame:Yv y.n x.n
    case false=>
     have HG:=zH (HT8.out.fork HLX.out KB.out hsame);have HE:=zH (QZ GOOD.out HG.out);clear hsame;go_wp2_with fail;go_returns;exact⟨by rw[HE.out] <;> rfl,by rw[HE.out];exact UNCH2.out _ HT8.out.bel⟩
    case true=>
     have HN:=zH (HT8.out.skip HLX.out (.inl ⟨_,KB.out,hsame⟩));clear hsame HT8;go_upto_region 16 with fail;have hC0:Below w8.heap.size w8 w8.drew:=(Below.refl _ _).drew;try simp only[Act.put,VZ,VY,VX]
     refine zC (fun w':World=>Below w8.heap.size w8 w') hC0 ?_
     iterate 2 go_big_quiet_step (fail)
     iterate 8 go_big_quiet_skip
     refine zV (.bool true) ?_;go_big_quiet_step (fail);refine wpQuiet_nil ?_;intro w' hC;have HN2:=zH (HN.out.below hC);clear hC HN;have hk64:=HK64.out;go_wp2;go_roundw
     case rel=>exact⟨q+1,GK,fr,c,fa,fc,ys,by go_num,by go_num,by omega,HN2⟩
     case measure=>simp[intOf];omega
   | none=>
    have hget:(Instr.lookup 106 (.map (some km)) (.agg #[.int .i64 x.n.house,.int .i64 x.n.num]) true).run zq w6 = .ok (.tuple #[.agg (Z5 Zd none 0),.bool false]) w6:=by
     have:=JC (t:=106) HT6.out.map Tryz.underlying106 (Jt w6) x.n.house x.n.num NOK.out;rw[hgk]at this;exact this
    have KB:=zH (HT6.out.unknown (n:=x.n) hgk);clear hgk;go_upto_region 14 with (first
     |(refine zP w6 w6.heap.size (Z5 Zd none 0) ?_))
    have bt:Below w6.heap.size w6 (w6.alloc (.cells (Z5 Zd none 0) 47)):=zB _ _;have HT7:=zH (HT6.out.below bt);have N7:=zH (Z7 bt N6.out);generalize w6.alloc (.cells (Z5 Zd none 0) 47)=w7 at *;clear bt hget HT6 N6;obtain⟨k,hk,hk8⟩ : ∃k:Nat,x.n.house=(k:Int)/\k<=8:=⟨x.n.house.toNat,by have:=Yh XF.out;omega,by have:=Yh XF.out;omega⟩;have HK:=zH hk;have HK8:=zH hk8;have XP:=zH (show 1<=x.n.num from(Yh XF.out).2.2);have CB:Hid ((c (k:Int):Int)+1<=9223372036854775807):=zH (by
     have hl:=HT7.out.nms.free XP.out (JQ KB.out);have h1:=XO.out.num;rw[hk]at hl;unfold Qm at h1;omega)
    have WR:Hid (IntKind.i64.wrap ((c (k:Int):Int)+1)=(c (k:Int):Int)+1):=zH (by have h9:=CB.out;rw[IntKind.wrap_i64];omega);clear hk hk8;go_upto_region 16 with fail;have hC0:Below w7.heap.size w7 w7.drew:=(Below.refl _ _).drew;have LN10:=zH (show ∀w0,Below w7.heap.size w7 w0->w0.heap[p10]? = some (.cells (Z5 x.n x.sa x.sc) 47)from fun w0 h=>Z7 h N7.out);have LC:=zH (show ∀w0,Below w7.heap.size w7 w0->w0.heap[pc]? = some (.cells (Z2H c) 107)from fun w0 h=>Z7 h HT7.out.cnt);try simp only[Act.put,VZ,VY,VX]
    refine zC (fun w':World=>Below w7.heap.size w7 w') hC0 ?_
    iterate 2 go_big_quiet_step (fail)
    refine zv p10 1 ?_;refine zQ (.int .i64 x.n.num) (fun w0 hC=>?_) ?_
    ·have c1:=Z6 (LN10.out w0 hC) 1 (.int .i64 x.n.num) rfl;clear hC;go_simp
    refine zv p10 0 ?_;refine zQ (.int .i64 (k:Int)) (fun w0 hC=>?_) ?_
    ·have c0:w0.cell? ⟨p10,0,none⟩=some (.int .i64 (k:Int)):=by rw[<-HK.out];exact Z6 (LN10.out w0 hC) 0 (.int .i64 x.n.house) rfl
     clear hC;go_simp
    refine zQ (.pointer (some ⟨pc,k,none⟩)) (fun w0 hC=>?_) ?_
    ·have c0:=Z7d (W:=w0) (p:=pc) (k:=k) (by have:=HK8.out;omega);clear hC;go_simp
    refine zQ (.int .i64 (c (k:Int):Int)) (fun w0 hC=>?_) ?_
    ·have c0:=Z6 (LC.out w0 hC) k (.int .i64 (c (k:Int):Int)) (Z99 c k HK8.out);clear hC;go_simp
    refine zQ (.int .i64 ((c (k:Int):Int)+1)) (fun w0 hC=>?_) ?_
    ·have c0:=WR.out;clear hC;go_simp
    refine zV (.bool (decide ((c (k:Int):Int)+1 < x.n.num))) ?_;refine zV (.bool (decide ((c (k:Int):Int)+1 < x.n.num))) ?_;go_big_quiet_step (fail);refine wpQuiet_nil ?_;intro w' hC;have H9:=zH (HT7.out.below hC);have N9:=zH (Z7 hC N7.out);clear hC LN10 LC HT7 N7;generalize w'=w9 at *;cases hgr:decide ((c (k:Int):Int)+1 < x.n.num)
    ·have LT:Hid (¬(c (k:Int):Int)+1 < x.n.num):=zH (of_decide_eq_false hgr);clear hgr;go_upto_region 11 with fail;refine zp N9.out fun hh=>?_;refine zW 0 rfl (.map (some km)) ?_;refine zT 1 rfl (.agg (Z5 x.n x.sa x.sc)) (zY p10 fun W h=>h) ?_;refine zT 3 rfl (.agg (Z5 x.n x.sa x.sc)) (zY p10 fun W h=>h) ?_;refine zR 2 rfl fun K hK=>?_;go_simp;go_at_call 58;refine(Vg x.n x.sa x.sc _).mono ?_;rintro e v2 ⟨rfl,b2⟩;have bv:=((zd w9)).trans b2;have HV:=zH (H9.out.below bv);have NV:=zH (Z7 bv N9.out);clear b2 bv;dsimp only;refine zK hK NV.out fun hh=>?_;clear hK K;refine zR 4 rfl fun K hK=>?_;obtain⟨v3,hrun,hm3,ht3⟩:=QU (t:=106) HV.out.map (by have h1:=HV.out.fl;have h2:=HLEN.out;unfold maxLen;omega) Tryz.underlying106 x.n.house x.n.num NOK.out x;have M3:=zH hm3;have NE1:Hid (pc≠km):=zH (fun e=>by
      obtain⟨es,cl,h9⟩:=HV.out.map.blk;rw[<-e,HV.out.cnt]at h9;cases h9)
     have N3:=zH (Zc ht3.grown NV.out (fun e=>absurd (Option.some.inj e) (by have:=KM10.out;omega)));have C3:=zH (Zc ht3.grown HV.out.cnt (fun e=>absurd (Option.some.inj e) NE1.out));have O3:=zH (HV.out.own.kept ht3.grown (.inr (by
      obtain⟨es,cl,h9⟩:=HV.out.map.blk;exact(Zg HV.out.own h9 (by intro cur;simp)).symm)))
     have B3:=zH (HV.out.bel.grown ht3.grown HV.out.bel.size (fun z hz=>by cases hz;exact HV.out.km_ge));clear hm3 ht3;unfold LN.val at hrun;go_simp;refine zK hK N3.out fun hh=>?_;clear hK K;refine zE ?_;clear hrun;have c0:v3.cell? ⟨p10,0,none⟩=some (.int .i64 (k:Int)):=by rw[<-HK.out];exact Z6 N3.out 0 (.int .i64 x.n.house) rfl
     have c1:=Z7d (W:=v3) (p:=pc) (k:=k) (by have:=HK8.out;omega);have c2:=Z6 C3.out k (.int .i64 (c (k:Int):Int)) (Z99 c k HK8.out);have c3:=Ze C3.out k;have c4:=WR.out;go_upto_region 13 with fail;have G4:=Zj v3 pc k (.int .i64 ((c (k:Int):Int)+1));have C4:=zH (ZW C3.out k (.int .i64 ((c (k:Int):Int)+1)));rw[Zbv c k HK8.out]at C4;have N4:=zH (Zc G4 N3.out (fun e=>absurd (Option.some.inj e) (by have:=KM10.out;omega)));have M4:=zH (M3.out.kept G4 (fun e=>absurd (Option.some.inj e).symm NE1.out));have O4:=zH (O3.out.kept G4 (.inr (Zg O3.out C3.out (by intro cur;simp)).symm));have B4:=zH (B3.out.grown G4 B3.out.size (fun z hz=>by cases hz;exact HV.out.pc_ge));clear c0 c1 c2 c3 c4 G4;generalize v3.setCell ⟨pc,k,none⟩ (.int .i64 ((c (k:Int):Int)+1))=v4 at *;have bn:Below v4.heap.size v4 (v4.alloc (.cells (Z5 x.n x.sa x.sc) 47)):=zB _ _;have O5:=zH (Zb O4.out bn);obtain⟨a',c',v9,hrun,ho9,hg9⟩:=Yw (v4.alloc (.cells (Z5 x.n x.sa x.sc) 47)) w2.heap.size fa fr.length fc _ O5.out _ 1 1 _ (XX v4 x.n x.sa x.sc) (x.n.cells_one _ _) (by have h1:=HV.out.fl;have h2:=HLEN.out;omega) (Nat.le_trans B4.out.size bn.size);have M9:YY LN.val v9 km (S.l.length+fr.length+1) (XE GK (Zk x.n) x):=(M4.out.below bn).kept hg9 (by
      obtain⟨es,cl,h9⟩:=(M4.out.below bn).blk;exact(Zg O5.out h9 (by intro cur;simp)))
     have C9:v9.heap[pc]? = some (.cells (Z2H (Z09 c x.n.house)) 107):=by
      have h9:=Zc hg9 (Z7 bn C4.out) (Zg O5.out (Z7 bn C4.out) (by intro cur;simp));rwa [<-HK.out]at h9
     have B9:=(B4.out.trans (bn.mono B4.out.size)).grown hg9 (Nat.le_trans B4.out.size bn.size) (fun z hz=>(O5.out.lt z hz).1);have HN:=zH (HV.out.add HLX.out XM.out KB.out (by rw[HK.out];exact LT.out) XP.out (fun W' hb=>LOK2.out W' hb x XM.out) B9 M9 C9 ho9);clear bn ho9 hg9 M9 C9 B9 O5 M4 C4 O4 B4 HV NV M3 C3 O3 B3;have FLE:Hid ((fr ++ [x.n]).length=fr.length+1):=zH (by rw[List.length_append];rfl);have hk64:=HK64.out;go_wp2_with (first
      |(refine zL p10 N4.out ?_)
      |(refine YT rfl _ rfl x.n x.sa x.sc rfl ?_)
      |(refine Zu rfl _ _ _ rfl _ _ _ rfl rfl hrun ?_)
      | fail)
     go_roundw
     case rel=>exact⟨q+1,XE GK (Zk x.n) x,fr ++ [x.n],Z09 c x.n.house,a',c',ys ++ [x],by rw[FLE.out] <;> rfl,by go_num,by omega,HN⟩
     case measure=>simp[intOf];omega
    ·have HN:=zH (H9.out.skip HLX.out (.inr ⟨KB.out,by rw[HK.out];exact of_decide_eq_true hgr⟩));clear hgr H9;have hk64:=HK64.out;go_wp2;go_roundw
     case rel=>exact⟨q+1,GK,fr,c,fa,fc,ys,by go_num,by go_num,by omega,HN⟩
     case measure=>simp[intOf];omega
  ·have t0:decide ((q:Int) < (nn:Int))=false:=by simp;omega
   have HG:Hid (Ym S.l [] S.c l=some (fr,c)):=zH (by
    rw[HS.out.go,List.drop_of_length_le (by rw[HLN.out];omega)];rfl)
   have HE:=zH (US GOOD.out HG.out);have SQ:Hid (Z1y S.c fr /\ ∀y∈fr,y∈l):=zH (by
    obtain⟨t,h1,h2,h3⟩:=UR l [] S.c (by rw[List.append_nil];exact HI.out.nms) (fun n hn=>(Yh (FRM.out n hn)).2.2) HG.out;rw[List.nil_append]at h1;subst h1;exact⟨h2,h3⟩)
   have FL:Hid (S.l.length+fr.length<=400):=zH (by have:=HS.out.fl;have:=HLEN.out;omega);have YL:Hid (ys.length=fr.length):=zH (by rw[<-HS.out.eq,List.length_map]);have MP:=zH HS.out.map;have RY:=zH (ZX.of_own HS.out.own);have RG:=zH HS.out.own;have BW:=zH HS.out.bel;have YE:=zH HS.out.eq;have YM:=zH HS.out.mem;have PW:=zH (show wr.heap[pB]? = some (.cells #[.pointer (some ⟨p,0,none⟩)] 27)from Z7 HS.out.bel P2.out);have CA:Hid (∀W,Za (XJ p mb G SF) wr W -> ∀y∈xs,y.ok W):=zH (fun W hS y hy=>QP (HR.out W ((Za.of_below (B2.out.trans (HS.out.bel.mono B2.out.size))).trans hS)) hy);have H5:=zH (HH.out.below (B2.out.trans (HS.out.bel.mono B2.out.size)));have BT:=zH (B2.out.trans (HS.out.bel.mono B2.out.size));clear HS t0;go_upto_region 18 with fail;go_wp2_with (first
    |(at_len;refine Uz rfl _ 106 47 rfl Tryz.underlying106 km (S.l.length+fr.length) rfl MP.out ?_;intro kk hkk;have tkk:decide ((400:Int) < (kk:Int))=false:=(by have:=FL.out;simp;omega))
    | fail)
   clear tkk hkk;obtain⟨fn,hfn⟩:=zX (fr.length);rw[hfn.out]at RY RG YL FL ⊢;have F63:Hid ((fn:Int)<=9223372036854775807):=zH (by have:=FL.out;omega);generalize wr=V at *;go_loopw [83] (fun iv wr=>∃(j:Nat) (G':Nm->Option LN) (SF':Nat->Prop),iv = .int .i64 (j:Int)/\j<=fn/\Hid (Xl wr p mb sp G' SF' (S.adds (fr.take j))/\Za (XJ p mb G SF) V wr /\ ∀k,XJ p mb G' SF' k->XJ p mb G SF k\/V.heap.size<=k)) (fun iv _=>fn - (intOf iv).toNat)
   case atStart=>exact⟨0,G,SF,rfl,Nat.zero_le _,zH ⟨H5.out,Za.of_below (Below.refl _ _),fun k hk=>.inl hk⟩⟩
   case round=>
    obtain⟨j,G',SF',rfl,hj,HJ⟩:=hrel;by_cases hjn:j < fn
    ·have t0:decide ((j:Int) < (fn:Int))=true:=by simp;omega
     obtain⟨y,Hy⟩ : ∃y,ys[j]? = some y:=⟨_,List.getElem?_eq_getElem (by rw[YL.out];exact hjn)⟩;have FY:=zH (show fr[j]? = some y.n by rw[<-YE.out,List.getElem?_map,Hy];rfl);have YX:=zH (YM.out y (List.mem_of_getElem? Hy));have RJ:=zH (ZX.of_own (Zi RG.out HJ.out.2.1 (fun b hb hF=>absurd (HH.out.lt b hF) (by have h1:=(RG.out.lt b hb).1;have h2:=B2.out.size;omega))));obtain⟨b,off,rfl,hat⟩:=Z77 RJ.out (by omega);obtain⟨o,ho⟩:=zX (off+j * 19);have HY:=zH (hat j y Hy);rw[ho.out]at HY;have hix:=fun W=>ZN (W:=W) (c:=fc) (b:=b) Tryz.underlying24 J19 hjn ho.out;have HK64:Hid ((j:Int)+1<=9223372036854775807):=zH (by have:=F63.out;omega);have PJ:=zH ((HJ.out.2.1.block pB (Zq PW.out) (fun hF=>absurd (HH.out.lt pB hF) (by have:=hpB.out;omega))).trans PW.out);clear hat Hy;go_upto_region 23 with (first
      |(refine wpList_load_mid rfl 47 _ rfl b o rfl (y.n.cells y.sa y.sc) _ HY.out Tryz.underlying47 rfl (Qh y.n y.sa y.sc) ?_)
      |(refine zP wr wr.heap.size (Z5 y.n y.sa y.sc) ?_))
     clear t0 hix;have bt:Below wr.heap.size wr (wr.alloc (.cells (Z5 y.n y.sa y.sc) 47)):=zB _ _;have N14:=zH (Z9 wr (.cells (Z5 y.n y.sa y.sc) 47));have HT:=zH (HJ.out.1.below bt);have ST:=zH (HJ.out.2.1.trans (Za.of_below bt));have FT:=zH HJ.out.2.2;have PT:=zH (Z7 bt PJ.out);obtain⟨p14,hp14⟩:=zX (wr.heap.size);rw[hp14.out]at N14;rw[hp14.out];generalize wr.alloc (.cells (Z5 y.n y.sa y.sc) 47)=wt at *;clear bt HJ PJ HY RJ;have cB:=Z6 PT.out 0 (.pointer (some ⟨p,0,none⟩)) rfl;go_wp2_with (first
      |(refine zL p14 N14.out ?_))
     clear cB;have FT2:=zH (show ∀k,XJ p mb G' SF' k->XJ p mb G SF k\/V.heap.size<=k from FT.out);have FSUB:Hid (∀x∈fr.take j,Zf S.f x=true/\x.Ok):=zH (fun x hx=>by have h1:=SQ.out.2 x (List.mem_of_mem_take hx);exact⟨FRM.out x h1,HOK.out x h1⟩);have HIJ:=zH (Z22 (fr.take j) S HI.out (Z1b fr S.c j SQ.out.1) FSUB.out);have YF:=zH (show Zf (S.adds (fr.take j)).f y.n=true by rw[Z6m];exact FRM.out y.n (SQ.out.2 y.n (List.mem_of_getElem? FY.out)));have YO:=zH (HOK.out y.n (SQ.out.2 y.n (List.mem_of_getElem? FY.out)));refine(Z4t p mb sp G' SF' (S.adds (fr.take j)) y.n y.sa y.sc wt HT.out HIJ.out (fun W hS=>CA.out W (Yq ST.out hS FT2.out) y YX.out) YF.out YO.out (Z6D fr S j y.n SQ.out.1 FY.out) (by rw[Z21,List.length_take];have:=FL.out;omega)).mono ?_;rintro e w8 ⟨rfl,ta,tc,SF2,hh8,hs8,hf8⟩;have HN:=zH (show Xl w8 p mb sp (XE G' (Zk y.n) ⟨y.n,ta,tc⟩) SF2 (S.adds (fr.take (j+1)))/\Za (XJ p mb G SF) V w8 /\ ∀k,XJ p mb (XE G' (Zk y.n) ⟨y.n,ta,tc⟩) SF2 k->XJ p mb G SF k\/V.heap.size<=k from⟨by rw[Y8 FY.out,Z5B];exact hh8,Yq ST.out hs8 FT2.out,fun k hk=>by
      rcases hf8 k hk with h1 | h1
      ·exact FT2.out k h1
      ·exact .inr (Nat.le_trans ST.out.size h1)⟩)
     clear hh8 hs8 hf8 HT ST FT FT2 PT N14;have hk64:=HK64.out;go_wp2;go_roundw
     case rel=>exact⟨j+1,XE G' (Zk y.n) ⟨y.n,ta,tc⟩,SF2,by go_num,by omega,HN⟩
     case measure=>simp[intOf];omega
    ·have t0:decide ((j:Int) < (fn:Int))=false:=by simp;omega
     have HF:=zH (show Xl wr p mb sp G' SF' (S.adds fr)by have h1:=HJ.out.1;rwa [List.take_of_length_le (by have:=hfn.out;omega)]at h1);go_wp2_with fail;go_returns;exact⟨by rw[HE.out,hfn.out] <;> rfl,by rw[HE.out];exact⟨G',SF',HF.out,(Za.of_below BT.out).trans HJ.out.2.1,fun k hk=>(HJ.out.2.2 k hk).imp id (fun h=>Nat.le_trans BT.out.size h)⟩⟩
end
def Z2K (lo hi:Nat)(W:World)(a:zA)(n c:Nat)(zs:List LN):Prop:=hi<=W.heap.size /\ ∀W2,Za (fun k=>k < lo\/hi<=k) W W2->Jb W2 a n c zs
theorem Z2K.rd {lo hi:Nat}{W:World}{a:zA}{n c:Nat}{zs:List LN}(h:Z2K lo hi W a n c zs):Jb W a n c zs:=h.2 W (Za.refl _ _)
theorem Z2K.step {X:Nat->Prop}{lo hi:Nat}{W W':World}{a:zA}{n c:Nat}{zs:List LN}(h:Z2K lo hi W a n c zs)(hs:Za X W W')(hx : ∀k,X k->k < lo\/hi<=k):Z2K lo hi W' a n c zs:=
 ⟨Nat.le_trans h.1 hs.size,fun W2 h2=>h.2 W2 ((hs.weaken hx).trans h2)⟩
theorem Z2K.below {lo hi:Nat}{W W':World}{a:zA}{n c:Nat}{zs:List LN}(h:Z2K lo hi W a n c zs)(hb:Below W.heap.size W W'):Z2K lo hi W' a n c zs:=h.step (X:=fun _=>False) (Za.of_below hb) (fun _ h=>h.elim)
theorem Z0B {W:World}{a:zA}{n c:Nat}{xs:List LN}(h:ZX W 19 a n c (Zw xs))(hs : ∀x∈xs,x.ok W):Jb W a n c xs:=by
 have hl:xs.length=n:=by have:=h.len;rw[Um]at this;omega
 refine⟨hl,h.2.1,h.2.2.1,?_⟩;rcases h.2.2.2 with h0 | ⟨b,off,rfl,h4⟩
 ·exact .inl h0
 ·refine .inr ⟨b,off,rfl,fun i x hx=>?_⟩;have hi:=(List.getElem?_eq_some_iff.1 hx).1;obtain⟨b',off',e,hat⟩:=Z77 h (by omega);cases e;exact⟨hat i x hx,hs x (List.mem_of_getElem? hx)⟩
theorem Vr.kept {V W:World}{a:zA}{c n:Nat}{ys:List LN}(h:Vr V W a c n ys):Z2K V.heap.size W.heap.size W a n c ys:=
 ⟨Nat.le_refl _,fun W2 hs=>Z0B (ZX.of_own (Zi h.own hs (fun b hb hx=>by have:=h.own.lt b hb;omega)))
  (fun y hy=>ZX.of_own (Zi (h.str y hy) hs (fun b hb hx=>by have:=(h.str y hy).lt b hb;omega)))⟩
def Vl (w:World)(v:Value)(l:zU):Prop := ∃a c,v = .slice a l.length c/\w.ownsRow 0 5 1 (.slice a l.length c) l.length (l.map Zt)
theorem Vl.nil (w:World):Vl w (.slice none 0 0) []:=⟨none,0,rfl,World.ownsRow_nil _ _ _ _⟩
theorem Vl.same {w w':World}{v:Value}{l:zU}{S:Nat->Prop}(h:Vl w v l)(hs:Za S w w')(hd : ∀k,v.ownBlock=some k -> ¬S k):Vl w' v l:=by
 obtain⟨a,c,rfl,h⟩:=h;exact⟨a,c,rfl,Zi h hs hd⟩
theorem Vl.of_own {w:World}{base:Nat}{a:zA}{n c:Nat}{l:zU}(h:w.ownsRow base 5 1 (.slice a n c) n (l.map Zt)):Vl w (.slice a n c) l:=by
 have hl:l.length=n:=by simpa using h.1
 exact⟨a,c,by rw[hl],by rw[hl];exact Zp h (Nat.zero_le _)⟩
theorem Vl.lt {w:World}{v:Value}{l:zU}(h:Vl w v l): ∀k,v.ownBlock=some k->k < w.heap.size:=by
 obtain⟨a,c,rfl,h⟩:=h;exact fun k hk=>(h.lt k hk).2
theorem Vl.rd {w:World}{v:Value}{l:zU}(h:Vl w v l): ∃a c,v = .slice a l.length c/\Yb w a l.length c l:=by
 obtain⟨a,c,rfl,h⟩:=h;exact⟨a,c,rfl,Yb.of_own h⟩
theorem Vl.ne {w:World}{v:Value}{l:zU}(h:Vl w v l){p:Nat}{cur:Xz}{e':TypeId}{fr:Nat×Nat}(hp:w.heap[p]? = some (.cells cur e' fr))(hne:5≠e'):v.ownBlock≠some p:=by
 obtain⟨a,c,rfl,h⟩:=h;exact J9 h hp hne
structure ZdU (w:World)(p:Nat)(G:Nat->Prop)(v0 v1 v2 v3:Value)(SD SP FD FP:zU):Prop where
 blk:w.heap[p]? = some (.cells #[v0,v1,v2,v3] 136)
 s0:Vl w v0 SD
 s1:Vl w v1 SP
 s2:Vl w v2 FD
 s3:Vl w v3 FP
 g : ∀k,G k↔(k=p\/v0.ownBlock=some k\/v1.ownBlock=some k\/v2.ownBlock=some k\/v3.ownBlock=some k)
theorem Yd (w:World)(p o:Nat)(v:Value):Za (fun k=>k=p) w (w.setCell ⟨p,o,none⟩ v):=
 Za.of_grown (row:=some p) ⟨rfl,rfl,rfl,by simp[World.setCell],fun k _ hk=>Below.heap_setCell w ⟨p,o,none⟩ _ k (fun e=>hk (by rw[e]))⟩ (fun k e=>by cases e;rfl)
def foot (p:Nat)(v0 v1 v2 v3:Value)(k:Nat):Prop:=k=p\/v0.ownBlock=some k\/v1.ownBlock=some k\/v2.ownBlock=some k\/v3.ownBlock=some k
section
variable {w:World}{p:Nat}{G:Nat->Prop}{v0 v1 v2 v3:Value}{SD SP FD FP:zU}(h:ZdU w p G v0 v1 v2 v3 SD SP FD FP){v:Value}{l:zU}(hv:Vl w v l)
include h hv
end
theorem Vl.keep {w:World}{p o:Nat}{v x:Value}{l:zU}(hv:Vl w v l){cur:Xz}{e':TypeId}{fr:Nat×Nat}(hp:w.heap[p]? = some (.cells cur e' fr))(hne:5≠e'):Vl (w.setCell ⟨p,o,none⟩ x) v l:=
 hv.same (Yd w p o x) (fun k hk e=>hv.ne hp hne (by rw[hk,e]))
section
variable {w:World}{p:Nat}{G:Nat->Prop}{v0 v1 v2 v3:Value}{SD SP FD FP:zU}(h:ZdU w p G v0 v1 v2 v3 SD SP FD FP){u u':Value}{l l':zU}(hu:Vl w u l)(hu':Vl w u' l')
include h hu hu'
end
theorem J3 (w:World)(p o o':Nat)(v v':Value):Za (fun k=>k=p) w ((w.setCell ⟨p,o,none⟩ v).setCell ⟨p,o',none⟩ v'):=(Yd w p o v).trans (Yd _ p o' v')
theorem J4 (k:Nat):Value.ownBlock (.slice none 0 0)≠some k:=by simp[Value.ownBlock]
theorem Yb.keep {w:World}{a:zA}{n c:Nat}{l:zU}(h:Yb w a n c l){p:Nat}{cur:Xz}{e':TypeId}{fr:Nat×Nat}(hp:w.heap[p]? = some (.cells cur e' fr))(hno : ∀(i:Nat) (b:UInt8),cur[i]? ≠ some (Zt b))(o:Nat)(v:Value):
  Yb (w.setCell ⟨p,o,none⟩ v) a n c l:=by
 refine⟨h.1,h.2.1,h.2.2.1,?_⟩;rcases h.2.2.2 with h4 | ⟨b,off,rfl,h4⟩
 ·exact .inl h4
 ·refine .inr ⟨b,off,rfl,fun i x hx=>?_⟩;have h5:=h4 i x hx;by_cases hb:b=p
  ·subst hb;exfalso;have e1:cur[off+i]? = some x:=by simpa [World.cell?,hp] using h5
   rw[List.getElem?_map]at hx;cases hl:l[i]? with
   | none=>rw[hl]at hx;cases hx
   | some y=>rw[hl]at hx;cases hx;exact hno _ _ e1
  ·exact(World.cell?_of_block (a:=⟨b,off+i,none⟩) ((Yd w p o v).block b (World.block_lt_of_cell? w _ h5) hb)).trans h5
theorem Vl.noByte {w:World}{v:Value}{l:zU}(h:Vl w v l)(b:UInt8):v≠Zt b:=by
 obtain⟨a,c,rfl,_⟩:=h;intro e;cases e
theorem Z9w {w:World}{base:Nat}{sa:zA}{n c:Nat}{l:zU}(h:w.ownsRow base 5 1 (.slice sa n c) n (l.map Zt))(i:Nat)(hi:i < n)(x:UInt8):
  ∃g,sa=some ⟨g,0,none⟩/\base<=g/\w.cell? ⟨g,i,none⟩=some (.int .u8 ((l[i]?.getD 0).toNat:Int))/\w.frozen? ⟨g,i,none⟩=false /\
   (w.setCell ⟨g,i,none⟩ (.int .u8 (x.toNat:Int))).ownsRow base 5 1 (.slice sa n c) n ((l.set i x).map Zt)/\w.grownBy (w.setCell ⟨g,i,none⟩ (.int .u8 (x.toNat:Int))) (Value.ownBlock (.slice sa n c)):=by
 obtain⟨b,off,hb,hcells⟩:=(Yb.of_own h).at (by omega);have hoff:off=0:=by
  rcases h.2 with ⟨h,_⟩ | ⟨g,cap,cur,h,_⟩
  ·rw[hb]at h;simp at h
  ·rw[hb]at h;simp at h;exact h.1.2
 subst hb;subst hoff;have hc:=hcells i hi;rw[Nat.zero_add]at hc;obtain⟨hst,hgr⟩:=h.stored i (.int .u8 (x.toNat:Int));have hset:(l.map Zt).set i (.int .u8 (x.toNat:Int))=(l.set i x).map Zt:=by rw[List.map_set];rfl
 rw[hset]at hst;exact⟨b,rfl,(h.lt b rfl).1,hc,h.frozenAt i,hst,hgr⟩
structure XG (w:World)(p:Nat)(i0 i1 i2 i3 i4 i5:Value)(G:Nat->Prop)(v0 v1 v2 v3:Value)(SD SP FD FP:zU):Prop where
 blk:w.heap[p]? = some (.cells #[i0,i1,i2,i3,i4,i5,v0,v1,v2,v3] 138)
 nb : ∀b:UInt8,i0≠Zt b/\i1≠Zt b/\i2≠Zt b/\i3≠Zt b/\i4≠Zt b/\i5≠Zt b
 s0:Vl w v0 SD
 s1:Vl w v1 SP
 s2:Vl w v2 FD
 s3:Vl w v3 FP
 g : ∀k,G k↔(k=p\/v0.ownBlock=some k\/v1.ownBlock=some k\/v2.ownBlock=some k\/v3.ownBlock=some k)
theorem XG.lt {w:World}{p:Nat}{i0 i1 i2 i3 i4 i5:Value}{G:Nat->Prop}{v0 v1 v2 v3:Value}{SD SP FD FP:zU}(h:XG w p i0 i1 i2 i3 i4 i5 G v0 v1 v2 v3 SD SP FD FP): ∀k,G k->k < w.heap.size:=by
 intro k hk;rcases(h.g k).1 hk with rfl | h1 | h1 | h1 | h1
 ·exact(Array.getElem?_eq_some_iff.1 h.blk).1
 ·exact h.s0.lt k h1
 ·exact h.s1.lt k h1
 ·exact h.s2.lt k h1
 ·exact h.s3.lt k h1
theorem XG.plt {w:World}{p:Nat}{i0 i1 i2 i3 i4 i5:Value}{G:Nat->Prop}{v0 v1 v2 v3:Value}{SD SP FD FP:zU}(h:XG w p i0 i1 i2 i3 i4 i5 G v0 v1 v2 v3 SD SP FD FP):p < w.heap.size:=(Array.getElem?_eq_some_iff.1 h.blk).1
theorem XG.self {w:World}{p:Nat}{i0 i1 i2 i3 i4 i5:Value}{G:Nat->Prop}{v0 v1 v2 v3:Value}{SD SP FD FP:zU}(h:XG w p i0 i1 i2 i3 i4 i5 G v0 v1 v2 v3 SD SP FD FP):G p:=(h.g p).2 (.inl rfl)
theorem XG.same {w w':World}{p:Nat}{i0 i1 i2 i3 i4 i5:Value}{G S:Nat->Prop}{v0 v1 v2 v3:Value}{SD SP FD FP:zU}(h:XG w p i0 i1 i2 i3 i4 i5 G v0 v1 v2 v3 SD SP FD FP)(hs:Za S w w')(hd : ∀k,S k -> ¬G k):XG w' p i0 i1 i2 i3 i4 i5 G v0 v1 v2 v3 SD SP FD FP:=by
 refine⟨(hs.block p h.plt (fun hS=>hd p hS h.self)).trans h.blk,h.nb,h.s0.same hs ?_,h.s1.same hs ?_,h.s2.same hs ?_,h.s3.same hs ?_,h.g⟩
 ·exact fun k hk hS=>hd k hS ((h.g k).2 (.inr (.inl hk)))
 ·exact fun k hk hS=>hd k hS ((h.g k).2 (.inr (.inr (.inl hk))))
 ·exact fun k hk hS=>hd k hS ((h.g k).2 (.inr (.inr (.inr (.inl hk)))))
 ·exact fun k hk hS=>hd k hS ((h.g k).2 (.inr (.inr (.inr (.inr hk)))))
theorem XG.below {w w':World}{p:Nat}{i0 i1 i2 i3 i4 i5:Value}{G:Nat->Prop}{v0 v1 v2 v3:Value}{SD SP FD FP:zU}(h:XG w p i0 i1 i2 i3 i4 i5 G v0 v1 v2 v3 SD SP FD FP)(hb:Below w.heap.size w w'):XG w' p i0 i1 i2 i3 i4 i5 G v0 v1 v2 v3 SD SP FD FP:=
 h.same (S:=fun _=>False) (Za.of_below hb) (fun _ e=>e.elim)
theorem XG.cells {w:World}{p:Nat}{i0 i1 i2 i3 i4 i5:Value}{G:Nat->Prop}{v0 v1 v2 v3:Value}{SD SP FD FP:zU}(h:XG w p i0 i1 i2 i3 i4 i5 G v0 v1 v2 v3 SD SP FD FP):
  w.cell? ⟨p,6,none⟩=some v0/\w.cell? ⟨p,7,none⟩=some v1/\w.cell? ⟨p,8,none⟩=some v2/\w.cell? ⟨p,9,none⟩=some v3 /\
  w.frozen? ⟨p,6,none⟩=false/\w.frozen? ⟨p,7,none⟩=false/\w.frozen? ⟨p,8,none⟩=false/\w.frozen? ⟨p,9,none⟩=false:=by
 have h1:=h.blk;refine⟨?_,?_,?_,?_,?_,?_,?_,?_⟩ <;> simp[World.cell?,World.frozen?,h1]
section
variable {w:World}{p:Nat}{i0 i1 i2 i3 i4 i5:Value}{G:Nat->Prop}{v0 v1 v2 v3:Value}{SD SP FD FP:zU}(h:XG w p i0 i1 i2 i3 i4 i5 G v0 v1 v2 v3 SD SP FD FP){v:Value}{l:zU}(hv:Vl w v l)
include h hv
theorem XG.set0:XG (w.setCell ⟨p,6,none⟩ v) p i0 i1 i2 i3 i4 i5 (foot p v v1 v2 v3) v v1 v2 v3 l SP FD FP:=by
 refine⟨?_,h.nb,hv.same (Yd w p 6 v) ?_,h.s1.same (Yd w p 6 v) ?_,h.s2.same (Yd w p 6 v) ?_,h.s3.same (Yd w p 6 v) ?_,fun k=>Iff.rfl⟩
 ·rw[heap_setCell_same w p 6 _ 138 v h.blk];rfl
 all_goals rintro k hk rfl
 ·exact hv.ne h.blk (by decide) hk
 ·exact h.s1.ne h.blk (by decide) hk
 ·exact h.s2.ne h.blk (by decide) hk
 ·exact h.s3.ne h.blk (by decide) hk
theorem XG.set1:XG (w.setCell ⟨p,7,none⟩ v) p i0 i1 i2 i3 i4 i5 (foot p v0 v v2 v3) v0 v v2 v3 SD l FD FP:=by
 refine⟨?_,h.nb,h.s0.same (Yd w p 7 v) ?_,hv.same (Yd w p 7 v) ?_,h.s2.same (Yd w p 7 v) ?_,h.s3.same (Yd w p 7 v) ?_,fun k=>Iff.rfl⟩
 ·rw[heap_setCell_same w p 7 _ 138 v h.blk];rfl
 all_goals rintro k hk rfl
 ·exact h.s0.ne h.blk (by decide) hk
 ·exact hv.ne h.blk (by decide) hk
 ·exact h.s2.ne h.blk (by decide) hk
 ·exact h.s3.ne h.blk (by decide) hk
theorem XG.set2:XG (w.setCell ⟨p,8,none⟩ v) p i0 i1 i2 i3 i4 i5 (foot p v0 v1 v v3) v0 v1 v v3 SD SP l FP:=by
 refine⟨?_,h.nb,h.s0.same (Yd w p 8 v) ?_,h.s1.same (Yd w p 8 v) ?_,hv.same (Yd w p 8 v) ?_,h.s3.same (Yd w p 8 v) ?_,fun k=>Iff.rfl⟩
 ·rw[heap_setCell_same w p 8 _ 138 v h.blk];rfl
 all_goals rintro k hk rfl
 ·exact h.s0.ne h.blk (by decide) hk
 ·exact h.s1.ne h.blk (by decide) hk
 ·exact hv.ne h.blk (by decide) hk
 ·exact h.s3.ne h.blk (by decide) hk
theorem XG.set3:XG (w.setCell ⟨p,9,none⟩ v) p i0 i1 i2 i3 i4 i5 (foot p v0 v1 v2 v) v0 v1 v2 v SD SP FD l:=by
 refine⟨?_,h.nb,h.s0.same (Yd w p 9 v) ?_,h.s1.same (Yd w p 9 v) ?_,h.s2.same (Yd w p 9 v) ?_,hv.same (Yd w p 9 v) ?_,fun k=>Iff.rfl⟩
 ·rw[heap_setCell_same w p 9 _ 138 v h.blk];rfl
 all_goals rintro k hk rfl
 ·exact h.s0.ne h.blk (by decide) hk
 ·exact h.s1.ne h.blk (by decide) hk
 ·exact h.s2.ne h.blk (by decide) hk
 ·exact hv.ne h.blk (by decide) hk
end
section
variable {w:World}{p:Nat}{i0 i1 i2 i3 i4 i5:Value}{G:Nat->Prop}{v0 v1 v2 v3:Value}{SD SP FD FP:zU}(h:XG w p i0 i1 i2 i3 i4 i5 G v0 v1 v2 v3 SD SP FD FP){u u':Value}{l l':zU}(hu:Vl w u l)(hu':Vl w u' l')
include h hu hu'
theorem XG.set01:XG ((w.setCell ⟨p,6,none⟩ u).setCell ⟨p,7,none⟩ u') p i0 i1 i2 i3 i4 i5 (foot p u u' v2 v3) u u' v2 v3 l l' FD FP:=(h.set0 hu).set1 (hu'.keep h.blk (by decide))
theorem XG.set23:XG ((w.setCell ⟨p,8,none⟩ u).setCell ⟨p,9,none⟩ u') p i0 i1 i2 i3 i4 i5 (foot p v0 v1 u u') v0 v1 u u' SD SP l l':=(h.set2 hu).set3 (hu'.keep h.blk (by decide))
end
theorem XG.rd {w:World}{p:Nat}{i0 i1 i2 i3 i4 i5:Value}{G:Nat->Prop}{v0 v1 v2 v3:Value}{SD SP FD FP:zU}(h:XG w p i0 i1 i2 i3 i4 i5 G v0 v1 v2 v3 SD SP FD FP){a:zA}{n c:Nat}{l:zU}(hr:Yb w a n c l)(o:Nat)(v:Value):
  Yb (w.setCell ⟨p,o,none⟩ v) a n c l:=by
 refine hr.keep h.blk (fun i b=>?_) o v;have hn:=h.nb b
 match i with
 | 0=>intro e;exact hn.1 (by simpa using e)
 | 1=>intro e;exact hn.2.1 (by simpa using e)
 | 2=>intro e;exact hn.2.2.1 (by simpa using e)
 | 3=>intro e;exact hn.2.2.2.1 (by simpa using e)
 | 4=>intro e;exact hn.2.2.2.2.1 (by simpa using e)
 | 5=>intro e;exact hn.2.2.2.2.2 (by simpa using e)
 | 6=>intro e;exact h.s0.noByte b (by simpa using e)
 | 7=>intro e;exact h.s1.noByte b (by simpa using e)
 | 8=>intro e;exact h.s2.noByte b (by simpa using e)
 | 9=>intro e;exact h.s3.noByte b (by simpa using e)
 | i+10=>simp
theorem Z93: ∀(zs:List LN) (q:Nat),(Zw zs).take (q * 19)=Zw (zs.take q)
 | [],q=>by simp[Zw]
 | x :: zs,0=>by simp[Zw]
 | x :: zs,q+1=>by
  have h1:Zw (x :: zs)=x.n.cells x.sa x.sc ++ Zw zs:=by simp[Zw]
  have h2:Zw (x :: zs.take q)=x.n.cells x.sa x.sc ++ Zw (zs.take q):=by simp[Zw]
  have h3:(x.n.cells x.sa x.sc).length=19:=rfl
  rw[List.take_succ_cons,h1,h2,<-Z93 zs q,List.take_append,h3,show(q+1) * 19 - 19=q * 19 by omega,List.take_of_length_le (by rw[h3];omega)]
theorem Z94: ∀(zs:List LN) (q:Nat),(Zw zs).drop (q * 19)=Zw (zs.drop q)
 | [],q=>by simp[Zw]
 | x :: zs,0=>by simp[Zw]
 | x :: zs,q+1=>by
  have h1:Zw (x :: zs)=x.n.cells x.sa x.sc ++ Zw zs:=by simp[Zw]
  have h3:(x.n.cells x.sa x.sc).length=19:=rfl
  rw[List.drop_succ_cons,h1,<-Z94 zs q,List.drop_append,h3,show(q+1) * 19 - 19=q * 19 by omega,List.drop_of_length_le (by rw[h3];omega),List.nil_append]
theorem Z0j (xs ys:List LN):Zw (xs ++ ys)=Zw xs ++ Zw ys:=by simp[Zw]
theorem Z1V {w:World}{xa:zA}{n c:Nat}{zs:List LN}(hrd:ZX w 19 xa n c (Zw zs))(L H:Nat)(lo hi:Option Value)
  (hl:(lo=none/\L=0) \/ ∃kd,lo=some (.int kd (L:Int))) (hh:(hi=none/\H=n) \/ ∃kd,hi=some (.int kd (H:Int))) (h1:L<=H) (h2:H<=n):
  ∃a',(∀W,(Instr.sliceAt 24 (.slice xa n c) lo hi none).run zq W = .ok (.slice a' (H - L) (c - L)) W)/\ZX w 19 a' (H - L) (c - L) (Zw ((zs.drop L).take (H - L))):=by
 obtain⟨i,hi',_,hz1,_⟩:=info_parts Z4m;obtain⟨a',hs,hr⟩:=ZX.sliced hrd L H h1 h2;have hnc:=hrd.2.1;refine⟨a',fun W=>?_,by rw[Z94,Z93]at hr;exact hr⟩;rw[<-hs];have hel:zq.elem 24=47:=by simp[Program.elem,Tryz.underlying24]
 rw[run_sliceAt_slice (P:=zq) W 24 _ _ _ _ (by rw[hel];exact Tryz.underlying24),run_slice_any (P:=zq) W 24 xa n c (by rw[hel];exact Tryz.underlying24)];have hb:(Instr.sliceBounds true n c lo hi none).run zq W = .ok (L,H,c) W:=by
  rcases hl with ⟨rfl,rfl⟩ | ⟨kd,rfl⟩
  ·rcases hh with ⟨rfl,rfl⟩ | ⟨kd',rfl⟩
   ·simp[Instr.sliceBounds]
   ·simp[Instr.sliceBounds,run_sliceBound,Result.andThen,(by omega:H<=c)]
  ·rcases hh with ⟨rfl,rfl⟩ | ⟨kd',rfl⟩
   ·simp[Instr.sliceBounds,run_sliceBound,Result.andThen,h1]
   ·simp[Instr.sliceBounds,run_sliceBound,Result.andThen,(by omega:H<=c),h1]
 rw[hb,hel];simp[Result.andThen,sizeOf,typeInfo,hi',hz1]
def QG:List LN->LN->List LN
 | [],x=>[x]
 | y :: zs,x=>if Jx (Zk y.n) (Zk x.n)=true then y :: QG zs x else x :: y :: zs
theorem Z64 {x:LN}: ∀{zs:List LN} {k:Nat},(∀j y,j < k->zs[j]? = some y->Jx (Zk y.n) (Zk x.n)=true)->(zs.length<=k \/ ∃y,zs[k]? = some y/\Jx (Zk y.n) (Zk x.n)=false)->QG zs x=zs.take k ++ x :: zs.drop k
 | [],k,_,_=>by simp[QG]
 | y :: zs,0,_,h=>by
  rcases h with h | ⟨z,hz,h⟩
  ·simp at h
  ·simp only[List.getElem?_cons_zero,Option.some.injEq]at hz
   subst hz
   rw[QG,if_neg (by rw[h];simp)]
   rfl
 | y :: zs,k+1,h1,h2=>by
  have hy:=h1 0 y (Nat.succ_pos k) rfl
  have ih:=Z64 (x:=x) (zs:=zs) (k:=k) (fun j z hj hz=>h1 (j+1) z (by omega) (by simpa using hz)) (by
   rcases h2 with h2 | ⟨z,hz,h2⟩
   ·exact .inl (by simpa using h2)
   ·exact .inr ⟨z,by simpa using hz,h2⟩)
  rw[QG,if_pos hy,ih]
  rfl
theorem Z1L: ∀(zs:List LN) (x:LN),(QG zs x).map LN.n=YI (zs.map LN.n) x.n
 | [],x=>rfl
 | y :: zs,x=>by
  have ih:=Z1L zs x
  unfold YI at ih ⊢
  rw[QG,List.map_cons,Z8q]
  split
  ·rw[List.map_cons,ih]
  ·rfl
theorem U4 {x y:LN}: ∀{zs:List LN},y∈QG zs x↔y=x\/y∈zs
 | []=>by simp[QG]
 | z :: zs=>by
  have ih:=U4 (x:=x) (y:=y) (zs:=zs)
  rw[QG]
  split
  ·rw[List.mem_cons,ih,List.mem_cons]
   constructor
   ·rintro(h | h | h)
    ·exact .inr (.inl h)
    ·exact .inl h
    ·exact .inr (.inr h)
   ·rintro(h | h | h)
    ·exact .inr (.inl h)
    ·exact .inl h
    ·exact .inr (.inr h)
  ·rw[List.mem_cons]
theorem Z4l (x:LN): ∀zs:List LN,(QG zs x).length=zs.length+1
 | []=>rfl
 | z :: zs=>by
  rw[QG]
  split
  ·rw[List.length_cons,Z4l x zs,List.length_cons]
  ·rw[List.length_cons,List.length_cons]
theorem ZcD {W:World}{base:Nat}{a:zA}{n c:Nat}{zs:List LN}(h:W.ownsRow base 47 19 (.slice a n c) n (Zw zs))(hs : ∀x∈zs,x.ok W):Jb W a n c zs:=Z0B (ZX.of_own h) hs
theorem Z0x (zs:List LN)(a:zA)(n c:Nat)(x:LN)(w:World)(hr:Jb w a n c zs)(hn:n<=100000):
  Calls zq 158 #[.slice a n c,.agg (Z5 x.n x.sa x.sc)] w fun e w' => ∃a' c',e = .returned (.slice a' (n+1) c')/\w'.ownsRow w.heap.size 47 19 (.slice a' (n+1) c') (n+1) (Zw (QG zs x))/\Below w.heap.size w w':=by
 have J19:=zH (show(zq.info? 47).map (·.size)=some 19 from by kernel_rfl);have RL:=zH hr;have HN:=zH hr.1;have HNN:=zH hn;clear hr hn;have B0:=zH (zB w (.cells (Z5 x.n x.sa x.sc) 47));have F0:=zH (Z9 w (.cells (Z5 x.n x.sa x.sc) 47));go_enter Tryz.func158,Tryz.ntmps158;go_upto_region 1 with fail;obtain⟨p3,hp3⟩:=zX (w.heap.size);rw[hp3.out]at F0 ⊢;generalize w.alloc (.cells (Z5 x.n x.sa x.sc) 47)=W0 at *;go_wp2_with fail;go_loopw [5] (fun i wr=>∃k:Nat,i = .int .i64 (k:Int)/\k<=n/\Hid (∀j y,j < k->zs[j]? = some y->Jx (Zk y.n) (Zk x.n)=true)/\Hid (Below W0.heap.size W0 wr)) (fun i _=>n - (intOf i).toNat)
 case atStart=>exact⟨0,rfl,Nat.zero_le _,zH (fun j y h=>by omega),zH (Below.refl _ _)⟩
 case round=>
  obtain⟨k,rfl,hk,HA,BB⟩:=hrel;by_cases hlt:k < n
  ·have t0:decide ((k:Int) < (n:Int))=true:=by simp;omega
   obtain⟨y,Hy⟩ : ∃y,zs[k]? = some y:=⟨_,List.getElem?_eq_getElem (by rw[HN.out];exact hlt)⟩;have HY:=zH Hy;obtain⟨b,off,rfl,hat⟩:=(RL.out.below (B0.out.trans (BB.out.mono B0.out.size))).at (by omega);have HX:=zH (hat k y Hy).1;obtain⟨o,ho⟩:=zX (off+k * 19);rw[ho.out]at HX;have HIX:=zH (fun W=>ZN (W:=W) (c:=c) (b:=b) Tryz.underlying24 J19.out hlt ho.out);have HK64:Hid ((k:Int)+1<=9223372036854775807):=zH (by have:=HNN.out;omega);have LF:=zH (show ∀w0,Below wr.heap.size wr w0->w0.heap[p3]? = some (.cells (Z5 x.n x.sa x.sc) 47)from fun w0 hb=>Z7 hb (Z7 BB.out F0.out));have LX:=zH (show ∀w0,Below wr.heap.size wr w0->w0.rangeAt b o (y.n.cells y.sa y.sc)from fun w0 h=>Zs HX.out h);have hC0:Below wr.heap.size wr wr.drew:=(Below.refl _ _).drew;obtain⟨q,hq⟩:=zX (Jx (Zk y.n) (Zk x.n));clear hat Hy;go_upto_region 2 with fail;try simp only[Act.put,VZ,VY,VX]
   refine zC (fun w':World=>Below wr.heap.size wr w') hC0 ?_
   iterate 2 go_big_quiet_step (fail)
   refine zV (.int .i64 (n:Int)) ?_;refine zV (.bool true) ?_
   iterate 3 go_big_quiet_step (fail)
   refine zQ (.pointer (some ⟨b,o,none⟩)) (fun w0 hC=>?_) ?_
   ·have hix:=HIX.out w0;clear hC;go_simp
   refine zQ (.agg (Z5 y.n y.sa y.sc)) (fun w0 hC=>Zx (.tmp 14) rfl b o rfl y.n y.sa y.sc (LX.out w0 hC)) ?_;refine zQ (.agg #[.int .i64 y.n.house,.int .i64 y.n.num]) (fun w0 hC=>?_) ?_
   ·go_simp;refine(JJ y.n y.sa y.sc w0).mono ?_;rintro e w1 ⟨rfl,b1⟩;exact⟨rfl,hC.trans (b1.mono hC.size)⟩
   refine zQ (.agg (Z5 x.n x.sa x.sc)) (fun w0 hC=>ZG (.tmp 3) rfl p3 rfl x.n x.sa x.sc (LF.out w0 hC)) ?_;refine zQ (.agg #[.int .i64 x.n.house,.int .i64 x.n.num]) (fun w0 hC=>?_) ?_
   ·go_simp;refine(JJ x.n x.sa x.sc w0).mono ?_;rintro e w1 ⟨rfl,b1⟩;exact⟨rfl,hC.trans (b1.mono hC.size)⟩
   refine zQ (.bool q) (fun w0 hC=>?_) ?_
   ·go_simp;refine(Z7I y.n.house y.n.num x.n.house x.n.num w0).mono ?_;rintro e w1 ⟨rfl,b1⟩;exact⟨by rw[<-hq.out] <;> rfl,hC.trans (b1.mono hC.size)⟩
   refine zV (.bool q) ?_;refine wpQuiet_nil ?_;intro w' hC;have BB2:=zH (BB.out.trans (hC.mono BB.out.size));clear hC LX LF HX BB;have HQ:=zH hq.out;cases q
   ·have HKN:Hid (k<=n):=zH hk;have BT:=zH (B0.out.trans (BB2.out.mono B0.out.size));have FT:=zH (Z7 BB2.out F0.out);have HIN:=zH (Z64 HA.out (.inr ⟨y,HY.out,HQ.out⟩));generalize w'=WT at *;go_upto_region 4 with fail;clear t0;obtain⟨ja,hcut,hj⟩:=Z1V (Vn (RL.out.below BT.out)) 0 k none (some (.int .i64 (k:Int))) (.inl ⟨rfl,rfl⟩) (.inr ⟨_,by go_num⟩) (Nat.zero_le _) HKN.out;obtain⟨ka,hcut2,hk2⟩:=Z1V (Vn (RL.out.below BT.out)) k n (some (.int .i64 (k:Int))) none (.inr ⟨_,by go_num⟩) (.inl ⟨rfl,rfl⟩) HKN.out (Nat.le_refl _);rw[Nat.sub_zero,Nat.sub_zero,List.drop_zero]at hj;simp only[Nat.sub_zero]at hcut;rw[List.take_of_length_le (by rw[List.length_drop,HN.out];exact Nat.le_refl _)]at hk2;obtain⟨a1,c1,v1,hrun1,hoW,hg1⟩:=Yw WT WT.heap.size none 0 0 [] (World.ownsRow_nil _ _ _ _) ja k (c - 0) _ hj (Qn _) (by have:=HNN.out;have:=HKN.out;omega) (Nat.le_refl _);rw[Nat.zero_add,List.nil_append]at hoW;have ho1:=Zp hoW BT.out.size;have HF1:Hid (∀q,Value.ownBlock (.slice a1 k c1)=some q->WT.heap.size<=q):=zH (fun q hq=>(hoW.lt q hq).1);clear hoW;rw[Nat.zero_add]at hrun1;simp only[Nat.sub_zero]at hrun1;have O1:=zH ho1;have BV1:=zH (BT.out.grown hg1 BT.out.size (fun q hq=>absurd hq (J4 q)));have K2:=zH (show ∀W2,Below WT.heap.size WT W2->ZX W2 19 ka (n - k) (c - k) (Zw (zs.drop k))from fun W2 hb=>hk2.below hb);have BW1:=zH (show Below WT.heap.size WT v1 from(Below.refl _ _).grown hg1 (Nat.le_refl _) (fun q hq=>absurd hq (J4 q)));have N1:=zH (Z7 BW1.out FT.out);clear ho1 hg1 hj hk2;go_upto_region 6 with (first
     |(refine Zu rfl _ _ _ rfl _ _ _ rfl rfl hrun1 ?_)
     | fail)
    clear hrun1 hcut;have bn:Below v1.heap.size v1 (v1.alloc (.cells (Z5 x.n x.sa x.sc) 47)):=zB _ _;have O2:=zH (Zb O1.out bn);obtain⟨a2,c2,v2,hrun2,ho2,hg2⟩:=Yw (v1.alloc (.cells (Z5 x.n x.sa x.sc) 47)) w.heap.size a1 k c1 _ O2.out _ 1 1 _ (XX v1 x.n x.sa x.sc) (x.n.cells_one _ _) (by have:=HNN.out;have:=HKN.out;omega) (Nat.le_trans BV1.out.size bn.size);have O3:=zH ho2;have BV2:=zH ((BV1.out.trans (bn.mono BV1.out.size)).grown hg2 (Nat.le_trans BV1.out.size bn.size) (fun q hq=>(O2.out.lt q hq).1));have hWT:Hid (∀q,Value.ownBlock (.slice a1 k c1)=some q->WT.heap.size<=q):=zH (fun q hq=>HF1.out q hq);have BW2:=zH ((BW1.out.trans (bn.mono BW1.out.size)).grown hg2 (Nat.le_trans BW1.out.size bn.size) (fun q hq=>hWT.out q hq));clear ho2 hg2 bn;go_upto_region 7 with (first
     |(refine zL p3 N1.out ?_)
     |(refine YT rfl _ rfl x.n x.sa x.sc rfl ?_)
     |(refine Zu rfl _ _ _ rfl _ _ _ rfl rfl hrun2 ?_)
     | fail)
    clear hrun2;obtain⟨a3,c3,v3,hrun3,ho3,hg3⟩:=Yw v2 w.heap.size a2 (k+1) c2 _ O3.out ka (n - k) (c - k) _ (K2.out _ BW2.out) (Qn _) (by have:=HNN.out;have:=HKN.out;omega) BV2.out.size;have E3:Hid (k+1+(n - k)=n+1):=zH (by have:=HKN.out;omega);rw[E3.out]at hrun3 ho3;have O4:Hid (v3.ownsRow w.heap.size 47 19 (.slice a3 (n+1) c3) (n+1) (Zw (QG zs x))):=zH (by
     rw[HIN.out,show zs.take k ++ x :: zs.drop k=(zs.take k ++ [x]) ++ zs.drop k by simp,Z0j,JP];exact ho3)
    have BV3:=zH (BV2.out.grown hg3 BV2.out.size (fun q hq=>(O3.out.lt q hq).1));clear ho3 hg3;go_wp2_with (first
     |(refine Zu rfl _ _ _ rfl _ _ _ rfl rfl hrun3 ?_)
     | fail)
    go_ret;exact⟨a3,c3,rfl,O4.out,BV3.out⟩
   ·go_upto_region 3 with fail;have hk64:=HK64.out;clear t0;go_wp2;go_roundw
    case rel=>exact⟨k+1,by go_num,by omega,zH (fun j z hj hz=>by
     rcases Nat.lt_or_ge j k with h' | h'
     ·exact HA.out j z h' hz
     ·have e:j=k:=by omega
      subst e;rw[HY.out]at hz;cases hz;exact HQ.out),BB2⟩
    case measure=>simp[intOf];omega
  ·have t0:decide ((k:Int) < (n:Int))=false:=by simp;omega
   have hC0:Below wr.heap.size wr wr.drew:=(Below.refl _ _).drew;have HIN:=zH (Z64 HA.out (.inl (by rw[HN.out];omega)));have HKN:Hid (k<=n):=zH hk;go_upto_region 2 with fail;refine zC (fun w':World=>Below wr.heap.size wr w') hC0 ?_
   iterate 2 go_big_quiet_step (fail)
   refine zV (.int .i64 (n:Int)) ?_;refine zV (.bool false) ?_;go_big_quiet_step (fail)
   iterate 8 go_big_quiet_skip
   refine zV (.bool false) ?_;refine wpQuiet_nil ?_;intro w' hC;have BB2:=zH (BB.out.trans (hC.mono BB.out.size));clear hC BB;have BT:=zH (B0.out.trans (BB2.out.mono B0.out.size));have FT:=zH (Z7 BB2.out F0.out);generalize w'=WT at *;go_upto_region 4 with fail;clear t0;obtain⟨ja,hcut,hj⟩:=Z1V (Vn (RL.out.below BT.out)) 0 k none (some (.int .i64 (k:Int))) (.inl ⟨rfl,rfl⟩) (.inr ⟨_,by go_num⟩) (Nat.zero_le _) HKN.out;obtain⟨ka,hcut2,hk2⟩:=Z1V (Vn (RL.out.below BT.out)) k n (some (.int .i64 (k:Int))) none (.inr ⟨_,by go_num⟩) (.inl ⟨rfl,rfl⟩) HKN.out (Nat.le_refl _);rw[Nat.sub_zero,Nat.sub_zero,List.drop_zero]at hj;simp only[Nat.sub_zero]at hcut;rw[List.take_of_length_le (by rw[List.length_drop,HN.out];exact Nat.le_refl _)]at hk2;obtain⟨a1,c1,v1,hrun1,hoW,hg1⟩:=Yw WT WT.heap.size none 0 0 [] (World.ownsRow_nil _ _ _ _) ja k (c - 0) _ hj (Qn _) (by have:=HNN.out;have:=HKN.out;omega) (Nat.le_refl _);rw[Nat.zero_add,List.nil_append]at hoW;have ho1:=Zp hoW BT.out.size;have HF1:Hid (∀q,Value.ownBlock (.slice a1 k c1)=some q->WT.heap.size<=q):=zH (fun q hq=>(hoW.lt q hq).1);clear hoW;rw[Nat.zero_add]at hrun1;simp only[Nat.sub_zero]at hrun1;have O1:=zH ho1;have BV1:=zH (BT.out.grown hg1 BT.out.size (fun q hq=>absurd hq (J4 q)));have K2:=zH (show ∀W2,Below WT.heap.size WT W2->ZX W2 19 ka (n - k) (c - k) (Zw (zs.drop k))from fun W2 hb=>hk2.below hb);have BW1:=zH (show Below WT.heap.size WT v1 from(Below.refl _ _).grown hg1 (Nat.le_refl _) (fun q hq=>absurd hq (J4 q)));have N1:=zH (Z7 BW1.out FT.out);clear ho1 hg1 hj hk2;go_upto_region 6 with (first
    |(refine Zu rfl _ _ _ rfl _ _ _ rfl rfl hrun1 ?_)
    | fail)
   clear hrun1 hcut;have bn:Below v1.heap.size v1 (v1.alloc (.cells (Z5 x.n x.sa x.sc) 47)):=zB _ _;have O2:=zH (Zb O1.out bn);obtain⟨a2,c2,v2,hrun2,ho2,hg2⟩:=Yw (v1.alloc (.cells (Z5 x.n x.sa x.sc) 47)) w.heap.size a1 k c1 _ O2.out _ 1 1 _ (XX v1 x.n x.sa x.sc) (x.n.cells_one _ _) (by have:=HNN.out;have:=HKN.out;omega) (Nat.le_trans BV1.out.size bn.size);have O3:=zH ho2;have BV2:=zH ((BV1.out.trans (bn.mono BV1.out.size)).grown hg2 (Nat.le_trans BV1.out.size bn.size) (fun q hq=>(O2.out.lt q hq).1));have hWT:Hid (∀q,Value.ownBlock (.slice a1 k c1)=some q->WT.heap.size<=q):=zH (fun q hq=>HF1.out q hq);have BW2:=zH ((BW1.out.trans (bn.mono BW1.out.size)).grown hg2 (Nat.le_trans BW1.out.size bn.size) (fun q hq=>hWT.out q hq));clear ho2 hg2 bn;go_upto_region 7 with (first
    |(refine zL p3 N1.out ?_)
    |(refine YT rfl _ rfl x.n x.sa x.sc rfl ?_)
    |(refine Zu rfl _ _ _ rfl _ _ _ rfl rfl hrun2 ?_)
    | fail)
   clear hrun2;obtain⟨a3,c3,v3,hrun3,ho3,hg3⟩:=Yw v2 w.heap.size a2 (k+1) c2 _ O3.out ka (n - k) (c - k) _ (K2.out _ BW2.out) (Qn _) (by have:=HNN.out;have:=HKN.out;omega) BV2.out.size;have E3:Hid (k+1+(n - k)=n+1):=zH (by have:=HKN.out;omega);rw[E3.out]at hrun3 ho3;have O4:Hid (v3.ownsRow w.heap.size 47 19 (.slice a3 (n+1) c3) (n+1) (Zw (QG zs x))):=zH (by
    rw[HIN.out,show zs.take k ++ x :: zs.drop k=(zs.take k ++ [x]) ++ zs.drop k by simp,Z0j,JP];exact ho3)
   have BV3:=zH (BV2.out.grown hg3 BV2.out.size (fun q hq=>(O3.out.lt q hq).1));clear ho3 hg3;go_wp2_with (first
    |(refine Zu rfl _ _ _ rfl _ _ _ rfl rfl hrun3 ?_)
    | fail)
   go_ret;exact⟨a3,c3,rfl,O4.out,BV3.out⟩
attribute [local go_sem ↓] Go.wp_at_zero Go.wp_at_succ
theorem Yk {w:World}{ops:Array Oper}{o:Oper}{a:Act}{K:Act->World->Prop}{Q:Exit->Act->World->Prop}{E:Prop}(hgd:o.guard=none)(s x:Operand)
  (ho:o.op = .call { callee := .builtin .append,args := #[s,x],argTypes := #[41,41] }) (base:Nat)
  (sa:zA) (sn sc:Nat) (xs:zU) (hs:a.eval s = .slice sa sn sc) (hown:w.ownsRow base 5 1 (.slice sa sn sc) sn (xs.map Zt))
  (xa:zA) (m xc:Nat) (ys:zU) (hx:a.eval x = .slice xa m xc) (hrd:Yb w xa m xc ys) (hbytes:sn+m<=140737488355328) (hbase:base<=w.heap.size)
  (h : ∀a' c' w',w'.ownsRow base 5 1 (.slice a' (sn+m) c') (sn+m) ((xs ++ ys).map Zt)->w.grownBy w' (Value.ownBlock (.slice sa sn sc))->K (a.put o.dst (.slice a' (sn+m) c')) w'):
  if Region.wanted o (yielded ops a.tmps)=true then Oper.wp zq o a w K Q else E:=by
 have hw:Region.wanted o (yielded ops a.tmps)=true:=by simp[Region.wanted,hgd]
 rw[if_pos hw];obtain⟨i,hi,hz0,hz1,hz2⟩:=info_parts U5;obtain⟨a',c',w',hr,h2,h3⟩:=Xh (P:=zq) w base 41 o.type 5 i (.int .u8 0) 1 1 Tryz.underlying41 hi hz0 hz1 hz2 rfl (by decide) sa sn sc _ hown xa m xc _ hrd (Z0P _) (by unfold maxLen;omega) (by omega) hbase;unfold Oper.wp;simp[execOp,ho,resolve,invoke,builtin,hs,hx,hr,Result.andThen];exact h a' c' w' (by rw[List.map_append];exact h2) h3
theorem Vy (w:World)(base:Nat)(h:base<=w.heap.size):(w.alloc (.cells #[] 5)).ownsRow base 5 1 (.slice (some ⟨w.heap.size,0,none⟩) 0 0) 0 (([]:zU).map Zt):=
 World.ownsRow_lit (base:=base) (e:=5) (size:=1) w #[] 0 h (by unfold maxLen;omega) rfl
theorem Z3B (a1:zA)(n1 c1:Nat)(D:zU)(a2:zA)(n2 c2:Nat)(L:zU)(w:World)(h1:Yb w a1 n1 c1 D)(h2:Yb w a2 n2 c2 L)(hn1:n1<=70368744177664)(hn2:n2<=70368744177664):
  Calls zq 180 #[.agg #[.slice a1 n1 c1,.slice a2 n2 c2]] w fun e w' => ∃a c,e = .returned (.slice a (n1+n2) c)/\w'.ownsRow w.heap.size 5 1 (.slice a (n1+n2) c) (n1+n2) ((D ++ L).map Zt)/\Below w.heap.size w w':=by
 go_enter Tryz.func180,Tryz.ntmps180;go_wp2_with fail;have hlt:w.heap.size < (w.alloc (.cells #[.slice a1 n1 c1,.slice a2 n2 c2] 134)).heap.size:=by simp
 have hb0:=zB w (.cells #[.slice a1 n1 c1,.slice a2 n2 c2] 134);have hh:=heap_alloc_new w (.cells #[.slice a1 n1 c1,.slice a2 n2 c2] 134);have c0:(w.alloc (.cells #[.slice a1 n1 c1,.slice a2 n2 c2] 134)).cell? ⟨w.heap.size,0,none⟩=some (.slice a1 n1 c1):=by simp only[World.cell?,hh];rfl
 have c1':(w.alloc (.cells #[.slice a1 n1 c1,.slice a2 n2 c2] 134)).cell? ⟨w.heap.size,1,none⟩=some (.slice a2 n2 c2):=by simp only[World.cell?,hh];rfl
 generalize w.alloc (.cells #[.slice a1 n1 c1,.slice a2 n2 c2] 134)=W0 at *;clear hh;have hsz0:=hb0.size;have hb1:Below w.heap.size w (W0.alloc (.cells #[] 5)):=hb0.alloc hsz0 _;have hb2:Below W0.heap.size W0 (W0.alloc (.cells #[] 5)):=zB _ _;have ho1:=Vy W0 w.heap.size hsz0;have ho1':=Vy W0 W0.heap.size (Nat.le_refl _);have d0:=(hb2.cell (p:=⟨w.heap.size,0,none⟩) hlt).trans c0;have d1:=(hb2.cell (p:=⟨w.heap.size,1,none⟩) hlt).trans c1';have hsz1:=hb2.size;have r1:=h1.below hb1;have r2:=h2.below hb1;have hb2d:Below W0.heap.size W0 (W0.alloc (.cells #[] 5)).drew:=hb2.drew;clear ho1 r2 hb1;go_region_held3 (fun w'=>w'.cell? ⟨w.heap.size,0,none⟩=some (.slice a1 n1 c1)/\w'.cell? ⟨w.heap.size,1,none⟩=some (.slice a2 n2 c2)) (first | exact⟨c0,c1'⟩ | exact⟨d0,d1⟩ | exact⟨(hB2.cell (p:=⟨w.heap.size,0,none⟩) hlt).trans c0,(hB2.cell (p:=⟨w.heap.size,1,none⟩) hlt).trans c1'⟩ | exact⟨(hB3.cell (p:=⟨w.heap.size,0,none⟩) hlt).trans c0,(hB3.cell (p:=⟨w.heap.size,1,none⟩) hlt).trans c1'⟩)
  (first
   |(refine Yk rfl _ _ rfl W0.heap.size _ _ _ [] rfl (Zb ho1' (Below.refl _ _).drew) _ _ _ D rfl (r1.below (Below.refl _ _).drew) (by omega) hsz1 ?_;simp only[Nat.zero_add,List.nil_append];intro a' c' w2 ho2 hg2;have hB2:=hb2d.grown hg2 hsz1 (fun q hq=>(ho1'.lt q hq).1);have hsz2:=hB2.size;have r2:=h2.below (hb0.trans (hB2.mono hsz0)))
   |(refine Yk rfl _ _ rfl W0.heap.size _ _ _ D rfl ho2 _ _ _ L rfl r2 (by omega) hsz2 ?_;intro a'' c'' w3 ho3 hg3;have hB3:=hB2.grown hg3 hsz2 (fun q hq=>(ho2.lt q hq).1)))
 go_wp2;go_ret;exact⟨_,_,rfl,Zp ho3 hsz0,hb0.trans (hB3.mono hsz0)⟩
/-! One inverted bit. -/
theorem Z38 (l m:zU)(i b:Nat)(h:i < l.length):Qk (l ++ m) i b=Qk l i b ++ m:=by
 unfold Qk;rw[List.getElem?_append_left h,List.set_append_left _ _ h]
theorem VA (l m:zU)(i b:Nat)(h:l.length<=i):Qk (l ++ m) i b=l ++ Qk m (i - l.length) b:=by
 unfold Qk;rw[List.getElem?_append_right h,List.set_append_right _ _ h]
section
variable {w:World}{p:Nat}{i0 i1 i2 i3 i4 i5:Value}{G:Nat->Prop}{v0 v1 v2 v3:Value}{SD SP FD FP:zU}
theorem Z9u (h:XG w p i0 i1 i2 i3 i4 i5 G v0 v1 v2 v3 SD SP FD FP)(xa:zA)(xn xc:Nat)(X:zU)(ya:zA)(yn yc:Nat)(Y:zU)(hx:Yb w xa xn xc X)(hy:Yb w ya yn yc Y)
  (hs:SD.length+SP.length+xn<=16777216) (hf:FD.length+FP.length+yn<=16777216):
  Calls zq 184 #[.pointer (some ⟨p,6,none⟩),.slice xa xn xc,.slice ya yn yc] w fun e w'=>e = .returned (.tuple #[]) /\ ∃G' u1 u3,XG w' p i0 i1 i2 i3 i4 i5 G' v0 u1 v2 u3 SD (SP ++ X) FD (FP ++ Y)/\Za (fun k=>k=p) w w'/\(∀k,G' k->G k\/w.heap.size<=k):=by
 obtain⟨c0,c1,c2,c3,f0,f1,f2,f3⟩:=h.cells;have hs1:SP.length<=16777216/\SP.length+xn<=16777216/\FP.length<=16777216/\FP.length+yn<=16777216:=by omega
 have HS1:=zH hs1;clear hs1 hs hf;obtain⟨a1,k1,rfl,r1⟩:=h.s1.rd;obtain⟨a3,k3,rfl,r3⟩:=h.s3.rd;have hp:=h.plt;have H:=zH h;clear h;have bA:Below w.heap.size w (w.alloc (.cells #[] 5)):=zB _ _;have oA:=Vy w w.heap.size (Nat.le_refl _);have zA:=bA.size;have r1A:=r1.below bA;go_enter Tryz.func184,Tryz.ntmps184;go_wp2_with (at_builtin;refine JR _ rfl _ _ rfl w.heap.size _ _ _ [] rfl oA _ _ _ SP rfl r1A (by rw[Nat.zero_add];have:=HS1.out.1;omega) zA ?_;intro sa' sc' w2 hloc2 ho2 hg2;refine Hid.out ?_);refine zH ?_;simp only[Nat.zero_add,List.nil_append]at ho2 ⊢;have b2:=bA.grown hg2 zA (fun q hq=>(oA.lt q hq).1);have z2:=b2.size;have x2:=hx.below b2;have o2lt:Hid (∀k,Value.ownBlock (.slice sa' SP.length sc')=some k->w.heap.size<=k):=fun k hk=>(ho2.lt k hk).1;clear oA bA hloc2 hg2 r1A;go_wp2_with (at_builtin;refine JR _ rfl _ _ rfl w.heap.size _ _ _ SP rfl ho2 _ _ _ X rfl x2 (by have:=HS1.out.2.1;omega) z2 ?_;intro ta' tc' w3 hloc3 ho3 hg3;refine Hid.out ?_);refine zH ?_;have b3:=b2.grown hg3 z2 (fun q hq=>(ho2.lt q hq).1);have z3:=b3.size;have h3:=H.out.below b3;have y3:=hy.below b3;clear c0 c1 c2 c3 f0 f1 f2 f3 ho2 hg3 hloc3 x2 o2lt zA;obtain⟨c0,c1,c2,c3,f0,f1,f2,f3⟩:=h3.cells;have h4:=h3.set1 (Vl.of_own ho3);have y4:=h3.rd y3 7 (.slice ta' (SP.length+xn) tc');have S4:=zH ((Za.of_below (S:=fun k=>k=p) b3).trans (Yd w3 p 7 (.slice ta' (SP.length+xn) tc')));have z4:=S4.out.size;have o3lt:Hid (∀k,Value.ownBlock (.slice ta' (SP.length+xn) tc')=some k->w.heap.size<=k):=fun k hk=>(ho3.lt k hk).1;have H3:=zH h3;clear h3;have H4:=zH h4;clear h4;go_upto_region 1 with fail;generalize w3.setCell ⟨p,7,none⟩ (.slice ta' (SP.length+xn) tc')=w4 at *;obtain⟨b3',q3,e3,r3'⟩:=H4.out.s3.rd;cases e3;clear c0 c1 c2 c3 f0 f1 f2 f3 ho3 y3 r1 r3 b2 b3;obtain⟨c0,c1,c2,c3,f0,f1,f2,f3⟩:=H4.out.cells;have hp4:=H4.out.plt;have bB:Below w4.heap.size w4 (w4.alloc (.cells #[] 5)):=zB _ _;have oB:=Vy w4 w4.heap.size (Nat.le_refl _);have zB:=bB.size;have r3B:=r3'.below bB;go_wp2_with (at_builtin;refine JR _ rfl _ _ rfl w4.heap.size _ _ _ [] rfl oB _ _ _ FP rfl r3B (by rw[Nat.zero_add];have:=HS1.out.2.2.1;omega) zB ?_;intro fa' fc' w5 hloc5 ho5 hg5;refine Hid.out ?_)
 refine zH ?_;simp only[Nat.zero_add,List.nil_append]at ho5 ⊢;have b5:=bB.grown hg5 zB (fun q hq=>(oB.lt q hq).1);have z5:=b5.size;have y5:=y4.below b5;clear oB bB hloc5 hg5 r3B;go_wp2_with (at_builtin;refine JR _ rfl _ _ rfl w4.heap.size _ _ _ FP rfl ho5 _ _ _ Y rfl y5 (by have:=HS1.out.2.2.2;omega) z5 ?_;intro ga' gc' w6 hloc6 ho6 hg6;refine Hid.out ?_);refine zH ?_;have b6:=b5.grown hg6 z5 (fun q hq=>(ho5.lt q hq).1);have z6:=b6.size;have h6:=H4.out.below b6;clear c0 c1 c2 c3 f0 f1 f2 f3 ho5 hg6 hloc6 y5;obtain⟨c0,c1,c2,c3,f0,f1,f2,f3⟩:=h6.cells;have h7:=h6.set3 (Vl.of_own ho6);have o6lt:Hid (∀k,Value.ownBlock (.slice ga' (FP.length+yn) gc')=some k->w.heap.size<=k):=fun k hk=>Nat.le_trans z4 (ho6.lt k hk).1;have H6:=zH h6;clear h6;have H7:=zH h7;clear h7;go_wp2;go_end0;refine⟨rfl,_,_,_,H7.out,(S4.out.trans (Za.of_below b6)).trans (Yd w6 p 9 _),?_⟩;rintro k (rfl | hk | hk | hk | hk)
 ·exact .inl H.out.self
 ·exact .inl ((H.out.g k).2 (.inr (.inl hk)))
 ·exact .inr (o3lt.out k hk)
 ·exact .inl ((H.out.g k).2 (.inr (.inr (.inr (.inl hk)))))
 ·exact .inr (o6lt.out k hk)
end
end Go.Proofs.YtlnhppgfhkkidaaGreat
