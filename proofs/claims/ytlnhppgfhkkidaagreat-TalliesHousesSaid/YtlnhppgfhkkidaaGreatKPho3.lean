/- Parts of the proof, in order. -/
import Derived.Deep.QuietTactic
import Derived.BigQuiet
import Derived.Deep.RegionHeld3
import Derived.Deep.RegionWith
import Derived.StillTailTactics
import Derived.BigRegion
import Derived.Maps.RangeWalk
import Derived.Maps.OwnSet
import Derived.DeepKeys4
import Derived.Deep.MidRow
import Derived.Test.YtlnhppgfhkkidaaGreatKPho2
set_option linter.unusedSimpArgs false
set_option linter.unusedVariables false
set_option maxHeartbeats 32000000
set_option maxRecDepth 100000
namespace Go.Proofs.YtlnhppgfhkkidaaGreat
open Go.Proofs.Tryz renaming prog → zq
open Go.RowKit
structure RdQ (W:World)(rp:Nat)(l:zU)(a:zA)(n c:Nat)(at_:Nat)(bad:Bool):Prop where
 e:W.heap[rp]? = some (.cells #[.slice a n c,.int .i64 at_,.bool bad] 205)
 r:Yb W a n c l
 le:at_<=l.length
section
variable {W W':World}{rp:Nat}{l:zU}{a:zA}{n c at_:Nat}{bad:Bool}
theorem RdQ.not (h:RdQ W rp l a n c at_ bad)(h0:0 < n): ∀b off,a=some ⟨b,off,none⟩->b≠rp:=
 Z3V h.e (by intro v hv x;simp at hv;rcases hv with rfl | rfl | rfl <;> (intro hh;cases hh)) h.r h0
theorem RdQ.same {S:Nat->Prop}(h:RdQ W rp l a n c at_ bad)(hs:Za S W W')(h1 : ¬S rp)(h2:0 < n -> ∀b off,a=some ⟨b,off,none⟩ -> ¬S b):RdQ W' rp l a n c at_ bad:=
 ⟨(hs.block _ (Array.getElem?_eq_some_iff.1 h.e).1 h1).trans h.e,Z0A h.r hs h2,h.le⟩
theorem RdQ.setBad (h:RdQ W rp l a n c at_ bad):RdQ (W.setCell ⟨rp,2,none⟩ (.bool true)) rp l a n c at_ true:=
 ⟨heap_setCell_same W rp 2 _ _ (.bool true) h.e,Z0A h.r (Xw W rp 2 _) (fun h0 b off e=>h.not h0 b off e),h.le⟩
theorem RdQ.setAt (h:RdQ W rp l a n c at_ bad)(k:Nat)(hk:k<=l.length):RdQ (W.setCell ⟨rp,1,none⟩ (.int .i64 k)) rp l a n c k bad:=
 ⟨heap_setCell_same W rp 1 _ _ (.int .i64 k) h.e,Z0A h.r (Xw W rp 1 _) (fun h0 b off e=>h.not h0 b off e),hk⟩
theorem RdQ.c0 (h:RdQ W rp l a n c at_ bad):W.cell? ⟨rp,0,none⟩=some (.slice a n c):=Z6 h.e 0 _ rfl
theorem RdQ.c1 (h:RdQ W rp l a n c at_ bad):W.cell? ⟨rp,1,none⟩=some (.int .i64 at_):=Z6 h.e 1 _ rfl
theorem RdQ.c2 (h:RdQ W rp l a n c at_ bad):W.cell? ⟨rp,2,none⟩=some (.bool bad):=Z6 h.e 2 _ rfl
theorem RdQ.f (h:RdQ W rp l a n c at_ bad)(j:Nat):W.frozen? ⟨rp,j,none⟩=false:=Ze h.e j
theorem RdQ.len (h:RdQ W rp l a n c at_ bad):l.length=n:=by have:=h.r.1;simpa using this
theorem Za.refl (S:Nat->Prop)(W:World):Za S W W:=⟨rfl,rfl,rfl,Nat.le_refl _,fun _ _ _=>rfl⟩
end
theorem Z3I (rp:Nat)(l:zU)(a:zA)(n c at_:Nat)(bad:Bool)(v:Nat)(w:World)(h:RdQ w rp l a n c at_ bad)(hv:v < 18446744073709551616):
  Calls zq 224 #[.pointer (some ⟨rp,0,none⟩),.int .u64 v] w fun e w'=>(v < 9223372036854775808/\e = .returned (.int .i64 (zag v))/\w'=w) \/
   (¬v < 9223372036854775808/\e = .returned (.int .i64 0)/\RdQ w' rp l a n c at_ true/\Za (fun k=>k=rp) w w'):=by
 have c2:=h.c2;have f2:=h.f 2;have HH:=zH h;clear h;have hsg:IntKind.u64.signed=false:=rfl;by_cases h1:v < 9223372036854775808
 ·have h2:decide ((9223372036854775808:Int)<=(v:Int))=false:=by simp;omega
  rcases Nat.mod_two_eq_zero_or_one v with hm | hm
  ·have hb1:((v:Int) % 2==0)=true:=by simp;omega
   have HM:=zH hm;clear hm;go_enter Tryz.func224,Tryz.ntmps224;go_wp2;go_ret;refine .inl ⟨h1,?_,rfl⟩;show Ending.returned (Value.int .i64 ((v:Int) / 2))=_;rw[zag,if_pos HM.out,show((v:Int) / 2)=((v / 2:Nat):Int)by omega]
  ·have hb1:((v:Int) % 2==0)=false:=by simp;omega
   have HM:=zH hm;clear hm;go_enter Tryz.func224,Tryz.ntmps224;go_wp2;go_ret;refine .inl ⟨h1,?_,rfl⟩;show Ending.returned (Value.int .i64 (-((v:Int) / 2) - 1))=_;rw[zag,if_neg (by rw[HM.out];decide),show((v:Int) / 2)=((v / 2:Nat):Int)by omega]
 ·have h2:decide ((9223372036854775808:Int)<=(v:Int))=true:=by simp;omega
  go_enter Tryz.func224,Tryz.ntmps224;go_wp2;go_ret;exact .inr ⟨h1,rfl,HH.out.setBad,Xw w rp 2 _⟩
theorem Z2m {l:zU}(h:Vq 0 0 l=none):Xt l=none:=by unfold Xt;rw[h]
theorem Z5a {l t:zU}{u:Nat}(h:Vq 0 0 l=some (u,t))(hu:u < 9223372036854775808):Xt l=some (zag u,t):=by unfold Xt;rw[h];simp only;rw[if_pos hu]
theorem Z70 {l t:zU}{u:Nat}(h:Vq 0 0 l=some (u,t))(hu : ¬u < 9223372036854775808):Xt l=none:=by unfold Xt;rw[h];simp only;rw[if_neg hu]
theorem Z8V (i:Nat)(hi:i<=8):IntKind.u64.wrap (((128 ^ i:Nat):Int) * 128)=((128 ^ (i+1):Nat):Int):=by
 have hp:128 ^ i<=128 ^ 8:=Nat.pow_le_pow_right (by omega) hi;have hp8:128 ^ 8=72057594037927936:=by decide
 rw[IntKind.wrap_u64,Nat.pow_succ];omega
theorem Zaz (i v y:Nat)(hi:i<=9)(hv:v < 128 ^ i)(hy:y < 128)(h9:i=9->y<=1):IntKind.u64.wrap ((v:Int)+IntKind.u64.wrap ((y:Int) * ((128 ^ i:Nat):Int)))=((v+y * 128 ^ i:Nat):Int)/\v+y * 128 ^ i < 18446744073709551616:=by
 have hp9:128 ^ 9=9223372036854775808:=by decide
 have hp8:128 ^ 8=72057594037927936:=by decide
 have hm:y * 128 ^ i < 9223372036854775809:=by
  by_cases h:i=9
  ·have:=h9 h;subst h;rw[hp9];omega
  ·have hp:128 ^ i<=128 ^ 8:=Nat.pow_le_pow_right (by omega) (by omega);have h2:y * 128 ^ i<=127 * 128 ^ i:=Nat.mul_le_mul_right _ (by omega);omega
 have hvp:v < 9223372036854775808:=by
  have hp:128 ^ i<=128 ^ 9:=Nat.pow_le_pow_right (by omega) hi;rw[hp9]at hp;exact Nat.lt_of_lt_of_le hv hp
 have e:(y:Int) * ((128 ^ i:Nat):Int)=((y * 128 ^ i:Nat):Int):=by rw[Int.natCast_mul]
 rw[e];generalize y * 128 ^ i=z at *;simp only[IntKind.wrap_u64];omega
theorem ZQ (rp:Nat)(l:zU)(a:zA)(n c at0:Nat)(bad:Bool)(w:World)(h:RdQ w rp l a n c at0 bad):
  Calls zq 195 #[.pointer (some ⟨rp,0,none⟩)] w fun e w' => ∃(z:Int) (at':Nat) (bad':Bool),e = .returned (.int .i64 z)/\RdQ w' rp l a n c at' bad'/\Za (fun k=>k=rp) w w' /\
   ((Xt (l.drop at0)=some (z,l.drop at')/\bad'=bad)\/(Xt (l.drop at0)=none/\bad'=true/\z=0)):=by
 have HH:=zH h;have hn63:=h.r.maxn;have HL:=zH h.len;clear h;have hsg:IntKind.u64.signed=false:=rfl;go_enter Tryz.func195,Tryz.ntmps195;go_wp2_with fail;go_loopw [3,4,5,6] (fun u q i _ wr=>∃(i' v q' at':Nat),u = .int .u64 v/\q = .int .u64 q'/\i = .int .i64 i'/\i'<=9/\Hid (q'=128 ^ i')/\Hid (v < 128 ^ i')/\Hid (Vq i' v (l.drop at')=Vq 0 0 (l.drop at0))/\Hid (RdQ wr rp l a n c at' bad)/\Hid (Za (fun k=>k=rp) w wr)) (fun _ _ i _ _=>10 - (intOf i).toNat)
 case atStart=>exact⟨0,0,1,at0,rfl,rfl,rfl,by omega,zH rfl,zH (by decide),zH rfl,HH,zH (Za.refl _ _)⟩
 case round=>
  obtain⟨i,v,q,at',rfl,rfl,rfl,hi,HQ,HV,HD,HR,HS⟩:=hrel;have c0:=HR.out.c0;have c1:=HR.out.c1;have c2:=HR.out.c2;have f2:=HR.out.f 2;have f1:=HR.out.f 1;have hle:=HR.out.le;rw[HL.out]at hle;by_cases hat:n<=at'
  ·have hat1:decide ((n:Int)<=(at':Int))=true:=by simp;omega
   go_wp2_with fail;go_quiet (fail);go_wp2;go_ret;have hb:=below_drewN (Below.refl wr.heap.size wr) nq;have hR:=HR.out.same (S:=fun _=>False) (Za.of_below hb) id (fun _ _ _ _=>id);refine⟨0,at',true,rfl,hR.setBad,(HS.out.trans (Za.of_below hb)).trans (Xw _ rp 2 _),.inr ⟨Z2m ?_,rfl,rfl⟩⟩;rw[<-HD.out,List.drop_eq_nil_of_le (by rw[HL.out];omega)];try rfl
  ·have hat1:decide ((n:Int)<=(at':Int))=false:=by simp;omega
   have hat2:at' < n:=by omega
   obtain⟨b,off,rfl,hc⟩:=ZX.at HR.out.r (by omega);obtain⟨x,hx⟩ : ∃x,l[at']? = some x:=⟨_,List.getElem?_eq_getElem (by rw[HL.out];exact hat2)⟩;have e1:wr.cell? ⟨b,off+at',none⟩=some (.int .u8 (x.toNat:Int)):=hc at' (Zt x) (by rw[List.getElem?_map,hx];rfl);have HX:Hid (l.drop at'=x :: l.drop (at'+1)):=zH (by
    obtain⟨hlt,hxx⟩:=List.getElem?_eq_some_iff.1 hx;rw[List.drop_eq_getElem_cons hlt,hxx])
   have hx8:=x.toNat_lt;clear hc hx;go_wp2_with fail;go_quiet (fail);go_wp2_with fail;have hb:=below_drewN (Below.refl wr.heap.size wr) nq;have HRq:=zH (HR.out.same (S:=fun _=>False) (Za.of_below hb) id (fun _ _ _ _=>id));have HSq:=zH (HS.out.trans (Za.of_below hb));have e2:(wr.drewN nq).cell? ⟨b,off+at',none⟩=some (.int .u8 (x.toNat:Int)):=e1;have c0:=HRq.out.c0;have c1:=HRq.out.c1;have c2:=HRq.out.c2;have f2:=HRq.out.f 2;have f1:=HRq.out.f 1;clear hb e1;generalize wr.drewN nq=wq at *;go_quiet (fail);go_upto_region 11 with fail;have hb:=below_drewN (Below.refl wq.heap.size wq) nq;have HR6:=zH ((HRq.out.same (S:=fun _=>False) (Za.of_below hb) id (fun _ _ _ _=>id)).setAt (at'+1) (by rw[HL.out];exact hat2));have HS6:=zH ((HSq.out.trans (Za.of_below hb)).trans (Xw (wq.drewN nq) rp 1 (.int .i64 ((at'+1:Nat):Int))));rw[Int.natCast_add,Int.natCast_one]at HR6 HS6;clear c0 c1 c2 f1 f2 hb e2;generalize (wq.drewN nq).setCell ⟨rp,1,none⟩ (.int .i64 ((at':Int)+1))=w6 at *;have c2:=HR6.out.c2;have f2:=HR6.out.f 2;by_cases hBC:(i=9/\1 < x.toNat)\/(0 < i/\x.toNat=0)
   ·have HBC:=zH hBC;by_cases h9:i=9
    ·by_cases h1:1 < x.toNat
     focus
      have k9:((i:Int)==9)=true:=by simp;omega
      have k1:decide ((1:Int) < (x.toNat:Int))=true:=by simp;omega
     rotate_left
     focus
      have k9:((i:Int)==9)=true:=by simp;omega
      have k1:decide ((1:Int) < (x.toNat:Int))=false:=by simp;omega
      have k0:decide (0 < i)=true:=by simp;omega
      have kc:((x.toNat:Int)==0)=true:=by simp;omega
     all_goals
      clear hBC h9 h1;go_wp2;go_ret;refine⟨0,at'+1,true,rfl,HR6.out.setBad,HS6.out.trans (Xw _ rp 2 _),.inr ⟨Z2m ?_,rfl,rfl⟩⟩;rw[<-HD.out,HX.out,Vq,if_pos HBC.out]
    ·have k9:((i:Int)==9)=false:=by simp;omega
     have k0:decide (0 < i)=true:=by simp;omega
     have kc:((x.toNat:Int)==0)=true:=by simp;omega
     clear hBC h9;go_wp2;go_ret;refine⟨0,at'+1,true,rfl,HR6.out.setBad,HS6.out.trans (Xw _ rp 2 _),.inr ⟨Z2m ?_,rfl,rfl⟩⟩;rw[<-HD.out,HX.out,Vq,if_pos HBC.out]
   ·have HBC:=zH hBC;by_cases h9:i=9
    ·have k9:((i:Int)==9)=true:=by simp;omega
     have k1:decide ((1:Int) < (x.toNat:Int))=false:=by simp;omega
     have k0:decide (0 < i)=true:=by simp;omega
     have kc:((x.toNat:Int)==0)=false:=by simp;omega
     clear hBC h9;have HDD:=zH (show Vq i v (x :: l.drop (at'+1))=if x.toNat < 128 then some (v+x.toNat % 128 * 128 ^ i,l.drop (at'+1))else Vq (i+1) (v+x.toNat % 128 * 128 ^ i) (l.drop (at'+1))by rw[Vq,if_neg HBC.out]);obtain⟨v2,hv2⟩ : ∃v2,Hid (v2=v+x.toNat % 128 * 128 ^ i):=⟨_,zH rfl⟩;have HU:=zH (Zaz i v (x.toNat % 128) hi HV.out (by omega) (fun h9=>by have:=HBC.out;have:=x.toNat_lt;omega));have hu1:IntKind.u64.wrap ((v:Int)+IntKind.u64.wrap (((x.toNat:Int) % 128) * (q:Int)))=(v2:Int):=by rw[hv2.out,HQ.out];exact HU.out.1
     have HV2:Hid (v2 < 18446744073709551616):=zH (by rw[hv2.out];exact HU.out.2);rw[<-hv2.out]at HDD;by_cases h128:(x.toNat:Int) < 128
     ·have HDE:=zH (HD.out.symm.trans ((congrArg (Vq i v) HX.out).trans (HDD.out.trans (if_pos (by omega)))));have hq1:IntKind.u64.wrap ((q:Int) * 128)=IntKind.u64.wrap ((q:Int) * 128):=rfl;clear hq1;obtain⟨uq,huq⟩:=zX (IntKind.u64.wrap ((q:Int) * 128));have huq':=huq.out;go_wp2_with fail;refine(Z3I rp l _ n c (at'+1) bad v2 _ HR6.out HV2.out).mono ?_;rintro e w7 (⟨g1,rfl,rfl⟩ | ⟨g1,rfl,g2,g3⟩)
      ·have G1:=zH g1;clear g1;go_wp2;go_ret;exact⟨zag v2,at'+1,bad,rfl,HR6.out,HS6.out,.inl ⟨Z5a HDE.out G1.out,rfl⟩⟩
      ·have G1:=zH g1;clear g1;have G2:=zH (And.intro g2 g3);clear g2 g3;go_wp2;go_ret;exact⟨0,at'+1,true,rfl,G2.out.1,HS6.out.trans G2.out.2,.inr ⟨Z70 HDE.out G1.out,rfl,rfl⟩⟩
     ·have HDE:=zH (HD.out.symm.trans ((congrArg (Vq i v) HX.out).trans (HDD.out.trans (if_neg (by omega)))));by_cases h9:i=9
      ·exfalso;have:=HBC.out;omega
      ·have hq1:IntKind.u64.wrap ((q:Int) * 128)=((128 ^ (i+1):Nat):Int):=by rw[HQ.out];exact Z8V i (by omega)
       have HV3:Hid (v2 < 128 ^ (i+1)):=zH (by rw[hv2.out];exact Z2F i v _ HV.out (by omega));obtain⟨q2,hq2⟩ : ∃q2,Hid (q2=128 ^ (i+1)):=⟨_,zH rfl⟩;rw[<-hq2.out]at hq1;go_wp2;go_roundw
       case rel=>exact⟨i+1,v2,q2,at'+1,rfl,rfl,by go_num,by omega,hq2,HV3,zH HDE.out.symm,HR6,HS6⟩
       case measure=>simp[intOf];omega
    ·by_cases h0:0 < i
     focus
      have k9:((i:Int)==9)=false:=by simp;omega
      have k0:decide (0 < i)=true:=by simp;omega
      have kc:((x.toNat:Int)==0)=false:=by simp;omega
     rotate_left
     focus
      have k9:((i:Int)==9)=false:=by simp;omega
      have k0:decide (0 < i)=false:=by simp;omega
     all_goals
      clear hBC h9 h0;have HDD:=zH (show Vq i v (x :: l.drop (at'+1))=if x.toNat < 128 then some (v+x.toNat % 128 * 128 ^ i,l.drop (at'+1))else Vq (i+1) (v+x.toNat % 128 * 128 ^ i) (l.drop (at'+1))by rw[Vq,if_neg HBC.out]);obtain⟨v2,hv2⟩ : ∃v2,Hid (v2=v+x.toNat % 128 * 128 ^ i):=⟨_,zH rfl⟩;have HU:=zH (Zaz i v (x.toNat % 128) hi HV.out (by omega) (fun h9=>by have:=HBC.out;have:=x.toNat_lt;omega));have hu1:IntKind.u64.wrap ((v:Int)+IntKind.u64.wrap (((x.toNat:Int) % 128) * (q:Int)))=(v2:Int):=by rw[hv2.out,HQ.out];exact HU.out.1
      have HV2:Hid (v2 < 18446744073709551616):=zH (by rw[hv2.out];exact HU.out.2);rw[<-hv2.out]at HDD;by_cases h128:(x.toNat:Int) < 128
      ·have HDE:=zH (HD.out.symm.trans ((congrArg (Vq i v) HX.out).trans (HDD.out.trans (if_pos (by omega)))));have hq1:IntKind.u64.wrap ((q:Int) * 128)=IntKind.u64.wrap ((q:Int) * 128):=rfl;clear hq1;obtain⟨uq,huq⟩:=zX (IntKind.u64.wrap ((q:Int) * 128));have huq':=huq.out;go_wp2_with fail;refine(Z3I rp l _ n c (at'+1) bad v2 _ HR6.out HV2.out).mono ?_;rintro e w7 (⟨g1,rfl,rfl⟩ | ⟨g1,rfl,g2,g3⟩)
       ·have G1:=zH g1;clear g1;go_wp2;go_ret;exact⟨zag v2,at'+1,bad,rfl,HR6.out,HS6.out,.inl ⟨Z5a HDE.out G1.out,rfl⟩⟩
       ·have G1:=zH g1;clear g1;have G2:=zH (And.intro g2 g3);clear g2 g3;go_wp2;go_ret;exact⟨0,at'+1,true,rfl,G2.out.1,HS6.out.trans G2.out.2,.inr ⟨Z70 HDE.out G1.out,rfl,rfl⟩⟩
      ·have HDE:=zH (HD.out.symm.trans ((congrArg (Vq i v) HX.out).trans (HDD.out.trans (if_neg (by omega)))));by_cases h9:i=9
       ·exfalso;have:=HBC.out;omega
       ·have hq1:IntKind.u64.wrap ((q:Int) * 128)=((128 ^ (i+1):Nat):Int):=by rw[HQ.out];exact Z8V i (by omega)
        have HV3:Hid (v2 < 128 ^ (i+1)):=zH (by rw[hv2.out];exact Z2F i v _ HV.out (by omega));obtain⟨q2,hq2⟩ : ∃q2,Hid (q2=128 ^ (i+1)):=⟨_,zH rfl⟩;rw[<-hq2.out]at hq1;go_wp2;go_roundw
        case rel=>exact⟨i+1,v2,q2,at'+1,rfl,rfl,by go_num,by omega,hq2,HV3,zH HDE.out.symm,HR6,HS6⟩
        case measure=>simp[intOf];omega
theorem Za6 (rp:Nat)(l:zU)(a:zA)(n c at0:Nat)(bad:Bool)(w:World)(h:RdQ w rp l a n c at0 bad):
  Calls zq 194 #[.pointer (some ⟨rp,0,none⟩)] w fun e w' => ∃(k at':Nat) (bad':Bool),e = .returned (.int .i64 k)/\RdQ w' rp l a n c at' bad'/\Za (fun k=>k=rp) w w'/\k<=l.length /\
   ((Jy Xt (l.drop at0)=some (k,l.drop at')/\bad'=bad)\/(Jy Xt (l.drop at0)=none/\bad'=true)):=by
 have hn63:=h.r.maxn;have HL:=zH h.len;go_enter Tryz.func194,Tryz.ntmps194;go_wp2_with fail;refine(ZQ rp l a n c at0 bad w h).mono ?_;rintro e w1 ⟨z,at',bad',rfl,h2,h3,h4⟩;have c0:=h2.c0;have c1:=h2.c1;have c2:=h2.c2;have f2:=h2.f 2;have hle:=h2.le;have HR:=zH h2;clear h2;have HS:=zH h3;clear h3;have H4:=zH h4;clear h4;rw[HL.out]at hle;by_cases hz:z < 0
 ·have hz1:decide (z < 0)=true:=by simp[hz]
  have HF:=zH (show Jy Xt (l.drop at0)=none by
   rcases H4.out with ⟨e,_⟩ | ⟨e,_⟩
   ·unfold Jy;rw[e];simp only;rw[if_neg (by omega)]
   ·unfold Jy;rw[e])
  go_wp2_with fail;go_quiet (fail);go_wp2;go_ret;have hb:=below_drewN (Below.refl w1.heap.size w1) nq;have hR:=HR.out.same (S:=fun _=>False) (Za.of_below hb) id (fun _ _ _ _=>id);exact⟨0,at',true,rfl,hR.setBad,(HS.out.trans (Za.of_below hb)).trans (Xw _ rp 2 _),Nat.zero_le _,.inr ⟨HF.out,rfl⟩⟩
 ·have hz1:decide (z < 0)=false:=by simp;omega
  have hsub:(n:Int) - (at':Int)=((n - at':Nat):Int):=by omega
  by_cases hc:((n - at':Nat):Int) < z
  ·have hc1:decide ((n:Int) - (at':Int) < z)=true:=by simp;omega
   have HF:=zH (show Jy Xt (l.drop at0)=none by
    rcases H4.out with ⟨e,_⟩ | ⟨e,_,e2⟩
    ·unfold Jy;rw[e];simp only;rw[if_neg (by rw[List.length_drop,HL.out];omega)]
    ·omega)
   clear hsub;go_wp2_with fail;go_quiet (fail);go_wp2;go_ret;have hb:=below_drewN (Below.refl w1.heap.size w1) nq;have hR:=HR.out.same (S:=fun _=>False) (Za.of_below hb) id (fun _ _ _ _=>id);exact⟨0,at',true,rfl,hR.setBad,(HS.out.trans (Za.of_below hb)).trans (Xw _ rp 2 _),Nat.zero_le _,.inr ⟨HF.out,rfl⟩⟩
  ·have hc1:decide ((n:Int) - (at':Int) < z)=false:=by simp;omega
   obtain⟨k,rfl⟩ : ∃k:Nat,z=(k:Int):=⟨z.toNat,by omega⟩;have HF:Hid ((Jy Xt (l.drop at0)=some (k,l.drop at')/\bad'=bad)\/(Jy Xt (l.drop at0)=none/\bad'=true)):=zH (by
    rcases H4.out with ⟨e,e2⟩ | ⟨e,e1,e2⟩
    ·left;refine⟨?_,e2⟩;unfold Jy;rw[e];simp only;rw[if_pos (by rw[List.length_drop,HL.out];omega),Int.toNat_natCast]
    ·right;refine⟨?_,e1⟩;unfold Jy;rw[e])
   have hk:k<=n:=by omega
   clear hsub;go_wp2_with fail;go_quiet (fail);go_wp2;go_ret;have hb:=below_drewN (Below.refl w1.heap.size w1) nq;have hR:=HR.out.same (S:=fun _=>False) (Za.of_below hb) id (fun _ _ _ _=>id);exact⟨k,at',bad',rfl,hR,HS.out.trans (Za.of_below hb),by rw[HL.out];exact hk,HF.out⟩
theorem Z20 (w:World){ops:Array Oper}{rest:List Oper}{o:Oper}{a:Act}{Q:Exit->Act->World->Prop}(hgd:o.guard=none)(s x:Operand)
  (ho:o.op = .call { callee := .builtin .append,args := #[s,x],argTypes := #[37,37] }) (base:Nat)
  (sa:zA) (sn sc:Nat) (xs:List Int) (hs:a.eval s = .slice sa sn sc) (hown:w.ownsRow base 3 1 (.slice sa sn sc) sn (xs.map Yo))
  (xa:zA) (m xc:Nat) (ys:List Int) (hx:a.eval x = .slice xa m xc) (hrd:Xe w xa m xc ys) (hbytes:(sn+m) * 8<=140737488355328) (hbase:base<=w.heap.size)
  (h : ∀a' c' w',w'.ownsRow base 3 1 (.slice a' (sn+m) c') (sn+m) ((xs ++ ys).map Yo)->w.grownBy w' (Value.ownBlock (.slice sa sn sc))->wpList zq ops Q rest (a.put o.dst (.slice a' (sn+m) c')) w'):
  wpList zq ops Q (o :: rest) a w:=by
 obtain⟨i,hi,hz0,hz1,hz2⟩:=info_parts Z3w;exact UG w hgd s x 37 ho base 3 i (.int .i64 0) 1 8 Tryz.underlying37 hi hz0 hz1 hz2 rfl (by decide) sa sn sc _ hs hown xa m xc _ hx hrd (Z1K _) (by unfold maxLen;omega) hbytes hbase
  (fun a' c' w' h1 h2=>h a' c' w' (by rw[List.map_append];exact h1) h2)
def Z6q (l:zU)(at0:Nat)(bad:Bool)(ys:List Int)(at':Nat)(bad':Bool):Prop:=
 ((bad'=false/\bad=false /\ ∃k t1,Jy Xt (l.drop at0)=some (k,t1)/\XI Xt k t1=some (ys,l.drop at'))\/(bad'=true/\(bad=true\/Jy Xt (l.drop at0)=none \/ ∃k t1,Jy Xt (l.drop at0)=some (k,t1)/\XI Xt k t1=none)))
def Zch (rp:Nat)(l:zU)(a:zA)(n c at0:Nat)(bad:Bool)(ys:List Int)(w w':World):Prop := ∃at' bad',RdQ w' rp l a n c at' bad'/\Za (fun k=>k=rp) w w'/\Z6q l at0 bad ys at' bad'
theorem Z4M (rp:Nat)(l:zU)(a:zA)(n c at0:Nat)(bad:Bool)(w:World)(h:RdQ w rp l a n c at0 bad)(hl:l.length<=1000000):
  Calls zq 154 #[.pointer (some ⟨rp,0,none⟩)] w fun e w' => ∃(ys:List Int) (sa:zA) (sc:Nat),e = .returned (.slice sa ys.length sc)/\w'.ownsRow w.heap.size 3 1 (.slice sa ys.length sc) ys.length (ys.map Yo)/\Zch rp l a n c at0 bad ys w w':=by
 have hn63:=h.r.maxn;have HL:=zH h.len;have hrp:rp < w.heap.size:=(Array.getElem?_eq_some_iff.1 h.e).1;have RL:=zH (show 0 < n -> ∀b off,a=some ⟨b,off,none⟩->b < w.heap.size from fun h0 b off e=>ZaI h.r h0 (by omega) b off e);obtain⟨base,hbase⟩:=zX (w.heap.size);rw[hbase.out]at hrp RL;rw[hbase.out];have HRP:=zH hrp;clear hrp;go_enter Tryz.func154,Tryz.ntmps154;go_wp2_with fail;refine(Za6 rp l a n c at0 bad w h).mono ?_;rintro e w1 ⟨cnt,at',bad',rfl,h2,h3,hcnt,h4⟩;have hc6:cnt<=1000000:=Nat.le_trans hcnt hl;have HR:=zH h2;clear h2;have HB1:Hid (base<=w1.heap.size):=zH (by rw[<-hbase.out];exact h3.size);have HS:Hid (Za (fun k=>k=rp\/base<=k) w w1):=zH (YP h3 fun k e=>.inl e);clear h3;obtain⟨F,hF⟩ : ∃F:Prop,Hid (F=(bad=true\/Jy Xt (l.drop at0)=none \/ ∃k t1,Jy Xt (l.drop at0)=some (k,t1)/\XI Xt k t1=none)):=⟨_,zH rfl⟩;obtain⟨t1,ht1⟩ : ∃t1,Hid (t1=l.drop at'):=⟨_,zH rfl⟩;have H4:Hid ((bad'=false/\bad=false/\Jy Xt (l.drop at0)=some (cnt,t1))\/(bad'=true/\F)):=zH (by
  rw[ht1.out,hF.out];rcases h4 with ⟨e,rfl⟩ | ⟨e,rfl⟩
  ·cases bad'
   ·exact .inl ⟨rfl,rfl,e⟩
   ·exact .inr ⟨rfl,.inl rfl⟩
  ·exact .inr ⟨rfl,.inr (.inl e)⟩)
 clear h4 h;go_wp2_with fail;go_loopw [4,5] (fun o i wr=>∃(k:Nat) (ys:List Int) (a':zA) (c' at2:Nat) (bad2:Bool),o = .slice a' k c'/\i = .int .i64 k/\k<=cnt/\Hid (wr.ownsRow base 3 1 (.slice a' k c') k (ys.map Yo))/\Hid (RdQ wr rp l a n c at2 bad2)/\Hid (Za (fun k=>k=rp\/base<=k) w wr) /\
   Hid ((bad2=false/\bad=false/\Jy Xt (l.drop at0)=some (cnt,t1)/\XI Xt k t1=some (ys,l.drop at2))\/(bad2=true/\F))) (fun _ i _=>cnt - (intOf i).toNat)
 case atStart=>exact⟨0,[],none,0,at',bad',rfl,rfl,Nat.zero_le _,zH (World.ownsRow_nil _ _ _ _),HR,HS,zH (H4.out.imp (fun h=>⟨h.1,h.2.1,h.2.2,by rw[ht1.out];rfl⟩) id)⟩
 case round=>
  obtain⟨k,ys,a',c',at2,bad2,rfl,rfl,hk,HO,HR2,HS2,HX⟩:=hrel;have c2:=HR2.out.c2;have hbs:base<=wr.heap.size:=by rw[<-hbase.out];exact HS2.out.size
  have HYL:=zH (show ys.length=k by have:=HO.out.1;simpa using this);have FIN:Hid (∀W,Za (fun k=>k=rp\/base<=k) w W->Za (fun k=>k=rp) w W):=zH fun W hS=>⟨hS.os,hS.tape,hS.output,hS.size,fun k hk hr=>hS.block k hk (by have:=hbase.out;have h1 : ¬k=rp:=hr;omega)⟩;by_cases hlt:k < cnt
  ·cases bad2 with
   | true=>
    go_wp2;go_ret;refine⟨ys,a',c',by rw[HYL.out];rfl,by rw[HYL.out];exact HO.out,at2,true,HR2.out,FIN.out _ HS2.out,.inr ⟨rfl,?_⟩⟩;rw[<-hF.out];rcases HX.out with ⟨e,_⟩ | ⟨_,e⟩
    ·cases e
    ·exact e
   | false=>
    go_wp2_with fail;refine(ZQ rp l a n c at2 false _ HR2.out).mono ?_;rintro e w2 ⟨z,at3,bad3,rfl,g2,g3,g4⟩;have O2:=zH (Zb (Xd HO.out g3 (fun b cur fr hb=>.inr (by rw[show b=rp from hb];exact HRP.out))) (zB w2 (.cells #[.int .i64 z] 3)));have hbs2:base<=(w2.alloc (.cells #[.int .i64 z] 3)).heap.size:=Nat.le_trans hbs (Nat.le_trans g3.size (by simp));have HR3:=zH (g2.same (S:=fun _=>False) (Za.of_below (zB w2 (.cells #[.int .i64 z] 3))) id (fun _ _ _ _=>id));have HS3:=zH ((HS2.out.trans (YP g3 fun k e=>.inl e)).trans (Za.of_below (S:=fun k=>k=rp\/base<=k) (zB w2 (.cells #[.int .i64 z] 3))));have HX3:Hid ((bad3=false/\bad=false/\Jy Xt (l.drop at0)=some (cnt,t1)/\XI Xt (k+1) t1=some (ys ++ [z],l.drop at3))\/(bad3=true/\F)):=zH (by
     rcases HX.out with ⟨_,e1,e2,e3⟩ | ⟨e,_⟩
     ·rcases g4 with ⟨e4,e5⟩ | ⟨e4,e5,_⟩
      ·exact .inl ⟨e5,e1,e2,VI e3 e4⟩
      ·exact .inr ⟨e5,by rw[hF.out];exact .inr (.inr ⟨cnt,t1,e2,VJ e3 e4 cnt hlt⟩)⟩
     ·cases e)
    clear g2 g3 g4;go_wp2_with (at_builtin;refine Z20 _ rfl _ _ rfl base _ _ _ ys rfl O2.out _ _ _ [z] rfl (Z40 w2 z) (by omega) hbs2 ?_);intro a3 c3 w3 h5 h6;have hlt3:=fun b hb=>(O2.out.lt b hb).1;have HR4:=zH (HR3.out.same (S:=fun j=>base<=j) (Za.of_grown h6 (fun j e=>hlt3 j e)) (by have:=HRP.out;omega) (fun h0 b off e=>by have:=RL.out h0 b off e;omega));have HS4:=zH (HS3.out.trans (Za.of_grown h6 (fun j e=>.inr (hlt3 j e))));have H5:=zH (show w3.ownsRow base 3 1 (.slice a3 (k+1) c3) (k+1) ((ys ++ [z]).map Yo)by simpa using h5);clear h5 h6 hlt3;go_wp2;go_roundw
    case rel=>exact⟨k+1,ys ++ [z],a3,c3,at3,bad3,rfl,by go_num,by omega,H5,HR4,HS4,HX3⟩
    case measure=>simp[intOf];omega
  ·have hkn:k=cnt:=by omega
   subst hkn;go_wp2;go_ret;refine⟨ys,a',c',by rw[HYL.out];rfl,by rw[HYL.out];exact HO.out,at2,bad2,HR2.out,FIN.out _ HS2.out,?_⟩;unfold Z6q;rw[<-hF.out];exact HX.out.imp (fun h=>⟨h.1,h.2.1,k,t1,h.2.2.1,h.2.2.2⟩) id
theorem VR {P:Program}(w:World)(base:Nat)(t ty e:TypeId)(i:TypeInfo)(z:Value)(size bytes:Nat)(ht:P.underlying t=some (.slice e))(hi:P.info? e=some i)(hz:i.zero=some z)
  (hsize:i.size=size) (hby:i.bytes=bytes)
  (sa:zA) (sn sc:Nat) (xs:List Value) (hown:w.ownsRow base e size (.slice sa sn sc) sn xs)
  (xa:zA) (m xc:Nat) (ys:List Value) (hrd:ZX w size xa m xc ys) (h1 : ∀u∈ys,u.oneCell'=true)
  (h63:sn+m<=maxLen) (hbytes:(sn+m) * bytes<=140737488355328) (v:Value) (w':World) (hr:(Builtin.append_ #[t,t] ty #[.slice sa sn sc,.slice xa m xc]).run P w = .ok v w'):
  (∃n' c',v = .slice sa n' c') \/ ∃n' c',v = .slice (some ⟨w.heap.size,0,none⟩) n' c':=by
 subst hsize;subst hby;have hsmall:((sn+m:Nat):Int)<=9223372036854775807:=by simp only[maxLen]at h63;omega
 have hkind:(xa=none/\m=0/\xc=0) \/ ∃ad,xa=some ad /\ ∀j u,ys[j]? = some u->w.cell? (ad.add j)=some u:=by
  rcases hrd.2.2.2 with rfl | ⟨b,off,rfl,h4⟩
  ·have hm:m=0:=by have:=hrd.2.1;omega
   subst hm;have hy:ys=[]:=List.eq_nil_of_length_eq_zero (by simpa using hrd.1);cases xa with
   | none=>exact .inl ⟨rfl,rfl,rfl⟩
   | some ad=>exact .inr ⟨ad,rfl,fun j u hu=>by rw[hy]at hu;simp at hu⟩
  ·exact .inr ⟨_,rfl,fun j u hu=>by rw[Addr.add_lit];exact h4 j u hu⟩
 rcases hkind with ⟨rfl,rfl,rfl⟩ | ⟨ad,rfl,hnews⟩
 ·rw[run_append_owned_none (P:=P) (w:=w) base t ty e i i.size ht hi _ sn xs hown]at hr;cases hr;exact .inl ⟨_,_,rfl⟩
 ·rcases hown.2 with ⟨h2,rfl⟩ | ⟨g,cap,cur,h2,hbg,hg,hnc,hcm,hcs,htake⟩
  ·simp only[Value.slice.injEq]at h2;obtain⟨rfl,_,rfl⟩:=h2;by_cases hm:m=0
   ·subst hm;have hy:ys=[]:=List.eq_nil_of_length_eq_zero (by simpa using hrd.1);have hr':(Builtin.append_ #[t,t] ty #[.slice none 0 0,.slice (some ad) 0 xc]).run P w = .ok (.slice none 0 0) w:=by
     simp[Builtin.append_,run_underlying ht,sizeOf,typeInfo,hi,Builtin.lenOf,Builtin.firstCells,loadCells,loadCellsFrom]
    rw[hr']at hr;cases hr;exact .inl ⟨_,_,rfl⟩
   ·rw[run_append_nil (P:=P) w t ty e i z ht hi hz ad m xc ys hrd.1 hnews (by omega) (by omega) (by have hb:=hbytes;simp only[Nat.zero_add]at hb;omega)]at hr;cases hr;exact .inr ⟨_,_,rfl⟩
  ·simp only[Value.slice.injEq]at h2;obtain⟨rfl,_,rfl⟩:=h2;by_cases hroom:sn+m<=sc
   ·have hfit:sn * i.size+ys.length<=cur.size:=by rw[hrd.1,hcs,<-Nat.add_mul];exact Nat.mul_le_mul_right _ hroom
    rw[run_append_room (P:=P) w t ty e i ht hi g sn sc cur hg ad m xc ys hrd.1 hnews h1 hroom hfit]at hr;cases hr;exact .inl ⟨_,_,rfl⟩
   ·have holds : ∀j u,xs[j]? = some u->w.cell? ((⟨g,0,none⟩:Addr).add j)=some u:=hown.cells (g:=g) rfl;rw[run_append_grow (P:=P) w t ty e i z ht hi hz ⟨g,0,none⟩ sn sc xs hown.1 holds ad m xc ys hrd.1 hnews (by omega) hsmall (growslice_fits (by omega) hbytes)]at hr;cases hr;exact .inr ⟨_,_,rfl⟩
theorem JR (w:World){ops:Array Oper}{rest:List Oper}{o:Oper}{a:Act}{Q:Exit->Act->World->Prop}(hgd:o.guard=none)(s x:Operand)
  (ho:o.op = .call { callee := .builtin .append,args := #[s,x],argTypes := #[41,41] }) (base:Nat)
  (sa:zA) (sn sc:Nat) (xs:zU) (hs:a.eval s = .slice sa sn sc) (hown:w.ownsRow base 5 1 (.slice sa sn sc) sn (xs.map Zt))
  (xa:zA) (m xc:Nat) (ys:zU) (hx:a.eval x = .slice xa m xc) (hrd:Yb w xa m xc ys) (hbytes:sn+m<=140737488355328) (hbase:base<=w.heap.size)
  (h : ∀a' c' w',(a'=sa\/a'=some ⟨w.heap.size,0,none⟩)->w'.ownsRow base 5 1 (.slice a' (sn+m) c') (sn+m) ((xs ++ ys).map Zt)->w.grownBy w' (Value.ownBlock (.slice sa sn sc))->wpList zq ops Q rest (a.put o.dst (.slice a' (sn+m) c')) w'):
  wpList zq ops Q (o :: rest) a w:=by
 obtain⟨i,hi,hz0,hz1,hz2⟩:=info_parts U5;refine wpList_plain hgd fun K hK=>?_;obtain⟨a',c',w',hr,h2,h3⟩:=Xh (P:=zq) w base 41 o.type 5 i (.int .u8 0) 1 1 Tryz.underlying41 hi hz0 hz1 hz2 rfl (by decide) sa sn sc _ hown xa m xc _ hrd (Z0P _) (by unfold maxLen;omega) (by omega) hbase;have hloc:=VR (P:=zq) w base 41 o.type 5 i (.int .u8 0) 1 1 Tryz.underlying41 hi hz0 hz1 hz2 sa sn sc _ hown xa m xc _ hrd (Z0P _) (by unfold maxLen;omega) (by omega) _ _ hr;have hloc':a'=sa\/a'=some ⟨w.heap.size,0,none⟩:=by
  rcases hloc with ⟨n',c'',h⟩ | ⟨n',c'',h⟩
  ·simp only[Value.slice.injEq]at h;exact .inl h.1
  ·simp only[Value.slice.injEq]at h;exact .inr h.1
 unfold Oper.wp;simp[execOp,ho,resolve,invoke,builtin,hs,hx,hr,Result.andThen];exact hK _ _ (h a' c' w' hloc' (by rw[List.map_append];exact h2) h3)
structure JAt (w:World)(p o:Nat)(a:zA)(n c:Nat)(d:Nat):Prop where
 c0:w.cell? ⟨p,o,none⟩=some (.slice a n c)
 c1:w.cell? ⟨p,o+1,none⟩=some (.int .i64 d)
 f0:w.frozen? ⟨p,o,none⟩=false
 f1:w.frozen? ⟨p,o+1,none⟩=false
theorem Z5k (w:World)(p o:Nat)(a:zA)(n c d:Nat)(h:JAt w p o a n c d):
  Calls zq 128 #[.pointer (some ⟨p,o,none⟩)] w fun e w'=>e = .returned (.tuple #[])/\w.setCell ⟨p,o+1,none⟩ (.int .i64 n)=w':=by
 obtain⟨c0,c1,f0,f1⟩:=h;go_enter Tryz.func128,Tryz.ntmps128;go_wp2;go_end0;exact⟨rfl,rfl⟩
theorem Vz (w:World)(p o:Nat)(a:zA)(n c d:Nat)(h:JAt w p o a n c d)(hd:d<=n)(hn:n<=9223372036854775807):
  Calls zq 110 #[.pointer (some ⟨p,o,none⟩)] w fun e w'=>e = .returned (.int .i64 ((n:Int) - d)) /\ ∃q,w'=w.drewN q:=by
 obtain⟨c0,c1,f0,f1⟩:=h;go_enter Tryz.func110,Tryz.ntmps110;go_wp2;go_quiet (fail);go_wp2;go_ret;exact⟨rfl,_,rfl⟩
theorem Z5m (w:World)(p o:Nat)(a:zA)(n c d:Nat)(l:zU)(h:JAt w p o a n c d)(hr:Yb w a n c l)(m:Nat)(hm:d+m<=n)(hn:n<=16777216):
  Calls zq 111 #[.pointer (some ⟨p,o,none⟩),.int .i64 m] w fun e w'=>e = .returned (.tuple #[]) /\ ∃a' c' w1,w1.ownsRow w.heap.size 5 1 (.slice a' (d+m) c') (d+m) ((l.take (d+m)).map Zt)/\Below w.heap.size w w1/\w'=w1.setCell ⟨p,o,none⟩ (.slice a' (d+m) c'):=by
 obtain⟨c0,c1,f0,f1⟩:=h;obtain⟨ka,hcut,hrk⟩:=U9 hr 0 (d+m) none (some (.int .i64 ((d:Int)+m))) (.inl ⟨rfl,rfl⟩) (.inr ⟨_,by go_num⟩) (Nat.zero_le _) hm;rw[Nat.sub_zero,Nat.sub_zero,List.drop_zero]at hrk;have hw:IntKind.i64.wrap ((d:Int)+m)=(d:Int)+m:=by rw[IntKind.wrap_i64];omega
 go_enter Tryz.func111,Tryz.ntmps111;go_wp2;have hlt:p < w.heap.size:=World.block_lt_of_cell? w ⟨p,o,none⟩ c0;go_region_with (go_at_call 102;refine(Z5y ka (d+m) c (l.take (d+m)) _ (by omega) (hrk.below (Below.refl _ _).drew)).mono ?_;rintro e w1 ⟨a',c',rfl,ho,hb⟩;have d0:=(hb.cell (p:=⟨p,o,none⟩) hlt).trans c0;have e0:=(hb.frozen (p:=⟨p,o,none⟩) hlt).trans f0)
 all_goals
  go_end0;exact⟨rfl,a',c',w1,ho,(Below.refl _ _).drew.trans hb,rfl⟩
def Ue (w:World)(p:Nat)(F:Nat->Prop)(sb fb:zU)(sd fd:Nat):Prop:=
 ∃sa sc fa fc,w.heap[p]? = some (.cells #[.slice sa sb.length sc,.int .i64 sd,.slice fa fb.length fc,.int .i64 fd] 168) /\
  w.ownsRow 0 5 1 (.slice sa sb.length sc) sb.length (sb.map Zt)/\w.ownsRow 0 5 1 (.slice fa fb.length fc) fb.length (fb.map Zt) /\
  (∀k,Value.ownBlock (.slice sa sb.length sc)=some k->Value.ownBlock (.slice fa fb.length fc)≠some k) /\
  (∀k,F k↔(k=p\/Value.ownBlock (.slice sa sb.length sc)=some k\/Value.ownBlock (.slice fa fb.length fc)=some k)) /\
  sd<=sb.length/\fd<=fb.length/\sb.length<=16777216/\fb.length<=16777216
theorem Ue.lt {w:World}{p:Nat}{F:Nat->Prop}{sb fb:zU}{sd fd:Nat}(h:Ue w p F sb fb sd fd): ∀k,F k->k < w.heap.size:=by
 obtain⟨sa,sc,fa,fc,h1,h2,h3,h4,h5,h6⟩:=h;intro k hk;rcases(h5 k).1 hk with rfl | h | h
 ·exact(Array.getElem?_eq_some_iff.1 h1).1
 ·exact(h2.lt k h).2
 ·exact(h3.lt k h).2
theorem Zi {S:Nat->Prop}{W W':World}{base:Nat}{e:TypeId}{k:Nat}{v:Value}{n:Nat}{xs:List Value}(h:W.ownsRow base e k v n xs)(hs:Za S W W')
  (hd : ∀b,v.ownBlock=some b -> ¬S b):W'.ownsRow base e k v n xs:=by
 refine⟨h.1,?_⟩;rcases h.2 with h | ⟨g,cap,cur,rfl,hg,hgg,hr⟩
 ·exact .inl h
 ·exact .inr ⟨g,cap,cur,rfl,hg,(hs.block g (Array.getElem?_eq_some_iff.1 hgg).1 (hd g rfl)).trans hgg,hr⟩
theorem Ue.same {w w':World}{p:Nat}{F S:Nat->Prop}{sb fb:zU}{sd fd:Nat}(h:Ue w p F sb fb sd fd)(hs:Za S w w')(hd : ∀k,S k -> ¬F k):Ue w' p F sb fb sd fd:=by
 obtain⟨sa,sc,fa,fc,h1,h2,h3,h4,h5,h6⟩:=h;refine⟨sa,sc,fa,fc,?_,Zi h2 hs (fun b hb hS=>hd b hS ((h5 b).2 (.inr (.inl hb)))),Zi h3 hs (fun b hb hS=>hd b hS ((h5 b).2 (.inr (.inr hb)))),h4,h5,h6⟩;exact(hs.block p (Array.getElem?_eq_some_iff.1 h1).1 (fun hS=>hd p hS ((h5 p).2 (.inl rfl)))).trans h1
theorem zl (w:World):Calls zq 48 #[] w fun e w'=>e = .returned (.pointer (some ⟨w.heap.size,0,none⟩))/\Ue w' w.heap.size (fun k=>k=w.heap.size) [] [] 0 0/\Below w.heap.size w w':=by
 go_enter Tryz.func48,Tryz.ntmps48;go_wp2;go_ret;exact⟨rfl,⟨none,0,none,0,heap_alloc_new w _,World.ownsRow_nil _ _ _ _,World.ownsRow_nil _ _ _ _,fun k h=>by simp[Value.ownBlock]at h,fun k=>by simp[Value.ownBlock],Nat.le_refl _,Nat.le_refl _,Nat.zero_le _,Nat.zero_le _⟩,zB _ _⟩
theorem J9 {w:World}{base:Nat}{e e':TypeId}{k:Nat}{v:Value}{n:Nat}{xs:List Value}(h:w.ownsRow base e k v n xs){p:Nat}{cur:Xz}{fr:Nat×Nat}(hp:w.heap[p]? = some (.cells cur e' fr))(hne:e≠e'):Value.ownBlock v≠some p:=by
 intro hk;rcases h.2 with ⟨rfl,_⟩ | ⟨g,cap,cu,rfl,_,hg,_⟩
 ·simp[Value.ownBlock]at hk
 ·simp only[Value.ownBlock,Option.some.injEq]at hk;subst hk;rw[hg]at hp;simp only[Option.some.injEq,Obj.cells.injEq]at hp;exact hne hp.2.1
theorem JO {sa a':zA}{w:World}{n c n' c':Nat}(h:a'=sa\/a'=some ⟨w.heap.size,0,none⟩){k:Nat}(hk:Value.ownBlock (.slice a' n' c')=some k):Value.ownBlock (.slice sa n c)=some k\/k=w.heap.size:=by
 rcases h with rfl | rfl
 ·left;cases a' <;> simp_all[Value.ownBlock]
 ·right;simp[Value.ownBlock]at hk;exact hk.symm
theorem Z8Z (w:World)(p:Nat)(F:Nat->Prop)(sb fb:zU)(sd fd:Nat)(a:zA)(n c:Nat)(l:zU)(h:Ue w p F sb fb sd fd)(hr:Yb w a n c l)(hn:n < 65536)
  (hs:sb.length+n+2<=16777216) (hf:fb.length+4<=16777216):
  Calls zq 109 #[.pointer (some ⟨p,0,none⟩),.slice a n c] w fun e w'=>e = .returned (.tuple #[]) /\ ∃F',Ue w' p F' (sb ++ ZT l) (fb ++ Y5 l) sd fd/\Za F w w'/\(∀k,F' k->F k\/w.heap.size<=k):=by
 have hFlt:=h.lt;go_enter Tryz.func109,Tryz.ntmps109;go_wp2_with fail;refine(Z1j _ _ _ l _ hr hn).mono ?_;rintro e w1 ⟨a1,c1,a2,c2,rfl,hw1,hw2,hb1⟩;have h1:=h.same (S:=fun _=>False) (Za.of_below hb1) (fun _ e=>e.elim);obtain⟨sa,sc,fa,fc,g1,g2,g3,g4,g5,g6,g7,g8,g9⟩:=h1;have e1:w1.cell? ⟨p,0,none⟩=some (.slice sa sb.length sc):=by simp[World.cell?,g1]
 have hlen:=(Z0c l);have hll:=hr.len;have HLS:=zH hlen;clear hlen;have HLL:=zH hll;clear hll;have HLF:=zH (Z1l l);have G4:=zH g4;clear g4;have G5:=zH g5;clear g5;have hFlt':=zH hFlt;clear hFlt;have hws:=Yb.of_own hw1;go_wp2_with (at_builtin;refine JR _ rfl _ _ rfl 0 _ _ _ sb rfl g2 _ _ _ (ZT l) rfl hws (by rw[HLS.out,HLL.out];omega) (Nat.zero_le _) ?_;intro sa' sc' w2 hloc ho2 hg2;refine Hid.out ?_);refine zH ?_;have n1:=J9 g2 g1 (by decide);have n2:=J9 g3 g1 (by decide);have hp1:p < w1.heap.size:=(Array.getElem?_eq_some_iff.1 g1).1;have p2:w2.heap[p]? = _:=(hg2.block p hp1 (fun e=>n1 e.symm)).trans g1;have g3':w2.ownsRow 0 5 1 (.slice fa fb.length fc) fb.length (fb.map Zt):=g3.kept hg2 (by
  cases hv:Value.ownBlock (.slice fa fb.length fc)with
  | none=>exact .inl rfl
  | some k=>exact .inr (fun e=>G4.out k e.symm hv))
 have hw2':=hw2.kept hg2 (by
  cases hv:Value.ownBlock (.slice a2 (Y5 l).length c2)with
  | none=>exact .inl rfl
  | some k=>exact .inr (fun e=>by
    have:=(hw2.lt k hv).1;have:=hFlt'.out k ((G5.out k).2 (.inr (.inl e.symm)));omega))
 have hz2:=hg2.size;have n3:=J9 ho2 p2 (by decide);have e2:w2.cell? ⟨p,0,none⟩=some (.slice sa sb.length sc):=by simp[World.cell?,p2]
 have e3:w2.frozen? ⟨p,0,none⟩=false:=by simp[World.frozen?,p2]
 have p3:=heap_setCell_same w2 p 0 _ 168 (.slice sa' (sb.length+(ZT l).length) sc') p2;simp only[List.setIfInBounds_toArray,List.set_cons_zero]at p3;have s3:Za (fun k=>k=p) w2 (w2.setCell ⟨p,0,none⟩ (.slice sa' (sb.length+(ZT l).length) sc')):=Za.setCell _ rfl;have ho3:=Zi ho2 s3 (fun b hb e=>n3 (by rw[hb,e]));have n2':=J9 g3' p2 (by decide);have g33:=Zi g3' s3 (fun b hb e=>n2' (by rw[hb,e]));have n4:=J9 hw2' p2 (by decide);have hw3:=Yb.of_own (Zi hw2' s3 (fun b hb e=>n4 (by rw[hb,e])));have hz3:=s3.size;have e4:w2.cell? ⟨p,2,none⟩=some (.slice fa fb.length fc):=by simp[World.cell?,p2]
 have G6:=zH p2;clear p2;have G7:=zH p3;clear p3;clear e1 g1 g2 g3 g3' hw1 hw2 hw2' hws;go_wp2_with (at_builtin;refine JR _ rfl _ _ rfl 0 _ _ _ fb rfl g33 _ _ _ (Y5 l) rfl hw3 (by rw[HLF.out];omega) (Nat.zero_le _) ?_;intro fa' fc' w4 hloc4 ho4 hg4;refine Hid.out ?_);refine zH ?_;generalize hw3e:w2.setCell ⟨p,0,none⟩ (.slice sa' (sb.length+(ZT l).length) sc')=w3 at *;have HW3:=zH hw3e;clear hw3e e2 e3 e4;have p3:=G7.out;have m2:=J9 g33 p3 (by decide);have hp3:p < w3.heap.size:=(Array.getElem?_eq_some_iff.1 p3).1;have p4:w4.heap[p]? = _:=(hg4.block p hp3 (fun e=>m2 e.symm)).trans p3;have e2:w4.cell? ⟨p,2,none⟩=some (.slice fa fb.length fc):=by simp[World.cell?,p4]
 have e3:w4.frozen? ⟨p,2,none⟩=false:=by simp[World.frozen?,p4]
 have P4:=zH p4;clear p4 p3;go_wp2_with fail;have p5:=heap_setCell_same w4 p 2 _ 168 (.slice fa' (fb.length+(Y5 l).length) fc') P4.out;have s5:Za (fun k=>k=p) w4 (w4.setCell ⟨p,2,none⟩ (.slice fa' (fb.length+(Y5 l).length) fc')):=
  Za.of_grown (row:=some p) ⟨rfl,rfl,rfl,by simp[World.setCell],fun k _ hk=>Below.heap_setCell w4 ⟨p,2,none⟩ _ k (fun e=>hk (by rw[e]))⟩ (fun k e=>by cases e;rfl)
 generalize w4.setCell ⟨p,2,none⟩ (.slice fa' (fb.length+(Y5 l).length) fc')=w5 at *;have hz1:=hb1.size;have hz4:=hg4.size;have hfa : ∀k,Value.ownBlock (.slice fa fb.length fc)=some k->k < w.heap.size:=fun k hk=>hFlt'.out k ((G5.out k).2 (.inr (.inr hk)));have hsa : ∀k,Value.ownBlock (.slice sa sb.length sc)=some k->k < w.heap.size:=fun k hk=>hFlt'.out k ((G5.out k).2 (.inr (.inl hk)));have ho34:=ho3.kept hg4 (by
  cases hv:Value.ownBlock (.slice sa' (sb.length+(ZT l).length) sc')with
  | none=>exact .inl rfl
  | some k=>
   refine .inr (fun e=>?_);rcases JO (n:=sb.length) (c:=sc) hloc hv with h1 | h1
   ·exact G4.out k h1 e.symm
   ·have:=hfa k e.symm;omega)
 have ho35:=Zi ho34 s5 (fun b hb e=>n3 (by rw[hb,e]));have n5:=J9 ho4 P4.out (by decide);have ho45:=Zi ho4 s5 (fun b hb e=>n5 (by rw[hb,e]));have hAll:Za F w w5:=
  ((((Za.of_below hb1).trans (Za.of_grown hg2 (fun k hk=>(G5.out k).2 (.inr (.inl hk))))).trans ⟨s3.os,s3.tape,s3.output,s3.size,fun k hk hF=>s3.block k hk (fun e=>hF ((G5.out k).2 (.inl e)))⟩).trans (Za.of_grown hg4 (fun k hk=>(G5.out k).2 (.inr (.inr hk))))).trans ⟨s5.os,s5.tape,s5.output,s5.size,fun k hk hF=>s5.block k hk (fun e=>hF ((G5.out k).2 (.inl e)))⟩
 have e1:(sb ++ ZT l).length=sb.length+(ZT l).length:=List.length_append;have e2:(fb ++ Y5 l).length=fb.length+(Y5 l).length:=List.length_append;go_end0;refine⟨rfl,fun k=>k=p\/Value.ownBlock (.slice sa' (sb ++ ZT l).length sc')=some k\/Value.ownBlock (.slice fa' (fb ++ Y5 l).length fc')=some k,⟨sa',sc',fa',fc',?_,?_,?_,?_,fun k=>Iff.rfl,?_,?_,?_,?_⟩,hAll,?_⟩
 ·rw[e1,e2,p5];rfl
 ·rw[e1];exact ho35
 ·rw[e2];exact ho45
 ·intro k hk hk';rw[e1]at hk;rw[e2]at hk';rcases JO (n:=sb.length) (c:=sc) hloc hk with h1 | h1 <;> rcases JO (n:=fb.length) (c:=fc) hloc4 hk' with h2 | h2
  ·exact G4.out k h1 h2
  ·have:=hsa k h1;omega
  ·have:=hfa k h2;omega
  ·have:=(ho2.lt k hk).2;omega
 ·rw[e1];omega
 ·rw[e2];omega
 ·rw[e1,HLS.out,HLL.out];omega
 ·rw[e2,HLF.out];omega
 ·rintro k (rfl | hk | hk)
  ·exact .inl ((G5.out _).2 (.inl rfl))
  ·rcases JO (n:=sb.length) (c:=sc) hloc hk with h1 | h1
   ·exact .inl ((G5.out k).2 (.inr (.inl h1)))
   ·exact .inr (by omega)
  ·rcases JO (n:=fb.length) (c:=fc) hloc4 hk with h1 | h1
   ·exact .inl ((G5.out k).2 (.inr (.inr h1)))
   ·exact .inr (by omega)
theorem Z9g (w:World)(p:Nat)(F:Nat->Prop)(sb fb:zU)(sd fd:Nat)(a:zA)(n c:Nat)(l:zU)(h:Ue w p F sb fb sd fd)(hr:Yb w a n c l)
  (h1:n<=8192) (h2:sb.length+n+2<=16777216) (h3:fb.length+4<=16777216):
  Calls zq 49 #[.pointer (some ⟨p,0,none⟩),.slice a n c] w fun e w'=>e = .returned (.int .i64 0) /\ ∃F',Ue w' p F' (sb ++ ZT l) (fb ++ Y5 l) sd fd/\Za F w w'/\(∀k,F' k->F k\/w.heap.size<=k):=by
 have hput:=Z8Z w p F sb fb sd fd a n c l h hr (by omega) h2 h3;obtain⟨sa,sc,fa,fc,g1,g2,g3,g4,g5,g6,g7,g8,g9⟩:=h;have e1:w.cell? ⟨p,0,none⟩=some (.slice sa sb.length sc):=by simp[World.cell?,g1]
 have e2:w.cell? ⟨p,2,none⟩=some (.slice fa fb.length fc):=by simp[World.cell?,g1]
 have q1:decide ((8192:Int) < (n:Int))=false:=by simp;omega
 have q2:decide ((16777216:Int) < (sb.length:Int)+n+2)=false:=by simp;omega
 have q3:decide ((16777216:Int) < (fb.length:Int)+4)=false:=by simp;omega
 clear g1 g2 g3 g4 g5;have HP:=zH hput;clear hput;go_enter Tryz.func49,Tryz.ntmps49;go_wp2_with fail;refine HP.out.mono ?_;rintro e w' ⟨rfl,hpost⟩;go_wp2;go_ret;exact⟨rfl,hpost⟩
theorem Ue.j0 {w:World}{p:Nat}{F:Nat->Prop}{sb fb:zU}{sd fd:Nat}(h:Ue w p F sb fb sd fd): ∃a c,JAt w p 0 a sb.length c sd/\w.ownsRow 0 5 1 (.slice a sb.length c) sb.length (sb.map Zt):=by
 obtain⟨sa,sc,fa,fc,g1,g2,g3,g4,g5,g6,g7,g8,g9⟩:=h;exact⟨sa,sc,⟨by simp[World.cell?,g1],by simp[World.cell?,g1],by simp[World.frozen?,g1],by simp[World.frozen?,g1]⟩,g2⟩
theorem Ue.j2 {w:World}{p:Nat}{F:Nat->Prop}{sb fb:zU}{sd fd:Nat}(h:Ue w p F sb fb sd fd): ∃a c,JAt w p 2 a fb.length c fd/\w.ownsRow 0 5 1 (.slice a fb.length c) fb.length (fb.map Zt):=by
 obtain⟨sa,sc,fa,fc,g1,g2,g3,g4,g5,g6,g7,g8,g9⟩:=h;exact⟨fa,fc,⟨by simp[World.cell?,g1],by simp[World.cell?,g1],by simp[World.frozen?,g1],by simp[World.frozen?,g1]⟩,g3⟩
theorem Ue.setDur {w:World}{p:Nat}{F:Nat->Prop}{sb fb:zU}{sd fd:Nat}(h:Ue w p F sb fb sd fd)(d:Nat):
  (d<=sb.length->Ue (w.setCell ⟨p,1,none⟩ (.int .i64 d)) p F sb fb d fd)/\(d<=fb.length->Ue (w.setCell ⟨p,3,none⟩ (.int .i64 d)) p F sb fb sd d):=by
 obtain⟨sa,sc,fa,fc,g1,g2,g3,g4,g5,g6,g7,g8,g9⟩:=h;have n1:=J9 g2 g1 (by decide);have n2:=J9 g3 g1 (by decide);have s1 : ∀o,Za (fun k=>k=p) w (w.setCell ⟨p,o,none⟩ (.int .i64 d)):=fun o=>
  Za.of_grown (row:=some p) ⟨rfl,rfl,rfl,by simp[World.setCell],fun k _ hk=>Below.heap_setCell w ⟨p,o,none⟩ _ k (fun e=>hk (by rw[e]))⟩ (fun k e=>by cases e;rfl)
 constructor
 ·intro hd;refine⟨sa,sc,fa,fc,?_,Zi g2 (s1 1) (fun b hb e=>n1 (by rw[hb,e])),Zi g3 (s1 1) (fun b hb e=>n2 (by rw[hb,e])),g4,g5,hd,g7,g8,g9⟩;rw[heap_setCell_same w p 1 _ 168 _ g1];rfl
 ·intro hd;refine⟨sa,sc,fa,fc,?_,Zi g2 (s1 3) (fun b hb e=>n1 (by rw[hb,e])),Zi g3 (s1 3) (fun b hb e=>n2 (by rw[hb,e])),g4,g5,g6,hd,g8,g9⟩;rw[heap_setCell_same w p 3 _ 168 _ g1];rfl
theorem Z3E (w:World)(p:Nat)(F:Nat->Prop)(sb fb:zU)(sd fd:Nat)(h:Ue w p F sb fb sd fd):
  Calls zq 74 #[.pointer (some ⟨p,0,none⟩)] w fun e w'=>e = .returned (.tuple #[])/\Ue w' p F sb fb sb.length fb.length/\Za (fun k=>k=p) w w':=by
 obtain⟨sa,sc,j1,_⟩:=h.j0;have h2:=(h.setDur sb.length).1 (Nat.le_refl _);have h3:=(h2.setDur fb.length).2 (Nat.le_refl _);obtain⟨fa,fc,j3,_⟩:=h2.j2;have HH:=zH h3;clear h3 h2 h;go_enter Tryz.func74,Tryz.ntmps74;go_wp2_with fail;refine(Z5k _ _ _ _ _ _ _ j1).mono ?_;rintro e w' ⟨rfl,rfl⟩;go_wp2_with fail;refine(Z5k _ _ _ _ _ _ _ j3).mono ?_;rintro e w' ⟨rfl,rfl⟩;go_wp2;go_end0;refine⟨rfl,HH.out,?_⟩;refine Za.trans (Za.of_grown (row:=some p) (W':=w.setCell ⟨p,1,none⟩ (.int .i64 sb.length)) ⟨rfl,rfl,rfl,by simp[World.setCell],fun k _ hk=>Below.heap_setCell w ⟨p,1,none⟩ _ k (fun e=>hk (by rw[e]))⟩ (fun k e=>by cases e;rfl)) ?_;exact Za.of_grown (row:=some p) ⟨rfl,rfl,rfl,by simp[World.setCell],fun k _ hk=>Below.heap_setCell _ ⟨p,3,none⟩ _ k (fun e=>hk (by rw[e]))⟩ (fun k e=>by cases e;rfl)
theorem Z0Y (w:World)(p:Nat)(F:Nat->Prop)(sb fb:zU)(sd fd:Nat)(h:Ue w p F sb fb sd fd):
  Calls zq 51 #[.pointer (some ⟨p,0,none⟩)] w fun e w' => ∃oa oc,e = .returned (.slice oa (ZB sb fb).length oc)/\Xq w' w.heap.size oa (ZB sb fb).length oc (ZB sb fb)/\Below w.heap.size w w':=by
 obtain⟨sa,sc,fa,fc,g1,g2,g3,g4,g5,g6,g7,g8,g9⟩:=h;have e1:w.cell? ⟨p,0,none⟩=some (.slice sa sb.length sc):=by simp[World.cell?,g1]
 have e2:w.cell? ⟨p,2,none⟩=some (.slice fa fb.length fc):=by simp[World.cell?,g1]
 have hlt:p < w.heap.size:=(Array.getElem?_eq_some_iff.1 g1).1;have r1:=Yb.of_own g2;have r2:=Yb.of_own g3;clear g1 g2 g3 g4 g5;go_enter Tryz.func51,Tryz.ntmps51;go_wp2_with fail;go_region_held3 (fun w'=>w'.cell? ⟨p,0,none⟩=some (.slice sa sb.length sc)/\w'.cell? ⟨p,2,none⟩=some (.slice fa fb.length fc)) (first | exact⟨e1,e2⟩ | exact⟨(hb.cell (p:=⟨p,0,none⟩) hlt).trans e1,(hb.cell (p:=⟨p,2,none⟩) hlt).trans e2⟩)
  (first|(go_at_call 47;refine(Z7c _ _ _ sb _ _ _ fb _ (r1.below (Below.refl _ _).drew) (r2.below (Below.refl _ _).drew) (by omega) (by omega)).mono ?_;rintro e w1 ⟨oa,oc,rfl,ho,hb⟩))
 go_wp2;go_ret;exact⟨oa,oc,rfl,ho,(Below.refl _ _).drew.trans hb⟩
def Uy (sb fb:zU)(sd fd:Nat)(stock foil flip:Int):Prop:=
 0<=stock/\stock<=(sb.length:Int) - sd/\0<=foil/\foil<=(fb.length:Int) - fd /\ -1<=flip/\flip < 8 * (stock+foil)
theorem Zbl (w:World)(p:Nat)(F:Nat->Prop)(sb fb:zU)(sd fd:Nat)(stock foil flip:Int)(h:Ue w p F sb fb sd fd)(hc : ¬Uy sb fb sd fd stock foil flip):
  Calls zq 50 #[.pointer (some ⟨p,0,none⟩),.int .i64 stock,.int .i64 foil,.int .i64 flip] w fun e w'=>e = .returned (.int .i64 1) /\ ∃q,w'=w.drewN q:=by
 have hq : ∀q,Ue (w.drewN q) p F sb fb sd fd:=fun q=>h.same (S:=fun _=>False) (Za.of_below (below_drewN (Below.refl _ _) q)) (fun _ e=>e.elim);obtain⟨_,_,_,_,_,_,_,_,_,g6,g7,g8,g9⟩:=id h;have P1 : ∀q,Calls zq 110 #[.pointer (some ⟨p,0,none⟩)] (w.drewN q) fun e w'=>e = .returned (.int .i64 ((sb.length:Int) - sd)) /\ ∃q',w'=w.drewN q':=by
  intro q;obtain⟨a,c,j,_⟩:=(hq q).j0;refine(Vz _ _ _ _ _ _ _ j g6 (by omega)).mono ?_;rintro e w' ⟨rfl,q',rfl⟩;exact⟨rfl,q+q',by rw[World.drewN_drewN]⟩
 have P2 : ∀q,Calls zq 110 #[.pointer (some ⟨p,2,none⟩)] (w.drewN q) fun e w'=>e = .returned (.int .i64 ((fb.length:Int) - fd)) /\ ∃q',w'=w.drewN q':=by
  intro q;obtain⟨a,c,j,_⟩:=(hq q).j2;refine(Vz _ _ _ _ _ _ _ j g7 (by omega)).mono ?_;rintro e w' ⟨rfl,q',rfl⟩;exact⟨rfl,q+q',by rw[World.drewN_drewN]⟩
 have H1:=zH P1;clear P1;have H2:=zH P2;clear P2 hq h;have hd0:w=w.drewN 0:=rfl;have D0:=zH hd0;clear hd0;by_cases c1:0<=stock
 ·have q1:decide (stock < 0)=false:=by simp;omega
  by_cases c2:stock<=(sb.length:Int) - sd
  ·have q2:decide ((sb.length:Int) - sd < stock)=false:=by simp;omega
   by_cases c3:0<=foil
   ·have q3:decide (foil < 0)=false:=by simp;omega
    by_cases c4:foil<=(fb.length:Int) - fd
    ·have q4:decide ((fb.length:Int) - fd < foil)=false:=by simp;omega
     by_cases c5 : -1<=flip
     focus
      have q5:decide (flip < -1)=false:=by simp;omega
      have q6:decide (8 * (stock+foil)<=flip)=true:=by
       simp only[decide_eq_true_eq];by_cases hx:8 * (stock+foil)<=flip
       ·exact hx
       ·exact absurd ⟨c1,c2,c3,c4,c5,by omega⟩ hc
     rotate_left
     focus
      have q5:decide (flip < -1)=true:=by simp;omega
     all_goals
      clear hc;go_enter Tryz.func50,Tryz.ntmps50;go_wp2_with fail;refine(H1.out 0).mono ?_;rintro e w' ⟨rfl,q,rfl⟩;go_wp2_with fail;refine(H2.out q).mono ?_;rintro e w' ⟨rfl,q',rfl⟩;go_wp2;go_ret;exact⟨rfl,_,rfl⟩
    ·have q4:decide ((fb.length:Int) - fd < foil)=true:=by simp;omega
     clear hc;go_enter Tryz.func50,Tryz.ntmps50;go_wp2_with fail;refine(H1.out 0).mono ?_;rintro e w' ⟨rfl,q,rfl⟩;go_wp2_with fail;refine(H2.out q).mono ?_;rintro e w' ⟨rfl,q',rfl⟩;go_wp2;go_ret;exact⟨rfl,_,rfl⟩
   ·have q3:decide (foil < 0)=true:=by simp;omega
    clear hc;go_enter Tryz.func50,Tryz.ntmps50;go_wp2_with fail;refine(H1.out 0).mono ?_;rintro e w' ⟨rfl,q,rfl⟩;go_wp2;go_ret;exact⟨rfl,_,rfl⟩
  ·have q2:decide ((sb.length:Int) - sd < stock)=true:=by simp;omega
   clear hc;go_enter Tryz.func50,Tryz.ntmps50;go_wp2_with fail;refine(H1.out 0).mono ?_;rintro e w' ⟨rfl,q,rfl⟩;go_wp2;go_ret;exact⟨rfl,_,rfl⟩
 ·have q1:decide (stock < 0)=true:=by simp;omega
  clear hc;go_enter Tryz.func50,Tryz.ntmps50;go_wp2;go_ret;exact⟨rfl,0,rfl⟩
def Qk (l:zU)(i b:Nat):zU:=l.set i ((l[i]?.getD 0) ^^^ UInt8.ofNat (2 ^ b))
theorem Qj (l:zU)(i b:Nat):(Qk l i b).length=l.length:=by simp[Qk]
def JL (sb:zU)(sd stock:Nat)(flip:Int):zU:=
 if 0<=flip/\flip.toNat / 8 < stock then Qk (sb.take (sd+stock)) (sd+flip.toNat / 8) (flip.toNat % 8)else sb.take (sd+stock)
def Ja (fb:zU)(fd stock foil:Nat)(flip:Int):zU:=
 if 0<=flip /\ ¬flip.toNat / 8 < stock then Qk (fb.take (fd+foil)) (fd+flip.toNat / 8 - stock) (flip.toNat % 8)else fb.take (fd+foil)
theorem Ue.setStock {w w1:World}{p:Nat}{F:Nat->Prop}{sb fb:zU}{sd fd:Nat}(h:Ue w p F sb fb sd fd)(hb:Below w.heap.size w w1){a:zA}{m c:Nat}{l:zU}
  (ho:w1.ownsRow w.heap.size 5 1 (.slice a m c) m (l.map Zt)) (hd:sd<=m) (hm:m<=16777216):
  ∃F',Ue (w1.setCell ⟨p,0,none⟩ (.slice a m c)) p F' l fb sd fd/\Za F w (w1.setCell ⟨p,0,none⟩ (.slice a m c))/\(∀k,F' k->F k\/w.heap.size<=k):=by
 have hlt:=h.lt;obtain⟨sa,sc,fa,fc,g1,g2,g3,g4,g5,g6,g7,g8,g9⟩:=h.same (S:=fun _=>False) (Za.of_below hb) (fun _ e=>e.elim);have hl:l.length=m:=by simpa using ho.1
 have n1:=J9 ho g1 (by decide);have n2:=J9 g3 g1 (by decide);have s1:Za (fun k=>k=p) w1 (w1.setCell ⟨p,0,none⟩ (.slice a m c)):=Za.setCell _ rfl;refine⟨fun k=>k=p\/Value.ownBlock (.slice a l.length c)=some k\/Value.ownBlock (.slice fa fb.length fc)=some k,⟨a,c,fa,fc,?_,?_,Zi g3 s1 (fun b hb e=>n2 (by rw[hb,e])),?_,fun k=>Iff.rfl,by omega,g7,by omega,g9⟩,?_,?_⟩
 ·rw[heap_setCell_same w1 p 0 _ 168 _ g1,hl];rfl
 ·rw[hl];exact Zp (Zi ho s1 (fun b hb e=>n1 (by rw[hb,e]))) (Nat.zero_le _)
 ·intro k hk hk';rw[hl]at hk;have:=(ho.lt k hk).1;have:=hlt k ((g5 k).2 (.inr (.inr hk')));omega
 ·exact(Za.of_below hb).trans ⟨s1.os,s1.tape,s1.output,s1.size,fun k hk hF=>s1.block k hk (fun e=>hF ((g5 k).2 (.inl e)))⟩
 ·rintro k (rfl | hk | hk)
  ·exact .inl ((g5 _).2 (.inl rfl))
  ·rw[hl]at hk;exact .inr (ho.lt k hk).1
  ·exact .inl ((g5 k).2 (.inr (.inr hk)))
theorem Ue.setFoil {w w1:World}{p:Nat}{F:Nat->Prop}{sb fb:zU}{sd fd:Nat}(h:Ue w p F sb fb sd fd)(hb:Below w.heap.size w w1){a:zA}{m c:Nat}{l:zU}
  (ho:w1.ownsRow w.heap.size 5 1 (.slice a m c) m (l.map Zt)) (hd:fd<=m) (hm:m<=16777216):
  ∃F',Ue (w1.setCell ⟨p,2,none⟩ (.slice a m c)) p F' sb l sd fd/\Za F w (w1.setCell ⟨p,2,none⟩ (.slice a m c))/\(∀k,F' k->F k\/w.heap.size<=k):=by
 have hlt:=h.lt;obtain⟨sa,sc,fa,fc,g1,g2,g3,g4,g5,g6,g7,g8,g9⟩:=h.same (S:=fun _=>False) (Za.of_below hb) (fun _ e=>e.elim);have hl:l.length=m:=by simpa using ho.1
 have n1:=J9 ho g1 (by decide);have n2:=J9 g2 g1 (by decide);have s1:Za (fun k=>k=p) w1 (w1.setCell ⟨p,2,none⟩ (.slice a m c)):=
  Za.of_grown (row:=some p) ⟨rfl,rfl,rfl,by simp[World.setCell],fun k _ hk=>Below.heap_setCell w1 ⟨p,2,none⟩ _ k (fun e=>hk (by rw[e]))⟩ (fun k e=>by cases e;rfl)
 refine⟨fun k=>k=p\/Value.ownBlock (.slice sa sb.length sc)=some k\/Value.ownBlock (.slice a l.length c)=some k,⟨sa,sc,a,c,?_,Zi g2 s1 (fun b hb e=>n2 (by rw[hb,e])),?_,?_,fun k=>Iff.rfl,g6,by omega,g8,by omega⟩,?_,?_⟩
 ·rw[heap_setCell_same w1 p 2 _ 168 _ g1,hl];rfl
 ·rw[hl];exact Zp (Zi ho s1 (fun b hb e=>n1 (by rw[hb,e]))) (Nat.zero_le _)
 ·intro k hk hk';rw[hl]at hk';have:=(ho.lt k hk').1;have:=hlt k ((g5 k).2 (.inr (.inl hk)));omega
 ·exact(Za.of_below hb).trans ⟨s1.os,s1.tape,s1.output,s1.size,fun k hk hF=>s1.block k hk (fun e=>hF ((g5 k).2 (.inl e)))⟩
 ·rintro k (rfl | hk | hk)
  ·exact .inl ((g5 _).2 (.inl rfl))
  ·exact .inl ((g5 k).2 (.inr (.inl hk)))
  ·rw[hl]at hk;exact .inr (ho.lt k hk).1
theorem Ue.flipS {w:World}{p:Nat}{F:Nat->Prop}{sb fb:zU}{sd fd:Nat}(h:Ue w p F sb fb sd fd)(i:Nat)(hi:i < sb.length)(x:UInt8):
  ∃g c,w.cell? ⟨p,0,none⟩=some (.slice (some ⟨g,0,none⟩) sb.length c)/\w.cell? ⟨p,1,none⟩=some (.int .i64 sd)/\w.cell? ⟨g,i,none⟩=some (.int .u8 ((sb[i]?.getD 0).toNat:Int))/\w.frozen? ⟨g,i,none⟩=false /\
   Ue (w.setCell ⟨g,i,none⟩ (.int .u8 (x.toNat:Int))) p F (sb.set i x) fb sd fd/\Za F w (w.setCell ⟨g,i,none⟩ (.int .u8 (x.toNat:Int))):=by
 obtain⟨sa,sc,fa,fc,g1,g2,g3,g4,g5,g6,g7,g8,g9⟩:=h;obtain⟨b,off,hb,hcells⟩:=(Yb.of_own g2).at (by omega);have hoff:off=0:=by
  rcases g2.2 with ⟨h,_⟩ | ⟨g,cap,cur,h,_⟩
  ·rw[hb]at h;simp at h
  ·rw[hb]at h;simp at h;exact h.1.2
 subst hb;subst hoff;have hc:=hcells i hi;rw[Nat.zero_add]at hc;have hfz:=g2.frozenAt i;obtain⟨hst,hgr⟩:=g2.stored i (.int .u8 (x.toNat:Int));have hS:Za (fun k=>k=b) w (w.setCell ⟨b,i,none⟩ (.int .u8 (x.toNat:Int))):=Za.of_grown hgr (fun k e=>by cases e;rfl);have n2:=J9 g2 g1 (by decide);have hset:(sb.map Zt).set i (.int .u8 (x.toNat:Int))=(sb.set i x).map Zt:=by rw[List.map_set];rfl
 rw[hset]at hst;have hls:(sb.set i x).length=sb.length:=List.length_set;refine⟨b,sc,by simp[World.cell?,g1],by simp[World.cell?,g1],hc,hfz,⟨some ⟨b,0,none⟩,sc,fa,fc,?_,?_,?_,?_,?_,?_,g7,?_,g9⟩,⟨hS.os,hS.tape,hS.output,hS.size,fun k hk hF=>hS.block k hk (fun e=>hF ((g5 k).2 (.inr (.inl (by rw[e];rfl)))))⟩⟩
 ·rw[hls,hS.block p (Array.getElem?_eq_some_iff.1 g1).1 (fun e=>n2 (by rw[e];rfl))];exact g1
 ·rw[hls];exact hst
 ·exact Zi g3 hS (fun k hk e=>g4 k (by rw[e];rfl) hk)
 ·rw[hls];exact g4
 ·rw[hls];exact g5
 ·rw[hls];exact g6
 ·rw[hls];exact g8
theorem Ue.flipF {w:World}{p:Nat}{F:Nat->Prop}{sb fb:zU}{sd fd:Nat}(h:Ue w p F sb fb sd fd)(i:Nat)(hi:i < fb.length)(x:UInt8):
  ∃g c,w.cell? ⟨p,2,none⟩=some (.slice (some ⟨g,0,none⟩) fb.length c)/\w.cell? ⟨p,3,none⟩=some (.int .i64 fd)/\w.cell? ⟨g,i,none⟩=some (.int .u8 ((fb[i]?.getD 0).toNat:Int))/\w.frozen? ⟨g,i,none⟩=false /\
   Ue (w.setCell ⟨g,i,none⟩ (.int .u8 (x.toNat:Int))) p F sb (fb.set i x) sd fd/\Za F w (w.setCell ⟨g,i,none⟩ (.int .u8 (x.toNat:Int))):=by
 obtain⟨sa,sc,fa,fc,g1,g2,g3,g4,g5,g6,g7,g8,g9⟩:=h;obtain⟨b,off,hb,hcells⟩:=(Yb.of_own g3).at (by omega);have hoff:off=0:=by
  rcases g3.2 with ⟨h,_⟩ | ⟨g,cap,cur,h,_⟩
  ·rw[hb]at h;simp at h
  ·rw[hb]at h;simp at h;exact h.1.2
 subst hb;subst hoff;have hc:=hcells i hi;rw[Nat.zero_add]at hc;have hfz:=g3.frozenAt i;obtain⟨hst,hgr⟩:=g3.stored i (.int .u8 (x.toNat:Int));have hS:Za (fun k=>k=b) w (w.setCell ⟨b,i,none⟩ (.int .u8 (x.toNat:Int))):=Za.of_grown hgr (fun k e=>by cases e;rfl);have n2:=J9 g3 g1 (by decide);have hset:(fb.map Zt).set i (.int .u8 (x.toNat:Int))=(fb.set i x).map Zt:=by rw[List.map_set];rfl
 rw[hset]at hst;have hls:(fb.set i x).length=fb.length:=List.length_set;refine⟨b,fc,by simp[World.cell?,g1],by simp[World.cell?,g1],hc,hfz,⟨sa,sc,some ⟨b,0,none⟩,fc,?_,?_,?_,?_,?_,g6,?_,g8,?_⟩,⟨hS.os,hS.tape,hS.output,hS.size,fun k hk hF=>hS.block k hk (fun e=>hF ((g5 k).2 (.inr (.inr (by rw[e];rfl)))))⟩⟩
 ·rw[hls,hS.block p (Array.getElem?_eq_some_iff.1 g1).1 (fun e=>n2 (by rw[e];rfl))];exact g1
 ·exact Zi g2 hS (fun k hk e=>g4 k hk (by rw[e];rfl))
 ·rw[hls];exact hst
 ·rw[hls];exact g4
 ·rw[hls];exact g5
 ·rw[hls];exact g7
 ·rw[hls];exact g9
theorem Za.trans2 {F F1:Nat->Prop}{a b c:World}(h:Za F a b)(k:Za F1 b c)(hF : ∀k,F1 k->F k\/a.heap.size<=k):Za F a c:=
 ⟨k.os.trans h.os,k.tape.trans h.tape,k.output.trans h.output,Nat.le_trans h.size k.size,fun i hi hs=>(k.block i (Nat.lt_of_lt_of_le hi h.size) (fun h1=>by
  rcases hF i h1 with h2 | h2
  ·exact hs h2
  ·omega)).trans (h.block i hi hs)⟩
theorem Z29 (x y:UInt8):bits .xor .u8 (x.toNat:Int) (y.toNat:Int)=((x ^^^ y).toNat:Int):=by
 have hx:=x.toNat_lt;have hy:=y.toNat_lt;have h:x.toNat ^^^ y.toNat < 2 ^ 8:=Nat.xor_lt_two_pow hx hy;show IntKind.u8.wrap (((BitVec.ofInt 8 (x.toNat:Int)) ^^^ (BitVec.ofInt 8 (y.toNat:Int)):BitVec 8)).toNat=_;rw[BitVec.ofInt_natCast,BitVec.ofInt_natCast,BitVec.toNat_xor,BitVec.toNat_ofNat,BitVec.toNat_ofNat,Nat.mod_eq_of_lt hx,Nat.mod_eq_of_lt hy,IntKind.wrap_u8,UInt8.toNat_xor];omega
theorem Z91 (b:Nat):((2:Int) ^ b % 256)=((UInt8.ofNat (2 ^ b)).toNat:Int):=by
 rw[UInt8.toNat_ofNat'];simp
theorem Ue.self {w:World}{p:Nat}{F:Nat->Prop}{sb fb:zU}{sd fd:Nat}(h:Ue w p F sb fb sd fd):F p:=by
 obtain⟨sa,sc,fa,fc,h1,h2,h3,h4,h5,h6⟩:=h;exact(h5 p).2 (.inl rfl)
theorem Z5x (w:World)(p:Nat)(F:Nat->Prop)(sb fb:zU)(sd fd:Nat)(stock foil:Nat)(flip:Int)(h:Ue w p F sb fb sd fd)(hc:Uy sb fb sd fd stock foil flip):
  Calls zq 50 #[.pointer (some ⟨p,0,none⟩),.int .i64 stock,.int .i64 foil,.int .i64 flip] w fun e w'=>e = .returned (.int .i64 0) /\
   ∃F',Ue w' p F' (JL sb sd stock flip) (Ja fb fd stock foil flip) (JL sb sd stock flip).length (Ja fb fd stock foil flip).length/\Za F w w'/\(∀k,F' k->F k\/w.heap.size<=k):=by
 obtain⟨c1,c2,c3,c4,c5,c6⟩:=hc;have hq : ∀q,Ue (w.drewN q) p F sb fb sd fd:=fun q=>h.same (S:=fun _=>False) (Za.of_below (below_drewN (Below.refl _ _) q)) (fun _ e=>e.elim);obtain⟨_,_,_,_,_,_,_,_,_,g6,g7,g8,g9⟩:=id h;have P1 : ∀q,Calls zq 110 #[.pointer (some ⟨p,0,none⟩)] (w.drewN q) fun e w'=>e = .returned (.int .i64 ((sb.length:Int) - sd)) /\ ∃q',w'=w.drewN q':=by
  intro q;obtain⟨a,c,j,_⟩:=(hq q).j0;refine(Vz _ _ _ _ _ _ _ j g6 (by omega)).mono ?_;rintro e w' ⟨rfl,q',rfl⟩;exact⟨rfl,q+q',by rw[World.drewN_drewN]⟩
 have P2 : ∀q,Calls zq 110 #[.pointer (some ⟨p,2,none⟩)] (w.drewN q) fun e w'=>e = .returned (.int .i64 ((fb.length:Int) - fd)) /\ ∃q',w'=w.drewN q':=by
  intro q;obtain⟨a,c,j,_⟩:=(hq q).j2;refine(Vz _ _ _ _ _ _ _ j g7 (by omega)).mono ?_;rintro e w' ⟨rfl,q',rfl⟩;exact⟨rfl,q+q',by rw[World.drewN_drewN]⟩
 have H1:=zH P1;clear P1;have H2:=zH P2;clear P2;have HQ:=zH hq;clear hq;have HP:=zH h.self;clear h;have q1:decide ((stock:Int) < 0)=false:=by simp
 have q2:decide ((sb.length:Int) - sd < stock)=false:=by simp;omega
 have q3:decide ((foil:Int) < 0)=false:=by simp
 have q4:decide ((fb.length:Int) - fd < foil)=false:=by simp;omega
 have q5:decide (flip < -1)=false:=by simp;omega
 have q6:decide (8 * ((stock:Int)+foil)<=flip)=false:=by simp;omega
 go_enter Tryz.func50,Tryz.ntmps50;go_wp2_with fail;refine(H1.out 0).mono ?_;rintro e w' ⟨rfl,q,rfl⟩;go_wp2_with fail;refine(H2.out q).mono ?_;rintro e w' ⟨rfl,q',rfl⟩;have hS:=HQ.out q';have hbq:Below w.heap.size w (w.drewN q'):=below_drewN (Below.refl _ _) q';have HB:=zH hbq;clear hbq;go_wp2_with fail;generalize w.drewN q'=w0 at *;have hb0:=HB.out;have hz0:=hb0.size;obtain⟨a0,k0,j0,o0⟩:=hS.j0;refine(Z5m w0 p 0 a0 sb.length k0 sd sb j0 (Yb.of_own o0) stock (by omega) (by omega)).mono ?_;rintro e w' ⟨rfl,a1,k1,w1,ho1,hb1,rfl⟩;obtain⟨F1,hS1,hF1,hF1'⟩:=hS.setStock hb1 ho1 (by omega) (by omega);clear j0 o0 hb1 ho1;go_wp2_with fail;generalize w1.setCell ⟨p,0,none⟩ (.slice a1 (sd+stock) k1)=w2 at *;obtain⟨a2,k2,j2,o2⟩:=hS1.j2;refine(Z5m w2 p 2 a2 fb.length k2 fd fb j2 (Yb.of_own o2) foil (by omega) (by omega)).mono ?_;rintro e w' ⟨rfl,a3,k3,w3,ho3,hb3,rfl⟩;obtain⟨F2,hS2,hF2,hF2'⟩:=hS1.setFoil hb3 ho3 (by omega) (by omega);clear j2 o2 hb3 ho3;have hSame:Za F w (w3.setCell ⟨p,2,none⟩ (.slice a3 (fd+foil) k3)):=((Za.of_below hb0).trans2 hF1 (fun k hk=>.inl hk)).trans2 hF2 (fun k hk=>by
  rcases hF1' k hk with h | h
  ·exact .inl h
  ·exact .inr (by omega))
 have hFoot : ∀k,F2 k->F k\/w.heap.size<=k:=fun k hk=>by
  rcases hF2' k hk with h | h
  ·rcases hF1' k h with h | h
   ·exact .inl h
   ·exact .inr (by omega)
  ·have:=hF1.size;exact .inr (by omega)
 have HS:=zH hSame;clear hSame;have HF:=zH hFoot;clear hFoot hF1 hF1' hF2 hF2' hS hS1;by_cases hm:flip < 0
 ·have e1:JL sb sd stock flip=sb.take (sd+stock):=by unfold JL;rw[if_neg (by omega)]
  have e2:Ja fb fd stock foil flip=fb.take (fd+foil):=by unfold Ja;rw[if_neg (by omega)]
  have E1:=zH e1;clear e1;have E2:=zH e2;clear e2;go_wp2_with fail;generalize w3.setCell ⟨p,2,none⟩ (.slice a3 (fd+foil) k3)=w4 at *;refine(Z3E _ _ _ _ _ _ _ hS2).mono ?_;rintro e w' ⟨rfl,hS3,hF3⟩;go_wp2;go_ret;rw[E1.out,E2.out];exact⟨rfl,F2,hS3,HS.out.trans2 hF3 (fun k hk=>.inl (by subst hk;exact HP.out)),HF.out⟩
 ·obtain⟨f,rfl⟩:=Int.eq_ofNat_of_zero_le (show 0<=flip by omega);go_wp2_with fail;go_quiet (fail);have hS3:=hS2.same (S:=fun _=>False) (Za.of_below (below_drewN (Below.refl _ _) nq)) (fun _ e=>e.elim);have hA:(f:Int) / 8=((f / 8:Nat):Int):=by omega
  have hlen1:(sb.take (sd+stock)).length=sd+stock:=by rw[List.length_take];omega
  have hlen2:(fb.take (fd+foil)).length=fd+foil:=by rw[List.length_take];omega
  have HL1:=zH hlen1;clear hlen1;have HL2:=zH hlen2;clear hlen2;have hS0:=HS.out.trans (Za.of_below (S:=F) (below_drewN (Below.refl _ _) nq));have HS0:=zH hS0;clear hS0;rw[Z91,hA];clear hA hS2 HS;generalize (w3.setCell ⟨p,2,none⟩ (.slice a3 (fd+foil) k3)).drewN nq=w4 at *;by_cases hat:f / 8 < stock
  focus
   have e1:JL sb sd stock f=Qk (sb.take (sd+stock)) (sd+f / 8) (f % 8):=by unfold JL;rw[if_pos (by simp;exact hat)];simp
   have e2:Ja fb fd stock foil f=fb.take (fd+foil):=by unfold Ja;rw[if_neg (by simp;omega)]
   have E1:=zH e1;clear e1;have E2:=zH e2;clear e2;obtain⟨g,k,y1,y2,y3,y4,hS4,hF4⟩:=hS3.flipS (sd+f / 8) (by rw[HL1.out];omega) (((sb.take (sd+stock))[sd+f / 8]?.getD 0) ^^^ UInt8.ofNat (2 ^ (f % 8)));rw[HL1.out]at y1;have hx:=Z29 ((sb.take (sd+stock))[sd+f / 8]?.getD 0) (UInt8.ofNat (2 ^ (f % 8)));have E3:Hid (Qk (sb.take (sd+stock)) (sd+f / 8) (f % 8)=(sb.take (sd+stock)).set (sd+f / 8) (((sb.take (sd+stock))[sd+f / 8]?.getD 0) ^^^ UInt8.ofNat (2 ^ (f % 8)))):=show _=_ from rfl;generalize (sb.take (sd+stock))[sd+f / 8]?.getD 0=bt at *;generalize UInt8.ofNat (2 ^ (f % 8))=mk at *;generalize f / 8=A at *;have HS4:=zH hS4;clear hS4;have HF4:=zH hF4;clear hF4 hS3;clear w0 hb0 hz0 HB H1 H2 HQ;go_wp2_with fail;go_region;rw[<-UInt8.toNat_xor];have hS5:=HS4.out.same (S:=fun _=>False) (w':=(w4.setCell ⟨g,sd+A,none⟩ (.int .u8 ((bt ^^^ mk).toNat:Int))).drew) (Za.of_below (below_drewN (Below.refl _ _) 1)) (fun _ e=>e.elim);have hF5:Za F2 w4 (w4.setCell ⟨g,sd+A,none⟩ (.int .u8 ((bt ^^^ mk).toNat:Int))).drew:=HF4.out.trans (Za.of_below (below_drewN (Below.refl _ _) 1));generalize (w4.setCell ⟨g,sd+A,none⟩ (.int .u8 ((bt ^^^ mk).toNat:Int))).drew=w5 at *
  rotate_left
  focus
   have e1:JL sb sd stock f=sb.take (sd+stock):=by unfold JL;rw[if_neg (by simp;omega)]
   have e2:Ja fb fd stock foil f=Qk (fb.take (fd+foil)) (fd+f / 8 - stock) (f % 8):=by unfold Ja;rw[if_pos (by simp;omega)];simp
   have E1:=zH e1;clear e1;have E2:=zH e2;clear e2;have hlt:fd+f / 8 - stock < fd+foil:=by omega
   obtain⟨g,k,y1,y2,y3,y4,hS4,hF4⟩:=hS3.flipF (fd+f / 8 - stock) (by rw[HL2.out];exact hlt) (((fb.take (fd+foil))[fd+f / 8 - stock]?.getD 0) ^^^ UInt8.ofNat (2 ^ (f % 8)));rw[HL2.out]at y1;have hx:=Z29 ((fb.take (fd+foil))[fd+f / 8 - stock]?.getD 0) (UInt8.ofNat (2 ^ (f % 8)));have E3:Hid (Qk (fb.take (fd+foil)) (fd+f / 8 - stock) (f % 8)=(fb.take (fd+foil)).set (fd+f / 8 - stock) (((fb.take (fd+foil))[fd+f / 8 - stock]?.getD 0) ^^^ UInt8.ofNat (2 ^ (f % 8)))):=show _=_ from rfl;generalize (fb.take (fd+foil))[fd+f / 8 - stock]?.getD 0=bt at *;generalize UInt8.ofNat (2 ^ (f % 8))=mk at *;have HS4:=zH hS4;clear hS4;have HF4:=zH hF4;clear hF4 hS3;clear w0 hb0 hz0 HB H1 H2 HQ;go_wp2_with fail;go_region;rw[<-UInt8.toNat_xor];have hS5:=HS4.out.same (S:=fun _=>False) (w':=(w4.setCell ⟨g,fd+f / 8 - stock,none⟩ (.int .u8 ((bt ^^^ mk).toNat:Int))).drew) (Za.of_below (below_drewN (Below.refl _ _) 1)) (fun _ e=>e.elim);have hF5:Za F2 w4 (w4.setCell ⟨g,fd+f / 8 - stock,none⟩ (.int .u8 ((bt ^^^ mk).toNat:Int))).drew:=HF4.out.trans (Za.of_below (below_drewN (Below.refl _ _) 1));generalize (w4.setCell ⟨g,fd+f / 8 - stock,none⟩ (.int .u8 ((bt ^^^ mk).toNat:Int))).drew=w5 at *
  all_goals
   have HF5:=zH hF5;clear hF5 HS4 HF4 y1 y2 y3 y4 hx;go_wp2_with fail;refine(Z3E _ _ _ _ _ _ _ hS5).mono ?_;rintro e w' ⟨rfl,hS6,hF6⟩;go_wp2;go_ret;rw[E1.out,E2.out,E3.out];exact⟨rfl,F2,hS6,(HS0.out.trans2 HF5.out HF.out).trans2 hF6 (fun k hk=>.inl (by subst hk;exact HP.out)),HF.out⟩
theorem Yb.lit (w:World)(l:zU)(hl:l.length<=1000000):Yb (w.alloc (.cells (l.map Zt).toArray 5)) (some ⟨w.heap.size,0,none⟩) l.length l.length l:=by
 have h:=World.ownsRow_lit (base:=w.heap.size) (e:=5) (size:=1) w (l.map Zt).toArray l.length (Nat.le_refl _) (by unfold maxLen;omega) (by simp);exact ZX.of_own h
theorem Xj {w:World}{a:zA}{n c:Nat}{l:zU}(h:Yb w a n c l):(convert 41 9 (.slice a n c)).run zq w = .ok (.string ⟨l.toArray⟩) w:=
 Z3j 41 9 5 Tryz.underlying41 Tryz.underlying5 Tryz.underlying9 h
theorem Z7b (w:World)(A B:zU)(hA:A.length<=1000)(hB:B.length<=1000):
  Calls zq 47 #[.slice (some ⟨w.heap.size,0,none⟩) A.length A.length,.slice (some ⟨w.heap.size+1,0,none⟩) B.length B.length] ((w.alloc (.cells (A.map Zt).toArray 5)).alloc (.cells (B.map Zt).toArray 5)) fun e w'=>
   ∃oa oc,e = .returned (.tuple #[.slice oa (ZB A B).length oc,.int .i64 (sOf (ZB A B)),.int .i64 (4 * ((ZB A B).length:Int))])/\Below w.heap.size w w':=by
 have r2:=Yb.lit w A (by omega);have r3:=Yb.lit (w.alloc (.cells (A.map Zt).toArray 5)) B (by omega);rw[World.size_alloc]at r3;have b2:=(Below.refl (w.alloc (.cells (A.map Zt).toArray 5)).heap.size (w.alloc (.cells (A.map Zt).toArray 5))).alloc (Nat.le_refl _) (.cells (B.map Zt).toArray 5);have b1:=zB w (.cells (A.map Zt).toArray 5);have b3:=b1.trans (b2.mono (by simp));refine(Z7c _ _ _ A _ _ _ B _ (r2.below b2) r3 (by omega) (by omega)).mono ?_;rintro e w' ⟨oa,oc,rfl,_,hb⟩;exact⟨oa,oc,rfl,b3.trans (hb.mono b3.size)⟩
theorem ZaU (w:World):Calls zq 47 #[.slice (some ⟨w.heap.size,0,none⟩) 5 5,.slice (some ⟨w.heap.size+1,0,none⟩) 4 4]
  ((w.alloc (.cells #[.int .u8 1,.int .u8 0,.int .u8 7,.int .u8 0,.int .u8 0] 5)).alloc (.cells #[.int .u8 1,.int .u8 0,.int .u8 8,.int .u8 0] 5)) fun e w'=>
   ∃oa oc,e = .returned (.tuple #[.slice oa 1 oc,.int .i64 3,.int .i64 4])/\Below w.heap.size w w':=by
 have h:=Z7b w [1,0,7,0,0] [1,0,8,0] (by decide) (by decide);have e:ZB [1,0,7,0,0] [1,0,8,0]=[[7]]:=by decide+kernel
 rw[e]at h;exact h
theorem ZaT (w:World):Calls zq 47 #[.slice (some ⟨w.heap.size,0,none⟩) 3 3,.slice (some ⟨w.heap.size+1,0,none⟩) 4 4]
  ((w.alloc (.cells #[.int .u8 1,.int .u8 0,.int .u8 6] 5)).alloc (.cells #[.int .u8 1,.int .u8 0,.int .u8 8,.int .u8 0] 5)) fun e w'=>
   ∃oa oc,e = .returned (.tuple #[.slice oa 0 oc,.int .i64 0,.int .i64 0])/\Below w.heap.size w w':=by
 have h:=Z7b w [1,0,6] [1,0,8,0] (by decide) (by decide);have e:ZB [1,0,6] [1,0,8,0]=[]:=by decide+kernel
 rw[e]at h;exact h
theorem ZaB (w:World)(p:Nat)(F:Nat->Prop)(h:Ue w p F [1,0,7] [1,0,8,0] 0 0):
  Calls zq 50 #[.pointer (some ⟨p,0,none⟩),.int .i64 3,.int .i64 2,.int .i64 (-1)] w fun e w'=>e = .returned (.int .i64 0) /\ ∃F',Ue w' p F' [1,0,7] [1,0] 3 2/\Za F w w'/\(∀k,F' k->F k\/w.heap.size<=k):=by
 have h:=Z5x w p F [1,0,7] [1,0,8,0] 0 0 3 2 (-1) h ⟨by decide,by decide,by decide,by decide,by decide,by decide⟩;have e1:JL [1,0,7] 0 3 (-1)=[1,0,7]:=by decide+kernel
 have e2:Ja [1,0,8,0] 0 3 2 (-1)=[1,0]:=by decide+kernel
 rw[e1,e2]at h;exact h
theorem Z7V (w:World)(p:Nat)(F:Nat->Prop)(h:Ue w p F [1,0,7] [1,0] 3 2):
  Calls zq 51 #[.pointer (some ⟨p,0,none⟩)] w fun e w'=>(∃oa oc,e = .returned (.slice oa 0 oc))/\Below w.heap.size w w':=by
 have h:=Z0Y w p F _ _ _ _ h;have e1:ZB [1,0,7] [1,0]=[]:=by decide+kernel
 rw[e1]at h;exact h.mono fun e w' ⟨oa,oc,he,_,hb⟩=>⟨⟨oa,oc,he⟩,hb⟩
theorem Zac (w:World):Calls zq 10 #[] w fun e w'=>e = .returned (.bool true)/\Below w.heap.size w w':=by
 go_enter Tryz.func10,Tryz.ntmps10;go_wp2_with fail;have r1:Yb (w.alloc (.cells #[.int .u8 7] 5)) (some ⟨w.heap.size,0,none⟩) 1 1 [7]:=Yb.lit w [7] (by decide);have b0:=zB w (.cells #[.int .u8 7] 5);refine(Z9C _ _ _ [7] _ r1 (by decide)).mono ?_;rintro e w1 ⟨sa,sc,fa,fc,rfl,hs,hf,b1⟩;have hb1:=b0.trans (b1.mono b0.size);have e1:ZT [7]=[1,0,7]:=by decide+kernel
 have e2:Y5 [7]=[1,0,8,0]:=by decide+kernel
 rw[e1]at hs ⊢;rw[e2]at hf ⊢;clear r1 b0 b1 e1 e2;have HB:=zH hb1;clear hb1;go_wp2_with fail;refine(ZaU w1).mono ?_;rintro e w2 ⟨oa,oc,rfl,b2⟩;have hb2:=HB.out.trans (b2.mono HB.out.size);have hs2:=hs.below b2;have hf2:=hf.below b2;have HB2:=zH hb2;clear hb2 b2 hs hf;go_wp2_with fail;refine(ZaT w2).mono ?_;rintro e w3 ⟨oa3,oc3,rfl,b3⟩;have hb3:=HB2.out.trans (b3.mono HB2.out.size);have hs3:=hs2.below b3;have hf3:=hf2.below b3;have HB3:=zH hb3;clear hb3 b3 hs2 hf2;go_wp2_with fail;refine(zl w3).mono ?_;rintro e w4 ⟨rfl,hst4,b4⟩;have hz4:w3.heap.size < w4.heap.size:=hst4.lt _ rfl;have B4:=zH b4;clear b4;go_wp2_with fail;have ba:=zB w4 (.cells #[.int .u8 7] 5);have hst5:=hst4.same (S:=fun _=>False) (Za.of_below ba) (fun _ e=>e.elim);refine(Z9g _ _ _ _ _ _ _ _ _ _ [7] hst5 (Yb.lit w4 [7] (by decide)) (by decide) (by decide) (by decide)).mono ?_;rintro e w5 ⟨rfl,F5,hst5',hF5,hF5'⟩;have e1:([]:zU) ++ ZT [7]=[1,0,7]:=by decide+kernel
 have e2:([]:zU) ++ Y5 [7]=[1,0,8,0]:=by decide+kernel
 rw[e1,e2]at hst5';have b5:Below w3.heap.size w3 w5:=hF5.below (B4.out.trans (ba.mono (by omega))) (by simp;omega) (fun k hk=>by omega);have hG5 : ∀k,F5 k->w3.heap.size<=k:=fun k hk=>by
  rcases hF5' k hk with h | h
  ·omega
  ·simp at h;omega
 have B5:=zH b5;clear b5 hst5 ba hF5 hF5' hst4;have G5:=zH hG5;clear hG5;go_wp2_with fail;refine(ZaB w5 _ F5 hst5').mono ?_;rintro e w6 ⟨rfl,F6,hst6,hF6,hF6'⟩;have b6:Below w3.heap.size w3 w6:=hF6.below B5.out B5.out.size G5.out;have hs6:=hs3.below b6;have hf6:=hf3.below b6;have hb6:=HB3.out.trans (b6.mono HB3.out.size);have HB6:=zH hb6;clear hb6 b6 hF6 hF6' hst5' hs3 hf3;have c1:(convert 41 9 (.slice sa 3 sc)).run zq w6 = .ok (.string ⟨[1,0,7].toArray⟩) w6:=Xj hs6;have c2:(convert 41 9 (.slice (some ⟨w6.heap.size,0,none⟩) 3 3)).run zq (w6.alloc (.cells #[.int .u8 1,.int .u8 0,.int .u8 7] 5)) = .ok (.string ⟨[1,0,7].toArray⟩) (w6.alloc (.cells #[.int .u8 1,.int .u8 0,.int .u8 7] 5)):=Xj (Yb.lit w6 [1,0,7] (by decide));have ba:=zB w6 (.cells #[.int .u8 1,.int .u8 0,.int .u8 7] 5);have c3:(convert 41 9 (.slice fa 4 fc)).run zq (w6.alloc (.cells #[.int .u8 1,.int .u8 0,.int .u8 7] 5)) = .ok (.string ⟨[1,0,8,0].toArray⟩) (w6.alloc (.cells #[.int .u8 1,.int .u8 0,.int .u8 7] 5)):=Xj (hf6.below ba);have c4:(convert 41 9 (.slice (some ⟨w6.heap.size+1,0,none⟩) 4 4)).run zq ((w6.alloc (.cells #[.int .u8 1,.int .u8 0,.int .u8 7] 5)).alloc (.cells #[.int .u8 1,.int .u8 0,.int .u8 8,.int .u8 0] 5)) = .ok (.string ⟨[1,0,8,0].toArray⟩) ((w6.alloc (.cells #[.int .u8 1,.int .u8 0,.int .u8 7] 5)).alloc (.cells #[.int .u8 1,.int .u8 0,.int .u8 8,.int .u8 0] 5)):=by
  have h:=Yb.lit (w6.alloc (.cells #[.int .u8 1,.int .u8 0,.int .u8 7] 5)) [1,0,8,0] (by decide);rw[World.size_alloc]at h;exact Xj h
 have bb:=ba.alloc (by simp) (.cells #[.int .u8 1,.int .u8 0,.int .u8 8,.int .u8 0] 5);have hst7:=hst6.same (S:=fun _=>False) (Za.of_below bb) (fun _ e=>e.elim);have HST:=zH hst7;have HBB:=zH bb;clear hst6 hst7 hs6 hf6 ba bb;go_wp2_with fail;refine(Z7V _ _ _ HST.out).mono ?_;rintro e w7 ⟨⟨oa7,oc7,rfl⟩,b7⟩;have hb7:=HB6.out.trans ((HBB.out.trans (b7.mono HBB.out.size)).mono HB6.out.size);have HB7:=zH hb7;clear hb7 b7;go_wp2;go_ret;exact⟨rfl,HB7.out⟩
theorem Z6s (x lo hi:Int)(w:World):Calls zq 77 #[.int .i64 x,.int .i64 lo,.int .i64 hi] w fun e w'=>e = .returned (.bool (Xx x lo hi))/\w=w':=by
 by_cases h1:lo<=x
 ·have t1:decide (lo<=x)=true:=by simp;omega
  by_cases h2:x<=hi
  focus
   have t2:decide (x<=hi)=true:=by simp;omega
   have t3:Xx x lo hi=true:=Ya.2 ⟨h1,h2⟩
  rotate_left
  focus
   have t2:decide (x<=hi)=false:=by simp;omega
   have t3:Xx x lo hi=false:=VK.2 (fun h=>h2 h.2)
  all_goals
   rw[t3];clear t3;go_enter Tryz.func77,Tryz.ntmps77;go_wp2;go_ret;exact⟨rfl,rfl⟩
 ·have t1:decide (lo<=x)=false:=by simp;omega
  have t3:Xx x lo hi=false:=VK.2 (fun h=>h1 h.1);rw[t3];clear t3;go_enter Tryz.func77,Tryz.ntmps77;go_wp2;go_ret;exact⟨rfl,rfl⟩
theorem Z1C {w:World}{base P:Nat}{l:List Int}{k:Nat}(h:w.heap[P]? = some (.cells (l.map Yo).toArray 3 (0,0)))(hk:l.length=k)(hb:base<=P)(hm:k<=maxLen):w.ownsRow base 3 1 (.slice (some ⟨P,0,none⟩) k k) k (l.map Yo):=by
 refine⟨by simp[hk],.inr ⟨P,k,_,rfl,hb,h,Nat.le_refl _,hm,by simp[hk],?_⟩⟩;rw[List.take_of_length_le (by simp[hk])]
theorem ZaD {z:Int}(h:Xb z):Xx z (-4611686018427387904) 4611686018427387903=true:=by
 unfold Xb far at h;rw[Ya];omega
section
attribute [local go_sem] ZS
theorem Z4k (n:NoteV)(sa:zA)(sc:Nat)(w:World)(hs:Xe w sa n.strokes.length sc n.strokes)(hsm:JU n)(hlen:n.strokes.length<=1000000):
  Calls zq 126 #[.agg (Z5 n sa sc)] w fun e w'=>e = .returned (.bool true)/\Below w.heap.size w w':=by
 have hlast:=Z9 w (.cells (Z5 n sa sc) 47);have bb:Below w.heap.size w (w.alloc (.cells (Z5 n sa sc) 47)):=zB _ _;have hlt:w.heap.size < (w.alloc (.cells (Z5 n sa sc) 47)).heap.size:=by simp
 have H0:=zH (And.intro hlast (And.intro bb hlt));clear hlast bb hlt;go_enter Tryz.func126,Tryz.ntmps126;go_upto_region 1 with fail;generalize w.alloc (.cells (Z5 n sa sc) 47)=w0 at *;obtain⟨base,hbase⟩:=zX (w.heap.size);rw[hbase.out];rw[hbase.out]at H0;go_wp2_with (refine zL base H0.out.1 ?_);refine(Z2V n sa sc w0).mono ?_;rintro e wf ⟨P,Q,rfl,g1,g2,g3,g4,b1⟩;have hlb:=Nat.le_of_lt H0.out.2.2;have BF:=zH (H0.out.2.1.trans (b1.mono hlb));have hn1:=(b1.block _ H0.out.2.2).trans H0.out.1;have hPQ:Q≠P:=by
  intro e;rw[e]at g2;rw[g1]at g2;simp only[Option.some.injEq,Obj.cells.injEq]at g2;have:=congrArg Array.size g2.1;simp[Zn,Zr]at this
 have OW:=zH (Z1C (base:=base) g1 (k:=15) rfl (Nat.le_trans hlb g3) (by unfold maxLen;omega));have OQ:=zH (And.intro hPQ (And.intro (Z1C (base:=base) g2 (k:=3) rfl (Nat.le_trans hlb g4) (by unfold maxLen;omega)) (Array.getElem?_eq_some_iff.1 g2).1));have e15:wf.cell? ⟨base,15,none⟩=some (.slice sa n.strokes.length sc):=Z6 hn1 15 _ rfl;have hbw:base<=wf.heap.size:=Nat.le_trans hlb b1.size;have RS1:=zH (show Xe wf sa n.strokes.length sc n.strokes from hs.below (by rw[hbase.out];exact BF.out));have hln:n.strokes.length<=1000000:=hlen;obtain⟨ln,hlnn⟩:=zX (n.strokes.length);rw[hlnn.out]at RS1 e15 hln;clear g1 g2 g3 g4 b1 H0 hn1 hPQ hlb;go_wp2_with (first
  |(at_builtin;refine Z20 _ rfl _ _ rfl base _ _ _ (Zn n) rfl OW.out _ _ _ n.strokes rfl RS1.out (by omega) hbw ?_;intro a1 c1 w1 h1 k1;have O1:=zH h1;have G1:=zH k1;have hbw1:base<=w1.heap.size:=Nat.le_trans hbw G1.out.size;have RQ:=zH (show Xe w1 (some ⟨Q,0,none⟩) 3 3 (Zr n)from ZX.of_cells (ZX.of_own OQ.out.2.1) (fun b ⟨off,hb⟩ hlt=>by cases hb;exact G1.out.block _ hlt (fun e=>by cases e;exact OQ.out.1 rfl)));clear h1 k1)
  |(at_builtin;refine Z20 _ rfl _ _ rfl base _ _ _ (Zn n ++ n.strokes) rfl O1.out _ _ _ (Zr n) rfl RQ.out (by omega) hbw1 ?_;intro a2 c2 w2 h2 k2;have O2:=zH h2;have B2:=zH ((BF.out.grown G1.out hbw (fun q hq=>(OW.out.lt q hq).1)).grown k2 hbw1 (fun q hq=>(O1.out.lt q hq).1));clear h2 k2))
 have SM:=zH (show ∀z∈Zn n ++ n.strokes ++ Zr n,Xb z from fun z hz=>by
  rcases List.mem_append.1 hz with hz | hz
  ·rcases List.mem_append.1 hz with hz | hz
   ·exact hsm.1 z hz
   ·exact hsm.2.1 z hz
  ·exact hsm.2.2.1 z hz)
 have LL:Hid ((Zn n ++ n.strokes ++ Zr n).length=15+ln+3):=zH (by rw[List.length_append,List.length_append,hlnn.out];rfl);obtain⟨X,hX⟩ : ∃X,Hid (X=Zn n ++ n.strokes ++ Zr n):=⟨_,zH rfl⟩;obtain⟨L,hL⟩:=zX (15+ln+3);rw[<-hX.out]at SM LL O2;rw[hL.out]at LL O2 ⊢;have hL63:(L:Int)<=9223372036854775807:=by have:=hL.out;omega
 have RX:=zH (ZX.of_own O2.out);clear OW OQ O1 G1 RQ RS1 e15 hbw1 hbw;go_loopw [6] (fun i wr=>∃k:Nat,i = .int .i64 k/\k<=L/\Hid (w2=wr)) (fun i _=>L - (intOf i).toNat)
 case atStart=>exact⟨0,rfl,Nat.zero_le _,zH rfl⟩
 case round=>
  obtain⟨k,rfl,hk,HE⟩:=hrel;have:=HE.out;subst this;by_cases hlt:k < L
  ·obtain⟨b,off,rfl,hc⟩:=Xe.at RX.out (by omega);have e1:=hc k hlt;have hin:=ZaD (SM.out (X[k]?.getD 0) (by rw[List.getElem?_eq_getElem (by rw[LL.out];exact hlt),Option.getD_some];exact List.getElem_mem _));have HIN:=zH hin;clear hin;generalize X[k]?.getD 0=z at *;clear hc;go_wp2_with fail;refine(Z6s z (-4611686018427387904) 4611686018427387903 w2).mono ?_;rintro e w' ⟨rfl,rfl⟩;rw[HIN.out];go_wp2;go_roundw
   case rel=>exact⟨k+1,by go_num,by omega,zH (by trivial)⟩
   case measure=>simp[intOf];omega
  ·have hkn:k=L:=by omega
   subst hkn;go_wp2;go_ret;exact⟨rfl,by rw[hbase.out];exact B2.out⟩
end
structure TwoN (w W:World)(p q:Nat)(x:NoteV)(sa:zA)(sc:Nat)(ta:zA)(tc:Nat):Prop where
 e1:W.heap[p]? = some (.cells (Z5 x sa sc) 47)
 e2:W.heap[q]? = some (.cells (Z5 x ta tc) 47)
 b:Below p w W
 lt:p < q
theorem TwoN.below {w W W':World}{p q:Nat}{x:NoteV}{sa ta:zA}{sc tc:Nat}(h:TwoN w W p q x sa sc ta tc)(hb:Below W.heap.size W W'):TwoN w W' p q x sa sc ta tc:=by
 have g : ∀{k:Nat} {o:Obj},W.heap[k]? = some o->W'.heap[k]? = some o:=fun {k o} hk=>(hb.block k (Array.getElem?_eq_some_iff.1 hk).1).trans hk;have h0:=(Array.getElem?_eq_some_iff.1 h.e1).1;exact⟨g h.e1,g h.e2,h.b.trans (hb.mono (by omega)),h.lt⟩
theorem Y7 {P:Program}{ops:Array Oper}{S:World->Prop}{op:Oper}{a:Act}(hw:Region.wanted op (yielded ops a.tmps)=true)(ty:TypeId)(x:Operand)(ho:op.op = .load ty x)
  (b:Nat) (hx:a.eval x = .pointer (some ⟨b,0,none⟩)) (cs:Xz) (t:TypeId) (fr:Nat×Nat) (d:TypeDesc) (hS : ∀w,S w->w.heap[b]? = some (.cells cs t fr))
  (hu:P.underlying ty=some d) (hd:(match d with | .struct _ | .array _ _=>true | _=>false)=true) (hi:(P.info? ty).map (·.size)=some cs.size):YieldsIf P ops S op (.agg cs) a:=
 .inl ⟨hw,fun w hw'=>by
  unfold execOp
  simp only[ho,hx,Instr.loadAt,Instr.sureAddr,Sem.run_bind,Sem.run_pure,Result.andThen_ok,run_loadVar_row w b t ty cs fr d (hS w hw') hu hd hi]⟩
section
attribute [local go_sem] ZS
theorem Z2f (x:NoteV)(sa:zA)(sc:Nat)(ta:zA)(tc:Nat)(w:World)(hx:Xe w sa x.strokes.length sc x.strokes)(hy:Xe w ta x.strokes.length tc x.strokes)(hsm:JU x)(hlen:x.strokes.length<=1000000):
  Calls zq 70 #[.agg (Z5 x sa sc),.agg (Z5 x ta tc)] w fun e w'=>e = .returned (.bool true)/\Below w.heap.size w w':=by
 have I43:=zH zI;have g1:=Z8 _ (.cells (Z5 x ta tc) 47) _ _ (Z9 w (.cells (Z5 x sa sc) 47));have g2:=Zm (w.alloc (.cells (Z5 x sa sc) 47)) (.cells (Z5 x ta tc) 47) (w.heap.size+1) (by simp);have bb:Below w.heap.size w ((w.alloc (.cells (Z5 x sa sc) 47)).alloc (.cells (Z5 x ta tc) 47)):=(zB _ _).alloc (by simp) _;have T0:Hid (TwoN w ((w.alloc (.cells (Z5 x sa sc) 47)).alloc (.cells (Z5 x ta tc) 47)) w.heap.size (w.heap.size+1) x sa sc ta tc):=zH ⟨g1,g2,bb,by omega⟩;clear g1 g2 bb;go_enter Tryz.func70,Tryz.ntmps70;go_upto_region 1 with fail;generalize (w.alloc (.cells (Z5 x sa sc) 47)).alloc (.cells (Z5 x ta tc) 47)=W0 at *;obtain⟨p,hp⟩:=zX (w.heap.size);obtain⟨q,hq⟩:=zX (w.heap.size+1);rw[hq.out,hp.out]at T0;rw[hq.out,hp.out];have RX:=zH (show ∀W,Below p w W->Xe W sa x.strokes.length sc x.strokes from fun W h=>hx.below (by rw[hp.out];exact h));have RY:=zH (show ∀W,Below p w W->Xe W ta x.strokes.length tc x.strokes from fun W h=>hy.below (by rw[hp.out];exact h));have T0d:=zH (T0.out.below (zd W0));obtain⟨E,hE⟩ : ∃E,Hid (E=Yc x):=⟨_,zH rfl⟩;have EX:=zH (fun W (h:TwoN w W p q x sa sc ta tc)=>UL x sa sc W (RX.out _ h.b) hsm hlen);have EY:=zH (fun W (h:TwoN w W p q x sa sc ta tc)=>UL x ta tc W (RY.out _ h.b) hsm hlen);have IX:=zH (fun W (h:TwoN w W p q x sa sc ta tc)=>Z4k x sa sc W (RX.out _ h.b) hsm hlen);have IY:=zH (fun W (h:TwoN w W p q x sa sc ta tc)=>Z4k x ta tc W (RY.out _ h.b) hsm hlen);rw[<-hE.out]at EX EY;clear hx hy;refine wp_region_noPanic ?_;refine wp_region_held_drew (S:=fun w'=>TwoN w w' p q x sa sc ta tc) (by kernel_rfl) T0d.out (fun hh=>?_);refine zT 0 rfl (.agg (Z5 x sa sc)) (Y7 (by rfl) 47 _ rfl p rfl _ 47 (0,0) _ (fun W h=>h.e1) Tryz.underlying47 rfl (I43.out _ _ _)) ?_;refine zT 3 rfl (.agg (Z5 x ta tc)) (Y7 (by rfl) 47 _ rfl q rfl _ 47 (0,0) _ (fun W h=>h.e2) Tryz.underlying47 rfl (I43.out _ _ _)) ?_;refine zR 1 rfl fun K hK=>?_;go_simp;go_at_call 125;refine(EX.out _ T0d.out).mono ?_
 rintro e wX ⟨aX,cX,rfl,hX,bX⟩;have TX:=zH (T0d.out.below bX);have cvX:=Xj (Yb.of_own hX);have HX:=zH hX;clear hX bX;dsimp only;refine zK hK TX.out fun hh=>?_;clear hK K;refine zM [2,4] rfl (fun K hK=>?_) ?_
 focus
  go_simp;refine zK hK TX.out fun hh=>?_;clear hK K;refine zR 4 rfl fun K hK=>?_;go_simp;go_at_call 125;refine(EY.out _ TX.out).mono ?_;rintro e wY ⟨aY,cY,rfl,hY,bY⟩;have TY:=zH (TX.out.below bY);have cvY:=Xj (Yb.of_own hY);have cvX2:=Xj (Yb.below (Yb.of_own HX.out) bY);clear hY bY;dsimp only;refine zK hK TY.out fun hh=>?_;clear hK K;refine zR 5 rfl fun K hK=>?_
 rotate_left
 focus
  refine zn fun K hK=>?_;go_simp;go_at_call 125;refine(EY.out _ TX.out).mono ?_;rintro e wY ⟨aY,cY,rfl,hY,bY⟩;have TY:=zH (TX.out.below bY);have cvY:=Xj (Yb.of_own hY);have cvX2:=Xj (Yb.below (Yb.of_own HX.out) bY);clear hY bY;dsimp only;refine zK hK TY.out fun hh=>?_;clear hK K;refine zM [2,5] rfl (fun K hK=>?_) ?_
  ·go_simp;refine zK hK TY.out fun hh=>?_;clear hK K;refine zR 5 rfl fun K hK=>?_;go_simp;refine zK hK TY.out fun hh=>?_;clear hK K;refine zS 6 rfl (.bool true) (fun W _=>by go_simp) ?_;refine zS 7 rfl (.bool true) (fun W _=>by go_simp) ?_;refine zT 8 rfl (.agg (Z5 x sa sc)) (Y7 (by rfl) 47 _ rfl p rfl _ 47 (0,0) _ (fun W h=>h.e1) Tryz.underlying47 rfl (I43.out _ _ _)) ?_;refine zT 10 rfl (.agg (Z5 x ta tc)) (Y7 (by rfl) 47 _ rfl q rfl _ 47 (0,0) _ (fun W h=>h.e2) Tryz.underlying47 rfl (I43.out _ _ _)) ?_;refine zR 9 rfl fun K hK=>?_;go_simp;go_at_call 126;refine(IX.out _ TY.out).mono ?_;rintro e wI ⟨rfl,bI⟩;have TI:=zH (TY.out.below bI);clear bI;dsimp only;refine zK hK TI.out fun hh=>?_;clear hK K;refine zR 11 rfl fun K hK=>?_;go_simp;go_at_call 126;refine(IY.out _ TI.out).mono ?_;rintro e wJ ⟨rfl,bJ⟩;have TJ:=zH (TI.out.below bJ);clear bJ;dsimp only;refine zK hK TJ.out fun hh=>?_;clear hK K;refine zS 12 rfl (.bool true) (fun W _=>by go_simp) ?_;refine zS 13 rfl (.bool true) (fun W _=>by go_simp) ?_;refine zS 14 rfl (.bool true) (fun W _=>by go_simp) ?_;refine zE ?_;change Exit.then _ _ Exit.normal { tmps := #[.agg (Z5 x sa sc),.agg (Z5 x ta tc),.pointer (some ⟨p,0,none⟩),.pointer (some ⟨q,0,none⟩),.bool true,.agg (Z5 x sa sc),.slice aX E.length cX,.string { data:=E.toArray },.agg (Z5 x ta tc),.slice aY E.length cY,.string { data:=E.toArray },.bool true,.bool true,.agg (Z5 x sa sc),.bool true,.agg (Z5 x ta tc),.bool true,.bool true,.bool true],defers:=[] } _;go_wp2;go_ret;exact⟨rfl,by rw[hp.out];exact TJ.out.b⟩
  refine zn fun K hK=>?_;go_simp;refine zK hK TY.out fun hh=>?_;clear hK K;refine zR 2 rfl fun K hK=>?_
 all_goals
  go_simp;refine zK hK TY.out fun hh=>?_;clear hK K;refine zS 6 rfl (.bool true) (fun W _=>by go_simp) ?_;refine zS 7 rfl (.bool true) (fun W _=>by go_simp) ?_;refine zT 8 rfl (.agg (Z5 x sa sc)) (Y7 (by rfl) 47 _ rfl p rfl _ 47 (0,0) _ (fun W h=>h.e1) Tryz.underlying47 rfl (I43.out _ _ _)) ?_;refine zT 10 rfl (.agg (Z5 x ta tc)) (Y7 (by rfl) 47 _ rfl q rfl _ 47 (0,0) _ (fun W h=>h.e2) Tryz.underlying47 rfl (I43.out _ _ _)) ?_;refine zR 9 rfl fun K hK=>?_;go_simp;go_at_call 126;refine(IX.out _ TY.out).mono ?_;rintro e wI ⟨rfl,bI⟩;have TI:=zH (TY.out.below bI);clear bI;dsimp only;refine zK hK TI.out fun hh=>?_;clear hK K;refine zR 11 rfl fun K hK=>?_;go_simp;go_at_call 126;refine(IY.out _ TI.out).mono ?_;rintro e wJ ⟨rfl,bJ⟩;have TJ:=zH (TI.out.below bJ);clear bJ;dsimp only;refine zK hK TJ.out fun hh=>?_;clear hK K;refine zS 12 rfl (.bool true) (fun W _=>by go_simp) ?_;refine zS 13 rfl (.bool true) (fun W _=>by go_simp) ?_;refine zS 14 rfl (.bool true) (fun W _=>by go_simp) ?_;refine zE ?_;change Exit.then _ _ Exit.normal { tmps := #[.agg (Z5 x sa sc),.agg (Z5 x ta tc),.pointer (some ⟨p,0,none⟩),.pointer (some ⟨q,0,none⟩),.bool true,.agg (Z5 x sa sc),.slice aX E.length cX,.string { data:=E.toArray },.agg (Z5 x ta tc),.slice aY E.length cY,.string { data:=E.toArray },.bool true,.bool true,.agg (Z5 x sa sc),.bool true,.agg (Z5 x ta tc),.bool true,.bool true,.bool true],defers:=[] } _;go_wp2;go_ret;exact⟨rfl,by rw[hp.out];exact TJ.out.b⟩
end
def Yp (x y:Int):Int:=if x < y then -1 else if y < x then 1 else 0
def orI (x y:Int):Int:=if x=0 then y else x
def YQ (h m h' m':Int):Int:=orI (Yp h h') (Yp m m')
def Xa (x y:NoteV):Int:=orI (Yp x.clock y.clock) (YQ x.house x.num y.house y.num)
def XT (x y:NoteV):Int:=orI (Yp x.day y.day) (Xa x y)
def Xf (n:NoteV):Bool:=Xx n.kind 1 4
def Jp (x r:NoteV):Bool:=decide (x.kind=6) ||(decide (x.kind=5) && (!decide (x.fix=2) || decide (r.kind=2)))
theorem Z0L (x:Int)(w:World):Calls zq 206 #[.int .i64 x] w fun e w'=>e = .returned (.bool false)/\w'=w:=by
 have h:(x != x)=false:=by simp
 go_enter Tryz.func206,Tryz.ntmps206;go_wp2;go_ret;exact⟨rfl,rfl⟩
theorem J7 (x y:Int)(w:World):Calls zq 173 #[.int .i64 x,.int .i64 y] w fun e w'=>e = .returned (.int .i64 (Yp x y))/\w'=w:=by
 have K : ∀{v:Int},Yp x y=v->Hid (Yp x y=v):=fun h=>zH h;by_cases h1:x < y
 ·have HK:=K (if_pos h1);have t1:decide (x < y)=true:=by simp[h1]
  go_enter Tryz.func173,Tryz.ntmps173;go_wp2_with fail;refine(Z0L x w).mono ?_;rintro e w1 ⟨rfl,rfl⟩;go_wp2_with fail;refine(Z0L y _).mono ?_;rintro e w1 ⟨rfl,rfl⟩;go_wp2;go_ret;rw[HK.out];exact⟨rfl,rfl⟩
 ·have t1:decide (x < y)=false:=by simp;omega
  by_cases h2:y < x
  focus
   have HK:=K ((if_neg h1).trans (if_pos h2));have t2:decide (y < x)=true:=by simp[h2]
  rotate_left
  focus
   have HK:=K ((if_neg h1).trans (if_neg h2));have t2:decide (y < x)=false:=by simp;omega
  all_goals
   go_enter Tryz.func173,Tryz.ntmps173;go_wp2_with fail;refine(Z0L x w).mono ?_;rintro e w1 ⟨rfl,rfl⟩;go_wp2_with fail;refine(Z0L y _).mono ?_;rintro e w1 ⟨rfl,rfl⟩;go_wp2;go_ret;rw[HK.out];exact⟨rfl,rfl⟩
theorem Z2k (b:Nat)(x y:Int)(w:World)(h:w.heap[b]? = some (.cells #[.int .i64 x,.int .i64 y] 3)):Calls zq 172 #[.slice (some ⟨b,0,none⟩) 2 2] w fun e w'=>e = .returned (.int .i64 (orI x y))/\w'=w:=by
 have c0:w.cell? ⟨b,0,none⟩=some (.int .i64 x):=Z6 h 0 _ rfl;have c1:w.cell? ⟨b,1,none⟩=some (.int .i64 y):=Z6 h 1 _ rfl;go_enter Tryz.func172,Tryz.ntmps172;go_wp2_with fail;go_loopw [5,8] (fun _ i wr=>((i = .int .i64 0)\/(i = .int .i64 1/\Hid (x=0))\/(i = .int .i64 2/\Hid (x=0/\y=0)))/\Hid (w=wr)) (fun _ i _=>2 - (intOf i).toNat)
 case atStart=>exact⟨.inl rfl,zH rfl⟩
 case round=>
  obtain⟨hr,HE⟩:=hrel;have:=HE.out;subst this;rcases hr with rfl | ⟨rfl,hx⟩ | ⟨rfl,hx⟩
  ·by_cases h0:x=0
   ·have t0:(x != 0)=false:=by simp[h0]
    have H0:=zH h0;clear h0;go_wp2;go_roundw
    case rel=>exact⟨.inr (.inl ⟨rfl,H0⟩),zH (by trivial)⟩
    case measure=>simp[intOf]
   ·have t0:(x != 0)=true:=by simp[h0]
    have H0:=zH (show orI x y=x from if_neg h0);clear h0;go_wp2;go_ret;rw[H0.out];exact⟨rfl,rfl⟩
  ·by_cases h0:y=0
   ·have t0:(y != 0)=false:=by simp[h0]
    have H0:=zH (show x=0/\y=0 from⟨hx.out,h0⟩);clear h0;go_wp2;go_roundw
    case rel=>exact⟨.inr (.inr ⟨rfl,H0⟩),zH (by trivial)⟩
    case measure=>simp[intOf]
   ·have t0:(y != 0)=true:=by simp[h0]
    have H0:=zH (show orI x y=y from if_pos hx.out);clear h0;go_wp2;go_ret;rw[H0.out];exact⟨rfl,rfl⟩
  ·have H0:=zH (show orI x y=0 by rw[orI,if_pos hx.out.1];exact hx.out.2);go_wp2;go_ret;rw[H0.out];exact⟨rfl,rfl⟩
structure Z4D (w W:World)(p q:Nat)(A B:Xz)(t:TypeId):Prop where
 e1:W.heap[p]? = some (.cells A t (0,0))
 e2:W.heap[q]? = some (.cells B t (0,0))
 b:Below p w W
 lt:p < q
theorem Z4D.below {w W W':World}{p q:Nat}{A B:Xz}{t:TypeId}(h:Z4D w W p q A B t)(hb:Below W.heap.size W W'):Z4D w W' p q A B t:=by
 have g : ∀{k:Nat} {o:Obj},W.heap[k]? = some o->W'.heap[k]? = some o:=fun {k o} hk=>(hb.block k (Array.getElem?_eq_some_iff.1 hk).1).trans hk;have h0:=(Array.getElem?_eq_some_iff.1 h.e1).1;exact⟨g h.e1,g h.e2,h.b.trans (hb.mono (by omega)),h.lt⟩
theorem UX (x m y k:Int)(w:World):Calls zq 124 #[.agg #[.int .i64 x,.int .i64 m],.agg #[.int .i64 y,.int .i64 k]] w fun e w'=>e = .returned (.int .i64 (YQ x m y k))/\Below w.heap.size w w':=by
 have g1:=Z8 _ (.cells (#[.int .i64 y,.int .i64 k]) 45) _ _ (Z9 w (.cells (#[.int .i64 x,.int .i64 m]) 45));have g2:=Zm (w.alloc (.cells (#[.int .i64 x,.int .i64 m]) 45)) (.cells (#[.int .i64 y,.int .i64 k]) 45) (w.heap.size+1) (by simp);have bb:Below w.heap.size w ((w.alloc (.cells (#[.int .i64 x,.int .i64 m]) 45)).alloc (.cells (#[.int .i64 y,.int .i64 k]) 45)):=(zB _ _).alloc (by simp) _;have T0:Hid (Z4D w ((w.alloc (.cells (#[.int .i64 x,.int .i64 m]) 45)).alloc (.cells (#[.int .i64 y,.int .i64 k]) 45)) w.heap.size (w.heap.size+1) (#[.int .i64 x,.int .i64 m]) (#[.int .i64 y,.int .i64 k]) 45):=zH ⟨g1,g2,bb,by omega⟩;clear g1 g2 bb;go_enter Tryz.func124,Tryz.ntmps124;go_upto_region 1 with fail;generalize (w.alloc (.cells (#[.int .i64 x,.int .i64 m]) 45)).alloc (.cells (#[.int .i64 y,.int .i64 k]) 45)=W0 at *;obtain⟨p,hp⟩:=zX (w.heap.size);obtain⟨q,hq⟩:=zX (w.heap.size+1);rw[hq.out,hp.out]at T0;rw[hq.out,hp.out];have T1:=zH (T0.out.below (zd W0));refine wp_region_noPanic ?_;refine wp_region_held_drew (S:=fun w'=>Z4D w w' p q (#[.int .i64 x,.int .i64 m]) (#[.int .i64 y,.int .i64 k]) 45) (by kernel_rfl) T1.out (fun hh=>?_);refine zS 0 rfl (.pointer (some ⟨p,0,none⟩)) (fun W _=>by go_simp) ?_;refine zS 1 rfl (.int .i64 x) (fun W h=>by have hc:=Z6 h.e1 0 (.int .i64 x) rfl;go_simp) ?_;refine zS 2 rfl (.pointer (some ⟨q,0,none⟩)) (fun W _=>by go_simp) ?_;refine zS 3 rfl (.int .i64 y) (fun W h=>by have hc:=Z6 h.e2 0 (.int .i64 y) rfl;go_simp) ?_;refine zS 5 rfl (.pointer (some ⟨p,1,none⟩)) (fun W _=>by go_simp) ?_;refine zS 6 rfl (.int .i64 m) (fun W h=>by have hc:=Z6 h.e1 1 (.int .i64 m) rfl;go_simp) ?_;refine zS 7 rfl (.pointer (some ⟨q,1,none⟩)) (fun W _=>by go_simp) ?_;refine zS 8 rfl (.int .i64 k) (fun W h=>by have hc:=Z6 h.e2 1 (.int .i64 k) rfl;go_simp) ?_;refine zR 4 rfl fun K hK=>?_;go_simp;go_at_call 173;refine(J7 x y _).mono ?_;rintro e w1 ⟨rfl,rfl⟩;dsimp only;refine zK hK T1.out fun hh=>?_;clear hK K;refine zR 9 rfl fun K hK=>?_;go_simp;go_at_call 173
 refine(J7 m k _).mono ?_;rintro e w1 ⟨rfl,rfl⟩;dsimp only;refine zK hK T1.out fun hh=>?_;clear hK K;refine zR 10 rfl fun K hK=>?_;go_simp;have TB:=zH (T1.out.below ((Below.refl W0.drew.heap.size W0.drew).alloc (Nat.le_refl _) (.cells #[.int .i64 (Yp x y),.int .i64 (Yp m k)] 3)));refine zK hK TB.out fun hh=>?_;clear hK K;refine zR 11 rfl fun K hK=>?_;go_simp;go_at_call 172;refine(Z2k W0.drew.heap.size (Yp x y) (Yp m k) _ (Z9 W0.drew _)).mono ?_;rintro e w1 ⟨rfl,rfl⟩;dsimp only;refine zK hK TB.out fun hh=>?_;clear hK K;refine zS 12 rfl (.int .i64 (orI (Yp x y) (Yp m k))) (fun W _=>by go_simp) ?_;have TE:=TB;refine zE ?_;change Exit.then _ _ Exit.normal { tmps := #[.agg #[.int .i64 x,.int .i64 m],.agg #[.int .i64 y,.int .i64 k],.pointer (some ⟨p,0,none⟩),.pointer (some ⟨q,0,none⟩),.int .i64 (orI (Yp x y) (Yp m k)),.pointer (some ⟨p,0,none⟩),.int .i64 x,.pointer (some ⟨q,0,none⟩),.int .i64 y,.int .i64 (Yp x y),.pointer (some ⟨p,1,none⟩),.int .i64 m,.pointer (some ⟨q,1,none⟩),.int .i64 k,.int .i64 (Yp m k),.slice (some ⟨W0.drew.heap.size,0,none⟩) 2 2,.int .i64 (orI (Yp x y) (Yp m k))],defers:=[] } _;go_wp2;go_ret;exact⟨rfl,by rw[hp.out];exact TE.out.b⟩
section
attribute [local go_sem] ZS
theorem Z9K (n r:NoteV)(sa:zA)(sc:Nat)(ta:zA)(tc:Nat)(w:World):Calls zq 191 #[.agg (Z5 n sa sc),.agg (Z5 r ta tc)] w fun e w'=>e = .returned (.int .i64 (Xa n r))/\Below w.heap.size w w':=by
 have I43:=zH zI;have g1:=Z8 _ (.cells (Z5 r ta tc) 47) _ _ (Z9 w (.cells (Z5 n sa sc) 47));have g2:=Zm (w.alloc (.cells (Z5 n sa sc) 47)) (.cells (Z5 r ta tc) 47) (w.heap.size+1) (by simp);have bb:Below w.heap.size w ((w.alloc (.cells (Z5 n sa sc) 47)).alloc (.cells (Z5 r ta tc) 47)):=(zB _ _).alloc (by simp) _;have T0:Hid (Z4D w ((w.alloc (.cells (Z5 n sa sc) 47)).alloc (.cells (Z5 r ta tc) 47)) w.heap.size (w.heap.size+1) (Z5 n sa sc) (Z5 r ta tc) 47):=zH ⟨g1,g2,bb,by omega⟩;clear g1 g2 bb;go_enter Tryz.func191,Tryz.ntmps191;go_upto_region 1 with fail;generalize (w.alloc (.cells (Z5 n sa sc) 47)).alloc (.cells (Z5 r ta tc) 47)=W0 at *;obtain⟨p,hp⟩:=zX (w.heap.size);obtain⟨q,hq⟩:=zX (w.heap.size+1);rw[hq.out,hp.out]at T0;rw[hq.out,hp.out];have T1:=zH (T0.out.below (zd W0));refine wp_region_noPanic ?_;refine wp_region_held_drew (S:=fun w'=>Z4D w w' p q (Z5 n sa sc) (Z5 r ta tc) 47) (by kernel_rfl) T1.out (fun hh=>?_);refine zS 0 rfl (.pointer (some ⟨p,2,none⟩)) (fun W _=>by go_simp) ?_;refine zS 1 rfl (.int .i64 n.clock) (fun W h=>by have hc:=Z6 h.e1 2 (.int .i64 n.clock) rfl;go_simp) ?_;refine zS 2 rfl (.pointer (some ⟨q,2,none⟩)) (fun W _=>by go_simp) ?_;refine zS 3 rfl (.int .i64 r.clock) (fun W h=>by have hc:=Z6 h.e2 2 (.int .i64 r.clock) rfl;go_simp) ?_;refine zT 5 rfl (.agg (Z5 n sa sc)) (Y7 (by rfl) 47 _ rfl p rfl _ 47 (0,0) _ (fun W h=>h.e1) Tryz.underlying47 rfl (I43.out _ _ _)) ?_;refine zT 7 rfl (.agg (Z5 r ta tc)) (Y7 (by rfl) 47 _ rfl q rfl _ 47 (0,0) _ (fun W h=>h.e2) Tryz.underlying47 rfl (I43.out _ _ _)) ?_;refine zR 4 rfl fun K hK=>?_;go_simp;go_at_call 173;refine(J7 n.clock r.clock _).mono ?_;rintro e w1 ⟨rfl,rfl⟩;dsimp only;refine zK hK T1.out fun hh=>?_;clear hK K;refine zR 6 rfl fun K hK=>?_;go_simp;go_at_call 167;refine(Yx n sa sc _).mono ?_;rintro e w1 ⟨rfl,b1⟩;have T2:=zH (T1.out.below b1);clear b1;dsimp only;refine zK hK T2.out fun hh=>?_;clear hK K;refine zR 8 rfl fun K hK=>?_
 go_simp;go_at_call 167;refine(Yx r ta tc _).mono ?_;rintro e w2 ⟨rfl,b1⟩;have T3:=zH (T2.out.below b1);clear b1;dsimp only;refine zK hK T3.out fun hh=>?_;clear hK K;refine zR 9 rfl fun K hK=>?_;go_simp;go_at_call 124;refine(UX n.house n.num r.house r.num _).mono ?_;rintro e w3 ⟨rfl,b1⟩;have T4:=zH (T3.out.below b1);clear b1;dsimp only;refine zK hK T4.out fun hh=>?_;clear hK K;refine zR 10 rfl fun K hK=>?_;go_simp;have TB:=zH (T4.out.below (zB w3 (.cells #[.int .i64 (Yp n.clock r.clock),.int .i64 (YQ n.house n.num r.house r.num)] 3)));refine zK hK TB.out fun hh=>?_;clear hK K;refine zR 11 rfl fun K hK=>?_;go_simp;go_at_call 172;refine(Z2k w3.heap.size (Yp n.clock r.clock) (YQ n.house n.num r.house r.num) _ (Z9 w3 _)).mono ?_;rintro e w4 ⟨rfl,rfl⟩;dsimp only;refine zK hK TB.out fun hh=>?_;clear hK K;refine zS 12 rfl (.int .i64 (orI (Yp n.clock r.clock) (YQ n.house n.num r.house r.num))) (fun W _=>by go_simp) ?_;have TE:=TB;refine zE ?_;change Exit.then _ _ Exit.normal { tmps := #[.agg (Z5 n sa sc),.agg (Z5 r ta tc),.pointer (some ⟨p,0,none⟩),.pointer (some ⟨q,0,none⟩),.int .i64 (orI (Yp n.clock r.clock) (YQ n.house n.num r.house r.num)),.pointer (some ⟨p,2,none⟩),.int .i64 n.clock,.pointer (some ⟨q,2,none⟩),.int .i64 r.clock,.int .i64 (Yp n.clock r.clock),.agg (Z5 n sa sc),.agg #[.int .i64 n.house,.int .i64 n.num],.agg (Z5 r ta tc),.agg #[.int .i64 r.house,.int .i64 r.num],.int .i64 (YQ n.house n.num r.house r.num),.slice (some ⟨w3.heap.size,0,none⟩) 2 2,.int .i64 (orI (Yp n.clock r.clock) (YQ n.house n.num r.house r.num))],defers:=[] } _;go_wp2;go_ret;exact⟨rfl,by rw[hp.out];exact TE.out.b⟩
end
theorem Z1n (a:zA)(n c:Nat)(l:List Int)(w:World)(hn:n<=1000000000)(hr:Xe w a n c l):
  Calls zq 69 #[.slice a n c] w fun e w' => ∃a' c',e = .returned (.slice a' n c')/\w'.ownsRow w.heap.size 3 1 (.slice a' n c') n (l.map Yo)/\Below w.heap.size w w':=by
 have hnc:=hr.2.1;by_cases ha:a=none
 ·subst ha;have hc:n=0/\c=0:=by
   rcases hr.2.2.2 with h | ⟨b,off,h,_⟩
   ·omega
   ·cases h
  obtain⟨rfl,rfl⟩:=hc;have hl:l=[]:=List.eq_nil_of_length_eq_zero hr.len;subst hl;clear hr hnc;have heq : ∀w,(binOp .eql 37 (.slice none 0 0) (.slice none 0 0)).run zq w = .ok (.bool true) w:=fun w=>Lib.run_eql_slice_nil (P:=zq) w 37 3 none 0 0 0 0 Tryz.underlying37;go_enter Tryz.func69,Tryz.ntmps69;go_wp2;go_ret;exact⟨_,_,rfl,World.ownsRow_nil _ _ _ _,Below.refl _ _⟩
 ·obtain⟨ad,rfl⟩:=Option.ne_none_iff_exists'.1 ha;clear ha;have heq : ∀w,(binOp .eql 37 (.slice (some ad) n c) (.slice none 0 0)).run zq w = .ok (.bool false) w:=fun w=>Lib.run_eql_slice_nil (P:=zq) w 37 3 (some ad) n c 0 0 Tryz.underlying37;have hown:=World.ownsRow_lit (base:=w.heap.size) (e:=3) (size:=1) w #[] 0 (Nat.le_refl _) (by unfold maxLen;omega) rfl;have hr1:=hr.below (zB w (Obj.cells #[] 3));go_enter Tryz.func69,Tryz.ntmps69;go_wp2_with (at_builtin;refine Z20 _ rfl _ _ rfl w.heap.size _ _ _ [] rfl hown _ _ _ l rfl hr1 (by omega) (by simp) ?_);intro a' c' w' h1 h2;have hb:=(zB w (Obj.cells #[] 3)).grown h2 (by simp) (fun q hq=>(hown.lt q hq).1);have H1:=zH (show w'.ownsRow w.heap.size 3 1 (.slice a' n c') n (l.map Yo)by simpa using h1);clear h1 h2;try simp only[Nat.zero_add]
  go_wp2;go_ret;exact⟨_,_,rfl,H1.out,hb⟩
section
attribute [local go_sem] ZS Xi Jg Qz Jf Qy Qx Qw Ve Vd JY JX JG JE JD J5 Jj Ji Js
variable (n:NoteV)(sa:zA)(sc:Nat)(w:World)
theorem Z1U:Calls zq 189 #[.agg (Z5 n sa sc)] w fun e w'=>e = .returned (.bool (Xf n))/\Below w.heap.size w w':=by
 have hb:=zB w (.cells (Z5 n sa sc) 47);go_enter Tryz.func189,Tryz.ntmps189;go_wp2_with fail;refine(YJ n.kind 1 4 _).mono ?_;rintro e w' ⟨rfl,rfl⟩;go_wp2;go_ret;exact⟨rfl,hb⟩
theorem Z8o (r:NoteV)(ta:zA)(tc:Nat):Calls zq 190 #[.agg (Z5 n sa sc),.agg (Z5 r ta tc)] w fun e w'=>e = .returned (.bool (Jp n r))/\Below w.heap.size w w':=by
 have hb:=(zB w (.cells (Z5 n sa sc) 47)).alloc (by simp) (.cells (Z5 r ta tc) 47);have hl:=Z8 _ (.cells (Z5 r ta tc) 47) _ _ (Z9 w (.cells (Z5 n sa sc) 47));have hl2:=Zm (w.alloc (.cells (Z5 n sa sc) 47)) (.cells (Z5 r ta tc) 47) (w.heap.size+1) (by simp);have c4:=Z6 hl 4 (.int .i64 n.kind) rfl;have c18:=Z6 hl 18 (.int .i64 n.fix) rfl;have d4:=Z6 hl2 4 (.int .i64 r.kind) rfl;have HB:=zH hb;clear hb hl hl2;by_cases h6:n.kind=6
 ·have q6:(n.kind==6)=true:=by simp[h6]
  have HR:=zH (show Jp n r=true by simp[Jp,h6]);clear h6;go_enter Tryz.func190,Tryz.ntmps190;go_wp2;go_ret;rw[HR.out];exact⟨rfl,HB.out⟩
 ·have q6:(n.kind==6)=false:=by simp[h6]
  by_cases h5:n.kind=5
  ·have q5:(n.kind==5)=true:=by simp[h5]
   by_cases h2:n.fix=2
   focus
    have q2:(n.fix != 2)=false:=by simp[h2]
    have HR:=zH (show Jp n r=(r.kind==2)by simp[Jp,h5,h2];by_cases h:r.kind=2 <;> simp[h])
   rotate_left
   focus
    have q2:(n.fix != 2)=true:=by simp[h2]
    have HR:=zH (show Jp n r=true by simp[Jp,h5,h2])
   all_goals
    clear h6 h5 h2;go_enter Tryz.func190,Tryz.ntmps190;go_wp2;go_ret;rw[HR.out];exact⟨rfl,HB.out⟩
  ·have q5:(n.kind==5)=false:=by simp[h5]
   have HR:=zH (show Jp n r=false by simp[Jp,h5,h6]);clear h6 h5;go_enter Tryz.func190,Tryz.ntmps190;go_wp2;go_ret;rw[HR.out];exact⟨rfl,HB.out⟩
end
open Go.Maps (Keyed)
abbrev Nm:=Int×Int
def nmV (a:Nm):Value := .agg #[.int .i64 a.1,.int .i64 a.2]
def UM (a:Nm):Prop:=Qm a.1/\Qm a.2
def nmL (a:Nm):Lit := .string (keyBytes [.int .i64 a.1,.int .i64 a.2])
theorem ZbX:laidOutB zq=true:=by kernel_rfl
theorem ZcA:(45:TypeId) < zq.types.size:=of_decide_eq_true (by kernel_rfl)
theorem ZbV:zq.keyTypeAt 2 45=true:=by kernel_rfl
theorem ZcB:WideMaps.KeyLaw zq 45:=by
 refine deep_law_laid ZbX (m:=2) (by omega) ZcA ZbV ?_;rw[Tryz.underlying45]
theorem QB:Keyed zq 45:=Keyed.of_law ZcB
theorem Z4c:zq.cellsOf 45=2:=by kernel_rfl
theorem Zcq {z:Int}(h:Qm z):(Lit.int .i64 z).wf=true:=by
 have h1:=h.1;have h2:=h.2;simp[Lit.wf,IntKind.min,IntKind.max,IntKind.signed,IntKind.bits];omega
theorem ZcH {z:Int}(h:(Lit.int .i64 z).wf=true):Qm z:=by
 simp[Lit.wf,IntKind.min,IntKind.max,IntKind.signed,IntKind.bits]at h;unfold Qm;omega
theorem Z4h:zq.keyType 45=true:=by kernel_rfl
theorem Z4i (d:Nat)(c0 c1:Value):zq.keyLits (d+2) 45 [c0,c1]=(do let a <-zq.keyLits (d+1) 3 [c0];let b <-zq.keyLits (d+1) 3 [c1];pure (a ++ b)):=by
 have hc:zq.cellsOf 3=1:=by kernel_rfl
 rw[show d+2=(d+1)+1 from rfl]
 conv=>lhs;unfold Program.keyLits;rw[Tryz.underlying45]
 simp[Z4c,hc];cases zq.keyLits (d+1) 3 [c0] <;> cases zq.keyLits (d+1) 3 [c1] <;> simp
theorem Z35 (d:Nat)(z:Int)(h:Qm z):zq.keyLits (d+1) 3 [.int .i64 z]=some [.int .i64 z]:=by
 unfold Program.keyLits;rw[Tryz.underlying3];simp[Zcq h]
theorem Z04 (d:Nat)(v:Value)(ls:List Lit)(h:zq.keyLits (d+1) 3 [v]=some ls): ∃z,v = .int .i64 z/\Qm z/\ls=[.int .i64 z]:=by
 unfold Program.keyLits at h;generalize hu:zq.underlying 3=u at h;rw[Tryz.underlying3]at hu;subst hu;cases v <;> simp at h
 obtain⟨⟨rfl,hw⟩,rfl⟩:=h;exact⟨_,rfl,ZcH hw,rfl⟩
theorem Z3C: ∃d,zq.types.size+1=d+2:=by
 have h:0 < zq.types.size:=of_decide_eq_true (by kernel_rfl);generalize zq.types.size=s at h;exact⟨s - 1,by omega⟩
theorem UO (a:Nm)(h:UM a):keyOf zq 45 (nmV a)=some (nmL a):=by
 obtain⟨d,hd⟩:=Z3C;have hf:(nmV a).formed zq 45=true:=by simp[nmV,Value.formed,Tryz.underlying45,Z4c]
 unfold keyOf;rw[Tryz.underlying45];simp only[Z4h,hf,Bool.and_self,if_true,hd];rw[show(nmV a).cells.toList=[.int .i64 a.1,.int .i64 a.2]from rfl,Z4i,Z35 _ _ h.1,Z35 _ _ h.2];rfl
theorem Z0J {v:Value}{kl:Lit}(h:keyOf zq 45 v=some kl): ∃a,v=nmV a/\UM a/\kl=nmL a:=by
 obtain⟨d,hd⟩:=Z3C;unfold keyOf at h;rw[Tryz.underlying45]at h;simp only[Z4h,Bool.true_and,hd]at h;split at h
 ·rename_i hf;cases v <;> simp[Value.formed,Tryz.underlying45,Z4c]at hf
  rename_i cs;obtain⟨l⟩:=cs
  match l,hf with
  | [c0,c1],_=>
   rw[show(Value.agg #[c0,c1]).cells.toList=[c0,c1]from rfl,Z4i]at h;cases h0:zq.keyLits (d+1) 3 [c0]with
   | none=>simp[h0]at h
   | some l0=>
    cases h1:zq.keyLits (d+1) 3 [c1]with
    | none=>simp[h0,h1]at h
    | some l1=>
     obtain⟨z0,rfl,hz0,rfl⟩:=Z04 _ _ _ h0;obtain⟨z1,rfl,hz1,rfl⟩:=Z04 _ _ _ h1;simp[h0,h1]at h;exact⟨(z0,z1),rfl,⟨hz0,hz1⟩,h.symm⟩
 ·cases h
theorem Z1F (a:Nm):WideAt.IsKeyLit (nmL a):=trivial
theorem Z5Z {a b:Nm}(h:nmV a=nmV b):a=b:=by
 simp[nmV]at h;exact Prod.ext h.1 h.2
theorem zk {a b:Nm}(ha:UM a)(hb:UM b)(h:nmL a=nmL b):a=b:=
 Z5Z (QB.inj (UO a ha) (h ▸ UO b hb))
def U6:Value->Option (DataW Value×List MemPlace):=fun v=>some (.held v,[])
structure Z0r {α:Type}(enc:α->Value)(D:DataW Value)(f:Nm->Option α):Prop where
 ok : ∀a,(f a).isSome=true->UM a
 has : ∀a,UM a->Maps.has D (nmL a)=(f a).isSome
 val : ∀a x,f a=some x -> ∀z,D.atKey (nmL a) z = .held (enc x)
def YY {α:Type}(enc:α->Value)(w:World)(b n:Nat)(f:Nm->Option α):Prop := ∃D,w.ownsMap zq 45 U6 b n D/\Z0r enc D f
def XE {α:Type}(f:Nm->Option α)(k:Nm)(x:α):Nm->Option α:=fun a=>if a=k then some x else f a
def Z6d {α:Type}(f:Nm->Option α)(k:Nm):Nm->Option α:=fun a=>if a=k then none else f a
section
variable {α:Type}{enc:α->Value}{D:DataW Value}{f:Nm->Option α}
theorem Z0r.empty:Z0r enc (.map []) (fun _=>none):=⟨by simp,fun a _=>rfl,by simp⟩
theorem Z0r.put (h:Z0r enc D f)(hm:Maps.IsMap D){k:Nm}(hk:UM k)(x:α):Z0r enc (D.put (nmL k) (.held (enc x))) (XE f k x):=by
 refine⟨fun a ha=>?_,fun a ha=>?_,fun a y hy z=>?_⟩
 ·unfold XE at ha;split at ha
  ·rename_i e;rw[e];exact hk
  ·exact h.ok a ha
 ·unfold XE;split
  ·rename_i e;rw[e,Maps.has_put_same hm (Z1F _)];rfl
  ·rename_i e;rw[Maps.has_put_other (fun he=>e (zk ha hk he))];exact h.has a ha
 ·unfold XE at hy;split at hy
  ·rename_i e;cases hy;rw[e,Maps.atKey_put_same hm (Z1F _)]
  ·rename_i e;rw[Maps.atKey_put_other (fun he=>e (zk (h.ok a (by rw[hy];rfl)) hk he))];exact h.val a y hy z
theorem Z0r.del (h:Z0r enc D f){k:Nm}(hk:UM k):Z0r enc (D.del (nmL k)) (Z6d f k):=by
 refine⟨fun a ha=>?_,fun a ha=>?_,fun a y hy z=>?_⟩
 ·unfold Z6d at ha;split at ha
  ·cases ha
  ·exact h.ok a ha
 ·unfold Z6d;split
  ·rename_i e;rw[e,Maps.has_del_same];rfl
  ·rename_i e;rw[Maps.has_del_other (fun he=>e (zk ha hk he))];exact h.has a ha
 ·unfold Z6d at hy;split at hy
  ·cases hy
  ·rename_i e;rw[Maps.atKey_del_other (fun he=>e (zk (h.ok a (by rw[hy];rfl)) hk he))];exact h.val a y hy z
variable {w:World}{b n:Nat}
theorem YY.made (w:World):YY enc (w.alloc (.map #[] 0)) w.heap.size 0 (fun _=>none):=⟨_,World.ownsMap_made w _ _ _,Z0r.empty⟩
theorem YY.lt (h:YY enc w b n f):b < w.heap.size:=by obtain⟨D,h1,_⟩:=h;exact h1.lt
theorem YY.kept {w':World}{row:Option Nat}(h:YY enc w b n f)(hg:w.grownBy w' row)(hne:some b≠row):YY enc w' b n f:=by
 obtain⟨D,h1,h2⟩:=h;exact⟨D,h1.kept hg hne,h2⟩
theorem YY.of_block {w':World}(h:YY enc w b n f)(hb:w'.heap[b]? = w.heap[b]?):YY enc w' b n f:=by
 obtain⟨D,⟨es,clock,h1,h2⟩,h3⟩:=h;exact⟨D,⟨es,clock,hb.trans h1,h2⟩,h3⟩
theorem YY.below {w':World}(h:YY enc w b n f)(hb:Below w.heap.size w w'):YY enc w' b n f:=h.of_block (hb.block b h.lt)
theorem YY.mono {m:Nat}(h:YY enc w b n f)(hn:n<=m):YY enc w b m f:=by obtain⟨D,h1,h2⟩:=h;exact⟨D,h1.mono hn,h2⟩
end
def YB {α:Type}(enc:α->Value)(w:World)(b r n:Nat)(f:Nm->Option α)(ks:List Nm)(cnt:Nat):Prop:=
 ∃D left,w.ranges zq 45 U6 b r n D left cnt/\Z0r enc D f/\(∀a,UM a->left (nmL a)=((f a).isSome && !decide (a∈ks)))/\ks.Nodup/\cnt+ks.length<=n
section
variable {α:Type}{enc:α->Value}{f:Nm->Option α}{w:World}{b r n cnt:Nat}{ks:List Nm}
theorem YB.map (h:YB enc w b r n f ks cnt):YY enc w b n f:=by obtain⟨D,left,h1,h2,_⟩:=h;exact⟨D,h1.owns,h2⟩
theorem YB.left_eq (h:YB enc w b r n f ks cnt):w.rangeLeft b r=cnt:=by obtain⟨D,left,h1,_⟩:=h;exact h1.left_eq
theorem YB.lt (h:YB enc w b r n f ks cnt):r < w.heap.size:=by obtain⟨D,left,h1,_⟩:=h;exact h1.lt
theorem YB.nodup (h:YB enc w b r n f ks cnt):ks.Nodup:=by obtain⟨D,left,_,_,_,h1,_⟩:=h;exact h1
theorem YB.count (h:YB enc w b r n f ks cnt):cnt+ks.length<=n:=by obtain⟨D,left,_,_,_,_,h1⟩:=h;exact h1
theorem YB.of_blocks {w':World}(h:YB enc w b r n f ks cnt)(hb:w'.heap[b]? = w.heap[b]?)(hr:w'.heap[r]? = w.heap[r]?):YB enc w' b r n f ks cnt:=by
 obtain⟨D,left,⟨es,clock,since,seen,c0,h1,h2,h3,h4,h5,h6⟩,h7⟩:=h;exact⟨D,left,⟨es,clock,since,seen,c0,hb.trans h1,h2,h3,h4,hr.trans h5,h6⟩,h7⟩
theorem YB.below {w':World}(h:YB enc w b r n f ks cnt)(hb:Below w.heap.size w w'):YB enc w' b r n f ks cnt:=h.of_blocks (hb.block b h.map.lt) (hb.block r h.lt)
end
section
variable {α:Type}{enc:α->Value}{f:Nm->Option α}{P:Program}(w:World){ops:Array Oper}{rest:List Oper}{o:Oper}{a:Act}{Q:Exit->Act->World->Prop}
theorem Qe (hg:o.guard=none)(m:Operand)(t e:TypeId)(hop:o.op=Op.range t m)(ht:zq.underlying t=some (.map 45 e))(b n:Nat)(hm:a.eval m = .map (some b))(hmap:YY enc w b n f)
  (hK : ∀w' cnt,YB enc w' b w.heap.size n f [] cnt->w.grownBy w' none->w'.heap.size=w.heap.size+1->wpList zq ops Q rest (a.put o.dst (.pointer (some ⟨w.heap.size,0,none⟩))) w'):wpList zq ops Q (o :: rest) a w:=by
 obtain⟨D,h1,h2⟩:=hmap;exact wpList_range_own w hg m t hop 45 e QB ht U6 b n D hm h1 (fun w' h3 h4 h5=>hK w' _ ⟨D,_,h3,h2,fun k hk=>by rw[h2.has k hk];simp,List.nodup_nil,by have:=h1.size_le;simpa using this⟩ h4 h5)
structure Z9c {α:Type}(enc:α->Value)(w:World)(b r n cnt:Nat)(f:Nm->Option α)(ks:List Nm)(kh km:Int)(y:α)(w':World)(cnt':Nat):Prop where
 at_:f (kh,km)=some y
 new:(kh,km) ∉ ks
 ok:UM (kh,km)
 range:YB enc w' b r n f (ks ++ [(kh,km)]) cnt'
 lt:cnt' < cnt
 grown:w.grownBy w' (some r)
 size:w'.heap.size=w.heap.size
def JS {α:Type}(f:Nm->Option α)(ks:List Nm):Prop := ∀k,(f k).isSome=true->k∈ks
theorem Qt (hg:o.guard=none)(it:Operand)(hop:o.op=Op.next it false)(b r n cnt:Nat)(ks:List Nm)(hit:a.eval it = .pointer (some ⟨r,0,none⟩))(h:YB enc w b r n f ks cnt)
  (hDone:JS f ks->wpList zq ops Q rest (a.put o.dst (.tuple #[.bool false])) w)
  (hMore : ∀kh km y w' cnt',Hid (Z9c enc w b r n cnt f ks kh km y w' cnt')->
   (Instr.entry (.pointer (some ⟨r,0,none⟩))).run zq w' = .ok (.tuple #[.agg #[.int .i64 kh,.int .i64 km],enc y]) w'->wpList zq ops Q rest (a.put o.dst (.tuple #[.bool true,.agg #[.int .i64 kh,.int .i64 km],enc y])) w'):wpList zq ops Q (o :: rest) a w:=by
 obtain⟨D,left,h1,h2,h3,h4,hcn⟩:=h;refine wpList_next_ranges (α:=Nm) (β:=Value) w hg it hop 45 QB U6 nmV id (fun key kl hk=>by obtain⟨a,rfl,_⟩:=Z0J hk;exact⟨a,rfl⟩) (fun v _ _=>⟨v,rfl⟩) b r n D left cnt hit h1 (fun _ hl=>hDone (fun k hk=>?_)) (fun k c kl y w' cnt' hkey hlk hv hat hrg hlt hgr hsz hen => ?_)
 ·have:=hl (nmL k);rw[h3 k (h2.ok k hk),hk]at this;simpa using this
 ·obtain⟨k',e1,hk',rfl⟩:=Z0J hkey;cases Z5Z e1;rw[h3 k hk']at hlk;simp only[Bool.and_eq_true,Bool.not_eq_true',decide_eq_false_iff_not]at hlk;obtain⟨x,hx⟩:=Option.isSome_iff_exists.1 hlk.1;have hy:=hat (.lit (.bool true));rw[h2.val k x hx]at hy;simp only[U6,Option.some.injEq]at hv;rw[<-hv]at hy;simp only[DataW.held.injEq,id_eq]at hy;subst hy;refine hMore k.1 k.2 x w' cnt' (zH ⟨hx,hlk.2,hk',⟨D,_,hrg,h2,fun a ha=>?_,?_,by rw[List.length_append,List.length_singleton];omega⟩,hlt,hgr,hsz⟩) hen
  ·rw[h3 a ha];by_cases e:a=k
   ·subst e;have:(nmL a).sameKey (nmL a)=true:=WideAt.sameKey_self (Z1F _);simp[this]
   ·have:(nmL a).sameKey (nmL k)=false:=Maps.sameKey_ne (fun he=>e (zk ha hk' he));simp[this,e]
  ·exact List.nodup_append.2 ⟨h4,by simp,fun a ha b hb e=>hlk.2 (by rw[List.mem_singleton]at hb;rw[<-show b=k from hb,<-e];exact ha)⟩
theorem Z4F (hg:o.guard=none)(m x:Operand)(t e:TypeId)(hop:o.op=Op.call { callee:=Callee.builtin Builtin.delete,args := #[m,x],argTypes := #[t,45] })(ht:zq.underlying t=some (.map 45 e))(b r n cnt:Nat)(ks:List Nm)(k:Nm)
  (hm:a.eval m = .map (some b)) (h:YB enc w b r n f ks cnt) (hx:a.eval x=nmV k) (hk:UM k) (hin:k∈ks)
  (hK : ∀w' cnt',YB enc w' b r n (Z6d f k) ks cnt'->cnt'<=cnt->w.mapTurned w' b->wpList zq ops Q rest (a.put o.dst (.tuple #[])) w'):wpList zq ops Q (o :: rest) a w:=by
 obtain⟨D,left,h1,h2,h3,h4,hcn⟩:=h;refine wpList_delete_ranges w hg m x t 45 hop e QB ht U6 b r n D left cnt hm h1 (nmV k) (nmL k) hx (UO k hk) (fun w' cnt' h5 h6 h7=>hK w' cnt' ⟨_,_,h5,h2.del hk,fun a ha=>?_,h4,by omega⟩ h6 h7);rw[h3 a ha];by_cases e:a=k
 ·subst e;have:(nmL a).sameKey (nmL a)=true:=WideAt.sameKey_self (Z1F _);simp[this,Z6d]
 ·have:(nmL a).sameKey (nmL k)=false:=Maps.sameKey_ne (fun he=>e (zk ha hk he));simp[this,Z6d,e]
end
section
variable {α:Type}{enc:α->Value}{f:Nm->Option α}{w:World}{b n:Nat}{t e:TypeId}
theorem QU (hmap:YY enc w b n f)(hn:n < maxLen)(ht:zq.underlying t=some (.map 45 e))(h m:Int)(hk:UM (h,m))(y:α):
  ∃w',(Instr.mapUpdate t (.map (some b)) (.agg #[.int .i64 h,.int .i64 m]) (enc y)).run zq w = .ok () w'/\YY enc w' b (n+1) (XE f (h,m) y)/\w.mapTurned w' b:=by
 obtain⟨D,h1,h2⟩:=hmap;obtain⟨w',h3,h4,h5⟩:=h1.store QB ht hn (UO (h,m) hk) (val:=enc y) (d := .held (enc y)) (ps:=[]) rfl;exact⟨w',h3,⟨_,h4,h2.put h1.isMap hk y⟩,h5⟩
theorem JC (hmap:YY enc w b n f)(ht:zq.underlying t=some (.map 45 e)){z:Value}(hz:(zeroValue e).run zq w = .ok z w)(h m:Int)(hk:UM (h,m)):
  (Instr.lookup t (.map (some b)) (.agg #[.int .i64 h,.int .i64 m]) true).run zq w = .ok (.tuple #[((f (h,m)).map enc).getD z,.bool (f (h,m)).isSome]) w:=by
 obtain⟨D,h1,h2⟩:=hmap;obtain⟨v,ps,h3,h4⟩:=h1.look_ok QB ht hz (zd := .held z) (zp:=[]) rfl (UO (h,m) hk);rw[h2.has (h,m) hk]at h3;simp only[U6,Option.some.injEq,Prod.mk.injEq]at h4;refine h3.trans ?_;cases hf:f (h,m)with
 | none=>
  rw[Maps.atKey_of_not_has (by rw[h2.has (h,m) hk,hf];rfl)]at h4;have:=h4.1;simp only[DataW.held.injEq]at this;rw[this];rfl
 | some y=>
  rw[h2.val (h,m) y hf]at h4;have:=h4.1;simp only[DataW.held.injEq]at this;rw[this];rfl
end
def JM (W:World)(a:zA)(n c:Nat)(l:List NoteV):Prop:=
 l.length=n/\n<=c/\c<=maxLen/\(c=0 \/ ∃b off,a=some ⟨b,off,none⟩ /\ ∀i x,l[i]? = some x -> ∃sa sc,W.rangeAt b (off+i * 19) (x.cells sa sc)/\Xe W sa x.strokes.length sc x.strokes)
theorem Zs {W W':World}{b o:Nat}{cs:List Value}(h:W.rangeAt b o cs)(hb:Below W.heap.size W W'):W'.rangeAt b o cs:=fun j v hv=>by
 have h1:=h j v hv
 exact(hb.cell (p:=⟨b,o+j,none⟩) (World.block_lt_of_cell? W _ h1)).trans h1
theorem JM.below {W W':World}{a:zA}{n c:Nat}{l:List NoteV}(h:JM W a n c l)(hb:Below W.heap.size W W'):JM W' a n c l:=by
 refine⟨h.1,h.2.1,h.2.2.1,h.2.2.2.imp id ?_⟩;rintro⟨b,off,rfl,h4⟩;refine⟨b,off,rfl,fun i x hx=>?_⟩;obtain⟨sa,sc,h5,h6⟩:=h4 i x hx;exact⟨sa,sc,Zs h5 hb,h6.below hb⟩
theorem JM.at {W:World}{a:zA}{n c:Nat}{l:List NoteV}(h:JM W a n c l)(h0:0 < n): ∃b off,a=some ⟨b,off,none⟩ /\ ∀i x,l[i]? = some x -> ∃sa sc,W.rangeAt b (off+i * 19) (x.cells sa sc)/\Xe W sa x.strokes.length sc x.strokes:=by
 rcases h.2.2.2 with h4 | h4
 ·have:=h.2.1;omega
 ·exact h4
def setAt (f:Ys)(l:List NoteV)(i:Nat):Option Int:=match l[i]? with
 | none=>none
 | some x=>if Zf f x=false then some 80 else match (if i=0 then none else l[i - 1]?)with
  | none=>none
  | some y=>if YQ y.house y.num x.house x.num=0 then some 81 else if 0 < YQ y.house y.num x.house x.num then some 1 else none
def JW (f:Ys)(l:List NoteV):Nat->Nat->Int×Nat
 | 0,_=>(0,0)
 | k+1,i=>match setAt f l i with
  | some e=>(e,i)
  | none=>JW f l k (i+1)
def Zv (f:Ys)(l:List NoteV):Int×Nat:=if f.valid=false then (1,0)else if 400 < l.length then (2,0)else JW f l l.length 0
theorem Qi {f:Ys}{l:List NoteV}{n k:Nat}{e:Int}(hk:k < n)(h:setAt f l k=some e):JW f l (n - k) k=(e,k):=by
 obtain⟨m,hm⟩ : ∃m,n - k=m+1:=⟨n - k - 1,by omega⟩;rw[hm,JW,h]
theorem zi {f:Ys}{l:List NoteV}{n k:Nat}(hk:k < n)(h:setAt f l k=none):JW f l (n - k) k=JW f l (n - (k+1)) (k+1):=by
 obtain⟨m,hm⟩ : ∃m,n - k=m+1:=⟨n - k - 1,by omega⟩;rw[hm,JW,h,show n - (k+1)=m by omega]
section
attribute [local go_sem] ZS
theorem Z6f (f:Ys)(a:zA)(n c:Nat)(l:List NoteV)(w:World)(hr:JM w a n c l):
  Calls zq 174 #[f.val,.slice a n c] w fun e w'=>e = .returned (.tuple #[.int .i64 (Zv f l).1,.int .i64 (Zv f l).2])/\Below w.heap.size w w':=by
 have I43:=zH zI;have hL:=zH hr.1;have hn63:n<=9223372036854775807:=by have h1:=hr.2.1;have h2:=hr.2.2.1;unfold maxLen at h2;omega
 have e6:=Zm (w.alloc (zF f 23)) (zF f 174) (w.heap.size+1) (by simp);have bb:Below w.heap.size w ((w.alloc (zF f 23)).alloc (zF f 174)):=(zB _ _).alloc (by simp) _;have E6:=zH e6;clear e6;have BB0:=zH bb;clear bb;unfold Ys.val;go_enter Tryz.func174,Tryz.ntmps174;go_wp2_with fail;generalize (w.alloc (zF f 23)).alloc (zF f 174)=W0 at *;obtain⟨p,hp⟩:=zX (w.heap.size);obtain⟨p6,hp6⟩:=zX (w.heap.size+1);rw[hp6.out]at E6;rw[hp.out]at BB0;rw[hp6.out,hp.out];refine(Z55 f.rings f.sectors f.wide _).mono ?_;rintro e w1 ⟨rfl,b1⟩;have B1:=zH (BB0.out.trans (b1.mono (by rw[<-hp.out];exact BB0.out.size)));have F1:=zH ((b1.block _ (Array.getElem?_eq_some_iff.1 E6.out).1).trans E6.out);clear b1 E6 BB0;have RX0:=zH (show ∀W',Below p w W'->JM W' a n c l from fun W' hb=>hr.below (by rw[hp.out];exact hb));clear hr;cases hv:f.valid
 ·have HR:=zH (show Zv f l=(1,0)by unfold Zv;rw[if_pos hv]);clear hv;go_wp2_with fail;go_returns;rw[HR.out];exact⟨rfl,by rw[hp.out];exact B1.out⟩
 ·have HV:=zH hv;clear hv;by_cases h4:400 < n
  ·have HR:=zH (show Zv f l=(2,0)by unfold Zv;rw[if_neg (by rw[HV.out];decide),if_pos (by rw[hL.out];exact h4)]);have t4:decide ((400:Int) < (n:Int))=true:=by simp;omega
   go_wp2_with fail;go_returns;rw[HR.out];exact⟨rfl,by rw[hp.out];exact B1.out⟩
  ·have HG0:=zH (show Zv f l=JW f l n 0 by unfold Zv;rw[if_neg (by rw[HV.out];decide),if_neg (by rw[hL.out];exact h4),hL.out]);have t4:decide ((400:Int) < (n:Int))=false:=by simp;omega
   go_wp2_with fail;go_loopw [22] (fun i wr=>∃k:Nat,i = .int .i64 k/\k<=n/\Hid (Zv f l=JW f l (n - k) k)/\Hid (Below w.heap.size w wr)/\Hid (wr.heap[p6]? = some (.cells #[.int .i64 f.rings,.int .i64 f.sectors,.int .i64 f.wide] 174))) (fun i _=>n - (intOf i).toNat)
   case atStart=>exact⟨0,rfl,Nat.zero_le _,HG0,by rw[hp.out];exact B1,F1⟩
   case round=>
    obtain⟨k,rfl,hk,HG,HB,HF6⟩:=hrel;rw[hp.out]at HB;by_cases hlt:k < n
    ·obtain⟨x,hx⟩ : ∃x,l[k]? = some x:=⟨_,List.getElem?_eq_getElem (by rw[hL.out];exact hlt)⟩;have HX:=zH hx;obtain⟨b,off,rfl,hall⟩:=(RX0.out _ HB.out).at (by omega);obtain⟨sa,sc,hrange,hrd⟩:=hall k x hx;have HRA:=zH hrange;have RX:=zH (show ∀W',Below wr.heap.size wr W'->Xe W' sa x.strokes.length sc x.strokes from fun W' hb=>hrd.below hb);have HALL:=zH hall;clear hall hx hrange hrd;have hk63:(k:Int)<=9223372036854775807:=by omega
     go_upto_region 9 with (first
      |(refine wpList_load_mid rfl 47 _ rfl b (off+k * 19) rfl (x.cells sa sc) _ HRA.out Tryz.underlying47 rfl (Qh x sa sc) ?_)
      |(refine zP wr wr.heap.size (Z5 x sa sc) ?_))
     have hbt:Below wr.heap.size wr (wr.alloc (.cells (Z5 x sa sc) 47)):=zB _ _;have TT:=zH (Z9 wr (.cells (Z5 x sa sc) 47));have FF:=zH ((hbt.block _ (Array.getElem?_eq_some_iff.1 HF6.out).1).trans HF6.out);have BB:=zH (HB.out.trans (hbt.mono (by rw[<-hp.out];exact HB.out.size)));have BW:=zH hbt;clear hbt;obtain⟨p8,hp8⟩:=zX (wr.heap.size);rw[hp8.out]at TT ⊢;generalize wr.alloc (.cells (Z5 x sa sc) 47)=wt at *;by_cases hk0:k=0
     ·have HK0:=zH hk0;have k0a:decide (0 < k)=false:=by simp;omega
      clear hk0;go_upto_region 12 with fail;have c0:=Z6 FF.out 0 _ rfl;have c1:=Z6 FF.out 1 _ rfl;have c2:=Z6 FF.out 2 _ rfl;go_wp2_with (refine zL p8 TT.out ?_);refine(Z1k f x sa sc _ HV.out (RX.out _ BW.out)).mono ?_;rintro e w5 ⟨rfl,b5⟩;have B5:=zH (BB.out.trans (b5.mono (by rw[<-hp.out];exact BB.out.size)));have F5:=zH ((b5.block _ (Array.getElem?_eq_some_iff.1 FF.out).1).trans FF.out);clear b5 c0 c1 c2;cases hf:Zf f x
      ·have HR:=zH (show Zv f l=(80,k)by rw[HG.out];exact Qi hlt (by unfold setAt;rw[HX.out];simp only;rw[if_pos hf]));clear hf;go_wp2_with fail;go_returns;rw[HR.out];exact⟨rfl,by rw[hp.out];exact B5.out⟩
      ·have HR:=zH (show JW f l (n - k) k=JW f l (n - (k+1)) (k+1)from zi hlt (by unfold setAt;rw[HX.out];simp only;rw[if_neg (by rw[hf];decide),if_pos HK0.out]));clear hf;go_wp2;go_roundw
       case rel=>exact⟨k+1,by go_num,by omega,zH (by rw[<-HR.out];exact HG.out),by rw[hp.out];exact B5,F5⟩
       case measure=>simp[intOf];omega
     ·have HK0:=zH hk0;obtain⟨j,rfl⟩ : ∃j,k=j+1:=⟨k - 1,by omega⟩;have k0a:decide (0 < j+1)=true:=by simp
      clear hk0;obtain⟨y,hy⟩ : ∃y,l[j]? = some y:=⟨_,List.getElem?_eq_getElem (by rw[hL.out];omega)⟩;obtain⟨ya,yc,hyr,_⟩:=HALL.out j y hy;have HYR:=zH (Zs hyr BW.out);have HY:=zH (show l[j+1 - 1]? = some y by rw[Nat.add_sub_cancel];exact hy);have hjn:j < n:=by omega
      have hwj:IntKind.i64.wrap (j:Int)=(j:Int):=by first|(rw[IntKind.wrap_i64];omega)|(rw[IntKind.wrap_i64];unfold wrap64;omega)
      clear hy hyr;go_upto_region 11 with fail;have hS0:Below wt.heap.size wt wt.drew:=(zd wt);have HS0:=zH hS0;refine wp_region_noPanic ?_;refine wp_region_held_drew (S:=fun w'=>Below wt.heap.size wt w') (by kernel_rfl) hS0 (fun hh=>?_);clear hS0;refine zS 0 rfl (.slice (some ⟨b,off,none⟩) n c) (fun W _=>by go_simp) ?_;refine zS 1 rfl (.int .i64 ((j:Int)+1)) (fun W _=>by go_simp) ?_;refine zS 2 rfl (.int .i64 (j:Int)) (fun W _=>by go_simp) ?_;refine zS 3 rfl (.pointer (some ⟨b,off+j * 19,none⟩)) (fun W _=>by go_simp) ?_;refine zT 4 rfl (.agg (y.cells ya yc).toArray) (yieldsIf_load_mid (by rfl) 47 _ rfl b (off+j * 19) rfl (y.cells ya yc) _ (fun W h=>Zs HYR.out h) Tryz.underlying47 rfl (Qh y ya yc)) ?_;refine zT 6 rfl (.agg (Z5 x sa sc)) (Y7 (by rfl) 47 _ rfl p8 rfl _ 47 (0,0) _ (fun W h=>(h.block _ (Array.getElem?_eq_some_iff.1 TT.out).1).trans TT.out) Tryz.underlying47 rfl (I43.out _ _ _)) ?_;refine zR 5 rfl fun K hK=>?_;go_simp;go_at_call 167;refine(Yx y ya yc _).mono ?_;rintro e v1 ⟨rfl,b1⟩;have V1:=zH (HS0.out.trans (b1.mono HS0.out.size));clear b1;dsimp only;refine zK hK V1.out fun hh=>?_;clear hK K;refine zR 7 rfl fun K hK=>?_;go_simp;go_at_call 167;refine(Yx x sa sc _).mono ?_;rintro e v2 ⟨rfl,b1⟩;have V2:=zH (V1.out.trans (b1.mono V1.out.size));clear b1;dsimp only;refine zK hK V2.out fun hh=>?_;clear hK K;obtain⟨o,HO⟩ : ∃o,Hid (o=YQ y.house y.num x.house x.num):=⟨_,zH rfl⟩;refine zR 8 rfl fun K hK=>?_;go_simp;go_at_call 124;refine(UX y.house y.num x.house x.num _).mono ?_;rintro e v3 ⟨rfl,b1⟩;have V3:=zH (V2.out.trans (b1.mono V2.out.size));clear b1;rw[<-HO.out];dsimp only;refine zK hK V3.out fun hh=>?_;clear hK K;refine zS 9 rfl (.int .i64 o) (fun W _=>by go_simp) ?_;refine zE ?_;replace TT:=zH ((V3.out.block _ (Array.getElem?_eq_some_iff.1 TT.out).1).trans TT.out);replace FF:=zH ((V3.out.block _ (Array.getElem?_eq_some_iff.1 FF.out).1).trans FF.out);replace BB:=zH (BB.out.trans (V3.out.mono (by rw[<-hp.out];exact BB.out.size)));replace BW:=zH (BW.out.trans (V3.out.mono BW.out.size))
      clear V1 V2 V3 HS0 HYR;go_upto_region 12 with fail;have c0:=Z6 FF.out 0 _ rfl;have c1:=Z6 FF.out 1 _ rfl;have c2:=Z6 FF.out 2 _ rfl;go_wp2_with (refine zL p8 TT.out ?_);refine(Z1k f x sa sc _ HV.out (RX.out _ BW.out)).mono ?_;rintro e w5 ⟨rfl,b5⟩;have B5:=zH (BB.out.trans (b5.mono (by rw[<-hp.out];exact BB.out.size)));have F5:=zH ((b5.block _ (Array.getElem?_eq_some_iff.1 FF.out).1).trans FF.out);clear b5 c0 c1 c2;cases hf:Zf f x
      ·have HR:=zH (show Zv f l=(80,j+1)by rw[HG.out];exact Qi hlt (by unfold setAt;rw[HX.out];simp only;rw[if_pos hf]));clear hf;go_wp2_with fail;go_returns;rw[HR.out];exact⟨rfl,by rw[hp.out];exact B5.out⟩
      ·have HF:=zH hf;clear hf;by_cases ho:o=0
       ·have ho1:(o==0)=true:=by simp[ho]
        have HR:=zH (show Zv f l=(81,j+1)by rw[HG.out];exact Qi hlt (by unfold setAt;rw[HX.out];simp only;rw[if_neg (by rw[HF.out];decide),if_neg HK0.out,HY.out];simp only;rw[<-HO.out,if_pos ho]));clear ho;go_wp2_with fail;go_returns;rw[HR.out];exact⟨rfl,by rw[hp.out];exact B5.out⟩
       ·have ho1:(o==0)=false:=by simp[ho]
        by_cases hp2:0 < o
        ·have ho2:decide (0 < o)=true:=by simp[hp2]
         have HR:=zH (show Zv f l=(1,j+1)by rw[HG.out];exact Qi hlt (by unfold setAt;rw[HX.out];simp only;rw[if_neg (by rw[HF.out];decide),if_neg HK0.out,HY.out];simp only;rw[<-HO.out,if_neg ho,if_pos hp2]));clear ho hp2;go_wp2_with fail;go_returns;rw[HR.out];exact⟨rfl,by rw[hp.out];exact B5.out⟩
        ·have ho2:decide (0 < o)=false:=by simp;omega
         have HR:=zH (show JW f l (n - (j+1)) (j+1)=JW f l (n - (j+1+1)) (j+1+1)from zi hlt (by unfold setAt;rw[HX.out];simp only;rw[if_neg (by rw[HF.out];decide),if_neg HK0.out,HY.out];simp only;rw[<-HO.out,if_neg ho,if_neg hp2]));clear ho hp2;go_wp2;go_roundw
         case rel=>exact⟨j+1+1,by go_num,by omega,zH (by rw[<-HR.out];exact HG.out),by rw[hp.out];exact B5,F5⟩
         case measure=>simp[intOf];omega
    ·have hkn:k=n:=by omega
     subst hkn;have HR:=zH (show Zv f l=(0,0)by rw[HG.out,Nat.sub_self];rfl);go_wp2_with fail;go_returns;rw[HR.out];exact⟨rfl,by rw[hp.out];exact HB.out⟩
end
structure LN where
 n:NoteV
 sa:zA
 sc:Nat
def LN.val (x:LN):Value := .agg (Z5 x.n x.sa x.sc)
def LN.nm (x:LN):Nm:=(x.n.house,x.n.num)
def LN.ok (W:World)(x:LN):Prop:=Xe W x.sa x.n.strokes.length x.sc x.n.strokes
theorem LN.ok.below {W W':World}{x:LN}(h:x.ok W)(hb:Below W.heap.size W W'):x.ok W':=Xe.below h hb
def Jb (W:World)(a:zA)(n c:Nat)(xs:List LN):Prop:=
 xs.length=n/\n<=c/\c<=maxLen/\(c=0 \/ ∃b off,a=some ⟨b,off,none⟩ /\ ∀i x,xs[i]? = some x->W.rangeAt b (off+i * 19) (x.n.cells x.sa x.sc)/\x.ok W)
theorem Jb.below {W W':World}{a:zA}{n c:Nat}{l:List LN}(h:Jb W a n c l)(hb:Below W.heap.size W W'):Jb W' a n c l:=by
 refine⟨h.1,h.2.1,h.2.2.1,h.2.2.2.imp id ?_⟩;rintro⟨b,off,rfl,h4⟩;refine⟨b,off,rfl,fun i x hx=>?_⟩;obtain⟨h5,h6⟩:=h4 i x hx;exact⟨Zs h5 hb,h6.below hb⟩
theorem Jb.at {W:World}{a:zA}{n c:Nat}{l:List LN}(h:Jb W a n c l)(h0:0 < n): ∃b off,a=some ⟨b,off,none⟩ /\ ∀i x,l[i]? = some x->W.rangeAt b (off+i * 19) (x.n.cells x.sa x.sc)/\x.ok W:=by
 rcases h.2.2.2 with h4 | h4
 ·have:=h.2.1;omega
 ·exact h4
theorem Z5z: ∀(l:List NoteV) (P:Nat->LN->Prop),(∀i x,l[i]? = some x -> ∃y:LN,y.n=x/\P i y) -> ∃xs:List LN,xs.map LN.n=l /\ ∀i y,xs[i]? = some y->P i y
 | [],_,_=>⟨[],rfl,by simp⟩
 | x :: l,P,h=>by
  obtain⟨y,h1,h2⟩:=h 0 x rfl
  obtain⟨xs,h3,h4⟩:=Z5z l (fun i=>P (i+1)) (fun i x hx=>h (i+1) x hx)
  refine⟨y :: xs,by simp[h1,h3],fun i z hz=>?_⟩
  cases i with
  | zero=>simp at hz;exact hz ▸ h2
  | succ i=>exact h4 i z hz
theorem JM.choose {W:World}{a:zA}{n c:Nat}{l:List NoteV}(h:JM W a n c l): ∃xs:List LN,xs.map LN.n=l/\Jb W a n c xs:=by
 obtain⟨h1,h2,h3,h4⟩:=h;rcases h4 with h4 | ⟨b,off,rfl,h4⟩
 ·have:l=[]:=List.eq_nil_of_length_eq_zero (by omega);subst this;exact⟨[],rfl,h1,h2,h3,.inl h4⟩
 ·obtain⟨xs,h5,h6⟩:=Z5z l (fun i y=>W.rangeAt b (off+i * 19) (y.n.cells y.sa y.sc)/\y.ok W) (fun i x hx=>by
   obtain⟨sa,sc,h7,h8⟩:=h4 i x hx;exact⟨⟨x,sa,sc⟩,rfl,h7,h8⟩)
  exact⟨xs,h5,by rw[<-h1,<-h5];simp,h2,h3,.inr ⟨b,off,rfl,h6⟩⟩
def Xp (xs:List LN):Nm->Option LN:=xs.foldl (fun f x=>XE f x.nm x) (fun _=>none)
theorem Z9n (xs:List LN)(x:LN):Xp (xs ++ [x])=XE (Xp xs) x.nm x:=by simp[Xp,List.foldl_append]
theorem Y8 {α:Type}{xs:List α}{k:Nat}{x:α}(h:xs[k]? = some x):xs.take (k+1)=xs.take k ++ [x]:=by
 rw[List.take_add_one,h];rfl
def Z8N (f:Ys)(l:List NoteV)(w:World)(e:Ending)(w':World):Prop:=
 ((Zv f l).1≠0/\e = .returned (.tuple #[.map none,.bool false])) \/
 ((Zv f l).1=0 /\ ∃xs b,e = .returned (.tuple #[.map (some b),.bool true])/\xs.map LN.n=l/\(∀x∈xs,x.ok w')/\YY LN.val w' b l.length (Xp xs)/\w.heap.size<=b)
section
attribute [local go_sem] ZS
theorem Z9m (f:Ys)(a:zA)(n c:Nat)(l:List NoteV)(w:World)(hr:JM w a n c l)(hok : ∀x∈l,x.Ok):
  Calls zq 121 #[f.val,.slice a n c] w fun e w'=>Z8N f l w e w'/\Below w.heap.size w w':=by
 have I43:=zH zI;obtain⟨xs,hxs,hR⟩:=hr.choose;have HXS:=zH hxs;have HOK:=zH (show ∀x∈xs,UM x.nm from fun x hx=>by
  have:=hok x.n (by rw[<-hxs];exact List.mem_map_of_mem hx);exact⟨this.house,this.num⟩)
 have HLen:=zH (show l.length=n from hr.1);have HL:=zH hR.1;have HN:=zH (show n<=maxLen by have:=hr.2.1;have:=hr.2.2.1;omega);have hn63:n<=9223372036854775807:=by have h1:=HN.out;unfold maxLen at h1;omega
 have RX0:=zH (show ∀W',Below w.heap.size w W'->Jb W' a n c xs from fun W' hb=>hR.below hb);have CS:=zH (fun W (hb:Below w.heap.size w W)=>Z6f f a n c l W (hr.below hb));unfold Ys.val at CS;have SE0:=zH (show ∀e w',(Zv f l).1≠0->e = .returned (.tuple #[.map none,.bool false])->Z8N f l w e w' from fun e w' h1 h2 => .inl ⟨h1,h2⟩);have SE1:=zH (show ∀e w' b,(Zv f l).1=0->e = .returned (.tuple #[.map (some b),.bool true])->(∀x∈xs,x.ok w')->YY LN.val w' b n (Xp xs)->w.heap.size<=b->Z8N f l w e w' from fun e w' b h1 h2 h3 h4 h5 => .inr ⟨h1,xs,b,h2,hxs,h3,by rw[HLen.out];exact h4,h5⟩);clear hxs hR hr hok;obtain⟨z,HZ⟩:=zX ((Zv f l).1);obtain⟨y,HY⟩:=zX ((Zv f l).2);rw[HZ.out,HY.out]at CS;rw[HZ.out]at SE0 SE1;unfold Ys.val;have bb:=zB w (zF f 23);have BB:=zH bb;clear bb;go_enter Tryz.func121,Tryz.ntmps121;go_wp2_with fail;refine(CS.out _ BB.out).mono ?_;rintro e w1 ⟨rfl,b1⟩;have B1:=zH (BB.out.trans (b1.mono BB.out.size));clear b1;by_cases h0:z=0
 ·have t0:(z != 0)=false:=by simp[h0]
  have H0:=zH h0;clear h0;have M0:=zH (YY.made (enc:=LN.val) w1);have hmm := @run_makeMap zq;have B2:=zH (B1.out.alloc B1.out.size (.map #[] 0));obtain⟨b,hb⟩:=zX (w1.heap.size);have HB:=zH (show w.heap.size<=b by rw[<-hb.out];exact B1.out.size);rw[hb.out]at M0;go_wp2_with fail;rw[hb.out];clear hmm;go_loopw [22] (fun i wr=>∃k:Nat,i = .int .i64 k/\k<=n/\Hid (Below w.heap.size w wr)/\Hid (YY LN.val wr b k (Xp (xs.take k)))) (fun i _=>n - (intOf i).toNat)
  case atStart=>exact⟨0,rfl,Nat.zero_le _,B2,M0⟩
  case round=>
   obtain⟨k,rfl,hk,HBr,HM⟩:=hrel;by_cases hlt:k < n
   ·obtain⟨x,hx⟩ : ∃x,xs[k]? = some x:=⟨_,List.getElem?_eq_getElem (by rw[HL.out];exact hlt)⟩;have HX:=zH hx;have HXok:=zH (HOK.out x (List.mem_of_getElem? hx));obtain⟨bs,off,rfl,hall⟩:=(RX0.out _ HBr.out).at (by omega);obtain⟨hrange,_⟩:=hall k x hx;have HRA:=zH hrange;clear hall hx hrange;have hk63:(k:Int)<=9223372036854775807:=by omega
    go_upto_region 8 with (first
     |(refine wpList_load_mid rfl 47 _ rfl bs (off+k * 19) rfl (x.n.cells x.sa x.sc) _ HRA.out Tryz.underlying47 rfl (Qh x.n x.sa x.sc) ?_)
     |(refine zP wr wr.heap.size (Z5 x.n x.sa x.sc) ?_))
    have hbt:Below wr.heap.size wr (wr.alloc (.cells (Z5 x.n x.sa x.sc) 47)):=zB _ _;have TT:=zH (Z9 wr (.cells (Z5 x.n x.sa x.sc) 47));have BT:=zH (HBr.out.trans (hbt.mono HBr.out.size));have MT:=zH (HM.out.below hbt);obtain⟨p8,hp8⟩:=zX (wr.heap.size);have HNE:=zH (show b < p8 by rw[<-hp8.out];exact HM.out.lt);rw[hp8.out]at TT ⊢;generalize wr.alloc (.cells (Z5 x.n x.sa x.sc) 47)=wt at *;clear hbt;refine zp TT.out fun hh=>?_;refine zS 0 rfl (.map (some b)) (fun W _=>by go_simp) ?_;refine zT 1 rfl (.agg (Z5 x.n x.sa x.sc)) (Y7 (by rfl) 47 _ rfl p8 rfl _ 47 (0,0) _ (fun W h=>h) Tryz.underlying47 rfl (I43.out _ _ _)) ?_;refine zT 3 rfl (.agg (Z5 x.n x.sa x.sc)) (Y7 (by rfl) 47 _ rfl p8 rfl _ 47 (0,0) _ (fun W h=>h) Tryz.underlying47 rfl (I43.out _ _ _)) ?_;refine zR 2 rfl fun K hK=>?_;go_simp;go_at_call 167;refine(Yx x.n x.sa x.sc _).mono ?_;rintro e v1 ⟨rfl,b1⟩;have b2:Below wt.heap.size wt v1:=((zd wt)).trans b1;have V1:=zH (BT.out.trans (b2.mono BT.out.size));have M1:=zH (MT.out.below b2);have T1:=zH ((b2.block _ (Array.getElem?_eq_some_iff.1 TT.out).1).trans TT.out);clear b1 b2;dsimp only;refine zK hK T1.out fun hh=>?_;clear hK K;refine zR 4 rfl fun K hK=>?_;have hput:=QU (t:=119) M1.out (by have:=HN.out;omega) Tryz.underlying119 x.n.house x.n.num HXok.out x;obtain⟨v2,hrun,hm2,ht2⟩:=hput;have M2:=zH hm2;have V2:=zH (V1.out.grown ht2.grown V1.out.size (fun q hq=>by cases hq;exact HB.out));have T2:=zH ((ht2.grown.block p8 (Array.getElem?_eq_some_iff.1 T1.out).1 (fun he=>by cases he;exact absurd HNE.out (Nat.lt_irrefl _))).trans T1.out);clear hm2 ht2;unfold LN.val at hrun;go_simp;refine zK hK T2.out fun hh=>?_;clear hK K;refine zE ?_;go_wp2;go_roundw
    case rel=>exact⟨k+1,by go_num,by omega,V2,zH (by rw[Y8 HX.out,Z9n];exact M2.out)⟩
    case measure=>simp[intOf];omega
   ·have hkn:k=n:=by omega
    subst hkn;have HF:=zH (show YY LN.val wr b k (Xp xs)by have:=HM.out;rw[List.take_of_length_le (by rw[HL.out];exact Nat.le_refl _)]at this;exact this);have HA:=zH (show ∀x∈xs,x.ok wr from fun x hx=>by
     obtain⟨i,hi⟩:=List.getElem?_of_mem hx;have hi2:i < xs.length:=(List.getElem?_eq_some_iff.1 hi).1;obtain⟨_,_,_,hall⟩:=(RX0.out _ HBr.out).at (by rw[<-HL.out];omega);exact(hall i x hi).2)
    go_wp2_with fail;go_returns;exact⟨SE1.out _ _ _ H0.out rfl HA.out HF.out HB.out,HBr.out⟩
 ·have t0:(z != 0)=true:=by simp[h0]
  have H0:=zH h0;clear h0;go_wp2_with fail;go_returns;exact⟨SE0.out _ _ H0.out rfl,B1.out⟩
end
theorem ZP (w:World)(p:Nat)(c c':Xz)(t:TypeId)(fr:Nat×Nat)(hp:w.heap[p]? = some (.cells c t fr)):(w.setRow p c').heap[p]? = some (.cells c' t fr):=by
 simp only[World.setRow,Array.getElem?_modify,hp];simp
theorem Y6 (w:World)(p:Nat)(c':Xz):w.grownBy (w.setRow p c') (some p):=
 ⟨rfl,rfl,rfl,by simp[World.setRow],fun k _ hk=>by
  have : ¬p=k:=fun e=>hk (by rw[e])
  simp[World.setRow,Array.getElem?_modify,this]⟩
theorem Z16 {w w':World}(h:Below w.heap.size w w')(r:Option Nat):w.grownBy w' r:=⟨h.os,h.tape,h.output,h.size,fun k hk _=>h.block k hk⟩
theorem Zc {w w':World}{row:Option Nat}{p:Nat}{o:Obj}(hg:w.grownBy w' row)(h:w.heap[p]? = some o)(hne:some p≠row):w'.heap[p]? = some o:=
 (hg.block p (Array.getElem?_eq_some_iff.1 h).1 hne).trans h
theorem Z7 {w w':World}{p:Nat}{o:Obj}(hg:Below w.heap.size w w')(h:w.heap[p]? = some o):w'.heap[p]? = some o:=
 (hg.block p (Array.getElem?_eq_some_iff.1 h).1).trans h
theorem Zq {w:World}{p:Nat}{o:Obj}(h:w.heap[p]? = some o):p < w.heap.size:=(Array.getElem?_eq_some_iff.1 h).1
section
attribute [local go_sem] Jg
theorem ZaQ (n:NoteV)(sa:zA)(sc:Nat)(h m:Int)(q:Nat)(clock:Int)(w:World)(hq:w.heap[q]? = some (.cells #[.int .i64 clock] 3)):
  Calls zq 150 #[.agg #[.int .i64 h,.int .i64 m],.agg (Z5 n sa sc),.pointer (some ⟨q,0,none⟩)] w fun e w'=>e = .returned (.bool (decide (clock < n.clock)))/\Below w.heap.size w w':=by
 have B:=zH ((zB w (.cells #[.int .i64 h,.int .i64 m] 45)).alloc (by simp) (.cells (Z5 n sa sc) 47));have hl:=Zm (w.alloc (.cells #[.int .i64 h,.int .i64 m] 45)) (.cells (Z5 n sa sc) 47) (w.heap.size+1) (by simp);have c2:=Z6 hl 2 (.int .i64 n.clock) rfl;have q2:=Z6 (Z8 _ (.cells (Z5 n sa sc) 47) _ _ (Z8 w (.cells #[.int .i64 h,.int .i64 m] 45) _ _ hq)) 0 (.int .i64 clock) rfl;clear hl;go_enter Tryz.func150,Tryz.ntmps150;go_wp2;go_ret;exact⟨rfl,B.out⟩
end
def Un (clock:Int)(f:Nm->Option LN)(ks:List Nm):Nm->Option LN:=fun a=>if a∈ks then (f a).filter (fun x=>!decide (clock < x.n.clock))else f a
theorem Z8m {clock:Int}{f:Nm->Option LN}{ks:List Nm}{k:Nm}{x:LN}(hf:f k=some x)(h:decide (clock < x.n.clock)=false):Un clock f (ks ++ [k])=Un clock f ks:=by
 funext a;unfold Un;by_cases e:a=k
 ·subst e;simp[hf,Option.filter,h]
 ·simp[e]
theorem Z9H {clock:Int}{f:Nm->Option LN}{ks:List Nm}{k:Nm}{x:LN}(hf:f k=some x)(h:decide (clock < x.n.clock)=true):Un clock f (ks ++ [k])=Z6d (Un clock f ks) k:=by
 funext a;unfold Un Z6d;by_cases e:a=k
 ·subst e;simp[hf,Option.filter,h]
 ·simp[e]
theorem zo {clock:Int}{f:Nm->Option LN}{ks:List Nm}{k:Nm}(hk:k ∉ ks):Un clock f ks k=f k:=by simp[Un,hk]
theorem Z9I {clock:Int}{f:Nm->Option LN}{ks:List Nm}(h : ∀k,(Un clock f ks k).isSome=true->k∈ks):Un clock f ks=fun a=>(f a).filter (fun x=>!decide (clock < x.n.clock)):=by
 funext a;by_cases e:a∈ks
 ·simp[Un,e]
 ·have h1:=h a;rw[zo e]at h1;rw[zo e];cases hf:f a with
  | none=>rfl
  | some x=>exact absurd (h1 (by rw[hf];rfl)) e
theorem Z8D (b n:Nat)(f:Nm->Option LN)(q:Nat)(clock:Int)(w:World)(hm:YY LN.val w b n f)(hq:w.heap[q]? = some (.cells #[.int .i64 clock] 3)):
  Calls zq 149 #[.map (some b),.func (.func 150) #[] #[.pointer (some ⟨q,0,none⟩)]] w fun e w'=>
   e = .returned (.tuple #[])/\YY LN.val w' b n (fun a=>(f a).filter (fun x=>!decide (clock < x.n.clock)))/\w.grownBy w' (some b):=by
 have I43:=zH zI;have I41:=zH (show ∀(x y:Int),(zq.info? 45).map (·.size)=some (#[Value.int .i64 x,Value.int .i64 y]).size from fun x y=>by kernel_rfl);have hbw:=hm.lt;have HBW:=zH hbw;clear hbw;have HQ:=zH hq;clear hq;have HNE:=zH (show q≠b from fun e=>by
  subst e;obtain⟨D,⟨es,clock,h1,_⟩,_⟩:=hm;rw[HQ.out]at h1;cases h1)
 go_enter Tryz.func149,Tryz.ntmps149;go_wp2_with (first
  |(at_range;refine Qe _ rfl _ 119 47 rfl Tryz.underlying119 b n rfl hm ?_;intro w0 cnt0 hrg0 hg0 hs0)
  | fail)
 go_frame;obtain⟨r,hr⟩:=zX (w.heap.size);have HQ0:=zH (Zc hg0 HQ.out (by simp));have G0:=zH (hg0.but (some b));rw[hr.out]at hrg0;rw[hr.out];clear hm hg0 hs0;go_loopw [8] (fun _ wr=>∃(ks:List Nm) (cnt:Nat),Hid (YB LN.val wr b r n (Un clock f ks) ks cnt)/\Hid (w.grownBy wr (some b))/\Hid (wr.heap[q]? = some (.cells #[.int .i64 clock] 3))) (fun _ wr=>wr.rangeLeft b r)
 case atStart=>exact⟨[],cnt0,zH (by rw[show Un clock f []=f from funext fun a=>by simp[Un]];exact hrg0),G0,HQ0⟩
 case round=>
  obtain⟨ks,cnt,HR,HG,HC⟩:=hrel;clear HQ0 hrg0 G0;go_upto_region 2 with (first
   |(at_next;refine Qt wr rfl _ rfl b r n cnt ks rfl HR.out ?_ ?_)
   | fail)
  ·intro hall;have HE:=zH (show YY LN.val wr b n (fun a=>(f a).filter (fun x=>!decide (clock < x.n.clock)))by rw[<-Z9I hall];exact HR.out.map);clear hall;go_wp2;go_end0;exact⟨rfl,HE.out,HG.out⟩
  ·intro kh km y w1 cnt1 HN hen;unfold LN.val at hen;have HC1:=zH (Zc HN.out.grown HC.out (fun e=>by
    have e':=Option.some.inj e;have h1:=Zq HQ.out;have h2:=hr.out;omega))
   have HG1:=zH (HG.out.andThen HN.out.grown (fun j hj=>by cases hj;exact .inl (by rw[hr.out];exact Nat.le_refl _)));have HR1:=zH HN.out.range;go_upto_region 3 with (first
    |(refine ZM (w1.alloc (.cells #[.int .i64 kh,.int .i64 km] 45)) rfl 47 _ _ rfl (w1.heap.size+1) (by simp) _ (Z5 y.n y.sa y.sc) rfl rfl (I43.out _ _ _) rfl (Zh y.n y.sa y.sc) ?_))
   have BT:=zH ((zB w1 (.cells #[.int .i64 kh,.int .i64 km] 45)).alloc (by simp) (.cells (Z5 y.n y.sa y.sc) 47));have T4:=zH (Z8 _ (.cells (Z5 y.n y.sa y.sc) 47) _ _ (Z9 w1 (.cells #[.int .i64 kh,.int .i64 km] 45)));have T5:=zH (Zm (w1.alloc (.cells #[.int .i64 kh,.int .i64 km] 45)) (.cells (Z5 y.n y.sa y.sc) 47) (w1.heap.size+1) (by simp));generalize (w1.alloc (.cells #[.int .i64 kh,.int .i64 km] 45)).alloc (.cells (Z5 y.n y.sa y.sc) 47)=wt at *;obtain⟨p4,hp4⟩:=zX (w1.heap.size);obtain⟨p5,hp5⟩:=zX (w1.heap.size+1);rw[hp5.out]at T5 ⊢;rw[hp4.out]at T4 ⊢;have RT:=zH (HR1.out.below BT.out);have CT:=zH (Z7 BT.out HC1.out);have GT:=zH (HG1.out.andThen (Z16 BT.out none) (fun j hj=>by cases hj));have n0:=Z6 T4.out 0 (.int .i64 kh) rfl;have n1:=Z6 T4.out 1 (.int .i64 km) rfl;have LB:=zH (show b < wt.heap.size from RT.out.map.lt);clear hen;go_wp2_with (first
    |(refine zL p5 T5.out ?_))
   refine(ZaQ y.n y.sa y.sc kh km q clock wt CT.out).mono ?_;rintro e w2 ⟨rfl,b2⟩;have R2:=zH (RT.out.below b2);have C2:=zH (Z7 b2 CT.out);have G2:=zH (GT.out.andThen (Z16 b2 none) (fun j hj=>by cases hj));have T42:=zH (Z7 b2 T4.out);clear b2 n0 n1;have n0:=Z6 T42.out 0 (.int .i64 kh) rfl;have n1:=Z6 T42.out 1 (.int .i64 km) rfl;cases hc:decide (clock < y.n.clock)
   ·have HE:=zH (Z8m (clock:=clock) (ks:=ks) (show f (kh,km)=some y by rw[<-zo (clock:=clock) (f:=f) HN.out.new];exact HN.out.at_) hc);clear hc;go_wp2;go_roundw
    case rel=>exact⟨_,_,zH (by rw[HE.out];exact R2.out),G2,C2⟩
    case measure=>rw[R2.out.left_eq,HR.out.left_eq];exact HN.out.lt
   ·have HE:=zH (Z9H (clock:=clock) (ks:=ks) (show f (kh,km)=some y by rw[<-zo (clock:=clock) (f:=f) HN.out.new];exact HN.out.at_) hc);clear hc;go_wp2_with (first
     |(at_delete;refine Z4F w2 rfl _ _ 119 47 rfl Tryz.underlying119 b r n _ _ (kh,km) rfl R2.out rfl HN.out.ok (by simp) ?_;intro w3 cnt3 hr3 hle3 ht3;go_frame)
     | fail)
    have C3:=zH (Zc ht3.grown C2.out (fun e=>HNE.out (Option.some.inj e)));have G3:=zH (G2.out.andThen ht3.grown (fun j hj=>.inr hj));have R3:=zH hr3;have L3:=zH hle3;clear hr3 hle3 ht3;go_roundw
    case rel=>exact⟨_,_,zH (by rw[HE.out];exact R3.out),G3,C3⟩
    case measure=>rw[R3.out.left_eq,HR.out.left_eq];exact Nat.lt_of_le_of_lt L3.out HN.out.lt
end Go.Proofs.YtlnhppgfhkkidaaGreat
