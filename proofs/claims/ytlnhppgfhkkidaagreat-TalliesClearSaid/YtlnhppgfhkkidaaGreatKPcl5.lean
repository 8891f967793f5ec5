/- Parts of the proof, in order. -/
import Derived.Deep.Cut
import Derived.Sort.MapsRangeIn
import Derived.Lib.AppendZerosOnto
import Derived.Laws.MakeOwn
import Derived.Shelf.SlMaps.Clone
import Derived.Deep.RegionHeld3
import Derived.Deep.AppendLies
import Derived.Deep.DrawnRows
import Derived.Test.YtlnhppgfhkkidaaGreatKPcl4
set_option linter.unusedSimpArgs false
set_option linter.unusedVariables false
set_option maxHeartbeats 32000000
set_option maxRecDepth 100000
namespace Go.Proofs.YtlnhppgfhkkidaaGreat
open Go.Proofs.Tryz renaming prog → zq
open Go.RowKit
theorem Z7m {f:Yh}{x:Z8}(h:Zg f x=true)(hd:YP x=false):x.kind=6\/(1<=x.fix/\x.fix<=4):=by
 unfold Zg at h;rw[Bool.and_eq_true]at h;have h:=h.1;unfold okB at h;have hd : ¬(1<=x.kind/\x.kind<=4):=by
  intro h1;have:YP x=true:=Yt.2 h1;rw[hd]at this;cases this
 split at h
 ·exact absurd ⟨by omega,by omega⟩ hd
 ·split at h
  ·rw[Bool.and_eq_true,Bool.and_eq_true]at h;exact .inr (Yt.1 h.2.2)
  ·rename_i h2 h5;left;unfold ZY at h;grind
theorem Jx {f:Yh}{n:Z8}(hv:f.valid=true)(hf:Zg f n=true):n.strokes.length<=200:=by
 have hst:n.strokes=[]\/XN (f.sectors - f.wide) n.strokes=true:=by
  rw[Z0j hv]at hf;simp only[U9,Va,Jz,Ja,Xc]at hf;grind
 rcases hst with e | e
 ·rw[e];simp
 ·simp only[XN,JN,Bool.and_eq_true,decide_eq_true_eq,Yt]at e;omega
def Z7V (clock:Int)(l:List Z8):List Z8:=l.filter (fun x=>!decide (clock < x.clock))
theorem ZaM (clock:Int)(xs:List LN):(xs.filter (fun x=>!decide (clock < x.n.clock))).map LN.n=Z7V clock (xs.map LN.n):=by
 unfold Z7V;rw[List.filter_map];rfl
theorem ZaN {clock:Int}{l:List Z8}(h : ∀x∈l,x.clock<=clock):Z7V clock l=l:=by
 unfold Z7V;rw[List.filter_eq_self];intro x hx;have:=h x hx;simp;omega
theorem ZaL (clock:Int)(l:List Z8):(Z7V clock l).Sublist l:=List.filter_sublist
theorem Z6G {xs:List LN}(hd:((xs.map LN.n).map Zk).Nodup)(p:LN->Bool):(fun a=>Option.filter p (YA xs a))=YA (xs.filter p):=by
 funext k;have hd2:(((xs.filter p).map LN.n).map Zk).Nodup:=hd.sublist ((List.filter_sublist.map _).map _);refine Option.ext fun x=>?_;rw[Z6F hd2,List.mem_filter,Option.filter_eq_some_iff,Z6F hd];constructor
 ·rintro⟨⟨h1,h2⟩,h3⟩;exact⟨⟨h1,h3⟩,h2⟩
 ·rintro⟨⟨h1,h3⟩,h2⟩;exact⟨⟨h1,h2⟩,h3⟩
def ZeL (f:Yh)(l:List Z8)(day clock:Int)(w:World)(e:Ending)(w':World):Prop:=
 ((Zy f l).1≠0/\e = .returned (.tuple #[.agg #[.slice none 0 0,.slice none 0 0,.slice none 0 0],.int .i64 1]))\/((Zy f l).1=0/\Z7R (Z7V clock l) day w e w')
theorem Zci (f:Yh)(a:zA)(n c:Nat)(l:List Z8)(day clock:Int)(w:World)(hr:UP w a n c l)(hok : ∀x∈l,x.Ok):
  Calls zq 95 #[f.val,.slice a n c,.int .i64 day,.int .i64 clock] w fun e w'=>ZeL f l day clock w e w'/\Below w.heap.size w w':=by
 have HR:=zH hr;clear hr;have HOK:=zH hok;clear hok;have I3 : ∀(x y z:Value),(zq.info? 77).map (·.size)=some (#[x,y,z]:ZV).size:=fun x y z=>by kernel_rfl
 have hmf : ∀(fn:Fn) (first cap:ZV) (w:World),(Instr.makeFunc fn first cap).run zq w = .ok (.func fn first cap) w:=fun _ _ _ _=>rfl;have B0:=zH ((((zB w (zF f 23)).alloc (by simp) (.cells #[.int .i64 clock] 3)).alloc (by simp;omega) (.cells #[.slice none 0 0,.slice none 0 0,.slice none 0 0] 77)));have F0:=zH (Zb _ (.cells #[.slice none 0 0,.slice none 0 0,.slice none 0 0] 77) _ _ (Zb _ (.cells #[.int .i64 clock] 3) _ _ (Z9 w (zF f 23))));have C0:=zH (Zb _ (.cells #[.slice none 0 0,.slice none 0 0,.slice none 0 0] 77) _ _ (Zv (w.alloc (zF f 23)) (.cells #[.int .i64 clock] 3) (w.heap.size+1) (by simp)));have P0:=zH (Zv ((w.alloc (zF f 23)).alloc (.cells #[.int .i64 clock] 3)) (.cells #[.slice none 0 0,.slice none 0 0,.slice none 0 0] 77) (w.heap.size+1+1) (by simp));unfold Yh.val;go_enter Tryz.func95,Tryz.ntmps95;go_upto_region 1 with fail;obtain⟨pF,hpF⟩:=zX (w.heap.size);obtain⟨pC,hpC⟩:=zX (w.heap.size+1);obtain⟨p,hp⟩:=zX (w.heap.size+1+1);rw[hp.out,hpC.out,hpF.out];rw[hpF.out]at F0;rw[hpC.out]at C0;rw[hp.out]at P0;generalize ((w.alloc (zF f 23)).alloc (.cells #[.int .i64 clock] 3)).alloc (.cells #[.slice none 0 0,.slice none 0 0,.slice none 0 0] 77)=w0 at *;have f0:=Z6 F0.out 0 (.int .i64 f.rings) rfl;have f1:=Z6 F0.out 1 (.int .i64 f.sectors) rfl;have f2:=Z6 F0.out 2 (.int .i64 f.wide) rfl;go_wp2_with fail;refine(Z9u f a n c l w0 (HR.out.below B0.out) HOK.out).mono ?_;rintro e w1 ⟨h1 | h1,hb1⟩
 ·obtain⟨hbad,rfl⟩:=h1;have HBAD:=zH hbad;clear hbad;have P1:=zH (Z7 hb1 P0.out);have B1:=zH (B0.out.trans (hb1.mono B0.out.size));clear hb1;go_wp2_with (first
   |(refine Xs rfl 77 _ _ rfl p #[.slice none 0 0,.slice none 0 0,.slice none 0 0] #[.slice none 0 0,.slice none 0 0,.slice none 0 0] 77 rfl rfl P1.out (by kernel_rfl) rfl (by simp[Value.oneCell']) ?_;intro w5 hr1 hr2 hr3)
   | fail)
  have B5:Hid (Below w.heap.size w w5):=zH (B1.out.grown hr2 B1.out.size (fun k e=>by cases e;have:=hp.out;omega));refine bodyPost_ret (ZM rfl _ w5 p 77 _ (0,0) _ rfl hr1 Tryz.underlying77 rfl (by kernel_rfl)) rfl ?_;exact⟨.inl ⟨HBAD.out,rfl⟩,B5.out⟩
 obtain⟨hset,xs0,b,rfl,h2,h3,h4,h5⟩:=h1;have HSET:=zH hset;clear hset;have HXS0:=zH h2;have HXO:=zH h3;have HM:=zH h4;have HBB:=zH h5;have HB1:=zH hb1;clear h2 h3 h4 h5 hb1;go_wp2_with (first
  |(go_at_call 149
    refine(Z8B b l.length (YA xs0) pC clock w1 HM.out (Z7 HB1.out C0.out)).mono ?_;rintro e w2 ⟨rfl,h2,h3⟩;have HM2:=zH h2;have HG2:=zH h3;clear h2 h3;dsimp only)
  | fail)
 have ND0:Hid (((xs0.map LN.n).map Zk).Nodup):=zH (by rw[HXS0.out];exact YH (Z0b HSET.out).2.2.2);obtain⟨xs,hxs⟩:=zX (xs0.filter (fun x=>!decide (clock < x.n.clock)));rw[Z6G ND0.out,hxs.out]at HM2;have HXS:Hid (xs.map LN.n=Z7V clock l):=zH (by rw[<-hxs.out,ZaM,HXS0.out]);have HSUB:Hid (∀x∈xs,x∈xs0):=zH (fun x hx=>by rw[<-hxs.out]at hx;exact(List.mem_filter.1 hx).1);have HSL:Hid (∀x∈xs,x.n∈l):=zH (fun x hx=>by rw[<-HXS0.out];exact List.mem_map_of_mem (HSUB.out x hx));clear hmf f0 f1 f2;have HLN:Hid (l.length<=400):=zH (Z0b HSET.out).2.1;have HXN:Hid (xs.length<=400):=zH (by have h1:=congrArg List.length HXS.out;rw[List.length_map]at h1;rw[h1];exact Nat.le_trans (ZaL clock l).length_le HLN.out);have FO:Hid (FOk (YA xs)):=zH (fun k x h=>⟨HOK.out x.n (HSL.out x (X3 h).1),(X3 h).2⟩);obtain⟨es,ck,hbm⟩:=HM.out.blk;have HXO2:Hid (∀x∈xs,x.ok w2):=zH (fun x hx=>Zb8 (HXO.out x (HSUB.out x hx)) HG2.out hbm);have B2:Hid (Below w.heap.size w w2):=zH ((B0.out.trans (HB1.out.mono B0.out.size)).grown HG2.out (Nat.le_trans B0.out.size HB1.out.size) (fun k e=>by cases e;exact Nat.le_trans B0.out.size HBB.out));have P2:Hid (w2.heap[p]? = some (.cells #[.slice none 0 0,.slice none 0 0,.slice none 0 0] 77)):=zH (Zc HG2.out (Z7 HB1.out P0.out) (fun e=>by have h1:=Z7 HB1.out P0.out;rw[Option.some.inj e,hbm]at h1;simp at h1));clear hbm HM HXO HG2 HB1 HBB F0 C0 P0 B0;refine(Zcy b l.length (YA xs) w2 HM2.out FO.out (by have:=HLN.out;omega)).mono ?_;rintro e w3 ⟨⟨pB,bJ,va,vn,vc,ks,J,rfl,h2,h3,h4,h5,h6,h7,h8,h9,h10⟩,hb3⟩;have hvn:vn=(U0 (YA xs) ks).length:=by have:=h8.1;rw[Xv]at this;omega
 subst hvn;have HBN:=zH h2;have HND:=zH h3;have HAL:=zH h4;have HMJ:=zH h5;have HJO:=zH h7;have HVA:=zH (ZW.of_own h8);have HB3:=zH hb3;clear h2 h3 h4 h5 h6 h7 h8 h9 h10 hb3;have P3:=zH (Z7 HB3.out P2.out);have B3:=zH (B2.out.trans (HB3.out.mono B2.out.size));dsimp only;go_wp2_with (first
  |(go_at_call 152
    refine(Z5Q pB b bJ l.length ks.length va vc (U0 (YA xs) ks) (YA xs) J day w3 HBN.out (HM2.out.below HB3.out) HMJ.out FO.out (fun a x h=>by obtain⟨⟨k,_,h1⟩,_⟩:=(HJO.out a).2 x h;exact⟨k,h1⟩)
     (fun a x h=>⟨(HXO2.out x (X3 h).1).below HB3.out,Nat.le_trans (Jx (Z0b HSET.out).1 ((Z0b HSET.out).2.2.1 x.n (HSL.out x (X3 h).1))) (by decide)⟩) (by have:=HLN.out;omega) HVA.out
     (ZbK HJO.out (fun x hx=>Z7m ((Z0b HSET.out).2.2.1 x.n (HSL.out x hx))))
     (fun ks' hn' _=>by have h1:=ZdA (xs:=xs) (J:=J) hn';have h2:=Zcv (xs:=xs) HND.out;have h3:=HXN.out;omega)).mono ?_
    rintro e w4 ⟨hE,hb4⟩;have HE:=zH hE;obtain⟨R,ha,hc,ea,ec,ca,cc,ys,ks2,rfl,-⟩:=hE;have P4:=zH (Z7 hb4 P3.out);have B4:=zH (B3.out.trans (hb4.mono B3.out.size));clear hb4;dsimp only)
  |(refine Xs rfl 77 _ _ rfl p #[.slice none 0 0,.slice none 0 0,.slice none 0 0] #[.slice ha R.hs.length hc,.slice ea R.es.length ec,.slice ca R.cs.length cc] 77 rfl rfl P4.out (by kernel_rfl) rfl (by simp[Value.oneCell']) ?_;intro w5 hr1 hr2 hr3)
  | fail)
 have B5:Hid (Below w.heap.size w w5):=zH (B4.out.grown hr2 B4.out.size (fun k e=>by cases e;have:=hp.out;omega));have HE5:=zH ((HE.out.kept P4.out hr2).mono B3.out.size);refine bodyPost_ret (ZM rfl _ w5 p 77 _ (0,0) _ rfl hr1 Tryz.underlying77 rfl (by kernel_rfl)) rfl ?_;exact⟨.inr ⟨HSET.out,_,xs,ks,J,rfl,HXS.out,HND.out,HAL.out,HJO.out,HE5.out⟩,B5.out⟩
theorem Vs {f:Yh}{x:Z8}(h:Zg f x=true):1<=x.clock/\x.clock<=1099511627776:=by
 unfold Zg at h;simp only[Bool.and_eq_true]at h;exact Yt.1 h.2.2.1
theorem Z4h {f:Yh}{x:Z8}(h:Zg f x=true):0<=x.day/\x.day<=99999:=by
 unfold Zg at h;simp only[Bool.and_eq_true]at h;exact Yt.1 h.2.2.2.1
def Z3o (f:Yh)(l:List Z8)(w:World)(e:Ending)(w':World):Prop:=
 ((Zy f l).1≠0/\e = .returned (.tuple #[.agg #[.slice none 0 0,.slice none 0 0,.slice none 0 0],.int .i64 1]))\/((Zy f l).1=0/\Z7R l 99999 w e w')
theorem Z3o.ok {f:Yh}{l:List Z8}{w w':World}{e:Ending}(h:Z3o f l w e w')(hs:(Zy f l).1=0):Z7R l 99999 w e w':=by
 rcases h with ⟨h,_⟩ | ⟨_,h⟩
 ·exact absurd hs h
 ·exact h
theorem Z7o (f:Yh)(a:zA)(n c:Nat)(l:List Z8)(w:World)(hr:UP w a n c l)(hok : ∀x∈l,x.Ok):
  Calls zq 34 #[f.val,.slice a n c] w fun e w'=>Z3o f l w e w'/\Below w.heap.size w w':=by
 have HR:=zH hr;clear hr;have B0:=zH (((zB w (zF f 23)).alloc (by simp) (.cells #[.slice none 0 0,.slice none 0 0,.slice none 0 0] 77)));have F0:=zH (Zb _ (.cells #[.slice none 0 0,.slice none 0 0,.slice none 0 0] 77) _ _ (Z9 w (zF f 23)));have P0:=zH (Zv (w.alloc (zF f 23)) (.cells #[.slice none 0 0,.slice none 0 0,.slice none 0 0] 77) (w.heap.size+1) (by simp));have HA:=zH (fun W hb=>Zci f a n c l 99999 1099511627776 W (HR.out.below (show Below w.heap.size w W from hb)) hok);clear hok;have hvl:f.val = .agg #[.int .i64 f.rings,.int .i64 f.sectors,.int .i64 f.wide]:=rfl;rw[hvl]at HA ⊢;go_enter Tryz.func34,Tryz.ntmps34;go_upto_region 1 with fail;obtain⟨pF,hpF⟩:=zX (w.heap.size);obtain⟨p,hp⟩:=zX (w.heap.size+1);rw[hp.out,hpF.out];rw[hpF.out]at F0;rw[hp.out]at P0;generalize (w.alloc (zF f 23)).alloc (.cells #[.slice none 0 0,.slice none 0 0,.slice none 0 0] 77)=w0 at *;have f0:=Z6 F0.out 0 (.int .i64 f.rings) rfl;have f1:=Z6 F0.out 1 (.int .i64 f.sectors) rfl;have f2:=Z6 F0.out 2 (.int .i64 f.wide) rfl;go_wp2_with fail;refine(HA.out w0 B0.out).mono ?_;rintro e w4 ⟨h1 | h1,hb4⟩
 ·obtain⟨hbad,rfl⟩:=h1;have HBAD:=zH hbad;clear hbad;have P4:=zH (Z7 hb4 P0.out);have B4:=zH (B0.out.trans (hb4.mono B0.out.size));clear hb4;go_wp2_with (first
   |(refine Xs rfl 77 _ _ rfl p #[.slice none 0 0,.slice none 0 0,.slice none 0 0] #[.slice none 0 0,.slice none 0 0,.slice none 0 0] 77 rfl rfl P4.out (by kernel_rfl) rfl (by simp[Value.oneCell']) ?_;intro w5 hr1 hr2 hr3)
   | fail)
  have B5:Hid (Below w.heap.size w w5):=zH (B4.out.grown hr2 B4.out.size (fun k e=>by cases e;have:=hp.out;omega));refine bodyPost_ret (ZM rfl _ w5 p 77 _ (0,0) _ rfl hr1 Tryz.underlying77 rfl (by kernel_rfl)) rfl ?_;exact⟨.inl ⟨HBAD.out,rfl⟩,B5.out⟩
 obtain⟨hset,hE⟩:=h1;rw[ZaN (fun x hx=>(Vs ((Z0b hset).2.2.1 x hx)).2)]at hE;have HSET:=zH hset;clear hset;obtain⟨v,xs,ks,J,rfl,hxs,hnd,hal,hjo,hE⟩:=hE;have HE:=zH hE;have HX:=zH (And.intro hxs (And.intro hnd (And.intro hal hjo)));obtain⟨R,ha,hc,ea,ec,ca,cc,ys,ks2,hv,-⟩:=hE;obtain rfl:v=_:=by injection hv
 have P4:=zH (Z7 hb4 P0.out);have B4:=zH (B0.out.trans (hb4.mono B0.out.size));clear hb4 hxs hnd hal hjo;dsimp only;go_wp2_with (first
  |(refine Xs rfl 77 _ _ rfl p #[.slice none 0 0,.slice none 0 0,.slice none 0 0] #[.slice ha R.hs.length hc,.slice ea R.es.length ec,.slice ca R.cs.length cc] 77 rfl rfl P4.out (by kernel_rfl) rfl (by simp[Value.oneCell']) ?_;intro w5 hr1 hr2 hr3)
  | fail)
 have B5:Hid (Below w.heap.size w w5):=zH (B4.out.grown hr2 B4.out.size (fun k e=>by cases e;have:=hp.out;omega));have HE5:=zH ((HE.out.kept P4.out hr2).mono B0.out.size);refine bodyPost_ret (ZM rfl _ w5 p 77 _ (0,0) _ rfl hr1 Tryz.underlying77 rfl (by kernel_rfl)) rfl ?_;exact⟨.inr ⟨HSET.out,_,xs,ks,J,rfl,HX.out.1,HX.out.2.1,HX.out.2.2.1,HX.out.2.2.2,HE5.out⟩,B5.out⟩
theorem Z56 {f:Yh}{l:List Z8}: ∀(n k:Nat),(∀i,k<=i->i < k+n->Vf f l i=none)->QR f l n k=(0,0)
 | 0,_,_=>rfl
 | n+1,k,h=>by
  rw[QR,h k (Nat.le_refl _) (by omega)]
  exact Z56 n (k+1) (fun i h1 h2=>h i (by omega) (by omega))
theorem Zb0 {f:Yh}{l:List Z8}(hv:f.valid=true)(h4:l.length<=400)(hf : ∀x∈l,Zg f x=true)(hp:l.Pairwise (fun x y=>JH (Zk x) (Zk y)=true)):(Zy f l).1=0:=by
 unfold Zy;rw[if_neg (by rw[hv];decide),if_neg (by omega),Z56];intro i _ hi;rw[Nat.zero_add]at hi;unfold Vf;rw[List.getElem?_eq_getElem hi];simp only;rw[if_neg (by rw[hf _ (List.getElem_mem hi)];decide)];by_cases h0:i=0
 ·rw[if_pos h0]
 ·rw[if_neg h0,List.getElem?_eq_getElem (by omega:i - 1 < l.length)];simp only;have h1:=List.pairwise_iff_getElem.1 hp (i - 1) i (by omega) hi (by omega);rw[JH,decide_eq_true_eq]at h1;have h2:Yx l[i - 1].house l[i - 1].num l[i].house l[i].num < 0:=h1;rw[if_neg (by omega),if_neg (by omega)]
theorem Zb1 {x y:Z8}: XI x y=true↔(x.house=y.house/\x.num=y.num)/\(x.clock=y.clock/\x.day=y.day/\x.kind=y.kind/\x.stone=y.stone/\x.heap=y.heap/\x.turns=y.turns) /\
  (x.hardLo=y.hardLo/\x.hardHi=y.hardHi)/\(x.diffLo=y.diffLo/\x.diffHi=y.diffHi)/\(x.a=y.a/\x.b=y.b/\x.ring=y.ring)/\(x.refH=y.refH/\x.refN=y.refN)/\x.fix=y.fix/\x.strokes=y.strokes:=by
 simp only[XI,Qy];grind
section
attribute [local go_sem] ZS X9 XZ QP XJ QO QN QM Vp Vn Qi Qh JS JR JQ XQ J9 J8 Jt
end
theorem Z58 {x y:Z8}: XI x y=true↔x=y:=by
 constructor
 ·intro h;obtain⟨⟨h1,h2⟩,⟨h3,h4,h5,h6,h7,h8⟩,⟨h9,h10⟩,⟨h11,h12⟩,⟨h13,h14,h15⟩,⟨h16,h17⟩,h18,h19⟩:=Zb1.1 h;cases x;cases y;simp only[Z8.mk.injEq];exact⟨h1,h2,h3,h4,h5,h6,h7,h8,h9,h10,h11,h12,h13,h14,h15,h16,h17,h18,h19⟩
 ·rintro rfl;simp[XI]
abbrev ltN (x y:Z8):Prop:=JH (Zk x) (Zk y)=true
theorem Z9P {x y z:Z8}(h1:ltN x y)(h2:ltN y z):ltN x z:=by
 unfold ltN at *;rw[Jv]at *;omega
theorem Z5i {x y:Z8}(h:ltN x y):JH (Zk y) (Zk x)=false:=by
 cases h2:JH (Zk y) (Zk x)with
 | false=>rfl
 | true=>
  unfold ltN at h;rw[Jv]at h h2;omega
theorem Z40 {x y:Z8}(h:ltN x y)(e:Zk x=Zk y):False:=by
 unfold ltN at h;rw[e,Jv]at h;omega
theorem Zba {u:List Z8}(h:u.Pairwise ltN):u.Nodup:=by
 rw[List.Nodup];exact h.imp (fun {x y} hxy (e:x=y)=>Z40 hxy (congrArg Zk e))
def ZdM (l m:List Z8):Prop := ∀x∈l,∀y∈m,Zk x=Zk y->x=y
def IsU (l m u:List Z8):Prop:=u.Pairwise ltN /\ ∀x,x∈u↔x∈l\/x∈m
theorem UV {u v:List Z8}(h1:u.Pairwise ltN)(h2:v.Pairwise ltN)(h : ∀x,x∈u↔x∈v):u=v:=by
 have hp:u.Perm v:=(List.perm_ext_iff_of_nodup (Zba h1) (Zba h2)).2 h;refine QH (lt:=fun x y=>JH (Zk x) (Zk y)) (fun x hx y hy h3 h4=>?_) hp (h1.imp Z5i) (h2.imp Z5i);exact Qz (YH h1) hx hy (Z1t h3 h4)
theorem Z3n {l:List Z8}{i:Nat}{x:Z8}(hx:l[i]? = some x):l.drop i=x :: l.drop (i+1):=by
 obtain⟨h1,h2⟩:=List.getElem?_eq_some_iff.1 hx;rw[List.drop_eq_getElem_cons h1,h2]
section
variable {l m out:List Z8}{i k:Nat}{x y:Z8}
end
def Z1H (f g:Nm->Option LN):Nm->Option LN:=fun k=>match g k with | some y=>some y | none=>f k
def Z9Z (lt:Z8->Z8->Bool)(n:Z8):List Z8->List Z8
 | []=>[n]
 | y :: ys=>if lt y n=true then y :: Z9Z lt n ys else n :: y :: ys
theorem Vy (lt:Z8->Z8->Bool)(n:Z8): ∀l:List Z8,(Z9Z lt n l).Perm (n :: l)
 | []=>List.Perm.refl _
 | y :: ys=>by
  unfold Z9Z
  split
  ·exact((Vy lt n ys).cons y).trans (List.Perm.swap ..)
  ·exact List.Perm.refl _
def QD (c:Int->Nat)(h:Int):Int->Nat:=fun a=>if a=h then c a+1 else c a
def XW (K:List Z8)(c:Int->Nat):Prop := ∀h k:Int,(∃x∈K,Zk x=(h,k))↔1<=k/\k<=(c h:Int)
def YQ (K:List Z8)(n:Z8):Option Z8:=K.find? (fun x=>decide (Zk x=Zk n))
def ZZ (l:List Z8):List Z8->(Int->Nat)->List Z8->Option (List Z8×(Int->Nat))
 | fr,c,[]=>some (fr,c)
 | fr,c,n :: ns=>match YQ (l ++ fr) n with
  | some o=>if XI o n=true then ZZ l fr c ns else none
  | none=>if (c n.house:Int)+1 < n.num then ZZ l fr c ns else ZZ l (fr ++ [n]) (QD c n.house) ns
def YV (l:List Z8)(n:Z8):List Z8:=Z9Z (fun x y=>JH (Zk x) (Zk y)) n l
def Q8 (l fr:List Z8):List Z8:=fr.foldl YV l
theorem Z1y {K:List Z8}{n o:Z8}(h:YQ K n=some o):o∈K/\Zk o=Zk n:=by
 unfold YQ at h;exact⟨List.mem_of_find?_eq_some h,by simpa using List.find?_some h⟩
theorem Xx {K:List Z8}{n:Z8}(h:YQ K n=none): ∀y∈K,Zk y≠Zk n:=by
 unfold YQ at h;rw[List.find?_eq_none]at h;intro y hy e;exact h y hy (by simpa using e)
theorem zg {K:List Z8}{n:Z8}(h : ∀y∈K,Zk y≠Zk n):YQ K n=none:=by
 unfold YQ;rw[List.find?_eq_none];intro y hy e;exact h y hy (by simpa using e)
theorem XW.free {K:List Z8}{c:Int->Nat}(h:XW K c){n:Z8}(h1:1<=n.num)(hn : ∀y∈K,Zk y≠Zk n):(c n.house:Int) < n.num:=by
 have:=(h n.house n.num).2;by_cases h2:n.num<=(c n.house:Int)
 ·obtain⟨x,hx,e⟩:=this ⟨h1,h2⟩;exact absurd e (hn x hx)
 ·omega
theorem XW.le {K:List Z8}{c:Int->Nat}(h:XW K c){n:Z8}(hn:n∈K):1<=n.num/\n.num<=(c n.house:Int):=(h n.house n.num).1 ⟨n,hn,rfl⟩
theorem XW.add {K:List Z8}{c:Int->Nat}(h:XW K c){n:Z8}(hk:n.num=(c n.house:Int)+1):XW (K ++ [n]) (QD c n.house):=fun a k=>by
 have e1:(∃x∈K ++ [n],Zk x=(a,k))↔(∃x∈K,Zk x=(a,k))\/Zk n=(a,k):=by
  constructor
  ·rintro⟨x,hx,e⟩;rcases List.mem_append.1 hx with hx | hx
   ·exact .inl ⟨x,hx,e⟩
   ·rw[List.mem_singleton.1 hx]at e;exact .inr e
  ·rintro(⟨x,hx,e⟩ | e)
   ·exact⟨x,List.mem_append_left _ hx,e⟩
   ·exact⟨n,by simp,e⟩
 rw[e1,h a k];unfold QD;have e2:Zk n=(a,k)↔n.house=a/\n.num=k:=by
  show(n.house,n.num)=(a,k)↔_;rw[Prod.mk.injEq]
 rw[e2];by_cases ha:a=n.house
 ·subst ha;simp;omega
 ·rw[if_neg ha];constructor
  ·rintro(h2 | h2)
   ·exact h2
   ·exact absurd h2.1.symm ha
  ·exact .inl
theorem XW.perm {K L:List Z8}{c:Int->Nat}(h:XW K c)(hm : ∀x,x∈L↔x∈K):XW L c:=fun a k=>by
 rw[<-h a k]
 constructor
 ·rintro⟨x,hx,e⟩;exact⟨x,(hm x).1 hx,e⟩
 ·rintro⟨x,hx,e⟩;exact⟨x,(hm x).2 hx,e⟩
theorem Z1A {l:List Z8}: ∀(ns fr:List Z8) (c:Int->Nat) {fr':List Z8} {c':Int->Nat},XW (l ++ fr) c->((l ++ fr).map Zk).Nodup->(∀n∈ns,1<=n.num)->ZZ l fr c ns=some (fr',c')->
  XW (l ++ fr') c'/\((l ++ fr').map Zk).Nodup/\(∀x∈fr',x∈fr\/x∈ns)/\fr'.length<=fr.length+ns.length
 | [],fr,c,fr',c',h1,h2,_,h=>by
  simp only[ZZ,Option.some.injEq,Prod.mk.injEq]at h
  obtain⟨rfl,rfl⟩:=h
  exact⟨h1,h2,fun x hx=>.inl hx,by simp⟩
 | n :: ns,fr,c,fr',c',h1,h2,h3,h=>by
  rw[ZZ]at h
  have h3' : ∀m∈ns,1<=m.num:=fun m hm=>h3 m (List.mem_cons_of_mem _ hm)
  split at h
  ·split at h
   ·obtain⟨a1,a2,a3,a4⟩:=Z1A ns fr c h1 h2 h3' h
    exact⟨a1,a2,fun x hx=>(a3 x hx).imp id (List.mem_cons_of_mem _),by rw[List.length_cons];omega⟩
   ·cases h
  ·rename_i hk
   have hfree:=Xx hk
   split at h
   ·obtain⟨a1,a2,a3,a4⟩:=Z1A ns fr c h1 h2 h3' h
    exact⟨a1,a2,fun x hx=>(a3 x hx).imp id (List.mem_cons_of_mem _),by rw[List.length_cons];omega⟩
   ·rename_i hle
    have hlt:=h1.free (h3 n (List.mem_cons_self ..)) hfree
    have hadd:=h1.add (n:=n) (by omega)
    rw[List.append_assoc]at hadd
    obtain⟨a1,a2,a3,a4⟩:=Z1A ns (fr ++ [n]) (QD c n.house) hadd (by
     rw[<-List.append_assoc,List.map_append]
     refine List.nodup_append.2 ⟨h2,by simp,fun a ha b hb e=>?_⟩
     rw[List.map_singleton,List.mem_singleton]at hb
     obtain⟨x,hx,rfl⟩:=List.mem_map.1 ha
     exact hfree x hx (e.trans hb)) h3' h
    refine⟨a1,a2,fun x hx=>?_,by rw[List.length_append]at a4;rw[List.length_cons];simp at a4;omega⟩
    rcases a3 x hx with h5 | h5
    ·rcases List.mem_append.1 h5 with h5 | h5
     ·exact .inl h5
     ·rw[List.mem_singleton.1 h5];exact .inr (List.mem_cons_self ..)
    ·exact .inr (List.mem_cons_of_mem _ h5)
theorem Ys {l:List Z8}{n x:Z8}: x∈YV l n↔x∈l\/x=n:=by
 unfold YV;rw[(Vy _ n l).mem_iff,List.mem_cons];exact Or.comm
theorem Uf {n:Z8}: ∀{l:List Z8},l.Pairwise ltN->(∀y∈l,Zk y≠Zk n)->(YV l n).Pairwise ltN
 | [],_,_=>by simp[YV,Z9Z]
 | y :: ys,h,hf=>by
  rw[List.pairwise_cons]at h
  have hf' : ∀z∈ys,Zk z≠Zk n:=fun z hz=>hf z (List.mem_cons_of_mem _ hz)
  have ih:=Uf h.2 hf'
  unfold YV at ih ⊢
  unfold Z9Z
  split
  ·rename_i hy
   refine List.pairwise_cons.2 ⟨fun z hz=>?_,ih⟩
   rcases(Ys (l:=ys) (n:=n) (x:=z)).1 hz with hz | rfl
   ·exact h.1 z hz
   ·exact hy
  ·rename_i hy
   have hny:ltN n y:=by
    unfold ltN;cases h2:JH (Zk n) (Zk y)with
    | true=>rfl
    | false=>exact absurd (Z1t (by simpa using hy) h2) (hf y (List.mem_cons_self ..))
   refine List.pairwise_cons.2 ⟨fun z hz=>?_,List.pairwise_cons.2 h⟩;rcases List.mem_cons.1 hz with rfl | hz
   ·exact hny
   ·exact Z9P hny (h.1 z hz)
theorem Z7M: ∀(fr l:List Z8),l.Pairwise ltN->((l ++ fr).map Zk).Nodup->IsU l fr (Q8 l fr)
 | [],l,h,_=>⟨h,fun x=>by simp[Q8]⟩
 | n :: fr,l,h,hd=>by
  have hd2:((l.map Zk) ++ Zk n :: fr.map Zk).Nodup:=by simpa [List.map_append] using hd
  have hf : ∀y∈l,Zk y≠Zk n:=fun y hy e=>(List.nodup_append.1 hd2).2.2 _ (List.mem_map_of_mem hy) _ (List.mem_cons_self ..) e
  have h2:=Uf h hf
  have hp:((YV l n ++ fr).map Zk).Perm ((l ++ n :: fr).map Zk):=by
   refine List.Perm.map _ (((Vy _ n l).append_right fr).trans ?_);rw[List.cons_append];exact List.perm_middle.symm
  have ih:=Z7M fr (YV l n) h2 (hp.nodup_iff.2 hd);refine⟨ih.1,fun x=>?_⟩;show x∈Q8 (YV l n) fr↔_;rw[ih.2 x,Ys,List.mem_cons,or_assoc]
theorem zy: ∀(fr l:List Z8),(Q8 l fr).length=l.length+fr.length
 | [],l=>by simp[Q8]
 | n :: fr,l=>by
  show(Q8 (YV l n) fr).length=_
  rw[zy fr (YV l n),YV,(Vy _ n l).length_eq,List.length_cons,List.length_cons]
  omega
def Yy (l:List Z8)(c:Int->Nat):List Z8:=l.filter (fun n=>!decide (n.num<=(c n.house:Int)))
theorem Z0i {l:List Z8}{c:Int->Nat}{n:Z8}: n∈Yy l c↔n∈l/\(c n.house:Int) < n.num:=by
 unfold Yy;rw[List.mem_filter];simp
theorem Z5s {l1 l2:List Z8}{c1 c2:Int->Nat}(h1:XW l1 c1)(h2:XW l2 c2)(hs:l1.Pairwise ltN): ∀(j:Nat),j<=(Yy l1 c2).length -> ∃c',ZZ l2 [] c2 (Yy l1 c2)=ZZ l2 ((Yy l1 c2).take j) c' ((Yy l1 c2).drop j)/\XW (l2 ++ (Yy l1 c2).take j) c'
 | 0,_=>⟨c2,by simp,by simpa using h2⟩
 | j+1,hj=>by
  obtain⟨c',e,hc⟩:=Z5s h1 h2 hs j (by omega)
  have hg:(Yy l1 c2).Pairwise ltN:=hs.sublist List.filter_sublist
  obtain⟨n,hn⟩ : ∃n,(Yy l1 c2)[j]? = some n:=⟨_,List.getElem?_eq_getElem (by omega)⟩
  have hd:=Z3n hn
  have hm:=Z0i.1 (List.mem_of_getElem? hn)
  have hfree : ∀y∈l2 ++ (Yy l1 c2).take j,Zk y≠Zk n:=fun y hy e2=>by
   rcases List.mem_append.1 hy with hy | hy
   ·have h5:=h2.le hy
    have h6:y.house=n.house/\y.num=n.num:=by simpa [Zk] using e2
    rw[h6.1,h6.2]at h5
    omega
   ·obtain⟨i,hi,hi2⟩:=List.mem_take_iff_getElem.1 hy
    have hjl:=(List.getElem?_eq_some_iff.1 hn)
    have h7:=List.pairwise_iff_getElem.1 hg i j (by omega) hjl.1 (by omega)
    rw[hi2,hjl.2]at h7
    exact Z40 h7 e2
  have h1n:=(h1.le hm.1).1
  have hlt:=hc.free h1n hfree
  have hle : ¬(c' n.house:Int)+1 < n.num:=fun hlt2=>by
   obtain⟨y,hy,e2⟩:=(h1 n.house (n.num - 1)).2 ⟨by omega,by have:=(h1.le hm.1).2;omega⟩
   have hyn:y.house=n.house/\y.num=n.num - 1:=by simpa [Zk] using e2
   have hin : ∃x∈l2 ++ (Yy l1 c2).take j,Zk x=(n.house,n.num - 1):=by
    by_cases h8:n.num - 1<=(c2 n.house:Int)
    ·obtain⟨x,hx,e3⟩:=(h2 n.house (n.num - 1)).2 ⟨by omega,h8⟩;exact⟨x,List.mem_append_left _ hx,e3⟩
    ·have hyg:y∈Yy l1 c2:=Z0i.2 ⟨hy,by rw[hyn.1,hyn.2];omega⟩;obtain⟨i,hi⟩:=List.getElem?_of_mem hyg;have hij:i < j:=by
      rcases Nat.lt_trichotomy i j with h9 | h9 | h9
      ·exact h9
      ·subst h9;rw[hn]at hi;cases hi;omega
      ·have hil:=(List.getElem?_eq_some_iff.1 hi);have hjl:=(List.getElem?_eq_some_iff.1 hn);have h7:=List.pairwise_iff_getElem.1 hg j i hjl.1 hil.1 h9;rw[hil.2,hjl.2]at h7;unfold ltN at h7;rw[Jv]at h7;have h10:n.house < y.house\/n.house=y.house/\n.num < y.num:=h7;omega
     refine⟨y,List.mem_append_right _ (List.mem_take_iff_getElem.2 ⟨i,?_,?_⟩),e2⟩
     ·have:=(List.getElem?_eq_some_iff.1 hi).1;omega
     ·exact(List.getElem?_eq_some_iff.1 hi).2
   have:=((hc n.house (n.num - 1)).1 hin).2;omega
  refine⟨QD c' n.house,?_,?_⟩
  ·rw[e,hd,ZZ,zg hfree];simp only;rw[if_neg hle,JD hn]
  ·rw[JD hn,<-List.append_assoc];exact hc.add (by omega)
theorem Z4T {l1 l2:List Z8}{c1 c2:Int->Nat}(h1:XW l1 c1)(h2:XW l2 c2)(hs:l1.Pairwise ltN): ∃c',ZZ l2 [] c2 (Yy l1 c2)=some (Yy l1 c2,c'):=by
 obtain⟨c',e,_⟩:=Z5s h1 h2 hs _ (Nat.le_refl _);refine⟨c',?_⟩;rw[e,List.take_length,List.drop_length,ZZ]
theorem ZbD {l1 l2 u:List Z8}{c2:Int->Nat}(h2:XW l2 c2)(hu:IsU l1 l2 u)(hs1:l1.Pairwise ltN)(hs2:l2.Pairwise ltN)(hn:ZdM l1 l2)(h1 : ∀x∈l1,1<=x.num):Q8 l2 (Yy l1 c2)=u/\u.length=l2.length+(Yy l1 c2).length:=by
 have hd:((l2 ++ Yy l1 c2).map Zk).Nodup:=by
  rw[List.map_append];refine List.nodup_append.2 ⟨YH hs2,YH (hs1.sublist List.filter_sublist),fun a ha b hb e=>?_⟩;obtain⟨x,hx,rfl⟩:=List.mem_map.1 ha;obtain⟨y,hy,rfl⟩:=List.mem_map.1 hb;have h5:=h2.le hx;have h6:x.house=y.house/\x.num=y.num:=by simpa [Zk] using e
  have h7:=(Z0i.1 hy).2;rw[h6.1,h6.2]at h5;omega
 have ha:=Z7M (Yy l1 c2) l2 hs2 hd;have e:Q8 l2 (Yy l1 c2)=u:=by
  refine UV ha.1 hu.1 fun x=>?_;rw[ha.2 x,hu.2 x];constructor
  ·rintro(h | h)
   ·exact .inr h
   ·exact .inl (Z0i.1 h).1
  ·rintro(h | h)
   ·by_cases h3:x.num<=(c2 x.house:Int)
    ·obtain⟨y,hy,e⟩:=(h2 x.house x.num).2 ⟨h1 x h,h3⟩;rw[hn x h y hy e.symm];exact .inl hy
    ·exact .inr (Z0i.2 ⟨h,by omega⟩)
   ·exact .inl h
 exact⟨e,by rw[<-e,zy]⟩
attribute [local go_sem] Oper.semAt_some
section
variable {α:Type}{enc:α->Value}{f:Nm->Option α}{F:Fence}{m:Nat}(w:World){ops:Array Oper}{rest:List Oper}{o:Oper}{a:Act}{Q:Exit->Act->World->Prop}
theorem Z1l (hg:o.guard=none)(x:Operand)(t e:TypeId)(hop:o.op=Op.range t x)(ht:zq.underlying t=some (.map 45 e))(b n:Nat)(hm:a.eval x = .map (some b))(hmap:Y4 enc w b n f)
  (hK : ∀w' cnt,Ya enc w' b w.heap.size n f [] cnt->w.grownBy w' none->w'.heap.size=w.heap.size+1->wpListIn F m zq ops Q rest (a.put o.dst (.pointer (some ⟨w.heap.size,0,none⟩))) w'):wpListIn F m zq ops Q (o :: rest) a w:=by
 obtain⟨D,h1,h2⟩:=hmap;exact wpListIn_range_own w hg x t hop 45 e Ju ht JV b n D hm h1 (fun w' h3 h4 h5=>hK w' _ ⟨D,_,h3,h2,fun k hk=>by rw[h2.has k hk];simp,List.nodup_nil,by have:=h1.size_le;simpa using this⟩ h4 h5)
theorem Z1W (hg:o.guard=none)(it:Operand)(hop:o.op=Op.next it false)(b r n cnt:Nat)(ks:List Nm)(hit:a.eval it = .pointer (some ⟨r,0,none⟩))(h:Ya enc w b r n f ks cnt)
  (hDone:Jd f ks->wpListIn F m zq ops Q rest (a.put o.dst (.tuple #[.bool false])) w)
  (hMore : ∀kh km y w' cnt',Hid (Z7O enc w b r n cnt f ks kh km y w' cnt')->
   (Instr.entry (.pointer (some ⟨r,0,none⟩))).run zq w' = .ok (.tuple #[.agg #[.int .i64 kh,.int .i64 km],enc y]) w'->wpListIn F m zq ops Q rest (a.put o.dst (.tuple #[.bool true,.agg #[.int .i64 kh,.int .i64 km],enc y])) w'):wpListIn F m zq ops Q (o :: rest) a w:=by
 obtain⟨D,left,h1,h2,h3,h4,hcn⟩:=h;refine wpListIn_next_ranges (α:=Nm) (β:=Value) w hg it hop 45 Ju JV nmV id (fun key kl hk=>by obtain⟨a,rfl,_⟩:=Z0w hk;exact⟨a,rfl⟩) (fun v _ _=>⟨v,rfl⟩) b r n D left cnt hit h1 (fun _ hl=>hDone (fun k hk=>?_)) (fun k c kl y w' cnt' hkey hlk hv hat hrg hlt hgr hsz hen => ?_)
 ·have:=hl (nmL k);rw[h3 k (h2.ok k hk),hk]at this;simpa using this
 ·obtain⟨k',e1,hk',rfl⟩:=Z0w hkey;cases Z5Y e1;rw[h3 k hk']at hlk;simp only[Bool.and_eq_true,Bool.not_eq_true',decide_eq_false_iff_not]at hlk;obtain⟨x,hx⟩:=Option.isSome_iff_exists.1 hlk.1;have hy:=hat (.lit (.bool true));rw[h2.val k x hx]at hy;simp only[JV,Option.some.injEq]at hv;rw[<-hv]at hy;simp only[DataW.held.injEq,id_eq]at hy;subst hy;refine hMore k.1 k.2 x w' cnt' (zH ⟨hx,hlk.2,hk',⟨D,_,hrg,h2,fun a ha=>?_,?_,by rw[List.length_append,List.length_singleton];omega⟩,hlt,hgr,hsz⟩) hen
  ·rw[h3 a ha];by_cases e:a=k
   ·subst e;have:(nmL a).sameKey (nmL a)=true:=WideAt.sameKey_self (Z1u _);simp[this]
   ·have:(nmL a).sameKey (nmL k)=false:=Maps.sameKey_ne (fun he=>e (z7 ha hk' he));simp[this,e]
  ·exact List.nodup_append.2 ⟨h4,by simp,fun a ha b hb e=>hlk.2 (by rw[List.mem_singleton]at hb;rw[<-show b=k from hb,<-e];exact ha)⟩
end
theorem ZG.turn {rec:LoopState->Option Code->Loop}{D:Nat}{st:LoopState}{pe:Option Code}{W W':World}{r:Nat}{o:Obj}(h:ZG rec D st pe W)(hr:W.heap[r]? = some o)(ho1 : ∀l,o ≠ .loop l)(ho2 : ∀l,o ≠ .deferred l)(hg:W.grownBy W' (some r)):ZG rec D st pe W':=
 ⟨Zc hg h.1 (fun e=>by have h1:=h.1;rw[Option.some.inj e,hr]at h1;exact ho1 _ (Option.some.inj h1)),Zc hg h.2 (fun e=>by have h1:=h.2;rw[Option.some.inj e,hr]at h1;exact ho2 _ (Option.some.inj h1))⟩
structure Z0L (Wb:World)(p:Nat)(ks:List Nm)(W:World):Prop where
 blk : ∃a c,W.heap[p]? = some (.cells #[.slice a ks.length c] 75)/\W.ownsRow Wb.heap.size 45 2 (.slice a ks.length c) ks.length (ZC ks)
 same:Za (fun k=>k=p) Wb W
theorem Z0L.below {Wb W W':World}{p:Nat}{ks:List Nm}(h:Z0L Wb p ks W)(hb:Below W.heap.size W W'):Z0L Wb p ks W':=by
 obtain⟨⟨a,c,h1,h2⟩,h3⟩:=h;exact⟨⟨a,c,Z7 hb h1,Zd h2 hb⟩,h3.trans (Za.of_below hb)⟩
theorem Z0L.turn {Wb W W':World}{p r:Nat}{ks:List Nm}{o:Obj}(h:Z0L Wb p ks W)(hr:W.heap[r]? = some o)(ho : ∀c t fr,o ≠ .cells c t fr)(hg:W.grownBy W' (some r))(hge:Wb.heap.size<=r):Z0L Wb p ks W':=by
 obtain⟨⟨a,c,h1,h2⟩,h3⟩:=h;exact⟨⟨a,c,Zc hg h1 (fun e=>by rw[Option.some.inj e,hr]at h1;exact ho _ _ _ (Option.some.inj h1)),h2.kept hg (.inr (Zn h2 hr (fun cur=>ho _ _ _)).symm)⟩,h3.reg (Za.of_grown hg (fun k e=>by cases e;exact .inr hge))⟩
theorem Z0L.putObj {Wb W:World}{p:Nat}{ks:List Nm}(h:Z0L Wb p ks W)(o:Loop)(hl : ∃r,W.heap[Wb.heap.size+1]? = some (.loop r)):Z0L Wb p ks (W.putObj (Wb.heap.size+1) (.loop o)):=by
 obtain⟨r,hl⟩:=hl;exact h.turn hl (fun _ _ _=>by simp) (grownBy_putObj' W _ _) (by omega)
theorem Z0L.add {Wb W V:World}{p:Nat}{ks:List Nm}{k:Nm}{a a':zA}{c c':Nat}(hs:Za (fun k=>k=p) Wb W)(hp:W.heap[p]? = some (.cells #[.slice a ks.length c] 75))(how:W.ownsRow Wb.heap.size 45 2 (.slice a ks.length c) ks.length (ZC ks))
  (ho:V.ownsRow Wb.heap.size 45 2 (.slice a' (ks.length+1) c') (ks.length+1) (ZC ks ++ [.int .i64 k.1,.int .i64 k.2])) (hg:W.grownBy V (Value.ownBlock (.slice a ks.length c))):
  Z0L Wb p (ks ++ [k]) (V.setCell ⟨p,0,none⟩ (.slice a' (ks.length+1) c'))/\V.heap[p]? = some (.cells #[.slice a ks.length c] 75):=by
 have hb2:=Zc hg hp (Zn how hp (by intro cur;simp));have G:=Zp V p 0 (.slice a' (ks.length+1) c');refine⟨⟨⟨a',c',?_,?_⟩,hs.reg ((Za.of_grown hg (fun k e=>.inr (how.lt k e).1)).trans (Za.of_grown G (fun k e=>by cases e;exact .inl rfl)))⟩,hb2⟩
 ·rw[ZI hb2 0 (.slice a' (ks.length+1) c'),List.length_append];rfl
 ·rw[Z1v,List.length_append];exact ho.kept G (.inr (Zn ho hb2 (by intro cur;simp)).symm)
theorem Ya.turn {W W':World}{b r n cnt:Nat}{f:Nm->Option LN}{ks:List Nm}{row:Option Nat}(h:Ya LN.val W b r n f ks cnt)(hg:W.grownBy W' row)(hrow : ∀q,row=some q -> ∃o,W.heap[q]? = some o/\(∀e c,o ≠ .map e c) /\ ∀a1 a2 a3 a4,o ≠ .mapIter a1 a2 a3 a4):Ya LN.val W' b r n f ks cnt:=by
 obtain⟨es,clock,hsb⟩:=h.map.blk;obtain⟨bb,since,seen,c0,hr⟩:=h.blk;refine h.of_blocks ((Zc hg hsb (fun e=>?_)).trans hsb.symm) ((Zc hg hr (fun e=>?_)).trans hr.symm)
 ·obtain⟨o,h1,h2,h3⟩:=hrow b e.symm;rw[hsb]at h1;exact h2 _ _ (Option.some.inj h1).symm
 ·obtain⟨o,h1,h2,h3⟩:=hrow r e.symm;rw[hr]at h1;exact h3 _ _ _ _ (Option.some.inj h1).symm
abbrev KSt:=List Nm×Nm×Nat×Nat
def KAt (Wb:World)(p b n:Nat)(f:Nm->Option LN)(ks js:List Nm)(r cnt:Nat)(W:World):Prop:=Z0L Wb p js W/\Ya LN.val W b r n f ks cnt/\Wb.heap.size<=r /\ ∀k∈ks,(f k).isSome=true
def Zcn (f:Nm->Option LN)(n:Nat)(w:World)(e:Ending)(W:World):Prop:=
 ∃(a:zA) (c:Nat) (ks:List Nm),e = .returned (.slice a ks.length c)/\W.ownsRow w.heap.size 45 2 (.slice a ks.length c) ks.length (ZC ks)/\Jd f ks/\ks.Pairwise (fun x y=>JH x y=true)/\(∀k∈ks,(f k).isSome=true)/\ks.length<=n
theorem Z9H {zs:List Nm}(hn:zs.Nodup)(hs:zs.Pairwise (fun x y=>JH y x=false)):zs.Pairwise (fun x y=>JH x y=true):=by
 refine(hs.and hn).imp (fun {x y} h => ?_);cases h2:JH x y with
 | true=>rfl
 | false=>exact absurd (Z1t h2 h.1) h.2
section
attribute [local go_sem] ZS X9
theorem QU (n:Z8)(sa:zA)(sc:Nat)(w:World):Calls zq 58 #[.agg (Z5 n sa sc)] w fun e w'=>e = .returned (.agg #[.int .i64 n.house,.int .i64 n.num])/\Below w.heap.size w w':=by
 have hb:=zB w (.cells (Z5 n sa sc) 47);go_enter Tryz.func58,Tryz.ntmps58;go_wp2_with fail;go_returns;exact⟨rfl,hb.alloc hb.size _⟩
end
section
attribute [local go_sem] XQ
theorem Z0n (n:Z8)(sa:zA)(sc:Nat)(w:World)(hs:XU w sa n.strokes.length sc n.strokes)(hl:n.strokes.length<=1000000000):
  Calls zq 71 #[.agg (Z5 n sa sc)] w fun e w' => ∃ta tc,e = .returned (.agg (Z5 n ta tc))/\w'.ownsRow w.heap.size 3 1 (.slice ta n.strokes.length tc) n.strokes.length (n.strokes.map Yq)/\Below w.heap.size w w':=by
 have I43:=zH zI;go_enter Tryz.func71,Tryz.ntmps71;go_upto_region 1 with fail;rw[<-YI];have g0:=Zb _ (.cells (Z5 Zh none 0) 47) _ _ (Z9 w (.cells (Z5 n sa sc) 47));have g1:=Zv (w.alloc (.cells (Z5 n sa sc) 47)) (.cells (Z5 Zh none 0) 47) (w.heap.size+1) (by simp);have bb:Below w.heap.size w ((w.alloc (.cells (Z5 n sa sc) 47)).alloc (.cells (Z5 Zh none 0) 47)):=(zB _ _).alloc (by simp) _;have L0:Hid (Z6m w ((w.alloc (.cells (Z5 n sa sc) 47)).alloc (.cells (Z5 Zh none 0) 47)) w.heap.size (w.heap.size+1) (Z5 n sa sc) (Z5 Zh none 0) 47):=zH ⟨g0,g1,bb,by omega⟩;have RI:=zH (hs.below bb);clear g0 g1 bb hs;generalize (w.alloc (.cells (Z5 n sa sc) 47)).alloc (.cells (Z5 Zh none 0) 47)=W2 at *;generalize hp0:w.heap.size=p0 at *;generalize hp1:p0+1=p1 at *;have HP0:=zH hp0;clear hp0 hp1;obtain⟨m,hm⟩:=zX (n.strokes.length);have c15:W2.cell? ⟨p0,15,none⟩=some (.slice sa m sc):=by rw[<-hm.out];exact Z6 L0.out.e1 15 _ rfl
 rw[hm.out]at RI hl;go_wp2_with fail;refine(Z1d sa m sc n.strokes W2 (by omega) RI.out).mono ?_;rintro e W3 ⟨ta,tc,rfl,ho,b3⟩;have L3:=zH (L0.out.below b3);have O3:=zH (Zu ho (show p0<=W2.heap.size by have:=Zj L0.out.e1;omega));clear ho b3 c15;have c15:=Z6 L3.out.e1 15 _ rfl;have f15:=Zq L3.out.e1 15;have T3:=zH (Zn O3.out L3.out.e1 (fun cur h=>by simp at h));have G3:=Zp W3 p0 15 (.slice ta m tc);have E3:Hid ((W3.setCell ⟨p0,15,none⟩ (.slice ta m tc)).heap[p0]? = some (.cells (Z5 n ta tc) 47)):=zH (by
  have:=ZI L3.out.e1 15 (.slice ta m tc);rw[<-hm.out,Z5g]at this;rw[<-hm.out];exact this)
 have E4:Hid ((W3.setCell ⟨p0,15,none⟩ (.slice ta m tc)).heap[p1]? = some (.cells (Z5 Zh none 0) 47)):=zH (Zc G3 L3.out.e2 (fun e=>by have:=L3.out.lt;have e2:=Option.some.inj e;omega));go_upto_region 2 with fail;have B3:Hid (Below p0 w (W3.setCell ⟨p0,15,none⟩ (.slice ta m tc))):=zH (L3.out.b.grown G3 (by have:=Zj L3.out.e1;omega) (fun q hq=>by cases hq;exact Nat.le_refl _));have U3:=zH (Zn O3.out L3.out.e2 (fun cur h=>by simp at h));have O4:=zH (Ze (S:=fun k=>k=p0) O3.out (Za.of_grown G3 (fun k e=>by cases e;rfl)) (fun b hb e=>T3.out (by rw[hb,e])));have hlt:=L3.out.lt;clear c15 f15 G3;generalize W3.setCell ⟨p0,15,none⟩ (.slice ta m tc)=W4 at *;have oneN:=Zm n ta tc;go_wp2_with (first
  |(refine zL p0 E3.out ?_)
  |(refine zN p1 (Z5 n ta tc) E4.out ?_))
 go_wp2_with fail;have hr:=Yp W4 p1 _ (Z5 n ta tc) _ _ E4.out;refine bodyPost_ret (results_cell_row rfl _ _ p1 47 (Z5 n ta tc) (0,0) _ rfl hr Tryz.underlying47 rfl (I43.out _ _ _)) rfl ?_;have G4:=Yr W4 p1 (Z5 n ta tc);have hp1:p1 < W4.heap.size:=Zj E4.out;refine⟨ta,tc,rfl,?_,?_⟩
 ·rw[HP0.out,hm.out];exact Ze (S:=fun k=>k=p1) O4.out (Za.of_grown G4 (fun k e=>by cases e;rfl)) (fun b hb e=>U3.out (by rw[hb,e]))
 ·rw[HP0.out];exact B3.out.grown G4 (by omega) (fun q hq=>by cases hq;omega)
end
theorem Z1G (x m y k:Int)(w:World):Calls zq 120 #[.agg #[.int .i64 x,.int .i64 m],.agg #[.int .i64 y,.int .i64 k]] w fun e w'=>e = .returned (.int .i64 (Yx x m y k))/\Vk w.heap.size w w':=by
 have g1:=Zb _ (.cells (#[.int .i64 y,.int .i64 k]) 45) _ _ (Z9 w (.cells (#[.int .i64 x,.int .i64 m]) 45));have g2:=Zv (w.alloc (.cells (#[.int .i64 x,.int .i64 m]) 45)) (.cells (#[.int .i64 y,.int .i64 k]) 45) (w.heap.size+1) (by simp);have bb:Vk w.heap.size w ((w.alloc (.cells (#[.int .i64 x,.int .i64 m]) 45)).alloc (.cells (#[.int .i64 y,.int .i64 k]) 45)):=((Vk.refl _ _).alloc (Nat.le_refl _) _).alloc (by simp) _;have T0:Hid (Z4z w ((w.alloc (.cells (#[.int .i64 x,.int .i64 m]) 45)).alloc (.cells (#[.int .i64 y,.int .i64 k]) 45)) w.heap.size (w.heap.size+1) (#[.int .i64 x,.int .i64 m]) (#[.int .i64 y,.int .i64 k]) 45):=zH ⟨g1,g2,bb,by omega⟩;clear g1 g2 bb;go_enter Tryz.func120,Tryz.ntmps120;go_upto_region 1 with fail;generalize (w.alloc (.cells (#[.int .i64 x,.int .i64 m]) 45)).alloc (.cells (#[.int .i64 y,.int .i64 k]) 45)=W0 at *;obtain⟨p,hp⟩:=zX (w.heap.size);obtain⟨q,hq⟩:=zX (w.heap.size+1);rw[hq.out,hp.out]at T0;rw[hq.out,hp.out];have T1:=zH (T0.out.below (Vk.refl W0.heap.size W0).drew);refine wp_region_noPanic ?_;refine wp_region_held_drew (S:=fun w'=>Z4z w w' p q (#[.int .i64 x,.int .i64 m]) (#[.int .i64 y,.int .i64 k]) 45) (by kernel_rfl) T1.out (fun hh=>?_);refine zS 0 rfl (.pointer (some ⟨p,0,none⟩)) (fun W _=>by go_simp) ?_;refine zS 1 rfl (.int .i64 x) (fun W h=>by have hc:=Z6 h.e1 0 (.int .i64 x) rfl;go_simp) ?_;refine zS 2 rfl (.pointer (some ⟨q,0,none⟩)) (fun W _=>by go_simp) ?_;refine zS 3 rfl (.int .i64 y) (fun W h=>by have hc:=Z6 h.e2 0 (.int .i64 y) rfl;go_simp) ?_;refine zS 5 rfl (.pointer (some ⟨p,1,none⟩)) (fun W _=>by go_simp) ?_;refine zS 6 rfl (.int .i64 m) (fun W h=>by have hc:=Z6 h.e1 1 (.int .i64 m) rfl;go_simp) ?_;refine zS 7 rfl (.pointer (some ⟨q,1,none⟩)) (fun W _=>by go_simp) ?_;refine zS 8 rfl (.int .i64 k) (fun W h=>by have hc:=Z6 h.e2 1 (.int .i64 k) rfl;go_simp) ?_;refine zR 4 rfl fun K hK=>?_;go_simp;go_at_call 173;refine(XA x y _).mono ?_;rintro e w1 ⟨rfl,rfl⟩;dsimp only;refine zK hK T1.out fun hh=>?_
 clear hK K;refine zR 9 rfl fun K hK=>?_;go_simp;go_at_call 173;refine(XA m k _).mono ?_;rintro e w1 ⟨rfl,rfl⟩;dsimp only;refine zK hK T1.out fun hh=>?_;clear hK K;refine zR 10 rfl fun K hK=>?_;go_simp;have TB:=zH (T1.out.below ((Vk.refl W0.drew.heap.size W0.drew).alloc (Nat.le_refl _) (.cells #[.int .i64 (Yl x y),.int .i64 (Yl m k)] 3)));refine zK hK TB.out fun hh=>?_;clear hK K;refine zR 11 rfl fun K hK=>?_;go_simp;go_at_call 172;refine(Z26 W0.drew.heap.size (Yl x y) (Yl m k) _ (Z9 W0.drew _)).mono ?_;rintro e w1 ⟨rfl,rfl⟩;dsimp only;refine zK hK TB.out fun hh=>?_;clear hK K;refine zS 12 rfl (.int .i64 (orI (Yl x y) (Yl m k))) (fun W _=>by go_simp) ?_;have TE:=TB;refine zE ?_;change Exit.then _ _ Exit.normal { tmps := #[.agg #[.int .i64 x,.int .i64 m],.agg #[.int .i64 y,.int .i64 k],.pointer (some ⟨p,0,none⟩),.pointer (some ⟨q,0,none⟩),.int .i64 (orI (Yl x y) (Yl m k)),.pointer (some ⟨p,0,none⟩),.int .i64 x,.pointer (some ⟨q,0,none⟩),.int .i64 y,.int .i64 (Yl x y),.pointer (some ⟨p,1,none⟩),.int .i64 m,.pointer (some ⟨q,1,none⟩),.int .i64 k,.int .i64 (Yl m k),.slice (some ⟨W0.drew.heap.size,0,none⟩) 2 2,.int .i64 (orI (Yl x y) (Yl m k))],defers:=[] } _;go_wp2;go_ret;exact⟨rfl,by rw[hp.out];exact TE.out.b⟩
theorem Z9I (args:ZV)(w:World):(callFunc 120 args).run zq w = .ok (.enter 120 args) w:=by kernel_rfl
theorem Zdp (x y:Nm)(w:World):Calls zq 120 #[.agg (Z03 x).toArray,.agg (Z03 y).toArray] w fun e w'=>e = .returned (.int .i64 (Yx x.1 x.2 y.1 y.2))/\Vk w.heap.size w w':=
 Z1G x.1 x.2 y.1 y.2 w
section
attribute [local go_sem] Oper.semAt_some
theorem Z9V (m:Nat)(Wb:World)(p pB b n:Nat)(f:Nm->Option LN)(hpB:Wb.heap[pB]? = some (.cells #[.map (some b)] 106))(hne:pB≠p)(hmap:Y4 LN.val Wb b n f)(hbp:b≠p)
  (rec:LoopState->Option Code->Loop) (W1:World) (h0:Z0L Wb p [] W1) (hl:ZG rec Wb.heap.size .ready none W1)
  (hY : ∀(s:KSt) W,KAt Wb p b n f (s.1 ++ [s.2.1]) s.1 s.2.2.1 s.2.2.2 W->ZG rec Wb.heap.size .ready none W->YieldAt Fence.wide (m - 1) zq (Wb.heap.size+1) #[.agg #[.int .i64 s.2.1.1,.int .i64 s.2.1.2]] W fun e W'=>
    e = .returned (.bool true)/\KAt Wb p b n f (s.1 ++ [s.2.1]) (s.1 ++ [s.2.1]) s.2.2.1 s.2.2.2 W'/\ZG rec Wb.heap.size .ready none W'):
  CallsIn Fence.wide m zq 171 #[.func (.yield (Wb.heap.size+1)) #[] #[],.pointer (some ⟨pB,0,none⟩)] W1 fun e W'=>
    (∃v,e = .returned v)/\(∃ks,Z0L Wb p ks W'/\Jd f ks/\ks.Nodup/\(∀k∈ks,(f k).isSome=true)/\ks.length<=n)/\ZG rec Wb.heap.size .ready none W':=by
 have HY:=zH hY;clear hY;have M1:=zH (hmap.of_block (h0.same.block b hmap.lt hbp));have hlc:=Z6 ((h0.same.block pB (Zj hpB) hne).trans hpB) 0 (.map (some b)) rfl;have R0:=zH h0;clear h0;have L0:=zH hl;clear hl;clear hpB hne hmap hbp;refine callsIn_of_wp Tryz.func171 rfl trivial ?_;simp only[Tryz.ntmps171,List.size_toArray,List.length_cons,List.length_nil,Nat.reduceAdd,Nat.reduceSub,Array.replicate_succ,Array.replicate_zero,List.push_toArray,List.append_toArray,List.nil_append,List.cons_append];gi_wp2_with (first
  |(gi_at_range;refine Z1l _ rfl _ 106 47 rfl Tryz.underlying106 b n rfl M1.out ?_;intro w0 cnt0 hrg0 hg0 hs0)
  | gi_in)
 go_frame;obtain⟨r,hr⟩:=zX (W1.heap.size);have b0:Below W1.heap.size W1 w0:=(Below.refl _ _).grown hg0 (Nat.le_refl _) (fun q hq=>by cases hq);have S0:Hid (KAt Wb p b n f [] [] r cnt0 w0):=zH ⟨R0.out.below b0,by rw[<-hr.out];exact hrg0,by rw[<-hr.out];exact R0.out.same.size,fun k hk=>by cases hk⟩;have LL0:=zH (L0.out.of_below b0);rw[hr.out];clear hrg0 hg0 hs0 b0 hlc M1 R0 L0;gi_loopw [3] (fun _ wr=>∃(ks:List Nm) (cnt:Nat),Hid (KAt Wb p b n f ks ks r cnt wr)/\Hid (ZG rec Wb.heap.size .ready none wr)) (fun _ wr=>wr.rangeLeft b r)
 case atStart=>exact⟨[],cnt0,S0,LL0⟩
 case round=>
  obtain⟨ks,cnt,HS,HL⟩:=hrel;gi_wp2_with (first
   |(gi_at_next;refine Z1W _ rfl _ rfl b r n cnt ks rfl HS.out.2.1 ?_ ?_)
   | gi_in)
  ·intro hall;have HALL:=zH hall;clear hall;gi_wp2;go_end0;exact⟨⟨_,rfl⟩,⟨ks,HS.out.1,HALL.out,HS.out.2.1.nodup,HS.out.2.2.2,by have:=HS.out.2.1.count;omega⟩,HL.out⟩
  ·intro kh km y w2 cnt2 HN hen;obtain⟨bb,since,seen,c0,hrb⟩:=HS.out.2.1.blk;have np2:=HS.out.1.turn hrb (fun _ _ _=>by simp) HN.out.grown HS.out.2.2.1;have bn:Below w2.heap.size w2 (w2.alloc (.cells #[.int .i64 kh,.int .i64 km] 45)):=zB _ _;have L3:=zH ((HL.out.turn hrb (fun _=>by simp) (fun _=>by simp) HN.out.grown).of_below bn);have K3:Hid (KAt Wb p b n f (ks ++ [(kh,km)]) ks r cnt2 (w2.alloc (.cells #[.int .i64 kh,.int .i64 km] 45))):=zH ⟨np2.below bn,HN.out.range.below bn,HS.out.2.2.1,fun k hk=>by
    rcases List.mem_append.1 hk with hk | hk
    ·exact HS.out.2.2.2 k hk
    ·rw[List.mem_singleton.1 hk,HN.out.at_];rfl⟩
   have HM:=zH (show wr.rangeLeft b r=cnt from HS.out.2.1.left_eq);have HLT:=zH HN.out.lt;clear np2 bn HS HL HN hrb;unfold LN.val at hen;obtain⟨fn,tmps,assign,body,hy,hRo⟩:=HY.out (ks,(kh,km),r,cnt2) _ K3.out L3.out;dsimp only at hy;gi_wp2;refine⟨fun h=>by simp[Fence.wide]at h,?_⟩;refine hRo.mono ?_;rintro e W6 ⟨rfl,hK6,hL6⟩;have HK6:=zH hK6;have HL6:=zH hL6;clear hRo hy hK6 hL6 hen;gi_wp2;go_roundw
   case rel=>exact⟨_,cnt2,HK6,HL6⟩
   case measure=>rw[HK6.out.2.1.left_eq,HM.out];exact HLT.out
theorem Z4Z (pB b n:Nat)(f:Nm->Option LN)(w:World)(hpB:w.heap[pB]? = some (.cells #[.map (some b)] 106))(hmap:Y4 LN.val w b n f)(hn:n<=1000):
  Calls zq 203 #[.slice none 0 0,.func (.func 171) #[] #[.pointer (some ⟨pB,0,none⟩)]] w fun e w'=>
   (∃a' c' ks,e = .returned (.slice a' ks.length c')/\w'.ownsRow w.heap.size 45 2 (.slice a' ks.length c') ks.length (ZC ks)/\Jd f ks/\ks.Nodup/\(∀k∈ks,(f k).isSome=true)/\ks.length<=n)/\Below w.heap.size w w':=by
 have HLEN:=zH hn;clear hn;have B0:=zH (zB w (.cells #[.slice none 0 0] 75));have P0:=zH (Z9 w (.cells #[.slice none 0 0] 75));have HB:=zH (Z7 B0.out hpB);have HM:=zH (hmap.below B0.out);have NE:Hid (pB≠w.heap.size/\b≠w.heap.size):=zH (by have:=Zj hpB;have:=hmap.lt;omega);clear hpB hmap;refine(callsIn_wide (n:=4)).1 ?_;refine callsIn_of_wp_marks Tryz.func203 rfl trivial ?_;simp only[Tryz.ntmps203,List.size_toArray,List.length_cons,List.length_nil,Nat.reduceAdd,Nat.reduceSub,Array.replicate_succ,Array.replicate_zero,List.push_toArray,List.append_toArray,List.nil_append,List.cons_append];refine wpIn_wide.2 ?_;go_upto_region 1 with fail;obtain⟨p,hp⟩:=zX (w.heap.size);rw[hp.out]at P0 NE ⊢;generalize w.alloc (.cells #[.slice none 0 0] 75)=w3 at *;go_wp2_with fail;refine(wpIn_wide (n:=4)).1 ?_;refine Z0N (n:=3) (σ:=KSt) (w:=w3) (gf:=171) (lb := #[.pointer (some ⟨pB,0,none⟩)]) rfl (enters_of Tryz.func171 (by kernel_rfl) rfl)
  (fun s=>#[.agg #[.int .i64 s.2.1.1,.int .i64 s.2.1.2]]) (fun _=>rfl) (fun s W=>KAt w3 p b n f (s.1 ++ [s.2.1]) s.1 s.2.2.1 s.2.2.2 W) (fun s W=>KAt w3 p b n f (s.1 ++ [s.2.1]) (s.1 ++ [s.2.1]) s.2.2.1 s.2.2.2 W)
  (fun s a₁ W=>∃pX,a₁ = { tmps := #[.slice none 0 0,.func (.func 171) #[] #[.pointer (some ⟨pB,0,none⟩)],.pointer (some ⟨p,0,none⟩),undef,.slice none 0 0,.pointer (some ⟨pX,0,none⟩),.func (.func 171) #[] #[.pointer (some ⟨pB,0,none⟩)],.agg #[.int .i64 s.2.1.1,.int .i64 s.2.1.2],undef,undef,undef,undef,undef],defers:=[] } /\ W.heap[pX]? = some (.cells #[.int .i64 s.2.1.1,.int .i64 s.2.1.2] 45)/\KAt w3 p b n f (s.1 ++ [s.2.1]) s.1 s.2.2.1 s.2.2.2 W)
  (fun W=>∃ks,Z0L w3 p ks W/\Jd f ks/\ks.Nodup/\(∀k∈ks,(f k).isSome=true)/\ks.length<=n) ?hA' ?hB ?hD ?assign ?body ?iter ?done
 case hA'=>
  rintro s a₁ W o ⟨pX,rfl,h1,h2,h3,h4⟩ ⟨r,hr⟩;refine⟨pX,rfl,(World.putObj_heap_other (fun e=>?_)).trans h1,h2.putObj o ⟨r,hr⟩,h3.turn (grownBy_putObj' W _ _) (fun q e=>by cases e;exact⟨_,hr,by simp,by simp⟩),h4⟩;rw[e,hr]at h1;simp at h1
 case hB=>
  rintro s W o ⟨h2,h3,h4⟩ ⟨r,hr⟩;exact⟨h2.putObj o ⟨r,hr⟩,h3.turn (grownBy_putObj' W _ _) (fun q e=>by cases e;exact⟨_,hr,by simp,by simp⟩),h4⟩
 case hD=>
  rintro W o ⟨ks,h,h2⟩ hl;exact⟨ks,h.putObj o hl,h2⟩
 case assign=>
  rintro⟨ks,k,r,cnt⟩ W h1;have H1:=zH h1;clear h1;dsimp only;have hb5:Below W.heap.size W (W.alloc (.cells #[.int .i64 k.1,.int .i64 k.2] 45)):=zB W _;have HG:=zH (show KeepsFrom w3.heap.size W (W.alloc (.cells #[.int .i64 k.1,.int .i64 k.2] 45))/\(W.alloc (.cells #[.int .i64 k.1,.int .i64 k.2] 45)).heap[W.heap.size]? = some (.cells #[.int .i64 k.1,.int .i64 k.2] 45)/\KAt w3 p b n f (ks ++ [k]) ks r cnt (W.alloc (.cells #[.int .i64 k.1,.int .i64 k.2] 45))from
   ⟨(Qa hb5).from _,Z9 W _,H1.out.1.below hb5,H1.out.2.1.below hb5,H1.out.2.2⟩)
  clear hb5 H1;have hf : ∀t:ZV,(#[7].zip #[Value.agg #[.int .i64 k.1,.int .i64 k.2]]).foldl (fun t (p,v)=>t.setIfInBounds p v) t=t.setIfInBounds 7 (.agg #[.int .i64 k.1,.int .i64 k.2]):=fun t=>by simp
  rw[hf];simp only[List.setIfInBounds_toArray,List.set_cons_succ,List.set_cons_zero];clear hf;refine Xt (VD _) (Z0d (fun a w h=>h)) ?hnd ?_
  case hnd=>rfl
  go_wp2_with fail;exact⟨HG.out.1,W.heap.size,rfl,HG.out.2⟩
 case body=>
  rintro⟨ks,k,r,cnt⟩ a₁ W ⟨pX,rfl,hX,h1⟩;have HX:=zH hX;have H1:=zH (show KAt w3 p b n f (ks ++ [k]) ks r cnt W from h1);clear hX h1;dsimp only;have HKL:Hid (ks.length<=1000):=zH (by have h1:=H1.out.2.1.count;have:=HLEN.out;rw[List.length_append]at h1;omega);obtain⟨⟨ea,ec,hblk,how⟩,hsm⟩:=H1.out.1;have bn:Below W.heap.size W (W.alloc (.cells #[.int .i64 k.1,.int .i64 k.2] 45)):=zB _ _;obtain⟨a',c',v9,hrun,ho9,hg9⟩:=XX (W.alloc (.cells #[.int .i64 k.1,.int .i64 k.2] 45)) w3.heap.size ea ks.length ec _ (Zd how bn) _ 1 1 _ (VO W _ _) (fun u hu=>by simp only[List.mem_cons,List.not_mem_nil,or_false]at hu;rcases hu with rfl | rfl <;> rfl) (by have:=HKL.out;omega) (Nat.le_trans hsm.size bn.size);have hadd:=Z0L.add (hsm.trans (Za.of_below bn)) (Z7 bn hblk) (Zd how bn) ho9 hg9;have HK:Hid (KeepsFrom w3.heap.size W (v9.setCell ⟨p,0,none⟩ (.slice a' (ks.length+1) c'))):=zH (by
   refine KeepsOthers.from ⟨?_,fun k o hk ho=>?_⟩ _
   ·exact Nat.le_trans bn.size (Nat.le_trans hg9.size (by simp[World.setCell]))
   ·have hk1:=Z7 bn hk;have hk2:=Zc hg9 hk1 (fun e=>by have:=Z24 (Zd how bn) e.symm hk1;rw[this]at ho;cases ho);exact Zc (Zp v9 p 0 _) hk2 (fun e=>by rw[Option.some.inj e,hadd.2]at hk2;cases hk2;cases ho))
  have RA:Ya LN.val (v9.setCell ⟨p,0,none⟩ (.slice a' (ks.length+1) c')) b r n f (ks ++ [k]) cnt:=by
   have h2:=H1.out.2.1.below bn;have h3:Ya LN.val v9 b r n f (ks ++ [k]) cnt:=h2.turn hg9 (fun q e=>by
    rcases(Zd how bn).2 with ⟨h4,_⟩ | ⟨g,cap,cur,h4,_,h5,_⟩
    ·rw[h4]at e;cases e
    ·rw[h4]at e;cases e;exact⟨_,h5,by simp,by simp⟩)
   exact h3.turn (Zp v9 p 0 _) (fun q e=>by cases e;exact⟨_,hadd.2,by simp,by simp⟩)
  have HA:=zH (show KAt w3 p b n f (ks ++ [k]) (ks ++ [k]) r cnt (v9.setCell ⟨p,0,none⟩ (.slice a' (ks.length+1) c'))from⟨hadd.1,RA,H1.out.2.2⟩);have hcl:=Z6 hblk 0 (.slice ea ks.length ec) rfl;have hx0:=Z6 HX.out 0 (.int .i64 k.1) rfl;have hx1:=Z6 HX.out 1 (.int .i64 k.2) rfl;have hcl3:=Z6 hadd.2 0 (.slice ea ks.length ec) rfl;have hfz:=Zq hadd.2 0;clear hadd how hsm bn ho9 hg9 hblk RA;apply wpIn_block;refine Xt (VD _) (Z0d (fun a w h=>h)) ?hnd ?_
  case hnd=>rfl
  go_wp2_with (first
   |(refine YG rfl _ _ _ rfl _ _ _ rfl rfl hrun ?_)
   | fail)
  exact⟨HK.out,HA.out⟩
 case iter=>
  intro rec hlr hY;have hbb:=(zB w3 (.deferred (some []))).alloc (by simp) (.loop (rec .ready none));exact Z9V 3 w3 p pB b n f HB.out NE.out.1 HM.out NE.out.2 rec _ ⟨⟨none,0,Z7 hbb P0.out,World.ownsRow_nil _ _ _ _⟩,Za.of_below hbb⟩ hlr hY
 case done=>
  rintro W ⟨ks,⟨⟨a',c',hblk,how⟩,hsm⟩,hks⟩ hD0;dsimp only;have HD0:=zH hD0;have HOW:=zH how;have HSM:=zH hsm;have HKS:=zH hks;have hcl:=Z6 hblk 0 (.slice a' ks.length c') rfl;clear hD0 how hsm hblk hks;go_wp2_with fail;have hb:Below w.heap.size w W:=HSM.out.below B0.out B0.out.size (fun k hk=>by have:=hp.out;omega);have hbz:Below w.heap.size w (W.putObj w3.heap.size (.deferred none)):=hb.grown (grownBy_putObj' W _ _) hb.size (fun k e=>by cases e;exact B0.out.size);have hoz:=Zu (ownsRow_putObj HOW.out (.deferred none) HD0.out rfl) B0.out.size;refine⟨by simp,.inl ⟨_,_,rfl,run_takeDeferred HD0.out,?_⟩⟩;exact⟨.slice a' ks.length c',by kernel_rfl,⟨a',c',ks,rfl,hoz,HKS.out⟩,hbz⟩
theorem Z4r (pB b n:Nat)(f:Nm->Option LN)(w:World)(hpB:w.heap[pB]? = some (.cells #[.map (some b)] 106))(hmap:Y4 LN.val w b n f)(hn:n<=1000):
  Calls zq 169 #[.func (.func 171) #[] #[.pointer (some ⟨pB,0,none⟩)]] w fun e w'=>
   (∃a' c' ks,e = .returned (.slice a' ks.length c')/\w'.ownsRow w.heap.size 45 2 (.slice a' ks.length c') ks.length (ZC ks)/\Jd f ks/\ks.Nodup/\(∀k∈ks,(f k).isSome=true)/\ks.length<=n)/\Below w.heap.size w w':=by
 have HA:=zH (Z4Z pB b n f w hpB hmap hn);clear hpB hmap hn;go_enter Tryz.func169,Tryz.ntmps169;go_wp2_with fail;refine HA.out.mono ?_;rintro e w1 ⟨⟨a',c',ks,rfl,h1⟩,h2⟩;have H:=zH (And.intro h1 h2);clear h1 h2;go_wp2;go_ret;exact⟨⟨a',c',ks,rfl,H.out.1⟩,H.out.2⟩
theorem Z4H (pB b n:Nat)(f:Nm->Option LN)(w:World)(hpB:w.heap[pB]? = some (.cells #[.map (some b)] 106))(hmap:Y4 LN.val w b n f)(hn:n<=1000):
  Calls zq 118 #[.func (.func 171) #[] #[.pointer (some ⟨pB,0,none⟩)],.func (.func 120) #[] #[]] w fun e w'=>Zcn f n w e w'/\Below w.heap.size w w':=by
 have HA:=zH (Z4r pB b n f w hpB hmap hn);have HN:=zH hn;clear hpB hmap hn;go_enter Tryz.func118,Tryz.ntmps118;go_wp2_with fail;refine HA.out.mono ?_;rintro e w1 ⟨⟨a',c',ks,rfl,h1,h2,h3,h4,h5⟩,hb⟩;have HO:=zH h1;have HAL:=zH h2;have HND:=zH h3;have HIN:=zH h4;have HL:=zH h5;have HB:=zH hb;clear h1 h2 h3 h4 h5 hb;go_wp2_with fail;refine(Z1n (V:=Nm) Z8b Z03 (fun _=>rfl) (fun x v hv=>by simp only[Z03,List.mem_cons,List.not_mem_nil,or_false]at hv;rcases hv with rfl | rfl <;> rfl) (fun x y=>Yx x.1 x.2 y.1 y.2) (fun _ _=>rfl) 120 Z9I Zdp w.heap.size ks.length c' a' ks _ (by rw[<-VJ];exact HO.out) rfl (by have:=HL.out;have:=HN.out;omega)).mono ?_;rintro e w10 ⟨rfl,zs,hz1,hz2,hz3,hz4⟩;have Z1:=zH hz1;have Z2:=zH hz2;have Z3:=zH hz3;have B2:=zH (hz4.below HB.out HB.out.size (fun k hk=>(HO.out.lt k hk).1));clear hz1 hz2 hz3 hz4;have ZL:Hid (zs.length=ks.length):=zH Z2.out.length_eq;go_wp2;go_ret;exact⟨⟨a',c',zs,by rw[ZL.out] <;> rfl,by rw[VJ,ZL.out];exact Z1.out,fun k hk=>Z2.out.symm.subset (HAL.out k hk),Z9H (Z2.out.nodup_iff.2 HND.out) Z3.out,fun k hk=>HIN.out k (Z2.out.subset hk),by rw[ZL.out];exact HL.out⟩,B2.out⟩
theorem Z9W (b:Nat)(W:World):Calls zq 119 #[.map (some b)] W fun e W'=>e = .returned (.func (.func 171) #[] #[.pointer (some ⟨W.heap.size,0,none⟩)])/\W'=W.alloc (.cells #[.map (some b)] 106):=by
 have hmf : ∀(fn:Fn) (first cap:ZV) (w:World),(Instr.makeFunc fn first cap).run zq w = .ok (.func fn first cap) w:=fun _ _ _ _=>rfl;go_enter Tryz.func119,Tryz.ntmps119;go_wp2;go_ret;exact⟨rfl,rfl⟩
end
theorem Z7v (l:List XH):(Xz l).length=l.length * 21:=by
 rw[Xz,Z0l 21 _ (by intro r hr;obtain⟨e,_,rfl⟩:=List.mem_map.1 hr;rfl),List.length_map]
theorem Ut.of_rd {W:World}{a:zA}{n c:Nat}{l:List XH}(h:ZW W 21 a n c (Xz l)):Ut W a n c l:=by
 refine⟨by have:=h.len;rw[Z7v]at this;omega,h.le,h.max,h.2.2.2.imp id ?_⟩;rintro⟨b,off,rfl,h4⟩;refine⟨b,off,rfl,fun i x hx j v hv=>?_⟩;have hj:j < 21:=(List.getElem?_eq_some_iff.1 hv).1;have h5:=Ug 21 (l.map XH.cells) (by intro r hr;obtain⟨y,_,rfl⟩:=List.mem_map.1 hr;rfl) i x.cells (by rw[List.getElem?_map,hx];rfl) j hj;have h6:=h4 (i * 21+j) v (h5.trans hv);rwa [<-Nat.add_assoc]at h6
theorem JE (w:World)(p o:Nat)(v:Value):Za (fun k=>k=p) w (w.setCell ⟨p,o,none⟩ v):=Za.of_grown (Zp w p o v) (fun k e=>by cases e;rfl)
theorem ZcA {W:World}{a:zA}{n c:Nat}{l:List Nm}(h:ZW W 2 a n c (ZC l))(h0:0 < n): ∃b off,a=some ⟨b,off,none⟩ /\ ∀i x,l[i]? = some x->W.cell? ⟨b,off+i * 2,none⟩=some (.int .i64 x.1)/\W.cell? ⟨b,off+i * 2+1,none⟩=some (.int .i64 x.2):=by
 rcases h.2.2.2 with h5 | ⟨b,off,rfl,h4⟩
 ·have:=h.2.1;omega
 ·refine⟨b,off,rfl,fun i x hx=>?_⟩;rw[VJ]at h4;have hf:=fun j hj=>Ug 2 (l.map Z03) (by intro r hr;obtain⟨y,_,rfl⟩:=List.mem_map.1 hr;rfl) i (Z03 x) (by rw[List.getElem?_map,hx];rfl) j hj;have h6:=h4 (i * 2+0) _ ((hf 0 (by omega)).trans rfl);have h7:=h4 (i * 2+1) _ ((hf 1 (by omega)).trans rfl);exact⟨h6,by rwa [<-Nat.add_assoc]at h7⟩
theorem Uc (xs:List LN):(ZB xs).length=xs.length * 19:=by
 rw[ZB,Z0l 19 _ (by intro r hr;obtain⟨e,_,rfl⟩:=List.mem_map.1 hr;rfl),List.length_map]
theorem Z8S {W:World}{a:zA}{n c:Nat}{xs:List LN}(h:ZW W 19 a n c (ZB xs))(hs : ∀x∈xs,x.ok W):UP W a n c (xs.map LN.n):=by
 have hl:xs.length=n:=by have:=h.len;rw[Uc]at this;omega
 refine⟨by rw[List.length_map,hl],h.2.1,h.2.2.1,?_⟩;rcases h.2.2.2 with h0 | ⟨b,off,rfl,h4⟩
 ·exact .inl h0
 ·rcases Nat.eq_zero_or_pos n with hn | hn
  ·refine .inr ⟨b,off,rfl,fun i x hx=>?_⟩;have:xs=[]:=List.eq_nil_of_length_eq_zero (by omega);subst this;simp at hx
  ·obtain⟨b',off',e,hat⟩:=Z75 h hn;cases e;refine .inr ⟨b,off,rfl,fun i x hx=>?_⟩;rw[List.getElem?_map]at hx;cases hy:xs[i]? with
   | none=>simp[hy]at hx
   | some y=>
    simp only[hy,Option.map_some,Option.some.injEq]at hx;subst hx;exact⟨y.sa,y.sc,hat i y hy,hs y (List.mem_of_getElem? hy)⟩
section
variable (s1:zA)(c1:Nat)(s2:zA)(c2:Nat)(s3:zA)(c3:Nat)
end
structure U5 (V W:World)(a:zA)(c n:Nat)(ys:List LN):Prop where
 bel:Below V.heap.size V W
 own:W.ownsRow V.heap.size 47 19 (.slice a n c) n (ZB ys)
 str:Z0Z W V.heap.size ys
 len:ys.length=n
theorem U5.start (V:World):U5 V V none 0 0 []:=⟨Below.refl _ _,World.ownsRow_nil _ _ _ _,(fun x hx=>by cases hx),rfl⟩
theorem U5.below {V W W':World}{a:zA}{c n:Nat}{ys:List LN}(h:U5 V W a c n ys)(hb:Below W.heap.size W W'):U5 V W' a c n ys:=⟨h.bel.trans (hb.mono h.bel.size),Zd h.own hb,h.str.below hb,h.len⟩
theorem U5.add {V W W':World}{a a':zA}{c c' n:Nat}{ys:List LN}{x:LN}(h:U5 V W a c n ys)(hx:W.ownsRow V.heap.size 3 1 (.slice x.sa x.n.strokes.length x.sc) x.n.strokes.length (x.n.strokes.map Yq))
  (ho:W'.ownsRow V.heap.size 47 19 (.slice a' (n+1) c') (n+1) (ZB ys ++ x.n.cells x.sa x.sc)) (hg:(W.alloc (.cells (Z5 x.n x.sa x.sc) 47)).grownBy W' (Value.ownBlock (.slice a n c))):U5 V W' a' c' (n+1) (ys ++ [x]):=by
 have bn:Below W.heap.size W (W.alloc (.cells (Z5 x.n x.sa x.sc) 47)):=zB _ _;have h2:=h.below bn;refine⟨h2.bel.grown hg h2.bel.size (fun k hk=>(h2.own.lt k hk).1),by rw[Vq];exact ho,fun y hy=>?_,by rw[List.length_append,h.len];rfl⟩;have h0:(W.alloc (.cells (Z5 x.n x.sa x.sc) 47)).ownsRow V.heap.size 3 1 (.slice y.sa y.n.strokes.length y.sc) y.n.strokes.length (y.n.strokes.map Yq):=by
  rcases List.mem_append.1 hy with hy | hy
  ·exact h2.str y hy
  ·rw[List.mem_singleton.1 hy];exact Zd hx bn
 exact h0.kept hg (JG h0 h2.own (by decide))
theorem U5.rd {V W:World}{a:zA}{c n:Nat}{ys:List LN}(h:U5 V W a c n ys):UP W a n c (ys.map LN.n):=Z8S (ZW.of_own h.own) (fun y hy=>ZW.of_own (h.str y hy))
theorem Z6K {α:Type}{enc:α->Value}{f:Nm->Option α}{w:World}{b n:Nat}{t e:TypeId}(hmap:Y4 enc w b n f)(ht:zq.underlying t=some (.map 45 e)){z:Value}(hz:(zeroValue e).run zq w = .ok z w)(h m:Int)(hk:Um (h,m)){y:α}(hy:f (h,m)=some y):
  (Instr.lookup t (.map (some b)) (.agg #[.int .i64 h,.int .i64 m]) false).run zq w = .ok (enc y) w:=by
 obtain⟨D,h1,h2⟩:=hmap;obtain⟨v,ps,h3,h4⟩:=h1.lookup Ju ht hz (zd := .held z) (zp:=[]) rfl (VQ (h,m) hk);rw[h2.val (h,m) y hy]at h4;simp only[JV,Option.some.injEq,Prod.mk.injEq]at h4;have h5:=h4.1;simp only[DataW.held.injEq]at h5;rw[<-h5];exact h3
theorem QG {α:Type}{enc:α->Value}{f:Nm->Option α}{w:World}{ops:Array Oper}{rest:List Oper}{o:Oper}{a:Act}{Q:Exit->Act->World->Prop}(hg:o.guard=none)(m:Operand)(t e:TypeId)(hop:o.op=Op.call { callee:=Callee.builtin Builtin.len,args := #[m],argTypes := #[t] })(ht:zq.underlying t=some (.map 45 e))(b n:Nat)
  (hm:a.eval m = .map (some b)) (hmap:Y4 enc w b n f) (hK : ∀k:Nat,k<=n->wpList zq ops Q rest (a.put o.dst (.int .i64 (k:Int))) w):wpList zq ops Q (o :: rest) a w:=by
 obtain⟨D,h1,h2⟩:=hmap;exact wpList_len_own w hg m t hop 45 e ht JV b n D hm h1 (hK _ h1.size_le)
def Z4Q (f g:Nm->Option LN)(ks:List Nm):Nm->Option LN:=fun k=>if k∈ks then g k else f k
theorem Zbd (f g:Nm->Option LN):Z4Q f g []=f:=by
 funext a;simp[Z4Q]
theorem Z9K {f g:Nm->Option LN}{ks:List Nm}{k:Nm}{y:LN}(h:g k=some y):Z4Q f g (ks ++ [k])=Yv (Z4Q f g ks) k y:=by
 funext a;unfold Z4Q Yv;by_cases e:a=k
 ·subst e;simp[h]
 ·simp[e]
theorem Zbe {f g:Nm->Option LN}{ks:List Nm}(h:Jd g ks)(h2 : ∀k∈ks,(g k).isSome=true):Z4Q f g ks=Z1H f g:=by
 funext a;unfold Z4Q Z1H;by_cases e:a∈ks
 ·obtain⟨y,hy⟩:=Option.isSome_iff_exists.1 (h2 a e);simp[e,hy]
 ·cases hg:g a with
  | none=>simp[e]
  | some y=>exact absurd (h a (by rw[hg];rfl)) e
section
variable {w wr W':World}{bd bs r nd n:Nat}{f g:Nm->Option LN}{kr ks:List Nm}{cnt:Nat}
end
theorem Z3V {W:World}{a:zA}{n c:Nat}{l:List Nm}(h:ZW W 2 a n c (ZC l)){q:Nat}{k:Nm}(hk:l[q]? = some k): ∃b off,a=some ⟨b,off,none⟩/\W.cell? ⟨b,off+q * 2,none⟩=some (.int .i64 k.1)/\W.cell? ⟨b,off+q * 2+1,none⟩=some (.int .i64 k.2):=by
 have hl:l.length=n:=by have:=h.len;rw[Xv]at this;omega
 have hq:=(List.getElem?_eq_some_iff.1 hk).1;obtain⟨b,off,rfl,hat⟩:=ZcA h (by omega);exact⟨b,off,rfl,hat q k hk⟩
def evC (e:XH):Nm×Z8:=(e.nm,e.x.n)
abbrev Z50:=List Z8×List Z8×List Nm
def Z4K (f:Yh)(l m:List Z8)(day:Int):Z50:=if (Zy f l).1=0 then ((Z0H day m).hs,(Z0H day m).es,csN day m)else ([],[],[])
def Z6c (f:Yh)(l:List Z8):Int:=if (Zy f l).1=0 then 0 else 1
def evP (n:Z8):Nm×Z8:=(Zk n,n)
def Vc (W:World)(v:Value)(T:Z50):Prop:=
 ∃(ha:zA) (hn hc:Nat) (ea:zA) (en ec:Nat) (ca:zA) (cn cc:Nat) (hs es:List XH),v = .agg #[.slice ha hn hc,.slice ea en ec,.slice ca cn cc] /\
  Ut W ha hn hc hs/\Ut W ea en ec es/\ZW W 2 ca cn cc (ZC T.2.2)/\(∀e∈hs ++ es,e.x.ok W)/\hs.map evC=T.1.map evP/\es.map evC=T.2.1.map evP
theorem Vc.below {W W':World}{v:Value}{T:Z50}(h:Vc W v T)(hb:Below W.heap.size W W'):Vc W' v T:=by
 obtain⟨ha,hn,hc,ea,en,ec,ca,cn,cc,hs,es,rfl,h1,h2,h3,h4,h5,h6⟩:=h;exact⟨ha,hn,hc,ea,en,ec,ca,cn,cc,hs,es,rfl,h1.below hb,h2.below hb,h3.below hb,fun e he=>(h4 e he).below hb,h5,h6⟩
theorem Z0z {es:List XH}{N:List Z8}(h:es.map (fun e=>e.x.n)=N)(hn : ∀e∈es,e.nm=Zk e.x.n):es.map evC=N.map evP:=by
 subst h;rw[List.map_map];refine List.map_congr_left fun e he=>?_;unfold evC evP;rw[hn e he];rfl
theorem Vc.empty (W:World):Vc W (.agg #[.slice none 0 0,.slice none 0 0,.slice none 0 0]) ([],[],[]):=
 ⟨none,0,0,none,0,0,none,0,0,[],[],rfl,⟨rfl,Nat.le_refl _,Nat.zero_le _,.inl rfl⟩,⟨rfl,Nat.le_refl _,Nat.zero_le _,.inl rfl⟩,ZW.nil _ _,fun e he=>by simp at he,rfl,rfl⟩
theorem Zap {l:List Z8}{day:Int}{w w':World}{e:Ending}(h:Z7R l day w e w')(hp:l.Pairwise (fun x y=>JH (Zk x) (Zk y)=true)):
  ∃v,e = .returned (.tuple #[v,.int .i64 0])/\Vc w' v ((Z0H day l).hs,(Z0H day l).es,csN day l):=by
 obtain⟨v,R,rfl,⟨ha,hc,ea,ec,ca,cc,rfl,o1,o2,o3,o4⟩,q1,q2,q3,q4⟩:=Z5B h hp;refine⟨_,rfl,ha,_,hc,ea,_,ec,ca,_,cc,R.hs,R.es,rfl,Ut.of_own o1,Ut.of_own o2,?_,fun e he=>ZW.of_own (o4 e he),Z0z q1 (fun e he=>q4 e (List.mem_append_left _ he)),Z0z q2 (fun e he=>q4 e (List.mem_append_right _ he))⟩;have:=ZW.of_own o3;rw[q3]at this ⊢;exact this
theorem Z7n (f:Yh)(a:zA)(n c:Nat)(l:List Z8)(w:World)(hr:UP w a n c l)(hok : ∀x∈l,x.Ok):
  Calls zq 34 #[f.val,.slice a n c] w fun e w' => ∃v,e = .returned (.tuple #[v,.int .i64 (Z6c f l)])/\Vc w' v (Z4K f l l 99999)/\Below w.heap.size w w':=by
 refine(Z7o f a n c l w hr hok).mono ?_;rintro e w' ⟨⟨h0,rfl⟩ | ⟨h0,h1⟩,hb⟩
 ·exact⟨_,by rw[Z6c,if_neg h0],by rw[Z4K,if_neg h0];exact Vc.empty w',hb⟩
 ·obtain⟨v,rfl,h2⟩:=Zap h1 (Z0b h0).2.2.2;exact⟨v,by rw[Z6c,if_pos h0],by rw[Z4K,if_pos h0];exact h2,hb⟩
theorem Jm {ops:Array Oper}{rest:List Oper}{op:Oper}{a:Act}{w:World}{Q:Exit->Act->World->Prop}(hgd:op.guard=none)(x:Operand)(ho:op.op = .buildSlice 24 1 #[(0,x)])(n:Z8)(sa:zA)(sc:Nat)(hx:a.eval x = .agg (Z5 n sa sc))
  (h:wpList zq ops Q rest (a.put op.dst (.slice (some ⟨w.heap.size,0,none⟩) 1 1)) (w.alloc (.cells (Z5 n sa sc) 47))):wpList zq ops Q (op :: rest) a w:=
 wpList_plain hgd fun _ hK=>Xd x ho n sa sc hx (hK _ _ h)
theorem Z8X {W:World}{a:zA}{n c:Nat}{xs:List LN}(h:UQ W a n c xs){x:LN}(hx:x∈xs):x.ok W:=by
 have h0:0 < n:=by have:=List.length_pos_of_mem hx;have:=h.1;omega
 obtain⟨b,off,rfl,hat⟩:=h.at h0;obtain⟨i,hi⟩:=List.getElem?_of_mem hx;exact(hat i x hi).2
theorem Zdm {W:World}{a:zA}{n c:Nat}{xs:List LN}(h:UQ W a n c xs):ZW W 19 a n c (ZB xs):=by
 obtain⟨h1,h2,h3,h4⟩:=h;refine⟨by rw[Uc,h1],h2,h3,h4.imp id ?_⟩;rintro⟨b,off,rfl,hat⟩;refine⟨b,off,rfl,fun j v hv=>?_⟩;have hl:=(List.getElem?_eq_some_iff.1 hv).1;rw[Uc]at hl;obtain⟨x,hx⟩ : ∃x,xs[j / 19]? = some x:=⟨_,List.getElem?_eq_getElem (by omega)⟩;have h5:=Ug 19 (xs.map fun x=>x.n.cells x.sa x.sc) (by intro r hr;obtain⟨y,_,rfl⟩:=List.mem_map.1 hr;rfl) (j / 19) (x.n.cells x.sa x.sc) (by rw[List.getElem?_map,hx];rfl) (j % 19) (by omega);have h6:=(hat (j / 19) x hx).1 (j % 19) v (by rw[<-h5,show j / 19 * 19+j % 19=j by omega];exact hv);rwa [show off+j / 19 * 19+j % 19=off+j by omega]at h6
theorem ZbW {A1 A2 A3 A4 A5 A6 A7 A8 A9 A10 A11:Type}{P T:A1->A2->A3->A4->A5->A6->A7->A8->A9->A10->A11->Prop}{G:Prop}
  (h1:(∀x1 x2 x3 x4 x5 x6 x7 x8 x9 x10 x11,P x1 x2 x3 x4 x5 x6 x7 x8 x9 x10 x11->T x1 x2 x3 x4 x5 x6 x7 x8 x9 x10 x11)->G) (h2 : ∀x1 x2 x3 x4 x5 x6 x7 x8 x9 x10 x11,P x1 x2 x3 x4 x5 x6 x7 x8 x9 x10 x11->T x1 x2 x3 x4 x5 x6 x7 x8 x9 x10 x11):G:=h1 h2
theorem U5.mono {V V' W:World}{a:zA}{c n:Nat}{ys:List LN}(h:U5 V W a c n ys)(hb:Below V'.heap.size V' V):U5 V' W a c n ys:=
 ⟨hb.trans (h.bel.mono hb.size),Zu h.own hb.size,fun x hx=>Zu (h.str x hx) hb.size,h.len⟩
def GOk (G:Nm->Option LN)(w:World):Prop := ∀k x,G k=some x->x.ok w/\Um k/\x.n.strokes.length<=1000000000
theorem GOk.below {G:Nm->Option LN}{w w':World}(h:GOk G w)(hb:Below w.heap.size w w'):GOk G w':=fun k x hx=>⟨(h k x hx).1.below hb,(h k x hx).2⟩
def Zd9 (G:Nm->Option LN)(n:Nat)(w:World)(e:Ending)(W:World):Prop:=
 ∃(a:zA) (un c:Nat) (zs:List LN) (ks:List Nm),e = .returned (.slice a un c)/\U5 w W a c un zs/\zs.map LN.n=(ks.filterMap G).map LN.n/\Jd G ks/\ks.Pairwise (fun x y=>JH x y=true)/\(∀k∈ks,(G k).isSome=true)/\un<=n
theorem Z0e (b n:Nat)(G:Nm->Option LN)(w:World)(hm:Y4 LN.val w b n G)(hn:n<=1000)(hG:GOk G w):
  Calls zq 61 #[.map (some b)] w fun e w'=>Zd9 G n w e w'/\Below w.heap.size w w':=by
 have J2:(zq.info? 45).map (·.size)=some 2:=by kernel_rfl
 have M0:=zH hm;have HN:=zH hn;have HG0:=zH hG;clear hm hn hG;go_enter Tryz.func61,Tryz.ntmps61;go_wp2_with fail;refine(Z9W b w).mono ?_;rintro e w1 ⟨rfl,rfl⟩;have B1:=zH (zB w (.cells #[.map (some b)] 106));have P1:=zH (Z9 w (.cells #[.map (some b)] 106));have M1:=zH (M0.out.below B1.out);obtain⟨pB,hpB⟩:=zX (w.heap.size);rw[hpB.out]at P1;rw[hpB.out];generalize w.alloc (.cells #[.map (some b)] 106)=w1 at *;go_wp2_with fail;refine(Z4H pB b n G w1 P1.out M1.out HN.out).mono ?_;rintro e W5 ⟨⟨na,nc,ks,rfl,h1,h2,h3,h4,h5⟩,b5⟩;have RN:=zH (ZW.of_own h1);have HAL:=zH h2;have HSO:=zH h3;have HIN:=zH h4;have HKN:=zH h5;have B5:=zH (B1.out.trans (b5.mono B1.out.size));have M5:=zH (M1.out.below b5);have HX5:=zH (HG0.out.below B5.out);obtain⟨kn,hkn⟩:=zX (ks.length);rw[hkn.out]at RN HKN ⊢;clear b5 h1 h2 h3 h4 h5 P1 M1 B1;have H63:Hid ((kn:Int)<=9223372036854775807):=zH (by have:=HKN.out;have:=HN.out;omega);go_wp2_with fail;go_loopw [3,10] (fun ov iv wr=>∃(q:Nat) (oa:zA) (on oc:Nat) (zs:List LN),ov = .slice oa on oc/\iv = .int .i64 (q:Int)/\q<=kn/\Hid (U5 W5 wr oa oc on zs)/\Hid (zs.map LN.n=((ks.take q).filterMap G).map LN.n)/\on<=q) (fun _ iv _=>kn - (intOf iv).toNat)
 case atStart=>exact⟨0,none,0,0,[],rfl,rfl,Nat.zero_le _,zH (U5.start _),zH rfl,Nat.le_refl _⟩
 case round=>
  obtain⟨q,oa,on,oc,zs,rfl,rfl,hq,MA,HZ,hon⟩:=hrel;by_cases hlt:q < kn
  ·have t0:decide ((q:Int) < (kn:Int))=true:=by simp;omega
   obtain⟨k,Hk⟩ : ∃k,ks[q]? = some k:=⟨_,List.getElem?_eq_getElem (by rw[hkn.out];exact hlt)⟩;obtain⟨y,hy⟩:=Option.isSome_iff_exists.1 (HIN.out k (List.mem_of_getElem? Hk));have GY:=zH hy;have HY:=zH (HX5.out k y hy);have HZ2:Hid (((ks.take (q+1)).filterMap G).map LN.n=zs.map LN.n ++ [y.n]):=zH (by
    rw[JD Hk,List.filterMap_append,List.map_append,<-HZ.out,List.filterMap_cons_some hy];rfl)
   obtain⟨kb,koff,rfl,hk1,hk2⟩:=Z3V (RN.out.below MA.out.bel) Hk;obtain⟨o,ho⟩:=zX (koff+q * 2);rw[ho.out]at hk1 hk2;have hix:=fun W=>YR (W:=W) (c:=nc) (b:=kb) Tryz.underlying75 J2 hlt ho.out;have HK64:Hid ((q:Int)+1<=9223372036854775807):=zH (by have:=HKN.out;have:=HN.out;omega);obtain⟨kh,km⟩:=k;dsimp only at hk1 hk2;clear Hk hy;go_upto_region 5 with fail;clear t0 hix hk1 hk2;have bt:Below wr.heap.size wr (wr.alloc (.cells #[.int .i64 kh,.int .i64 km] 45)):=zB _ _;have P7:=zH (Z9 wr (.cells #[.int .i64 kh,.int .i64 km] 45));have MA2:=zH (MA.out.below bt);obtain⟨p7,hp7⟩:=zX (wr.heap.size);rw[hp7.out]at P7 ⊢;generalize wr.alloc (.cells #[.int .i64 kh,.int .i64 km] 45)=wt at *;clear bt MA;have n0:=Z6 P7.out 0 (.int .i64 kh) rfl;have n1:=Z6 P7.out 1 (.int .i64 km) rfl;have hget:(Instr.lookup 106 (.map (some b)) (.agg #[.int .i64 kh,.int .i64 km]) false).run zq wt = .ok (.agg (Z5 y.n y.sa y.sc)) wt:=Z6K (t:=106) (M5.out.below MA2.out.bel) Tryz.underlying106 (Je wt) kh km HY.out.2.1 GY.out;go_wp2_with fail;refine(Z0n y.n y.sa y.sc wt (HY.out.1.below MA2.out.bel) HY.out.2.2).mono ?_;rintro e w5 ⟨ta,tc,rfl,hown,b5⟩;have MA5:=zH (MA2.out.below b5);have HO5:=zH (Zu hown MA2.out.bel.size);have bn:Below w5.heap.size w5 (w5.alloc (.cells (Z5 y.n ta tc) 47)):=zB _ _;obtain⟨a',c',v9,hrun,ho9,hg9⟩:=Q5 (w5.alloc (.cells (Z5 y.n ta tc) 47)) W5.heap.size oa on oc _ (Zd MA5.out.own bn) _ 1 1 _ (Qk w5 y.n ta tc) (y.n.cells_one _ _) (by have:=HKN.out;have:=HN.out;omega) (Nat.le_trans MA5.out.bel.size bn.size);have MA9:=zH (MA5.out.add (x:=⟨y.n,ta,tc⟩) HO5.out ho9 hg9);have HZ9:Hid ((zs ++ [(⟨y.n,ta,tc⟩:LN)]).map LN.n=((ks.take (q+1)).filterMap G).map LN.n):=zH (by rw[HZ2.out,List.map_append];rfl);clear hown b5 bn ho9 hg9 MA5 HO5 n0 n1 hget MA2;have hk64:=HK64.out;go_wp2_with (first
    |(refine Jm rfl _ rfl y.n ta tc rfl ?_)
    |(refine YG rfl _ _ _ rfl _ _ _ rfl rfl hrun ?_)
    | fail)
   go_roundw
   case rel=>exact⟨q+1,a',on+1,c',zs ++ [⟨y.n,ta,tc⟩],by go_num,by go_num,by omega,MA9,HZ9,by omega⟩
   case measure=>simp[intOf];omega
  ·have t0:decide ((q:Int) < (kn:Int))=false:=by simp;omega
   have UZ:Hid (zs.map LN.n=(ks.filterMap G).map LN.n):=zH (by rw[HZ.out,List.take_of_length_le (by rw[hkn.out];omega)]);have ON:Hid (on<=n):=zH (by have:=HKN.out;omega);go_wp2_with fail;go_returns;exact⟨⟨oa,on,oc,zs,ks,rfl,MA.out.mono B5.out,UZ.out,HAL.out,HSO.out,HIN.out,ON.out⟩,B5.out.trans (MA.out.bel.mono B5.out.size)⟩
structure Zf where
 f:Yh
 id:Int
 l:List Z8
 c:Int->Nat
 ad:List Z8
 sb:zU
 fb:zU
 sd:Nat
 fd:Nat
def Zf.new (f:Yh)(id:Int):Zf:=⟨f,id,[],fun _=>0,[],[],[],0,0⟩
def Zf.add (S:Zf)(n:Z8):Zf := { S with l:=YV S.l n,c:=QD S.c n.house,ad:=S.ad ++ [n],sb:=S.sb ++ Zw (Y7 n),fb:=S.fb ++ ZK (Y7 n) }
def Xy (f:Yh)(id:Int)(mb:Nat)(c:Int->Nat)(sp:Nat):ZV:=
 #[.int .i64 f.rings,.int .i64 f.sectors,.int .i64 f.wide,.int .i64 id,.map (some mb),.int .i64 (c 0:Int),.int .i64 (c 1:Int),.int .i64 (c 2:Int),.int .i64 (c 3:Int),.int .i64 (c 4:Int),.int .i64 (c 5:Int),.int .i64 (c 6:Int),.int .i64 (c 7:Int),.int .i64 (c 8:Int),.pointer (some ⟨sp,0,none⟩)]
theorem Z4e (f:Yh)(id:Int)(mb:Nat)(c:Int->Nat)(sp k:Nat)(hk:k<=8):(Xy f id mb c sp)[5+k]? = some (.int .i64 (c (k:Int):Int)):=by
 have:k=0\/k=1\/k=2\/k=3\/k=4\/k=5\/k=6\/k=7\/k=8:=by omega
 rcases this with rfl | rfl | rfl | rfl | rfl | rfl | rfl | rfl | rfl <;> rfl
theorem Zbv (f:Yh)(id:Int)(mb:Nat)(c:Int->Nat)(sp k:Nat)(hk:k<=8):(Xy f id mb c sp).setIfInBounds (5+k) (.int .i64 ((c (k:Int):Int)+1))=Xy f id mb (QD c (k:Int)) sp:=by
 have:k=0\/k=1\/k=2\/k=3\/k=4\/k=5\/k=6\/k=7\/k=8:=by omega
 rcases this with rfl | rfl | rfl | rfl | rfl | rfl | rfl | rfl | rfl <;> simp[Xy,QD]
structure Xe (S:Zf):Prop where
 v:S.f.valid=true
 id:1<=S.id/\S.id<=8
 srt:S.l.Pairwise ltN
 frm : ∀x∈S.l,Zg S.f x=true
 ok : ∀x∈S.l,x.Ok
 nms:XW S.l S.c
 len:S.ad.length=S.l.length
 sbl:S.sb.length<=2200 * S.ad.length
 fbl:S.fb.length=4 * S.ad.length
theorem Y6 {f:Yh}{x:Z8}(h:Zg f x=true):1<=x.house/\x.house<=8/\1<=x.num:=by
 simp only[Zg,Bool.and_eq_true,ZF,Yt]at h;omega
theorem Q7 {f:Yh}{x:Z8}(hv:f.valid=true)(h:Zg f x=true):(Y7 x).length<=2190:=by
 have h1:=Z7x x (J4 hv h);have h2:=Jx hv h;omega
theorem Xe.new {f:Yh}{id:Int}(hv:f.valid=true)(h:1<=id/\id<=8):Xe (Zf.new f id):=
 ⟨hv,h,List.Pairwise.nil,(fun x hx=>by cases hx),(fun x hx=>by cases hx),(fun a k=>by simp[Zf.new];omega),rfl,Nat.zero_le _,rfl⟩
theorem Xe.add {S:Zf}{n:Z8}(h:Xe S)(hf:Zg S.f n=true)(hok:n.Ok)(hk:n.num=(S.c n.house:Int)+1):Xe (S.add n) /\ ∀y∈S.l,Zk y≠Zk n:=by
 have hfree : ∀y∈S.l,Zk y≠Zk n:=fun y hy e=>by
  have h5:=h.nms.le hy;have h6:y.house=n.house/\y.num=n.num:=by simpa [Zk] using e
  rw[h6.1,h6.2]at h5;omega
 refine⟨⟨h.v,h.id,Uf h.srt hfree,fun x hx=>?_,fun x hx=>?_,(h.nms.add hk).perm fun x=>?_,?_,?_,?_⟩,hfree⟩
 ·rcases Ys.1 hx with hx | rfl
  ·exact h.frm x hx
  ·exact hf
 ·rcases Ys.1 hx with hx | rfl
  ·exact h.ok x hx
  ·exact hok
 ·rw[List.mem_append,List.mem_singleton];exact Ys
 ·show(S.ad ++ [n]).length=(YV S.l n).length;rw[YV,(Vy _ n S.l).length_eq,List.length_append,List.length_cons,h.len];rfl
 ·show(S.sb ++ Zw (Y7 n)).length<=2200 * (S.ad ++ [n]).length;have:=h.sbl;have:=Q7 h.v hf;rw[List.length_append,List.length_append,YS,List.length_singleton];omega
 ·show(S.fb ++ ZK (Y7 n)).length=4 * (S.ad ++ [n]).length;have:=h.fbl;rw[List.length_append,List.length_append,YN,List.length_singleton];omega
def Yd (p mb:Nat)(G:Nm->Option LN)(SF:Nat->Prop):Nat->Prop:=fun b=>b=p\/b=mb\/SF b \/ ∃k x,G k=some x/\Value.ownBlock (.slice x.sa x.n.strokes.length x.sc)=some b
structure Y8 (w:World)(p mb sp:Nat)(G:Nm->Option LN)(SF:Nat->Prop)(S:Zf):Prop where
 blk:w.heap[p]? = some (.cells (Xy S.f S.id mb S.c sp) 109)
 map:Y4 LN.val w mb S.l.length G
 gs : ∀k x,G k=some x->x.n∈S.l/\x.nm=k
 gl : ∀n∈S.l,∃x,G (Zk n)=some x/\x.n=n
 str : ∀k x,G k=some x->w.ownsRow 0 3 1 (.slice x.sa x.n.strokes.length x.sc) x.n.strokes.length (x.n.strokes.map Yq)
 stk:VU w sp SF S.sb S.fb S.sd S.fd
section
variable {w w':World}{p mb sp:Nat}{G:Nm->Option LN}{SF:Nat->Prop}{S:Zf}
theorem Y8.same {X:Nat->Prop}(h:Y8 w p mb sp G SF S)(hs:Za X w w')(hd : ∀k,X k -> ¬Yd p mb G SF k):Y8 w' p mb sp G SF S:=
 ⟨(hs.block p (Zj h.blk) (fun hX=>hd p hX (.inl rfl))).trans h.blk,h.map.of_block (hs.block mb h.map.lt (fun hX=>hd mb hX (.inr (.inl rfl)))),h.gs,h.gl,
  fun k x hk=>Ze (h.str k x hk) hs (fun b hb hX=>hd b hX (.inr (.inr (.inr ⟨k,x,hk,hb⟩)))),h.stk.same hs (fun k hX hF=>hd k hX (.inr (.inr (.inl hF))))⟩
theorem Y8.below (h:Y8 w p mb sp G SF S)(hb:Below w.heap.size w w'):Y8 w' p mb sp G SF S:=h.same (X:=fun _=>False) (Za.of_below hb) (fun _ h=>h.elim)
theorem Y8.gok (h:Y8 w p mb sp G SF S)(hi:Xe S):GOk G w:=fun k x hk=>by
 obtain⟨h1,h2⟩:=h.gs k x hk
 subst h2
 exact⟨ZW.of_own (h.str _ x hk),⟨(hi.ok _ h1).house,(hi.ok _ h1).num⟩,Nat.le_trans (Jx hi.v (hi.frm _ h1)) (by decide)⟩
theorem Y8.lt (h:Y8 w p mb sp G SF S): ∀k,Yd p mb G SF k->k < w.heap.size:=by
 rintro k (rfl | rfl | hk | ⟨a,x,h1,h2⟩)
 ·exact Zj h.blk
 ·exact h.map.lt
 ·exact h.stk.lt k hk
 ·exact((h.str a x h1).lt k h2).2
theorem Y8.list {ks:List Nm}(h:Y8 w p mb sp G SF S)(hi:Xe S)(ha:Jd G ks)(hs:ks.Pairwise (fun x y=>JH x y=true))(_hin : ∀k∈ks,(G k).isSome=true):(ks.filterMap G).map LN.n=S.l:=by
 refine UV ?_ hi.srt fun x=>?_
 ·rw[List.pairwise_map];clear ha _hin
  induction ks with
  | nil=>exact List.Pairwise.nil
  | cons k ks ih=>
   rw[List.pairwise_cons]at hs;cases hk:G k with
   | none=>rw[List.filterMap_cons_none hk];exact ih hs.2
   | some x=>
    rw[List.filterMap_cons_some hk];refine List.pairwise_cons.2 ⟨fun y hy=>?_,ih hs.2⟩;obtain⟨k',hk',h'⟩:=List.mem_filterMap.1 hy;unfold ltN;rw[show Zk x.n=k from(h.gs k x hk).2,show Zk y.n=k' from(h.gs k' y h').2];exact hs.1 k' hk'
 ·constructor
  ·intro hx;obtain⟨y,hy,rfl⟩:=List.mem_map.1 hx;obtain⟨k,_,hk⟩:=List.mem_filterMap.1 hy;exact(h.gs k y hk).1
  ·intro hx;obtain⟨y,hy,rfl⟩:=h.gl x hx;exact List.mem_map_of_mem (List.mem_filterMap.2 ⟨_,ha _ (by rw[hy];rfl),hy⟩)
end
theorem Z66 {W:World}{p k:Nat}(hk:k < 9):(Instr.indexAt 107 (.pointer (some ⟨p,5,none⟩)) (.int .i64 (k:Int))).run zq W = .ok (.pointer (some ⟨p,5+k,none⟩)) W:=by
 have hsz:(zq.info? 3).map (·.size)=some 1:=by kernel_rfl
 cases hq:zq.info? 3 with
 | none=>simp[hq]at hsz
 | some i=>
  simp only[hq,Option.map_some,Option.some.injEq]at hsz;simp[Instr.indexAt,run_underlying Tryz.underlying107,Instr.sureAddr,asIntOf,sizeOf,typeInfo,hq,hsz,Addr.add,hk]
theorem VM (w:World)(p mb sp:Nat)(f:Yh)(id:Int)(c:Int->Nat)(h:w.heap[p]? = some (.cells (Xy f id mb c sp) 109)):
  Calls zq 53 #[.pointer (some ⟨p,0,none⟩)] w fun e w'=>e = .returned (.bool true)/\w'=w:=by
 have c14:=Z6 h 14 (.pointer (some ⟨sp,0,none⟩)) rfl;go_enter Tryz.func53,Tryz.ntmps53;go_wp2;go_ret;exact⟨rfl,rfl⟩
theorem VU.kind {w:World}{p:Nat}{F:Nat->Prop}{sb fb:zU}{sd fd:Nat}(h:VU w p F sb fb sd fd): ∀b,F b -> ∃cur t,w.heap[b]? = some (.cells cur t (0,0))/\(t=168\/t=5):=by
 obtain⟨sa,sc,fa,fc,h1,h2,h3,h4,h5,_⟩:=h;intro b hb;rcases(h5 b).1 hb with rfl | hb | hb
 ·exact⟨_,_,h1,.inl rfl⟩
 ·rcases h2.2 with ⟨h6,_⟩ | ⟨g,cap,cur,h6,_,hg,_⟩
  ·rw[h6]at hb;cases hb
  ·rw[h6]at hb;simp only[Value.ownBlock,Option.some.injEq]at hb;subst hb;exact⟨_,_,hg,.inr rfl⟩
 ·rcases h3.2 with ⟨h6,_⟩ | ⟨g,cap,cur,h6,_,hg,_⟩
  ·rw[h6]at hb;cases hb
  ·rw[h6]at hb;simp only[Value.ownBlock,Option.some.injEq]at hb;subst hb;exact⟨_,_,hg,.inr rfl⟩
theorem Z6U {w:World}{base k n:Nat}{e:TypeId}{v:Value}{xs:List Value}(h:w.ownsRow base e k v n xs): ∀b,v.ownBlock=some b -> ∃cur,w.heap[b]? = some (.cells cur e (0,0)):=by
 intro b hb;rcases h.2 with ⟨h6,_⟩ | ⟨g,cap,cur,h6,_,hg,_⟩
 ·rw[h6]at hb;cases hb
 ·rw[h6]at hb;simp only[Value.ownBlock,Option.some.injEq]at hb;subst hb;exact⟨_,hg⟩
section
variable {w W:World}{p mb sp:Nat}{G:Nm->Option LN}{SF:Nat->Prop}{S:Zf}
structure ZeT (p mb:Nat)(G:Nm->Option LN)(SF:Nat->Prop):Prop where
 pm:p≠mb
 ps : ¬SF p
 ms : ¬SF mb
 st : ∀k x,G k=some x -> ∀b,Value.ownBlock (.slice x.sa x.n.strokes.length x.sc)=some b->b≠p/\b≠mb /\ ¬SF b
theorem Y8.dis (h:Y8 w p mb sp G SF S):ZeT p mb G SF:=by
 obtain⟨es,cl,hm⟩:=h.map.blk;refine⟨fun e=>?_,fun e=>?_,fun e=>?_,fun k x hk b hb=>?_⟩
 ·have h1:=h.blk;rw[e,hm]at h1;cases h1
 ·obtain⟨cur,t,h1,h2⟩:=h.stk.kind p e;rw[h.blk]at h1;simp only[Option.some.injEq,Obj.cells.injEq]at h1;rcases h2 with rfl | rfl
  ·exact absurd h1.2.1 (by decide)
  ·exact absurd h1.2.1 (by decide)
 ·obtain⟨cur,t,h1,_⟩:=h.stk.kind mb e;rw[hm]at h1;cases h1
 ·obtain⟨cur,h1⟩:=Z6U (h.str k x hk) b hb;refine⟨fun e=>?_,fun e=>?_,fun e=>?_⟩
  ·subst e;rw[h.blk]at h1;simp only[Option.some.injEq,Obj.cells.injEq]at h1;exact absurd h1.2.1 (by decide)
  ·subst e;rw[hm]at h1;cases h1
  ·obtain⟨cur2,t,h2,h3⟩:=h.stk.kind b e;rw[h1]at h2;simp only[Option.some.injEq,Obj.cells.injEq]at h2;rcases h3 with rfl | rfl
   ·exact absurd h2.2.1 (by decide)
   ·exact absurd h2.2.1 (by decide)
end
def ZdQ (w:World)(p mb sp:Nat)(G:Nm->Option LN)(SF:Nat->Prop)(S:Zf)(n:Z8)(W:World):Prop:=
 ∃ta tc SF',Y8 W p mb sp (Yv G (Zk n) ⟨n,ta,tc⟩) SF' (S.add n)/\Za (Yd p mb G SF) w W /\ ∀k,Yd p mb (Yv G (Zk n) ⟨n,ta,tc⟩) SF' k->Yd p mb G SF k\/w.heap.size<=k
section
attribute [local go_sem] ZS
theorem Z4g (p mb sp:Nat)(G:Nm->Option LN)(SF:Nat->Prop)(S:Zf)(n:Z8)(sa:zA)(sc:Nat)(w:World)(hh:Y8 w p mb sp G SF S)(hi:Xe S)(hs : ∀W,Za (Yd p mb G SF) w W->XU W sa n.strokes.length sc n.strokes)
  (hf:Zg S.f n=true) (hok:n.Ok) (hnum:n.num=(S.c n.house:Int)+1) (hlen:S.l.length<=400):
  Calls zq 60 #[.pointer (some ⟨p,0,none⟩),.agg (Z5 n sa sc)] w fun e w'=>e = .returned (.tuple #[])/\ZdQ w p mb sp G SF S n w':=by
 have HH:=zH hh;have HI:=zH hi;have HF:=zH hf;have HOK:=zH hok;have HNUM:=zH hnum;have HLEN:=zH hlen;have DIS:=zH hh.dis;have HST:=zH (show n.strokes.length<=200 from Jx hi.v hf);have NOK:Hid (Um (n.house,n.num)):=zH ⟨hok.house,hok.num⟩;have HFREE:=zH (hi.add hf hok hnum).2;have HINV:=zH (hi.add hf hok hnum).1;obtain⟨k,hk,hk8⟩ : ∃k:Nat,n.house=(k:Int)/\k<=8:=⟨n.house.toNat,by have:=Y6 hf;omega,by have:=Y6 hf;omega⟩;have HK:=zH hk;have HK8:=zH hk8;have CB:Hid ((S.c (k:Int):Int)+1<=9223372036854775807):=zH (by
  have h1:=hok.num;rw[<-hk,<-hnum];unfold Jl at h1;omega)
 have B0:=zH (zB w (.cells (Z5 n sa sc) 47));have N0:=zH (Z9 w (.cells (Z5 n sa sc) 47));have H0:=zH (hh.below B0.out);have RS:=zH ((hs w (Za.of_below (Below.refl _ _))).below B0.out);have RSL:=zH (show ∀W,Za (fun q=>q=p\/q=mb) w W->XU W sa n.strokes.length sc n.strokes from fun W hS=>hs W (hS.weaken (fun q h=>h.elim .inl (fun h=>.inr (.inl h)))));clear hh hi hs hf hok hnum hlen hk hk8;go_enter Tryz.func60,Tryz.ntmps60;go_upto_region 1 with fail;obtain⟨p3,hp3⟩:=zX (w.heap.size);have NE3:Hid (∀b,b < w.heap.size->b≠p3):=zH (by have:=hp3.out;omega);rw[hp3.out]at N0;rw[hp3.out];generalize w.alloc (.cells (Z5 n sa sc) 47)=w0 at *;refine zD (fun w'=>w'.heap[p3]? = some (.cells (Z5 n sa sc) 47)/\w'.heap[p]? = some (.cells (Xy S.f S.id mb S.c sp) 109)) (show w0.drew.heap[p3]? = _/\w0.drew.heap[p]? = _ from⟨N0.out,H0.out.blk⟩) fun hh=>?_;refine zw 0 rfl p 0 ?_;refine zw 1 rfl p 0 ?_;refine zw 2 rfl p 4 ?_;refine zS 3 rfl (.map (some mb)) (fun W h=>by have hc:=Z6 h.2 4 (.map (some mb)) rfl;go_simp) ?_;refine zT 4 rfl (.agg (Z5 n sa sc)) (zY p3 fun W h=>h.1) ?_;refine zT 6 rfl (.agg (Z5 n sa sc)) (zY p3 fun W h=>h.1) ?_;refine zR 5 rfl fun K hK=>?_;go_simp;go_at_call 58;refine(QU n sa sc _).mono ?_;rintro e v1 ⟨rfl,b1⟩;have B1:=zH (((zd w0)).trans b1);have N1:=zH (Z7 B1.out N0.out);have P1:=zH (Z7 B1.out H0.out.blk);clear b1;dsimp only;refine zK hK ⟨N1.out,P1.out⟩ fun hh=>?_;clear hK K;refine zR 7 rfl fun K hK=>?_;go_simp;go_at_call 71;refine(Z0n n sa sc v1 (RS.out.below B1.out) (Nat.le_trans HST.out (by decide))).mono ?_;rintro e v2 ⟨ta,tc,rfl,hown,b2⟩;have B2:=zH (B1.out.trans (b2.mono B1.out.size));have N2:=zH (Z7 b2 N1.out);have P2:=zH (Z7 b2 P1.out);have O2:=zH hown;have V1S:=zH B1.out.size;clear b2 hown N1 P1;dsimp only;refine zK hK ⟨N2.out,P2.out⟩ fun hh=>?_;clear hK K;refine zR 8 rfl fun K hK=>?_;obtain⟨v3,hrun,hm3,ht3⟩:=Qx (t:=106) (H0.out.map.below B2.out) (by have:=HLEN.out;unfold maxLen;omega) Tryz.underlying106 n.house n.num NOK.out (⟨n,ta,tc⟩:LN)
 have M3:=zH hm3;have G3:=zH ht3.grown;have N3:=zH (Zc ht3.grown N2.out (fun e=>absurd (Option.some.inj e) (NE3.out mb HH.out.map.lt).symm));have P3:=zH (Zc ht3.grown P2.out (fun e=>absurd (Option.some.inj e) DIS.out.pm));clear hm3 ht3;unfold LN.val at hrun;go_simp;refine zK hK ⟨N3.out,P3.out⟩ fun hh=>?_;clear hK K;refine zE ?_;have S3:Hid (Za (fun q=>q=mb) w v3):=zH (((Za.of_below B0.out).trans (Za.of_below B2.out)).trans (Za.of_grown G3.out (fun q e=>by cases e;rfl)));have O3:=zH (show v3.ownsRow w.heap.size 3 1 (.slice ta n.strokes.length tc) n.strokes.length (n.strokes.map Yq)from(Zu O2.out (Nat.le_trans B0.out.size V1S.out)).kept G3.out (.inr (by
  obtain⟨es,cl,hm⟩:=(H0.out.map.below B2.out).blk;exact(Zn O2.out hm (by intro cur;simp)).symm)))
 clear G3 N2 P2 O2 V1S B2 hrun;go_upto_region 2 with fail;refine zp N3.out fun hh=>?_;refine zw 0 rfl p 0 ?_;refine zw 1 rfl p3 0 ?_;refine zS 2 rfl (.int .i64 (k:Int)) (fun W h=>by have hc:W.cell? ⟨p3,0,none⟩=some (.int .i64 (k:Int)):=(by rw[<-HK.out];exact Z6 h 0 (.int .i64 n.house) rfl);go_simp) ?_;refine zw 3 rfl p 0 ?_;refine zw 4 rfl p 5 ?_;refine zS 5 rfl (.pointer (some ⟨p,5+k,none⟩)) (fun W h=>by have hc:=Z66 (W:=W) (p:=p) (k:=k) (by have:=HK8.out;omega);go_simp) ?_;refine zw 8 rfl p 0 ?_;refine zw 9 rfl p 5 ?_;refine zR 6 rfl fun K hK=>?_;have hc:=Z6 (show v3.drew.heap[p]? = _ from P3.out) (5+k) (.int .i64 (S.c (k:Int):Int)) (Z4e _ _ _ _ _ k HK8.out);go_simp;clear hc;refine zK hK N3.out fun hh=>?_;clear hK K;refine zS 7 rfl (.int .i64 ((S.c (k:Int):Int)+1)) (fun W h=>by have hcb:IntKind.i64.wrap ((S.c (k:Int):Int)+1)=(S.c (k:Int):Int)+1:=(by have h9:=CB.out;rw[IntKind.wrap_i64];omega);go_simp) ?_;refine zS 10 rfl (.pointer (some ⟨p,5+k,none⟩)) (fun W h=>by have hc:=Z66 (W:=W) (p:=p) (k:=k) (by have:=HK8.out;omega);go_simp) ?_;refine zR 11 rfl fun K hK=>?_;have hc:=Z6 (show v3.drew.heap[p]? = _ from P3.out) (5+k) (.int .i64 (S.c (k:Int):Int)) (Z4e _ _ _ _ _ k HK8.out);have hfz:=Zq (show v3.drew.heap[p]? = _ from P3.out) (5+k);have P4:Hid ((v3.drew.setCell ⟨p,5+k,none⟩ (.int .i64 ((S.c (k:Int):Int)+1))).heap[p]? = some (.cells (Xy S.f S.id mb (QD S.c (k:Int)) sp) 109 (0,0))):=zH (by
  have h1:=ZI (show v3.drew.heap[p]? = _ from P3.out) (5+k) (.int .i64 ((S.c (k:Int):Int)+1));rwa [Zbv _ _ _ _ _ k HK8.out]at h1)
 have G4:=zH (Zp v3.drew p (5+k) (.int .i64 ((S.c (k:Int):Int)+1)));have N4:=zH (Zc G4.out (show v3.drew.heap[p3]? = _ from N3.out) (fun e=>absurd (Option.some.inj e) (NE3.out p (Zj HH.out.blk)).symm));go_simp;refine zK hK N4.out fun hh=>?_;clear hK K;refine zE ?_;clear hc hfz;change Exit.then _ _ _ _ (v3.drew.setCell ⟨p,5+k,none⟩ (.int .i64 ((S.c (k:Int):Int)+1)));generalize v3.drew.setCell ⟨p,5+k,none⟩ (.int .i64 ((S.c (k:Int):Int)+1))=v4 at *;have S4:Hid (Za (fun q=>q=p\/q=mb) w v4):=zH (((S3.out.weaken (fun q h=>.inr h)).trans (Za.of_below ((zd v3)))).trans (Za.of_grown G4.out (fun q e=>by cases e;exact .inl rfl)));have M4:=zH (show Y4 LN.val v4 mb (S.l.length+1) (Yv G (n.house,n.num) ⟨n,ta,tc⟩)from(M3.out.below ((zd v3))).kept G4.out (fun e=>absurd (Option.some.inj e).symm DIS.out.pm));have O4:=zH (show v4.ownsRow w.heap.size 3 1 (.slice ta n.strokes.length tc) n.strokes.length (n.strokes.map Yq)from(Zd O3.out ((zd v3))).kept G4.out (.inr (Zn (Zd O3.out ((zd v3))) (show v3.drew.heap[p]? = _ from P3.out) (by intro cur;simp)).symm));have K4:=zH (show VU v4 sp SF S.sb S.fb S.sd S.fd from HH.out.stk.same S4.out (fun q hq hF=>by
  rcases hq with rfl | rfl
  ·exact DIS.out.ps hF
  ·exact DIS.out.ms hF))
 have RS4:=zH (show XU v4 sa n.strokes.length sc n.strokes from RSL.out v4 S4.out);clear G4 N3 P3 S3 M3 O3;go_upto_region 3 with fail;refine zD (fun w'=>w'.heap[p3]? = some (.cells (Z5 n sa sc) 47)/\w'.heap[p]? = some (.cells (Xy S.f S.id mb (QD S.c (k:Int)) sp) 109 (0,0))) (show v4.drew.heap[p3]? = _/\v4.drew.heap[p]? = _ from⟨N4.out,P4.out⟩) fun hh=>?_;refine zw 0 rfl p 0 ?_;refine zw 1 rfl p 0 ?_;refine zw 2 rfl p 14 ?_;refine zS 3 rfl (.pointer (some ⟨sp,0,none⟩)) (fun W h=>by have hc:=Z6 h.2 14 (.pointer (some ⟨sp,0,none⟩)) rfl;go_simp) ?_;refine zT 4 rfl (.agg (Z5 n sa sc)) (zY p3 fun W h=>h.1) ?_;refine zR 5 rfl fun K hK=>?_;go_simp;go_at_call 117;refine(QW n sa sc v4.drew (RS4.out.below ((zd v4))) (J4 HI.out.v HF.out) (Nat.le_trans HST.out (by decide))).mono ?_;rintro e v5 ⟨ba,bc,rfl,hb5,b5⟩;have B5:=zH (((zd v4)).trans b5);have R5:=zH (Yg.of_own hb5);have N5:=zH (Z7 B5.out N4.out);have P5:=zH (Z7 B5.out P4.out);clear hb5 b5;dsimp only;refine zK hK ⟨N5.out,P5.out⟩ fun hh=>?_;clear hK K;refine zR 6 rfl fun K hK=>?_;go_simp;go_at_call 109;have hel:=Q7 HI.out.v HF.out;refine(Z8U v5 sp SF S.sb S.fb S.sd S.fd ba (Y7 n).length bc (Y7 n) (K4.out.same (S:=fun _=>False) (Za.of_below B5.out) (fun _ h=>h.elim)) R5.out (by omega) (by have h1:=HI.out.sbl;have h2:=HI.out.len;have h3:=HLEN.out;omega) (by have h1:=HI.out.fbl;have h2:=HI.out.len;have h3:=HLEN.out;omega)).mono ?_;rintro e v6 ⟨rfl,SF',hk6,hs6,hf6⟩;have P6:=zH ((hs6.block p (Zj P5.out) DIS.out.ps).trans P5.out);have N6:=zH ((hs6.block p3 (Zj N5.out) (fun hF=>absurd rfl (NE3.out p3 (HH.out.stk.lt p3 hF)))).trans N5.out);have K6:=zH hk6;have S6:=zH hs6;have F6:=zH hf6;clear hk6 hs6 hf6 hel;dsimp only;refine zK hK ⟨N6.out,P6.out⟩ fun hh=>?_;clear hK K;refine zE ?_;go_wp2;go_end0;have S46:Hid (Za (fun q=>q=p\/q=mb\/SF q) w v6):=zH (((S4.out.weaken (fun q h=>h.elim .inl (fun h=>.inr (.inl h)))).trans (Za.of_below B5.out)).trans (S6.out.weaken (fun q h=>.inr (.inr h))));have O6:Hid (v6.ownsRow w.heap.size 3 1 (.slice ta n.strokes.length tc) n.strokes.length (n.strokes.map Yq)):=zH (Ze (Zd O4.out B5.out) S6.out (fun b hb hF=>absurd (HH.out.stk.lt b hF) (by have:=(O4.out.lt b hb).1;omega)))
 have M6:Hid (Y4 LN.val v6 mb (S.l.length+1) (Yv G (n.house,n.num) ⟨n,ta,tc⟩)):=zH ((M4.out.below B5.out).of_block (S6.out.block mb (Nat.lt_of_lt_of_le M4.out.lt B5.out.size) DIS.out.ms));refine⟨rfl,ta,tc,SF',⟨?_,?_,fun a x hx=>?_,fun y hy=>?_,fun a x hx=>?_,K6.out⟩,?_,?_⟩
 ·have:=P6.out;rwa [<-HK.out]at this
 ·have h1:=M6.out;show Y4 LN.val v6 mb (YV S.l n).length _;rwa [YV,(Vy _ n S.l).length_eq,List.length_cons]
 ·unfold Yv at hx;split at hx
  ·rename_i e;cases hx;exact⟨Ys.2 (.inr rfl),e.symm⟩
  ·obtain⟨h1,h2⟩:=HH.out.gs a x hx;exact⟨Ys.2 (.inl h1),h2⟩
 ·rcases Ys.1 hy with hy | rfl
  ·obtain⟨x,h1,h2⟩:=HH.out.gl y hy;refine⟨x,?_,h2⟩;unfold Yv;rw[if_neg (HFREE.out y hy)];exact h1
  ·exact⟨⟨y,ta,tc⟩,by unfold Yv;rw[if_pos rfl],rfl⟩
 ·unfold Yv at hx;split at hx
  ·cases hx;exact Zu O6.out (Nat.zero_le _)
  ·exact Ze (HH.out.str a x hx) S46.out (fun b hb hq=>by
    obtain⟨d1,d2,d3⟩:=DIS.out.st a x hx b hb;rcases hq with hq | hq | hq
    ·exact d1 hq
    ·exact d2 hq
    ·exact d3 hq)
 ·exact S46.out.weaken (fun q h=>by
   rcases h with h | h | h
   ·exact .inl h
   ·exact .inr (.inl h)
   ·exact .inr (.inr (.inl h)))
 ·rintro q (h | h | h | ⟨a,x,h,h2⟩)
  ·exact .inl (.inl h)
  ·exact .inl (.inr (.inl h))
  ·rcases F6.out q h with h3 | h3
   ·exact .inl (.inr (.inr (.inl h3)))
   ·exact .inr (Nat.le_trans S4.out.size (Nat.le_trans B5.out.size h3))
  ·unfold Yv at h;split at h
   ·cases h;exact .inr (O6.out.lt q h2).1
   ·exact .inl (.inr (.inr (.inr ⟨a,x,h,h2⟩)))
end
def QS (c:Int->Nat):List Z8->Prop
 | []=>True
 | n :: ns=>n.num=(c n.house:Int)+1/\QS (QD c n.house) ns
theorem UG {l:List Z8}: ∀(ns fr:List Z8) (c:Int->Nat) {fr':List Z8} {c':Int->Nat},XW (l ++ fr) c->(∀n∈ns,1<=n.num)->ZZ l fr c ns=some (fr',c') -> ∃t,fr'=fr ++ t/\QS c t /\ ∀x∈t,x∈ns
 | [],fr,c,fr',c',_,_,h=>by
  simp only[ZZ,Option.some.injEq,Prod.mk.injEq]at h
  exact⟨[],by rw[h.1,List.append_nil],trivial,fun x hx=>by cases hx⟩
 | n :: ns,fr,c,fr',c',h1,h3,h=>by
  rw[ZZ]at h
  have h3' : ∀m∈ns,1<=m.num:=fun m hm=>h3 m (List.mem_cons_of_mem _ hm)
  split at h
  ·split at h
   ·obtain⟨t,a1,a2,a3⟩:=UG ns fr c h1 h3' h
    exact⟨t,a1,a2,fun x hx=>List.mem_cons_of_mem _ (a3 x hx)⟩
   ·cases h
  ·rename_i hk
   split at h
   ·obtain⟨t,a1,a2,a3⟩:=UG ns fr c h1 h3' h
    exact⟨t,a1,a2,fun x hx=>List.mem_cons_of_mem _ (a3 x hx)⟩
   ·rename_i hle
    have hlt:=h1.free (h3 n (List.mem_cons_self ..)) (Xx hk)
    have hadd:=h1.add (n:=n) (by omega)
    rw[List.append_assoc]at hadd
    obtain⟨t,a1,a2,a3⟩:=UG ns (fr ++ [n]) (QD c n.house) hadd h3' h
    refine⟨n :: t,by rw[a1,List.append_assoc];rfl,⟨by omega,a2⟩,fun x hx=>?_⟩
    rcases List.mem_cons.1 hx with rfl | hx
    ·exact List.mem_cons_self ..
    ·exact List.mem_cons_of_mem _ (a3 x hx)
def Zf.adds (S:Zf)(fr:List Z8):Zf:=fr.foldl Zf.add S
theorem Zas (S:Zf)(fr:List Z8)(n:Z8):S.adds (fr ++ [n])=(S.adds fr).add n:=by simp[Zf.adds,List.foldl_append]
theorem Z1e: ∀(fr:List Z8) (S:Zf),(S.adds fr).f=S.f
 | [],_=>rfl
 | n :: fr,S=>Z1e fr (S.add n)
theorem Z0E: ∀(fr:List Z8) (S:Zf),(S.adds fr).id=S.id
 | [],_=>rfl
 | n :: fr,S=>Z0E fr (S.add n)
theorem Z0p: ∀(fr:List Z8) (S:Zf),(S.adds fr).l=Q8 S.l fr
 | [],_=>rfl
 | n :: fr,S=>Z0p fr (S.add n)
theorem Z7K (fr:List Z8)(S:Zf):(S.adds fr).l.length=S.l.length+fr.length:=by rw[Z0p,zy]
theorem Z0q: ∀(fr:List Z8) (S:Zf),Xe S->QS S.c fr->(∀x∈fr,Zg S.f x=true/\x.Ok)->Xe (S.adds fr)
 | [],_,h,_,_=>h
 | n :: fr,S,h,hs,hf=>Z0q fr (S.add n) (h.add (hf n (List.mem_cons_self ..)).1 (hf n (List.mem_cons_self ..)).2 hs.1).1 hs.2 (fun x hx=>hf x (List.mem_cons_of_mem _ hx))
theorem Z3z: ∀(fr:List Z8) (S:Zf) (q:Nat) (n:Z8),QS S.c fr->fr[q]? = some n->n.num=((S.adds (fr.take q)).c n.house:Int)+1
 | [],_,q,n,_,h=>by simp at h
 | m :: fr,S,0,n,hs,h=>by
  simp at h
  subst h
  exact hs.1
 | m :: fr,S,q+1,n,hs,h=>by
  have:=Z3z fr (S.add m) q n hs.2 (by simpa using h)
  exact this
theorem Z14: ∀(fr:List Z8) (c:Int->Nat) (q:Nat),QS c fr->QS c (fr.take q)
 | [],_,q,_=>by simp[QS]
 | m :: fr,c,0,_=>trivial
 | m :: fr,c,q+1,h=>⟨h.1,Z14 fr _ q h.2⟩
def ZJ (S:Zf)(l:List Z8):Zf×Int×Int:=
 if l.any (fun n=>!decide (ZP S.f n=0))=true then (S,0,80)else match ZZ S.l [] S.c l with | none=>(S,0,81) | some (fr,_)=>(S.adds fr,(fr.length:Int),0)
theorem Z0y {S:Zf}{l:List Z8}(h:l.any (fun n=>!decide (ZP S.f n=0))=true):ZJ S l=(S,0,80):=by unfold ZJ;rw[if_pos h]
theorem zi {S:Zf}{l:List Z8}(h:l.any (fun n=>!decide (ZP S.f n=0))=false)(h2:ZZ S.l [] S.c l=none):ZJ S l=(S,0,81):=by unfold ZJ;rw[if_neg (by rw[h];decide),h2]
theorem UH {S:Zf}{l fr:List Z8}{c:Int->Nat}(h:l.any (fun n=>!decide (ZP S.f n=0))=false)(h2:ZZ S.l [] S.c l=some (fr,c)):ZJ S l=(S.adds fr,(fr.length:Int),0):=by unfold ZJ;rw[if_neg (by rw[h];decide),h2]
theorem zm {S:Zf}(hv:S.f.valid=true){l:List Z8}(h:l.any (fun n=>!decide (ZP S.f n=0))=false): ∀n∈l,Zg S.f n=true:=fun n hn=>by
 rw[List.any_eq_false]at h
 have h1:=h n hn
 simp only[Bool.not_eq_true',decide_eq_false_iff_not,Decidable.not_not]at h1
 unfold ZP at h1
 rw[if_pos hv]at h1
 by_cases h2:Zg S.f n=true
 ·exact h2
 ·rw[if_neg h2]at h1
  cases h1
theorem Z2p {S:Zf}{l:List Z8}(h:Xe S)(hok : ∀x∈l,x.Ok):Xe (ZJ S l).1/\(ZJ S l).1.l.length<=S.l.length+l.length:=by
 cases hb:l.any (fun n=>!decide (ZP S.f n=0))with
 | true=>rw[Z0y hb];exact⟨h,Nat.le_add_right _ _⟩
 | false=>
  have hf:=zm h.v hb;cases hg:ZZ S.l [] S.c l with
  | none=>rw[zi hb hg];exact⟨h,Nat.le_add_right _ _⟩
  | some r=>
   obtain⟨fr,c'⟩:=r;rw[UH hb hg];have hn:XW (S.l ++ []) S.c:=by rw[List.append_nil];exact h.nms
   obtain⟨t,e,hs,hm⟩:=UG l [] S.c hn (fun n hn=>(Y6 (hf n hn)).2.2) hg;rw[List.nil_append]at e;subst e;have hl:=(Z1A l [] S.c hn (by rw[List.append_nil];exact YH h.srt) (fun n hn=>(Y6 (hf n hn)).2.2) hg).2.2.2;exact⟨Z0q fr S h hs (fun x hx=>⟨hf x (hm x hx),hok x (hm x hx)⟩),by show(S.adds fr).l.length<=_;rw[Z7K];simp at hl;omega⟩
def Z8l (es:List Nm)(p:Nm->Bool):Int:=match es.findIdx? p with | some i=>(i:Int) | none => -1
theorem ZcI {es:List Nm}{p:Nm->Bool}{k:Nat}{x:Nm}(hx:es[k]? = some x)(hp:p x=true)(hb : ∀j y,j < k->es[j]? = some y->p y=false):Z8l es p=k:=by
 have:es.findIdx? p=some k:=by
  rw[List.findIdx?_eq_some_iff_getElem];obtain⟨h1,rfl⟩:=List.getElem?_eq_some_iff.1 hx;exact⟨h1,hp,fun j hj=>by rw[hb j _ hj (List.getElem?_eq_getElem (by omega))];decide⟩
 simp[Z8l,this]
theorem Za1 {es:List Nm}{p:Nm->Bool}(hb : ∀j y,j < es.length->es[j]? = some y->p y=false):Z8l es p = -1:=by
 have:es.findIdx? p=none:=by
  rw[List.findIdx?_eq_none_iff];intro x hx;obtain⟨j,h1,h2⟩:=List.getElem_of_mem hx;exact hb j x h1 (by rw[List.getElem?_eq_getElem h1,h2])
 simp[Z8l,this]
theorem Z8j (es:List Nm)(pred:Nm->Bool)(fn:Nat)(cv:Value)(hfn : ∀(args:ZV) (w:World),(callFunc fn args).run zq w = .ok (.enter fn args) w)
  (a:zA) (n c:Nat) (w:World) (hr:ZW w 2 a n c (ZC es))
  (hp : ∀e∈es,∀W,Below w.heap.size w W->Calls zq fn #[.agg #[.int .i64 e.1,.int .i64 e.2],cv] W fun r W'=>r = .returned (.bool (pred e))/\Below W.heap.size W W'):
  Calls zq 127 #[.slice a n c,.func (.func fn) #[] #[cv]] w fun e w'=>e = .returned (.int .i64 (Z8l es pred))/\Below w.heap.size w w':=by
 have I2:(zq.info? 45).map (·.size)=some 2:=by kernel_rfl
 have hn63:=hr.maxn;have HN:Hid (es.length=n):=zH (by have:=hr.len;rw[Xv]at this;omega);have RE:=zH (show ∀W,Below w.heap.size w W->ZW W 2 a n c (ZC es)from fun W h=>hr.below h);have HPD:=zH hp;clear hr hp;go_enter Tryz.func127,Tryz.ntmps127;go_wp2_with fail;go_loopw [5,8] (fun _ i wr=>∃k:Nat,i = .int .i64 k/\k<=n/\Hid (∀j y,j < k->es[j]? = some y->pred y=false)/\Hid (Below w.heap.size w wr)) (fun _ i _=>n - (intOf i).toNat)
 case atStart=>exact⟨0,rfl,Nat.zero_le _,zH (fun j y h=>by omega),zH (Below.refl _ _)⟩
 case round=>
  obtain⟨k,rfl,hk,HB,B1⟩:=hrel;by_cases hkn:k < n
  ·have t0:decide ((k:Int) < (n:Int))=true:=by simp;omega
   obtain⟨x,Hx⟩ : ∃x,es[k]? = some x:=⟨es[k]'(by rw[HN.out];exact hkn),List.getElem?_eq_getElem (by rw[HN.out];exact hkn)⟩;obtain⟨b,off,rfl,hk1,hk2⟩:=Z3V (RE.out _ B1.out) Hx;obtain⟨o,ho⟩:=zX (off+k * 2);rw[ho.out]at hk1 hk2;have hi:=fun W=>YR (W:=W) (c:=c) (b:=b) Tryz.underlying75 I2 hkn ho.out;have hk64:(k:Int)+1<=9223372036854775807:=by omega
   obtain⟨xh,xm⟩:=x;dsimp only at hk1 hk2;go_wp2_with fail;refine(HPD.out (xh,xm) (List.mem_of_getElem? Hx) _ B1.out).mono ?_;rintro e w2 ⟨rfl,b2⟩;have B2:=zH (B1.out.trans (b2.mono B1.out.size));clear b2 hi t0;cases hpx:pred (xh,xm)with
   | true=>
    go_wp2;go_ret;exact⟨by rw[ZcI Hx hpx HB.out];rfl,B2.out⟩
   | false=>
    have HPX:=zH hpx;clear hpx;go_wp2;go_roundw
    case rel=>exact⟨k+1,by simp,by omega,zH (fun j y hj hy=>by
     rcases Nat.lt_or_ge j k with h | h
     ·exact HB.out j y h hy
     ·have e:j=k:=by omega
      subst e;rw[Hx]at hy;cases hy;exact HPX.out),B2⟩
    case measure=>simp[intOf];omega
  ·have t0:decide ((k:Int) < (n:Int))=false:=by simp;omega
   go_wp2;go_ret;exact⟨by rw[Za1 (fun j y hj hy=>HB.out j y (by have:=HN.out;omega) hy)];rfl,B1.out⟩
theorem Zbr {es:List Nm}{p:Nm->Bool}: decide (0<=Z8l es p)=es.any p:=by
 unfold Z8l;cases h:es.findIdx? p with
 | none=>
  rw[List.findIdx?_eq_none_iff]at h;have h2:es.any p=false:=by
   rw[List.any_eq_false];intro x hx;rw[h x hx];decide
  rw[h2];rfl
 | some i=>
  obtain⟨h1,h2,_⟩:=List.findIdx?_eq_some_iff_getElem.1 h;have h3:es.any p=true:=List.any_eq_true.2 ⟨_,List.getElem_mem h1,h2⟩;rw[h3];simp
theorem Z4V (es:List Nm)(pred:Nm->Bool)(fn:Nat)(cv:Value)(hfn : ∀(args:ZV) (w:World),(callFunc fn args).run zq w = .ok (.enter fn args) w)
  (a:zA) (n c:Nat) (w:World) (hr:ZW w 2 a n c (ZC es))
  (hp : ∀e∈es,∀W,Below w.heap.size w W->Calls zq fn #[.agg #[.int .i64 e.1,.int .i64 e.2],cv] W fun r W'=>r = .returned (.bool (pred e))/\Below W.heap.size W W'):
  Calls zq 72 #[.slice a n c,.func (.func fn) #[] #[cv]] w fun e w'=>e = .returned (.bool (es.any pred))/\Below w.heap.size w w':=by
 have HX:=zH (Z8j es pred fn cv hfn a n c w hr hp);clear hr hp hfn;go_enter Tryz.func72,Tryz.ntmps72;go_wp2_with fail;refine HX.out.mono ?_;rintro e w1 ⟨rfl,b1⟩;have B1:=zH b1;clear b1;have hq := @Zbr es pred;go_wp2;go_ret;exact⟨by first | rfl|(rw[<-hq];rfl),B1.out⟩
theorem Y4.cloned {α:Type}{enc:α->Value}{w:World}{b n:Nat}{f:Nm->Option α}(h:Y4 enc w b n f): ∃es clock,w.heap[b]? = some (.map es clock)/\Y4 enc (w.alloc (.map es clock)) w.heap.size n f:=by
 obtain⟨D,⟨es,clock,hb,F,hs,hD⟩,hr⟩:=h;exact⟨es,clock,hb,D,⟨es,clock,heap_alloc_new w _,F,hs,hD⟩,hr⟩
theorem Un (b n:Nat)(G:Nm->Option LN)(w:World)(hm:Y4 LN.val w b n G):
  Calls zq 57 #[.map (some b)] w fun e w'=>e = .returned (.map (some w.heap.size))/\Y4 LN.val w' w.heap.size n G/\Below w.heap.size w w':=by
 obtain⟨es,clock,hb,hc⟩:=hm.cloned;have HC:=zH hc;clear hc hm;have hq:=fun w=>run_eql_map_nil_sl (P:=zq) w 106 _ _ (some b) Tryz.underlying106;have hx := @run_callFunc_extern zq 115 Tryz.f115 Extern.MapsClone.clone (by kernel_rfl) (by kernel_rfl) (by kernel_rfl) (by kernel_rfl) (by kernel_rfl);go_enter Tryz.func57,Tryz.ntmps57;go_wp2;rw[run_maps_clone_sl w 106 hb];simp only[Result.andThen];rw[Oper.upon_value];go_wp2;rw[run_typeAssert_map_sl _ 106 _ _ _ _ Tryz.underlying106];simp only[Result.andThen];rw[Oper.upon_value];go_wp2;go_ret;exact⟨rfl,HC.out,zB _ _⟩
def Z4b (es:List LN)(p:LN->Bool):Int:=match es.findIdx? p with | some i=>(i:Int) | none => -1
theorem ZcJ {es:List LN}{p:LN->Bool}{k:Nat}{x:LN}(hx:es[k]? = some x)(hp:p x=true)(hb : ∀j y,j < k->es[j]? = some y->p y=false):Z4b es p=k:=by
 have:es.findIdx? p=some k:=by
  rw[List.findIdx?_eq_some_iff_getElem];obtain⟨h1,rfl⟩:=List.getElem?_eq_some_iff.1 hx;exact⟨h1,hp,fun j hj=>by rw[hb j _ hj (List.getElem?_eq_getElem (by omega))];decide⟩
 simp[Z4b,this]
theorem Za2 {es:List LN}{p:LN->Bool}(hb : ∀j y,j < es.length->es[j]? = some y->p y=false):Z4b es p = -1:=by
 have:es.findIdx? p=none:=by
  rw[List.findIdx?_eq_none_iff];intro x hx;obtain⟨j,h1,h2⟩:=List.getElem_of_mem hx;exact hb j x h1 (by rw[List.getElem?_eq_getElem h1,h2])
 simp[Z4b,this]
theorem Z4a (es:List LN)(pred:LN->Bool)(fn:Nat)(cv:Value)(hfn : ∀(args:ZV) (w:World),(callFunc fn args).run zq w = .ok (.enter fn args) w)
  (a:zA) (n c:Nat) (w:World) (hr:UQ w a n c es)
  (hp : ∀e∈es,∀W,Below w.heap.size w W->Calls zq fn #[.agg (Z5 e.n e.sa e.sc),cv] W fun r W'=>r = .returned (.bool (pred e))/\Below W.heap.size W W'):
  Calls zq 112 #[.slice a n c,.func (.func fn) #[] #[cv]] w fun e w'=>e = .returned (.int .i64 (Z4b es pred))/\Below w.heap.size w w':=by
 have I19:(zq.info? 47).map (·.size)=some 19:=by kernel_rfl
 have hn63:n<=9223372036854775807:=by have h1:=hr.2.1;have h2:=hr.2.2.1;unfold maxLen at h2;omega
 have HN:=zH hr.1;have RE:=zH (show ∀W,Below w.heap.size w W->UQ W a n c es from fun W h=>hr.below h);have HPD:=zH hp;clear hr hp;go_enter Tryz.func112,Tryz.ntmps112;go_wp2_with fail;go_loopw [5,8] (fun _ i wr=>∃k:Nat,i = .int .i64 k/\k<=n/\Hid (∀j y,j < k->es[j]? = some y->pred y=false)/\Hid (Below w.heap.size w wr)) (fun _ i _=>n - (intOf i).toNat)
 case atStart=>exact⟨0,rfl,Nat.zero_le _,zH (fun j y h=>by omega),zH (Below.refl _ _)⟩
 case round=>
  obtain⟨k,rfl,hk,HB,B1⟩:=hrel;by_cases hkn:k < n
  ·have t0:decide ((k:Int) < (n:Int))=true:=by simp;omega
   obtain⟨b,off,rfl,hat⟩:=(RE.out _ B1.out).at (show 0 < n by omega);obtain⟨x,Hx⟩ : ∃x,es[k]? = some x:=⟨es[k]'(by rw[HN.out];exact hkn),List.getElem?_eq_getElem (by rw[HN.out];exact hkn)⟩;have HR:=zH (hat k x Hx).1;obtain⟨o,ho⟩:=zX (off+k * 19);rw[ho.out]at HR;have hi:=fun W=>YR (W:=W) (c:=c) (b:=b) Tryz.underlying24 I19 hkn ho.out;have hk64:(k:Int)+1<=9223372036854775807:=by omega
   clear hat;go_wp2_with (refine wpList_load_mid rfl 47 _ rfl b o rfl (x.n.cells x.sa x.sc) _ HR.out Tryz.underlying47 rfl (by exact I19) ?_);refine(HPD.out x (List.mem_of_getElem? Hx) _ B1.out).mono ?_;rintro e w2 ⟨rfl,b2⟩;have B2:=zH (B1.out.trans (b2.mono B1.out.size));clear b2 hi t0;cases hpx:pred x with
   | true=>
    go_wp2;go_ret;exact⟨by rw[ZcJ Hx hpx HB.out];rfl,B2.out⟩
   | false=>
    have HPX:=zH hpx;clear hpx;go_wp2;go_roundw
    case rel=>exact⟨k+1,by simp,by omega,zH (fun j y hj hy=>by
     rcases Nat.lt_or_ge j k with h | h
     ·exact HB.out j y h hy
     ·have e:j=k:=by omega
      subst e;rw[Hx]at hy;cases hy;exact HPX.out),B2⟩
    case measure=>simp[intOf];omega
  ·have t0:decide ((k:Int) < (n:Int))=false:=by simp;omega
   go_wp2;go_ret;exact⟨by rw[Za2 (fun j y hj hy=>HB.out j y (by have:=HN.out;omega) hy)];rfl,B1.out⟩
theorem Zbs {es:List LN}{p:LN->Bool}: decide (0<=Z4b es p)=es.any p:=by
 unfold Z4b;cases h:es.findIdx? p with
 | none=>
  rw[List.findIdx?_eq_none_iff]at h;have h2:es.any p=false:=by
   rw[List.any_eq_false];intro x hx;rw[h x hx];decide
  rw[h2];rfl
 | some i=>
  obtain⟨h1,h2,_⟩:=List.findIdx?_eq_some_iff_getElem.1 h;have h3:es.any p=true:=List.any_eq_true.2 ⟨_,List.getElem_mem h1,h2⟩;rw[h3];simp
theorem Z4W (es:List LN)(pred:LN->Bool)(fn:Nat)(cv:Value)(hfn : ∀(args:ZV) (w:World),(callFunc fn args).run zq w = .ok (.enter fn args) w)
  (a:zA) (n c:Nat) (w:World) (hr:UQ w a n c es)
  (hp : ∀e∈es,∀W,Below w.heap.size w W->Calls zq fn #[.agg (Z5 e.n e.sa e.sc),cv] W fun r W'=>r = .returned (.bool (pred e))/\Below W.heap.size W W'):
  Calls zq 54 #[.slice a n c,.func (.func fn) #[] #[cv]] w fun e w'=>e = .returned (.bool (es.any pred))/\Below w.heap.size w w':=by
 have HX:=zH (Z4a es pred fn cv hfn a n c w hr hp);clear hr hp hfn;go_enter Tryz.func54,Tryz.ntmps54;go_wp2_with fail;refine HX.out.mono ?_;rintro e w1 ⟨rfl,b1⟩;have B1:=zH b1;clear b1;have hq := @Zbs es pred;go_wp2;go_ret;exact⟨by first | rfl|(rw[<-hq];rfl),B1.out⟩
section
attribute [local go_sem] ZS X9 XZ QP XJ QO QN QM Vp Vn Qi Qh JS JR JQ XQ J9 J8 Jt
variable (f:Yh)(n:Z8)(sa:zA)(sc:Nat)(w:World)
theorem Z6B {f:Yh}{n:Z8}(h:ZP f n=0):Z2A n:=by
 unfold ZP at h;split at h
 ·rename_i hv;split at h
  ·rename_i hf;exact J4 hv hf
  ·simp at h
 ·simp at h
end
theorem Zbx (args:ZV)(w:World):(callFunc 55 args).run zq w = .ok (.enter 55 args) w:=by kernel_rfl
theorem Za6 (f:Yh)(id:Int)(mb sp p pB:Nat)(c:Int->Nat)(n:Z8)(sa:zA)(sc:Nat)(w:World)(hb:w.heap[pB]? = some (.cells #[.pointer (some ⟨p,0,none⟩)] 27))
  (hh:w.heap[p]? = some (.cells (Xy f id mb c sp) 109)) (hs:XU w sa n.strokes.length sc n.strokes):
  Calls zq 55 #[.agg (Z5 n sa sc),.pointer (some ⟨pB,0,none⟩)] w fun e w'=>e = .returned (.bool (!decide (ZP f n=0)))/\Below w.heap.size w w':=by
 have CN:=zH (fun W (hb:Below w.heap.size w W)=>Ur f n sa sc W (hs.below hb));have hvl:f.val = .agg #[.int .i64 f.rings,.int .i64 f.sectors,.int .i64 f.wide]:=rfl;rw[hvl]at CN;clear hvl;obtain⟨z,hz⟩:=zX (ZP f n);rw[hz.out]at CN ⊢;have QE:Hid ((z != 0) = !decide (z=0)):=zH (by by_cases h:z=0 <;> simp[h]);have B0:=zH (zB w (.cells (Z5 n sa sc) 47));have N0:=zH (Z9 w (.cells (Z5 n sa sc) 47));have PB0:=zH (Z7 B0.out hb);have PH0:=zH (Z7 B0.out hh);clear hb hh hs;go_enter Tryz.func55,Tryz.ntmps55;go_upto_region 1 with fail;obtain⟨p2,hp2⟩:=zX (w.heap.size);rw[hp2.out]at N0;rw[hp2.out];generalize w.alloc (.cells (Z5 n sa sc) 47)=wr at *;have hC0:Below wr.heap.size wr wr.drew:=(Below.refl _ _).drew;have LB:=zH (show ∀w0,Below wr.heap.size wr w0->w0.heap[pB]? = some (.cells #[.pointer (some ⟨p,0,none⟩)] 27)from fun w0 h=>Z7 h PB0.out);have LH:=zH (show ∀w0,Below wr.heap.size wr w0->w0.heap[p]? = some (.cells (Xy f id mb c sp) 109)from fun w0 h=>Z7 h PH0.out);have LN2:=zH (show ∀w0,Below wr.heap.size wr w0->w0.heap[p2]? = some (.cells (Z5 n sa sc) 47)from fun w0 h=>Z7 h N0.out);have BW:=zH (show ∀w0,Below wr.heap.size wr w0->Below w.heap.size w w0 from fun w0 h=>B0.out.trans (h.mono B0.out.size));try simp only[Act.put,lq3,lq4,lq5]
 refine zC (fun w':World=>Below wr.heap.size wr w') hC0 ?_;refine zQ (.pointer (some ⟨p,0,none⟩)) (fun w0 hC=>?_) ?_
 ·have c0:=Z6 (LB.out w0 hC) 0 (.pointer (some ⟨p,0,none⟩)) rfl;clear hC;go_simp
 refine zv p 0 ?_;refine zv p 0 ?_;refine zQ (.agg #[.int .i64 f.rings,.int .i64 f.sectors,.int .i64 f.wide]) (fun w0 hC=>?_) ?_
 ·have c0:=Z6 (LH.out w0 hC) 0 (.int .i64 f.rings) rfl;have c1:=Z6 (LH.out w0 hC) 1 (.int .i64 f.sectors) rfl;have c2:=Z6 (LH.out w0 hC) 2 (.int .i64 f.wide) rfl;clear hC;go_simp
 refine zQ (.agg (Z5 n sa sc)) (fun w0 hC=>Qe (.tmp 2) rfl p2 rfl n sa sc (LN2.out w0 hC)) ?_;refine zQ (.int .i64 z) (fun w0 hC=>?_) ?_
 ·go_simp;refine(CN.out w0 (BW.out w0 hC)).mono ?_;rintro e w1 ⟨rfl,b1⟩;exact⟨rfl,hC.trans (b1.mono hC.size)⟩
 refine zQ (.bool (!decide (z=0))) (fun w0 hC=>?_) ?_
 ·have qe:=QE.out;clear hC;go_simp
 go_big_quiet_step (fail);refine wpQuiet_nil ?_;intro w' hC;have B9:=zH (BW.out w' hC);clear hC;go_wp2;go_ret;exact⟨rfl,B9.out⟩
theorem ZbN {f:Yh}(hv:f.valid=true){x y:Z8}(hx:Zg f x=true)(hy:Zg f y=true)(h:Y7 x=Y7 y):x=y:=by
 have h1:=Uq hv x hx;rw[h,Uq hv y hy]at h1;simpa using h1.symm
theorem Z9x (f:Yh)(hv:f.valid=true)(x y:Z8)(sa:zA)(sc:Nat)(ta:zA)(tc:Nat)(w:World)(hx:XU w sa x.strokes.length sc x.strokes)(hy:XU w ta y.strokes.length tc y.strokes)(hfx:Zg f x=true)(hfy:Zg f y=true):
  Calls zq 59 #[.agg (Z5 x sa sc),.agg (Z5 y ta tc)] w fun e w'=>e = .returned (.bool (XI x y))/\Below w.heap.size w w':=by
 have EQ:Hid (∀b:Bool,(b=true↔Y7 x=Y7 y)->b=XI x y):=zH (fun b hb=>by
  rw[Bool.eq_iff_iff,hb,Z58];exact⟨ZbN hv hfx hfy,fun e=>by rw[e]⟩)
 have EX:=zH (fun W (hb:Below w.heap.size w W)=>QW x sa sc W (hx.below hb) (J4 hv hfx) (Nat.le_trans (Jx hv hfx) (by decide)));have EY:=zH (fun W (hb:Below w.heap.size w W)=>QW y ta tc W (hy.below hb) (J4 hv hfy) (Nat.le_trans (Jx hv hfy) (by decide)));have B0:=zH ((zB w (.cells (Z5 x sa sc) 47)).alloc (by simp) (.cells (Z5 y ta tc) 47));have X0:=zH (Zb _ (.cells (Z5 y ta tc) 47) _ _ (Z9 w (.cells (Z5 x sa sc) 47)));have Y0:=zH (Zv (w.alloc (.cells (Z5 x sa sc) 47)) (.cells (Z5 y ta tc) 47) (w.heap.size+1) (by simp));clear hx hy hfx hfy;go_enter Tryz.func59,Tryz.ntmps59;go_upto_region 1 with fail;obtain⟨p2,hp2⟩:=zX (w.heap.size);obtain⟨p3,hp3⟩:=zX (w.heap.size+1);rw[hp2.out]at X0;rw[hp3.out]at Y0;rw[hp3.out,hp2.out];generalize (w.alloc (.cells (Z5 x sa sc) 47)).alloc (.cells (Z5 y ta tc) 47)=wr at *;refine zD (fun w'=>w'.heap[p2]? = some (.cells (Z5 x sa sc) 47)/\w'.heap[p3]? = some (.cells (Z5 y ta tc) 47)) (show wr.drew.heap[p2]? = _/\wr.drew.heap[p3]? = _ from⟨X0.out,Y0.out⟩) fun hh=>?_;have XD:=zH (show wr.drew.heap[p2]? = _ from X0.out);have YD:=zH (show wr.drew.heap[p3]? = _ from Y0.out);have BD:=zH (show Below w.heap.size w wr.drew from B0.out.drew);generalize wr.drew=V at *;refine zT 0 rfl (.agg (Z5 x sa sc)) (zY p2 fun W h=>h.1) ?_;refine zT 2 rfl (.agg (Z5 y ta tc)) (zY p3 fun W h=>h.2) ?_;refine zR 1 rfl fun K hK=>?_;go_simp;go_at_call 117;refine(EX.out V BD.out).mono ?_;rintro e v1 ⟨xa,xc,rfl,ho,b1⟩;have B1:=zH (BD.out.trans (b1.mono BD.out.size));have X1:=zH (Z7 b1 XD.out);have Y1:=zH (Z7 b1 YD.out);have R1:=zH (Yg.of_own ho);clear b1 ho;dsimp only;refine zK hK ⟨X1.out,Y1.out⟩ fun hh=>?_;clear hK K;refine zR 3 rfl fun K hK=>?_;go_simp;go_at_call 117;refine(EY.out v1 B1.out).mono ?_;rintro e v2 ⟨ya,yc,rfl,ho,b2⟩;have B2:=zH (B1.out.trans (b2.mono B1.out.size));have X2:=zH (Z7 b2 X1.out);have Y2:=zH (Z7 b2 Y1.out);have R2:=zH (Yg.of_own ho);have R12:=zH (R1.out.below b2)
 clear b2 ho;dsimp only;refine zK hK ⟨X2.out,Y2.out⟩ fun hh=>?_;clear hK K;refine zR 4 rfl fun K hK=>?_;go_simp;go_at_call 116;refine(Z2r xa _ xc (Y7 x) ya _ yc (Y7 y) v2 R12.out R2.out).mono ?_;rintro e v3 ⟨b,rfl,hb,q3,rfl⟩;have HB:=zH hb;have B3:=zH (below_drewN B2.out q3);clear hb;dsimp only;refine zK hK ⟨X2.out,Y2.out⟩ fun hh=>?_;clear hK K;refine zW 5 rfl (.bool b) ?_;refine zE ?_;go_wp2;go_ret;exact⟨by rw[EQ.out b HB.out] <;> rfl,B3.out⟩
def Z3Z (x y:Int):Int:=if y > x then y else x
def Qw (l:List Z8)(c:Int):Prop:=1<=c/\(∀x∈l,x.clock+1<=c)/\(c=1 \/ ∃x∈l,c=x.clock+1)
theorem Qw.uniq {l:List Z8}{c d:Int}(h:Qw l c)(k:Qw l d):c=d:=by
 obtain⟨h1,h2,h3⟩:=h;obtain⟨k1,k2,k3⟩:=k;have hcd:c<=d:=by
  rcases h3 with rfl | ⟨x,hx,rfl⟩
  ·exact k1
  ·exact k2 x hx
 have hdc:d<=c:=by
  rcases k3 with rfl | ⟨x,hx,rfl⟩
  ·exact h1
  ·exact h2 x hx
 omega
theorem Qw.nil:Qw [] 1:=⟨Int.le_refl _,fun x h=>(by cases h),.inl rfl⟩
theorem Qw.snoc {l:List Z8}{c:Int}(h:Qw l c)(x:Z8):Qw (l ++ [x]) (Z3Z c (x.clock+1)):=by
 obtain⟨h1,h2,h3⟩:=h;unfold Z3Z;refine⟨by split <;> omega,fun y hy=>?_,?_⟩
 ·rcases List.mem_append.1 hy with hy | hy
  ·have:=h2 y hy;split <;> omega
  ·rw[List.mem_singleton.1 hy];split <;> omega
 ·split
  ·exact .inr ⟨x,by simp,rfl⟩
  ·rcases h3 with h3 | ⟨y,hy,h3⟩
   ·exact .inl h3
   ·exact .inr ⟨y,List.mem_append_left _ hy,h3⟩
theorem Qw.mem {l m:List Z8}{c:Int}(h:Qw l c)(hm : ∀x,x∈m↔x∈l):Qw m c:=
 ⟨h.1,fun x hx=>h.2.1 x ((hm x).1 hx),h.2.2.imp id (fun⟨x,hx,e⟩=>⟨x,(hm x).2 hx,e⟩)⟩
def Z6e:List Z8->Int:=fun l=>l.foldl (fun c x=>Z3Z c (x.clock+1)) 1
theorem Z95 (l:List Z8):Qw l (Z6e l):=by
 have h : ∀(l pre:List Z8) (c:Int),Qw pre c->Qw (pre ++ l) (l.foldl (fun c x=>Z3Z c (x.clock+1)) c):=by
  intro l
  induction l with
  | nil=>intro pre c h;simpa using h
  | cons x l ih=>
   intro pre c h;have h2:=ih (pre ++ [x]) _ (h.snoc x);rw[List.append_assoc]at h2;exact h2
 exact h l [] 1 Qw.nil
def QY (S:Zf)(n:Z8):Z8 := { n with house:=S.id,num:=(S.c S.id:Int)+1,clock:=Z6e S.l }
def VA (S:Zf)(n:Z8):Zf×Z8×Int:=
 if 400<=S.l.length\/1099511627776 < Z6e S.l then (S,Zh,2)
 else if ZP S.f (QY S n)≠0 then (S,Zh,80)
 else if (n.kind≠5/\n.kind≠6)/\Zk (QY S n)∈(Z4K S.f (YV S.l (QY S n)) (YV S.l (QY S n)) 99999).2.2 then (S,Zh,91)
 else (S.add (QY S n),QY S n,0)
theorem ZdE (args:ZV)(w:World):(callFunc 73 args).run zq w = .ok (.enter 73 args) w:=by kernel_rfl
theorem ZcU (pB:Nat)(n:Z8)(sa:zA)(sc:Nat)(x:Nm)(w:World)(hb:w.heap[pB]? = some (.cells (Z5 n sa sc) 47)):
  Calls zq 73 #[.agg #[.int .i64 x.1,.int .i64 x.2],.pointer (some ⟨pB,0,none⟩)] w fun e w'=>e = .returned (.bool (decide (x=Zk n)))/\Below w.heap.size w w':=by
 have NM:=zH (fun W=>QU n sa sc W);obtain⟨xh,xm⟩:=x;obtain⟨q,hq⟩:=zX (decide (((xh,xm):Nm)=Zk n));have HQ:Hid (((xh==n.house) && (xm==n.num))=q):=zH (by rw[<-hq.out];unfold Zk;rw[Bool.eq_iff_iff];simp);rw[hq.out];dsimp only;have B0:=zH (zB w (.cells #[.int .i64 xh,.int .i64 xm] 45));have X0:=zH (Z9 w (.cells #[.int .i64 xh,.int .i64 xm] 45));have N0:=zH (Z7 B0.out hb);clear hb hq;go_enter Tryz.func73,Tryz.ntmps73;go_upto_region 1 with fail;obtain⟨p2,hp2⟩:=zX (w.heap.size);rw[hp2.out]at X0;rw[hp2.out];generalize w.alloc (.cells #[.int .i64 xh,.int .i64 xm] 45)=wr at *;have hC0:Below wr.heap.size wr wr.drew:=(Below.refl _ _).drew;have LX:=zH (show ∀w0,Below wr.heap.size wr w0->w0.heap[p2]? = some (.cells #[.int .i64 xh,.int .i64 xm] 45)from fun w0 h=>Z7 h X0.out);have LN2:=zH (show ∀w0,Below wr.heap.size wr w0->w0.heap[pB]? = some (.cells (Z5 n sa sc) 47)from fun w0 h=>Z7 h N0.out);have BW:=zH (show ∀w0,Below wr.heap.size wr w0->Below w.heap.size w w0 from fun w0 h=>B0.out.trans (h.mono B0.out.size));try simp only[Act.put,lq3,lq4,lq5]
 refine zC (fun w':World=>Below wr.heap.size wr w') hC0 ?_;refine zQ (.agg #[.int .i64 xh,.int .i64 xm]) (fun w0 hC=>?_) ?_
 ·have c0:=Z6 (LX.out w0 hC) 0 (.int .i64 xh) rfl;have c1:=Z6 (LX.out w0 hC) 1 (.int .i64 xm) rfl;clear hC;go_simp
 refine zQ (.agg (Z5 n sa sc)) (fun w0 hC=>Qe (.tmp 1) rfl pB rfl n sa sc (LN2.out w0 hC)) ?_;refine zQ (.agg #[.int .i64 n.house,.int .i64 n.num]) (fun w0 hC=>?_) ?_
 ·go_simp;refine(NM.out w0).mono ?_;rintro e w1 ⟨rfl,b1⟩;exact⟨rfl,hC.trans (b1.mono hC.size)⟩
 refine zQ (.bool q) (fun w0 hC=>?_) ?_
 ·have hq:=HQ.out;clear hC;rw[<-hq];go_simp;try (cases h1:(xh==n.house) <;> cases h2:(xm==n.num) <;> simp_all)
 go_big_quiet_step (fail);refine wpQuiet_nil ?_;intro w' hC;have B9:=zH (BW.out w' hC);clear hC;go_wp2;go_ret;exact⟨rfl,B9.out⟩
theorem Z6M (w:World)(base:Nat)(sa:zA)(sn sc:Nat)(xs:List Value)(hown:w.ownsRow base 3 1 (.slice sa sn sc) sn xs)(xa:zA)(m xc:Nat)(ys:List Value)(hrd:ZW w 1 xa m xc ys)(h1 : ∀u∈ys,u.oneCell'=true)
  (hbytes:(sn+m) * 8<=140737488355328) (hbase:base<=w.heap.size):
  ∃a' c' w',(Builtin.append_ #[37,37] 37 #[.slice sa sn sc,.slice xa m xc]).run zq w = .ok (.slice a' (sn+m) c') w'/\w'.ownsRow base 3 1 (.slice a' (sn+m) c') (sn+m) (xs ++ ys)/\w.grownBy w' (Value.ownBlock (.slice sa sn sc)):=by
 obtain⟨i,hi,hz0,hz1,hz2⟩:=info_parts Z65;exact Yk w base 37 37 3 i _ 1 8 Tryz.underlying37 hi hz0 hz1 hz2 rfl (by decide) sa sn sc xs hown xa m xc ys hrd h1 (by unfold maxLen;omega) hbytes hbase
section
attribute [local go_sem] XQ
end
section
attribute [local go_sem] ZS X9
end
def Ql (l:List Z8)(h:Int):Nat:=l.countP (fun x=>decide (x.house=h))
section
attribute [local go_sem] XQ
end
theorem Z2E {P:Program}{ops:Array Oper}{S:World->Prop}{op:Oper}{a:Act}(hw:Region.wanted op (yielded ops a.tmps)=true)(ty:TypeId)(x:Operand)(ho:op.op = .load ty x)
  (b o:Nat) (hx:a.eval x = .pointer (some ⟨b,o,none⟩)) (cs:List Value) (d:TypeDesc) (hS : ∀w,S w->w.rangeAt b o cs)
  (hu:P.underlying ty=some d) (hd:d.isRow=true) (hi:(P.info? ty).map (·.size)=some cs.length):YieldsIf P ops S op (.agg cs.toArray) a:=
 .inl ⟨hw,fun w hw'=>by
  unfold execOp
  simp only[ho,hx,Instr.loadAt,Instr.sureAddr,Sem.run_bind,Sem.run_pure,Result.andThen_ok,run_loadVar_mid w b o ty cs d (hS w hw') hu hd hi]⟩
theorem Xj {F F1:Nat->Prop}{a b c:World}(h:Za F a b)(k:Za F1 b c)(hF : ∀k,F1 k->F k\/a.heap.size<=k):Za F a c:=
 ⟨k.os.trans h.os,k.tape.trans h.tape,k.output.trans h.output,Nat.le_trans h.size k.size,fun i hi hs=>(k.block i (Nat.lt_of_lt_of_le hi h.size) (fun h1=>by
  rcases hF i h1 with h2 | h2
  ·exact hs h2
  ·omega)).trans (h.block i hi hs)⟩
theorem Zbu {W:World}{p mb sp:Nat}{f:Yh}{id:Int}{c:Int->Nat}(h:W.heap[p]? = some (.cells (Xy f id mb c sp) 109)):W.rangeAt p 5 [.int .i64 (c 0:Int),.int .i64 (c 1:Int),.int .i64 (c 2:Int),.int .i64 (c 3:Int),.int .i64 (c 4:Int),.int .i64 (c 5:Int),.int .i64 (c 6:Int),.int .i64 (c 7:Int),.int .i64 (c 8:Int)]:=fun j v hv=>by
 have hj:j < 9:=(List.getElem?_eq_some_iff.1 hv).1
 have h1:=Z6 h (5+j) v ?_
 ·exact h1
 ·have:j=0\/j=1\/j=2\/j=3\/j=4\/j=5\/j=6\/j=7\/j=8:=by omega
  rcases this with rfl | rfl | rfl | rfl | rfl | rfl | rfl | rfl | rfl <;> simpa [Xy] using hv
def Z2v (c:Int->Nat):ZV := #[.int .i64 (c 0:Int),.int .i64 (c 1:Int),.int .i64 (c 2:Int),.int .i64 (c 3:Int),.int .i64 (c 4:Int),.int .i64 (c 5:Int),.int .i64 (c 6:Int),.int .i64 (c 7:Int),.int .i64 (c 8:Int)]
theorem Z94 (c:Int->Nat)(k:Nat)(hk:k<=8):(Z2v c)[k]? = some (.int .i64 (c (k:Int):Int)):=by
 have:k=0\/k=1\/k=2\/k=3\/k=4\/k=5\/k=6\/k=7\/k=8:=by omega
 rcases this with rfl | rfl | rfl | rfl | rfl | rfl | rfl | rfl | rfl <;> rfl
theorem Zc6 (c:Int->Nat)(k:Nat)(hk:k<=8):(Z2v c).setIfInBounds k (.int .i64 ((c (k:Int):Int)+1))=Z2v (QD c (k:Int)):=by
 have:k=0\/k=1\/k=2\/k=3\/k=4\/k=5\/k=6\/k=7\/k=8:=by omega
 rcases this with rfl | rfl | rfl | rfl | rfl | rfl | rfl | rfl | rfl <;> simp[Z2v,QD]
theorem Zc7 (c:Int->Nat):(Z2v c).all (·.oneCell')=true:=by simp[Z2v,Value.oneCell']
theorem Z7g {W:World}{p k:Nat}(hk:k < 9):(Instr.indexAt 107 (.pointer (some ⟨p,0,none⟩)) (.int .i64 (k:Int))).run zq W = .ok (.pointer (some ⟨p,k,none⟩)) W:=by
 have hsz:(zq.info? 3).map (·.size)=some 1:=by kernel_rfl
 cases hq:zq.info? 3 with
 | none=>simp[hq]at hsz
 | some i=>
  simp only[hq,Option.map_some,Option.some.injEq]at hsz;simp[Instr.indexAt,run_underlying Tryz.underlying107,Instr.sureAddr,asIntOf,sizeOf,typeInfo,hq,hsz,Addr.add,hk];try exact fun h=>h.symm
theorem ZeR {P T:Nat->Nat->World->Prop}{G:Prop}(h1:(∀a b W,P a b W->T a b W)->G)(h2 : ∀a b W,P a b W->T a b W):G:=h1 h2
structure Z0s (w W:World)(km pc:Nat)(S:Zf)(l:List Z8)(xs:List LN)(q:Nat)(GK:Nm->Option LN)(fr:List Z8)(c:Int->Nat)(fa:zA)(fc:Nat)(ys:List LN):Prop where
 bel:Below w.heap.size w W
 go:ZZ S.l [] S.c l=ZZ S.l fr c (l.drop q)
 nms:XW (S.l ++ fr) c
 nd:((S.l ++ fr).map Zk).Nodup
 map:Y4 LN.val W km (S.l.length+fr.length) GK
 gs : ∀k x,GK k=some x->x.n∈S.l ++ fr/\x.nm=k
 ok : ∀k x,GK k=some x -> ∀W',Below w.heap.size w W'->x.ok W'
 gl : ∀n∈S.l ++ fr,∃x,GK (Zk n)=some x/\x.n=n
 cnt:W.heap[pc]? = some (.cells (Z2v c) 107)
 own:W.ownsRow w.heap.size 47 19 (.slice fa fr.length fc) fr.length (ZB ys)
 eq:ys.map LN.n=fr
 mem : ∀y∈ys,y∈xs
 km_ge:w.heap.size<=km
 pc_ge:w.heap.size<=pc
 fl:fr.length<=q
section
variable {w W W':World}{km pc:Nat}{S:Zf}{l:List Z8}{xs:List LN}{q:Nat}{GK:Nm->Option LN}{fr:List Z8}{c:Int->Nat}{fa:zA}{fc:Nat}{ys:List LN}
theorem Z0s.below (h:Z0s w W km pc S l xs q GK fr c fa fc ys)(hb:Below W.heap.size W W'):Z0s w W' km pc S l xs q GK fr c fa fc ys:=
 ⟨h.bel.trans (hb.mono h.bel.size),h.go,h.nms,h.nd,h.map.below hb,h.gs,h.ok,h.gl,Z7 hb h.cnt,Zd h.own hb,h.eq,h.mem,h.km_ge,h.pc_ge,h.fl⟩
theorem Z0s.known (h:Z0s w W km pc S l xs q GK fr c fa fc ys){n:Z8}{x:LN}(hx:GK (Zk n)=some x):YQ (S.l ++ fr) n=some x.n:=by
 obtain⟨h1,h2⟩:=h.gs _ x hx;cases hk:YQ (S.l ++ fr) n with
 | none=>exact absurd h2 (Xx hk x.n h1)
 | some o=>
  obtain⟨h3,h4⟩:=Z1y hk;rw[Qz h.nd h3 h1 (h4.trans h2.symm)]
theorem Z0s.unknown (h:Z0s w W km pc S l xs q GK fr c fa fc ys){n:Z8}(hx:GK (Zk n)=none):YQ (S.l ++ fr) n=none:=
 zg fun y hy e=>by
  obtain⟨x,h1,_⟩:=h.gl y hy
  rw[e,hx]at h1
  cases h1
theorem Z0s.skip (h:Z0s w W km pc S l xs q GK fr c fa fc ys){n:Z8}(hn:l[q]? = some n)(hk:(∃o,YQ (S.l ++ fr) n=some o/\XI o n=true)\/(YQ (S.l ++ fr) n=none/\(c n.house:Int)+1 < n.num)):Z0s w W km pc S l xs (q+1) GK fr c fa fc ys:=by
 refine⟨h.bel,?_,h.nms,h.nd,h.map,h.gs,h.ok,h.gl,h.cnt,h.own,h.eq,h.mem,h.km_ge,h.pc_ge,Nat.le_succ_of_le h.fl⟩;rw[h.go,Z3n hn,ZZ];rcases hk with ⟨o,h1,h2⟩ | ⟨h1,h2⟩
 ·rw[h1];simp only;rw[if_pos h2]
 ·rw[h1];simp only;rw[if_pos h2]
theorem Z0s.fork (h:Z0s w W km pc S l xs q GK fr c fa fc ys){n o:Z8}(hn:l[q]? = some n)(h1:YQ (S.l ++ fr) n=some o)(h2:XI o n=false):ZZ S.l [] S.c l=none:=by
 rw[h.go,Z3n hn,ZZ,h1];simp only;rw[if_neg (by rw[h2];decide)]
theorem Z0s.add {x:LN}{a':zA}{c':Nat}(h:Z0s w W km pc S l xs q GK fr c fa fc ys)(hn:l[q]? = some x.n)(hx:x∈xs)(h1:YQ (S.l ++ fr) x.n=none)(h2 : ¬(c x.n.house:Int)+1 < x.n.num)(hnum:1<=x.n.num)(hok : ∀W',Below w.heap.size w W'->x.ok W')
  (hbel:Below w.heap.size w W') (hm:Y4 LN.val W' km (S.l.length+fr.length+1) (Yv GK (Zk x.n) x)) (hc:W'.heap[pc]? = some (.cells (Z2v (QD c x.n.house)) 107))
  (ho:W'.ownsRow w.heap.size 47 19 (.slice a' (fr.length+1) c') (fr.length+1) (ZB ys ++ x.n.cells x.sa x.sc)):Z0s w W' km pc S l xs (q+1) (Yv GK (Zk x.n) x) (fr ++ [x.n]) (QD c x.n.house) a' c' (ys ++ [x]):=by
 have hfree:=Xx h1;have hlt:=h.nms.free hnum hfree;refine⟨hbel,?_,?_,?_,?_,fun k y hy=>?_,fun k y hy=>?_,fun y hy=>?_,hc,?_,?_,fun y hy=>?_,h.km_ge,h.pc_ge,?_⟩
 ·rw[h.go,Z3n hn,ZZ,h1];simp only;rw[if_neg h2]
 ·rw[<-List.append_assoc];exact h.nms.add (by omega)
 ·rw[<-List.append_assoc,List.map_append];refine List.nodup_append.2 ⟨h.nd,by simp,fun a ha b hb e=>?_⟩;rw[List.map_singleton,List.mem_singleton]at hb;obtain⟨y,hy,rfl⟩:=List.mem_map.1 ha;exact hfree y hy (e.trans hb)
 ·rw[List.length_append,List.length_singleton,<-Nat.add_assoc];exact hm
 ·rw[<-List.append_assoc];unfold Yv at hy;split at hy
  ·rename_i e;cases hy;exact⟨List.mem_append_right _ (by simp),e.symm⟩
  ·obtain⟨h3,h4⟩:=h.gs k y hy;exact⟨List.mem_append_left _ h3,h4⟩
 ·unfold Yv at hy;split at hy
  ·cases hy;exact hok
  ·exact h.ok k y hy
 ·rw[<-List.append_assoc]at hy;rcases List.mem_append.1 hy with hy | hy
  ·obtain⟨z,h3,h4⟩:=h.gl y hy;refine⟨z,?_,h4⟩;unfold Yv;rw[if_neg (hfree y hy)];exact h3
  ·rw[List.mem_singleton.1 hy];exact⟨x,by unfold Yv;rw[if_pos rfl],rfl⟩
 ·rw[Vq,List.length_append,List.length_singleton];exact ho
 ·rw[List.map_append,h.eq];rfl
 ·rcases List.mem_append.1 hy with hy | hy
  ·exact h.mem y hy
  ·rw[List.mem_singleton.1 hy];exact hx
 ·rw[List.length_append,List.length_singleton];have:=h.fl;omega
end
def Zda (w:World)(p mb sp:Nat)(G:Nm->Option LN)(SF:Nat->Prop)(S:Zf)(l:List Z8)(e:Ending)(W:World):Prop:=
 e = .returned (.tuple #[.int .i64 (ZJ S l).2.1,.int .i64 (ZJ S l).2.2]) /\ ∃G' SF',Y8 W p mb sp G' SF' (ZJ S l).1/\Za (Yd p mb G SF) w W /\ ∀k,Yd p mb G' SF' k->Yd p mb G SF k\/w.heap.size<=k
theorem Z30 {x:Z8}: ∀{fr l:List Z8},x∈l->x∈Q8 l fr
 | [],l,h=>h
 | n :: fr,l,h=>Z30 (fr:=fr) (l:=YV l n) (Ys.2 (.inl h))
def Zcp (w:World)(p mb sp:Nat)(G:Nm->Option LN)(SF:Nat->Prop)(S:Zf)(l:List Z8)(e:Ending)(W:World):Prop:=
 e = .returned (.tuple #[.int .i64 (ZJ S l).2.1,.int .i64 (ZJ S l).2.2]) /\ ∃G' SF',Y8 W p mb sp G' SF' (ZJ S l).1/\Za (Yd p mb G SF) w W/\(∀k,Yd p mb G' SF' k->Yd p mb G SF k\/w.heap.size<=k) /\ ∀k x,G k=some x->G' k=some x
section
attribute [local go_sem] ZS X9
theorem Z4f (p mb sp:Nat)(G:Nm->Option LN)(SF:Nat->Prop)(S:Zf)(a:zA)(nn nc:Nat)(l:List Z8)(xs:List LN)(w:World)(hh:Y8 w p mb sp G SF S)(hi:Xe S)(hxs:xs.map LN.n=l)
  (hr : ∀W,Za (Yd p mb G SF) w W->UQ W a nn nc xs) (hok : ∀x∈l,x.Ok) (hlen:S.l.length+nn<=400):
  Calls zq 13 #[.pointer (some ⟨p,0,none⟩),.slice a nn nc] w fun e w'=>Zcp w p mb sp G SF S l e w':=by
 have J19:(zq.info? 47).map (·.size)=some 19:=by kernel_rfl
 have hmf : ∀(fn:Fn) (first cap:ZV) (w:World),(Instr.makeFunc fn first cap).run zq w = .ok (.func fn first cap) w:=fun _ _ _ _=>rfl;have HH:=zH hh;have HI:=zH hi;have HXS:=zH hxs;have HR:=zH hr;have RL:=zH (hr w (Za.of_below (Below.refl _ _)));have LNX:Hid (xs.length=nn):=zH (hr w (Za.of_below (Below.refl _ _))).1;have HLN:Hid (l.length=nn):=zH (by rw[<-hxs,List.length_map];exact(hr w (Za.of_below (Below.refl _ _))).1);have LOK:=zH (show ∀W,Below w.heap.size w W -> ∀x∈xs,x.ok W from fun W hb x hx=>(Z8X (hr w (Za.of_below (Below.refl _ _))) hx).below hb);have HOK:=zH hok;have HLEN:=zH hlen;have hn4:(nn:Int)<=9223372036854775807:=by omega
 have B0:=zH (zB w (.cells #[.pointer (some ⟨p,0,none⟩)] 27));have P0:=zH (Z9 w (.cells #[.pointer (some ⟨p,0,none⟩)] 27));have H0:=zH (hh.below B0.out);clear hh hi hxs hr hok hlen;go_enter Tryz.func13,Tryz.ntmps13;go_upto_region 1 with fail;obtain⟨pB,hpB⟩:=zX (w.heap.size);rw[hpB.out]at P0;rw[hpB.out];generalize w.alloc (.cells #[.pointer (some ⟨p,0,none⟩)] 27)=w0 at *;have cB:=Z6 P0.out 0 (.pointer (some ⟨p,0,none⟩)) rfl;go_wp2_with fail;refine(VM w0 p mb sp S.f S.id S.c H0.out.blk).mono ?_;rintro e w1 ⟨rfl,rfl⟩;go_wp2_with fail;refine(Z4W xs (fun x=>!decide (ZP S.f x.n=0)) 55 (.pointer (some ⟨pB,0,none⟩)) Zbx a nn nc w1 (RL.out.below B0.out) (fun x hx W hb=>Za6 S.f S.id mb sp p pB S.c x.n x.sa x.sc W (Z7 hb P0.out) (Z7 hb H0.out.blk) (LOK.out W (B0.out.trans (hb.mono B0.out.size)) x hx))).mono ?_;rintro e w2 ⟨rfl,b2⟩;have B2:=zH (B0.out.trans (b2.mono B0.out.size));have P2:=zH (Z7 b2 P0.out);have H2:=zH (HH.out.below B2.out);have ANY:Hid ((xs.any fun x=>!decide (ZP S.f x.n=0))=l.any (fun n=>!decide (ZP S.f n=0))):=zH (by rw[<-HXS.out,List.any_map];rfl);rw[ANY.out];clear b2 cB B0 P0 H0 hmf;have UNCH:=zH (show ∀W,Below w.heap.size w W -> ∃G' SF',Y8 W p mb sp G' SF' S/\Za (Yd p mb G SF) w W/\(∀k,Yd p mb G' SF' k->Yd p mb G SF k\/w.heap.size<=k) /\ ∀k x,G k=some x->G' k=some x from fun W hb=>⟨G,SF,HH.out.below hb,Za.of_below hb,fun k hk=>.inl hk,fun k x h=>h⟩);have RL2:=zH (RL.out.below B2.out);have LOK2:=zH (show ∀W,Below w2.heap.size w2 W -> ∀x∈xs,x.ok W from fun W hb=>LOK.out W (B2.out.trans (hb.mono B2.out.size)));have UNCH2:=zH (show ∀W,Below w2.heap.size w2 W -> ∃G' SF',Y8 W p mb sp G' SF' S/\Za (Yd p mb G SF) w W/\(∀k,Yd p mb G' SF' k->Yd p mb G SF k\/w.heap.size<=k) /\ ∀k x,G k=some x->G' k=some x from fun W hb=>UNCH.out W (B2.out.trans (hb.mono B2.out.size)));cases hbad:l.any (fun n=>!decide (ZP S.f n=0))
 case true=>
  have HE:=zH (Z0y hbad);clear hbad;go_wp2_with fail;go_returns;exact⟨by rw[HE.out] <;> rfl,by rw[HE.out];exact UNCH.out _ B2.out⟩
 have GOOD:=zH hbad;have FRM:=zH (zm HI.out.v hbad);clear hbad;go_upto_region 5 with fail;apply ZeR (P:=fun km pc W=>Hid (Below w2.heap.size w2 W/\Y4 LN.val W km S.l.length G/\W.heap[pc]? = some (.cells (Z2v S.c) 107)/\w2.heap.size<=km/\w2.heap.size<=pc))
 ·intro REST;refine zb fun hh=>?_;have HB0:=zH (show Below w2.heap.size w2 w2.drew from(Below.refl _ _).drew);generalize w2.drew=V0 at *;refine zS 0 rfl (.pointer (some ⟨p,0,none⟩)) (fun W h=>by have hc:=Z6 (Z7 h P2.out) 0 (.pointer (some ⟨p,0,none⟩)) rfl;go_simp) ?_;refine zw 1 rfl p 0 ?_;refine zw 2 rfl p 4 ?_;refine zS 3 rfl (.map (some mb)) (fun W h=>by have hc:=Z6 (Z7 h H2.out.blk) 4 (.map (some mb)) rfl;go_simp) ?_;refine zS 5 rfl (.pointer (some ⟨p,0,none⟩)) (fun W h=>by have hc:=Z6 (Z7 h P2.out) 0 (.pointer (some ⟨p,0,none⟩)) rfl;go_simp) ?_;refine zw 6 rfl p 0 ?_;refine zw 7 rfl p 5 ?_;refine zT 8 rfl (.agg (Z2v S.c)) (Z2E (by kernel_rfl) 107 _ rfl p 5 rfl [.int .i64 (S.c 0:Int),.int .i64 (S.c 1:Int),.int .i64 (S.c 2:Int),.int .i64 (S.c 3:Int),.int .i64 (S.c 4:Int),.int .i64 (S.c 5:Int),.int .i64 (S.c 6:Int),.int .i64 (S.c 7:Int),.int .i64 (S.c 8:Int)] _ (fun W h=>Zbu (Z7 h H2.out.blk)) Tryz.underlying107 rfl (by kernel_rfl)) ?_;refine zM [4,9] rfl (fun K hK=>?_) ?_
  focus
   go_simp;go_at_call 57;refine(Un mb S.l.length G V0 (H2.out.map.below HB0.out)).mono ?_;rintro e V1 ⟨rfl,hm,b1⟩;have KGE:Hid (w2.heap.size<=V0.heap.size):=zH HB0.out.size;obtain⟨km,hkm⟩:=zX (V0.heap.size);have HB1:=zH (HB0.out.trans (b1.mono HB0.out.size));clear b1;rw[hkm.out]at hm KGE;rw[hkm.out];have HM1:=zH hm;clear hm;dsimp only;refine zK hK HB1.out fun hh=>?_;clear hK K;refine zR 9 rfl fun K hK=>?_;have bz:Below V1.heap.size V1 (V1.alloc (.cells #[.int .i64 0,.int .i64 0,.int .i64 0,.int .i64 0,.int .i64 0,.int .i64 0,.int .i64 0,.int .i64 0,.int .i64 0] 107)):=zB _ _;have HB2:=zH (HB1.out.trans (bz.mono HB1.out.size));have HP2:=zH (Z9 V1 (.cells #[.int .i64 0,.int .i64 0,.int .i64 0,.int .i64 0,.int .i64 0,.int .i64 0,.int .i64 0,.int .i64 0,.int .i64 0] 107));have CGE:Hid (w2.heap.size<=V1.heap.size):=zH HB1.out.size;have HM2:=zH (HM1.out.below bz);clear bz;go_simp;obtain⟨pc,hpc⟩:=zX (V1.heap.size);rw[hpc.out]at HP2 CGE;rw[hpc.out];generalize V1.alloc (.cells #[.int .i64 0,.int .i64 0,.int .i64 0,.int .i64 0,.int .i64 0,.int .i64 0,.int .i64 0,.int .i64 0,.int .i64 0] 107)=V2 at *
  rotate_left
  focus
   refine zn fun K hK=>?_;have bz:Below V0.heap.size V0 (V0.alloc (.cells #[.int .i64 0,.int .i64 0,.int .i64 0,.int .i64 0,.int .i64 0,.int .i64 0,.int .i64 0,.int .i64 0,.int .i64 0] 107)):=zB _ _;have HB1:=zH (HB0.out.trans (bz.mono HB0.out.size));have HP1:=zH (Z9 V0 (.cells #[.int .i64 0,.int .i64 0,.int .i64 0,.int .i64 0,.int .i64 0,.int .i64 0,.int .i64 0,.int .i64 0,.int .i64 0] 107));have CGE:Hid (w2.heap.size<=V0.heap.size):=zH HB0.out.size;clear bz;go_simp;obtain⟨pc,hpc⟩:=zX (V0.heap.size);rw[hpc.out]at HP1 CGE;rw[hpc.out];generalize V0.alloc (.cells #[.int .i64 0,.int .i64 0,.int .i64 0,.int .i64 0,.int .i64 0,.int .i64 0,.int .i64 0,.int .i64 0,.int .i64 0] 107)=V1 at *;refine zK hK HB1.out fun hh=>?_;clear hK K;refine zR 4 rfl fun K hK=>?_;go_simp;go_at_call 57;refine(Un mb S.l.length G V1 (H2.out.map.below HB1.out)).mono ?_;rintro e V2 ⟨rfl,hm,b1⟩;have KGE:Hid (w2.heap.size<=V1.heap.size):=zH HB1.out.size;obtain⟨km,hkm⟩:=zX (V1.heap.size);have HB2:=zH (HB1.out.trans (b1.mono HB1.out.size));have HP2:=zH (Z7 b1 HP1.out);clear b1;rw[hkm.out]at hm KGE;rw[hkm.out];have HM2:=zH hm;clear hm;dsimp only
  all_goals
   refine zK hK HB2.out fun hh=>?_;clear hK K;refine zW 10 rfl (.map (some km)) ?_;refine zR 11 rfl fun K hK=>?_;rw[if_pos (by kernel_rfl)];refine ZT 107 _ _ rfl pc #[.int .i64 0,.int .i64 0,.int .i64 0,.int .i64 0,.int .i64 0,.int .i64 0,.int .i64 0,.int .i64 0,.int .i64 0] (Z2v S.c) 107 rfl rfl HP2.out (by kernel_rfl) rfl (Zc7 _) ?_;intro V3 h8 hg8 hs8;have KPC:Hid (km≠pc):=zH (fun e=>by
    obtain⟨es,cl,h9⟩:=HM2.out.blk;rw[e,HP2.out]at h9;cases h9)
   have HB3:=zH (HB2.out.grown hg8 HB2.out.size (fun q hq=>by cases hq;exact CGE.out));have HM3:=zH (HM2.out.kept hg8 (fun e=>absurd (Option.some.inj e) KPC.out));have HP3:=zH h8;clear h8 hg8 hs8;simp only[Act.put,lq0,lq1,lq2];refine zK hK HB3.out fun hh=>?_;clear hK K;refine zE ?_;exact REST km pc V3 (zH ⟨HB3.out,HM3.out,HP3.out,KGE.out,CGE.out⟩)
 intro km pc W5 QQ;have HS0:Hid (Z0s w2 W5 km pc S l xs 0 G [] S.c none 0 []):=zH ⟨QQ.out.1,by rw[List.drop_zero],by rw[List.append_nil];exact HI.out.nms,by rw[List.append_nil];exact YH HI.out.srt,QQ.out.2.1,by rw[List.append_nil];exact HH.out.gs,
  fun k x hx W' hb=>LN.ok.below (x:=x) (ZW.of_own (H2.out.str k x hx)) hb,by rw[List.append_nil];exact HH.out.gl,QQ.out.2.2.1,World.ownsRow_nil _ _ _ _,rfl,(fun y hy=>by cases hy),QQ.out.2.2.2.1,QQ.out.2.2.2.2,Nat.le_refl _⟩
 clear QQ;go_wp2_with fail;go_loopw [8,32] (fun fv iv wr=>∃(q:Nat) (GK:Nm->Option LN) (fr:List Z8) (c:Int->Nat) (fa:zA) (fc:Nat) (ys:List LN),fv = .slice fa fr.length fc/\iv = .int .i64 (q:Int)/\q<=nn/\Hid (Z0s w2 wr km pc S l xs q GK fr c fa fc ys)) (fun _ iv _=>nn - (intOf iv).toNat)
 case atStart=>exact⟨0,G,[],S.c,none,0,[],rfl,rfl,Nat.zero_le _,HS0⟩
 case round=>
  clear HS0;obtain⟨q,GK,fr,c,fa,fc,ys,rfl,rfl,hq,HS⟩:=hrel;by_cases hlt:q < nn
  ·have t0:decide ((q:Int) < (nn:Int))=true:=by simp;omega
   obtain⟨x,Hx⟩ : ∃x,xs[q]? = some x:=⟨_,List.getElem?_eq_getElem (by rw[LNX.out];exact hlt)⟩;have HLX:=zH (show l[q]? = some x.n by rw[<-HXS.out,List.getElem?_map,Hx];rfl);have XM:=zH (List.mem_of_getElem? Hx);have XF:=zH (FRM.out x.n (List.mem_of_getElem? HLX.out));have XO:=zH (HOK.out x.n (List.mem_of_getElem? HLX.out));have NOK:Hid (Um (x.n.house,x.n.num)):=zH ⟨XO.out.house,XO.out.num⟩;obtain⟨b,off,rfl,hat⟩:=(RL2.out.below HS.out.bel).at (by omega);obtain⟨o,ho⟩:=zX (off+q * 19);have HX:=zH (hat q x Hx).1;rw[ho.out]at HX;have hix:=fun W=>YR (W:=W) (c:=nc) (b:=b) Tryz.underlying24 J19 hlt ho.out;have HK64:Hid ((q:Int)+1<=9223372036854775807):=zH (by have:=HLEN.out;omega);clear hat Hx;go_upto_region 10 with (first
    |(refine wpList_load_mid rfl 47 _ rfl b o rfl (x.n.cells x.sa x.sc) _ HX.out Tryz.underlying47 rfl (Z13 x.n x.sa x.sc) ?_)
    |(refine zP wr wr.heap.size (Z5 x.n x.sa x.sc) ?_))
   clear hix t0;have bt:Below wr.heap.size wr (wr.alloc (.cells (Z5 x.n x.sa x.sc) 47)):=zB _ _;have HT:=zH (HS.out.below bt);have N10:=zH (Z9 wr (.cells (Z5 x.n x.sa x.sc) 47));have GE10:Hid (w2.heap.size<=wr.heap.size):=zH HS.out.bel.size;have KM10:Hid (km < wr.heap.size/\pc < wr.heap.size):=zH ⟨HS.out.map.lt,Zj HS.out.cnt⟩;obtain⟨p10,hp10⟩:=zX (wr.heap.size);rw[hp10.out]at N10 GE10 KM10;rw[hp10.out];generalize wr.alloc (.cells (Z5 x.n x.sa x.sc) 47)=wt at *;clear bt HS HX;go_wp2_with (first
    |(refine zL p10 N10.out ?_))
   refine(QU x.n x.sa x.sc wt).mono ?_;rintro e w6 ⟨rfl,b6⟩;have HT6:=zH (HT.out.below b6);have N6:=zH (Z7 b6 N10.out);clear b6 HT N10;cases hgk:GK (x.n.house,x.n.num)with
   | some y=>
    have hget:(Instr.lookup 106 (.map (some km)) (.agg #[.int .i64 x.n.house,.int .i64 x.n.num]) true).run zq w6 = .ok (.tuple #[.agg (Z5 y.n y.sa y.sc),.bool true]) w6:=by
     have:=Js (t:=106) HT6.out.map Tryz.underlying106 (Je w6) x.n.house x.n.num NOK.out;rw[hgk]at this;exact this
    have KB:=zH (HT6.out.known (n:=x.n) hgk);have YM:=zH (HT6.out.gs _ y hgk).1;have YK:=zH (HT6.out.ok _ y hgk);have YF:Hid (Zg S.f y.n=true):=zH (by
     rcases List.mem_append.1 YM.out with h | h
     ·exact HI.out.frm _ h
     ·rw[<-HT6.out.eq]at h;obtain⟨z,hz,hz2⟩:=List.mem_map.1 h;rw[<-hz2];exact FRM.out _ (by rw[<-HXS.out];exact List.mem_map_of_mem (HT6.out.mem z hz)))
    clear hgk;go_upto_region 14 with (first
     |(refine zP w6 w6.heap.size (Z5 y.n y.sa y.sc) ?_))
    have bt:Below w6.heap.size w6 (w6.alloc (.cells (Z5 y.n y.sa y.sc) 47)):=zB _ _;have HT7:=zH (HT6.out.below bt);have N7:=zH (Z7 bt N6.out);have M7:=zH (Z9 w6 (.cells (Z5 y.n y.sa y.sc) 47));obtain⟨p11,hp11⟩:=zX (w6.heap.size);rw[hp11.out]at M7;rw[hp11.out];generalize w6.alloc (.cells (Z5 y.n y.sa y.sc) 47)=w7 at *;clear bt hget HT6 N6;go_wp2_with (first
     |(refine zG p11 M7.out ?_)
     |(refine zG p10 N7.out ?_))
    refine(Z9x S.f HI.out.v y.n x.n y.sa y.sc x.sa x.sc w7 (YK.out w7 HT7.out.bel) (LOK2.out w7 HT7.out.bel x XM.out) YF.out XF.out).mono ?_;rintro e w8 ⟨rfl,b8⟩;have HT8:=zH (HT7.out.below b8);have N8:=zH (Z7 b8 N7.out);clear b8 HT7 N7 M7;cases hsame:XI y.n x.n
    case false=>
     have HG:=zH (HT8.out.fork HLX.out KB.out hsame);have HE:=zH (zi GOOD.out HG.out);clear hsame;go_wp2_with fail;go_returns;exact⟨by rw[HE.out] <;> rfl,by rw[HE.out];exact UNCH2.out _ HT8.out.bel⟩
    case true=>
     have HN:=zH (HT8.out.skip HLX.out (.inl ⟨_,KB.out,hsame⟩));clear hsame HT8;go_upto_region 16 with fail;have hC0:Below w8.heap.size w8 w8.drew:=(Below.refl _ _).drew;try simp only[Act.put,lq3,lq4,lq5]
     refine zC (fun w':World=>Below w8.heap.size w8 w') hC0 ?_
     iterate 2 go_big_quiet_step (fail)
     iterate 8 go_big_quiet_skip
     refine zV (.bool true) ?_;go_big_quiet_step (fail);refine wpQuiet_nil ?_;intro w' hC;have HN2:=zH (HN.out.below hC);clear hC HN;have hk64:=HK64.out;go_wp2;go_roundw
     case rel=>exact⟨q+1,GK,fr,c,fa,fc,ys,by go_num,by go_num,by omega,HN2⟩
     case measure=>simp[intOf];omega
   | none=>
    have hget:(Instr.lookup 106 (.map (some km)) (.agg #[.int .i64 x.n.house,.int .i64 x.n.num]) true).run zq w6 = .ok (.tuple #[.agg (Z5 Zh none 0),.bool false]) w6:=by
     have:=Js (t:=106) HT6.out.map Tryz.underlying106 (Je w6) x.n.house x.n.num NOK.out;rw[hgk]at this;exact this
    have KB:=zH (HT6.out.unknown (n:=x.n) hgk);clear hgk;go_upto_region 14 with (first
     |(refine zP w6 w6.heap.size (Z5 Zh none 0) ?_))
    have bt:Below w6.heap.size w6 (w6.alloc (.cells (Z5 Zh none 0) 47)):=zB _ _;have HT7:=zH (HT6.out.below bt);have N7:=zH (Z7 bt N6.out);generalize w6.alloc (.cells (Z5 Zh none 0) 47)=w7 at *;clear bt hget HT6 N6;obtain⟨k,hk,hk8⟩ : ∃k:Nat,x.n.house=(k:Int)/\k<=8:=⟨x.n.house.toNat,by have:=Y6 XF.out;omega,by have:=Y6 XF.out;omega⟩;have HK:=zH hk;have HK8:=zH hk8;have XP:=zH (show 1<=x.n.num from(Y6 XF.out).2.2);have CB:Hid ((c (k:Int):Int)+1<=9223372036854775807):=zH (by
     have hl:=HT7.out.nms.free XP.out (Xx KB.out);have h1:=XO.out.num;rw[hk]at hl;unfold Jl at h1;omega)
    have WR:Hid (IntKind.i64.wrap ((c (k:Int):Int)+1)=(c (k:Int):Int)+1):=zH (by have h9:=CB.out;rw[IntKind.wrap_i64];omega);clear hk hk8;go_upto_region 16 with fail;have hC0:Below w7.heap.size w7 w7.drew:=(Below.refl _ _).drew;have LN10:=zH (show ∀w0,Below w7.heap.size w7 w0->w0.heap[p10]? = some (.cells (Z5 x.n x.sa x.sc) 47)from fun w0 h=>Z7 h N7.out);have LC:=zH (show ∀w0,Below w7.heap.size w7 w0->w0.heap[pc]? = some (.cells (Z2v c) 107)from fun w0 h=>Z7 h HT7.out.cnt);try simp only[Act.put,lq3,lq4,lq5]
    refine zC (fun w':World=>Below w7.heap.size w7 w') hC0 ?_
    iterate 2 go_big_quiet_step (fail)
    refine zv p10 1 ?_;refine zQ (.int .i64 x.n.num) (fun w0 hC=>?_) ?_
    ·have c1:=Z6 (LN10.out w0 hC) 1 (.int .i64 x.n.num) rfl;clear hC;go_simp
    refine zv p10 0 ?_;refine zQ (.int .i64 (k:Int)) (fun w0 hC=>?_) ?_
    ·have c0:w0.cell? ⟨p10,0,none⟩=some (.int .i64 (k:Int)):=by rw[<-HK.out];exact Z6 (LN10.out w0 hC) 0 (.int .i64 x.n.house) rfl
     clear hC;go_simp
    refine zQ (.pointer (some ⟨pc,k,none⟩)) (fun w0 hC=>?_) ?_
    ·have c0:=Z7g (W:=w0) (p:=pc) (k:=k) (by have:=HK8.out;omega);clear hC;go_simp
    refine zQ (.int .i64 (c (k:Int):Int)) (fun w0 hC=>?_) ?_
    ·have c0:=Z6 (LC.out w0 hC) k (.int .i64 (c (k:Int):Int)) (Z94 c k HK8.out);clear hC;go_simp
    refine zQ (.int .i64 ((c (k:Int):Int)+1)) (fun w0 hC=>?_) ?_
    ·have c0:=WR.out;clear hC;go_simp
    refine zV (.bool (decide ((c (k:Int):Int)+1 < x.n.num))) ?_;refine zV (.bool (decide ((c (k:Int):Int)+1 < x.n.num))) ?_;go_big_quiet_step (fail);refine wpQuiet_nil ?_;intro w' hC;have H9:=zH (HT7.out.below hC);have N9:=zH (Z7 hC N7.out);clear hC LN10 LC HT7 N7;generalize w'=w9 at *;cases hgr:decide ((c (k:Int):Int)+1 < x.n.num)
    ·have LT:Hid (¬(c (k:Int):Int)+1 < x.n.num):=zH (of_decide_eq_false hgr);clear hgr;go_upto_region 11 with fail;refine zp N9.out fun hh=>?_;refine zW 0 rfl (.map (some km)) ?_;refine zT 1 rfl (.agg (Z5 x.n x.sa x.sc)) (zY p10 fun W h=>h) ?_;refine zT 3 rfl (.agg (Z5 x.n x.sa x.sc)) (zY p10 fun W h=>h) ?_;refine zR 2 rfl fun K hK=>?_;go_simp;go_at_call 58;refine(QU x.n x.sa x.sc _).mono ?_;rintro e v2 ⟨rfl,b2⟩;have bv:=((zd w9)).trans b2;have HV:=zH (H9.out.below bv);have NV:=zH (Z7 bv N9.out);clear b2 bv;dsimp only;refine zK hK NV.out fun hh=>?_;clear hK K;refine zR 4 rfl fun K hK=>?_;obtain⟨v3,hrun,hm3,ht3⟩:=Qx (t:=106) HV.out.map (by have h1:=HV.out.fl;have h2:=HLEN.out;unfold maxLen;omega) Tryz.underlying106 x.n.house x.n.num NOK.out x;have M3:=zH hm3;have NE1:Hid (pc≠km):=zH (fun e=>by
      obtain⟨es,cl,h9⟩:=HV.out.map.blk;rw[<-e,HV.out.cnt]at h9;cases h9)
     have N3:=zH (Zc ht3.grown NV.out (fun e=>absurd (Option.some.inj e) (by have:=KM10.out;omega)));have C3:=zH (Zc ht3.grown HV.out.cnt (fun e=>absurd (Option.some.inj e) NE1.out));have O3:=zH (HV.out.own.kept ht3.grown (.inr (by
      obtain⟨es,cl,h9⟩:=HV.out.map.blk;exact(Zn HV.out.own h9 (by intro cur;simp)).symm)))
     have B3:=zH (HV.out.bel.grown ht3.grown HV.out.bel.size (fun z hz=>by cases hz;exact HV.out.km_ge));clear hm3 ht3;unfold LN.val at hrun;go_simp;refine zK hK N3.out fun hh=>?_;clear hK K;refine zE ?_;clear hrun;have c0:v3.cell? ⟨p10,0,none⟩=some (.int .i64 (k:Int)):=by rw[<-HK.out];exact Z6 N3.out 0 (.int .i64 x.n.house) rfl
     have c1:=Z7g (W:=v3) (p:=pc) (k:=k) (by have:=HK8.out;omega);have c2:=Z6 C3.out k (.int .i64 (c (k:Int):Int)) (Z94 c k HK8.out);have c3:=Zq C3.out k;have c4:=WR.out;go_upto_region 13 with fail;have G4:=Zp v3 pc k (.int .i64 ((c (k:Int):Int)+1));have C4:=zH (ZI C3.out k (.int .i64 ((c (k:Int):Int)+1)));rw[Zc6 c k HK8.out]at C4;have N4:=zH (Zc G4 N3.out (fun e=>absurd (Option.some.inj e) (by have:=KM10.out;omega)));have M4:=zH (M3.out.kept G4 (fun e=>absurd (Option.some.inj e).symm NE1.out));have O4:=zH (O3.out.kept G4 (.inr (Zn O3.out C3.out (by intro cur;simp)).symm));have B4:=zH (B3.out.grown G4 B3.out.size (fun z hz=>by cases hz;exact HV.out.pc_ge));clear c0 c1 c2 c3 c4 G4;generalize v3.setCell ⟨pc,k,none⟩ (.int .i64 ((c (k:Int):Int)+1))=v4 at *;have bn:Below v4.heap.size v4 (v4.alloc (.cells (Z5 x.n x.sa x.sc) 47)):=zB _ _;have O5:=zH (Zd O4.out bn);obtain⟨a',c',v9,hrun,ho9,hg9⟩:=Q5 (v4.alloc (.cells (Z5 x.n x.sa x.sc) 47)) w2.heap.size fa fr.length fc _ O5.out _ 1 1 _ (Qk v4 x.n x.sa x.sc) (x.n.cells_one _ _) (by have h1:=HV.out.fl;have h2:=HLEN.out;omega) (Nat.le_trans B4.out.size bn.size);have M9:Y4 LN.val v9 km (S.l.length+fr.length+1) (Yv GK (Zk x.n) x):=(M4.out.below bn).kept hg9 (by
      obtain⟨es,cl,h9⟩:=(M4.out.below bn).blk;exact(Zn O5.out h9 (by intro cur;simp)))
     have C9:v9.heap[pc]? = some (.cells (Z2v (QD c x.n.house)) 107):=by
      have h9:=Zc hg9 (Z7 bn C4.out) (Zn O5.out (Z7 bn C4.out) (by intro cur;simp));rwa [<-HK.out]at h9
     have B9:=(B4.out.trans (bn.mono B4.out.size)).grown hg9 (Nat.le_trans B4.out.size bn.size) (fun z hz=>(O5.out.lt z hz).1);have HN:=zH (HV.out.add HLX.out XM.out KB.out (by rw[HK.out];exact LT.out) XP.out (fun W' hb=>LOK2.out W' hb x XM.out) B9 M9 C9 ho9);clear bn ho9 hg9 M9 C9 B9 O5 M4 C4 O4 B4 HV NV M3 C3 O3 B3;have FLE:Hid ((fr ++ [x.n]).length=fr.length+1):=zH (by rw[List.length_append];rfl);have hk64:=HK64.out;go_wp2_with (first
      |(refine zL p10 N4.out ?_)
      |(refine Jm rfl _ rfl x.n x.sa x.sc rfl ?_)
      |(refine YG rfl _ _ _ rfl _ _ _ rfl rfl hrun ?_)
      | fail)
     go_roundw
     case rel=>exact⟨q+1,Yv GK (Zk x.n) x,fr ++ [x.n],QD c x.n.house,a',c',ys ++ [x],by rw[FLE.out] <;> rfl,by go_num,by omega,HN⟩
     case measure=>simp[intOf];omega
    ·have HN:=zH (H9.out.skip HLX.out (.inr ⟨KB.out,by rw[HK.out];exact of_decide_eq_true hgr⟩));clear hgr H9;have hk64:=HK64.out;go_wp2;go_roundw
     case rel=>exact⟨q+1,GK,fr,c,fa,fc,ys,by go_num,by go_num,by omega,HN⟩
     case measure=>simp[intOf];omega
  ·have t0:decide ((q:Int) < (nn:Int))=false:=by simp;omega
   have HG:Hid (ZZ S.l [] S.c l=some (fr,c)):=zH (by
    rw[HS.out.go,List.drop_of_length_le (by rw[HLN.out];omega)];rfl)
   have HE:=zH (UH GOOD.out HG.out);have SQ:Hid (QS S.c fr /\ ∀y∈fr,y∈l):=zH (by
    obtain⟨t,h1,h2,h3⟩:=UG l [] S.c (by rw[List.append_nil];exact HI.out.nms) (fun n hn=>(Y6 (FRM.out n hn)).2.2) HG.out;rw[List.nil_append]at h1;subst h1;exact⟨h2,h3⟩)
   have FL:Hid (S.l.length+fr.length<=400):=zH (by have:=HS.out.fl;have:=HLEN.out;omega);have YL:Hid (ys.length=fr.length):=zH (by rw[<-HS.out.eq,List.length_map]);have MP:=zH HS.out.map;have RY:=zH (ZW.of_own HS.out.own);have RG:=zH HS.out.own;have BW:=zH HS.out.bel;have YE:=zH HS.out.eq;have YM:=zH HS.out.mem;have PW:=zH (show wr.heap[pB]? = some (.cells #[.pointer (some ⟨p,0,none⟩)] 27)from Z7 HS.out.bel P2.out);have CA:Hid (∀W,Za (Yd p mb G SF) wr W -> ∀y∈xs,y.ok W):=zH (fun W hS y hy=>Z8X (HR.out W ((Za.of_below (B2.out.trans (HS.out.bel.mono B2.out.size))).trans hS)) hy);have H5:=zH (HH.out.below (B2.out.trans (HS.out.bel.mono B2.out.size)));have BT:=zH (B2.out.trans (HS.out.bel.mono B2.out.size));clear HS t0;go_upto_region 18 with fail;go_wp2_with (first
    |(at_len;refine QG rfl _ 106 47 rfl Tryz.underlying106 km (S.l.length+fr.length) rfl MP.out ?_;intro kk hkk;have tkk:decide ((400:Int) < (kk:Int))=false:=(by have:=FL.out;simp;omega))
    | fail)
   clear tkk hkk;obtain⟨fn,hfn⟩:=zX (fr.length);rw[hfn.out]at RY RG YL FL ⊢;have F63:Hid ((fn:Int)<=9223372036854775807):=zH (by have:=FL.out;omega);generalize wr=V at *;go_loopw [83] (fun iv wr=>∃(j:Nat) (G':Nm->Option LN) (SF':Nat->Prop),iv = .int .i64 (j:Int)/\j<=fn/\Hid (Y8 wr p mb sp G' SF' (S.adds (fr.take j))/\Za (Yd p mb G SF) V wr/\(∀k,Yd p mb G' SF' k->Yd p mb G SF k\/V.heap.size<=k) /\ ∀k x,G k=some x->G' k=some x)) (fun iv _=>fn - (intOf iv).toNat)
   case atStart=>exact⟨0,G,SF,rfl,Nat.zero_le _,zH ⟨H5.out,Za.of_below (Below.refl _ _),fun k hk=>.inl hk,fun k x h=>h⟩⟩
   case round=>
    obtain⟨j,G',SF',rfl,hj,HJ⟩:=hrel;by_cases hjn:j < fn
    ·have t0:decide ((j:Int) < (fn:Int))=true:=by simp;omega
     obtain⟨y,Hy⟩ : ∃y,ys[j]? = some y:=⟨_,List.getElem?_eq_getElem (by rw[YL.out];exact hjn)⟩;have FY:=zH (show fr[j]? = some y.n by rw[<-YE.out,List.getElem?_map,Hy];rfl);have YX:=zH (YM.out y (List.mem_of_getElem? Hy));have RJ:=zH (ZW.of_own (Ze RG.out HJ.out.2.1 (fun b hb hF=>absurd (HH.out.lt b hF) (by have h1:=(RG.out.lt b hb).1;have h2:=B2.out.size;omega))));obtain⟨b,off,rfl,hat⟩:=Z75 RJ.out (by omega);obtain⟨o,ho⟩:=zX (off+j * 19);have HY:=zH (hat j y Hy);rw[ho.out]at HY;have hix:=fun W=>YR (W:=W) (c:=fc) (b:=b) Tryz.underlying24 J19 hjn ho.out;have HK64:Hid ((j:Int)+1<=9223372036854775807):=zH (by have:=F63.out;omega);have PJ:=zH ((HJ.out.2.1.block pB (Zj PW.out) (fun hF=>absurd (HH.out.lt pB hF) (by have:=hpB.out;omega))).trans PW.out);clear hat Hy;go_upto_region 23 with (first
      |(refine wpList_load_mid rfl 47 _ rfl b o rfl (y.n.cells y.sa y.sc) _ HY.out Tryz.underlying47 rfl (Z13 y.n y.sa y.sc) ?_)
      |(refine zP wr wr.heap.size (Z5 y.n y.sa y.sc) ?_))
     clear t0 hix;have bt:Below wr.heap.size wr (wr.alloc (.cells (Z5 y.n y.sa y.sc) 47)):=zB _ _;have N14:=zH (Z9 wr (.cells (Z5 y.n y.sa y.sc) 47));have HT:=zH (HJ.out.1.below bt);have ST:=zH (HJ.out.2.1.trans (Za.of_below bt));have FT:=zH HJ.out.2.2.1;have KG:=zH HJ.out.2.2.2;have PT:=zH (Z7 bt PJ.out);obtain⟨p14,hp14⟩:=zX (wr.heap.size);rw[hp14.out]at N14;rw[hp14.out];generalize wr.alloc (.cells (Z5 y.n y.sa y.sc) 47)=wt at *;clear bt HJ PJ HY RJ;have cB:=Z6 PT.out 0 (.pointer (some ⟨p,0,none⟩)) rfl;go_wp2_with (first
      |(refine zL p14 N14.out ?_))
     clear cB;have FT2:=zH (show ∀k,Yd p mb G' SF' k->Yd p mb G SF k\/V.heap.size<=k from FT.out);have FSUB:Hid (∀x∈fr.take j,Zg S.f x=true/\x.Ok):=zH (fun x hx=>by have h1:=SQ.out.2 x (List.mem_of_mem_take hx);exact⟨FRM.out x h1,HOK.out x h1⟩);have HIJ:=zH (Z0q (fr.take j) S HI.out (Z14 fr S.c j SQ.out.1) FSUB.out);have YF:=zH (show Zg (S.adds (fr.take j)).f y.n=true by rw[Z1e];exact FRM.out y.n (SQ.out.2 y.n (List.mem_of_getElem? FY.out)));have YO:=zH (HOK.out y.n (SQ.out.2 y.n (List.mem_of_getElem? FY.out)));refine(Z4g p mb sp G' SF' (S.adds (fr.take j)) y.n y.sa y.sc wt HT.out HIJ.out (fun W hS=>CA.out W (Xj ST.out hS FT2.out) y YX.out) YF.out YO.out (Z3z fr S j y.n SQ.out.1 FY.out) (by rw[Z7K,List.length_take];have:=FL.out;omega)).mono ?_;rintro e w8 ⟨rfl,ta,tc,SF2,hh8,hs8,hf8⟩;have HN:=zH (show Y8 w8 p mb sp (Yv G' (Zk y.n) ⟨y.n,ta,tc⟩) SF2 (S.adds (fr.take (j+1)))/\Za (Yd p mb G SF) V w8/\(∀k,Yd p mb (Yv G' (Zk y.n) ⟨y.n,ta,tc⟩) SF2 k->Yd p mb G SF k\/V.heap.size<=k) /\ ∀k x,G k=some x->Yv G' (Zk y.n) ⟨y.n,ta,tc⟩ k=some x from⟨by rw[JD FY.out,Zas];exact hh8,Xj ST.out hs8 FT2.out,fun k hk=>by
      rcases hf8 k hk with h1 | h1
      ·exact FT2.out k h1
      ·exact .inr (Nat.le_trans ST.out.size h1),fun k x hk=>by
      unfold Yv;by_cases e:k=Zk y.n
      ·have h1:=HH.out.gs k x hk;have h2:=HIJ.out.nms.le (show x.n∈(S.adds (fr.take j)).l by rw[Z0p];exact Z30 h1.1);have h3:=Z3z fr S j y.n SQ.out.1 FY.out;have h4:Zk x.n=Zk y.n:=h1.2.trans e;have h5:x.n.house=y.n.house/\x.n.num=y.n.num:=by simpa [Zk] using h4
       rw[h5.1]at h2;omega
      ·rw[if_neg e];exact KG.out k x hk⟩)
     clear hh8 hs8 hf8 HT ST FT FT2 PT N14;have hk64:=HK64.out;go_wp2;go_roundw
     case rel=>exact⟨j+1,Yv G' (Zk y.n) ⟨y.n,ta,tc⟩,SF2,by go_num,by omega,HN⟩
     case measure=>simp[intOf];omega
    ·have t0:decide ((j:Int) < (fn:Int))=false:=by simp;omega
     have HF:=zH (show Y8 wr p mb sp G' SF' (S.adds fr)by have h1:=HJ.out.1;rwa [List.take_of_length_le (by have:=hfn.out;omega)]at h1);go_wp2_with fail;go_returns;exact⟨by rw[HE.out,hfn.out] <;> rfl,by rw[HE.out];exact⟨G',SF',HF.out,(Za.of_below BT.out).trans HJ.out.2.1,fun k hk=>(HJ.out.2.2.1 k hk).imp id (fun h=>Nat.le_trans BT.out.size h),HJ.out.2.2.2⟩⟩
end
theorem Z5q (p mb sp:Nat)(G:Nm->Option LN)(SF:Nat->Prop)(S:Zf)(a:zA)(nn nc:Nat)(l:List Z8)(xs:List LN)(w:World)(hh:Y8 w p mb sp G SF S)(hi:Xe S)(hxs:xs.map LN.n=l)
  (hr : ∀W,Za (Yd p mb G SF) w W->UQ W a nn nc xs) (hok : ∀x∈l,x.Ok) (hlen:S.l.length+nn<=400):
  Calls zq 13 #[.pointer (some ⟨p,0,none⟩),.slice a nn nc] w fun e w'=>Zda w p mb sp G SF S l e w':=
 (Z4f p mb sp G SF S a nn nc l xs w hh hi hxs hr hok hlen).mono fun _ _ ⟨h1,G',SF',h2,h3,h4,_⟩=>⟨h1,G',SF',h2,h3,h4⟩
def Z8M (lo hi:Nat)(W:World)(a:zA)(n c:Nat)(zs:List LN):Prop:=hi<=W.heap.size /\ ∀W2,Za (fun k=>k < lo\/hi<=k) W W2->UQ W2 a n c zs
theorem Z8M.rd {lo hi:Nat}{W:World}{a:zA}{n c:Nat}{zs:List LN}(h:Z8M lo hi W a n c zs):UQ W a n c zs:=h.2 W (Za.refl _ _)
theorem Z1r {W:World}{a:zA}{n c:Nat}{xs:List LN}(h:ZW W 19 a n c (ZB xs))(hs : ∀x∈xs,x.ok W):UQ W a n c xs:=by
 have hl:xs.length=n:=by have:=h.len;rw[Uc]at this;omega
 refine⟨hl,h.2.1,h.2.2.1,?_⟩;rcases h.2.2.2 with h0 | ⟨b,off,rfl,h4⟩
 ·exact .inl h0
 ·refine .inr ⟨b,off,rfl,fun i x hx=>?_⟩;have hi:=(List.getElem?_eq_some_iff.1 hx).1;obtain⟨b',off',e,hat⟩:=Z75 h (by omega);cases e;exact⟨hat i x hx,hs x (List.mem_of_getElem? hx)⟩
theorem U5.kept {V W:World}{a:zA}{c n:Nat}{ys:List LN}(h:U5 V W a c n ys):Z8M V.heap.size W.heap.size W a n c ys:=
 ⟨Nat.le_refl _,fun W2 hs=>Z1r (ZW.of_own (Ze h.own hs (fun b hb hx=>by have:=h.own.lt b hb;omega)))
  (fun y hy=>ZW.of_own (Ze (h.str y hy) hs (fun b hb hx=>by have:=(h.str y hy).lt b hb;omega)))⟩
def SlB (w:World)(v:Value)(l:zU):Prop := ∃a c,v = .slice a l.length c/\w.ownsRow 0 5 1 (.slice a l.length c) l.length (l.map Zs)
structure ZeG (w:World)(p:Nat)(G:Nat->Prop)(v0 v1 v2 v3:Value)(SD SP FD FP:zU):Prop where
 blk:w.heap[p]? = some (.cells #[v0,v1,v2,v3] 136)
 s0:SlB w v0 SD
 s1:SlB w v1 SP
 s2:SlB w v2 FD
 s3:SlB w v3 FP
 g : ∀k,G k↔(k=p\/v0.ownBlock=some k\/v1.ownBlock=some k\/v2.ownBlock=some k\/v3.ownBlock=some k)
def foot (p:Nat)(v0 v1 v2 v3:Value)(k:Nat):Prop:=k=p\/v0.ownBlock=some k\/v1.ownBlock=some k\/v2.ownBlock=some k\/v3.ownBlock=some k
section
variable {w:World}{p:Nat}{G:Nat->Prop}{v0 v1 v2 v3:Value}{SD SP FD FP:zU}(h:ZeG w p G v0 v1 v2 v3 SD SP FD FP){v:Value}{l:zU}(hv:SlB w v l)
include h hv
end
section
variable {w:World}{p:Nat}{G:Nat->Prop}{v0 v1 v2 v3:Value}{SD SP FD FP:zU}(h:ZeG w p G v0 v1 v2 v3 SD SP FD FP){u u':Value}{l l':zU}(hu:SlB w u l)(hu':SlB w u' l')
include h hu hu'
end
theorem Z8Z: ∀(zs:List LN) (q:Nat),(ZB zs).take (q * 19)=ZB (zs.take q)
 | [],q=>by simp[ZB]
 | x :: zs,0=>by simp[ZB]
 | x :: zs,q+1=>by
  have h1:ZB (x :: zs)=x.n.cells x.sa x.sc ++ ZB zs:=by simp[ZB]
  have h2:ZB (x :: zs.take q)=x.n.cells x.sa x.sc ++ ZB (zs.take q):=by simp[ZB]
  have h3:(x.n.cells x.sa x.sc).length=19:=rfl
  rw[List.take_succ_cons,h1,h2,<-Z8Z zs q,List.take_append,h3,show(q+1) * 19 - 19=q * 19 by omega,List.take_of_length_le (by rw[h3];omega)]
theorem Z90: ∀(zs:List LN) (q:Nat),(ZB zs).drop (q * 19)=ZB (zs.drop q)
 | [],q=>by simp[ZB]
 | x :: zs,0=>by simp[ZB]
 | x :: zs,q+1=>by
  have h1:ZB (x :: zs)=x.n.cells x.sa x.sc ++ ZB zs:=by simp[ZB]
  have h3:(x.n.cells x.sa x.sc).length=19:=rfl
  rw[List.drop_succ_cons,h1,<-Z90 zs q,List.drop_append,h3,show(q+1) * 19 - 19=q * 19 by omega,List.drop_of_length_le (by rw[h3];omega),List.nil_append]
theorem ZcV {w:World}{xa:zA}{n c:Nat}{zs:List LN}(hrd:ZW w 19 xa n c (ZB zs))(L H:Nat)(lo hi:Option Value)
  (hl:(lo=none/\L=0) \/ ∃kd,lo=some (.int kd (L:Int))) (hh:(hi=none/\H=n) \/ ∃kd,hi=some (.int kd (H:Int))) (h1:L<=H) (h2:H<=n):
  ∃a',(∀W,(Instr.sliceAt 24 (.slice xa n c) lo hi none).run zq W = .ok (.slice a' (H - L) (c - L)) W)/\ZW w 19 a' (H - L) (c - L) (ZB ((zs.drop L).take (H - L))):=by
 obtain⟨i,hi',_,hz1,_⟩:=info_parts Z7f;obtain⟨a',hs,hr⟩:=ZW.sliced hrd L H h1 h2;have hnc:=hrd.2.1;refine⟨a',fun W=>?_,by rw[Z90,Z8Z]at hr;exact hr⟩;rw[<-hs];have hel:zq.elem 24=47:=by simp[Program.elem,Tryz.underlying24]
 rw[run_sliceAt_slice (P:=zq) W 24 _ _ _ _ (by rw[hel];exact Tryz.underlying24),run_slice_any (P:=zq) W 24 xa n c (by rw[hel];exact Tryz.underlying24)];have hb:(Instr.sliceBounds true n c lo hi none).run zq W = .ok (L,H,c) W:=by
  rcases hl with ⟨rfl,rfl⟩ | ⟨kd,rfl⟩
  ·rcases hh with ⟨rfl,rfl⟩ | ⟨kd',rfl⟩
   ·simp[Instr.sliceBounds]
   ·simp[Instr.sliceBounds,run_sliceBound,Result.andThen,(by omega:H<=c)]
  ·rcases hh with ⟨rfl,rfl⟩ | ⟨kd',rfl⟩
   ·simp[Instr.sliceBounds,run_sliceBound,Result.andThen,h1]
   ·simp[Instr.sliceBounds,run_sliceBound,Result.andThen,(by omega:H<=c),h1]
 rw[hb,hel];simp[Result.andThen,sizeOf,typeInfo,hi',hz1]
def Xg (l:List (zU)):zU:=(l.map Zw).flatten
def Jk (l:List (zU)):zU:=(l.map ZK).flatten
theorem JJ (x:zU)(l:List (zU)):Xg (x :: l)=Zw x ++ Xg l:=by simp[Xg]
theorem VB (x:zU)(l:List (zU)):Jk (x :: l)=ZK x ++ Jk l:=by simp[Jk]
theorem QZ (l m:List (zU)):Xg (l ++ m)=Xg l ++ Xg m:=by simp[Xg]
theorem Uj (l m:List (zU)):Jk (l ++ m)=Jk l ++ Jk m:=by simp[Jk]
theorem Z7F (l:List (zU)):(Jk l).length=4 * l.length:=by
 induction l with
 | nil=>rfl
 | cons x l ih=>rw[VB,List.length_append,ih,YN,List.length_cons];omega
theorem Zd1 (n:Nat)(hn:n < 65536)(S:zU):Qs (two n ++ S) 0=n:=by
 simp only[Qs,two,List.cons_append,List.nil_append,List.getElem?_cons_zero,List.getElem?_cons_succ,Option.getD_some,UInt8.toNat_ofNat',Nat.zero_add];omega
theorem Z0C (x S:zU)(hx:x.length < 65536):Qs (Zw x ++ S) 0=x.length:=by
 rw[Zw,List.append_assoc];exact Zd1 _ hx _
theorem Z4x (x S:zU):((Zw x ++ S).drop 2).take x.length=x:=by
 rw[Zw,List.append_assoc,show(two x.length ++ (x ++ S)).drop 2=x ++ S from rfl,List.take_left'];rfl
theorem Z5l (x S F:zU)(hx:x.length<=8192):Zt (Zw x ++ S) (ZK x ++ F)=x :: Zt S F:=by
 have e1:=Z0C x S (by omega);have e2:=Z4x x S;rw[zh (by rw[List.length_append,YS];omega) (by rw[List.length_append,YN];omega) (by rw[e1];exact hx) (by rw[e1,List.length_append,YS];omega) (by
  rw[e1,e2,List.take_left' (YN x)]),e1,e2]
 rw[show x.length+2=(Zw x).length from(YS x).symm,List.drop_left,show 4=(ZK x).length from rfl,List.drop_left]
theorem Z47 (l:List (zU))(hl : ∀x∈l,x.length<=8192)(S F:zU):Zt (Xg l ++ S) (Jk l ++ F)=l ++ Zt S F:=by
 induction l with
 | nil=>rfl
 | cons x l ih=>
  rw[JJ,VB,List.append_assoc,List.append_assoc,Z5l x _ _ (hl x (List.mem_cons_self ..)),ih (fun y hy=>hl y (List.mem_cons_of_mem _ hy))];rfl
theorem Z9Y (F:zU):Zt [] F=[]:=QC (by simp)
theorem Z55 (A B:zU)(n:Nat)(h:A.length<=n):(A ++ B).take n=A ++ B.take (n - A.length):=by rw[List.take_append,List.take_of_length_le h]
theorem Z7c: ∀(l:List (zU)) (_ : ∀x∈l,x.length<=8192) (a b:Nat),∃k,k<=l.length/\Zt ((Xg l).take a) ((Jk l).take b)=l.take k
 | [],_,a,b=>⟨0,Nat.le_refl _,by simp[Xg,Z9Y]⟩
 | x :: l,hl,a,b=>by
  have hx:=hl x (List.mem_cons_self ..)
  by_cases h:x.length+2<=a/\4<=b
  ·obtain⟨k,hk,e⟩:=Z7c l (fun y hy=>hl y (List.mem_cons_of_mem _ hy)) (a - (x.length+2)) (b - 4)
   refine⟨k+1,by simp;omega,?_⟩
   rw[JJ,VB,Z55 _ _ _ (by rw[YS];omega),Z55 _ _ _ (by rw[YN];omega),YS,YN,Z5l x _ _ hx,e]
   rfl
  ·refine⟨0,Nat.zero_le _,?_⟩
   apply QC
   rintro⟨h1,h2,h3,h4,h5⟩
   rw[List.length_take]at h1 h2 h4
   have ha:2<=a:=by omega
   have hb:4<=b:=by omega
   have e1:Qs ((Xg (x :: l)).take a) 0=x.length:=by
    rw[<-Z0C x (Xg l) (by omega),<-JJ];simp only[Qs,List.getElem?_take];rw[if_pos (by omega),if_pos (by omega)]
   rw[e1]at h4;omega
/-! One inverted bit. -/
theorem Z4i (v:UInt8)(b:Nat)(hb:b < 8):(v ^^^ UInt8.ofNat (2 ^ b)).toNat=v.toNat+2 ^ b\/(v ^^^ UInt8.ofNat (2 ^ b)).toNat+2 ^ b=v.toNat:=by
 have h : ∀v:Fin 256,∀b:Fin 8,v.val ^^^ 2 ^ b.val=v.val+2 ^ b.val\/(v.val ^^^ 2 ^ b.val)+2 ^ b.val=v.val:=by decide+kernel
 have h1:=h ⟨v.toNat,v.toNat_lt⟩ ⟨b,hb⟩;have h2:2 ^ b < 256:=by
  have:2 ^ b<=2 ^ 7:=Nat.pow_le_pow_right (by omega) (by omega);omega
 rw[UInt8.toNat_xor,UInt8.toNat_ofNat',Nat.mod_eq_of_lt h2];exact h1
theorem Z3t (b:Nat)(hb:b < 8):1<=2 ^ b/\2 ^ b<=128:=by
 constructor
 ·exact Nat.one_le_two_pow
 ·have:2 ^ b<=2 ^ 7:=Nat.pow_le_pow_right (by omega) (by omega);omega
theorem Vz (l:zU)(i b j:Nat):(ZO l i b)[j]?.getD 0=if i=j/\i < l.length then (l[i]?.getD 0) ^^^ UInt8.ofNat (2 ^ b)else l[j]?.getD 0:=by
 unfold ZO;rw[List.getElem?_set];by_cases h:i=j
 ·subst h;by_cases h2:i < l.length
  ·simp[h2]
  ·simp[h2]
 ·simp[h]
theorem Z0k (l m:zU)(i b:Nat)(h:i < l.length):ZO (l ++ m) i b=ZO l i b ++ m:=by
 unfold ZO;rw[List.getElem?_append_left h,List.set_append_left _ _ h]
theorem Qm (l m:zU)(i b:Nat)(h:l.length<=i):ZO (l ++ m) i b=l ++ ZO m (i - l.length) b:=by
 unfold ZO;rw[List.getElem?_append_right h,List.set_append_right _ _ h]
theorem Z4s (x y:zU)(j:Nat)(h : ∀k,k < j->x[k]?.getD 0=y[k]?.getD 0): ∀k,k<=j->Qv x k=Qv y k
 | 0,_=>rfl
 | k+1,hk=>by simp only[Qv];rw[Z4s x y j h k (by omega),h k (by omega)]
theorem Z4t (x:zU)(j b:Nat)(hj:j < x.length): ∀m,(Qv (ZO x j b) (j+1+m) - Qv x (j+1+m) - ((j:Int)+1) * ((((x[j]?.getD 0) ^^^ UInt8.ofNat (2 ^ b)).toNat:Int) - ((x[j]?.getD 0).toNat:Int))) % 65521=0
 | 0=>by
  have e:=Z4s (ZO x j b) x j (fun k hk=>by rw[Vz,if_neg (by omega)]) j (Nat.le_refl _)
  have h1:=Vz x j b j
  rw[if_pos ⟨rfl,hj⟩]at h1
  simp only[Qv]
  rw[e,h1,Int.mul_sub]
  omega
 | m+1=>by
  have ih:=Z4t x j b hj m
  have h1:=Vz x j b (j+1+m)
  rw[if_neg (by omega)]at h1
  rw[show j+1+(m+1)=(j+1+m)+1 by omega]
  simp only[Qv]
  rw[h1]
  generalize Qv (ZO x j b) (j+1+m)=A at *
  generalize Qv x (j+1+m)=B at *
  generalize (((j+1+m:Nat):Int)+1) * ((x[j+1+m]?.getD 0).toNat:Int)=C at *
  generalize ((j:Int)+1) * ((((x[j]?.getD 0) ^^^ UInt8.ofNat (2 ^ b)).toNat:Int) - ((x[j]?.getD 0).toNat:Int))=D at *
  omega
theorem ZbI {x y:zU}(hx:x.length < 65536)(hy:y.length < 65536)(h:ZK x=ZK y):x.length=y.length/\chk x=chk y:=by
 have h1:=(Z1D (fo:=ZK x) (by rw[YN];omega) hx).1 rfl;have h2:=(Z1D (fo:=ZK x) (by rw[YN];omega) hy).1 (by rw[<-h];rfl);omega
end Go.Proofs.YtlnhppgfhkkidaaGreat
