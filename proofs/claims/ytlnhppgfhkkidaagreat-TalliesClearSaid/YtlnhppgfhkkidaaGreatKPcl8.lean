/- The given row TalliesClear, proved: whatever the input, true, and the input reads as it did. -/
import Derived.Maps.Views
import Derived.SizedLaws
import Derived.Test.YtlnhppgfhkkidaaGreatKPcl7
set_option linter.unusedSimpArgs false
set_option linter.unusedVariables false
set_option maxHeartbeats 32000000
set_option maxRecDepth 100000
namespace Go.Proofs.YtlnhppgfhkkidaaGreat
open Go.Proofs.Tryz renaming prog → zq
open Go.RowKit
theorem Qt.comp {PH:World->Nat->(Nat->Prop)->Zf->Prop}{tW tH:TypeId}{bf:Value->Value->ZV}{w w1 w':World}{p:Nat}{F F1:Nat->Prop}{V':ZD}(h:Qt PH tW tH bf w1 p F1 V' w')(g2:Za F w w1)(g3 : ∀k,F1 k->F k\/w.heap.size<=k):Qt PH tW tH bf w p F V' w':=by
 obtain⟨F',h1,h2,h3⟩:=h;refine⟨F',h1,g2.trans2 h2 g3,fun k hk=>?_⟩;rcases h3 k hk with e | e
 ·exact g3 k e
 ·exact .inr (Nat.le_trans g2.size e)
theorem ZbQ (w2:World)(q:Nat): ∃W p7 p8 p9 p10,(((w2.alloc (.cells #[.pointer (some ⟨q,0,none⟩)] 27)).alloc (.cells #[.slice none 0 0] 37)).alloc (.cells #[.slice none 0 0] 24)).alloc (.cells #[.bool false] 4)=W/\w2.heap.size=p7/\w2.heap.size+1=p8/\w2.heap.size+1+1=p9/\w2.heap.size+1+1+1=p10 /\
  Below w2.heap.size w2 W/\W.heap[p7]? = some (.cells #[.pointer (some ⟨q,0,none⟩)] 27)/\W.heap[p8]? = some (.cells #[.slice none 0 0] 37)/\W.heap[p9]? = some (.cells #[.slice none 0 0] 24)/\W.heap[p10]? = some (.cells #[.bool false] 4):=by
 refine⟨_,_,_,_,_,rfl,rfl,rfl,rfl,rfl,(((zB _ _).alloc (by simp) _).alloc (by simp;omega) _).alloc (by simp;omega) _,?_,?_,?_,?_⟩
 ·exact Zb _ _ _ _ (Zb _ _ _ _ (Zb _ _ _ _ (Z9 _ _)))
 ·exact Zb _ _ _ _ (Zb _ _ _ _ (Zv _ _ _ (by simp)))
 ·exact Zb _ _ _ _ (Zv _ _ _ (by simp))
 ·exact Zv _ _ _ (by simp)
theorem Z9l (p:Nat)(F:Nat->Prop)(V:ZD)(a:YU)(sa:zA)(sc:Nat)(w:World)(h:Vu w p F V)(hm:Qr V a.idx=none):
  Calls zq 90 #[.pointer (some ⟨p,0,none⟩),.agg (a.cells sa sc).toArray] w fun e w'=>e = .returned (.int .i64 3)/\Yj w p F V w':=by
 have b0:=zB w (.cells (a.cells sa sc).toArray 67);have C3:=zH (show(a.cells sa sc).toArray[3]? = some (.int .i64 a.idx)from rfl);obtain⟨OA,hOA⟩:=zX ((a.cells sa sc).toArray);rw[hOA.out]at b0 C3 ⊢;have X0:=zH (Z9 w (.cells OA 67));have H0:=zH (h.below Zl b0);have B0:=zH b0;have I3:=zH (show ∀x y z:Value,(zq.info? 152).map (·.size)=some (#[x,y,z]:ZV).size from fun x y z=>by kernel_rfl);clear b0 hOA h;go_enter Tryz.func90,Tryz.ntmps90;go_upto_region 1 with fail;obtain⟨p3,hp3⟩:=zX (w.heap.size);rw[hp3.out]at X0 ⊢;generalize w.alloc (.cells OA 67)=W0 at *;have c1:=Z6 X0.out 3 (.int .i64 a.idx) C3.out;go_wp2_with fail;refine(Z3p p F V a.idx _ H0.out hm).mono ?_;rintro e w1 ⟨rfl,b1⟩;have RR:=zH (((Qt.refl H0.out).after B0.out).then Zl (b1.mono (Nat.le_refl _)):Yj w p F V w1);clear b1 c1 hm;go_upto_region 2 with (refine Zr w1 rfl 152 _ _ rfl w1.heap.size rfl _ #[.int .i64 0,.int .i64 0,.slice none 0 0] rfl rfl (I3.out _ _ _) rfl (Qj 0 0 (none,0,0)) ?_);have RF:=zH (RR.out.then Zl (zB _ (.cells #[.int .i64 0,.int .i64 0,.slice none 0 0] 152)));generalize w1.alloc (.cells #[.int .i64 0,.int .i64 0,.slice none 0 0] 152)=w2 at *;go_wp2;go_ret;exact⟨rfl,RF.out⟩
theorem Z9m (p:Nat)(F:Nat->Prop)(V:ZD)(a:YU)(sa:zA)(sc:Nat)(m:MlV)(l:List Z8)(S:Zf)(w:World)(h:Vu w p F V)(hm:Qr V a.idx=some m)(hS:Y9 (Xf V a.idx) m.to=some S)(hmc:m.cont = .gift l)(hi:Xe S)(hl : ∀x∈l,Zg S.f x=true/\x.Ok)(hlen:l.length<=16)(hn:S.l.length<=384):
  Calls zq 90 #[.pointer (some ⟨p,0,none⟩),.agg (a.cells sa sc).toArray] w fun e w'=>e = .returned (.int .i64 (ZJ S l).2.2)/\Yj w p F (JM (Xf V a.idx) m.to (ZJ S l).1) w':=by
 have HL:=zH hl;have HLEN:=zH hlen;have HN:=zH hn;have HMC:=zH (show m.body=(Xa.gift l).body by unfold MlV.body;rw[hmc]);clear hl hlen hn hmc;have I3:=zH (show ∀x y z:Value,(zq.info? 152).map (·.size)=some (#[x,y,z]:ZV).size from fun x y z=>by kernel_rfl);have hmf : ∀(fn:Fn) (first cap:ZV) (w:World),(Instr.makeFunc fn first cap).run zq w = .ok (.func fn first cap) w:=fun _ _ _ _=>rfl;have b0:=zB w (.cells (a.cells sa sc).toArray 67);have C3:=zH (show(a.cells sa sc).toArray[3]? = some (.int .i64 a.idx)from rfl);obtain⟨OA,hOA⟩:=zX ((a.cells sa sc).toArray);rw[hOA.out]at b0 C3 ⊢;have X0:=zH (Z9 w (.cells OA 67));have H0:=zH (h.below Zl b0);have B0:=zH b0;have HI:=zH hi;clear b0 hOA h hi;go_enter Tryz.func90,Tryz.ntmps90;go_upto_region 1 with fail;obtain⟨p3,hp3⟩:=zX (w.heap.size);rw[hp3.out]at X0 ⊢;generalize w.alloc (.cells OA 67)=W0 at *;have c1:=Z6 X0.out 3 (.int .i64 a.idx) C3.out;go_wp2_with fail;refine(UT p F V a.idx m _ H0.out hm).mono ?_;rintro e w1 ⟨ba,bc,rfl,hb,hr⟩;obtain⟨F1,g1,g2,g3⟩:=hr;obtain⟨ps,Fs,ha,hc,xs,ma,mc,h1,h2⟩:=g1.open;obtain⟨k,q,Fk,e1,e2,u1,u2,u3,u4⟩:=h1.at hS;have FIN:Hid (∀V' w',Yj w1 p F1 V' w'->Yj w p F V' w'):=zH (fun V' w' r=>(r.comp g2 g3).after B0.out);obtain⟨mb,sp,G,SF,k1,k2⟩:=u3;have HK:=zH k1;have K2:=zH k2;have RB:=zH hb;have H1:=zH h1;have H2:=zH h2;have UU:=zH (And.intro e2 (And.intro u1 u2));have RET:Hid (∀S' w',Z1Q Uu w1 q Fk S' w'->Yj w p F (JM (Xf V a.idx) m.to S') w'):=zH (fun S' w' j=>FIN.out _ _ (by rw[h2];exact h1.ret Zl e2 u1 u2 j));have HH:Hid (∀w2,Below w1.heap.size w1 w2->Calls zq 86 #[.pointer (some ⟨p,0,none⟩),.int .i64 m.to] w2 fun e w'=>e = .returned (.pointer (some ⟨q,0,none⟩))/\w'=w2):=zH (fun w2 b2=>Xi (h1.below Zl b2) m.to k q e1 u1);have LT1:Hid (∀k,Yd q mb G SF k->k < w1.heap.size):=zH k1.lt;clear c1 hm hb g1 g2 g3 h1 h2 e1 e2 u1 u2 u4 k1 k2 hS H0 X0;go_upto_region 2 with (refine Zr w1 rfl 152 _ _ rfl w1.heap.size rfl _ #[.int .i64 m.frm,.int .i64 m.to,.slice ba m.body.length bc] rfl rfl (I3.out _ _ _) rfl (Qj m.frm m.to (ba,m.body.length,bc)) ?_)
 have b2:Below w1.heap.size w1 (w1.alloc (.cells #[.int .i64 m.frm,.int .i64 m.to,.slice ba m.body.length bc] 152)):=zB _ _;have B2:=zH b2;have X5:=zH (Z9 w1 (.cells #[.int .i64 m.frm,.int .i64 m.to,.slice ba m.body.length bc] 152));obtain⟨p5,hp5⟩:=zX (w1.heap.size);rw[hp5.out]at X5 ⊢;clear b2;generalize w1.alloc (.cells #[.int .i64 m.frm,.int .i64 m.to,.slice ba m.body.length bc] 152)=w2 at *;have c51:=Z6 X5.out 1 (.int .i64 m.to) rfl;go_wp2_with fail;refine(HH.out w2 B2.out).mono ?_;rintro e w3 ⟨rfl,rfl⟩;clear HH;go_upto_region 8 with fail;obtain⟨W,p7,p8,p9,p10,hW,h7,h8,h9,h10,bW,i7,i8,i9,i10⟩:=ZbQ w3 q;rw[h10,h9,h8,h7,hW];have GE:Hid (w1.heap.size<=p7/\w1.heap.size<=p8/\w1.heap.size<=p9/\w1.heap.size<=p10):=zH (by have:=B2.out.size;omega);have BW:=zH (B2.out.trans (bW.mono B2.out.size));replace X5:=zH (Z7 bW X5.out);have I7:=zH i7;have I8:=zH i8;have I9:=zH i9;have I10:=zH i10;clear hW h7 h8 h9 h10 bW i7 i8 i9 i10 c51 B2;have c52:=Z6 X5.out 2 (.slice ba m.body.length bc) rfl;go_wp2_with fail;refine(Z8s S.f p10 p8 p7 p9 q _ l ba _ bc W (HMC.out ▸ Yg.below RB.out BW.out) I10.out I9.out I7.out (Z7 BW.out HK.out.blk) ⟨rfl,rfl,rfl⟩ HI.out.v (fun x hx=>(HL.out x hx).1) HLEN.out).mono ?_;rintro e W9 ⟨rfl,ga,gc,es,eA,eH,eG,og,oe,en,s9⟩;have B9:=zH (s9.below BW.out BW.out.size (fun j hj=>by
  have h1:=GE.out;rcases hj with e | e
  ·rw[e];exact h1.2.2.2
  ·rw[e];exact h1.2.2.1))
 have RL:Hid (∀W',Za (Yd q mb G SF) W9 W'->UQ W' ga l.length gc es):=zH (fun W' hs=>by
  have hno : ∀{e:TypeId} {k:Nat} {v:Value} {n:Nat} {xs:List Value},W9.ownsRow W.heap.size e k v n xs->W'.ownsRow W.heap.size e k v n xs:=fun ho=>Ze ho hs (fun b hb hF=>by
   have h1:=LT1.out b hF;have h2:=(ho.lt b hb).1;have h3:=BW.out.size;omega)
  exact Z1r (ZW.of_own (hno og)) (fun x hx=>ZW.of_own (hno (oe x hx))))
 have EN:=zH en;have c10:=Z6 eA 0 (.bool false) rfl;have c7:=Z6 eH 0 (.pointer (some ⟨q,0,none⟩)) rfl;have c9:=Z6 eG 0 (.slice ga l.length gc) rfl;clear eA eH eG og oe en s9 c52 hmf;go_wp2_with fail;refine(Z5q q mb sp G SF S ga l.length gc l es W9 (HK.out.below B9.out) HI.out EN.out RL.out (fun x hx=>(HL.out x hx).2) (by have h1:=HN.out;have h2:=HLEN.out;omega)).mono ?_;rintro e W10 ⟨rfl,G2,SF2,j1,j2,j3⟩;have FN:=zH (RET.out _ W10 (Z1C K2.out j1 ((Za.of_below B9.out).trans j2) (fun k hk=>(j3 k hk).imp id (fun e=>Nat.le_trans B9.out.size e))));clear j1 j2 j3 c10 c7 c9;go_wp2;go_ret;exact⟨rfl,FN.out⟩
theorem Z9n (p:Nat)(F:Nat->Prop)(V:ZD)(a:YU)(sa:zA)(sc:Nat)(m:MlV)(c:List Int)(S:Zf)(w:World)(h:Vu w p F V)(hm:Qr V a.idx=some m)(hS:Y9 (Xf V a.idx) m.to=some S)(hmc:m.cont = .ask c)(hi:Xe S)(hcc:c.length=8 /\ ∀z∈c,0<=z/\z<=400)(hn:S.l.length<=400)(hk:Z04 S c=[]):
  Calls zq 90 #[.pointer (some ⟨p,0,none⟩),.agg (a.cells sa sc).toArray] w fun e w'=>e = .returned (.int .i64 0)/\Yj w p F (JM (Xf V a.idx) m.to S.sync) w':=by
 have HC:=zH hcc;have HN:Hid (S.sync.l.length<=400):=zH hn;have HMC:=zH (show m.body=(Xa.ask c).body by unfold MlV.body;rw[hmc]);have LK:=zH hk;clear hcc hn hmc hk;have I3:=zH (show ∀x y z:Value,(zq.info? 152).map (·.size)=some (#[x,y,z]:ZV).size from fun x y z=>by kernel_rfl);have hmf : ∀(fn:Fn) (first cap:ZV) (w:World),(Instr.makeFunc fn first cap).run zq w = .ok (.func fn first cap) w:=fun _ _ _ _=>rfl;have b0:=zB w (.cells (a.cells sa sc).toArray 67);have C3:=zH (show(a.cells sa sc).toArray[3]? = some (.int .i64 a.idx)from rfl);obtain⟨OA,hOA⟩:=zX ((a.cells sa sc).toArray);rw[hOA.out]at b0 C3 ⊢;have X0:=zH (Z9 w (.cells OA 67));have H0:=zH (h.below Zl b0);have B0:=zH b0;have HI:=zH hi;clear b0 hOA h hi;go_enter Tryz.func90,Tryz.ntmps90;go_upto_region 1 with fail;obtain⟨p3,hp3⟩:=zX (w.heap.size);rw[hp3.out]at X0 ⊢;generalize w.alloc (.cells OA 67)=W0 at *;have c1:=Z6 X0.out 3 (.int .i64 a.idx) C3.out;go_wp2_with fail;refine(UT p F V a.idx m _ H0.out hm).mono ?_;rintro e w1 ⟨ba,bc,rfl,hb,hr⟩;obtain⟨F1,g1,g2,g3⟩:=hr;obtain⟨ps,Fs,ha,hc,xs,ma,mc,h1,h2⟩:=g1.open;obtain⟨k,q,Fk,e1,e2,u1,u2,u3,u4⟩:=h1.at hS;have FIN:Hid (∀V' w',Yj w1 p F1 V' w'->Yj w p F V' w'):=zH (fun V' w' r=>(r.comp g2 g3).after B0.out);obtain⟨mb,sp,G,SF,k1,k2⟩:=u3;have HK:=zH k1;have K2:=zH k2;have RB:=zH hb;have H1:=zH h1;have H2:=zH h2;have UU:=zH (And.intro e2 (And.intro u1 u2));have RET:Hid (∀S' w',Z1Q Uu w1 q Fk S' w'->Yj w p F (JM (Xf V a.idx) m.to S') w'):=zH (fun S' w' j=>FIN.out _ _ (by rw[h2];exact h1.ret Zl e2 u1 u2 j));have HH:Hid (∀w2,Below w1.heap.size w1 w2->Calls zq 86 #[.pointer (some ⟨p,0,none⟩),.int .i64 m.to] w2 fun e w'=>e = .returned (.pointer (some ⟨q,0,none⟩))/\w'=w2):=zH (fun w2 b2=>Xi (h1.below Zl b2) m.to k q e1 u1);have LT1:Hid (∀k,Yd q mb G SF k->k < w1.heap.size):=zH k1.lt;clear c1 hm hb g1 g2 g3 h1 h2 e1 e2 u1 u2 u4 k1 k2 hS H0 X0;go_upto_region 2 with (refine Zr w1 rfl 152 _ _ rfl w1.heap.size rfl _ #[.int .i64 m.frm,.int .i64 m.to,.slice ba m.body.length bc] rfl rfl (I3.out _ _ _) rfl (Qj m.frm m.to (ba,m.body.length,bc)) ?_)
 have b2:Below w1.heap.size w1 (w1.alloc (.cells #[.int .i64 m.frm,.int .i64 m.to,.slice ba m.body.length bc] 152)):=zB _ _;have B2:=zH b2;have X5:=zH (Z9 w1 (.cells #[.int .i64 m.frm,.int .i64 m.to,.slice ba m.body.length bc] 152));obtain⟨p5,hp5⟩:=zX (w1.heap.size);rw[hp5.out]at X5 ⊢;clear b2;generalize w1.alloc (.cells #[.int .i64 m.frm,.int .i64 m.to,.slice ba m.body.length bc] 152)=w2 at *;have c51:=Z6 X5.out 1 (.int .i64 m.to) rfl;go_wp2_with fail;refine(HH.out w2 B2.out).mono ?_;rintro e w3 ⟨rfl,rfl⟩;clear HH;go_upto_region 8 with fail;obtain⟨W,p7,p8,p9,p10,hW,h7,h8,h9,h10,bW,i7,i8,i9,i10⟩:=ZbQ w3 q;rw[h10,h9,h8,h7,hW];have GE:Hid (w1.heap.size<=p7/\w1.heap.size<=p8/\w1.heap.size<=p9/\w1.heap.size<=p10):=zH (by have:=B2.out.size;omega);have BW:=zH (B2.out.trans (bW.mono B2.out.size));replace X5:=zH (Z7 bW X5.out);have I7:=zH i7;have I8:=zH i8;have I9:=zH i9;have I10:=zH i10;clear hW h7 h8 h9 h10 bW i7 i8 i9 i10 c51 B2;have c52:=Z6 X5.out 2 (.slice ba m.body.length bc) rfl;go_wp2_with fail;refine(Z5A p10 p8 p7 p9 q c ba _ bc W (HMC.out ▸ Yg.below RB.out BW.out) I10.out I8.out I7.out (fun z hz=>by have:=HC.out.2 z hz;unfold Ym far;omega) (by have:=HC.out.1;omega)).mono ?_;rintro e W9 ⟨rfl,ca,c2,eA,eH,eC,oc,s9⟩;have B9:=zH (s9.below BW.out BW.out.size (fun j hj=>by
  have h1:=GE.out;rcases hj with e | e
  ·rw[e];exact h1.2.2.2
  ·rw[e];exact h1.2.1))
 have E5:=zH ((s9.block p5 (Zj X5.out) (fun e=>by
  rcases e with e | e
  ·exact Z2x X5.out I10.out (by decide) e
  ·exact Z2x X5.out I8.out (by decide) e)).trans X5.out)
 have OC:=zH oc;have E7:=zH eH;have E8:=zH eC;have c10:=Z6 eA 0 (.bool true) rfl;have c7:=Z6 eH 0 (.pointer (some ⟨q,0,none⟩)) rfl;clear eA eH eC oc s9 c52 hmf X5;go_wp2_with fail;refine(Jh q mb sp G SF S W9 (HK.out.below B9.out)).mono ?_;rintro e W10 ⟨rfl,j1,j2⟩;have SPL:=zH (LT1.out sp (.inr (.inr (.inl HK.out.stk.self))));have hno : ∀{j:Nat} {o:Obj},W9.heap[j]? = some o->w1.heap.size<=j->W10.heap[j]? = some o:=fun {j o} hj hl=>(j2.block j (Zj hj) (fun e=>by have h1:=SPL.out;have h2:j=sp:=e;omega)).trans hj;have F5:=zH (hno E5.out (by rw[hp5.out];exact Nat.le_refl _));have F7:=zH (hno E7.out GE.out.1);have F8:=zH (hno E8.out GE.out.2.1);have OC2:=zH (Ze OC.out j2 (fun b hb e=>by
  have h1:=(OC.out.lt b hb).1;have h2:=SPL.out;have h3:=BW.out.size;have h4:b=sp:=e;omega))
 have J1:=zH j1;have J2:Hid (Za (Yd q mb G SF) w1 W10):=zH ((Za.of_below B9.out).trans (j2.weaken (fun b hb=>by rw[show b=sp from hb];exact .inr (.inr (.inl HK.out.stk.self)))));clear hno j1 j2 c10 c7 E5 E7 E8 OC;have c7:=Z6 F7.out 0 (.pointer (some ⟨q,0,none⟩)) rfl;have c8:=Z6 F8.out 0 (.slice ca c.length c2) rfl;go_wp2_with fail;refine(Z1z q mb sp G SF S.sync c ca c.length c2 W10 J1.out HI.out.sync HN.out (ZW.of_own OC2.out)).mono ?_;rintro e W11 ⟨⟨la,ln,lc,zs,rfl,kp,zn⟩,b11⟩;have ZN:Hid (zs.map LN.n=Z04 S c):=zH zn;have LN0:Hid (zs.length=ln):=zH kp.rd.1;have KP:=zH kp;have B11:=zH b11;clear kp zn b11 c7 c8;have hz:ln=0:=by
  have h1:=LN0.out;have h2:=ZN.out;rw[LK.out]at h2;rw[List.map_eq_nil_iff.1 h2]at h1;exact h1.symm
 subst hz;have FN:=zH (RET.out _ W11 (Z1C K2.out (J1.out.below B11.out) (J2.out.trans (Za.of_below B11.out)) (fun k hk=>.inl hk)));go_wp2;go_ret;exact⟨rfl,FN.out⟩
theorem Z3e (sa:zA)(n c:Nat):Value.ownBlock (.slice sa n c)=Value.ownBlock (.slice sa 0 0):=by cases sa <;> rfl
structure Z51 (sa:zA)(w wr:World)(a':zA):Prop where
 s:Za (fun k=>Value.ownBlock (.slice sa 0 0)=some k) w wr
 o : ∀k,Value.ownBlock (.slice a' 0 0)=some k->Value.ownBlock (.slice sa 0 0)=some k\/w.heap.size<=k
def Zde (a:zA)(w:World)(a':zA)(w':World):Prop:=Za (fun k=>Value.ownBlock (.slice a 0 0)=some k) w w' /\ ∀k,Value.ownBlock (.slice a' 0 0)=some k->Value.ownBlock (.slice a 0 0)=some k\/w.heap.size<=k
theorem Z51.refl (sa:zA)(w:World):Z51 sa w w sa:=⟨Za.refl _ _,fun k h=>.inl h⟩
theorem Z51.step {sa a a':zA}{w wr w':World}(h:Z51 sa w wr a)(hs:Zde a wr a' w'):Z51 sa w w' a':=
 ⟨h.s.trans2 hs.1 (fun k hk=>h.o k hk),fun k hk=>by
  rcases hs.2 k hk with e | e
  ·exact h.o k e
  ·exact .inr (Nat.le_trans h.s.size e)⟩
theorem Z51.rd {sa a':zA}{w wr:World}(h:Z51 sa w wr a'){k:Nat}{a:zA}{n c:Nat}{xs:List Value}(hr:ZW w k a n c xs)(hn : ∀b off,a=some ⟨b,off,none⟩->Value.ownBlock (.slice sa 0 0)≠some b):ZW wr k a n c xs:=
 hr.of_cells fun b ⟨off,hb⟩ hlt=>h.s.block b hlt (hn b off hb)
theorem Z7I {ops:Array Oper}{rest:List Oper}{o:Oper}{a:Act}{Q:Exit->Act->World->Prop}(w:World)(hgd:o.guard=none)(s x:Operand)
  (ho:o.op = .call { callee := .builtin .append,args := #[s,x],argTypes := #[41,41] }) (base:Nat)
  (sa:zA) (sn sc:Nat) (xs:zU) (hs:a.eval s = .slice sa sn sc) (hown:w.ownsRow base 5 1 (.slice sa sn sc) sn (xs.map Zs))
  (c:UInt8) (v:Int) (hv:v=(c.toNat:Int)) (hx:a.eval x = .slice (some ⟨w.heap.size,0,none⟩) 1 1) (hbytes:sn+1<=140737488355328) (hbase:base<=w.heap.size)
  (h : ∀a' c' w',w'.ownsRow base 5 1 (.slice a' (sn+1) c') (sn+1) ((xs ++ [c]).map Zs)->Zde sa w a' w'->wpList zq ops Q rest (a.put o.dst (.slice a' (sn+1) c')) w'):
  wpList zq ops Q (o :: rest) a (w.alloc (.cells #[.int .u8 v] 5)):=by
 subst hv;have hb:Below w.heap.size w (w.alloc (.cells #[.int .u8 (c.toNat:Int)] 5)):=zB _ _;have hr:(w.alloc (.cells #[.int .u8 (c.toNat:Int)] 5)).ownsRow w.heap.size 5 1 (.slice (some ⟨w.heap.size,0,none⟩) 1 1) 1 ([c].map Zs):=
  World.ownsRow_lit (base:=w.heap.size) (e:=5) (size:=1) w #[.int .u8 (c.toNat:Int)] 1 (Nat.le_refl _) (by unfold maxLen;omega) rfl
 have ho2:=Zd hown hb;refine zu _ hgd s x ho base sa sn sc xs hs ho2 _ 1 1 [c] hx (Yg.of_own hr) hbytes (Nat.le_trans hbase hb.size) (fun a' c' w' hl h1 h2=>h a' c' w' h1 ⟨?_,fun k hk=>?_⟩)
 ·exact(Za.of_below hb).trans (Za.of_grown h2 (fun k e=>by rw[<-Z3e sa sn sc];exact e))
 ·rcases hl with e | e
  ·rw[e]at hk;exact .inl hk
  ·rw[e]at hk;have h3:(w.alloc (.cells #[.int .u8 (c.toNat:Int)] 5)).heap.size=k:=by simpa [Value.ownBlock] using hk
   exact .inr (h3 ▸ hb.size)
theorem Z9y (base:Nat)(sa:zA)(sn sc:Nat)(xs:zU)(la:zA)(n lc:Nat)(zs:List Int)(w:World)(hbase:base<=w.heap.size)
  (hown:w.ownsRow base 5 1 (.slice sa sn sc) sn (xs.map Zs)) (hr:XU w la n lc zs) (hap : ∀b off,la=some ⟨b,off,none⟩->Value.ownBlock (.slice sa sn sc)≠some b) (hz : ∀z∈zs,Jl z) (hlen:(xs ++ ZA zs).length<=140737488355328):
  Calls zq 143 #[.slice sa sn sc,.slice la n lc] w fun e w' => ∃a' c',e = .returned (.slice a' (xs ++ ZA zs).length c') /\
   w'.ownsRow base 5 1 (.slice a' (xs ++ ZA zs).length c') (xs ++ ZA zs).length ((xs ++ ZA zs).map Zs)/\Za (fun k=>Value.ownBlock (.slice sa 0 0)=some k) w w':=by
 have hn:=hr.maxn;have hl:=zH hr.len;have HL:=zH hlen;clear hlen;have HZ:=zH hz;clear hz;have HO:=zH hown;have hsn:sn=xs.length:=by have:=hown.1;simpa using this.symm
 have hsg:IntKind.u64.signed=false:=rfl;clear hown;have HB:=zH hbase;clear hbase;go_enter Tryz.func143,Tryz.ntmps143;go_wp2_with fail;go_loopw [0,6,7,10] (fun b _ _ i wr=>∃(k m:Nat) (a':zA) (c':Nat),b = .slice a' m c'/\k<=n/\i = .int .i64 k/\Hid (wr.ownsRow base 5 1 (.slice a' m c') m ((xs ++ ZA (zs.take k)).map Zs))/\Hid (Z51 sa w wr a')) (fun _ _ _ i _=>n - (intOf i).toNat)
 case atStart=>exact⟨0,sn,sa,sc,rfl,Nat.zero_le _,rfl,zH (by simpa [ZA] using HO.out),zH (Z51.refl _ _)⟩
 case round=>
  obtain⟨k,m,a',c',rfl,hk,rfl,HW,HA⟩:=hrel;by_cases hlt:k < n
  ·obtain⟨b,off,rfl,hc⟩:=XU.at (HA.out.rd hr (fun b off e=>by rw[<-Z3e sa sn sc];exact hap b off e)) (by omega);have e1:=hc k hlt;have hk64:(k:Int)<=9223372036854775807:=by omega
   have hzk:=HZ.out (zs[k]?.getD 0) (by rw[List.getElem?_eq_getElem (by rw[hl.out];exact hlt),Option.getD_some];exact List.getElem_mem _);have HT:=zH (Z0A (l:=zs) (k:=k) (by rw[hl.out];exact hlt));generalize zs[k]?.getD 0=z at *;clear hc;by_cases hneg:z < 0
   focus
    have hu:=Z8P hzk hneg
   rotate_left
   focus
    have hu:=Z8O hzk (by omega)
   all_goals
    go_wp2_with fail;go_loopw [0,7] (fun b u wi=>∃(v m2:Nat) (ys:zU) (a2:zA) (c2:Nat),b = .slice a2 m2 c2/\u = .int .u64 v/\v < 18446744073709551616/\Hid (ys ++ Z1c v=xs ++ ZA (zs.take (k+1)))/\Hid (wi.ownsRow base 5 1 (.slice a2 m2 c2) m2 (ys.map Zs))/\Hid (Z51 sa w wi a2)) (fun _ u _=>(intOf u).toNat)
    case atStart=>exact⟨zig z,m,xs ++ ZA (zs.take k),a',c',rfl,rfl,Z7T hzk,zH (by rw[HT.out,List.append_assoc];rfl),HW,HA⟩
    case round=>
     obtain⟨v,m2,ys,a2,c2,rfl,rfl,hv,HY,HW2,HA2⟩:=hrel;have hm2:m2=ys.length:=by have:=HW2.out.1;simpa using this.symm
     have hle:m2+(Z1c v).length<=140737488355328:=by
      have h1:=congrArg List.length HY.out;have h2:=HL.out;have h3:=Z3m zs (k+1);simp only[List.length_append]at h1 h2;omega
     have hps:=Z4n v;subst hm2;obtain⟨cb,hcb⟩ : ∃cb,Hid (cb=UInt8.ofNat (v % 128+128)):=⟨_,zH rfl⟩;obtain⟨cd,hcd⟩ : ∃cd,Hid (cd=UInt8.ofNat v):=⟨_,zH rfl⟩;have hb2:base<=wr.heap.size:=Nat.le_trans HB.out HA2.out.s.size;clear e1;by_cases hge:(128:Int)<=v
     ·have hor:=Zdd v;have hq:IntKind.u64.wrap ((v:Int) / 128)=((v / 128:Nat):Int):=by rw[IntKind.wrap_u64];omega
      go_wp2_with (at_builtin;refine Z7I _ rfl _ _ rfl base _ _ _ ys rfl HW2.out cb _ (by rw[hcb.out,Uz (by omega)];first | omega | rfl) rfl (by omega) hb2 ?_);intro a3 c3 w3 h1 h2;have H1:=zH h1;clear h1;go_wp2;go_roundw
      case rel=>exact⟨v / 128,ys.length+1,ys ++ [cb],a3,c3,rfl,by go_num,by omega,zH (by rw[List.append_assoc,List.singleton_append,hcb.out,<-Z3l (by omega)];exact HY.out),zH (by rw[List.map_append];exact H1.out),zH (HA2.out.step h2)⟩
      case measure=>simp[intOf];omega
     ·go_wp2_with (at_builtin;refine Z7I _ rfl _ _ rfl base _ _ _ ys rfl HW2.out cd (v:Int) (by rw[hcd.out,Uz (by omega)]) rfl (by omega) hb2 ?_);intro a3 c3 w3 h1 h2;have H1:=zH h1;clear h1;have HE:=zH (show ys ++ [cd]=xs ++ ZA (zs.take (k+1))by rw[hcd.out,<-Z3k (by omega)];exact HY.out);go_wp2;go_roundw
      case rel=>exact⟨k+1,ys.length+1,a3,c3,rfl,by omega,by go_num,zH (by rw[<-HE.out,List.map_append];exact H1.out),zH (HA2.out.step h2)⟩
      case measure=>simp[intOf];omega
  ·have hkn:k=n:=by omega
   subst hkn;have hm:m=(xs ++ ZA zs).length:=by
    have:=HW.out.1;rw[List.take_of_length_le (by rw[hl.out];exact Nat.le_refl _)]at this;simpa using this.symm
   have HWW:=zH (show wr.ownsRow base 5 1 (.slice a' m c') m ((xs ++ ZA zs).map Zs)by
    have:=HW.out;rwa [List.take_of_length_le (by rw[hl.out];exact Nat.le_refl _)]at this)
   subst hm;go_wp2;go_ret;exact⟨_,_,rfl,HWW.out,HA.out.s⟩
theorem Z8t {l:List Z8}{k:Nat}{x:Z8}(h:l[k]? = some x):Yo (l.take (k+1))=Yo (l.take k) ++ (XE ((Y7 x).length:Int) ++ Y7 x):=by
 rw[List.take_add_one,h];simp[Yo]
theorem Z2W: ∀(l:List Z8),(∀x∈l,(Y7 x).length<=8192)->(Yo l).length<=l.length * 8210
 | [],_=>Nat.zero_le _
 | x :: l,h=>by
  have h1:=Z2W l (fun y hy=>h y (List.mem_cons_of_mem _ hy))
  have h2:=h x (List.mem_cons_self ..)
  have h3:=Qo [((Y7 x).length:Int)] (fun z hz=>by rw[List.mem_singleton.1 hz];unfold Jl;omega)
  rw[Jy]at h3
  show((XE ((Y7 x).length:Int) ++ Y7 x) ++ Yo l).length<=(l.length+1) * 8210
  rw[List.length_append,List.length_append]
  simp at h3
  omega
theorem ZaG (p:Nat)(F:Nat->Prop)(V:ZD)(a:YU)(sa:zA)(sc:Nat)(m:MlV)(c:List Int)(S:Zf)(w:World)(h:Vu w p F V)(hm:Qr V a.idx=some m)(hS:Y9 (Xf V a.idx) m.to=some S)(hmc:m.cont = .ask c)(hi:Xe S)(hcc:c.length=8 /\ ∀z∈c,0<=z/\z<=400)(hn:S.l.length<=400)(hk:Z04 S c≠[])(hml:V.ms.length<=64):
  Calls zq 90 #[.pointer (some ⟨p,0,none⟩),.agg (a.cells sa sc).toArray] w fun e w'=>e = .returned (.int .i64 0)/\Yj w p F (Vg (JM (Xf V a.idx) m.to S.sync) ⟨m.to,m.frm,.gift ((Z04 S c).take 16)⟩) w':=by
 have J19:(zq.info? 47).map (·.size)=some 19:=by kernel_rfl
 have HC:=zH hcc;have HN:Hid (S.sync.l.length<=400):=zH hn;have HMC:=zH (show m.body=(Xa.ask c).body by unfold MlV.body;rw[hmc]);have LK:=zH hk;have DL:Hid ((Xf V a.idx).ms.length<=64):=zH (Nat.le_trans (List.eraseIdx_sublist V.ms a.idx.toNat).length_le hml);have LF:Hid (∀x∈Z04 S c,Zg S.f x=true/\x.Ok):=zH (fun x hx=>⟨hi.frm x (List.mem_filter.1 hx).1,hi.ok x (List.mem_filter.1 hx).1⟩);clear hcc hn hmc hk hml;have I3:=zH (show ∀x y z:Value,(zq.info? 152).map (·.size)=some (#[x,y,z]:ZV).size from fun x y z=>by kernel_rfl);have hmf : ∀(fn:Fn) (first cap:ZV) (w:World),(Instr.makeFunc fn first cap).run zq w = .ok (.func fn first cap) w:=fun _ _ _ _=>rfl;have b0:=zB w (.cells (a.cells sa sc).toArray 67);have C3:=zH (show(a.cells sa sc).toArray[3]? = some (.int .i64 a.idx)from rfl);obtain⟨OA,hOA⟩:=zX ((a.cells sa sc).toArray);rw[hOA.out]at b0 C3 ⊢;have X0:=zH (Z9 w (.cells OA 67));have H0:=zH (h.below Zl b0);have B0:=zH b0;have HI:=zH hi;clear b0 hOA h hi;go_enter Tryz.func90,Tryz.ntmps90;go_upto_region 1 with fail;obtain⟨p3,hp3⟩:=zX (w.heap.size);rw[hp3.out]at X0 ⊢;generalize w.alloc (.cells OA 67)=W0 at *;have c1:=Z6 X0.out 3 (.int .i64 a.idx) C3.out;go_wp2_with fail;refine(UT p F V a.idx m _ H0.out hm).mono ?_;rintro e w1 ⟨ba,bc,rfl,hb,hr⟩;obtain⟨F1,g1,g2,g3⟩:=hr;obtain⟨ps,Fs,ha,hc,xs,ma,mc,h1,h2⟩:=g1.open;obtain⟨k,q,Fk,e1,e2,u1,u2,u3,u4⟩:=h1.at hS;have FIN:Hid (∀V' w',Yj w1 p F1 V' w'->Yj w p F V' w'):=zH (fun V' w' r=>(r.comp g2 g3).after B0.out);obtain⟨mb,sp,G,SF,k1,k2⟩:=u3;have HK:=zH k1;have K2:=zH k2;have RB:=zH hb;have H1:=zH h1;have H2:=zH h2;have UU:=zH (And.intro e2 (And.intro u1 u2));have RET:Hid (∀S' w',Z1Q Uu w1 q Fk S' w'->Yj w p F (JM (Xf V a.idx) m.to S') w'):=zH (fun S' w' j=>FIN.out _ _ (by rw[h2];exact h1.ret Zl e2 u1 u2 j));have HH:Hid (∀w2,Below w1.heap.size w1 w2->Calls zq 86 #[.pointer (some ⟨p,0,none⟩),.int .i64 m.to] w2 fun e w'=>e = .returned (.pointer (some ⟨q,0,none⟩))/\w'=w2):=zH (fun w2 b2=>Xi (h1.below Zl b2) m.to k q e1 u1)
 have LT1:Hid (∀k,Yd q mb G SF k->k < w1.heap.size):=zH k1.lt;clear c1 hm hb g1 g2 g3 h1 h2 e1 e2 u1 u2 u4 k1 k2 hS H0 X0;go_upto_region 2 with (refine Zr w1 rfl 152 _ _ rfl w1.heap.size rfl _ #[.int .i64 m.frm,.int .i64 m.to,.slice ba m.body.length bc] rfl rfl (I3.out _ _ _) rfl (Qj m.frm m.to (ba,m.body.length,bc)) ?_);have b2:Below w1.heap.size w1 (w1.alloc (.cells #[.int .i64 m.frm,.int .i64 m.to,.slice ba m.body.length bc] 152)):=zB _ _;have B2:=zH b2;have X5:=zH (Z9 w1 (.cells #[.int .i64 m.frm,.int .i64 m.to,.slice ba m.body.length bc] 152));obtain⟨p5,hp5⟩:=zX (w1.heap.size);rw[hp5.out]at X5 ⊢;clear b2;generalize w1.alloc (.cells #[.int .i64 m.frm,.int .i64 m.to,.slice ba m.body.length bc] 152)=w2 at *;have c51:=Z6 X5.out 1 (.int .i64 m.to) rfl;go_wp2_with fail;refine(HH.out w2 B2.out).mono ?_;rintro e w3 ⟨rfl,rfl⟩;clear HH;go_upto_region 8 with fail;obtain⟨W,p7,p8,p9,p10,hW,h7,h8,h9,h10,bW,i7,i8,i9,i10⟩:=ZbQ w3 q;rw[h10,h9,h8,h7,hW];have GE:Hid (w1.heap.size<=p7/\w1.heap.size<=p8/\w1.heap.size<=p9/\w1.heap.size<=p10):=zH (by have:=B2.out.size;omega);have BW:=zH (B2.out.trans (bW.mono B2.out.size));replace X5:=zH (Z7 bW X5.out);have I7:=zH i7;have I8:=zH i8;have I9:=zH i9;have I10:=zH i10;clear hW h7 h8 h9 h10 bW i7 i8 i9 i10 c51 B2;have c52:=Z6 X5.out 2 (.slice ba m.body.length bc) rfl;go_wp2_with fail;refine(Z5A p10 p8 p7 p9 q c ba _ bc W (HMC.out ▸ Yg.below RB.out BW.out) I10.out I8.out I7.out (fun z hz=>by have:=HC.out.2 z hz;unfold Ym far;omega) (by have:=HC.out.1;omega)).mono ?_;rintro e W9 ⟨rfl,ca,c2,eA,eH,eC,oc,s9⟩;have B9:=zH (s9.below BW.out BW.out.size (fun j hj=>by
  have h1:=GE.out;rcases hj with e | e
  ·rw[e];exact h1.2.2.2
  ·rw[e];exact h1.2.1))
 have E5:=zH ((s9.block p5 (Zj X5.out) (fun e=>by
  rcases e with e | e
  ·exact Z2x X5.out I10.out (by decide) e
  ·exact Z2x X5.out I8.out (by decide) e)).trans X5.out)
 have OC:=zH oc;have E7:=zH eH;have E8:=zH eC;have c10:=Z6 eA 0 (.bool true) rfl;have c7:=Z6 eH 0 (.pointer (some ⟨q,0,none⟩)) rfl;clear eA eH eC oc s9 c52 hmf X5;go_wp2_with fail;refine(Jh q mb sp G SF S W9 (HK.out.below B9.out)).mono ?_;rintro e W10 ⟨rfl,j1,j2⟩;have SPL:=zH (LT1.out sp (.inr (.inr (.inl HK.out.stk.self))));have hno : ∀{j:Nat} {o:Obj},W9.heap[j]? = some o->w1.heap.size<=j->W10.heap[j]? = some o:=fun {j o} hj hl=>(j2.block j (Zj hj) (fun e=>by have h1:=SPL.out;have h2:j=sp:=e;omega)).trans hj;have F5:=zH (hno E5.out (by rw[hp5.out];exact Nat.le_refl _));have F7:=zH (hno E7.out GE.out.1);have F8:=zH (hno E8.out GE.out.2.1);have OC2:=zH (Ze OC.out j2 (fun b hb e=>by
  have h1:=(OC.out.lt b hb).1;have h2:=SPL.out;have h3:=BW.out.size;have h4:b=sp:=e;omega))
 have J1:=zH j1;have J2:Hid (Za (Yd q mb G SF) w1 W10):=zH ((Za.of_below B9.out).trans (j2.weaken (fun b hb=>by rw[show b=sp from hb];exact .inr (.inr (.inl HK.out.stk.self)))));clear hno j1 j2 c10 c7 E5 E7 E8 OC;have c7:=Z6 F7.out 0 (.pointer (some ⟨q,0,none⟩)) rfl;have c8:=Z6 F8.out 0 (.slice ca c.length c2) rfl;go_wp2_with fail;refine(Z1z q mb sp G SF S.sync c ca c.length c2 W10 J1.out HI.out.sync HN.out (ZW.of_own OC2.out)).mono ?_;rintro e W11 ⟨⟨la,ln,lc,zs,rfl,kp,zn⟩,b11⟩;have ZN:Hid (zs.map LN.n=Z04 S c):=zH zn;have LN0:Hid (zs.length=ln):=zH kp.rd.1;have KP:=zH kp;have B11:=zH b11;clear kp zn b11 c7 c8;have NP:Hid (0 < ln):=zH (by
  have h1:=LN0.out;have h2:=ZN.out;rcases Nat.eq_zero_or_pos ln with h3 | h3
  ·rw[h3]at h1;rw[List.eq_nil_of_length_eq_zero h1]at h2;exact absurd h2.symm LK.out
  ·exact h3)
 have t1:((ln:Int)==0)=false:=by have:=NP.out;simp;omega
 have t2:(ln==0)=false:=by have:=NP.out;simp;omega
 go_upto_region 16 with fail;clear t1 t2;obtain⟨hh,hhh⟩:=zX (min ln 16);have HL:Hid (hh<=ln/\hh<=16):=zH (by have:=hhh.out;omega);have hmin:min (ln:Int) 16=(hh:Int):=by have:=hhh.out;omega
 obtain⟨ja,hcut,hj⟩:=ZcV (Zdm KP.out.rd) 0 hh none (some (.int .i64 (hh:Int))) (.inl ⟨rfl,rfl⟩) (.inr ⟨_,rfl⟩) (Nat.zero_le _) HL.out.1;rw[Nat.sub_zero,Nat.sub_zero,List.drop_zero]at hj;rw[Nat.sub_zero,Nat.sub_zero]at hcut;have RL:=zH (show UQ W11 ja hh lc (zs.take hh)from Z1r hj (fun x hx=>Z8X KP.out.rd (List.mem_of_mem_take hx)));clear hj;go_upto_region 17 with fail;clear hcut hmin;obtain⟨l,hl⟩:=zX ((Z04 S c).take 16);have LL:Hid (l.length=hh):=zH (by rw[<-hl.out,List.length_take,<-ZN.out,List.length_map,LN0.out];have:=hhh.out;omega);have ZL:Hid ((zs.take hh).map LN.n=l):=zH (by
  have h1:(Z04 S c).length=ln:=by rw[<-ZN.out,List.length_map,LN0.out]
  rw[List.map_take,ZN.out,<-hl.out,<-hhh.out];rcases Nat.le_total ln 16 with h2 | h2
  ·rw[Nat.min_eq_left h2,List.take_of_length_le (by omega),List.take_of_length_le (by omega)]
  ·rw[Nat.min_eq_right h2])
 have LF2:Hid (∀x∈l,Zg S.f x=true):=zH (fun x hx=>(LF.out x (List.mem_of_mem_take (hl.out ▸ hx))).1);have GB:Hid (∀k,(Yo (l.take k)).length<=16 * 8210):=zH (fun k=>by
  have h1:=Z2W (l.take k) (fun x hx=>by have:=Q7 HI.out.v (LF2.out x (List.mem_of_mem_take hx));omega);have h2:(l.take k).length<=16:=by rw[List.length_take,LL.out];have:=HL.out.2;omega
  have h3:=Nat.mul_le_mul_right 8210 h2;omega)
 have ih2 : ∀z∈[(2:Int),(hh:Int)],Jl z:=fun z hz=>by
  have:=HL.out.2;rcases List.mem_cons.1 hz with e | hz
  ·rw[e];unfold Jl;omega
  ·rw[List.mem_singleton.1 hz];unfold Jl;omega
 have h2i:=fun W=>Z5M W 2 (hh:Int);go_wp2_with fail;have b12:Below W11.heap.size W11 (W11.alloc (.cells #[.int .i64 2,.int .i64 (hh:Int)] 3)):=zB _ _;have EL:Hid ((ZA [2,(hh:Int)]).length<=20):=zH (by have h1:=Qo [2,(hh:Int)] ih2;simp at h1;omega);refine(VG W11.heap.size none 0 0 [] (some ⟨W11.heap.size,0,none⟩) 2 2 [2,(hh:Int)] _ b12.size (World.ownsRow_nil _ _ _ _) (ZaQ W11 2 hh) (fun _=>Z54 W11.heap.size W11 2 hh) ih2 (by rw[List.nil_append];have:=EL.out;omega)).mono ?_;rintro e W12 ⟨ba2,bc2,rfl,o12,ab12⟩;rw[List.nil_append]at o12 ⊢;have O12:=zH o12;have B12:=zH (ab12.into b12 b12.size);obtain⟨X,HX⟩:=zX (ZA [2,(hh:Int)]);rw[HX.out]at O12 EL ⊢;obtain⟨m0,hm0⟩:=zX (X.length);rw[hm0.out]at O12 ⊢;clear o12 ab12 b12 ih2 h2i;go_wp2_with fail;have STH:Hid (JM (Xf V a.idx) m.to S.sync = { Xf V a.idx with hs:=(Xf V a.idx).hs.set k S.sync }):=zH (JY UU.out.1);go_loopw [12,62] (fun bv iv wr=>∃(k mm:Nat) (a':zA) (c':Nat),bv = .slice a' mm c'/\k<=hh/\iv = .int .i64 (k:Int)/\Hid (wr.ownsRow W11.heap.size 5 1 (.slice a' mm c') mm ((X ++ Yo (l.take k)).map Zs))/\Hid (Below W11.heap.size W11 wr)) (fun _ iv _=>hh - (intOf iv).toNat)
 case atStart=>exact⟨0,m0,ba2,bc2,rfl,Nat.zero_le _,rfl,zH (by simpa [Yo] using O12.out),B12⟩
 case round=>
  clear O12 B12;obtain⟨k,mm,a',c',rfl,hk,rfl,HW,HB⟩:=hrel;by_cases hlt:k < hh
  ·have t0:decide ((k:Int) < (hh:Int))=true:=by simp;omega
   obtain⟨x,Hx⟩ : ∃x,(zs.take hh)[k]? = some x:=⟨_,List.getElem?_eq_getElem (by rw[RL.out.1];exact hlt)⟩;have HLX:=zH (show l[k]? = some x.n by rw[<-ZL.out,List.getElem?_map,Hx];rfl);have XF:=zH (LF2.out x.n (List.mem_of_getElem? HLX.out));have RW:=RL.out.below HB.out;have XK:=zH (show x.ok wr from Z8X RW (List.mem_of_getElem? Hx));obtain⟨b,off,rfl,hat⟩:=RW.at (by omega);obtain⟨o,ho⟩:=zX (off+k * 19);have HXC:=zH (hat k x Hx).1;rw[ho.out]at HXC;have hix:=fun W=>YR (W:=W) (c:=lc) (b:=b) Tryz.underlying24 J19 hlt ho.out;have hbs:W11.heap.size<=wr.heap.size:=HB.out.size;have E1:=zH (show wrap64 ((k:Int)+1)=(k:Int)+1 by have:=HL.out.2;unfold wrap64;omega);clear hat Hx RW;go_upto_region 21 with (first
    |(refine wpList_load_mid rfl 47 _ rfl b o rfl (x.n.cells x.sa x.sc) _ HXC.out Tryz.underlying47 rfl (Z13 x.n x.sa x.sc) ?_)
    |(refine zP wr wr.heap.size (Z5 x.n x.sa x.sc) ?_)
    | fail)
   have bt:Below wr.heap.size wr (wr.alloc (.cells (Z5 x.n x.sa x.sc) 47)):=zB _ _;have N14:=zH (Z9 wr (.cells (Z5 x.n x.sa x.sc) 47));have HW2:=zH (Zd HW.out bt);have HB2:=zH (HB.out.trans (bt.mono hbs));have XK2:=zH (XK.out.below bt);have HS2:=zH (Nat.le_trans hbs bt.size);obtain⟨p14,hp14⟩:=zX (wr.heap.size);rw[hp14.out]at N14 ⊢;generalize wr.alloc (.cells (Z5 x.n x.sa x.sc) 47)=wt at *;clear bt hp14 hix t0 HXC hbs HW HB XK;go_wp2_with (first
    |(refine zL p14 N14.out ?_)
    | fail)
   refine(QW x.n x.sa x.sc wt XK2.out (J4 HI.out.v XF.out) (Nat.le_trans (Jx HI.out.v XF.out) (by decide))).mono ?_;rintro e w4 ⟨a4,c4,rfl,h4,b4⟩;have H4:=zH h4;have O4:=zH (Zd HW2.out b4);have B4:=zH (HB2.out.trans (b4.mono HS2.out));have hb4:W11.heap.size<=w4.heap.size:=Nat.le_trans HS2.out b4.size;have LE:Hid ((Y7 x.n).length<=2190):=zH (Q7 HI.out.v XF.out);have HM:Hid (mm=(X ++ Yo (l.take k)).length):=zH (by have:=HW2.out.1;simpa using this.symm);have MB:Hid (mm<=20+16 * 8210):=zH (by
    have h1:=HM.out;rw[List.length_append]at h1;have h2:=EL.out;have h3:=GB.out k;omega)
   obtain⟨m4,HM4⟩:=zX ((Y7 x.n).length);rw[HM4.out]at H4 LE ⊢;have h1i:=fun W=>Z5N W (m4:Int);have HWT:=zH HW2.out;clear h4 b4 HW2 HB2 N14 XK2;go_wp2_with fail;have b5:Below w4.heap.size w4 (w4.alloc (.cells #[.int .i64 (m4:Int)] 3)):=zB _ _;have im : ∀z∈[(m4:Int)],Jl z:=fun z hz=>by rw[List.mem_singleton.1 hz];have:=LE.out;unfold Jl;omega
   have ZE:Hid ((ZA [(m4:Int)]).length<=10):=zH (by have h1:=Qo [(m4:Int)] im;simp at h1;omega);have hbm:W11.heap.size<=(w4.alloc (.cells #[.int .i64 (m4:Int)] 3)).heap.size:=Nat.le_trans hb4 b5.size;rw[HM.out]at O4 ⊢;have OX:=zH (Zd O4.out b5);have OLT:=zH (fun j hj=>(O4.out.lt j hj));refine(Z9y W11.heap.size a' _ c' (X ++ Yo (l.take k)) (some ⟨w4.heap.size,0,none⟩) 1 1 [(m4:Int)] _ hbm OX.out (Z27 w4 m4) (fun b off e=>by
    cases e;intro h9;have:=(OLT.out _ h9).2;omega) im (by rw[List.length_append,<-HM.out];have:=MB.out;have:=ZE.out;omega)).mono ?_
   rintro e w5 ⟨a5,c5,rfl,o5,s5⟩;have H45:=Zd H4.out b5;have R5:=zH (show Yg w5 a4 m4 c4 (Y7 x.n)from Yg.of_own (Ze H45 s5 (fun j hj e=>by
    have h9:=(H4.out.lt j hj).1;rw[<-Z3e a' (X ++ Yo (l.take k)).length c']at e;have h10:=(HWT.out.lt j (by rw[HM.out];exact e)).2;omega)))
   have O5:=zH o5;have B5:=zH (s5.below (B4.out.trans (b5.mono hb4)) hbm (fun j e=>(OLT.out j (by rw[Z3e a' (X ++ Yo (l.take k)).length c'];exact e)).1));have HX5:Hid ((X ++ Yo (l.take k)) ++ ZA [(m4:Int)]=X ++ (Yo (l.take k) ++ XE (m4:Int))):=zH (by rw[Jy,List.append_assoc]);obtain⟨Y,hY⟩:=zX ((X ++ Yo (l.take k)) ++ ZA [(m4:Int)]);have YL:Hid (Y.length<=30+16 * 8210):=zH (by rw[<-hY.out,List.length_append,<-HM.out];have:=MB.out;have:=ZE.out;omega);rw[hY.out]at O5 ⊢;obtain⟨my,hmy⟩:=zX (Y.length);rw[hmy.out]at O5 YL ⊢;have hml:my+m4<=140737488355328:=by have:=YL.out;have:=LE.out;omega
   have hb5:W11.heap.size<=w5.heap.size:=B5.out.size;clear o5 s5 b5 hbm im h1i H45 H4 OX OLT O4;go_wp2_with (first
    |(at_builtin;refine Z0D _ rfl _ _ rfl W11.heap.size _ _ _ Y rfl O5.out _ _ _ (Y7 x.n) rfl R5.out hml hb5 ?_)
    | fail)
   intro a7 c7 w7 h8 h9;have H7:=zH (show w7.ownsRow W11.heap.size 5 1 (.slice a7 (my+m4) c7) (my+m4) ((X ++ Yo (l.take (k+1))).map Zs)by
    rw[Z8t HLX.out,HM4.out,<-List.append_assoc (Yo (l.take k)),<-List.append_assoc X,<-HX5.out,hY.out,List.map_append];exact h8)
   have B7:=zH (B5.out.trans ((Jc.of_own O5.out h9).below hb5));clear h8 h9 hml hb5;have e1:=E1.out;go_wp2;go_roundw
   case rel=>exact⟨k+1,my+m4,a7,c7,by first | rfl | simp,by omega,by go_num,H7,B7⟩
   case measure=>clear e1;rw[E1.out];simp[intOf];omega
  ·have hkn:k=hh:=by omega
   subst hkn;have t0:decide ((k:Int) < (k:Int))=false:=by simp
   have HM:Hid (mm=(Xa.gift l).body.length):=zH (by
    have h1:=HW.out.1;rw[List.take_of_length_le (by rw[LL.out];exact Nat.le_refl _)]at h1;have h2:(Xa.gift l).body=X ++ Yo l:=by
     show XE 2 ++ (XE (l.length:Int) ++ Yo l)=_;rw[<-HX.out,LL.out,show ZA [2,(k:Int)]=XE 2 ++ XE (k:Int)by simp[ZA],List.append_assoc]
    rw[h2];simpa using h1.symm)
   have OB:Hid (wr.ownsRow W11.heap.size 5 1 (.slice a' (Xa.gift l).body.length c') (Xa.gift l).body.length ((Xa.gift l).body.map Zs)):=zH (by
    have h1:=HW.out;rw[List.take_of_length_le (by rw[LL.out];exact Nat.le_refl _),HM.out]at h1;have h2:(Xa.gift l).body=X ++ Yo l:=by
     show XE 2 ++ (XE (l.length:Int) ++ Yo l)=_;rw[<-HX.out,LL.out,show ZA [2,(k:Int)]=XE 2 ++ XE (k:Int)by simp[ZA],List.append_assoc]
    rw[<-h2]at h1;exact h1)
   rw[HM.out];clear HW;obtain⟨Fs',v1,v2,v3⟩:=H1.out.house Zl UU.out.2.1 UU.out.2.2 (Z1C K2.out J1.out J2.out (fun k hk=>.inl hk));have HA:=zH v1;have BX:=zH (B11.out.trans (HB.out.mono B11.out.size));have PB:=zH (Z7 BX.out v1.blk);have PX:=zH (Z7 BX.out F5.out);have DIS:Hid (∀V' w',Yj W10 p (wF p Fs' ha ps.length hc xs ma mc) V' w'->Yj w p F V' w'):=zH (fun V' w' r=>FIN.out V' w' (by
    rw[H2.out];exact r.comp (v2.weaken (fun j hj=>.inr (.inr (.inl hj)))) v3))
   have XL64:Hid (xs.length<=64):=zH (by rw[<-H1.out.nm];exact DL.out);clear v1 v2 v3 HB;go_upto_region 24 with fail;clear t0;refine bD 15 (fun W'=>W'.heap[p]? = some (.cells #[.slice ha ps.length hc,.slice ma xs.length mc] 141)/\W'.heap[p5]? = some (.cells #[.int .i64 m.frm,.int .i64 m.to,.slice ba m.body.length bc] 152)) ⟨PB.out,PX.out⟩ (fun hh=>?_);have BDR:=zH (BX.out.trans ((zd wr).mono BX.out.size));have OBR:=zH (Zd OB.out (zd wr));generalize wr.drew=V2 at *;clear PB PX OB BX;refine bW 0 rfl (.pointer (some ⟨p,0,none⟩)) ?_;refine bW 1 rfl (.pointer (some ⟨p,0,none⟩)) ?_;refine bW 2 rfl (.pointer (some ⟨p,0,none⟩)) ?_;refine bW 3 rfl (.pointer (some ⟨p,1,none⟩)) ?_;refine bS 4 rfl (.slice ma xs.length mc) (fun W hW=>by have c:=Z6 hW.1 1 (.slice ma xs.length mc) rfl;go_simp) ?_;refine bW 5 rfl (.pointer (some ⟨p5,1,none⟩)) ?_;refine bS 6 rfl (.int .i64 m.to) (fun W hW=>by have c:=Z6 hW.2 1 (.int .i64 m.to) rfl;go_simp) ?_;refine bW 7 rfl (.pointer (some ⟨p5,0,none⟩)) ?_;refine bS 8 rfl (.int .i64 m.frm) (fun W hW=>by have c:=Z6 hW.2 0 (.int .i64 m.frm) rfl;go_simp) ?_;refine bW 9 rfl (.slice a' (Xa.gift l).body.length c') ?_;refine bW 10 rfl (.agg #[.int .i64 m.to,.int .i64 m.frm,.slice a' (Xa.gift l).body.length c']) ?_;refine bR 11 rfl (fun K hK=>?_);rw[if_pos (by kernel_rfl)];refine Q6 (w':=V2.alloc (.cells #[.int .i64 m.to,.int .i64 m.frm,.slice a' (Xa.gift l).body.length c'] 152)) (.slice (some ⟨V2.heap.size,0,none⟩) 1 1) (by kernel_rfl) ?_;have b6:Below V2.heap.size V2 (V2.alloc (.cells #[.int .i64 m.to,.int .i64 m.frm,.slice a' (Xa.gift l).body.length c'] 152)):=zB _ _;have R6:=zH (Z41 V2 (.int .i64 m.to) (.int .i64 m.frm) (.slice a' (Xa.gift l).body.length c'));have O6:=zH (Zd OBR.out b6);have B6:=zH (BDR.out.trans (b6.mono BDR.out.size));have hS6:=And.intro (Z7 b6 hh.1) (Z7 b6 hh.2);clear b6 hh;obtain⟨p6,hp6⟩:=zX (V2.heap.size);rw[hp6.out]at R6 ⊢;generalize V2.alloc (.cells #[.int .i64 m.to,.int .i64 m.frm,.slice a' (Xa.gift l).body.length c'] 152)=V6 at *
   refine bK hK hS6 (fun hh=>?_);clear hK K hS6;refine bR 12 rfl (fun K hK=>?_);rw[if_pos (by kernel_rfl)];obtain⟨a7,c7,V7,hrun,ho,hg,hl7⟩:=Z15 V6 0 ma xs.length mc (Zz xs) (Zd HA.out.mrow B6.out) (some ⟨p6,0,none⟩) 1 1 _ R6.out (by intro u hu;simp at hu;rcases hu with rfl | rfl | rfl <;> rfl) (by have:=XL64.out;omega) (Nat.zero_le _);refine ZR _ _ _ rfl _ _ _ rfl rfl hrun ?_;clear hrun;have HO:=zH ho;have HG:=zH hg;have HLO:=zH hl7;have hne : ∀{cur:ZV} {t:TypeId} {g:Nat},V6.heap[g]? = some (.cells cur t (0,0))->152≠t->Value.ownBlock (.slice ma xs.length mc)≠some g:=fun hgg ht=>ZH (Zd HA.out.mrow B6.out) hgg ht;have h5lt:w1.heap.size<=p5:=by rw[hp5.out];exact Nat.le_refl _
   have hne5:Value.ownBlock (.slice ma xs.length mc)≠some p5:=fun e=>by have h1:=(H1.out.mrow.lt p5 e).2;omega
   have hS7:=And.intro (Zc hg hh.1 (Ne.symm (hne hh.1 (by decide)))) (Zc hg hh.2 (Ne.symm hne5));clear ho hg hl7 hne hh hne5 h5lt;refine bK hK hS7 (fun hh=>?_);clear hK K hS7;refine bR 13 rfl (fun K hK=>?_);go_simp;refine bK hK hh (fun hh=>?_);clear hK K;refine bW 14 rfl (.pointer (some ⟨p,1,none⟩)) ?_;refine bL rfl (fun K hK=>?_);have hce:=Z6 hh.1 1 (.slice ma xs.length mc) rfl;have hfz:=Zq hh.1 1;have P8:(V7.setCell ⟨p,1,none⟩ (.slice a7 (xs.length+1) c7)).heap[p]? = some (.cells #[.slice ha ps.length hc,.slice a7 (xs.length+1) c7] 141):=ZI hh.1 1 _;obtain⟨x,hx⟩ : ∃x:LM,Hid (x=⟨⟨m.to,m.frm,.gift l⟩,a',c'⟩):=⟨_,zH rfl⟩;have FN:Hid (Yj w p F (Vg (JM (Xf V a.idx) m.to S.sync) x.m) (V7.setCell ⟨p,1,none⟩ (.slice a7 (xs.length+1) c7))):=zH (by
    rw[STH.out];refine DIS.out _ _ ?_;refine HA.out.send Zl (by decide) (by decide) (by decide) (by decide) (by decide) x B6.out ?_ ?_ (ma':=a7) (mc':=c7) ?_ HG.out HLO.out P8 (JE V7 p 1 _)
    ·rw[hx.out];exact Zu O6.out (Nat.zero_le _)
    ·intro j hj;rw[hx.out]at hj;have h1:=(O6.out.lt j hj).1;exact .inl (Nat.le_trans B11.out.size h1)
    ·rw[hx.out];exact HO.out)
   clear P8 hh;go_simp;refine hK.out _ _ ?_;clear hK K hce hfz;refine bE ?_;go_wp2;go_ret;rw[hl.out];refine⟨rfl,?_⟩;have h9:=FN.out;rw[hx.out]at h9;exact h9
open Go.Maps (Keyed)
def YW (g p:Nat):Value := .func (.func g) #[.pointer (some ⟨p,0,none⟩)] #[]
def Zd6 (p:Nat):DataW Value:=((((((((DataW.map []).put (.int .i64 1) (.held (YW 87 p))).put (.int .i64 2) (.held (YW 88 p))).put (.int .i64 3) (.held (YW 89 p))).put (.int .i64 4) (.held (YW 90 p))).put (.int .i64 5) (.held (YW 91 p))).put (.int .i64 6) (.held (YW 92 p))).put (.int .i64 7) (.held (YW 93 p)))
def JB (p:Nat)(k:Int):Value:=if k=1 then (YW 87 p)else if k=2 then (YW 88 p)else if k=3 then (YW 89 p)else if k=4 then (YW 90 p)else if k=5 then (YW 91 p)else if k=6 then (YW 92 p)else if k=7 then (YW 93 p)else .nilFunc
theorem Zaz (w:World):(zeroValue 69).run zq w = .ok .nilFunc w:=by kernel_rfl
theorem Zd5 (p:Nat)(k:Int):(Zd6 p).atKey (.int .i64 k) (.held .nilFunc) = .held (JB p k):=by
 by_cases h:k=1\/k=2\/k=3\/k=4\/k=5\/k=6\/k=7
 ·rcases h with rfl | rfl | rfl | rfl | rfl | rfl | rfl <;> rfl
 ·have hn : ∀j:Int,k≠j->(Lit.int .i64 k)≠(Lit.int .i64 j):=fun j hj e=>hj (by injection e);unfold Zd6;rw[Go.Maps.atKey_put_other (hn _ (by omega)),Go.Maps.atKey_put_other (hn _ (by omega)),Go.Maps.atKey_put_other (hn _ (by omega)),Go.Maps.atKey_put_other (hn _ (by omega)),Go.Maps.atKey_put_other (hn _ (by omega)),Go.Maps.atKey_put_other (hn _ (by omega)),Go.Maps.atKey_put_other (hn _ (by omega))];unfold JB;rw[if_neg (by omega),if_neg (by omega),if_neg (by omega),if_neg (by omega),if_neg (by omega),if_neg (by omega),if_neg (by omega)];rfl
theorem Z1x {W:World}{b p:Nat}(h:W.ownsMap zq 3 JV b 7 (Zd6 p))(k:Int)(hk:Jl k):(Instr.lookup 143 (.map (some b)) (.int .i64 k) false).run zq W = .ok (JB p k) W:=by
 obtain⟨v',ps,h1,h2⟩:=h.lookup JI Tryz.underlying143 (Zaz W) (zd := .held .nilFunc) (zp:=[]) rfl (Go.Maps.keyOf_int_mk Tryz.underlying3 (by
  show(decide ((-9223372036854775808:Int)<=k) && decide (k<=9223372036854775807))=true;unfold Jl at hk;rw[Bool.and_eq_true,decide_eq_true_eq,decide_eq_true_eq];omega))
 rw[Zd5 p k]at h2;simp only[JV,Option.some.injEq,Prod.mk.injEq,DataW.held.injEq]at h2;rw[h1,h2.1]
theorem Z1L (W:World)(p:Nat): ∃v1 v2 v3 v4 v5 v6 v7:World,(Instr.mapUpdate 143 (.map (some W.heap.size)) (.int .i64 1) (YW 87 p)).run zq (W.alloc (.map #[] 0)) = .ok () v1/\(Instr.mapUpdate 143 (.map (some W.heap.size)) (.int .i64 2) (YW 88 p)).run zq v1 = .ok () v2/\(Instr.mapUpdate 143 (.map (some W.heap.size)) (.int .i64 3) (YW 89 p)).run zq v2 = .ok () v3/\(Instr.mapUpdate 143 (.map (some W.heap.size)) (.int .i64 4) (YW 90 p)).run zq v3 = .ok () v4/\(Instr.mapUpdate 143 (.map (some W.heap.size)) (.int .i64 5) (YW 91 p)).run zq v4 = .ok () v5/\(Instr.mapUpdate 143 (.map (some W.heap.size)) (.int .i64 6) (YW 92 p)).run zq v5 = .ok () v6/\(Instr.mapUpdate 143 (.map (some W.heap.size)) (.int .i64 7) (YW 93 p)).run zq v6 = .ok () v7/\v7.ownsMap zq 3 JV W.heap.size 7 (Zd6 p)/\Below W.heap.size W v7:=by
 have ht:zq.underlying 143=some (.map 3 69):=Tryz.underlying143;have m0:=World.ownsMap_made W zq 3 JV;have b0:Below W.heap.size W (W.alloc (.map #[] 0)):=zB _ _;obtain⟨v1,r1,m1,u1⟩:=m0.store JI ht (by unfold maxLen;omega) (key := .int .i64 1) (kl := .int .i64 1) (by kernel_rfl) (val:=(YW 87 p)) (d := .held (YW 87 p)) (ps:=[]) rfl;obtain⟨v2,r2,m2,u2⟩:=m1.store JI ht (by unfold maxLen;omega) (key := .int .i64 2) (kl := .int .i64 2) (by kernel_rfl) (val:=(YW 88 p)) (d := .held (YW 88 p)) (ps:=[]) rfl;obtain⟨v3,r3,m3,u3⟩:=m2.store JI ht (by unfold maxLen;omega) (key := .int .i64 3) (kl := .int .i64 3) (by kernel_rfl) (val:=(YW 89 p)) (d := .held (YW 89 p)) (ps:=[]) rfl;obtain⟨v4,r4,m4,u4⟩:=m3.store JI ht (by unfold maxLen;omega) (key := .int .i64 4) (kl := .int .i64 4) (by kernel_rfl) (val:=(YW 90 p)) (d := .held (YW 90 p)) (ps:=[]) rfl;obtain⟨v5,r5,m5,u5⟩:=m4.store JI ht (by unfold maxLen;omega) (key := .int .i64 5) (kl := .int .i64 5) (by kernel_rfl) (val:=(YW 91 p)) (d := .held (YW 91 p)) (ps:=[]) rfl;obtain⟨v6,r6,m6,u6⟩:=m5.store JI ht (by unfold maxLen;omega) (key := .int .i64 6) (kl := .int .i64 6) (by kernel_rfl) (val:=(YW 92 p)) (d := .held (YW 92 p)) (ps:=[]) rfl;obtain⟨v7,r7,m7,u7⟩:=m6.store JI ht (by unfold maxLen;omega) (key := .int .i64 7) (kl := .int .i64 7) (by kernel_rfl) (val:=(YW 93 p)) (d := .held (YW 93 p)) (ps:=[]) rfl;have g : ∀{a b:World},Below W.heap.size W a->a.mapTurned b W.heap.size->Below W.heap.size W b:=fun h t=>h.grown t.grown h.size (fun k e=>by cases e;omega);exact⟨v1,v2,v3,v4,v5,v6,v7,r1,r2,r3,r4,r5,r6,r7,m7,g (g (g (g (g (g (g b0 u1) u2) u3) u4) u5) u6) u7⟩
theorem Z9f (p:Nat)(F:Nat->Prop)(V:ZD)(OA:ZV)(k h:Int)(w:World)(hW:Vu w p F V)(hp0:0 < V.hs.length)(ik:Jl k)(h0:OA[0]? = some (.int .i64 k))(hh1:OA[1]? = some (.int .i64 h))(hk:JB p k = .nilFunc):
  Calls zq 31 #[.pointer (some ⟨p,0,none⟩),.agg OA] w fun e w'=>e = .returned (.int .i64 1)/\Yj w p F V w':=by
 have hf1 : ∀(fn:Fn) (x y:ZV) (w:World),(binOp .eql 69 (.func fn x y) .nilFunc).run zq w = .ok (.bool false) w:=fun _ _ _ _=>by kernel_rfl
 have hf0 : ∀(w:World),(binOp .eql 69 .nilFunc .nilFunc).run zq w = .ok (.bool true) w:=fun _=>by kernel_rfl
 have hmf : ∀(fn:Fn) (first cap:ZV) (w:World),(Instr.makeFunc fn first cap).run zq w = .ok (.func fn first cap) w:=fun _ _ _ _=>rfl;have hmm := @run_makeMap zq;have b0:=zB w (.cells OA 67);have X0:=zH (Z9 w (.cells OA 67));have B0:=zH b0;obtain⟨ps,Fs,ha,hc,xs,ma,mc,h1,h2⟩:=hW.open;have MD:=zH (Vw (h1.below Zl b0) (by rw[<-h1.nh];exact hp0));have C0:=zH h0;have IK:=zH ik;clear ik;have C1:=zH hh1;have HK:=zH hk;clear hk;have REFL:=zH (Qt.refl hW);clear b0 hW h1 h2 h0 hh1 hp0;go_enter Tryz.func31,Tryz.ntmps31;go_upto_region 1 with fail;obtain⟨p3,hp3⟩:=zX (w.heap.size);rw[hp3.out]at X0 ⊢;generalize w.alloc (.cells OA 67)=W0 at *;go_wp2_with fail;refine MD.out.mono ?_;rintro e w1 ⟨rfl,rfl⟩;obtain⟨v1,v2,v3,v4,v5,v6,v7,r1,r2,r3,r4,r5,r6,r7,m7,b7⟩:=Z1L w1 p;have B7:=zH (B0.out.trans (b7.mono B0.out.size));have X7:=zH (Z7 b7 X0.out);have LOOK:=zH (Z1x m7 k IK.out);unfold YW at r1 r2 r3 r4 r5 r6 r7;clear m7 b7 B0 X0 MD;go_upto_region 4 with fail;clear r1 r2 r3 r4 r5 r6 r7 hmm hmf;have c0:=Z6 X7.out 0 (.int .i64 k) C0.out;have c1:=Z6 X7.out 1 (.int .i64 h) C1.out;have lk:=LOOK.out;rw[HK.out]at lk;go_upto_region 5 with fail;clear lk;go_upto_region 6 with fail
 all_goals
  go_wp2;go_ret;exact⟨rfl,REFL.out.then Zl B7.out⟩
theorem QF (p:Nat)(F:Nat->Prop)(V:ZD)(OA:ZV)(k h:Int)(w:World)(hW:Vu w p F V)(hp0:0 < V.hs.length)(ik:Jl k)(h0:OA[0]? = some (.int .i64 k))(hh1:OA[1]? = some (.int .i64 h))(g:Nat)(hk:JB p k=YW g p)(hn:k≠4/\k≠5/\k≠6)(hs:Y9 V h=none):
  Calls zq 31 #[.pointer (some ⟨p,0,none⟩),.agg OA] w fun e w'=>e = .returned (.int .i64 1)/\Yj w p F V w':=by
 have hf1 : ∀(fn:Fn) (x y:ZV) (w:World),(binOp .eql 69 (.func fn x y) .nilFunc).run zq w = .ok (.bool false) w:=fun _ _ _ _=>by kernel_rfl
 have hf0 : ∀(w:World),(binOp .eql 69 .nilFunc .nilFunc).run zq w = .ok (.bool true) w:=fun _=>by kernel_rfl
 have hmf : ∀(fn:Fn) (first cap:ZV) (w:World),(Instr.makeFunc fn first cap).run zq w = .ok (.func fn first cap) w:=fun _ _ _ _=>rfl;have hmm := @run_makeMap zq;have b0:=zB w (.cells OA 67);have X0:=zH (Z9 w (.cells OA 67));have B0:=zH b0;obtain⟨ps,Fs,ha,hc,xs,ma,mc,h1,h2⟩:=hW.open;have MD:=zH (Vw (h1.below Zl b0) (by rw[<-h1.nh];exact hp0));have C0:=zH h0;have IK:=zH ik;clear ik;have C1:=zH hh1;have HK:=zH hk;have HH:Hid (∀W,Below w.heap.size w W->Calls zq 86 #[.pointer (some ⟨p,0,none⟩),.int .i64 h] W fun e w'=>e = .returned (.pointer none)/\w'=W):=zH (fun W hb=>Z09 (h1.below Zl hb) h (by have:=Z2o hs;rw[h1.nh]at this;exact this));have n4:(k==4)=false:=by simp[hn.1]
 have n5:(k==5)=false:=by simp[hn.2.1]
 have n6:(k==6)=false:=by simp[hn.2.2]
 have m4:(k != 4)=true:=by simp[hn.1]
 have m5:(k != 5)=true:=by simp[hn.2.1]
 have m6:(k != 6)=true:=by simp[hn.2.2]
 clear hk hn hs;have REFL:=zH (Qt.refl hW);clear b0 hW h1 h2 h0 hh1 hp0;go_enter Tryz.func31,Tryz.ntmps31;go_upto_region 1 with fail;obtain⟨p3,hp3⟩:=zX (w.heap.size);rw[hp3.out]at X0 ⊢;generalize w.alloc (.cells OA 67)=W0 at *;go_wp2_with fail;refine MD.out.mono ?_;rintro e w1 ⟨rfl,rfl⟩;obtain⟨v1,v2,v3,v4,v5,v6,v7,r1,r2,r3,r4,r5,r6,r7,m7,b7⟩:=Z1L w1 p;have B7:=zH (B0.out.trans (b7.mono B0.out.size));have X7:=zH (Z7 b7 X0.out);have LOOK:=zH (Z1x m7 k IK.out);unfold YW at r1 r2 r3 r4 r5 r6 r7;clear m7 b7 B0 X0 MD;go_upto_region 4 with fail;clear r1 r2 r3 r4 r5 r6 r7 hmm hmf;have c0:=Z6 X7.out 0 (.int .i64 k) C0.out;have c1:=Z6 X7.out 1 (.int .i64 h) C1.out;have lk:=LOOK.out;rw[HK.out]at lk;unfold YW at lk;go_upto_region 5 with fail;clear lk;go_upto_region 6 with fail;go_wp2_with fail;refine(HH.out _ B7.out).mono ?_;rintro e w8 ⟨rfl,rfl⟩;go_wp2;go_ret;exact⟨rfl,REFL.out.then Zl B7.out⟩
theorem U7 (p:Nat)(F:Nat->Prop)(V:ZD)(OA:ZV)(k h:Int)(w:World)(hW:Vu w p F V)(hp0:0 < V.hs.length)(ik:Jl k)(h0:OA[0]? = some (.int .i64 k))(hh1:OA[1]? = some (.int .i64 h))(g:Nat)(hk:JB p k=YW g p)(hn:k≠4/\k≠5/\k≠6)(S:Zf)(hs:Y9 V h=some S)(hsz:(zq.info? 67).map (·.size)=some OA.size)(hfn : ∀(args:ZV) (w:World),(callFunc g args).run zq w = .ok (.enter g args) w)(z:Int)(V2:ZD)
  (hg : ∀W,Below w.heap.size w W->Calls zq g #[.pointer (some ⟨p,0,none⟩),.agg OA] W fun e w'=>e = .returned (.int .i64 z)/\Yj W p F V2 w'):
  Calls zq 31 #[.pointer (some ⟨p,0,none⟩),.agg OA] w fun e w'=>e = .returned (.int .i64 z)/\Yj w p F V2 w':=by
 have hf1 : ∀(fn:Fn) (x y:ZV) (w:World),(binOp .eql 69 (.func fn x y) .nilFunc).run zq w = .ok (.bool false) w:=fun _ _ _ _=>by kernel_rfl
 have hf0 : ∀(w:World),(binOp .eql 69 .nilFunc .nilFunc).run zq w = .ok (.bool true) w:=fun _=>by kernel_rfl
 have hmf : ∀(fn:Fn) (first cap:ZV) (w:World),(Instr.makeFunc fn first cap).run zq w = .ok (.func fn first cap) w:=fun _ _ _ _=>rfl;have hmm := @run_makeMap zq;have b0:=zB w (.cells OA 67);have X0:=zH (Z9 w (.cells OA 67));have B0:=zH b0;obtain⟨ps,Fs,ha,hc,xs,ma,mc,h1,h2⟩:=hW.open;have MD:=zH (Vw (h1.below Zl b0) (by rw[<-h1.nh];exact hp0));have C0:=zH h0;have IK:=zH ik;clear ik;have C1:=zH hh1;have HK:=zH hk;have HG:=zH hg;have HSZ:=zH hsz;obtain⟨j,q,Fj,e1,e2,u1,u2,u3,u4⟩:=h1.at hs;have HH:Hid (∀W,Below w.heap.size w W->Calls zq 86 #[.pointer (some ⟨p,0,none⟩),.int .i64 h] W fun e w'=>e = .returned (.pointer (some ⟨q,0,none⟩))/\w'=W):=zH (fun W hb=>Xi (h1.below Zl hb) h j q e1 u1);have n4:(k==4)=false:=by simp[hn.1]
 have n5:(k==5)=false:=by simp[hn.2.1]
 have n6:(k==6)=false:=by simp[hn.2.2]
 have m4:(k != 4)=true:=by simp[hn.1]
 have m5:(k != 5)=true:=by simp[hn.2.1]
 have m6:(k != 6)=true:=by simp[hn.2.2]
 clear hk hn hs hg hsz e1 e2 u1 u2 u3 u4;have REFL:=zH (Qt.refl hW);clear b0 hW h1 h2 h0 hh1 hp0;go_enter Tryz.func31,Tryz.ntmps31;go_upto_region 1 with fail;obtain⟨p3,hp3⟩:=zX (w.heap.size);rw[hp3.out]at X0 ⊢;generalize w.alloc (.cells OA 67)=W0 at *;go_wp2_with fail;refine MD.out.mono ?_;rintro e w1 ⟨rfl,rfl⟩;obtain⟨v1,v2,v3,v4,v5,v6,v7,r1,r2,r3,r4,r5,r6,r7,m7,b7⟩:=Z1L w1 p;have B7:=zH (B0.out.trans (b7.mono B0.out.size));have X7:=zH (Z7 b7 X0.out);have LOOK:=zH (Z1x m7 k IK.out);unfold YW at r1 r2 r3 r4 r5 r6 r7;clear m7 b7 B0 X0 MD;go_upto_region 4 with fail;clear r1 r2 r3 r4 r5 r6 r7 hmm hmf;have c0:=Z6 X7.out 0 (.int .i64 k) C0.out;have c1:=Z6 X7.out 1 (.int .i64 h) C1.out;have lk:=LOOK.out;rw[HK.out]at lk;unfold YW at lk;go_upto_region 5 with fail;clear lk;go_upto_region 6 with fail;go_wp2_with fail;refine(HH.out _ B7.out).mono ?_;rintro e w8 ⟨rfl,rfl⟩;go_upto_region 8 with fail;go_wp2_with (first
  |(refine wpList_load_row rfl 67 _ rfl p3 rfl 67 OA (0,0) _ X7.out Tryz.underlying67 rfl HSZ.out ?_)
  | fail)
 refine(HG.out _ B7.out).mono ?_;rintro e w9 ⟨rfl,hr⟩;have RF:=zH (hr.after B7.out);clear hr c0 c1;go_wp2;go_ret;exact⟨rfl,RF.out⟩
theorem Z10 (p:Nat)(F:Nat->Prop)(V:ZD)(OA:ZV)(k h:Int)(w:World)(hW:Vu w p F V)(hp0:0 < V.hs.length)(ik:Jl k)(h0:OA[0]? = some (.int .i64 k))(hh1:OA[1]? = some (.int .i64 h))(g:Nat)(hk:JB p k=YW g p)(hn:k=4\/k=5\/k=6)(hsz:(zq.info? 67).map (·.size)=some OA.size)(hfn : ∀(args:ZV) (w:World),(callFunc g args).run zq w = .ok (.enter g args) w)(z:Int)(V2:ZD)
  (hg : ∀W,Below w.heap.size w W->Calls zq g #[.pointer (some ⟨p,0,none⟩),.agg OA] W fun e w'=>e = .returned (.int .i64 z)/\Yj W p F V2 w'):
  Calls zq 31 #[.pointer (some ⟨p,0,none⟩),.agg OA] w fun e w'=>e = .returned (.int .i64 z)/\Yj w p F V2 w':=by
 have hf1 : ∀(fn:Fn) (x y:ZV) (w:World),(binOp .eql 69 (.func fn x y) .nilFunc).run zq w = .ok (.bool false) w:=fun _ _ _ _=>by kernel_rfl
 have hf0 : ∀(w:World),(binOp .eql 69 .nilFunc .nilFunc).run zq w = .ok (.bool true) w:=fun _=>by kernel_rfl
 have hmf : ∀(fn:Fn) (first cap:ZV) (w:World),(Instr.makeFunc fn first cap).run zq w = .ok (.func fn first cap) w:=fun _ _ _ _=>rfl;have hmm := @run_makeMap zq;have b0:=zB w (.cells OA 67);have X0:=zH (Z9 w (.cells OA 67));have B0:=zH b0;obtain⟨ps,Fs,ha,hc,xs,ma,mc,h1,h2⟩:=hW.open;have MD:=zH (Vw (h1.below Zl b0) (by rw[<-h1.nh];exact hp0));have C0:=zH h0;have IK:=zH ik;clear ik;have C1:=zH hh1;have HK:=zH hk;have HG:=zH hg;have HSZ:=zH hsz;have HN:=zH hn;clear hk hn hg hsz;have REFL:=zH (Qt.refl hW);clear b0 hW h1 h2 h0 hh1 hp0;go_enter Tryz.func31,Tryz.ntmps31;go_upto_region 1 with fail;obtain⟨p3,hp3⟩:=zX (w.heap.size);rw[hp3.out]at X0 ⊢;generalize w.alloc (.cells OA 67)=W0 at *;go_wp2_with fail;refine MD.out.mono ?_;rintro e w1 ⟨rfl,rfl⟩;obtain⟨v1,v2,v3,v4,v5,v6,v7,r1,r2,r3,r4,r5,r6,r7,m7,b7⟩:=Z1L w1 p;have B7:=zH (B0.out.trans (b7.mono B0.out.size));have X7:=zH (Z7 b7 X0.out);have LOOK:=zH (Z1x m7 k IK.out);unfold YW at r1 r2 r3 r4 r5 r6 r7;clear m7 b7 B0 X0 MD;go_upto_region 4 with fail;clear r1 r2 r3 r4 r5 r6 r7 hmm hmf;have c0:=Z6 X7.out 0 (.int .i64 k) C0.out;have c1:=Z6 X7.out 1 (.int .i64 h) C1.out;have lk:=LOOK.out;rw[HK.out]at lk;unfold YW at lk;go_upto_region 5 with fail;clear lk;rcases HN.out with rfl | rfl | rfl
 all_goals
  go_upto_region 6 with fail;go_upto_region 8 with fail;go_wp2_with (first
   |(refine wpList_load_row rfl 67 _ rfl p3 rfl 67 OA (0,0) _ X7.out Tryz.underlying67 rfl HSZ.out ?_)
   | fail)
  refine(HG.out _ B7.out).mono ?_;rintro e w9 ⟨rfl,hr⟩;have RF:=zH (hr.after B7.out);clear hr c0 c1;go_wp2;go_ret;exact⟨rfl,RF.out⟩
theorem JA (a:YU)(sa:zA)(sc:Nat):(zq.info? 67).map (·.size)=some (a.cells sa sc).toArray.size:=by kernel_rfl
theorem Z6z {V:ZD}{a:YU}(h:Y9 V a.house=none):JK V a=(V,1):=by unfold JK;rw[h]
theorem Z4G {V:ZD}{a:YU}(h:Y9 V a.house=none):JO V a=(V,1):=by unfold JO;rw[h]
theorem Z5J {V:ZD}{a:YU}(h:Y9 V a.house=none):Xu V a=(V,1):=by unfold Xu;rw[h]
theorem Z3w {V:ZD}{a:YU}(h:Y9 V a.house=none):Xq V a=(V,1):=by unfold Xq;rw[h]
theorem Z6y {V:ZD}{a:YU}{S:Zf}(h:Y9 V a.house=some S):JO V a=(JM V a.house S.sync,0):=by unfold JO;rw[h]
theorem Ze6 (args:ZV)(w:World):(callFunc 87 args).run zq w = .ok (.enter 87 args) w:=by kernel_rfl
theorem ZcO (args:ZV)(w:World):(callFunc 88 args).run zq w = .ok (.enter 88 args) w:=by kernel_rfl
theorem Zdz (args:ZV)(w:World):(callFunc 89 args).run zq w = .ok (.enter 89 args) w:=by kernel_rfl
theorem Z8v (args:ZV)(w:World):(callFunc 90 args).run zq w = .ok (.enter 90 args) w:=by kernel_rfl
theorem ZcP (args:ZV)(w:World):(callFunc 91 args).run zq w = .ok (.enter 91 args) w:=by kernel_rfl
theorem Zaa (args:ZV)(w:World):(callFunc 92 args).run zq w = .ok (.enter 92 args) w:=by kernel_rfl
theorem ZbJ (args:ZV)(w:World):(callFunc 93 args).run zq w = .ok (.enter 93 args) w:=by kernel_rfl
theorem Z5G (p:Nat)(F:Nat->Prop)(V:ZD)(ss:List Nat)(T:Nat)(a:YU)(sa:zA)(sc:Nat)(w:World)(h:Vu w p F V)(hv:Y3 V ss T)(hT:T<=380):
  Calls zq 90 #[.pointer (some ⟨p,0,none⟩),.agg (a.cells sa sc).toArray] w fun e w'=>e = .returned (.int .i64 (Yw V a).2)/\Yj w p F (Yw V a).1 w':=by
 cases hm:Qr V a.idx with
 | none=>
  have e:Yw V a=(V,3):=by unfold Yw;rw[hm]
  rw[e];exact Z9l p F V a sa sc w h hm
 | some m=>
  have e:Yw V a=XB (Xf V a.idx) m:=by unfold Yw;rw[hm]
  obtain⟨i,_,_,hmi⟩:=QA hm;have hok:=hv.ml m (List.mem_of_getElem? hmi);obtain⟨S,hS⟩:=ZcL (W:=V) hok.to.1 hok.to.2;have hS':Y9 (Xf V a.idx) m.to=some S:=hS;obtain⟨k,_,_,hk⟩:=Ye hS;have hi:=hv.st' hk;have hl:=hv.len hk;cases hc:m.cont with
  | gift l=>
   have hco:=hok.cont;rw[hc]at hco;have e2:XB (Xf V a.idx) m=(JM (Xf V a.idx) m.to (ZJ S l).1,(ZJ S l).2.2):=by unfold XB;rw[hS',hc]
   rw[e,e2];exact Z9m p F V a sa sc m l S w h hm hS' hc hi.1 (fun x hx=>by have:=Dur.ok hv (hco.2.2 x hx);exact⟨hi.2.1 ▸ this.1,this.2.1⟩) hco.2.1 (by omega)
  | ask c=>
   have hco:=hok.cont;rw[hc]at hco;by_cases hk0:Z04 S c=[]
   ·have e2:XB (Xf V a.idx) m=(JM (Xf V a.idx) m.to S.sync,0):=by unfold XB;rw[hS',hc];exact if_pos hk0
    rw[e,e2];exact Z9n p F V a sa sc m c S w h hm hS' hc hi.1 hco (by omega) hk0
   ·have e2:XB (Xf V a.idx) m=(Vg (JM (Xf V a.idx) m.to S.sync) ⟨m.to,m.frm,.gift ((Z04 S c).take 16)⟩,0):=by unfold XB;rw[hS',hc];exact if_neg hk0
    rw[e,e2];exact ZaG p F V a sa sc m c S w h hm hS' hc hi.1 hco (by omega) hk0 hv.mn
theorem Z1U (p:Nat)(F:Nat->Prop)(V:ZD)(ss:List Nat)(T:Nat)(a:YU)(sa:zA)(sc:Nat)(w:World)(h:Vu w p F V)(hv:Y3 V ss T)(hT:T<=380)(ik:Jl a.kind)(hs:XU w sa a.note.strokes.length sc a.note.strokes)(hok:a.note.Ok)(hst:a.note.strokes.length<=1000000000):
  Calls zq 31 #[.pointer (some ⟨p,0,none⟩),.agg (a.cells sa sc).toArray] w fun e w'=>e = .returned (.int .i64 (YZ V a).2)/\Yj w p F (YZ V a).1 w':=by
 have hp0:0 < V.hs.length:=by have:=hv.n;omega
 have h0:(a.cells sa sc).toArray[0]? = some (.int .i64 a.kind):=rfl;have h1:(a.cells sa sc).toArray[1]? = some (.int .i64 a.house):=rfl;have hS : ∀{S},Y9 V a.house=some S->Xe S/\S.l.length<=T:=fun {S} e=>by
  obtain⟨k,_,_,hk⟩:=Ye e;exact⟨(hv.st' hk).1,hv.len hk⟩
 by_cases k1:a.kind=1
 ·have e:YZ V a=JK V a:=by unfold YZ;rw[if_pos k1]
  have ea:JB p a.kind=YW 87 p:=by unfold JB;rw[if_pos k1]
  rw[e];cases hh:Y9 V a.house with
  | none=>rw[Z6z hh];exact QF p F V _ a.kind a.house w h hp0 ik h0 h1 _ ea (by omega) hh
  | some S=>
   exact U7 p F V _ a.kind a.house w h hp0 ik h0 h1 _ ea (by omega) S hh (JA a sa sc) Ze6 _ _ (fun W hb=>Zcu p F V a sa sc S W (h.below Zl hb) hh (hS hh).1 (hs.below hb) hok hst (by have:=(hS hh).2;omega))
 by_cases k2:a.kind=2
 ·have e:YZ V a=JO V a:=by unfold YZ;rw[if_neg k1,if_pos k2]
  have ea:JB p a.kind=YW 88 p:=by unfold JB;rw[if_neg k1,if_pos k2]
  rw[e];cases hh:Y9 V a.house with
  | none=>rw[Z4G hh];exact QF p F V _ a.kind a.house w h hp0 ik h0 h1 _ ea (by omega) hh
  | some S=>
   rw[Z6y hh];exact U7 p F V _ a.kind a.house w h hp0 ik h0 h1 _ ea (by omega) S hh (JA a sa sc) ZcO _ _ (fun W hb=>Z9e p F V a sa sc S W (h.below Zl hb) hh)
 by_cases k3:a.kind=3
 ·have e:YZ V a=Xu V a:=by unfold YZ;rw[if_neg k1,if_neg k2,if_pos k3]
  have ea:JB p a.kind=YW 89 p:=by unfold JB;rw[if_neg k1,if_neg k2,if_pos k3]
  rw[e];cases hh:Y9 V a.house with
  | none=>rw[Z5J hh];exact QF p F V _ a.kind a.house w h hp0 ik h0 h1 _ ea (by omega) hh
  | some S=>
   exact U7 p F V _ a.kind a.house w h hp0 ik h0 h1 _ ea (by omega) S hh (JA a sa sc) Zdz _ _ (fun W hb=>ZaH p F V a sa sc S W (h.below Zl hb) hh (hS hh).1)
 by_cases k4:a.kind=4
 ·have e:YZ V a=Yw V a:=by unfold YZ;rw[if_neg k1,if_neg k2,if_neg k3,if_pos k4]
  have ea:JB p a.kind=YW 90 p:=by unfold JB;rw[if_neg k1,if_neg k2,if_neg k3,if_pos k4]
  rw[e];exact Z10 p F V _ a.kind a.house w h hp0 ik h0 h1 _ ea (by omega) (JA a sa sc) Z8v _ _ (fun W hb=>Z5G p F V ss T a sa sc W (h.below Zl hb) hv hT)
 by_cases k5:a.kind=5
 ·have e:YZ V a=Jq V a:=by unfold YZ;rw[if_neg k1,if_neg k2,if_neg k3,if_neg k4,if_pos k5]
  have ea:JB p a.kind=YW 91 p:=by unfold JB;rw[if_neg k1,if_neg k2,if_neg k3,if_neg k4,if_pos k5]
  rw[e];exact Z10 p F V _ a.kind a.house w h hp0 ik h0 h1 _ ea (by omega) (JA a sa sc) ZcP _ _ (fun W hb=>Z9h p F V a sa sc W (h.below Zl hb))
 by_cases k6:a.kind=6
 ·have e:YZ V a=Xb V a:=by unfold YZ;rw[if_neg k1,if_neg k2,if_neg k3,if_neg k4,if_neg k5,if_pos k6]
  have ea:JB p a.kind=YW 92 p:=by unfold JB;rw[if_neg k1,if_neg k2,if_neg k3,if_neg k4,if_neg k5,if_pos k6]
  rw[e];exact Z10 p F V _ a.kind a.house w h hp0 ik h0 h1 _ ea (by omega) (JA a sa sc) Zaa _ _ (fun W hb=>Z6v p F V a sa sc W (h.below Zl hb))
 by_cases k7:a.kind=7
 ·have e:YZ V a=Xq V a:=by unfold YZ;rw[if_neg k1,if_neg k2,if_neg k3,if_neg k4,if_neg k5,if_neg k6,if_pos k7]
  have ea:JB p a.kind=YW 93 p:=by unfold JB;rw[if_neg k1,if_neg k2,if_neg k3,if_neg k4,if_neg k5,if_neg k6,if_pos k7]
  rw[e];cases hh:Y9 V a.house with
  | none=>rw[Z3w hh];exact QF p F V _ a.kind a.house w h hp0 ik h0 h1 _ ea (by omega) hh
  | some S=>
   exact U7 p F V _ a.kind a.house w h hp0 ik h0 h1 _ ea (by omega) S hh (JA a sa sc) ZbJ _ _ (fun W hb=>Z7U p F V a sa sc S W (h.below Zl hb) hh (hS hh).1 (by have:=(hS hh).2;omega))
 have e:YZ V a=(V,1):=by unfold YZ;rw[if_neg k1,if_neg k2,if_neg k3,if_neg k4,if_neg k5,if_neg k6,if_neg k7]
 have ea:JB p a.kind = .nilFunc:=by unfold JB;rw[if_neg k1,if_neg k2,if_neg k3,if_neg k4,if_neg k5,if_neg k6,if_neg k7]
 rw[e];exact Z9f p F V _ a.kind a.house w h hp0 ik h0 h1 ea
def Z1N (Gf:Int->Nm->Option LN)(w:World)(p:Nat)(F:Nat->Prop)(S:Zf):Prop := ∃mb sp G SF,Y8 w p mb sp G SF S/\(∀k,F k↔Yd p mb G SF k) /\ ∀k x,Gf S.id k=some x->G k=some x
theorem Z16 (Gf:Int->Nm->Option LN):JX (Z1N Gf):=
 ⟨fun {w w' p F S X} h hs hd=>by
  obtain⟨mb,sp,G,SF,h1,h2,h3⟩:=h
  exact⟨mb,sp,G,SF,h1.same hs (fun k hk hF=>hd k hk ((h2 k).2 hF)),h2,h3⟩,
  fun {w p F S} h k hk=>by
  obtain⟨mb,sp,G,SF,h1,h2,h3⟩:=h
  exact h1.lt k ((h2 k).1 hk)⟩
theorem Z1N.hou {Gf:Int->Nm->Option LN}{w:World}{p:Nat}{F:Nat->Prop}{S:Zf}(h:Z1N Gf w p F S):Uu w p F S:=by
 obtain⟨mb,sp,G,SF,h1,h2,_⟩:=h;exact⟨mb,sp,G,SF,h1,h2⟩
theorem Z7h {w:World}{ps:List Nat}{Fs:List (Nat->Prop)}{Ss:List Zf}(h:U6 Uu w ps Fs Ss)(hid : ∀(i:Nat) (S:Zf),Ss[i]? = some S->S.id=(i:Int)+1):
  ∃Gf:Int->Nm->Option LN,∀(i p:Nat) (F:Nat->Prop) (S:Zf),ps[i]? = some p->Fs[i]? = some F->Ss[i]? = some S -> ∃mb sp SF,Y8 w p mb sp (Gf S.id) SF S /\ ∀k,F k↔Yd p mb (Gf S.id) SF k:=by
 have key : ∀z:Int,∃G:Nm->Option LN,∀(i p:Nat) (F:Nat->Prop) (S:Zf),z=(i:Int)+1->ps[i]? = some p->Fs[i]? = some F->Ss[i]? = some S -> ∃mb sp SF,Y8 w p mb sp G SF S /\ ∀k,F k↔Yd p mb G SF k:=fun z=>by
  by_cases hz : ∃(i p:Nat) (F:Nat->Prop) (S:Zf),z=(i:Int)+1/\ps[i]? = some p/\Fs[i]? = some F/\Ss[i]? = some S
  ·obtain⟨i,p,F,S,h0,h1,h2,h3⟩:=hz;obtain⟨mb,sp,G,SF,g1,g2⟩:=h.hou i p F S h1 h2 h3;refine⟨G,fun j p' F' S' k0 k1 k2 k3 => ?_⟩;have e:j=i:=by omega
   subst e;rw[h1]at k1;rw[h2]at k2;rw[h3]at k3;cases k1;cases k2;cases k3;exact⟨mb,sp,SF,g1,g2⟩
  ·exact⟨fun _=>none,fun j p' F' S' k0 k1 k2 k3=>absurd ⟨j,p',F',S',k0,k1,k2,k3⟩ hz⟩
 refine⟨fun z=>Classical.choose (key z),fun i p F S h1 h2 h3=>?_⟩;exact Classical.choose_spec (key S.id) i p F S (hid i S h3) h1 h2 h3
abbrev ZeU (Gf:Int->Nm->Option LN):=Us (Z1N Gf) 141 27 bfP
structure Z1h (Gf:Int->Nm->Option LN)(w1 wr:World)(p:Nat)(ps:List Nat)(ha:zA)(hc:Nat)(xs:List LM)(ma:zA)(mc:Nat)(F0:Nat->Prop)(bM N:Nat)(f:Nm->Option LN)(V:ZD)(Fs:List (Nat->Prop)):Prop where
 at_:ZeU Gf wr p ps Fs ha hc xs ma mc V
 s:Za F0 w1 wr
 foot : ∀k,wF p Fs ha ps.length hc xs ma mc k->F0 k\/w1.heap.size<=k
 map:Y4 LN.val wr bM N f
 no : ¬wF p Fs ha ps.length hc xs ma mc bM
 ge:w1.heap.size<=bM
section
variable {Gf:Int->Nm->Option LN}{w1 wr W':World}{p:Nat}{ps:List Nat}{ha:zA}{hc:Nat}{xs:List LM}{ma:zA}{mc:Nat}{F0:Nat->Prop}{bM N:Nat}{f:Nm->Option LN}{V:ZD}{Fs:List (Nat->Prop)}
theorem Z1h.below (h:Z1h Gf w1 wr p ps ha hc xs ma mc F0 bM N f V Fs)(hb:Below wr.heap.size wr W'):Z1h Gf w1 W' p ps ha hc xs ma mc F0 bM N f V Fs:=
 ⟨h.at_.below (Z16 Gf) hb,h.s.trans (Za.of_below hb),h.foot,h.map.below hb,h.no,h.ge⟩
theorem Z1h.house (h:Z1h Gf w1 wr p ps ha hc xs ma mc F0 bM N f V Fs){i q:Nat}{F:Nat->Prop}{S':Zf}(h1:ps[i]? = some q)(h2:Fs[i]? = some F)(hr:Z1Q (Z1N Gf) wr q F S' W'):
  ∃Fs',Z1h Gf w1 W' p ps ha hc xs ma mc F0 bM N f { V with hs:=V.hs.set i S' } Fs':=by
 obtain⟨Fs',g1,g2,g3⟩:=h.at_.house (Z16 Gf) h1 h2 hr;have hbl:=h.map.lt;have hnb : ¬zx Fs bM:=fun e=>h.no (.inr (.inr (.inl e)));refine⟨Fs',g1,h.s.trans2 g2 (fun k hk=>h.foot k (.inr (.inr (.inl hk)))),fun k hk=>?_,h.map.of_block (g2.block bM hbl hnb),fun e=>?_,h.ge⟩
 ·rcases g3 k hk with e | e
  ·exact h.foot k e
  ·exact .inr (Nat.le_trans h.s.size e)
 ·rcases g3 bM e with e2 | e2
  ·exact h.no e2
  ·omega
theorem Z1h.get (h:Z1h Gf w1 wr p ps ha hc xs ma mc F0 bM N f V Fs){i:Nat}{S:Zf}(hi:V.hs[i]? = some S): ∃q F,ps[i]? = some q/\Fs[i]? = some F/\Z1N Gf wr q F S:=h.at_.hs.get hi
theorem Z1h.gok (h:Z1h Gf w1 wr p ps ha hc xs ma mc F0 bM N f V Fs)(hi : ∀S∈V.hs,Xe S)(hf : ∀k x,f k=some x -> ∃(i:Nat) (S:Zf),V.hs[i]? = some S/\Gf S.id k=some x):GOk f wr:=fun k x hk=>by
 obtain⟨i,S,h1,h2⟩:=hf k x hk
 obtain⟨q,F,_,_,mb,sp,G,SF,g1,_,g3⟩:=h.get h1
 exact g1.gok (hi S (List.mem_of_getElem? h1)) k x (g3 k x h2)
theorem Z1h.ret (h:Z1h Gf w1 wr p ps ha hc xs ma mc F0 bM N f V Fs):Yj w1 p F0 V wr:=by
 have hs:U6 Uu wr ps Fs V.hs:=⟨h.at_.hs.len,fun i q F S h1 h2 h3=>(h.at_.hs.hou i q F S h1 h2 h3).hou,h.at_.hs.dis⟩;exact⟨_,⟨ps,Fs,ha,hc,xs,ma,mc,⟨h.at_.blk,h.at_.hrow,hs,h.at_.mrow,h.at_.mls,h.at_.bod,h.at_.sp,h.at_.sh,h.at_.sm,h.at_.sb⟩,fun k=>Iff.rfl⟩,h.s,h.foot⟩
end
structure Z2z (hs:List Zf)(Gf:Int->Nm->Option LN)(f:Nm->Option LN)(NS:List Nm):Prop where
 src : ∀k x,f k=some x -> ∃S∈hs,Gf S.id k=some x/\x.n∈S.l/\Zk x.n=k
 all : ∀S∈hs,∀n∈S.l,∃x,f (Zk n)=some x/\x.n=n
 nod:NS.Nodup
 nms : ∀k∈NS,(f k).isSome=true
theorem Z2z.start (Gf:Int->Nm->Option LN):Z2z [] Gf (fun _=>none) []:=⟨fun k x h=>(by cases h),fun S h=>(by cases h),List.nodup_nil,fun k h=>(by cases h)⟩
theorem Z2z.step {hs:List Zf}{S:Zf}{Gf:Int->Nm->Option LN}{f:Nm->Option LN}{NS ks:List Nm}{w:World}{q mb sp:Nat}{SF:Nat->Prop}(h:Z2z hs Gf f NS)(hh:Y8 w q mb sp (Gf S.id) SF S)(h1:Z6o (hs ++ [S]))(kn:ks.Nodup)(ka : ∀k∈ks,(Gf S.id k).isSome=true):
  Z2z (hs ++ [S]) Gf (Z1H f (Gf S.id)) (NS ++ ks.filter fun k=>(f k).isNone):=by
 refine⟨fun k x hk=>?_,fun R hR n hn=>?_,?_,fun k hk=>?_⟩
 ·unfold Z1H at hk;cases hg:Gf S.id k with
  | some y=>
   rw[hg]at hk;cases hk;have:=hh.gs k _ hg;exact⟨S,by simp,hg,this.1,this.2⟩
  | none=>
   rw[hg]at hk;obtain⟨R,h2,h3,h4,h5⟩:=h.src k x hk;exact⟨R,List.mem_append_left _ h2,h3,h4,h5⟩
 ·unfold Z1H;cases hg:Gf S.id (Zk n)with
  | some y=>
   have h2:=hh.gs _ _ hg;refine⟨y,rfl,?_⟩;exact h1 S (by simp) R hR y.n h2.1 n hn h2.2
  | none=>
   rcases List.mem_append.1 hR with hR | hR
   ·exact h.all R hR n hn
   ·rw[List.mem_singleton.1 hR]at hn;obtain⟨x,h2,h3⟩:=hh.gl n hn;rw[hg]at h2;cases h2
 ·rw[List.nodup_append];refine⟨h.nod,kn.filter _,fun a ha b hb e=>?_⟩;have h2:=h.nms a ha;have h3:=(List.mem_filter.1 hb).2;rw[<-e]at h3;cases hf:f a with
  | none=>rw[hf]at h2;cases h2
  | some z=>rw[hf]at h3;cases h3
 ·unfold Z1H;rcases List.mem_append.1 hk with hk | hk
  ·have h2:=h.nms k hk;cases hg:Gf S.id k with
   | some y=>rfl
   | none=>exact h2
  ·have h2:=ka k (List.mem_filter.1 hk).1;cases hg:Gf S.id k with
   | some y=>rfl
   | none=>rw[hg]at h2;cases h2
theorem Z2z.len {hs:List Zf}{Gf:Int->Nm->Option LN}{f:Nm->Option LN}{NS:List Nm}(h:Z2z hs Gf f NS)(h1:Z6o hs):NS.length<=(Zx hs).length:=by
 have h2:=VI (m:=(Zx hs).map Zk) h.nod (fun k hk=>by
  obtain⟨x,hx⟩:=Option.isSome_iff_exists.1 (h.nms k hk);obtain⟨S,hS,_,h3,h4⟩:=h.src k x hx;exact List.mem_map.2 ⟨x.n,((Xp h1).2 x.n).2 ⟨S,hS,h3⟩,h4⟩)
 rwa [List.length_map]at h2
theorem Z2z.list {hs:List Zf}{Gf:Int->Nm->Option LN}{f:Nm->Option LN}{NS ks:List Nm}(h:Z2z hs Gf f NS)(h1:Z6o hs)(ha:Jd f ks)(hs2:ks.Pairwise (fun x y=>JH x y=true)):(ks.filterMap f).map LN.n=Zx hs:=by
 obtain⟨u1,u2⟩:=Xp h1;refine UV ?_ u1 fun x=>?_
 ·rw[List.pairwise_map];clear ha
  induction ks with
  | nil=>exact List.Pairwise.nil
  | cons k ks ih=>
   rw[List.pairwise_cons]at hs2;cases hk:f k with
   | none=>rw[List.filterMap_cons_none hk];exact ih hs2.2
   | some x=>
    rw[List.filterMap_cons_some hk];refine List.pairwise_cons.2 ⟨fun y hy=>?_,ih hs2.2⟩;obtain⟨k',hk',hy'⟩:=List.mem_filterMap.1 hy;obtain⟨_,_,_,_,e1⟩:=h.src k x hk;obtain⟨_,_,_,_,e2⟩:=h.src k' y hy';show JH (Zk x.n) (Zk y.n)=true;rw[e1,e2];exact hs2.1 k' hk'
 ·rw[u2];constructor
  ·intro hx;obtain⟨y,hy,rfl⟩:=List.mem_map.1 hx;obtain⟨k,_,hk⟩:=List.mem_filterMap.1 hy;obtain⟨S,hS,_,h3,_⟩:=h.src k y hk;exact⟨S,hS,h3⟩
  ·rintro⟨S,hS,hx⟩;obtain⟨y,hy,rfl⟩:=h.all S hS x hx;exact List.mem_map.2 ⟨y,List.mem_filterMap.2 ⟨Zk y.n,ha _ (by rw[hy];rfl),hy⟩,rfl⟩
theorem Z91 (S:Zf)(l:List Z8):(ZJ S l).1.id=S.id:=by
 unfold ZJ;split
 ·rfl
 ·split
  ·rfl
  ·exact Z0E _ _
def Z1P (T:Nat)(hs0 hs:List Zf):Prop:=hs.length=hs0.length /\ ∀(j:Nat) (S0:Zf),hs0[j]? = some S0 -> ∃R,hs[j]? = some R/\R.id=S0.id/\Xe R
theorem Z1P.all {T:Nat}{hs0 hs:List Zf}(h:Z1P T hs0 hs): ∀S∈hs,Xe S:=fun S hS=>by
 obtain⟨j,hj⟩:=List.getElem?_of_mem hS
 have hl:=(List.getElem?_eq_some_iff.1 hj).1
 obtain⟨R,h1,_,h3⟩:=h.2 j _ (List.getElem?_eq_getElem (by rw[<-h.1];exact hl))
 rw[hj]at h1
 cases h1
 exact h3
theorem Z1P.set {T:Nat}{hs0 hs:List Zf}(h:Z1P T hs0 hs){i:Nat}{S S':Zf}(hi:hs[i]? = some S)(hid:S'.id=S.id)(hv:Xe S'):Z1P T hs0 (hs.set i S'):=by
 refine⟨by rw[List.length_set];exact h.1,fun j S0 hj=>?_⟩;obtain⟨R,h1,h2,h3⟩:=h.2 j S0 hj;have hl:=(List.getElem?_eq_some_iff.1 h1).1;by_cases e:i=j
 ·subst e;rw[hi]at h1;cases h1;exact⟨S',List.getElem?_set_self hl,hid.trans h2,hv⟩
 ·exact⟨R,by rw[List.getElem?_set_ne e];exact h1,h2,h3⟩
def Uk (g:Zf->Zf)(hs:List Zf)(i:Nat):List Zf:=(hs.take i).map g ++ hs.drop i
theorem Z3c {g:Zf->Zf}{hs:List Zf}{i:Nat}{S:Zf}(h:hs[i]? = some S):(Uk g hs i)[i]? = some S:=by
 have hl:=(List.getElem?_eq_some_iff.1 h).1;unfold Uk;rw[List.getElem?_append_right (by rw[List.length_map,List.length_take];omega),List.length_map,List.length_take,Nat.min_eq_left (by omega),Nat.sub_self,List.getElem?_drop,Nat.add_zero,h]
theorem Z9v {g:Zf->Zf}{hs:List Zf}{i:Nat}{S:Zf}(h:hs[i]? = some S):(Uk g hs i).set i (g S)=Uk g hs (i+1):=by
 have hl:=(List.getElem?_eq_some_iff.1 h).1;unfold Uk;have e:((hs.take i).map g).length=i:=by rw[List.length_map,List.length_take];omega
 rw[List.set_append_right _ _ (by rw[e];exact Nat.le_refl _),e,Nat.sub_self,List.drop_eq_getElem_cons hl,List.set_cons_zero,List.take_add_one,h,List.map_append,List.append_assoc];rfl
theorem Z6q (p:Nat)(F:Nat->Prop)(V:ZD)(ss:List Nat)(T:Nat)(w:World)(h:Vu w p F V)(hv:Y3 V ss T)(hT:T<=100):
  Calls zq 32 #[.pointer (some ⟨p,0,none⟩)] w fun e w'=>e = .returned (.int .i64 0)/\Yj w p F (Ua V) w':=by
 have hmm := @run_makeMap zq;have J1:(zq.info? 27).map (·.size)=some 1:=by kernel_rfl
 obtain⟨ps,Fs,ha,hc,xs,ma,mc,h1,h2⟩:=h.open;have hn0:0 < ps.length:=by have:=hv.n;rw[h1.nh]at this;omega
 have MD:=zH (Vw h1 hn0);obtain⟨n,hnn⟩:=zX (ps.length);have NH:Hid (V.hs.length=n/\n<=8):=zH (by have:=hv.n;rw[h1.nh,hnn.out]at this;exact⟨h1.nh.trans hnn.out,this.2⟩);obtain⟨Gf,hGf⟩:=Z7h h1.hs (fun i S hS=>(hv.st' hS).2.2);have GF:=zH hGf;have H1:=zH h1;have HV:=zH hv;have HT:=zH hT;have H2:=zH h2;have b0:Below w.heap.size w (w.alloc (.map #[] 0)):=zB _ _;have M0:=zH (Y4.made (enc:=LN.val) w);have B0:=zH b0;have ROW:Hid (∀W,Below w.heap.size w W->ZW W 1 ha n hc (ps.map fun q=>.pointer (some ⟨q,0,none⟩))):=zH (fun W hb=>by
  have h3:=ZW.of_own (Zd h1.hrow hb);rwa [hnn.out]at h3)
 have BLK:Hid (∀W,Below w.heap.size w W->W.heap[p]? = some (.cells #[.slice ha n hc,.slice ma xs.length mc] 141)):=zH (fun W hb=>by
  have h3:=Z7 hb h1.blk;rw[hnn.out]at h3;exact h3)
 clear h h1 h2 hv hT b0 hn0 hGf;go_enter Tryz.func32,Tryz.ntmps32;go_wp2_with fail;refine MD.out.mono ?_;rintro e w1 ⟨rfl,rfl⟩;clear MD;go_upto_region 4 with fail;obtain⟨bM,hbM⟩:=zX (w1.heap.size);rw[hbM.out]at M0 ⊢;generalize w1.alloc (.map #[] 0)=W0 at *;have c0:=Z6 (BLK.out W0 B0.out) 0 (.slice ha n hc) rfl;go_wp2_with fail;clear c0;go_loopw [5,17] (fun _ iv wr=>∃(i:Nat) (f:Nm->Option LN) (NS:List Nm),iv = .int .i64 (i:Int)/\i<=n/\Hid (Below w1.heap.size w1 wr/\Y4 LN.val wr bM NS.length f/\Z2z (V.hs.take i) Gf f NS)) (fun _ iv _=>n - (intOf iv).toNat)
 case atStart=>exact⟨0,fun _=>none,[],by first | rfl | trivial,Nat.zero_le _,zH ⟨B0.out,M0.out,Z2z.start Gf⟩⟩
 case round=>
  clear M0 B0;obtain⟨i,f,NS,rfl,hi,HS⟩:=hrel;by_cases hlt:i < n
  ·have t0:decide ((i:Int) < (n:Int))=true:=by simp;omega
   have t0':decide (i < n)=true:=by simp[hlt]
   obtain⟨S,hS⟩ : ∃S,V.hs[i]? = some S:=⟨_,List.getElem?_eq_getElem (by rw[NH.out.1];exact hlt)⟩;have HSV:=zH hS;obtain⟨q,Fq,hq,hFq,_⟩:=H1.out.hs.get hS;obtain⟨mb,sp,SF,hh,_⟩:=GF.out i q Fq S hq hFq hS;have HH:=zH (hh.below HS.out.1);obtain⟨g,off,rfl,hat⟩:=(ROW.out wr HS.out.1).at (by omega);obtain⟨o,ho⟩:=zX (off+i);have cq:wr.cell? ⟨g,o,none⟩=some (.pointer (some ⟨q,0,none⟩)):=by
    rw[<-ho.out];exact hat i _ (by rw[List.getElem?_map,hq];rfl)
   have hix:=fun W=>YR (W:=W) (c:=hc) (b:=g) (off:=off) Tryz.underlying139 J1 hlt (show off+i * 1=o by rw[Nat.mul_one];exact ho.out);have c4:=Z6 HH.out.blk 4 (.map (some mb)) rfl;have E1:=zH (show wrap64 ((i:Int)+1)=(i:Int)+1 by have:=NH.out;unfold wrap64;omega);have LT:Hid (S.l.length<=100):=zH (Nat.le_trans (HV.out.len hS) HT.out);have ONE:Hid (Z6o (V.hs.take (i+1))):=zH (HV.out.oneN.take (i+1));have TK:Hid (V.hs.take (i+1)=V.hs.take i ++ [S]):=zH (by rw[List.take_add_one,hS];rfl);have NL:Hid (NS.length<=100):=zH (Nat.le_trans (HS.out.2.2.len (HV.out.oneN.take i)) (by
    have h1:(Zx (V.hs.take i)).length<=(Zx V.hs).length:=by
     have h2:=VI (l:=(Zx (V.hs.take i)).map Zk) (m:=(Zx V.hs).map Zk) (YH (Xp (HV.out.oneN.take i)).1) (fun k hk=>by
      obtain⟨x,hx,rfl⟩:=List.mem_map.1 hk;obtain⟨R,hR,hm⟩:=((Xp (HV.out.oneN.take i)).2 x).1 hx;exact List.mem_map_of_mem (((Xp HV.out.oneN).2 x).2 ⟨R,List.mem_of_mem_take hR,hm⟩))
     simpa using h2
    have:=HV.out.unionLen;have:=HT.out;omega))
   have NE:bM≠mb:=fun e=>by
    have h3:=hh.map.lt;have h4:=hbM.out;omega
   clear hat hq hFq hS hh;go_wp2_with fail;refine(Z4R bM NS.length mb S.l.length f (Gf S.id) wr HS.out.2.1 HH.out.map NE (by have:=NL.out;have:=LT.out;omega)).mono ?_;rintro e W2 ⟨rfl,⟨ks,k1,k2,k3,k4⟩,s2⟩;have HN:=zH (show Below w1.heap.size w1 W2/\Y4 LN.val W2 bM (NS ++ ks.filter fun k=>(f k).isNone).length (Z1H f (Gf S.id))/\Z2z (V.hs.take (i+1)) Gf (Z1H f (Gf S.id)) (NS ++ ks.filter fun k=>(f k).isNone)from⟨s2.below HS.out.1 HS.out.1.size (fun j e=>by rw[show j=bM from e,hbM.out];exact Nat.le_refl _),by rw[List.length_append];exact k4,by
    rw[TK.out];exact HS.out.2.2.step HH.out (by rw[<-TK.out];exact ONE.out) k1 k3⟩)
   clear k1 k2 k3 k4 s2 HS c4 cq t0 t0';have e1:=E1.out;go_wp2;go_roundw
   case rel=>exact⟨i+1,_,_,by go_num,by omega,HN⟩
   case measure=>clear e1;(try rw[E1.out]);simp[intOf];omega
  ·have t0:decide ((i:Int) < (n:Int))=false:=by simp;omega
   have t0':decide (i < n)=false:=by simp[hlt]
   have hin:i=n:=by omega
   subst hin;have UN:Hid (Z2z V.hs Gf f NS):=zH (by have h3:=HS.out.2.2;rwa [List.take_of_length_le (by rw[NH.out.1];exact Nat.le_refl _)]at h3);have UL:Hid (NS.length<=100):=zH (Nat.le_trans (UN.out.len HV.out.oneN) (Nat.le_trans HV.out.unionLen HT.out));have MP:=zH HS.out.2.1;have BW:=zH HS.out.1;clear HS;go_upto_region 9 with fail;clear t0 t0';go_upto_region 11 with (first
    |(at_len;refine QG rfl _ 106 47 rfl Tryz.underlying106 bM NS.length rfl MP.out ?_;intro kk hkk;have tkk:decide ((400:Int) < (kk:Int))=false:=(by have:=UL.out;simp;omega))
    | fail)
   clear tkk hkk;have c0:=Z6 (BLK.out wr BW.out) 0 (.slice ha i hc) rfl;obtain⟨gS,hgS⟩ : ∃g:Zf->Zf,Hid (g=fun S=>(ZJ S.sync (Zx V.hs)).1.sync):=⟨_,zH rfl⟩;have WS:Hid (∀hs,hs.length=V.hs.length -> { V with hs:=hs }.f=V.f):=zH (fun _ _=>rfl);have SE0:Hid (Z1h Gf w1 wr p ps ha hc xs ma mc F bM NS.length f { V with hs:=Uk gS V.hs 0 } Fs):=zH (by
    have e0:Uk gS V.hs 0=V.hs:=by unfold Uk;simp
    rw[e0];have hb:=H1.out.below Zl BW.out;refine⟨⟨hb.blk,hb.hrow,⟨hb.hs.len,fun j q' F' S' k1 k2 k3 => ?_,hb.hs.dis⟩,hb.mrow,hb.mls,hb.bod,hb.sp,hb.sh,hb.sm,hb.sb⟩,Za.of_below BW.out,fun k hk=>.inl (by rw[H2.out];exact hk),MP.out,fun e=>?_,by rw[<-hbM.out];exact Nat.le_refl _⟩
    ·obtain⟨mb,sp,SF,g1,g2⟩:=GF.out j q' F' S' k1 k2 k3;exact⟨mb,sp,_,SF,g1.below BW.out,g2,fun k x hk=>hk⟩
    ·have h3:=H1.out.lt Zl bM e;have h4:=hbM.out;omega)
   have ID0:Hid (Z1P T V.hs (Uk gS V.hs 0)):=zH (by
    have e0:Uk gS V.hs 0=V.hs:=by unfold Uk;simp
    rw[e0];exact⟨rfl,fun j S0 hj=>⟨S0,hj,rfl,(HV.out.st' hj).1⟩⟩)
   have UIS:Hid (∀(hs:List Zf),Z1P T V.hs hs -> ∀k x,f k=some x -> ∃(j:Nat) (S:Zf),hs[j]? = some S/\Gf S.id k=some x):=zH (fun hs hI k x hk=>by
    obtain⟨S0,hS0,h3,_⟩:=UN.out.src k x hk;obtain⟨j,hj⟩:=List.getElem?_of_mem hS0;obtain⟨R,h4,h5,_⟩:=hI.2 j S0 hj;exact⟨j,R,h4,by rw[h5];exact h3⟩)
   have UOK:Hid (∀x∈Zx V.hs,x.Ok):=zH (fun x hx=>(HV.out.unionOk x hx).2);have ULN:Hid ((Zx V.hs).length<=100):=zH (Nat.le_trans HV.out.unionLen HT.out);clear BW MP;go_wp2_with fail;clear c0;go_loopw [7,36] (fun _ iv wr=>∃(j:Nat) (Fs:List (Nat->Prop)),iv = .int .i64 (j:Int)/\j<=i/\Hid (Z1h Gf w1 wr p ps ha hc xs ma mc F bM NS.length f { V with hs:=Uk gS V.hs j } Fs/\Z1P T V.hs (Uk gS V.hs j))) (fun _ iv _=>i - (intOf iv).toNat)
   case atStart=>exact⟨0,Fs,by first | rfl | trivial,Nat.zero_le _,zH ⟨SE0.out,ID0.out⟩⟩
   case round=>
    clear SE0 ID0;obtain⟨j,Fs,rfl,hj,HS⟩:=hrel;by_cases hji:j < i
    ·have t0:decide ((j:Int) < (i:Int))=true:=by simp;omega
     have t0':decide (j < i)=true:=by simp[hji]
     obtain⟨S,hS⟩ : ∃S,V.hs[j]? = some S:=⟨_,List.getElem?_eq_getElem (by rw[NH.out.1];exact hji)⟩;have HSV:=zH hS;obtain⟨q,Fq,hq,hFq,mb,sp,G,SF,g1,g2,g3⟩:=HS.out.1.get (show(Uk gS V.hs j)[j]? = some S from Z3c hS);obtain⟨g,off,rfl,hat⟩:=(ZW.of_own HS.out.1.at_.hrow).at (by rw[hnn.out];omega);obtain⟨o,ho⟩:=zX (off+j);have cq:wr.cell? ⟨g,o,none⟩=some (.pointer (some ⟨q,0,none⟩)):=by
      rw[<-ho.out];exact hat j _ (by rw[List.getElem?_map,hq];rfl)
     have hix:=fun W=>YR (W:=W) (c:=hc) (b:=g) (off:=off) Tryz.underlying139 J1 hji (show off+j * 1=o by rw[Nat.mul_one];exact ho.out);have E1:=zH (show wrap64 ((j:Int)+1)=(j:Int)+1 by have:=NH.out;unfold wrap64;omega);have LT:Hid (S.l.length<=100):=zH (Nat.le_trans (HV.out.len hS) HT.out);have HIS:=zH (HV.out.st' hS).1;have G1:=zH g1;have G2:=zH g2;have G3:=zH g3;have HQ:=zH (And.intro hq hFq);have HQ0:=zH hq;clear hat g1 g2 g3 hS hq hFq;go_wp2_with fail;refine(Jh q mb sp G SF S wr G1.out).mono ?_;rintro e W1 ⟨rfl,j1,j2⟩;obtain⟨Fs1,se1⟩:=HS.out.1.house HQ.out.1 HQ.out.2 (show Z1Q (Z1N Gf) wr q Fq S.sync W1 from⟨Fq,⟨mb,sp,G,SF,j1,G2.out,G3.out⟩,j2.weaken (fun b hb=>by rw[show b=sp from hb];exact(G2.out sp).2 (.inr (.inr (.inl G1.out.stk.self)))),fun k hk=>.inl hk⟩);have id1:=HS.out.2.set (S':=S.sync) (Z3c HSV.out) rfl HIS.out.sync;have SE1:=zH se1;have ID1:=zH id1;clear j1 j2 se1 id1 HS G1 G2 G3 HQ cq t0 t0';go_wp2_with fail;refine(Z0e bM NS.length f W1 SE1.out.map (by have:=UL.out;omega) (SE1.out.gok (fun R hR=>ID1.out.all R hR) (UIS.out _ ID1.out))).mono ?_;rintro e W2 ⟨⟨la,un,lc,zs,ks,rfl,m1,m2,m3,m4,m5,_⟩,b2⟩;have ZU:Hid (zs.map LN.n=Zx V.hs):=zH (m2.trans (UN.out.list HV.out.oneN m3 m4));have ZN:Hid (zs.length=un):=zH m1.len;have SE2:=zH (SE1.out.below b2);have MG:=zH m1;have LT1:=zH (SE1.out.at_.lt (Z16 Gf));clear m1 m2 m3 m4 m5 b2 SE1;obtain⟨q2,F2,hq2,hF2,mb2,sp2,G2,SF2,g1,g2,g3⟩:=SE2.out.get (i:=j) (S:=S.sync) (by
      have h3:=(List.getElem?_eq_some_iff.1 (Z3c (g:=gS) HSV.out)).1;exact List.getElem?_set_self h3)
     obtain rfl:q2=q:=by
      have h3:=HQ0.out;rw[hq2]at h3;exact Option.some.inj h3
     have G1:=zH g1;have G2':=zH g2;have G3:=zH g3;have HQ:=zH (And.intro hq2 hF2);clear g1 g2 g3 hq2 hF2;go_wp2_with fail;refine(Z4f q2 mb2 sp2 G2 SF2 S.sync la un lc (Zx V.hs) zs W2 G1.out HIS.out.sync ZU.out (fun W hs=>by
      have hF : ∀k,Yd q2 mb2 G2 SF2 k->k < W1.heap.size:=fun k hk=>LT1.out k (.inr (.inr (.inl ⟨j,F2,HQ.out.2,(G2'.out k).2 hk⟩)));have hno : ∀{e:TypeId} {k:Nat} {v:Value} {n:Nat} {xs:List Value},W2.ownsRow W1.heap.size e k v n xs->W.ownsRow W1.heap.size e k v n xs:=fun ho=>Ze ho hs (fun b hb hF2=>by
       have h3:=hF b hF2;have h4:=(ho.lt b hb).1;omega)
      exact Z1r (ZW.of_own (hno MG.out.own)) (fun x hx=>ZW.of_own (hno (MG.out.str x hx)))) UOK.out (by have h3:=LT.out;have h4:=ULN.out;have h5:=ZN.out;rw[<-ZU.out,List.length_map]at h4;show S.l.length+un<=400;omega)).mono ?_
     rintro e W3 ⟨rfl,G4,SF4,j1,j2,j3,j4⟩;obtain⟨Fs3,se3⟩:=SE2.out.house HQ.out.1 HQ.out.2 (show Z1Q (Z1N Gf) W2 q2 F2 (ZJ S.sync (Zx V.hs)).1 W3 from⟨Yd q2 mb2 G4 SF4,⟨mb2,sp2,G4,SF4,j1,fun k=>Iff.rfl,fun k x hk=>j4 k x (G3.out k x (by rw[<-Z91];exact hk))⟩,j2.weaken (fun b hb=>(G2'.out b).2 hb),fun k hk=>(j3 k hk).imp (fun e=>(G2'.out k).2 e) id⟩);have HJL:Hid (j < (Uk gS V.hs j).length):=zH (List.getElem?_eq_some_iff.1 (Z3c (g:=gS) HSV.out)).1;have HVI:=zH (Z2p HIS.out.sync (l:=Zx V.hs) UOK.out).1;have ID3:=zH (ID1.out.set (i:=j) (S:=S.sync) (S':=(ZJ S.sync (Zx V.hs)).1) (List.getElem?_set_self HJL.out) (Z91 _ _) HVI.out);have SE3:=zH se3;clear j1 j2 j3 j4 se3 SE2 G1 G2' G3 HQ MG LT1;obtain⟨q3,F3,hq3,hF3,mb3,sp3,G5,SF5,g1,g2,g3⟩:=SE3.out.get (i:=j) (S:=(ZJ S.sync (Zx V.hs)).1) (List.getElem?_set_self (by rw[List.length_set];exact HJL.out));obtain rfl:q3=q2:=by
      have h3:=HQ0.out;rw[hq3]at h3;exact Option.some.inj h3
     have G1:=zH g1;have G2:=zH g2;have G3:=zH g3;have HQ:=zH (And.intro hq3 hF3);clear g1 g2 g3 hq3 hF3;go_wp2_with fail;refine(Jh q3 mb3 sp3 G5 SF5 _ W3 G1.out).mono ?_;rintro e W4 ⟨rfl,j1,j2⟩;obtain⟨Fs4,se4⟩:=SE3.out.house HQ.out.1 HQ.out.2 (show Z1Q (Z1N Gf) W3 q3 F3 (ZJ S.sync (Zx V.hs)).1.sync W4 from⟨F3,⟨mb3,sp3,G5,SF5,j1,G2.out,G3.out⟩,j2.weaken (fun b hb=>by rw[show b=sp3 from hb];exact(G2.out sp3).2 (.inr (.inr (.inl G1.out.stk.self)))),fun k hk=>.inl hk⟩);have id4:=ID3.out.set (i:=j) (S':=(ZJ S.sync (Zx V.hs)).1.sync) (List.getElem?_set_self (by rw[List.length_set];exact HJL.out)) rfl HVI.out.sync;have eN:(((Uk gS V.hs j).set j S.sync).set j (ZJ S.sync (Zx V.hs)).1).set j (ZJ S.sync (Zx V.hs)).1.sync=Uk gS V.hs (j+1):=by
      rw[List.set_set,List.set_set,<-Z9v HSV.out,hgS.out]
     have HN:Hid (Z1h Gf w1 W4 p ps (some ⟨g,off,none⟩) hc xs ma mc F bM NS.length f { V with hs:=Uk gS V.hs (j+1) } Fs4/\Z1P T V.hs (Uk gS V.hs (j+1))):=zH (by
      rw[<-eN];exact⟨se4,id4⟩)
     clear j1 j2 se4 id4 eN SE3 G1 G2 G3 HQ ID3;have e1:=E1.out;go_wp2;go_roundw
     case rel=>exact⟨j+1,Fs4,by go_num,by omega,HN⟩
     case measure=>clear e1;(try rw[E1.out]);simp[intOf];omega
    ·have t0:decide ((j:Int) < (i:Int))=false:=by simp;omega
     have t0':decide (j < i)=false:=by simp[hji]
     have hjn:j=i:=by omega
     have FN:Hid (Yj w1 p F (Ua V) wr):=zH (by
      have e0:Uk gS V.hs j=V.hs.map gS:=by
       unfold Uk;rw[List.take_of_length_le (by rw[NH.out.1];omega),List.drop_of_length_le (by rw[NH.out.1];omega),List.append_nil]
      have h3:=HS.out.1.ret;rw[e0,hgS.out]at h3;exact h3)
     clear HS;go_wp2;go_ret;exact⟨rfl,FN.out⟩
theorem Z5r {l:List Z8}{c0:Int->Nat}(hd:(l.map Zk).Nodup): ∀(ns fr:List Z8) (c:Int->Nat),(∀x∈ns,x.num<=(c0 x.house:Int)->x∈l)->ZZ l fr c ns=ZZ l fr c (Yy ns c0)
 | [],fr,c,_=>rfl
 | n :: ns,fr,c,h=>by
  have ih:=fun fr c=>Z5r hd ns fr c (fun x hx=>h x (List.mem_cons_of_mem _ hx))
  by_cases hn:n.num<=(c0 n.house:Int)
  ·have hm:=h n (List.mem_cons_self ..) hn
   have e:Yy (n :: ns) c0=Yy ns c0:=by simp[Yy,hn]
   rw[e,ZZ,<-ih fr c]
   cases hk:YQ (l ++ fr) n with
   | none=>exact absurd rfl (Xx hk n (List.mem_append_left _ hm))
   | some o=>
    have e2:o=n:=by
     unfold YQ at hk;rw[List.find?_append]at hk;cases h2:YQ l n with
     | none=>exact absurd rfl (Xx h2 n hm)
     | some z=>
      have h3:=Z1y h2;unfold YQ at h2;rw[h2]at hk;cases hk;exact Qz hd h3.1 hm h3.2
    subst e2;simp only;rw[if_pos (Z58.2 rfl)]
  ·have e:Yy (n :: ns) c0=n :: Yy ns c0:=by simp[Yy,hn]
   rw[e,ZZ,ZZ];cases YQ (l ++ fr) n with
   | none=>
    simp only;split
    ·exact ih _ _
    ·exact ih _ _
   | some o=>
    simp only;split
    ·exact ih _ _
    ·rfl
section
variable {W:ZD}{ss:List Nat}{T:Nat}
theorem Y3.settleHear (h:Y3 W ss T){S:Zf}(hS:S∈W.hs):(ZJ S.sync (Zx W.hs)).1.l=Zx W.hs/\Xe (ZJ S.sync (Zx W.hs)).1/\(ZJ S.sync (Zx W.hs)).1.f=W.f:=by
 obtain⟨u1,u2⟩:=Xp h.oneN;obtain⟨i,hi⟩:=List.getElem?_of_mem hS;obtain⟨k1,k2,k3⟩:=h.st' hi;have hv:=h.v;obtain⟨c',e1⟩:=Z4T h.unionNms k1.nms u1;rw[<-Z5r (YH k1.srt) (Zx W.hs) [] S.c (fun x hx hle=>by
  obtain⟨y,hy,e⟩:=(k1.nms x.house x.num).2 ⟨(Y6 (h.unionOk x hx).1).2.2,hle⟩;obtain⟨R,hR,hxR⟩:=(u2 x).1 hx;rw[h.oneN R hR S hS x hxR y hy e.symm];exact hy)]at e1
 have hc:=Z6a (f:=S.sync.f) (l:=Zx W.hs) (show S.f.valid=true from k2 ▸ hv) (fun x hx=>by
  show Zg S.f x=true;rw[k2];exact(h.unionOk x hx).1)
 have e2:=UH (S:=S.sync) hc e1;have h5:=(Z2p (l:=Zx W.hs) k1.sync (fun x hx=>(h.unionOk x hx).2)).1;refine⟨?_,h5,?_⟩
 ·rw[e2];show(S.sync.adds (Yy (Zx W.hs) S.c)).l=_;rw[Z0p];exact(ZbD (l1:=Zx W.hs) (l2:=S.l) k1.nms ⟨u1,fun x=>⟨.inl,fun e=>e.elim id fun hx=>(u2 x).2 ⟨S,hS,hx⟩⟩⟩ u1 k1.srt (fun x hx y hy e=>by
   obtain⟨R,hR,hxR⟩:=(u2 x).1 hx;exact h.oneN R hR S hS x hxR y hy e) (fun x hx=>(Y6 (h.unionOk x hx).1).2.2)).1
 ·rw[e2];show(S.sync.adds (Yy (Zx W.hs) S.c)).f=_;rw[Z1e];exact k2
theorem Y3.settled (h:Y3 W ss T){S:Zf}(hS:S∈(Ua W).hs):S.l=Zx W.hs/\Xe S/\S.l.length<=T/\S.f=W.f:=by
 obtain⟨R,hR,rfl⟩:=List.mem_map.1 hS;obtain⟨h1,h2,h3⟩:=h.settleHear hR;have h4:=h.unionLen;exact⟨h1,h2.sync,by show(ZJ R.sync (Zx W.hs)).1.l.length<=T;rw[h1];exact h4,h3⟩
theorem Z6C:(Ua W).hs.length=W.hs.length:=by simp[Ua]
theorem Y3.takeU (h:Y3 W ss T)(k:Nat):(Zx (W.hs.take k)).Pairwise ltN/\(∀y,y∈Zx (W.hs.take k) ↔ ∃S∈W.hs.take k,y∈S.l)/\(∀y∈Zx (W.hs.take k),y∈Zx W.hs)/\(Zx (W.hs.take k)).length<=T:=by
 obtain⟨t1,t2⟩:=Xp (h.oneN.take k);have t3 : ∀y∈Zx (W.hs.take k),y∈Zx W.hs:=fun y hy=>by
  obtain⟨S,hS,hyS⟩:=(t2 y).1 hy;exact((Xp h.oneN).2 y).2 ⟨S,List.mem_of_mem_take hS,hyS⟩
 refine⟨t1,t2,t3,Nat.le_trans ?_ h.unionLen⟩;have h6:=VI (YH t1) (m:=(Zx W.hs).map Zk) (fun a ha=>by
  obtain⟨x,hx,rfl⟩:=List.mem_map.1 ha;exact List.mem_map_of_mem (t3 x hx))
 rwa [List.length_map,List.length_map]at h6
theorem Y3.takeSet (h:Y3 W ss T)(hT:T<=400)(k:Nat):(Zy W.f (Zx (W.hs.take k))).1=0 /\ ∀x∈Zx (W.hs.take k),x.Ok:=by
 obtain⟨t1,_,t3,t4⟩:=h.takeU k;exact⟨Zb0 h.v (Nat.le_trans t4 hT) (fun x hx=>(h.unionOk x (t3 x hx)).1) t1,fun x hx=>(h.unionOk x (t3 x hx)).2⟩
end
theorem Zdv:(zq.info? 24).map (fun i=>(i.zero,i.size,i.bytes))=some (some (.slice none 0 0),1,24):=by kernel_rfl
structure LL where
 zs:List LN
 a:zA
 c:Nat
def LL.val (x:LL):Value := .slice x.a x.zs.length x.c
def LL.ok (W:World)(base:Nat)(x:LL):Prop:=W.ownsRow base 47 19 x.val x.zs.length (ZB x.zs)/\Z0Z W base x.zs
def LL.l (x:LL):List Z8:=x.zs.map LN.n
theorem LL.ok.below {W W':World}{base:Nat}{x:LL}(h:x.ok W base)(hb:Below W.heap.size W W'):x.ok W' base:=⟨Zd h.1 hb,h.2.below hb⟩
theorem Z6L (w:World)(base:Nat)(sa:zA)(sn sc:Nat)(xs:List Value)(hown:w.ownsRow base 24 1 (.slice sa sn sc) sn xs)(xa:zA)(m xc:Nat)(ys:List Value)(hrd:ZW w 1 xa m xc ys)(h1 : ∀u∈ys,u.oneCell'=true)
  (hbytes:(sn+m) * 24<=140737488355328) (hbase:base<=w.heap.size):
  ∃a' c' w',(Builtin.append_ #[71,71] 71 #[.slice sa sn sc,.slice xa m xc]).run zq w = .ok (.slice a' (sn+m) c') w'/\w'.ownsRow base 24 1 (.slice a' (sn+m) c') (sn+m) (xs ++ ys)/\w.grownBy w' (Value.ownBlock (.slice sa sn sc)):=by
 obtain⟨i,hi,hz0,hz1,hz2⟩:=info_parts Zdv;exact Yk w base 71 71 24 i _ 1 24 Tryz.underlying71 hi hz0 hz1 hz2 rfl (by decide) sa sn sc xs hown xa m xc ys hrd h1 (by unfold maxLen;omega) hbytes hbase
theorem Zdq (W:World)(v:Value):ZW (W.alloc (.cells #[v] 24)) 1 (some ⟨W.heap.size,0,none⟩) 1 1 [v]:=
 ZW.of_own (World.ownsRow_lit (base:=W.heap.size) (e:=24) (size:=1) W #[v] 1 (Nat.le_refl _) (by unfold maxLen;omega) rfl)
def VV (W:World)(base:Nat)(a:zA)(c:Nat)(xs:List LL)(hs:List Zf):Prop:=W.ownsRow base 24 1 (.slice a xs.length c) xs.length (xs.map LL.val)/\(∀x∈xs,x.ok W base)/\xs.map LL.l=hs.map Zf.l
theorem VV.below {W W':World}{base:Nat}{a:zA}{c:Nat}{xs:List LL}{hs:List Zf}(h:VV W base a c xs hs)(hb:Below W.heap.size W W'):VV W' base a c xs hs:=⟨Zd h.1 hb,fun x hx=>(h.2.1 x hx).below hb,h.2.2⟩
theorem VV.push {W wn V:World}{base:Nat}{a a':zA}{c c':Nat}{xs:List LL}{hs:List Zf}{x:LL}{S:Zf}(h:VV W base a c xs hs)(hx:x.ok W base)(hS:x.l=S.l)(hb:Below W.heap.size W wn)(ho:V.ownsRow base 24 1 (.slice a' (xs.length+1) c') (xs.length+1) (xs.map LL.val ++ [x.val]))(hg:wn.grownBy V (Value.ownBlock (.slice a xs.length c))):
  VV V base a' c' (xs ++ [x]) (hs ++ [S]):=by
 have o1:=Zd h.1 hb;have s1:Za (fun j=>Value.ownBlock (.slice a xs.length c)=some j) wn V:=Za.of_grown hg (fun j e=>e);have hk : ∀{y:LL},y.ok W base->y.ok V base:=fun {y} hy=>by
  have h1:=hy.below hb;exact⟨Ze h1.1 s1 (fun b hb2 e=>Qg h1.1 o1 (by decide) b hb2 e),fun z hz=>Ze (h1.2 z hz) s1 (fun b hb2 e=>Qg (h1.2 z hz) o1 (by decide) b hb2 e)⟩
 refine⟨by rw[List.length_append,List.map_append];exact ho,fun y hy=>?_,by rw[List.map_append,List.map_append,h.2.2];simp[hS]⟩;rcases List.mem_append.1 hy with hy | hy
 ·exact hk (h.2.1 y hy)
 ·rw[List.mem_singleton.1 hy];exact hk hx
def Zd7 (w:World)(hs:List Zf)(e:Ending)(W:World):Prop := ∃a c xs,e = .returned (.tuple #[.slice a hs.length c,.bool true])/\VV W w.heap.size a c xs hs
theorem ZaZ (p:Nat)(F:Nat->Prop)(V:ZD)(m:Nat)(w:World)(h:Vu w p F V)(hm:V.hs.length=m)(h0:1<=m)(h8:m<=8)(hi : ∀S∈V.hs,Xe S/\S.l.length<=400):
  Calls zq 33 #[.pointer (some ⟨p,0,none⟩),.int .i64 (m:Int)] w fun e w'=>Zd7 w V.hs e w'/\Below w.heap.size w w':=by
 have HW:=zH h;have HM:=zH hm;have H8:=zH (And.intro h0 h8);have WN:=zH (fun(i:Int) W hb=>Z3q p F V i W (h.below Zl (show Below w.heap.size w W from hb)) (by omega) hi);clear h hm h0 h8 hi;go_enter Tryz.func33,Tryz.ntmps33;go_wp2;go_loopw [6,7] (fun s i wr=>∃(k:Nat) (oa:zA) (oc:Nat) (xs:List LL),s = .slice oa k oc/\i = .int .i64 ((k:Int)+1)/\k<=m/\Hid (xs.length=k/\VV wr w.heap.size oa oc xs (V.hs.take k)/\Below w.heap.size w wr)) (fun _ i _=>m+1 - (intOf i).toNat)
 case atStart=>exact⟨0,none,0,[],by first | rfl | trivial,by first | rfl | trivial,Nat.zero_le _,zH ⟨rfl,⟨World.ownsRow_nil _ _ _ _,fun x hx=>by simp at hx,by simp⟩,Below.refl _ _⟩⟩
 case round=>
  obtain⟨k,oa,oc,xs,rfl,rfl,hk,HS⟩:=hrel;by_cases hlt:k < m
  ·obtain⟨S,hS⟩ : ∃S,V.hs[k]? = some S:=⟨_,List.getElem?_eq_getElem (by rw[HM.out];exact hlt)⟩;have HSK:=zH hS;have t0:decide ((k:Int)+1<=(m:Int))=true:=by simp;omega
   have E1:=zH (show wrap64 ((k:Int)+1+1)=(k:Int)+1+1 by have:=H8.out;unfold wrap64;omega);clear hS;go_wp2_with fail;refine(WN.out ((k:Int)+1) wr HS.out.2.2).mono ?_;rintro e w2 ⟨hw,b2⟩;unfold Z1g at hw;rw[Z68 HSK.out]at hw;obtain⟨la,un,lc,zs,rfl,hmg,hzs⟩:=hw;obtain rfl:=hmg.len;have b3:Below w2.heap.size w2 (w2.alloc (.cells #[.slice la zs.length lc] 24)):=zB _ _;have S2:=zH (HS.out.2.1.below b2);have X2:=zH (show LL.ok w2 w.heap.size ⟨zs,la,lc⟩from⟨Zu hmg.own HS.out.2.2.size,fun y hy=>Zu (hmg.str y hy) HS.out.2.2.size⟩);have B2:=zH (HS.out.2.2.trans (b2.mono HS.out.2.2.size));have LK:=zH HS.out.1;obtain⟨a',c',V9,hrun,ho,hg⟩:=Z6L (w2.alloc (.cells #[.slice la zs.length lc] 24)) w.heap.size oa xs.length oc _ (Zd S2.out.1 b3) (some ⟨w2.heap.size,0,none⟩) 1 1 _ (Zdq w2 (.slice la zs.length lc)) (by intro u hu;simp at hu;subst hu;rfl) (by have:=LK.out;have:=H8.out;omega) (Nat.le_trans B2.out.size b3.size);have SN:=zH (show xs.length+1=k+1/\VV V9 w.heap.size a' c' (xs ++ [⟨zs,la,lc⟩]) (V.hs.take (k+1))/\Below w.heap.size w V9 from⟨by rw[LK.out],by
    rw[List.take_add_one,HSK.out];exact S2.out.push X2.out hzs b3 ho hg,(B2.out.trans (b3.mono B2.out.size)).grown hg (Nat.le_trans B2.out.size b3.size) (fun j hj=>(S2.out.1.lt j hj).1)⟩)
   clear b2 b3 hmg hzs ho hg;rw[LK.out]at hrun;go_wp2_with (first
    |(at_builtin;refine YG rfl _ _ _ rfl _ _ _ rfl rfl hrun ?_)
    | fail)
   have e1:=E1.out;go_wp2;go_roundw
   case rel=>exact⟨k+1,a',c',xs ++ [⟨zs,la,lc⟩],by first | rfl | trivial,by first | rfl | go_num,by omega,zH ⟨by rw[List.length_append];exact SN.out.1,SN.out.2⟩⟩
   case measure=>clear e1;rw[E1.out];simp[intOf];omega
  ·have t0:decide ((k:Int)+1<=(m:Int))=false:=by simp;omega
   have hkm:k=m:=by omega
   subst hkm;go_wp2_with fail;go_returns;exact⟨⟨oa,oc,xs,by rw[HM.out];rfl,by have h1:=HS.out.2.1;rwa [List.take_of_length_le (by rw[HM.out];exact Nat.le_refl _)]at h1⟩,HS.out.2.2⟩
structure Z31 (w wr:World)(pF:Nat)(f:Yh)(p:Nat)(F:Nat->Prop)(V:ZD)(m:Nat):Prop where
 bel:Below w.heap.size w wr
 fr:wr.heap[pF]? = some (.cells #[.int .i64 f.rings,.int .i64 f.sectors,.int .i64 f.wide] 23)
 pfl:pF < wr.heap.size
 wld:Vu wr p F V
 fge : ∀k,F k->w.heap.size<=k/\k≠pF
 vf:V.f=f
 len:V.hs.length=m
section
variable {w wr W':World}{pF:Nat}{f:Yh}{p:Nat}{F:Nat->Prop}{V V':ZD}{m:Nat}
theorem Z31.below (h:Z31 w wr pF f p F V m)(hb:Below wr.heap.size wr W'):Z31 w W' pF f p F V m:=
 ⟨h.bel.trans (hb.mono h.bel.size),Z7 hb h.fr,Nat.lt_of_lt_of_le h.pfl hb.size,h.wld.below Zl hb,h.fge,h.vf,h.len⟩
theorem Z31.step (h:Z31 w wr pF f p F V m)(hf:V'.f=V.f/\V'.hs.length=V.hs.length)(hr:Yj wr p F V' W'): ∃F',Z31 w W' pF f p F' V' m/\Za F wr W':=by
 obtain⟨F',h1,h2,h3⟩:=hr;refine⟨F',⟨h2.below h.bel h.bel.size (fun k e=>(h.fge k e).1),(h2.block pF h.pfl (fun e=>(h.fge pF e).2 rfl)).trans h.fr,Nat.lt_of_lt_of_le h.pfl h2.size,h1,fun k hk=>?_,hf.1.trans h.vf,hf.2.trans h.len⟩,h2⟩;rcases h3 k hk with e | e
 ·exact h.fge k e
 ·exact⟨Nat.le_trans h.bel.size e,fun e2=>by have:=h.pfl;omega⟩
end
section
variable {W W':World}{base:Nat}{a:zA}{c:Nat}{xs:List LL}{hs:List Zf}
theorem VV.get (h:VV W base a c xs hs){i:Nat}{S:Zf}(hS:hs[i]? = some S): ∃(x:LL) (g off o:Nat),a=some ⟨g,off,none⟩/\off+i=o /\ ∀W',Below W.heap.size W W'->W'.cell? ⟨g,o,none⟩=some (.slice x.a x.zs.length x.c)/\UP W' x.a x.zs.length x.c S.l:=by
 have h1:(xs.map LL.l)[i]? = some S.l:=by rw[h.2.2,List.getElem?_map,hS];rfl
 rw[List.getElem?_map]at h1;cases hx:xs[i]? with
 | none=>rw[hx]at h1;cases h1
 | some x=>
  rw[hx]at h1;have h2:x.l=S.l:=Option.some.inj h1;have hl:=(List.getElem?_eq_some_iff.1 hx).1;obtain⟨g,off,e,_⟩:=(ZW.of_own h.1).at (by omega);refine⟨x,g,off,off+i,e,rfl,fun W' hb => ?_⟩;have h4:=h.below hb;obtain⟨g',off',e',hat⟩:=(ZW.of_own h4.1).at (by omega);rw[e]at e';cases e';refine⟨hat i _ (by rw[List.getElem?_map,hx];rfl),?_⟩;have h3:=h4.2.1 x (List.mem_of_getElem? hx);rw[<-h2];exact Z8S (ZW.of_own h3.1) (fun y hy=>ZW.of_own (h3.2 y hy))
end
abbrev Ze5 (l:List Z8):Z50:=((Z0H 99999 l).hs,(Z0H 99999 l).es,csN 99999 l)
theorem VW.below {base:Nat}{W W':World}{v:Value}{T:Z50}(h:VW base W v T)(hb:Below W.heap.size W W'):VW base W' v T:=by
 obtain⟨ha,hn,hc,ea,en,ec,ca,cn,cc,hs,es,rfl,h1,h2,h3,h4,h5,h6⟩:=h;exact⟨ha,hn,hc,ea,en,ec,ca,cn,cc,hs,es,rfl,Zd h1 hb,Zd h2 hb,Zd h3 hb,fun e he=>Zd (h4 e he) hb,h5,h6⟩
theorem ZbH (f:Yh)(a:zA)(n c:Nat)(l:List Z8)(w:World)(hr:UP w a n c l)(hok : ∀x∈l,x.Ok)(hs:(Zy f l).1=0):
  Calls zq 34 #[f.val,.slice a n c] w fun e w'=>(∃v,e = .returned (.tuple #[v,.int .i64 0])/\VW w.heap.size w' v (Ze5 l))/\Below w.heap.size w w':=by
 refine(Z7o f a n c l w hr hok).mono ?_;rintro e w' ⟨h,hb⟩;obtain⟨v,R,rfl,⟨ha,hc,ea,ec,ca,cc,rfl,o1,o2,o3,o4⟩,q1,q2,q3,q4⟩:=Z5B (Z3o.ok h hs) (Z0b hs).2.2.2;refine⟨⟨_,rfl,ha,_,hc,ea,_,ec,ca,_,cc,R.hs,R.es,rfl,o1,o2,?_,o4,Z0z q1 (fun e he=>q4 e (List.mem_append_left _ he)),Z0z q2 (fun e he=>q4 e (List.mem_append_right _ he))⟩,hb⟩;rw[q3]at o3 ⊢;exact o3
structure LA where
 a:YU
 sa:zA
 sc:Nat
def LA.cells (x:LA):List Value:=x.a.cells x.sa x.sc
def LA.ok (W:World)(x:LA):Prop:=XU W x.sa x.a.note.strokes.length x.sc x.a.note.strokes
def Z6n (W:World)(a:zA)(n c:Nat)(xs:List LA):Prop:=
 xs.length=n/\n<=c/\c<=maxLen/\(c=0 \/ ∃b off,a=some ⟨b,off,none⟩ /\ ∀i x,xs[i]? = some x->W.rangeAt b (off+i * 25) x.cells/\x.ok W)
theorem Z6n.below {W W':World}{a:zA}{n c:Nat}{xs:List LA}(h:Z6n W a n c xs)(hb:Below W.heap.size W W'):Z6n W' a n c xs:=by
 refine⟨h.1,h.2.1,h.2.2.1,h.2.2.2.imp id ?_⟩;rintro⟨b,off,rfl,h4⟩;exact⟨b,off,rfl,fun i x hx=>⟨XC (h4 i x hx).1 hb,XU.below (h4 i x hx).2 hb⟩⟩
theorem Z6n.at {W:World}{a:zA}{n c:Nat}{xs:List LA}(h:Z6n W a n c xs)(h0:0 < n): ∃b off,a=some ⟨b,off,none⟩ /\ ∀i x,xs[i]? = some x->W.rangeAt b (off+i * 25) x.cells/\x.ok W:=by
 rcases h.2.2.2 with h5 | h5
 ·have:=h.2.1;omega
 ·exact h5
def Xw (l:List YU):Nat:=(l.map fun a=>a.note.strokes.length).sum
theorem Z0T {xs:List LA}{k:Nat}{x:LA}(h:xs[k]? = some x):Xw ((xs.take (k+1)).map LA.a)=Xw ((xs.take k).map LA.a)+x.a.note.strokes.length:=by
 rw[List.take_add_one,h];simp[Xw]
theorem Z2Q (B:Nat): ∀(xs:List LA),(∀x∈xs,x.a.note.strokes.length<=B)->Xw (xs.map LA.a)<=xs.length * B
 | [],_=>by simp[Xw]
 | x :: xs,h=>by
  have h1:=Z2Q B xs (fun y hy=>h y (List.mem_cons_of_mem _ hy))
  have h2:=h x (List.mem_cons_self ..)
  show x.a.note.strokes.length+Xw (xs.map LA.a)<=(xs.length+1) * B
  rw[Nat.add_mul,Nat.one_mul]
  omega
theorem Z4S (xs:List LA)(a:zA)(n c:Nat)(w:World)(h:Z6n w a n c xs)(hn:n<=1000)(hB : ∀x∈xs,x.a.note.strokes.length<=17592186044416):
  Calls zq 27 #[.slice a n c] w fun e w'=>e = .returned (.bool (decide (Xw (xs.map LA.a)<=600)))/\w'=w:=by
 have J25:(zq.info? 67).map (·.size)=some 25:=by kernel_rfl
 have H:=zH h;have HN:=zH hn;have HB:=zH hB;obtain⟨S,hS⟩:=zX (Xw (xs.map LA.a));rw[hS.out];clear h hn hB;go_enter Tryz.func27,Tryz.ntmps27;go_wp2_with fail;go_loopw [3,4] (fun s i wr=>∃(k m:Nat),s = .int .i64 (m:Int)/\i = .int .i64 (k:Int)/\k<=n/\wr=w/\Hid (m=Xw ((xs.take k).map LA.a))) (fun _ i _=>n - (intOf i).toNat)
 case atStart=>exact⟨0,0,by first | rfl | trivial,by first | rfl | trivial,by omega,by first | rfl | trivial,zH rfl⟩
 case round=>
  obtain⟨k,m,rfl,rfl,hk,rfl,HM⟩:=hrel;by_cases hlt:k < n
  ·have t0:decide ((k:Int) < (n:Int))=true:=by simp;omega
   obtain⟨x,hx⟩ : ∃x,xs[k]? = some x:=⟨_,List.getElem?_eq_getElem (by rw[H.out.1];exact hlt)⟩;have HX:=zH hx;obtain⟨b,off,rfl,hat⟩:=H.out.at (by omega);obtain⟨o,ho⟩:=zX (off+k * 25);have hr:=(hat k x hx).1;rw[ho.out]at hr;have c0:wr.cell? ⟨b,o+4+15,none⟩=some (.slice x.sa x.a.note.strokes.length x.sc):=by
    rw[Nat.add_assoc];exact hr 19 _ rfl
   have hix:=fun W=>YR (W:=W) (c:=c) (b:=b) Tryz.underlying61 J25 hlt ho.out;have LB:Hid (x.a.note.strokes.length<=17592186044416/\m<=1000 * 17592186044416):=zH (by
    refine⟨HB.out x (List.mem_of_getElem? hx),?_⟩;have h1:=Z2Q 17592186044416 (xs.take k) (fun y hy=>HB.out y (List.mem_of_mem_take hy));rw[<-HM.out]at h1;refine Nat.le_trans h1 (Nat.mul_le_mul_right _ ?_);rw[List.length_take];have:=HN.out;omega)
   have E1:=zH (show wrap64 ((k:Int)+1)=(k:Int)+1 by have:=HN.out;unfold wrap64;omega);have e2:wrap64 ((m:Int)+(x.a.note.strokes.length:Int))=((m+x.a.note.strokes.length:Nat):Int):=by have:=LB.out;unfold wrap64;omega
   have HM2:Hid (m+x.a.note.strokes.length=Xw ((xs.take (k+1)).map LA.a)):=zH (by rw[Z0T HX.out,HM.out]);have e1:=E1.out;generalize x.a.note.strokes.length=sl at *;clear hat hx hr;go_wp2;go_roundw
   case rel=>exact⟨k+1,m+sl,by first | rfl | go_num,by go_num,by omega,by first | rfl | trivial,HM2⟩
   case measure=>clear e1;rw[E1.out];simp[intOf];omega
  ·have t0:decide ((k:Int) < (n:Int))=false:=by simp;omega
   have HE:Hid (m=S):=zH (by rw[HM.out,List.take_of_length_le (by rw[H.out.1];omega)];exact hS.out);have t1:decide ((m:Int)<=600)=decide (S<=600):=by rw[HE.out,decide_eq_decide];omega
   go_wp2;go_ret;exact⟨by rw[<-t1];rfl,rfl⟩
def Z0Y (V:ZD)(x:Z8):Prop := ∃S∈V.hs,x∈S.l
theorem JU {V:ZD}{k:Nat}{S:Zf}{x:Z8}(h:V.hs[k]? = some S)(hx:x∈S.l):Z0Y V x:=⟨S,List.mem_of_getElem? h,hx⟩
theorem Vx {V:ZD}{h:Int}{S':Zf}{x:Z8}(hx:Z0Y (JM V h S') x):Z0Y V x\/x∈S'.l:=by
 obtain⟨S,hS,hm⟩:=hx;rcases List.mem_or_eq_of_mem_set hS with e | e
 ·exact .inl ⟨S,e,hm⟩
 ·rw[e]at hm;exact .inr hm
theorem Z22 (V:ZD)(h:Int)(S:Zf):(JM V h S).f=V.f/\(JM V h S).hs.length=V.hs.length:=⟨rfl,by unfold JM;simp⟩
def Zcq (V:ZD)(a:YU)(x:Z8):Prop:=a.kind=1 /\ ∃S,Y9 V a.house=some S/\(VA S a.note).2.2=0/\x=QY S a.note
section
variable {V:ZD}{ss:List Nat}{T:Nat}
theorem ZbS (h:Y3 V ss T){a:YU}{x:Z8}(hk:a.kind=1)(hx:Z0Y (JK V a).1 x):Z0Y V x\/Zcq V a x:=by
 cases e:Y9 V a.house with
 | none=>unfold JK at hx;rw[e]at hx;exact .inl hx
 | some S=>
  obtain⟨k,_,_,hkS⟩:=Ye e;unfold JK at hx;rw[e]at hx;dsimp only at hx;rcases Vx hx with h1 | h1
  ·exact .inl h1
  ·have h2:x∈(VA S a.note).1.l:=by
    split at h1
    ·exact h1
    ·exact h1
   rcases Z2s S (h.st' hkS).1.v a.note with ⟨g1,_⟩ | ⟨g1,g2⟩
   ·rw[g1]at h2;exact .inl (JU hkS h2)
   ·rw[g1]at h2;rcases Ys.1 h2 with h3 | h3
    ·exact .inl (JU hkS h3)
    ·exact .inr ⟨hk,S,e,by rw[g1],h3⟩
theorem Z6k (h:Y3 V ss T){m:MlV}{x:Z8}(hm:m∈V.ms)(i:Int)(hx:Z0Y (XB (Xf V i) m).1 x):Z0Y V x:=by
 have hok:=h.ml m hm;unfold XB at hx;cases e:Y9 (Xf V i) m.to with
 | none=>rw[e]at hx;exact hx
 | some S=>
  obtain⟨k,_,_,hkS⟩:=Ye e;have hkV:V.hs[k]? = some S:=hkS;rw[e]at hx;dsimp only at hx;cases hc:m.cont with
  | gift l=>
   rw[hc]at hx;dsimp only at hx;have hco:=hok.cont;rw[hc]at hco;rcases Vx hx with h1 | h1
   ·exact h1
   ·rcases Z0h (h.st' hkV).1 l (fun y hy=>(Dur.ok h (hco.2.2 y hy)).2.1)with ⟨g1,_⟩ | ⟨fr,g1,_,g3,_⟩
    ·rw[g1]at h1;exact JU hkV h1
    ·rw[g1]at h1;have h2:x∈(S.adds fr).l:=h1;rw[Z0p,VT]at h2;rcases h2 with h2 | h2
     ·exact JU hkV h2
     ·obtain⟨j,R,g4,g5⟩:=Dur.known h (hco.2.2 x (g3 x h2).1);exact JU g4 g5
  | ask c=>
   rw[hc]at hx;dsimp only at hx;split at hx
   ·rcases Vx hx with h1 | h1
    ·exact h1
    ·exact JU hkV h1
   ·rcases Vx (V:=Xf V i) (h:=m.to) (S':=S.sync) hx with h1 | h1
    ·exact h1
    ·exact JU hkV h1
theorem Z3v (h:Y3 V ss T){a:YU}{x:Z8}(hx:Z0Y (YZ V a).1 x):Z0Y V x\/Zcq V a x:=by
 unfold YZ at hx;split at hx
 ·rename_i hk;exact ZbS h hk hx
 split at hx
 ·unfold JO at hx;cases e:Y9 V a.house with
  | none=>rw[e]at hx;exact .inl hx
  | some S=>
   obtain⟨k,_,_,hkS⟩:=Ye e;rw[e]at hx;rcases Vx hx with h1 | h1
   ·exact .inl h1
   ·exact .inl (JU hkS h1)
 split at hx
 ·unfold Xu at hx;cases e:Y9 V a.house with
  | none=>rw[e]at hx;exact .inl hx
  | some S=>
   rw[e]at hx;dsimp only at hx;split at hx
   ·exact .inl hx
   ·split at hx
    ·exact .inl hx
    ·exact .inl hx
 split at hx
 ·unfold Yw at hx;cases e:Qr V a.idx with
  | none=>rw[e]at hx;exact .inl hx
  | some m=>
   obtain⟨i,_,_,hmi⟩:=QA e;rw[e]at hx;exact .inl (Z6k h (List.mem_of_getElem? hmi) a.idx hx)
 split at hx
 ·unfold Jq at hx;cases e:Qr V a.idx with
  | none=>rw[e]at hx;exact .inl hx
  | some m=>rw[e]at hx;exact .inl hx
 split at hx
 ·unfold Xb at hx;cases e:Qr V a.idx with
  | none=>rw[e]at hx;exact .inl hx
  | some m=>
   rw[e]at hx;dsimp only at hx;split at hx
   ·exact .inl hx
   ·exact .inl hx
 split at hx
 ·unfold Xq at hx;cases e:Y9 V a.house with
  | none=>rw[e]at hx;exact .inl hx
  | some S=>
   obtain⟨k,_,_,hkS⟩:=Ye e;obtain⟨s,_,hst,_,_⟩:=h.st k S hkS;rw[e]at hx;rcases Vx hx with h1 | h1
   ·exact .inl h1
   ·refine .inl (JU hkS ?_);rcases hst.crash (Z8N S a.keep a.flip a.idx)with ⟨_,g1⟩ | ⟨_,j,_,_,_,g2,g3⟩
    ·rw[g1]at h1;exact h1
    ·have h2:=g3.mem.1 h1;rw[g2]at h2;exact hst.mem.2 (List.mem_of_mem_take h2)
 ·exact .inl hx
theorem Zcj (W:ZD)(m:MlV):(XB W m).1.f=W.f/\(XB W m).1.hs.length=W.hs.length:=by
 unfold XB;cases e:Y9 W m.to with
 | none=>exact⟨rfl,rfl⟩
 | some S=>
  dsimp only;cases hc:m.cont with
  | gift l=>exact Z22 _ _ _
  | ask c=>
   dsimp only;split
   ·exact Z22 _ _ _
   ·exact Z22 W m.to S.sync
theorem Z80 (V:ZD)(a:YU):(YZ V a).1.f=V.f/\(YZ V a).1.hs.length=V.hs.length:=by
 unfold YZ;split
 ·unfold JK;cases Y9 V a.house <;> first | exact⟨rfl,rfl⟩ | exact Z22 _ _ _
 split
 ·unfold JO;cases Y9 V a.house <;> first | exact⟨rfl,rfl⟩ | exact Z22 _ _ _
 split
 ·unfold Xu;cases Y9 V a.house with
  | none=>exact⟨rfl,rfl⟩
  | some S=>
   dsimp only;split
   ·exact⟨rfl,rfl⟩
   ·split <;> exact⟨rfl,rfl⟩
 split
 ·unfold Yw;cases Qr V a.idx with
  | none=>exact⟨rfl,rfl⟩
  | some m=>exact Zcj (Xf V a.idx) m
 split
 ·unfold Jq;cases Qr V a.idx <;> exact⟨rfl,rfl⟩
 split
 ·unfold Xb;cases Qr V a.idx with
  | none=>exact⟨rfl,rfl⟩
  | some m=>
   dsimp only;split <;> exact⟨rfl,rfl⟩
 split
 ·unfold Xq;cases Y9 V a.house <;> first | exact⟨rfl,rfl⟩ | exact Z22 _ _ _
 ·exact⟨rfl,rfl⟩
end
def Vi (x:Z8):Bool:=decide (x.kind=1)
def Z6p (n h:Z8):Prop:=h.kind=1/\Zk h=Z5a n/\XV h n < 0
theorem Z8i {l:List Z8}(h : ∀x∈l,YP x=true)(r:Z8):Z46 l r=none:=by
 unfold Z46;have : ∀m:List Z8,(∀x∈m,YP x=true)->m.foldl (Xh r) none=none:=by
  intro m
  induction m with
  | nil=>intro _;rfl
  | cons x m ih=>
   intro hm;have e:Xh r none x=none:=by
    unfold Xh UO;rw[hm x (List.mem_cons_self ..)];rfl
   show m.foldl (Xh r) (Xh r none x)=none;rw[e];exact ih (fun y hy=>hm y (List.mem_cons_of_mem _ hy))
 exact this l h
theorem Zag {l:List Z8}(h : ∀x∈l,YP x=true):l.filterMap (countP l)=l:=by
 have : ∀m:List Z8,(∀x∈m,YP x=true)->m.filterMap (countP l)=m:=by
  intro m
  induction m with
  | nil=>intro _;rfl
  | cons x m ih=>
   intro hm;have e:countP l x=some x:=by
    unfold countP;rw[if_pos (hm x (List.mem_cons_self ..)),Z8i h]
   rw[List.filterMap_cons_some e,ih (fun y hy=>hm y (List.mem_cons_of_mem _ hy))]
 exact this l h
theorem Z4l {l:List Z8}(h : ∀x∈l,YP x=true):(Qn l).Perm l/\(Qn l).Pairwise (fun x y=>¬XV y x < 0):=by
 unfold Qn;rw[Zag h];exact⟨UW l,Z1m l⟩
theorem ZaU {day:Int}{R:Z1M}{n:Z8}{x:Nm}(h:x∈R.cs):x∈(Jp day R n).cs:=by
 unfold Jp;split
 ·split
  ·split
   ·exact h
   ·exact h
  ·exact List.mem_append_left _ h
 ·exact h
theorem Z7r {day:Int}{x:Nm}: ∀(l:List Z8) (R:Z1M),x∈R.cs->x∈(l.foldl (Jp day) R).cs
 | [],R,h=>h
 | n :: l,R,h=>Z7r l (Jp day R n) (ZaU h)
theorem Z7q {day:Int}{x:Z8}: ∀(l:List Z8) (R:Z1M),x∈(l.foldl (Jp day) R).hs->x∈R.hs\/(x∈l/\x.kind=1)
 | [],R,h => .inl h
 | n :: l,R,h=>by
  rcases Z7q l (Jp day R n) h with h1 | h1
  ·unfold Jp at h1
   split at h1
   ·split at h1
    ·split at h1
     ·rename_i hk
      rcases List.mem_append.1 h1 with h2 | h2
      ·exact .inl h2
      ·rw[List.mem_singleton.1 h2];exact .inr ⟨List.mem_cons_self ..,hk⟩
     ·exact .inl h1
    ·exact .inl h1
   ·exact .inl h1
  ·exact .inr ⟨List.mem_cons_of_mem _ h1.1,h1.2⟩
theorem Zan {l:List Z8}(hd:(l.map Zk).Nodup){h n:Z8}(hh:h∈l)(hn:n∈l)(h1 : ¬XV n h < 0)(e:h.kind≠n.kind):XV h n < 0:=by
 by_cases h2:XV h n < 0
 ·exact h2
 ·have:=Qz hd hh hn (Z6t h2 h1);rw[this]at e;exact absurd rfl e
theorem Z6S {l:List Z8}(hd:(l.map Zk).Nodup)(hk : ∀x∈l,YP x=true){n:Z8}(hn:n∈l)(h2:n.kind=2)(hday:n.day<=99999)(hc:Zk n ∉ csN 99999 l): ∃h∈l,Z6p n h:=by
 obtain⟨hp,hs⟩:=Z4l hk;have hne:=hp.mem_iff.2 hn;obtain⟨E1,E2,e⟩:=List.append_of_mem hne;have hnc:Zk n ∉ (Z0H 99999 l).cs:=fun hm=>hc (by
  unfold csN;refine List.mem_map_of_mem (List.mem_filter.2 ⟨hn,?_⟩);simp[hm])
 unfold Z0H at hnc;rw[e,List.foldl_append,List.foldl_cons]at hnc;have hx : ∃h∈E1,h.kind=1/\Zk h=Z5a n:=by
  have hhs:=fun h=>Z7q (day:=99999) (x:=h) E1 ⟨[],[],[]⟩;generalize E1.foldl (Jp 99999) ⟨[],[],[]⟩=R1 at *;by_cases hE:Z8z R1 n=true
  ·unfold Z8z at hE;rw[if_neg (by rw[h2];decide),if_pos h2,List.any_eq_true]at hE;obtain⟨h,hh,hr⟩:=hE;rcases hhs h hh with h3 | h3
   ·cases h3
   ·exact⟨h,h3.1,h3.2,by simpa using hr⟩
  ·refine absurd (Z7r E2 _ ?_) hnc;unfold Jp;rw[if_pos hday,if_neg hE];exact List.mem_append_right _ (List.mem_singleton.2 rfl)
 obtain⟨h,hh,h3,h4⟩:=hx;have hhl:h∈l:=hp.mem_iff.1 (by rw[e];exact List.mem_append_left _ hh);rw[e]at hs;have h5:=(List.pairwise_append.1 hs).2.2 h hh n (List.mem_cons_self ..);exact⟨h,hhl,h3,h4,Zan hd hhl hn h5 (by rw[h3,h2];decide)⟩
theorem Zc8 {l:List Z8}(hd:(l.map Zk).Nodup)(hk : ∀x∈l,YP x=true)(hday : ∀x∈l,x.day<=99999)(h8:(l.filter Vi).length<=8)(hb : ∀n∈l,n.kind=2 -> ∃h∈l,Z6p n h):csN 99999 l=[]:=by
 obtain⟨hp,hs⟩:=Z4l hk;have hE:((Qn l).filter Vi).length<=8:=by rw[(hp.filter Vi).length_eq];exact h8
 have hgo : ∀(E2 E1:List Z8) (R:Z1M),Qn l=E1 ++ E2->R.cs=[]->R.hs=E1.filter Vi->(E2.foldl (Jp 99999) R).cs=[]:=by
  intro E2
  induction E2 with
  | nil=>intro E1 R _ hc _;exact hc
  | cons n E2 ih=>
   intro E1 R e hc hh;have hnE:n∈Qn l:=by rw[e];exact List.mem_append_right _ (List.mem_cons_self ..)
   have hnl:=hp.mem_iff.1 hnE;have hEf:Z8z R n=true:=by
    unfold Z8z;by_cases hk1:n.kind=1
    ·rw[if_pos hk1,hh];have hlt:(E1.filter Vi).length < 8:=by
      rw[e,List.filter_append,List.filter_cons_of_pos (by simpa [Vi] using hk1),List.length_append,List.length_cons]at hE;omega
     exact decide_eq_true (by omega)
    ·rw[if_neg hk1];by_cases hk2:n.kind=2
     ·rw[if_pos hk2,List.any_eq_true];obtain⟨h,hhl,g1,g2,g3⟩:=hb n hnl hk2;refine⟨h,?_,by simpa using g2⟩;rw[hh,List.mem_filter];refine⟨?_,by simpa [Vi] using g1⟩;have hhE:=hp.mem_iff.2 hhl;rw[e,List.mem_append,List.mem_cons]at hhE;rcases hhE with h1 | h1 | h1
      ·exact h1
      ·rw[h1,hk2]at g1;cases g1
      ·rw[e]at hs;have:=(List.pairwise_cons.1 (List.pairwise_append.1 hs).2.1).1 h h1;exact absurd g3 this
     ·rw[if_neg hk2]
   have hst:(Jp 99999 R n).cs=[]/\(Jp 99999 R n).hs=(E1 ++ [n]).filter Vi:=by
    unfold Jp;rw[List.filter_append,<-hh];split
    ·split
     ·rename_i hk1;exact⟨hc,by rw[List.filter_cons_of_pos (by simpa [Vi] using hk1)];rfl⟩
     ·rename_i hk1;exact⟨hc,by rw[List.filter_cons_of_neg (by simpa [Vi] using hk1)];simp⟩
    ·rename_i hnd;exact absurd (hday n hnl) hnd
   rw[List.foldl_cons];exact ih (E1 ++ [n]) _ (by rw[e,List.append_assoc];rfl) hst.1 hst.2
 have hcs:(Z0H 99999 l).cs=[]:=hgo (Qn l) [] ⟨[],[],[]⟩ rfl rfl rfl;unfold csN;rw[hcs,List.filter_eq_nil_iff.2]
 ·rfl
 ·intro x hx;unfold Z4c;rw[hk x hx];simp
/-! ### Houses -/
def Z2D (ad:List Z8)(k:Int):Prop := ∀(i:Nat) (n:Z8),ad[i]? = some n->n.house=k->n.kind=2 -> ∃h∈ad.take i,Z6p n h
def Z4C (hs:List Zf):Prop := ∀(k:Nat) (S:Zf),hs[k]? = some S->Z2D S.ad ((k:Int)+1)
theorem Z2D.take {ad:List Z8}{k:Int}(h:Z2D ad k)(q:Nat):Z2D (ad.take q) k:=fun i n hi hk h2=>by
 rw[List.getElem?_take]at hi
 split at hi
 ·rename_i hlt
  obtain⟨x,hx,hh⟩:=h i n hi hk h2
  exact⟨x,by rw[List.take_take,Nat.min_eq_left (Nat.le_of_lt hlt)];exact hx,hh⟩
 ·cases hi
theorem Z2D.app {ad fr:List Z8}{k:Int}(h:Z2D ad k)(hf : ∀x∈fr,x.house=k->x.kind=2 -> ∃y∈ad,Z6p x y):Z2D (ad ++ fr) k:=fun i n hi hk h2=>by
 rw[List.getElem?_append]at hi
 split at hi
 ·rename_i hlt
  obtain⟨x,hx,hh⟩:=h i n hi hk h2
  exact⟨x,by rw[List.take_append_of_le_length (Nat.le_of_lt hlt)];exact hx,hh⟩
 ·rename_i hge
  obtain⟨y,hy,hh⟩:=hf n (List.mem_of_getElem? hi) hk h2
  refine⟨y,?_,hh⟩
  rw[List.take_append]
  refine List.mem_append_left _ ?_
  rw[List.take_of_length_le (by omega)]
  exact hy
theorem Z4C.set {hs:List Zf}(h:Z4C hs){k:Nat}{S':Zf}(h':Z2D S'.ad ((k:Int)+1)):Z4C (hs.set k S'):=fun j R hj=>by
 by_cases e:k=j
 ·subst e
  rw[List.getElem?_set]at hj
  split at hj
  ·split at hj
   ·cases hj;exact h'
   ·cases hj
  ·exact absurd rfl ‹_›
 ·rw[List.getElem?_set_ne e]at hj
  exact h j R hj
theorem Z4C.new (f:Yh)(m:Nat):Z4C ((List.range m).map fun(i:Nat)=>Zf.new f ((i:Int)+1)):=fun k S hS=>by
 obtain⟨i,_,rfl⟩:=List.mem_map.1 (List.mem_of_getElem? hS)
 intro j n hj
 cases hj
section
variable {V:ZD}{ss:List Nat}{T:Nat}
structure Z4B (V:ZD)(D:List Z8)(q:Nat):Prop where
 kn : ∀x,Z0Y V x->x∈D
 kd : ∀x∈D,x.kind≠5/\x.kind≠6
 hp:(D.filter Vi).length<=q
 ad:Z4C V.hs
theorem Z7D {f:Yh}{x:Z8}(h:Zg f x=true)(h5:x.kind≠5/\x.kind≠6):YP x=true:=by
 have:=Z69 h;unfold YP;rw[Yt];omega
theorem ZdD {S:Zf}{n:Z8}(h:(VA S n).2.2=0):S.l.length < 400/\((n.kind≠5/\n.kind≠6)->Zk (QY S n) ∉ (Z4K S.f (YV S.l (QY S n)) (YV S.l (QY S n)) 99999).2.2):=by
 unfold VA at h;split at h
 ·cases h
 ·rename_i h1;split at h
  ·cases h
  ·split at h
   ·cases h
   ·rename_i h3;exact⟨by omega,fun hk hm=>h3 ⟨hk,hm⟩⟩
theorem Ze9 (h:Y3 V ss T){D:List Z8}{q:Nat}(hc:Z4B V D q){a:YU}(hok:a.note.Ok)(hp:a.note.kind≠5/\a.note.kind≠6):Z4C (JK V a).1.hs:=by
 unfold JK;cases e:Y9 V a.house with
 | none=>exact hc.ad
 | some S=>
  obtain⟨k,e1,e2,hk⟩:=Ye e;obtain⟨s,hs,hst,hf,hid⟩:=h.st k S hk;dsimp only;rw[JY e2];have hA:Z2D (VA S a.note).1.ad ((k:Int)+1):=by
   rcases Z2s S hst.inv.v a.note with ⟨h1,_⟩ | ⟨h1,h2⟩
   ·rw[h1];exact hc.ad k S hk
   ·rw[h1];show Z2D (S.ad ++ [QY S a.note]) _;refine(hc.ad k S hk).app fun x hx _ hx2=>?_;rw[List.mem_singleton.1 hx]at hx2 ⊢;have hnm:(QY S a.note).num=(S.c (QY S a.note).house:Int)+1:=rfl;have hadd:=hst.inv.add h2 (Z8A hok h2) hnm;have hz:=ZdD (S:=S) (n:=a.note) (by rw[h1]);have hset:(Zy S.f (YV S.l (QY S a.note))).1=0:=by
     refine Zb0 hst.inv.v ?_ (fun y hy=>hadd.1.frm y hy) hadd.1.srt;have h8:=zy [QY S a.note] S.l;have h9:(YV S.l (QY S a.note)).length=S.l.length+1:=h8;omega
    have hcs:Zk (QY S a.note) ∉ csN 99999 (YV S.l (QY S a.note)):=by
     have h8:=hz.2 hp;unfold Z4K at h8;rw[if_pos hset]at h8;exact h8
    have hin:QY S a.note∈YV S.l (QY S a.note):=Ys.2 (.inr rfl);have hall : ∀y∈YV S.l (QY S a.note),YP y=true:=fun y hy=>by
     refine Z7D (hadd.1.frm y hy) ?_;rcases Ys.1 hy with hy | hy
     ·exact hc.kd y (hc.kn y (JU hk hy))
     ·rw[hy];exact hp
    obtain⟨y,hy,hh⟩:=Z6S (YH hadd.1.srt) hall hin hx2 (Z4h h2).2 hcs;refine⟨y,?_,hh⟩;rcases Ys.1 hy with hy | hy
    ·exact hst.mem.1 hy
    ·rw[hy]at hh;have h7:=hh.1;rw[hx2]at h7;cases h7
  split
  ·exact hc.ad.set hA
  ·exact hc.ad.set hA
theorem ZcM (h:Y3 V ss T){k:Nat}{S:Zf}(hk:V.hs[k]? = some S){l:List Z8}(hl : ∀x∈l,Dur V.hs ss x){K:Int}(hK:Z2D S.ad ((k:Int)+1)):Z2D (ZJ S l).1.ad ((k:Int)+1):=by
 rcases Z0h (h.st' hk).1 l (fun x hx=>((hl x hx).ok h).2.1)with ⟨h1,_⟩ | ⟨fr,h1,h2,h3,h4,h5⟩
 ·rw[h1];exact hK
 ·rw[h1];show Z2D (S.adds fr).ad _;rw[Z1K];refine hK.app fun x hx hxk _=>?_;obtain⟨j,R,r,g1,g2,g3,g4,g5,g6,g7,g8⟩:=(hl x (h3 x hx).1).elim h;have:j=k:=by omega
  subst this;rw[hk]at g2;cases g2;rw[List.map_append]at h4;exact absurd rfl ((List.nodup_append.1 h4).2.2 _ (List.mem_map_of_mem g8) _ (List.mem_map_of_mem hx))
theorem Zaq (h:Y3 V ss T)(hc:Z4C V.hs){m:MlV}(hm:m∈V.ms)(i:Int):Z4C (XB (Xf V i) m).1.hs:=by
 have hok:=h.ml m hm;unfold XB;cases e:Y9 (Xf V i) m.to with
 | none=>exact hc
 | some S=>
  obtain⟨k,e1,e2,hkS⟩:=Ye e;have hkV:V.hs[k]? = some S:=hkS;dsimp only;cases hmc:m.cont with
  | gift l=>
   have hco:=hok.cont;rw[hmc]at hco;dsimp only;rw[JY e2];exact hc.set (ZcM (K:=0) h hkV hco.2.2 (hc k S hkV))
  | ask c=>
   dsimp only;rw[JY e2];split
   ·exact hc.set (S':=S.sync) (hc k S hkV)
   ·exact hc.set (S':=S.sync) (hc k S hkV)
theorem Zcx (h:Y3 V ss T){D:List Z8}{q:Nat}(hc:Z4B V D q){a:YU}(hok:a.note.Ok)(hp:a.kind=1->a.note.kind≠5/\a.note.kind≠6):Z4C (YZ V a).1.hs:=by
 unfold YZ;split
 ·rename_i hk;exact Ze9 h hc hok (hp hk)
 split
 ·unfold JO;cases e:Y9 V a.house with
  | none=>exact hc.ad
  | some S=>
   obtain⟨k,e1,e2,hk⟩:=Ye e;dsimp only;rw[JY e2];exact hc.ad.set (S':=S.sync) (hc.ad k S hk)
 split
 ·unfold Xu;cases e:Y9 V a.house with
  | none=>exact hc.ad
  | some S=>
   dsimp only;split
   ·exact hc.ad
   ·split
    ·exact hc.ad
    ·exact hc.ad
 split
 ·unfold Yw;cases e:Qr V a.idx with
  | none=>exact hc.ad
  | some m=>
   obtain⟨i,_,_,hmi⟩:=QA e;exact Zaq h hc.ad (List.mem_of_getElem? hmi) a.idx
 split
 ·unfold Jq;cases e:Qr V a.idx with
  | none=>exact hc.ad
  | some m=>exact hc.ad
 split
 ·unfold Xb;cases e:Qr V a.idx with
  | none=>exact hc.ad
  | some m=>
   dsimp only;split
   ·exact hc.ad
   ·exact hc.ad
 split
 ·unfold Xq;cases e:Y9 V a.house with
  | none=>exact hc.ad
  | some S=>
   obtain⟨k,e1,e2,hk⟩:=Ye e;obtain⟨s,_,hst,_,_⟩:=h.st k S hk;dsimp only;rw[JY e2];refine hc.ad.set ?_;rcases hst.crash (Z8N S a.keep a.flip a.idx)with ⟨_,g1⟩ | ⟨_,j,_,_,_,g2,g3⟩
   ·rw[g1];exact hc.ad k S hk
   ·rw[g2];exact(hc.ad k S hk).take j
 ·exact hc.ad
def Z0U (a:YU):Bool:=decide (a.kind=1) && decide (a.note.kind=1)
theorem Z4B.step (h:Y3 V ss T){D:List Z8}{q:Nat}(hc:Z4B V D q){a:YU}(hok:a.note.Ok)(hp:a.kind=1->a.note.kind≠5/\a.note.kind≠6): ∃D',Z4B (YZ V a).1 D' (if Z0U a=true then q+1 else q):=by
 have hA:=Zcx h hc hok hp;have hq:q<=if Z0U a=true then q+1 else q:=by split <;> omega
 by_cases hd : ∃S,a.kind=1/\Y9 V a.house=some S
 ·obtain⟨S,h1,hS⟩:=hd;refine⟨D ++ [QY S a.note],⟨fun x hx=>?_,fun x hx=>?_,?_,hA⟩⟩
  ·rcases Z3v h hx with e | ⟨_,R,hR,_,e⟩
   ·exact List.mem_append_left _ (hc.kn x e)
   ·rw[hS]at hR;cases hR;rw[e];exact List.mem_append_right _ (List.mem_singleton.2 rfl)
  ·rcases List.mem_append.1 hx with hx | hx
   ·exact hc.kd x hx
   ·rw[List.mem_singleton.1 hx];exact hp h1
  ·rw[List.filter_append,List.length_append];have:=hc.hp;by_cases hk:a.note.kind=1
   ·rw[if_pos (by unfold Z0U;simp[h1,hk])];have:([QY S a.note].filter Vi).length<=1:=List.length_filter_le _ _;omega
   ·have e:[QY S a.note].filter Vi=[]:=by
     rw[List.filter_eq_nil_iff];intro x hx;rw[List.mem_singleton.1 hx];unfold Vi;have e9:(QY S a.note).kind=a.note.kind:=rfl;rw[e9];simpa using hk
    rw[e];simp only[List.length_nil];omega
 ·refine⟨D,⟨fun x hx=>?_,hc.kd,Nat.le_trans hc.hp hq,hA⟩⟩;rcases Z3v h hx with e | ⟨h1,R,hR,_,e⟩
  ·exact hc.kn x e
  ·exact absurd ⟨R,h1,hR⟩ hd
theorem Z4X (h:Y3 V ss T){D:List Z8}(hc:Z4B V D 8):csN 99999 (Zx V.hs)=[]:=by
 obtain⟨u1,u2⟩:=Xp h.oneN;have hk : ∀x∈Zx V.hs,x∈D:=fun x hx=>by
  obtain⟨S,hS,hx2⟩:=(u2 x).1 hx;exact hc.kn x ⟨S,hS,hx2⟩
 have hd:((Zx V.hs).map Zk).Nodup:=YH u1;refine Zc8 hd (fun x hx=>Z7D (h.unionOk x hx).1 (hc.kd x (hk x hx))) (fun x hx=>(Z4h (h.unionOk x hx).1).2) ?_ (fun n hn h2=>?_)
 ·refine Nat.le_trans ?_ hc.hp;have h1:(((Zx V.hs).filter Vi).map Zk).Nodup:=hd.sublist (List.filter_sublist.map Zk);have h2:=VI h1 (m:=(D.filter Vi).map Zk) (fun a ha=>by
   obtain⟨x,hx,rfl⟩:=List.mem_map.1 ha;rw[List.mem_filter]at hx;exact List.mem_map_of_mem (List.mem_filter.2 ⟨hk x hx.1,hx.2⟩))
  rwa [List.length_map,List.length_map]at h2
 ·obtain⟨S,hS,hnS⟩:=(u2 n).1 hn;obtain⟨i,hi⟩:=List.getElem?_of_mem hS;obtain⟨j,R,g1,g2,g3⟩:=h.named hi hnS;obtain⟨s,_,hst,_,_⟩:=h.st j R g2;obtain⟨p,hp⟩:=List.getElem?_of_mem (hst.mem.1 g3);obtain⟨y,hy,hh⟩:=hc.ad j R g2 p n hp g1 h2;exact⟨y,(u2 y).2 ⟨R,List.mem_of_getElem? g2,hst.mem.2 (List.mem_of_mem_take hy)⟩,hh⟩
end
def Z2y (a:YU):Bool:=decide (a.kind=1) && (decide (a.note.kind=5) || decide (a.note.kind=6))
def Up (l:List YU):Nat:=(l.filter Z0U).length
def Ul (l:List YU):Bool := !l.any Z2y && decide (Up l<=8)
theorem Zau {W:World}{b o:Nat}{x:LA}(h:W.rangeAt b o x.cells):W.cell? ⟨b,o,none⟩=some (.int .i64 x.a.kind)/\W.cell? ⟨b,o+1,none⟩=some (.int .i64 x.a.house)/\W.cell? ⟨b,o+4+4,none⟩=some (.int .i64 x.a.note.kind)/\W.cell? ⟨b,o+4+3,none⟩=some (.int .i64 x.a.note.day):=
 ⟨h 0 _ rfl,h 1 _ rfl,by rw[Nat.add_assoc];exact h 8 _ rfl,by rw[Nat.add_assoc];exact h 7 _ rfl⟩
theorem Z2V {xs:List LA}{k:Nat}{x:LA}(h:xs[k]? = some x):Up ((xs.take (k+1)).map LA.a)=if Z0U x.a=true then Up ((xs.take k).map LA.a)+1 else Up ((xs.take k).map LA.a):=by
 rw[List.take_add_one,h];unfold Up;rw[List.map_append,List.filter_append,List.length_append];show _+([x.a].filter Z0U).length=_;by_cases hq:Z0U x.a=true
 ·rw[if_pos hq,List.filter_cons_of_pos hq];rfl
 ·rw[if_neg hq,List.filter_cons_of_neg hq];rfl
theorem Zch {xs:List LA}{k:Nat}{x:LA}(h:xs[k]? = some x):((xs.take (k+1)).map LA.a).any Z2y=(((xs.take k).map LA.a).any Z2y || Z2y x.a):=by
 rw[List.take_add_one,h];simp
theorem Zd0 {xs:List LA}{k:Nat}{x:LA}(h:xs[k]? = some x)(hb:Z2y x.a=true):Ul (xs.map LA.a)=false:=by
 unfold Ul;have:(xs.map LA.a).any Z2y=true:=List.any_eq_true.2 ⟨x.a,List.mem_map_of_mem (List.mem_of_getElem? h),hb⟩;rw[this];rfl
theorem Za7 (xs:List LA)(k:Nat):Up ((xs.take k).map LA.a)<=k:=by
 refine Nat.le_trans (List.length_filter_le _ _) ?_;rw[List.length_map,List.length_take];exact Nat.min_le_left _ _
theorem Z88 {l:List YU}(h:Ul l=true){a:YU}(ha:a∈l)(hk:a.kind=1):a.note.kind≠5/\a.note.kind≠6:=by
 unfold Ul at h;rw[Bool.and_eq_true,Bool.not_eq_true',List.any_eq_false]at h;have h1:=h.1 a ha;unfold Z2y at h1;simpa [hk] using h1
theorem Z5U {l:List YU}(h:Ul l=true):Up l<=8:=by
 unfold Ul at h;rw[Bool.and_eq_true]at h;exact of_decide_eq_true h.2
theorem Z4M (xs:List LA)(a:zA)(n c:Nat)(w:World)(h:Z6n w a n c xs)(hn:n<=1000):
  Calls zq 28 #[.slice a n c] w fun e w'=>e = .returned (.bool (Ul (xs.map LA.a)))/\w'=w:=by
 have J25:(zq.info? 67).map (·.size)=some 25:=by kernel_rfl
 have H:=zH h;have HN:=zH hn;obtain⟨Y,hY⟩:=zX (Ul (xs.map LA.a));rw[hY.out];clear h hn;go_enter Tryz.func28,Tryz.ntmps28;go_wp2_with fail;go_loopw [3,4] (fun s i wr=>∃(k m:Nat),s = .int .i64 (m:Int)/\i = .int .i64 (k:Int)/\k<=n/\wr=w/\Hid (m=Up ((xs.take k).map LA.a)/\((xs.take k).map LA.a).any Z2y=false)) (fun _ i _=>n - (intOf i).toNat)
 case atStart=>exact⟨0,0,by first | rfl | trivial,by first | rfl | trivial,by omega,by first | rfl | trivial,zH ⟨rfl,rfl⟩⟩
 case round=>
  obtain⟨k,m,rfl,rfl,hk,rfl,HM⟩:=hrel;by_cases hlt:k < n
  ·have t0:decide ((k:Int) < (n:Int))=true:=by simp;omega
   obtain⟨x,hx⟩ : ∃x,xs[k]? = some x:=⟨_,List.getElem?_eq_getElem (by rw[H.out.1];exact hlt)⟩;have HX:=zH hx;obtain⟨b,off,rfl,hat⟩:=H.out.at (by omega);obtain⟨o,ho⟩:=zX (off+k * 25);have hr:=(hat k x hx).1;rw[ho.out]at hr;obtain⟨d0,_,d2,_⟩:=Zau hr;have hix:=fun W=>YR (W:=W) (c:=c) (b:=b) Tryz.underlying61 J25 hlt ho.out;have E1:=zH (show wrap64 ((k:Int)+1)=(k:Int)+1 by have:=HN.out;unfold wrap64;omega);have E2:=zH (show wrap64 ((m:Int)+1)=((m+1:Nat):Int)by have:=HN.out;have h1:=Za7 xs k;rw[<-HM.out.1]at h1;unfold wrap64;omega);clear hat hx hr;have NXT:Z2y x.a=false->Hid ((if Z0U x.a=true then m+1 else m)=Up ((xs.take (k+1)).map LA.a)/\((xs.take (k+1)).map LA.a).any Z2y=false):=fun hb=>zH ⟨by rw[Z2V HX.out,<-HM.out.1],by rw[Zch HX.out,HM.out.2,hb];rfl⟩;have BAD:Z2y x.a=true->Hid (Y=false):=fun hb=>zH (by rw[<-hY.out];exact Zd0 HX.out hb);have hbd:Z2y x.a=(x.a.kind==1 && (x.a.note.kind==5 || x.a.note.kind==6)):=by
    unfold Z2y;rfl
   have hhp:Z0U x.a=(x.a.kind==1 && x.a.note.kind==1):=by
    unfold Z0U;rfl
   rw[hbd]at NXT BAD;rw[hhp]at NXT;clear hbd hhp;generalize x.a.kind=ka at *;generalize x.a.note.kind=kn at *;cases h1:(ka==1)
   case false=>
    have N1:=NXT (by rw[h1];rfl);rw[h1]at N1;clear NXT BAD;have e1:=E1.out;go_wp2;go_roundw
    case rel=>exact⟨k+1,m,by first | rfl | go_num,by go_num,by omega,by first | rfl | trivial,N1⟩
    case measure=>clear e1;rw[E1.out];simp[intOf];omega
   cases h5:(kn==5)
   case true=>
    have B1:=BAD (by rw[h1,h5];rfl);clear NXT BAD;go_wp2;go_ret;exact⟨by rw[B1.out];rfl,rfl⟩
   cases h6:(kn==6)
   case true=>
    have B1:=BAD (by rw[h1,h5,h6];rfl);clear NXT BAD;go_wp2;go_ret;exact⟨by rw[B1.out];rfl,rfl⟩
   have N1:=NXT (by rw[h1,h5,h6];rfl);rw[h1]at N1;clear NXT BAD;cases h7:(kn==1)
   case false=>
    rw[h7]at N1;have e1:=E1.out;go_wp2;go_roundw
    case rel=>exact⟨k+1,m,by first | rfl | go_num,by go_num,by omega,by first | rfl | trivial,N1⟩
    case measure=>clear e1;rw[E1.out];simp[intOf];omega
   rw[h7]at N1;have e1:=E1.out;have e2:=E2.out;go_wp2;go_roundw
   case rel=>exact⟨k+1,m+1,by first | rfl | go_num,by go_num,by omega,by first | rfl | trivial,N1⟩
   case measure=>clear e1 e2;rw[E1.out];simp[intOf];omega
  ·have t0:decide ((k:Int) < (n:Int))=false:=by simp;omega
   have HE:Hid (decide ((m:Int)<=8)=Y):=zH (by
    have h1:=HM.out;rw[List.take_of_length_le (by rw[H.out.1];omega)]at h1;rw[<-hY.out];unfold Ul;rw[h1.2,<-h1.1];show _=decide (m<=8);rw[decide_eq_decide];omega)
   go_wp2;go_ret;exact⟨by rw[<-HE.out];rfl,rfl⟩
open Go.ChangeShapes Go.WideShapes Go.ChangeAt Go.RowKit
theorem Tryz.bytes3:zq.bytesOf 3=8:=by kernel_rfl
theorem Z02 {H:Type}{P:Program}{e:TypeId}: ∀{ds:List (DataW H)} {d:DataW H},d∈ds -> ∀n∈d.weights P e,n∈DataW.weightsAll P e ds
 | [],_,h,_,_=>by cases h
 | d0 :: ds,d,h,n,hn=>by
  simp only[DataW.weightsAll,List.mem_append]
  rcases List.mem_cons.1 h with rfl | h
  ·exact .inl hn
  ·exact .inr (Z02 h n hn)
section
variable {H:Type}{enc:TypeId×Value->H}{W:World}
def zz (t:TypeId)(d:DataW H):Prop := ∀q∈d.weights zq t,q<=reachBytes
theorem Z9j {ts:List TypeId}{ds:List (DataW H)}(h:(DataW.weightsEach zq ts ds).all (· <= reachBytes)=true){j:Nat}{t:TypeId}{d:DataW H}(ht:ts[j]? = some t)(hd:ds[j]? = some d):zz t d:=fun q hq=>by
 have:=List.all_eq_true.1 h _ (DataW.weights_mem_each ht hd q hq)
 simpa using this
theorem Z9i {fuel:Nat}{y:DataW H×List MemPlace}{a:zA}{n c:Nat}(h:DataW.trod enc zq W 0 (fun _=>true) true fuel 37 [.slice a n c]=some y)(hs:zz 37 y.1):n<=17592186044416:=by
 rcases DataW.trod_slice Tryz.underlying37 h with ⟨hcs,hx⟩ | ⟨a1,len',cap',elems,rest,m,_,hcs,hx,hb,hl,hm,hlen,hel,hsp,hns⟩
 ·simp at hcs;omega
 ·simp at hcs;obtain⟨rfl,rfl,rfl⟩:=hcs;subst hx;have h1:=hs ((elems.length+rest.length) * zq.bytesOf 3) (by simp[DataW.weights,Tryz.underlying37]);rw[Tryz.bytes3,show reachBytes=140737488351232 by decide]at h1;omega
theorem Z6r {fuel:Nat}{y:DataW H×List MemPlace}{n:Z8}{sa:zA}{sc:Nat}(h:DataW.trod enc zq W 0 (fun _=>true) true fuel 47 (n.cells sa sc)=some y)(hs:zz 47 y.1):n.strokes.length<=17592186044416:=by
 obtain⟨xs,m,_,hx,hl,hlen,hf⟩:=DataW.trod_struct Tryz.underlying47 h;obtain⟨y13,e13⟩:=Y5 hlen (i:=13) (by decide);have g13:DataW.trod enc zq W 0 (fun _=>true) true m 37 (((n.cells sa sc).drop 15).take (zq.cellsOf 37))=some y13:=(hf 13 _ rfl).trans e13;rw[Tryz.cells37]at g13;refine Z9i (y:=y13) g13 fun q hq=>hs q ?_;rw[hx];simp only[DataW.weights,Tryz.underlying47];exact DataW.weights_mem_each (j:=13) (t:=37) rfl (by simp[List.getElem?_map,e13]) q hq
theorem Z8c {fuel:Nat}{cs:List Value}{y:DataW H×List MemPlace}{t e:TypeId}{k:Nat}(ht:zq.underlying t=some (.slice e))(hc:zq.cellsOf e=k)(hk:0 < k)
  (h:DataW.trod enc zq W 0 (fun _=>true) true fuel t cs=some y) (hs:zz t y.1):
  ∃a n c,cs=[.slice a n c]/\n<=c/\c<=maxLen/\(c=0 \/ ∃b off,a=some ⟨b,off,none⟩ /\ ∀i,i < n -> ∃es m z,DataW.trod enc zq W 0 (fun _=>true) true m e es=some z/\W.rangeAt b (off+i * k) es/\zz e z.1):=by
 rcases DataW.trod_slice ht h with ⟨hcs,hx⟩ | ⟨a,len',cap',elems,rest,m,_,hcs,hx,hb,hl,hm,hlen,hel,hsp,hns⟩
 ·exact⟨none,0,0,hcs,Nat.le_refl _,Nat.zero_le _,.inl rfl⟩
 ·rw[hc]at hel hsp;refine⟨some a,len',cap',hcs,hl,hm,?_⟩;rcases Nat.eq_zero_or_pos cap' with h0 | h0
  ·exact .inl h0
  ·have hspot:a.spot=none:=by
    rcases Nat.eq_zero_or_pos len' with h1 | h1
    ·obtain⟨h2,h3⟩:=hsp rfl;have h4:=h3 0 (by omega);rw[List.getElem?_eq_getElem (by omega)]at h4;cases hq:W.cells? 0 (a.add ((len'+0) * k)) k with
     | none=>rw[hq]at h4;cases h4
     | some cs=>rw[show(len'+0) * k=0 by rw[h1];simp]at hq;have:=Z4v hk hq;simpa [Addr.add] using this
    ·have h4:=hel 0 h1;rw[List.getElem?_eq_getElem (by omega)]at h4;cases hq:W.cells? 0 (a.add (0 * k)) k with
     | none=>rw[hq]at h4;cases h4
     | some cs=>rw[Nat.zero_mul]at hq;have:=Z4v hk hq;simpa [Addr.add] using this
   obtain⟨ab,ao,spot⟩:=a;simp only at hspot;subst hspot;refine .inr ⟨ab,ao,rfl,fun i hi=>?_⟩;have h1:=hel i hi;rw[List.getElem?_eq_getElem (by omega)]at h1;cases hcs:W.cells? 0 ((⟨ab,ao,none⟩:Addr).add (i * k)) k with
   | none=>rw[hcs]at h1;cases h1
   | some es=>
    rw[hcs]at h1;have h2:=World.cells?_some hcs;refine⟨es,m,_,h1,fun j v hv=>?_,fun q hq=>hs q ?_⟩
    ·have hj:j < es.length:=(List.getElem?_eq_some_iff.1 hv).1;have h3:=h2.2.2 j (by have:=h2.1;omega);rw[hv]at h3;simpa [Addr.add_lit] using h3
    ·rw[hx];simp only[DataW.weights,ht,List.mem_cons,List.mem_append];refine .inr (.inl (Z02 ?_ q hq));exact List.mem_map_of_mem (List.getElem_mem _)
end
theorem Tryz.cells67:zq.cellsOf 67=25:=by kernel_rfl
structure LA.Good (W:World)(x:LA):Prop where
 ok:x.ok W
 nok:x.a.note.Ok
 len:x.a.note.strokes.length<=17592186044416
 kind:Jl x.a.kind
 house:Jl x.a.house
section
variable {H:Type}{enc:TypeId×Value->H}{W:World}
theorem Z9C {fuel:Nat}{cs:List Value}{y:DataW H×List MemPlace}(h:DataW.trod enc zq W 0 (fun _=>true) true fuel 67 cs=some y)(hs:zz 67 y.1): ∃x:LA,cs=x.cells/\x.Good W:=by
 obtain⟨xs,m,_,hyx,hl,hlen,hf⟩:=DataW.trod_struct Tryz.underlying67 h;rw[Tryz.cells67]at hl
 match cs,hl with
 | [c0,c1,c2,c3,c4,c5,c6,c7,c8,c9,c10,c11,c12,c13,c14,c15,c16,c17,c18,c19,c20,c21,c22,c23,c24],_=>
  obtain⟨y0,e0⟩:=Y5 hlen (i:=0) (by decide);have HG:=fun(K T:Nat) {y} (h:DataW.trod enc zq W 0 (fun _=>true) true m T (([c0,c1,c2,c3,c4,c5,c6,c7,c8,c9,c10,c11,c12,c13,c14,c15,c16,c17,c18,c19,c20,c21,c22,c23,c24].drop K).take (zq.cellsOf T))=some y)=>h;have g0:=HG 0 3 ((hf 0 _ rfl).trans e0);rw[Tryz.cells3]at g0;obtain⟨x0,a0,_,b0⟩:=DataW.trod_int Tryz.underlying3 g0;simp at a0;obtain⟨y1,e1⟩:=Y5 hlen (i:=1) (by decide);have g1:=HG 1 3 ((hf 1 _ rfl).trans e1);rw[Tryz.cells3]at g1;obtain⟨x1,a1,_,b1⟩:=DataW.trod_int Tryz.underlying3 g1;simp at a1;obtain⟨y2,e2⟩:=Y5 hlen (i:=2) (by decide);have g2:=HG 2 3 ((hf 2 _ rfl).trans e2);rw[Tryz.cells3]at g2;obtain⟨x2,a2,_,b2⟩:=DataW.trod_int Tryz.underlying3 g2;simp at a2;obtain⟨y3,e3⟩:=Y5 hlen (i:=3) (by decide);have g3:=HG 3 3 ((hf 3 _ rfl).trans e3);rw[Tryz.cells3]at g3;obtain⟨x3,a3,_,b3⟩:=DataW.trod_int Tryz.underlying3 g3;simp at a3;obtain⟨y5,e5⟩:=Y5 hlen (i:=5) (by decide);have g5:=HG 23 3 ((hf 5 _ rfl).trans e5);rw[Tryz.cells3]at g5;obtain⟨x5,a5,_,b5⟩:=DataW.trod_int Tryz.underlying3 g5;simp at a5;obtain⟨y6,e6⟩:=Y5 hlen (i:=6) (by decide);have g6:=HG 24 3 ((hf 6 _ rfl).trans e6);rw[Tryz.cells3]at g6;obtain⟨x6,a6,_,b6⟩:=DataW.trod_int Tryz.underlying3 g6;simp at a6;obtain⟨y4,e4⟩:=Y5 hlen (i:=4) (by decide);have g4:=HG 4 47 ((hf 4 _ rfl).trans e4);rw[Tryz.cells47]at g4;have w4:zz 47 y4.1:=fun q hq=>hs q (by
   rw[hyx];simp only[DataW.weights,Tryz.underlying67];exact DataW.weights_mem_each (j:=4) (t:=47) rfl (by simp[List.getElem?_map,e4]) q hq)
  have g4b:=g4;obtain⟨nv,na,nc,a4,r4,o4⟩:=Z8d g4;rw[a4]at g4b;have l4:=Z6r g4b w4;simp only[Z8.cells]at a4;simp at a4;clear hs hyx hf h;obtain⟨rfl,rfl,rfl,rfl,rfl,rfl,rfl,rfl,rfl,rfl,rfl,rfl,rfl,rfl,rfl,rfl,rfl,rfl,rfl⟩:=a4;subst a0 a1 a2 a3 a5 a6;exact⟨⟨⟨x0,x1,x2,x3,nv,x5,x6⟩,na,nc⟩,rfl,⟨r4,o4,l4,Z8m b0,Z8m b1⟩⟩
theorem Z9B {base:Nat}{v:Value}{d:DataW H}{p:List MemPlace}(hval:Value.okWide zq W .any base 61 v)
  (h:DataW.Trod enc zq W 0 (fun _=>true) true 61 v d p) (hs:zz 61 d) : ∃a n c l,v = .slice a n c/\Z6n W a n c l /\ ∀x∈l,x.Good W:=by
 obtain⟨a1,n1,c1,rfl⟩:=okWide_slice Tryz.underlying61 hval;obtain⟨fuel,hf⟩:=h;obtain⟨a,n,c,h0,h1,h2,h3⟩:=Z8c Tryz.underlying61 Tryz.cells67 (by decide) hf hs;simp[Value.cells]at h0;obtain⟨rfl,rfl,rfl⟩:=h0;rcases h3 with h3 | ⟨b,off,rfl,h3⟩
 ·exact⟨_,_,_,[],rfl,⟨by simp;omega,h1,h2,.inl h3⟩,fun x hx=>by cases hx⟩
 ·obtain⟨l,h4,h5⟩:=Z7E (P:=fun i (x:LA)=>W.rangeAt b (off+i * 25) x.cells/\x.Good W) (fun i hi=>by
   obtain⟨es,m,z,h6,h7,h8⟩:=h3 i hi;obtain⟨o,rfl,ho⟩:=Z9C h6 h8;exact⟨o,h7,ho⟩)
  refine⟨_,_,_,l,rfl,⟨h4,h1,h2,.inr ⟨b,off,rfl,fun i x hx=>⟨(h5 i x hx).1,(h5 i x hx).2.ok⟩⟩⟩,fun x hx=>?_⟩;obtain⟨i,hi⟩:=List.getElem?_of_mem hx;exact(h5 i x hi).2
end
theorem Zd4 (a:YU)(sa:zA)(sc:Nat):(a.cells sa sc).toArray.all (·.oneCell')=true:=by kernel_rfl
theorem Z4B.new (f:Yh)(m:Nat):Z4B (Z0I f m) [] 0:=by
 refine⟨fun x hx=>?_,fun x hx=>(by cases hx),Nat.le_refl _,Z4C.new f m⟩;obtain⟨S,hS,hm⟩:=hx;obtain⟨i,_,rfl⟩:=List.mem_map.1 (show S∈(List.range m).map fun(i:Nat)=>Zf.new f ((i:Int)+1)from hS);cases hm
theorem Vc.noCs {W:World}{ha:zA}{hn hc:Nat}{ea:zA}{en ec:Nat}{ca:zA}{cn cc:Nat}{T:Z50}(h:Vc W (.agg #[.slice ha hn hc,.slice ea en ec,.slice ca cn cc]) T)(h0:T.2.2=[]):cn=0:=by
 obtain⟨ha',hn',hc',ea',en',ec',ca',cn',cc',hs,es,e,_,_,h3,_⟩:=h;simp only[Value.agg.injEq,Array.mk.injEq,List.cons.injEq,Value.slice.injEq]at e;rw[e.2.2.1.2.1];rw[h0]at h3;have h4:=h3.1;simp[ZC]at h4;omega
theorem Zai (f:Yh)(nm:Int)(a:zA)(n c:Nat)(xs:List LA)(w:World)(hr:Z6n w a n c xs)(hg : ∀x∈xs,x.Good w):
  Calls zq 6 #[f.val,.int .i64 nm,.slice a n c] w fun e w'=>e = .returned (.bool true)/\Below w.heap.size w w':=by
 have hvl:f.val = .agg #[.int .i64 f.rings,.int .i64 f.sectors,.int .i64 f.wide]:=rfl;have NWO:=zH (fun(m:Nat) W hv h1 h8=>Z71 f m W hv h1 h8);have NWN:=zH (fun W h=>Z72 f nm W h);have FO:=zH (fun a nn nc l W h1 h2 h3=>ZbH f a nn nc l W h1 h2 h3);rw[hvl]at NWO NWN FO ⊢;clear hvl;have J25:(zq.info? 67).map (·.size)=some 25:=by kernel_rfl
 have J19:(zq.info? 47).map (·.size)=some 19:=by kernel_rfl
 have JL:(zq.info? 24).map (·.size)=some 1:=by kernel_rfl
 have HR:=zH hr;have HG:=zH hg;have hn63:n<=9223372036854775807:=by have h1:=hr.2.1;have h2:=hr.2.2.1;unfold maxLen at h2;omega
 have X0:=zH (Z9 w (zF f 23));have B0:=zH (zB w (zF f 23));clear hr hg;go_enter Tryz.func6,Tryz.ntmps6;go_upto_region 1 with fail;obtain⟨pF,hpF⟩:=zX (w.heap.size);rw[hpF.out]at X0 ⊢;generalize w.alloc (zF f 23)=W0 at *;go_wp2_with fail;refine(Zao _).mono ?_;rintro e W1 ⟨rfl,b1⟩;have X1:=zH (Z7 b1 X0.out);have B1:=zH (B0.out.trans (b1.mono B0.out.size));clear b1 X0 B0;go_upto_region 2 with fail;cases hq:decide ((60:Int) < (n:Int))
 case true=>
  go_wp2;go_ret;exact⟨rfl,B1.out⟩
 have NL:=zH (show n<=60 by simp at hq;omega);go_wp2_with fail;refine(Z4S xs a n c _ (HR.out.below B1.out) (by have:=NL.out;omega) (fun x hx=>(HG.out x hx).len)).mono ?_;rintro e W2 ⟨rfl,rfl⟩;cases hb:decide (Xw (xs.map LA.a)<=600)
 case false=>
  go_wp2;go_ret;exact⟨rfl,B1.out⟩
 have LIT:Hid (∀x∈xs,x.a.note.strokes.length<=1000000000):=zH (fun x hx=>by
  have h1:=of_decide_eq_true hb;obtain⟨i,hi⟩:=List.getElem?_of_mem hx;have h2:=Z0T hi;have h3:Xw ((xs.take (i+1)).map LA.a)<=Xw (xs.map LA.a):=by
   unfold Xw;have h4:xs=xs.take (i+1) ++ xs.drop (i+1):=(List.take_append_drop _ _).symm;rw[show((xs.map LA.a).map fun a=>a.note.strokes.length)=(((xs.take (i+1) ++ xs.drop (i+1)).map LA.a).map fun a=>a.note.strokes.length)by rw[<-h4]];rw[List.map_append,List.map_append,List.sum_append];omega
  omega)
 clear hb hq;go_wp2_with fail;refine(Z4M xs a n c _ (HR.out.below B1.out) (by have:=NL.out;omega)).mono ?_;rintro e W2 ⟨rfl,rfl⟩;cases hb:Ul (xs.map LA.a)
 case false=>
  go_wp2;go_ret;exact⟨rfl,B1.out⟩
 have PL:=zH hb;clear hb;have c0:=Z6 X1.out 0 (.int .i64 f.rings) rfl;have c1:=Z6 X1.out 1 (.int .i64 f.sectors) rfl;have c2:=Z6 X1.out 2 (.int .i64 f.wide) rfl;by_cases hno : ¬(1<=nm/\nm<=8/\f.valid=true)
 ·go_wp2_with fail;refine(NWN.out _ hno).mono ?_;rintro e W3 ⟨rfl,b3⟩;have B3:=zH (B1.out.trans (b3.mono B1.out.size));clear b3 hno c0 c1 c2;go_wp2;go_ret;exact⟨rfl,B3.out⟩
 obtain⟨m,rfl⟩ : ∃m:Nat,nm=(m:Int):=⟨nm.toNat,by omega⟩;have HM:=zH (show 1<=m/\m<=8/\f.valid=true from⟨by omega,by omega,by
  have h9:=Classical.not_not.1 hno;exact h9.2.2⟩)
 clear hno NWN;go_wp2_with fail;refine(NWO.out m _ HM.out.2.2 HM.out.1 HM.out.2.1).mono ?_;rintro e W3 ⟨p,F,rfl,hw,hF,b3⟩;have ST:Hid (Z31 w W3 pF f p F (Z0I f m) m):=zH ⟨B1.out.trans (b3.mono B1.out.size),Z7 b3 X1.out,Zj (Z7 b3 X1.out),hw,fun k hk=>by
   have h1:=hF k hk;have h2:=B1.out.size;have h3:=Zj X1.out;exact⟨by omega,by omega⟩,rfl,by simp[Z0I]⟩
 have C0:Hid (Z4B (Z0I f m) [] 0):=zH (Z4B.new f m);have I0:Hid (Y3 (Z0I f m) (List.replicate m 0) 0):=zH (Y3.new HM.out.2.2 ⟨HM.out.1,HM.out.2.1⟩);clear hw hF b3 c0 c1 c2 NWO X1 B1;go_wp2_with fail;go_loopw [10,11,12,13,14] (fun iv _ _ _ _ wr=>∃(k:Nat) (F:Nat->Prop) (V:ZD) (ss:List Nat) (D:List Z8),iv = .int .i64 (k:Int)/\k<=n/\Hid (Z31 w wr pF f p F V m/\Y3 V ss k/\Z4B V D (Up ((xs.take k).map LA.a)))) (fun iv _ _ _ _ _=>n - (intOf iv).toNat)
 case atStart=>exact⟨0,F,Z0I f m,List.replicate m 0,[],by first | rfl | trivial,Nat.zero_le _,zH ⟨ST.out,I0.out,C0.out⟩⟩
 case round=>
  clear ST I0 C0;obtain⟨k,F,V,ss,D,rfl,hk,HS⟩:=hrel;by_cases hlt:k < n
  ·have t0:decide ((k:Int) < (n:Int))=true:=by simp;omega
   obtain⟨x,hx⟩ : ∃x,xs[k]? = some x:=⟨_,List.getElem?_eq_getElem (by rw[HR.out.1];exact hlt)⟩;have XM:=zH (List.mem_of_getElem? hx);have XG:=zH (HG.out x XM.out);obtain⟨b,off,rfl,hat⟩:=HR.out.at (by omega);obtain⟨o,ho⟩:=zX (off+k * 25);have hra:=(hat k x hx).1;rw[ho.out]at hra;have HRA:=zH hra;have hix:=fun W=>YR (W:=W) (c:=c) (b:=b) Tryz.underlying61 J25 hlt ho.out;have E1:=zH (show wrap64 ((k:Int)+1)=(k:Int)+1 by have:=NL.out;unfold wrap64;omega);have HX:=zH (XC HRA.out HS.out.1.bel);obtain⟨ss',hI⟩:=HS.out.2.1.step x.a XG.out.nok;obtain⟨D',hC⟩:=HS.out.2.2.step HS.out.2.1 XG.out.nok (fun hk1=>Z88 PL.out (List.mem_map_of_mem XM.out) hk1);rw[<-Z2V hx]at hC;have IN:=zH hI;have CN:=zH hC;have I0:=zH HS.out.2.1;have H0:=zH HS.out.1;have HSL:Hid (∀S∈V.hs,Xe S/\S.l.length<=400):=zH (fun S hS=>by
    obtain⟨i,hi⟩:=List.getElem?_of_mem hS;exact⟨(I0.out.st' hi).1,Nat.le_trans (I0.out.len hi) (by have:=NL.out;omega)⟩)
   clear hat hx hra hI hC HS;go_upto_region 10 with fail;go_upto_region 11 with (first
    |(refine wpList_load_mid rfl 67 _ rfl b o rfl (x.a.cells x.sa x.sc) _ HX.out Tryz.underlying67 rfl J25 ?_)
    |(refine Zr wr rfl 67 _ _ rfl wr.heap.size rfl _ (x.a.cells x.sa x.sc).toArray rfl rfl (JA _ _ _) rfl (Zd4 _ _ _) ?_)
    | fail)
   clear t0 HX;have NT:=zH (Z9 wr (.cells (x.a.cells x.sa x.sc).toArray 67));have b:Below wr.heap.size wr (wr.alloc (.cells (x.a.cells x.sa x.sc).toArray 67)):=zB _ _;replace H0:=zH (H0.out.below b);clear b;obtain⟨pa,hpa⟩:=zX (wr.heap.size);rw[hpa.out]at NT ⊢;generalize wr.alloc (.cells (x.a.cells x.sa x.sc).toArray 67)=W4 at *;clear hpa;have c1:=Z6 NT.out 1 (.int .i64 x.a.house) rfl;go_wp2_with fail;refine(Z3q p F V x.a.house W4 H0.out.wld (by rw[H0.out.len];have:=HM.out.1;omega) HSL.out).mono ?_;rintro e W6 ⟨hw,b6⟩;replace H0:=zH (H0.out.below b6);replace NT:=zH (Z7 b6 NT.out);clear c1;unfold Z1g at hw;have c0:=Z6 NT.out 0 (.int .i64 x.a.kind) rfl;cases hh:Y9 V x.a.house with
   | none=>
    rw[hh]at hw;subst hw;clear b6 hh;cases q1:(x.a.kind==1)
    focus
     go_upto_region 18 with fail
    rotate_left
    focus
     go_upto_region 18 with fail
    all_goals
     clear c0 q1;go_wp2_with (first
      |(refine wpList_load_row rfl 67 _ rfl pa rfl 67 (x.a.cells x.sa x.sc).toArray (0,0) _ NT.out Tryz.underlying67 rfl (JA _ _ _) ?_)
      | fail)
     refine(Z1U p F V ss k x.a x.sa x.sc _ H0.out.wld I0.out (by have:=NL.out;omega) XG.out.kind (XU.below XG.out.ok H0.out.bel) XG.out.nok (LIT.out x XM.out)).mono ?_;rintro e W9 ⟨rfl,hr5⟩;obtain⟨F',h5,_⟩:=H0.out.step (Z80 V x.a) hr5;have H5:=zH (And.intro h5 (And.intro IN.out CN.out));obtain⟨z,hz⟩ : ∃z,(YZ V x.a).2=z:=⟨_,rfl⟩;rw[hz];generalize (YZ V x.a).1=V' at *;clear hr5 h5 hz;have e1:=E1.out;go_wp2;go_roundw
     case rel=>exact⟨k+1,F',V',ss',D',by go_num,by omega,H5⟩
     case measure=>clear e1;(try rw[E1.out]);simp[intOf];omega
   | some S=>
    rw[hh]at hw;obtain⟨la,un,lc,zs,rfl,hmg,hzs⟩:=hw;obtain rfl:=hmg.len;have ROW:Hid (∀W,Below W6.heap.size W6 W->ZW W 19 la zs.length lc (ZB zs)):=zH (fun W hb=>ZW.of_own (Zd hmg.own hb));have ZN:Hid (zs.length<=400):=zH (by
     obtain⟨i,_,_,hi⟩:=Ye hh;have h1:=(HSL.out S (List.mem_of_getElem? hi)).2;rw[<-hzs,List.length_map]at h1;exact h1)
    clear b6 hmg hzs hh;cases q1:(x.a.kind==1)
    ·go_upto_region 18 with fail;clear c0 q1;go_wp2_with (first
      |(refine wpList_load_row rfl 67 _ rfl pa rfl 67 (x.a.cells x.sa x.sc).toArray (0,0) _ NT.out Tryz.underlying67 rfl (JA _ _ _) ?_)
      | fail)
     refine(Z1U p F V ss k x.a x.sa x.sc _ H0.out.wld I0.out (by have:=NL.out;omega) XG.out.kind (XU.below XG.out.ok H0.out.bel) XG.out.nok (LIT.out x XM.out)).mono ?_;rintro e W9 ⟨rfl,hr5⟩;obtain⟨F',h5,_⟩:=H0.out.step (Z80 V x.a) hr5;have H5:=zH (And.intro h5 (And.intro IN.out CN.out));obtain⟨z,hz⟩ : ∃z,(YZ V x.a).2=z:=⟨_,rfl⟩;rw[hz];generalize (YZ V x.a).1=V' at *;clear hr5 h5 hz;have e1:=E1.out;go_wp2;go_roundw
     case rel=>exact⟨k+1,F',V',ss',D',by go_num,by omega,H5⟩
     case measure=>clear e1;(try rw[E1.out]);simp[intOf];omega
    go_wp2_with fail;clear c0 q1;go_loopw [14] (fun jv wr=>∃(j:Nat),jv = .int .i64 (j:Int)/\j<=zs.length/\Hid (Below W6.heap.size W6 wr)) (fun jv _=>zs.length - (intOf jv).toNat)
    case atStart=>exact⟨0,by first | rfl | trivial,Nat.zero_le _,zH (Below.refl _ _)⟩
    case round=>
     obtain⟨j,rfl,hj,HB⟩:=hrel;by_cases hjl:j < zs.length
     ·have t0:decide ((j:Int) < (zs.length:Int))=true:=by simp;omega
      obtain⟨y,hy⟩ : ∃y,zs[j]? = some y:=⟨_,List.getElem?_eq_getElem hjl⟩;obtain⟨b2,off2,rfl,hat2⟩:=Z75 (ROW.out wr HB.out) (by omega);obtain⟨o2,ho2⟩:=zX (off2+j * 19);have hry:=hat2 j y hy;rw[ho2.out]at hry;have y3:wr.cell? ⟨b2,o2+3,none⟩=some (.int .i64 y.n.day):=hry 3 _ rfl;have hix2:=fun W=>YR (W:=W) (c:=lc) (b:=b2) Tryz.underlying24 J19 hjl ho2.out;have E2:=zH (show wrap64 ((j:Int)+1)=(j:Int)+1 by have:=ZN.out;unfold wrap64;omega);have d7:=Z6 (Z7 HB.out NT.out) (4+3) (.int .i64 x.a.note.day) rfl;clear hat2 hy hry;go_wp2_with fail;go_quiet (fail);clear y3 d7;obtain⟨W8,hW8⟩ : ∃W8,Hid (W8=wr.drewN nq):=⟨_,zH rfl⟩;have bq:=below_drewN (Below.refl wr.heap.size wr) nq;rw[<-hW8.out]at bq ⊢;have HB8:=zH (HB.out.trans (bq.mono HB.out.size));clear bq hW8 HB;cases hq:decide (x.a.note.day < y.n.day)
      ·have e1:=E2.out;go_wp2;go_roundw
       case rel=>exact⟨j+1,by go_num,by omega,HB8⟩
       case measure=>clear e1;(try rw[E2.out]);simp[intOf];omega
      ·have BF:=zH (H0.out.bel.trans (HB8.out.mono H0.out.bel.size));go_wp2;go_ret;exact⟨rfl,BF.out⟩
     ·have t0:decide ((j:Int) < (zs.length:Int))=false:=by simp;omega
      replace H0:=zH (H0.out.below HB.out);replace NT:=zH (Z7 HB.out NT.out);clear HB ROW;go_upto_region 18 with fail;clear t0;go_wp2_with (first
       |(refine wpList_load_row rfl 67 _ rfl pa rfl 67 (x.a.cells x.sa x.sc).toArray (0,0) _ NT.out Tryz.underlying67 rfl (JA _ _ _) ?_)
       | fail)
      refine(Z1U p F V ss k x.a x.sa x.sc _ H0.out.wld I0.out (by have:=NL.out;omega) XG.out.kind (XU.below XG.out.ok H0.out.bel) XG.out.nok (LIT.out x XM.out)).mono ?_;rintro e W9 ⟨rfl,hr5⟩;obtain⟨F',h5,_⟩:=H0.out.step (Z80 V x.a) hr5;have H5:=zH (And.intro h5 (And.intro IN.out CN.out));obtain⟨z,hz⟩ : ∃z,(YZ V x.a).2=z:=⟨_,rfl⟩;rw[hz];generalize (YZ V x.a).1=V' at *;clear hr5 h5 hz;have e1:=E1.out;go_wp2;go_roundw
      case rel=>exact⟨k+1,F',V',ss',D',by go_num,by omega,H5⟩
      case measure=>clear e1;(try rw[E1.out]);simp[intOf];omega
  ·have t0:decide ((k:Int) < (n:Int))=false:=by simp;omega
   have TK:Hid (k<=60):=zH (by have:=NL.out;omega);have H0:=zH HS.out.1;have I0:=zH HS.out.2.1;have NOC:Hid (csN 99999 (Zx V.hs)=[]):=zH (Z4X I0.out (by
    obtain⟨h1,h2,h3,h4⟩:=HS.out.2.2;refine⟨h1,h2,Nat.le_trans h3 ?_,h4⟩;rw[List.take_of_length_le (by rw[HR.out.1];omega)];exact Z5U PL.out))
   have t0':decide (k < n)=false:=by simp;omega
   clear HS;go_wp2_with fail;clear t0 t0';refine(Z6q p F V ss k wr H0.out.wld I0.out (by have:=TK.out;omega)).mono ?_;rintro e W2 ⟨rfl,hr2⟩;obtain⟨F2,h2,sm2⟩:=H0.out.step (V':=Ua V) ⟨rfl,Z6C⟩ hr2;have H2:=zH h2;clear hr2 h2 sm2;go_wp2_with fail;refine(ZaZ p F2 (Ua V) m W2 H2.out.wld H2.out.len HM.out.1 HM.out.2.1 (fun S hS=>⟨(I0.out.settled hS).2.1,Nat.le_trans (I0.out.settled hS).2.2.1 (by have:=TK.out;omega)⟩)).mono ?_;rintro e W3 ⟨⟨na,nc,ns,rfl,hnt⟩,b3⟩;rw[H2.out.len];have H3:=zH (H2.out.below b3);have NS:=zH hnt;have VF:=zH H0.out.vf;have VL:=zH H0.out.len;have WL:=zH H2.out.len;clear hnt b3 H0 H2;go_wp2_with fail;have FRC:Hid (∀W,Below W3.heap.size W3 W->W.heap[pF]? = some (.cells #[.int .i64 f.rings,.int .i64 f.sectors,.int .i64 f.wide] 23)):=zH (fun W hb=>Z7 hb H3.out.fr);have JF:=zH (show(zq.info? 23).map (·.size)=some (#[Value.int .i64 f.rings,.int .i64 f.sectors,.int .i64 f.wide]:ZV).size from by kernel_rfl);have UOK:Hid ((Zy f (Zx V.hs)).1=0 /\ ∀y∈Zx V.hs,y.Ok):=zH (by
    have h1:=I0.out.takeSet (by have:=TK.out;omega) m;rwa [List.take_of_length_le (by rw[VL.out];omega),VF.out]at h1)
   have GETN:Hid (∀i,i < m -> ∃(x:LL) (g off o:Nat),na=some ⟨g,off,none⟩/\off+i=o /\ ∀W',Below W3.heap.size W3 W'->W'.cell? ⟨g,o,none⟩=some (.slice x.a x.zs.length x.c)/\UP W' x.a x.zs.length x.c (Zx V.hs)):=zH (fun i hi=>by
    obtain⟨S,hS⟩ : ∃S,(Ua V).hs[i]? = some S:=⟨_,List.getElem?_eq_getElem (by rw[WL.out];exact hi)⟩;have h1:=NS.out.get hS;rwa [(I0.out.settled (List.mem_of_getElem? hS)).1]at h1)
   go_loopw [17,18,19] (fun iv _ _ wr=>∃(i:Nat),iv = .int .i64 (i:Int)/\i<=m/\Hid (Below W3.heap.size W3 wr)) (fun iv _ _ _=>m - (intOf iv).toNat)
   case atStart=>exact⟨0,by first | rfl | trivial,Nat.zero_le _,zH (Below.refl _ _)⟩
   case round=>
    obtain⟨i,rfl,hi,HB⟩:=hrel;by_cases him:i < m
    ·have t1:decide ((i:Int) < (m:Int))=true:=by simp;omega
     have HBL:=HB;obtain⟨x,g,off,o,hna,ho,hget⟩:=GETN.out i him;subst hna;have GET:=zH hget;have hix:=fun W=>YR (W:=W) (c:=nc) (b:=g) (off:=off) Tryz.underlying71 JL him (show off+i * 1=o by rw[Nat.mul_one];exact ho);have E1:=zH (show wrap64 ((i:Int)+1)=(i:Int)+1 by have:=HM.out;unfold wrap64;omega);clear hget ho;go_upto_region 27 with fail;clear t1;apply ZbW (P:=fun(X:World) (pr:Nat) (ha:zA) (hn hc:Nat) (ea:zA) (en ec:Nat) (ca:zA) (cn cc:Nat)=>Hid (Below wr.heap.size wr X/\X.heap[pr]? = some (.cells #[.slice ha hn hc,.slice ea en ec,.slice ca cn cc] 77)/\Vc X (.agg #[.slice ha hn hc,.slice ea en ec,.slice ca cn cc]) (Ze5 (Zx V.hs))))
     ·intro REST;have bd:Below wr.heap.size wr wr.drew:=(Below.refl _ _).drew;have BV:=zH bd;clear bd;refine zD (fun W=>Below wr.heap.size wr W) BV.out (fun hh=>?_);generalize wr.drew=V0 at *;refine zT 0 rfl (.agg #[.int .i64 f.rings,.int .i64 f.sectors,.int .i64 f.wide]) (YB (by kernel_rfl) 23 _ rfl pF rfl _ 23 (0,0) _ (fun W hW=>FRC.out W (HBL.out.trans (hW.mono HBL.out.size))) Tryz.underlying23 rfl (by exact JF.out)) ?_;refine zW 1 rfl (.slice (some ⟨g,off,none⟩) m nc) ?_;refine zW 2 rfl (.int .i64 (i:Int)) ?_;refine zW 3 rfl (.pointer (some ⟨g,o,none⟩)) ?_;refine zS 4 rfl (.slice x.a x.zs.length x.c) (fun W hW=>by have c:=(GET.out W (HBL.out.trans (hW.mono HBL.out.size))).1;go_simp) ?_;refine zM [5,9] rfl (fun K hK=>?_) (zn (i:=9) (fun K hK=>?_))
      focus
       skip;go_simp;refine(FO.out x.a x.zs.length x.c (Zx V.hs) V0 (GET.out V0 (HBL.out.trans (BV.out.mono HBL.out.size))).2 UOK.out.2 UOK.out.1).mono ?_;rintro e V1 ⟨⟨v,rfl,hv⟩,b⟩;obtain⟨ha,hn,hc,ea,en,ec,ca,cn,cc,rfl⟩:=hv.shape;have Q:=zH hv;replace BV:=zH (BV.out.trans (b.mono BV.out.size));clear b hv;dsimp only;refine zK hK BV.out (fun hh=>?_);clear hK K;refine zW 6 rfl (.tuple #[.agg #[.slice ha hn hc,.slice ea en ec,.slice ca cn cc],.int .i64 0]) ?_;refine zW 7 rfl (.agg #[.slice ha hn hc,.slice ea en ec,.slice ca cn cc]) ?_;refine zW 8 rfl (.int .i64 0) ?_;refine zR 9 rfl (fun K hK=>?_);rw[if_pos (by kernel_rfl)];refine Q6 (w':=V1.alloc (.cells #[.slice none 0 0,.slice none 0 0,.slice none 0 0] 77)) (.pointer (some ⟨V1.heap.size,0,none⟩)) (by kernel_rfl) ?_;have b:Below V1.heap.size V1 (V1.alloc (.cells #[.slice none 0 0,.slice none 0 0,.slice none 0 0] 77)):=zB _ _;have NT:=zH (Z9 V1 (.cells #[.slice none 0 0,.slice none 0 0,.slice none 0 0] 77));have NP:Hid (wr.heap.size<=V1.heap.size):=zH BV.out.size;replace Q:=zH (Q.out.below b);replace BV:=zH (BV.out.trans (b.mono BV.out.size));clear b;obtain⟨pr,hpr⟩:=zX (V1.heap.size);rw[hpr.out]at NT NP ⊢;clear hpr;generalize hV9:V1.alloc (.cells #[.slice none 0 0,.slice none 0 0,.slice none 0 0] 77)=V2 at *;clear hV9;refine zK hK BV.out (fun hh=>?_);clear hK K
      rotate_left
      focus
       skip;rw[if_pos (by kernel_rfl)];refine Q6 (w':=V0.alloc (.cells #[.slice none 0 0,.slice none 0 0,.slice none 0 0] 77)) (.pointer (some ⟨V0.heap.size,0,none⟩)) (by kernel_rfl) ?_;have b:Below V0.heap.size V0 (V0.alloc (.cells #[.slice none 0 0,.slice none 0 0,.slice none 0 0] 77)):=zB _ _;have NT:=zH (Z9 V0 (.cells #[.slice none 0 0,.slice none 0 0,.slice none 0 0] 77));have NP:Hid (wr.heap.size<=V0.heap.size):=zH BV.out.size;replace BV:=zH (BV.out.trans (b.mono BV.out.size));clear b;obtain⟨pr,hpr⟩:=zX (V0.heap.size);rw[hpr.out]at NT NP ⊢;clear hpr;generalize hV9:V0.alloc (.cells #[.slice none 0 0,.slice none 0 0,.slice none 0 0] 77)=V1 at *;clear hV9;refine zK hK BV.out (fun hh=>?_);clear hK K;refine zR 5 rfl (fun K hK=>?_);go_simp;refine(FO.out x.a x.zs.length x.c (Zx V.hs) V1 (GET.out V1 (HBL.out.trans (BV.out.mono HBL.out.size))).2 UOK.out.2 UOK.out.1).mono ?_;rintro e V2 ⟨⟨v,rfl,hv⟩,b⟩;obtain⟨ha,hn,hc,ea,en,ec,ca,cn,cc,rfl⟩:=hv.shape;have Q:=zH hv;replace NT:=zH (Z7 b NT.out);replace BV:=zH (BV.out.trans (b.mono BV.out.size));clear b hv;dsimp only;refine zK hK BV.out (fun hh=>?_);clear hK K;refine zW 6 rfl (.tuple #[.agg #[.slice ha hn hc,.slice ea en ec,.slice ca cn cc],.int .i64 0]) ?_;refine zW 7 rfl (.agg #[.slice ha hn hc,.slice ea en ec,.slice ca cn cc]) ?_;refine zW 8 rfl (.int .i64 0) ?_
      all_goals
       refine zR 10 rfl (fun K hK=>?_);rw[if_pos (by kernel_rfl)];refine ZT 77 _ _ rfl pr #[.slice none 0 0,.slice none 0 0,.slice none 0 0] #[.slice ha hn hc,.slice ea en ec,.slice ca cn cc] 77 rfl rfl NT.out (by kernel_rfl) rfl (by simp[Value.oneCell']) ?_;intro X h8 hg8 hs8;have BX:Hid (Below wr.heap.size wr X):=zH (BV.out.grown hg8 BV.out.size (fun q hq=>by cases hq;exact NP.out));have QX:=zH (Q.out.kept hg8 NT.out).out;have PX:=zH h8;clear h8 hg8 hs8 Q;refine zK hK BX.out (fun hh=>?_);clear hK K;refine zW 11 rfl (.int .i64 0) ?_;refine zE ?_;exact REST X pr ha hn hc ea en ec ca cn cc (zH ⟨BX.out,PX.out,QX.out⟩)
     intro X p21 ha2 hn2 hc2 ea2 en2 ec2 ca2 cn2 cc2 H6;have HBX:=zH (HB.out.trans (H6.out.1.mono HB.out.size));have P6:=zH H6.out.2.1;obtain rfl:cn2=0:=H6.out.2.2.noCs NOC.out;have u2:=Z6 P6.out 2 (.slice ca2 0 cc2) rfl;have e1:=E1.out;clear H6;go_wp2;go_roundw
     case rel=>exact⟨i+1,by go_num,by omega,HBX⟩
     case measure=>clear e1;(try rw[E1.out]);simp[intOf];omega
    ·have t1:decide ((i:Int) < (m:Int))=false:=by simp;omega
     have BF:=zH (H3.out.bel.trans (HB.out.mono H3.out.bel.size));go_wp2;go_ret;exact⟨rfl,BF.out⟩
theorem Z0G (os:Os)(started:os.Started)(H:Type)(enc:TypeId×Value->H):
  ReturnsInHanded {} Tryz.checked os 6 .any (Rows.talliesClearSpec.pre6 enc zq Tryz.f6 Rows.talliesClearRow.domain false) (Rows.talliesClearSpec.post enc zq Tryz.f6 false true false false):=by
 refine returnsInHanded_of_change_sized (C:=Tryz.checked) Tryz.own started (by kernel_rfl) Tryz.func6
  (ChangeSpec.witness6 (enc:=enc) (C:=Tryz.checked) false ⟨#[],#[.agg #[.int .i64 0,.int .i64 0,.int .i64 0],.int .i64 0,.slice none 0 0],[]⟩ 8 (by kernel_rfl) (by kernel_rfl) (by kernel_rfl) (by kernel_rfl)) ?_
 intro W base args ds gs before hval0 hW hcnd hsz _;have hval : ∀(j:Nat) t v,Tryz.f6.params[j]? = some t->args[j]? = some v->Value.okWide zq W .any base t v:=hval0;have hW':=hW;obtain⟨p,q,hA0,hV,rfl,hfz,hnd⟩:=hW;have hA:DataW.TrodAll enc zq W 0 (fun _=>true) true Tryz.f6.params.toList args.toList ds p:=hA0;have hA1:=hA;rw[Tryz.params6]at hA hval;obtain⟨v0,v1,v2,d0,d1,d2,p0,p1,p2,rfl,rfl,rfl,h0,h1,h2⟩:=trodAll_three hA;obtain⟨rfl,rfl⟩:=trodVars_none hV;obtain⟨f,rfl⟩:=Z7i (hval 0 23 v0 rfl rfl) h0;have k2:zz 61 d2:=Z9j hsz (j:=2) (by kernel_rfl) rfl;obtain⟨x1,rfl,rfl,rfl,w1⟩:=open_int Tryz.underlying3 (hval 1 3 v1 rfl rfl) h1;obtain⟨a,n,c,l,rfl,r1,r2⟩:=Z9B (hval 2 61 v2 rfl rfl) h2 k2;clear hA0 hval0;simp only[List.append_nil]at hW' hA1;refine(Zai f x1 a n c l W r1 r2).mono fun e W' ⟨he,hb⟩ => ?_;subst he;exact⟨_,rfl,Z6R Tryz.laidOut Tryz.underlying4 rfl (by kernel_rfl) (by kernel_rfl) hW' hA1 rfl hb⟩
theorem Zcc:(Rows.talliesClearRow.inPlace==zq.inPlace 6)=true:=by kernel_rfl
theorem Zcb:(Rows.talliesClearRow.unfollowed==zq.unfollowed 6)=true:=by kernel_rfl
theorem Zca:(Rows.talliesClearRow.recurses==zq.recurses 6)=true:=by kernel_rfl
theorem Zc9:(Rows.talliesClearRow.named==zq.varsNamed 6)=true:=by kernel_rfl
theorem Z6f:joinedFacts zq 6 Tryz.f6 Rows.talliesClearSpec Rows.talliesClearRow=true:=by
 unfold joinedFacts;rw[Zcc,Zcb,Zca,Zc9];kernel_rfl
theorem talliesClear_holds:Rows.TalliesClearSaid:=
 OpenClaim.holds_of_wide 6 Tryz.f6 rfl rfl rfl rfl rfl rfl rfl ⟨rfl,rfl,rfl,rfl,rfl⟩ rfl rfl rfl rfl rfl (by kernel_rfl) Tryz.func6 Z6f
  (of_decide_eq_true (by kernel_rfl)) (by unfold Func.isWrapper;first|(rw[if_pos (by decide+kernel)];kernel_rfl)|(rw[if_neg (by decide+kernel)];exact⟨rfl,rfl⟩))
  (fun os started H enc _=>Z0G os started H enc)
#print axioms talliesClear_holds
end Go.Proofs.YtlnhppgfhkkidaaGreat
