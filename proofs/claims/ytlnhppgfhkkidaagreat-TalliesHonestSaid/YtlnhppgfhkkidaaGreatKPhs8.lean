/- Parts of the proof, in order. -/
import Derived.Maps.Views
import Derived.Test.YtlnhppgfhkkidaaGreatKPhs7
set_option linter.unusedSimpArgs false
set_option linter.unusedVariables false
set_option maxHeartbeats 32000000
set_option maxRecDepth 100000
namespace Go.Proofs.YtlnhppgfhkkidaaGreat
open Go.Proofs.Tryz renaming prog → zq
open Go.RowKit
theorem Z3i {V:ZM}{a:XA}{S:Zj}(h:Yi V a.house=some S)(h2:(Yi V a.to).isNone=true\/a.to=a.house):XH V a=(V,1):=by
 unfold XH;rw[h];exact if_pos h2
theorem Z5q {V:ZM}{a:XA}{S:Zj}(h:Yi V a.house=some S)(h2 : ¬((Yi V a.to).isNone=true\/a.to=a.house))(h3:64<=V.ms.length):XH V a=(V,2):=by
 unfold XH;rw[h];show(if _ then _ else _)=_;rw[if_neg h2,if_pos h3]
theorem Z7y {V:ZM}{a:XA}{S:Zj}(h:Yi V a.house=some S)(h2 : ¬((Yi V a.to).isNone=true\/a.to=a.house))(h3 : ¬64<=V.ms.length):XH V a=(Vg V ⟨a.house,a.to,.ask (QV S.c)⟩,0):=by
 unfold XH;rw[h];show(if _ then _ else _)=_;rw[if_neg h2,if_neg h3]
theorem ZaG {W W':World}{k:Nat}{a:zA}{n c:Nat}{xs:List Value}(h:Y3 W k a n c xs)(hk:0 < n * k):VT W.heap.size W' a:=by
 obtain⟨h1,h2,h3,h4⟩:=h;intro b off e hb hU;rcases h4 with h4 | ⟨b',o',e',h5⟩
 ·rw[h4]at h2;have h6:n=0:=by omega
  rw[h6]at hk;omega
 ·rw[e]at e';cases e';have hx:=List.getElem?_eq_getElem (l:=xs) (i:=0) (by omega);have:=World.block_lt_of_cell? W _ (h5 0 _ hx);have:=hU.1;show False;simp only at *;omega
theorem Z7Z: ∀z∈([1,8]:List Int),XU z:=by intro z hz;simp at hz;rcases hz with rfl | rfl <;> (unfold XU;omega)
theorem Zaj (p:Nat)(F:Nat->Prop)(V:ZM)(a:XA)(sa:zA)(sc:Nat)(S:Zj)(w:World)(h:VR w p F V)(hS:Yi V a.house=some S)(hi:Xt S):
  Calls zq 89 #[.pointer (some ⟨p,0,none⟩),.agg (a.cells sa sc).toArray] w fun e w'=>e = .returned (.int .i64 (XH V a).2)/\Yv w p F (XH V a).1 w':=by
 have b0:=zB w (.cells (a.cells sa sc).toArray 67);have C1:=zH (show(a.cells sa sc).toArray[1]? = some (.int .i64 a.house)from rfl);have C2:=zH (show(a.cells sa sc).toArray[2]? = some (.int .i64 a.to)from rfl);obtain⟨OA,hOA⟩:=zX ((a.cells sa sc).toArray);rw[hOA.out]at b0 C1 C2 ⊢;have X0:=zH (Za w (.cells OA 67));have H0:=zH (h.below Zk b0);have B0:=zH b0;have CO:=zH (Z8F hi);obtain⟨Y,hY⟩:=zX (XH V a);rw[hY.out];clear b0 hOA h hi;go_enter Tryz.func89,Tryz.ntmps89;go_upto_region 1 with fail;obtain⟨p3,hp3⟩:=zX (w.heap.size);rw[hp3.out]at X0 ⊢;generalize w.alloc (.cells OA 67)=W0 at *;have RF:=zH ((Qs.refl H0.out).after B0.out);obtain⟨ps,Fs,ha,hc,xs,ma,mc,h1,h2⟩:=H0.out.open;obtain⟨k,q,Fk,e1,e2,g1,g2,g3,g4⟩:=h1.at hS;have c1:=Z6 X0.out 1 (.int .i64 a.house) C1.out;have c2:=Z6 X0.out 2 (.int .i64 a.to) C2.out;have HH:=zH (Xf h1 a.house k q e1 g1);cases hT:Yi V a.to with
 | none=>
  have HT:=zH (Z05 h1 a.to (by have:=Z2f hT;rw[h1.nh]at this;exact this));have R:Hid (Y=(V,1)):=zH (hY.out.symm.trans (Z3i hS (.inl (by rw[hT];rfl))));clear h1 h2 g1 g2 g3 g4 H0 hS e1 e2 hT hY;go_wp2_with fail;refine HT.out.mono ?_;rintro e w1 ⟨rfl,rfl⟩;go_wp2;go_ret;rw[R.out];exact⟨rfl,RF.out⟩
 | some T=>
 obtain⟨j,q2,Fj,u1,u2,u3,u4,u5,u6⟩:=h1.at hT;have HT:=zH (Xf h1 a.to j q2 u1 u3);by_cases hself:a.to=a.house
 ·have t1:(a.to==a.house)=true:=by simp[hself]
  have R:Hid (Y=(V,1)):=zH (hY.out.symm.trans (Z3i hS (.inr hself)));clear h1 h2 g1 g2 g3 g4 H0 hS e1 e2 hT hY u1 u2 u3 u4 u5 u6 hself;go_wp2_with fail;refine HT.out.mono ?_;rintro e w1 ⟨rfl,rfl⟩;go_wp2;go_ret;rw[R.out];exact⟨rfl,RF.out⟩
 have t1:(a.to==a.house)=false:=by simp[hself]
 have hno : ¬((Yi V a.to).isNone=true\/a.to=a.house):=by rw[hT];simp[hself]
 by_cases hf:64<=V.ms.length
 ·have hfull:=Z0q h1;rw[show decide (64<=V.ms.length)=true by simp[hf]]at hfull;have HF:=zH hfull;have R:Hid (Y=(V,2)):=zH (hY.out.symm.trans (Z5q hS hno hf));clear h1 h2 g1 g2 g3 g4 H0 hS e1 e2 hT hY u1 u2 u3 u4 u5 u6 hself hno hf hfull;go_wp2_with fail;refine HT.out.mono ?_;rintro e w1 ⟨rfl,rfl⟩;go_wp2_with fail;refine HF.out.mono ?_;rintro e w2 ⟨rfl,rfl⟩;go_wp2;go_ret;rw[R.out];exact⟨rfl,RF.out⟩
 have hfull:=Z0q h1;rw[show decide (64<=V.ms.length)=false by simp[hf]]at hfull;have HF:=zH hfull;have R:Hid (Y=(Vg V ⟨a.house,a.to,.ask (QV S.c)⟩,0)):=zH (hY.out.symm.trans (Z7y hS hno hf));have LN:=zH (show xs.length < 64 by have:=h1.nm;omega);obtain⟨mb,sp,G,SF,k1,k2⟩:=g3;have HK:=zH k1;have H1:=zH h1;have H2:=zH h2;clear h1 h2 g1 g2 g4 H0 hS e1 e2 hT hY u1 u2 u3 u4 u5 u6 hself hno hf hfull k1 k2;go_wp2_with fail;refine HT.out.mono ?_;rintro e w1 ⟨rfl,rfl⟩;go_wp2_with fail;refine HF.out.mono ?_;rintro e w2 ⟨rfl,rfl⟩;go_wp2_with fail;refine HH.out.mono ?_;rintro e w3 ⟨rfl,rfl⟩;go_wp2_with fail;refine(Z6Y q mb sp G SF S _ HK.out).mono ?_;rintro e V1 ⟨⟨ca,cc,rfl,hcr⟩,b1⟩;have CR:=zH hcr;have PB:=zH (show V1.heap[p]? = some (.cells #[.slice ha ps.length hc,.slice ma xs.length mc] 141)from Z7 b1 H1.out.blk);have PX:=zH (Z7 b1 X0.out);have BB:=zH b1;clear hcr b1 c1 c2;go_upto_region 6 with fail;refine bD 20 (fun W'=>W'.heap[p]? = some (.cells #[.slice ha ps.length hc,.slice ma xs.length mc] 141)/\W'.heap[p3]? = some (.cells OA 67)) ⟨PB.out,PX.out⟩ (fun hh=>?_);refine bW 0 rfl (.pointer (some ⟨p,0,none⟩)) ?_;refine bW 1 rfl (.pointer (some ⟨p,0,none⟩)) ?_;refine bW 2 rfl (.pointer (some ⟨p,0,none⟩)) ?_;refine bW 3 rfl (.pointer (some ⟨p,1,none⟩)) ?_;refine bS 4 rfl (.slice ma xs.length mc) (fun W hW=>by have c:=Z6 hW.1 1 (.slice ma xs.length mc) rfl;go_simp) ?_;refine bW 5 rfl (.pointer (some ⟨p3,1,none⟩)) ?_;refine bS 6 rfl (.int .i64 a.house) (fun W hW=>by have c:=Z6 hW.2 1 (.int .i64 a.house) C1.out;go_simp) ?_;refine bW 7 rfl (.pointer (some ⟨p3,2,none⟩)) ?_;refine bS 8 rfl (.int .i64 a.to) (fun W hW=>by have c:=Z6 hW.2 2 (.int .i64 a.to) C2.out;go_simp) ?_;refine bW 9 rfl (.slice ca 8 cc) ?_;refine bW 10 rfl (.int .i64 8) ?_;refine bW 13 rfl (.slice ca 8 cc) ?_;have AP:=zH (fun W':World=>ZaG (W':=W') CR.out (by decide));have HCL:=zH (CO.out.1);have b1:Below V1.heap.size V1 V1.drew:=(Below.refl _ _).drew;have BD:=zH b1;have CZ:Hid (∀z∈QV S.c,XU z):=zH (fun z hz=>by have:=CO.out.2 z hz;unfold XU;omega)
 clear b1 CO;generalize V1.drew=V2 at *;refine bR 11 rfl (fun K hK=>?_);rw[if_pos (by kernel_rfl)];refine JZ (w':=V2.alloc (.cells #[.int .i64 1,.int .i64 8] 3)) (.slice (some ⟨V2.heap.size,0,none⟩) 2 2) (by kernel_rfl) ?_;have b3:Below V2.heap.size V2 (V2.alloc (.cells #[.int .i64 1,.int .i64 8] 3)):=zB _ _;have R2:=zH (Zas V2 1 8);have A2:=zH (Z4M V1.heap.size V2 1 8);have B3:Hid (Below V1.heap.size V1 (V2.alloc (.cells #[.int .i64 1,.int .i64 8] 3))):=zH (BD.out.trans (b3.mono BD.out.size));have hS3:=And.intro (Z7 b3 hh.1) (Z7 b3 hh.2);clear b3 hh;obtain⟨p5,hp5⟩:=zX (V2.heap.size);rw[hp5.out]at R2 A2 ⊢;generalize V2.alloc (.cells #[.int .i64 1,.int .i64 8] 3)=V3 at *;refine bK hK hS3 (fun hh=>?_);clear hK K hS3 hp5;refine bR 12 rfl (fun K hK=>?_);go_simp;refine(VA V1.heap.size none 0 0 [] (some ⟨p5,0,none⟩) 2 2 [1,8] V3 B3.out.size (World.ownsRow_nil _ _ _ _) R2.out (fun _=>A2.out) Z7Z (by rw[List.nil_append];have:=JP [1,8] Z7Z;simp at this;omega)).mono ?_;rintro e V4 ⟨a4,c4,rfl,o4,ab4⟩;rw[List.nil_append]at o4;have O4:=zH o4;have hS4:=And.intro ((ab4.block p (Zi hh.1) (V8 hh.1 (by decide))).trans hh.1) ((ab4.block p3 (Zi hh.2) (V8 hh.2 (by decide))).trans hh.2);have B4:Hid (Below V1.heap.size V1 V4):=zH (ab4.into B3.out B3.out.size);clear o4 ab4 hh R2 A2;dsimp only;refine bK hK hS4 (fun hh=>?_);clear hK K hS4;refine bR 14 rfl (fun K hK=>?_);go_simp;refine(VA V1.heap.size a4 _ c4 (Zs [1,8]) ca 8 cc (QV S.c) V4 B4.out.size O4.out (CR.out.below B4.out) (fun _=>AP.out V4) CZ.out (by rw[List.length_append];have h1:=JP [1,8] Z7Z;have h2:=JP (QV S.c) CZ.out;rw[HCL.out]at h2;simp at h1;omega)).mono ?_;rintro e V5 ⟨a5,c5,rfl,o5,ab5⟩;have hS5:=And.intro ((ab5.block p (Zi hh.1) (V8 hh.1 (by decide))).trans hh.1) ((ab5.block p3 (Zi hh.2) (V8 hh.2 (by decide))).trans hh.2);have B5:Hid (Below V1.heap.size V1 V5):=zH (ab5.into B4.out B4.out.size);have hbody:Zs [1,8] ++ Zs (QV S.c)=(Xb.ask (QV S.c)).body:=by
  show _=Y9 1 ++ (Y9 ((QV S.c).length:Int) ++ Zs (QV S.c));rw[HCL.out,show Zs [1,8]=Y9 1 ++ Y9 8 by simp[Zs],List.append_assoc];rfl
 rw[hbody]at o5 ⊢;have O5:=zH o5;clear o5 ab5 hh hbody O4;obtain⟨x,hx⟩ : ∃x:LM,Hid (x=⟨⟨a.house,a.to,.ask (QV S.c)⟩,a5,c5⟩):=⟨_,zH rfl⟩;dsimp only;refine bK hK hS5 (fun hh=>?_);clear hK K hS5;refine bW 15 rfl (.agg #[.int .i64 a.house,.int .i64 a.to,.slice a5 (Xb.ask (QV S.c)).body.length c5]) ?_;refine bR 16 rfl (fun K hK=>?_);rw[if_pos (by kernel_rfl)];refine JZ (w':=V5.alloc (.cells #[.int .i64 a.house,.int .i64 a.to,.slice a5 (Xb.ask (QV S.c)).body.length c5] 152)) (.slice (some ⟨V5.heap.size,0,none⟩) 1 1) (by kernel_rfl) ?_;have b6:Below V5.heap.size V5 (V5.alloc (.cells #[.int .i64 a.house,.int .i64 a.to,.slice a5 (Xb.ask (QV S.c)).body.length c5] 152)):=zB _ _;have R6:=zH (Z3K V5 (.int .i64 a.house) (.int .i64 a.to) (.slice a5 (Xb.ask (QV S.c)).body.length c5));have O6:=zH (Zd O5.out b6);have B6:Hid (Below w3.heap.size w3 (V5.alloc (.cells #[.int .i64 a.house,.int .i64 a.to,.slice a5 (Xb.ask (QV S.c)).body.length c5] 152))):=zH (BB.out.trans ((B5.out.trans (b6.mono B5.out.size)).mono BB.out.size));have hS6:=And.intro (Z7 b6 hh.1) (Z7 b6 hh.2);clear b6 hh;obtain⟨p6,hp6⟩:=zX (V5.heap.size);rw[hp6.out]at R6 ⊢;generalize V5.alloc (.cells #[.int .i64 a.house,.int .i64 a.to,.slice a5 (Xb.ask (QV S.c)).body.length c5] 152)=V6 at *;refine bK hK hS6 (fun hh=>?_);clear hK K hS6;refine bR 17 rfl (fun K hK=>?_);rw[if_pos (by kernel_rfl)];obtain⟨a7,c7,V7,hrun,ho,hg,hl⟩:=Z10 V6 0 ma xs.length mc (ZD xs) (Zd H1.out.mrow B6.out) (some ⟨p6,0,none⟩) 1 1 _ R6.out (by intro u hu;simp at hu;rcases hu with rfl | rfl | rfl <;> rfl) (by have:=LN.out;omega) (Nat.zero_le _);refine ZU _ _ _ rfl _ _ _ rfl rfl hrun ?_;clear hrun;have HO:=zH ho;have HG:=zH hg;have HL:=zH hl;have hne : ∀{cur:ZW} {t:TypeId} {g:Nat},V6.heap[g]? = some (.cells cur t (0,0))->152≠t->Value.ownBlock (.slice ma xs.length mc)≠some g:=fun hgg ht=>ZJ (Zd H1.out.mrow B6.out) hgg ht;have hS7:=And.intro (Zc hg hh.1 (Ne.symm (hne hh.1 (by decide)))) (Zc hg hh.2 (Ne.symm (hne hh.2 (by decide))))
 clear ho hg hl hne hh;refine bK hK hS7 (fun hh=>?_);clear hK K hS7;refine bR 18 rfl (fun K hK=>?_);go_simp;refine bK hK hh (fun hh=>?_);clear hK K;refine bW 19 rfl (.pointer (some ⟨p,1,none⟩)) ?_;refine bL rfl (fun K hK=>?_);have hce:=Z6 hh.1 1 (.slice ma xs.length mc) rfl;have hfz:=Zp hh.1 1;have P8:(V7.setCell ⟨p,1,none⟩ (.slice a7 (xs.length+1) c7)).heap[p]? = some (.cells #[.slice ha ps.length hc,.slice a7 (xs.length+1) c7] 141):=ZK hh.1 1 _;have FIN:Hid (Yv w p F (Vg V x.m) (V7.setCell ⟨p,1,none⟩ (.slice a7 (xs.length+1) c7))):=zH (by
  rw[H2.out];refine Qs.after (w:=w3) ?_ B0.out;refine H1.out.send Zk (by decide) (by decide) (by decide) (by decide) (by decide) x B6.out ?_ ?_ (ma':=a7) (mc':=c7) ?_ HG.out HL.out P8 (Jw V7 p 1 _)
  ·rw[hx.out];exact Zv O6.out (Nat.zero_le _)
  ·intro k hk;rw[hx.out]at hk;have h1:=(O6.out.lt k hk).1;exact .inl (Nat.le_trans BB.out.size h1)
  ·rw[hx.out];exact HO.out)
 clear P8 hh;go_simp;refine hK.out _ _ ?_;clear hK K hce hfz;refine bE ?_;go_wp2;go_ret;rw[R.out];refine⟨rfl,?_⟩;have h9:=FIN.out;rw[hx.out]at h9;exact h9
theorem Z5o {V:ZM}{a:XA}{S:Zj}(h:Yi V a.house=some S):XN V a=(JC V a.house (crS S a.keep a.flip a.idx).1,(crS S a.keep a.flip a.idx).2):=by
 unfold XN;rw[h]
theorem Z7s (p:Nat)(F:Nat->Prop)(V:ZM)(a:XA)(sa:zA)(sc:Nat)(S:Zj)(w:World)(h:VR w p F V)(hS:Yi V a.house=some S)(hi:Xt S)(hlen:S.l.length < 400):
  Calls zq 93 #[.pointer (some ⟨p,0,none⟩),.agg (a.cells sa sc).toArray] w fun e w'=>e = .returned (.int .i64 (XN V a).2)/\Yv w p F (XN V a).1 w':=by
 rw[Z5o hS];have b0:=zB w (.cells (a.cells sa sc).toArray 67);have C1:=zH (show(a.cells sa sc).toArray[1]? = some (.int .i64 a.house)from rfl);have C3:=zH (show(a.cells sa sc).toArray[3]? = some (.int .i64 a.idx)from rfl);have C23:=zH (show(a.cells sa sc).toArray[23]? = some (.int .i64 a.keep)from rfl);have C24:=zH (show(a.cells sa sc).toArray[24]? = some (.int .i64 a.flip)from rfl);obtain⟨OA,hOA⟩:=zX ((a.cells sa sc).toArray);rw[hOA.out]at b0 C1 C3 C23 C24 ⊢;obtain⟨S',z,hC⟩ : ∃S' z,Hid (crS S a.keep a.flip a.idx=(S',z)):=⟨_,_,zH rfl⟩;rw[hC.out];have X0:=zH (Za w (.cells OA 67));have H0:=zH (h.below Zk b0);have B0:=zH b0;have NF:=zH (show ¬F w.heap.size from fun e=>Nat.lt_irrefl _ (h.lt Zk _ e));have HI:=zH hi;have HLEN:=zH hlen;clear b0 hOA h hi hlen;go_enter Tryz.func93,Tryz.ntmps93;go_upto_region 1 with fail;obtain⟨p3,hp3⟩:=zX (w.heap.size);rw[hp3.out]at X0 NF ⊢;generalize w.alloc (.cells OA 67)=W0 at *;refine zp X0.out (fun hh=>?_);have bd:Below W0.heap.size W0 W0.drew:=(Below.refl _ _).drew;replace B0:=zH (B0.out.trans (bd.mono B0.out.size));replace H0:=zH (H0.out.below Zk bd);clear bd;generalize W0.drew=W1 at *;obtain⟨ps,Fs,ha,hc,xs,ma,mc,h1,h2⟩:=H0.out.open;obtain⟨k,q,Fk,e1,e2,g1,g2,g3,g4⟩:=h1.at hS;have HH:=zH (Xf h1 a.house k q e1 g1);obtain⟨mb,sp,G,SF,k1,k2⟩:=g3;have HK:=zH k1;have K2:=zH k2;have FIN:Hid (∀S' w',Z4J Z04 W1 q Fk S' w'->Yv w p F (JC V a.house S') w'):=zH (fun S' w' j=>by
  rw[h2];exact Qs.after (w:=W1) (h1.ret Zk e2 g1 g2 j) B0.out)
 have NX:=zH (show ¬Yw q mb G SF p3 from fun e=>NF.out (by rw[h2];exact .inr (.inr (.inl ⟨k,Fk,g2,(k2 _).2 e⟩))));clear h1 h2 k1 k2 g1 g2 g4 H0 hS e1 e2;refine zW 0 rfl (.pointer (some ⟨p,0,none⟩)) ?_;refine zW 1 rfl (.pointer (some ⟨p3,1,none⟩)) ?_;refine zS 2 rfl (.int .i64 a.house) (fun W hW=>by have c:=Z6 hW 1 (.int .i64 a.house) C1.out;go_simp) ?_;refine zW 4 rfl (.pointer (some ⟨p3,23,none⟩)) ?_;refine zS 5 rfl (.int .i64 a.keep) (fun W hW=>by have c:=Z6 hW 23 (.int .i64 a.keep) C23.out;go_simp) ?_;refine zW 6 rfl (.pointer (some ⟨p3,24,none⟩)) ?_;refine zS 7 rfl (.int .i64 a.flip) (fun W hW=>by have c:=Z6 hW 24 (.int .i64 a.flip) C24.out;go_simp) ?_;refine zW 8 rfl (.pointer (some ⟨p3,3,none⟩)) ?_;refine zS 9 rfl (.int .i64 a.idx) (fun W hW=>by have c:=Z6 hW 3 (.int .i64 a.idx) C3.out;go_simp) ?_;refine zR 3 rfl (fun K hK=>?_);go_simp;refine HH.out.mono ?_;rintro e w1 ⟨rfl,rfl⟩;dsimp only;refine zK hK hh (fun hh=>?_);clear hK K;refine zR 10 rfl (fun K hK=>?_);go_simp;refine(Z84 q mb sp G SF S a.keep a.flip a.idx _ HK.out HI.out HLEN.out).mono ?_;rintro e w2 ⟨S2,code,cp,hi2,rfl,mb2,sp2,G2,SF2,j1,j2,j3⟩;have e0:=Zdd cp;rw[hC.out]at e0;cases e0;have J:=zH (FIN.out S' w2 ⟨Yw q mb2 G2 SF2,⟨mb2,sp2,G2,SF2,j1,fun k=>Iff.rfl⟩,j2.weaken (fun b hb=>(K2.out b).2 hb),fun b hb=>(j3 b hb).imp (fun e=>(K2.out b).2 e) id⟩);have hS2:=(j2.block p3 (Zi hh) NX.out).trans hh;clear cp hi2 j1 j2 j3;dsimp only;refine zK hK hS2 (fun hh=>?_);clear hK K;refine zW 11 rfl (.int .i64 z) ?_;refine zE ?_;go_wp2;go_ret;exact⟨rfl,J.out⟩
theorem Za0 {B:Nat}{W:World}{p:Nat}{c:ZW}(h:B<=W.heap.size)(hp:B<=p):Below B W (W.setRow p c):=
 (Zb.of_grown (S:=fun k=>k=p) (Yz W p c) (fun k e=>(Option.some.inj e).symm)).below (Below.refl B W) h (fun k e=>by rw[show k=p from e];exact hp)
theorem Qh (x y:Int)(v:zA×Nat×Nat):(#[Value.int .i64 x,.int .i64 y,.slice v.1 v.2.1 v.2.2]:ZW).all (·.oneCell')=true:=by simp[Value.oneCell']
def Zdr:Value := .agg #[.int .i64 0,.int .i64 0,.slice none 0 0]
theorem Z3b (p:Nat)(F:Nat->Prop)(V:ZM)(i:Int)(w:World)(h:VR w p F V)(hi:Va V i=none):
  Calls zq 144 #[.pointer (some ⟨p,0,none⟩),.int .i64 i] w fun e w'=>e = .returned (.tuple #[Zdr,.int .i64 3])/\Below w.heap.size w w':=by
 obtain⟨ps,Fs,ha,hc,xs,ma,mc,h1,h2⟩:=h.open;have hn:=Z4X hi;rw[h1.nm]at hn;have b0:=zB w (.cells #[.int .i64 0,.int .i64 0,.slice none 0 0] 152);have B0:=zH b0;have P0:=zH (Z7 b0 h1.blk);have X0:=zH (Za w (.cells #[.int .i64 0,.int .i64 0,.slice none 0 0] 152));clear h1 h2 h hi b0;go_enter Tryz.func144,Tryz.ntmps144;go_upto_region 1 with fail;obtain⟨p4,hp4⟩:=zX (w.heap.size);rw[hp4.out]at X0 ⊢;generalize w.alloc (.cells #[.int .i64 0,.int .i64 0,.slice none 0 0] 152)=W0 at *;have c1:=Z6 P0.out 1 (.slice ma xs.length mc) rfl;have I3:=zH (show(zq.info? 152).map (·.size)=some (#[Value.int .i64 0,.int .i64 0,.slice none 0 0]:ZW).size from by kernel_rfl);have FB:Hid (Below w.heap.size w (W0.setRow p4 #[.int .i64 0,.int .i64 0,.slice none 0 0])):=zH (B0.out.trans (Za0 B0.out.size (by rw[hp4.out];exact Nat.le_refl _)));rcases Int.lt_or_le i 0 with hi0 | hi0
 focus
  have t1:decide (i < 0)=true:=by simp[hi0]
 rotate_left
 focus
  have t1:decide (i < 0)=false:=by simp;omega
  have t2:decide ((xs.length:Int)<=i)=true:=by simp;omega
 all_goals
  clear hn hi0;go_wp2_with (refine Xu rfl 152 _ _ rfl p4 #[.int .i64 0,.int .i64 0,.slice none 0 0] #[.int .i64 0,.int .i64 0,.slice none 0 0] 152 rfl rfl X0.out I3.out rfl (Qh 0 0 (none,0,0)) ?_);refine bodyPost_ret (Zz rfl _ _ p4 152 #[.int .i64 0,.int .i64 0,.slice none 0 0] (0,0) _ rfl (Ys _ _ _ _ _ _ X0.out) Tryz.underlying152 rfl I3.out) rfl ?_;exact⟨rfl,FB.out⟩
theorem Z31 (ma:zA)(n n' c:Nat):Value.ownBlock (.slice ma n c)=Value.ownBlock (.slice ma n' c):=by cases ma <;> rfl
section
variable {PH:World->Nat->(Nat->Prop)->Zj->Prop}{tW tH:TypeId}{bf:Value->Value->ZW}{w w1 w2 w3:World}{p:Nat}{ps:List Nat}{Fs:List (Nat->Prop)}{ha:zA}{hc:Nat}{xs:List LM}{ma:zA}{mc:Nat}{V:ZM}
theorem Up.drop (hp:Q9 PH)(h:Up PH tW tH bf w p ps Fs ha hc xs ma mc V)(n1:152≠tH)(n2:152≠tW)(n3:tH≠tW)(n4:5≠152)(n5:5≠tW){k:Nat}(hk:k < xs.length)(hb1:Below w.heap.size w w1)
  (ho:w2.ownsRow 0 152 3 (.slice ma (xs.length - 1) mc) (xs.length - 1) (ZD (xs.eraseIdx k))) (hg:Zb (fun j=>Value.ownBlock (.slice ma xs.length mc)=some j) w1 w2)
  (hb:w3.heap[p]? = some (.cells (bf (.slice ha ps.length hc) (.slice ma (xs.length - 1) mc)) tW (0,0))) (hs:Zb (fun j=>j=p) w2 w3):
  Up PH tW tH bf w3 p ps Fs ha hc (xs.eraseIdx k) ma mc { V with ms:=V.ms.eraseIdx k } /\ Zb (wF p Fs ha ps.length hc xs ma mc) w w3 /\ ∀j,wF p Fs ha ps.length hc (xs.eraseIdx k) ma mc j->wF p Fs ha ps.length hc xs ma mc j:=by
 have e1:xs.length - 1=(xs.eraseIdx k).length:=by rw[List.length_eraseIdx,if_pos hk]
 rw[e1]at ho hb;have hX:Zb (fun j=>j=p\/Value.ownBlock (.slice ma xs.length mc)=some j) w w3:=by
  have g1:Zb (fun j=>j=p\/Value.ownBlock (.slice ma xs.length mc)=some j) w w1:=Zb.of_below hb1;exact(g1.trans (hg.weaken fun j hj=>.inr hj)).trans (hs.weaken fun j hj=>.inl hj)
 have hmh:=JS h.mrow h.hrow n1;have q1 : ∀j,(j=p\/Value.ownBlock (.slice ma xs.length mc)=some j) -> ¬Z03 Fs j/\Value.ownBlock (.slice ha ps.length hc)≠some j:=fun j hj=>by
  rcases hj with e | hj
  ·rw[e];exact⟨h.sp,ZJ h.hrow h.blk n3⟩
  ·exact⟨fun hF=>h.sm j hF hj,hmh j hj⟩
 have q2:w3.ownsRow 0 152 3 (.slice ma (xs.eraseIdx k).length mc) (xs.eraseIdx k).length (ZD (xs.eraseIdx k)):=by
  refine Ze ho hs (fun b hb2 e=>?_);rw[show b=p from e,Z31 ma _ xs.length mc]at hb2;exact ZJ h.mrow h.blk n2 hb2
 have hin : ∀y,y∈xs.eraseIdx k->y∈xs:=fun y hy=>(List.eraseIdx_sublist xs k).mem hy;have q3 : ∀y∈xs.eraseIdx k,w3.ownsRow 0 5 1 y.val y.m.body.length (y.m.body.map Zr):=fun y hy=>by
  refine Ze (h.bod y (hin y hy)) hX (fun b hb2 e=>?_);rcases e with e | e
  ·exact ZJ (h.bod y (hin y hy)) h.blk n5 (e ▸ hb2)
  ·exact JS (h.bod y (hin y hy)) h.mrow n4 b hb2 e
 have q4 : ∀j,(Value.ownBlock (.slice ma (xs.eraseIdx k).length mc)=some j \/ ∃y∈xs.eraseIdx k,y.val.ownBlock=some j)->w.heap.size<=j\/Value.ownBlock (.slice ma xs.length mc)=some j \/ ∃y∈xs,y.val.ownBlock=some j:=fun j hj=>by
  rcases hj with hj | ⟨y,hy,hj⟩
  ·exact .inr (.inl (by rw[Z31 ma xs.length (xs.eraseIdx k).length mc];exact hj))
  ·exact .inr (.inr ⟨y,hin y hy,hj⟩)
 obtain⟨g1,g2⟩:=h.mail hp hX q1 hb q2 q3 q4;have e3:(xs.eraseIdx k).map LM.m=V.ms.eraseIdx k:=by rw[<-h.mls,List.eraseIdx_eq_take_drop_succ,List.eraseIdx_eq_take_drop_succ,List.map_append,List.map_take,List.map_drop]
 rw[e3]at g1;refine⟨g1,hX.weaken (fun j hj=>?_),fun j hj=>?_⟩
 ·rcases hj with e | hj
  ·exact .inl e
  ·exact .inr (.inr (.inr (.inl hj)))
 ·rcases hj with e | e | e | e | ⟨y,hy,e⟩
  ·exact .inl e
  ·exact .inr (.inl e)
  ·exact .inr (.inr (.inl e))
  ·exact .inr (.inr (.inr (.inl (by rw[Z31 ma xs.length (xs.eraseIdx k).length mc];exact e))))
  ·exact .inr (.inr (.inr (.inr ⟨y,hin y hy,e⟩)))
end
theorem UO (p:Nat)(F:Nat->Prop)(V:ZM)(i:Int)(m:MlV)(w:World)(h:VR w p F V)(hi:Va V i=some m):
  Calls zq 144 #[.pointer (some ⟨p,0,none⟩),.int .i64 i] w fun e w' => ∃ba bc,e = .returned (.tuple #[.agg #[.int .i64 m.frm,.int .i64 m.to,.slice ba m.body.length bc],.int .i64 0])/\Y4 w' ba m.body.length bc m.body/\Yv w p F (Xq V i) w':=by
 obtain⟨ps,Fs,ha,hc,xs,ma,mc,h1,h2⟩:=h.open;obtain⟨k,rfl,ek,hk⟩:=Vu hi;have hkx:k < xs.length:=by rw[<-h1.nm];exact(List.getElem?_eq_some_iff.1 hk).1
 obtain⟨x,hx,hxm⟩ : ∃x,xs[k]? = some x/\x.m=m:=by
  rw[<-h1.mls,List.getElem?_map]at hk;cases hq:xs[k]? with
  | none=>rw[hq]at hk;cases hk
  | some x=>rw[hq]at hk;exact⟨x,rfl,Option.some.inj hk⟩
 subst hxm;have b0:=zB w (.cells #[.int .i64 0,.int .i64 0,.slice none 0 0] 152);have hr:=Y3.of_own (Zd h1.mrow b0);have hmx:=hr.maxn;obtain⟨b,off,rfl,hat⟩:=ZcD hr (by omega);have X0:=zH (Za w (.cells #[.int .i64 0,.int .i64 0,.slice none 0 0] 152));have I3:=zH (show ∀x y z:Value,(zq.info? 152).map (·.size)=some (#[x,y,z]:ZW).size from fun x y z=>by kernel_rfl);have J3:=zH (show(zq.info? 152).map (·.size)=some x.cells.length from by kernel_rfl);have H0:=zH h1;have B0:=zH b0;have HX:Hid ((w.alloc (.cells #[.int .i64 0,.int .i64 0,.slice none 0 0] 152)).rangeAt b (off+k * 3) x.cells):=zH (fun j v hv=>by
  rw[Nat.add_assoc];exact hat _ v (Z15 hx j v hv))
 have P0:=zH (Z7 b0 h1.blk);have hix:=fun W=>Yk (W:=W) (c:=mc) (b:=b) (off:=off) Tryz.underlying89 (show(zq.info? 152).map (·.size)=some 3 by kernel_rfl) hkx (rfl:off+k * 3=off+k * 3);have t1:decide ((k:Int) < 0)=false:=by simp
 have t2:decide (xs.length<=k)=false:=by simp;omega
 have E1:=zH (show wrap64 ((k:Int)+1)=(k:Int)+1 by unfold wrap64;omega);have HK:=zH hkx;have HX1:=zH hx;have H2:=zH h2;clear h1 h2 h hi hk hr hat b0 hx hkx hmx ek;go_enter Tryz.func144,Tryz.ntmps144;go_upto_region 1 with fail;obtain⟨p4,hp4⟩:=zX (w.heap.size);rw[hp4.out]at X0 ⊢;generalize w.alloc (.cells #[.int .i64 0,.int .i64 0,.slice none 0 0] 152)=W0 at *;have c1:=Z6 P0.out 1 (.slice (some ⟨b,off,none⟩) xs.length mc) rfl;go_upto_region 4 with (first
  |(refine wpList_load_mid rfl 152 _ rfl b (off+k * 3) rfl x.cells _ HX.out Tryz.underlying152 rfl (by exact J3.out) ?_)
  |(refine Zy W0 rfl 152 _ _ rfl W0.heap.size rfl _ #[.int .i64 x.m.frm,.int .i64 x.m.to,x.val] rfl rfl (I3.out _ _ _) rfl (Qh x.m.frm x.m.to (x.a,x.m.body.length,x.c)) ?_)
  | fail)
 have b1:Below W0.heap.size W0 (W0.alloc (.cells #[.int .i64 x.m.frm,.int .i64 x.m.to,x.val] 152)):=zB _ _;have X6:=zH (Za W0 (.cells #[.int .i64 x.m.frm,.int .i64 x.m.to,x.val] 152));have X4:=zH (Z7 b1 X0.out);have P1:=zH (Z7 b1 P0.out);have B1:=zH (B0.out.trans (b1.mono B0.out.size));have O1:=zH (Zd H0.out.mrow B1.out);have L6:=zH (show p4 < W0.heap.size from Zi X0.out);obtain⟨p6,hp6⟩:=zX (W0.heap.size);rw[hp6.out]at X6 L6 ⊢;generalize W0.alloc (.cells #[.int .i64 x.m.frm,.int .i64 x.m.to,x.val] 152)=W1 at *;clear b1 c1 hix t1 t2 HX P0 X0 B0;have c1:=Z6 P1.out 1 (.slice (some ⟨b,off,none⟩) xs.length mc) rfl;have e1:=E1.out;go_wp2_with fail;refine(Z6J xs (some ⟨b,off,none⟩) mc k W1 O1.out HK.out).mono ?_;rintro e W2 ⟨rfl,o2,s2⟩;have hm4 : ¬(Value.ownBlock (.slice (some ⟨b,off,none⟩) xs.length mc)=some p4):=fun e=>by
  have h5:=(H0.out.mrow.lt p4 e).2;have h6:=hp4.out;omega
 have hm6 : ¬(Value.ownBlock (.slice (some ⟨b,off,none⟩) xs.length mc)=some p6):=fun e=>by
  have h5:=(H0.out.mrow.lt p6 e).2;have h6:=hp4.out;have h7:=L6.out;omega
 have hmp : ¬(Value.ownBlock (.slice (some ⟨b,off,none⟩) xs.length mc)=some p):=ZJ H0.out.mrow H0.out.blk (by decide);have P2:=zH ((s2.block p (Zi P1.out) hmp).trans P1.out);have X42:=zH ((s2.block p4 (Zi X4.out) hm4).trans X4.out);have X62:=zH ((s2.block p6 (Zi X6.out) hm6).trans X6.out);have O2:=zH o2;have S2:=zH s2;clear c1 o2 s2 hm4 hm6 hmp;have c1:=Z6 P2.out 1 (.slice (some ⟨b,off,none⟩) xs.length mc) rfl;have f1:=Zp P2.out 1;go_upto_region 5 with fail;have PL:=Zi H0.out.blk;have hp46:=hp4.out;have l6:=L6.out;have s3:=Jw W2 p 1 (.slice (some ⟨b,off,none⟩) (xs.length - 1) mc);have P3:(W2.setCell ⟨p,1,none⟩ (.slice (some ⟨b,off,none⟩) (xs.length - 1) mc)).heap[p]? = some (.cells (bfP (.slice ha ps.length hc) (.slice (some ⟨b,off,none⟩) (xs.length - 1) mc)) 141 (0,0)):=ZK P2.out 1 _;have X43:=zH ((s3.block p4 (Zi X42.out) (by omega)).trans X42.out);have X63:=zH ((s3.block p6 (Zi X62.out) (by omega)).trans X62.out);have DR:=zH (H0.out.drop Zk (by decide) (by decide) (by decide) (by decide) (by decide) HK.out B1.out O2.out S2.out P3 s3);have hbx:=H0.out.bod x (List.mem_of_getElem? HX1.out);have ob1:=Ze (Ze (Zd hbx B1.out) S2.out (fun j hj e=>JS hbx H0.out.mrow (by decide) j hj e)) s3 (fun j hj e=>ZJ hbx H0.out.blk (by decide) (show x.val.ownBlock=some p from(show j=p from e) ▸ hj));have OB:=zH ob1;have HB4:=zH (show x.val.ownBlock≠some p4 from fun e=>by have:=(hbx.lt p4 e).2;omega);have N4:Hid (¬wF p Fs ha ps.length hc xs (some ⟨b,off,none⟩) mc p4):=zH (fun e=>by have:=H0.out.lt Zk p4 e;omega);clear s3 P3 hbx ob1 c1 f1 PL hp46 l6 e1;generalize W2.setCell ⟨p,1,none⟩ (.slice (some ⟨b,off,none⟩) (xs.length - 1) mc)=W3 at *;go_wp2_with (first
  |(refine wpList_load_row rfl 152 _ rfl p6 rfl 152 #[.int .i64 x.m.frm,.int .i64 x.m.to,x.val] (0,0) _ X63.out Tryz.underlying152 rfl (I3.out _ _ _) ?_)
  |(refine Xu rfl 152 _ _ rfl p4 #[.int .i64 0,.int .i64 0,.slice none 0 0] #[.int .i64 x.m.frm,.int .i64 x.m.to,x.val] 152 rfl rfl X43.out (I3.out _ _ _) rfl (Qh x.m.frm x.m.to (x.a,x.m.body.length,x.c)) ?_)
  | fail)
 refine bodyPost_ret (Zz rfl _ _ p4 152 #[.int .i64 x.m.frm,.int .i64 x.m.to,x.val] (0,0) _ rfl (Ys _ _ _ _ _ _ X43.out) Tryz.underlying152 rfl (I3.out _ _ _)) rfl ?_;have s4:Zb (fun k=>k=p4) W3 (W3.setRow p4 #[.int .i64 x.m.frm,.int .i64 x.m.to,x.val]):=Zb.of_grown (Yz W3 p4 _) (fun k e=>(Option.some.inj e).symm);obtain⟨d1,d2,d3⟩:=DR.out;refine⟨x.a,x.c,rfl,Y4.of_own (Ze OB.out s4 (fun j hj e=>HB4.out (by rw[<-show j=p4 from e];exact hj))),?_⟩;rw[H2.out];refine⟨_,⟨ps,Fs,ha,hc,xs.eraseIdx k,some ⟨b,off,none⟩,mc,d1.same Zk s4 (fun j e hF=>N4.out (by rw[<-show j=p4 from e];exact d3 j hF)),fun k=>Iff.rfl⟩,?_,fun j hj=>.inl (d3 j hj)⟩;refine d2.trans2 s4 (fun j e=>.inr ?_);rw[show j=p4 from e,<-hp4.out];exact Nat.le_refl _
theorem Z8V (p:Nat)(F:Nat->Prop)(V:ZM)(a:XA)(sa:zA)(sc:Nat)(w:World)(h:VR w p F V):
  Calls zq 91 #[.pointer (some ⟨p,0,none⟩),.agg (a.cells sa sc).toArray] w fun e w'=>e = .returned (.int .i64 (JH V a).2)/\Yv w p F (JH V a).1 w':=by
 have b0:=zB w (.cells (a.cells sa sc).toArray 67);have C3:=zH (show(a.cells sa sc).toArray[3]? = some (.int .i64 a.idx)from rfl);obtain⟨OA,hOA⟩:=zX ((a.cells sa sc).toArray);rw[hOA.out]at b0 C3 ⊢;have X0:=zH (Za w (.cells OA 67));have H0:=zH (h.below Zk b0);have B0:=zH b0;obtain⟨Y,hY⟩:=zX (JH V a);rw[hY.out];have I3:=zH (show ∀x y z:Value,(zq.info? 152).map (·.size)=some (#[x,y,z]:ZW).size from fun x y z=>by kernel_rfl);clear b0 hOA h;go_enter Tryz.func91,Tryz.ntmps91;go_upto_region 1 with fail;obtain⟨p3,hp3⟩:=zX (w.heap.size);rw[hp3.out]at X0 ⊢;generalize w.alloc (.cells OA 67)=W0 at *;have c1:=Z6 X0.out 3 (.int .i64 a.idx) C3.out;go_wp2_with fail;cases hm:Va V a.idx with
 | none=>
  have R:Hid (Y=(V,3)):=zH (hY.out.symm.trans (by unfold JH;rw[hm]));refine(Z3b p F V a.idx _ H0.out hm).mono ?_;rintro e w1 ⟨rfl,b1⟩;have RR:=zH (((Qs.refl H0.out).after B0.out).then Zk (b1.mono (Nat.le_refl _)):Yv w p F V w1);clear b1 c1 hm hY;go_upto_region 2 with (refine Zy w1 rfl 152 _ _ rfl w1.heap.size rfl _ #[.int .i64 0,.int .i64 0,.slice none 0 0] rfl rfl (I3.out _ _ _) rfl (Qh 0 0 (none,0,0)) ?_);have RF:=zH (RR.out.then Zk (zB _ (.cells #[.int .i64 0,.int .i64 0,.slice none 0 0] 152)));generalize w1.alloc (.cells #[.int .i64 0,.int .i64 0,.slice none 0 0] 152)=w2 at *;go_wp2;go_ret;rw[R.out];exact⟨rfl,RF.out⟩
 | some m=>
  have R:Hid (Y=(Xq V a.idx,0)):=zH (hY.out.symm.trans (by unfold JH;rw[hm]));refine(UO p F V a.idx m _ H0.out hm).mono ?_;rintro e w1 ⟨ba,bc,rfl,hb,hr⟩;have RR:=zH (hr.after B0.out);clear hb hr c1 hm hY;go_upto_region 2 with (refine Zy w1 rfl 152 _ _ rfl w1.heap.size rfl _ #[.int .i64 m.frm,.int .i64 m.to,.slice ba m.body.length bc] rfl rfl (I3.out _ _ _) rfl (Qh m.frm m.to (ba,m.body.length,bc)) ?_);have RF:=zH (RR.out.then Zk (zB _ (.cells #[.int .i64 m.frm,.int .i64 m.to,.slice ba m.body.length bc] 152)));generalize w1.alloc (.cells #[.int .i64 m.frm,.int .i64 m.to,.slice ba m.body.length bc] 152)=w2 at *;go_wp2;go_ret;rw[R.out];exact⟨rfl,RF.out⟩
theorem Z6b (p:Nat)(F:Nat->Prop)(V:ZM)(a:XA)(sa:zA)(sc:Nat)(w:World)(h:VR w p F V):
  Calls zq 92 #[.pointer (some ⟨p,0,none⟩),.agg (a.cells sa sc).toArray] w fun e w'=>e = .returned (.int .i64 (Xk V a).2)/\Yv w p F (Xk V a).1 w':=by
 have b0:=zB w (.cells (a.cells sa sc).toArray 67);have C3:=zH (show(a.cells sa sc).toArray[3]? = some (.int .i64 a.idx)from rfl);obtain⟨OA,hOA⟩:=zX ((a.cells sa sc).toArray);rw[hOA.out]at b0 C3 ⊢;have X0:=zH (Za w (.cells OA 67));have H0:=zH (h.below Zk b0);have B0:=zH b0;obtain⟨Y,hY⟩:=zX (Xk V a);rw[hY.out];clear b0 hOA h;go_enter Tryz.func92,Tryz.ntmps92;go_upto_region 1 with fail;obtain⟨p3,hp3⟩:=zX (w.heap.size);rw[hp3.out]at X0 ⊢;generalize w.alloc (.cells OA 67)=W0 at *;have RF:=zH ((Qs.refl H0.out).after B0.out);obtain⟨ps,Fs,ha,hc,xs,ma,mc,h1,h2⟩:=H0.out.open;have c1:=Z6 X0.out 3 (.int .i64 a.idx) C3.out;have c2:=Z6 h1.blk 1 (.slice ma xs.length mc) rfl;cases hm:Va V a.idx with
 | none=>
  have R:Hid (Y=(V,3)):=zH (hY.out.symm.trans (by unfold Xk;rw[hm]));have RG:=zH (fun n=>RF.out.then Zk (below_drewN (Below.refl W0.heap.size W0) n));have hn:=Z4X hm;rw[h1.nm]at hn;rcases Int.lt_or_le a.idx 0 with hi0 | hi0
  focus
   have t1:decide (a.idx < 0)=true:=by simp[hi0]
  rotate_left
  focus
   have t1:decide (a.idx < 0)=false:=by simp;omega
   have t2:decide ((xs.length:Int)<=a.idx)=true:=by simp;omega
  all_goals
   clear hn hi0 hm hY h1 h2;go_quiet (fail);go_wp2;go_ret;rw[R.out];exact⟨rfl,RG.out _⟩
 | some m=>
 obtain⟨k,ei,ek,hk⟩:=Vu hm;have hkx:k < xs.length:=by rw[<-h1.nm];exact(List.getElem?_eq_some_iff.1 hk).1
 obtain⟨x,hx,hxm⟩ : ∃x,xs[k]? = some x/\x.m=m:=by
  rw[<-h1.mls,List.getElem?_map]at hk;cases hq:xs[k]? with
  | none=>rw[hq]at hk;cases hk
  | some x=>rw[hq]at hk;exact⟨x,rfl,Option.some.inj hk⟩
 have t1:decide (a.idx < 0)=false:=by simp;omega
 have t2:decide ((xs.length:Int)<=a.idx)=false:=by simp;omega
 have hr:=Y3.of_own h1.mrow;have hmx:=hr.maxn;obtain⟨b,off,rfl,hat⟩:=ZcD hr (by omega);have HX:=zH (show W0.rangeAt b (off+k * 3) x.cells from fun j v hv=>by
  rw[Nat.add_assoc];exact hat _ v (Z15 hx j v hv))
 have HIX:=zH (show ∀W:World,(Instr.indexAt 89 (.slice (some ⟨b,off,none⟩) xs.length mc) (.int .i64 a.idx)).run zq W = .ok (.pointer (some ⟨b,off+k * 3,none⟩)) W from fun W=>by rw[ei];exact Yk (W:=W) (c:=mc) (b:=b) (off:=off) Tryz.underlying89 (show(zq.info? 152).map (·.size)=some 3 by kernel_rfl) hkx (rfl:off+k * 3=off+k * 3));have J3:=zH (show(zq.info? 152).map (·.size)=some x.cells.length from by kernel_rfl);have H1:=zH h1;have H2:=zH h2;have HXM:=zH (List.mem_of_getElem? hx);have HMM:=zH hxm;by_cases hf:64<=V.ms.length
 ·have R:Hid (Y=(V,2)):=zH (hY.out.symm.trans (by unfold Xk;rw[hm];exact if_pos hf));have FU:=zH (fun n=>Z0q (h1.below Zk (below_drewN (Below.refl W0.heap.size W0) n)));rw[show decide (64<=V.ms.length)=true by simp[hf]]at FU;have RG:=zH (fun n=>RF.out.then Zk (below_drewN (Below.refl W0.heap.size W0) n));clear h1 h2 hm hY hf hr hmx hat hx hxm hkx ei ek hk;go_quiet (fail);go_wp2_with fail;refine(FU.out _).mono ?_;rintro e w2 ⟨rfl,rfl⟩;go_wp2;go_ret;rw[R.out];exact⟨rfl,RG.out _⟩
 have R:Hid (Y=(Vg V m,0)):=zH (hY.out.symm.trans (by unfold Xk;rw[hm];exact if_neg hf));have FU:=zH (fun n=>Z0q (h1.below Zk (below_drewN (Below.refl W0.heap.size W0) n)));rw[show decide (64<=V.ms.length)=false by simp[hf]]at FU;have LN:=zH (show xs.length < 64 by have:=h1.nm;omega);have BN:=zH (fun n=>below_drewN (Below.refl W0.heap.size W0) n);clear h1 h2 hm hY hf hr hmx hat hx hxm hkx ei ek hk;go_quiet (fail);go_wp2_with fail;refine(FU.out _).mono ?_;rintro e w2 ⟨rfl,rfl⟩;go_upto_region 5 with fail;refine bD 17 (fun W'=>W'.heap[p]? = some (.cells #[.slice ha ps.length hc,.slice (some ⟨b,off,none⟩) xs.length mc] 141)/\W'.heap[p3]? = some (.cells OA 67)) ⟨H1.out.blk,X0.out⟩ (fun hh=>?_);have BV:=zH (show Below W0.heap.size W0 (W0.drewN nq).drew from(BN.out nq).drew);have HXV:=zH (show(W0.drewN nq).drew.rangeAt b (off+k * 3) x.cells from fun j v hv=>HX.out j v hv);clear c1 c2 t1 t2 FU HX;generalize (W0.drewN nq).drew=V2 at *;refine bW 0 rfl (.pointer (some ⟨p,0,none⟩)) ?_;refine bW 1 rfl (.pointer (some ⟨p,0,none⟩)) ?_;refine bW 2 rfl (.pointer (some ⟨p,0,none⟩)) ?_;refine bW 3 rfl (.pointer (some ⟨p,1,none⟩)) ?_;refine bS 4 rfl (.slice (some ⟨b,off,none⟩) xs.length mc) (fun W hW=>by have c:=Z6 hW.1 1 (.slice (some ⟨b,off,none⟩) xs.length mc) rfl;go_simp) ?_;refine bW 5 rfl (.pointer (some ⟨p,0,none⟩)) ?_;refine bW 6 rfl (.pointer (some ⟨p,0,none⟩)) ?_;refine bW 7 rfl (.pointer (some ⟨p,1,none⟩)) ?_;refine bS 8 rfl (.slice (some ⟨b,off,none⟩) xs.length mc) (fun W hW=>by have c:=Z6 hW.1 1 (.slice (some ⟨b,off,none⟩) xs.length mc) rfl;go_simp) ?_;refine bW 9 rfl (.pointer (some ⟨p3,3,none⟩)) ?_;refine bS 10 rfl (.int .i64 a.idx) (fun W hW=>by have c:=Z6 hW.2 3 (.int .i64 a.idx) C3.out;go_simp) ?_;refine bS 11 rfl (.pointer (some ⟨b,off+k * 3,none⟩)) (fun W hW=>by have h:=HIX.out W;go_simp) ?_;refine bR 12 rfl (fun K hK=>?_);rw[if_pos (by kernel_rfl)];refine wp_load_mid 152 _ rfl b (off+k * 3) rfl x.cells _ HXV.out Tryz.underlying152 rfl (by exact J3.out) ?_;refine bK hK hh (fun hh=>?_)
 clear hK K;refine bR 13 rfl (fun K hK=>?_);rw[if_pos (by kernel_rfl)];refine JZ (w':=V2.alloc (.cells #[.int .i64 x.m.frm,.int .i64 x.m.to,x.val] 152)) (.slice (some ⟨V2.heap.size,0,none⟩) 1 1) (by kernel_rfl) ?_;have b6:Below V2.heap.size V2 (V2.alloc (.cells #[.int .i64 x.m.frm,.int .i64 x.m.to,x.val] 152)):=zB _ _;have R6:=zH (Z3K V2 (.int .i64 x.m.frm) (.int .i64 x.m.to) x.val);have B6:=zH (BV.out.trans (b6.mono BV.out.size));have hS6:=And.intro (Z7 b6 hh.1) (Z7 b6 hh.2);clear b6 hh;obtain⟨p6,hp6⟩:=zX (V2.heap.size);rw[hp6.out]at R6 ⊢;generalize V2.alloc (.cells #[.int .i64 x.m.frm,.int .i64 x.m.to,x.val] 152)=V6 at *;refine bK hK hS6 (fun hh=>?_);clear hK K hS6;refine bR 14 rfl (fun K hK=>?_);rw[if_pos (by kernel_rfl)];obtain⟨a7,c7,V7,hrun,ho,hg,hl⟩:=Z10 V6 0 (some ⟨b,off,none⟩) xs.length mc (ZD xs) (Zd H1.out.mrow B6.out) (some ⟨p6,0,none⟩) 1 1 _ R6.out (by intro u hu;simp at hu;rcases hu with rfl | rfl | rfl <;> rfl) (by have:=LN.out;omega) (Nat.zero_le _);refine ZU _ _ _ rfl _ _ _ rfl rfl hrun ?_;clear hrun;have HO:=zH ho;have HG:=zH hg;have HL:=zH hl;have hne : ∀{cur:ZW} {t:TypeId} {g:Nat},V6.heap[g]? = some (.cells cur t (0,0))->152≠t->Value.ownBlock (.slice (some ⟨b,off,none⟩) xs.length mc)≠some g:=fun hgg ht=>ZJ (Zd H1.out.mrow B6.out) hgg ht;have hS7:=And.intro (Zc hg hh.1 (Ne.symm (hne hh.1 (by decide)))) (Zc hg hh.2 (Ne.symm (hne hh.2 (by decide))));clear ho hg hl hne hh;refine bK hK hS7 (fun hh=>?_);clear hK K hS7;refine bR 15 rfl (fun K hK=>?_);go_simp;refine bK hK hh (fun hh=>?_);clear hK K;refine bW 16 rfl (.pointer (some ⟨p,1,none⟩)) ?_;refine bL rfl (fun K hK=>?_);have hce:=Z6 hh.1 1 (.slice (some ⟨b,off,none⟩) xs.length mc) rfl;have hfz:=Zp hh.1 1;have P8:(V7.setCell ⟨p,1,none⟩ (.slice a7 (xs.length+1) c7)).heap[p]? = some (.cells #[.slice ha ps.length hc,.slice a7 (xs.length+1) c7] 141):=ZK hh.1 1 _;have FIN:Hid (Yv w p F (Vg V x.m) (V7.setCell ⟨p,1,none⟩ (.slice a7 (xs.length+1) c7))):=zH (by
  rw[H2.out];refine Qs.after (w:=W0) ?_ B0.out;exact H1.out.send Zk (by decide) (by decide) (by decide) (by decide) (by decide) x B6.out (Zd (H1.out.bod x HXM.out) B6.out) (fun j hj=>.inr ⟨x,HXM.out,hj⟩) (ma':=a7) (mc':=c7) HO.out HG.out HL.out P8 (Jw V7 p 1 _))
 clear P8 hh;go_simp;refine hK.out _ _ ?_;clear hK K hce hfz;refine bE ?_;go_wp2;go_ret;rw[R.out,<-HMM.out];exact⟨rfl,FIN.out⟩
def Z1b (V:ZM)(w:World)(h:Int)(e:Ending)(W:World):Prop:=match Yi V h with
 | none=>e = .returned (.tuple #[.slice none 0 0,.int .i64 3])
 | some S => ∃a un c zs,e = .returned (.tuple #[.slice a un c,.int .i64 0])/\VZ w W a c un zs/\zs.map LN.n=S.l
theorem Z3c (p:Nat)(F:Nat->Prop)(V:ZM)(i:Int)(w:World)(h:VR w p F V)(h0:0 < V.hs.length)(hi : ∀S∈V.hs,Xt S/\S.l.length<=400):
  Calls zq 30 #[.pointer (some ⟨p,0,none⟩),.int .i64 i] w fun e w'=>Z1b V w i e w'/\Below w.heap.size w w':=by
 obtain⟨ps,Fs,ha,hc,xs,ma,mc,h1,h2⟩:=h.open;have HM:=zH (Uu h1 (by rw[<-h1.nh];exact h0));cases hT:Yi V i with
 | none=>
  have HT:=zH (Z05 h1 i (by have:=Z2f hT;rw[h1.nh]at this;exact this));have R:Hid (∀e W,e = .returned (.tuple #[.slice none 0 0,.int .i64 3])->Z1b V w i e W):=zH (fun e W h=>by unfold Z1b;rw[hT];exact h);clear h1 h2 h hT h0 hi;go_enter Tryz.func30,Tryz.ntmps30;go_wp2_with fail;refine HM.out.mono ?_;rintro e w1 ⟨rfl,rfl⟩;go_wp2_with fail;refine HT.out.mono ?_;rintro e w1 ⟨rfl,rfl⟩;go_wp2_with fail;go_returns;exact⟨R.out _ _ rfl,Below.refl _ _⟩
 | some S=>
  obtain⟨k,q,Fk,e1,e2,g1,g2,g3,g4⟩:=h1.at hT;have HT:=zH (Xf h1 i k q e1 g1);obtain⟨mb,sp,G,SF,k1,k2⟩:=g3;have HK:=zH k1;have HI:=zH (hi S (List.mem_of_getElem? g4));have R:Hid (∀e W,(∃a un c zs,e = .returned (.tuple #[.slice a un c,.int .i64 0])/\VZ w W a c un zs/\zs.map LN.n=S.l)->Z1b V w i e W):=zH (fun e W h=>by unfold Z1b;rw[hT];exact h);clear h1 h2 h hT h0 hi e1 e2 g1 g2 g4 k1 k2;go_enter Tryz.func30,Tryz.ntmps30;go_wp2_with fail;refine HM.out.mono ?_;rintro e w1 ⟨rfl,rfl⟩;go_wp2_with fail;refine HT.out.mono ?_;rintro e w1 ⟨rfl,rfl⟩;go_wp2_with fail;refine(Z6W q mb sp G SF S _ HK.out HI.out.1 HI.out.2).mono ?_;rintro e w2 ⟨⟨a,un,c,zs,rfl,m1,m2⟩,b1⟩;have M1:=zH m1;have M2:=zH m2;have BB:=zH b1;clear m1 m2 b1;go_wp2_with fail;go_returns;exact⟨R.out _ _ ⟨a,un,c,zs,rfl,M1.out,M2.out⟩,BB.out⟩
section
variable {PH:World->Nat->(Nat->Prop)->Zj->Prop}{tW tH:TypeId}{bf:Value->Value->ZW}{w w1 w2 w3:World}{p:Nat}{ps:List Nat}{Fs:List (Nat->Prop)}{ha:zA}{hc:Nat}{xs:List LM}{ma:zA}{mc:Nat}{V:ZM}
theorem Up.pushH (hp:Q9 PH)(h:Up PH tW tH bf w p ps Fs ha hc xs ma mc V)(n1:152≠tH)(n2:152≠tW)(n3:tH≠tW)(n4:5≠tH)(n5:5≠tW)(hb1:Below w.heap.size w w1){q:Nat}{F:Nat->Prop}{S:Zj}(hS:PH w1 q F S)(hF : ∀k,F k->w.heap.size<=k)
  {ha':zA} {hc':Nat} (ho:w2.ownsRow 0 tH 1 (.slice ha' (ps.length+1) hc') (ps.length+1) ((ps.map fun q=>Value.pointer (some ⟨q,0,none⟩)) ++ [.pointer (some ⟨q,0,none⟩)])) (hg:w1.grownBy w2 (Value.ownBlock (.slice ha ps.length hc))) (hl:ha'=ha\/ha'=some ⟨w1.heap.size,0,none⟩)
  (hb:w3.heap[p]? = some (.cells (bf (.slice ha' (ps.length+1) hc') (.slice ma xs.length mc)) tW (0,0))) (hs:Zb (fun k=>k=p) w2 w3):
  Up PH tW tH bf w3 p (ps ++ [q]) (Fs ++ [F]) ha' hc' xs ma mc { V with hs:=V.hs ++ [S] } /\ Zb (wF p Fs ha ps.length hc xs ma mc) w w3 /\ ∀k,wF p (Fs ++ [F]) ha' (ps ++ [q]).length hc' xs ma mc k->wF p Fs ha ps.length hc xs ma mc k\/w.heap.size<=k:=by
 have e1:ps.length+1=(ps ++ [q]).length:=by simp
 have e2:(ps.map fun q=>Value.pointer (some ⟨q,0,none⟩)) ++ [.pointer (some ⟨q,0,none⟩)]=(ps ++ [q]).map fun q=>Value.pointer (some ⟨q,0,none⟩):=by simp
 rw[e2,e1]at ho;rw[e1]at hb;have hpw:=Zi h.blk;have hX:Zb (fun k=>k=p\/Value.ownBlock (.slice ha ps.length hc)=some k) w w3:=by
  have g1:Zb (fun k=>k=p\/Value.ownBlock (.slice ha ps.length hc)=some k) w w1:=Zb.of_below hb1;exact(g1.trans (Zb.of_grown hg (fun k hk=>.inr hk))).trans (hs.weaken fun k hk=>.inl hk)
 have hX1:Zb (fun k=>k=p\/Value.ownBlock (.slice ha ps.length hc)=some k) w1 w3:=(Zb.of_grown (S:=fun k=>k=p\/Value.ownBlock (.slice ha ps.length hc)=some k) hg (fun k hk=>.inr hk)).trans (hs.weaken fun k hk=>.inl hk);have hrl : ∀k,Value.ownBlock (.slice ha ps.length hc)=some k->k < w.heap.size:=fun k hk=>(h.hrow.lt k hk).2;have hm2 : ∀k,Value.ownBlock (.slice ha' (ps ++ [q]).length hc')=some k->Value.ownBlock (.slice ha ps.length hc)=some k\/k=w1.heap.size:=fun k hk=>J0 (n:=ps.length) (c:=hc) hl hk;have hFlt:=hp.lt hS;have hsz:=hb1.size;obtain⟨u1,u2⟩:=h.hs.push hp hb1 hS hF;have hany : ∀k,Z03 (Fs ++ [F]) k->k < w1.heap.size:=u1.lt hp;refine⟨⟨hb,?_,?_,?_,h.mls,fun y hy=>?_,fun hk=>?_,fun k hk hb2=>?_,fun k hk hb2=>?_,fun k hk y hy hb2=>?_⟩,hX.weaken (fun k hk=>?_),fun k hk=>?_⟩
 ·refine Ze ho hs (fun b hb2 e=>?_);rw[show b=p from e]at hb2;rcases hm2 p hb2 with h5 | h5
  ·exact ZJ h.hrow h.blk n3 h5
  ·omega
 ·refine u1.same hp hX1 (fun k hk hF2=>?_);rcases u2 k hF2 with h5 | h5
  ·rcases hk with e | e
   ·exact h.sp (e ▸ h5)
   ·exact h.sh k h5 e
  ·rcases hk with e | e
   ·omega
   ·have:=hrl k e;omega
 ·refine Ze h.mrow hX (fun b hb2 e=>?_);rcases e with e | e
  ·exact ZJ h.mrow h.blk n2 (e ▸ hb2)
  ·exact JS h.mrow h.hrow n1 b hb2 e
 ·refine Ze (h.bod y hy) hX (fun b hb2 e=>?_);rcases e with e | e
  ·exact ZJ (h.bod y hy) h.blk n5 (e ▸ hb2)
  ·exact JS (h.bod y hy) h.hrow n4 b hb2 e
 ·rcases u2 p hk with h5 | h5
  ·exact h.sp h5
  ·omega
 ·have h7:=hany k hk;rcases hm2 k hb2 with h6 | h6
  ·rcases u2 k hk with h5 | h5
   ·exact h.sh k h5 h6
   ·have:=hrl k h6;omega
  ·omega
 ·rcases u2 k hk with h5 | h5
  ·exact h.sm k h5 hb2
  ·have:=(h.mrow.lt k hb2).2;omega
 ·rcases u2 k hk with h5 | h5
  ·exact h.sb k h5 y hy hb2
  ·have:=((h.bod y hy).lt k hb2).2;omega
 ·rcases hk with e | e
  ·exact .inl e
  ·exact .inr (.inl e)
 ·rcases hk with e | e | e | e | e
  ·exact .inl (.inl e)
  ·rcases hm2 k e with h6 | h6
   ·exact .inl (.inr (.inl h6))
   ·exact .inr (by omega)
  ·exact(u2 k e).imp (fun e=>.inr (.inr (.inl e))) id
  ·exact .inl (.inr (.inr (.inr (.inl e))))
  ·exact .inl (.inr (.inr (.inr (.inr e))))
end
def Z1n (f:Yg)(k:Nat):ZM:=⟨f,(List.range k).map fun(i:Nat)=>Zj.new f ((i:Int)+1),[]⟩
theorem Z9l (f:Yg)(k:Nat): { Z1n f k with hs:=(Z1n f k).hs ++ [Zj.new f ((k:Int)+1)] } = Z1n f (k+1):=by
 unfold Z1n;rw[List.range_succ,List.map_append];rfl
theorem Zd0:(zq.info? 27).map (fun i=>(i.zero,i.size,i.bytes))=some (some (.pointer none),1,8):=by kernel_rfl
theorem Z7E (w:World)(base:Nat)(sa:zA)(sn sc:Nat)(xs:List Value)(hown:w.ownsRow base 27 1 (.slice sa sn sc) sn xs)(xa:zA)(m xc:Nat)(ys:List Value)(hrd:Y3 w 1 xa m xc ys)(h1 : ∀u∈ys,u.oneCell'=true)
  (hbytes:(sn+m) * 8<=140737488355328) (hbase:base<=w.heap.size):
  ∃a' c' w',(Builtin.append_ #[139,139] 139 #[.slice sa sn sc,.slice xa m xc]).run zq w = .ok (.slice a' (sn+m) c') w'/\w'.ownsRow base 27 1 (.slice a' (sn+m) c') (sn+m) (xs ++ ys)/\w.grownBy w' (Value.ownBlock (.slice sa sn sc))/\(a'=sa\/a'=some ⟨w.heap.size,0,none⟩):=by
 obtain⟨i,hi,hz0,hz1,hz2⟩:=info_parts Zd0;obtain⟨a',c',w',hr,h2,h3⟩:=Yc w base 139 139 27 i _ 1 8 Tryz.underlying139 hi hz0 hz1 hz2 rfl (by decide) sa sn sc xs hown xa m xc ys hrd h1 (by unfold maxLen;omega) hbytes hbase;have hloc:=Jp (P:=zq) w base 139 139 27 i _ 1 8 Tryz.underlying139 hi hz0 hz1 hz2 sa sn sc _ hown xa m xc _ hrd h1 (by unfold maxLen;omega) hbytes _ _ hr;refine⟨a',c',w',hr,h2,h3,?_⟩;rcases hloc with ⟨n',c'',h⟩ | ⟨n',c'',h⟩
 ·simp only[Value.slice.injEq]at h;exact .inl h.1
 ·simp only[Value.slice.injEq]at h;exact .inr h.1
theorem ZcV (W:World)(q:Nat):Y3 (W.alloc (.cells #[.pointer (some ⟨q,0,none⟩)] 27)) 1 (some ⟨W.heap.size,0,none⟩) 1 1 [.pointer (some ⟨q,0,none⟩)]:=
 Y3.of_own (World.ownsRow_lit (base:=W.heap.size) (e:=27) (size:=1) W #[.pointer (some ⟨q,0,none⟩)] 1 (Nat.le_refl _) (by unfold maxLen;omega) rfl)
theorem Up.empty (w:World)(f:Yg){p:Nat}(hb:w.heap[p]? = some (.cells #[.slice none 0 0,.slice none 0 0] 141)):Up Z04 141 27 bfP w p [] [] none 0 [] none 0 (Z1n f 0):=
 ⟨hb,World.ownsRow_nil _ _ _ _,UL.nil w,World.ownsRow_nil _ _ _ _,rfl,fun x hx=>by simp at hx,fun⟨i,F,h,_⟩=>by simp at h,fun k ⟨i,F,h,_⟩=>by simp at h,fun k ⟨i,F,h,_⟩=>by simp at h,fun k ⟨i,F,h,_⟩=>by simp at h⟩
theorem Z6G (f:Yg)(m:Nat)(w:World)(hv:f.valid=true)(h1:1<=m)(h8:m<=8):
  Calls zq 29 #[f.val,.int .i64 (m:Int)] w fun e w' => ∃p F,e = .returned (.tuple #[.pointer (some ⟨p,0,none⟩),.int .i64 0])/\VR w' p F (Z1n f m)/\(∀k,F k->w.heap.size<=k)/\Below w.heap.size w w':=by
 have t1:decide ((m:Int) < 1)=false:=by simp;omega
 have t2:decide ((8:Int) < (m:Int))=false:=by simp;omega
 have b0:=zB w (zF f 23);have X0:=zH (Za w (zF f 23));have B0:=zH b0;have HV:=zH hv;have HM:=zH (show 1<=m/\m<=8 from⟨h1,h8⟩);clear b0 hv h1 h8;unfold Yg.val;go_enter Tryz.func29,Tryz.ntmps29;go_upto_region 1 with fail;obtain⟨pf,hpf⟩:=zX (w.heap.size);rw[hpf.out]at X0 ⊢;generalize w.alloc (zF f 23)=W0 at *;have c0:=Z6 X0.out 0 (.int .i64 f.rings) rfl;have c1:=Z6 X0.out 1 (.int .i64 f.sectors) rfl;have c2:=Z6 X0.out 2 (.int .i64 f.wide) rfl;go_wp2_with fail;refine(QZ f.rings f.sectors f.wide _).mono ?_;rintro e w1 ⟨rfl,b1⟩;rw[show Yg.valid ⟨f.rings,f.sectors,f.wide⟩=true from HV.out];have X1:=zH (Z7 b1 X0.out);have B1:=zH (B0.out.trans (b1.mono B0.out.size));clear b1 c0 c1 c2 t1 t2;go_upto_region 4 with fail;have b2:Below w1.heap.size w1 (w1.alloc (.cells #[.slice none 0 0,.slice none 0 0] 141)):=zB _ _;have E0:=Up.empty _ f (Za w1 (.cells #[.slice none 0 0,.slice none 0 0] 141));have X2:=zH (Z7 b2 X1.out);have B2:=zH (B1.out.trans (b2.mono B1.out.size));have PW:=zH (show w.heap.size<=w1.heap.size from B1.out.size);have NE:=zH (show pf < w1.heap.size from Zi X1.out);obtain⟨p,hp⟩:=zX (w1.heap.size);rw[hp.out]at E0 PW NE ⊢;have EE:=zH E0;clear b2 E0 X1 B1;generalize w1.alloc (.cells #[.slice none 0 0,.slice none 0 0] 141)=W2 at *;go_wp2_with fail;go_loopw [24] (fun iv wr=>∃(k:Nat) (ps:List Nat) (Fs:List (Nat->Prop)) (ha:zA) (hc:Nat),iv = .int .i64 (k:Int)/\k<=m/\Hid (Up Z04 141 27 bfP wr p ps Fs ha hc [] none 0 (Z1n f k))/\Hid (Below w.heap.size w wr)/\Hid (wr.heap[pf]? = some (.cells #[.int .i64 f.rings,.int .i64 f.sectors,.int .i64 f.wide] 23))/\Hid (∀j,wF p Fs ha ps.length hc [] none 0 j->p<=j)) (fun iv _=>m - (intOf iv).toNat)
 case atStart=>
  refine⟨0,[],[],none,0,rfl,Nat.zero_le _,EE,B2,X2,zH (fun j hj=>?_)⟩;rcases hj with e | e | ⟨i,F,e,_⟩ | e | ⟨y,hy,_⟩
  ·rw[e];exact Nat.le_refl _
  ·simp[Value.ownBlock]at e
  ·simp at e
  ·simp[Value.ownBlock]at e
  ·simp at hy
 case round=>
  obtain⟨k,ps,Fs,ha,hc,rfl,hk,HA,HB,HX,HF⟩:=hrel;by_cases hlt:k < m
  ·have t1:decide ((k:Int) < (m:Int))=true:=by simp;omega
   have E1:=zH (show wrap64 ((k:Int)+1)=(k:Int)+1 by have:=HM.out;unfold wrap64;omega);have e1:=E1.out;have c0:=Z6 HX.out 0 (.int .i64 f.rings) rfl;have c1:=Z6 HX.out 1 (.int .i64 f.sectors) rfl;have c2:=Z6 HX.out 2 (.int .i64 f.wide) rfl;go_wp2_with fail;refine(Z4w f ((k:Int)+1) wr).mono ?_;rintro e W3 ⟨hr | ⟨_,_,q,mb,sp,rfl,hq,hqn⟩,b3⟩
   ·exact absurd ⟨HV.out,by omega,by have:=HM.out;omega⟩ hr.1
   have HQ:=zH (show Z04 W3 q (fun j=>Yw q mb (fun _=>none) (fun k=>k=sp) j) (Zj.new f ((k:Int)+1))from⟨mb,sp,_,_,hq,fun j=>Iff.rfl⟩);have HQN:=zH hqn;have B3:=zH b3;have b4:Below W3.heap.size W3 (W3.alloc (.cells #[.pointer (some ⟨q,0,none⟩)] 27)):=zB _ _;have B4:=zH (b3.trans (b4.mono b3.size));have HQ4:=zH (Zk.same HQ.out (X:=fun _=>False) (Zb.of_below b4) (fun _ e=>e.elim));have hby:(ps.length+1) * 8<=140737488355328:=by
    have h5:=HA.out.nh;have h6:(Z1n f k).hs.length=k:=by simp[Z1n]
    have:=HM.out;omega
   obtain⟨a7,c7,V7,hrun,ho,hg,hl⟩:=Z7E (W3.alloc (.cells #[.pointer (some ⟨q,0,none⟩)] 27)) 0 ha ps.length hc _ (Zd HA.out.hrow B4.out) (some ⟨W3.heap.size,0,none⟩) 1 1 _ (ZcV W3 q) (by intro u hu;simp at hu;subst hu;rfl) hby (Nat.zero_le _);have HR:=zH hrun;have HO:=zH ho;have HG:=zH hg;have HL:=zH hl;have P4:=Z7 B4.out HA.out.blk;have P7:=zH (Zc hg P4 (Ne.symm (ZJ HA.out.hrow HA.out.blk (by decide))));have X7:=zH (Zc hg (Z7 B4.out HX.out) (fun e=>by have h5:=(HA.out.hrow.lt pf e.symm);have h6:=HF.out pf (.inr (.inl e.symm));have:=NE.out;omega));have d0:=Z6 (Z7 B3.out HA.out.blk) 0 (.slice ha ps.length hc) rfl;have d1:=Z6 P7.out 0 (.slice ha ps.length hc) rfl;have d2:=Zp P7.out 0;clear hq hqn b3 b4 hrun ho hg hl P4 c0 c1 c2 t1 e1;go_wp2_with (refine Ye rfl _ _ _ rfl _ _ _ rfl rfl HR.out ?_);go_roundw
   case rel=>
    have P8:(V7.setCell ⟨p,0,none⟩ (.slice a7 (ps.length+1) c7)).heap[p]? = some (.cells (bfP (.slice a7 (ps.length+1) c7) (.slice none 0 0)) 141 (0,0)):=ZK P7.out 0 _;have s8:=Jw V7 p 0 (.slice a7 (ps.length+1) c7);obtain⟨u1,u2,u3⟩:=HA.out.pushH Zk (by decide) (by decide) (by decide) (by decide) (by decide) B4.out HQ4.out HQN.out (ha':=a7) (hc':=c7) HO.out HG.out HL.out P8 s8;rw[Z9l]at u1;refine⟨k+1,ps ++ [q],Fs ++ [fun j=>Yw q mb (fun _=>none) (fun k=>k=sp) j],a7,c7,by go_num,by omega,zH u1,zH (u2.below HB.out HB.out.size (fun j hj=>Nat.le_trans PW.out (HF.out j hj))),zH ((s8.block pf (Zi X7.out) (by have:=NE.out;omega)).trans X7.out),zH (fun j hj=>?_)⟩;rcases u3 j hj with h5 | h5
    ·exact HF.out j h5
    ·have:=Zi HA.out.blk;omega
   case measure=>simp[intOf];omega
  ·have hkm:k=m:=by omega
   subst hkm;have t1:decide ((k:Int) < (k:Int))=false:=by simp
   have FIN:=zH (show VR wr p (wF p Fs ha ps.length hc [] none 0) (Z1n f k)from⟨ps,Fs,ha,hc,[],none,0,HA.out,fun j=>Iff.rfl⟩);go_wp2_with fail;go_returns;exact⟨p,_,rfl,FIN.out,fun j hj=>Nat.le_trans PW.out (HF.out j hj),HB.out⟩
theorem Z6H (f:Yg)(n:Int)(w:World)(hno : ¬(1<=n/\n<=8/\f.valid=true)):
  Calls zq 29 #[f.val,.int .i64 n] w fun e w'=>e = .returned (.tuple #[.pointer none,.int .i64 1])/\Below w.heap.size w w':=by
 have b0:=zB w (zF f 23);have X0:=zH (Za w (zF f 23));have B0:=zH b0;have HN:=zH hno;clear b0 hno;unfold Yg.val;go_enter Tryz.func29,Tryz.ntmps29;go_upto_region 1 with fail;obtain⟨pf,hpf⟩:=zX (w.heap.size);rw[hpf.out]at X0 ⊢;generalize w.alloc (zF f 23)=W0 at *;by_cases h1:n < 1
 ·have t1:decide (n < 1)=true:=by simp[h1]
  clear h1;go_wp2_with fail;go_returns;exact⟨rfl,B0.out⟩
 have t1:decide (n < 1)=false:=by simp;omega
 by_cases h2:8 < n
 ·have t2:decide (8 < n)=true:=by simp[h2]
  clear h1 h2;go_wp2_with fail;go_returns;exact⟨rfl,B0.out⟩
 have t2:decide (8 < n)=false:=by simp;omega
 have HV:=zH (show f.valid=false by
  cases hv:f.valid with
  | false=>rfl
  | true=>exact absurd ⟨by omega,by omega,hv⟩ HN.out)
 clear h1 h2;have c0:=Z6 X0.out 0 (.int .i64 f.rings) rfl;have c1:=Z6 X0.out 1 (.int .i64 f.sectors) rfl;have c2:=Z6 X0.out 2 (.int .i64 f.wide) rfl;go_wp2_with fail;refine(QZ f.rings f.sectors f.wide _).mono ?_;rintro e w1 ⟨rfl,b1⟩;rw[show Yg.valid ⟨f.rings,f.sectors,f.wide⟩=false from HV.out];have B1:=zH (B0.out.trans (b1.mono B0.out.size));clear b1 c0 c1 c2 t1 t2;go_wp2_with fail;go_returns;exact⟨rfl,B1.out⟩
theorem ZaA {k:Nat}(h:k<=1000000000):Yb (k:Int):=by unfold Yb far;omega
theorem Z3M {k:Nat}{t:zU}(hk:k<=t.length)(h:k<=1000000000):VI Xs (Y9 (k:Int) ++ t)=some (k,t):=by
 unfold VI;rw[QP (ZaA h)];simp only;rw[if_pos ⟨by omega,by omega⟩,Int.toNat_natCast]
theorem Z9T {c:List Int}{k:Nat}{z:Int}(h:c[k]? = some z):Zs (c.drop k)=Y9 z ++ Zs (c.drop (k+1)):=by
 obtain⟨hk,e⟩:=List.getElem?_eq_some_iff.1 h;rw[List.drop_eq_getElem_cons hk,e];simp[Zs]
theorem Z9g {c:List Int}{k:Nat}{z:Int}(h:c[k]? = some z)(hs:Yb z):Xs (Zs (c.drop k))=some (z,Zs (c.drop (k+1))):=by
 rw[Z9T h];exact QP hs _
theorem Zcs (c:List Int):Xs (Xb.ask c).body=some (1,Y9 (c.length:Int) ++ Zs c):=QP (by unfold Yb far;omega) _
theorem Zbb (l:List Z8):Xs (Xb.gift l).body=some (2,Y9 (l.length:Int) ++ Yr l):=QP (by unfold Yb far;omega) _
theorem Zct {c:List Int}(h:c.length<=1000000000):VI Xs (Y9 (c.length:Int) ++ Zs c)=some (c.length,Zs c):=Z3M (Z46 c) h
theorem Z87 {l:List Z8}{k:Nat}{x:Z8}(h:l[k]? = some x):Yr (l.drop k)=Y9 ((ZQ x).length:Int) ++ (ZQ x ++ Yr (l.drop (k+1))):=by
 obtain⟨hk,e⟩:=List.getElem?_eq_some_iff.1 h;rw[List.drop_eq_getElem_cons hk,e];simp[Yr]
theorem Z58 {l:List Z8}{k:Nat}{x:Z8}(h:l[k]? = some x)(hx:(ZQ x).length<=1000000000):VI Xs (Yr (l.drop k))=some ((ZQ x).length,ZQ x ++ Yr (l.drop (k+1))):=by
 rw[Z87 h];exact Z3M (by rw[List.length_append];omega) hx
theorem Zbl (z:Int):1<=(Y9 z).length:=by
 have h:=Z46 [z];rw[Jt]at h;exact h
theorem Z59: ∀l:List Z8,l.length<=(Yr l).length
 | []=>Nat.zero_le _
 | x :: l=>by
  have h1:=Z59 l
  have h2:=Zbl ((ZQ x).length:Int)
  show _<=((Y9 ((ZQ x).length:Int) ++ ZQ x) ++ Yr l).length
  rw[List.length_append,List.length_append,List.length_cons]
  omega
theorem Zbc {l:List Z8}(h:l.length<=1000000000):VI Xs (Y9 (l.length:Int) ++ Yr l)=some (l.length,Yr l):=Z3M (Z59 l) h
theorem Z2C (bA bC bH bG:Nat)(l:zU)(a:zA)(n c:Nat)(w:World)(R:World->Prop)(h:Y4 w a n c l)
  (hrun : ∀rp W,w.heap.size < rp->Below w.heap.size w W->RdP W rp l a n c->W.heap[w.heap.size]? = some (.cells #[.bool false] 4)->
   Calls zq 145 #[.pointer (some ⟨rp,0,none⟩),.pointer (some ⟨bA,0,none⟩),.pointer (some ⟨bC,0,none⟩),.pointer (some ⟨bH,0,none⟩),.pointer (some ⟨bG,0,none⟩)] W fun e w'=>e = .returned (.tuple #[])/\w'.heap[w.heap.size]? = some (.cells #[.bool false] 4) /\ ∀W4,Zb (fun k=>k=w.heap.size) w' W4->W4.heap[w.heap.size]? = some (.cells #[.bool true] 4)->R W4):
  Calls zq 129 #[.slice a n c,.func (.func 145) #[] #[.pointer (some ⟨bA,0,none⟩),.pointer (some ⟨bC,0,none⟩),.pointer (some ⟨bH,0,none⟩),.pointer (some ⟨bG,0,none⟩)]] w fun e w'=>e = .returned (.bool true)/\R w':=by
 have hmf : ∀(fn:Fn) (first cap:ZW) (w:World),(Instr.makeFunc fn first cap).run zq w = .ok (.func fn first cap) w:=fun _ _ _ _=>rfl;have HR:=zH hrun;clear hrun;go_enter_defers Tryz.func129,Tryz.ntmps129;go_wp2_with fail;obtain⟨p,hp⟩:=zX (w.heap.size);obtain⟨rp,hrp⟩:=zX (w.heap.size+1);have b2:Below w.heap.size w ((w.alloc (.cells #[.bool false] 4)).alloc (.cells #[.slice a n c] 236)):=(zB _ _).alloc (by simp) _;have g1:((w.alloc (.cells #[.bool false] 4)).alloc (.cells #[.slice a n c] 236)).heap[p]? = some (.cells #[.bool false] 4):=by rw[<-hp.out];exact Z9 _ _ _ _ (Za _ _)
 have g2:((w.alloc (.cells #[.bool false] 4)).alloc (.cells #[.slice a n c] 236)).heap[rp]? = some (.cells #[.slice a n c] 236):=by rw[<-hrp.out];exact Zw _ _ _ (by simp)
 rw[hrp.out,hp.out];generalize (w.alloc (.cells #[.bool false] 4)).alloc (.cells #[.slice a n c] 236)=w2 at *;refine(HR.out rp w2 (by have:=hrp.out;omega) b2 ⟨g2,Y4.below h b2⟩ (by rw[hp.out];exact g1)).mono ?_;rintro e w3 ⟨rfl,k1,K4⟩;rw[hp.out]at k1;have KR:=zH K4;clear K4;have c1:w3.cell? ⟨p,0,none⟩=some (.bool false):=Z6 k1 0 _ rfl;have f1:=Zp k1 0;have k2:=heap_setCell_same w3 p 0 _ _ (.bool true) k1;have c2:(w3.setCell ⟨p,0,none⟩ (.bool true)).cell? ⟨p,0,none⟩=some (.bool true):=Z6 k2 0 _ rfl;have FIN:Hid (R (w3.setCell ⟨p,0,none⟩ (.bool true))):=zH (KR.out _ (by rw[hp.out];exact Vl w3 p 0 (.bool true)) (by rw[hp.out];exact k2));go_wp2_with fail;refine leaves_cons (f:=179) (args := #[.pointer (some ⟨p,0,none⟩)]) (by simp) (by simp[go_sem]) ?_;refine(Z4e p _).mono ?_;rintro e u' w'' ⟨rfl,rfl,rfl⟩;simp[Leaves,settle,results,Tryz.results129,go_sem];exact⟨.bool true,by rw[c2],rfl,FIN.out⟩
theorem Z1O (rp:Nat)(x t:zU)(k:Nat)(a:zA)(n c:Nat)(w:World)(h:RdP w rp (x ++ t) a n c)(hk:x.length=k)(hs:k<=1000000000):
  Calls zq 148 #[.pointer (some ⟨rp,0,none⟩),.int .i64 (k:Int)] w fun e w' => ∃a1 c1 a2 n2 c2,e = .returned (.slice a1 k c1)/\Y4 w' a1 k c1 x/\RdP w' rp t a2 n2 c2/\Zb (fun k=>k=rp) w w'/\(∀W,Y4 W a n c (x ++ t)->Y4 W a2 n2 c2 t):=by
 have hn:n=k+t.length:=by have:=h.r.1;rw[List.length_map,List.length_append,hk]at this;simpa using this.symm
 have hkn:k<=n:=by omega
 have HKN:=zH hkn;have c0:w.cell? ⟨rp,0,none⟩=some (.slice a n c):=Z6 h.e 0 _ rfl;have f0:=Zp h.e 0;have hr:=zH h.r;have HH:=zH h;clear h;have hlt:decide ((k:Int) < 0)=false:=by simp
 have hgt:decide (n < k)=false:=by simp;omega
 have hgt2:decide ((n:Int) < (k:Int))=false:=by simp;omega
 have HK:=zH hk;have EN:=zH hn;clear hk hn hs hkn;go_enter Tryz.func148,Tryz.ntmps148;go_wp2_with (first
  |(refine Z1f _ rfl _ _ none rfl _ _ _ _ rfl hr.out k n (.inr ⟨_,.i64,rfl,by go_num⟩) (.inl ⟨rfl,rfl⟩) HKN.out (Nat.le_refl _) ?_;intro sb hsb;have HSB:=zH hsb;clear hsb)
  |(refine Z2u _ rfl _ none _ rfl _ _ _ _ rfl hr.out 0 k (.inl ⟨rfl,rfl⟩) (.inr ⟨_,.i64,rfl,by go_num⟩) (Nat.zero_le _) HKN.out ?_;intro sa hsl;have HSL:=zH hsl;clear hsl))
 go_ret;have hS:=Vl w rp 0 (.slice sb (n - k) (c - k));have he:=heap_setCell_same w rp 0 _ _ (.slice sb (n - k) (c - k)) HH.out.e;have hcell : ∀v ∈ #[Value.slice a n c],∀x,v≠Zr x:=by intro v hv x;simp at hv;subst hv;intro hh;cases hh
 have e1:Y4 w sa k c x:=by
  have h1:=HSL.out;rw[List.drop_zero,Nat.sub_zero,Nat.sub_zero]at h1;rw[List.take_append_of_le_length (by rw[HK.out];exact Nat.le_refl _),List.take_of_length_le (by rw[HK.out];exact Nat.le_refl _)]at h1;exact h1
 have e3 : ∀W,Y4 W a n c (x ++ t)->Y4 W sb (n - k) (c - k) t:=fun W hW=>by
  have h1:=HSB.out W hW;rw[show(x ++ t).drop k=t by rw[<-HK.out,List.drop_left],List.take_of_length_le (by rw[EN.out];omega)]at h1;exact h1
 have e2:=e3 w HH.out.r;exact⟨sa,c,sb,n - k,c - k,rfl,Z1i e1 hS (fun h0=>Vz HH.out.e hcell e1 h0),⟨he,Z1i e2 hS (fun h0=>Vz HH.out.e hcell e2 h0)⟩,hS,e3⟩
theorem Ud (f:Yg)(x:Z8)(a:zA)(n c:Nat)(w:World)(hv:f.valid=true)(hf:Zf f x=true)(h:Y4 w a n c (ZQ x)):
  Calls zq 75 #[.agg #[.int .i64 f.rings,.int .i64 f.sectors,.int .i64 f.wide],.slice a n c] w fun e w' => ∃(sa:zA) (sc:Nat),e = .returned (.tuple #[.agg (Z5 x sa sc),.int .i64 0])/\w'.ownsRow w.heap.size 3 1 (.slice sa x.strokes.length sc) x.strokes.length (x.strokes.map Yh)/\Below w.heap.size w w':=by
 have hl:=(Q5 hv hf);refine(Z2O f (ZQ x) a n c w h (by omega)).mono ?_;rintro e w1 (⟨m,sa,sc,hd,rfl,ho,b⟩ | ⟨hd,rfl,b⟩)
 ·rw[Z2j hv hf]at hd;cases hd;exact⟨sa,sc,rfl,ho,b⟩
 ·rw[Z2j hv hf]at hd;cases hd
theorem Ub (rp:Nat)(l t:zU)(k:Nat)(a:zA)(n c:Nat)(w:World)(h:RdP w rp l a n c)(hn:VI Xs l=some (k,t)):
  Calls zq 147 #[.pointer (some ⟨rp,0,none⟩)] w fun e w' => ∃a2 n2 c2,e = .returned (.int .i64 (k:Int))/\RdP w' rp t a2 n2 c2/\Zb (fun k=>k=rp) w w'/\(∀W,Y4 W a n c l->Y4 W a2 n2 c2 t):=by
 refine(Z3L rp l a n c w h).mono ?_;rintro e w1 (⟨k',t',a2,n2,c2,h1,_,rfl,h2,h3⟩ | ⟨h1,_⟩)
 ·rw[hn]at h1;cases h1;exact⟨a2,n2,c2,rfl,h2,h3⟩
 ·rw[hn]at h1;cases h1
theorem QI {op:Oper}{a:Act}{w:World}{K:Act->World->Prop}{Q:Exit->Act->World->Prop}(ho:op.op = .alloc 47)
  (h:K (a.put op.dst (.pointer (some ⟨w.heap.size,0,none⟩))) (w.alloc (.cells (Z5 Zg none 0) 47))):op.wp zq a w K Q:=by
 have e1:(Instr.alloc 47 true (.tuple #[])).run zq w = .ok (.pointer (some ⟨w.heap.size,0,none⟩)) (w.alloc (.cells (Z5 Zg none 0) 47)):=by kernel_rfl
 unfold Oper.wp execOp;simp[ho,e1,Result.andThen];exact h
theorem UR (n:Z8)(sa:zA)(sc:Nat): ∀v∈Z5 n sa sc,∀x,v≠Zr x:=by
 intro v hv x hh;subst hh;simp[Z5,Z8.cells,Zr]at hv
structure UN (w wr:World)(rp bA bG bH hq B:Nat)(OH:ZW)(L:zU)(l:List Z8)(k:Nat)(a:zA)(n cc:Nat)(ga:zA)(gc:Nat)(es:List LN):Prop where
 r:RdP wr rp L a n cc
 r0:Y4 w a n cc L
 eA:wr.heap[bA]? = some (.cells #[.bool false] 4)
 eG:wr.heap[bG]? = some (.cells #[.slice ga k gc] 24)
 eH:wr.heap[bH]? = some (.cells #[.pointer (some ⟨hq,0,none⟩)] 27)
 eF:wr.heap[hq]? = some (.cells OH 109)
 own:wr.ownsRow B 47 19 (.slice ga k gc) k (ZF es)
 eo:Z0o wr B es
 en:es.map LN.n=l.take k
 s:Zb (fun j=>j=rp\/j=bA\/j=bG) w wr
theorem ZaF {w:World}{a:zA}{n c:Nat}{l:zU}(h:Y4 w a n c l)(h0:0 < n): ∀b off,a=some ⟨b,off,none⟩->b < w.heap.size:=by
 intro b off e;obtain⟨b',off',e',hat⟩:=Y3.at h h0;rw[e]at e';cases e';have hl:(l.map Zr).length=n:=h.1.trans (Nat.mul_one n);have h1:=hat 0 _ (List.getElem?_eq_getElem (by omega));cases hq:w.heap[b]? with
 | none=>simp[World.cell?,hq]at h1
 | some o=>exact(Array.getElem?_eq_some_iff.1 hq).1
section
variable {w wr W':World}{rp bA bG bH hq B:Nat}{OH:ZW}{L L':zU}{l:List Z8}{k:Nat}{a a':zA}{n cc n' cc':Nat}{ga:zA}{gc:Nat}{es:List LN}
theorem UN.rd (h:UN w wr rp bA bG bH hq B OH L l k a n cc ga gc es)(hs:Zb (fun j=>j=rp) wr W')(hr:RdP W' rp L' a' n' cc')(h0 : ∀W,Y4 W a n cc L->Y4 W a' n' cc' L'):UN w W' rp bA bG bH hq B OH L' l k a' n' cc' ga gc es:=by
 have hb : ∀{b:Nat} {c:ZW} {t:TypeId},wr.heap[b]? = some (.cells c t (0,0))->t≠236->W'.heap[b]? = some (.cells c t (0,0)):=fun {b c t} hb ht=>by
  refine(hs.block b (Zi hb) (fun e=>?_)).trans hb;rw[show b=rp from e,h.r.e]at hb;cases hb;exact ht rfl
 exact⟨hr,h0 w h.r0,hb h.eA (by decide),hb h.eG (by decide),hb h.eH (by decide),hb h.eF (by decide),Ze h.own hs (fun b h1 e=>ZJ h.own h.r.e (by decide) ((show b=rp from e) ▸ h1)),
  fun x hx=>Ze (h.eo x hx) hs (fun b h1 e=>ZJ (h.eo x hx) h.r.e (by decide) ((show b=rp from e) ▸ h1)),h.en,h.s.trans (hs.weaken fun j e=>.inl e)⟩
theorem UN.below (h:UN w wr rp bA bG bH hq B OH L l k a n cc ga gc es)(hb:Below wr.heap.size wr W'):UN w W' rp bA bG bH hq B OH L l k a n cc ga gc es:=
 ⟨h.r.same (S:=fun _=>False) (Zb.of_below hb) (fun e=>e) (fun _ _ _ _ e=>e),h.r0,Z7 hb h.eA,Z7 hb h.eG,Z7 hb h.eH,Z7 hb h.eF,Zd h.own hb,h.eo.below hb,h.en,h.s.trans (Zb.of_below hb)⟩
theorem UN.row {p6:Nat}{c:ZW}(h:UN w wr rp bA bG bH hq B OH L l k a n cc ga gc es)(hp:wr.heap[p6]? = some (.cells c 47))(hc : ∀v∈c,∀x,v≠Zr x)(hg:wr.grownBy W' (some p6))(hn:Value.ownBlock (.slice ga k gc)≠some p6)(hw:w.heap.size<=p6):
  UN w W' rp bA bG bH hq B OH L l k a n cc ga gc es:=by
 have hs:Zb (fun j=>j=p6) wr W':=Zb.of_grown hg (fun j e=>(Option.some.inj e).symm);have hb : ∀{b:Nat} {c:ZW} {t:TypeId},wr.heap[b]? = some (.cells c t (0,0))->t≠47->W'.heap[b]? = some (.cells c t (0,0)):=fun {b c t} hb ht=>by
  refine(hs.block b (Zi hb) (fun e=>?_)).trans hb;rw[show b=p6 from e,hp]at hb;cases hb;exact ht rfl
 have hrp : ¬rp=p6:=fun e=>by
  have h1:=h.r.e;rw[e,hp]at h1;cases h1
 exact⟨h.r.same hs hrp (fun h0 b off e hb=>Vz hp hc h.r.r h0 b off e hb),h.r0,hb h.eA (by decide),hb h.eG (by decide),hb h.eH (by decide),hb h.eF (by decide),Ze h.own hs (fun b h1 e=>hn ((show b=p6 from e) ▸ h1)),
  fun x hx=>Ze (h.eo x hx) hs (fun b h1 e=>ZJ (h.eo x hx) hp (by decide) ((show b=p6 from e) ▸ h1)),h.en,h.s.trans2 hs (fun j e=>.inr ((show j=p6 from e) ▸ hw))⟩
theorem UN.ask (h:UN w wr rp bA bG bH hq B OH L l k a n cc ga gc es):UN w (wr.setCell ⟨bA,0,none⟩ (.bool false)) rp bA bG bH hq B OH L l k a n cc ga gc es:=by
 have s2:=Jw wr bA 0 (.bool false);have hc : ∀v ∈ #[Value.bool false],∀x,v≠Zr x:=by intro v hv x;simp at hv;subst hv;intro hh;cases hh
 have hk2 : ∀{b:Nat} {c:ZW} {t:TypeId},wr.heap[b]? = some (.cells c t (0,0))->t≠4->(wr.setCell ⟨bA,0,none⟩ (.bool false)).heap[b]? = some (.cells c t (0,0)):=fun {b c t} hb ht=>by
  refine(s2.block b (Zi hb) (fun e=>?_)).trans hb;rw[show b=bA from e,h.eA]at hb;cases hb;exact ht rfl
 have hns : ¬(fun j=>j=bA) rp:=fun e=>by
  have h2:=h.r.e;rw[show rp=bA from e,h.eA]at h2;cases h2
 exact⟨h.r.same s2 hns (fun h0 b off e hb=>Vz h.eA hc h.r.r h0 b off e hb),h.r0,ZK h.eA 0 _,hk2 h.eG (by decide),hk2 h.eH (by decide),hk2 h.eF (by decide),Ze h.own s2 (fun b h2 e=>ZJ h.own h.eA (by decide) ((show b=bA from e) ▸ h2)),
  fun x hx=>Ze (h.eo x hx) s2 (fun b h2 e=>ZJ (h.eo x hx) h.eA (by decide) ((show b=bA from e) ▸ h2)),h.en,h.s.trans (s2.weaken fun j e=>.inr (.inl e))⟩
theorem UN.push {wn V:World}{x:Z8}{sa ga':zA}{sc gc':Nat}(h:UN w wr rp bA bG bH hq B OH L l k a n cc ga gc es)(hB:w.heap.size<=B)(hx:l[k]? = some x)(so:wr.ownsRow B 3 1 (.slice sa x.strokes.length sc) x.strokes.length (x.strokes.map Yh))(hb:Below wr.heap.size wr wn)
  (ho:V.ownsRow B 47 19 (.slice ga' (k+1) gc') (k+1) (ZF es ++ x.cells sa sc)) (hg:wn.grownBy V (Value.ownBlock (.slice ga k gc))):
  UN w (V.setCell ⟨bG,0,none⟩ (.slice ga' (k+1) gc')) rp bA bG bH hq B OH L l (k+1) a n cc ga' gc' (es ++ [⟨x,sa,sc⟩]):=by
 have h1:=h.below hb;have s1:Zb (fun j=>Value.ownBlock (.slice ga k gc)=some j) wn V:=Zb.of_grown hg (fun j e=>e);have hk : ∀{b:Nat} {c:ZW} {t:TypeId},wn.heap[b]? = some (.cells c t (0,0))->47≠t->V.heap[b]? = some (.cells c t (0,0)):=fun {b c t} hb ht=>(s1.block b (Zi hb) (fun e=>ZJ h1.own hb ht e)).trans hb;have hrd:RdP V rp L a n cc:=h1.r.same s1 (fun e=>ZJ h1.own h1.r.e (by decide) e) (fun h0 b off e hb=>by
  have h2:=ZaF h.r0 h0 b off e;have h3:=(h1.own.lt b hb).1;omega)
 have eG:=hk h1.eG (by decide);have s2:=Jw V bG 0 (.slice ga' (k+1) gc');have hc : ∀v ∈ #[Value.slice ga k gc],∀x,v≠Zr x:=by intro v hv x;simp at hv;subst hv;intro hh;cases hh
 have hk2 : ∀{b:Nat} {c:ZW} {t:TypeId},V.heap[b]? = some (.cells c t (0,0))->t≠24->(V.setCell ⟨bG,0,none⟩ (.slice ga' (k+1) gc')).heap[b]? = some (.cells c t (0,0)):=fun {b c t} hb ht=>by
  refine(s2.block b (Zi hb) (fun e=>?_)).trans hb;rw[show b=bG from e,eG]at hb;cases hb;exact ht rfl
 have hns : ¬(fun j=>j=bG) rp:=fun e=>by
  have h2:=hrd.e;rw[show rp=bG from e,eG]at h2;cases h2
 refine⟨hrd.same s2 hns (fun h0 b off e hb=>Vz eG hc hrd.r h0 b off e hb),h.r0,hk2 (hk h1.eA (by decide)) (by decide),ZK eG 0 _,hk2 (hk h1.eH (by decide)) (by decide),hk2 (hk h1.eF (by decide)) (by decide),?_,?_,?_,?_⟩
 ·rw[Qi];exact Ze ho s2 (fun b h2 e=>ZJ ho eG (by decide) ((show b=bG from e) ▸ h2))
 ·intro y hy;have h2 : ∀{z:LN},wn.ownsRow B 3 1 (.slice z.sa z.n.strokes.length z.sc) z.n.strokes.length (z.n.strokes.map Yh)->(V.setCell ⟨bG,0,none⟩ (.slice ga' (k+1) gc')).ownsRow B 3 1 (.slice z.sa z.n.strokes.length z.sc) z.n.strokes.length (z.n.strokes.map Yh):=fun {z} hz=>by
   have h3:=Ze hz s1 (fun b h4 e=>JS hz h1.own (by decide) b h4 e);exact Ze h3 s2 (fun b h4 e=>ZJ h3 eG (by decide) ((show b=bG from e) ▸ h4))
  rcases List.mem_append.1 hy with hy | hy
  ·exact h2 (h1.eo y hy)
  ·rw[List.mem_singleton.1 hy];exact h2 (z:=⟨x,sa,sc⟩) (Zd so hb)
 ·rw[List.map_append,h.en,List.take_add_one,hx];rfl
 ·exact(h1.s.trans2 s1 (fun j e=>.inr (Nat.le_trans hB (h1.own.lt j e).1))).trans (s2.weaken fun j e=>.inr (.inr e))
end
structure Z1d (w wr:World)(rp bA bC B:Nat)(L:zU)(c:List Int)(k:Nat)(a:zA)(n cc:Nat)(ca:zA)(c2:Nat):Prop where
 r:RdP wr rp L a n cc
 r0:Y4 w a n cc L
 eA : ∃v,wr.heap[bA]? = some (.cells #[.bool v] 4)
 eC:wr.heap[bC]? = some (.cells #[.slice ca k c2] 37)
 own:wr.ownsRow B 3 1 (.slice ca k c2) k ((c.take k).map Yh)
 s:Zb (fun j=>j=rp\/j=bA\/j=bC) w wr
section
variable {w wr W':World}{rp bA bC B:Nat}{L L':zU}{c:List Int}{k:Nat}{a a':zA}{n cc n' cc':Nat}{ca:zA}{c2:Nat}
theorem Z1d.rd (h:Z1d w wr rp bA bC B L c k a n cc ca c2)(hs:Zb (fun j=>j=rp) wr W')(hr:RdP W' rp L' a' n' cc')(h0 : ∀W,Y4 W a n cc L->Y4 W a' n' cc' L'):Z1d w W' rp bA bC B L' c k a' n' cc' ca c2 /\ ∀v,wr.heap[bA]? = some (.cells #[.bool v] 4)->W'.heap[bA]? = some (.cells #[.bool v] 4):=by
 have hb : ∀{b:Nat} {c:ZW} {t:TypeId},wr.heap[b]? = some (.cells c t (0,0))->t≠236->W'.heap[b]? = some (.cells c t (0,0)):=fun {b c t} hb ht=>by
  refine(hs.block b (Zi hb) (fun e=>?_)).trans hb;rw[show b=rp from e,h.r.e]at hb;cases hb;exact ht rfl
 exact⟨⟨hr,h0 w h.r0,h.eA.imp fun v e=>hb e (by decide),hb h.eC (by decide),Ze h.own hs (fun b h1 e=>ZJ h.own h.r.e (by decide) ((show b=rp from e) ▸ h1)),h.s.trans (hs.weaken fun j e=>.inl e)⟩,fun v e=>hb e (by decide)⟩
theorem Z1d.below (h:Z1d w wr rp bA bC B L c k a n cc ca c2)(hb:Below wr.heap.size wr W'):Z1d w W' rp bA bC B L c k a n cc ca c2:=
 ⟨h.r.same (S:=fun _=>False) (Zb.of_below hb) (fun e=>e) (fun _ _ _ _ e=>e),h.r0,h.eA.imp fun v e=>Z7 hb e,Z7 hb h.eC,Zd h.own hb,h.s.trans (Zb.of_below hb)⟩
theorem Z1d.ask {x:Bool}(h:Z1d w wr rp bA bC B L c k a n cc ca c2):Z1d w (wr.setCell ⟨bA,0,none⟩ (.bool x)) rp bA bC B L c k a n cc ca c2/\(wr.setCell ⟨bA,0,none⟩ (.bool x)).heap[bA]? = some (.cells #[.bool x] 4):=by
 obtain⟨v,hA⟩:=h.eA;have s2:=Jw wr bA 0 (.bool x);have hc : ∀y ∈ #[Value.bool v],∀x,y≠Zr x:=by intro v hv x;simp at hv;subst hv;intro hh;cases hh
 have hns : ¬(fun j=>j=bA) rp:=fun e=>by
  have h2:=h.r.e;rw[show rp=bA from e,hA]at h2;cases h2
 have hA2:(wr.setCell ⟨bA,0,none⟩ (.bool x)).heap[bA]? = some (.cells #[.bool x] 4):=ZK hA 0 _;refine⟨⟨h.r.same s2 hns (fun h0 b off e hb=>Vz hA hc h.r.r h0 b off e hb),h.r0,⟨x,hA2⟩,(s2.block bC (Zi h.eC) (fun e=>?_)).trans h.eC,Ze h.own s2 (fun b h2 e=>ZJ h.own hA (by decide) ((show b=bA from e) ▸ h2)),h.s.trans (s2.weaken fun j e=>.inr (.inl e))⟩,hA2⟩;have h2:=h.eC;rw[show bC=bA from e,hA]at h2;cases h2
theorem Z1d.push {wn V:World}{z:Int}{ca':zA}{c2':Nat}{v:Bool}(h:Z1d w wr rp bA bC B L c k a n cc ca c2)(hA:wr.heap[bA]? = some (.cells #[.bool v] 4))(hB:w.heap.size<=B)(hz:c[k]? = some z)(hb:Below wr.heap.size wr wn)
  (ho:V.ownsRow B 3 1 (.slice ca' (k+1) c2') (k+1) ((c.take k).map Yh ++ [.int .i64 z])) (hg:wn.grownBy V (Value.ownBlock (.slice ca k c2))):
  Z1d w (V.setCell ⟨bC,0,none⟩ (.slice ca' (k+1) c2')) rp bA bC B L c (k+1) a n cc ca' c2'/\(V.setCell ⟨bC,0,none⟩ (.slice ca' (k+1) c2')).heap[bA]? = some (.cells #[.bool v] 4):=by
 have h1:=h.below hb;have s1:Zb (fun j=>Value.ownBlock (.slice ca k c2)=some j) wn V:=Zb.of_grown hg (fun j e=>e);have hk : ∀{b:Nat} {c:ZW} {t:TypeId},wn.heap[b]? = some (.cells c t (0,0))->3≠t->V.heap[b]? = some (.cells c t (0,0)):=fun {b c t} hb ht=>(s1.block b (Zi hb) (fun e=>ZJ h1.own hb ht e)).trans hb;have hrd:RdP V rp L a n cc:=h1.r.same s1 (fun e=>ZJ h1.own h1.r.e (by decide) e) (fun h0 b off e hb=>by
  have h2:=ZaF h.r0 h0 b off e;have h3:=(h1.own.lt b hb).1;omega)
 have eC:=hk h1.eC (by decide);have eA:=hk (Z7 hb hA) (by decide);have s2:=Jw V bC 0 (.slice ca' (k+1) c2');have hc : ∀v ∈ #[Value.slice ca k c2],∀x,v≠Zr x:=by intro v hv x;simp at hv;subst hv;intro hh;cases hh
 have hns : ¬(fun j=>j=bC) rp:=fun e=>by
  have h2:=hrd.e;rw[show rp=bC from e,eC]at h2;cases h2
 have hA2:(V.setCell ⟨bC,0,none⟩ (.slice ca' (k+1) c2')).heap[bA]? = some (.cells #[.bool v] 4):=(s2.block bA (Zi eA) (fun e=>by
  rw[show bA=bC from e,eC]at eA;cases eA)).trans eA
 refine⟨⟨hrd.same s2 hns (fun h0 b off e hb=>Vz eC hc hrd.r h0 b off e hb),h.r0,⟨v,hA2⟩,ZK eC 0 _,?_,?_⟩,hA2⟩
 ·rw[List.take_add_one,hz,List.map_append];exact Ze ho s2 (fun b h2 e=>ZJ ho eC (by decide) ((show b=bC from e) ▸ h2))
 ·exact(h1.s.trans2 s1 (fun j e=>.inr (Nat.le_trans hB (h1.own.lt j e).1))).trans (s2.weaken fun j e=>.inr (.inr e))
end
theorem Zbu (rp bA bC bH bG:Nat)(c:List Int)(a:zA)(n cc:Nat)(w:World)(h:RdP w rp (Xb.ask c).body a n cc)(hA:w.heap[bA]? = some (.cells #[.bool false] 4))(hC:w.heap[bC]? = some (.cells #[.slice none 0 0] 37))
  (hc : ∀z∈c,Yb z) (hl:c.length<=1000):
  Calls zq 145 #[.pointer (some ⟨rp,0,none⟩),.pointer (some ⟨bA,0,none⟩),.pointer (some ⟨bC,0,none⟩),.pointer (some ⟨bH,0,none⟩),.pointer (some ⟨bG,0,none⟩)] w fun e w'=>e = .returned (.tuple #[]) /\ ∃a n cc ca c2,Z1d w w' rp bA bC w.heap.size (Zs (c.drop c.length)) c c.length a n cc ca c2/\w'.heap[bA]? = some (.cells #[.bool true] 4):=by
 have D0:=zH (show Z1d w w rp bA bC w.heap.size (Xb.ask c).body c 0 a n cc none 0 from⟨h,h.r,⟨false,hA⟩,hC,World.ownsRow_nil _ _ _ _,Zb.refl _ _⟩);have HA:=zH hA;have HS:=zH hc;have HL:=zH hl;clear h hA hC hc hl;go_enter Tryz.func145,Tryz.ntmps145;go_wp2_with fail;refine(U7 rp _ _ 1 a n cc w D0.out.r (Zcs c)).mono ?_;rintro e w1 ⟨a1,n1,c1,rfl,r1,s1,q1⟩;have D1:=zH (D0.out.rd s1 r1 q1).1;have A1:=zH ((D0.out.rd s1 r1 q1).2 false HA.out);clear D0 HA r1 s1 q1;have x0:=Z6 A1.out 0 (.bool false) rfl;have f0:=Zp A1.out 0;go_upto_region 1 with fail;have D2:=zH (D1.out.ask (x:=true)).1;have A2:=zH (D1.out.ask (x:=true)).2;clear D1 A1 x0 f0;generalize w1.setCell ⟨bA,0,none⟩ (.bool true)=w2 at *;go_wp2_with fail;refine(Ub rp _ _ c.length a1 n1 c1 _ D2.out.r (Zct (by have:=HL.out;omega))).mono ?_;rintro e w3 ⟨a3,n3,c3,rfl,r3,s3,q3⟩;have D3:=zH (D2.out.rd s3 r3 q3).1;have A3:=zH ((D2.out.rd s3 r3 q3).2 true A2.out);clear r3 s3 q3 D2 A2;go_wp2_with fail;go_loopw [13] (fun iv wr=>∃(k:Nat) (a:zA) (n cc:Nat) (ca:zA) (c2:Nat),iv = .int .i64 (k:Int)/\k<=c.length/\Hid (Z1d w wr rp bA bC w.heap.size (Zs (c.drop k)) c k a n cc ca c2/\wr.heap[bA]? = some (.cells #[.bool true] 4))) (fun iv _=>c.length - (intOf iv).toNat)
 case atStart=>exact⟨0,a3,n3,c3,none,0,rfl,Nat.zero_le _,zH ⟨D3.out,A3.out⟩⟩
 case round=>
  clear D3 A3;obtain⟨k,a,n,cc,ca,c2,rfl,hk,HK⟩:=hrel;by_cases hlt:k < c.length
  ·have E1:=zH (show wrap64 ((k:Int)+1)=(k:Int)+1 by have:=HL.out;unfold wrap64;omega);have t1:decide (k < c.length)=true:=by simp[hlt]
   have x0:=Z6 HK.out.2 0 (.bool true) rfl;go_upto_region 4 with fail;clear t1 x0;obtain⟨z,hz⟩ : ∃z,c[k]? = some z:=⟨c[k],List.getElem?_eq_getElem hlt⟩;have HZ:=zH hz;clear hz;have b1:Below wr.heap.size wr wr.drew:=(Below.refl _ _).drew;have DB:=zH (HK.out.1.below b1);have AB:=zH (Z7 b1 HK.out.2);clear b1 HK;refine bD 5 (fun W'=>W'.heap[bC]? = some (.cells #[.slice ca k c2] 37)) DB.out.eC (fun hh=>?_);generalize wr.drew=W0 at *;refine bS 0 rfl (.slice ca k c2) (fun W hW=>by have c:=Z6 hW 0 (.slice ca k c2) rfl;go_simp) ?_;refine bW 1 rfl (.pointer (some ⟨rp,0,none⟩)) ?_;refine bR 2 rfl (fun K hK=>?_);go_simp;refine(U7 rp _ _ z a n cc _ DB.out.r (Z9g HZ.out (HS.out z (List.mem_of_getElem? HZ.out)))).mono ?_;rintro e W1 ⟨a4,n4,c4,rfl,r4,s4,q4⟩;have D4:=zH (DB.out.rd s4 r4 q4).1;have A4:=zH ((DB.out.rd s4 r4 q4).2 true AB.out);have hS4:=D4.out.eC;clear r4 s4 q4 DB AB hh;dsimp only;refine bK hK hS4 (fun hh=>?_);clear hK K hS4;refine bR 3 rfl (fun K hK=>?_);rw[if_pos (by kernel_rfl)];refine JZ (w':=W1.alloc (.cells #[.int .i64 z] 3)) (.slice (some ⟨W1.heap.size,0,none⟩) 1 1) (by kernel_rfl) ?_;have b5:Below W1.heap.size W1 (W1.alloc (.cells #[.int .i64 z] 3)):=zB _ _;have L5:=zH (Z1V W1 z);have B5:=zH b5;have hS5:=Z7 b5 hh;clear b5 hh;obtain⟨p5,hp5⟩:=zX (W1.heap.size);rw[hp5.out]at L5 ⊢;generalize W1.alloc (.cells #[.int .i64 z] 3)=W5 at *;refine bK hK hS5 (fun hh=>?_);clear hK K hS5;refine bR 4 rfl (fun K hK=>?_);rw[if_pos (by kernel_rfl)];obtain⟨a7,c7,V7,hrun,ho,hg⟩:=Z6q W5 w.heap.size ca k c2 _ (Zd D4.out.own B5.out) (some ⟨p5,0,none⟩) 1 1 _ L5.out (by intro u hu;simp at hu;subst hu;rfl) (by have:=HL.out;omega) (Nat.le_trans D4.out.s.size B5.out.size);refine ZU _ _ _ rfl _ _ _ rfl rfl hrun ?_;clear hrun;have D8:=zH (D4.out.push A4.out (Nat.le_refl _) HZ.out B5.out ho hg);have hS7:=Zc hg hh (Ne.symm (ZJ (Zd D4.out.own B5.out) hh (by decide)));clear ho hg hh;refine bK hK hS7 (fun hh=>?_);clear hK K hS7;refine bL rfl (fun K hK=>?_)
   have hce:=Z6 hh 0 (.slice ca k c2) rfl;have hfz:=Zp hh 0;clear hh;go_simp;refine hK.out _ _ ?_;clear hK K hce hfz;refine bE ?_;have e1:=E1.out;go_wp2;go_roundw
   case rel=>exact⟨k+1,a4,n4,c4,a7,c7,by go_num,by omega,D8⟩
   case measure=>clear e1;rw[E1.out];simp[intOf];omega
  ·have hkm:k=c.length:=by omega
   subst hkm;have t1:decide (c.length < c.length)=false:=by simp
   go_wp2;go_end0;exact⟨rfl,a,n,cc,ca,c2,HK.out⟩
structure Z8N (w wr W:World)(rp bA bG bH hq B:Nat)(OH:ZW)(L:zU)(l:List Z8)(k:Nat)(a:zA)(n cc:Nat)(ga:zA)(gc:Nat)(es:List LN)(p6:Nat)(x:Z8)(sa:zA)(sc:Nat):Prop where
 st:UN w W rp bA bG bH hq B OH L l k a n cc ga gc es
 nt:W.heap[p6]? = some (.cells (Z5 x sa sc) 47)
 so:W.ownsRow B 3 1 (.slice sa x.strokes.length sc) x.strokes.length (x.strokes.map Yh)
 sz:wr.heap.size<=W.heap.size
theorem Zdb {A1 A2 A3 A4 A5 A6 A7 A8 A9:Type}{P T:A1->A2->A3->A4->A5->A6->A7->A8->A9->Prop}{G:Prop}
  (h1:(∀x1 x2 x3 x4 x5 x6 x7 x8 x9,P x1 x2 x3 x4 x5 x6 x7 x8 x9->T x1 x2 x3 x4 x5 x6 x7 x8 x9)->G) (h2 : ∀x1 x2 x3 x4 x5 x6 x7 x8 x9,P x1 x2 x3 x4 x5 x6 x7 x8 x9->T x1 x2 x3 x4 x5 x6 x7 x8 x9):G:=h1 h2
theorem Z9U (f:Yg)(rp bA bC bH bG hq:Nat)(OH:ZW)(l:List Z8)(a:zA)(n cc:Nat)(w:World)(h:RdP w rp (Xb.gift l).body a n cc)(hA:w.heap[bA]? = some (.cells #[.bool false] 4))(hG:w.heap[bG]? = some (.cells #[.slice none 0 0] 24))
  (hH:w.heap[bH]? = some (.cells #[.pointer (some ⟨hq,0,none⟩)] 27)) (hF:w.heap[hq]? = some (.cells OH 109)) (hO:OH[0]? = some (.int .i64 f.rings)/\OH[1]? = some (.int .i64 f.sectors)/\OH[2]? = some (.int .i64 f.wide))
  (hv:f.valid=true) (hl : ∀x∈l,Zf f x=true) (hlen:l.length<=16):
  Calls zq 145 #[.pointer (some ⟨rp,0,none⟩),.pointer (some ⟨bA,0,none⟩),.pointer (some ⟨bC,0,none⟩),.pointer (some ⟨bH,0,none⟩),.pointer (some ⟨bG,0,none⟩)] w fun e w'=>e = .returned (.tuple #[]) /\ ∃a n cc ga gc es,UN w w' rp bA bG bH hq w.heap.size OH (Yr (l.drop l.length)) l l.length a n cc ga gc es:=by
 have I43:=zH zI;have J3:=zH (show(zq.info? 23).map (·.size)=some [Value.int .i64 f.rings,.int .i64 f.sectors,.int .i64 f.wide].length from by kernel_rfl);have D0:=zH (show UN w w rp bA bG bH hq w.heap.size OH (Xb.gift l).body l 0 a n cc none 0 []from⟨h,h.r,hA,hG,hH,hF,World.ownsRow_nil _ _ _ _,fun x hx=>by simp at hx,by simp,Zb.refl _ _⟩);have HV:=zH hv;have HL:=zH hl;have HN:=zH hlen;have FR:Hid (∀W:World,W.heap[hq]? = some (.cells OH 109)->W.rangeAt hq 0 [Value.int .i64 f.rings,.int .i64 f.sectors,.int .i64 f.wide]):=zH (fun W hW j v hv=>by
  rw[Nat.zero_add];refine Z6 hW j v ?_;have hj:j < 3:=(List.getElem?_eq_some_iff.1 hv).1;have:j=0\/j=1\/j=2:=by omega
  rcases this with rfl | rfl | rfl
  ·exact hO.1.trans hv
  ·exact hO.2.1.trans hv
  ·exact hO.2.2.trans hv)
 clear h hA hG hH hF hO hv hl hlen;go_enter Tryz.func145,Tryz.ntmps145;go_wp2_with fail;refine(U7 rp _ _ 2 a n cc w D0.out.r (Zbb l)).mono ?_;rintro e w1 ⟨a1,n1,c1,rfl,r1,s1,q1⟩;have D1:=zH (D0.out.rd s1 r1 q1);clear D0 r1 s1 q1;have x0:=Z6 D1.out.eA 0 (.bool false) rfl;have f0:=Zp D1.out.eA 0;go_upto_region 1 with fail;have D2:Hid (UN w (w1.setCell ⟨bA,0,none⟩ (.bool false)) rp bA bG bH hq w.heap.size OH (Y9 (l.length:Int) ++ Yr l) l 0 a1 n1 c1 none 0 []):=zH (D1.out.ask);clear D1 x0 f0;generalize w1.setCell ⟨bA,0,none⟩ (.bool false)=w2 at *;go_wp2_with fail;refine(Ub rp _ _ l.length a1 n1 c1 _ D2.out.r (Zbc (by have:=HN.out;omega))).mono ?_;rintro e w3 ⟨a3,n3,c3,rfl,r3,s3,q3⟩;have D3:=zH (D2.out.rd s3 r3 q3);clear r3 s3 q3 D2;go_wp2_with fail;go_loopw [13] (fun iv wr=>∃(k:Nat) (a:zA) (n cc:Nat) (ga:zA) (gc:Nat) (es:List LN),iv = .int .i64 (k:Int)/\k<=l.length/\Hid (UN w wr rp bA bG bH hq w.heap.size OH (Yr (l.drop k)) l k a n cc ga gc es)) (fun iv _=>l.length - (intOf iv).toNat)
 case atStart=>exact⟨0,a3,n3,c3,none,0,[],rfl,Nat.zero_le _,D3⟩
 case round=>
  obtain⟨k,a,n,cc,ga,gc,es,rfl,hk,DG⟩:=hrel;by_cases hlt:k < l.length
  ·have E1:=zH (show wrap64 ((k:Int)+1)=(k:Int)+1 by have:=HN.out;unfold wrap64;omega);have t1:decide (k < l.length)=true:=by simp[hlt]
   have x0:=Z6 DG.out.eA 0 (.bool false) rfl;obtain⟨x,hx⟩ : ∃x,l[k]? = some x:=⟨l[k],List.getElem?_eq_getElem hlt⟩;have HX:=zH hx;have FX:=zH (HL.out x (List.mem_of_getElem? hx));have LX:Hid ((ZQ x).length<=1000000000):=zH (by have:=Q5 HV.out FX.out;omega);clear hx;go_upto_region 5 with fail;clear t1 x0;apply Zdb (P:=fun(W:World) (p6:Nat) (sa:zA) (sc:Nat) (a:zA) (n cc:Nat) (_:zA) (_:Nat)=>Hid (Z8N w wr W rp bA bG bH hq w.heap.size OH (Yr (l.drop (k+1))) l k a n cc ga gc es p6 x sa sc))
   ·intro REST;have b1:Below wr.heap.size wr wr.drew:=(Below.refl _ _).drew;replace DG:=zH (DG.out.below b1);have GL:Hid (∀j,Value.ownBlock (.slice ga k gc)=some j->j < wr.heap.size):=zH (fun j hj=>by have h1:=(DG.out.own.lt j hj).2;simpa using h1);have SZ:Hid (wr.heap.size<=wr.drew.heap.size):=zH b1.size;have BW:Hid (w.heap.size<=wr.heap.size):=zH (by have h1:=DG.out.s.size;simpa using h1);clear b1;refine zD (fun W'=>W'.heap[bH]? = some (.cells #[.pointer (some ⟨hq,0,none⟩)] 27)/\W'.heap[hq]? = some (.cells OH 109)) ⟨DG.out.eH,DG.out.eF⟩ (fun hh=>?_);generalize wr.drew=V0 at *;refine zS 0 rfl (.pointer (some ⟨hq,0,none⟩)) (fun W hW=>by have c:=Z6 hW.1 0 (.pointer (some ⟨hq,0,none⟩)) rfl;go_simp) ?_;refine zW 1 rfl (.pointer (some ⟨hq,0,none⟩)) ?_;refine zW 2 rfl (.pointer (some ⟨hq,0,none⟩)) ?_;refine zT 3 rfl (.agg #[.int .i64 f.rings,.int .i64 f.sectors,.int .i64 f.wide]) (U0 (by kernel_rfl) 23 _ rfl hq 0 rfl [.int .i64 f.rings,.int .i64 f.sectors,.int .i64 f.wide] _ (fun W hW=>FR.out W hW.2) Tryz.underlying23 rfl (by exact J3.out)) ?_;refine zW 4 rfl (.pointer (some ⟨rp,0,none⟩)) ?_;refine zW 5 rfl (.pointer (some ⟨rp,0,none⟩)) ?_;refine zM [6,12] rfl (fun K hK=>?_) (zn (i:=12) (fun K hK=>?_))
    ·skip;go_simp;refine(Ub rp _ _ (ZQ x).length _ _ _ _ DG.out.r (Z58 HX.out LX.out)).mono ?_;rintro e V1 ⟨a1,n1,c1,rfl,r1,s1,q1⟩;replace SZ:=zH (Nat.le_trans SZ.out s1.size);have DQ:=zH (DG.out.rd s1 r1 q1);clear DG r1 s1 q1;have DG:=DQ;clear DQ;have hS:=And.intro DG.out.eH DG.out.eF;dsimp only;refine zK hK hS (fun hh=>?_);clear hK K hS;refine zM [7,12] rfl (fun K hK=>?_) (zn (i:=12) (fun K hK=>?_))
     ·skip;go_simp;refine(Z1O rp (ZQ x) (Yr (l.drop (k+1))) _ _ _ _ _ DG.out.r rfl LX.out).mono ?_;rintro e V2 ⟨a2,c2,a1,n1,c1,rfl,rb,r1,s1,q1⟩;have RB:=zH rb;replace SZ:=zH (Nat.le_trans SZ.out s1.size);have DQ:=zH (DG.out.rd s1 r1 q1);clear DG r1 s1 q1 rb;have DG:=DQ;clear DQ;have hS:=And.intro DG.out.eH DG.out.eF;dsimp only;refine zK hK hS (fun hh=>?_);clear hK K hS;refine zM [8,12] rfl (fun K hK=>?_) (zn (i:=12) (fun K hK=>?_))
      focus
       skip;go_simp;refine(Ud f x _ _ _ _ HV.out FX.out RB.out).mono ?_;rintro e V3 ⟨sa,sc,rfl,so,b⟩;have SO:=zH (Zv so (Nat.le_trans BW.out SZ.out));replace SZ:=zH (Nat.le_trans SZ.out b.size);have DQ:=zH (DG.out.below b);clear DG so b RB;have DG:=DQ;clear DQ;have hS:=And.intro DG.out.eH DG.out.eF;dsimp only;refine zK hK hS (fun hh=>?_);clear hK K hS;refine zW 9 rfl (.tuple #[.agg (Z5 x sa sc),.int .i64 0]) ?_;refine zW 10 rfl (.agg (Z5 x sa sc)) ?_;refine zW 11 rfl (.int .i64 0) ?_;refine zR 12 rfl (fun K hK=>?_);rw[if_pos (by kernel_rfl)];refine QI rfl ?_;have b:Below V3.heap.size V3 (V3.alloc (.cells (Z5 Zg none 0) 47)):=zB _ _;have NT:=zH (Za V3 (.cells (Z5 Zg none 0) 47));have NP:Hid (wr.heap.size<=V3.heap.size):=zH SZ.out;replace SZ:=zH (Nat.le_trans SZ.out b.size);have DQ:=zH (DG.out.below b);clear DG;have DG:=DQ;clear DQ;replace SO:=zH (Zd SO.out b);have hS:=And.intro DG.out.eH DG.out.eF;clear b;obtain⟨p6,hp6⟩:=zX (V3.heap.size);rw[hp6.out]at NT NP ⊢;clear hp6;generalize V3.alloc (.cells (Z5 Zg none 0) 47)=V4 at *;refine zK hK hS (fun hh=>?_);clear hK K hS
      rotate_left
      focus
       rw[if_pos (by kernel_rfl)];refine QI rfl ?_;have b:Below V2.heap.size V2 (V2.alloc (.cells (Z5 Zg none 0) 47)):=zB _ _;have NT:=zH (Za V2 (.cells (Z5 Zg none 0) 47));have NP:Hid (wr.heap.size<=V2.heap.size):=zH SZ.out;replace SZ:=zH (Nat.le_trans SZ.out b.size);have DQ:=zH (DG.out.below b);clear DG;have DG:=DQ;clear DQ;replace RB:=zH (Y4.below RB.out b);have hS:=And.intro DG.out.eH DG.out.eF;clear b;obtain⟨p6,hp6⟩:=zX (V2.heap.size);rw[hp6.out]at NT NP ⊢;clear hp6;generalize V2.alloc (.cells (Z5 Zg none 0) 47)=V3 at *;refine zK hK hS (fun hh=>?_);clear hK K hS;refine zR 8 rfl (fun K hK=>?_);go_simp;refine(Ud f x _ _ _ _ HV.out FX.out RB.out).mono ?_;rintro e V4 ⟨sa,sc,rfl,so,b⟩;have SO:=zH (Zv so (Nat.le_trans BW.out SZ.out));replace NT:=zH (Z7 b NT.out);replace SZ:=zH (Nat.le_trans SZ.out b.size);have DQ:=zH (DG.out.below b);clear DG so b RB;have DG:=DQ;clear DQ;have hS:=And.intro DG.out.eH DG.out.eF;dsimp only;refine zK hK hS (fun hh=>?_);clear hK K hS;refine zW 9 rfl (.tuple #[.agg (Z5 x sa sc),.int .i64 0]) ?_;refine zW 10 rfl (.agg (Z5 x sa sc)) ?_;refine zW 11 rfl (.int .i64 0) ?_
      all_goals
       refine zR 13 rfl (fun K hK=>?_);rw[if_pos (by kernel_rfl)];refine ZV 47 _ _ rfl p6 (Z5 Zg none 0) (Z5 x sa sc) 47 rfl rfl NT.out (I43.out _ _ _) rfl (Zm x sa sc) ?_;intro X h8 hg8 hs8;have DQ:=zH (DG.out.row NT.out (UR _ _ _) hg8 (fun e=>by have h1:=GL.out p6 e;have h2:=NP.out;omega) (Nat.le_trans BW.out NP.out));have MID:Hid (Z8N w wr X rp bA bG bH hq w.heap.size OH (Yr (l.drop (k+1))) l k _ _ _ ga gc es p6 x sa sc):=zH ⟨DQ.out,h8,SO.out.kept hg8 (.inr (Zq SO.out NT.out (by intro cur;simp)).symm),by rw[hs8];exact SZ.out⟩;have hS:=And.intro DQ.out.eH DQ.out.eF;clear h8 hg8 hs8;refine zK hK hS (fun hh=>?_);clear hK K hS;refine zW 14 rfl (.int .i64 0) ?_;refine zE ?_;exact REST X p6 sa sc _ _ _ a2 c2 MID
     ·rw[if_pos (by kernel_rfl)];refine QI rfl ?_;have b:Below V1.heap.size V1 (V1.alloc (.cells (Z5 Zg none 0) 47)):=zB _ _;have NT:=zH (Za V1 (.cells (Z5 Zg none 0) 47));have NP:Hid (wr.heap.size<=V1.heap.size):=zH SZ.out;replace SZ:=zH (Nat.le_trans SZ.out b.size);have DQ:=zH (DG.out.below b);clear DG;have DG:=DQ;clear DQ;have hS:=And.intro DG.out.eH DG.out.eF;clear b;obtain⟨p6,hp6⟩:=zX (V1.heap.size);rw[hp6.out]at NT NP ⊢;clear hp6;generalize V1.alloc (.cells (Z5 Zg none 0) 47)=V2 at *;refine zK hK hS (fun hh=>?_);clear hK K hS;refine zR 7 rfl (fun K hK=>?_);go_simp;refine(Z1O rp (ZQ x) (Yr (l.drop (k+1))) _ _ _ _ _ DG.out.r rfl LX.out).mono ?_;rintro e V3 ⟨a2,c2,a1,n1,c1,rfl,rb,r1,s1,q1⟩;have RB:=zH rb;replace NT:=zH ((s1.block p6 (Zi NT.out) (fun e=>by have h1:=DG.out.r.e;have h2:=NT.out;rw[<-show p6=rp from e,h2]at h1;cases h1)).trans NT.out);replace SZ:=zH (Nat.le_trans SZ.out s1.size);have DQ:=zH (DG.out.rd s1 r1 q1);clear DG r1 s1 q1 rb;have DG:=DQ;clear DQ;have hS:=And.intro DG.out.eH DG.out.eF;dsimp only;refine zK hK hS (fun hh=>?_);clear hK K hS;refine zR 8 rfl (fun K hK=>?_);go_simp;refine(Ud f x _ _ _ _ HV.out FX.out RB.out).mono ?_;rintro e V4 ⟨sa,sc,rfl,so,b⟩;have SO:=zH (Zv so (Nat.le_trans BW.out SZ.out));replace NT:=zH (Z7 b NT.out);replace SZ:=zH (Nat.le_trans SZ.out b.size);have DQ:=zH (DG.out.below b);clear DG so b RB;have DG:=DQ;clear DQ;have hS:=And.intro DG.out.eH DG.out.eF;dsimp only;refine zK hK hS (fun hh=>?_);clear hK K hS;refine zW 9 rfl (.tuple #[.agg (Z5 x sa sc),.int .i64 0]) ?_;refine zW 10 rfl (.agg (Z5 x sa sc)) ?_;refine zW 11 rfl (.int .i64 0) ?_;refine zR 13 rfl (fun K hK=>?_);rw[if_pos (by kernel_rfl)];refine ZV 47 _ _ rfl p6 (Z5 Zg none 0) (Z5 x sa sc) 47 rfl rfl NT.out (I43.out _ _ _) rfl (Zm x sa sc) ?_;intro X h8 hg8 hs8;have DQ:=zH (DG.out.row NT.out (UR _ _ _) hg8 (fun e=>by have h1:=GL.out p6 e;have h2:=NP.out;omega) (Nat.le_trans BW.out NP.out));have MID:Hid (Z8N w wr X rp bA bG bH hq w.heap.size OH (Yr (l.drop (k+1))) l k _ _ _ ga gc es p6 x sa sc):=zH ⟨DQ.out,h8,SO.out.kept hg8 (.inr (Zq SO.out NT.out (by intro cur;simp)).symm),by rw[hs8];exact SZ.out⟩
      have hS:=And.intro DQ.out.eH DQ.out.eF;clear h8 hg8 hs8;refine zK hK hS (fun hh=>?_);clear hK K hS;refine zW 14 rfl (.int .i64 0) ?_;refine zE ?_;exact REST X p6 sa sc _ _ _ a2 c2 MID
    ·rw[if_pos (by kernel_rfl)];refine QI rfl ?_;have b:Below V0.heap.size V0 (V0.alloc (.cells (Z5 Zg none 0) 47)):=zB _ _;have NT:=zH (Za V0 (.cells (Z5 Zg none 0) 47));have NP:Hid (wr.heap.size<=V0.heap.size):=zH SZ.out;replace SZ:=zH (Nat.le_trans SZ.out b.size);have DQ:=zH (DG.out.below b);clear DG;have DG:=DQ;clear DQ;have hS:=And.intro DG.out.eH DG.out.eF;clear b;obtain⟨p6,hp6⟩:=zX (V0.heap.size);rw[hp6.out]at NT NP ⊢;clear hp6;generalize V0.alloc (.cells (Z5 Zg none 0) 47)=V1 at *;refine zK hK hS (fun hh=>?_);clear hK K hS;refine zR 6 rfl (fun K hK=>?_);go_simp;refine(Ub rp _ _ (ZQ x).length _ _ _ _ DG.out.r (Z58 HX.out LX.out)).mono ?_;rintro e V2 ⟨a1,n1,c1,rfl,r1,s1,q1⟩;replace NT:=zH ((s1.block p6 (Zi NT.out) (fun e=>by have h1:=DG.out.r.e;have h2:=NT.out;rw[<-show p6=rp from e,h2]at h1;cases h1)).trans NT.out);replace SZ:=zH (Nat.le_trans SZ.out s1.size);have DQ:=zH (DG.out.rd s1 r1 q1);clear DG r1 s1 q1;have DG:=DQ;clear DQ;have hS:=And.intro DG.out.eH DG.out.eF;dsimp only;refine zK hK hS (fun hh=>?_);clear hK K hS;refine zR 7 rfl (fun K hK=>?_);go_simp;refine(Z1O rp (ZQ x) (Yr (l.drop (k+1))) _ _ _ _ _ DG.out.r rfl LX.out).mono ?_;rintro e V3 ⟨a2,c2,a1,n1,c1,rfl,rb,r1,s1,q1⟩;have RB:=zH rb;replace NT:=zH ((s1.block p6 (Zi NT.out) (fun e=>by have h1:=DG.out.r.e;have h2:=NT.out;rw[<-show p6=rp from e,h2]at h1;cases h1)).trans NT.out);replace SZ:=zH (Nat.le_trans SZ.out s1.size);have DQ:=zH (DG.out.rd s1 r1 q1);clear DG r1 s1 q1 rb;have DG:=DQ;clear DQ;have hS:=And.intro DG.out.eH DG.out.eF;dsimp only;refine zK hK hS (fun hh=>?_);clear hK K hS;refine zR 8 rfl (fun K hK=>?_);go_simp;refine(Ud f x _ _ _ _ HV.out FX.out RB.out).mono ?_;rintro e V4 ⟨sa,sc,rfl,so,b⟩;have SO:=zH (Zv so (Nat.le_trans BW.out SZ.out));replace NT:=zH (Z7 b NT.out);replace SZ:=zH (Nat.le_trans SZ.out b.size);have DQ:=zH (DG.out.below b);clear DG so b RB;have DG:=DQ;clear DQ;have hS:=And.intro DG.out.eH DG.out.eF;dsimp only;refine zK hK hS (fun hh=>?_);clear hK K hS
     refine zW 9 rfl (.tuple #[.agg (Z5 x sa sc),.int .i64 0]) ?_;refine zW 10 rfl (.agg (Z5 x sa sc)) ?_;refine zW 11 rfl (.int .i64 0) ?_;refine zR 13 rfl (fun K hK=>?_);rw[if_pos (by kernel_rfl)];refine ZV 47 _ _ rfl p6 (Z5 Zg none 0) (Z5 x sa sc) 47 rfl rfl NT.out (I43.out _ _ _) rfl (Zm x sa sc) ?_;intro X h8 hg8 hs8;have DQ:=zH (DG.out.row NT.out (UR _ _ _) hg8 (fun e=>by have h1:=GL.out p6 e;have h2:=NP.out;omega) (Nat.le_trans BW.out NP.out));have MID:Hid (Z8N w wr X rp bA bG bH hq w.heap.size OH (Yr (l.drop (k+1))) l k _ _ _ ga gc es p6 x sa sc):=zH ⟨DQ.out,h8,SO.out.kept hg8 (.inr (Zq SO.out NT.out (by intro cur;simp)).symm),by rw[hs8];exact SZ.out⟩;have hS:=And.intro DQ.out.eH DQ.out.eF;clear h8 hg8 hs8;refine zK hK hS (fun hh=>?_);clear hK K hS;refine zW 14 rfl (.int .i64 0) ?_;refine zE ?_;exact REST X p6 sa sc _ _ _ a2 c2 MID
   intro V p6 sa sc a n cc a2 c2 MID;have bn:Below V.heap.size V (V.alloc (.cells (Z5 x sa sc) 47)):=zB _ _;have c0:=Z6 MID.out.st.eG 0 (.slice ga k gc) rfl;obtain⟨ga',gc',v9,hrun,ho9,hg9⟩:=JY (V.alloc (.cells (Z5 x sa sc) 47)) w.heap.size ga k gc _ (Zd MID.out.st.own bn) _ 1 1 _ (JO V x sa sc) (x.cells_one _ _) (by have h1:=HN.out;omega) (Nat.le_trans MID.out.st.s.size bn.size);have HNW:=zH (MID.out.st.push (Nat.le_refl _) HX.out MID.out.so bn ho9 hg9);have eG9:=Zc hg9 (Z7 bn MID.out.st.eG) (Zq (Zd MID.out.st.own bn) (Z7 bn MID.out.st.eG) (by intro cur;simp));have c9:=Z6 eG9 0 (.slice ga k gc) rfl;have f9:=Zp eG9 0;have e1:=E1.out;clear bn ho9 hg9 eG9;go_wp2_with (first
    |(refine zL p6 MID.out.nt ?_)
    |(refine Xv rfl _ rfl x sa sc rfl ?_)
    |(refine Ye rfl _ _ _ rfl _ _ _ rfl rfl hrun ?_)
    | fail)
   go_roundw
   case rel=>exact⟨k+1,a,n,cc,ga',gc',es ++ [⟨x,sa,sc⟩],by go_num,by omega,HNW⟩
   case measure=>clear e1;rw[E1.out];simp[intOf];omega
  ·have hkm:k=l.length:=by omega
   subst hkm;have t1:decide (l.length < l.length)=false:=by simp
   go_wp2;go_end0;exact⟨rfl,a,n,cc,ga,gc,es,DG.out⟩
theorem Z2n {w:World}{b b':Nat}{c c':ZW}{t t':TypeId}(h:w.heap[b]? = some (.cells c t (0,0)))(h':w.heap[b']? = some (.cells c' t' (0,0)))(ht:t≠t'):b≠b':=fun e=>by
 rw[e,h']at h
 cases h
 exact ht rfl
theorem Z85 (f:Yg)(bA bC bH bG hq:Nat)(OH:ZW)(l:List Z8)(a:zA)(n cc:Nat)(w:World)(h:Y4 w a n cc (Xb.gift l).body)(hA:w.heap[bA]? = some (.cells #[.bool false] 4))(hG:w.heap[bG]? = some (.cells #[.slice none 0 0] 24))
  (hH:w.heap[bH]? = some (.cells #[.pointer (some ⟨hq,0,none⟩)] 27)) (hF:w.heap[hq]? = some (.cells OH 109)) (hO:OH[0]? = some (.int .i64 f.rings)/\OH[1]? = some (.int .i64 f.sectors)/\OH[2]? = some (.int .i64 f.wide))
  (hv:f.valid=true) (hl : ∀x∈l,Zf f x=true) (hlen:l.length<=16):
  Calls zq 129 #[.slice a n cc,.func (.func 145) #[] #[.pointer (some ⟨bA,0,none⟩),.pointer (some ⟨bC,0,none⟩),.pointer (some ⟨bH,0,none⟩),.pointer (some ⟨bG,0,none⟩)]] w fun e w'=>e = .returned (.bool true) /\
   ∃ga gc es,w'.heap[bA]? = some (.cells #[.bool false] 4)/\w'.heap[bH]? = some (.cells #[.pointer (some ⟨hq,0,none⟩)] 27)/\w'.heap[bG]? = some (.cells #[.slice ga l.length gc] 24)/\w'.ownsRow w.heap.size 47 19 (.slice ga l.length gc) l.length (ZF es)/\Z0o w' w.heap.size es/\es.map LN.n=l/\Zb (fun j=>j=bA\/j=bG) w w':=by
 refine Z2C bA bC bH bG _ a n cc w _ h (fun rp W hrp hb hr hfalse=>?_);refine(Z9U f rp bA bC bH bG hq OH l a n cc W hr (Z7 hb hA) (Z7 hb hG) (Z7 hb hH) (Z7 hb hF) hO hv hl hlen).mono ?_;rintro e W3 ⟨rfl,a,n,cc,ga,gc,es,D⟩;have hlA:=Zi hA;have hlG:=Zi hG;have hlH:=Zi hH;refine⟨rfl,(D.s.block _ (Zi hfalse) (by omega)).trans hfalse,fun W4 s4 h4=>⟨ga,gc,es,(s4.block bA (Zi D.eA) (by omega)).trans D.eA,(s4.block bH (Zi D.eH) (by omega)).trans D.eH,(s4.block bG (Zi D.eG) (by omega)).trans D.eG,?_,?_,?_,?_⟩⟩
 ·have hf3:=(D.s.block _ (Zi hfalse) (by omega)).trans hfalse;exact Zv (Ze D.own s4 (fun b h1 e=>ZJ D.own hf3 (by decide) ((show b=_ from e) ▸ h1))) hb.size
 ·have hf3:=(D.s.block _ (Zi hfalse) (by omega)).trans hfalse;exact fun x hx=>Zv (Ze (D.eo x hx) s4 (fun b h1 e=>ZJ (D.eo x hx) hf3 (by decide) ((show b=_ from e) ▸ h1))) hb.size
 ·rw[D.en,List.take_length]
 ·have g1:Zb (fun j=>j=bA\/j=bG) w W3:=(Zb.of_below hb).trans2 D.s (fun j hj=>by
   rcases hj with e | e | e
   ·exact .inr (by omega)
   ·exact .inl (.inl e)
   ·exact .inl (.inr e))
  exact g1.trans2 s4 (fun j hj=>.inr (by rw[show j=w.heap.size from hj];exact Nat.le_refl _))
theorem Z5g (bA bC bH bG hq:Nat)(c:List Int)(a:zA)(n cc:Nat)(w:World)(h:Y4 w a n cc (Xb.ask c).body)(hA:w.heap[bA]? = some (.cells #[.bool false] 4))(hC:w.heap[bC]? = some (.cells #[.slice none 0 0] 37))
  (hH:w.heap[bH]? = some (.cells #[.pointer (some ⟨hq,0,none⟩)] 27)) (hc : ∀z∈c,Yb z) (hl:c.length<=1000):
  Calls zq 129 #[.slice a n cc,.func (.func 145) #[] #[.pointer (some ⟨bA,0,none⟩),.pointer (some ⟨bC,0,none⟩),.pointer (some ⟨bH,0,none⟩),.pointer (some ⟨bG,0,none⟩)]] w fun e w'=>e = .returned (.bool true) /\
   ∃ca c2,w'.heap[bA]? = some (.cells #[.bool true] 4)/\w'.heap[bH]? = some (.cells #[.pointer (some ⟨hq,0,none⟩)] 27)/\w'.heap[bC]? = some (.cells #[.slice ca c.length c2] 37)/\w'.ownsRow w.heap.size 3 1 (.slice ca c.length c2) c.length (c.map Yh)/\Zb (fun j=>j=bA\/j=bC) w w':=by
 refine Z2C bA bC bH bG _ a n cc w _ h (fun rp W hrp hb hr hfalse=>?_);refine(Zbu rp bA bC bH bG c a n cc W hr (Z7 hb hA) (Z7 hb hC) hc hl).mono ?_;rintro e W3 ⟨rfl,a,n,cc,ca,c2,D,eA⟩;have hlA:=Zi hA;have hlC:=Zi hC;have hlH:=Zi hH;have hf3:=(D.s.block _ (Zi hfalse) (by omega)).trans hfalse;have g1:Zb (fun j=>j=bA\/j=bC) w W3:=(Zb.of_below hb).trans2 D.s (fun j hj=>by
  rcases hj with e | e | e
  ·exact .inr (by omega)
  ·exact .inl (.inl e)
  ·exact .inl (.inr e))
 refine⟨rfl,hf3,fun W4 s4 h4=>?_⟩;have g4:Zb (fun j=>j=bA\/j=bC) w W4:=g1.trans2 s4 (fun j hj=>.inr (by rw[show j=w.heap.size from hj];exact Nat.le_refl _));refine⟨ca,c2,(s4.block bA (Zi eA) (by omega)).trans eA,(g4.block bH hlH (fun e=>?_)).trans hH,(s4.block bC (Zi D.eC) (by omega)).trans D.eC,?_,g4⟩
 ·rcases e with e | e
  ·exact Z2n hH hA (by decide) e
  ·exact Z2n hH hC (by decide) e
 ·have ho:=Ze D.own s4 (fun b h1 e=>ZJ D.own hf3 (by decide) ((show b=_ from e) ▸ h1));rw[List.take_length]at ho;exact Zv ho hb.size
theorem Qs.comp {PH:World->Nat->(Nat->Prop)->Zj->Prop}{tW tH:TypeId}{bf:Value->Value->ZW}{w w1 w':World}{p:Nat}{F F1:Nat->Prop}{V':ZM}(h:Qs PH tW tH bf w1 p F1 V' w')(g2:Zb F w w1)(g3 : ∀k,F1 k->F k\/w.heap.size<=k):Qs PH tW tH bf w p F V' w':=by
 obtain⟨F',h1,h2,h3⟩:=h;refine⟨F',h1,g2.trans2 h2 g3,fun k hk=>?_⟩;rcases h3 k hk with e | e
 ·exact g3 k e
 ·exact .inr (Nat.le_trans g2.size e)
theorem Zbp (w2:World)(q:Nat): ∃W p7 p8 p9 p10,(((w2.alloc (.cells #[.pointer (some ⟨q,0,none⟩)] 27)).alloc (.cells #[.slice none 0 0] 37)).alloc (.cells #[.slice none 0 0] 24)).alloc (.cells #[.bool false] 4)=W/\w2.heap.size=p7/\w2.heap.size+1=p8/\w2.heap.size+1+1=p9/\w2.heap.size+1+1+1=p10 /\
  Below w2.heap.size w2 W/\W.heap[p7]? = some (.cells #[.pointer (some ⟨q,0,none⟩)] 27)/\W.heap[p8]? = some (.cells #[.slice none 0 0] 37)/\W.heap[p9]? = some (.cells #[.slice none 0 0] 24)/\W.heap[p10]? = some (.cells #[.bool false] 4):=by
 refine⟨_,_,_,_,_,rfl,rfl,rfl,rfl,rfl,(((zB _ _).alloc (by simp) _).alloc (by simp;omega) _).alloc (by simp;omega) _,?_,?_,?_,?_⟩
 ·exact Z9 _ _ _ _ (Z9 _ _ _ _ (Z9 _ _ _ _ (Za _ _)))
 ·exact Z9 _ _ _ _ (Z9 _ _ _ _ (Zw _ _ _ (by simp)))
 ·exact Z9 _ _ _ _ (Zw _ _ _ (by simp))
 ·exact Zw _ _ _ (by simp)
theorem Z8Y (p:Nat)(F:Nat->Prop)(V:ZM)(a:XA)(sa:zA)(sc:Nat)(w:World)(h:VR w p F V)(hm:Va V a.idx=none):
  Calls zq 90 #[.pointer (some ⟨p,0,none⟩),.agg (a.cells sa sc).toArray] w fun e w'=>e = .returned (.int .i64 3)/\Yv w p F V w':=by
 have b0:=zB w (.cells (a.cells sa sc).toArray 67);have C3:=zH (show(a.cells sa sc).toArray[3]? = some (.int .i64 a.idx)from rfl);obtain⟨OA,hOA⟩:=zX ((a.cells sa sc).toArray);rw[hOA.out]at b0 C3 ⊢;have X0:=zH (Za w (.cells OA 67));have H0:=zH (h.below Zk b0);have B0:=zH b0;have I3:=zH (show ∀x y z:Value,(zq.info? 152).map (·.size)=some (#[x,y,z]:ZW).size from fun x y z=>by kernel_rfl);clear b0 hOA h;go_enter Tryz.func90,Tryz.ntmps90;go_upto_region 1 with fail;obtain⟨p3,hp3⟩:=zX (w.heap.size);rw[hp3.out]at X0 ⊢;generalize w.alloc (.cells OA 67)=W0 at *;have c1:=Z6 X0.out 3 (.int .i64 a.idx) C3.out;go_wp2_with fail;refine(Z3b p F V a.idx _ H0.out hm).mono ?_;rintro e w1 ⟨rfl,b1⟩;have RR:=zH (((Qs.refl H0.out).after B0.out).then Zk (b1.mono (Nat.le_refl _)):Yv w p F V w1);clear b1 c1 hm;go_upto_region 2 with (refine Zy w1 rfl 152 _ _ rfl w1.heap.size rfl _ #[.int .i64 0,.int .i64 0,.slice none 0 0] rfl rfl (I3.out _ _ _) rfl (Qh 0 0 (none,0,0)) ?_);have RF:=zH (RR.out.then Zk (zB _ (.cells #[.int .i64 0,.int .i64 0,.slice none 0 0] 152)));generalize w1.alloc (.cells #[.int .i64 0,.int .i64 0,.slice none 0 0] 152)=w2 at *;go_wp2;go_ret;exact⟨rfl,RF.out⟩
theorem Z8Z (p:Nat)(F:Nat->Prop)(V:ZM)(a:XA)(sa:zA)(sc:Nat)(m:MlV)(l:List Z8)(S:Zj)(w:World)(h:VR w p F V)(hm:Va V a.idx=some m)(hS:Yi (Xq V a.idx) m.to=some S)(hmc:m.cont = .gift l)(hi:Xt S)(hl : ∀x∈l,Zf S.f x=true/\x.Ok)(hlen:l.length<=16)(hn:S.l.length<=384):
  Calls zq 90 #[.pointer (some ⟨p,0,none⟩),.agg (a.cells sa sc).toArray] w fun e w'=>e = .returned (.int .i64 (Ym S l).2.2)/\Yv w p F (JC (Xq V a.idx) m.to (Ym S l).1) w':=by
 have HL:=zH hl;have HLEN:=zH hlen;have HN:=zH hn;have HMC:=zH (show m.body=(Xb.gift l).body by unfold MlV.body;rw[hmc]);clear hl hlen hn hmc;have I3:=zH (show ∀x y z:Value,(zq.info? 152).map (·.size)=some (#[x,y,z]:ZW).size from fun x y z=>by kernel_rfl);have hmf : ∀(fn:Fn) (first cap:ZW) (w:World),(Instr.makeFunc fn first cap).run zq w = .ok (.func fn first cap) w:=fun _ _ _ _=>rfl;have b0:=zB w (.cells (a.cells sa sc).toArray 67);have C3:=zH (show(a.cells sa sc).toArray[3]? = some (.int .i64 a.idx)from rfl);obtain⟨OA,hOA⟩:=zX ((a.cells sa sc).toArray);rw[hOA.out]at b0 C3 ⊢;have X0:=zH (Za w (.cells OA 67));have H0:=zH (h.below Zk b0);have B0:=zH b0;have HI:=zH hi;clear b0 hOA h hi;go_enter Tryz.func90,Tryz.ntmps90;go_upto_region 1 with fail;obtain⟨p3,hp3⟩:=zX (w.heap.size);rw[hp3.out]at X0 ⊢;generalize w.alloc (.cells OA 67)=W0 at *;have c1:=Z6 X0.out 3 (.int .i64 a.idx) C3.out;go_wp2_with fail;refine(UO p F V a.idx m _ H0.out hm).mono ?_;rintro e w1 ⟨ba,bc,rfl,hb,hr⟩;obtain⟨F1,g1,g2,g3⟩:=hr;obtain⟨ps,Fs,ha,hc,xs,ma,mc,h1,h2⟩:=g1.open;obtain⟨k,q,Fk,e1,e2,u1,u2,u3,u4⟩:=h1.at hS;have FIN:Hid (∀V' w',Yv w1 p F1 V' w'->Yv w p F V' w'):=zH (fun V' w' r=>(r.comp g2 g3).after B0.out);obtain⟨mb,sp,G,SF,k1,k2⟩:=u3;have HK:=zH k1;have K2:=zH k2;have RB:=zH hb;have H1:=zH h1;have H2:=zH h2;have UU:=zH (And.intro e2 (And.intro u1 u2));have RET:Hid (∀S' w',Z4J Z04 w1 q Fk S' w'->Yv w p F (JC (Xq V a.idx) m.to S') w'):=zH (fun S' w' j=>FIN.out _ _ (by rw[h2];exact h1.ret Zk e2 u1 u2 j));have HH:Hid (∀w2,Below w1.heap.size w1 w2->Calls zq 86 #[.pointer (some ⟨p,0,none⟩),.int .i64 m.to] w2 fun e w'=>e = .returned (.pointer (some ⟨q,0,none⟩))/\w'=w2):=zH (fun w2 b2=>Xf (h1.below Zk b2) m.to k q e1 u1);have LT1:Hid (∀k,Yw q mb G SF k->k < w1.heap.size):=zH k1.lt;clear c1 hm hb g1 g2 g3 h1 h2 e1 e2 u1 u2 u4 k1 k2 hS H0 X0;go_upto_region 2 with (refine Zy w1 rfl 152 _ _ rfl w1.heap.size rfl _ #[.int .i64 m.frm,.int .i64 m.to,.slice ba m.body.length bc] rfl rfl (I3.out _ _ _) rfl (Qh m.frm m.to (ba,m.body.length,bc)) ?_)
 have b2:Below w1.heap.size w1 (w1.alloc (.cells #[.int .i64 m.frm,.int .i64 m.to,.slice ba m.body.length bc] 152)):=zB _ _;have B2:=zH b2;have X5:=zH (Za w1 (.cells #[.int .i64 m.frm,.int .i64 m.to,.slice ba m.body.length bc] 152));obtain⟨p5,hp5⟩:=zX (w1.heap.size);rw[hp5.out]at X5 ⊢;clear b2;generalize w1.alloc (.cells #[.int .i64 m.frm,.int .i64 m.to,.slice ba m.body.length bc] 152)=w2 at *;have c51:=Z6 X5.out 1 (.int .i64 m.to) rfl;go_wp2_with fail;refine(HH.out w2 B2.out).mono ?_;rintro e w3 ⟨rfl,rfl⟩;clear HH;go_upto_region 8 with fail;obtain⟨W,p7,p8,p9,p10,hW,h7,h8,h9,h10,bW,i7,i8,i9,i10⟩:=Zbp w3 q;rw[h10,h9,h8,h7,hW];have GE:Hid (w1.heap.size<=p7/\w1.heap.size<=p8/\w1.heap.size<=p9/\w1.heap.size<=p10):=zH (by have:=B2.out.size;omega);have BW:=zH (B2.out.trans (bW.mono B2.out.size));replace X5:=zH (Z7 bW X5.out);have I7:=zH i7;have I8:=zH i8;have I9:=zH i9;have I10:=zH i10;clear hW h7 h8 h9 h10 bW i7 i8 i9 i10 c51 B2;have c52:=Z6 X5.out 2 (.slice ba m.body.length bc) rfl;go_wp2_with fail;refine(Z85 S.f p10 p8 p7 p9 q _ l ba _ bc W (HMC.out ▸ Y4.below RB.out BW.out) I10.out I9.out I7.out (Z7 BW.out HK.out.blk) ⟨rfl,rfl,rfl⟩ HI.out.v (fun x hx=>(HL.out x hx).1) HLEN.out).mono ?_;rintro e W9 ⟨rfl,ga,gc,es,eA,eH,eG,og,oe,en,s9⟩;have B9:=zH (s9.below BW.out BW.out.size (fun j hj=>by
  have h1:=GE.out;rcases hj with e | e
  ·rw[e];exact h1.2.2.2
  ·rw[e];exact h1.2.2.1))
 have RL:Hid (∀W',Zb (Yw q mb G SF) W9 W'->zu W' ga l.length gc es):=zH (fun W' hs=>by
  have hno : ∀{e:TypeId} {k:Nat} {v:Value} {n:Nat} {xs:List Value},W9.ownsRow W.heap.size e k v n xs->W'.ownsRow W.heap.size e k v n xs:=fun ho=>Ze ho hs (fun b hb hF=>by
   have h1:=LT1.out b hF;have h2:=(ho.lt b hb).1;have h3:=BW.out.size;omega)
  exact Z30 (Y3.of_own (hno og)) (fun x hx=>Y3.of_own (hno (oe x hx))))
 have EN:=zH en;have c10:=Z6 eA 0 (.bool false) rfl;have c7:=Z6 eH 0 (.pointer (some ⟨q,0,none⟩)) rfl;have c9:=Z6 eG 0 (.slice ga l.length gc) rfl;clear eA eH eG og oe en s9 c52 hmf;go_wp2_with fail;refine(Z57 q mb sp G SF S ga l.length gc l es W9 (HK.out.below B9.out) HI.out EN.out RL.out (fun x hx=>(HL.out x hx).2) (by have h1:=HN.out;have h2:=HLEN.out;omega)).mono ?_;rintro e W10 ⟨rfl,G2,SF2,j1,j2,j3⟩;have FN:=zH (RET.out _ W10 (Z1v K2.out j1 ((Zb.of_below B9.out).trans j2) (fun k hk=>(j3 k hk).imp id (fun e=>Nat.le_trans B9.out.size e))));clear j1 j2 j3 c10 c7 c9;go_wp2;go_ret;exact⟨rfl,FN.out⟩
theorem Z90 (p:Nat)(F:Nat->Prop)(V:ZM)(a:XA)(sa:zA)(sc:Nat)(m:MlV)(c:List Int)(S:Zj)(w:World)(h:VR w p F V)(hm:Va V a.idx=some m)(hS:Yi (Xq V a.idx) m.to=some S)(hmc:m.cont = .ask c)(hi:Xt S)(hcc:c.length=8 /\ ∀z∈c,0<=z/\z<=400)(hn:S.l.length<=400)(hk:zO S c=[]):
  Calls zq 90 #[.pointer (some ⟨p,0,none⟩),.agg (a.cells sa sc).toArray] w fun e w'=>e = .returned (.int .i64 0)/\Yv w p F (JC (Xq V a.idx) m.to S.sync) w':=by
 have HC:=zH hcc;have HN:Hid (S.sync.l.length<=400):=zH hn;have HMC:=zH (show m.body=(Xb.ask c).body by unfold MlV.body;rw[hmc]);have LK:=zH hk;clear hcc hn hmc hk;have I3:=zH (show ∀x y z:Value,(zq.info? 152).map (·.size)=some (#[x,y,z]:ZW).size from fun x y z=>by kernel_rfl);have hmf : ∀(fn:Fn) (first cap:ZW) (w:World),(Instr.makeFunc fn first cap).run zq w = .ok (.func fn first cap) w:=fun _ _ _ _=>rfl;have b0:=zB w (.cells (a.cells sa sc).toArray 67);have C3:=zH (show(a.cells sa sc).toArray[3]? = some (.int .i64 a.idx)from rfl);obtain⟨OA,hOA⟩:=zX ((a.cells sa sc).toArray);rw[hOA.out]at b0 C3 ⊢;have X0:=zH (Za w (.cells OA 67));have H0:=zH (h.below Zk b0);have B0:=zH b0;have HI:=zH hi;clear b0 hOA h hi;go_enter Tryz.func90,Tryz.ntmps90;go_upto_region 1 with fail;obtain⟨p3,hp3⟩:=zX (w.heap.size);rw[hp3.out]at X0 ⊢;generalize w.alloc (.cells OA 67)=W0 at *;have c1:=Z6 X0.out 3 (.int .i64 a.idx) C3.out;go_wp2_with fail;refine(UO p F V a.idx m _ H0.out hm).mono ?_;rintro e w1 ⟨ba,bc,rfl,hb,hr⟩;obtain⟨F1,g1,g2,g3⟩:=hr;obtain⟨ps,Fs,ha,hc,xs,ma,mc,h1,h2⟩:=g1.open;obtain⟨k,q,Fk,e1,e2,u1,u2,u3,u4⟩:=h1.at hS;have FIN:Hid (∀V' w',Yv w1 p F1 V' w'->Yv w p F V' w'):=zH (fun V' w' r=>(r.comp g2 g3).after B0.out);obtain⟨mb,sp,G,SF,k1,k2⟩:=u3;have HK:=zH k1;have K2:=zH k2;have RB:=zH hb;have H1:=zH h1;have H2:=zH h2;have UU:=zH (And.intro e2 (And.intro u1 u2));have RET:Hid (∀S' w',Z4J Z04 w1 q Fk S' w'->Yv w p F (JC (Xq V a.idx) m.to S') w'):=zH (fun S' w' j=>FIN.out _ _ (by rw[h2];exact h1.ret Zk e2 u1 u2 j));have HH:Hid (∀w2,Below w1.heap.size w1 w2->Calls zq 86 #[.pointer (some ⟨p,0,none⟩),.int .i64 m.to] w2 fun e w'=>e = .returned (.pointer (some ⟨q,0,none⟩))/\w'=w2):=zH (fun w2 b2=>Xf (h1.below Zk b2) m.to k q e1 u1);have LT1:Hid (∀k,Yw q mb G SF k->k < w1.heap.size):=zH k1.lt;clear c1 hm hb g1 g2 g3 h1 h2 e1 e2 u1 u2 u4 k1 k2 hS H0 X0;go_upto_region 2 with (refine Zy w1 rfl 152 _ _ rfl w1.heap.size rfl _ #[.int .i64 m.frm,.int .i64 m.to,.slice ba m.body.length bc] rfl rfl (I3.out _ _ _) rfl (Qh m.frm m.to (ba,m.body.length,bc)) ?_)
 have b2:Below w1.heap.size w1 (w1.alloc (.cells #[.int .i64 m.frm,.int .i64 m.to,.slice ba m.body.length bc] 152)):=zB _ _;have B2:=zH b2;have X5:=zH (Za w1 (.cells #[.int .i64 m.frm,.int .i64 m.to,.slice ba m.body.length bc] 152));obtain⟨p5,hp5⟩:=zX (w1.heap.size);rw[hp5.out]at X5 ⊢;clear b2;generalize w1.alloc (.cells #[.int .i64 m.frm,.int .i64 m.to,.slice ba m.body.length bc] 152)=w2 at *;have c51:=Z6 X5.out 1 (.int .i64 m.to) rfl;go_wp2_with fail;refine(HH.out w2 B2.out).mono ?_;rintro e w3 ⟨rfl,rfl⟩;clear HH;go_upto_region 8 with fail;obtain⟨W,p7,p8,p9,p10,hW,h7,h8,h9,h10,bW,i7,i8,i9,i10⟩:=Zbp w3 q;rw[h10,h9,h8,h7,hW];have GE:Hid (w1.heap.size<=p7/\w1.heap.size<=p8/\w1.heap.size<=p9/\w1.heap.size<=p10):=zH (by have:=B2.out.size;omega);have BW:=zH (B2.out.trans (bW.mono B2.out.size));replace X5:=zH (Z7 bW X5.out);have I7:=zH i7;have I8:=zH i8;have I9:=zH i9;have I10:=zH i10;clear hW h7 h8 h9 h10 bW i7 i8 i9 i10 c51 B2;have c52:=Z6 X5.out 2 (.slice ba m.body.length bc) rfl;go_wp2_with fail;refine(Z5g p10 p8 p7 p9 q c ba _ bc W (HMC.out ▸ Y4.below RB.out BW.out) I10.out I8.out I7.out (fun z hz=>by have:=HC.out.2 z hz;unfold Yb far;omega) (by have:=HC.out.1;omega)).mono ?_;rintro e W9 ⟨rfl,ca,c2,eA,eH,eC,oc,s9⟩;have B9:=zH (s9.below BW.out BW.out.size (fun j hj=>by
  have h1:=GE.out;rcases hj with e | e
  ·rw[e];exact h1.2.2.2
  ·rw[e];exact h1.2.1))
 have E5:=zH ((s9.block p5 (Zi X5.out) (fun e=>by
  rcases e with e | e
  ·exact Z2n X5.out I10.out (by decide) e
  ·exact Z2n X5.out I8.out (by decide) e)).trans X5.out)
 have OC:=zH oc;have E7:=zH eH;have E8:=zH eC;have c10:=Z6 eA 0 (.bool true) rfl;have c7:=Z6 eH 0 (.pointer (some ⟨q,0,none⟩)) rfl;clear eA eH eC oc s9 c52 hmf X5;go_wp2_with fail;refine(Q7 q mb sp G SF S W9 (HK.out.below B9.out)).mono ?_;rintro e W10 ⟨rfl,j1,j2⟩;have SPL:=zH (LT1.out sp (.inr (.inr (.inl HK.out.stk.self))));have hno : ∀{j:Nat} {o:Obj},W9.heap[j]? = some o->w1.heap.size<=j->W10.heap[j]? = some o:=fun {j o} hj hl=>(j2.block j (Zi hj) (fun e=>by have h1:=SPL.out;have h2:j=sp:=e;omega)).trans hj;have F5:=zH (hno E5.out (by rw[hp5.out];exact Nat.le_refl _));have F7:=zH (hno E7.out GE.out.1);have F8:=zH (hno E8.out GE.out.2.1);have OC2:=zH (Ze OC.out j2 (fun b hb e=>by
  have h1:=(OC.out.lt b hb).1;have h2:=SPL.out;have h3:=BW.out.size;have h4:b=sp:=e;omega))
 have J1:=zH j1;have J2:Hid (Zb (Yw q mb G SF) w1 W10):=zH ((Zb.of_below B9.out).trans (j2.weaken (fun b hb=>by rw[show b=sp from hb];exact .inr (.inr (.inl HK.out.stk.self)))));clear hno j1 j2 c10 c7 E5 E7 E8 OC;have c7:=Z6 F7.out 0 (.pointer (some ⟨q,0,none⟩)) rfl;have c8:=Z6 F8.out 0 (.slice ca c.length c2) rfl;go_wp2_with fail;refine(Z1s q mb sp G SF S.sync c ca c.length c2 W10 J1.out HI.out.sync HN.out (Y3.of_own OC2.out)).mono ?_;rintro e W11 ⟨⟨la,ln,lc,zs,rfl,kp,zn⟩,b11⟩;have ZN:Hid (zs.map LN.n=zO S c):=zH zn;have LN0:Hid (zs.length=ln):=zH kp.rd.1;have KP:=zH kp;have B11:=zH b11;clear kp zn b11 c7 c8;have hz:ln=0:=by
  have h1:=LN0.out;have h2:=ZN.out;rw[LK.out]at h2;rw[List.map_eq_nil_iff.1 h2]at h1;exact h1.symm
 subst hz;have FN:=zH (RET.out _ W11 (Z1v K2.out (J1.out.below B11.out) (J2.out.trans (Zb.of_below B11.out)) (fun k hk=>.inl hk)));go_wp2;go_ret;exact⟨rfl,FN.out⟩
theorem Z0u (sa:zA)(n c:Nat):Value.ownBlock (.slice sa n c)=Value.ownBlock (.slice sa 0 0):=by cases sa <;> rfl
structure Z4H (sa:zA)(w wr:World)(a':zA):Prop where
 s:Zb (fun k=>Value.ownBlock (.slice sa 0 0)=some k) w wr
 o : ∀k,Value.ownBlock (.slice a' 0 0)=some k->Value.ownBlock (.slice sa 0 0)=some k\/w.heap.size<=k
def ZcG (a:zA)(w:World)(a':zA)(w':World):Prop:=Zb (fun k=>Value.ownBlock (.slice a 0 0)=some k) w w' /\ ∀k,Value.ownBlock (.slice a' 0 0)=some k->Value.ownBlock (.slice a 0 0)=some k\/w.heap.size<=k
theorem Z4H.refl (sa:zA)(w:World):Z4H sa w w sa:=⟨Zb.refl _ _,fun k h=>.inl h⟩
theorem Z4H.step {sa a a':zA}{w wr w':World}(h:Z4H sa w wr a)(hs:ZcG a wr a' w'):Z4H sa w w' a':=
 ⟨h.s.trans2 hs.1 (fun k hk=>h.o k hk),fun k hk=>by
  rcases hs.2 k hk with e | e
  ·exact h.o k e
  ·exact .inr (Nat.le_trans h.s.size e)⟩
theorem Z4H.rd {sa a':zA}{w wr:World}(h:Z4H sa w wr a'){k:Nat}{a:zA}{n c:Nat}{xs:List Value}(hr:Y3 w k a n c xs)(hn : ∀b off,a=some ⟨b,off,none⟩->Value.ownBlock (.slice sa 0 0)≠some b):Y3 wr k a n c xs:=
 hr.of_cells fun b ⟨off,hb⟩ hlt=>h.s.block b hlt (hn b off hb)
theorem Z7i {ops:Array Oper}{rest:List Oper}{o:Oper}{a:Act}{Q:Exit->Act->World->Prop}(w:World)(hgd:o.guard=none)(s x:Operand)
  (ho:o.op = .call { callee := .builtin .append,args := #[s,x],argTypes := #[41,41] }) (base:Nat)
  (sa:zA) (sn sc:Nat) (xs:zU) (hs:a.eval s = .slice sa sn sc) (hown:w.ownsRow base 5 1 (.slice sa sn sc) sn (xs.map Zr))
  (c:UInt8) (v:Int) (hv:v=(c.toNat:Int)) (hx:a.eval x = .slice (some ⟨w.heap.size,0,none⟩) 1 1) (hbytes:sn+1<=140737488355328) (hbase:base<=w.heap.size)
  (h : ∀a' c' w',w'.ownsRow base 5 1 (.slice a' (sn+1) c') (sn+1) ((xs ++ [c]).map Zr)->ZcG sa w a' w'->wpList zq ops Q rest (a.put o.dst (.slice a' (sn+1) c')) w'):
  wpList zq ops Q (o :: rest) a (w.alloc (.cells #[.int .u8 v] 5)):=by
 subst hv;have hb:Below w.heap.size w (w.alloc (.cells #[.int .u8 (c.toNat:Int)] 5)):=zB _ _;have hr:(w.alloc (.cells #[.int .u8 (c.toNat:Int)] 5)).ownsRow w.heap.size 5 1 (.slice (some ⟨w.heap.size,0,none⟩) 1 1) 1 ([c].map Zr):=
  World.ownsRow_lit (base:=w.heap.size) (e:=5) (size:=1) w #[.int .u8 (c.toNat:Int)] 1 (Nat.le_refl _) (by unfold maxLen;omega) rfl
 have ho2:=Zd hown hb;refine zj _ hgd s x ho base sa sn sc xs hs ho2 _ 1 1 [c] hx (Y4.of_own hr) hbytes (Nat.le_trans hbase hb.size) (fun a' c' w' hl h1 h2=>h a' c' w' h1 ⟨?_,fun k hk=>?_⟩)
 ·exact(Zb.of_below hb).trans (Zb.of_grown h2 (fun k e=>by rw[<-Z0u sa sn sc];exact e))
 ·rcases hl with e | e
  ·rw[e]at hk;exact .inl hk
  ·rw[e]at hk;have h3:(w.alloc (.cells #[.int .u8 (c.toNat:Int)] 5)).heap.size=k:=by simpa [Value.ownBlock] using hk
   exact .inr (h3 ▸ hb.size)
theorem Z9b (base:Nat)(sa:zA)(sn sc:Nat)(xs:zU)(la:zA)(n lc:Nat)(zs:List Int)(w:World)(hbase:base<=w.heap.size)
  (hown:w.ownsRow base 5 1 (.slice sa sn sc) sn (xs.map Zr)) (hr:Xi w la n lc zs) (hap : ∀b off,la=some ⟨b,off,none⟩->Value.ownBlock (.slice sa sn sc)≠some b) (hz : ∀z∈zs,XU z) (hlen:(xs ++ Zs zs).length<=140737488355328):
  Calls zq 143 #[.slice sa sn sc,.slice la n lc] w fun e w' => ∃a' c',e = .returned (.slice a' (xs ++ Zs zs).length c') /\
   w'.ownsRow base 5 1 (.slice a' (xs ++ Zs zs).length c') (xs ++ Zs zs).length ((xs ++ Zs zs).map Zr)/\Zb (fun k=>Value.ownBlock (.slice sa 0 0)=some k) w w':=by
 have hn:=hr.maxn;have hl:=zH hr.len;have HL:=zH hlen;clear hlen;have HZ:=zH hz;clear hz;have HO:=zH hown;have hsn:sn=xs.length:=by have:=hown.1;simpa using this.symm
 have hsg:IntKind.u64.signed=false:=rfl;clear hown;have HB:=zH hbase;clear hbase;go_enter Tryz.func143,Tryz.ntmps143;go_wp2_with fail;go_loopw [0,6,7,10] (fun b _ _ i wr=>∃(k m:Nat) (a':zA) (c':Nat),b = .slice a' m c'/\k<=n/\i = .int .i64 k/\Hid (wr.ownsRow base 5 1 (.slice a' m c') m ((xs ++ Zs (zs.take k)).map Zr))/\Hid (Z4H sa w wr a')) (fun _ _ _ i _=>n - (intOf i).toNat)
 case atStart=>exact⟨0,sn,sa,sc,rfl,Nat.zero_le _,rfl,zH (by simpa [Zs] using HO.out),zH (Z4H.refl _ _)⟩
 case round=>
  obtain⟨k,m,a',c',rfl,hk,rfl,HW,HA⟩:=hrel;by_cases hlt:k < n
  ·obtain⟨b,off,rfl,hc⟩:=Xi.at (HA.out.rd hr (fun b off e=>by rw[<-Z0u sa sn sc];exact hap b off e)) (by omega);have e1:=hc k hlt;have hk64:(k:Int)<=9223372036854775807:=by omega
   have hzk:=HZ.out (zs[k]?.getD 0) (by rw[List.getElem?_eq_getElem (by rw[hl.out];exact hlt),Option.getD_some];exact List.getElem_mem _);have HT:=zH (QC (l:=zs) (k:=k) (by rw[hl.out];exact hlt));generalize zs[k]?.getD 0=z at *;clear hc;by_cases hneg:z < 0
   focus
    have hu:=Z8r hzk hneg
   rotate_left
   focus
    have hu:=Z5j hzk (by omega)
   all_goals
    go_wp2_with fail;go_loopw [0,7] (fun b u wi=>∃(v m2:Nat) (ys:zU) (a2:zA) (c2:Nat),b = .slice a2 m2 c2/\u = .int .u64 v/\v < 18446744073709551616/\Hid (ys ++ za v=xs ++ Zs (zs.take (k+1)))/\Hid (wi.ownsRow base 5 1 (.slice a2 m2 c2) m2 (ys.map Zr))/\Hid (Z4H sa w wi a2)) (fun _ u _=>(intOf u).toNat)
    case atStart=>exact⟨zig z,m,xs ++ Zs (zs.take k),a',c',rfl,rfl,Z3a hzk,zH (by rw[HT.out,List.append_assoc];rfl),HW,HA⟩
    case round=>
     obtain⟨v,m2,ys,a2,c2,rfl,rfl,hv,HY,HW2,HA2⟩:=hrel;have hm2:m2=ys.length:=by have:=HW2.out.1;simpa using this.symm
     have hle:m2+(za v).length<=140737488355328:=by
      have h1:=congrArg List.length HY.out;have h2:=HL.out;have h3:=ze zs (k+1);simp only[List.length_append]at h1 h2;omega
     have hps:=Z0f v;subst hm2;obtain⟨cb,hcb⟩ : ∃cb,Hid (cb=UInt8.ofNat (v % 128+128)):=⟨_,zH rfl⟩;obtain⟨cd,hcd⟩ : ∃cd,Hid (cd=UInt8.ofNat v):=⟨_,zH rfl⟩;have hb2:base<=wr.heap.size:=Nat.le_trans HB.out HA2.out.s.size;clear e1;by_cases hge:(128:Int)<=v
     ·have hor:=ZcE v;have hq:IntKind.u64.wrap ((v:Int) / 128)=((v / 128:Nat):Int):=by rw[IntKind.wrap_u64];omega
      go_wp2_with (at_builtin;refine Z7i _ rfl _ _ rfl base _ _ _ ys rfl HW2.out cb _ (by rw[hcb.out,JE (by omega)];first | omega | rfl) rfl (by omega) hb2 ?_);intro a3 c3 w3 h1 h2;have H1:=zH h1;clear h1;go_wp2;go_roundw
      case rel=>exact⟨v / 128,ys.length+1,ys ++ [cb],a3,c3,rfl,by go_num,by omega,zH (by rw[List.append_assoc,List.singleton_append,hcb.out,<-Z0A (by omega)];exact HY.out),zH (by rw[List.map_append];exact H1.out),zH (HA2.out.step h2)⟩
      case measure=>simp[intOf];omega
     ·go_wp2_with (at_builtin;refine Z7i _ rfl _ _ rfl base _ _ _ ys rfl HW2.out cd (v:Int) (by rw[hcd.out,JE (by omega)]) rfl (by omega) hb2 ?_);intro a3 c3 w3 h1 h2;have H1:=zH h1;clear h1;have HE:=zH (show ys ++ [cd]=xs ++ Zs (zs.take (k+1))by rw[hcd.out,<-Z0z (by omega)];exact HY.out);go_wp2;go_roundw
      case rel=>exact⟨k+1,ys.length+1,a3,c3,rfl,by omega,by go_num,zH (by rw[<-HE.out,List.map_append];exact H1.out),zH (HA2.out.step h2)⟩
      case measure=>simp[intOf];omega
  ·have hkn:k=n:=by omega
   subst hkn;have hm:m=(xs ++ Zs zs).length:=by
    have:=HW.out.1;rw[List.take_of_length_le (by rw[hl.out];exact Nat.le_refl _)]at this;simpa using this.symm
   have HWW:=zH (show wr.ownsRow base 5 1 (.slice a' m c') m ((xs ++ Zs zs).map Zr)by
    have:=HW.out;rwa [List.take_of_length_le (by rw[hl.out];exact Nat.le_refl _)]at this)
   subst hm;go_wp2;go_ret;exact⟨_,_,rfl,HWW.out,HA.out.s⟩
theorem Z86 {l:List Z8}{k:Nat}{x:Z8}(h:l[k]? = some x):Yr (l.take (k+1))=Yr (l.take k) ++ (Y9 ((ZQ x).length:Int) ++ ZQ x):=by
 rw[List.take_add_one,h];simp[Yr]
theorem Z2N: ∀(l:List Z8),(∀x∈l,(ZQ x).length<=8192)->(Yr l).length<=l.length * 8210
 | [],_=>Nat.zero_le _
 | x :: l,h=>by
  have h1:=Z2N l (fun y hy=>h y (List.mem_cons_of_mem _ hy))
  have h2:=h x (List.mem_cons_self ..)
  have h3:=JP [((ZQ x).length:Int)] (fun z hz=>by rw[List.mem_singleton.1 hz];unfold XU;omega)
  rw[Jt]at h3
  show((Y9 ((ZQ x).length:Int) ++ ZQ x) ++ Yr l).length<=(l.length+1) * 8210
  rw[List.length_append,List.length_append]
  simp at h3
  omega
theorem Zai (p:Nat)(F:Nat->Prop)(V:ZM)(a:XA)(sa:zA)(sc:Nat)(m:MlV)(c:List Int)(S:Zj)(w:World)(h:VR w p F V)(hm:Va V a.idx=some m)(hS:Yi (Xq V a.idx) m.to=some S)(hmc:m.cont = .ask c)(hi:Xt S)(hcc:c.length=8 /\ ∀z∈c,0<=z/\z<=400)(hn:S.l.length<=400)(hk:zO S c≠[])(hml:V.ms.length<=64):
  Calls zq 90 #[.pointer (some ⟨p,0,none⟩),.agg (a.cells sa sc).toArray] w fun e w'=>e = .returned (.int .i64 0)/\Yv w p F (Vg (JC (Xq V a.idx) m.to S.sync) ⟨m.to,m.frm,.gift ((zO S c).take 16)⟩) w':=by
 have J19:(zq.info? 47).map (·.size)=some 19:=by kernel_rfl
 have HC:=zH hcc;have HN:Hid (S.sync.l.length<=400):=zH hn;have HMC:=zH (show m.body=(Xb.ask c).body by unfold MlV.body;rw[hmc]);have LK:=zH hk;have DL:Hid ((Xq V a.idx).ms.length<=64):=zH (Nat.le_trans (List.eraseIdx_sublist V.ms a.idx.toNat).length_le hml);have LF:Hid (∀x∈zO S c,Zf S.f x=true/\x.Ok):=zH (fun x hx=>⟨hi.frm x (List.mem_filter.1 hx).1,hi.ok x (List.mem_filter.1 hx).1⟩);clear hcc hn hmc hk hml;have I3:=zH (show ∀x y z:Value,(zq.info? 152).map (·.size)=some (#[x,y,z]:ZW).size from fun x y z=>by kernel_rfl);have hmf : ∀(fn:Fn) (first cap:ZW) (w:World),(Instr.makeFunc fn first cap).run zq w = .ok (.func fn first cap) w:=fun _ _ _ _=>rfl;have b0:=zB w (.cells (a.cells sa sc).toArray 67);have C3:=zH (show(a.cells sa sc).toArray[3]? = some (.int .i64 a.idx)from rfl);obtain⟨OA,hOA⟩:=zX ((a.cells sa sc).toArray);rw[hOA.out]at b0 C3 ⊢;have X0:=zH (Za w (.cells OA 67));have H0:=zH (h.below Zk b0);have B0:=zH b0;have HI:=zH hi;clear b0 hOA h hi;go_enter Tryz.func90,Tryz.ntmps90;go_upto_region 1 with fail;obtain⟨p3,hp3⟩:=zX (w.heap.size);rw[hp3.out]at X0 ⊢;generalize w.alloc (.cells OA 67)=W0 at *;have c1:=Z6 X0.out 3 (.int .i64 a.idx) C3.out;go_wp2_with fail;refine(UO p F V a.idx m _ H0.out hm).mono ?_;rintro e w1 ⟨ba,bc,rfl,hb,hr⟩;obtain⟨F1,g1,g2,g3⟩:=hr;obtain⟨ps,Fs,ha,hc,xs,ma,mc,h1,h2⟩:=g1.open;obtain⟨k,q,Fk,e1,e2,u1,u2,u3,u4⟩:=h1.at hS;have FIN:Hid (∀V' w',Yv w1 p F1 V' w'->Yv w p F V' w'):=zH (fun V' w' r=>(r.comp g2 g3).after B0.out);obtain⟨mb,sp,G,SF,k1,k2⟩:=u3;have HK:=zH k1;have K2:=zH k2;have RB:=zH hb;have H1:=zH h1;have H2:=zH h2;have UU:=zH (And.intro e2 (And.intro u1 u2));have RET:Hid (∀S' w',Z4J Z04 w1 q Fk S' w'->Yv w p F (JC (Xq V a.idx) m.to S') w'):=zH (fun S' w' j=>FIN.out _ _ (by rw[h2];exact h1.ret Zk e2 u1 u2 j));have HH:Hid (∀w2,Below w1.heap.size w1 w2->Calls zq 86 #[.pointer (some ⟨p,0,none⟩),.int .i64 m.to] w2 fun e w'=>e = .returned (.pointer (some ⟨q,0,none⟩))/\w'=w2):=zH (fun w2 b2=>Xf (h1.below Zk b2) m.to k q e1 u1)
 have LT1:Hid (∀k,Yw q mb G SF k->k < w1.heap.size):=zH k1.lt;clear c1 hm hb g1 g2 g3 h1 h2 e1 e2 u1 u2 u4 k1 k2 hS H0 X0;go_upto_region 2 with (refine Zy w1 rfl 152 _ _ rfl w1.heap.size rfl _ #[.int .i64 m.frm,.int .i64 m.to,.slice ba m.body.length bc] rfl rfl (I3.out _ _ _) rfl (Qh m.frm m.to (ba,m.body.length,bc)) ?_);have b2:Below w1.heap.size w1 (w1.alloc (.cells #[.int .i64 m.frm,.int .i64 m.to,.slice ba m.body.length bc] 152)):=zB _ _;have B2:=zH b2;have X5:=zH (Za w1 (.cells #[.int .i64 m.frm,.int .i64 m.to,.slice ba m.body.length bc] 152));obtain⟨p5,hp5⟩:=zX (w1.heap.size);rw[hp5.out]at X5 ⊢;clear b2;generalize w1.alloc (.cells #[.int .i64 m.frm,.int .i64 m.to,.slice ba m.body.length bc] 152)=w2 at *;have c51:=Z6 X5.out 1 (.int .i64 m.to) rfl;go_wp2_with fail;refine(HH.out w2 B2.out).mono ?_;rintro e w3 ⟨rfl,rfl⟩;clear HH;go_upto_region 8 with fail;obtain⟨W,p7,p8,p9,p10,hW,h7,h8,h9,h10,bW,i7,i8,i9,i10⟩:=Zbp w3 q;rw[h10,h9,h8,h7,hW];have GE:Hid (w1.heap.size<=p7/\w1.heap.size<=p8/\w1.heap.size<=p9/\w1.heap.size<=p10):=zH (by have:=B2.out.size;omega);have BW:=zH (B2.out.trans (bW.mono B2.out.size));replace X5:=zH (Z7 bW X5.out);have I7:=zH i7;have I8:=zH i8;have I9:=zH i9;have I10:=zH i10;clear hW h7 h8 h9 h10 bW i7 i8 i9 i10 c51 B2;have c52:=Z6 X5.out 2 (.slice ba m.body.length bc) rfl;go_wp2_with fail;refine(Z5g p10 p8 p7 p9 q c ba _ bc W (HMC.out ▸ Y4.below RB.out BW.out) I10.out I8.out I7.out (fun z hz=>by have:=HC.out.2 z hz;unfold Yb far;omega) (by have:=HC.out.1;omega)).mono ?_;rintro e W9 ⟨rfl,ca,c2,eA,eH,eC,oc,s9⟩;have B9:=zH (s9.below BW.out BW.out.size (fun j hj=>by
  have h1:=GE.out;rcases hj with e | e
  ·rw[e];exact h1.2.2.2
  ·rw[e];exact h1.2.1))
 have E5:=zH ((s9.block p5 (Zi X5.out) (fun e=>by
  rcases e with e | e
  ·exact Z2n X5.out I10.out (by decide) e
  ·exact Z2n X5.out I8.out (by decide) e)).trans X5.out)
 have OC:=zH oc;have E7:=zH eH;have E8:=zH eC;have c10:=Z6 eA 0 (.bool true) rfl;have c7:=Z6 eH 0 (.pointer (some ⟨q,0,none⟩)) rfl;clear eA eH eC oc s9 c52 hmf X5;go_wp2_with fail;refine(Q7 q mb sp G SF S W9 (HK.out.below B9.out)).mono ?_;rintro e W10 ⟨rfl,j1,j2⟩;have SPL:=zH (LT1.out sp (.inr (.inr (.inl HK.out.stk.self))));have hno : ∀{j:Nat} {o:Obj},W9.heap[j]? = some o->w1.heap.size<=j->W10.heap[j]? = some o:=fun {j o} hj hl=>(j2.block j (Zi hj) (fun e=>by have h1:=SPL.out;have h2:j=sp:=e;omega)).trans hj;have F5:=zH (hno E5.out (by rw[hp5.out];exact Nat.le_refl _));have F7:=zH (hno E7.out GE.out.1);have F8:=zH (hno E8.out GE.out.2.1);have OC2:=zH (Ze OC.out j2 (fun b hb e=>by
  have h1:=(OC.out.lt b hb).1;have h2:=SPL.out;have h3:=BW.out.size;have h4:b=sp:=e;omega))
 have J1:=zH j1;have J2:Hid (Zb (Yw q mb G SF) w1 W10):=zH ((Zb.of_below B9.out).trans (j2.weaken (fun b hb=>by rw[show b=sp from hb];exact .inr (.inr (.inl HK.out.stk.self)))));clear hno j1 j2 c10 c7 E5 E7 E8 OC;have c7:=Z6 F7.out 0 (.pointer (some ⟨q,0,none⟩)) rfl;have c8:=Z6 F8.out 0 (.slice ca c.length c2) rfl;go_wp2_with fail;refine(Z1s q mb sp G SF S.sync c ca c.length c2 W10 J1.out HI.out.sync HN.out (Y3.of_own OC2.out)).mono ?_;rintro e W11 ⟨⟨la,ln,lc,zs,rfl,kp,zn⟩,b11⟩;have ZN:Hid (zs.map LN.n=zO S c):=zH zn;have LN0:Hid (zs.length=ln):=zH kp.rd.1;have KP:=zH kp;have B11:=zH b11;clear kp zn b11 c7 c8;have NP:Hid (0 < ln):=zH (by
  have h1:=LN0.out;have h2:=ZN.out;rcases Nat.eq_zero_or_pos ln with h3 | h3
  ·rw[h3]at h1;rw[List.eq_nil_of_length_eq_zero h1]at h2;exact absurd h2.symm LK.out
  ·exact h3)
 have t1:((ln:Int)==0)=false:=by have:=NP.out;simp;omega
 have t2:(ln==0)=false:=by have:=NP.out;simp;omega
 go_upto_region 16 with fail;clear t1 t2;obtain⟨hh,hhh⟩:=zX (min ln 16);have HL:Hid (hh<=ln/\hh<=16):=zH (by have:=hhh.out;omega);have hmin:min (ln:Int) 16=(hh:Int):=by have:=hhh.out;omega
 obtain⟨ja,hcut,hj⟩:=Zck (ZcQ KP.out.rd) 0 hh none (some (.int .i64 (hh:Int))) (.inl ⟨rfl,rfl⟩) (.inr ⟨_,rfl⟩) (Nat.zero_le _) HL.out.1;rw[Nat.sub_zero,Nat.sub_zero,List.drop_zero]at hj;rw[Nat.sub_zero,Nat.sub_zero]at hcut;have RL:=zH (show zu W11 ja hh lc (zs.take hh)from Z30 hj (fun x hx=>Z8z KP.out.rd (List.mem_of_mem_take hx)));clear hj;go_upto_region 17 with fail;clear hcut hmin;obtain⟨l,hl⟩:=zX ((zO S c).take 16);have LL:Hid (l.length=hh):=zH (by rw[<-hl.out,List.length_take,<-ZN.out,List.length_map,LN0.out];have:=hhh.out;omega);have ZL:Hid ((zs.take hh).map LN.n=l):=zH (by
  have h1:(zO S c).length=ln:=by rw[<-ZN.out,List.length_map,LN0.out]
  rw[List.map_take,ZN.out,<-hl.out,<-hhh.out];rcases Nat.le_total ln 16 with h2 | h2
  ·rw[Nat.min_eq_left h2,List.take_of_length_le (by omega),List.take_of_length_le (by omega)]
  ·rw[Nat.min_eq_right h2])
 have LF2:Hid (∀x∈l,Zf S.f x=true):=zH (fun x hx=>(LF.out x (List.mem_of_mem_take (hl.out ▸ hx))).1);have GB:Hid (∀k,(Yr (l.take k)).length<=16 * 8210):=zH (fun k=>by
  have h1:=Z2N (l.take k) (fun x hx=>by have:=Q5 HI.out.v (LF2.out x (List.mem_of_mem_take hx));omega);have h2:(l.take k).length<=16:=by rw[List.length_take,LL.out];have:=HL.out.2;omega
  have h3:=Nat.mul_le_mul_right 8210 h2;omega)
 have ih2 : ∀z∈[(2:Int),(hh:Int)],XU z:=fun z hz=>by
  have:=HL.out.2;rcases List.mem_cons.1 hz with e | hz
  ·rw[e];unfold XU;omega
  ·rw[List.mem_singleton.1 hz];unfold XU;omega
 have h2i:=fun W=>Z5u W 2 (hh:Int);go_wp2_with fail;have b12:Below W11.heap.size W11 (W11.alloc (.cells #[.int .i64 2,.int .i64 (hh:Int)] 3)):=zB _ _;have EL:Hid ((Zs [2,(hh:Int)]).length<=20):=zH (by have h1:=JP [2,(hh:Int)] ih2;simp at h1;omega);refine(VA W11.heap.size none 0 0 [] (some ⟨W11.heap.size,0,none⟩) 2 2 [2,(hh:Int)] _ b12.size (World.ownsRow_nil _ _ _ _) (Zas W11 2 hh) (fun _=>Z4M W11.heap.size W11 2 hh) ih2 (by rw[List.nil_append];have:=EL.out;omega)).mono ?_;rintro e W12 ⟨ba2,bc2,rfl,o12,ab12⟩;rw[List.nil_append]at o12 ⊢;have O12:=zH o12;have B12:=zH (ab12.into b12 b12.size);obtain⟨X,HX⟩:=zX (Zs [2,(hh:Int)]);rw[HX.out]at O12 EL ⊢;obtain⟨m0,hm0⟩:=zX (X.length);rw[hm0.out]at O12 ⊢;clear o12 ab12 b12 ih2 h2i;go_wp2_with fail;have STH:Hid (JC (Xq V a.idx) m.to S.sync = { Xq V a.idx with hs:=(Xq V a.idx).hs.set k S.sync }):=zH (U5 UU.out.1);go_loopw [12,62] (fun bv iv wr=>∃(k mm:Nat) (a':zA) (c':Nat),bv = .slice a' mm c'/\k<=hh/\iv = .int .i64 (k:Int)/\Hid (wr.ownsRow W11.heap.size 5 1 (.slice a' mm c') mm ((X ++ Yr (l.take k)).map Zr))/\Hid (Below W11.heap.size W11 wr)) (fun _ iv _=>hh - (intOf iv).toNat)
 case atStart=>exact⟨0,m0,ba2,bc2,rfl,Nat.zero_le _,rfl,zH (by simpa [Yr] using O12.out),B12⟩
 case round=>
  clear O12 B12;obtain⟨k,mm,a',c',rfl,hk,rfl,HW,HB⟩:=hrel;by_cases hlt:k < hh
  ·have t0:decide ((k:Int) < (hh:Int))=true:=by simp;omega
   obtain⟨x,Hx⟩ : ∃x,(zs.take hh)[k]? = some x:=⟨_,List.getElem?_eq_getElem (by rw[RL.out.1];exact hlt)⟩;have HLX:=zH (show l[k]? = some x.n by rw[<-ZL.out,List.getElem?_map,Hx];rfl);have XF:=zH (LF2.out x.n (List.mem_of_getElem? HLX.out));have RW:=RL.out.below HB.out;have XK:=zH (show x.ok wr from Z8z RW (List.mem_of_getElem? Hx));obtain⟨b,off,rfl,hat⟩:=RW.at (by omega);obtain⟨o,ho⟩:=zX (off+k * 19);have HXC:=zH (hat k x Hx).1;rw[ho.out]at HXC;have hix:=fun W=>Yk (W:=W) (c:=lc) (b:=b) Tryz.underlying24 J19 hlt ho.out;have hbs:W11.heap.size<=wr.heap.size:=HB.out.size;have E1:=zH (show wrap64 ((k:Int)+1)=(k:Int)+1 by have:=HL.out.2;unfold wrap64;omega);clear hat Hx RW;go_upto_region 21 with (first
    |(refine wpList_load_mid rfl 47 _ rfl b o rfl (x.n.cells x.sa x.sc) _ HXC.out Tryz.underlying47 rfl (Ui x.n x.sa x.sc) ?_)
    |(refine zP wr wr.heap.size (Z5 x.n x.sa x.sc) ?_)
    | fail)
   have bt:Below wr.heap.size wr (wr.alloc (.cells (Z5 x.n x.sa x.sc) 47)):=zB _ _;have N14:=zH (Za wr (.cells (Z5 x.n x.sa x.sc) 47));have HW2:=zH (Zd HW.out bt);have HB2:=zH (HB.out.trans (bt.mono hbs));have XK2:=zH (XK.out.below bt);have HS2:=zH (Nat.le_trans hbs bt.size);obtain⟨p14,hp14⟩:=zX (wr.heap.size);rw[hp14.out]at N14 ⊢;generalize wr.alloc (.cells (Z5 x.n x.sa x.sc) 47)=wt at *;clear bt hp14 hix t0 HXC hbs HW HB XK;go_wp2_with (first
    |(refine zL p14 N14.out ?_)
    | fail)
   refine(QT x.n x.sa x.sc wt XK2.out (YT HI.out.v XF.out) (Nat.le_trans (Xp HI.out.v XF.out) (by decide))).mono ?_;rintro e w4 ⟨a4,c4,rfl,h4,b4⟩;have H4:=zH h4;have O4:=zH (Zd HW2.out b4);have B4:=zH (HB2.out.trans (b4.mono HS2.out));have hb4:W11.heap.size<=w4.heap.size:=Nat.le_trans HS2.out b4.size;have LE:Hid ((ZQ x.n).length<=2190):=zH (Q5 HI.out.v XF.out);have HM:Hid (mm=(X ++ Yr (l.take k)).length):=zH (by have:=HW2.out.1;simpa using this.symm);have MB:Hid (mm<=20+16 * 8210):=zH (by
    have h1:=HM.out;rw[List.length_append]at h1;have h2:=EL.out;have h3:=GB.out k;omega)
   obtain⟨m4,HM4⟩:=zX ((ZQ x.n).length);rw[HM4.out]at H4 LE ⊢;have h1i:=fun W=>Z5v W (m4:Int);have HWT:=zH HW2.out;clear h4 b4 HW2 HB2 N14 XK2;go_wp2_with fail;have b5:Below w4.heap.size w4 (w4.alloc (.cells #[.int .i64 (m4:Int)] 3)):=zB _ _;have im : ∀z∈[(m4:Int)],XU z:=fun z hz=>by rw[List.mem_singleton.1 hz];have:=LE.out;unfold XU;omega
   have ZE:Hid ((Zs [(m4:Int)]).length<=10):=zH (by have h1:=JP [(m4:Int)] im;simp at h1;omega);have hbm:W11.heap.size<=(w4.alloc (.cells #[.int .i64 (m4:Int)] 3)).heap.size:=Nat.le_trans hb4 b5.size;rw[HM.out]at O4 ⊢;have OX:=zH (Zd O4.out b5);have OLT:=zH (fun j hj=>(O4.out.lt j hj));refine(Z9b W11.heap.size a' _ c' (X ++ Yr (l.take k)) (some ⟨w4.heap.size,0,none⟩) 1 1 [(m4:Int)] _ hbm OX.out (Z1V w4 m4) (fun b off e=>by
    cases e;intro h9;have:=(OLT.out _ h9).2;omega) im (by rw[List.length_append,<-HM.out];have:=MB.out;have:=ZE.out;omega)).mono ?_
   rintro e w5 ⟨a5,c5,rfl,o5,s5⟩;have H45:=Zd H4.out b5;have R5:=zH (show Y4 w5 a4 m4 c4 (ZQ x.n)from Y4.of_own (Ze H45 s5 (fun j hj e=>by
    have h9:=(H4.out.lt j hj).1;rw[<-Z0u a' (X ++ Yr (l.take k)).length c']at e;have h10:=(HWT.out.lt j (by rw[HM.out];exact e)).2;omega)))
   have O5:=zH o5;have B5:=zH (s5.below (B4.out.trans (b5.mono hb4)) hbm (fun j e=>(OLT.out j (by rw[Z0u a' (X ++ Yr (l.take k)).length c'];exact e)).1));have HX5:Hid ((X ++ Yr (l.take k)) ++ Zs [(m4:Int)]=X ++ (Yr (l.take k) ++ Y9 (m4:Int))):=zH (by rw[Jt,List.append_assoc]);obtain⟨Y,hY⟩:=zX ((X ++ Yr (l.take k)) ++ Zs [(m4:Int)]);have YL:Hid (Y.length<=30+16 * 8210):=zH (by rw[<-hY.out,List.length_append,<-HM.out];have:=MB.out;have:=ZE.out;omega);rw[hY.out]at O5 ⊢;obtain⟨my,hmy⟩:=zX (Y.length);rw[hmy.out]at O5 YL ⊢;have hml:my+m4<=140737488355328:=by have:=YL.out;have:=LE.out;omega
   have hb5:W11.heap.size<=w5.heap.size:=B5.out.size;clear o5 s5 b5 hbm im h1i H45 H4 OX OLT O4;go_wp2_with (first
    |(at_builtin;refine Q8 _ rfl _ _ rfl W11.heap.size _ _ _ Y rfl O5.out _ _ _ (ZQ x.n) rfl R5.out hml hb5 ?_)
    | fail)
   intro a7 c7 w7 h8 h9;have H7:=zH (show w7.ownsRow W11.heap.size 5 1 (.slice a7 (my+m4) c7) (my+m4) ((X ++ Yr (l.take (k+1))).map Zr)by
    rw[Z86 HLX.out,HM4.out,<-List.append_assoc (Yr (l.take k)),<-List.append_assoc X,<-HX5.out,hY.out,List.map_append];exact h8)
   have B7:=zH (B5.out.trans ((YY.of_own O5.out h9).below hb5));clear h8 h9 hml hb5;have e1:=E1.out;go_wp2;go_roundw
   case rel=>exact⟨k+1,my+m4,a7,c7,by first | rfl | simp,by omega,by go_num,H7,B7⟩
   case measure=>clear e1;rw[E1.out];simp[intOf];omega
  ·have hkn:k=hh:=by omega
   subst hkn;have t0:decide ((k:Int) < (k:Int))=false:=by simp
   have HM:Hid (mm=(Xb.gift l).body.length):=zH (by
    have h1:=HW.out.1;rw[List.take_of_length_le (by rw[LL.out];exact Nat.le_refl _)]at h1;have h2:(Xb.gift l).body=X ++ Yr l:=by
     show Y9 2 ++ (Y9 (l.length:Int) ++ Yr l)=_;rw[<-HX.out,LL.out,show Zs [2,(k:Int)]=Y9 2 ++ Y9 (k:Int)by simp[Zs],List.append_assoc]
    rw[h2];simpa using h1.symm)
   have OB:Hid (wr.ownsRow W11.heap.size 5 1 (.slice a' (Xb.gift l).body.length c') (Xb.gift l).body.length ((Xb.gift l).body.map Zr)):=zH (by
    have h1:=HW.out;rw[List.take_of_length_le (by rw[LL.out];exact Nat.le_refl _),HM.out]at h1;have h2:(Xb.gift l).body=X ++ Yr l:=by
     show Y9 2 ++ (Y9 (l.length:Int) ++ Yr l)=_;rw[<-HX.out,LL.out,show Zs [2,(k:Int)]=Y9 2 ++ Y9 (k:Int)by simp[Zs],List.append_assoc]
    rw[<-h2]at h1;exact h1)
   rw[HM.out];clear HW;obtain⟨Fs',v1,v2,v3⟩:=H1.out.house Zk UU.out.2.1 UU.out.2.2 (Z1v K2.out J1.out J2.out (fun k hk=>.inl hk));have HA:=zH v1;have BX:=zH (B11.out.trans (HB.out.mono B11.out.size));have PB:=zH (Z7 BX.out v1.blk);have PX:=zH (Z7 BX.out F5.out);have DIS:Hid (∀V' w',Yv W10 p (wF p Fs' ha ps.length hc xs ma mc) V' w'->Yv w p F V' w'):=zH (fun V' w' r=>FIN.out V' w' (by
    rw[H2.out];exact r.comp (v2.weaken (fun j hj=>.inr (.inr (.inl hj)))) v3))
   have XL64:Hid (xs.length<=64):=zH (by rw[<-H1.out.nm];exact DL.out);clear v1 v2 v3 HB;go_upto_region 24 with fail;clear t0;refine bD 15 (fun W'=>W'.heap[p]? = some (.cells #[.slice ha ps.length hc,.slice ma xs.length mc] 141)/\W'.heap[p5]? = some (.cells #[.int .i64 m.frm,.int .i64 m.to,.slice ba m.body.length bc] 152)) ⟨PB.out,PX.out⟩ (fun hh=>?_);have BDR:=zH (BX.out.trans ((zd wr).mono BX.out.size));have OBR:=zH (Zd OB.out (zd wr));generalize wr.drew=V2 at *;clear PB PX OB BX;refine bW 0 rfl (.pointer (some ⟨p,0,none⟩)) ?_;refine bW 1 rfl (.pointer (some ⟨p,0,none⟩)) ?_;refine bW 2 rfl (.pointer (some ⟨p,0,none⟩)) ?_;refine bW 3 rfl (.pointer (some ⟨p,1,none⟩)) ?_;refine bS 4 rfl (.slice ma xs.length mc) (fun W hW=>by have c:=Z6 hW.1 1 (.slice ma xs.length mc) rfl;go_simp) ?_;refine bW 5 rfl (.pointer (some ⟨p5,1,none⟩)) ?_;refine bS 6 rfl (.int .i64 m.to) (fun W hW=>by have c:=Z6 hW.2 1 (.int .i64 m.to) rfl;go_simp) ?_;refine bW 7 rfl (.pointer (some ⟨p5,0,none⟩)) ?_;refine bS 8 rfl (.int .i64 m.frm) (fun W hW=>by have c:=Z6 hW.2 0 (.int .i64 m.frm) rfl;go_simp) ?_;refine bW 9 rfl (.slice a' (Xb.gift l).body.length c') ?_;refine bW 10 rfl (.agg #[.int .i64 m.to,.int .i64 m.frm,.slice a' (Xb.gift l).body.length c']) ?_;refine bR 11 rfl (fun K hK=>?_);rw[if_pos (by kernel_rfl)];refine JZ (w':=V2.alloc (.cells #[.int .i64 m.to,.int .i64 m.frm,.slice a' (Xb.gift l).body.length c'] 152)) (.slice (some ⟨V2.heap.size,0,none⟩) 1 1) (by kernel_rfl) ?_;have b6:Below V2.heap.size V2 (V2.alloc (.cells #[.int .i64 m.to,.int .i64 m.frm,.slice a' (Xb.gift l).body.length c'] 152)):=zB _ _;have R6:=zH (Z3K V2 (.int .i64 m.to) (.int .i64 m.frm) (.slice a' (Xb.gift l).body.length c'));have O6:=zH (Zd OBR.out b6);have B6:=zH (BDR.out.trans (b6.mono BDR.out.size));have hS6:=And.intro (Z7 b6 hh.1) (Z7 b6 hh.2);clear b6 hh;obtain⟨p6,hp6⟩:=zX (V2.heap.size);rw[hp6.out]at R6 ⊢;generalize V2.alloc (.cells #[.int .i64 m.to,.int .i64 m.frm,.slice a' (Xb.gift l).body.length c'] 152)=V6 at *
   refine bK hK hS6 (fun hh=>?_);clear hK K hS6;refine bR 12 rfl (fun K hK=>?_);rw[if_pos (by kernel_rfl)];obtain⟨a7,c7,V7,hrun,ho,hg,hl7⟩:=Z10 V6 0 ma xs.length mc (ZD xs) (Zd HA.out.mrow B6.out) (some ⟨p6,0,none⟩) 1 1 _ R6.out (by intro u hu;simp at hu;rcases hu with rfl | rfl | rfl <;> rfl) (by have:=XL64.out;omega) (Nat.zero_le _);refine ZU _ _ _ rfl _ _ _ rfl rfl hrun ?_;clear hrun;have HO:=zH ho;have HG:=zH hg;have HLO:=zH hl7;have hne : ∀{cur:ZW} {t:TypeId} {g:Nat},V6.heap[g]? = some (.cells cur t (0,0))->152≠t->Value.ownBlock (.slice ma xs.length mc)≠some g:=fun hgg ht=>ZJ (Zd HA.out.mrow B6.out) hgg ht;have h5lt:w1.heap.size<=p5:=by rw[hp5.out];exact Nat.le_refl _
   have hne5:Value.ownBlock (.slice ma xs.length mc)≠some p5:=fun e=>by have h1:=(H1.out.mrow.lt p5 e).2;omega
   have hS7:=And.intro (Zc hg hh.1 (Ne.symm (hne hh.1 (by decide)))) (Zc hg hh.2 (Ne.symm hne5));clear ho hg hl7 hne hh hne5 h5lt;refine bK hK hS7 (fun hh=>?_);clear hK K hS7;refine bR 13 rfl (fun K hK=>?_);go_simp;refine bK hK hh (fun hh=>?_);clear hK K;refine bW 14 rfl (.pointer (some ⟨p,1,none⟩)) ?_;refine bL rfl (fun K hK=>?_);have hce:=Z6 hh.1 1 (.slice ma xs.length mc) rfl;have hfz:=Zp hh.1 1;have P8:(V7.setCell ⟨p,1,none⟩ (.slice a7 (xs.length+1) c7)).heap[p]? = some (.cells #[.slice ha ps.length hc,.slice a7 (xs.length+1) c7] 141):=ZK hh.1 1 _;obtain⟨x,hx⟩ : ∃x:LM,Hid (x=⟨⟨m.to,m.frm,.gift l⟩,a',c'⟩):=⟨_,zH rfl⟩;have FN:Hid (Yv w p F (Vg (JC (Xq V a.idx) m.to S.sync) x.m) (V7.setCell ⟨p,1,none⟩ (.slice a7 (xs.length+1) c7))):=zH (by
    rw[STH.out];refine DIS.out _ _ ?_;refine HA.out.send Zk (by decide) (by decide) (by decide) (by decide) (by decide) x B6.out ?_ ?_ (ma':=a7) (mc':=c7) ?_ HG.out HLO.out P8 (Jw V7 p 1 _)
    ·rw[hx.out];exact Zv O6.out (Nat.zero_le _)
    ·intro j hj;rw[hx.out]at hj;have h1:=(O6.out.lt j hj).1;exact .inl (Nat.le_trans B11.out.size h1)
    ·rw[hx.out];exact HO.out)
   clear P8 hh;go_simp;refine hK.out _ _ ?_;clear hK K hce hfz;refine bE ?_;go_wp2;go_ret;rw[hl.out];refine⟨rfl,?_⟩;have h9:=FN.out;rw[hx.out]at h9;exact h9
open Go.Maps (Keyed)
def X3 (g p:Nat):Value := .func (.func g) #[.pointer (some ⟨p,0,none⟩)] #[]
def Zcv (p:Nat):DataW Value:=((((((((DataW.map []).put (.int .i64 1) (.held (X3 87 p))).put (.int .i64 2) (.held (X3 88 p))).put (.int .i64 3) (.held (X3 89 p))).put (.int .i64 4) (.held (X3 90 p))).put (.int .i64 5) (.held (X3 91 p))).put (.int .i64 6) (.held (X3 92 p))).put (.int .i64 7) (.held (X3 93 p)))
def Jv (p:Nat)(k:Int):Value:=if k=1 then (X3 87 p)else if k=2 then (X3 88 p)else if k=3 then (X3 89 p)else if k=4 then (X3 90 p)else if k=5 then (X3 91 p)else if k=6 then (X3 92 p)else if k=7 then (X3 93 p)else .nilFunc
theorem Zac (w:World):(zeroValue 69).run zq w = .ok .nilFunc w:=by kernel_rfl
theorem Zcu (p:Nat)(k:Int):(Zcv p).atKey (.int .i64 k) (.held .nilFunc) = .held (Jv p k):=by
 by_cases h:k=1\/k=2\/k=3\/k=4\/k=5\/k=6\/k=7
 ·rcases h with rfl | rfl | rfl | rfl | rfl | rfl | rfl <;> rfl
 ·have hn : ∀j:Int,k≠j->(Lit.int .i64 k)≠(Lit.int .i64 j):=fun j hj e=>hj (by injection e);unfold Zcv;rw[Go.Maps.atKey_put_other (hn _ (by omega)),Go.Maps.atKey_put_other (hn _ (by omega)),Go.Maps.atKey_put_other (hn _ (by omega)),Go.Maps.atKey_put_other (hn _ (by omega)),Go.Maps.atKey_put_other (hn _ (by omega)),Go.Maps.atKey_put_other (hn _ (by omega)),Go.Maps.atKey_put_other (hn _ (by omega))];unfold Jv;rw[if_neg (by omega),if_neg (by omega),if_neg (by omega),if_neg (by omega),if_neg (by omega),if_neg (by omega),if_neg (by omega)];rfl
theorem Z1q {W:World}{b p:Nat}(h:W.ownsMap zq 3 Qm b 7 (Zcv p))(k:Int)(hk:XU k):(Instr.lookup 143 (.map (some b)) (.int .i64 k) false).run zq W = .ok (Jv p k) W:=by
 obtain⟨v',ps,h1,h2⟩:=h.lookup JA Tryz.underlying143 (Zac W) (zd := .held .nilFunc) (zp:=[]) rfl (Go.Maps.keyOf_int_mk Tryz.underlying3 (by
  show(decide ((-9223372036854775808:Int)<=k) && decide (k<=9223372036854775807))=true;unfold XU at hk;rw[Bool.and_eq_true,decide_eq_true_eq,decide_eq_true_eq];omega))
 rw[Zcu p k]at h2;simp only[Qm,Option.some.injEq,Prod.mk.injEq,DataW.held.injEq]at h2;rw[h1,h2.1]
theorem Z1F (W:World)(p:Nat): ∃v1 v2 v3 v4 v5 v6 v7:World,(Instr.mapUpdate 143 (.map (some W.heap.size)) (.int .i64 1) (X3 87 p)).run zq (W.alloc (.map #[] 0)) = .ok () v1/\(Instr.mapUpdate 143 (.map (some W.heap.size)) (.int .i64 2) (X3 88 p)).run zq v1 = .ok () v2/\(Instr.mapUpdate 143 (.map (some W.heap.size)) (.int .i64 3) (X3 89 p)).run zq v2 = .ok () v3/\(Instr.mapUpdate 143 (.map (some W.heap.size)) (.int .i64 4) (X3 90 p)).run zq v3 = .ok () v4/\(Instr.mapUpdate 143 (.map (some W.heap.size)) (.int .i64 5) (X3 91 p)).run zq v4 = .ok () v5/\(Instr.mapUpdate 143 (.map (some W.heap.size)) (.int .i64 6) (X3 92 p)).run zq v5 = .ok () v6/\(Instr.mapUpdate 143 (.map (some W.heap.size)) (.int .i64 7) (X3 93 p)).run zq v6 = .ok () v7/\v7.ownsMap zq 3 Qm W.heap.size 7 (Zcv p)/\Below W.heap.size W v7:=by
 have ht:zq.underlying 143=some (.map 3 69):=Tryz.underlying143;have m0:=World.ownsMap_made W zq 3 Qm;have b0:Below W.heap.size W (W.alloc (.map #[] 0)):=zB _ _;obtain⟨v1,r1,m1,u1⟩:=m0.store JA ht (by unfold maxLen;omega) (key := .int .i64 1) (kl := .int .i64 1) (by kernel_rfl) (val:=(X3 87 p)) (d := .held (X3 87 p)) (ps:=[]) rfl;obtain⟨v2,r2,m2,u2⟩:=m1.store JA ht (by unfold maxLen;omega) (key := .int .i64 2) (kl := .int .i64 2) (by kernel_rfl) (val:=(X3 88 p)) (d := .held (X3 88 p)) (ps:=[]) rfl;obtain⟨v3,r3,m3,u3⟩:=m2.store JA ht (by unfold maxLen;omega) (key := .int .i64 3) (kl := .int .i64 3) (by kernel_rfl) (val:=(X3 89 p)) (d := .held (X3 89 p)) (ps:=[]) rfl;obtain⟨v4,r4,m4,u4⟩:=m3.store JA ht (by unfold maxLen;omega) (key := .int .i64 4) (kl := .int .i64 4) (by kernel_rfl) (val:=(X3 90 p)) (d := .held (X3 90 p)) (ps:=[]) rfl;obtain⟨v5,r5,m5,u5⟩:=m4.store JA ht (by unfold maxLen;omega) (key := .int .i64 5) (kl := .int .i64 5) (by kernel_rfl) (val:=(X3 91 p)) (d := .held (X3 91 p)) (ps:=[]) rfl;obtain⟨v6,r6,m6,u6⟩:=m5.store JA ht (by unfold maxLen;omega) (key := .int .i64 6) (kl := .int .i64 6) (by kernel_rfl) (val:=(X3 92 p)) (d := .held (X3 92 p)) (ps:=[]) rfl;obtain⟨v7,r7,m7,u7⟩:=m6.store JA ht (by unfold maxLen;omega) (key := .int .i64 7) (kl := .int .i64 7) (by kernel_rfl) (val:=(X3 93 p)) (d := .held (X3 93 p)) (ps:=[]) rfl;have g : ∀{a b:World},Below W.heap.size W a->a.mapTurned b W.heap.size->Below W.heap.size W b:=fun h t=>h.grown t.grown h.size (fun k e=>by cases e;omega);exact⟨v1,v2,v3,v4,v5,v6,v7,r1,r2,r3,r4,r5,r6,r7,m7,g (g (g (g (g (g (g b0 u1) u2) u3) u4) u5) u6) u7⟩
theorem Z8S (p:Nat)(F:Nat->Prop)(V:ZM)(OA:ZW)(k h:Int)(w:World)(hW:VR w p F V)(hp0:0 < V.hs.length)(ik:XU k)(h0:OA[0]? = some (.int .i64 k))(hh1:OA[1]? = some (.int .i64 h))(hk:Jv p k = .nilFunc):
  Calls zq 31 #[.pointer (some ⟨p,0,none⟩),.agg OA] w fun e w'=>e = .returned (.int .i64 1)/\Yv w p F V w':=by
 have hf1 : ∀(fn:Fn) (x y:ZW) (w:World),(binOp .eql 69 (.func fn x y) .nilFunc).run zq w = .ok (.bool false) w:=fun _ _ _ _=>by kernel_rfl
 have hf0 : ∀(w:World),(binOp .eql 69 .nilFunc .nilFunc).run zq w = .ok (.bool true) w:=fun _=>by kernel_rfl
 have hmf : ∀(fn:Fn) (first cap:ZW) (w:World),(Instr.makeFunc fn first cap).run zq w = .ok (.func fn first cap) w:=fun _ _ _ _=>rfl;have hmm := @run_makeMap zq;have b0:=zB w (.cells OA 67);have X0:=zH (Za w (.cells OA 67));have B0:=zH b0;obtain⟨ps,Fs,ha,hc,xs,ma,mc,h1,h2⟩:=hW.open;have MD:=zH (Uu (h1.below Zk b0) (by rw[<-h1.nh];exact hp0));have C0:=zH h0;have IK:=zH ik;clear ik;have C1:=zH hh1;have HK:=zH hk;clear hk;have REFL:=zH (Qs.refl hW);clear b0 hW h1 h2 h0 hh1 hp0;go_enter Tryz.func31,Tryz.ntmps31;go_upto_region 1 with fail;obtain⟨p3,hp3⟩:=zX (w.heap.size);rw[hp3.out]at X0 ⊢;generalize w.alloc (.cells OA 67)=W0 at *;go_wp2_with fail;refine MD.out.mono ?_;rintro e w1 ⟨rfl,rfl⟩;obtain⟨v1,v2,v3,v4,v5,v6,v7,r1,r2,r3,r4,r5,r6,r7,m7,b7⟩:=Z1F w1 p;have B7:=zH (B0.out.trans (b7.mono B0.out.size));have X7:=zH (Z7 b7 X0.out);have LOOK:=zH (Z1q m7 k IK.out);unfold X3 at r1 r2 r3 r4 r5 r6 r7;clear m7 b7 B0 X0 MD;go_upto_region 4 with fail;clear r1 r2 r3 r4 r5 r6 r7 hmm hmf;have c0:=Z6 X7.out 0 (.int .i64 k) C0.out;have c1:=Z6 X7.out 1 (.int .i64 h) C1.out;have lk:=LOOK.out;rw[HK.out]at lk;go_upto_region 5 with fail;clear lk;go_upto_region 6 with fail
 all_goals
  go_wp2;go_ret;exact⟨rfl,REFL.out.then Zk B7.out⟩
theorem QD (p:Nat)(F:Nat->Prop)(V:ZM)(OA:ZW)(k h:Int)(w:World)(hW:VR w p F V)(hp0:0 < V.hs.length)(ik:XU k)(h0:OA[0]? = some (.int .i64 k))(hh1:OA[1]? = some (.int .i64 h))(g:Nat)(hk:Jv p k=X3 g p)(hn:k≠4/\k≠5/\k≠6)(hs:Yi V h=none):
  Calls zq 31 #[.pointer (some ⟨p,0,none⟩),.agg OA] w fun e w'=>e = .returned (.int .i64 1)/\Yv w p F V w':=by
 have hf1 : ∀(fn:Fn) (x y:ZW) (w:World),(binOp .eql 69 (.func fn x y) .nilFunc).run zq w = .ok (.bool false) w:=fun _ _ _ _=>by kernel_rfl
 have hf0 : ∀(w:World),(binOp .eql 69 .nilFunc .nilFunc).run zq w = .ok (.bool true) w:=fun _=>by kernel_rfl
 have hmf : ∀(fn:Fn) (first cap:ZW) (w:World),(Instr.makeFunc fn first cap).run zq w = .ok (.func fn first cap) w:=fun _ _ _ _=>rfl;have hmm := @run_makeMap zq;have b0:=zB w (.cells OA 67);have X0:=zH (Za w (.cells OA 67));have B0:=zH b0;obtain⟨ps,Fs,ha,hc,xs,ma,mc,h1,h2⟩:=hW.open;have MD:=zH (Uu (h1.below Zk b0) (by rw[<-h1.nh];exact hp0));have C0:=zH h0;have IK:=zH ik;clear ik;have C1:=zH hh1;have HK:=zH hk;have HH:Hid (∀W,Below w.heap.size w W->Calls zq 86 #[.pointer (some ⟨p,0,none⟩),.int .i64 h] W fun e w'=>e = .returned (.pointer none)/\w'=W):=zH (fun W hb=>Z05 (h1.below Zk hb) h (by have:=Z2f hs;rw[h1.nh]at this;exact this));have n4:(k==4)=false:=by simp[hn.1]
 have n5:(k==5)=false:=by simp[hn.2.1]
 have n6:(k==6)=false:=by simp[hn.2.2]
 have m4:(k != 4)=true:=by simp[hn.1]
 have m5:(k != 5)=true:=by simp[hn.2.1]
 have m6:(k != 6)=true:=by simp[hn.2.2]
 clear hk hn hs;have REFL:=zH (Qs.refl hW);clear b0 hW h1 h2 h0 hh1 hp0;go_enter Tryz.func31,Tryz.ntmps31;go_upto_region 1 with fail;obtain⟨p3,hp3⟩:=zX (w.heap.size);rw[hp3.out]at X0 ⊢;generalize w.alloc (.cells OA 67)=W0 at *;go_wp2_with fail;refine MD.out.mono ?_;rintro e w1 ⟨rfl,rfl⟩;obtain⟨v1,v2,v3,v4,v5,v6,v7,r1,r2,r3,r4,r5,r6,r7,m7,b7⟩:=Z1F w1 p;have B7:=zH (B0.out.trans (b7.mono B0.out.size));have X7:=zH (Z7 b7 X0.out);have LOOK:=zH (Z1q m7 k IK.out);unfold X3 at r1 r2 r3 r4 r5 r6 r7;clear m7 b7 B0 X0 MD;go_upto_region 4 with fail;clear r1 r2 r3 r4 r5 r6 r7 hmm hmf;have c0:=Z6 X7.out 0 (.int .i64 k) C0.out;have c1:=Z6 X7.out 1 (.int .i64 h) C1.out;have lk:=LOOK.out;rw[HK.out]at lk;unfold X3 at lk;go_upto_region 5 with fail;clear lk;go_upto_region 6 with fail;go_wp2_with fail;refine(HH.out _ B7.out).mono ?_;rintro e w8 ⟨rfl,rfl⟩;go_wp2;go_ret;exact⟨rfl,REFL.out.then Zk B7.out⟩
theorem U1 (p:Nat)(F:Nat->Prop)(V:ZM)(OA:ZW)(k h:Int)(w:World)(hW:VR w p F V)(hp0:0 < V.hs.length)(ik:XU k)(h0:OA[0]? = some (.int .i64 k))(hh1:OA[1]? = some (.int .i64 h))(g:Nat)(hk:Jv p k=X3 g p)(hn:k≠4/\k≠5/\k≠6)(S:Zj)(hs:Yi V h=some S)(hsz:(zq.info? 67).map (·.size)=some OA.size)(hfn : ∀(args:ZW) (w:World),(callFunc g args).run zq w = .ok (.enter g args) w)(z:Int)(V2:ZM)
  (hg : ∀W,Below w.heap.size w W->Calls zq g #[.pointer (some ⟨p,0,none⟩),.agg OA] W fun e w'=>e = .returned (.int .i64 z)/\Yv W p F V2 w'):
  Calls zq 31 #[.pointer (some ⟨p,0,none⟩),.agg OA] w fun e w'=>e = .returned (.int .i64 z)/\Yv w p F V2 w':=by
 have hf1 : ∀(fn:Fn) (x y:ZW) (w:World),(binOp .eql 69 (.func fn x y) .nilFunc).run zq w = .ok (.bool false) w:=fun _ _ _ _=>by kernel_rfl
 have hf0 : ∀(w:World),(binOp .eql 69 .nilFunc .nilFunc).run zq w = .ok (.bool true) w:=fun _=>by kernel_rfl
 have hmf : ∀(fn:Fn) (first cap:ZW) (w:World),(Instr.makeFunc fn first cap).run zq w = .ok (.func fn first cap) w:=fun _ _ _ _=>rfl;have hmm := @run_makeMap zq;have b0:=zB w (.cells OA 67);have X0:=zH (Za w (.cells OA 67));have B0:=zH b0;obtain⟨ps,Fs,ha,hc,xs,ma,mc,h1,h2⟩:=hW.open;have MD:=zH (Uu (h1.below Zk b0) (by rw[<-h1.nh];exact hp0));have C0:=zH h0;have IK:=zH ik;clear ik;have C1:=zH hh1;have HK:=zH hk;have HG:=zH hg;have HSZ:=zH hsz;obtain⟨j,q,Fj,e1,e2,u1,u2,u3,u4⟩:=h1.at hs;have HH:Hid (∀W,Below w.heap.size w W->Calls zq 86 #[.pointer (some ⟨p,0,none⟩),.int .i64 h] W fun e w'=>e = .returned (.pointer (some ⟨q,0,none⟩))/\w'=W):=zH (fun W hb=>Xf (h1.below Zk hb) h j q e1 u1);have n4:(k==4)=false:=by simp[hn.1]
 have n5:(k==5)=false:=by simp[hn.2.1]
 have n6:(k==6)=false:=by simp[hn.2.2]
 have m4:(k != 4)=true:=by simp[hn.1]
 have m5:(k != 5)=true:=by simp[hn.2.1]
 have m6:(k != 6)=true:=by simp[hn.2.2]
 clear hk hn hs hg hsz e1 e2 u1 u2 u3 u4;have REFL:=zH (Qs.refl hW);clear b0 hW h1 h2 h0 hh1 hp0;go_enter Tryz.func31,Tryz.ntmps31;go_upto_region 1 with fail;obtain⟨p3,hp3⟩:=zX (w.heap.size);rw[hp3.out]at X0 ⊢;generalize w.alloc (.cells OA 67)=W0 at *;go_wp2_with fail;refine MD.out.mono ?_;rintro e w1 ⟨rfl,rfl⟩;obtain⟨v1,v2,v3,v4,v5,v6,v7,r1,r2,r3,r4,r5,r6,r7,m7,b7⟩:=Z1F w1 p;have B7:=zH (B0.out.trans (b7.mono B0.out.size));have X7:=zH (Z7 b7 X0.out);have LOOK:=zH (Z1q m7 k IK.out);unfold X3 at r1 r2 r3 r4 r5 r6 r7;clear m7 b7 B0 X0 MD;go_upto_region 4 with fail;clear r1 r2 r3 r4 r5 r6 r7 hmm hmf;have c0:=Z6 X7.out 0 (.int .i64 k) C0.out;have c1:=Z6 X7.out 1 (.int .i64 h) C1.out;have lk:=LOOK.out;rw[HK.out]at lk;unfold X3 at lk;go_upto_region 5 with fail;clear lk;go_upto_region 6 with fail;go_wp2_with fail;refine(HH.out _ B7.out).mono ?_;rintro e w8 ⟨rfl,rfl⟩;go_upto_region 8 with fail;go_wp2_with (first
  |(refine wpList_load_row rfl 67 _ rfl p3 rfl 67 OA (0,0) _ X7.out Tryz.underlying67 rfl HSZ.out ?_)
  | fail)
 refine(HG.out _ B7.out).mono ?_;rintro e w9 ⟨rfl,hr⟩;have RF:=zH (hr.after B7.out);clear hr c0 c1;go_wp2;go_ret;exact⟨rfl,RF.out⟩
theorem Z0V (p:Nat)(F:Nat->Prop)(V:ZM)(OA:ZW)(k h:Int)(w:World)(hW:VR w p F V)(hp0:0 < V.hs.length)(ik:XU k)(h0:OA[0]? = some (.int .i64 k))(hh1:OA[1]? = some (.int .i64 h))(g:Nat)(hk:Jv p k=X3 g p)(hn:k=4\/k=5\/k=6)(hsz:(zq.info? 67).map (·.size)=some OA.size)(hfn : ∀(args:ZW) (w:World),(callFunc g args).run zq w = .ok (.enter g args) w)(z:Int)(V2:ZM)
  (hg : ∀W,Below w.heap.size w W->Calls zq g #[.pointer (some ⟨p,0,none⟩),.agg OA] W fun e w'=>e = .returned (.int .i64 z)/\Yv W p F V2 w'):
  Calls zq 31 #[.pointer (some ⟨p,0,none⟩),.agg OA] w fun e w'=>e = .returned (.int .i64 z)/\Yv w p F V2 w':=by
 have hf1 : ∀(fn:Fn) (x y:ZW) (w:World),(binOp .eql 69 (.func fn x y) .nilFunc).run zq w = .ok (.bool false) w:=fun _ _ _ _=>by kernel_rfl
 have hf0 : ∀(w:World),(binOp .eql 69 .nilFunc .nilFunc).run zq w = .ok (.bool true) w:=fun _=>by kernel_rfl
 have hmf : ∀(fn:Fn) (first cap:ZW) (w:World),(Instr.makeFunc fn first cap).run zq w = .ok (.func fn first cap) w:=fun _ _ _ _=>rfl;have hmm := @run_makeMap zq;have b0:=zB w (.cells OA 67);have X0:=zH (Za w (.cells OA 67));have B0:=zH b0;obtain⟨ps,Fs,ha,hc,xs,ma,mc,h1,h2⟩:=hW.open;have MD:=zH (Uu (h1.below Zk b0) (by rw[<-h1.nh];exact hp0));have C0:=zH h0;have IK:=zH ik;clear ik;have C1:=zH hh1;have HK:=zH hk;have HG:=zH hg;have HSZ:=zH hsz;have HN:=zH hn;clear hk hn hg hsz;have REFL:=zH (Qs.refl hW);clear b0 hW h1 h2 h0 hh1 hp0;go_enter Tryz.func31,Tryz.ntmps31;go_upto_region 1 with fail;obtain⟨p3,hp3⟩:=zX (w.heap.size);rw[hp3.out]at X0 ⊢;generalize w.alloc (.cells OA 67)=W0 at *;go_wp2_with fail;refine MD.out.mono ?_;rintro e w1 ⟨rfl,rfl⟩;obtain⟨v1,v2,v3,v4,v5,v6,v7,r1,r2,r3,r4,r5,r6,r7,m7,b7⟩:=Z1F w1 p;have B7:=zH (B0.out.trans (b7.mono B0.out.size));have X7:=zH (Z7 b7 X0.out);have LOOK:=zH (Z1q m7 k IK.out);unfold X3 at r1 r2 r3 r4 r5 r6 r7;clear m7 b7 B0 X0 MD;go_upto_region 4 with fail;clear r1 r2 r3 r4 r5 r6 r7 hmm hmf;have c0:=Z6 X7.out 0 (.int .i64 k) C0.out;have c1:=Z6 X7.out 1 (.int .i64 h) C1.out;have lk:=LOOK.out;rw[HK.out]at lk;unfold X3 at lk;go_upto_region 5 with fail;clear lk;rcases HN.out with rfl | rfl | rfl
 all_goals
  go_upto_region 6 with fail;go_upto_region 8 with fail;go_wp2_with (first
   |(refine wpList_load_row rfl 67 _ rfl p3 rfl 67 OA (0,0) _ X7.out Tryz.underlying67 rfl HSZ.out ?_)
   | fail)
  refine(HG.out _ B7.out).mono ?_;rintro e w9 ⟨rfl,hr⟩;have RF:=zH (hr.after B7.out);clear hr c0 c1;go_wp2;go_ret;exact⟨rfl,RF.out⟩
theorem VO (a:XA)(sa:zA)(sc:Nat):(zq.info? 67).map (·.size)=some (a.cells sa sc).toArray.size:=by kernel_rfl
theorem Z6f {V:ZM}{a:XA}(h:Yi V a.house=none):XB V a=(V,1):=by unfold XB;rw[h]
theorem Z4q {V:ZM}{a:XA}(h:Yi V a.house=none):Qb V a=(V,1):=by unfold Qb;rw[h]
theorem Z5p {V:ZM}{a:XA}(h:Yi V a.house=none):XH V a=(V,1):=by unfold XH;rw[h]
theorem Z3h {V:ZM}{a:XA}(h:Yi V a.house=none):XN V a=(V,1):=by unfold XN;rw[h]
theorem Z6e {V:ZM}{a:XA}{S:Zj}(h:Yi V a.house=some S):Qb V a=(JC V a.house S.sync,0):=by unfold Qb;rw[h]
theorem ZdB (args:ZW)(w:World):(callFunc 87 args).run zq w = .ok (.enter 87 args) w:=by kernel_rfl
theorem Zcd (args:ZW)(w:World):(callFunc 88 args).run zq w = .ok (.enter 88 args) w:=by kernel_rfl
theorem Zd4 (args:ZW)(w:World):(callFunc 89 args).run zq w = .ok (.enter 89 args) w:=by kernel_rfl
theorem Z8a (args:ZW)(w:World):(callFunc 90 args).run zq w = .ok (.enter 90 args) w:=by kernel_rfl
theorem Zce (args:ZW)(w:World):(callFunc 91 args).run zq w = .ok (.enter 91 args) w:=by kernel_rfl
theorem Z9Q (args:ZW)(w:World):(callFunc 92 args).run zq w = .ok (.enter 92 args) w:=by kernel_rfl
theorem Zbj (args:ZW)(w:World):(callFunc 93 args).run zq w = .ok (.enter 93 args) w:=by kernel_rfl
theorem Z5m (p:Nat)(F:Nat->Prop)(V:ZM)(ss:List Nat)(T:Nat)(a:XA)(sa:zA)(sc:Nat)(w:World)(h:VR w p F V)(hv:YR V ss T)(hT:T<=380):
  Calls zq 90 #[.pointer (some ⟨p,0,none⟩),.agg (a.cells sa sc).toArray] w fun e w'=>e = .returned (.int .i64 (YV V a).2)/\Yv w p F (YV V a).1 w':=by
 cases hm:Va V a.idx with
 | none=>
  have e:YV V a=(V,3):=by unfold YV;rw[hm]
  rw[e];exact Z8Y p F V a sa sc w h hm
 | some m=>
  have e:YV V a=J9 (Xq V a.idx) m:=by unfold YV;rw[hm]
  obtain⟨i,_,_,hmi⟩:=Vu hm;have hok:=hv.ml m (List.mem_of_getElem? hmi);obtain⟨S,hS⟩:=Zcb (W:=V) hok.to.1 hok.to.2;have hS':Yi (Xq V a.idx) m.to=some S:=hS;obtain⟨k,_,_,hk⟩:=Yu hS;have hi:=hv.st' hk;have hl:=hv.len hk;cases hc:m.cont with
  | gift l=>
   have hco:=hok.cont;rw[hc]at hco;have e2:J9 (Xq V a.idx) m=(JC (Xq V a.idx) m.to (Ym S l).1,(Ym S l).2.2):=by unfold J9;rw[hS',hc]
   rw[e,e2];exact Z8Z p F V a sa sc m l S w h hm hS' hc hi.1 (fun x hx=>by have:=Dur.ok hv (hco.2.2 x hx);exact⟨hi.2.1 ▸ this.1,this.2.1⟩) hco.2.1 (by omega)
  | ask c=>
   have hco:=hok.cont;rw[hc]at hco;by_cases hk0:zO S c=[]
   ·have e2:J9 (Xq V a.idx) m=(JC (Xq V a.idx) m.to S.sync,0):=by unfold J9;rw[hS',hc];exact if_pos hk0
    rw[e,e2];exact Z90 p F V a sa sc m c S w h hm hS' hc hi.1 hco (by omega) hk0
   ·have e2:J9 (Xq V a.idx) m=(Vg (JC (Xq V a.idx) m.to S.sync) ⟨m.to,m.frm,.gift ((zO S c).take 16)⟩,0):=by unfold J9;rw[hS',hc];exact if_neg hk0
    rw[e,e2];exact Zai p F V a sa sc m c S w h hm hS' hc hi.1 hco (by omega) hk0 hv.mn
theorem Z8T (p:Nat)(F:Nat->Prop)(V:ZM)(ss:List Nat)(T:Nat)(a:XA)(sa:zA)(sc:Nat)(w:World)(h:VR w p F V)(hv:YR V ss T)(hT:T<=380)(ik:XU a.kind)(hs:Xi w sa a.note.strokes.length sc a.note.strokes)(hok:a.note.Ok)(hst:a.note.strokes.length<=1000000000):
  Calls zq 31 #[.pointer (some ⟨p,0,none⟩),.agg (a.cells sa sc).toArray] w fun e w'=>e = .returned (.int .i64 (YS V a).2)/\Yv w p F (YS V a).1 w':=by
 have hp0:0 < V.hs.length:=by have:=hv.n;omega
 have h0:(a.cells sa sc).toArray[0]? = some (.int .i64 a.kind):=rfl;have h1:(a.cells sa sc).toArray[1]? = some (.int .i64 a.house):=rfl;have hS : ∀{S},Yi V a.house=some S->Xt S/\S.l.length<=T:=fun {S} e=>by
  obtain⟨k,_,_,hk⟩:=Yu e;exact⟨(hv.st' hk).1,hv.len hk⟩
 by_cases k1:a.kind=1
 ·have e:YS V a=XB V a:=by unfold YS;rw[if_pos k1]
  have ea:Jv p a.kind=X3 87 p:=by unfold Jv;rw[if_pos k1]
  rw[e];cases hh:Yi V a.house with
  | none=>rw[Z6f hh];exact QD p F V _ a.kind a.house w h hp0 ik h0 h1 _ ea (by omega) hh
  | some S=>
   exact U1 p F V _ a.kind a.house w h hp0 ik h0 h1 _ ea (by omega) S hh (VO a sa sc) ZdB _ _ (fun W hb=>ZbU p F V a sa sc S W (h.below Zk hb) hh (hS hh).1 (hs.below hb) hok hst (by have:=(hS hh).2;omega))
 by_cases k2:a.kind=2
 ·have e:YS V a=Qb V a:=by unfold YS;rw[if_neg k1,if_pos k2]
  have ea:Jv p a.kind=X3 88 p:=by unfold Jv;rw[if_neg k1,if_pos k2]
  rw[e];cases hh:Yi V a.house with
  | none=>rw[Z4q hh];exact QD p F V _ a.kind a.house w h hp0 ik h0 h1 _ ea (by omega) hh
  | some S=>
   rw[Z6e hh];exact U1 p F V _ a.kind a.house w h hp0 ik h0 h1 _ ea (by omega) S hh (VO a sa sc) Zcd _ _ (fun W hb=>Z8R p F V a sa sc S W (h.below Zk hb) hh)
 by_cases k3:a.kind=3
 ·have e:YS V a=XH V a:=by unfold YS;rw[if_neg k1,if_neg k2,if_pos k3]
  have ea:Jv p a.kind=X3 89 p:=by unfold Jv;rw[if_neg k1,if_neg k2,if_pos k3]
  rw[e];cases hh:Yi V a.house with
  | none=>rw[Z5p hh];exact QD p F V _ a.kind a.house w h hp0 ik h0 h1 _ ea (by omega) hh
  | some S=>
   exact U1 p F V _ a.kind a.house w h hp0 ik h0 h1 _ ea (by omega) S hh (VO a sa sc) Zd4 _ _ (fun W hb=>Zaj p F V a sa sc S W (h.below Zk hb) hh (hS hh).1)
 by_cases k4:a.kind=4
 ·have e:YS V a=YV V a:=by unfold YS;rw[if_neg k1,if_neg k2,if_neg k3,if_pos k4]
  have ea:Jv p a.kind=X3 90 p:=by unfold Jv;rw[if_neg k1,if_neg k2,if_neg k3,if_pos k4]
  rw[e];exact Z0V p F V _ a.kind a.house w h hp0 ik h0 h1 _ ea (by omega) (VO a sa sc) Z8a _ _ (fun W hb=>Z5m p F V ss T a sa sc W (h.below Zk hb) hv hT)
 by_cases k5:a.kind=5
 ·have e:YS V a=JH V a:=by unfold YS;rw[if_neg k1,if_neg k2,if_neg k3,if_neg k4,if_pos k5]
  have ea:Jv p a.kind=X3 91 p:=by unfold Jv;rw[if_neg k1,if_neg k2,if_neg k3,if_neg k4,if_pos k5]
  rw[e];exact Z0V p F V _ a.kind a.house w h hp0 ik h0 h1 _ ea (by omega) (VO a sa sc) Zce _ _ (fun W hb=>Z8V p F V a sa sc W (h.below Zk hb))
 by_cases k6:a.kind=6
 ·have e:YS V a=Xk V a:=by unfold YS;rw[if_neg k1,if_neg k2,if_neg k3,if_neg k4,if_neg k5,if_pos k6]
  have ea:Jv p a.kind=X3 92 p:=by unfold Jv;rw[if_neg k1,if_neg k2,if_neg k3,if_neg k4,if_neg k5,if_pos k6]
  rw[e];exact Z0V p F V _ a.kind a.house w h hp0 ik h0 h1 _ ea (by omega) (VO a sa sc) Z9Q _ _ (fun W hb=>Z6b p F V a sa sc W (h.below Zk hb))
 by_cases k7:a.kind=7
 ·have e:YS V a=XN V a:=by unfold YS;rw[if_neg k1,if_neg k2,if_neg k3,if_neg k4,if_neg k5,if_neg k6,if_pos k7]
  have ea:Jv p a.kind=X3 93 p:=by unfold Jv;rw[if_neg k1,if_neg k2,if_neg k3,if_neg k4,if_neg k5,if_neg k6,if_pos k7]
  rw[e];cases hh:Yi V a.house with
  | none=>rw[Z3h hh];exact QD p F V _ a.kind a.house w h hp0 ik h0 h1 _ ea (by omega) hh
  | some S=>
   exact U1 p F V _ a.kind a.house w h hp0 ik h0 h1 _ ea (by omega) S hh (VO a sa sc) Zbj _ _ (fun W hb=>Z7s p F V a sa sc S W (h.below Zk hb) hh (hS hh).1 (by have:=(hS hh).2;omega))
 have e:YS V a=(V,1):=by unfold YS;rw[if_neg k1,if_neg k2,if_neg k3,if_neg k4,if_neg k5,if_neg k6,if_neg k7]
 have ea:Jv p a.kind = .nilFunc:=by unfold Jv;rw[if_neg k1,if_neg k2,if_neg k3,if_neg k4,if_neg k5,if_neg k6,if_neg k7]
 rw[e];exact Z8S p F V _ a.kind a.house w h hp0 ik h0 h1 ea
structure LA where
 a:XA
 sa:zA
 sc:Nat
def LA.cells (x:LA):List Value:=x.a.cells x.sa x.sc
def LA.ok (W:World)(x:LA):Prop:=Xi W x.sa x.a.note.strokes.length x.sc x.a.note.strokes
def Z7o (W:World)(a:zA)(n c:Nat)(xs:List LA):Prop:=
 xs.length=n/\n<=c/\c<=maxLen/\(c=0 \/ ∃b off,a=some ⟨b,off,none⟩ /\ ∀i x,xs[i]? = some x->W.rangeAt b (off+i * 25) x.cells/\x.ok W)
theorem Z7o.below {W W':World}{a:zA}{n c:Nat}{xs:List LA}(h:Z7o W a n c xs)(hb:Below W.heap.size W W'):Z7o W' a n c xs:=by
 refine⟨h.1,h.2.1,h.2.2.1,h.2.2.2.imp id ?_⟩;rintro⟨b,off,rfl,h4⟩;exact⟨b,off,rfl,fun i x hx=>⟨ZY (h4 i x hx).1 hb,Xi.below (h4 i x hx).2 hb⟩⟩
theorem Z7o.at {W:World}{a:zA}{n c:Nat}{xs:List LA}(h:Z7o W a n c xs)(h0:0 < n): ∃b off,a=some ⟨b,off,none⟩ /\ ∀i x,xs[i]? = some x->W.rangeAt b (off+i * 25) x.cells/\x.ok W:=by
 rcases h.2.2.2 with h5 | h5
 ·have:=h.2.1;omega
 ·exact h5
def Xx (l:List XA):Nat:=(l.map fun a=>a.note.strokes.length).sum
theorem Z0Q {xs:List LA}{k:Nat}{x:LA}(h:xs[k]? = some x):Xx ((xs.take (k+1)).map LA.a)=Xx ((xs.take k).map LA.a)+x.a.note.strokes.length:=by
 rw[List.take_add_one,h];simp[Xx]
theorem Z2G (B:Nat): ∀(xs:List LA),(∀x∈xs,x.a.note.strokes.length<=B)->Xx (xs.map LA.a)<=xs.length * B
 | [],_=>by simp[Xx]
 | x :: xs,h=>by
  have h1:=Z2G B xs (fun y hy=>h y (List.mem_cons_of_mem _ hy))
  have h2:=h x (List.mem_cons_self ..)
  show x.a.note.strokes.length+Xx (xs.map LA.a)<=(xs.length+1) * B
  rw[Nat.add_mul,Nat.one_mul]
  omega
theorem Z4y (xs:List LA)(a:zA)(n c:Nat)(w:World)(h:Z7o w a n c xs)(hn:n<=1000)(hB : ∀x∈xs,x.a.note.strokes.length<=17592186044416):
  Calls zq 27 #[.slice a n c] w fun e w'=>e = .returned (.bool (decide (Xx (xs.map LA.a)<=600)))/\w'=w:=by
 have J25:(zq.info? 67).map (·.size)=some 25:=by kernel_rfl
 have H:=zH h;have HN:=zH hn;have HB:=zH hB;obtain⟨S,hS⟩:=zX (Xx (xs.map LA.a));rw[hS.out];clear h hn hB;go_enter Tryz.func27,Tryz.ntmps27;go_wp2_with fail;go_loopw [3,4] (fun s i wr=>∃(k m:Nat),s = .int .i64 (m:Int)/\i = .int .i64 (k:Int)/\k<=n/\wr=w/\Hid (m=Xx ((xs.take k).map LA.a))) (fun _ i _=>n - (intOf i).toNat)
 case atStart=>exact⟨0,0,by first | rfl | trivial,by first | rfl | trivial,by omega,by first | rfl | trivial,zH rfl⟩
 case round=>
  obtain⟨k,m,rfl,rfl,hk,rfl,HM⟩:=hrel;by_cases hlt:k < n
  ·have t0:decide ((k:Int) < (n:Int))=true:=by simp;omega
   obtain⟨x,hx⟩ : ∃x,xs[k]? = some x:=⟨_,List.getElem?_eq_getElem (by rw[H.out.1];exact hlt)⟩;have HX:=zH hx;obtain⟨b,off,rfl,hat⟩:=H.out.at (by omega);obtain⟨o,ho⟩:=zX (off+k * 25);have hr:=(hat k x hx).1;rw[ho.out]at hr;have c0:wr.cell? ⟨b,o+4+15,none⟩=some (.slice x.sa x.a.note.strokes.length x.sc):=by
    rw[Nat.add_assoc];exact hr 19 _ rfl
   have hix:=fun W=>Yk (W:=W) (c:=c) (b:=b) Tryz.underlying61 J25 hlt ho.out;have LB:Hid (x.a.note.strokes.length<=17592186044416/\m<=1000 * 17592186044416):=zH (by
    refine⟨HB.out x (List.mem_of_getElem? hx),?_⟩;have h1:=Z2G 17592186044416 (xs.take k) (fun y hy=>HB.out y (List.mem_of_mem_take hy));rw[<-HM.out]at h1;refine Nat.le_trans h1 (Nat.mul_le_mul_right _ ?_);rw[List.length_take];have:=HN.out;omega)
   have E1:=zH (show wrap64 ((k:Int)+1)=(k:Int)+1 by have:=HN.out;unfold wrap64;omega);have e2:wrap64 ((m:Int)+(x.a.note.strokes.length:Int))=((m+x.a.note.strokes.length:Nat):Int):=by have:=LB.out;unfold wrap64;omega
   have HM2:Hid (m+x.a.note.strokes.length=Xx ((xs.take (k+1)).map LA.a)):=zH (by rw[Z0Q HX.out,HM.out]);have e1:=E1.out;generalize x.a.note.strokes.length=sl at *;clear hat hx hr;go_wp2;go_roundw
   case rel=>exact⟨k+1,m+sl,by first | rfl | go_num,by go_num,by omega,by first | rfl | trivial,HM2⟩
   case measure=>clear e1;rw[E1.out];simp[intOf];omega
  ·have t0:decide ((k:Int) < (n:Int))=false:=by simp;omega
   have HE:Hid (m=S):=zH (by rw[HM.out,List.take_of_length_le (by rw[H.out.1];omega)];exact hS.out);have t1:decide ((m:Int)<=600)=decide (S<=600):=by rw[HE.out,decide_eq_decide];omega
   go_wp2;go_ret;exact⟨by rw[<-t1];rfl,rfl⟩
def Z1o (l:List Z8)(k:Nat)(x:Z8):Option Nat->Option Nat
 | none=>some k
 | some j=>match l[j]? with
  | some y=>if y.num < x.num then some k else some j
  | none=>some k
def Qg (l:List Z8)(h:Int):Nat->Option Nat
 | 0=>none
 | k+1=>match l[k]? with
  | some x=>if x.house=h then Z1o l k x (Qg l h k)else Qg l h k
  | none=>Qg l h k
theorem Z13 (l:List Z8)(h:Int): ∀(k:Nat),k<=l.length->match Qg l h k with
  | none => ∀(i:Nat) (y:Z8),i < k->l[i]? = some y->y.house≠h
  | some j=>j < k /\ ∃x,l[j]? = some x/\x.house=h /\ ∀(i:Nat) (y:Z8),i < k->l[i]? = some y->y.house=h->y.num<=x.num
 | 0,_=>fun i y hi=>absurd hi (Nat.not_lt_zero i)
 | k+1,hk=>by
  have ih:=Z13 l h k (by omega)
  have hx:=List.getElem?_eq_getElem (l:=l) (i:=k) (by omega)
  obtain⟨x,hx⟩ : ∃x,l[k]? = some x:=⟨_,hx⟩
  rw[Qg,hx]
  dsimp only
  by_cases e:x.house=h
  ·rw[if_pos e]
   cases hg:Qg l h k with
   | none=>
    rw[hg]at ih
    refine⟨Nat.lt_succ_self k,x,hx,e,fun i y hi hy hh=>?_⟩
    by_cases e2:i=k
    ·rw[e2,hx]at hy
     cases hy
     exact Int.le_refl _
    ·exact absurd hh (ih i y (by omega) hy)
   | some j=>
    rw[hg]at ih
    obtain⟨hj,z,hz,hzh,hm⟩:=ih
    unfold Z1o
    dsimp only
    rw[hz]
    dsimp only
    by_cases e3:z.num < x.num
    ·rw[if_pos e3]
     refine⟨Nat.lt_succ_self k,x,hx,e,fun i y hi hy hh=>?_⟩
     by_cases e2:i=k
     ·rw[e2,hx]at hy
      cases hy
      exact Int.le_refl _
     ·have:=hm i y (by omega) hy hh
      omega
    ·rw[if_neg e3]
     refine⟨by omega,z,hz,hzh,fun i y hi hy hh=>?_⟩
     by_cases e2:i=k
     ·rw[e2,hx]at hy
      cases hy
      omega
     ·exact hm i y (by omega) hy hh
  ·rw[if_neg e]
   cases hg:Qg l h k with
   | none=>
    rw[hg]at ih
    intro i y hi hy
    by_cases e2:i=k
    ·rw[e2,hx]at hy
     cases hy
     exact e
    ·exact ih i y (by omega) hy
   | some j=>
    rw[hg]at ih
    obtain⟨hj,z,hz,hzh,hm⟩:=ih
    refine⟨by omega,z,hz,hzh,fun i y hi hy hh=>?_⟩
    by_cases e2:i=k
    ·rw[e2,hx]at hy
     cases hy
     exact absurd hh e
    ·exact hm i y (by omega) hy hh
def Z7R:Option Nat->Int
 | none => -1
 | some j=>(j:Int)
theorem Z7P (l:List Z8)(h:Int)(a:zA)(n c:Nat)(w:World)(hr:Qt w a n c l)(hn:n<=100000):
  Calls zq 35 #[.slice a n c,.int .i64 h] w fun e w'=>e = .returned (.int .i64 (Z7R (Qg l h n))) /\ ∃q,w'=w.drewN q:=by
 have J19:(zq.info? 47).map (·.size)=some 19:=by kernel_rfl
 have H:=zH hr;have HN:=zH hn;obtain⟨R,hR⟩:=zX (Qg l h n);rw[hR.out];clear hr hn;go_enter Tryz.func35,Tryz.ntmps35;go_wp2;go_loopw [5,6] (fun s i wr=>∃(k:Nat) (r:Option Nat),s = .int .i64 (Z7R r)/\i = .int .i64 (k:Int)/\k<=n/\Hid (Qg l h k=r) /\ ∃q,wr=w.drewN q) (fun _ i _=>n - (intOf i).toNat)
 case atStart=>exact⟨0,none,by first | rfl | trivial,by first | rfl | trivial,Nat.zero_le _,zH rfl,0,rfl⟩
 case round=>
  obtain⟨k,r,rfl,rfl,hk,HG,q,rfl⟩:=hrel;by_cases hlt:k < n
  ·obtain⟨x,hx⟩ : ∃x,l[k]? = some x:=⟨_,List.getElem?_eq_getElem (by rw[H.out.1];exact hlt)⟩;have HX:=zH hx;obtain⟨b,off,rfl,hat⟩:=H.out.at (by omega);obtain⟨sa,sc,hrx,_⟩:=hat k x hx;obtain⟨o,ho⟩:=zX (off+k * 19);rw[ho.out]at hrx;have x0:w.cell? ⟨b,o,none⟩=some (.int .i64 x.house):=hrx 0 _ rfl;have x1:w.cell? ⟨b,o+1,none⟩=some (.int .i64 x.num):=hrx 1 _ rfl;have hix:=fun W=>Yk (W:=W) (c:=c) (b:=b) Tryz.underlying24 J19 hlt ho.out;have E1:=zH (show wrap64 ((k:Int)+1)=(k:Int)+1 by have:=HN.out;unfold wrap64;omega);have NG:=zH (show Qg l h (k+1)=if x.house=h then Z1o l k x r else r by rw[Qg,HX.out];dsimp only;rw[HG.out]);have SP:=zH (Z13 l h k (by rw[H.out.1];omega));have t0:decide ((k:Int) < (n:Int))=true:=by simp;omega
   by_cases e:x.house=h
   ·have t1:(x.house==h)=true:=by simp[e]
    cases r with
    | none=>
     have NE:=zH (show Qg l h (k+1)=some k by rw[NG.out,if_pos e];rfl);have t2:decide ((-1:Int) < 0)=true:=rfl;unfold Z7R;clear hat hx hrx e NG SP;go_wp2;go_quiet (fail);have e1:=E1.out;go_wp2;go_roundw
     case rel=>exact⟨k+1,some k,by first | rfl | trivial,by go_num,by omega,NE,_,rfl⟩
     case measure=>clear e1;rw[E1.out];simp[intOf];omega
    | some j=>
     rw[HG.out]at SP;obtain⟨hj,y,hy,hyh,_⟩:=SP.out;obtain⟨ta,tc,hry,_⟩:=hat j y hy;obtain⟨o2,ho2⟩:=zX (off+j * 19);rw[ho2.out]at hry;have y1:w.cell? ⟨b,o2+1,none⟩=some (.int .i64 y.num):=hry 1 _ rfl;have hix2:=fun W=>Yk (W:=W) (c:=c) (b:=b) Tryz.underlying24 J19 (show j < n by omega) ho2.out;have t2:decide ((j:Int) < 0)=false:=by simp
     by_cases e3:y.num < x.num
     ·have t3:decide (y.num < x.num)=true:=by simp[e3]
      have NE:=zH (show Qg l h (k+1)=some k by rw[NG.out,if_pos e];unfold Z1o;dsimp only;rw[hy];dsimp only;rw[if_pos e3]);unfold Z7R;clear hat hx hrx e NG SP hry hy hyh e3;go_wp2;go_quiet (fail);have e1:=E1.out;go_wp2;go_roundw
      case rel=>exact⟨k+1,some k,by first | rfl | trivial,by go_num,by omega,NE,_,rfl⟩
      case measure=>clear e1;rw[E1.out];simp[intOf];omega
     ·have t3:decide (y.num < x.num)=false:=by simp;omega
      have NE:=zH (show Qg l h (k+1)=some j by rw[NG.out,if_pos e];unfold Z1o;dsimp only;rw[hy];dsimp only;rw[if_neg e3]);unfold Z7R;clear hat hx hrx e NG SP hry hy hyh e3;go_wp2;go_quiet (fail);have e1:=E1.out;go_wp2;go_roundw
      case rel=>exact⟨k+1,some j,by first | rfl | trivial,by go_num,by omega,NE,_,rfl⟩
      case measure=>clear e1;rw[E1.out];simp[intOf];omega
   ·have t1:(x.house==h)=false:=by simp[e]
    have NE:=zH (show Qg l h (k+1)=r by rw[NG.out,if_neg e]);obtain⟨ri,hri⟩:=zX (Z7R r);rw[hri.out];clear hat hx hrx e NG SP;go_wp2;go_quiet (fail);have e1:=E1.out;go_wp2;go_roundw
    case rel=>exact⟨k+1,r,by rw[hri.out],by go_num,by omega,NE,_,rfl⟩
    case measure=>clear e1;rw[E1.out];simp[intOf];omega
  ·have t0:decide ((k:Int) < (n:Int))=false:=by simp;omega
   have HE:Hid (r=R):=zH (by rw[<-HG.out,<-hR.out,show k=n by omega]);rw[HE.out];go_wp2;go_ret;exact⟨rfl,_,rfl⟩
def ZbO (l:List Z8):Prop:=(∀x,l[0]? = some x->x.num=1)/\(∀(j:Nat) (y x:Z8),l[j]? = some y->l[j+1]? = some x->(y.house=x.house/\x.num=y.num+1/\0<=y.num/\y.num<=1000)\/(y.house < x.house/\x.num=1))
theorem Z6Z (l:List Z8)(a:zA)(n c:Nat)(w:World)(hr:Qt w a n c l)(hn:n<=100000)(hg:ZbO l):
  Calls zq 36 #[.slice a n c] w fun e w'=>e = .returned (.bool true) /\ ∃q,w'=w.drewN q:=by
 have J19:(zq.info? 47).map (·.size)=some 19:=by kernel_rfl
 have H:=zH hr;have HN:=zH hn;have HG:=zH hg;clear hr hn hg;go_enter Tryz.func36,Tryz.ntmps36;go_wp2;go_loopw [3,4] (fun i _ wr=>∃(k:Nat),i = .int .i64 (k:Int)/\k<=n /\ ∃q,wr=w.drewN q) (fun i _ _=>n - (intOf i).toNat)
 case atStart=>exact⟨0,by first | rfl | trivial,Nat.zero_le _,0,rfl⟩
 case round=>
  obtain⟨k,rfl,hk,q,rfl⟩:=hrel;by_cases hlt:k < n
  ·obtain⟨x,hx⟩ : ∃x,l[k]? = some x:=⟨_,List.getElem?_eq_getElem (by rw[H.out.1];exact hlt)⟩;obtain⟨b,off,rfl,hat⟩:=H.out.at (by omega);obtain⟨sa,sc,hrx,_⟩:=hat k x hx;obtain⟨o,ho⟩:=zX (off+k * 19);rw[ho.out]at hrx;have x0:w.cell? ⟨b,o,none⟩=some (.int .i64 x.house):=hrx 0 _ rfl;have x1:w.cell? ⟨b,o+1,none⟩=some (.int .i64 x.num):=hrx 1 _ rfl;have hix:=fun W=>Yk (W:=W) (c:=c) (b:=b) Tryz.underlying24 J19 hlt ho.out;have E1:=zH (show wrap64 ((k:Int)+1)=(k:Int)+1 by have:=HN.out;unfold wrap64;omega);have t0:decide ((k:Int) < (n:Int))=true:=by simp;omega
   by_cases hk0:k=0
   ·rw[HG.out.1 x (by rw[<-hk0];exact hx)]at x1;have k0:((k:Int)==0)=true:=by simp;omega
    have k0':(k==0)=true:=by simp;omega
    have k1:decide ((0:Int) < (k:Int))=false:=by simp;omega
    have k1':decide (0 < k)=false:=by simp;omega
    clear hat hx hrx hk0;go_wp2;go_quiet (fail);go_wp2;go_quiet (fail);have e1:=E1.out;go_wp2;go_roundw
    case rel=>exact⟨k+1,by go_num,by omega,_,rfl⟩
    case measure=>clear e1;rw[E1.out];simp[intOf];omega
   ·obtain⟨j,hj⟩ : ∃j,j+1=k:=⟨k - 1,by omega⟩;obtain⟨y,hy⟩ : ∃y,l[j]? = some y:=⟨_,List.getElem?_eq_getElem (by rw[H.out.1];omega)⟩;obtain⟨ta,tc,hry,_⟩:=hat j y hy;obtain⟨o2,ho2⟩:=zX (off+j * 19);rw[ho2.out]at hry;have y0:w.cell? ⟨b,o2,none⟩=some (.int .i64 y.house):=hry 0 _ rfl;have y1:w.cell? ⟨b,o2+1,none⟩=some (.int .i64 y.num):=hry 1 _ rfl;have hix2:=fun W=>Yk (W:=W) (c:=c) (b:=b) Tryz.underlying24 J19 (show j < n by omega) ho2.out;have em:wrap64 ((k:Int) - 1)=(j:Int):=by have:=HN.out;unfold wrap64;omega
    have k0:((k:Int)==0)=false:=by simp;omega
    have k0':(k==0)=false:=by simp;omega
    have k1:decide ((0:Int) < (k:Int))=true:=by simp;omega
    have k1':decide (0 < k)=true:=by simp;omega
    rcases HG.out.2 j y x hy (by rw[hj];exact hx)with ⟨g1,g2,g3,g4⟩ | ⟨g1,g2⟩
    focus
     rw[g1]at y0;rw[g2]at x1;have en:wrap64 (y.num+1)=y.num+1:=by unfold wrap64;omega
     have m0:(x.house != x.house)=false:=by simp
     have m1:(y.num+1 != y.num+1)=false:=by simp
     have m2:decide (x.house < x.house)=false:=by simp
     clear hat hx hrx hy hry g1 g2 g3 g4 hj hk0
    rotate_left
    focus
     rw[g2]at x1;have m0:(y.house != x.house)=true:=by simp;omega
     have m2:decide (x.house < y.house)=false:=by simp;omega
     clear hat hx hrx hy hry g1 g2 hj hk0
    all_goals
     go_wp2;go_quiet (fail);go_wp2;go_quiet (fail);have e1:=E1.out;go_wp2;go_roundw
     case rel=>exact⟨k+1,by go_num,by omega,_,rfl⟩
     case measure=>clear e1;rw[E1.out];simp[intOf];omega
  ·have t0:decide ((k:Int) < (n:Int))=false:=by simp;omega
   go_wp2;go_ret;exact⟨rfl,_,rfl⟩
end Go.Proofs.YtlnhppgfhkkidaaGreat
