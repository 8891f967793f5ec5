/- Parts of the proof, in order. -/
import Derived.Maps.Views
import Derived.SizedLaws
import Derived.Test.YtlnhppgfhkkidaaGreatKPst8
set_option linter.unusedSimpArgs false
set_option linter.unusedVariables false
set_option maxHeartbeats 32000000
set_option maxRecDepth 100000
namespace Go.Proofs.YtlnhppgfhkkidaaGreat
open Go.Proofs.Tryz renaming prog → zq
open Go.RowKit
theorem Z6Y (p:Nat)(F:Nat->Prop)(V:ZO)(a:Ji)(sa:zA)(sc:Nat)(w:World)(h:VO w p F V):
  Calls zq 92 #[.pointer (some ⟨p,0,none⟩),.agg (a.cells sa sc).toArray] w fun e w'=>e = .returned (.int .i64 (XQ V a).2)/\Yr w p F (XQ V a).1 w':=by
 have b0:=zB w (.cells (a.cells sa sc).toArray 67);have C3:=zH (show(a.cells sa sc).toArray[3]? = some (.int .i64 a.idx)from rfl);obtain⟨OA,hOA⟩:=zX ((a.cells sa sc).toArray);rw[hOA.out]at b0 C3 ⊢;have X0:=zH (Za w (.cells OA 67));have H0:=zH (h.below Zl b0);have B0:=zH b0;obtain⟨Y,hY⟩:=zX (XQ V a);rw[hY.out];clear b0 hOA h;go_enter Tryz.func92,Tryz.ntmps92;go_upto_region 1 with fail;obtain⟨p3,hp3⟩:=zX (w.heap.size);rw[hp3.out]at X0 ⊢;generalize w.alloc (.cells OA 67)=W0 at *;have RF:=zH ((QK.refl H0.out).after B0.out);obtain⟨ps,Fs,ha,hc,xs,ma,mc,h1,h2⟩:=H0.out.open;have c1:=Z6 X0.out 3 (.int .i64 a.idx) C3.out;have c2:=Z6 h1.blk 1 (.slice ma xs.length mc) rfl;cases hm:Uj V a.idx with
 | none=>
  have R:Hid (Y=(V,3)):=zH (hY.out.symm.trans (by unfold XQ;rw[hm]));have RG:=zH (fun n=>RF.out.then Zl (below_drewN (Below.refl W0.heap.size W0) n));have hn:=Z5A hm;rw[h1.nm]at hn;rcases Int.lt_or_le a.idx 0 with hi0 | hi0
  focus
   have t1:decide (a.idx < 0)=true:=by simp[hi0]
  rotate_left
  focus
   have t1:decide (a.idx < 0)=false:=by simp;omega
   have t2:decide ((xs.length:Int)<=a.idx)=true:=by simp;omega
  all_goals
   clear hn hi0 hm hY h1 h2;go_quiet (fail);go_wp2;go_ret;rw[R.out];exact⟨rfl,RG.out _⟩
 | some m=>
 obtain⟨k,ei,ek,hk⟩:=UW hm;have hkx:k < xs.length:=by rw[<-h1.nm];exact(List.getElem?_eq_some_iff.1 hk).1
 obtain⟨x,hx,hxm⟩ : ∃x,xs[k]? = some x/\x.m=m:=by
  rw[<-h1.mls,List.getElem?_map]at hk;cases hq:xs[k]? with
  | none=>rw[hq]at hk;cases hk
  | some x=>rw[hq]at hk;exact⟨x,rfl,Option.some.inj hk⟩
 have t1:decide (a.idx < 0)=false:=by simp;omega
 have t2:decide ((xs.length:Int)<=a.idx)=false:=by simp;omega
 have hr:=Y3.of_own h1.mrow;have hmx:=hr.maxn;obtain⟨b,off,rfl,hat⟩:=Zdw hr (by omega);have HX:=zH (show W0.rangeAt b (off+k * 3) x.cells from fun j v hv=>by
  rw[Nat.add_assoc];exact hat _ v (Z1w hx j v hv))
 have HIX:=zH (show ∀W:World,(Instr.indexAt 89 (.slice (some ⟨b,off,none⟩) xs.length mc) (.int .i64 a.idx)).run zq W = .ok (.pointer (some ⟨b,off+k * 3,none⟩)) W from fun W=>by rw[ei];exact Yi (W:=W) (c:=mc) (b:=b) (off:=off) Tryz.underlying89 (show(zq.info? 152).map (·.size)=some 3 by kernel_rfl) hkx (rfl:off+k * 3=off+k * 3));have J3:=zH (show(zq.info? 152).map (·.size)=some x.cells.length from by kernel_rfl);have H1:=zH h1;have H2:=zH h2;have HXM:=zH (List.mem_of_getElem? hx);have HMM:=zH hxm;by_cases hf:64<=V.ms.length
 ·have R:Hid (Y=(V,2)):=zH (hY.out.symm.trans (by unfold XQ;rw[hm];exact if_pos hf));have FU:=zH (fun n=>Z0S (h1.below Zl (below_drewN (Below.refl W0.heap.size W0) n)));rw[show decide (64<=V.ms.length)=true by simp[hf]]at FU;have RG:=zH (fun n=>RF.out.then Zl (below_drewN (Below.refl W0.heap.size W0) n));clear h1 h2 hm hY hf hr hmx hat hx hxm hkx ei ek hk;go_quiet (fail);go_wp2_with fail;refine(FU.out _).mono ?_;rintro e w2 ⟨rfl,rfl⟩;go_wp2;go_ret;rw[R.out];exact⟨rfl,RG.out _⟩
 have R:Hid (Y=(Vy V m,0)):=zH (hY.out.symm.trans (by unfold XQ;rw[hm];exact if_neg hf));have FU:=zH (fun n=>Z0S (h1.below Zl (below_drewN (Below.refl W0.heap.size W0) n)));rw[show decide (64<=V.ms.length)=false by simp[hf]]at FU;have LN:=zH (show xs.length < 64 by have:=h1.nm;omega);have BN:=zH (fun n=>below_drewN (Below.refl W0.heap.size W0) n);clear h1 h2 hm hY hf hr hmx hat hx hxm hkx ei ek hk;go_quiet (fail);go_wp2_with fail;refine(FU.out _).mono ?_;rintro e w2 ⟨rfl,rfl⟩;go_upto_region 5 with fail;refine bD 17 (fun W'=>W'.heap[p]? = some (.cells #[.slice ha ps.length hc,.slice (some ⟨b,off,none⟩) xs.length mc] 141)/\W'.heap[p3]? = some (.cells OA 67)) ⟨H1.out.blk,X0.out⟩ (fun hh=>?_);have BV:=zH (show Below W0.heap.size W0 (W0.drewN nq).drew from(BN.out nq).drew);have HXV:=zH (show(W0.drewN nq).drew.rangeAt b (off+k * 3) x.cells from fun j v hv=>HX.out j v hv);clear c1 c2 t1 t2 FU HX;generalize (W0.drewN nq).drew=V2 at *;refine bW 0 rfl (.pointer (some ⟨p,0,none⟩)) ?_;refine bW 1 rfl (.pointer (some ⟨p,0,none⟩)) ?_;refine bW 2 rfl (.pointer (some ⟨p,0,none⟩)) ?_;refine bW 3 rfl (.pointer (some ⟨p,1,none⟩)) ?_;refine bS 4 rfl (.slice (some ⟨b,off,none⟩) xs.length mc) (fun W hW=>by have c:=Z6 hW.1 1 (.slice (some ⟨b,off,none⟩) xs.length mc) rfl;go_simp) ?_;refine bW 5 rfl (.pointer (some ⟨p,0,none⟩)) ?_;refine bW 6 rfl (.pointer (some ⟨p,0,none⟩)) ?_;refine bW 7 rfl (.pointer (some ⟨p,1,none⟩)) ?_;refine bS 8 rfl (.slice (some ⟨b,off,none⟩) xs.length mc) (fun W hW=>by have c:=Z6 hW.1 1 (.slice (some ⟨b,off,none⟩) xs.length mc) rfl;go_simp) ?_;refine bW 9 rfl (.pointer (some ⟨p3,3,none⟩)) ?_;refine bS 10 rfl (.int .i64 a.idx) (fun W hW=>by have c:=Z6 hW.2 3 (.int .i64 a.idx) C3.out;go_simp) ?_;refine bS 11 rfl (.pointer (some ⟨b,off+k * 3,none⟩)) (fun W hW=>by have h:=HIX.out W;go_simp) ?_;refine bR 12 rfl (fun K hK=>?_);rw[if_pos (by kernel_rfl)];refine wp_load_mid 152 _ rfl b (off+k * 3) rfl x.cells _ HXV.out Tryz.underlying152 rfl (by exact J3.out) ?_;refine bK hK hh (fun hh=>?_)
 clear hK K;refine bR 13 rfl (fun K hK=>?_);rw[if_pos (by kernel_rfl)];refine Jc (w':=V2.alloc (.cells #[.int .i64 x.m.frm,.int .i64 x.m.to,x.val] 152)) (.slice (some ⟨V2.heap.size,0,none⟩) 1 1) (by kernel_rfl) ?_;have b6:Below V2.heap.size V2 (V2.alloc (.cells #[.int .i64 x.m.frm,.int .i64 x.m.to,x.val] 152)):=zB _ _;have R6:=zH (Z4i V2 (.int .i64 x.m.frm) (.int .i64 x.m.to) x.val);have B6:=zH (BV.out.trans (b6.mono BV.out.size));have hS6:=And.intro (Z7 b6 hh.1) (Z7 b6 hh.2);clear b6 hh;obtain⟨p6,hp6⟩:=zX (V2.heap.size);rw[hp6.out]at R6 ⊢;generalize V2.alloc (.cells #[.int .i64 x.m.frm,.int .i64 x.m.to,x.val] 152)=V6 at *;refine bK hK hS6 (fun hh=>?_);clear hK K hS6;refine bR 14 rfl (fun K hK=>?_);rw[if_pos (by kernel_rfl)];obtain⟨a7,c7,V7,hrun,ho,hg,hl⟩:=Z1t V6 0 (some ⟨b,off,none⟩) xs.length mc (ZD xs) (Zd H1.out.mrow B6.out) (some ⟨p6,0,none⟩) 1 1 _ R6.out (by intro u hu;simp at hu;rcases hu with rfl | rfl | rfl <;> rfl) (by have:=LN.out;omega) (Nat.zero_le _);refine Y4 _ _ _ rfl _ _ _ rfl rfl hrun ?_;clear hrun;have HO:=zH ho;have HG:=zH hg;have HL:=zH hl;have hne : ∀{cur:Y6} {t:TypeId} {g:Nat},V6.heap[g]? = some (.cells cur t (0,0))->152≠t->Value.ownBlock (.slice (some ⟨b,off,none⟩) xs.length mc)≠some g:=fun hgg ht=>ZK (Zd H1.out.mrow B6.out) hgg ht;have hS7:=And.intro (Zc hg hh.1 (Ne.symm (hne hh.1 (by decide)))) (Zc hg hh.2 (Ne.symm (hne hh.2 (by decide))));clear ho hg hl hne hh;refine bK hK hS7 (fun hh=>?_);clear hK K hS7;refine bR 15 rfl (fun K hK=>?_);go_simp;refine bK hK hh (fun hh=>?_);clear hK K;refine bW 16 rfl (.pointer (some ⟨p,1,none⟩)) ?_;refine bL rfl (fun K hK=>?_);have hce:=Z6 hh.1 1 (.slice (some ⟨b,off,none⟩) xs.length mc) rfl;have hfz:=Zq hh.1 1;have P8:(V7.setCell ⟨p,1,none⟩ (.slice a7 (xs.length+1) c7)).heap[p]? = some (.cells #[.slice ha ps.length hc,.slice a7 (xs.length+1) c7] 141):=ZM hh.1 1 _;have FIN:Hid (Yr w p F (Vy V x.m) (V7.setCell ⟨p,1,none⟩ (.slice a7 (xs.length+1) c7))):=zH (by
  rw[H2.out];refine QK.after (w:=W0) ?_ B0.out;exact H1.out.send Zl (by decide) (by decide) (by decide) (by decide) (by decide) x B6.out (Zd (H1.out.bod x HXM.out) B6.out) (fun j hj=>.inr ⟨x,HXM.out,hj⟩) (ma':=a7) (mc':=c7) HO.out HG.out HL.out P8 (JN V7 p 1 _))
 clear P8 hh;go_simp;refine hK.out _ _ ?_;clear hK K hce hfz;refine bE ?_;go_wp2;go_ret;rw[R.out,<-HMM.out];exact⟨rfl,FIN.out⟩
def Z2X (V:ZO)(w:World)(h:Int)(e:Ending)(W:World):Prop:=match YA V h with
 | none=>e = .returned (.tuple #[.slice none 0 0,.int .i64 3])
 | some S => ∃a un c zs,e = .returned (.tuple #[.slice a un c,.int .i64 0])/\Vq w W a c un zs/\zs.map LN.n=S.l
theorem Z8o (p:Nat)(F:Nat->Prop)(V:ZO)(i:Int)(w:World)(h:VO w p F V)(h0:0 < V.hs.length)(hi : ∀S∈V.hs,Xh S/\S.l.length<=400):
  Calls zq 30 #[.pointer (some ⟨p,0,none⟩),.int .i64 i] w fun e w'=>Z2X V w i e w'/\Below w.heap.size w w':=by
 obtain⟨ps,Fs,ha,hc,xs,ma,mc,h1,h2⟩:=h.open;have HM:=zH (VQ h1 (by rw[<-h1.nh];exact h0));cases hT:YA V i with
 | none=>
  have HT:=zH (Z0v h1 i (by have:=Z2N hT;rw[h1.nh]at this;exact this));have R:Hid (∀e W,e = .returned (.tuple #[.slice none 0 0,.int .i64 3])->Z2X V w i e W):=zH (fun e W h=>by unfold Z2X;rw[hT];exact h);clear h1 h2 h hT h0 hi;go_enter Tryz.func30,Tryz.ntmps30;go_wp2_with fail;refine HM.out.mono ?_;rintro e w1 ⟨rfl,rfl⟩;go_wp2_with fail;refine HT.out.mono ?_;rintro e w1 ⟨rfl,rfl⟩;go_wp2_with fail;go_returns;exact⟨R.out _ _ rfl,Below.refl _ _⟩
 | some S=>
  obtain⟨k,q,Fk,e1,e2,g1,g2,g3,g4⟩:=h1.at hT;have HT:=zH (Xj h1 i k q e1 g1);obtain⟨mb,sp,G,SF,k1,k2⟩:=g3;have HK:=zH k1;have HI:=zH (hi S (List.mem_of_getElem? g4));have R:Hid (∀e W,(∃a un c zs,e = .returned (.tuple #[.slice a un c,.int .i64 0])/\Vq w W a c un zs/\zs.map LN.n=S.l)->Z2X V w i e W):=zH (fun e W h=>by unfold Z2X;rw[hT];exact h);clear h1 h2 h hT h0 hi e1 e2 g1 g2 g4 k1 k2;go_enter Tryz.func30,Tryz.ntmps30;go_wp2_with fail;refine HM.out.mono ?_;rintro e w1 ⟨rfl,rfl⟩;go_wp2_with fail;refine HT.out.mono ?_;rintro e w1 ⟨rfl,rfl⟩;go_wp2_with fail;refine(Z7R q mb sp G SF S _ HK.out HI.out.1 HI.out.2).mono ?_;rintro e w2 ⟨⟨a,un,c,zs,rfl,m1,m2⟩,b1⟩;have M1:=zH m1;have M2:=zH m2;have BB:=zH b1;clear m1 m2 b1;go_wp2_with fail;go_returns;exact⟨R.out _ _ ⟨a,un,c,zs,rfl,M1.out,M2.out⟩,BB.out⟩
section
variable {PH:World->Nat->(Nat->Prop)->Zf->Prop}{tW tH:TypeId}{bf:Value->Value->Y6}{w w1 w2 w3:World}{p:Nat}{ps:List Nat}{Fs:List (Nat->Prop)}{ha:zA}{hc:Nat}{xs:List LM}{ma:zA}{mc:Nat}{V:ZO}
theorem UK.pushH (hp:Qf PH)(h:UK PH tW tH bf w p ps Fs ha hc xs ma mc V)(n1:152≠tH)(n2:152≠tW)(n3:tH≠tW)(n4:5≠tH)(n5:5≠tW)(hb1:Below w.heap.size w w1){q:Nat}{F:Nat->Prop}{S:Zf}(hS:PH w1 q F S)(hF : ∀k,F k->w.heap.size<=k)
  {ha':zA} {hc':Nat} (ho:w2.ownsRow 0 tH 1 (.slice ha' (ps.length+1) hc') (ps.length+1) ((ps.map fun q=>Value.pointer (some ⟨q,0,none⟩)) ++ [.pointer (some ⟨q,0,none⟩)])) (hg:w1.grownBy w2 (Value.ownBlock (.slice ha ps.length hc))) (hl:ha'=ha\/ha'=some ⟨w1.heap.size,0,none⟩)
  (hb:w3.heap[p]? = some (.cells (bf (.slice ha' (ps.length+1) hc') (.slice ma xs.length mc)) tW (0,0))) (hs:Zb (fun k=>k=p) w2 w3):
  UK PH tW tH bf w3 p (ps ++ [q]) (Fs ++ [F]) ha' hc' xs ma mc { V with hs:=V.hs ++ [S] } /\ Zb (wF p Fs ha ps.length hc xs ma mc) w w3 /\ ∀k,wF p (Fs ++ [F]) ha' (ps ++ [q]).length hc' xs ma mc k->wF p Fs ha ps.length hc xs ma mc k\/w.heap.size<=k:=by
 have e1:ps.length+1=(ps ++ [q]).length:=by simp
 have e2:(ps.map fun q=>Value.pointer (some ⟨q,0,none⟩)) ++ [.pointer (some ⟨q,0,none⟩)]=(ps ++ [q]).map fun q=>Value.pointer (some ⟨q,0,none⟩):=by simp
 rw[e2,e1]at ho;rw[e1]at hb;have hpw:=Zk h.blk;have hX:Zb (fun k=>k=p\/Value.ownBlock (.slice ha ps.length hc)=some k) w w3:=by
  have g1:Zb (fun k=>k=p\/Value.ownBlock (.slice ha ps.length hc)=some k) w w1:=Zb.of_below hb1;exact(g1.trans (Zb.of_grown hg (fun k hk=>.inr hk))).trans (hs.weaken fun k hk=>.inl hk)
 have hX1:Zb (fun k=>k=p\/Value.ownBlock (.slice ha ps.length hc)=some k) w1 w3:=(Zb.of_grown (S:=fun k=>k=p\/Value.ownBlock (.slice ha ps.length hc)=some k) hg (fun k hk=>.inr hk)).trans (hs.weaken fun k hk=>.inl hk);have hrl : ∀k,Value.ownBlock (.slice ha ps.length hc)=some k->k < w.heap.size:=fun k hk=>(h.hrow.lt k hk).2;have hm2 : ∀k,Value.ownBlock (.slice ha' (ps ++ [q]).length hc')=some k->Value.ownBlock (.slice ha ps.length hc)=some k\/k=w1.heap.size:=fun k hk=>Jb (n:=ps.length) (c:=hc) hl hk;have hFlt:=hp.lt hS;have hsz:=hb1.size;obtain⟨u1,u2⟩:=h.hs.push hp hb1 hS hF;have hany : ∀k,Z0i (Fs ++ [F]) k->k < w1.heap.size:=u1.lt hp;refine⟨⟨hb,?_,?_,?_,h.mls,fun y hy=>?_,fun hk=>?_,fun k hk hb2=>?_,fun k hk hb2=>?_,fun k hk y hy hb2=>?_⟩,hX.weaken (fun k hk=>?_),fun k hk=>?_⟩
 ·refine Ze ho hs (fun b hb2 e=>?_);rw[show b=p from e]at hb2;rcases hm2 p hb2 with h5 | h5
  ·exact ZK h.hrow h.blk n3 h5
  ·omega
 ·refine u1.same hp hX1 (fun k hk hF2=>?_);rcases u2 k hF2 with h5 | h5
  ·rcases hk with e | e
   ·exact h.sp (e ▸ h5)
   ·exact h.sh k h5 e
  ·rcases hk with e | e
   ·omega
   ·have:=hrl k e;omega
 ·refine Ze h.mrow hX (fun b hb2 e=>?_);rcases e with e | e
  ·exact ZK h.mrow h.blk n2 (e ▸ hb2)
  ·exact Qx h.mrow h.hrow n1 b hb2 e
 ·refine Ze (h.bod y hy) hX (fun b hb2 e=>?_);rcases e with e | e
  ·exact ZK (h.bod y hy) h.blk n5 (e ▸ hb2)
  ·exact Qx (h.bod y hy) h.hrow n4 b hb2 e
 ·rcases u2 p hk with h5 | h5
  ·exact h.sp h5
  ·omega
 ·have h7:=hany k hk;rcases hm2 k hb2 with h6 | h6
  ·rcases u2 k hk with h5 | h5
   ·exact h.sh k h5 h6
   ·have:=hrl k h6;omega
  ·omega
 ·rcases u2 k hk with h5 | h5
  ·exact h.sm k h5 hb2
  ·have:=(h.mrow.lt k hb2).2;omega
 ·rcases u2 k hk with h5 | h5
  ·exact h.sb k h5 y hy hb2
  ·have:=((h.bod y hy).lt k hb2).2;omega
 ·rcases hk with e | e
  ·exact .inl e
  ·exact .inr (.inl e)
 ·rcases hk with e | e | e | e | e
  ·exact .inl (.inl e)
  ·rcases hm2 k e with h6 | h6
   ·exact .inl (.inr (.inl h6))
   ·exact .inr (by omega)
  ·exact(u2 k e).imp (fun e=>.inr (.inr (.inl e))) id
  ·exact .inl (.inr (.inr (.inr (.inl e))))
  ·exact .inl (.inr (.inr (.inr (.inr e))))
end
def Z1T (f:Yo)(k:Nat):ZO:=⟨f,(List.range k).map fun(i:Nat)=>Zf.new f ((i:Int)+1),[]⟩
theorem Zah (f:Yo)(k:Nat): { Z1T f k with hs:=(Z1T f k).hs ++ [Zf.new f ((k:Int)+1)] } = Z1T f (k+1):=by
 unfold Z1T;rw[List.range_succ,List.map_append];rfl
theorem ZdU:(zq.info? 27).map (fun i=>(i.zero,i.size,i.bytes))=some (some (.pointer none),1,8):=by kernel_rfl
theorem Z8B (w:World)(base:Nat)(sa:zA)(sn sc:Nat)(xs:List Value)(hown:w.ownsRow base 27 1 (.slice sa sn sc) sn xs)(xa:zA)(m xc:Nat)(ys:List Value)(hrd:Y3 w 1 xa m xc ys)(h1 : ∀u∈ys,u.oneCell'=true)
  (hbytes:(sn+m) * 8<=140737488355328) (hbase:base<=w.heap.size):
  ∃a' c' w',(Builtin.append_ #[139,139] 139 #[.slice sa sn sc,.slice xa m xc]).run zq w = .ok (.slice a' (sn+m) c') w'/\w'.ownsRow base 27 1 (.slice a' (sn+m) c') (sn+m) (xs ++ ys)/\w.grownBy w' (Value.ownBlock (.slice sa sn sc))/\(a'=sa\/a'=some ⟨w.heap.size,0,none⟩):=by
 obtain⟨i,hi,hz0,hz1,hz2⟩:=info_parts ZdU;obtain⟨a',c',w',hr,h2,h3⟩:=Yu w base 139 139 27 i _ 1 8 Tryz.underlying139 hi hz0 hz1 hz2 rfl (by decide) sa sn sc xs hown xa m xc ys hrd h1 (by unfold maxLen;omega) hbytes hbase;have hloc:=Qv (P:=zq) w base 139 139 27 i _ 1 8 Tryz.underlying139 hi hz0 hz1 hz2 sa sn sc _ hown xa m xc _ hrd h1 (by unfold maxLen;omega) hbytes _ _ hr;refine⟨a',c',w',hr,h2,h3,?_⟩;rcases hloc with ⟨n',c'',h⟩ | ⟨n',c'',h⟩
 ·simp only[Value.slice.injEq]at h;exact .inl h.1
 ·simp only[Value.slice.injEq]at h;exact .inr h.1
theorem ZdP (W:World)(q:Nat):Y3 (W.alloc (.cells #[.pointer (some ⟨q,0,none⟩)] 27)) 1 (some ⟨W.heap.size,0,none⟩) 1 1 [.pointer (some ⟨q,0,none⟩)]:=
 Y3.of_own (World.ownsRow_lit (base:=W.heap.size) (e:=27) (size:=1) W #[.pointer (some ⟨q,0,none⟩)] 1 (Nat.le_refl _) (by unfold maxLen;omega) rfl)
theorem UK.empty (w:World)(f:Yo){p:Nat}(hb:w.heap[p]? = some (.cells #[.slice none 0 0,.slice none 0 0] 141)):UK UM 141 27 bfP w p [] [] none 0 [] none 0 (Z1T f 0):=
 ⟨hb,World.ownsRow_nil _ _ _ _,Um.nil w,World.ownsRow_nil _ _ _ _,rfl,fun x hx=>by simp at hx,fun⟨i,F,h,_⟩=>by simp at h,fun k ⟨i,F,h,_⟩=>by simp at h,fun k ⟨i,F,h,_⟩=>by simp at h,fun k ⟨i,F,h,_⟩=>by simp at h⟩
theorem Z7x (f:Yo)(m:Nat)(w:World)(hv:f.valid=true)(h1:1<=m)(h8:m<=8):
  Calls zq 29 #[f.val,.int .i64 (m:Int)] w fun e w' => ∃p F,e = .returned (.tuple #[.pointer (some ⟨p,0,none⟩),.int .i64 0])/\VO w' p F (Z1T f m)/\(∀k,F k->w.heap.size<=k)/\Below w.heap.size w w':=by
 have t1:decide ((m:Int) < 1)=false:=by simp;omega
 have t2:decide ((8:Int) < (m:Int))=false:=by simp;omega
 have b0:=zB w (zF f 23);have X0:=zH (Za w (zF f 23));have B0:=zH b0;have HV:=zH hv;have HM:=zH (show 1<=m/\m<=8 from⟨h1,h8⟩);clear b0 hv h1 h8;unfold Yo.val;go_enter Tryz.func29,Tryz.ntmps29;go_upto_region 1 with fail;obtain⟨pf,hpf⟩:=zX (w.heap.size);rw[hpf.out]at X0 ⊢;generalize w.alloc (zF f 23)=W0 at *;have c0:=Z6 X0.out 0 (.int .i64 f.rings) rfl;have c1:=Z6 X0.out 1 (.int .i64 f.sectors) rfl;have c2:=Z6 X0.out 2 (.int .i64 f.wide) rfl;go_wp2_with fail;refine(Vs f.rings f.sectors f.wide _).mono ?_;rintro e w1 ⟨rfl,b1⟩;rw[show Yo.valid ⟨f.rings,f.sectors,f.wide⟩=true from HV.out];have X1:=zH (Z7 b1 X0.out);have B1:=zH (B0.out.trans (b1.mono B0.out.size));clear b1 c0 c1 c2 t1 t2;go_upto_region 4 with fail;have b2:Below w1.heap.size w1 (w1.alloc (.cells #[.slice none 0 0,.slice none 0 0] 141)):=zB _ _;have E0:=UK.empty _ f (Za w1 (.cells #[.slice none 0 0,.slice none 0 0] 141));have X2:=zH (Z7 b2 X1.out);have B2:=zH (B1.out.trans (b2.mono B1.out.size));have PW:=zH (show w.heap.size<=w1.heap.size from B1.out.size);have NE:=zH (show pf < w1.heap.size from Zk X1.out);obtain⟨p,hp⟩:=zX (w1.heap.size);rw[hp.out]at E0 PW NE ⊢;have EE:=zH E0;clear b2 E0 X1 B1;generalize w1.alloc (.cells #[.slice none 0 0,.slice none 0 0] 141)=W2 at *;go_wp2_with fail;go_loopw [24] (fun iv wr=>∃(k:Nat) (ps:List Nat) (Fs:List (Nat->Prop)) (ha:zA) (hc:Nat),iv = .int .i64 (k:Int)/\k<=m/\Hid (UK UM 141 27 bfP wr p ps Fs ha hc [] none 0 (Z1T f k))/\Hid (Below w.heap.size w wr)/\Hid (wr.heap[pf]? = some (.cells #[.int .i64 f.rings,.int .i64 f.sectors,.int .i64 f.wide] 23))/\Hid (∀j,wF p Fs ha ps.length hc [] none 0 j->p<=j)) (fun iv _=>m - (intOf iv).toNat)
 case atStart=>
  refine⟨0,[],[],none,0,rfl,Nat.zero_le _,EE,B2,X2,zH (fun j hj=>?_)⟩;rcases hj with e | e | ⟨i,F,e,_⟩ | e | ⟨y,hy,_⟩
  ·rw[e];exact Nat.le_refl _
  ·simp[Value.ownBlock]at e
  ·simp at e
  ·simp[Value.ownBlock]at e
  ·simp at hy
 case round=>
  obtain⟨k,ps,Fs,ha,hc,rfl,hk,HA,HB,HX,HF⟩:=hrel;by_cases hlt:k < m
  ·have t1:decide ((k:Int) < (m:Int))=true:=by simp;omega
   have E1:=zH (show wrap64 ((k:Int)+1)=(k:Int)+1 by have:=HM.out;unfold wrap64;omega);have e1:=E1.out;have c0:=Z6 HX.out 0 (.int .i64 f.rings) rfl;have c1:=Z6 HX.out 1 (.int .i64 f.sectors) rfl;have c2:=Z6 HX.out 2 (.int .i64 f.wide) rfl;go_wp2_with fail;refine(Z56 f ((k:Int)+1) wr).mono ?_;rintro e W3 ⟨hr | ⟨_,_,q,mb,sp,rfl,hq,hqn⟩,b3⟩
   ·exact absurd ⟨HV.out,by omega,by have:=HM.out;omega⟩ hr.1
   have HQ:=zH (show UM W3 q (fun j=>Yl q mb (fun _=>none) (fun k=>k=sp) j) (Zf.new f ((k:Int)+1))from⟨mb,sp,_,_,hq,fun j=>Iff.rfl⟩);have HQN:=zH hqn;have B3:=zH b3;have b4:Below W3.heap.size W3 (W3.alloc (.cells #[.pointer (some ⟨q,0,none⟩)] 27)):=zB _ _;have B4:=zH (b3.trans (b4.mono b3.size));have HQ4:=zH (Zl.same HQ.out (X:=fun _=>False) (Zb.of_below b4) (fun _ e=>e.elim));have hby:(ps.length+1) * 8<=140737488355328:=by
    have h5:=HA.out.nh;have h6:(Z1T f k).hs.length=k:=by simp[Z1T]
    have:=HM.out;omega
   obtain⟨a7,c7,V7,hrun,ho,hg,hl⟩:=Z8B (W3.alloc (.cells #[.pointer (some ⟨q,0,none⟩)] 27)) 0 ha ps.length hc _ (Zd HA.out.hrow B4.out) (some ⟨W3.heap.size,0,none⟩) 1 1 _ (ZdP W3 q) (by intro u hu;simp at hu;subst hu;rfl) hby (Nat.zero_le _);have HR:=zH hrun;have HO:=zH ho;have HG:=zH hg;have HL:=zH hl;have P4:=Z7 B4.out HA.out.blk;have P7:=zH (Zc hg P4 (Ne.symm (ZK HA.out.hrow HA.out.blk (by decide))));have X7:=zH (Zc hg (Z7 B4.out HX.out) (fun e=>by have h5:=(HA.out.hrow.lt pf e.symm);have h6:=HF.out pf (.inr (.inl e.symm));have:=NE.out;omega));have d0:=Z6 (Z7 B3.out HA.out.blk) 0 (.slice ha ps.length hc) rfl;have d1:=Z6 P7.out 0 (.slice ha ps.length hc) rfl;have d2:=Zq P7.out 0;clear hq hqn b3 b4 hrun ho hg hl P4 c0 c1 c2 t1 e1;go_wp2_with (refine Ym rfl _ _ _ rfl _ _ _ rfl rfl HR.out ?_);go_roundw
   case rel=>
    have P8:(V7.setCell ⟨p,0,none⟩ (.slice a7 (ps.length+1) c7)).heap[p]? = some (.cells (bfP (.slice a7 (ps.length+1) c7) (.slice none 0 0)) 141 (0,0)):=ZM P7.out 0 _;have s8:=JN V7 p 0 (.slice a7 (ps.length+1) c7);obtain⟨u1,u2,u3⟩:=HA.out.pushH Zl (by decide) (by decide) (by decide) (by decide) (by decide) B4.out HQ4.out HQN.out (ha':=a7) (hc':=c7) HO.out HG.out HL.out P8 s8;rw[Zah]at u1;refine⟨k+1,ps ++ [q],Fs ++ [fun j=>Yl q mb (fun _=>none) (fun k=>k=sp) j],a7,c7,by go_num,by omega,zH u1,zH (u2.below HB.out HB.out.size (fun j hj=>Nat.le_trans PW.out (HF.out j hj))),zH ((s8.block pf (Zk X7.out) (by have:=NE.out;omega)).trans X7.out),zH (fun j hj=>?_)⟩;rcases u3 j hj with h5 | h5
    ·exact HF.out j h5
    ·have:=Zk HA.out.blk;omega
   case measure=>simp[intOf];omega
  ·have hkm:k=m:=by omega
   subst hkm;have t1:decide ((k:Int) < (k:Int))=false:=by simp
   have FIN:=zH (show VO wr p (wF p Fs ha ps.length hc [] none 0) (Z1T f k)from⟨ps,Fs,ha,hc,[],none,0,HA.out,fun j=>Iff.rfl⟩);go_wp2_with fail;go_returns;exact⟨p,_,rfl,FIN.out,fun j hj=>Nat.le_trans PW.out (HF.out j hj),HB.out⟩
theorem Z7y (f:Yo)(n:Int)(w:World)(hno : ¬(1<=n/\n<=8/\f.valid=true)):
  Calls zq 29 #[f.val,.int .i64 n] w fun e w'=>e = .returned (.tuple #[.pointer none,.int .i64 1])/\Below w.heap.size w w':=by
 have b0:=zB w (zF f 23);have X0:=zH (Za w (zF f 23));have B0:=zH b0;have HN:=zH hno;clear b0 hno;unfold Yo.val;go_enter Tryz.func29,Tryz.ntmps29;go_upto_region 1 with fail;obtain⟨pf,hpf⟩:=zX (w.heap.size);rw[hpf.out]at X0 ⊢;generalize w.alloc (zF f 23)=W0 at *;by_cases h1:n < 1
 ·have t1:decide (n < 1)=true:=by simp[h1]
  clear h1;go_wp2_with fail;go_returns;exact⟨rfl,B0.out⟩
 have t1:decide (n < 1)=false:=by simp;omega
 by_cases h2:8 < n
 ·have t2:decide (8 < n)=true:=by simp[h2]
  clear h1 h2;go_wp2_with fail;go_returns;exact⟨rfl,B0.out⟩
 have t2:decide (8 < n)=false:=by simp;omega
 have HV:=zH (show f.valid=false by
  cases hv:f.valid with
  | false=>rfl
  | true=>exact absurd ⟨by omega,by omega,hv⟩ HN.out)
 clear h1 h2;have c0:=Z6 X0.out 0 (.int .i64 f.rings) rfl;have c1:=Z6 X0.out 1 (.int .i64 f.sectors) rfl;have c2:=Z6 X0.out 2 (.int .i64 f.wide) rfl;go_wp2_with fail;refine(Vs f.rings f.sectors f.wide _).mono ?_;rintro e w1 ⟨rfl,b1⟩;rw[show Yo.valid ⟨f.rings,f.sectors,f.wide⟩=false from HV.out];have B1:=zH (B0.out.trans (b1.mono B0.out.size));clear b1 c0 c1 c2 t1 t2;go_wp2_with fail;go_returns;exact⟨rfl,B1.out⟩
theorem Zbt {k:Nat}(h:k<=1000000000):Yk (k:Int):=by unfold Yk far;omega
theorem Z4k {k:Nat}{t:zU}(hk:k<=t.length)(h:k<=1000000000):U6 Xu (Yh (k:Int) ++ t)=some (k,t):=by
 unfold U6;rw[Vj (Zbt h)];simp only;rw[if_pos ⟨by omega,by omega⟩,Int.toNat_natCast]
theorem ZaJ {c:List Int}{k:Nat}{z:Int}(h:c[k]? = some z):Zt (c.drop k)=Yh z ++ Zt (c.drop (k+1)):=by
 obtain⟨hk,e⟩:=List.getElem?_eq_some_iff.1 h;rw[List.drop_eq_getElem_cons hk,e];simp[Zt]
theorem Zab {c:List Int}{k:Nat}{z:Int}(h:c[k]? = some z)(hs:Yk z):Xu (Zt (c.drop k))=some (z,Zt (c.drop (k+1))):=by
 rw[ZaJ h];exact Vj hs _
theorem Zdm (c:List Int):Xu (Xe.ask c).body=some (1,Yh (c.length:Int) ++ Zt c):=Vj (by unfold Yk far;omega) _
theorem Zc6 (l:List Z8):Xu (Xe.gift l).body=some (2,Yh (l.length:Int) ++ Yy l):=Vj (by unfold Yk far;omega) _
theorem Zdn {c:List Int}(h:c.length<=1000000000):U6 Xu (Yh (c.length:Int) ++ Zt c)=some (c.length,Zt c):=Z4k (Z4C c) h
theorem Z8Z {l:List Z8}{k:Nat}{x:Z8}(h:l[k]? = some x):Yy (l.drop k)=Yh ((Y5 x).length:Int) ++ (Y5 x ++ Yy (l.drop (k+1))):=by
 obtain⟨hk,e⟩:=List.getElem?_eq_some_iff.1 h;rw[List.drop_eq_getElem_cons hk,e];simp[Yy]
theorem Z5O {l:List Z8}{k:Nat}{x:Z8}(h:l[k]? = some x)(hx:(Y5 x).length<=1000000000):U6 Xu (Yy (l.drop k))=some ((Y5 x).length,Y5 x ++ Yy (l.drop (k+1))):=by
 rw[Z8Z h];exact Z4k (by rw[List.length_append];omega) hx
theorem Zch (z:Int):1<=(Yh z).length:=by
 have h:=Z4C [z];rw[JJ]at h;exact h
theorem Z5P: ∀l:List Z8,l.length<=(Yy l).length
 | []=>Nat.zero_le _
 | x :: l=>by
  have h1:=Z5P l
  have h2:=Zch ((Y5 x).length:Int)
  show _<=((Yh ((Y5 x).length:Int) ++ Y5 x) ++ Yy l).length
  rw[List.length_append,List.length_append,List.length_cons]
  omega
theorem Zc7 {l:List Z8}(h:l.length<=1000000000):U6 Xu (Yh (l.length:Int) ++ Yy l)=some (l.length,Yy l):=Z4k (Z5P l) h
theorem Z3a (bA bC bH bG:Nat)(l:zU)(a:zA)(n c:Nat)(w:World)(R:World->Prop)(h:Ye w a n c l)
  (hrun : ∀rp W,w.heap.size < rp->Below w.heap.size w W->RdP W rp l a n c->W.heap[w.heap.size]? = some (.cells #[.bool false] 4)->
   Calls zq 145 #[.pointer (some ⟨rp,0,none⟩),.pointer (some ⟨bA,0,none⟩),.pointer (some ⟨bC,0,none⟩),.pointer (some ⟨bH,0,none⟩),.pointer (some ⟨bG,0,none⟩)] W fun e w'=>e = .returned (.tuple #[])/\w'.heap[w.heap.size]? = some (.cells #[.bool false] 4) /\ ∀W4,Zb (fun k=>k=w.heap.size) w' W4->W4.heap[w.heap.size]? = some (.cells #[.bool true] 4)->R W4):
  Calls zq 129 #[.slice a n c,.func (.func 145) #[] #[.pointer (some ⟨bA,0,none⟩),.pointer (some ⟨bC,0,none⟩),.pointer (some ⟨bH,0,none⟩),.pointer (some ⟨bG,0,none⟩)]] w fun e w'=>e = .returned (.bool true)/\R w':=by
 have hmf : ∀(fn:Fn) (first cap:Y6) (w:World),(Instr.makeFunc fn first cap).run zq w = .ok (.func fn first cap) w:=fun _ _ _ _=>rfl;have HR:=zH hrun;clear hrun;go_enter_defers Tryz.func129,Tryz.ntmps129;go_wp2_with fail;obtain⟨p,hp⟩:=zX (w.heap.size);obtain⟨rp,hrp⟩:=zX (w.heap.size+1);have b2:Below w.heap.size w ((w.alloc (.cells #[.bool false] 4)).alloc (.cells #[.slice a n c] 236)):=(zB _ _).alloc (by simp) _;have g1:((w.alloc (.cells #[.bool false] 4)).alloc (.cells #[.slice a n c] 236)).heap[p]? = some (.cells #[.bool false] 4):=by rw[<-hp.out];exact Z9 _ _ _ _ (Za _ _)
 have g2:((w.alloc (.cells #[.bool false] 4)).alloc (.cells #[.slice a n c] 236)).heap[rp]? = some (.cells #[.slice a n c] 236):=by rw[<-hrp.out];exact Zy _ _ _ (by simp)
 rw[hrp.out,hp.out];generalize (w.alloc (.cells #[.bool false] 4)).alloc (.cells #[.slice a n c] 236)=w2 at *;refine(HR.out rp w2 (by have:=hrp.out;omega) b2 ⟨g2,Ye.below h b2⟩ (by rw[hp.out];exact g1)).mono ?_;rintro e w3 ⟨rfl,k1,K4⟩;rw[hp.out]at k1;have KR:=zH K4;clear K4;have c1:w3.cell? ⟨p,0,none⟩=some (.bool false):=Z6 k1 0 _ rfl;have f1:=Zq k1 0;have k2:=heap_setCell_same w3 p 0 _ _ (.bool true) k1;have c2:(w3.setCell ⟨p,0,none⟩ (.bool true)).cell? ⟨p,0,none⟩=some (.bool true):=Z6 k2 0 _ rfl;have FIN:Hid (R (w3.setCell ⟨p,0,none⟩ (.bool true))):=zH (KR.out _ (by rw[hp.out];exact VE w3 p 0 (.bool true)) (by rw[hp.out];exact k2));go_wp2_with fail;refine leaves_cons (f:=179) (args := #[.pointer (some ⟨p,0,none⟩)]) (by simp) (by simp[go_sem]) ?_;refine(Z4K p _).mono ?_;rintro e u' w'' ⟨rfl,rfl,rfl⟩;simp[Leaves,settle,results,Tryz.results129,go_sem];exact⟨.bool true,by rw[c2],rfl,FIN.out⟩
theorem Z2n (rp:Nat)(x t:zU)(k:Nat)(a:zA)(n c:Nat)(w:World)(h:RdP w rp (x ++ t) a n c)(hk:x.length=k)(hs:k<=1000000000):
  Calls zq 148 #[.pointer (some ⟨rp,0,none⟩),.int .i64 (k:Int)] w fun e w' => ∃a1 c1 a2 n2 c2,e = .returned (.slice a1 k c1)/\Ye w' a1 k c1 x/\RdP w' rp t a2 n2 c2/\Zb (fun k=>k=rp) w w'/\(∀W,Ye W a n c (x ++ t)->Ye W a2 n2 c2 t):=by
 have hn:n=k+t.length:=by have:=h.r.1;rw[List.length_map,List.length_append,hk]at this;simpa using this.symm
 have hkn:k<=n:=by omega
 have HKN:=zH hkn;have c0:w.cell? ⟨rp,0,none⟩=some (.slice a n c):=Z6 h.e 0 _ rfl;have f0:=Zq h.e 0;have hr:=zH h.r;have HH:=zH h;clear h;have hlt:decide ((k:Int) < 0)=false:=by simp
 have hgt:decide (n < k)=false:=by simp;omega
 have hgt2:decide ((n:Int) < (k:Int))=false:=by simp;omega
 have HK:=zH hk;have EN:=zH hn;clear hk hn hs hkn;go_enter Tryz.func148,Tryz.ntmps148;go_wp2_with (first
  |(refine Z1K _ rfl _ _ none rfl _ _ _ _ rfl hr.out k n (.inr ⟨_,.i64,rfl,by go_num⟩) (.inl ⟨rfl,rfl⟩) HKN.out (Nat.le_refl _) ?_;intro sb hsb;have HSB:=zH hsb;clear hsb)
  |(refine Z33 _ rfl _ none _ rfl _ _ _ _ rfl hr.out 0 k (.inl ⟨rfl,rfl⟩) (.inr ⟨_,.i64,rfl,by go_num⟩) (Nat.zero_le _) HKN.out ?_;intro sa hsl;have HSL:=zH hsl;clear hsl))
 go_ret;have hS:=VE w rp 0 (.slice sb (n - k) (c - k));have he:=heap_setCell_same w rp 0 _ _ (.slice sb (n - k) (c - k)) HH.out.e;have hcell : ∀v ∈ #[Value.slice a n c],∀x,v≠Zr x:=by intro v hv x;simp at hv;subst hv;intro hh;cases hh
 have e1:Ye w sa k c x:=by
  have h1:=HSL.out;rw[List.drop_zero,Nat.sub_zero,Nat.sub_zero]at h1;rw[List.take_append_of_le_length (by rw[HK.out];exact Nat.le_refl _),List.take_of_length_le (by rw[HK.out];exact Nat.le_refl _)]at h1;exact h1
 have e3 : ∀W,Ye W a n c (x ++ t)->Ye W sb (n - k) (c - k) t:=fun W hW=>by
  have h1:=HSB.out W hW;rw[show(x ++ t).drop k=t by rw[<-HK.out,List.drop_left],List.take_of_length_le (by rw[EN.out];omega)]at h1;exact h1
 have e2:=e3 w HH.out.r;exact⟨sa,c,sb,n - k,c - k,rfl,Z1N e1 hS (fun h0=>VX HH.out.e hcell e1 h0),⟨he,Z1N e2 hS (fun h0=>VX HH.out.e hcell e2 h0)⟩,hS,e3⟩
theorem UB (f:Yo)(x:Z8)(a:zA)(n c:Nat)(w:World)(hv:f.valid=true)(hf:Zg f x=true)(h:Ye w a n c (Y5 x)):
  Calls zq 75 #[.agg #[.int .i64 f.rings,.int .i64 f.sectors,.int .i64 f.wide],.slice a n c] w fun e w' => ∃(sa:zA) (sc:Nat),e = .returned (.tuple #[.agg (Z5 x sa sc),.int .i64 0])/\w'.ownsRow w.heap.size 3 1 (.slice sa x.strokes.length sc) x.strokes.length (x.strokes.map Ys)/\Below w.heap.size w w':=by
 have hl:=(Qn hv hf);refine(Z3l f (Y5 x) a n c w h (by omega)).mono ?_;rintro e w1 (⟨m,sa,sc,hd,rfl,ho,b⟩ | ⟨hd,rfl,b⟩)
 ·rw[Z2R hv hf]at hd;cases hd;exact⟨sa,sc,rfl,ho,b⟩
 ·rw[Z2R hv hf]at hd;cases hd
theorem Uw (rp:Nat)(l t:zU)(k:Nat)(a:zA)(n c:Nat)(w:World)(h:RdP w rp l a n c)(hn:U6 Xu l=some (k,t)):
  Calls zq 147 #[.pointer (some ⟨rp,0,none⟩)] w fun e w' => ∃a2 n2 c2,e = .returned (.int .i64 (k:Int))/\RdP w' rp t a2 n2 c2/\Zb (fun k=>k=rp) w w'/\(∀W,Ye W a n c l->Ye W a2 n2 c2 t):=by
 refine(Z4j rp l a n c w h).mono ?_;rintro e w1 (⟨k',t',a2,n2,c2,h1,_,rfl,h2,h3⟩ | ⟨h1,_⟩)
 ·rw[hn]at h1;cases h1;exact⟨a2,n2,c2,rfl,h2,h3⟩
 ·rw[hn]at h1;cases h1
theorem Vb {op:Oper}{a:Act}{w:World}{K:Act->World->Prop}{Q:Exit->Act->World->Prop}(ho:op.op = .alloc 47)
  (h:K (a.put op.dst (.pointer (some ⟨w.heap.size,0,none⟩))) (w.alloc (.cells (Z5 Zh none 0) 47))):op.wp zq a w K Q:=by
 have e1:(Instr.alloc 47 true (.tuple #[])).run zq w = .ok (.pointer (some ⟨w.heap.size,0,none⟩)) (w.alloc (.cells (Z5 Zh none 0) 47)):=by kernel_rfl
 unfold Oper.wp execOp;simp[ho,e1,Result.andThen];exact h
theorem zO (n:Z8)(sa:zA)(sc:Nat): ∀v∈Z5 n sa sc,∀x,v≠Zr x:=by
 intro v hv x hh;subst hh;simp[Z5,Z8.cells,Zr]at hv
structure zt (w wr:World)(rp bA bG bH hq B:Nat)(OH:Y6)(L:zU)(l:List Z8)(k:Nat)(a:zA)(n cc:Nat)(ga:zA)(gc:Nat)(es:List LN):Prop where
 r:RdP wr rp L a n cc
 r0:Ye w a n cc L
 eA:wr.heap[bA]? = some (.cells #[.bool false] 4)
 eG:wr.heap[bG]? = some (.cells #[.slice ga k gc] 24)
 eH:wr.heap[bH]? = some (.cells #[.pointer (some ⟨hq,0,none⟩)] 27)
 eF:wr.heap[hq]? = some (.cells OH 109)
 own:wr.ownsRow B 47 19 (.slice ga k gc) k (ZH es)
 eo:Z1n wr B es
 en:es.map LN.n=l.take k
 s:Zb (fun j=>j=rp\/j=bA\/j=bG) w wr
theorem Zbx {w:World}{a:zA}{n c:Nat}{l:zU}(h:Ye w a n c l)(h0:0 < n): ∀b off,a=some ⟨b,off,none⟩->b < w.heap.size:=by
 intro b off e;obtain⟨b',off',e',hat⟩:=Y3.at h h0;rw[e]at e';cases e';have hl:(l.map Zr).length=n:=h.1.trans (Nat.mul_one n);have h1:=hat 0 _ (List.getElem?_eq_getElem (by omega));cases hq:w.heap[b]? with
 | none=>simp[World.cell?,hq]at h1
 | some o=>exact(Array.getElem?_eq_some_iff.1 hq).1
section
variable {w wr W':World}{rp bA bG bH hq B:Nat}{OH:Y6}{L L':zU}{l:List Z8}{k:Nat}{a a':zA}{n cc n' cc':Nat}{ga:zA}{gc:Nat}{es:List LN}
theorem zt.rd (h:zt w wr rp bA bG bH hq B OH L l k a n cc ga gc es)(hs:Zb (fun j=>j=rp) wr W')(hr:RdP W' rp L' a' n' cc')(h0 : ∀W,Ye W a n cc L->Ye W a' n' cc' L'):zt w W' rp bA bG bH hq B OH L' l k a' n' cc' ga gc es:=by
 have hb : ∀{b:Nat} {c:Y6} {t:TypeId},wr.heap[b]? = some (.cells c t (0,0))->t≠236->W'.heap[b]? = some (.cells c t (0,0)):=fun {b c t} hb ht=>by
  refine(hs.block b (Zk hb) (fun e=>?_)).trans hb;rw[show b=rp from e,h.r.e]at hb;cases hb;exact ht rfl
 exact⟨hr,h0 w h.r0,hb h.eA (by decide),hb h.eG (by decide),hb h.eH (by decide),hb h.eF (by decide),Ze h.own hs (fun b h1 e=>ZK h.own h.r.e (by decide) ((show b=rp from e) ▸ h1)),
  fun x hx=>Ze (h.eo x hx) hs (fun b h1 e=>ZK (h.eo x hx) h.r.e (by decide) ((show b=rp from e) ▸ h1)),h.en,h.s.trans (hs.weaken fun j e=>.inl e)⟩
theorem zt.below (h:zt w wr rp bA bG bH hq B OH L l k a n cc ga gc es)(hb:Below wr.heap.size wr W'):zt w W' rp bA bG bH hq B OH L l k a n cc ga gc es:=
 ⟨h.r.same (S:=fun _=>False) (Zb.of_below hb) (fun e=>e) (fun _ _ _ _ e=>e),h.r0,Z7 hb h.eA,Z7 hb h.eG,Z7 hb h.eH,Z7 hb h.eF,Zd h.own hb,h.eo.below hb,h.en,h.s.trans (Zb.of_below hb)⟩
theorem zt.row {p6:Nat}{c:Y6}(h:zt w wr rp bA bG bH hq B OH L l k a n cc ga gc es)(hp:wr.heap[p6]? = some (.cells c 47))(hc : ∀v∈c,∀x,v≠Zr x)(hg:wr.grownBy W' (some p6))(hn:Value.ownBlock (.slice ga k gc)≠some p6)(hw:w.heap.size<=p6):
  zt w W' rp bA bG bH hq B OH L l k a n cc ga gc es:=by
 have hs:Zb (fun j=>j=p6) wr W':=Zb.of_grown hg (fun j e=>(Option.some.inj e).symm);have hb : ∀{b:Nat} {c:Y6} {t:TypeId},wr.heap[b]? = some (.cells c t (0,0))->t≠47->W'.heap[b]? = some (.cells c t (0,0)):=fun {b c t} hb ht=>by
  refine(hs.block b (Zk hb) (fun e=>?_)).trans hb;rw[show b=p6 from e,hp]at hb;cases hb;exact ht rfl
 have hrp : ¬rp=p6:=fun e=>by
  have h1:=h.r.e;rw[e,hp]at h1;cases h1
 exact⟨h.r.same hs hrp (fun h0 b off e hb=>VX hp hc h.r.r h0 b off e hb),h.r0,hb h.eA (by decide),hb h.eG (by decide),hb h.eH (by decide),hb h.eF (by decide),Ze h.own hs (fun b h1 e=>hn ((show b=p6 from e) ▸ h1)),
  fun x hx=>Ze (h.eo x hx) hs (fun b h1 e=>ZK (h.eo x hx) hp (by decide) ((show b=p6 from e) ▸ h1)),h.en,h.s.trans2 hs (fun j e=>.inr ((show j=p6 from e) ▸ hw))⟩
theorem zt.ask (h:zt w wr rp bA bG bH hq B OH L l k a n cc ga gc es):zt w (wr.setCell ⟨bA,0,none⟩ (.bool false)) rp bA bG bH hq B OH L l k a n cc ga gc es:=by
 have s2:=JN wr bA 0 (.bool false);have hc : ∀v ∈ #[Value.bool false],∀x,v≠Zr x:=by intro v hv x;simp at hv;subst hv;intro hh;cases hh
 have hk2 : ∀{b:Nat} {c:Y6} {t:TypeId},wr.heap[b]? = some (.cells c t (0,0))->t≠4->(wr.setCell ⟨bA,0,none⟩ (.bool false)).heap[b]? = some (.cells c t (0,0)):=fun {b c t} hb ht=>by
  refine(s2.block b (Zk hb) (fun e=>?_)).trans hb;rw[show b=bA from e,h.eA]at hb;cases hb;exact ht rfl
 have hns : ¬(fun j=>j=bA) rp:=fun e=>by
  have h2:=h.r.e;rw[show rp=bA from e,h.eA]at h2;cases h2
 exact⟨h.r.same s2 hns (fun h0 b off e hb=>VX h.eA hc h.r.r h0 b off e hb),h.r0,ZM h.eA 0 _,hk2 h.eG (by decide),hk2 h.eH (by decide),hk2 h.eF (by decide),Ze h.own s2 (fun b h2 e=>ZK h.own h.eA (by decide) ((show b=bA from e) ▸ h2)),
  fun x hx=>Ze (h.eo x hx) s2 (fun b h2 e=>ZK (h.eo x hx) h.eA (by decide) ((show b=bA from e) ▸ h2)),h.en,h.s.trans (s2.weaken fun j e=>.inr (.inl e))⟩
theorem zt.push {wn V:World}{x:Z8}{sa ga':zA}{sc gc':Nat}(h:zt w wr rp bA bG bH hq B OH L l k a n cc ga gc es)(hB:w.heap.size<=B)(hx:l[k]? = some x)(so:wr.ownsRow B 3 1 (.slice sa x.strokes.length sc) x.strokes.length (x.strokes.map Ys))(hb:Below wr.heap.size wr wn)
  (ho:V.ownsRow B 47 19 (.slice ga' (k+1) gc') (k+1) (ZH es ++ x.cells sa sc)) (hg:wn.grownBy V (Value.ownBlock (.slice ga k gc))):
  zt w (V.setCell ⟨bG,0,none⟩ (.slice ga' (k+1) gc')) rp bA bG bH hq B OH L l (k+1) a n cc ga' gc' (es ++ [⟨x,sa,sc⟩]):=by
 have h1:=h.below hb;have s1:Zb (fun j=>Value.ownBlock (.slice ga k gc)=some j) wn V:=Zb.of_grown hg (fun j e=>e);have hk : ∀{b:Nat} {c:Y6} {t:TypeId},wn.heap[b]? = some (.cells c t (0,0))->47≠t->V.heap[b]? = some (.cells c t (0,0)):=fun {b c t} hb ht=>(s1.block b (Zk hb) (fun e=>ZK h1.own hb ht e)).trans hb;have hrd:RdP V rp L a n cc:=h1.r.same s1 (fun e=>ZK h1.own h1.r.e (by decide) e) (fun h0 b off e hb=>by
  have h2:=Zbx h.r0 h0 b off e;have h3:=(h1.own.lt b hb).1;omega)
 have eG:=hk h1.eG (by decide);have s2:=JN V bG 0 (.slice ga' (k+1) gc');have hc : ∀v ∈ #[Value.slice ga k gc],∀x,v≠Zr x:=by intro v hv x;simp at hv;subst hv;intro hh;cases hh
 have hk2 : ∀{b:Nat} {c:Y6} {t:TypeId},V.heap[b]? = some (.cells c t (0,0))->t≠24->(V.setCell ⟨bG,0,none⟩ (.slice ga' (k+1) gc')).heap[b]? = some (.cells c t (0,0)):=fun {b c t} hb ht=>by
  refine(s2.block b (Zk hb) (fun e=>?_)).trans hb;rw[show b=bG from e,eG]at hb;cases hb;exact ht rfl
 have hns : ¬(fun j=>j=bG) rp:=fun e=>by
  have h2:=hrd.e;rw[show rp=bG from e,eG]at h2;cases h2
 refine⟨hrd.same s2 hns (fun h0 b off e hb=>VX eG hc hrd.r h0 b off e hb),h.r0,hk2 (hk h1.eA (by decide)) (by decide),ZM eG 0 _,hk2 (hk h1.eH (by decide)) (by decide),hk2 (hk h1.eF (by decide)) (by decide),?_,?_,?_,?_⟩
 ·rw[VJ];exact Ze ho s2 (fun b h2 e=>ZK ho eG (by decide) ((show b=bG from e) ▸ h2))
 ·intro y hy;have h2 : ∀{z:LN},wn.ownsRow B 3 1 (.slice z.sa z.n.strokes.length z.sc) z.n.strokes.length (z.n.strokes.map Ys)->(V.setCell ⟨bG,0,none⟩ (.slice ga' (k+1) gc')).ownsRow B 3 1 (.slice z.sa z.n.strokes.length z.sc) z.n.strokes.length (z.n.strokes.map Ys):=fun {z} hz=>by
   have h3:=Ze hz s1 (fun b h4 e=>Qx hz h1.own (by decide) b h4 e);exact Ze h3 s2 (fun b h4 e=>ZK h3 eG (by decide) ((show b=bG from e) ▸ h4))
  rcases List.mem_append.1 hy with hy | hy
  ·exact h2 (h1.eo y hy)
  ·rw[List.mem_singleton.1 hy];exact h2 (z:=⟨x,sa,sc⟩) (Zd so hb)
 ·rw[List.map_append,h.en,List.take_add_one,hx];rfl
 ·exact(h1.s.trans2 s1 (fun j e=>.inr (Nat.le_trans hB (h1.own.lt j e).1))).trans (s2.weaken fun j e=>.inr (.inr e))
end
structure Z1I (w wr:World)(rp bA bC B:Nat)(L:zU)(c:List Int)(k:Nat)(a:zA)(n cc:Nat)(ca:zA)(c2:Nat):Prop where
 r:RdP wr rp L a n cc
 r0:Ye w a n cc L
 eA : ∃v,wr.heap[bA]? = some (.cells #[.bool v] 4)
 eC:wr.heap[bC]? = some (.cells #[.slice ca k c2] 37)
 own:wr.ownsRow B 3 1 (.slice ca k c2) k ((c.take k).map Ys)
 s:Zb (fun j=>j=rp\/j=bA\/j=bC) w wr
section
variable {w wr W':World}{rp bA bC B:Nat}{L L':zU}{c:List Int}{k:Nat}{a a':zA}{n cc n' cc':Nat}{ca:zA}{c2:Nat}
theorem Z1I.rd (h:Z1I w wr rp bA bC B L c k a n cc ca c2)(hs:Zb (fun j=>j=rp) wr W')(hr:RdP W' rp L' a' n' cc')(h0 : ∀W,Ye W a n cc L->Ye W a' n' cc' L'):Z1I w W' rp bA bC B L' c k a' n' cc' ca c2 /\ ∀v,wr.heap[bA]? = some (.cells #[.bool v] 4)->W'.heap[bA]? = some (.cells #[.bool v] 4):=by
 have hb : ∀{b:Nat} {c:Y6} {t:TypeId},wr.heap[b]? = some (.cells c t (0,0))->t≠236->W'.heap[b]? = some (.cells c t (0,0)):=fun {b c t} hb ht=>by
  refine(hs.block b (Zk hb) (fun e=>?_)).trans hb;rw[show b=rp from e,h.r.e]at hb;cases hb;exact ht rfl
 exact⟨⟨hr,h0 w h.r0,h.eA.imp fun v e=>hb e (by decide),hb h.eC (by decide),Ze h.own hs (fun b h1 e=>ZK h.own h.r.e (by decide) ((show b=rp from e) ▸ h1)),h.s.trans (hs.weaken fun j e=>.inl e)⟩,fun v e=>hb e (by decide)⟩
theorem Z1I.below (h:Z1I w wr rp bA bC B L c k a n cc ca c2)(hb:Below wr.heap.size wr W'):Z1I w W' rp bA bC B L c k a n cc ca c2:=
 ⟨h.r.same (S:=fun _=>False) (Zb.of_below hb) (fun e=>e) (fun _ _ _ _ e=>e),h.r0,h.eA.imp fun v e=>Z7 hb e,Z7 hb h.eC,Zd h.own hb,h.s.trans (Zb.of_below hb)⟩
theorem Z1I.ask {x:Bool}(h:Z1I w wr rp bA bC B L c k a n cc ca c2):Z1I w (wr.setCell ⟨bA,0,none⟩ (.bool x)) rp bA bC B L c k a n cc ca c2/\(wr.setCell ⟨bA,0,none⟩ (.bool x)).heap[bA]? = some (.cells #[.bool x] 4):=by
 obtain⟨v,hA⟩:=h.eA;have s2:=JN wr bA 0 (.bool x);have hc : ∀y ∈ #[Value.bool v],∀x,y≠Zr x:=by intro v hv x;simp at hv;subst hv;intro hh;cases hh
 have hns : ¬(fun j=>j=bA) rp:=fun e=>by
  have h2:=h.r.e;rw[show rp=bA from e,hA]at h2;cases h2
 have hA2:(wr.setCell ⟨bA,0,none⟩ (.bool x)).heap[bA]? = some (.cells #[.bool x] 4):=ZM hA 0 _;refine⟨⟨h.r.same s2 hns (fun h0 b off e hb=>VX hA hc h.r.r h0 b off e hb),h.r0,⟨x,hA2⟩,(s2.block bC (Zk h.eC) (fun e=>?_)).trans h.eC,Ze h.own s2 (fun b h2 e=>ZK h.own hA (by decide) ((show b=bA from e) ▸ h2)),h.s.trans (s2.weaken fun j e=>.inr (.inl e))⟩,hA2⟩;have h2:=h.eC;rw[show bC=bA from e,hA]at h2;cases h2
theorem Z1I.push {wn V:World}{z:Int}{ca':zA}{c2':Nat}{v:Bool}(h:Z1I w wr rp bA bC B L c k a n cc ca c2)(hA:wr.heap[bA]? = some (.cells #[.bool v] 4))(hB:w.heap.size<=B)(hz:c[k]? = some z)(hb:Below wr.heap.size wr wn)
  (ho:V.ownsRow B 3 1 (.slice ca' (k+1) c2') (k+1) ((c.take k).map Ys ++ [.int .i64 z])) (hg:wn.grownBy V (Value.ownBlock (.slice ca k c2))):
  Z1I w (V.setCell ⟨bC,0,none⟩ (.slice ca' (k+1) c2')) rp bA bC B L c (k+1) a n cc ca' c2'/\(V.setCell ⟨bC,0,none⟩ (.slice ca' (k+1) c2')).heap[bA]? = some (.cells #[.bool v] 4):=by
 have h1:=h.below hb;have s1:Zb (fun j=>Value.ownBlock (.slice ca k c2)=some j) wn V:=Zb.of_grown hg (fun j e=>e);have hk : ∀{b:Nat} {c:Y6} {t:TypeId},wn.heap[b]? = some (.cells c t (0,0))->3≠t->V.heap[b]? = some (.cells c t (0,0)):=fun {b c t} hb ht=>(s1.block b (Zk hb) (fun e=>ZK h1.own hb ht e)).trans hb;have hrd:RdP V rp L a n cc:=h1.r.same s1 (fun e=>ZK h1.own h1.r.e (by decide) e) (fun h0 b off e hb=>by
  have h2:=Zbx h.r0 h0 b off e;have h3:=(h1.own.lt b hb).1;omega)
 have eC:=hk h1.eC (by decide);have eA:=hk (Z7 hb hA) (by decide);have s2:=JN V bC 0 (.slice ca' (k+1) c2');have hc : ∀v ∈ #[Value.slice ca k c2],∀x,v≠Zr x:=by intro v hv x;simp at hv;subst hv;intro hh;cases hh
 have hns : ¬(fun j=>j=bC) rp:=fun e=>by
  have h2:=hrd.e;rw[show rp=bC from e,eC]at h2;cases h2
 have hA2:(V.setCell ⟨bC,0,none⟩ (.slice ca' (k+1) c2')).heap[bA]? = some (.cells #[.bool v] 4):=(s2.block bA (Zk eA) (fun e=>by
  rw[show bA=bC from e,eC]at eA;cases eA)).trans eA
 refine⟨⟨hrd.same s2 hns (fun h0 b off e hb=>VX eC hc hrd.r h0 b off e hb),h.r0,⟨v,hA2⟩,ZM eC 0 _,?_,?_⟩,hA2⟩
 ·rw[List.take_add_one,hz,List.map_append];exact Ze ho s2 (fun b h2 e=>ZK ho eC (by decide) ((show b=bC from e) ▸ h2))
 ·exact(h1.s.trans2 s1 (fun j e=>.inr (Nat.le_trans hB (h1.own.lt j e).1))).trans (s2.weaken fun j e=>.inr (.inr e))
end
theorem Zcr (rp bA bC bH bG:Nat)(c:List Int)(a:zA)(n cc:Nat)(w:World)(h:RdP w rp (Xe.ask c).body a n cc)(hA:w.heap[bA]? = some (.cells #[.bool false] 4))(hC:w.heap[bC]? = some (.cells #[.slice none 0 0] 37))
  (hc : ∀z∈c,Yk z) (hl:c.length<=1000):
  Calls zq 145 #[.pointer (some ⟨rp,0,none⟩),.pointer (some ⟨bA,0,none⟩),.pointer (some ⟨bC,0,none⟩),.pointer (some ⟨bH,0,none⟩),.pointer (some ⟨bG,0,none⟩)] w fun e w'=>e = .returned (.tuple #[]) /\ ∃a n cc ca c2,Z1I w w' rp bA bC w.heap.size (Zt (c.drop c.length)) c c.length a n cc ca c2/\w'.heap[bA]? = some (.cells #[.bool true] 4):=by
 have D0:=zH (show Z1I w w rp bA bC w.heap.size (Xe.ask c).body c 0 a n cc none 0 from⟨h,h.r,⟨false,hA⟩,hC,World.ownsRow_nil _ _ _ _,Zb.refl _ _⟩);have HA:=zH hA;have HS:=zH hc;have HL:=zH hl;clear h hA hC hc hl;go_enter Tryz.func145,Tryz.ntmps145;go_wp2_with fail;refine(Ut rp _ _ 1 a n cc w D0.out.r (Zdm c)).mono ?_;rintro e w1 ⟨a1,n1,c1,rfl,r1,s1,q1⟩;have D1:=zH (D0.out.rd s1 r1 q1).1;have A1:=zH ((D0.out.rd s1 r1 q1).2 false HA.out);clear D0 HA r1 s1 q1;have x0:=Z6 A1.out 0 (.bool false) rfl;have f0:=Zq A1.out 0;go_upto_region 1 with fail;have D2:=zH (D1.out.ask (x:=true)).1;have A2:=zH (D1.out.ask (x:=true)).2;clear D1 A1 x0 f0;generalize w1.setCell ⟨bA,0,none⟩ (.bool true)=w2 at *;go_wp2_with fail;refine(Uw rp _ _ c.length a1 n1 c1 _ D2.out.r (Zdn (by have:=HL.out;omega))).mono ?_;rintro e w3 ⟨a3,n3,c3,rfl,r3,s3,q3⟩;have D3:=zH (D2.out.rd s3 r3 q3).1;have A3:=zH ((D2.out.rd s3 r3 q3).2 true A2.out);clear r3 s3 q3 D2 A2;go_wp2_with fail;go_loopw [13] (fun iv wr=>∃(k:Nat) (a:zA) (n cc:Nat) (ca:zA) (c2:Nat),iv = .int .i64 (k:Int)/\k<=c.length/\Hid (Z1I w wr rp bA bC w.heap.size (Zt (c.drop k)) c k a n cc ca c2/\wr.heap[bA]? = some (.cells #[.bool true] 4))) (fun iv _=>c.length - (intOf iv).toNat)
 case atStart=>exact⟨0,a3,n3,c3,none,0,rfl,Nat.zero_le _,zH ⟨D3.out,A3.out⟩⟩
 case round=>
  clear D3 A3;obtain⟨k,a,n,cc,ca,c2,rfl,hk,HK⟩:=hrel;by_cases hlt:k < c.length
  ·have E1:=zH (show wrap64 ((k:Int)+1)=(k:Int)+1 by have:=HL.out;unfold wrap64;omega);have t1:decide (k < c.length)=true:=by simp[hlt]
   have x0:=Z6 HK.out.2 0 (.bool true) rfl;go_upto_region 4 with fail;clear t1 x0;obtain⟨z,hz⟩ : ∃z,c[k]? = some z:=⟨c[k],List.getElem?_eq_getElem hlt⟩;have HZ:=zH hz;clear hz;have b1:Below wr.heap.size wr wr.drew:=(Below.refl _ _).drew;have DB:=zH (HK.out.1.below b1);have AB:=zH (Z7 b1 HK.out.2);clear b1 HK;refine bD 5 (fun W'=>W'.heap[bC]? = some (.cells #[.slice ca k c2] 37)) DB.out.eC (fun hh=>?_);generalize wr.drew=W0 at *;refine bS 0 rfl (.slice ca k c2) (fun W hW=>by have c:=Z6 hW 0 (.slice ca k c2) rfl;go_simp) ?_;refine bW 1 rfl (.pointer (some ⟨rp,0,none⟩)) ?_;refine bR 2 rfl (fun K hK=>?_);go_simp;refine(Ut rp _ _ z a n cc _ DB.out.r (Zab HZ.out (HS.out z (List.mem_of_getElem? HZ.out)))).mono ?_;rintro e W1 ⟨a4,n4,c4,rfl,r4,s4,q4⟩;have D4:=zH (DB.out.rd s4 r4 q4).1;have A4:=zH ((DB.out.rd s4 r4 q4).2 true AB.out);have hS4:=D4.out.eC;clear r4 s4 q4 DB AB hh;dsimp only;refine bK hK hS4 (fun hh=>?_);clear hK K hS4;refine bR 3 rfl (fun K hK=>?_);rw[if_pos (by kernel_rfl)];refine Jc (w':=W1.alloc (.cells #[.int .i64 z] 3)) (.slice (some ⟨W1.heap.size,0,none⟩) 1 1) (by kernel_rfl) ?_;have b5:Below W1.heap.size W1 (W1.alloc (.cells #[.int .i64 z] 3)):=zB _ _;have L5:=zH (Z2w W1 z);have B5:=zH b5;have hS5:=Z7 b5 hh;clear b5 hh;obtain⟨p5,hp5⟩:=zX (W1.heap.size);rw[hp5.out]at L5 ⊢;generalize W1.alloc (.cells #[.int .i64 z] 3)=W5 at *;refine bK hK hS5 (fun hh=>?_);clear hK K hS5;refine bR 4 rfl (fun K hK=>?_);rw[if_pos (by kernel_rfl)];obtain⟨a7,c7,V7,hrun,ho,hg⟩:=Z7g W5 w.heap.size ca k c2 _ (Zd D4.out.own B5.out) (some ⟨p5,0,none⟩) 1 1 _ L5.out (by intro u hu;simp at hu;subst hu;rfl) (by have:=HL.out;omega) (Nat.le_trans D4.out.s.size B5.out.size);refine Y4 _ _ _ rfl _ _ _ rfl rfl hrun ?_;clear hrun;have D8:=zH (D4.out.push A4.out (Nat.le_refl _) HZ.out B5.out ho hg);have hS7:=Zc hg hh (Ne.symm (ZK (Zd D4.out.own B5.out) hh (by decide)));clear ho hg hh;refine bK hK hS7 (fun hh=>?_);clear hK K hS7;refine bL rfl (fun K hK=>?_)
   have hce:=Z6 hh 0 (.slice ca k c2) rfl;have hfz:=Zq hh 0;clear hh;go_simp;refine hK.out _ _ ?_;clear hK K hce hfz;refine bE ?_;have e1:=E1.out;go_wp2;go_roundw
   case rel=>exact⟨k+1,a4,n4,c4,a7,c7,by go_num,by omega,D8⟩
   case measure=>clear e1;rw[E1.out];simp[intOf];omega
  ·have hkm:k=c.length:=by omega
   subst hkm;have t1:decide (c.length < c.length)=false:=by simp
   go_wp2;go_end0;exact⟨rfl,a,n,cc,ca,c2,HK.out⟩
structure Z9D (w wr W:World)(rp bA bG bH hq B:Nat)(OH:Y6)(L:zU)(l:List Z8)(k:Nat)(a:zA)(n cc:Nat)(ga:zA)(gc:Nat)(es:List LN)(p6:Nat)(x:Z8)(sa:zA)(sc:Nat):Prop where
 st:zt w W rp bA bG bH hq B OH L l k a n cc ga gc es
 nt:W.heap[p6]? = some (.cells (Z5 x sa sc) 47)
 so:W.ownsRow B 3 1 (.slice sa x.strokes.length sc) x.strokes.length (x.strokes.map Ys)
 sz:wr.heap.size<=W.heap.size
theorem Ze4 {A1 A2 A3 A4 A5 A6 A7 A8 A9:Type}{P T:A1->A2->A3->A4->A5->A6->A7->A8->A9->Prop}{G:Prop}
  (h1:(∀x1 x2 x3 x4 x5 x6 x7 x8 x9,P x1 x2 x3 x4 x5 x6 x7 x8 x9->T x1 x2 x3 x4 x5 x6 x7 x8 x9)->G) (h2 : ∀x1 x2 x3 x4 x5 x6 x7 x8 x9,P x1 x2 x3 x4 x5 x6 x7 x8 x9->T x1 x2 x3 x4 x5 x6 x7 x8 x9):G:=h1 h2
theorem ZaL (f:Yo)(rp bA bC bH bG hq:Nat)(OH:Y6)(l:List Z8)(a:zA)(n cc:Nat)(w:World)(h:RdP w rp (Xe.gift l).body a n cc)(hA:w.heap[bA]? = some (.cells #[.bool false] 4))(hG:w.heap[bG]? = some (.cells #[.slice none 0 0] 24))
  (hH:w.heap[bH]? = some (.cells #[.pointer (some ⟨hq,0,none⟩)] 27)) (hF:w.heap[hq]? = some (.cells OH 109)) (hO:OH[0]? = some (.int .i64 f.rings)/\OH[1]? = some (.int .i64 f.sectors)/\OH[2]? = some (.int .i64 f.wide))
  (hv:f.valid=true) (hl : ∀x∈l,Zg f x=true) (hlen:l.length<=16):
  Calls zq 145 #[.pointer (some ⟨rp,0,none⟩),.pointer (some ⟨bA,0,none⟩),.pointer (some ⟨bC,0,none⟩),.pointer (some ⟨bH,0,none⟩),.pointer (some ⟨bG,0,none⟩)] w fun e w'=>e = .returned (.tuple #[]) /\ ∃a n cc ga gc es,zt w w' rp bA bG bH hq w.heap.size OH (Yy (l.drop l.length)) l l.length a n cc ga gc es:=by
 have I43:=zH zI;have J3:=zH (show(zq.info? 23).map (·.size)=some [Value.int .i64 f.rings,.int .i64 f.sectors,.int .i64 f.wide].length from by kernel_rfl);have D0:=zH (show zt w w rp bA bG bH hq w.heap.size OH (Xe.gift l).body l 0 a n cc none 0 []from⟨h,h.r,hA,hG,hH,hF,World.ownsRow_nil _ _ _ _,fun x hx=>by simp at hx,by simp,Zb.refl _ _⟩);have HV:=zH hv;have HL:=zH hl;have HN:=zH hlen;have FR:Hid (∀W:World,W.heap[hq]? = some (.cells OH 109)->W.rangeAt hq 0 [Value.int .i64 f.rings,.int .i64 f.sectors,.int .i64 f.wide]):=zH (fun W hW j v hv=>by
  rw[Nat.zero_add];refine Z6 hW j v ?_;have hj:j < 3:=(List.getElem?_eq_some_iff.1 hv).1;have:j=0\/j=1\/j=2:=by omega
  rcases this with rfl | rfl | rfl
  ·exact hO.1.trans hv
  ·exact hO.2.1.trans hv
  ·exact hO.2.2.trans hv)
 clear h hA hG hH hF hO hv hl hlen;go_enter Tryz.func145,Tryz.ntmps145;go_wp2_with fail;refine(Ut rp _ _ 2 a n cc w D0.out.r (Zc6 l)).mono ?_;rintro e w1 ⟨a1,n1,c1,rfl,r1,s1,q1⟩;have D1:=zH (D0.out.rd s1 r1 q1);clear D0 r1 s1 q1;have x0:=Z6 D1.out.eA 0 (.bool false) rfl;have f0:=Zq D1.out.eA 0;go_upto_region 1 with fail;have D2:Hid (zt w (w1.setCell ⟨bA,0,none⟩ (.bool false)) rp bA bG bH hq w.heap.size OH (Yh (l.length:Int) ++ Yy l) l 0 a1 n1 c1 none 0 []):=zH (D1.out.ask);clear D1 x0 f0;generalize w1.setCell ⟨bA,0,none⟩ (.bool false)=w2 at *;go_wp2_with fail;refine(Uw rp _ _ l.length a1 n1 c1 _ D2.out.r (Zc7 (by have:=HN.out;omega))).mono ?_;rintro e w3 ⟨a3,n3,c3,rfl,r3,s3,q3⟩;have D3:=zH (D2.out.rd s3 r3 q3);clear r3 s3 q3 D2;go_wp2_with fail;go_loopw [13] (fun iv wr=>∃(k:Nat) (a:zA) (n cc:Nat) (ga:zA) (gc:Nat) (es:List LN),iv = .int .i64 (k:Int)/\k<=l.length/\Hid (zt w wr rp bA bG bH hq w.heap.size OH (Yy (l.drop k)) l k a n cc ga gc es)) (fun iv _=>l.length - (intOf iv).toNat)
 case atStart=>exact⟨0,a3,n3,c3,none,0,[],rfl,Nat.zero_le _,D3⟩
 case round=>
  obtain⟨k,a,n,cc,ga,gc,es,rfl,hk,DG⟩:=hrel;by_cases hlt:k < l.length
  ·have E1:=zH (show wrap64 ((k:Int)+1)=(k:Int)+1 by have:=HN.out;unfold wrap64;omega);have t1:decide (k < l.length)=true:=by simp[hlt]
   have x0:=Z6 DG.out.eA 0 (.bool false) rfl;obtain⟨x,hx⟩ : ∃x,l[k]? = some x:=⟨l[k],List.getElem?_eq_getElem hlt⟩;have HX:=zH hx;have FX:=zH (HL.out x (List.mem_of_getElem? hx));have LX:Hid ((Y5 x).length<=1000000000):=zH (by have:=Qn HV.out FX.out;omega);clear hx;go_upto_region 5 with fail;clear t1 x0;apply Ze4 (P:=fun(W:World) (p6:Nat) (sa:zA) (sc:Nat) (a:zA) (n cc:Nat) (_:zA) (_:Nat)=>Hid (Z9D w wr W rp bA bG bH hq w.heap.size OH (Yy (l.drop (k+1))) l k a n cc ga gc es p6 x sa sc))
   ·intro REST;have b1:Below wr.heap.size wr wr.drew:=(Below.refl _ _).drew;replace DG:=zH (DG.out.below b1);have GL:Hid (∀j,Value.ownBlock (.slice ga k gc)=some j->j < wr.heap.size):=zH (fun j hj=>by have h1:=(DG.out.own.lt j hj).2;simpa using h1);have SZ:Hid (wr.heap.size<=wr.drew.heap.size):=zH b1.size;have BW:Hid (w.heap.size<=wr.heap.size):=zH (by have h1:=DG.out.s.size;simpa using h1);clear b1;refine zD (fun W'=>W'.heap[bH]? = some (.cells #[.pointer (some ⟨hq,0,none⟩)] 27)/\W'.heap[hq]? = some (.cells OH 109)) ⟨DG.out.eH,DG.out.eF⟩ (fun hh=>?_);generalize wr.drew=V0 at *;refine zS 0 rfl (.pointer (some ⟨hq,0,none⟩)) (fun W hW=>by have c:=Z6 hW.1 0 (.pointer (some ⟨hq,0,none⟩)) rfl;go_simp) ?_;refine zW 1 rfl (.pointer (some ⟨hq,0,none⟩)) ?_;refine zW 2 rfl (.pointer (some ⟨hq,0,none⟩)) ?_;refine zT 3 rfl (.agg #[.int .i64 f.rings,.int .i64 f.sectors,.int .i64 f.wide]) (Z31 (by kernel_rfl) 23 _ rfl hq 0 rfl [.int .i64 f.rings,.int .i64 f.sectors,.int .i64 f.wide] _ (fun W hW=>FR.out W hW.2) Tryz.underlying23 rfl (by exact J3.out)) ?_;refine zW 4 rfl (.pointer (some ⟨rp,0,none⟩)) ?_;refine zW 5 rfl (.pointer (some ⟨rp,0,none⟩)) ?_;refine zM [6,12] rfl (fun K hK=>?_) (zn (i:=12) (fun K hK=>?_))
    ·skip;go_simp;refine(Uw rp _ _ (Y5 x).length _ _ _ _ DG.out.r (Z5O HX.out LX.out)).mono ?_;rintro e V1 ⟨a1,n1,c1,rfl,r1,s1,q1⟩;replace SZ:=zH (Nat.le_trans SZ.out s1.size);have DQ:=zH (DG.out.rd s1 r1 q1);clear DG r1 s1 q1;have DG:=DQ;clear DQ;have hS:=And.intro DG.out.eH DG.out.eF;dsimp only;refine zK hK hS (fun hh=>?_);clear hK K hS;refine zM [7,12] rfl (fun K hK=>?_) (zn (i:=12) (fun K hK=>?_))
     ·skip;go_simp;refine(Z2n rp (Y5 x) (Yy (l.drop (k+1))) _ _ _ _ _ DG.out.r rfl LX.out).mono ?_;rintro e V2 ⟨a2,c2,a1,n1,c1,rfl,rb,r1,s1,q1⟩;have RB:=zH rb;replace SZ:=zH (Nat.le_trans SZ.out s1.size);have DQ:=zH (DG.out.rd s1 r1 q1);clear DG r1 s1 q1 rb;have DG:=DQ;clear DQ;have hS:=And.intro DG.out.eH DG.out.eF;dsimp only;refine zK hK hS (fun hh=>?_);clear hK K hS;refine zM [8,12] rfl (fun K hK=>?_) (zn (i:=12) (fun K hK=>?_))
      focus
       skip;go_simp;refine(UB f x _ _ _ _ HV.out FX.out RB.out).mono ?_;rintro e V3 ⟨sa,sc,rfl,so,b⟩;have SO:=zH (Zx so (Nat.le_trans BW.out SZ.out));replace SZ:=zH (Nat.le_trans SZ.out b.size);have DQ:=zH (DG.out.below b);clear DG so b RB;have DG:=DQ;clear DQ;have hS:=And.intro DG.out.eH DG.out.eF;dsimp only;refine zK hK hS (fun hh=>?_);clear hK K hS;refine zW 9 rfl (.tuple #[.agg (Z5 x sa sc),.int .i64 0]) ?_;refine zW 10 rfl (.agg (Z5 x sa sc)) ?_;refine zW 11 rfl (.int .i64 0) ?_;refine zR 12 rfl (fun K hK=>?_);rw[if_pos (by kernel_rfl)];refine Vb rfl ?_;have b:Below V3.heap.size V3 (V3.alloc (.cells (Z5 Zh none 0) 47)):=zB _ _;have NT:=zH (Za V3 (.cells (Z5 Zh none 0) 47));have NP:Hid (wr.heap.size<=V3.heap.size):=zH SZ.out;replace SZ:=zH (Nat.le_trans SZ.out b.size);have DQ:=zH (DG.out.below b);clear DG;have DG:=DQ;clear DQ;replace SO:=zH (Zd SO.out b);have hS:=And.intro DG.out.eH DG.out.eF;clear b;obtain⟨p6,hp6⟩:=zX (V3.heap.size);rw[hp6.out]at NT NP ⊢;clear hp6;generalize V3.alloc (.cells (Z5 Zh none 0) 47)=V4 at *;refine zK hK hS (fun hh=>?_);clear hK K hS
      rotate_left
      focus
       rw[if_pos (by kernel_rfl)];refine Vb rfl ?_;have b:Below V2.heap.size V2 (V2.alloc (.cells (Z5 Zh none 0) 47)):=zB _ _;have NT:=zH (Za V2 (.cells (Z5 Zh none 0) 47));have NP:Hid (wr.heap.size<=V2.heap.size):=zH SZ.out;replace SZ:=zH (Nat.le_trans SZ.out b.size);have DQ:=zH (DG.out.below b);clear DG;have DG:=DQ;clear DQ;replace RB:=zH (Ye.below RB.out b);have hS:=And.intro DG.out.eH DG.out.eF;clear b;obtain⟨p6,hp6⟩:=zX (V2.heap.size);rw[hp6.out]at NT NP ⊢;clear hp6;generalize V2.alloc (.cells (Z5 Zh none 0) 47)=V3 at *;refine zK hK hS (fun hh=>?_);clear hK K hS;refine zR 8 rfl (fun K hK=>?_);go_simp;refine(UB f x _ _ _ _ HV.out FX.out RB.out).mono ?_;rintro e V4 ⟨sa,sc,rfl,so,b⟩;have SO:=zH (Zx so (Nat.le_trans BW.out SZ.out));replace NT:=zH (Z7 b NT.out);replace SZ:=zH (Nat.le_trans SZ.out b.size);have DQ:=zH (DG.out.below b);clear DG so b RB;have DG:=DQ;clear DQ;have hS:=And.intro DG.out.eH DG.out.eF;dsimp only;refine zK hK hS (fun hh=>?_);clear hK K hS;refine zW 9 rfl (.tuple #[.agg (Z5 x sa sc),.int .i64 0]) ?_;refine zW 10 rfl (.agg (Z5 x sa sc)) ?_;refine zW 11 rfl (.int .i64 0) ?_
      all_goals
       refine zR 13 rfl (fun K hK=>?_);rw[if_pos (by kernel_rfl)];refine ZT 47 _ _ rfl p6 (Z5 Zh none 0) (Z5 x sa sc) 47 rfl rfl NT.out (I43.out _ _ _) rfl (Zm x sa sc) ?_;intro X h8 hg8 hs8;have DQ:=zH (DG.out.row NT.out (zO _ _ _) hg8 (fun e=>by have h1:=GL.out p6 e;have h2:=NP.out;omega) (Nat.le_trans BW.out NP.out));have MID:Hid (Z9D w wr X rp bA bG bH hq w.heap.size OH (Yy (l.drop (k+1))) l k _ _ _ ga gc es p6 x sa sc):=zH ⟨DQ.out,h8,SO.out.kept hg8 (.inr (Zo SO.out NT.out (by intro cur;simp)).symm),by rw[hs8];exact SZ.out⟩;have hS:=And.intro DQ.out.eH DQ.out.eF;clear h8 hg8 hs8;refine zK hK hS (fun hh=>?_);clear hK K hS;refine zW 14 rfl (.int .i64 0) ?_;refine zE ?_;exact REST X p6 sa sc _ _ _ a2 c2 MID
     ·rw[if_pos (by kernel_rfl)];refine Vb rfl ?_;have b:Below V1.heap.size V1 (V1.alloc (.cells (Z5 Zh none 0) 47)):=zB _ _;have NT:=zH (Za V1 (.cells (Z5 Zh none 0) 47));have NP:Hid (wr.heap.size<=V1.heap.size):=zH SZ.out;replace SZ:=zH (Nat.le_trans SZ.out b.size);have DQ:=zH (DG.out.below b);clear DG;have DG:=DQ;clear DQ;have hS:=And.intro DG.out.eH DG.out.eF;clear b;obtain⟨p6,hp6⟩:=zX (V1.heap.size);rw[hp6.out]at NT NP ⊢;clear hp6;generalize V1.alloc (.cells (Z5 Zh none 0) 47)=V2 at *;refine zK hK hS (fun hh=>?_);clear hK K hS;refine zR 7 rfl (fun K hK=>?_);go_simp;refine(Z2n rp (Y5 x) (Yy (l.drop (k+1))) _ _ _ _ _ DG.out.r rfl LX.out).mono ?_;rintro e V3 ⟨a2,c2,a1,n1,c1,rfl,rb,r1,s1,q1⟩;have RB:=zH rb;replace NT:=zH ((s1.block p6 (Zk NT.out) (fun e=>by have h1:=DG.out.r.e;have h2:=NT.out;rw[<-show p6=rp from e,h2]at h1;cases h1)).trans NT.out);replace SZ:=zH (Nat.le_trans SZ.out s1.size);have DQ:=zH (DG.out.rd s1 r1 q1);clear DG r1 s1 q1 rb;have DG:=DQ;clear DQ;have hS:=And.intro DG.out.eH DG.out.eF;dsimp only;refine zK hK hS (fun hh=>?_);clear hK K hS;refine zR 8 rfl (fun K hK=>?_);go_simp;refine(UB f x _ _ _ _ HV.out FX.out RB.out).mono ?_;rintro e V4 ⟨sa,sc,rfl,so,b⟩;have SO:=zH (Zx so (Nat.le_trans BW.out SZ.out));replace NT:=zH (Z7 b NT.out);replace SZ:=zH (Nat.le_trans SZ.out b.size);have DQ:=zH (DG.out.below b);clear DG so b RB;have DG:=DQ;clear DQ;have hS:=And.intro DG.out.eH DG.out.eF;dsimp only;refine zK hK hS (fun hh=>?_);clear hK K hS;refine zW 9 rfl (.tuple #[.agg (Z5 x sa sc),.int .i64 0]) ?_;refine zW 10 rfl (.agg (Z5 x sa sc)) ?_;refine zW 11 rfl (.int .i64 0) ?_;refine zR 13 rfl (fun K hK=>?_);rw[if_pos (by kernel_rfl)];refine ZT 47 _ _ rfl p6 (Z5 Zh none 0) (Z5 x sa sc) 47 rfl rfl NT.out (I43.out _ _ _) rfl (Zm x sa sc) ?_;intro X h8 hg8 hs8;have DQ:=zH (DG.out.row NT.out (zO _ _ _) hg8 (fun e=>by have h1:=GL.out p6 e;have h2:=NP.out;omega) (Nat.le_trans BW.out NP.out));have MID:Hid (Z9D w wr X rp bA bG bH hq w.heap.size OH (Yy (l.drop (k+1))) l k _ _ _ ga gc es p6 x sa sc):=zH ⟨DQ.out,h8,SO.out.kept hg8 (.inr (Zo SO.out NT.out (by intro cur;simp)).symm),by rw[hs8];exact SZ.out⟩
      have hS:=And.intro DQ.out.eH DQ.out.eF;clear h8 hg8 hs8;refine zK hK hS (fun hh=>?_);clear hK K hS;refine zW 14 rfl (.int .i64 0) ?_;refine zE ?_;exact REST X p6 sa sc _ _ _ a2 c2 MID
    ·rw[if_pos (by kernel_rfl)];refine Vb rfl ?_;have b:Below V0.heap.size V0 (V0.alloc (.cells (Z5 Zh none 0) 47)):=zB _ _;have NT:=zH (Za V0 (.cells (Z5 Zh none 0) 47));have NP:Hid (wr.heap.size<=V0.heap.size):=zH SZ.out;replace SZ:=zH (Nat.le_trans SZ.out b.size);have DQ:=zH (DG.out.below b);clear DG;have DG:=DQ;clear DQ;have hS:=And.intro DG.out.eH DG.out.eF;clear b;obtain⟨p6,hp6⟩:=zX (V0.heap.size);rw[hp6.out]at NT NP ⊢;clear hp6;generalize V0.alloc (.cells (Z5 Zh none 0) 47)=V1 at *;refine zK hK hS (fun hh=>?_);clear hK K hS;refine zR 6 rfl (fun K hK=>?_);go_simp;refine(Uw rp _ _ (Y5 x).length _ _ _ _ DG.out.r (Z5O HX.out LX.out)).mono ?_;rintro e V2 ⟨a1,n1,c1,rfl,r1,s1,q1⟩;replace NT:=zH ((s1.block p6 (Zk NT.out) (fun e=>by have h1:=DG.out.r.e;have h2:=NT.out;rw[<-show p6=rp from e,h2]at h1;cases h1)).trans NT.out);replace SZ:=zH (Nat.le_trans SZ.out s1.size);have DQ:=zH (DG.out.rd s1 r1 q1);clear DG r1 s1 q1;have DG:=DQ;clear DQ;have hS:=And.intro DG.out.eH DG.out.eF;dsimp only;refine zK hK hS (fun hh=>?_);clear hK K hS;refine zR 7 rfl (fun K hK=>?_);go_simp;refine(Z2n rp (Y5 x) (Yy (l.drop (k+1))) _ _ _ _ _ DG.out.r rfl LX.out).mono ?_;rintro e V3 ⟨a2,c2,a1,n1,c1,rfl,rb,r1,s1,q1⟩;have RB:=zH rb;replace NT:=zH ((s1.block p6 (Zk NT.out) (fun e=>by have h1:=DG.out.r.e;have h2:=NT.out;rw[<-show p6=rp from e,h2]at h1;cases h1)).trans NT.out);replace SZ:=zH (Nat.le_trans SZ.out s1.size);have DQ:=zH (DG.out.rd s1 r1 q1);clear DG r1 s1 q1 rb;have DG:=DQ;clear DQ;have hS:=And.intro DG.out.eH DG.out.eF;dsimp only;refine zK hK hS (fun hh=>?_);clear hK K hS;refine zR 8 rfl (fun K hK=>?_);go_simp;refine(UB f x _ _ _ _ HV.out FX.out RB.out).mono ?_;rintro e V4 ⟨sa,sc,rfl,so,b⟩;have SO:=zH (Zx so (Nat.le_trans BW.out SZ.out));replace NT:=zH (Z7 b NT.out);replace SZ:=zH (Nat.le_trans SZ.out b.size);have DQ:=zH (DG.out.below b);clear DG so b RB;have DG:=DQ;clear DQ;have hS:=And.intro DG.out.eH DG.out.eF;dsimp only;refine zK hK hS (fun hh=>?_);clear hK K hS
     refine zW 9 rfl (.tuple #[.agg (Z5 x sa sc),.int .i64 0]) ?_;refine zW 10 rfl (.agg (Z5 x sa sc)) ?_;refine zW 11 rfl (.int .i64 0) ?_;refine zR 13 rfl (fun K hK=>?_);rw[if_pos (by kernel_rfl)];refine ZT 47 _ _ rfl p6 (Z5 Zh none 0) (Z5 x sa sc) 47 rfl rfl NT.out (I43.out _ _ _) rfl (Zm x sa sc) ?_;intro X h8 hg8 hs8;have DQ:=zH (DG.out.row NT.out (zO _ _ _) hg8 (fun e=>by have h1:=GL.out p6 e;have h2:=NP.out;omega) (Nat.le_trans BW.out NP.out));have MID:Hid (Z9D w wr X rp bA bG bH hq w.heap.size OH (Yy (l.drop (k+1))) l k _ _ _ ga gc es p6 x sa sc):=zH ⟨DQ.out,h8,SO.out.kept hg8 (.inr (Zo SO.out NT.out (by intro cur;simp)).symm),by rw[hs8];exact SZ.out⟩;have hS:=And.intro DQ.out.eH DQ.out.eF;clear h8 hg8 hs8;refine zK hK hS (fun hh=>?_);clear hK K hS;refine zW 14 rfl (.int .i64 0) ?_;refine zE ?_;exact REST X p6 sa sc _ _ _ a2 c2 MID
   intro V p6 sa sc a n cc a2 c2 MID;have bn:Below V.heap.size V (V.alloc (.cells (Z5 x sa sc) 47)):=zB _ _;have c0:=Z6 MID.out.st.eG 0 (.slice ga k gc) rfl;obtain⟨ga',gc',v9,hrun,ho9,hg9⟩:=JD (V.alloc (.cells (Z5 x sa sc) 47)) w.heap.size ga k gc _ (Zd MID.out.st.own bn) _ 1 1 _ (Qb V x sa sc) (x.cells_one _ _) (by have h1:=HN.out;omega) (Nat.le_trans MID.out.st.s.size bn.size);have HNW:=zH (MID.out.st.push (Nat.le_refl _) HX.out MID.out.so bn ho9 hg9);have eG9:=Zc hg9 (Z7 bn MID.out.st.eG) (Zo (Zd MID.out.st.own bn) (Z7 bn MID.out.st.eG) (by intro cur;simp));have c9:=Z6 eG9 0 (.slice ga k gc) rfl;have f9:=Zq eG9 0;have e1:=E1.out;clear bn ho9 hg9 eG9;go_wp2_with (first
    |(refine zL p6 MID.out.nt ?_)
    |(refine Xz rfl _ rfl x sa sc rfl ?_)
    |(refine Ym rfl _ _ _ rfl _ _ _ rfl rfl hrun ?_)
    | fail)
   go_roundw
   case rel=>exact⟨k+1,a,n,cc,ga',gc',es ++ [⟨x,sa,sc⟩],by go_num,by omega,HNW⟩
   case measure=>clear e1;rw[E1.out];simp[intOf];omega
  ·have hkm:k=l.length:=by omega
   subst hkm;have t1:decide (l.length < l.length)=false:=by simp
   go_wp2;go_end0;exact⟨rfl,a,n,cc,ga,gc,es,DG.out⟩
theorem Z2V {w:World}{b b':Nat}{c c':Y6}{t t':TypeId}(h:w.heap[b]? = some (.cells c t (0,0)))(h':w.heap[b']? = some (.cells c' t' (0,0)))(ht:t≠t'):b≠b':=fun e=>by
 rw[e,h']at h
 cases h
 exact ht rfl
theorem Z8X (f:Yo)(bA bC bH bG hq:Nat)(OH:Y6)(l:List Z8)(a:zA)(n cc:Nat)(w:World)(h:Ye w a n cc (Xe.gift l).body)(hA:w.heap[bA]? = some (.cells #[.bool false] 4))(hG:w.heap[bG]? = some (.cells #[.slice none 0 0] 24))
  (hH:w.heap[bH]? = some (.cells #[.pointer (some ⟨hq,0,none⟩)] 27)) (hF:w.heap[hq]? = some (.cells OH 109)) (hO:OH[0]? = some (.int .i64 f.rings)/\OH[1]? = some (.int .i64 f.sectors)/\OH[2]? = some (.int .i64 f.wide))
  (hv:f.valid=true) (hl : ∀x∈l,Zg f x=true) (hlen:l.length<=16):
  Calls zq 129 #[.slice a n cc,.func (.func 145) #[] #[.pointer (some ⟨bA,0,none⟩),.pointer (some ⟨bC,0,none⟩),.pointer (some ⟨bH,0,none⟩),.pointer (some ⟨bG,0,none⟩)]] w fun e w'=>e = .returned (.bool true) /\
   ∃ga gc es,w'.heap[bA]? = some (.cells #[.bool false] 4)/\w'.heap[bH]? = some (.cells #[.pointer (some ⟨hq,0,none⟩)] 27)/\w'.heap[bG]? = some (.cells #[.slice ga l.length gc] 24)/\w'.ownsRow w.heap.size 47 19 (.slice ga l.length gc) l.length (ZH es)/\Z1n w' w.heap.size es/\es.map LN.n=l/\Zb (fun j=>j=bA\/j=bG) w w':=by
 refine Z3a bA bC bH bG _ a n cc w _ h (fun rp W hrp hb hr hfalse=>?_);refine(ZaL f rp bA bC bH bG hq OH l a n cc W hr (Z7 hb hA) (Z7 hb hG) (Z7 hb hH) (Z7 hb hF) hO hv hl hlen).mono ?_;rintro e W3 ⟨rfl,a,n,cc,ga,gc,es,D⟩;have hlA:=Zk hA;have hlG:=Zk hG;have hlH:=Zk hH;refine⟨rfl,(D.s.block _ (Zk hfalse) (by omega)).trans hfalse,fun W4 s4 h4=>⟨ga,gc,es,(s4.block bA (Zk D.eA) (by omega)).trans D.eA,(s4.block bH (Zk D.eH) (by omega)).trans D.eH,(s4.block bG (Zk D.eG) (by omega)).trans D.eG,?_,?_,?_,?_⟩⟩
 ·have hf3:=(D.s.block _ (Zk hfalse) (by omega)).trans hfalse;exact Zx (Ze D.own s4 (fun b h1 e=>ZK D.own hf3 (by decide) ((show b=_ from e) ▸ h1))) hb.size
 ·have hf3:=(D.s.block _ (Zk hfalse) (by omega)).trans hfalse;exact fun x hx=>Zx (Ze (D.eo x hx) s4 (fun b h1 e=>ZK (D.eo x hx) hf3 (by decide) ((show b=_ from e) ▸ h1))) hb.size
 ·rw[D.en,List.take_length]
 ·have g1:Zb (fun j=>j=bA\/j=bG) w W3:=(Zb.of_below hb).trans2 D.s (fun j hj=>by
   rcases hj with e | e | e
   ·exact .inr (by omega)
   ·exact .inl (.inl e)
   ·exact .inl (.inr e))
  exact g1.trans2 s4 (fun j hj=>.inr (by rw[show j=w.heap.size from hj];exact Nat.le_refl _))
theorem Z5W (bA bC bH bG hq:Nat)(c:List Int)(a:zA)(n cc:Nat)(w:World)(h:Ye w a n cc (Xe.ask c).body)(hA:w.heap[bA]? = some (.cells #[.bool false] 4))(hC:w.heap[bC]? = some (.cells #[.slice none 0 0] 37))
  (hH:w.heap[bH]? = some (.cells #[.pointer (some ⟨hq,0,none⟩)] 27)) (hc : ∀z∈c,Yk z) (hl:c.length<=1000):
  Calls zq 129 #[.slice a n cc,.func (.func 145) #[] #[.pointer (some ⟨bA,0,none⟩),.pointer (some ⟨bC,0,none⟩),.pointer (some ⟨bH,0,none⟩),.pointer (some ⟨bG,0,none⟩)]] w fun e w'=>e = .returned (.bool true) /\
   ∃ca c2,w'.heap[bA]? = some (.cells #[.bool true] 4)/\w'.heap[bH]? = some (.cells #[.pointer (some ⟨hq,0,none⟩)] 27)/\w'.heap[bC]? = some (.cells #[.slice ca c.length c2] 37)/\w'.ownsRow w.heap.size 3 1 (.slice ca c.length c2) c.length (c.map Ys)/\Zb (fun j=>j=bA\/j=bC) w w':=by
 refine Z3a bA bC bH bG _ a n cc w _ h (fun rp W hrp hb hr hfalse=>?_);refine(Zcr rp bA bC bH bG c a n cc W hr (Z7 hb hA) (Z7 hb hC) hc hl).mono ?_;rintro e W3 ⟨rfl,a,n,cc,ca,c2,D,eA⟩;have hlA:=Zk hA;have hlC:=Zk hC;have hlH:=Zk hH;have hf3:=(D.s.block _ (Zk hfalse) (by omega)).trans hfalse;have g1:Zb (fun j=>j=bA\/j=bC) w W3:=(Zb.of_below hb).trans2 D.s (fun j hj=>by
  rcases hj with e | e | e
  ·exact .inr (by omega)
  ·exact .inl (.inl e)
  ·exact .inl (.inr e))
 refine⟨rfl,hf3,fun W4 s4 h4=>?_⟩;have g4:Zb (fun j=>j=bA\/j=bC) w W4:=g1.trans2 s4 (fun j hj=>.inr (by rw[show j=w.heap.size from hj];exact Nat.le_refl _));refine⟨ca,c2,(s4.block bA (Zk eA) (by omega)).trans eA,(g4.block bH hlH (fun e=>?_)).trans hH,(s4.block bC (Zk D.eC) (by omega)).trans D.eC,?_,g4⟩
 ·rcases e with e | e
  ·exact Z2V hH hA (by decide) e
  ·exact Z2V hH hC (by decide) e
 ·have ho:=Ze D.own s4 (fun b h1 e=>ZK D.own hf3 (by decide) ((show b=_ from e) ▸ h1));rw[List.take_length]at ho;exact Zx ho hb.size
theorem QK.comp {PH:World->Nat->(Nat->Prop)->Zf->Prop}{tW tH:TypeId}{bf:Value->Value->Y6}{w w1 w':World}{p:Nat}{F F1:Nat->Prop}{V':ZO}(h:QK PH tW tH bf w1 p F1 V' w')(g2:Zb F w w1)(g3 : ∀k,F1 k->F k\/w.heap.size<=k):QK PH tW tH bf w p F V' w':=by
 obtain⟨F',h1,h2,h3⟩:=h;refine⟨F',h1,g2.trans2 h2 g3,fun k hk=>?_⟩;rcases h3 k hk with e | e
 ·exact g3 k e
 ·exact .inr (Nat.le_trans g2.size e)
theorem Zcm (w2:World)(q:Nat): ∃W p7 p8 p9 p10,(((w2.alloc (.cells #[.pointer (some ⟨q,0,none⟩)] 27)).alloc (.cells #[.slice none 0 0] 37)).alloc (.cells #[.slice none 0 0] 24)).alloc (.cells #[.bool false] 4)=W/\w2.heap.size=p7/\w2.heap.size+1=p8/\w2.heap.size+1+1=p9/\w2.heap.size+1+1+1=p10 /\
  Below w2.heap.size w2 W/\W.heap[p7]? = some (.cells #[.pointer (some ⟨q,0,none⟩)] 27)/\W.heap[p8]? = some (.cells #[.slice none 0 0] 37)/\W.heap[p9]? = some (.cells #[.slice none 0 0] 24)/\W.heap[p10]? = some (.cells #[.bool false] 4):=by
 refine⟨_,_,_,_,_,rfl,rfl,rfl,rfl,rfl,(((zB _ _).alloc (by simp) _).alloc (by simp;omega) _).alloc (by simp;omega) _,?_,?_,?_,?_⟩
 ·exact Z9 _ _ _ _ (Z9 _ _ _ _ (Z9 _ _ _ _ (Za _ _)))
 ·exact Z9 _ _ _ _ (Z9 _ _ _ _ (Zy _ _ _ (by simp)))
 ·exact Z9 _ _ _ _ (Zy _ _ _ (by simp))
 ·exact Zy _ _ _ (by simp)
theorem Z9O (p:Nat)(F:Nat->Prop)(V:ZO)(a:Ji)(sa:zA)(sc:Nat)(w:World)(h:VO w p F V)(hm:Uj V a.idx=none):
  Calls zq 90 #[.pointer (some ⟨p,0,none⟩),.agg (a.cells sa sc).toArray] w fun e w'=>e = .returned (.int .i64 3)/\Yr w p F V w':=by
 have b0:=zB w (.cells (a.cells sa sc).toArray 67);have C3:=zH (show(a.cells sa sc).toArray[3]? = some (.int .i64 a.idx)from rfl);obtain⟨OA,hOA⟩:=zX ((a.cells sa sc).toArray);rw[hOA.out]at b0 C3 ⊢;have X0:=zH (Za w (.cells OA 67));have H0:=zH (h.below Zl b0);have B0:=zH b0;have I3:=zH (show ∀x y z:Value,(zq.info? 152).map (·.size)=some (#[x,y,z]:Y6).size from fun x y z=>by kernel_rfl);clear b0 hOA h;go_enter Tryz.func90,Tryz.ntmps90;go_upto_region 1 with fail;obtain⟨p3,hp3⟩:=zX (w.heap.size);rw[hp3.out]at X0 ⊢;generalize w.alloc (.cells OA 67)=W0 at *;have c1:=Z6 X0.out 3 (.int .i64 a.idx) C3.out;go_wp2_with fail;refine(Z3L p F V a.idx _ H0.out hm).mono ?_;rintro e w1 ⟨rfl,b1⟩;have RR:=zH (((QK.refl H0.out).after B0.out).then Zl (b1.mono (Nat.le_refl _)):Yr w p F V w1);clear b1 c1 hm;go_upto_region 2 with (refine Zv w1 rfl 152 _ _ rfl w1.heap.size rfl _ #[.int .i64 0,.int .i64 0,.slice none 0 0] rfl rfl (I3.out _ _ _) rfl (QA 0 0 (none,0,0)) ?_);have RF:=zH (RR.out.then Zl (zB _ (.cells #[.int .i64 0,.int .i64 0,.slice none 0 0] 152)));generalize w1.alloc (.cells #[.int .i64 0,.int .i64 0,.slice none 0 0] 152)=w2 at *;go_wp2;go_ret;exact⟨rfl,RF.out⟩
theorem Z9P (p:Nat)(F:Nat->Prop)(V:ZO)(a:Ji)(sa:zA)(sc:Nat)(m:MlV)(l:List Z8)(S:Zf)(w:World)(h:VO w p F V)(hm:Uj V a.idx=some m)(hS:YA (XT V a.idx) m.to=some S)(hmc:m.cont = .gift l)(hi:Xh S)(hl : ∀x∈l,Zg S.f x=true/\x.Ok)(hlen:l.length<=16)(hn:S.l.length<=384):
  Calls zq 90 #[.pointer (some ⟨p,0,none⟩),.agg (a.cells sa sc).toArray] w fun e w'=>e = .returned (.int .i64 (ZR S l).2.2)/\Yr w p F (JZ (XT V a.idx) m.to (ZR S l).1) w':=by
 have HL:=zH hl;have HLEN:=zH hlen;have HN:=zH hn;have HMC:=zH (show m.body=(Xe.gift l).body by unfold MlV.body;rw[hmc]);clear hl hlen hn hmc;have I3:=zH (show ∀x y z:Value,(zq.info? 152).map (·.size)=some (#[x,y,z]:Y6).size from fun x y z=>by kernel_rfl);have hmf : ∀(fn:Fn) (first cap:Y6) (w:World),(Instr.makeFunc fn first cap).run zq w = .ok (.func fn first cap) w:=fun _ _ _ _=>rfl;have b0:=zB w (.cells (a.cells sa sc).toArray 67);have C3:=zH (show(a.cells sa sc).toArray[3]? = some (.int .i64 a.idx)from rfl);obtain⟨OA,hOA⟩:=zX ((a.cells sa sc).toArray);rw[hOA.out]at b0 C3 ⊢;have X0:=zH (Za w (.cells OA 67));have H0:=zH (h.below Zl b0);have B0:=zH b0;have HI:=zH hi;clear b0 hOA h hi;go_enter Tryz.func90,Tryz.ntmps90;go_upto_region 1 with fail;obtain⟨p3,hp3⟩:=zX (w.heap.size);rw[hp3.out]at X0 ⊢;generalize w.alloc (.cells OA 67)=W0 at *;have c1:=Z6 X0.out 3 (.int .i64 a.idx) C3.out;go_wp2_with fail;refine(zu p F V a.idx m _ H0.out hm).mono ?_;rintro e w1 ⟨ba,bc,rfl,hb,hr⟩;obtain⟨F1,g1,g2,g3⟩:=hr;obtain⟨ps,Fs,ha,hc,xs,ma,mc,h1,h2⟩:=g1.open;obtain⟨k,q,Fk,e1,e2,u1,u2,u3,u4⟩:=h1.at hS;have FIN:Hid (∀V' w',Yr w1 p F1 V' w'->Yr w p F V' w'):=zH (fun V' w' r=>(r.comp g2 g3).after B0.out);obtain⟨mb,sp,G,SF,k1,k2⟩:=u3;have HK:=zH k1;have K2:=zH k2;have RB:=zH hb;have H1:=zH h1;have H2:=zH h2;have UU:=zH (And.intro e2 (And.intro u1 u2));have RET:Hid (∀S' w',Z2g UM w1 q Fk S' w'->Yr w p F (JZ (XT V a.idx) m.to S') w'):=zH (fun S' w' j=>FIN.out _ _ (by rw[h2];exact h1.ret Zl e2 u1 u2 j));have HH:Hid (∀w2,Below w1.heap.size w1 w2->Calls zq 86 #[.pointer (some ⟨p,0,none⟩),.int .i64 m.to] w2 fun e w'=>e = .returned (.pointer (some ⟨q,0,none⟩))/\w'=w2):=zH (fun w2 b2=>Xj (h1.below Zl b2) m.to k q e1 u1);have LT1:Hid (∀k,Yl q mb G SF k->k < w1.heap.size):=zH k1.lt;clear c1 hm hb g1 g2 g3 h1 h2 e1 e2 u1 u2 u4 k1 k2 hS H0 X0;go_upto_region 2 with (refine Zv w1 rfl 152 _ _ rfl w1.heap.size rfl _ #[.int .i64 m.frm,.int .i64 m.to,.slice ba m.body.length bc] rfl rfl (I3.out _ _ _) rfl (QA m.frm m.to (ba,m.body.length,bc)) ?_)
 have b2:Below w1.heap.size w1 (w1.alloc (.cells #[.int .i64 m.frm,.int .i64 m.to,.slice ba m.body.length bc] 152)):=zB _ _;have B2:=zH b2;have X5:=zH (Za w1 (.cells #[.int .i64 m.frm,.int .i64 m.to,.slice ba m.body.length bc] 152));obtain⟨p5,hp5⟩:=zX (w1.heap.size);rw[hp5.out]at X5 ⊢;clear b2;generalize w1.alloc (.cells #[.int .i64 m.frm,.int .i64 m.to,.slice ba m.body.length bc] 152)=w2 at *;have c51:=Z6 X5.out 1 (.int .i64 m.to) rfl;go_wp2_with fail;refine(HH.out w2 B2.out).mono ?_;rintro e w3 ⟨rfl,rfl⟩;clear HH;go_upto_region 8 with fail;obtain⟨W,p7,p8,p9,p10,hW,h7,h8,h9,h10,bW,i7,i8,i9,i10⟩:=Zcm w3 q;rw[h10,h9,h8,h7,hW];have GE:Hid (w1.heap.size<=p7/\w1.heap.size<=p8/\w1.heap.size<=p9/\w1.heap.size<=p10):=zH (by have:=B2.out.size;omega);have BW:=zH (B2.out.trans (bW.mono B2.out.size));replace X5:=zH (Z7 bW X5.out);have I7:=zH i7;have I8:=zH i8;have I9:=zH i9;have I10:=zH i10;clear hW h7 h8 h9 h10 bW i7 i8 i9 i10 c51 B2;have c52:=Z6 X5.out 2 (.slice ba m.body.length bc) rfl;go_wp2_with fail;refine(Z8X S.f p10 p8 p7 p9 q _ l ba _ bc W (HMC.out ▸ Ye.below RB.out BW.out) I10.out I9.out I7.out (Z7 BW.out HK.out.blk) ⟨rfl,rfl,rfl⟩ HI.out.v (fun x hx=>(HL.out x hx).1) HLEN.out).mono ?_;rintro e W9 ⟨rfl,ga,gc,es,eA,eH,eG,og,oe,en,s9⟩;have B9:=zH (s9.below BW.out BW.out.size (fun j hj=>by
  have h1:=GE.out;rcases hj with e | e
  ·rw[e];exact h1.2.2.2
  ·rw[e];exact h1.2.2.1))
 have RL:Hid (∀W',Zb (Yl q mb G SF) W9 W'->zk W' ga l.length gc es):=zH (fun W' hs=>by
  have hno : ∀{e:TypeId} {k:Nat} {v:Value} {n:Nat} {xs:List Value},W9.ownsRow W.heap.size e k v n xs->W'.ownsRow W.heap.size e k v n xs:=fun ho=>Ze ho hs (fun b hb hF=>by
   have h1:=LT1.out b hF;have h2:=(ho.lt b hb).1;have h3:=BW.out.size;omega)
  exact Z1O (Y3.of_own (hno og)) (fun x hx=>Y3.of_own (hno (oe x hx))))
 have EN:=zH en;have c10:=Z6 eA 0 (.bool false) rfl;have c7:=Z6 eH 0 (.pointer (some ⟨q,0,none⟩)) rfl;have c9:=Z6 eG 0 (.slice ga l.length gc) rfl;clear eA eH eG og oe en s9 c52 hmf;go_wp2_with fail;refine(Z5L q mb sp G SF S ga l.length gc l es W9 (HK.out.below B9.out) HI.out EN.out RL.out (fun x hx=>(HL.out x hx).2) (by have h1:=HN.out;have h2:=HLEN.out;omega)).mono ?_;rintro e W10 ⟨rfl,G2,SF2,j1,j2,j3⟩;have FN:=zH (RET.out _ W10 (Z23 K2.out j1 ((Zb.of_below B9.out).trans j2) (fun k hk=>(j3 k hk).imp id (fun e=>Nat.le_trans B9.out.size e))));clear j1 j2 j3 c10 c7 c9;go_wp2;go_ret;exact⟨rfl,FN.out⟩
theorem Z9Q (p:Nat)(F:Nat->Prop)(V:ZO)(a:Ji)(sa:zA)(sc:Nat)(m:MlV)(c:List Int)(S:Zf)(w:World)(h:VO w p F V)(hm:Uj V a.idx=some m)(hS:YA (XT V a.idx) m.to=some S)(hmc:m.cont = .ask c)(hi:Xh S)(hcc:c.length=8 /\ ∀z∈c,0<=z/\z<=400)(hn:S.l.length<=400)(hk:Z0q S c=[]):
  Calls zq 90 #[.pointer (some ⟨p,0,none⟩),.agg (a.cells sa sc).toArray] w fun e w'=>e = .returned (.int .i64 0)/\Yr w p F (JZ (XT V a.idx) m.to S.sync) w':=by
 have HC:=zH hcc;have HN:Hid (S.sync.l.length<=400):=zH hn;have HMC:=zH (show m.body=(Xe.ask c).body by unfold MlV.body;rw[hmc]);have LK:=zH hk;clear hcc hn hmc hk;have I3:=zH (show ∀x y z:Value,(zq.info? 152).map (·.size)=some (#[x,y,z]:Y6).size from fun x y z=>by kernel_rfl);have hmf : ∀(fn:Fn) (first cap:Y6) (w:World),(Instr.makeFunc fn first cap).run zq w = .ok (.func fn first cap) w:=fun _ _ _ _=>rfl;have b0:=zB w (.cells (a.cells sa sc).toArray 67);have C3:=zH (show(a.cells sa sc).toArray[3]? = some (.int .i64 a.idx)from rfl);obtain⟨OA,hOA⟩:=zX ((a.cells sa sc).toArray);rw[hOA.out]at b0 C3 ⊢;have X0:=zH (Za w (.cells OA 67));have H0:=zH (h.below Zl b0);have B0:=zH b0;have HI:=zH hi;clear b0 hOA h hi;go_enter Tryz.func90,Tryz.ntmps90;go_upto_region 1 with fail;obtain⟨p3,hp3⟩:=zX (w.heap.size);rw[hp3.out]at X0 ⊢;generalize w.alloc (.cells OA 67)=W0 at *;have c1:=Z6 X0.out 3 (.int .i64 a.idx) C3.out;go_wp2_with fail;refine(zu p F V a.idx m _ H0.out hm).mono ?_;rintro e w1 ⟨ba,bc,rfl,hb,hr⟩;obtain⟨F1,g1,g2,g3⟩:=hr;obtain⟨ps,Fs,ha,hc,xs,ma,mc,h1,h2⟩:=g1.open;obtain⟨k,q,Fk,e1,e2,u1,u2,u3,u4⟩:=h1.at hS;have FIN:Hid (∀V' w',Yr w1 p F1 V' w'->Yr w p F V' w'):=zH (fun V' w' r=>(r.comp g2 g3).after B0.out);obtain⟨mb,sp,G,SF,k1,k2⟩:=u3;have HK:=zH k1;have K2:=zH k2;have RB:=zH hb;have H1:=zH h1;have H2:=zH h2;have UU:=zH (And.intro e2 (And.intro u1 u2));have RET:Hid (∀S' w',Z2g UM w1 q Fk S' w'->Yr w p F (JZ (XT V a.idx) m.to S') w'):=zH (fun S' w' j=>FIN.out _ _ (by rw[h2];exact h1.ret Zl e2 u1 u2 j));have HH:Hid (∀w2,Below w1.heap.size w1 w2->Calls zq 86 #[.pointer (some ⟨p,0,none⟩),.int .i64 m.to] w2 fun e w'=>e = .returned (.pointer (some ⟨q,0,none⟩))/\w'=w2):=zH (fun w2 b2=>Xj (h1.below Zl b2) m.to k q e1 u1);have LT1:Hid (∀k,Yl q mb G SF k->k < w1.heap.size):=zH k1.lt;clear c1 hm hb g1 g2 g3 h1 h2 e1 e2 u1 u2 u4 k1 k2 hS H0 X0;go_upto_region 2 with (refine Zv w1 rfl 152 _ _ rfl w1.heap.size rfl _ #[.int .i64 m.frm,.int .i64 m.to,.slice ba m.body.length bc] rfl rfl (I3.out _ _ _) rfl (QA m.frm m.to (ba,m.body.length,bc)) ?_)
 have b2:Below w1.heap.size w1 (w1.alloc (.cells #[.int .i64 m.frm,.int .i64 m.to,.slice ba m.body.length bc] 152)):=zB _ _;have B2:=zH b2;have X5:=zH (Za w1 (.cells #[.int .i64 m.frm,.int .i64 m.to,.slice ba m.body.length bc] 152));obtain⟨p5,hp5⟩:=zX (w1.heap.size);rw[hp5.out]at X5 ⊢;clear b2;generalize w1.alloc (.cells #[.int .i64 m.frm,.int .i64 m.to,.slice ba m.body.length bc] 152)=w2 at *;have c51:=Z6 X5.out 1 (.int .i64 m.to) rfl;go_wp2_with fail;refine(HH.out w2 B2.out).mono ?_;rintro e w3 ⟨rfl,rfl⟩;clear HH;go_upto_region 8 with fail;obtain⟨W,p7,p8,p9,p10,hW,h7,h8,h9,h10,bW,i7,i8,i9,i10⟩:=Zcm w3 q;rw[h10,h9,h8,h7,hW];have GE:Hid (w1.heap.size<=p7/\w1.heap.size<=p8/\w1.heap.size<=p9/\w1.heap.size<=p10):=zH (by have:=B2.out.size;omega);have BW:=zH (B2.out.trans (bW.mono B2.out.size));replace X5:=zH (Z7 bW X5.out);have I7:=zH i7;have I8:=zH i8;have I9:=zH i9;have I10:=zH i10;clear hW h7 h8 h9 h10 bW i7 i8 i9 i10 c51 B2;have c52:=Z6 X5.out 2 (.slice ba m.body.length bc) rfl;go_wp2_with fail;refine(Z5W p10 p8 p7 p9 q c ba _ bc W (HMC.out ▸ Ye.below RB.out BW.out) I10.out I8.out I7.out (fun z hz=>by have:=HC.out.2 z hz;unfold Yk far;omega) (by have:=HC.out.1;omega)).mono ?_;rintro e W9 ⟨rfl,ca,c2,eA,eH,eC,oc,s9⟩;have B9:=zH (s9.below BW.out BW.out.size (fun j hj=>by
  have h1:=GE.out;rcases hj with e | e
  ·rw[e];exact h1.2.2.2
  ·rw[e];exact h1.2.1))
 have E5:=zH ((s9.block p5 (Zk X5.out) (fun e=>by
  rcases e with e | e
  ·exact Z2V X5.out I10.out (by decide) e
  ·exact Z2V X5.out I8.out (by decide) e)).trans X5.out)
 have OC:=zH oc;have E7:=zH eH;have E8:=zH eC;have c10:=Z6 eA 0 (.bool true) rfl;have c7:=Z6 eH 0 (.pointer (some ⟨q,0,none⟩)) rfl;clear eA eH eC oc s9 c52 hmf X5;go_wp2_with fail;refine(Jt q mb sp G SF S W9 (HK.out.below B9.out)).mono ?_;rintro e W10 ⟨rfl,j1,j2⟩;have SPL:=zH (LT1.out sp (.inr (.inr (.inl HK.out.stk.self))));have hno : ∀{j:Nat} {o:Obj},W9.heap[j]? = some o->w1.heap.size<=j->W10.heap[j]? = some o:=fun {j o} hj hl=>(j2.block j (Zk hj) (fun e=>by have h1:=SPL.out;have h2:j=sp:=e;omega)).trans hj;have F5:=zH (hno E5.out (by rw[hp5.out];exact Nat.le_refl _));have F7:=zH (hno E7.out GE.out.1);have F8:=zH (hno E8.out GE.out.2.1);have OC2:=zH (Ze OC.out j2 (fun b hb e=>by
  have h1:=(OC.out.lt b hb).1;have h2:=SPL.out;have h3:=BW.out.size;have h4:b=sp:=e;omega))
 have J1:=zH j1;have J2:Hid (Zb (Yl q mb G SF) w1 W10):=zH ((Zb.of_below B9.out).trans (j2.weaken (fun b hb=>by rw[show b=sp from hb];exact .inr (.inr (.inl HK.out.stk.self)))));clear hno j1 j2 c10 c7 E5 E7 E8 OC;have c7:=Z6 F7.out 0 (.pointer (some ⟨q,0,none⟩)) rfl;have c8:=Z6 F8.out 0 (.slice ca c.length c2) rfl;go_wp2_with fail;refine(Z20 q mb sp G SF S.sync c ca c.length c2 W10 J1.out HI.out.sync HN.out (Y3.of_own OC2.out)).mono ?_;rintro e W11 ⟨⟨la,ln,lc,zs,rfl,kp,zn⟩,b11⟩;have ZN:Hid (zs.map LN.n=Z0q S c):=zH zn;have LN0:Hid (zs.length=ln):=zH kp.rd.1;have KP:=zH kp;have B11:=zH b11;clear kp zn b11 c7 c8;have hz:ln=0:=by
  have h1:=LN0.out;have h2:=ZN.out;rw[LK.out]at h2;rw[List.map_eq_nil_iff.1 h2]at h1;exact h1.symm
 subst hz;have FN:=zH (RET.out _ W11 (Z23 K2.out (J1.out.below B11.out) (J2.out.trans (Zb.of_below B11.out)) (fun k hk=>.inl hk)));go_wp2;go_ret;exact⟨rfl,FN.out⟩
theorem Z3A (sa:zA)(n c:Nat):Value.ownBlock (.slice sa n c)=Value.ownBlock (.slice sa 0 0):=by cases sa <;> rfl
structure Z5j (sa:zA)(w wr:World)(a':zA):Prop where
 s:Zb (fun k=>Value.ownBlock (.slice sa 0 0)=some k) w wr
 o : ∀k,Value.ownBlock (.slice a' 0 0)=some k->Value.ownBlock (.slice sa 0 0)=some k\/w.heap.size<=k
def ZdA (a:zA)(w:World)(a':zA)(w':World):Prop:=Zb (fun k=>Value.ownBlock (.slice a 0 0)=some k) w w' /\ ∀k,Value.ownBlock (.slice a' 0 0)=some k->Value.ownBlock (.slice a 0 0)=some k\/w.heap.size<=k
theorem Z5j.refl (sa:zA)(w:World):Z5j sa w w sa:=⟨Zb.refl _ _,fun k h=>.inl h⟩
theorem Z5j.step {sa a a':zA}{w wr w':World}(h:Z5j sa w wr a)(hs:ZdA a wr a' w'):Z5j sa w w' a':=
 ⟨h.s.trans2 hs.1 (fun k hk=>h.o k hk),fun k hk=>by
  rcases hs.2 k hk with e | e
  ·exact h.o k e
  ·exact .inr (Nat.le_trans h.s.size e)⟩
theorem Z5j.rd {sa a':zA}{w wr:World}(h:Z5j sa w wr a'){k:Nat}{a:zA}{n c:Nat}{xs:List Value}(hr:Y3 w k a n c xs)(hn : ∀b off,a=some ⟨b,off,none⟩->Value.ownBlock (.slice sa 0 0)≠some b):Y3 wr k a n c xs:=
 hr.of_cells fun b ⟨off,hb⟩ hlt=>h.s.block b hlt (hn b off hb)
theorem Z8d {ops:Array Oper}{rest:List Oper}{o:Oper}{a:Act}{Q:Exit->Act->World->Prop}(w:World)(hgd:o.guard=none)(s x:Operand)
  (ho:o.op = .call { callee := .builtin .append,args := #[s,x],argTypes := #[41,41] }) (base:Nat)
  (sa:zA) (sn sc:Nat) (xs:zU) (hs:a.eval s = .slice sa sn sc) (hown:w.ownsRow base 5 1 (.slice sa sn sc) sn (xs.map Zr))
  (c:UInt8) (v:Int) (hv:v=(c.toNat:Int)) (hx:a.eval x = .slice (some ⟨w.heap.size,0,none⟩) 1 1) (hbytes:sn+1<=140737488355328) (hbase:base<=w.heap.size)
  (h : ∀a' c' w',w'.ownsRow base 5 1 (.slice a' (sn+1) c') (sn+1) ((xs ++ [c]).map Zr)->ZdA sa w a' w'->wpList zq ops Q rest (a.put o.dst (.slice a' (sn+1) c')) w'):
  wpList zq ops Q (o :: rest) a (w.alloc (.cells #[.int .u8 v] 5)):=by
 subst hv;have hb:Below w.heap.size w (w.alloc (.cells #[.int .u8 (c.toNat:Int)] 5)):=zB _ _;have hr:(w.alloc (.cells #[.int .u8 (c.toNat:Int)] 5)).ownsRow w.heap.size 5 1 (.slice (some ⟨w.heap.size,0,none⟩) 1 1) 1 ([c].map Zr):=
  World.ownsRow_lit (base:=w.heap.size) (e:=5) (size:=1) w #[.int .u8 (c.toNat:Int)] 1 (Nat.le_refl _) (by unfold maxLen;omega) rfl
 have ho2:=Zd hown hb;refine Z0h _ hgd s x ho base sa sn sc xs hs ho2 _ 1 1 [c] hx (Ye.of_own hr) hbytes (Nat.le_trans hbase hb.size) (fun a' c' w' hl h1 h2=>h a' c' w' h1 ⟨?_,fun k hk=>?_⟩)
 ·exact(Zb.of_below hb).trans (Zb.of_grown h2 (fun k e=>by rw[<-Z3A sa sn sc];exact e))
 ·rcases hl with e | e
  ·rw[e]at hk;exact .inl hk
  ·rw[e]at hk;have h3:(w.alloc (.cells #[.int .u8 (c.toNat:Int)] 5)).heap.size=k:=by simpa [Value.ownBlock] using hk
   exact .inr (h3 ▸ hb.size)
theorem Za6 (base:Nat)(sa:zA)(sn sc:Nat)(xs:zU)(la:zA)(n lc:Nat)(zs:List Int)(w:World)(hbase:base<=w.heap.size)
  (hown:w.ownsRow base 5 1 (.slice sa sn sc) sn (xs.map Zr)) (hr:Xs w la n lc zs) (hap : ∀b off,la=some ⟨b,off,none⟩->Value.ownBlock (.slice sa sn sc)≠some b) (hz : ∀z∈zs,J6 z) (hlen:(xs ++ Zt zs).length<=140737488355328):
  Calls zq 143 #[.slice sa sn sc,.slice la n lc] w fun e w' => ∃a' c',e = .returned (.slice a' (xs ++ Zt zs).length c') /\
   w'.ownsRow base 5 1 (.slice a' (xs ++ Zt zs).length c') (xs ++ Zt zs).length ((xs ++ Zt zs).map Zr)/\Zb (fun k=>Value.ownBlock (.slice sa 0 0)=some k) w w':=by
 have hn:=hr.maxn;have hl:=zH hr.len;have HL:=zH hlen;clear hlen;have HZ:=zH hz;clear hz;have HO:=zH hown;have hsn:sn=xs.length:=by have:=hown.1;simpa using this.symm
 have hsg:IntKind.u64.signed=false:=rfl;clear hown;have HB:=zH hbase;clear hbase;go_enter Tryz.func143,Tryz.ntmps143;go_wp2_with fail;go_loopw [0,6,7,10] (fun b _ _ i wr=>∃(k m:Nat) (a':zA) (c':Nat),b = .slice a' m c'/\k<=n/\i = .int .i64 k/\Hid (wr.ownsRow base 5 1 (.slice a' m c') m ((xs ++ Zt (zs.take k)).map Zr))/\Hid (Z5j sa w wr a')) (fun _ _ _ i _=>n - (intOf i).toNat)
 case atStart=>exact⟨0,sn,sa,sc,rfl,Nat.zero_le _,rfl,zH (by simpa [Zt] using HO.out),zH (Z5j.refl _ _)⟩
 case round=>
  obtain⟨k,m,a',c',rfl,hk,rfl,HW,HA⟩:=hrel;by_cases hlt:k < n
  ·obtain⟨b,off,rfl,hc⟩:=Xs.at (HA.out.rd hr (fun b off e=>by rw[<-Z3A sa sn sc];exact hap b off e)) (by omega);have e1:=hc k hlt;have hk64:(k:Int)<=9223372036854775807:=by omega
   have hzk:=HZ.out (zs[k]?.getD 0) (by rw[List.getElem?_eq_getElem (by rw[hl.out];exact hlt),Option.getD_some];exact List.getElem_mem _);have HT:=zH (QT (l:=zs) (k:=k) (by rw[hl.out];exact hlt));generalize zs[k]?.getD 0=z at *;clear hc;by_cases hneg:z < 0
   focus
    have hu:=Z9i hzk hneg
   rotate_left
   focus
    have hu:=Z62 hzk (by omega)
   all_goals
    go_wp2_with fail;go_loopw [0,7] (fun b u wi=>∃(v m2:Nat) (ys:zU) (a2:zA) (c2:Nat),b = .slice a2 m2 c2/\u = .int .u64 v/\v < 18446744073709551616/\Hid (ys ++ Z0a v=xs ++ Zt (zs.take (k+1)))/\Hid (wi.ownsRow base 5 1 (.slice a2 m2 c2) m2 (ys.map Zr))/\Hid (Z5j sa w wi a2)) (fun _ u _=>(intOf u).toNat)
    case atStart=>exact⟨zig z,m,xs ++ Zt (zs.take k),a',c',rfl,rfl,Z3K hzk,zH (by rw[HT.out,List.append_assoc];rfl),HW,HA⟩
    case round=>
     obtain⟨v,m2,ys,a2,c2,rfl,rfl,hv,HY,HW2,HA2⟩:=hrel;have hm2:m2=ys.length:=by have:=HW2.out.1;simpa using this.symm
     have hle:m2+(Z0a v).length<=140737488355328:=by
      have h1:=congrArg List.length HY.out;have h2:=HL.out;have h3:=Z0b zs (k+1);simp only[List.length_append]at h1 h2;omega
     have hps:=Z0J v;subst hm2;obtain⟨cb,hcb⟩ : ∃cb,Hid (cb=UInt8.ofNat (v % 128+128)):=⟨_,zH rfl⟩;obtain⟨cd,hcd⟩ : ∃cd,Hid (cd=UInt8.ofNat v):=⟨_,zH rfl⟩;have hb2:base<=wr.heap.size:=Nat.le_trans HB.out HA2.out.s.size;clear e1;by_cases hge:(128:Int)<=v
     ·have hor:=Zdx v;have hq:IntKind.u64.wrap ((v:Int) / 128)=((v / 128:Nat):Int):=by rw[IntKind.wrap_u64];omega
      go_wp2_with (at_builtin;refine Z8d _ rfl _ _ rfl base _ _ _ ys rfl HW2.out cb _ (by rw[hcb.out,JW (by omega)];first | omega | rfl) rfl (by omega) hb2 ?_);intro a3 c3 w3 h1 h2;have H1:=zH h1;clear h1;go_wp2;go_roundw
      case rel=>exact⟨v / 128,ys.length+1,ys ++ [cb],a3,c3,rfl,by go_num,by omega,zH (by rw[List.append_assoc,List.singleton_append,hcb.out,<-Z11 (by omega)];exact HY.out),zH (by rw[List.map_append];exact H1.out),zH (HA2.out.step h2)⟩
      case measure=>simp[intOf];omega
     ·go_wp2_with (at_builtin;refine Z8d _ rfl _ _ rfl base _ _ _ ys rfl HW2.out cd (v:Int) (by rw[hcd.out,JW (by omega)]) rfl (by omega) hb2 ?_);intro a3 c3 w3 h1 h2;have H1:=zH h1;clear h1;have HE:=zH (show ys ++ [cd]=xs ++ Zt (zs.take (k+1))by rw[hcd.out,<-Z10 (by omega)];exact HY.out);go_wp2;go_roundw
      case rel=>exact⟨k+1,ys.length+1,a3,c3,rfl,by omega,by go_num,zH (by rw[<-HE.out,List.map_append];exact H1.out),zH (HA2.out.step h2)⟩
      case measure=>simp[intOf];omega
  ·have hkn:k=n:=by omega
   subst hkn;have hm:m=(xs ++ Zt zs).length:=by
    have:=HW.out.1;rw[List.take_of_length_le (by rw[hl.out];exact Nat.le_refl _)]at this;simpa using this.symm
   have HWW:=zH (show wr.ownsRow base 5 1 (.slice a' m c') m ((xs ++ Zt zs).map Zr)by
    have:=HW.out;rwa [List.take_of_length_le (by rw[hl.out];exact Nat.le_refl _)]at this)
   subst hm;go_wp2;go_ret;exact⟨_,_,rfl,HWW.out,HA.out.s⟩
theorem Z8Y {l:List Z8}{k:Nat}{x:Z8}(h:l[k]? = some x):Yy (l.take (k+1))=Yy (l.take k) ++ (Yh ((Y5 x).length:Int) ++ Y5 x):=by
 rw[List.take_add_one,h];simp[Yy]
theorem Z3j: ∀(l:List Z8),(∀x∈l,(Y5 x).length<=8192)->(Yy l).length<=l.length * 8210
 | [],_=>Nat.zero_le _
 | x :: l,h=>by
  have h1:=Z3j l (fun y hy=>h y (List.mem_cons_of_mem _ hy))
  have h2:=h x (List.mem_cons_self ..)
  have h3:=Qd [((Y5 x).length:Int)] (fun z hz=>by rw[List.mem_singleton.1 hz];unfold J6;omega)
  rw[JJ]at h3
  show((Yh ((Y5 x).length:Int) ++ Y5 x) ++ Yy l).length<=(l.length+1) * 8210
  rw[List.length_append,List.length_append]
  simp at h3
  omega
theorem Zba (p:Nat)(F:Nat->Prop)(V:ZO)(a:Ji)(sa:zA)(sc:Nat)(m:MlV)(c:List Int)(S:Zf)(w:World)(h:VO w p F V)(hm:Uj V a.idx=some m)(hS:YA (XT V a.idx) m.to=some S)(hmc:m.cont = .ask c)(hi:Xh S)(hcc:c.length=8 /\ ∀z∈c,0<=z/\z<=400)(hn:S.l.length<=400)(hk:Z0q S c≠[])(hml:V.ms.length<=64):
  Calls zq 90 #[.pointer (some ⟨p,0,none⟩),.agg (a.cells sa sc).toArray] w fun e w'=>e = .returned (.int .i64 0)/\Yr w p F (Vy (JZ (XT V a.idx) m.to S.sync) ⟨m.to,m.frm,.gift ((Z0q S c).take 16)⟩) w':=by
 have J19:(zq.info? 47).map (·.size)=some 19:=by kernel_rfl
 have HC:=zH hcc;have HN:Hid (S.sync.l.length<=400):=zH hn;have HMC:=zH (show m.body=(Xe.ask c).body by unfold MlV.body;rw[hmc]);have LK:=zH hk;have DL:Hid ((XT V a.idx).ms.length<=64):=zH (Nat.le_trans (List.eraseIdx_sublist V.ms a.idx.toNat).length_le hml);have LF:Hid (∀x∈Z0q S c,Zg S.f x=true/\x.Ok):=zH (fun x hx=>⟨hi.frm x (List.mem_filter.1 hx).1,hi.ok x (List.mem_filter.1 hx).1⟩);clear hcc hn hmc hk hml;have I3:=zH (show ∀x y z:Value,(zq.info? 152).map (·.size)=some (#[x,y,z]:Y6).size from fun x y z=>by kernel_rfl);have hmf : ∀(fn:Fn) (first cap:Y6) (w:World),(Instr.makeFunc fn first cap).run zq w = .ok (.func fn first cap) w:=fun _ _ _ _=>rfl;have b0:=zB w (.cells (a.cells sa sc).toArray 67);have C3:=zH (show(a.cells sa sc).toArray[3]? = some (.int .i64 a.idx)from rfl);obtain⟨OA,hOA⟩:=zX ((a.cells sa sc).toArray);rw[hOA.out]at b0 C3 ⊢;have X0:=zH (Za w (.cells OA 67));have H0:=zH (h.below Zl b0);have B0:=zH b0;have HI:=zH hi;clear b0 hOA h hi;go_enter Tryz.func90,Tryz.ntmps90;go_upto_region 1 with fail;obtain⟨p3,hp3⟩:=zX (w.heap.size);rw[hp3.out]at X0 ⊢;generalize w.alloc (.cells OA 67)=W0 at *;have c1:=Z6 X0.out 3 (.int .i64 a.idx) C3.out;go_wp2_with fail;refine(zu p F V a.idx m _ H0.out hm).mono ?_;rintro e w1 ⟨ba,bc,rfl,hb,hr⟩;obtain⟨F1,g1,g2,g3⟩:=hr;obtain⟨ps,Fs,ha,hc,xs,ma,mc,h1,h2⟩:=g1.open;obtain⟨k,q,Fk,e1,e2,u1,u2,u3,u4⟩:=h1.at hS;have FIN:Hid (∀V' w',Yr w1 p F1 V' w'->Yr w p F V' w'):=zH (fun V' w' r=>(r.comp g2 g3).after B0.out);obtain⟨mb,sp,G,SF,k1,k2⟩:=u3;have HK:=zH k1;have K2:=zH k2;have RB:=zH hb;have H1:=zH h1;have H2:=zH h2;have UU:=zH (And.intro e2 (And.intro u1 u2));have RET:Hid (∀S' w',Z2g UM w1 q Fk S' w'->Yr w p F (JZ (XT V a.idx) m.to S') w'):=zH (fun S' w' j=>FIN.out _ _ (by rw[h2];exact h1.ret Zl e2 u1 u2 j));have HH:Hid (∀w2,Below w1.heap.size w1 w2->Calls zq 86 #[.pointer (some ⟨p,0,none⟩),.int .i64 m.to] w2 fun e w'=>e = .returned (.pointer (some ⟨q,0,none⟩))/\w'=w2):=zH (fun w2 b2=>Xj (h1.below Zl b2) m.to k q e1 u1)
 have LT1:Hid (∀k,Yl q mb G SF k->k < w1.heap.size):=zH k1.lt;clear c1 hm hb g1 g2 g3 h1 h2 e1 e2 u1 u2 u4 k1 k2 hS H0 X0;go_upto_region 2 with (refine Zv w1 rfl 152 _ _ rfl w1.heap.size rfl _ #[.int .i64 m.frm,.int .i64 m.to,.slice ba m.body.length bc] rfl rfl (I3.out _ _ _) rfl (QA m.frm m.to (ba,m.body.length,bc)) ?_);have b2:Below w1.heap.size w1 (w1.alloc (.cells #[.int .i64 m.frm,.int .i64 m.to,.slice ba m.body.length bc] 152)):=zB _ _;have B2:=zH b2;have X5:=zH (Za w1 (.cells #[.int .i64 m.frm,.int .i64 m.to,.slice ba m.body.length bc] 152));obtain⟨p5,hp5⟩:=zX (w1.heap.size);rw[hp5.out]at X5 ⊢;clear b2;generalize w1.alloc (.cells #[.int .i64 m.frm,.int .i64 m.to,.slice ba m.body.length bc] 152)=w2 at *;have c51:=Z6 X5.out 1 (.int .i64 m.to) rfl;go_wp2_with fail;refine(HH.out w2 B2.out).mono ?_;rintro e w3 ⟨rfl,rfl⟩;clear HH;go_upto_region 8 with fail;obtain⟨W,p7,p8,p9,p10,hW,h7,h8,h9,h10,bW,i7,i8,i9,i10⟩:=Zcm w3 q;rw[h10,h9,h8,h7,hW];have GE:Hid (w1.heap.size<=p7/\w1.heap.size<=p8/\w1.heap.size<=p9/\w1.heap.size<=p10):=zH (by have:=B2.out.size;omega);have BW:=zH (B2.out.trans (bW.mono B2.out.size));replace X5:=zH (Z7 bW X5.out);have I7:=zH i7;have I8:=zH i8;have I9:=zH i9;have I10:=zH i10;clear hW h7 h8 h9 h10 bW i7 i8 i9 i10 c51 B2;have c52:=Z6 X5.out 2 (.slice ba m.body.length bc) rfl;go_wp2_with fail;refine(Z5W p10 p8 p7 p9 q c ba _ bc W (HMC.out ▸ Ye.below RB.out BW.out) I10.out I8.out I7.out (fun z hz=>by have:=HC.out.2 z hz;unfold Yk far;omega) (by have:=HC.out.1;omega)).mono ?_;rintro e W9 ⟨rfl,ca,c2,eA,eH,eC,oc,s9⟩;have B9:=zH (s9.below BW.out BW.out.size (fun j hj=>by
  have h1:=GE.out;rcases hj with e | e
  ·rw[e];exact h1.2.2.2
  ·rw[e];exact h1.2.1))
 have E5:=zH ((s9.block p5 (Zk X5.out) (fun e=>by
  rcases e with e | e
  ·exact Z2V X5.out I10.out (by decide) e
  ·exact Z2V X5.out I8.out (by decide) e)).trans X5.out)
 have OC:=zH oc;have E7:=zH eH;have E8:=zH eC;have c10:=Z6 eA 0 (.bool true) rfl;have c7:=Z6 eH 0 (.pointer (some ⟨q,0,none⟩)) rfl;clear eA eH eC oc s9 c52 hmf X5;go_wp2_with fail;refine(Jt q mb sp G SF S W9 (HK.out.below B9.out)).mono ?_;rintro e W10 ⟨rfl,j1,j2⟩;have SPL:=zH (LT1.out sp (.inr (.inr (.inl HK.out.stk.self))));have hno : ∀{j:Nat} {o:Obj},W9.heap[j]? = some o->w1.heap.size<=j->W10.heap[j]? = some o:=fun {j o} hj hl=>(j2.block j (Zk hj) (fun e=>by have h1:=SPL.out;have h2:j=sp:=e;omega)).trans hj;have F5:=zH (hno E5.out (by rw[hp5.out];exact Nat.le_refl _));have F7:=zH (hno E7.out GE.out.1);have F8:=zH (hno E8.out GE.out.2.1);have OC2:=zH (Ze OC.out j2 (fun b hb e=>by
  have h1:=(OC.out.lt b hb).1;have h2:=SPL.out;have h3:=BW.out.size;have h4:b=sp:=e;omega))
 have J1:=zH j1;have J2:Hid (Zb (Yl q mb G SF) w1 W10):=zH ((Zb.of_below B9.out).trans (j2.weaken (fun b hb=>by rw[show b=sp from hb];exact .inr (.inr (.inl HK.out.stk.self)))));clear hno j1 j2 c10 c7 E5 E7 E8 OC;have c7:=Z6 F7.out 0 (.pointer (some ⟨q,0,none⟩)) rfl;have c8:=Z6 F8.out 0 (.slice ca c.length c2) rfl;go_wp2_with fail;refine(Z20 q mb sp G SF S.sync c ca c.length c2 W10 J1.out HI.out.sync HN.out (Y3.of_own OC2.out)).mono ?_;rintro e W11 ⟨⟨la,ln,lc,zs,rfl,kp,zn⟩,b11⟩;have ZN:Hid (zs.map LN.n=Z0q S c):=zH zn;have LN0:Hid (zs.length=ln):=zH kp.rd.1;have KP:=zH kp;have B11:=zH b11;clear kp zn b11 c7 c8;have NP:Hid (0 < ln):=zH (by
  have h1:=LN0.out;have h2:=ZN.out;rcases Nat.eq_zero_or_pos ln with h3 | h3
  ·rw[h3]at h1;rw[List.eq_nil_of_length_eq_zero h1]at h2;exact absurd h2.symm LK.out
  ·exact h3)
 have t1:((ln:Int)==0)=false:=by have:=NP.out;simp;omega
 have t2:(ln==0)=false:=by have:=NP.out;simp;omega
 go_upto_region 16 with fail;clear t1 t2;obtain⟨hh,hhh⟩:=zX (min ln 16);have HL:Hid (hh<=ln/\hh<=16):=zH (by have:=hhh.out;omega);have hmin:min (ln:Int) 16=(hh:Int):=by have:=hhh.out;omega
 obtain⟨ja,hcut,hj⟩:=Zde (ZdK KP.out.rd) 0 hh none (some (.int .i64 (hh:Int))) (.inl ⟨rfl,rfl⟩) (.inr ⟨_,rfl⟩) (Nat.zero_le _) HL.out.1;rw[Nat.sub_zero,Nat.sub_zero,List.drop_zero]at hj;rw[Nat.sub_zero,Nat.sub_zero]at hcut;have RL:=zH (show zk W11 ja hh lc (zs.take hh)from Z1O hj (fun x hx=>Z5D KP.out.rd (List.mem_of_mem_take hx)));clear hj;go_upto_region 17 with fail;clear hcut hmin;obtain⟨l,hl⟩:=zX ((Z0q S c).take 16);have LL:Hid (l.length=hh):=zH (by rw[<-hl.out,List.length_take,<-ZN.out,List.length_map,LN0.out];have:=hhh.out;omega);have ZL:Hid ((zs.take hh).map LN.n=l):=zH (by
  have h1:(Z0q S c).length=ln:=by rw[<-ZN.out,List.length_map,LN0.out]
  rw[List.map_take,ZN.out,<-hl.out,<-hhh.out];rcases Nat.le_total ln 16 with h2 | h2
  ·rw[Nat.min_eq_left h2,List.take_of_length_le (by omega),List.take_of_length_le (by omega)]
  ·rw[Nat.min_eq_right h2])
 have LF2:Hid (∀x∈l,Zg S.f x=true):=zH (fun x hx=>(LF.out x (List.mem_of_mem_take (hl.out ▸ hx))).1);have GB:Hid (∀k,(Yy (l.take k)).length<=16 * 8210):=zH (fun k=>by
  have h1:=Z3j (l.take k) (fun x hx=>by have:=Qn HI.out.v (LF2.out x (List.mem_of_mem_take hx));omega);have h2:(l.take k).length<=16:=by rw[List.length_take,LL.out];have:=HL.out.2;omega
  have h3:=Nat.mul_le_mul_right 8210 h2;omega)
 have ih2 : ∀z∈[(2:Int),(hh:Int)],J6 z:=fun z hz=>by
  have:=HL.out.2;rcases List.mem_cons.1 hz with e | hz
  ·rw[e];unfold J6;omega
  ·rw[List.mem_singleton.1 hz];unfold J6;omega
 have h2i:=fun W=>Z6d W 2 (hh:Int);go_wp2_with fail;have b12:Below W11.heap.size W11 (W11.alloc (.cells #[.int .i64 2,.int .i64 (hh:Int)] 3)):=zB _ _;have EL:Hid ((Zt [2,(hh:Int)]).length<=20):=zH (by have h1:=Qd [2,(hh:Int)] ih2;simp at h1;omega);refine(VY W11.heap.size none 0 0 [] (some ⟨W11.heap.size,0,none⟩) 2 2 [2,(hh:Int)] _ b12.size (World.ownsRow_nil _ _ _ _) (Zbl W11 2 hh) (fun _=>Z5m W11.heap.size W11 2 hh) ih2 (by rw[List.nil_append];have:=EL.out;omega)).mono ?_;rintro e W12 ⟨ba2,bc2,rfl,o12,ab12⟩;rw[List.nil_append]at o12 ⊢;have O12:=zH o12;have B12:=zH (ab12.into b12 b12.size);obtain⟨X,HX⟩:=zX (Zt [2,(hh:Int)]);rw[HX.out]at O12 EL ⊢;obtain⟨m0,hm0⟩:=zX (X.length);rw[hm0.out]at O12 ⊢;clear o12 ab12 b12 ih2 h2i;go_wp2_with fail;have STH:Hid (JZ (XT V a.idx) m.to S.sync = { XT V a.idx with hs:=(XT V a.idx).hs.set k S.sync }):=zH (zy UU.out.1);go_loopw [12,62] (fun bv iv wr=>∃(k mm:Nat) (a':zA) (c':Nat),bv = .slice a' mm c'/\k<=hh/\iv = .int .i64 (k:Int)/\Hid (wr.ownsRow W11.heap.size 5 1 (.slice a' mm c') mm ((X ++ Yy (l.take k)).map Zr))/\Hid (Below W11.heap.size W11 wr)) (fun _ iv _=>hh - (intOf iv).toNat)
 case atStart=>exact⟨0,m0,ba2,bc2,rfl,Nat.zero_le _,rfl,zH (by simpa [Yy] using O12.out),B12⟩
 case round=>
  clear O12 B12;obtain⟨k,mm,a',c',rfl,hk,rfl,HW,HB⟩:=hrel;by_cases hlt:k < hh
  ·have t0:decide ((k:Int) < (hh:Int))=true:=by simp;omega
   obtain⟨x,Hx⟩ : ∃x,(zs.take hh)[k]? = some x:=⟨_,List.getElem?_eq_getElem (by rw[RL.out.1];exact hlt)⟩;have HLX:=zH (show l[k]? = some x.n by rw[<-ZL.out,List.getElem?_map,Hx];rfl);have XF:=zH (LF2.out x.n (List.mem_of_getElem? HLX.out));have RW:=RL.out.below HB.out;have XK:=zH (show x.ok wr from Z5D RW (List.mem_of_getElem? Hx));obtain⟨b,off,rfl,hat⟩:=RW.at (by omega);obtain⟨o,ho⟩:=zX (off+k * 19);have HXC:=zH (hat k x Hx).1;rw[ho.out]at HXC;have hix:=fun W=>Yi (W:=W) (c:=lc) (b:=b) Tryz.underlying24 J19 hlt ho.out;have hbs:W11.heap.size<=wr.heap.size:=HB.out.size;have E1:=zH (show wrap64 ((k:Int)+1)=(k:Int)+1 by have:=HL.out.2;unfold wrap64;omega);clear hat Hx RW;go_upto_region 21 with (first
    |(refine wpList_load_mid rfl 47 _ rfl b o rfl (x.n.cells x.sa x.sc) _ HXC.out Tryz.underlying47 rfl (Z0x x.n x.sa x.sc) ?_)
    |(refine zP wr wr.heap.size (Z5 x.n x.sa x.sc) ?_)
    | fail)
   have bt:Below wr.heap.size wr (wr.alloc (.cells (Z5 x.n x.sa x.sc) 47)):=zB _ _;have N14:=zH (Za wr (.cells (Z5 x.n x.sa x.sc) 47));have HW2:=zH (Zd HW.out bt);have HB2:=zH (HB.out.trans (bt.mono hbs));have XK2:=zH (XK.out.below bt);have HS2:=zH (Nat.le_trans hbs bt.size);obtain⟨p14,hp14⟩:=zX (wr.heap.size);rw[hp14.out]at N14 ⊢;generalize wr.alloc (.cells (Z5 x.n x.sa x.sc) 47)=wt at *;clear bt hp14 hix t0 HXC hbs HW HB XK;go_wp2_with (first
    |(refine zL p14 N14.out ?_)
    | fail)
   refine(Vm x.n x.sa x.sc wt XK2.out (XH HI.out.v XF.out) (Nat.le_trans (Xq HI.out.v XF.out) (by decide))).mono ?_;rintro e w4 ⟨a4,c4,rfl,h4,b4⟩;have H4:=zH h4;have O4:=zH (Zd HW2.out b4);have B4:=zH (HB2.out.trans (b4.mono HS2.out));have hb4:W11.heap.size<=w4.heap.size:=Nat.le_trans HS2.out b4.size;have LE:Hid ((Y5 x.n).length<=2190):=zH (Qn HI.out.v XF.out);have HM:Hid (mm=(X ++ Yy (l.take k)).length):=zH (by have:=HW2.out.1;simpa using this.symm);have MB:Hid (mm<=20+16 * 8210):=zH (by
    have h1:=HM.out;rw[List.length_append]at h1;have h2:=EL.out;have h3:=GB.out k;omega)
   obtain⟨m4,HM4⟩:=zX ((Y5 x.n).length);rw[HM4.out]at H4 LE ⊢;have h1i:=fun W=>Z6e W (m4:Int);have HWT:=zH HW2.out;clear h4 b4 HW2 HB2 N14 XK2;go_wp2_with fail;have b5:Below w4.heap.size w4 (w4.alloc (.cells #[.int .i64 (m4:Int)] 3)):=zB _ _;have im : ∀z∈[(m4:Int)],J6 z:=fun z hz=>by rw[List.mem_singleton.1 hz];have:=LE.out;unfold J6;omega
   have ZE:Hid ((Zt [(m4:Int)]).length<=10):=zH (by have h1:=Qd [(m4:Int)] im;simp at h1;omega);have hbm:W11.heap.size<=(w4.alloc (.cells #[.int .i64 (m4:Int)] 3)).heap.size:=Nat.le_trans hb4 b5.size;rw[HM.out]at O4 ⊢;have OX:=zH (Zd O4.out b5);have OLT:=zH (fun j hj=>(O4.out.lt j hj));refine(Za6 W11.heap.size a' _ c' (X ++ Yy (l.take k)) (some ⟨w4.heap.size,0,none⟩) 1 1 [(m4:Int)] _ hbm OX.out (Z2w w4 m4) (fun b off e=>by
    cases e;intro h9;have:=(OLT.out _ h9).2;omega) im (by rw[List.length_append,<-HM.out];have:=MB.out;have:=ZE.out;omega)).mono ?_
   rintro e w5 ⟨a5,c5,rfl,o5,s5⟩;have H45:=Zd H4.out b5;have R5:=zH (show Ye w5 a4 m4 c4 (Y5 x.n)from Ye.of_own (Ze H45 s5 (fun j hj e=>by
    have h9:=(H4.out.lt j hj).1;rw[<-Z3A a' (X ++ Yy (l.take k)).length c']at e;have h10:=(HWT.out.lt j (by rw[HM.out];exact e)).2;omega)))
   have O5:=zH o5;have B5:=zH (s5.below (B4.out.trans (b5.mono hb4)) hbm (fun j e=>(OLT.out j (by rw[Z3A a' (X ++ Yy (l.take k)).length c'];exact e)).1));have HX5:Hid ((X ++ Yy (l.take k)) ++ Zt [(m4:Int)]=X ++ (Yy (l.take k) ++ Yh (m4:Int))):=zH (by rw[JJ,List.append_assoc]);obtain⟨Y,hY⟩:=zX ((X ++ Yy (l.take k)) ++ Zt [(m4:Int)]);have YL:Hid (Y.length<=30+16 * 8210):=zH (by rw[<-hY.out,List.length_append,<-HM.out];have:=MB.out;have:=ZE.out;omega);rw[hY.out]at O5 ⊢;obtain⟨my,hmy⟩:=zX (Y.length);rw[hmy.out]at O5 YL ⊢;have hml:my+m4<=140737488355328:=by have:=YL.out;have:=LE.out;omega
   have hb5:W11.heap.size<=w5.heap.size:=B5.out.size;clear o5 s5 b5 hbm im h1i H45 H4 OX OLT O4;go_wp2_with (first
    |(at_builtin;refine Qr _ rfl _ _ rfl W11.heap.size _ _ _ Y rfl O5.out _ _ _ (Y5 x.n) rfl R5.out hml hb5 ?_)
    | fail)
   intro a7 c7 w7 h8 h9;have H7:=zH (show w7.ownsRow W11.heap.size 5 1 (.slice a7 (my+m4) c7) (my+m4) ((X ++ Yy (l.take (k+1))).map Zr)by
    rw[Z8Y HLX.out,HM4.out,<-List.append_assoc (Yy (l.take k)),<-List.append_assoc X,<-HX5.out,hY.out,List.map_append];exact h8)
   have B7:=zH (B5.out.trans ((X9.of_own O5.out h9).below hb5));clear h8 h9 hml hb5;have e1:=E1.out;go_wp2;go_roundw
   case rel=>exact⟨k+1,my+m4,a7,c7,by first | rfl | simp,by omega,by go_num,H7,B7⟩
   case measure=>clear e1;rw[E1.out];simp[intOf];omega
  ·have hkn:k=hh:=by omega
   subst hkn;have t0:decide ((k:Int) < (k:Int))=false:=by simp
   have HM:Hid (mm=(Xe.gift l).body.length):=zH (by
    have h1:=HW.out.1;rw[List.take_of_length_le (by rw[LL.out];exact Nat.le_refl _)]at h1;have h2:(Xe.gift l).body=X ++ Yy l:=by
     show Yh 2 ++ (Yh (l.length:Int) ++ Yy l)=_;rw[<-HX.out,LL.out,show Zt [2,(k:Int)]=Yh 2 ++ Yh (k:Int)by simp[Zt],List.append_assoc]
    rw[h2];simpa using h1.symm)
   have OB:Hid (wr.ownsRow W11.heap.size 5 1 (.slice a' (Xe.gift l).body.length c') (Xe.gift l).body.length ((Xe.gift l).body.map Zr)):=zH (by
    have h1:=HW.out;rw[List.take_of_length_le (by rw[LL.out];exact Nat.le_refl _),HM.out]at h1;have h2:(Xe.gift l).body=X ++ Yy l:=by
     show Yh 2 ++ (Yh (l.length:Int) ++ Yy l)=_;rw[<-HX.out,LL.out,show Zt [2,(k:Int)]=Yh 2 ++ Yh (k:Int)by simp[Zt],List.append_assoc]
    rw[<-h2]at h1;exact h1)
   rw[HM.out];clear HW;obtain⟨Fs',v1,v2,v3⟩:=H1.out.house Zl UU.out.2.1 UU.out.2.2 (Z23 K2.out J1.out J2.out (fun k hk=>.inl hk));have HA:=zH v1;have BX:=zH (B11.out.trans (HB.out.mono B11.out.size));have PB:=zH (Z7 BX.out v1.blk);have PX:=zH (Z7 BX.out F5.out);have DIS:Hid (∀V' w',Yr W10 p (wF p Fs' ha ps.length hc xs ma mc) V' w'->Yr w p F V' w'):=zH (fun V' w' r=>FIN.out V' w' (by
    rw[H2.out];exact r.comp (v2.weaken (fun j hj=>.inr (.inr (.inl hj)))) v3))
   have XL64:Hid (xs.length<=64):=zH (by rw[<-H1.out.nm];exact DL.out);clear v1 v2 v3 HB;go_upto_region 24 with fail;clear t0;refine bD 15 (fun W'=>W'.heap[p]? = some (.cells #[.slice ha ps.length hc,.slice ma xs.length mc] 141)/\W'.heap[p5]? = some (.cells #[.int .i64 m.frm,.int .i64 m.to,.slice ba m.body.length bc] 152)) ⟨PB.out,PX.out⟩ (fun hh=>?_);have BDR:=zH (BX.out.trans ((zd wr).mono BX.out.size));have OBR:=zH (Zd OB.out (zd wr));generalize wr.drew=V2 at *;clear PB PX OB BX;refine bW 0 rfl (.pointer (some ⟨p,0,none⟩)) ?_;refine bW 1 rfl (.pointer (some ⟨p,0,none⟩)) ?_;refine bW 2 rfl (.pointer (some ⟨p,0,none⟩)) ?_;refine bW 3 rfl (.pointer (some ⟨p,1,none⟩)) ?_;refine bS 4 rfl (.slice ma xs.length mc) (fun W hW=>by have c:=Z6 hW.1 1 (.slice ma xs.length mc) rfl;go_simp) ?_;refine bW 5 rfl (.pointer (some ⟨p5,1,none⟩)) ?_;refine bS 6 rfl (.int .i64 m.to) (fun W hW=>by have c:=Z6 hW.2 1 (.int .i64 m.to) rfl;go_simp) ?_;refine bW 7 rfl (.pointer (some ⟨p5,0,none⟩)) ?_;refine bS 8 rfl (.int .i64 m.frm) (fun W hW=>by have c:=Z6 hW.2 0 (.int .i64 m.frm) rfl;go_simp) ?_;refine bW 9 rfl (.slice a' (Xe.gift l).body.length c') ?_;refine bW 10 rfl (.agg #[.int .i64 m.to,.int .i64 m.frm,.slice a' (Xe.gift l).body.length c']) ?_;refine bR 11 rfl (fun K hK=>?_);rw[if_pos (by kernel_rfl)];refine Jc (w':=V2.alloc (.cells #[.int .i64 m.to,.int .i64 m.frm,.slice a' (Xe.gift l).body.length c'] 152)) (.slice (some ⟨V2.heap.size,0,none⟩) 1 1) (by kernel_rfl) ?_;have b6:Below V2.heap.size V2 (V2.alloc (.cells #[.int .i64 m.to,.int .i64 m.frm,.slice a' (Xe.gift l).body.length c'] 152)):=zB _ _;have R6:=zH (Z4i V2 (.int .i64 m.to) (.int .i64 m.frm) (.slice a' (Xe.gift l).body.length c'));have O6:=zH (Zd OBR.out b6);have B6:=zH (BDR.out.trans (b6.mono BDR.out.size));have hS6:=And.intro (Z7 b6 hh.1) (Z7 b6 hh.2);clear b6 hh;obtain⟨p6,hp6⟩:=zX (V2.heap.size);rw[hp6.out]at R6 ⊢;generalize V2.alloc (.cells #[.int .i64 m.to,.int .i64 m.frm,.slice a' (Xe.gift l).body.length c'] 152)=V6 at *
   refine bK hK hS6 (fun hh=>?_);clear hK K hS6;refine bR 12 rfl (fun K hK=>?_);rw[if_pos (by kernel_rfl)];obtain⟨a7,c7,V7,hrun,ho,hg,hl7⟩:=Z1t V6 0 ma xs.length mc (ZD xs) (Zd HA.out.mrow B6.out) (some ⟨p6,0,none⟩) 1 1 _ R6.out (by intro u hu;simp at hu;rcases hu with rfl | rfl | rfl <;> rfl) (by have:=XL64.out;omega) (Nat.zero_le _);refine Y4 _ _ _ rfl _ _ _ rfl rfl hrun ?_;clear hrun;have HO:=zH ho;have HG:=zH hg;have HLO:=zH hl7;have hne : ∀{cur:Y6} {t:TypeId} {g:Nat},V6.heap[g]? = some (.cells cur t (0,0))->152≠t->Value.ownBlock (.slice ma xs.length mc)≠some g:=fun hgg ht=>ZK (Zd HA.out.mrow B6.out) hgg ht;have h5lt:w1.heap.size<=p5:=by rw[hp5.out];exact Nat.le_refl _
   have hne5:Value.ownBlock (.slice ma xs.length mc)≠some p5:=fun e=>by have h1:=(H1.out.mrow.lt p5 e).2;omega
   have hS7:=And.intro (Zc hg hh.1 (Ne.symm (hne hh.1 (by decide)))) (Zc hg hh.2 (Ne.symm hne5));clear ho hg hl7 hne hh hne5 h5lt;refine bK hK hS7 (fun hh=>?_);clear hK K hS7;refine bR 13 rfl (fun K hK=>?_);go_simp;refine bK hK hh (fun hh=>?_);clear hK K;refine bW 14 rfl (.pointer (some ⟨p,1,none⟩)) ?_;refine bL rfl (fun K hK=>?_);have hce:=Z6 hh.1 1 (.slice ma xs.length mc) rfl;have hfz:=Zq hh.1 1;have P8:(V7.setCell ⟨p,1,none⟩ (.slice a7 (xs.length+1) c7)).heap[p]? = some (.cells #[.slice ha ps.length hc,.slice a7 (xs.length+1) c7] 141):=ZM hh.1 1 _;obtain⟨x,hx⟩ : ∃x:LM,Hid (x=⟨⟨m.to,m.frm,.gift l⟩,a',c'⟩):=⟨_,zH rfl⟩;have FN:Hid (Yr w p F (Vy (JZ (XT V a.idx) m.to S.sync) x.m) (V7.setCell ⟨p,1,none⟩ (.slice a7 (xs.length+1) c7))):=zH (by
    rw[STH.out];refine DIS.out _ _ ?_;refine HA.out.send Zl (by decide) (by decide) (by decide) (by decide) (by decide) x B6.out ?_ ?_ (ma':=a7) (mc':=c7) ?_ HG.out HLO.out P8 (JN V7 p 1 _)
    ·rw[hx.out];exact Zx O6.out (Nat.zero_le _)
    ·intro j hj;rw[hx.out]at hj;have h1:=(O6.out.lt j hj).1;exact .inl (Nat.le_trans B11.out.size h1)
    ·rw[hx.out];exact HO.out)
   clear P8 hh;go_simp;refine hK.out _ _ ?_;clear hK K hce hfz;refine bE ?_;go_wp2;go_ret;rw[hl.out];refine⟨rfl,?_⟩;have h9:=FN.out;rw[hx.out]at h9;exact h9
open Go.Maps (Keyed)
def Xa (g p:Nat):Value := .func (.func g) #[.pointer (some ⟨p,0,none⟩)] #[]
def Zdp (p:Nat):DataW Value:=((((((((DataW.map []).put (.int .i64 1) (.held (Xa 87 p))).put (.int .i64 2) (.held (Xa 88 p))).put (.int .i64 3) (.held (Xa 89 p))).put (.int .i64 4) (.held (Xa 90 p))).put (.int .i64 5) (.held (Xa 91 p))).put (.int .i64 6) (.held (Xa 92 p))).put (.int .i64 7) (.held (Xa 93 p)))
def JM (p:Nat)(k:Int):Value:=if k=1 then (Xa 87 p)else if k=2 then (Xa 88 p)else if k=3 then (Xa 89 p)else if k=4 then (Xa 90 p)else if k=5 then (Xa 91 p)else if k=6 then (Xa 92 p)else if k=7 then (Xa 93 p)else .nilFunc
theorem Zb2 (w:World):(zeroValue 69).run zq w = .ok .nilFunc w:=by kernel_rfl
theorem Zdo (p:Nat)(k:Int):(Zdp p).atKey (.int .i64 k) (.held .nilFunc) = .held (JM p k):=by
 by_cases h:k=1\/k=2\/k=3\/k=4\/k=5\/k=6\/k=7
 ·rcases h with rfl | rfl | rfl | rfl | rfl | rfl | rfl <;> rfl
 ·have hn : ∀j:Int,k≠j->(Lit.int .i64 k)≠(Lit.int .i64 j):=fun j hj e=>hj (by injection e);unfold Zdp;rw[Go.Maps.atKey_put_other (hn _ (by omega)),Go.Maps.atKey_put_other (hn _ (by omega)),Go.Maps.atKey_put_other (hn _ (by omega)),Go.Maps.atKey_put_other (hn _ (by omega)),Go.Maps.atKey_put_other (hn _ (by omega)),Go.Maps.atKey_put_other (hn _ (by omega)),Go.Maps.atKey_put_other (hn _ (by omega))];unfold JM;rw[if_neg (by omega),if_neg (by omega),if_neg (by omega),if_neg (by omega),if_neg (by omega),if_neg (by omega),if_neg (by omega)];rfl
theorem Z1Y {W:World}{b p:Nat}(h:W.ownsMap zq 3 Qc b 7 (Zdp p))(k:Int)(hk:J6 k):(Instr.lookup 143 (.map (some b)) (.int .i64 k) false).run zq W = .ok (JM p k) W:=by
 obtain⟨v',ps,h1,h2⟩:=h.lookup JP Tryz.underlying143 (Zb2 W) (zd := .held .nilFunc) (zp:=[]) rfl (Go.Maps.keyOf_int_mk Tryz.underlying3 (by
  show(decide ((-9223372036854775808:Int)<=k) && decide (k<=9223372036854775807))=true;unfold J6 at hk;rw[Bool.and_eq_true,decide_eq_true_eq,decide_eq_true_eq];omega))
 rw[Zdo p k]at h2;simp only[Qc,Option.some.injEq,Prod.mk.injEq,DataW.held.injEq]at h2;rw[h1,h2.1]
theorem Z2b (W:World)(p:Nat): ∃v1 v2 v3 v4 v5 v6 v7:World,(Instr.mapUpdate 143 (.map (some W.heap.size)) (.int .i64 1) (Xa 87 p)).run zq (W.alloc (.map #[] 0)) = .ok () v1/\(Instr.mapUpdate 143 (.map (some W.heap.size)) (.int .i64 2) (Xa 88 p)).run zq v1 = .ok () v2/\(Instr.mapUpdate 143 (.map (some W.heap.size)) (.int .i64 3) (Xa 89 p)).run zq v2 = .ok () v3/\(Instr.mapUpdate 143 (.map (some W.heap.size)) (.int .i64 4) (Xa 90 p)).run zq v3 = .ok () v4/\(Instr.mapUpdate 143 (.map (some W.heap.size)) (.int .i64 5) (Xa 91 p)).run zq v4 = .ok () v5/\(Instr.mapUpdate 143 (.map (some W.heap.size)) (.int .i64 6) (Xa 92 p)).run zq v5 = .ok () v6/\(Instr.mapUpdate 143 (.map (some W.heap.size)) (.int .i64 7) (Xa 93 p)).run zq v6 = .ok () v7/\v7.ownsMap zq 3 Qc W.heap.size 7 (Zdp p)/\Below W.heap.size W v7:=by
 have ht:zq.underlying 143=some (.map 3 69):=Tryz.underlying143;have m0:=World.ownsMap_made W zq 3 Qc;have b0:Below W.heap.size W (W.alloc (.map #[] 0)):=zB _ _;obtain⟨v1,r1,m1,u1⟩:=m0.store JP ht (by unfold maxLen;omega) (key := .int .i64 1) (kl := .int .i64 1) (by kernel_rfl) (val:=(Xa 87 p)) (d := .held (Xa 87 p)) (ps:=[]) rfl;obtain⟨v2,r2,m2,u2⟩:=m1.store JP ht (by unfold maxLen;omega) (key := .int .i64 2) (kl := .int .i64 2) (by kernel_rfl) (val:=(Xa 88 p)) (d := .held (Xa 88 p)) (ps:=[]) rfl;obtain⟨v3,r3,m3,u3⟩:=m2.store JP ht (by unfold maxLen;omega) (key := .int .i64 3) (kl := .int .i64 3) (by kernel_rfl) (val:=(Xa 89 p)) (d := .held (Xa 89 p)) (ps:=[]) rfl;obtain⟨v4,r4,m4,u4⟩:=m3.store JP ht (by unfold maxLen;omega) (key := .int .i64 4) (kl := .int .i64 4) (by kernel_rfl) (val:=(Xa 90 p)) (d := .held (Xa 90 p)) (ps:=[]) rfl;obtain⟨v5,r5,m5,u5⟩:=m4.store JP ht (by unfold maxLen;omega) (key := .int .i64 5) (kl := .int .i64 5) (by kernel_rfl) (val:=(Xa 91 p)) (d := .held (Xa 91 p)) (ps:=[]) rfl;obtain⟨v6,r6,m6,u6⟩:=m5.store JP ht (by unfold maxLen;omega) (key := .int .i64 6) (kl := .int .i64 6) (by kernel_rfl) (val:=(Xa 92 p)) (d := .held (Xa 92 p)) (ps:=[]) rfl;obtain⟨v7,r7,m7,u7⟩:=m6.store JP ht (by unfold maxLen;omega) (key := .int .i64 7) (kl := .int .i64 7) (by kernel_rfl) (val:=(Xa 93 p)) (d := .held (Xa 93 p)) (ps:=[]) rfl;have g : ∀{a b:World},Below W.heap.size W a->a.mapTurned b W.heap.size->Below W.heap.size W b:=fun h t=>h.grown t.grown h.size (fun k e=>by cases e;omega);exact⟨v1,v2,v3,v4,v5,v6,v7,r1,r2,r3,r4,r5,r6,r7,m7,g (g (g (g (g (g (g b0 u1) u2) u3) u4) u5) u6) u7⟩
theorem Z9H (p:Nat)(F:Nat->Prop)(V:ZO)(OA:Y6)(k h:Int)(w:World)(hW:VO w p F V)(hp0:0 < V.hs.length)(ik:J6 k)(h0:OA[0]? = some (.int .i64 k))(hh1:OA[1]? = some (.int .i64 h))(hk:JM p k = .nilFunc):
  Calls zq 31 #[.pointer (some ⟨p,0,none⟩),.agg OA] w fun e w'=>e = .returned (.int .i64 1)/\Yr w p F V w':=by
 have hf1 : ∀(fn:Fn) (x y:Y6) (w:World),(binOp .eql 69 (.func fn x y) .nilFunc).run zq w = .ok (.bool false) w:=fun _ _ _ _=>by kernel_rfl
 have hf0 : ∀(w:World),(binOp .eql 69 .nilFunc .nilFunc).run zq w = .ok (.bool true) w:=fun _=>by kernel_rfl
 have hmf : ∀(fn:Fn) (first cap:Y6) (w:World),(Instr.makeFunc fn first cap).run zq w = .ok (.func fn first cap) w:=fun _ _ _ _=>rfl;have hmm := @run_makeMap zq;have b0:=zB w (.cells OA 67);have X0:=zH (Za w (.cells OA 67));have B0:=zH b0;obtain⟨ps,Fs,ha,hc,xs,ma,mc,h1,h2⟩:=hW.open;have MD:=zH (VQ (h1.below Zl b0) (by rw[<-h1.nh];exact hp0));have C0:=zH h0;have IK:=zH ik;clear ik;have C1:=zH hh1;have HK:=zH hk;clear hk;have REFL:=zH (QK.refl hW);clear b0 hW h1 h2 h0 hh1 hp0;go_enter Tryz.func31,Tryz.ntmps31;go_upto_region 1 with fail;obtain⟨p3,hp3⟩:=zX (w.heap.size);rw[hp3.out]at X0 ⊢;generalize w.alloc (.cells OA 67)=W0 at *;go_wp2_with fail;refine MD.out.mono ?_;rintro e w1 ⟨rfl,rfl⟩;obtain⟨v1,v2,v3,v4,v5,v6,v7,r1,r2,r3,r4,r5,r6,r7,m7,b7⟩:=Z2b w1 p;have B7:=zH (B0.out.trans (b7.mono B0.out.size));have X7:=zH (Z7 b7 X0.out);have LOOK:=zH (Z1Y m7 k IK.out);unfold Xa at r1 r2 r3 r4 r5 r6 r7;clear m7 b7 B0 X0 MD;go_upto_region 4 with fail;clear r1 r2 r3 r4 r5 r6 r7 hmm hmf;have c0:=Z6 X7.out 0 (.int .i64 k) C0.out;have c1:=Z6 X7.out 1 (.int .i64 h) C1.out;have lk:=LOOK.out;rw[HK.out]at lk;go_upto_region 5 with fail;clear lk;go_upto_region 6 with fail
 all_goals
  go_wp2;go_ret;exact⟨rfl,REFL.out.then Zl B7.out⟩
theorem QY (p:Nat)(F:Nat->Prop)(V:ZO)(OA:Y6)(k h:Int)(w:World)(hW:VO w p F V)(hp0:0 < V.hs.length)(ik:J6 k)(h0:OA[0]? = some (.int .i64 k))(hh1:OA[1]? = some (.int .i64 h))(g:Nat)(hk:JM p k=Xa g p)(hn:k≠4/\k≠5/\k≠6)(hs:YA V h=none):
  Calls zq 31 #[.pointer (some ⟨p,0,none⟩),.agg OA] w fun e w'=>e = .returned (.int .i64 1)/\Yr w p F V w':=by
 have hf1 : ∀(fn:Fn) (x y:Y6) (w:World),(binOp .eql 69 (.func fn x y) .nilFunc).run zq w = .ok (.bool false) w:=fun _ _ _ _=>by kernel_rfl
 have hf0 : ∀(w:World),(binOp .eql 69 .nilFunc .nilFunc).run zq w = .ok (.bool true) w:=fun _=>by kernel_rfl
 have hmf : ∀(fn:Fn) (first cap:Y6) (w:World),(Instr.makeFunc fn first cap).run zq w = .ok (.func fn first cap) w:=fun _ _ _ _=>rfl;have hmm := @run_makeMap zq;have b0:=zB w (.cells OA 67);have X0:=zH (Za w (.cells OA 67));have B0:=zH b0;obtain⟨ps,Fs,ha,hc,xs,ma,mc,h1,h2⟩:=hW.open;have MD:=zH (VQ (h1.below Zl b0) (by rw[<-h1.nh];exact hp0));have C0:=zH h0;have IK:=zH ik;clear ik;have C1:=zH hh1;have HK:=zH hk;have HH:Hid (∀W,Below w.heap.size w W->Calls zq 86 #[.pointer (some ⟨p,0,none⟩),.int .i64 h] W fun e w'=>e = .returned (.pointer none)/\w'=W):=zH (fun W hb=>Z0v (h1.below Zl hb) h (by have:=Z2N hs;rw[h1.nh]at this;exact this));have n4:(k==4)=false:=by simp[hn.1]
 have n5:(k==5)=false:=by simp[hn.2.1]
 have n6:(k==6)=false:=by simp[hn.2.2]
 have m4:(k != 4)=true:=by simp[hn.1]
 have m5:(k != 5)=true:=by simp[hn.2.1]
 have m6:(k != 6)=true:=by simp[hn.2.2]
 clear hk hn hs;have REFL:=zH (QK.refl hW);clear b0 hW h1 h2 h0 hh1 hp0;go_enter Tryz.func31,Tryz.ntmps31;go_upto_region 1 with fail;obtain⟨p3,hp3⟩:=zX (w.heap.size);rw[hp3.out]at X0 ⊢;generalize w.alloc (.cells OA 67)=W0 at *;go_wp2_with fail;refine MD.out.mono ?_;rintro e w1 ⟨rfl,rfl⟩;obtain⟨v1,v2,v3,v4,v5,v6,v7,r1,r2,r3,r4,r5,r6,r7,m7,b7⟩:=Z2b w1 p;have B7:=zH (B0.out.trans (b7.mono B0.out.size));have X7:=zH (Z7 b7 X0.out);have LOOK:=zH (Z1Y m7 k IK.out);unfold Xa at r1 r2 r3 r4 r5 r6 r7;clear m7 b7 B0 X0 MD;go_upto_region 4 with fail;clear r1 r2 r3 r4 r5 r6 r7 hmm hmf;have c0:=Z6 X7.out 0 (.int .i64 k) C0.out;have c1:=Z6 X7.out 1 (.int .i64 h) C1.out;have lk:=LOOK.out;rw[HK.out]at lk;unfold Xa at lk;go_upto_region 5 with fail;clear lk;go_upto_region 6 with fail;go_wp2_with fail;refine(HH.out _ B7.out).mono ?_;rintro e w8 ⟨rfl,rfl⟩;go_wp2;go_ret;exact⟨rfl,REFL.out.then Zl B7.out⟩
theorem Un (p:Nat)(F:Nat->Prop)(V:ZO)(OA:Y6)(k h:Int)(w:World)(hW:VO w p F V)(hp0:0 < V.hs.length)(ik:J6 k)(h0:OA[0]? = some (.int .i64 k))(hh1:OA[1]? = some (.int .i64 h))(g:Nat)(hk:JM p k=Xa g p)(hn:k≠4/\k≠5/\k≠6)(S:Zf)(hs:YA V h=some S)(hsz:(zq.info? 67).map (·.size)=some OA.size)(hfn : ∀(args:Y6) (w:World),(callFunc g args).run zq w = .ok (.enter g args) w)(z:Int)(V2:ZO)
  (hg : ∀W,Below w.heap.size w W->Calls zq g #[.pointer (some ⟨p,0,none⟩),.agg OA] W fun e w'=>e = .returned (.int .i64 z)/\Yr W p F V2 w'):
  Calls zq 31 #[.pointer (some ⟨p,0,none⟩),.agg OA] w fun e w'=>e = .returned (.int .i64 z)/\Yr w p F V2 w':=by
 have hf1 : ∀(fn:Fn) (x y:Y6) (w:World),(binOp .eql 69 (.func fn x y) .nilFunc).run zq w = .ok (.bool false) w:=fun _ _ _ _=>by kernel_rfl
 have hf0 : ∀(w:World),(binOp .eql 69 .nilFunc .nilFunc).run zq w = .ok (.bool true) w:=fun _=>by kernel_rfl
 have hmf : ∀(fn:Fn) (first cap:Y6) (w:World),(Instr.makeFunc fn first cap).run zq w = .ok (.func fn first cap) w:=fun _ _ _ _=>rfl;have hmm := @run_makeMap zq;have b0:=zB w (.cells OA 67);have X0:=zH (Za w (.cells OA 67));have B0:=zH b0;obtain⟨ps,Fs,ha,hc,xs,ma,mc,h1,h2⟩:=hW.open;have MD:=zH (VQ (h1.below Zl b0) (by rw[<-h1.nh];exact hp0));have C0:=zH h0;have IK:=zH ik;clear ik;have C1:=zH hh1;have HK:=zH hk;have HG:=zH hg;have HSZ:=zH hsz;obtain⟨j,q,Fj,e1,e2,u1,u2,u3,u4⟩:=h1.at hs;have HH:Hid (∀W,Below w.heap.size w W->Calls zq 86 #[.pointer (some ⟨p,0,none⟩),.int .i64 h] W fun e w'=>e = .returned (.pointer (some ⟨q,0,none⟩))/\w'=W):=zH (fun W hb=>Xj (h1.below Zl hb) h j q e1 u1);have n4:(k==4)=false:=by simp[hn.1]
 have n5:(k==5)=false:=by simp[hn.2.1]
 have n6:(k==6)=false:=by simp[hn.2.2]
 have m4:(k != 4)=true:=by simp[hn.1]
 have m5:(k != 5)=true:=by simp[hn.2.1]
 have m6:(k != 6)=true:=by simp[hn.2.2]
 clear hk hn hs hg hsz e1 e2 u1 u2 u3 u4;have REFL:=zH (QK.refl hW);clear b0 hW h1 h2 h0 hh1 hp0;go_enter Tryz.func31,Tryz.ntmps31;go_upto_region 1 with fail;obtain⟨p3,hp3⟩:=zX (w.heap.size);rw[hp3.out]at X0 ⊢;generalize w.alloc (.cells OA 67)=W0 at *;go_wp2_with fail;refine MD.out.mono ?_;rintro e w1 ⟨rfl,rfl⟩;obtain⟨v1,v2,v3,v4,v5,v6,v7,r1,r2,r3,r4,r5,r6,r7,m7,b7⟩:=Z2b w1 p;have B7:=zH (B0.out.trans (b7.mono B0.out.size));have X7:=zH (Z7 b7 X0.out);have LOOK:=zH (Z1Y m7 k IK.out);unfold Xa at r1 r2 r3 r4 r5 r6 r7;clear m7 b7 B0 X0 MD;go_upto_region 4 with fail;clear r1 r2 r3 r4 r5 r6 r7 hmm hmf;have c0:=Z6 X7.out 0 (.int .i64 k) C0.out;have c1:=Z6 X7.out 1 (.int .i64 h) C1.out;have lk:=LOOK.out;rw[HK.out]at lk;unfold Xa at lk;go_upto_region 5 with fail;clear lk;go_upto_region 6 with fail;go_wp2_with fail;refine(HH.out _ B7.out).mono ?_;rintro e w8 ⟨rfl,rfl⟩;go_upto_region 8 with fail;go_wp2_with (first
  |(refine wpList_load_row rfl 67 _ rfl p3 rfl 67 OA (0,0) _ X7.out Tryz.underlying67 rfl HSZ.out ?_)
  | fail)
 refine(HG.out _ B7.out).mono ?_;rintro e w9 ⟨rfl,hr⟩;have RF:=zH (hr.after B7.out);clear hr c0 c1;go_wp2;go_ret;exact⟨rfl,RF.out⟩
theorem Z1o (p:Nat)(F:Nat->Prop)(V:ZO)(OA:Y6)(k h:Int)(w:World)(hW:VO w p F V)(hp0:0 < V.hs.length)(ik:J6 k)(h0:OA[0]? = some (.int .i64 k))(hh1:OA[1]? = some (.int .i64 h))(g:Nat)(hk:JM p k=Xa g p)(hn:k=4\/k=5\/k=6)(hsz:(zq.info? 67).map (·.size)=some OA.size)(hfn : ∀(args:Y6) (w:World),(callFunc g args).run zq w = .ok (.enter g args) w)(z:Int)(V2:ZO)
  (hg : ∀W,Below w.heap.size w W->Calls zq g #[.pointer (some ⟨p,0,none⟩),.agg OA] W fun e w'=>e = .returned (.int .i64 z)/\Yr W p F V2 w'):
  Calls zq 31 #[.pointer (some ⟨p,0,none⟩),.agg OA] w fun e w'=>e = .returned (.int .i64 z)/\Yr w p F V2 w':=by
 have hf1 : ∀(fn:Fn) (x y:Y6) (w:World),(binOp .eql 69 (.func fn x y) .nilFunc).run zq w = .ok (.bool false) w:=fun _ _ _ _=>by kernel_rfl
 have hf0 : ∀(w:World),(binOp .eql 69 .nilFunc .nilFunc).run zq w = .ok (.bool true) w:=fun _=>by kernel_rfl
 have hmf : ∀(fn:Fn) (first cap:Y6) (w:World),(Instr.makeFunc fn first cap).run zq w = .ok (.func fn first cap) w:=fun _ _ _ _=>rfl;have hmm := @run_makeMap zq;have b0:=zB w (.cells OA 67);have X0:=zH (Za w (.cells OA 67));have B0:=zH b0;obtain⟨ps,Fs,ha,hc,xs,ma,mc,h1,h2⟩:=hW.open;have MD:=zH (VQ (h1.below Zl b0) (by rw[<-h1.nh];exact hp0));have C0:=zH h0;have IK:=zH ik;clear ik;have C1:=zH hh1;have HK:=zH hk;have HG:=zH hg;have HSZ:=zH hsz;have HN:=zH hn;clear hk hn hg hsz;have REFL:=zH (QK.refl hW);clear b0 hW h1 h2 h0 hh1 hp0;go_enter Tryz.func31,Tryz.ntmps31;go_upto_region 1 with fail;obtain⟨p3,hp3⟩:=zX (w.heap.size);rw[hp3.out]at X0 ⊢;generalize w.alloc (.cells OA 67)=W0 at *;go_wp2_with fail;refine MD.out.mono ?_;rintro e w1 ⟨rfl,rfl⟩;obtain⟨v1,v2,v3,v4,v5,v6,v7,r1,r2,r3,r4,r5,r6,r7,m7,b7⟩:=Z2b w1 p;have B7:=zH (B0.out.trans (b7.mono B0.out.size));have X7:=zH (Z7 b7 X0.out);have LOOK:=zH (Z1Y m7 k IK.out);unfold Xa at r1 r2 r3 r4 r5 r6 r7;clear m7 b7 B0 X0 MD;go_upto_region 4 with fail;clear r1 r2 r3 r4 r5 r6 r7 hmm hmf;have c0:=Z6 X7.out 0 (.int .i64 k) C0.out;have c1:=Z6 X7.out 1 (.int .i64 h) C1.out;have lk:=LOOK.out;rw[HK.out]at lk;unfold Xa at lk;go_upto_region 5 with fail;clear lk;rcases HN.out with rfl | rfl | rfl
 all_goals
  go_upto_region 6 with fail;go_upto_region 8 with fail;go_wp2_with (first
   |(refine wpList_load_row rfl 67 _ rfl p3 rfl 67 OA (0,0) _ X7.out Tryz.underlying67 rfl HSZ.out ?_)
   | fail)
  refine(HG.out _ B7.out).mono ?_;rintro e w9 ⟨rfl,hr⟩;have RF:=zH (hr.after B7.out);clear hr c0 c1;go_wp2;go_ret;exact⟨rfl,RF.out⟩
theorem Ua (a:Ji)(sa:zA)(sc:Nat):(zq.info? 67).map (·.size)=some (a.cells sa sc).toArray.size:=by kernel_rfl
theorem Z72 {V:ZO}{a:Ji}(h:YA V a.house=none):VU V a=(V,1):=by unfold VU;rw[h]
theorem Z4X {V:ZO}{a:Ji}(h:YA V a.house=none):Vg V a=(V,1):=by unfold Vg;rw[h]
theorem Z68 {V:ZO}{a:Ji}(h:YA V a.house=none):Ja V a=(V,1):=by unfold Ja;rw[h]
theorem Z3Q {V:ZO}{a:Ji}(h:YA V a.house=none):Jq V a=(V,1):=by unfold Jq;rw[h]
theorem Z71 {V:ZO}{a:Ji}{S:Zf}(h:YA V a.house=some S):Vg V a=(JZ V a.house S.sync,0):=by unfold Vg;rw[h]
theorem Zes (args:Y6)(w:World):(callFunc 87 args).run zq w = .ok (.enter 87 args) w:=by kernel_rfl
theorem Zd7 (args:Y6)(w:World):(callFunc 88 args).run zq w = .ok (.enter 88 args) w:=by kernel_rfl
theorem ZdY (args:Y6)(w:World):(callFunc 89 args).run zq w = .ok (.enter 89 args) w:=by kernel_rfl
theorem Z91 (args:Y6)(w:World):(callFunc 90 args).run zq w = .ok (.enter 90 args) w:=by kernel_rfl
theorem Zd8 (args:Y6)(w:World):(callFunc 91 args).run zq w = .ok (.enter 91 args) w:=by kernel_rfl
theorem ZaG (args:Y6)(w:World):(callFunc 92 args).run zq w = .ok (.enter 92 args) w:=by kernel_rfl
theorem Zcf (args:Y6)(w:World):(callFunc 93 args).run zq w = .ok (.enter 93 args) w:=by kernel_rfl
theorem Z65 (p:Nat)(F:Nat->Prop)(V:ZO)(ss:List Nat)(T:Nat)(a:Ji)(sa:zA)(sc:Nat)(w:World)(h:VO w p F V)(hv:Yp V ss T)(hT:T<=380):
  Calls zq 90 #[.pointer (some ⟨p,0,none⟩),.agg (a.cells sa sc).toArray] w fun e w'=>e = .returned (.int .i64 (Xk V a).2)/\Yr w p F (Xk V a).1 w':=by
 cases hm:Uj V a.idx with
 | none=>
  have e:Xk V a=(V,3):=by unfold Xk;rw[hm]
  rw[e];exact Z9O p F V a sa sc w h hm
 | some m=>
  have e:Xk V a=JR (XT V a.idx) m:=by unfold Xk;rw[hm]
  obtain⟨i,_,_,hmi⟩:=UW hm;have hok:=hv.ml m (List.mem_of_getElem? hmi);obtain⟨S,hS⟩:=Zd5 (W:=V) hok.to.1 hok.to.2;have hS':YA (XT V a.idx) m.to=some S:=hS;obtain⟨k,_,_,hk⟩:=Ju hS;have hi:=hv.st' hk;have hl:=hv.len hk;cases hc:m.cont with
  | gift l=>
   have hco:=hok.cont;rw[hc]at hco;have e2:JR (XT V a.idx) m=(JZ (XT V a.idx) m.to (ZR S l).1,(ZR S l).2.2):=by unfold JR;rw[hS',hc]
   rw[e,e2];exact Z9P p F V a sa sc m l S w h hm hS' hc hi.1 (fun x hx=>by have:=Dur.ok hv (hco.2.2 x hx);exact⟨hi.2.1 ▸ this.1,this.2.1⟩) hco.2.1 (by omega)
  | ask c=>
   have hco:=hok.cont;rw[hc]at hco;by_cases hk0:Z0q S c=[]
   ·have e2:JR (XT V a.idx) m=(JZ (XT V a.idx) m.to S.sync,0):=by unfold JR;rw[hS',hc];exact if_pos hk0
    rw[e,e2];exact Z9Q p F V a sa sc m c S w h hm hS' hc hi.1 hco (by omega) hk0
   ·have e2:JR (XT V a.idx) m=(Vy (JZ (XT V a.idx) m.to S.sync) ⟨m.to,m.frm,.gift ((Z0q S c).take 16)⟩,0):=by unfold JR;rw[hS',hc];exact if_neg hk0
    rw[e,e2];exact Zba p F V a sa sc m c S w h hm hS' hc hi.1 hco (by omega) hk0 hv.mn
theorem Z9I (p:Nat)(F:Nat->Prop)(V:ZO)(ss:List Nat)(T:Nat)(a:Ji)(sa:zA)(sc:Nat)(w:World)(h:VO w p F V)(hv:Yp V ss T)(hT:T<=380)(ik:J6 a.kind)(hs:Xs w sa a.note.strokes.length sc a.note.strokes)(hok:a.note.Ok)(hst:a.note.strokes.length<=1000000000):
  Calls zq 31 #[.pointer (some ⟨p,0,none⟩),.agg (a.cells sa sc).toArray] w fun e w'=>e = .returned (.int .i64 (Jj V a).2)/\Yr w p F (Jj V a).1 w':=by
 have hp0:0 < V.hs.length:=by have:=hv.n;omega
 have h0:(a.cells sa sc).toArray[0]? = some (.int .i64 a.kind):=rfl;have h1:(a.cells sa sc).toArray[1]? = some (.int .i64 a.house):=rfl;have hS : ∀{S},YA V a.house=some S->Xh S/\S.l.length<=T:=fun {S} e=>by
  obtain⟨k,_,_,hk⟩:=Ju e;exact⟨(hv.st' hk).1,hv.len hk⟩
 by_cases k1:a.kind=1
 ·have e:Jj V a=VU V a:=by unfold Jj;rw[if_pos k1]
  have ea:JM p a.kind=Xa 87 p:=by unfold JM;rw[if_pos k1]
  rw[e];cases hh:YA V a.house with
  | none=>rw[Z72 hh];exact QY p F V _ a.kind a.house w h hp0 ik h0 h1 _ ea (by omega) hh
  | some S=>
   exact Un p F V _ a.kind a.house w h hp0 ik h0 h1 _ ea (by omega) S hh (Ua a sa sc) Zes _ _ (fun W hb=>ZcQ p F V a sa sc S W (h.below Zl hb) hh (hS hh).1 (hs.below hb) hok hst (by have:=(hS hh).2;omega))
 by_cases k2:a.kind=2
 ·have e:Jj V a=Vg V a:=by unfold Jj;rw[if_neg k1,if_pos k2]
  have ea:JM p a.kind=Xa 88 p:=by unfold JM;rw[if_neg k1,if_pos k2]
  rw[e];cases hh:YA V a.house with
  | none=>rw[Z4X hh];exact QY p F V _ a.kind a.house w h hp0 ik h0 h1 _ ea (by omega) hh
  | some S=>
   rw[Z71 hh];exact Un p F V _ a.kind a.house w h hp0 ik h0 h1 _ ea (by omega) S hh (Ua a sa sc) Zd7 _ _ (fun W hb=>Z9G p F V a sa sc S W (h.below Zl hb) hh)
 by_cases k3:a.kind=3
 ·have e:Jj V a=Ja V a:=by unfold Jj;rw[if_neg k1,if_neg k2,if_pos k3]
  have ea:JM p a.kind=Xa 89 p:=by unfold JM;rw[if_neg k1,if_neg k2,if_pos k3]
  rw[e];cases hh:YA V a.house with
  | none=>rw[Z68 hh];exact QY p F V _ a.kind a.house w h hp0 ik h0 h1 _ ea (by omega) hh
  | some S=>
   exact Un p F V _ a.kind a.house w h hp0 ik h0 h1 _ ea (by omega) S hh (Ua a sa sc) ZdY _ _ (fun W hb=>Zbb p F V a sa sc S W (h.below Zl hb) hh (hS hh).1)
 by_cases k4:a.kind=4
 ·have e:Jj V a=Xk V a:=by unfold Jj;rw[if_neg k1,if_neg k2,if_neg k3,if_pos k4]
  have ea:JM p a.kind=Xa 90 p:=by unfold JM;rw[if_neg k1,if_neg k2,if_neg k3,if_pos k4]
  rw[e];exact Z1o p F V _ a.kind a.house w h hp0 ik h0 h1 _ ea (by omega) (Ua a sa sc) Z91 _ _ (fun W hb=>Z65 p F V ss T a sa sc W (h.below Zl hb) hv hT)
 by_cases k5:a.kind=5
 ·have e:Jj V a=Qu V a:=by unfold Jj;rw[if_neg k1,if_neg k2,if_neg k3,if_neg k4,if_pos k5]
  have ea:JM p a.kind=Xa 91 p:=by unfold JM;rw[if_neg k1,if_neg k2,if_neg k3,if_neg k4,if_pos k5]
  rw[e];exact Z1o p F V _ a.kind a.house w h hp0 ik h0 h1 _ ea (by omega) (Ua a sa sc) Zd8 _ _ (fun W hb=>Z9K p F V a sa sc W (h.below Zl hb))
 by_cases k6:a.kind=6
 ·have e:Jj V a=XQ V a:=by unfold Jj;rw[if_neg k1,if_neg k2,if_neg k3,if_neg k4,if_neg k5,if_pos k6]
  have ea:JM p a.kind=Xa 92 p:=by unfold JM;rw[if_neg k1,if_neg k2,if_neg k3,if_neg k4,if_neg k5,if_pos k6]
  rw[e];exact Z1o p F V _ a.kind a.house w h hp0 ik h0 h1 _ ea (by omega) (Ua a sa sc) ZaG _ _ (fun W hb=>Z6Y p F V a sa sc W (h.below Zl hb))
 by_cases k7:a.kind=7
 ·have e:Jj V a=Jq V a:=by unfold Jj;rw[if_neg k1,if_neg k2,if_neg k3,if_neg k4,if_neg k5,if_neg k6,if_pos k7]
  have ea:JM p a.kind=Xa 93 p:=by unfold JM;rw[if_neg k1,if_neg k2,if_neg k3,if_neg k4,if_neg k5,if_neg k6,if_pos k7]
  rw[e];cases hh:YA V a.house with
  | none=>rw[Z3Q hh];exact QY p F V _ a.kind a.house w h hp0 ik h0 h1 _ ea (by omega) hh
  | some S=>
   exact Un p F V _ a.kind a.house w h hp0 ik h0 h1 _ ea (by omega) S hh (Ua a sa sc) Zcf _ _ (fun W hb=>Z8p p F V a sa sc S W (h.below Zl hb) hh (hS hh).1 (by have:=(hS hh).2;omega))
 have e:Jj V a=(V,1):=by unfold Jj;rw[if_neg k1,if_neg k2,if_neg k3,if_neg k4,if_neg k5,if_neg k6,if_neg k7]
 have ea:JM p a.kind = .nilFunc:=by unfold JM;rw[if_neg k1,if_neg k2,if_neg k3,if_neg k4,if_neg k5,if_neg k6,if_neg k7]
 rw[e];exact Z9H p F V _ a.kind a.house w h hp0 ik h0 h1 ea
def Z2d (Gf:Int->Nm->Option LN)(w:World)(p:Nat)(F:Nat->Prop)(S:Zf):Prop := ∃mb sp G SF,Yf w p mb sp G SF S/\(∀k,F k↔Yl p mb G SF k) /\ ∀k x,Gf S.id k=some x->G k=some x
theorem Z1u (Gf:Int->Nm->Option LN):Qf (Z2d Gf):=
 ⟨fun {w w' p F S X} h hs hd=>by
  obtain⟨mb,sp,G,SF,h1,h2,h3⟩:=h
  exact⟨mb,sp,G,SF,h1.same hs (fun k hk hF=>hd k hk ((h2 k).2 hF)),h2,h3⟩,
  fun {w p F S} h k hk=>by
  obtain⟨mb,sp,G,SF,h1,h2,h3⟩:=h
  exact h1.lt k ((h2 k).1 hk)⟩
theorem Z2d.hou {Gf:Int->Nm->Option LN}{w:World}{p:Nat}{F:Nat->Prop}{S:Zf}(h:Z2d Gf w p F S):UM w p F S:=by
 obtain⟨mb,sp,G,SF,h1,h2,_⟩:=h;exact⟨mb,sp,G,SF,h1,h2⟩
theorem Z7P {w:World}{ps:List Nat}{Fs:List (Nat->Prop)}{Ss:List Zf}(h:Um UM w ps Fs Ss)(hid : ∀(i:Nat) (S:Zf),Ss[i]? = some S->S.id=(i:Int)+1):
  ∃Gf:Int->Nm->Option LN,∀(i p:Nat) (F:Nat->Prop) (S:Zf),ps[i]? = some p->Fs[i]? = some F->Ss[i]? = some S -> ∃mb sp SF,Yf w p mb sp (Gf S.id) SF S /\ ∀k,F k↔Yl p mb (Gf S.id) SF k:=by
 have key : ∀z:Int,∃G:Nm->Option LN,∀(i p:Nat) (F:Nat->Prop) (S:Zf),z=(i:Int)+1->ps[i]? = some p->Fs[i]? = some F->Ss[i]? = some S -> ∃mb sp SF,Yf w p mb sp G SF S /\ ∀k,F k↔Yl p mb G SF k:=fun z=>by
  by_cases hz : ∃(i p:Nat) (F:Nat->Prop) (S:Zf),z=(i:Int)+1/\ps[i]? = some p/\Fs[i]? = some F/\Ss[i]? = some S
  ·obtain⟨i,p,F,S,h0,h1,h2,h3⟩:=hz;obtain⟨mb,sp,G,SF,g1,g2⟩:=h.hou i p F S h1 h2 h3;refine⟨G,fun j p' F' S' k0 k1 k2 k3 => ?_⟩;have e:j=i:=by omega
   subst e;rw[h1]at k1;rw[h2]at k2;rw[h3]at k3;cases k1;cases k2;cases k3;exact⟨mb,sp,SF,g1,g2⟩
  ·exact⟨fun _=>none,fun j p' F' S' k0 k1 k2 k3=>absurd ⟨j,p',F',S',k0,k1,k2,k3⟩ hz⟩
 refine⟨fun z=>Classical.choose (key z),fun i p F S h1 h2 h3=>?_⟩;exact Classical.choose_spec (key S.id) i p F S (hid i S h3) h1 h2 h3
abbrev Zfg (Gf:Int->Nm->Option LN):=UK (Z2d Gf) 141 27 bfP
structure Z1G (Gf:Int->Nm->Option LN)(w1 wr:World)(p:Nat)(ps:List Nat)(ha:zA)(hc:Nat)(xs:List LM)(ma:zA)(mc:Nat)(F0:Nat->Prop)(bM N:Nat)(f:Nm->Option LN)(V:ZO)(Fs:List (Nat->Prop)):Prop where
 at_:Zfg Gf wr p ps Fs ha hc xs ma mc V
 s:Zb F0 w1 wr
 foot : ∀k,wF p Fs ha ps.length hc xs ma mc k->F0 k\/w1.heap.size<=k
 map:ZZ LN.val wr bM N f
 no : ¬wF p Fs ha ps.length hc xs ma mc bM
 ge:w1.heap.size<=bM
section
variable {Gf:Int->Nm->Option LN}{w1 wr W':World}{p:Nat}{ps:List Nat}{ha:zA}{hc:Nat}{xs:List LM}{ma:zA}{mc:Nat}{F0:Nat->Prop}{bM N:Nat}{f:Nm->Option LN}{V:ZO}{Fs:List (Nat->Prop)}
theorem Z1G.below (h:Z1G Gf w1 wr p ps ha hc xs ma mc F0 bM N f V Fs)(hb:Below wr.heap.size wr W'):Z1G Gf w1 W' p ps ha hc xs ma mc F0 bM N f V Fs:=
 ⟨h.at_.below (Z1u Gf) hb,h.s.trans (Zb.of_below hb),h.foot,h.map.below hb,h.no,h.ge⟩
theorem Z1G.house (h:Z1G Gf w1 wr p ps ha hc xs ma mc F0 bM N f V Fs){i q:Nat}{F:Nat->Prop}{S':Zf}(h1:ps[i]? = some q)(h2:Fs[i]? = some F)(hr:Z2g (Z2d Gf) wr q F S' W'):
  ∃Fs',Z1G Gf w1 W' p ps ha hc xs ma mc F0 bM N f { V with hs:=V.hs.set i S' } Fs':=by
 obtain⟨Fs',g1,g2,g3⟩:=h.at_.house (Z1u Gf) h1 h2 hr;have hbl:=h.map.lt;have hnb : ¬Z0i Fs bM:=fun e=>h.no (.inr (.inr (.inl e)));refine⟨Fs',g1,h.s.trans2 g2 (fun k hk=>h.foot k (.inr (.inr (.inl hk)))),fun k hk=>?_,h.map.of_block (g2.block bM hbl hnb),fun e=>?_,h.ge⟩
 ·rcases g3 k hk with e | e
  ·exact h.foot k e
  ·exact .inr (Nat.le_trans h.s.size e)
 ·rcases g3 bM e with e2 | e2
  ·exact h.no e2
  ·omega
theorem Z1G.get (h:Z1G Gf w1 wr p ps ha hc xs ma mc F0 bM N f V Fs){i:Nat}{S:Zf}(hi:V.hs[i]? = some S): ∃q F,ps[i]? = some q/\Fs[i]? = some F/\Z2d Gf wr q F S:=h.at_.hs.get hi
theorem Z1G.gok (h:Z1G Gf w1 wr p ps ha hc xs ma mc F0 bM N f V Fs)(hi : ∀S∈V.hs,Xh S)(hf : ∀k x,f k=some x -> ∃(i:Nat) (S:Zf),V.hs[i]? = some S/\Gf S.id k=some x):GOk f wr:=fun k x hk=>by
 obtain⟨i,S,h1,h2⟩:=hf k x hk
 obtain⟨q,F,_,_,mb,sp,G,SF,g1,_,g3⟩:=h.get h1
 exact g1.gok (hi S (List.mem_of_getElem? h1)) k x (g3 k x h2)
theorem Z1G.ret (h:Z1G Gf w1 wr p ps ha hc xs ma mc F0 bM N f V Fs):Yr w1 p F0 V wr:=by
 have hs:Um UM wr ps Fs V.hs:=⟨h.at_.hs.len,fun i q F S h1 h2 h3=>(h.at_.hs.hou i q F S h1 h2 h3).hou,h.at_.hs.dis⟩;exact⟨_,⟨ps,Fs,ha,hc,xs,ma,mc,⟨h.at_.blk,h.at_.hrow,hs,h.at_.mrow,h.at_.mls,h.at_.bod,h.at_.sp,h.at_.sh,h.at_.sm,h.at_.sb⟩,fun k=>Iff.rfl⟩,h.s,h.foot⟩
end
structure Z2Y (hs:List Zf)(Gf:Int->Nm->Option LN)(f:Nm->Option LN)(NS:List Nm):Prop where
 src : ∀k x,f k=some x -> ∃S∈hs,Gf S.id k=some x/\x.n∈S.l/\Zi x.n=k
 all : ∀S∈hs,∀n∈S.l,∃x,f (Zi n)=some x/\x.n=n
 nod:NS.Nodup
 nms : ∀k∈NS,(f k).isSome=true
theorem Z2Y.start (Gf:Int->Nm->Option LN):Z2Y [] Gf (fun _=>none) []:=⟨fun k x h=>(by cases h),fun S h=>(by cases h),List.nodup_nil,fun k h=>(by cases h)⟩
theorem Z2Y.step {hs:List Zf}{S:Zf}{Gf:Int->Nm->Option LN}{f:Nm->Option LN}{NS ks:List Nm}{w:World}{q mb sp:Nat}{SF:Nat->Prop}(h:Z2Y hs Gf f NS)(hh:Yf w q mb sp (Gf S.id) SF S)(h1:Z6S (hs ++ [S]))(kn:ks.Nodup)(ka : ∀k∈ks,(Gf S.id k).isSome=true):
  Z2Y (hs ++ [S]) Gf (XN f (Gf S.id)) (NS ++ ks.filter fun k=>(f k).isNone):=by
 refine⟨fun k x hk=>?_,fun R hR n hn=>?_,?_,fun k hk=>?_⟩
 ·unfold XN at hk;cases hg:Gf S.id k with
  | some y=>
   rw[hg]at hk;cases hk;have:=hh.gs k _ hg;exact⟨S,by simp,hg,this.1,this.2⟩
  | none=>
   rw[hg]at hk;obtain⟨R,h2,h3,h4,h5⟩:=h.src k x hk;exact⟨R,List.mem_append_left _ h2,h3,h4,h5⟩
 ·unfold XN;cases hg:Gf S.id (Zi n)with
  | some y=>
   have h2:=hh.gs _ _ hg;refine⟨y,rfl,?_⟩;exact h1 S (by simp) R hR y.n h2.1 n hn h2.2
  | none=>
   rcases List.mem_append.1 hR with hR | hR
   ·exact h.all R hR n hn
   ·rw[List.mem_singleton.1 hR]at hn;obtain⟨x,h2,h3⟩:=hh.gl n hn;rw[hg]at h2;cases h2
 ·rw[List.nodup_append];refine⟨h.nod,kn.filter _,fun a ha b hb e=>?_⟩;have h2:=h.nms a ha;have h3:=(List.mem_filter.1 hb).2;rw[<-e]at h3;cases hf:f a with
  | none=>rw[hf]at h2;cases h2
  | some z=>rw[hf]at h3;cases h3
 ·unfold XN;rcases List.mem_append.1 hk with hk | hk
  ·have h2:=h.nms k hk;cases hg:Gf S.id k with
   | some y=>rfl
   | none=>exact h2
  ·have h2:=ka k (List.mem_filter.1 hk).1;cases hg:Gf S.id k with
   | some y=>rfl
   | none=>rw[hg]at h2;cases h2
theorem Z2Y.len {hs:List Zf}{Gf:Int->Nm->Option LN}{f:Nm->Option LN}{NS:List Nm}(h:Z2Y hs Gf f NS)(h1:Z6S hs):NS.length<=(Zw hs).length:=by
 have h2:=zZ (m:=(Zw hs).map Zi) h.nod (fun k hk=>by
  obtain⟨x,hx⟩:=Option.isSome_iff_exists.1 (h.nms k hk);obtain⟨S,hS,_,h3,h4⟩:=h.src k x hx;exact List.mem_map.2 ⟨x.n,((XW h1).2 x.n).2 ⟨S,hS,h3⟩,h4⟩)
 rwa [List.length_map]at h2
theorem Z2Y.list {hs:List Zf}{Gf:Int->Nm->Option LN}{f:Nm->Option LN}{NS ks:List Nm}(h:Z2Y hs Gf f NS)(h1:Z6S hs)(ha:Xt f ks)(hs2:ks.Pairwise (fun x y=>J0 x y=true)):(ks.filterMap f).map LN.n=Zw hs:=by
 obtain⟨u1,u2⟩:=XW h1;refine VV ?_ u1 fun x=>?_
 ·rw[List.pairwise_map];clear ha
  induction ks with
  | nil=>exact List.Pairwise.nil
  | cons k ks ih=>
   rw[List.pairwise_cons]at hs2;cases hk:f k with
   | none=>rw[List.filterMap_cons_none hk];exact ih hs2.2
   | some x=>
    rw[List.filterMap_cons_some hk];refine List.pairwise_cons.2 ⟨fun y hy=>?_,ih hs2.2⟩;obtain⟨k',hk',hy'⟩:=List.mem_filterMap.1 hy;obtain⟨_,_,_,_,e1⟩:=h.src k x hk;obtain⟨_,_,_,_,e2⟩:=h.src k' y hy';show J0 (Zi x.n) (Zi y.n)=true;rw[e1,e2];exact hs2.1 k' hk'
 ·rw[u2];constructor
  ·intro hx;obtain⟨y,hy,rfl⟩:=List.mem_map.1 hx;obtain⟨k,_,hk⟩:=List.mem_filterMap.1 hy;obtain⟨S,hS,_,h3,_⟩:=h.src k y hk;exact⟨S,hS,h3⟩
  ·rintro⟨S,hS,hx⟩;obtain⟨y,hy,rfl⟩:=h.all S hS x hx;exact List.mem_map.2 ⟨y,List.mem_filterMap.2 ⟨Zi y.n,ha _ (by rw[hy];rfl),hy⟩,rfl⟩
theorem Z9v (S:Zf)(l:List Z8):(ZR S l).1.id=S.id:=by
 unfold ZR;split
 ·rfl
 ·split
  ·rfl
  ·exact Z17 _ _
def Z2f (T:Nat)(hs0 hs:List Zf):Prop:=hs.length=hs0.length /\ ∀(j:Nat) (S0:Zf),hs0[j]? = some S0 -> ∃R,hs[j]? = some R/\R.id=S0.id/\Xh R
theorem Z2f.all {T:Nat}{hs0 hs:List Zf}(h:Z2f T hs0 hs): ∀S∈hs,Xh S:=fun S hS=>by
 obtain⟨j,hj⟩:=List.getElem?_of_mem hS
 have hl:=(List.getElem?_eq_some_iff.1 hj).1
 obtain⟨R,h1,_,h3⟩:=h.2 j _ (List.getElem?_eq_getElem (by rw[<-h.1];exact hl))
 rw[hj]at h1
 cases h1
 exact h3
theorem Z2f.set {T:Nat}{hs0 hs:List Zf}(h:Z2f T hs0 hs){i:Nat}{S S':Zf}(hi:hs[i]? = some S)(hid:S'.id=S.id)(hv:Xh S'):Z2f T hs0 (hs.set i S'):=by
 refine⟨by rw[List.length_set];exact h.1,fun j S0 hj=>?_⟩;obtain⟨R,h1,h2,h3⟩:=h.2 j S0 hj;have hl:=(List.getElem?_eq_some_iff.1 h1).1;by_cases e:i=j
 ·subst e;rw[hi]at h1;cases h1;exact⟨S',List.getElem?_set_self hl,hid.trans h2,hv⟩
 ·exact⟨R,by rw[List.getElem?_set_ne e];exact h1,h2,h3⟩
def UF (g:Zf->Zf)(hs:List Zf)(i:Nat):List Zf:=(hs.take i).map g ++ hs.drop i
theorem Z3y {g:Zf->Zf}{hs:List Zf}{i:Nat}{S:Zf}(h:hs[i]? = some S):(UF g hs i)[i]? = some S:=by
 have hl:=(List.getElem?_eq_some_iff.1 h).1;unfold UF;rw[List.getElem?_append_right (by rw[List.length_map,List.length_take];omega),List.length_map,List.length_take,Nat.min_eq_left (by omega),Nat.sub_self,List.getElem?_drop,Nat.add_zero,h]
theorem Za2 {g:Zf->Zf}{hs:List Zf}{i:Nat}{S:Zf}(h:hs[i]? = some S):(UF g hs i).set i (g S)=UF g hs (i+1):=by
 have hl:=(List.getElem?_eq_some_iff.1 h).1;unfold UF;have e:((hs.take i).map g).length=i:=by rw[List.length_map,List.length_take];omega
 rw[List.set_append_right _ _ (by rw[e];exact Nat.le_refl _),e,Nat.sub_self,List.drop_eq_getElem_cons hl,List.set_cons_zero,List.take_add_one,h,List.map_append,List.append_assoc];rfl
theorem Z6T (p:Nat)(F:Nat->Prop)(V:ZO)(ss:List Nat)(T:Nat)(w:World)(h:VO w p F V)(hv:Yp V ss T)(hT:T<=100):
  Calls zq 32 #[.pointer (some ⟨p,0,none⟩)] w fun e w'=>e = .returned (.int .i64 0)/\Yr w p F (Ur V) w':=by
 have hmm := @run_makeMap zq;have J1:(zq.info? 27).map (·.size)=some 1:=by kernel_rfl
 obtain⟨ps,Fs,ha,hc,xs,ma,mc,h1,h2⟩:=h.open;have hn0:0 < ps.length:=by have:=hv.n;rw[h1.nh]at this;omega
 have MD:=zH (VQ h1 hn0);obtain⟨n,hnn⟩:=zX (ps.length);have NH:Hid (V.hs.length=n/\n<=8):=zH (by have:=hv.n;rw[h1.nh,hnn.out]at this;exact⟨h1.nh.trans hnn.out,this.2⟩);obtain⟨Gf,hGf⟩:=Z7P h1.hs (fun i S hS=>(hv.st' hS).2.2);have GF:=zH hGf;have H1:=zH h1;have HV:=zH hv;have HT:=zH hT;have H2:=zH h2;have b0:Below w.heap.size w (w.alloc (.map #[] 0)):=zB _ _;have M0:=zH (ZZ.made (enc:=LN.val) w);have B0:=zH b0;have ROW:Hid (∀W,Below w.heap.size w W->Y3 W 1 ha n hc (ps.map fun q=>.pointer (some ⟨q,0,none⟩))):=zH (fun W hb=>by
  have h3:=Y3.of_own (Zd h1.hrow hb);rwa [hnn.out]at h3)
 have BLK:Hid (∀W,Below w.heap.size w W->W.heap[p]? = some (.cells #[.slice ha n hc,.slice ma xs.length mc] 141)):=zH (fun W hb=>by
  have h3:=Z7 hb h1.blk;rw[hnn.out]at h3;exact h3)
 clear h h1 h2 hv hT b0 hn0 hGf;go_enter Tryz.func32,Tryz.ntmps32;go_wp2_with fail;refine MD.out.mono ?_;rintro e w1 ⟨rfl,rfl⟩;clear MD;go_upto_region 4 with fail;obtain⟨bM,hbM⟩:=zX (w1.heap.size);rw[hbM.out]at M0 ⊢;generalize w1.alloc (.map #[] 0)=W0 at *;have c0:=Z6 (BLK.out W0 B0.out) 0 (.slice ha n hc) rfl;go_wp2_with fail;clear c0;go_loopw [5,17] (fun _ iv wr=>∃(i:Nat) (f:Nm->Option LN) (NS:List Nm),iv = .int .i64 (i:Int)/\i<=n/\Hid (Below w1.heap.size w1 wr/\ZZ LN.val wr bM NS.length f/\Z2Y (V.hs.take i) Gf f NS)) (fun _ iv _=>n - (intOf iv).toNat)
 case atStart=>exact⟨0,fun _=>none,[],by first | rfl | trivial,Nat.zero_le _,zH ⟨B0.out,M0.out,Z2Y.start Gf⟩⟩
 case round=>
  clear M0 B0;obtain⟨i,f,NS,rfl,hi,HS⟩:=hrel;by_cases hlt:i < n
  ·have t0:decide ((i:Int) < (n:Int))=true:=by simp;omega
   have t0':decide (i < n)=true:=by simp[hlt]
   obtain⟨S,hS⟩ : ∃S,V.hs[i]? = some S:=⟨_,List.getElem?_eq_getElem (by rw[NH.out.1];exact hlt)⟩;have HSV:=zH hS;obtain⟨q,Fq,hq,hFq,_⟩:=H1.out.hs.get hS;obtain⟨mb,sp,SF,hh,_⟩:=GF.out i q Fq S hq hFq hS;have HH:=zH (hh.below HS.out.1);obtain⟨g,off,rfl,hat⟩:=(ROW.out wr HS.out.1).at (by omega);obtain⟨o,ho⟩:=zX (off+i);have cq:wr.cell? ⟨g,o,none⟩=some (.pointer (some ⟨q,0,none⟩)):=by
    rw[<-ho.out];exact hat i _ (by rw[List.getElem?_map,hq];rfl)
   have hix:=fun W=>Yi (W:=W) (c:=hc) (b:=g) (off:=off) Tryz.underlying139 J1 hlt (show off+i * 1=o by rw[Nat.mul_one];exact ho.out);have c4:=Z6 HH.out.blk 4 (.map (some mb)) rfl;have E1:=zH (show wrap64 ((i:Int)+1)=(i:Int)+1 by have:=NH.out;unfold wrap64;omega);have LT:Hid (S.l.length<=100):=zH (Nat.le_trans (HV.out.len hS) HT.out);have ONE:Hid (Z6S (V.hs.take (i+1))):=zH (HV.out.oneN.take (i+1));have TK:Hid (V.hs.take (i+1)=V.hs.take i ++ [S]):=zH (by rw[List.take_add_one,hS];rfl);have NL:Hid (NS.length<=100):=zH (Nat.le_trans (HS.out.2.2.len (HV.out.oneN.take i)) (by
    have h1:(Zw (V.hs.take i)).length<=(Zw V.hs).length:=by
     have h2:=zZ (l:=(Zw (V.hs.take i)).map Zi) (m:=(Zw V.hs).map Zi) (Yt (XW (HV.out.oneN.take i)).1) (fun k hk=>by
      obtain⟨x,hx,rfl⟩:=List.mem_map.1 hk;obtain⟨R,hR,hm⟩:=((XW (HV.out.oneN.take i)).2 x).1 hx;exact List.mem_map_of_mem (((XW HV.out.oneN).2 x).2 ⟨R,List.mem_of_mem_take hR,hm⟩))
     simpa using h2
    have:=HV.out.unionLen;have:=HT.out;omega))
   have NE:bM≠mb:=fun e=>by
    have h3:=hh.map.lt;have h4:=hbM.out;omega
   clear hat hq hFq hS hh;go_wp2_with fail;refine(Z58 bM NS.length mb S.l.length f (Gf S.id) wr HS.out.2.1 HH.out.map NE (by have:=NL.out;have:=LT.out;omega)).mono ?_;rintro e W2 ⟨rfl,⟨ks,k1,k2,k3,k4⟩,s2⟩;have HN:=zH (show Below w1.heap.size w1 W2/\ZZ LN.val W2 bM (NS ++ ks.filter fun k=>(f k).isNone).length (XN f (Gf S.id))/\Z2Y (V.hs.take (i+1)) Gf (XN f (Gf S.id)) (NS ++ ks.filter fun k=>(f k).isNone)from⟨s2.below HS.out.1 HS.out.1.size (fun j e=>by rw[show j=bM from e,hbM.out];exact Nat.le_refl _),by rw[List.length_append];exact k4,by
    rw[TK.out];exact HS.out.2.2.step HH.out (by rw[<-TK.out];exact ONE.out) k1 k3⟩)
   clear k1 k2 k3 k4 s2 HS c4 cq t0 t0';have e1:=E1.out;go_wp2;go_roundw
   case rel=>exact⟨i+1,_,_,by go_num,by omega,HN⟩
   case measure=>clear e1;(try rw[E1.out]);simp[intOf];omega
  ·have t0:decide ((i:Int) < (n:Int))=false:=by simp;omega
   have t0':decide (i < n)=false:=by simp[hlt]
   have hin:i=n:=by omega
   subst hin;have UN:Hid (Z2Y V.hs Gf f NS):=zH (by have h3:=HS.out.2.2;rwa [List.take_of_length_le (by rw[NH.out.1];exact Nat.le_refl _)]at h3);have UL:Hid (NS.length<=100):=zH (Nat.le_trans (UN.out.len HV.out.oneN) (Nat.le_trans HV.out.unionLen HT.out));have MP:=zH HS.out.2.1;have BW:=zH HS.out.1;clear HS;go_upto_region 9 with fail;clear t0 t0';go_upto_region 11 with (first
    |(at_len;refine JU rfl _ 106 47 rfl Tryz.underlying106 bM NS.length rfl MP.out ?_;intro kk hkk;have tkk:decide ((400:Int) < (kk:Int))=false:=(by have:=UL.out;simp;omega))
    | fail)
   clear tkk hkk;have c0:=Z6 (BLK.out wr BW.out) 0 (.slice ha i hc) rfl;obtain⟨gS,hgS⟩ : ∃g:Zf->Zf,Hid (g=fun S=>(ZR S.sync (Zw V.hs)).1.sync):=⟨_,zH rfl⟩;have WS:Hid (∀hs,hs.length=V.hs.length -> { V with hs:=hs }.f=V.f):=zH (fun _ _=>rfl);have SE0:Hid (Z1G Gf w1 wr p ps ha hc xs ma mc F bM NS.length f { V with hs:=UF gS V.hs 0 } Fs):=zH (by
    have e0:UF gS V.hs 0=V.hs:=by unfold UF;simp
    rw[e0];have hb:=H1.out.below Zl BW.out;refine⟨⟨hb.blk,hb.hrow,⟨hb.hs.len,fun j q' F' S' k1 k2 k3 => ?_,hb.hs.dis⟩,hb.mrow,hb.mls,hb.bod,hb.sp,hb.sh,hb.sm,hb.sb⟩,Zb.of_below BW.out,fun k hk=>.inl (by rw[H2.out];exact hk),MP.out,fun e=>?_,by rw[<-hbM.out];exact Nat.le_refl _⟩
    ·obtain⟨mb,sp,SF,g1,g2⟩:=GF.out j q' F' S' k1 k2 k3;exact⟨mb,sp,_,SF,g1.below BW.out,g2,fun k x hk=>hk⟩
    ·have h3:=H1.out.lt Zl bM e;have h4:=hbM.out;omega)
   have ID0:Hid (Z2f T V.hs (UF gS V.hs 0)):=zH (by
    have e0:UF gS V.hs 0=V.hs:=by unfold UF;simp
    rw[e0];exact⟨rfl,fun j S0 hj=>⟨S0,hj,rfl,(HV.out.st' hj).1⟩⟩)
   have UIS:Hid (∀(hs:List Zf),Z2f T V.hs hs -> ∀k x,f k=some x -> ∃(j:Nat) (S:Zf),hs[j]? = some S/\Gf S.id k=some x):=zH (fun hs hI k x hk=>by
    obtain⟨S0,hS0,h3,_⟩:=UN.out.src k x hk;obtain⟨j,hj⟩:=List.getElem?_of_mem hS0;obtain⟨R,h4,h5,_⟩:=hI.2 j S0 hj;exact⟨j,R,h4,by rw[h5];exact h3⟩)
   have UOK:Hid (∀x∈Zw V.hs,x.Ok):=zH (fun x hx=>(HV.out.unionOk x hx).2);have ULN:Hid ((Zw V.hs).length<=100):=zH (Nat.le_trans HV.out.unionLen HT.out);clear BW MP;go_wp2_with fail;clear c0;go_loopw [7,36] (fun _ iv wr=>∃(j:Nat) (Fs:List (Nat->Prop)),iv = .int .i64 (j:Int)/\j<=i/\Hid (Z1G Gf w1 wr p ps ha hc xs ma mc F bM NS.length f { V with hs:=UF gS V.hs j } Fs/\Z2f T V.hs (UF gS V.hs j))) (fun _ iv _=>i - (intOf iv).toNat)
   case atStart=>exact⟨0,Fs,by first | rfl | trivial,Nat.zero_le _,zH ⟨SE0.out,ID0.out⟩⟩
   case round=>
    clear SE0 ID0;obtain⟨j,Fs,rfl,hj,HS⟩:=hrel;by_cases hji:j < i
    ·have t0:decide ((j:Int) < (i:Int))=true:=by simp;omega
     have t0':decide (j < i)=true:=by simp[hji]
     obtain⟨S,hS⟩ : ∃S,V.hs[j]? = some S:=⟨_,List.getElem?_eq_getElem (by rw[NH.out.1];exact hji)⟩;have HSV:=zH hS;obtain⟨q,Fq,hq,hFq,mb,sp,G,SF,g1,g2,g3⟩:=HS.out.1.get (show(UF gS V.hs j)[j]? = some S from Z3y hS);obtain⟨g,off,rfl,hat⟩:=(Y3.of_own HS.out.1.at_.hrow).at (by rw[hnn.out];omega);obtain⟨o,ho⟩:=zX (off+j);have cq:wr.cell? ⟨g,o,none⟩=some (.pointer (some ⟨q,0,none⟩)):=by
      rw[<-ho.out];exact hat j _ (by rw[List.getElem?_map,hq];rfl)
     have hix:=fun W=>Yi (W:=W) (c:=hc) (b:=g) (off:=off) Tryz.underlying139 J1 hji (show off+j * 1=o by rw[Nat.mul_one];exact ho.out);have E1:=zH (show wrap64 ((j:Int)+1)=(j:Int)+1 by have:=NH.out;unfold wrap64;omega);have LT:Hid (S.l.length<=100):=zH (Nat.le_trans (HV.out.len hS) HT.out);have HIS:=zH (HV.out.st' hS).1;have G1:=zH g1;have G2:=zH g2;have G3:=zH g3;have HQ:=zH (And.intro hq hFq);have HQ0:=zH hq;clear hat g1 g2 g3 hS hq hFq;go_wp2_with fail;refine(Jt q mb sp G SF S wr G1.out).mono ?_;rintro e W1 ⟨rfl,j1,j2⟩;obtain⟨Fs1,se1⟩:=HS.out.1.house HQ.out.1 HQ.out.2 (show Z2g (Z2d Gf) wr q Fq S.sync W1 from⟨Fq,⟨mb,sp,G,SF,j1,G2.out,G3.out⟩,j2.weaken (fun b hb=>by rw[show b=sp from hb];exact(G2.out sp).2 (.inr (.inr (.inl G1.out.stk.self)))),fun k hk=>.inl hk⟩);have id1:=HS.out.2.set (S':=S.sync) (Z3y HSV.out) rfl HIS.out.sync;have SE1:=zH se1;have ID1:=zH id1;clear j1 j2 se1 id1 HS G1 G2 G3 HQ cq t0 t0';go_wp2_with fail;refine(Z0B bM NS.length f W1 SE1.out.map (by have:=UL.out;omega) (SE1.out.gok (fun R hR=>ID1.out.all R hR) (UIS.out _ ID1.out))).mono ?_;rintro e W2 ⟨⟨la,un,lc,zs,ks,rfl,m1,m2,m3,m4,m5,_⟩,b2⟩;have ZU:Hid (zs.map LN.n=Zw V.hs):=zH (m2.trans (UN.out.list HV.out.oneN m3 m4));have ZN:Hid (zs.length=un):=zH m1.len;have SE2:=zH (SE1.out.below b2);have MG:=zH m1;have LT1:=zH (SE1.out.at_.lt (Z1u Gf));clear m1 m2 m3 m4 m5 b2 SE1;obtain⟨q2,F2,hq2,hF2,mb2,sp2,G2,SF2,g1,g2,g3⟩:=SE2.out.get (i:=j) (S:=S.sync) (by
      have h3:=(List.getElem?_eq_some_iff.1 (Z3y (g:=gS) HSV.out)).1;exact List.getElem?_set_self h3)
     obtain rfl:q2=q:=by
      have h3:=HQ0.out;rw[hq2]at h3;exact Option.some.inj h3
     have G1:=zH g1;have G2':=zH g2;have G3:=zH g3;have HQ:=zH (And.intro hq2 hF2);clear g1 g2 g3 hq2 hF2;go_wp2_with fail;refine(Z4v q2 mb2 sp2 G2 SF2 S.sync la un lc (Zw V.hs) zs W2 G1.out HIS.out.sync ZU.out (fun W hs=>by
      have hF : ∀k,Yl q2 mb2 G2 SF2 k->k < W1.heap.size:=fun k hk=>LT1.out k (.inr (.inr (.inl ⟨j,F2,HQ.out.2,(G2'.out k).2 hk⟩)));have hno : ∀{e:TypeId} {k:Nat} {v:Value} {n:Nat} {xs:List Value},W2.ownsRow W1.heap.size e k v n xs->W.ownsRow W1.heap.size e k v n xs:=fun ho=>Ze ho hs (fun b hb hF2=>by
       have h3:=hF b hF2;have h4:=(ho.lt b hb).1;omega)
      exact Z1O (Y3.of_own (hno MG.out.own)) (fun x hx=>Y3.of_own (hno (MG.out.str x hx)))) UOK.out (by have h3:=LT.out;have h4:=ULN.out;have h5:=ZN.out;rw[<-ZU.out,List.length_map]at h4;show S.l.length+un<=400;omega)).mono ?_
     rintro e W3 ⟨rfl,G4,SF4,j1,j2,j3,j4⟩;obtain⟨Fs3,se3⟩:=SE2.out.house HQ.out.1 HQ.out.2 (show Z2g (Z2d Gf) W2 q2 F2 (ZR S.sync (Zw V.hs)).1 W3 from⟨Yl q2 mb2 G4 SF4,⟨mb2,sp2,G4,SF4,j1,fun k=>Iff.rfl,fun k x hk=>j4 k x (G3.out k x (by rw[<-Z9v];exact hk))⟩,j2.weaken (fun b hb=>(G2'.out b).2 hb),fun k hk=>(j3 k hk).imp (fun e=>(G2'.out k).2 e) id⟩);have HJL:Hid (j < (UF gS V.hs j).length):=zH (List.getElem?_eq_some_iff.1 (Z3y (g:=gS) HSV.out)).1;have HVI:=zH (Z2O HIS.out.sync (l:=Zw V.hs) UOK.out).1;have ID3:=zH (ID1.out.set (i:=j) (S:=S.sync) (S':=(ZR S.sync (Zw V.hs)).1) (List.getElem?_set_self HJL.out) (Z9v _ _) HVI.out);have SE3:=zH se3;clear j1 j2 j3 j4 se3 SE2 G1 G2' G3 HQ MG LT1;obtain⟨q3,F3,hq3,hF3,mb3,sp3,G5,SF5,g1,g2,g3⟩:=SE3.out.get (i:=j) (S:=(ZR S.sync (Zw V.hs)).1) (List.getElem?_set_self (by rw[List.length_set];exact HJL.out));obtain rfl:q3=q2:=by
      have h3:=HQ0.out;rw[hq3]at h3;exact Option.some.inj h3
     have G1:=zH g1;have G2:=zH g2;have G3:=zH g3;have HQ:=zH (And.intro hq3 hF3);clear g1 g2 g3 hq3 hF3;go_wp2_with fail;refine(Jt q3 mb3 sp3 G5 SF5 _ W3 G1.out).mono ?_;rintro e W4 ⟨rfl,j1,j2⟩;obtain⟨Fs4,se4⟩:=SE3.out.house HQ.out.1 HQ.out.2 (show Z2g (Z2d Gf) W3 q3 F3 (ZR S.sync (Zw V.hs)).1.sync W4 from⟨F3,⟨mb3,sp3,G5,SF5,j1,G2.out,G3.out⟩,j2.weaken (fun b hb=>by rw[show b=sp3 from hb];exact(G2.out sp3).2 (.inr (.inr (.inl G1.out.stk.self)))),fun k hk=>.inl hk⟩);have id4:=ID3.out.set (i:=j) (S':=(ZR S.sync (Zw V.hs)).1.sync) (List.getElem?_set_self (by rw[List.length_set];exact HJL.out)) rfl HVI.out.sync;have eN:(((UF gS V.hs j).set j S.sync).set j (ZR S.sync (Zw V.hs)).1).set j (ZR S.sync (Zw V.hs)).1.sync=UF gS V.hs (j+1):=by
      rw[List.set_set,List.set_set,<-Za2 HSV.out,hgS.out]
     have HN:Hid (Z1G Gf w1 W4 p ps (some ⟨g,off,none⟩) hc xs ma mc F bM NS.length f { V with hs:=UF gS V.hs (j+1) } Fs4/\Z2f T V.hs (UF gS V.hs (j+1))):=zH (by
      rw[<-eN];exact⟨se4,id4⟩)
     clear j1 j2 se4 id4 eN SE3 G1 G2 G3 HQ ID3;have e1:=E1.out;go_wp2;go_roundw
     case rel=>exact⟨j+1,Fs4,by go_num,by omega,HN⟩
     case measure=>clear e1;(try rw[E1.out]);simp[intOf];omega
    ·have t0:decide ((j:Int) < (i:Int))=false:=by simp;omega
     have t0':decide (j < i)=false:=by simp[hji]
     have hjn:j=i:=by omega
     have FN:Hid (Yr w1 p F (Ur V) wr):=zH (by
      have e0:UF gS V.hs j=V.hs.map gS:=by
       unfold UF;rw[List.take_of_length_le (by rw[NH.out.1];omega),List.drop_of_length_le (by rw[NH.out.1];omega),List.append_nil]
      have h3:=HS.out.1.ret;rw[e0,hgS.out]at h3;exact h3)
     clear HS;go_wp2;go_ret;exact⟨rfl,FN.out⟩
theorem Z5M {l:List Z8}{c0:Int->Nat}(hd:(l.map Zi).Nodup): ∀(ns fr:List Z8) (c:Int->Nat),(∀x∈ns,x.num<=(c0 x.house:Int)->x∈l)->Y9 l fr c ns=Y9 l fr c (YQ ns c0)
 | [],fr,c,_=>rfl
 | n :: ns,fr,c,h=>by
  have ih:=fun fr c=>Z5M hd ns fr c (fun x hx=>h x (List.mem_cons_of_mem _ hx))
  by_cases hn:n.num<=(c0 n.house:Int)
  ·have hm:=h n (List.mem_cons_self ..) hn
   have e:YQ (n :: ns) c0=YQ ns c0:=by simp[YQ,hn]
   rw[e,Y9,<-ih fr c]
   cases hk:YW (l ++ fr) n with
   | none=>exact absurd rfl (XC hk n (List.mem_append_left _ hm))
   | some o=>
    have e2:o=n:=by
     unfold YW at hk;rw[List.find?_append]at hk;cases h2:YW l n with
     | none=>exact absurd rfl (XC h2 n hm)
     | some z=>
      have h3:=Z1Z h2;unfold YW at h2;rw[h2]at hk;cases hk;exact QP hd h3.1 hm h3.2
    subst e2;simp only;rw[if_pos (Jr.2 rfl)]
  ·have e:YQ (n :: ns) c0=n :: YQ ns c0:=by simp[YQ,hn]
   rw[e,Y9,Y9];cases YW (l ++ fr) n with
   | none=>
    simp only;split
    ·exact ih _ _
    ·exact ih _ _
   | some o=>
    simp only;split
    ·exact ih _ _
    ·rfl
section
variable {W:ZO}{ss:List Nat}{T:Nat}
theorem Yp.settleHear (h:Yp W ss T){S:Zf}(hS:S∈W.hs):(ZR S.sync (Zw W.hs)).1.l=Zw W.hs/\Xh (ZR S.sync (Zw W.hs)).1/\(ZR S.sync (Zw W.hs)).1.f=W.f:=by
 obtain⟨u1,u2⟩:=XW h.oneN;obtain⟨i,hi⟩:=List.getElem?_of_mem hS;obtain⟨k1,k2,k3⟩:=h.st' hi;have hv:=h.v;obtain⟨c',e1⟩:=Z5a h.unionNms k1.nms u1;rw[<-Z5M (Yt k1.srt) (Zw W.hs) [] S.c (fun x hx hle=>by
  obtain⟨y,hy,e⟩:=(k1.nms x.house x.num).2 ⟨(Yd (h.unionOk x hx).1).2.2,hle⟩;obtain⟨R,hR,hxR⟩:=(u2 x).1 hx;rw[h.oneN R hR S hS x hxR y hy e.symm];exact hy)]at e1
 have hc:=Z6E (f:=S.sync.f) (l:=Zw W.hs) (show S.f.valid=true from k2 ▸ hv) (fun x hx=>by
  show Zg S.f x=true;rw[k2];exact(h.unionOk x hx).1)
 have e2:=zf (S:=S.sync) hc e1;have h5:=(Z2O (l:=Zw W.hs) k1.sync (fun x hx=>(h.unionOk x hx).2)).1;refine⟨?_,h5,?_⟩
 ·rw[e2];show(S.sync.adds (YQ (Zw W.hs) S.c)).l=_;rw[Z1C];exact(Zc8 (l1:=Zw W.hs) (l2:=S.l) k1.nms ⟨u1,fun x=>⟨.inl,fun e=>e.elim id fun hx=>(u2 x).2 ⟨S,hS,hx⟩⟩⟩ u1 k1.srt (fun x hx y hy e=>by
   obtain⟨R,hR,hxR⟩:=(u2 x).1 hx;exact h.oneN R hR S hS x hxR y hy e) (fun x hx=>(Yd (h.unionOk x hx).1).2.2)).1
 ·rw[e2];show(S.sync.adds (YQ (Zw W.hs) S.c)).f=_;rw[Z1D];exact k2
theorem Yp.settled (h:Yp W ss T){S:Zf}(hS:S∈(Ur W).hs):S.l=Zw W.hs/\Xh S/\S.l.length<=T/\S.f=W.f:=by
 obtain⟨R,hR,rfl⟩:=List.mem_map.1 hS;obtain⟨h1,h2,h3⟩:=h.settleHear hR;have h4:=h.unionLen;exact⟨h1,h2.sync,by show(ZR R.sync (Zw W.hs)).1.l.length<=T;rw[h1];exact h4,h3⟩
theorem Z75:(Ur W).hs.length=W.hs.length:=by simp[Ur]
theorem Yp.takeU (h:Yp W ss T)(k:Nat):(Zw (W.hs.take k)).Pairwise UX/\(∀y,y∈Zw (W.hs.take k) ↔ ∃S∈W.hs.take k,y∈S.l)/\(∀y∈Zw (W.hs.take k),y∈Zw W.hs)/\(Zw (W.hs.take k)).length<=T:=by
 obtain⟨t1,t2⟩:=XW (h.oneN.take k);have t3 : ∀y∈Zw (W.hs.take k),y∈Zw W.hs:=fun y hy=>by
  obtain⟨S,hS,hyS⟩:=(t2 y).1 hy;exact((XW h.oneN).2 y).2 ⟨S,List.mem_of_mem_take hS,hyS⟩
 refine⟨t1,t2,t3,Nat.le_trans ?_ h.unionLen⟩;have h6:=zZ (Yt t1) (m:=(Zw W.hs).map Zi) (fun a ha=>by
  obtain⟨x,hx,rfl⟩:=List.mem_map.1 ha;exact List.mem_map_of_mem (t3 x hx))
 rwa [List.length_map,List.length_map]at h6
theorem Yp.takeSet (h:Yp W ss T)(hT:T<=400)(k:Nat):(Zs W.f (Zw (W.hs.take k))).1=0 /\ ∀x∈Zw (W.hs.take k),x.Ok:=by
 obtain⟨t1,_,t3,t4⟩:=h.takeU k;exact⟨Zbu h.v (Nat.le_trans t4 hT) (fun x hx=>(h.unionOk x (t3 x hx)).1) t1,fun x hx=>(h.unionOk x (t3 x hx)).2⟩
theorem Yp.mergeNext (h:Yp W ss T)(hT:T<=100){k:Nat}{S:Zf}(hk:W.hs[k]? = some S):JS W.f (Zw (W.hs.take k)) S.l=0/\(Zw (W.hs.take k)).length+S.l.length<=400/\(∀x∈S.l,x.Ok) /\ ∀u,IsU (Zw (W.hs.take k)) S.l u->u=Zw (W.hs.take (k+1)):=by
 obtain⟨k1,k2,k3⟩:=h.st' hk;obtain⟨t1,t2,t3,t4⟩:=h.takeU k;obtain⟨s1,s2,_,_⟩:=h.takeU (k+1);have hl:=h.len hk;refine⟨Z7C (h.takeSet (by omega) k).1 (Zbu h.v (by omega) (fun x hx=>k2 ▸ k1.frm x hx) k1.srt) (fun x hx y hy e=>?_),by omega,k1.ok,fun u hu=>VV hu.1 s1 fun x=>?_⟩
 ·obtain⟨R,hR,hxR⟩:=(t2 x).1 hx;exact h.oneN R (List.mem_of_mem_take hR) S (List.mem_of_getElem? hk) x hxR y hy e
 ·rw[hu.2 x,t2 x,s2 x,List.take_add_one,hk];simp only[Option.toList_some,List.mem_append,List.mem_singleton];constructor
  ·rintro(⟨R,hR,hx⟩ | hx)
   ·exact⟨R,.inl hR,hx⟩
   ·exact⟨S,.inr rfl,hx⟩
  ·rintro⟨R,hR | rfl,hx⟩
   ·exact .inl ⟨R,hR,hx⟩
   ·exact .inr hx
end
theorem ZdT:(zq.info? 24).map (fun i=>(i.zero,i.size,i.bytes))=some (some (.slice none 0 0),1,24):=by kernel_rfl
structure LL where
 zs:List LN
 a:zA
 c:Nat
def LL.val (x:LL):Value := .slice x.a x.zs.length x.c
def LL.ok (W:World)(base:Nat)(x:LL):Prop:=W.ownsRow base 47 19 x.val x.zs.length (ZH x.zs)/\Z1n W base x.zs
def LL.l (x:LL):List Z8:=x.zs.map LN.n
theorem LL.ok.below {W W':World}{base:Nat}{x:LL}(h:x.ok W base)(hb:Below W.heap.size W W'):x.ok W' base:=⟨Zd h.1 hb,h.2.below hb⟩
theorem Z7f (w:World)(base:Nat)(sa:zA)(sn sc:Nat)(xs:List Value)(hown:w.ownsRow base 24 1 (.slice sa sn sc) sn xs)(xa:zA)(m xc:Nat)(ys:List Value)(hrd:Y3 w 1 xa m xc ys)(h1 : ∀u∈ys,u.oneCell'=true)
  (hbytes:(sn+m) * 24<=140737488355328) (hbase:base<=w.heap.size):
  ∃a' c' w',(Builtin.append_ #[71,71] 71 #[.slice sa sn sc,.slice xa m xc]).run zq w = .ok (.slice a' (sn+m) c') w'/\w'.ownsRow base 24 1 (.slice a' (sn+m) c') (sn+m) (xs ++ ys)/\w.grownBy w' (Value.ownBlock (.slice sa sn sc)):=by
 obtain⟨i,hi,hz0,hz1,hz2⟩:=info_parts ZdT;exact Yu w base 71 71 24 i _ 1 24 Tryz.underlying71 hi hz0 hz1 hz2 rfl (by decide) sa sn sc xs hown xa m xc ys hrd h1 (by unfold maxLen;omega) hbytes hbase
theorem ZdO (W:World)(v:Value):Y3 (W.alloc (.cells #[v] 24)) 1 (some ⟨W.heap.size,0,none⟩) 1 1 [v]:=
 Y3.of_own (World.ownsRow_lit (base:=W.heap.size) (e:=24) (size:=1) W #[v] 1 (Nat.le_refl _) (by unfold maxLen;omega) rfl)
def QI (W:World)(base:Nat)(a:zA)(c:Nat)(xs:List LL)(hs:List Zf):Prop:=W.ownsRow base 24 1 (.slice a xs.length c) xs.length (xs.map LL.val)/\(∀x∈xs,x.ok W base)/\xs.map LL.l=hs.map Zf.l
theorem QI.below {W W':World}{base:Nat}{a:zA}{c:Nat}{xs:List LL}{hs:List Zf}(h:QI W base a c xs hs)(hb:Below W.heap.size W W'):QI W' base a c xs hs:=⟨Zd h.1 hb,fun x hx=>(h.2.1 x hx).below hb,h.2.2⟩
theorem QI.push {W wn V:World}{base:Nat}{a a':zA}{c c':Nat}{xs:List LL}{hs:List Zf}{x:LL}{S:Zf}(h:QI W base a c xs hs)(hx:x.ok W base)(hS:x.l=S.l)(hb:Below W.heap.size W wn)(ho:V.ownsRow base 24 1 (.slice a' (xs.length+1) c') (xs.length+1) (xs.map LL.val ++ [x.val]))(hg:wn.grownBy V (Value.ownBlock (.slice a xs.length c))):
  QI V base a' c' (xs ++ [x]) (hs ++ [S]):=by
 have o1:=Zd h.1 hb;have s1:Zb (fun j=>Value.ownBlock (.slice a xs.length c)=some j) wn V:=Zb.of_grown hg (fun j e=>e);have hk : ∀{y:LL},y.ok W base->y.ok V base:=fun {y} hy=>by
  have h1:=hy.below hb;exact⟨Ze h1.1 s1 (fun b hb2 e=>Qx h1.1 o1 (by decide) b hb2 e),fun z hz=>Ze (h1.2 z hz) s1 (fun b hb2 e=>Qx (h1.2 z hz) o1 (by decide) b hb2 e)⟩
 refine⟨by rw[List.length_append,List.map_append];exact ho,fun y hy=>?_,by rw[List.map_append,List.map_append,h.2.2];simp[hS]⟩;rcases List.mem_append.1 hy with hy | hy
 ·exact hk (h.2.1 y hy)
 ·rw[List.mem_singleton.1 hy];exact hk hx
def Zdq (w:World)(hs:List Zf)(e:Ending)(W:World):Prop := ∃a c xs,e = .returned (.tuple #[.slice a hs.length c,.bool true])/\QI W w.heap.size a c xs hs
theorem Z76 (p:Nat)(F:Nat->Prop)(V:ZO)(m:Nat)(w:World)(h:VO w p F V)(hm:V.hs.length=m)(h0:1<=m)(h8:m<=8)(hi : ∀S∈V.hs,Xh S/\S.l.length<=400):
  Calls zq 33 #[.pointer (some ⟨p,0,none⟩),.int .i64 (m:Int)] w fun e w'=>Zdq w V.hs e w'/\Below w.heap.size w w':=by
 have HW:=zH h;have HM:=zH hm;have H8:=zH (And.intro h0 h8);have WN:=zH (fun(i:Int) W hb=>Z8o p F V i W (h.below Zl (show Below w.heap.size w W from hb)) (by omega) hi);clear h hm h0 h8 hi;go_enter Tryz.func33,Tryz.ntmps33;go_wp2;go_loopw [6,7] (fun s i wr=>∃(k:Nat) (oa:zA) (oc:Nat) (xs:List LL),s = .slice oa k oc/\i = .int .i64 ((k:Int)+1)/\k<=m/\Hid (xs.length=k/\QI wr w.heap.size oa oc xs (V.hs.take k)/\Below w.heap.size w wr)) (fun _ i _=>m+1 - (intOf i).toNat)
 case atStart=>exact⟨0,none,0,[],by first | rfl | trivial,by first | rfl | trivial,Nat.zero_le _,zH ⟨rfl,⟨World.ownsRow_nil _ _ _ _,fun x hx=>by simp at hx,by simp⟩,Below.refl _ _⟩⟩
 case round=>
  obtain⟨k,oa,oc,xs,rfl,rfl,hk,HS⟩:=hrel;by_cases hlt:k < m
  ·obtain⟨S,hS⟩ : ∃S,V.hs[k]? = some S:=⟨_,List.getElem?_eq_getElem (by rw[HM.out];exact hlt)⟩;have HSK:=zH hS;have t0:decide ((k:Int)+1<=(m:Int))=true:=by simp;omega
   have E1:=zH (show wrap64 ((k:Int)+1+1)=(k:Int)+1+1 by have:=H8.out;unfold wrap64;omega);clear hS;go_wp2_with fail;refine(WN.out ((k:Int)+1) wr HS.out.2.2).mono ?_;rintro e w2 ⟨hw,b2⟩;unfold Z2X at hw;rw[Z6D HSK.out]at hw;obtain⟨la,un,lc,zs,rfl,hmg,hzs⟩:=hw;obtain rfl:=hmg.len;have b3:Below w2.heap.size w2 (w2.alloc (.cells #[.slice la zs.length lc] 24)):=zB _ _;have S2:=zH (HS.out.2.1.below b2);have X2:=zH (show LL.ok w2 w.heap.size ⟨zs,la,lc⟩from⟨Zx hmg.own HS.out.2.2.size,fun y hy=>Zx (hmg.str y hy) HS.out.2.2.size⟩);have B2:=zH (HS.out.2.2.trans (b2.mono HS.out.2.2.size));have LK:=zH HS.out.1;obtain⟨a',c',V9,hrun,ho,hg⟩:=Z7f (w2.alloc (.cells #[.slice la zs.length lc] 24)) w.heap.size oa xs.length oc _ (Zd S2.out.1 b3) (some ⟨w2.heap.size,0,none⟩) 1 1 _ (ZdO w2 (.slice la zs.length lc)) (by intro u hu;simp at hu;subst hu;rfl) (by have:=LK.out;have:=H8.out;omega) (Nat.le_trans B2.out.size b3.size);have SN:=zH (show xs.length+1=k+1/\QI V9 w.heap.size a' c' (xs ++ [⟨zs,la,lc⟩]) (V.hs.take (k+1))/\Below w.heap.size w V9 from⟨by rw[LK.out],by
    rw[List.take_add_one,HSK.out];exact S2.out.push X2.out hzs b3 ho hg,(B2.out.trans (b3.mono B2.out.size)).grown hg (Nat.le_trans B2.out.size b3.size) (fun j hj=>(S2.out.1.lt j hj).1)⟩)
   clear b2 b3 hmg hzs ho hg;rw[LK.out]at hrun;go_wp2_with (first
    |(at_builtin;refine Ym rfl _ _ _ rfl _ _ _ rfl rfl hrun ?_)
    | fail)
   have e1:=E1.out;go_wp2;go_roundw
   case rel=>exact⟨k+1,a',c',xs ++ [⟨zs,la,lc⟩],by first | rfl | trivial,by first | rfl | go_num,by omega,zH ⟨by rw[List.length_append];exact SN.out.1,SN.out.2⟩⟩
   case measure=>clear e1;rw[E1.out];simp[intOf];omega
  ·have t0:decide ((k:Int)+1<=(m:Int))=false:=by simp;omega
   have hkm:k=m:=by omega
   subst hkm;go_wp2_with fail;go_returns;exact⟨⟨oa,oc,xs,by rw[HM.out];rfl,by have h1:=HS.out.2.1;rwa [List.take_of_length_le (by rw[HM.out];exact Nat.le_refl _)]at h1⟩,HS.out.2.2⟩
structure Z3p (w wr:World)(pF:Nat)(f:Yo)(p:Nat)(F:Nat->Prop)(V:ZO)(m:Nat):Prop where
 bel:Below w.heap.size w wr
 fr:wr.heap[pF]? = some (.cells #[.int .i64 f.rings,.int .i64 f.sectors,.int .i64 f.wide] 23)
 pfl:pF < wr.heap.size
 wld:VO wr p F V
 fge : ∀k,F k->w.heap.size<=k/\k≠pF
 vf:V.f=f
 len:V.hs.length=m
section
variable {w wr W':World}{pF:Nat}{f:Yo}{p:Nat}{F:Nat->Prop}{V V':ZO}{m:Nat}
theorem Z3p.below (h:Z3p w wr pF f p F V m)(hb:Below wr.heap.size wr W'):Z3p w W' pF f p F V m:=
 ⟨h.bel.trans (hb.mono h.bel.size),Z7 hb h.fr,Nat.lt_of_lt_of_le h.pfl hb.size,h.wld.below Zl hb,h.fge,h.vf,h.len⟩
theorem Z3p.step (h:Z3p w wr pF f p F V m)(hf:V'.f=V.f/\V'.hs.length=V.hs.length)(hr:Yr wr p F V' W'): ∃F',Z3p w W' pF f p F' V' m/\Zb F wr W':=by
 obtain⟨F',h1,h2,h3⟩:=hr;refine⟨F',⟨h2.below h.bel h.bel.size (fun k e=>(h.fge k e).1),(h2.block pF h.pfl (fun e=>(h.fge pF e).2 rfl)).trans h.fr,Nat.lt_of_lt_of_le h.pfl h2.size,h1,fun k hk=>?_,hf.1.trans h.vf,hf.2.trans h.len⟩,h2⟩;rcases h3 k hk with e | e
 ·exact h.fge k e
 ·exact⟨Nat.le_trans h.bel.size e,fun e2=>by have:=h.pfl;omega⟩
end
section
variable {W W':World}{base:Nat}{a:zA}{c:Nat}{xs:List LL}{hs:List Zf}
theorem QI.keep {S:Nat->Prop}(h:QI W base a c xs hs)(hS:Zb S W W')(hd : ∀k,S k->k < base):QI W' base a c xs hs:=by
 have hk : ∀{e:TypeId} {k:Nat} {v:Value} {n:Nat} {l:List Value},W.ownsRow base e k v n l->W'.ownsRow base e k v n l:=fun h=>Ze h hS (fun b hb hs=>by
  have h1:=(h.lt b hb).1;have h2:=hd b hs;omega)
 exact⟨hk h.1,fun x hx=>⟨hk (h.2.1 x hx).1,fun y hy=>hk ((h.2.1 x hx).2 y hy)⟩,h.2.2⟩
theorem QI.get (h:QI W base a c xs hs){i:Nat}{S:Zf}(hS:hs[i]? = some S): ∃(x:LL) (g off o:Nat),a=some ⟨g,off,none⟩/\off+i=o /\ ∀W',Below W.heap.size W W'->W'.cell? ⟨g,o,none⟩=some (.slice x.a x.zs.length x.c)/\Qs W' x.a x.zs.length x.c S.l:=by
 have h1:(xs.map LL.l)[i]? = some S.l:=by rw[h.2.2,List.getElem?_map,hS];rfl
 rw[List.getElem?_map]at h1;cases hx:xs[i]? with
 | none=>rw[hx]at h1;cases h1
 | some x=>
  rw[hx]at h1;have h2:x.l=S.l:=Option.some.inj h1;have hl:=(List.getElem?_eq_some_iff.1 hx).1;obtain⟨g,off,e,_⟩:=(Y3.of_own h.1).at (by omega);refine⟨x,g,off,off+i,e,rfl,fun W' hb => ?_⟩;have h4:=h.below hb;obtain⟨g',off',e',hat⟩:=(Y3.of_own h4.1).at (by omega);rw[e]at e';cases e';refine⟨hat i _ (by rw[List.getElem?_map,hx];rfl),?_⟩;have h3:=h4.2.1 x (List.mem_of_getElem? hx);rw[<-h2];exact Z6m (Y3.of_own h3.1) (fun y hy=>Y3.of_own (h3.2 y hy))
end
abbrev ZdX (l:List Z8):Z5h:=((Z2t 99999 l).hs,(Z2t 99999 l).es,csN 99999 l)
theorem Ud.below {base:Nat}{W W':World}{v:Value}{T:Z5h}(h:Ud base W v T)(hb:Below W.heap.size W W'):Ud base W' v T:=by
 obtain⟨ha,hn,hc,ea,en,ec,ca,cn,cc,hs,es,rfl,h1,h2,h3,h4,h5,h6⟩:=h;exact⟨ha,hn,hc,ea,en,ec,ca,cn,cc,hs,es,rfl,Zd h1 hb,Zd h2 hb,Zd h3 hb,fun e he=>Zd (h4 e he) hb,h5,h6⟩
theorem Zcd (f:Yo)(a:zA)(n c:Nat)(l:List Z8)(w:World)(hr:Qs w a n c l)(hok : ∀x∈l,x.Ok)(hs:(Zs f l).1=0):
  Calls zq 34 #[f.val,.slice a n c] w fun e w'=>(∃v,e = .returned (.tuple #[v,.int .i64 0])/\Ud w.heap.size w' v (ZdX l))/\Below w.heap.size w w':=by
 refine(Z7X f a n c l w hr hok).mono ?_;rintro e w' ⟨h,hb⟩;obtain⟨v,R,rfl,⟨ha,hc,ea,ec,ca,cc,rfl,o1,o2,o3,o4⟩,q1,q2,q3,q4⟩:=Z5X (Z3J.ok h hs) (Qk hs).2.2.2;refine⟨⟨_,rfl,ha,_,hc,ea,_,ec,ca,_,cc,R.hs,R.es,rfl,o1,o2,?_,o4,Z0Z q1 (fun e he=>q4 e (List.mem_append_left _ he)),Z0Z q2 (fun e he=>q4 e (List.mem_append_right _ he))⟩,hb⟩;rw[q3]at o3 ⊢;exact o3
structure LA where
 a:Ji
 sa:zA
 sc:Nat
def LA.cells (x:LA):List Value:=x.a.cells x.sa x.sc
def LA.ok (W:World)(x:LA):Prop:=Xs W x.sa x.a.note.strokes.length x.sc x.a.note.strokes
def Z8k (W:World)(a:zA)(n c:Nat)(xs:List LA):Prop:=
 xs.length=n/\n<=c/\c<=maxLen/\(c=0 \/ ∃b off,a=some ⟨b,off,none⟩ /\ ∀i x,xs[i]? = some x->W.rangeAt b (off+i * 25) x.cells/\x.ok W)
theorem Z8k.below {W W':World}{a:zA}{n c:Nat}{xs:List LA}(h:Z8k W a n c xs)(hb:Below W.heap.size W W'):Z8k W' a n c xs:=by
 refine⟨h.1,h.2.1,h.2.2.1,h.2.2.2.imp id ?_⟩;rintro⟨b,off,rfl,h4⟩;exact⟨b,off,rfl,fun i x hx=>⟨Yv (h4 i x hx).1 hb,Xs.below (h4 i x hx).2 hb⟩⟩
theorem Z8k.at {W:World}{a:zA}{n c:Nat}{xs:List LA}(h:Z8k W a n c xs)(h0:0 < n): ∃b off,a=some ⟨b,off,none⟩ /\ ∀i x,xs[i]? = some x->W.rangeAt b (off+i * 25) x.cells/\x.ok W:=by
 rcases h.2.2.2 with h5 | h5
 ·have:=h.2.1;omega
 ·exact h5
def XB (l:List Ji):Nat:=(l.map fun a=>a.note.strokes.length).sum
theorem Z1j {xs:List LA}{k:Nat}{x:LA}(h:xs[k]? = some x):XB ((xs.take (k+1)).map LA.a)=XB ((xs.take k).map LA.a)+x.a.note.strokes.length:=by
 rw[List.take_add_one,h];simp[XB]
theorem Z3e (B:Nat): ∀(xs:List LA),(∀x∈xs,x.a.note.strokes.length<=B)->XB (xs.map LA.a)<=xs.length * B
 | [],_=>by simp[XB]
 | x :: xs,h=>by
  have h1:=Z3e B xs (fun y hy=>h y (List.mem_cons_of_mem _ hy))
  have h2:=h x (List.mem_cons_self ..)
  show x.a.note.strokes.length+XB (xs.map LA.a)<=(xs.length+1) * B
  rw[Nat.add_mul,Nat.one_mul]
  omega
theorem Z59 (xs:List LA)(a:zA)(n c:Nat)(w:World)(h:Z8k w a n c xs)(hn:n<=1000)(hB : ∀x∈xs,x.a.note.strokes.length<=17592186044416):
  Calls zq 27 #[.slice a n c] w fun e w'=>e = .returned (.bool (decide (XB (xs.map LA.a)<=600)))/\w'=w:=by
 have J25:(zq.info? 67).map (·.size)=some 25:=by kernel_rfl
 have H:=zH h;have HN:=zH hn;have HB:=zH hB;obtain⟨S,hS⟩:=zX (XB (xs.map LA.a));rw[hS.out];clear h hn hB;go_enter Tryz.func27,Tryz.ntmps27;go_wp2_with fail;go_loopw [3,4] (fun s i wr=>∃(k m:Nat),s = .int .i64 (m:Int)/\i = .int .i64 (k:Int)/\k<=n/\wr=w/\Hid (m=XB ((xs.take k).map LA.a))) (fun _ i _=>n - (intOf i).toNat)
 case atStart=>exact⟨0,0,by first | rfl | trivial,by first | rfl | trivial,by omega,by first | rfl | trivial,zH rfl⟩
 case round=>
  obtain⟨k,m,rfl,rfl,hk,rfl,HM⟩:=hrel;by_cases hlt:k < n
  ·have t0:decide ((k:Int) < (n:Int))=true:=by simp;omega
   obtain⟨x,hx⟩ : ∃x,xs[k]? = some x:=⟨_,List.getElem?_eq_getElem (by rw[H.out.1];exact hlt)⟩;have HX:=zH hx;obtain⟨b,off,rfl,hat⟩:=H.out.at (by omega);obtain⟨o,ho⟩:=zX (off+k * 25);have hr:=(hat k x hx).1;rw[ho.out]at hr;have c0:wr.cell? ⟨b,o+4+15,none⟩=some (.slice x.sa x.a.note.strokes.length x.sc):=by
    rw[Nat.add_assoc];exact hr 19 _ rfl
   have hix:=fun W=>Yi (W:=W) (c:=c) (b:=b) Tryz.underlying61 J25 hlt ho.out;have LB:Hid (x.a.note.strokes.length<=17592186044416/\m<=1000 * 17592186044416):=zH (by
    refine⟨HB.out x (List.mem_of_getElem? hx),?_⟩;have h1:=Z3e 17592186044416 (xs.take k) (fun y hy=>HB.out y (List.mem_of_mem_take hy));rw[<-HM.out]at h1;refine Nat.le_trans h1 (Nat.mul_le_mul_right _ ?_);rw[List.length_take];have:=HN.out;omega)
   have E1:=zH (show wrap64 ((k:Int)+1)=(k:Int)+1 by have:=HN.out;unfold wrap64;omega);have e2:wrap64 ((m:Int)+(x.a.note.strokes.length:Int))=((m+x.a.note.strokes.length:Nat):Int):=by have:=LB.out;unfold wrap64;omega
   have HM2:Hid (m+x.a.note.strokes.length=XB ((xs.take (k+1)).map LA.a)):=zH (by rw[Z1j HX.out,HM.out]);have e1:=E1.out;generalize x.a.note.strokes.length=sl at *;clear hat hx hr;go_wp2;go_roundw
   case rel=>exact⟨k+1,m+sl,by first | rfl | go_num,by go_num,by omega,by first | rfl | trivial,HM2⟩
   case measure=>clear e1;rw[E1.out];simp[intOf];omega
  ·have t0:decide ((k:Int) < (n:Int))=false:=by simp;omega
   have HE:Hid (m=S):=zH (by rw[HM.out,List.take_of_length_le (by rw[H.out.1];omega)];exact hS.out);have t1:decide ((m:Int)<=600)=decide (S<=600):=by rw[HE.out,decide_eq_decide];omega
   go_wp2;go_ret;exact⟨by rw[<-t1];rfl,rfl⟩
open Go.ChangeShapes Go.WideShapes Go.ChangeAt Go.RowKit
theorem Tryz.bytes3:zq.bytesOf 3=8:=by kernel_rfl
theorem Z0p {H:Type}{P:Program}{e:TypeId}: ∀{ds:List (DataW H)} {d:DataW H},d∈ds -> ∀n∈d.weights P e,n∈DataW.weightsAll P e ds
 | [],_,h,_,_=>by cases h
 | d0 :: ds,d,h,n,hn=>by
  simp only[DataW.weightsAll,List.mem_append]
  rcases List.mem_cons.1 h with rfl | h
  ·exact .inl hn
  ·exact .inr (Z0p h n hn)
section
variable {H:Type}{enc:TypeId×Value->H}{W:World}
def Z0k (t:TypeId)(d:DataW H):Prop := ∀q∈d.weights zq t,q<=reachBytes
theorem Z9M {ts:List TypeId}{ds:List (DataW H)}(h:(DataW.weightsEach zq ts ds).all (· <= reachBytes)=true){j:Nat}{t:TypeId}{d:DataW H}(ht:ts[j]? = some t)(hd:ds[j]? = some d):Z0k t d:=fun q hq=>by
 have:=List.all_eq_true.1 h _ (DataW.weights_mem_each ht hd q hq)
 simpa using this
theorem Z9L {fuel:Nat}{y:DataW H×List MemPlace}{a:zA}{n c:Nat}(h:DataW.trod enc zq W 0 (fun _=>true) true fuel 37 [.slice a n c]=some y)(hs:Z0k 37 y.1):n<=17592186044416:=by
 rcases DataW.trod_slice Tryz.underlying37 h with ⟨hcs,hx⟩ | ⟨a1,len',cap',elems,rest,m,_,hcs,hx,hb,hl,hm,hlen,hel,hsp,hns⟩
 ·simp at hcs;omega
 ·simp at hcs;obtain⟨rfl,rfl,rfl⟩:=hcs;subst hx;have h1:=hs ((elems.length+rest.length) * zq.bytesOf 3) (by simp[DataW.weights,Tryz.underlying37]);rw[Tryz.bytes3,show reachBytes=140737488351232 by decide]at h1;omega
theorem Z6U {fuel:Nat}{y:DataW H×List MemPlace}{n:Z8}{sa:zA}{sc:Nat}(h:DataW.trod enc zq W 0 (fun _=>true) true fuel 47 (n.cells sa sc)=some y)(hs:Z0k 47 y.1):n.strokes.length<=17592186044416:=by
 obtain⟨xs,m,_,hx,hl,hlen,hf⟩:=DataW.trod_struct Tryz.underlying47 h;obtain⟨y13,e13⟩:=Yc hlen (i:=13) (by decide);have g13:DataW.trod enc zq W 0 (fun _=>true) true m 37 (((n.cells sa sc).drop 15).take (zq.cellsOf 37))=some y13:=(hf 13 _ rfl).trans e13;rw[Tryz.cells37]at g13;refine Z9L (y:=y13) g13 fun q hq=>hs q ?_;rw[hx];simp only[DataW.weights,Tryz.underlying47];exact DataW.weights_mem_each (j:=13) (t:=37) rfl (by simp[List.getElem?_map,e13]) q hq
theorem Z8I {fuel:Nat}{cs:List Value}{y:DataW H×List MemPlace}{t e:TypeId}{k:Nat}(ht:zq.underlying t=some (.slice e))(hc:zq.cellsOf e=k)(hk:0 < k)
  (h:DataW.trod enc zq W 0 (fun _=>true) true fuel t cs=some y) (hs:Z0k t y.1):
  ∃a n c,cs=[.slice a n c]/\n<=c/\c<=maxLen/\(c=0 \/ ∃b off,a=some ⟨b,off,none⟩ /\ ∀i,i < n -> ∃es m z,DataW.trod enc zq W 0 (fun _=>true) true m e es=some z/\W.rangeAt b (off+i * k) es/\Z0k e z.1):=by
 rcases DataW.trod_slice ht h with ⟨hcs,hx⟩ | ⟨a,len',cap',elems,rest,m,_,hcs,hx,hb,hl,hm,hlen,hel,hsp,hns⟩
 ·exact⟨none,0,0,hcs,Nat.le_refl _,Nat.zero_le _,.inl rfl⟩
 ·rw[hc]at hel hsp;refine⟨some a,len',cap',hcs,hl,hm,?_⟩;rcases Nat.eq_zero_or_pos cap' with h0 | h0
  ·exact .inl h0
  ·have hspot:a.spot=none:=by
    rcases Nat.eq_zero_or_pos len' with h1 | h1
    ·obtain⟨h2,h3⟩:=hsp rfl;have h4:=h3 0 (by omega);rw[List.getElem?_eq_getElem (by omega)]at h4;cases hq:W.cells? 0 (a.add ((len'+0) * k)) k with
     | none=>rw[hq]at h4;cases h4
     | some cs=>rw[show(len'+0) * k=0 by rw[h1];simp]at hq;have:=Z4J hk hq;simpa [Addr.add] using this
    ·have h4:=hel 0 h1;rw[List.getElem?_eq_getElem (by omega)]at h4;cases hq:W.cells? 0 (a.add (0 * k)) k with
     | none=>rw[hq]at h4;cases h4
     | some cs=>rw[Nat.zero_mul]at hq;have:=Z4J hk hq;simpa [Addr.add] using this
   obtain⟨ab,ao,spot⟩:=a;simp only at hspot;subst hspot;refine .inr ⟨ab,ao,rfl,fun i hi=>?_⟩;have h1:=hel i hi;rw[List.getElem?_eq_getElem (by omega)]at h1;cases hcs:W.cells? 0 ((⟨ab,ao,none⟩:Addr).add (i * k)) k with
   | none=>rw[hcs]at h1;cases h1
   | some es=>
    rw[hcs]at h1;have h2:=World.cells?_some hcs;refine⟨es,m,_,h1,fun j v hv=>?_,fun q hq=>hs q ?_⟩
    ·have hj:j < es.length:=(List.getElem?_eq_some_iff.1 hv).1;have h3:=h2.2.2 j (by have:=h2.1;omega);rw[hv]at h3;simpa [Addr.add_lit] using h3
    ·rw[hx];simp only[DataW.weights,ht,List.mem_cons,List.mem_append];refine .inr (.inl (Z0p ?_ q hq));exact List.mem_map_of_mem (List.getElem_mem _)
end
theorem Tryz.cells67:zq.cellsOf 67=25:=by kernel_rfl
structure LA.Good (W:World)(x:LA):Prop where
 ok:x.ok W
 nok:x.a.note.Ok
 len:x.a.note.strokes.length<=17592186044416
 kind:J6 x.a.kind
 house:J6 x.a.house
section
variable {H:Type}{enc:TypeId×Value->H}{W:World}
theorem Zaa {fuel:Nat}{cs:List Value}{y:DataW H×List MemPlace}(h:DataW.trod enc zq W 0 (fun _=>true) true fuel 67 cs=some y)(hs:Z0k 67 y.1): ∃x:LA,cs=x.cells/\x.Good W:=by
 obtain⟨xs,m,_,hyx,hl,hlen,hf⟩:=DataW.trod_struct Tryz.underlying67 h;rw[Tryz.cells67]at hl
 match cs,hl with
 | [c0,c1,c2,c3,c4,c5,c6,c7,c8,c9,c10,c11,c12,c13,c14,c15,c16,c17,c18,c19,c20,c21,c22,c23,c24],_=>
  obtain⟨y0,e0⟩:=Yc hlen (i:=0) (by decide);have HG:=fun(K T:Nat) {y} (h:DataW.trod enc zq W 0 (fun _=>true) true m T (([c0,c1,c2,c3,c4,c5,c6,c7,c8,c9,c10,c11,c12,c13,c14,c15,c16,c17,c18,c19,c20,c21,c22,c23,c24].drop K).take (zq.cellsOf T))=some y)=>h;have g0:=HG 0 3 ((hf 0 _ rfl).trans e0);rw[Tryz.cells3]at g0;obtain⟨x0,a0,_,b0⟩:=DataW.trod_int Tryz.underlying3 g0;simp at a0;obtain⟨y1,e1⟩:=Yc hlen (i:=1) (by decide);have g1:=HG 1 3 ((hf 1 _ rfl).trans e1);rw[Tryz.cells3]at g1;obtain⟨x1,a1,_,b1⟩:=DataW.trod_int Tryz.underlying3 g1;simp at a1;obtain⟨y2,e2⟩:=Yc hlen (i:=2) (by decide);have g2:=HG 2 3 ((hf 2 _ rfl).trans e2);rw[Tryz.cells3]at g2;obtain⟨x2,a2,_,b2⟩:=DataW.trod_int Tryz.underlying3 g2;simp at a2;obtain⟨y3,e3⟩:=Yc hlen (i:=3) (by decide);have g3:=HG 3 3 ((hf 3 _ rfl).trans e3);rw[Tryz.cells3]at g3;obtain⟨x3,a3,_,b3⟩:=DataW.trod_int Tryz.underlying3 g3;simp at a3;obtain⟨y5,e5⟩:=Yc hlen (i:=5) (by decide);have g5:=HG 23 3 ((hf 5 _ rfl).trans e5);rw[Tryz.cells3]at g5;obtain⟨x5,a5,_,b5⟩:=DataW.trod_int Tryz.underlying3 g5;simp at a5;obtain⟨y6,e6⟩:=Yc hlen (i:=6) (by decide);have g6:=HG 24 3 ((hf 6 _ rfl).trans e6);rw[Tryz.cells3]at g6;obtain⟨x6,a6,_,b6⟩:=DataW.trod_int Tryz.underlying3 g6;simp at a6;obtain⟨y4,e4⟩:=Yc hlen (i:=4) (by decide);have g4:=HG 4 47 ((hf 4 _ rfl).trans e4);rw[Tryz.cells47]at g4;have w4:Z0k 47 y4.1:=fun q hq=>hs q (by
   rw[hyx];simp only[DataW.weights,Tryz.underlying67];exact DataW.weights_mem_each (j:=4) (t:=47) rfl (by simp[List.getElem?_map,e4]) q hq)
  have g4b:=g4;obtain⟨nv,na,nc,a4,r4,o4⟩:=Z8J g4;rw[a4]at g4b;have l4:=Z6U g4b w4;simp only[Z8.cells]at a4;simp at a4;clear hs hyx hf h;obtain⟨rfl,rfl,rfl,rfl,rfl,rfl,rfl,rfl,rfl,rfl,rfl,rfl,rfl,rfl,rfl,rfl,rfl,rfl,rfl⟩:=a4;subst a0 a1 a2 a3 a5 a6;exact⟨⟨⟨x0,x1,x2,x3,nv,x5,x6⟩,na,nc⟩,rfl,⟨r4,o4,l4,Z8R b0,Z8R b1⟩⟩
theorem Za9 {base:Nat}{v:Value}{d:DataW H}{p:List MemPlace}(hval:Value.okWide zq W .any base 61 v)
  (h:DataW.Trod enc zq W 0 (fun _=>true) true 61 v d p) (hs:Z0k 61 d) : ∃a n c l,v = .slice a n c/\Z8k W a n c l /\ ∀x∈l,x.Good W:=by
 obtain⟨a1,n1,c1,rfl⟩:=okWide_slice Tryz.underlying61 hval;obtain⟨fuel,hf⟩:=h;obtain⟨a,n,c,h0,h1,h2,h3⟩:=Z8I Tryz.underlying61 Tryz.cells67 (by decide) hf hs;simp[Value.cells]at h0;obtain⟨rfl,rfl,rfl⟩:=h0;rcases h3 with h3 | ⟨b,off,rfl,h3⟩
 ·exact⟨_,_,_,[],rfl,⟨by simp;omega,h1,h2,.inl h3⟩,fun x hx=>by cases hx⟩
 ·obtain⟨l,h4,h5⟩:=Z89 (P:=fun i (x:LA)=>W.rangeAt b (off+i * 25) x.cells/\x.Good W) (fun i hi=>by
   obtain⟨es,m,z,h6,h7,h8⟩:=h3 i hi;obtain⟨o,rfl,ho⟩:=Zaa h6 h8;exact⟨o,h7,ho⟩)
  refine⟨_,_,_,l,rfl,⟨h4,h1,h2,.inr ⟨b,off,rfl,fun i x hx=>⟨(h5 i x hx).1,(h5 i x hx).2.ok⟩⟩⟩,fun x hx=>?_⟩;obtain⟨i,hi⟩:=List.getElem?_of_mem hx;exact(h5 i x hi).2
end
theorem Z2r (V:ZO)(h:Int)(S:Zf):(JZ V h S).f=V.f/\(JZ V h S).hs.length=V.hs.length:=⟨rfl,by unfold JZ;simp⟩
section
variable {V:ZO}{ss:List Nat}{T:Nat}
theorem ZcJ (W:ZO)(m:MlV):(JR W m).1.f=W.f/\(JR W m).1.hs.length=W.hs.length:=by
 unfold JR;cases e:YA W m.to with
 | none=>exact⟨rfl,rfl⟩
 | some S=>
  dsimp only;cases hc:m.cont with
  | gift l=>exact Z2r _ _ _
  | ask c=>
   dsimp only;split
   ·exact Z2r _ _ _
   ·exact Z2r W m.to S.sync
theorem ZdH (V:ZO)(a:Ji):(Jj V a).1.f=V.f/\(Jj V a).1.hs.length=V.hs.length:=by
 unfold Jj;split
 ·unfold VU;cases YA V a.house <;> first | exact⟨rfl,rfl⟩ | exact Z2r _ _ _
 split
 ·unfold Vg;cases YA V a.house <;> first | exact⟨rfl,rfl⟩ | exact Z2r _ _ _
 split
 ·unfold Ja;cases YA V a.house with
  | none=>exact⟨rfl,rfl⟩
  | some S=>
   dsimp only;split
   ·exact⟨rfl,rfl⟩
   ·split <;> exact⟨rfl,rfl⟩
 split
 ·unfold Xk;cases Uj V a.idx with
  | none=>exact⟨rfl,rfl⟩
  | some m=>exact ZcJ (XT V a.idx) m
 split
 ·unfold Qu;cases Uj V a.idx <;> exact⟨rfl,rfl⟩
 split
 ·unfold XQ;cases Uj V a.idx with
  | none=>exact⟨rfl,rfl⟩
  | some m=>
   dsimp only;split <;> exact⟨rfl,rfl⟩
 split
 ·unfold Jq;cases YA V a.house <;> first | exact⟨rfl,rfl⟩ | exact Z2r _ _ _
 ·exact⟨rfl,rfl⟩
end
end Go.Proofs.YtlnhppgfhkkidaaGreat
