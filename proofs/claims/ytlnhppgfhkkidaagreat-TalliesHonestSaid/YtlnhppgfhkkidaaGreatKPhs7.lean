/- Parts of the proof, in order. -/
import Derived.Deep.RegionLaw
import Derived.Test.YtlnhppgfhkkidaaGreatRows
import Derived.ProofKit
import Derived.OpenShut
import Derived.Deep.Strs
import Derived.Lib.SliceRun
import Derived.OrdersHeld
import Derived.StillTail
import Derived.Deep.RegionHeld3
import Derived.WalkKit
import Derived.Test.YtlnhppgfhkkidaaGreatKPhs6
set_option linter.unusedSimpArgs false
set_option linter.unusedVariables false
set_option maxHeartbeats 32000000
set_option maxRecDepth 100000
namespace Go.Proofs.YtlnhppgfhkkidaaGreat
open Go.Proofs.Tryz renaming prog → zq
open Go.RowKit
def Z8M (f:Yg)(id:Int)(w:World)(e:Ending)(W:World):Prop:=
 (¬(f.valid=true/\1<=id/\id<=8)/\e = .returned (.tuple #[.pointer none,.int .i64 1])) \/
 (f.valid=true/\(1<=id/\id<=8) /\ ∃p mb sp,e = .returned (.tuple #[.pointer (some ⟨p,0,none⟩),.int .i64 0])/\Yp W p mb sp (fun _=>none) (fun k=>k=sp) (Zj.new f id) /\ ∀k,Yw p mb (fun _=>none) (fun k=>k=sp) k->w.heap.size<=k)
theorem Z0O (f:Yg)(id:Int)(w:World)(hid:1<=id/\id<=8):
  Calls zq 12 #[f.val,.int .i64 id] w fun e w'=>Z8M f id w e w'/\Below w.heap.size w w':=by
 have VF:=zH (fun W=>QZ f.rings f.sectors f.wide W);have hvl:f.val = .agg #[.int .i64 f.rings,.int .i64 f.sectors,.int .i64 f.wide]:=rfl;have HID:=zH (show 1<=id/\id<=8 by omega);rw[hvl];clear hvl;have B0:=zH (zB w (zF f 23));have F0:=zH (Za w (zF f 23));have q1:decide (id < 1)=false:=by simp;omega
 have q2:decide (8 < id)=false:=by simp;omega
 clear hid;go_enter Tryz.func12,Tryz.ntmps12;go_upto_region 1 with fail;obtain⟨p2,hp2⟩:=zX (w.heap.size);rw[hp2.out]at F0;rw[hp2.out];generalize w.alloc (zF f 23)=w0 at *;have c0:=Z6 F0.out 0 (.int .i64 f.rings) rfl;have c1:=Z6 F0.out 1 (.int .i64 f.sectors) rfl;have c2:=Z6 F0.out 2 (.int .i64 f.wide) rfl;go_wp2_with fail;refine(VF.out w0).mono ?_;rintro e w1 ⟨rfl,b1⟩;have B1:=zH (B0.out.trans (b1.mono B0.out.size));have F1:=zH (Z7 b1 F0.out);clear b1 c0 c1 c2 q1 q2;cases hv:Yg.valid ⟨f.rings,f.sectors,f.wide⟩
 ·have HV:Hid (¬(f.valid=true/\1<=id/\id<=8)):=zH (fun h=>by
   have h1:Yg.valid ⟨f.rings,f.sectors,f.wide⟩=true:=h.1;rw[hv]at h1;cases h1)
  clear hv;go_wp2_with fail;go_returns;exact⟨.inl ⟨HV.out,rfl⟩,B1.out⟩
 have HV:Hid (f.valid=true):=zH hv;clear hv;have hmm := @run_makeMap zq;go_upto_region 3 with fail;apply Zen (P:=fun mb sp p W=>Hid (Below w1.heap.size w1 W/\Yp W p mb sp (fun _=>none) (fun k=>k=sp) (Zj.new f id)/\w.heap.size<=mb/\w.heap.size<=sp/\w.heap.size<=p))
 ·intro REST;refine zb fun hh=>?_;have HB0:=zH (show Below w1.heap.size w1 w1.drew from(Below.refl _ _).drew);generalize w1.drew=V0 at *;refine zT 0 rfl (.agg #[.int .i64 f.rings,.int .i64 f.sectors,.int .i64 f.wide]) (ZR (by kernel_rfl) 23 _ rfl p2 rfl _ 23 (0,0) _ (fun W h=>Z7 h F1.out) Tryz.underlying23 rfl (by kernel_rfl)) ?_;refine zW 1 rfl (.int .i64 id) ?_;refine zM [2,3] rfl (fun K hK=>?_) ?_
  focus
   have bz:Below V0.heap.size V0 (V0.alloc (.map #[] 0)):=zB _ _;have HB1:=zH (HB0.out.trans (bz.mono HB0.out.size));have HM1:=zH (Yd.made (enc:=LN.val) V0);have KGE:Hid (w.heap.size<=V0.heap.size):=zH (Nat.le_trans B1.out.size HB0.out.size);clear bz;go_simp;obtain⟨mb,hmb⟩:=zX (V0.heap.size);rw[hmb.out]at HM1 KGE;rw[hmb.out];generalize V0.alloc (.map #[] 0)=V1 at *;refine zK hK HB1.out fun hh=>?_;clear hK K;refine zR 3 rfl fun K hK=>?_;go_simp;go_at_call 48;refine(UT V1).mono ?_;rintro e V2 ⟨rfl,hk,b1⟩;have SGE:Hid (w.heap.size<=V1.heap.size):=zH (Nat.le_trans B1.out.size HB1.out.size);obtain⟨sp,hsp⟩:=zX (V1.heap.size);have HB2:=zH (HB1.out.trans (b1.mono HB1.out.size));have HM2:=zH (HM1.out.below b1);clear b1;rw[hsp.out]at hk SGE;rw[hsp.out];have HK2:=zH hk;clear hk;dsimp only
  rotate_left
  focus
   refine zn fun K hK=>?_;go_simp;go_at_call 48;refine(UT V0).mono ?_;rintro e V1 ⟨rfl,hk,b1⟩;have SGE:Hid (w.heap.size<=V0.heap.size):=zH (Nat.le_trans B1.out.size HB0.out.size);obtain⟨sp,hsp⟩:=zX (V0.heap.size);have HB1:=zH (HB0.out.trans (b1.mono HB0.out.size));clear b1;rw[hsp.out]at hk SGE;rw[hsp.out];have HK1:=zH hk;clear hk;dsimp only;refine zK hK HB1.out fun hh=>?_;clear hK K;refine zR 2 rfl fun K hK=>?_;have bz:Below V1.heap.size V1 (V1.alloc (.map #[] 0)):=zB _ _;have HB2:=zH (HB1.out.trans (bz.mono HB1.out.size));have HM2:=zH (Yd.made (enc:=LN.val) V1);have KGE:Hid (w.heap.size<=V1.heap.size):=zH (Nat.le_trans B1.out.size HB1.out.size);have HK2:=zH (HK1.out.same (S:=fun _=>False) (Zb.of_below bz) (fun _ h=>h.elim));clear bz;go_simp;obtain⟨mb,hmb⟩:=zX (V1.heap.size);rw[hmb.out]at HM2 KGE;rw[hmb.out];generalize V1.alloc (.map #[] 0)=V2 at *
  all_goals
   refine zK hK HB2.out fun hh=>?_;clear hK K;refine zS 4 rfl (.agg (Xy f id mb (fun _=>0) sp)) (fun W _=>by kernel_rfl) ?_;refine zR 5 rfl fun K hK=>?_;have bz:Below V2.heap.size V2 (V2.alloc (.cells (Xy f id mb (fun _=>0) sp) 109)):=zB _ _;have HB3:=zH (HB2.out.trans (bz.mono HB2.out.size));have HM3:=zH (HM2.out.below bz);have HK3:=zH (HK2.out.same (S:=fun _=>False) (Zb.of_below bz) (fun _ h=>h.elim));have HP3:=zH (Za V2 (.cells (Xy f id mb (fun _=>0) sp) 109));have PGE:Hid (w.heap.size<=V2.heap.size):=zH (Nat.le_trans B1.out.size HB2.out.size);clear bz;go_simp;obtain⟨p,hp⟩:=zX (V2.heap.size);rw[hp.out]at HP3 PGE;rw[hp.out];generalize V2.alloc (.cells (Xy f id mb (fun _=>0) sp) 109)=V3 at *;refine zK hK HB3.out fun hh=>?_;clear hK K;refine zw 6 rfl p 0 ?_;refine zW 7 rfl (.int .i64 0) ?_;refine zE ?_;exact REST mb sp p V3 (zH ⟨HB3.out,⟨HP3.out,HM3.out,(fun k x h=>by cases h),(fun n h=>by cases h),(fun k x h=>by cases h),HK3.out⟩,KGE.out,SGE.out,PGE.out⟩)
 intro mb sp p W QQ;go_wp2_with fail;go_returns;exact⟨.inr ⟨HV.out,HID.out,p,mb,sp,rfl,QQ.out.2.1,fun k hk=>by
  have hp:=QQ.out.2.2;rcases hk with h | h | h | ⟨a,x,h,_⟩
  ·omega
  ·omega
  ·have h2:k=sp:=h;omega
  ·cases h⟩,B1.out.trans (QQ.out.1.mono B1.out.size)⟩
theorem Z4x (f:Yg)(id:Int)(w:World)(hid : ¬(1<=id/\id<=8)):
  Calls zq 12 #[f.val,.int .i64 id] w fun e w'=>e = .returned (.tuple #[.pointer none,.int .i64 1])/\Below w.heap.size w w':=by
 have hvl:f.val = .agg #[.int .i64 f.rings,.int .i64 f.sectors,.int .i64 f.wide]:=rfl;rw[hvl];clear hvl;have B0:=zH (zB w (zF f 23));by_cases h1:id < 1
 focus
  have q1:decide (id < 1)=true:=by simp[h1]
 rotate_left
 focus
  have q1:decide (id < 1)=false:=by simp;omega
  have q2:decide (8 < id)=true:=by simp;omega
 all_goals
  clear h1 hid;go_enter Tryz.func12,Tryz.ntmps12;go_wp2_with fail;go_returns;exact⟨rfl,B0.out⟩
theorem Z4w (f:Yg)(id:Int)(w:World):Calls zq 12 #[f.val,.int .i64 id] w fun e w'=>Z8M f id w e w'/\Below w.heap.size w w':=by
 by_cases hid:1<=id/\id<=8
 ·exact Z0O f id w hid
 ·refine(Z4x f id w hid).mono fun e w' h=>⟨.inl ⟨fun h2=>hid h2.2,h.1⟩,h.2⟩
theorem Q7 (p mb sp:Nat)(G:Nm->Option LN)(SF:Nat->Prop)(S:Zj)(w:World)(hh:Yp w p mb sp G SF S):
  Calls zq 20 #[.pointer (some ⟨p,0,none⟩)] w fun e w'=>e = .returned (.tuple #[])/\Yp w' p mb sp G SF S.sync/\Zb (fun k=>k=sp) w w':=by
 have HH:=zH hh;have DIS:=zH hh.dis;have SP:=zH hh.stk.self;have c14:=Z6 hh.blk 14 (.pointer (some ⟨sp,0,none⟩)) rfl;have MD:=zH (VG w p mb sp S.f S.id S.c hh.blk);have SY:=zH (Z3f w sp SF S.sb S.fb S.sd S.fd hh.stk);clear hh;go_enter Tryz.func20,Tryz.ntmps20;go_wp2_with fail;refine MD.out.mono ?_;rintro e w1 ⟨rfl,rfl⟩;go_wp2_with fail;refine SY.out.mono ?_;rintro e w2 ⟨rfl,hk,hs⟩;have K:=zH hk;have HS:=zH hs;clear hk hs c14;go_wp2;go_end0;have hne : ∀k,SF k->k≠p/\k≠mb:=fun k hk=>⟨fun e=>DIS.out.ps (e ▸ hk),fun e=>DIS.out.ms (e ▸ hk)⟩;exact⟨rfl,⟨(HS.out.block p (Zi HH.out.blk) (fun e=>(hne sp SP.out).1 e.symm)).trans HH.out.blk,HH.out.map.of_block (HS.out.block mb HH.out.map.lt (fun e=>(hne sp SP.out).2 e.symm)),HH.out.gs,HH.out.gl,
  fun k x hk=>Ze (HH.out.str k x hk) HS.out (fun b hb e=>(DIS.out.st k x hk b hb).2.2 (by rw[show b=sp from e];exact SP.out)),K.out⟩,HS.out⟩
theorem Z1Q {z:Int}(h:Yb z):XU z:=by
 unfold Yb far at h;unfold XU;omega
theorem Zaz {n:Z8}(h:VQ n):n.Ok:=by
 obtain⟨h1,h2,h3,_⟩:=h;have a : ∀z∈ZA n,XU z:=fun z hz=>Z1Q (h1 z hz);have b : ∀z∈Zu n,XU z:=fun z hz=>Z1Q (h3 z hz);simp only[ZA,Zu,List.mem_cons,List.not_mem_nil,or_false]at a b;refine⟨a _ ?_,a _ ?_,a _ ?_,a _ ?_,a _ ?_,a _ ?_,a _ ?_,a _ ?_,a _ ?_,a _ ?_,a _ ?_,a _ ?_,a _ ?_,a _ ?_,a _ ?_,b _ ?_,b _ ?_,b _ ?_,fun z hz=>Z1Q (h2 z hz)⟩ <;> simp
theorem Z53: ∀(k:Nat) (st fo:zU),(UB k st fo).length<=k /\ ∀x∈UB k st fo,x.length<=8192
 | 0,_,_=>⟨Nat.le_refl _,fun x h=>by simp[UB]at h⟩
 | k+1,st,fo=>by
  unfold UB
  split
  ·rename_i h
   obtain⟨h1,h2⟩:=Z53 k (st.drop (Qr st 0+2)) (fo.drop 4)
   refine⟨by rw[List.length_cons];omega,fun x hx=>?_⟩
   rcases List.mem_cons.1 hx with rfl | hx
   ·rw[List.length_take];have:=h.2.2.1;omega
   ·exact h2 x hx
  ·exact⟨Nat.zero_le _,fun x h=>by simp at h⟩
theorem Zd2 (S:Zj)(l:List Z8):(Ym S l).1.f=S.f:=by
 unfold Ym;split
 ·rfl
 ·split
  ·rfl
  ·exact Z2q _ _
theorem Z9J {A:Zj}{n:Z8}(h : ¬((Ym A [n]).2.2=0/\(Ym A [n]).2.1=1)):(Ym A [n]).1=A:=by
 cases hb:[n].any (fun n=>!decide (ZZ A.f n=0))with
 | true=>rw[Z0y hb]
 | false=>
  cases hg:YI A.l [] A.c [n]with
  | none=>rw[UY hb hg]
  | some r=>
   obtain⟨fr,c'⟩:=r;rw[Z0b hb hg]at h ⊢;have h2:fr=[]:=by
    rw[YI]at hg;split at hg
    ·split at hg
     ·simp[YI]at hg;exact hg.1
     ·cases hg
    ·split at hg
     ·simp[YI]at hg;exact hg.1
     ·simp[YI]at hg;obtain⟨rfl,_⟩:=hg;exact absurd ⟨rfl,rfl⟩ h
   rw[h2];rfl
theorem Zbq {α:Type}{l:List α}{i:Nat}{x:α}(h:l[i]? = some x):l.drop i=x :: l.drop (i+1):=by
 obtain⟨h1,h2⟩:=List.getElem?_eq_some_iff.1 h;rw[List.drop_eq_getElem_cons h1,h2]
theorem Z1T (W:World)(p:Nat)(c:ZW):Zb (fun k=>k=p) W (W.setRow p c):=Zb.of_grown (Yz W p c) (fun k e=>by cases e;rfl)
def Zed (w:World)(p mb:Nat)(G:Nm->Option LN)(SF:Nat->Prop)(S:Zj)(stock foil flip:Int)(e:Ending)(W:World):Prop:=
 ∃S' code,CrP S stock foil flip S' code/\Xt S'/\e = .returned (.int .i64 code) /\ ∃mb' sp' G' SF',Yp W p mb' sp' G' SF' S'/\Zb (Yw p mb G SF) w W /\ ∀k,Yw p mb' G' SF' k->Yw p mb G SF k\/w.heap.size<=k
structure Z7p (w W3 W:World)(p p2 mb2 sp2:Nat)(SF:Nat->Prop)(S:Zj)(mb sp:Nat)(G2:Nm->Option LN)(SF2:Nat->Prop)(A:Zj)(bs:List (zU))(i:Nat):Prop where
 hou:Yp W p2 mb2 sp2 G2 SF2 A
 inv:Xt A
 f:A.f=S.f
 rcv:Vh (Zj.new S.f S.id) bs=Vh A (bs.drop i)
 len:A.l.length<=i
 same:Zb (fun k=>k=p2\/k=mb2\/k=sp2\/W3.heap.size<=k) W3 W
 foot : ∀k,Yw p2 mb2 G2 SF2 k->k=p2\/k=mb2\/k=sp2\/W3.heap.size<=k
 blk:W.heap[p]? = some (.cells (Xy S.f S.id mb S.c sp) 109)
 np:p≠p2/\p≠mb2/\p≠sp2/\p < W3.heap.size
section
variable {w W3 W W':World}{p p2 mb2 sp2:Nat}{SF:Nat->Prop}{S:Zj}{mb sp:Nat}{G2 G3:Nm->Option LN}{SF2 SF3:Nat->Prop}{A A':Zj}{bs:List (zU)}{i j:Nat}
theorem Z7p.below (h:Z7p w W3 W p p2 mb2 sp2 SF S mb sp G2 SF2 A bs i)(hb:Below W.heap.size W W'):Z7p w W3 W' p p2 mb2 sp2 SF S mb sp G2 SF2 A bs i:=
 ⟨h.hou.below hb,h.inv,h.f,h.rcv,h.len,h.same.trans (Zb.of_below hb),h.foot,Z7 hb h.blk,h.np⟩
theorem Z7p.step (h:Z7p w W3 W p p2 mb2 sp2 SF S mb sp G2 SF2 A bs i)(hh:Yp W' p2 mb2 sp2 G3 SF3 A')(hi:Xt A')(hf:A'.f=S.f)(hr:Vh (Zj.new S.f S.id) bs=Vh A' (bs.drop j))(hl:A'.l.length<=j)
  (hs:Zb (Yw p2 mb2 G2 SF2) W W') (hn : ∀k,Yw p2 mb2 G3 SF3 k->Yw p2 mb2 G2 SF2 k\/W.heap.size<=k):Z7p w W3 W' p p2 mb2 sp2 SF S mb sp G3 SF3 A' bs j:=
 ⟨hh,hi,hf,hr,hl,h.same.trans (hs.weaken h.foot),fun k hk=>(hn k hk).elim (h.foot k) (fun h2=>.inr (.inr (.inr (Nat.le_trans h.same.size h2)))),
  (hs.block p (Zi h.blk) (fun hk=>by rcases h.foot p hk with h2 | h2 | h2 | h2 <;> have:=h.np <;> omega)).trans h.blk,h.np⟩
end
theorem Z3X (f:Yg)(id:Int)(mb:Nat)(c:Int->Nat)(sp:Nat):(Xy f id mb c sp).all (·.oneCell')=true:=by simp[Xy,Value.oneCell']
theorem Z84 (p mb sp:Nat)(G:Nm->Option LN)(SF:Nat->Prop)(S:Zj)(stock foil flip:Int)(w:World)(hh:Yp w p mb sp G SF S)(hi:Xt S)(hlen:S.l.length < 400):
  Calls zq 21 #[.pointer (some ⟨p,0,none⟩),.int .i64 stock,.int .i64 foil,.int .i64 flip] w fun e w'=>Zed w p mb G SF S stock foil flip e w':=by
 have HH:=zH hh;have HI:=zH hi;have HLEN:=zH hlen;have DIS:=zH hh.dis;have HLT:=zH hh.lt;have MD:=zH (VG w p mb sp S.f S.id S.c hh.blk);have c14:=Z6 hh.blk 14 (.pointer (some ⟨sp,0,none⟩)) rfl;by_cases hok:zx S.sb S.fb S.sd S.fd stock foil flip
 case neg=>
  have HC:=zH hok;have CN:=zH (Zbv w sp SF S.sb S.fb S.sd S.fd stock foil flip hh.stk hok);clear hh hi hok hlen;go_enter Tryz.func21,Tryz.ntmps21;go_wp2_with fail;refine MD.out.mono ?_;rintro e w1 ⟨rfl,rfl⟩;go_wp2_with fail;refine CN.out.mono ?_;rintro e w2 ⟨rfl,q,rfl⟩;clear c14;go_wp2;go_ret;have bq:=below_drewN (Below.refl w1.heap.size w1) q;exact⟨S,1,.inl ⟨HC.out,rfl,rfl⟩,HI.out,rfl,mb,sp,G,SF,HH.out.below bq,Zb.of_below bq,fun k hk=>.inl hk⟩
 have HC:=zH hok;obtain⟨st,rfl⟩:=Int.eq_ofNat_of_zero_le hok.1;obtain⟨fo,rfl⟩:=Int.eq_ofNat_of_zero_le hok.2.2.1;have CY:=zH (Z5d w sp SF S.sb S.fb S.sd S.fd st fo flip hh.stk hok);clear hh hi hok hlen;go_enter Tryz.func21,Tryz.ntmps21;go_wp2_with fail;refine MD.out.mono ?_;rintro e w1 ⟨rfl,rfl⟩;go_wp2_with fail;refine CY.out.mono ?_;rintro e W1 ⟨rfl,F1,h1,h2,h3⟩;clear c14;have K1:=zH h1;have S1:=zH h2;have P1:Hid (W1.heap[p]? = some (.cells (Xy S.f S.id mb S.c sp) 109)):=zH ((h2.block p (Zi HH.out.blk) DIS.out.ps).trans HH.out.blk);have PW1:Hid (p < W1.heap.size):=zH (Zi P1.out);clear h1 h2 h3 CY MD;obtain⟨cs,hcs⟩:=zX (Jj S.sb S.sd st flip);obtain⟨cf,hcf⟩:=zX (J7 S.fb S.fd st fo flip);have CFL:Hid (cf.length<=S.fb.length):=zH (by
  rw[<-hcf.out];unfold J7;split
  ·rw[z6,List.length_take];omega
  ·rw[List.length_take];omega)
 rw[hcs.out,hcf.out]at K1;go_upto_region 6 with fail;refine zp P1.out fun hh=>?_;have BU:=zH ((zd W1));generalize W1.drew=U at *;refine zw 0 rfl p 0 ?_;refine zw 1 rfl p 0 ?_;refine zw 2 rfl p 0 ?_;refine zS 3 rfl (.agg #[.int .i64 S.f.rings,.int .i64 S.f.sectors,.int .i64 S.f.wide]) (fun W h=>by have h0:=Z6 h 0 (.int .i64 S.f.rings) rfl;have h1:=Z6 h 1 (.int .i64 S.f.sectors) rfl;have h2:=Z6 h 2 (.int .i64 S.f.wide) rfl;go_simp) ?_;refine zw 4 rfl p 0 ?_;refine zw 5 rfl p 0 ?_;refine zw 6 rfl p 3 ?_;refine zS 7 rfl (.int .i64 S.id) (fun W h=>by have hc:=Z6 h 3 (.int .i64 S.id) rfl;go_simp) ?_;refine zR 8 rfl fun K hK=>?_;go_simp;go_at_call 12;refine(Z0O S.f S.id U HI.out.id).mono ?_;rintro e W2 ⟨h1,bb⟩;rcases h1 with ⟨hbad,_⟩ | ⟨_,_,p2,mb2,sp2,rfl,h2,h3⟩
 ·exact absurd ⟨HI.out.v,HI.out.id⟩ hbad
 have B2:=zH (BU.out.trans (bb.mono BU.out.size));have P2:=zH (Z7 bb hh);have H2:=zH h2;have GE2:=zH (show ∀k,Yw p2 mb2 (fun _=>none) (fun k=>k=sp2) k->W1.heap.size<=k from fun k hk=>Nat.le_trans BU.out.size (h3 k hk));clear bb h2 h3 hh;dsimp only;refine zK hK P2.out fun hh=>?_;clear hK K;refine zW 9 rfl (.tuple #[.pointer (some ⟨p2,0,none⟩),.int .i64 0]) ?_;refine zw 10 rfl p2 0 ?_;refine zW 11 rfl (.int .i64 0) ?_;refine zw 12 rfl p2 0 ?_;refine zW 13 rfl (.int .i64 0) ?_;refine zE ?_;clear hh BU P1;have K2:=zH (K1.out.same (S:=fun _=>False) (Zb.of_below B2.out) (fun _ h=>h.elim));have c14:=Z6 P2.out 14 (.pointer (some ⟨sp,0,none⟩)) rfl;go_wp2_with fail;refine(Z0K W2 sp F1 cs cf cs.length cf.length K2.out).mono ?_;rintro e W3 ⟨oa,oc,rfl,h1,b3⟩;have L2:=zH H2.out.lt;have OB:=zH h1;have P3:=zH (Z7 b3 P2.out);have H3:=zH (H2.out.below b3);have B3:=zH (B2.out.trans (b3.mono B2.out.size));have SZ3:=zH b3.size;clear h1 b3 c14 K2 P2 K1;obtain⟨bs,hbs⟩:=zX (Zx cs cf);rw[hbs.out]at OB ⊢;have BL:Hid (bs.length<=S.l.length /\ ∀x∈bs,x.length<=8192):=zH (by
  rw[<-hbs.out];unfold Zx;obtain⟨h1,h2⟩:=Z53 (cf.length / 4) cs cf;refine⟨?_,h2⟩;have h3:=CFL.out;have h4:=HI.out.fbl;have h5:=HI.out.len;omega)
 obtain⟨n,hn⟩:=zX (bs.length);rw[hn.out]at OB BL ⊢;have BBX:Hid (∀W',Zb (fun k=>k=p2\/k=mb2\/k=sp2\/W3.heap.size<=k) W3 W'->Z2r W' oa n oc bs):=zH (fun W' hs=>by
  obtain⟨vs,o1,o2,o3⟩:=OB.out;have l1:p2 < W2.heap.size:=L2.out p2 (.inl rfl);have l2:mb2 < W2.heap.size:=L2.out mb2 (.inr (.inl rfl));have l3:sp2 < W2.heap.size:=L2.out sp2 (.inr (.inr (.inl H2.out.stk.self)));have:XT W' W2.heap.size oa n oc bs:=⟨vs,Ze o1 hs (fun b hb h=>by
    have h4:=o1.lt b hb;rcases h with h | h | h | h <;> omega),o2,fun i hi=>by
    obtain⟨ai,ci,q1,q2⟩:=o3 i hi;refine⟨ai,ci,q1,Ze q2 hs (fun b hb h=>?_)⟩;obtain⟨cur,hk⟩:=Z6y q2 b hb;rcases h with rfl | rfl | rfl | h
    ·rw[H3.out.blk]at hk;simp only[Option.some.injEq,Obj.cells.injEq]at hk;exact absurd hk.2.1 (by decide)
    ·obtain⟨es,cl,hm⟩:=H3.out.map.blk;rw[hm]at hk;cases hk
    ·obtain⟨sa,sc,fa,fc,g1,_⟩:=id H3.out.stk;rw[g1]at hk;simp only[Option.some.injEq,Obj.cells.injEq]at hk;exact absurd hk.2.1 (by decide)
    ·have:=(q2.lt b hb).2;omega⟩
  exact this.rd)
 have FT0 : ∀k,Yw p2 mb2 (fun _=>none) (fun k=>k=sp2) k->k=p2\/k=mb2\/k=sp2\/W3.heap.size<=k:=fun k hk=>by
  rcases hk with h | h | h | ⟨a,x,h,_⟩
  ·exact .inl h
  ·exact .inr (.inl h)
  ·exact .inr (.inr (.inl h))
  ·cases h
 have NP0:p≠p2/\p≠mb2/\p≠sp2/\p < W3.heap.size:=by
  have q1:=GE2.out p2 (.inl rfl);have q2:=GE2.out mb2 (.inr (.inl rfl));have q3:=GE2.out sp2 (.inr (.inr (.inl rfl)));have q4:=PW1.out;have q5:=Zi P3.out;omega
 have CA0:Hid (Z7p w1 W3 W3 p p2 mb2 sp2 SF S mb sp (fun _=>none) (fun k=>k=sp2) (Zj.new S.f S.id) bs 0):=zH ⟨H3.out,Xt.new HI.out.v HI.out.id,rfl,by rw[List.drop_zero],Nat.le_refl _,Zb.refl _ _,FT0,P3.out,NP0⟩;clear FT0 NP0 OB H3 P3 H2 L2;have N63:Hid ((n:Int)<=400):=zH (by have h1:=BL.out.1;have h2:=HLEN.out;have h3:=hn.out;omega);go_wp2_with fail;go_loopw [50] (fun iv wr=>∃(i:Nat) (A:Zj) (G2:Nm->Option LN) (SF2:Nat->Prop),iv = .int .i64 (i:Int)/\i<=n/\Hid (Z7p w1 W3 wr p p2 mb2 sp2 SF S mb sp G2 SF2 A bs i)) (fun iv _=>n - (intOf iv).toNat)
 case atStart=>exact⟨0,_,_,_,rfl,Nat.zero_le _,CA0⟩
 case round=>
  clear CA0;obtain⟨i,A,G2,SF2,rfl,hin,CA⟩:=hrel;by_cases hlt:i < n
  ·have t0:decide ((i:Int) < (n:Int))=true:=by simp;omega
   obtain⟨b,off,hoa,hc⟩:=(BBX.out wr CA.out.same).at (show 0 < n by omega);obtain⟨ai,ci,hx,hri⟩:=hc i hlt;obtain⟨x,Hx⟩ : ∃x,bs[i]? = some x:=⟨_,List.getElem?_eq_getElem (by rw[hn.out];exact hlt)⟩;rw[Hx]at hx hri;have RX:=zH (show Y4 wr ai x.length ci x from hri);have XL:=zH (BL.out.2 x (List.mem_of_getElem? Hx));have DR:=zH (Zbq Hx);have hk64:(i:Int) < n:=by omega
   simp only[Option.getD_some]at hx;clear hc hri Hx;subst hoa;have c0:=Z6 CA.out.blk 0 (.int .i64 S.f.rings) rfl;have c1:=Z6 CA.out.blk 1 (.int .i64 S.f.sectors) rfl;have c2:=Z6 CA.out.blk 2 (.int .i64 S.f.wide) rfl;go_wp2_with fail;clear t0;have DC:=zH (Z2O S.f x ai x.length ci wr RX.out (Nat.le_trans XL.out (by decide)));have hvl:S.f.val = .agg #[.int .i64 S.f.rings,.int .i64 S.f.sectors,.int .i64 S.f.wide]:=rfl;rw[hvl]at DC;clear hvl;refine DC.out.mono ?_;clear DC;rintro e w5 (⟨m,sa,sc,hdec,rfl,ho,b5⟩ | ⟨hdec,rfl,b5⟩)
   ·have DE:Hid (Qu A.f x=some m):=zH (by rw[CA.out.f];exact hdec);have MC:=zH (Zbt hdec);have MOK:Hid m.Ok:=zH (Zaz (Z6h MC.out.1));have O5:=zH ho;have F2L:=zH CA.out.hou.lt;have WRS:=zH b5.size;replace CA:=zH (CA.out.below b5);clear hdec ho b5 c0 c1 c2 hx;go_upto_region 11 with (first
     |(refine zP w5 w5.heap.size (Z5 m sa sc) ?_))
    have bt:Below w5.heap.size w5 (w5.alloc (.cells (Z5 m sa sc) 47)):=zB _ _;have N14:=zH (Za w5 (.cells (Z5 m sa sc) 47));replace CA:=zH (CA.out.below bt);replace O5:=zH (Zd O5.out bt);replace WRS:=zH (Nat.le_trans WRS.out bt.size);obtain⟨p14,hp14⟩:=zX (w5.heap.size);rw[hp14.out]at N14;rw[hp14.out];generalize w5.alloc (.cells (Z5 m sa sc) 47)=w6 at *;clear bt hp14;have b7:Below w6.heap.size w6 (w6.alloc (.cells (Z5 m sa sc) 47)):=zB _ _;have R7:=zH (Za w6 (.cells (Z5 m sa sc) 47));have CA7:=zH (CA.out.below b7);have O7:=zH (Zd O5.out b7);have PB:Hid (wr.heap.size<=w6.heap.size):=zH WRS.out;obtain⟨pb,hpb⟩:=zX (w6.heap.size);go_wp2_with (first
     |(refine zL p14 N14.out ?_)
     |(refine Xv rfl _ rfl m sa sc rfl ?_))
    rw[hpb.out]at R7 PB;rw[hpb.out];generalize w6.alloc (.cells (Z5 m sa sc) 47)=w7 at *;clear b7 hpb;refine(Z57 p2 mb2 sp2 G2 SF2 A (some ⟨pb,0,none⟩) 1 1 [m] [⟨m,sa,sc⟩] w7 CA7.out.hou CA7.out.inv rfl (fun W hs=>⟨rfl,Nat.le_refl _,by decide,.inr ⟨pb,0,rfl,fun j y hy=>by
     have hj:j=0:=by have:=(List.getElem?_eq_some_iff.1 hy).1;simp at this;exact this
     subst hj;simp only[List.getElem?_cons_zero,Option.some.injEq]at hy;subst hy;refine⟨fun q v hv=>?_,Y3.of_own (Ze O7.out hs (fun b hb h=>by have h1:=F2L.out b h;have h2:=(O7.out.lt b hb).1;omega))⟩;have hb2:=hs.block pb (Zi R7.out) (fun h=>by have h1:=F2L.out pb h;have h2:=PB.out;omega);have h3:W.heap[pb]? = some (.cells (Z5 m sa sc) 47):=hb2.trans R7.out;rw[show 0+0 * 19+q=q by omega];exact Z6 h3 q v (by rw[<-Array.getElem?_toList];exact hv)⟩⟩) (fun y hy=>by rw[List.mem_singleton.1 hy];exact MOK.out) (by have h1:=CA7.out.len;have h2:=N63.out;omega)).mono ?_
    rintro e w8 ⟨rfl,G3,SF3,h1,h2,h3⟩;obtain⟨A',XX,code,hap⟩ : ∃A' XX code,Hid (Ym A [m]=(A',XX,code)):=⟨_,_,_,zH rfl⟩;have HI2:=(Z9L CA7.out.inv (l:=[m]) (fun y hy=>by rw[List.mem_singleton.1 hy];exact MOK.out));have HF2:=Zd2 A [m];have HST := @Z9J A m;rw[hap.out]at h1 HI2 HF2 HST ⊢;dsimp only at h1 HI2 HF2 HST ⊢;have H8:=zH h1;have S8:=zH h2;have F8:=zH h3;have I8:=zH HI2;have E8:=zH HF2;have T8:=zH HST;clear h1 h2 h3 HI2 HF2 HST;by_cases hgo:code=0/\XX=1
    ·obtain⟨rfl,rfl⟩:=hgo;have CA8:=zH (CA7.out.step (j:=i+1) H8.out I8.out.1 (E8.out.trans CA7.out.f) (CA7.out.rcv.trans (by rw[DR.out];exact Z3s DE.out hap.out)) (Nat.le_trans I8.out.2 (Nat.add_le_add_right CA7.out.len 1)) S8.out F8.out);clear CA CA7 H8 S8 F8 I8 E8 T8 hap;have hi64:(i:Int)+1<=401:=by have:=N63.out;omega
     go_wp2;go_roundw
     case rel=>exact⟨i+1,A',G3,SF3,by go_num,by omega,CA8⟩
     case measure=>simp[intOf];omega
    have hAA:A'=A:=T8.out hgo;have REC:Hid (Vh (Zj.new S.f S.id) bs=A):=zH (by
     rw[CA7.out.rcv,DR.out];refine Z3r ?_;rw[DE.out];show(if (Ym A [m]).2.2=0/\(Ym A [m]).2.1=1 then some (Ym A [m]).1 else none)=none;rw[hap.out];exact if_neg hgo)
    rw[hAA]at H8;replace CA:=zH (CA7.out.step (j:=i) H8.out CA7.out.inv CA7.out.f CA7.out.rcv CA7.out.len S8.out F8.out);clear CA7 H8 S8 F8 I8 E8 T8 hap hAA;by_cases hc0:code=0
    focus
     have t1:(XX != 1)=true:=by
      have:XX≠1:=fun h=>hgo ⟨hc0,h⟩;simp[this]
     subst hc0;clear hgo
    rotate_left
    focus
     have t1:(code != 0)=true:=by simp[hc0]
     clear hgo hc0
    all_goals
     go_upto_region 15 with fail;clear t1 hlt;go_wp2_with fail;refine(Q7 p2 mb2 sp2 G3 SF3 A _ CA.out.hou).mono ?_;rintro e X1 ⟨rfl,h1,h2⟩;have HS:=zH h1;have SX:=zH h2;have PX:=zH ((h2.block p (Zi CA.out.blk) CA.out.np.2.2.1).trans CA.out.blk);have P2X:Hid (X1.heap[p2]? = some (.cells (Xy A.f A.id mb2 A.c sp2) 109)):=zH h1.blk;have SP2:=zH CA.out.hou.stk.self;have HSZ:Hid ((zq.info? 109).map (·.size)=some (Xy A.f A.id mb2 A.c sp2).size):=zH (by kernel_rfl);clear h1 h2;have oneH:=Z3X A.f A.id mb2 A.c sp2;go_wp2_with (first
      |(refine wpList_load_row rfl 109 _ rfl p2 rfl 109 (Xy A.f A.id mb2 A.c sp2) (0,0) _ P2X.out Tryz.underlying109 rfl HSZ.out ?_)
      |(refine Xu rfl 109 _ _ rfl p (Xy S.f S.id mb S.c sp) (Xy A.f A.id mb2 A.c sp2) 109 rfl rfl PX.out HSZ.out rfl oneH ?_))
     go_ret;have S3:=Z1T X1 p (Xy A.f A.id mb2 A.c sp2);have g1:=GE2.out p2 (.inl rfl);have g2:=GE2.out mb2 (.inr (.inl rfl));have g3:=GE2.out sp2 (.inr (.inr (.inl rfl)));have g4:=S1.out.size;have g5:=B3.out.size;have g6 : ∀k,k=p2\/k=mb2\/k=sp2\/W3.heap.size<=k->w1.heap.size<=k:=fun k hk=>by omega
     have HS3:=HS.out.same S3 (fun k hk h=>by
      rw[show k=p from hk]at h;have h5:=CA.out.np;rcases CA.out.foot p h with h | h | h | h <;> omega)
     have SW1:Zb (Yw p mb G SF) w1 W3:=(S1.out.weaken (fun k hk=>.inr (.inr (.inl hk)))).trans (Zb.of_below B3.out);have SW2:=Xg SW1 CA.out.same (fun k hk=>.inr (g6 k hk));have SW3:=Xg SW2 SX.out (fun k hk=>.inr (g6 k (.inr (.inr (.inl hk)))));have SW4:=SW3.trans (S3.weaken (fun k hk=>.inl hk));exact⟨A.sync,0,.inr ⟨HC.out,by rw[Int.toNat_natCast,Int.toNat_natCast,hcs.out,hcf.out,hbs.out,REC.out],rfl⟩,CA.out.inv.sync,rfl,mb2,sp2,G3,SF3,
      ⟨Ys X1 p _ (Xy A.f A.id mb2 A.c sp2) _ _ PX.out,HS3.map,HS3.gs,HS3.gl,HS3.str,HS3.stk⟩,SW4,fun k hk=>by
       rcases hk with h | h
       ·exact .inl (.inl h)
       ·exact .inr (g6 k (CA.out.foot k (.inr h)))⟩
   ·have REC:Hid (Vh (Zj.new S.f S.id) bs=A):=zH (by
     rw[CA.out.rcv,DR.out];refine Z3r ?_;rw[CA.out.f,hdec];rfl)
    replace CA:=zH (CA.out.below b5);clear hdec b5 c0 c1 c2 hx;go_upto_region 11 with (first
     |(refine zP w5 w5.heap.size (Z5 Zg none 0) ?_))
    have bt:Below w5.heap.size w5 (w5.alloc (.cells (Z5 Zg none 0) 47)):=zB _ _;replace CA:=zH (CA.out.below bt);clear bt;generalize w5.alloc (.cells (Z5 Zg none 0) 47)=w6 at *;go_upto_region 15 with fail;clear hlt;go_wp2_with fail;refine(Q7 p2 mb2 sp2 G2 SF2 A _ CA.out.hou).mono ?_;rintro e X1 ⟨rfl,h1,h2⟩;have HS:=zH h1;have SX:=zH h2;have PX:=zH ((h2.block p (Zi CA.out.blk) CA.out.np.2.2.1).trans CA.out.blk);have P2X:Hid (X1.heap[p2]? = some (.cells (Xy A.f A.id mb2 A.c sp2) 109)):=zH h1.blk;have SP2:=zH CA.out.hou.stk.self;have HSZ:Hid ((zq.info? 109).map (·.size)=some (Xy A.f A.id mb2 A.c sp2).size):=zH (by kernel_rfl);clear h1 h2;have oneH:=Z3X A.f A.id mb2 A.c sp2;go_wp2_with (first
     |(refine wpList_load_row rfl 109 _ rfl p2 rfl 109 (Xy A.f A.id mb2 A.c sp2) (0,0) _ P2X.out Tryz.underlying109 rfl HSZ.out ?_)
     |(refine Xu rfl 109 _ _ rfl p (Xy S.f S.id mb S.c sp) (Xy A.f A.id mb2 A.c sp2) 109 rfl rfl PX.out HSZ.out rfl oneH ?_))
    go_ret;have S3:=Z1T X1 p (Xy A.f A.id mb2 A.c sp2);have g1:=GE2.out p2 (.inl rfl);have g2:=GE2.out mb2 (.inr (.inl rfl));have g3:=GE2.out sp2 (.inr (.inr (.inl rfl)));have g4:=S1.out.size;have g5:=B3.out.size;have g6 : ∀k,k=p2\/k=mb2\/k=sp2\/W3.heap.size<=k->w1.heap.size<=k:=fun k hk=>by omega
    have HS3:=HS.out.same S3 (fun k hk h=>by
     rw[show k=p from hk]at h;have h5:=CA.out.np;rcases CA.out.foot p h with h | h | h | h <;> omega)
    have SW1:Zb (Yw p mb G SF) w1 W3:=(S1.out.weaken (fun k hk=>.inr (.inr (.inl hk)))).trans (Zb.of_below B3.out);have SW2:=Xg SW1 CA.out.same (fun k hk=>.inr (g6 k hk));have SW3:=Xg SW2 SX.out (fun k hk=>.inr (g6 k (.inr (.inr (.inl hk)))));have SW4:=SW3.trans (S3.weaken (fun k hk=>.inl hk));exact⟨A.sync,0,.inr ⟨HC.out,by rw[Int.toNat_natCast,Int.toNat_natCast,hcs.out,hcf.out,hbs.out,REC.out],rfl⟩,CA.out.inv.sync,rfl,mb2,sp2,G2,SF2,
     ⟨Ys X1 p _ (Xy A.f A.id mb2 A.c sp2) _ _ PX.out,HS3.map,HS3.gs,HS3.gl,HS3.str,HS3.stk⟩,SW4,fun k hk=>by
      rcases hk with h | h
      ·exact .inl (.inl h)
      ·exact .inr (g6 k (CA.out.foot k (.inr h)))⟩
  ·have t0:decide ((i:Int) < (n:Int))=false:=by simp;omega
   have REC:Hid (Vh (Zj.new S.f S.id) bs=A):=zH (by rw[CA.out.rcv,List.drop_of_length_le (by rw[hn.out];omega)];rfl);go_upto_region 15 with fail;clear t0 hlt;go_wp2_with fail;refine(Q7 p2 mb2 sp2 G2 SF2 A _ CA.out.hou).mono ?_;rintro e X1 ⟨rfl,h1,h2⟩;have HS:=zH h1;have SX:=zH h2;have PX:=zH ((h2.block p (Zi CA.out.blk) CA.out.np.2.2.1).trans CA.out.blk);have P2X:Hid (X1.heap[p2]? = some (.cells (Xy A.f A.id mb2 A.c sp2) 109)):=zH h1.blk;have SP2:=zH CA.out.hou.stk.self;have HSZ:Hid ((zq.info? 109).map (·.size)=some (Xy A.f A.id mb2 A.c sp2).size):=zH (by kernel_rfl);clear h1 h2;have oneH:=Z3X A.f A.id mb2 A.c sp2;go_wp2_with (first
    |(refine wpList_load_row rfl 109 _ rfl p2 rfl 109 (Xy A.f A.id mb2 A.c sp2) (0,0) _ P2X.out Tryz.underlying109 rfl HSZ.out ?_)
    |(refine Xu rfl 109 _ _ rfl p (Xy S.f S.id mb S.c sp) (Xy A.f A.id mb2 A.c sp2) 109 rfl rfl PX.out HSZ.out rfl oneH ?_))
   go_ret;have S3:=Z1T X1 p (Xy A.f A.id mb2 A.c sp2);have g1:=GE2.out p2 (.inl rfl);have g2:=GE2.out mb2 (.inr (.inl rfl));have g3:=GE2.out sp2 (.inr (.inr (.inl rfl)));have g4:=S1.out.size;have g5:=B3.out.size;have g6 : ∀k,k=p2\/k=mb2\/k=sp2\/W3.heap.size<=k->w1.heap.size<=k:=fun k hk=>by omega
   have HS3:=HS.out.same S3 (fun k hk h=>by
    rw[show k=p from hk]at h;have h5:=CA.out.np;rcases CA.out.foot p h with h | h | h | h <;> omega)
   have SW1:Zb (Yw p mb G SF) w1 W3:=(S1.out.weaken (fun k hk=>.inr (.inr (.inl hk)))).trans (Zb.of_below B3.out);have SW2:=Xg SW1 CA.out.same (fun k hk=>.inr (g6 k hk));have SW3:=Xg SW2 SX.out (fun k hk=>.inr (g6 k (.inr (.inr (.inl hk)))));have SW4:=SW3.trans (S3.weaken (fun k hk=>.inl hk));exact⟨A.sync,0,.inr ⟨HC.out,by rw[Int.toNat_natCast,Int.toNat_natCast,hcs.out,hcf.out,hbs.out,REC.out],rfl⟩,CA.out.inv.sync,rfl,mb2,sp2,G2,SF2,
    ⟨Ys X1 p _ (Xy A.f A.id mb2 A.c sp2) _ _ PX.out,HS3.map,HS3.gs,HS3.gl,HS3.str,HS3.stk⟩,SW4,fun k hk=>by
     rcases hk with h | h
     ·exact .inl (.inl h)
     ·exact .inr (g6 k (CA.out.foot k (.inr h)))⟩
open Go.ChangeShapes Go.WideShapes Go.ChangeAt Go.RowKit
theorem Tryz.own:ownKnob zq.godebug=none:=by kernel_rfl
theorem Tryz.laidOut:laidOutB zq=true:=by kernel_rfl
theorem Z0U {H:Type}{enc:TypeId×Value->H}{P:Program}(hl:laidOutB P=true){W W':World}(hb:Below W.heap.size W W'):
  ∀(ts:List TypeId) {vs:List Value} {ds:List (DataW H)} {ps:List MemPlace},ts.all (fun t=>P.readableRec t && decide (t < P.types.size))=true->(∀x∈ps,x.block < W.heap.size)->
   DataW.TrodAll enc P W 0 (fun _=>true) true ts vs ds ps->DataW.TrodAll enc P W' 0 (fun b=>decide (b < W.heap.size)) true ts vs ds ps
 | [],[],[],_,_,_,h=>h
 | [],_ :: _,_,_,_,_,h=>h.elim
 | [],[],_ :: _,_,_,_,h=>h.elim
 | _ :: _,[],_,_,_,_,h=>h.elim
 | _ :: _,_ :: _,[],_,_,_,h=>h.elim
 | t :: ts,v :: vs,d :: ds,ps,hr,hlt,h=>by
  obtain⟨p,q,h1,h2,rfl⟩:=h
  simp only[List.all_cons,Bool.and_eq_true,decide_eq_true_eq]at hr
  exact⟨p,q,Below.trod hl hr.1.1 hr.1.2 h1 hb (fun x hx=>hlt x (List.mem_append_left _ hx)),Z0U hl hb ts hr.2 (fun x hx=>hlt x (List.mem_append_right _ hx)) h2,rfl⟩
theorem Z6w {H:Type}{enc:TypeId×Value->H}{P:Program}(hl:laidOutB P=true){t:TypeId}(ht:P.underlying t=some .bool){f:Func}{s:ChangeSpec}{W W':World}{args:ZW}{ds:List (DataW H)}{ps:List MemPlace}
  (hv:s.vars=[]) (hf:f.resultTypes = #[t]) (hr:f.params.toList.all (fun t=>P.readableRec t && decide (t < P.types.size))=true)
  (hW:DataW.Whole enc P f.params.toList s.vars false W args.toList ds [] ps) (hA:DataW.TrodAll enc P W 0 (fun _=>true) true f.params.toList args.toList ds ps)
  (hs:s.fn H (ds ++ []) = { results:=[.lit (.bool true)],args:=ds }) (hb:Below W.heap.size W W'):s.post enc P f false true false false W args (.bool true) W':=by
 refine⟨ds,[],ps,[],ps,[],hW,?_,?_,?_,hb.frame _,fun h=>by cases h⟩
 ·rw[hs,hf];exact trodAll_mk1 (shut_bool ht _)
 ·rw[hs];exact Z0U hl hb _ hr hW.lt hA
 ·rw[hs,hv];rfl
theorem YP {x:Int}(h:(Lit.int .i64 x).wf=true):XU x:=by
 simp[Lit.wf,IntKind.min,IntKind.max,IntKind.signed,IntKind.bits]at h;unfold XU;omega
theorem Tryz.cells3:zq.cellsOf 3=1:=by kernel_rfl
theorem Tryz.cells37:zq.cellsOf 37=1:=by kernel_rfl
theorem Tryz.cells43:zq.cellsOf 43=2:=by kernel_rfl
theorem Tryz.cells45:zq.cellsOf 45=2:=by kernel_rfl
theorem Tryz.cells47:zq.cellsOf 47=19:=by kernel_rfl
section
variable {H:Type}{enc:TypeId×Value->H}{W:World}{fuel:Nat}
theorem ZaJ {cs:List Value}{y:DataW H×List MemPlace}(h:DataW.trod enc zq W 0 (fun _=>true) true fuel 37 cs=some y): ∃a c l,cs=[.slice a l.length c]/\Xi W a l.length c l /\ ∀z∈l,XU z:=by
 rcases open_ints Tryz.underlying37 Tryz.underlying3 Tryz.cells3 h with ⟨hcs,hx⟩ | ⟨a,n,c,zs,hcs,_,hl,hm,hz,hx,hcell,hwz⟩
 ·exact⟨none,0,[],hcs,Y3.nil _ _,fun z hz=>by cases hz⟩
 ·simp only[if_true]at hz;have hlen:(zs.take n).length=n:=by rw[List.length_take];omega
  refine⟨some a,c,zs.take n,by rw[hlen];exact hcs,⟨by simp,by omega,hm,?_⟩,fun z hz=>YP (hwz z (List.mem_of_mem_take hz))⟩;by_cases hc0:c=0
  ·exact .inl hc0
  ·obtain⟨ab,ao,spot⟩:=a;have hspot:spot=none:=by simpa [Addr.add] using World.cell?_spot (hcell 0 (by omega))
   subst hspot;refine .inr ⟨ab,ao,rfl,fun i x hx=>?_⟩;rw[List.getElem?_map,List.getElem?_take]at hx;split at hx
   ·rename_i hi;have hiz:i < zs.length:=by omega
    rw[List.getElem?_eq_getElem hiz,Option.map_some]at hx;simp only[Option.some.injEq]at hx;subst hx;have hc:=hcell i hiz;rw[Addr.add_lit]at hc;rw[hc,List.getD_eq_getElem?_getD,List.getElem?_eq_getElem hiz];rfl
   ·cases hx
theorem Y7 {α:Type}{xs:List α}{n i:Nat}(h:xs.length=n)(hi:i < n): ∃y,xs[i]? = some y:=⟨xs[i]'(by omega),List.getElem?_eq_getElem (by omega)⟩
theorem Z3u {t:TypeId}{cs:List Value}{y:DataW H×List MemPlace}{f0 f1:Field}(ht:zq.underlying t=some (.struct #[f0,f1]))(h0:f0.type=3)(h1:f1.type=3)(o0:f0.offset=0)(o1:f1.offset=1)(hc:zq.cellsOf t=2)
  (h:DataW.trod enc zq W 0 (fun _=>true) true fuel t cs=some y) : ∃x z,cs=[.int .i64 x,.int .i64 z]/\XU x/\XU z:=by
 obtain⟨y0,y1,n,_,hl,g0,g1⟩:=trod_struct2 ht h;rw[hc]at hl
 match cs,hl with
 | [c0,c1],_=>
  rw[h0,o0,Tryz.cells3]at g0;rw[h1,o1,Tryz.cells3]at g1;obtain⟨x,a0,_,b0⟩:=DataW.trod_int Tryz.underlying3 g0;obtain⟨z,a1,_,b1⟩:=DataW.trod_int Tryz.underlying3 g1;simp at a0 a1;exact⟨x,z,by rw[a0,a1],YP b0,YP b1⟩
theorem Z7M {cs:List Value}{y:DataW H×List MemPlace}(h:DataW.trod enc zq W 0 (fun _=>true) true fuel 47 cs=some y): ∃n:Z8,Zdk W cs n:=by
 obtain⟨xs,m,_,_,hl,hlen,hf⟩:=DataW.trod_struct Tryz.underlying47 h;rw[Tryz.cells47]at hl
 match cs,hl with
 | [c0,c1,c2,c3,c4,c5,c6,c7,c8,c9,c10,c11,c12,c13,c14,c15,c16,c17,c18],_=>
  obtain⟨y0,e0⟩:=Y7 hlen (i:=0) (by decide);have HG:=fun(K T:Nat) {y} (h:DataW.trod enc zq W 0 (fun _=>true) true m T (([c0,c1,c2,c3,c4,c5,c6,c7,c8,c9,c10,c11,c12,c13,c14,c15,c16,c17,c18].drop K).take (zq.cellsOf T))=some y)=>h;have g0:=HG 0 3 ((hf 0 _ rfl).trans e0);rw[Tryz.cells3]at g0;obtain⟨x0,a0,_,b0⟩:=DataW.trod_int Tryz.underlying3 g0;simp at a0;clear e0 g0;obtain⟨y1,e1⟩:=Y7 hlen (i:=1) (by decide);have g1:=HG 1 3 ((hf 1 _ rfl).trans e1);rw[Tryz.cells3]at g1;obtain⟨x1,a1,_,b1⟩:=DataW.trod_int Tryz.underlying3 g1;simp at a1;clear e1 g1;obtain⟨y2,e2⟩:=Y7 hlen (i:=2) (by decide);have g2:=HG 2 3 ((hf 2 _ rfl).trans e2);rw[Tryz.cells3]at g2;obtain⟨x2,a2,_,b2⟩:=DataW.trod_int Tryz.underlying3 g2;simp at a2;clear e2 g2;obtain⟨y3,e3⟩:=Y7 hlen (i:=3) (by decide);have g3:=HG 3 3 ((hf 3 _ rfl).trans e3);rw[Tryz.cells3]at g3;obtain⟨x3,a3,_,b3⟩:=DataW.trod_int Tryz.underlying3 g3;simp at a3;clear e3 g3;obtain⟨y4,e4⟩:=Y7 hlen (i:=4) (by decide);have g4:=HG 4 3 ((hf 4 _ rfl).trans e4);rw[Tryz.cells3]at g4;obtain⟨x4,a4,_,b4⟩:=DataW.trod_int Tryz.underlying3 g4;simp at a4;clear e4 g4;obtain⟨y5,e5⟩:=Y7 hlen (i:=5) (by decide);have g5:=HG 5 3 ((hf 5 _ rfl).trans e5);rw[Tryz.cells3]at g5;obtain⟨x5,a5,_,b5⟩:=DataW.trod_int Tryz.underlying3 g5;simp at a5;clear e5 g5;obtain⟨y6,e6⟩:=Y7 hlen (i:=6) (by decide);have g6:=HG 6 3 ((hf 6 _ rfl).trans e6);rw[Tryz.cells3]at g6;obtain⟨x6,a6,_,b6⟩:=DataW.trod_int Tryz.underlying3 g6;simp at a6;clear e6 g6;obtain⟨y7,e7⟩:=Y7 hlen (i:=7) (by decide);have g7:=HG 7 3 ((hf 7 _ rfl).trans e7);rw[Tryz.cells3]at g7;obtain⟨x7,a7,_,b7⟩:=DataW.trod_int Tryz.underlying3 g7;simp at a7;clear e7 g7;obtain⟨y8,e8⟩:=Y7 hlen (i:=8) (by decide);have g8:=HG 8 43 ((hf 8 _ rfl).trans e8);rw[Tryz.cells43]at g8;obtain⟨x8,z8,a8,b8,d8⟩:=Z3u Tryz.underlying43 rfl rfl rfl rfl Tryz.cells43 g8;simp at a8;clear e8 g8;obtain⟨y9,e9⟩:=Y7 hlen (i:=9) (by decide);have g9:=HG 10 43 ((hf 9 _ rfl).trans e9);rw[Tryz.cells43]at g9;obtain⟨x9,z9,a9,b9,d9⟩:=Z3u Tryz.underlying43 rfl rfl rfl rfl Tryz.cells43 g9
  simp at a9;clear e9 g9;obtain⟨y10,e10⟩:=Y7 hlen (i:=10) (by decide);have g10:=HG 12 3 ((hf 10 _ rfl).trans e10);rw[Tryz.cells3]at g10;obtain⟨x10,a10,_,b10⟩:=DataW.trod_int Tryz.underlying3 g10;simp at a10;clear e10 g10;obtain⟨y11,e11⟩:=Y7 hlen (i:=11) (by decide);have g11:=HG 13 3 ((hf 11 _ rfl).trans e11);rw[Tryz.cells3]at g11;obtain⟨x11,a11,_,b11⟩:=DataW.trod_int Tryz.underlying3 g11;simp at a11;clear e11 g11;obtain⟨y12,e12⟩:=Y7 hlen (i:=12) (by decide);have g12:=HG 14 3 ((hf 12 _ rfl).trans e12);rw[Tryz.cells3]at g12;obtain⟨x12,a12,_,b12⟩:=DataW.trod_int Tryz.underlying3 g12;simp at a12;clear e12 g12;obtain⟨y13,e13⟩:=Y7 hlen (i:=13) (by decide);have g13:=HG 15 37 ((hf 13 _ rfl).trans e13);rw[Tryz.cells37]at g13;obtain⟨sa,sc,l,a13,r13,b13⟩:=ZaJ g13;simp at a13;clear e13 g13;obtain⟨y14,e14⟩:=Y7 hlen (i:=14) (by decide);have g14:=HG 16 45 ((hf 14 _ rfl).trans e14);rw[Tryz.cells45]at g14;obtain⟨x14,z14,a14,b14,d14⟩:=Z3u Tryz.underlying45 rfl rfl rfl rfl Tryz.cells45 g14;simp at a14;clear e14 g14;obtain⟨y15,e15⟩:=Y7 hlen (i:=15) (by decide);have g15:=HG 18 3 ((hf 15 _ rfl).trans e15);rw[Tryz.cells3]at g15;obtain⟨x15,a15,_,b15⟩:=DataW.trod_int Tryz.underlying3 g15;simp at a15;clear e15 g15;exact⟨{ house:=x0,num:=x1,clock:=x2,day:=x3,kind:=x4,stone:=x5,heap:=x6,turns:=x7,hardLo:=x8,hardHi:=z8,diffLo:=x9,diffHi:=z9,a:=x10,b:=x11,ring:=x12,strokes:=l,refH:=x14,refN:=z14,fix:=x15 },sa,sc,by simp only[Z8.cells];rw[a0,a1,a2,a3,a4,a5,a6,a7,a8.1,a8.2,a9.1,a9.2,a10,a11,a12,a13,a14.1,a14.2,a15],r13,{ house:=YP b0,num:=YP b1,clock:=YP b2,day:=YP b3,kind:=YP b4,stone:=YP b5,heap:=YP b6,turns:=YP b7,hardLo:=b8,hardHi:=d8,diffLo:=b9,diffHi:=d9,a:=YP b10,b:=YP b11,ring:=YP b12,strokes:=b13,refH:=b14,refN:=d14,fix:=YP b15 }⟩
end
theorem Tryz.cells23:zq.cellsOf 23=3:=by kernel_rfl
section
variable {H:Type}{enc:TypeId×Value->H}{W:World}
theorem Z6V {base:Nat}{v:Value}{d:DataW H}{p:List MemPlace}(hval:Value.okWide zq W .any base 23 v)
  (h:DataW.Trod enc zq W 0 (fun _=>true) true 23 v d p) : ∃f:Yg,v=f.val:=by
 obtain⟨cs,rfl,hsz⟩:=okWide_struct Tryz.underlying23 hval;obtain⟨fuel,hf⟩:=h;obtain⟨y0,y1,y2,n,_,hl,g0,g1,g2⟩:=Go.Deep.trod_struct3 Tryz.underlying23 hf;rw[Tryz.cells23]at hsz;obtain⟨l⟩:=cs
 match l,hsz with
 | [c0,c1,c2],_=>
  have g0':DataW.trod enc zq W 0 (fun _=>true) true n 3 (([c0,c1,c2].drop 0).take (zq.cellsOf 3))=some y0:=g0;have g1':DataW.trod enc zq W 0 (fun _=>true) true n 3 (([c0,c1,c2].drop 1).take (zq.cellsOf 3))=some y1:=g1;have g2':DataW.trod enc zq W 0 (fun _=>true) true n 3 (([c0,c1,c2].drop 2).take (zq.cellsOf 3))=some y2:=g2;rw[Tryz.cells3]at g0' g1' g2';obtain⟨x0,a0,_,_⟩:=DataW.trod_int Tryz.underlying3 g0';obtain⟨x1,a1,_,_⟩:=DataW.trod_int Tryz.underlying3 g1';obtain⟨x2,a2,_,_⟩:=DataW.trod_int Tryz.underlying3 g2';simp at a0 a1 a2;exact⟨⟨x0,x1,x2⟩,by rw[a0,a1,a2];rfl⟩
theorem Z4d {a:Addr}{n:Nat}{cs:List Value}(hn:0 < n)(h:W.cells? 0 a n=some cs):a.spot=none:=by
 have h2:=World.cells?_some h;have h3:=h2.2.2 0 (by have:=h2.1;omega);rw[List.getElem?_eq_getElem (by have:=h2.1;omega)]at h3;simpa [Addr.add] using World.cell?_spot h3
theorem Z7e {α:Type}{n:Nat}{P:Nat->α->Prop}(h : ∀i,i < n -> ∃x,P i x): ∃l:List α,l.length=n /\ ∀i x,l[i]? = some x->P i x:=by
 induction n with
 | zero=>exact⟨[],rfl,by simp⟩
 | succ n ih=>
  obtain⟨l,h1,h2⟩:=ih (fun i hi=>h i (by omega));obtain⟨x,hx⟩:=h n (by omega);refine⟨l ++ [x],by simp[h1],fun i y hy=>?_⟩;rcases Nat.lt_or_ge i l.length with hi | hi
  ·rw[List.getElem?_append_left hi]at hy;exact h2 i y hy
  ·rw[List.getElem?_append_right hi]at hy;have:i - l.length=0:=by
    rcases Nat.eq_zero_or_pos (i - l.length)with h0 | h0
    ·exact h0
    ·rw[List.getElem?_eq_none (by simp;omega)]at hy;cases hy
   rw[this]at hy;simp at hy;subst hy;have:i=n:=by omega
   rw[this];exact hx
end
theorem VN {x:Z8}: ∀{fr l:List Z8},x∈zk l fr↔x∈l\/x∈fr
 | [],l=>by simp[zk]
 | n :: fr,l=>by
  show x∈zk (XY l n) fr↔_
  rw[VN,Xo,List.mem_cons,or_assoc]
theorem Z4P: ∀{fr gs:List Z8} {S:Zj},QO S.c fr->QO (S.adds fr).c gs->QO S.c (fr ++ gs)
 | [],gs,S,_,h=>h
 | m :: fr,gs,S,h,h2=>⟨h.1,Z4P (S:=S.add m) h.2 h2⟩
theorem Z7m (S:Zj)(a b:List Z8):S.adds (a ++ b)=(S.adds a).adds b:=by unfold Zj.adds;rw[List.foldl_append]
theorem Z8I: ∀(l:List Z8) (A:Zj),(A.adds l).sb=A.sb ++ Xe (l.map ZQ)/\(A.adds l).fb=A.fb ++ Jk (l.map ZQ)/\(A.adds l).sd=A.sd/\(A.adds l).fd=A.fd
 | [],A=>by simp[Zj.adds,Xe,Jk]
 | n :: l,A=>by
  obtain⟨h1,h2,h3,h4⟩:=Z8I l (A.add n)
  refine⟨?_,?_,h3,h4⟩
  ·show((A.add n).adds l).sb=_
   rw[h1,List.map_cons,JB]
   show(A.sb ++ ZC (ZQ n)) ++ _=_
   rw[List.append_assoc]
  ·show((A.add n).adds l).fb=_
   rw[h2,List.map_cons,Vx]
   show(A.fb ++ ZO (ZQ n)) ++ _=_
   rw[List.append_assoc]
theorem Zco (c:Int->Nat)(h a:Int):c a<=QW c h a:=by unfold QW;split <;> omega
theorem Z5i: ∀(l:List Z8) (A:Zj) (a:Int),A.c a<=(A.adds l).c a
 | [],_,_=>Nat.le_refl _
 | n :: l,A,a=>Nat.le_trans (Zco A.c n.house a) (Z5i l (A.add n) a)
theorem Z5h: ∀(l:List Z8) (A:Zj) (a:Int),(∀x∈l,x.house≠a)->(A.adds l).c a=A.c a
 | [],_,_,_=>rfl
 | n :: l,A,a,h=>by
  show((A.add n).adds l).c a=_
  rw[Z5h l (A.add n) a (fun x hx=>h x (List.mem_cons_of_mem _ hx))]
  show QW A.c n.house a=_
  unfold QW
  rw[if_neg (fun e=>h n (List.mem_cons_self ..) e.symm)]
theorem Z2i (S:Zj)(hv:S.f.valid=true)(n:Z8):((Vc S n).1=S/\(Vc S n).2.2≠0/\(Vc S n).2.1=Zg)\/(Vc S n=(S.add (VK S n),VK S n,0)/\Zf S.f (VK S n)=true):=by
 unfold Vc;split
 ·exact .inl ⟨rfl,by show(2:Int)≠0;decide,rfl⟩
 ·split
  ·exact .inl ⟨rfl,by show(80:Int)≠0;decide,rfl⟩
  ·rename_i h2;split
   ·exact .inl ⟨rfl,by show(91:Int)≠0;decide,rfl⟩
   ·refine .inr ⟨rfl,?_⟩;have h3:ZZ S.f (VK S n)=0:=by
     by_cases h3:ZZ S.f (VK S n)=0
     ·exact h3
     ·exact absurd h3 (by simpa using h2)
    unfold ZZ at h3;rw[if_pos hv]at h3;by_cases h4:Zf S.f (VK S n)=true
    ·exact h4
    ·rw[if_neg h4]at h3;cases h3
theorem Z2M {S:Zj}(hi:Xt S)(l:List Z8)(hok : ∀x∈l,x.Ok):((Ym S l).1=S/\(Ym S l).2.2≠0) \/ ∃fr,(Ym S l)=(S.adds fr,(fr.length:Int),0)/\QO S.c fr/\(∀x∈fr,x∈l/\Zf S.f x=true/\x.Ok)/\((S.l ++ fr).map Zn).Nodup/\Qq (S.l ++ fr) (S.adds fr).c:=by
 cases hb:l.any (fun n=>!decide (ZZ S.f n=0))with
 | true=>rw[Z0y hb];exact .inl ⟨rfl,by show(80:Int)≠0;decide⟩
 | false=>
  have hf:=zg hi.v hb;cases hg:YI S.l [] S.c l with
  | none=>rw[UY hb hg];exact .inl ⟨rfl,by show(81:Int)≠0;decide⟩
  | some r=>
   obtain⟨fr,c'⟩:=r;rw[Z0b hb hg];have hn:Qq (S.l ++ []) S.c:=by rw[List.append_nil];exact hi.nms
   obtain⟨t,e,hs,hm⟩:=UE l [] S.c hn (fun n hn=>(Yq (hf n hn)).2.2) hg;rw[List.nil_append]at e;subst e;obtain⟨h1,h2,_⟩:=Z1t l [] S.c hn (by rw[List.append_nil];exact XQ hi.srt) (fun n hn=>(Yq (hf n hn)).2.2) hg;have hinv:=Z0j fr S hi hs (fun x hx=>⟨hf x (hm x hx),hok x (hm x hx)⟩);refine .inr ⟨fr,rfl,hs,fun x hx=>⟨hm x hx,hf x (hm x hx),hok x (hm x hx)⟩,h2,hinv.nms.perm fun x=>?_⟩;rw[Z2p,VN,List.mem_append]
structure VS (s:Nat)(S:Zj):Prop where
 inv:Xt S
 lad:S.l=zk [] S.ad
 sq:QO (fun _=>0) S.ad
 cc:S.c=((Zj.new S.f S.id).adds S.ad).c
 sb:S.sb=Xe (S.ad.map ZQ)
 fb:S.fb=Jk (S.ad.map ZQ)
 le:s<=S.ad.length
 sd:S.sd=(Xe ((S.ad.take s).map ZQ)).length
 fd:S.fd=(Jk ((S.ad.take s).map ZQ)).length
theorem VS.mem {s:Nat}{S:Zj}(h:VS s S){x:Z8}: x∈S.l↔x∈S.ad:=by
 rw[h.lad,VN];simp
theorem VS.new {f:Yg}{id:Int}(hv:f.valid=true)(h:1<=id/\id<=8):VS 0 (Zj.new f id):=
 ⟨Xt.new hv h,rfl,trivial,rfl,rfl,rfl,Nat.le_refl _,rfl,rfl⟩
theorem VS.sync {s:Nat}{S:Zj}(h:VS s S):VS S.ad.length S.sync:=
 ⟨h.inv.sync,h.lad,h.sq,h.cc,h.sb,h.fb,Nat.le_refl _,by
  show S.sb.length=(Xe ((S.ad.take S.ad.length).map ZQ)).length
  rw[List.take_length,h.sb],by
  show S.fb.length=(Jk ((S.ad.take S.ad.length).map ZQ)).length
  rw[List.take_length,h.fb]⟩
theorem VS.adds {s:Nat}{S:Zj}{fr:List Z8}(h:VS s S)(hs:QO S.c fr)(hf : ∀x∈fr,Zf S.f x=true/\x.Ok):VS s (S.adds fr):=by
 obtain⟨b1,b2,b3,b4⟩:=Z8I fr S;have ea:=Z39 fr S;have et:(S.adds fr).ad.take s=S.ad.take s:=by rw[ea,List.take_append_of_le_length h.le]
 refine⟨Z0j fr S h.inv hs hf,?_,?_,?_,?_,?_,?_,?_,?_⟩
 ·rw[Z2p,ea,h.lad];unfold zk;rw[List.foldl_append]
 ·rw[ea];have h1:QO (Zj.new S.f S.id).c (S.ad ++ fr):=Z4P h.sq (by rw[<-h.cc];exact hs);exact h1
 ·rw[ea,Z2q,Z1E,Z7m];have hc : ∀(l:List Z8) (A B:Zj),A.c=B.c->(A.adds l).c=(B.adds l).c:=by
   intro l
   induction l with
   | nil=>intro A B e;exact e
   | cons n l ih=>intro A B e;exact ih (A.add n) (B.add n) (by show QW A.c n.house=QW B.c n.house;rw[e])
  exact hc fr _ _ h.cc
 ·rw[b1,ea,List.map_append,QU,h.sb]
 ·rw[b2,ea,List.map_append,Uf,h.fb]
 ·rw[ea,List.length_append];exact Nat.le_trans h.le (Nat.le_add_right _ _)
 ·rw[b3,et];exact h.sd
 ·rw[b4,et];exact h.fd
theorem VS.add {s:Nat}{S:Zj}{n:Z8}(h:VS s S)(hf:Zf S.f n=true)(hok:n.Ok)(hn:n.num=(S.c n.house:Int)+1):VS s (S.add n):=
 h.adds (fr:=[n]) ⟨hn,trivial⟩ (fun x hx=>by rw[List.mem_singleton.1 hx];exact⟨hf,hok⟩)
theorem Z9K {A:Zj}{n:Z8}(h:Xt A)(hf:Zf A.f n=true)(hok:n.Ok)(hn:n.num=(A.c n.house:Int)+1):Ym A [n]=(A.add n,1,0):=by
 have hb:[n].any (fun n=>!decide (ZZ A.f n=0))=false:=by
  have:ZZ A.f n=0:=by unfold ZZ;rw[if_pos h.v,if_pos hf]
  simp[this]
 have hfree:=(h.add hf hok hn).2;have hg:YI A.l [] A.c [n]=some ([n],QW A.c n.house):=by
  rw[YI,List.append_nil,Z3N hfree];simp only;rw[if_neg (by omega)];rfl
 rw[Z0b hb hg];rfl
theorem Z2B {f:Yg}: ∀(l:List Z8) (A:Zj),Xt A->A.f=f->QO A.c l->(∀x∈l,Zf f x=true/\x.Ok)->Vh A (l.map ZQ)=A.adds l
 | [],A,h,_,_,_=>rfl
 | n :: ns,A,h,hf,ho,hx=>by
  have h1:Zf A.f n=true:=by rw[hf];exact(hx n (List.mem_cons_self ..)).1
  have h2:=(hx n (List.mem_cons_self ..)).2
  have e:=Z9K h h1 h2 ho.1
  have ih:=Z2B ns (A.add n) (h.add h1 h2 ho.1).1 hf ho.2 (fun x hm=>hx x (List.mem_cons_of_mem _ hm))
  rw[Za7,List.map_cons,Z3s (Z2j h.v h1) e]
  exact ih
theorem VS.crash {s:Nat}{S S':Zj}{stock foil flip code:Int}(h:VS s S)(hc:CrP S stock foil flip S' code):
  (code=1/\S'=S)\/(code=0 /\ ∃k,s<=k/\k<=S.ad.length/\S'=((Zj.new S.f S.id).adds (S.ad.take k)).sync/\S'.ad=S.ad.take k/\VS S'.ad.length S'):=by
 rcases hc with ⟨_,h1,h2⟩ | ⟨hc,h1,h2⟩
 ·exact .inl ⟨h2,h1⟩
 refine .inr ⟨h2,?_⟩;have e1:S.ad.map ZQ=(S.ad.take s).map ZQ ++ (S.ad.drop s).map ZQ:=by rw[<-List.map_append,List.take_append_drop]
 have hcs:0<=stock/\0<=foil:=⟨hc.1,hc.2.2.1⟩;obtain⟨st,rfl⟩:=Int.eq_ofNat_of_zero_le hcs.1;obtain⟨fo,rfl⟩:=Int.eq_ofNat_of_zero_le hcs.2;have hfm : ∀x∈S.ad,Zf S.f x=true/\x.Ok:=fun x hx=>by
  have hx2:=h.mem.2 hx;exact⟨h.inv.frm x hx2,h.inv.ok x hx2⟩
 have hl : ∀x∈(S.ad.take s).map ZQ ++ (S.ad.drop s).map ZQ,x.length<=8192:=fun x hx=>by
  rw[<-e1]at hx;obtain⟨y,hy,rfl⟩:=List.mem_map.1 hx;have:=Q5 h.inv.v (hfm y hy).1;omega
 rw[h.sb,h.fb,h.sd,h.fd,e1]at hc;obtain⟨k,hk,e⟩:=Z7d _ _ hl st fo flip hc;simp only[Int.toNat_natCast]at h1;rw[h.sb,h.fb,h.sd,h.fd,e1,e,<-List.map_take,<-List.map_append]at h1;have e2:S.ad.take s ++ (S.ad.drop s).take k=S.ad.take (s+k):=by rw[List.take_add]
 rw[e2]at h1;have hfk : ∀x∈S.ad.take (s+k),Zf S.f x=true/\x.Ok:=fun x hx=>hfm x (List.mem_of_mem_take hx);have hsq:QO (Zj.new S.f S.id).c (S.ad.take (s+k)):=Z0Z _ _ _ h.sq;have hnew:=VS.new h.inv.v h.inv.id;rw[Z2B (f:=S.f) (S.ad.take (s+k)) (Zj.new S.f S.id) hnew.inv rfl hsq hfk]at h1;have hsk:s+k<=S.ad.length:=by
  rw[List.length_map,List.length_drop]at hk;have:=h.le;omega
 have e3:((Zj.new S.f S.id).adds (S.ad.take (s+k))).ad=S.ad.take (s+k):=by rw[Z39];rfl
 refine⟨s+k,Nat.le_add_right _ _,hsk,h1,by rw[h1];exact e3,?_⟩;rw[h1];exact(hnew.adds hsq hfk).sync
inductive Xb where
 | ask (c:List Int)
 | gift (l:List Z8)
def Yr (l:List Z8):zU:=l.flatMap fun n=>Y9 ((ZQ n).length:Int) ++ ZQ n
def Xb.body:Xb->zU
 | .ask c=>Y9 1 ++ (Y9 (c.length:Int) ++ Zs c)
 | .gift l=>Y9 2 ++ (Y9 (l.length:Int) ++ Yr l)
structure MlV where
 frm:Int
 to:Int
 cont:Xb
def MlV.body (m:MlV):zU:=m.cont.body
structure ZM where
 f:Yg
 hs:List Zj
 ms:List MlV
structure XA where
 kind:Int
 house:Int
 to:Int
 idx:Int
 note:Z8
 keep:Int
 flip:Int
def Yi (W:ZM)(h:Int):Option Zj:=if 1<=h then W.hs[(h - 1).toNat]? else none
def JC (W:ZM)(h:Int)(S:Zj):ZM := { W with hs:=W.hs.set (h - 1).toNat S }
def Va (W:ZM)(i:Int):Option MlV:=if 0<=i then W.ms[i.toNat]? else none
def Xq (W:ZM)(i:Int):ZM := { W with ms:=W.ms.eraseIdx i.toNat }
def Vg (W:ZM)(m:MlV):ZM := { W with ms:=W.ms ++ [m] }
def XB (W:ZM)(a:XA):ZM×Int:=match Yi W a.house with
 | none=>(W,1)
 | some S=>(JC W a.house (if (Vc S a.note).2.2=0/\((Vc S a.note).2.1.kind=2\/(Vc S a.note).2.1.kind=4)then (Vc S a.note).1.sync else (Vc S a.note).1),(Vc S a.note).2.2)
def Qb (W:ZM)(a:XA):ZM×Int:=match Yi W a.house with
 | none=>(W,1)
 | some S=>(JC W a.house S.sync,0)
def XH (W:ZM)(a:XA):ZM×Int:=match Yi W a.house with
 | none=>(W,1)
 | some S=>if (Yi W a.to).isNone=true\/a.to=a.house then (W,1)else if 64<=W.ms.length then (W,2)else (Vg W ⟨a.house,a.to,.ask (QV S.c)⟩,0)
def zO (S:Zj)(c:List Int):List Z8:=S.l.filter (fun n=>!Z0P c n)
def J9 (W:ZM)(m:MlV):ZM×Int:=match Yi W m.to with
 | none=>(W,1)
 | some S=>match m.cont with
  | .gift l=>(JC W m.to (Ym S l).1,(Ym S l).2.2)
  | .ask c=>if zO S c=[]then (JC W m.to S.sync,0)else (Vg (JC W m.to S.sync) ⟨m.to,m.frm,.gift ((zO S c).take 16)⟩,0)
def YV (W:ZM)(a:XA):ZM×Int:=match Va W a.idx with
 | none=>(W,3)
 | some m=>J9 (Xq W a.idx) m
def JH (W:ZM)(a:XA):ZM×Int:=match Va W a.idx with
 | none=>(W,3)
 | some _=>(Xq W a.idx,0)
def Xk (W:ZM)(a:XA):ZM×Int:=match Va W a.idx with
 | none=>(W,3)
 | some m=>if 64<=W.ms.length then (W,2)else (Vg W m,0)
noncomputable def crS (S:Zj) (stock foil flip:Int):Zj×Int:=open Classical in
 if zx S.sb S.fb S.sd S.fd stock foil flip then ((Vh (Zj.new S.f S.id) (Zx (Jj S.sb S.sd stock.toNat flip) (J7 S.fb S.fd stock.toNat foil.toNat flip))).sync,0)else (S,1)
theorem Zdd {S S':Zj}{x y z c:Int}(h:CrP S x y z S' c):crS S x y z=(S',c):=by
 unfold crS;rcases h with ⟨h1,h2,h3⟩ | ⟨h1,h2,h3⟩
 ·rw[if_neg h1,h2,h3]
 ·rw[if_pos h1,h2,h3]
theorem ZbP (S:Zj)(x y z:Int):CrP S x y z (crS S x y z).1 (crS S x y z).2:=by
 unfold crS;split
 ·rename_i h;exact .inr ⟨h,rfl,rfl⟩
 ·rename_i h;exact .inl ⟨h,rfl,rfl⟩
noncomputable def XN (W:ZM) (a:XA):ZM×Int:=match Yi W a.house with
 | none=>(W,1)
 | some S=>(JC W a.house (crS S a.keep a.flip a.idx).1,(crS S a.keep a.flip a.idx).2)
noncomputable def YS (W:ZM) (a:XA):ZM×Int:=
 if a.kind=1 then XB W a else if a.kind=2 then Qb W a else if a.kind=3 then XH W a else if a.kind=4 then YV W a
 else if a.kind=5 then JH W a else if a.kind=6 then Xk W a else if a.kind=7 then XN W a else (W,1)
def ZM.new (f:Yg)(n:Nat):ZM:=⟨f,(List.range n).map fun(i:Nat)=>Zj.new f ((i:Int)+1),[]⟩
def Dur (hs:List Zj)(ss:List Nat)(x:Z8):Prop := ∃(j:Nat) (S:Zj) (s:Nat),x.house=(j:Int)+1/\hs[j]? = some S/\ss[j]? = some s/\x∈S.ad.take s
def Zdn (hs:List Zj)(ss:List Nat):Xb->Prop
 | .ask c=>c.length=8 /\ ∀z∈c,0<=z/\z<=400
 | .gift l=>l≠[]/\l.length<=16 /\ ∀x∈l,Dur hs ss x
structure Zcx (hs:List Zj)(ss:List Nat)(m:MlV):Prop where
 frm:1<=m.frm/\m.frm<=hs.length
 to:1<=m.to/\m.to<=hs.length
 cont:Zdn hs ss m.cont
def Z3t (hs:List Zj):Nat:=(hs.map fun S=>S.c S.id).sum
structure YR (W:ZM)(ss:List Nat)(T:Nat):Prop where
 v:W.f.valid=true
 n:1<=W.hs.length/\W.hs.length<=8
 st : ∀(k:Nat) (S:Zj),W.hs[k]? = some S -> ∃s,ss[k]? = some s/\VS s S/\S.f=W.f/\S.id=(k:Int)+1
 hou : ∀(k:Nat) (S:Zj) (x:Z8),W.hs[k]? = some S->x∈S.l->x.house=(k:Int)+1\/Dur W.hs ss x
 ml : ∀m∈W.ms,Zcx W.hs ss m
 mn:W.ms.length<=64
 tot:Z3t W.hs<=T
theorem Z8t: ∀{l:List Zj} {k:Nat} {S S':Zj} (f:Zj->Nat),l[k]? = some S->((l.set k S').map f).sum+f S=(l.map f).sum+f S'
 | [],k,S,S',f,h=>by simp at h
 | a :: l,0,S,S',f,h=>by
  simp at h
  subst h
  simp
  omega
 | a :: l,k+1,S,S',f,h=>by
  have:=Z8t (l:=l) (k:=k) (S':=S') f (by simpa using h)
  simp at this ⊢
  omega
theorem Z7K {hs:List Zj}{k:Nat}{S S':Zj}(h:hs[k]? = some S):Z3t (hs.set k S')+S.c S.id=Z3t hs+S'.c S'.id:=Z8t (fun S=>S.c S.id) h
section
variable {W:ZM}{ss:List Nat}{T:Nat}
theorem Dur.elim (h:YR W ss T){x:Z8}(hx:Dur W.hs ss x): ∃(j:Nat) (S:Zj) (s:Nat),x.house=(j:Int)+1/\W.hs[j]? = some S/\ss[j]? = some s/\x∈S.ad.take s/\VS s S/\S.f=W.f/\S.id=(j:Int)+1/\x∈S.l:=by
 obtain⟨j,S,s,h1,h2,h3,h4⟩:=hx;obtain⟨s',e1,e2,e3,e4⟩:=h.st j S h2;rw[h3]at e1;cases e1;exact⟨j,S,s,h1,h2,h3,h4,e2,e3,e4,e2.mem.2 (List.mem_of_mem_take h4)⟩
theorem Dur.ok (h:YR W ss T){x:Z8}(hx:Dur W.hs ss x):Zf W.f x=true/\x.Ok/\1<=x.house/\x.house<=W.hs.length:=by
 obtain⟨j,S,s,h1,h2,_,_,h5,h6,_,h8⟩:=hx.elim h;have h9:=h5.inv.frm x h8;rw[h6]at h9;have:=(List.getElem?_eq_some_iff.1 h2).1;exact⟨h9,h5.inv.ok x h8,by omega,by omega⟩
theorem YR.st' (h:YR W ss T){k:Nat}{S:Zj}(hk:W.hs[k]? = some S):Xt S/\S.f=W.f/\S.id=(k:Int)+1:=by
 obtain⟨s,_,h1,h2,h3⟩:=h.st k S hk;exact⟨h1.inv,h2,h3⟩
theorem YR.named (h:YR W ss T){k:Nat}{S:Zj}{x:Z8}(hk:W.hs[k]? = some S)(hx:x∈S.l): ∃(j:Nat) (S':Zj),x.house=(j:Int)+1/\W.hs[j]? = some S'/\x∈S'.l:=by
 rcases h.hou k S x hk hx with h1 | h1
 ·exact⟨k,S,h1,hk,hx⟩
 ·obtain⟨j,S',s,h1,h2,_,_,_,_,_,h8⟩:=h1.elim h;exact⟨j,S',h1,h2,h8⟩
theorem YR.one (h:YR W ss T){i k:Nat}{S R:Zj}{x y:Z8}(hi:W.hs[i]? = some S)(hk:W.hs[k]? = some R)(hx:x∈S.l)(hy:y∈R.l)(e:Zn x=Zn y):x=y:=by
 obtain⟨j,S',h1,h2,h3⟩:=h.named hi hx;obtain⟨j',R',k1,k2,k3⟩:=h.named hk hy;have eh:x.house=y.house:=congrArg Prod.fst e;have:j=j':=by omega
 subst this;rw[h2]at k2;cases k2;exact Vt (h.st' h2).1.nodup h3 k3 e
theorem Dur.known (h:YR W ss T){x:Z8}(hx:Dur W.hs ss x): ∃(j:Nat) (S:Zj),W.hs[j]? = some S/\x∈S.l:=by
 obtain⟨j,S,s,_,h2,_,_,_,_,_,h8⟩:=hx.elim h;exact⟨j,S,h2,h8⟩
theorem YR.set (h:YR W ss T){k:Nat}{S S':Zj}{s s' T':Nat}(hk:W.hs[k]? = some S)(hs:ss[k]? = some s)(h':VS s' S')(hf:S'.f=S.f)(hid:S'.id=S.id)
  (hd : ∀x∈S.ad.take s,x∈S'.ad.take s') (hn : ∀x∈S'.l,x∈S.l\/x.house=(k:Int)+1\/Dur W.hs ss x) (ht:S'.c S'.id+T<=S.c S.id+T'):YR { W with hs:=W.hs.set k S' } (ss.set k s') T':=by
 have hkl:=(List.getElem?_eq_some_iff.1 hk).1;have hsl:=(List.getElem?_eq_some_iff.1 hs).1;have dm : ∀x,Dur W.hs ss x->Dur (W.hs.set k S') (ss.set k s') x:=by
  rintro x ⟨j,R,r,h1,h2,h3,h4⟩;by_cases e:k=j
  ·subst e;rw[hk]at h2;rw[hs]at h3;cases h2;cases h3;exact⟨k,S',s',h1,List.getElem?_set_self hkl,List.getElem?_set_self hsl,hd x h4⟩
  ·exact⟨j,R,r,h1,by rw[List.getElem?_set_ne e];exact h2,by rw[List.getElem?_set_ne e];exact h3,h4⟩
 refine⟨h.v,by simpa using h.n,fun j R hj=>?_,fun j R x hj hx=>?_,fun m hm=>?_,h.mn,?_⟩
 ·have hj:(W.hs.set k S')[j]? = some R:=hj;by_cases e:k=j
  ·subst e;rw[List.getElem?_set_self hkl]at hj;cases hj;obtain⟨_,h2,h3⟩:=h.st' hk;exact⟨s',List.getElem?_set_self hsl,h',hf.trans h2,hid.trans h3⟩
  ·rw[List.getElem?_set_ne e]at hj;obtain⟨r,h1,h2⟩:=h.st j R hj;exact⟨r,by rw[List.getElem?_set_ne e];exact h1,h2⟩
 ·have hj:(W.hs.set k S')[j]? = some R:=hj;by_cases e:k=j
  ·subst e;rw[List.getElem?_set_self hkl]at hj;cases hj;rcases hn x hx with h1 | h1 | h1
   ·exact(h.hou k S x hk h1).imp id (dm x)
   ·exact .inl h1
   ·exact .inr (dm x h1)
  ·rw[List.getElem?_set_ne e]at hj;exact(h.hou j R x hj hx).imp id (dm x)
 ·obtain⟨h1,h2,h3⟩:=h.ml m hm;refine⟨by simpa using h1,by simpa using h2,?_⟩;cases hc:m.cont with
  | ask c=>rw[hc]at h3;exact h3
  | gift l=>rw[hc]at h3;exact⟨h3.1,h3.2.1,fun x hx=>dm x (h3.2.2 x hx)⟩
 ·have:=Z7K (S':=S') hk;have:=h.tot;show Z3t (W.hs.set k S')<=T';omega
theorem YR.mails (h:YR W ss T){ms:List MlV}(hm : ∀m∈ms,Zcx W.hs ss m)(hl:ms.length<=64):YR { W with ms:=ms } ss T:=⟨h.v,h.n,h.st,h.hou,hm,hl,h.tot⟩
theorem YR.drop (h:YR W ss T)(i:Int):YR (Xq W i) ss T:=
 h.mails (fun m hm=>h.ml m (List.mem_of_mem_eraseIdx hm)) (by have:=h.mn;have:=List.length_eraseIdx_le W.ms i.toNat;omega)
theorem YR.send (h:YR W ss T){m:MlV}(hm:Zcx W.hs ss m)(hl:W.ms.length < 64):YR (Vg W m) ss T:=
 h.mails (fun x hx=>by
  rcases List.mem_append.1 hx with hx | hx
  ·exact h.ml x hx
  ·rw[List.mem_singleton.1 hx];exact hm) (by rw[List.length_append];simp;omega)
theorem YR.mono (h:YR W ss T){T':Nat}(ht:T<=T'):YR W ss T':=⟨h.v,h.n,h.st,h.hou,h.ml,h.mn,Nat.le_trans h.tot ht⟩
theorem Yu {h:Int}{S:Zj}(e:Yi W h=some S): ∃k:Nat,h=(k:Int)+1/\(h - 1).toNat=k/\W.hs[k]? = some S:=by
 unfold Yi at e;split at e
 ·exact⟨(h - 1).toNat,by omega,rfl,e⟩
 ·cases e
theorem Z8E {k:Nat}{S:Zj}(e:W.hs[k]? = some S):Yi W ((k:Int)+1)=some S:=by
 unfold Yi;rw[if_pos (by omega),show((k:Int)+1 - 1).toNat=k by omega];exact e
theorem Zcb {h:Int}(h1:1<=h)(h2:h<=W.hs.length): ∃S,Yi W h=some S:=by
 refine⟨W.hs[(h - 1).toNat]'(by omega),?_⟩;unfold Yi;rw[if_pos h1,List.getElem?_eq_getElem]
theorem Z2f {h:Int}(e:Yi W h=none):h < 1\/(W.hs.length:Int) < h:=by
 unfold Yi at e;split at e
 ·rw[List.getElem?_eq_none_iff]at e;omega
 ·omega
theorem Vu {i:Int}{m:MlV}(e:Va W i=some m): ∃k:Nat,i=(k:Int)/\i.toNat=k/\W.ms[k]? = some m:=by
 unfold Va at e;split at e
 ·exact⟨i.toNat,by omega,rfl,e⟩
 ·cases e
theorem Z4X {i:Int}(e:Va W i=none):i < 0\/(W.ms.length:Int)<=i:=by
 unfold Va at e;split at e
 ·rw[List.getElem?_eq_none_iff]at e;omega
 ·omega
theorem Zb6 (h:YR W ss T){k:Nat}{S:Zj}{s:Nat}(hk:W.hs[k]? = some S)(hs:ss[k]? = some s)(hst:VS s S){l:List Z8}(hl : ∀x∈l,Dur W.hs ss x):
  VS s (Ym S l).1/\(Ym S l).1.f=S.f/\(Ym S l).1.id=S.id/\(∀x∈S.ad.take s,x∈(Ym S l).1.ad.take s)/\(∀x∈(Ym S l).1.l,x∈S.l\/Dur W.hs ss x)/\(Ym S l).1.c S.id=S.c S.id:=by
 rcases Z2M hst.inv l (fun x hx=>((hl x hx).ok h).2.1)with ⟨h1,_⟩ | ⟨fr,h1,h2,h3,h4,h5⟩
 ·rw[h1];exact⟨hst,rfl,rfl,fun x hx=>hx,fun x hx=>.inl hx,rfl⟩
 ·rw[h1];refine⟨hst.adds h2 (fun x hx=>(h3 x hx).2),Z2q _ _,Z1E _ _,fun x hx=>?_,fun x hx=>?_,?_⟩
  ·show x∈(S.adds fr).ad.take s;rw[Z39,List.take_append_of_le_length hst.le];exact hx
  ·have hx:x∈(S.adds fr).l:=hx;rw[Z2p,VN]at hx;exact hx.imp id (fun hx=>hl x (h3 x hx).1)
  ·refine Z5h fr S S.id fun x hx e=>?_;obtain⟨j,R,r,g1,g2,g3,g4,g5,g6,g7,g8⟩:=(hl x (h3 x hx).1).elim h;have hid:=(h.st' hk).2.2;have:j=k:=by omega
   subst this;rw[hk]at g2;cases g2;rw[List.map_append]at h4;exact(List.nodup_append.1 h4).2.2 _ (List.mem_map_of_mem g8) _ (List.mem_map_of_mem hx) rfl
theorem Z8F {S:Zj}(h:Xt S):(QV S.c).length=8 /\ ∀z∈QV S.c,0<=z/\z<=400:=by
 refine⟨rfl,fun z hz=>?_⟩;have hc:=fun a=>ZbD h a;simp only[QV,List.mem_cons,List.not_mem_nil,or_false]at hz;rcases hz with rfl | rfl | rfl | rfl | rfl | rfl | rfl | rfl <;> exact⟨Int.natCast_nonneg _,Int.ofNat_le.2 (hc _)⟩
theorem Z94 {s:Nat}{l:List Z8}(h:s<=l.length){x:Z8}(hx:x∈l.take s):x∈l.take l.length:=by
 rw[List.take_length];exact List.mem_of_mem_take hx
theorem YR.syncK (h:YR W ss T){k:Nat}{S:Zj}(hk:W.hs[k]? = some S):YR { W with hs:=W.hs.set k S.sync } (ss.set k S.ad.length) T:=by
 obtain⟨s,hs,hst,_,_⟩:=h.st k S hk;exact h.set hk hs hst.sync rfl rfl (fun x hx=>Z94 hst.le hx) (fun x hx=>.inl hx) (Nat.le_refl _)
theorem U5 {h:Int}{k:Nat}{S:Zj}(e:(h - 1).toNat=k):JC W h S = { W with hs:=W.hs.set k S } := by unfold JC;rw[e]
theorem YR.doStep (h:YR W ss T)(a:XA)(hok:a.note.Ok): ∃ss',YR (XB W a).1 ss' (T+1):=by
 unfold XB;cases e:Yi W a.house with
 | none=>exact⟨ss,h.mono (Nat.le_succ _)⟩
 | some S=>
  obtain⟨k,e1,e2,hk⟩:=Yu e;obtain⟨s,hs,hst,hf,hid⟩:=h.st k S hk;dsimp only;rw[U5 e2];have hkl:=(List.getElem?_eq_some_iff.1 hk).1;have hsl:=(List.getElem?_eq_some_iff.1 hs).1;have hd:YR { W with hs:=W.hs.set k (Vc S a.note).1 } (ss.set k s) (T+1):=by
   rcases Z2i S (by rw[hf];exact h.v) a.note with ⟨h1,_⟩ | ⟨h1,h2⟩
   ·rw[h1];exact h.set hk hs hst rfl rfl (fun x hx=>hx) (fun x hx=>.inl hx) (by omega)
   ·rw[h1];have hn:(VK S a.note).num=(S.c (VK S a.note).house:Int)+1:=rfl;refine h.set hk hs (hst.add h2 (Z8f hok h2) hn) rfl rfl (fun x hx=>?_) (fun x hx=>?_) ?_
    ·show x∈(S.ad ++ [VK S a.note]).take s;rw[List.take_append_of_le_length hst.le];exact hx
    ·rcases Xo.1 hx with hx | rfl
     ·exact .inl hx
     ·exact .inr (.inl hid)
    ·show QW S.c (VK S a.note).house S.id+T<=_;unfold QW;split <;> omega
  split
  ·have h2:=hd.syncK (k:=k) (S:=(Vc S a.note).1) (List.getElem?_set_self hkl);have e3:(W.hs.set k (Vc S a.note).1).set k (Vc S a.note).1.sync=W.hs.set k (Vc S a.note).1.sync:=by rw[List.set_set]
   have h3:YR { W with hs:=(W.hs.set k (Vc S a.note).1).set k (Vc S a.note).1.sync } ((ss.set k s).set k (Vc S a.note).1.ad.length) (T+1):=h2;rw[e3]at h3;exact⟨_,h3⟩
  ·exact⟨_,hd⟩
theorem YR.arrive (h:YR W ss T)(m:MlV)(hm:Zcx W.hs ss m)(hl:W.ms.length < 64): ∃ss',YR (J9 W m).1 ss' T:=by
 unfold J9;cases e:Yi W m.to with
 | none=>exact⟨ss,h⟩
 | some S=>
  obtain⟨k,e1,e2,hk⟩:=Yu e;obtain⟨s,hs,hst,hf,hid⟩:=h.st k S hk;have hkl:=(List.getElem?_eq_some_iff.1 hk).1;have hsl:=(List.getElem?_eq_some_iff.1 hs).1;dsimp only;have hc:=hm.cont;cases hmc:m.cont with
  | gift l=>
   rw[hmc]at hc;dsimp only;rw[U5 e2];obtain⟨a1,a2,a3,a4,a5,a6⟩:=Zb6 h hk hs hst hc.2.2;refine⟨_,h.set hk hs a1 a2 a3 a4 (fun x hx=>(a5 x hx).imp id .inr) ?_⟩;rw[a3,a6];exact Nat.le_refl _
  | ask c=>
   dsimp only;rw[U5 e2];have h2:=h.syncK hk;split
   ·exact⟨_,h2⟩
   ·rename_i hne;refine⟨_,h2.send ⟨?_,?_,?_⟩ (by exact hl)⟩
    ·have:=hm.to;simpa using this
    ·have:=hm.frm;simpa using this
    ·refine⟨fun e0=>hne ?_,by rw[List.length_take];exact Nat.min_le_left _ _,fun x hx=>?_⟩
     ·rcases List.take_eq_nil_iff.1 e0 with h5 | h5
      ·cases h5
      ·exact h5
     ·have hx2:x∈S.l:=(List.mem_filter.1 (List.mem_of_mem_take hx)).1;rcases h2.hou k S.sync x (List.getElem?_set_self hkl) hx2 with h5 | h5
      ·refine⟨k,S.sync,S.ad.length,h5,List.getElem?_set_self hkl,List.getElem?_set_self hsl,?_⟩;show x∈S.ad.take S.ad.length;rw[List.take_length];exact hst.mem.1 hx2
      ·exact h5
theorem YR.step (h:YR W ss T)(a:XA)(hok:a.note.Ok): ∃ss',YR (YS W a).1 ss' (T+1):=by
 unfold YS;split
 ·exact h.doStep a hok
 split
 ·unfold Qb;cases e:Yi W a.house with
  | none=>exact⟨ss,h.mono (Nat.le_succ _)⟩
  | some S=>
   obtain⟨k,e1,e2,hk⟩:=Yu e;dsimp only;rw[U5 e2];exact⟨_,(h.syncK hk).mono (Nat.le_succ _)⟩
 split
 ·unfold XH;cases e:Yi W a.house with
  | none=>exact⟨ss,h.mono (Nat.le_succ _)⟩
  | some S=>
   obtain⟨k,e1,e2,hk⟩:=Yu e;have hkl:=(List.getElem?_eq_some_iff.1 hk).1;dsimp only;split
   ·exact⟨ss,h.mono (Nat.le_succ _)⟩
   ·rename_i h1;split
    ·exact⟨ss,h.mono (Nat.le_succ _)⟩
    ·rename_i h2;refine⟨ss,(h.send (m:=⟨a.house,a.to,.ask (QV S.c)⟩) ⟨by show 1<=a.house/\a.house<=_;omega,?_,Z8F (h.st' hk).1⟩ (by omega)).mono (Nat.le_succ _)⟩;cases e5:Yi W a.to with
     | none=>exact absurd (.inl (by rw[e5];rfl)) h1
     | some R=>
      obtain⟨j,g1,g2,hj⟩:=Yu e5;have:=(List.getElem?_eq_some_iff.1 hj).1;show 1<=a.to/\a.to<=_;omega
 split
 ·unfold YV;cases e:Va W a.idx with
  | none=>exact⟨ss,h.mono (Nat.le_succ _)⟩
  | some m=>
   obtain⟨i,e1,e2,hi⟩:=Vu e;have hil:=(List.getElem?_eq_some_iff.1 hi).1;obtain⟨ss',h2⟩:=(h.drop a.idx).arrive m (h.ml m (List.mem_of_getElem? hi)) (by
    show(W.ms.eraseIdx a.idx.toNat).length < 64;rw[List.length_eraseIdx,if_pos (by omega)];have:=h.mn;omega)
   exact⟨ss',h2.mono (Nat.le_succ _)⟩
 split
 ·unfold JH;cases e:Va W a.idx with
  | none=>exact⟨ss,h.mono (Nat.le_succ _)⟩
  | some m=>exact⟨ss,(h.drop a.idx).mono (Nat.le_succ _)⟩
 split
 ·unfold Xk;cases e:Va W a.idx with
  | none=>exact⟨ss,h.mono (Nat.le_succ _)⟩
  | some m=>
   obtain⟨i,e1,e2,hi⟩:=Vu e;dsimp only;split
   ·exact⟨ss,h.mono (Nat.le_succ _)⟩
   ·exact⟨ss,(h.send (h.ml m (List.mem_of_getElem? hi)) (by omega)).mono (Nat.le_succ _)⟩
 split
 ·unfold XN;cases e:Yi W a.house with
  | none=>exact⟨ss,h.mono (Nat.le_succ _)⟩
  | some S=>
   obtain⟨k,e1,e2,hk⟩:=Yu e;obtain⟨s,hs,hst,hf,hid⟩:=h.st k S hk;dsimp only;rw[U5 e2];rcases hst.crash (ZbP S a.keep a.flip a.idx)with ⟨h1,h2⟩ | ⟨h1,q,q1,q2,q3,q4,q5⟩
   ·rw[h2];exact⟨_,h.set hk hs hst rfl rfl (fun x hx=>hx) (fun x hx=>.inl hx) (by omega)⟩
   ·refine⟨_,h.set hk hs q5 ?_ ?_ (fun x hx=>?_) (fun x hx=>.inl ?_) ?_⟩
    ·rw[q3];exact Z2q _ _
    ·rw[q3];exact Z1E _ _
    ·rw[List.take_length,q4];have:S.ad.take s=(S.ad.take q).take s:=by rw[List.take_take,Nat.min_eq_left q1]
     rw[this]at hx;exact List.mem_of_mem_take hx
    ·have:=q5.mem.1 hx;rw[q4]at this;exact hst.mem.2 (List.mem_of_mem_take this)
    ·have e5:(crS S a.keep a.flip a.idx).1.id=S.id:=by rw[q3];exact Z1E _ _
     rw[e5];have e6:(crS S a.keep a.flip a.idx).1.c=((Zj.new S.f S.id).adds (S.ad.take q)).c:=by rw[q3];rfl
     rw[e6];have e7:S.c=((Zj.new S.f S.id).adds (S.ad.take q ++ S.ad.drop q)).c:=by rw[List.take_append_drop];exact hst.cc
     rw[Z7m]at e7;have:=Z5i (S.ad.drop q) ((Zj.new S.f S.id).adds (S.ad.take q)) S.id;rw[<-e7]at this;omega
 ·exact⟨ss,h.mono (Nat.le_succ _)⟩
end
theorem YR.new {f:Yg}{n:Nat}(hv:f.valid=true)(hn:1<=n/\n<=8):YR (ZM.new f n) (List.replicate n 0) 0:=by
 have hg : ∀(k:Nat) (S:Zj),(ZM.new f n).hs[k]? = some S->k < n/\S=Zj.new f ((k:Int)+1):=fun k S h=>by
  unfold ZM.new at h;simp only[List.getElem?_map]at h;rcases Nat.lt_or_ge k n with hk | hk
  ·rw[List.getElem?_range hk]at h;cases h;exact⟨hk,rfl⟩
  ·rw[List.getElem?_eq_none (by rw[List.length_range];exact hk)]at h;cases h
 refine⟨hv,by simpa [ZM.new] using hn,fun k S h=>?_,fun k S x h hx=>?_,fun m hm=>(by cases hm),Nat.zero_le _,?_⟩
 ·obtain⟨hk,rfl⟩:=hg k S h;exact⟨0,by rw[List.getElem?_replicate,if_pos hk],VS.new hv (by omega),rfl,rfl⟩
 ·obtain⟨hk,rfl⟩:=hg k S h;cases hx
 ·have : ∀(l:List Nat),((l.map fun(i:Nat)=>Zj.new f ((i:Int)+1)).map fun S=>S.c S.id).sum=0:=fun l=>by
   induction l with
   | nil=>rfl
   | cons i l ih=>rw[List.map_cons,List.map_cons,List.sum_cons,ih];rfl
  exact Nat.le_of_eq (this _)
theorem Z8D: ∀(n:Nat) (l:List Z8),(∀x∈l,1<=x.house/\x.house<=n)->l.length<=((List.range n).map fun(j:Nat)=>Ql l ((j:Int)+1)).sum
 | 0,l,h=>by
  cases l with
  | nil=>simp
  | cons x l=>have:=h x (List.mem_cons_self ..);omega
 | n+1,l,h=>by
  have ih:=Z8D n (l.filter (fun x=>!decide (x.house=(n:Int)+1))) (fun x hx=>by
   rw[List.mem_filter]at hx
   have h1:=h x hx.1
   have h2:x.house≠(n:Int)+1:=by simpa using hx.2
   omega)
  rw[List.range_succ,List.map_append,List.sum_append]
  have h1:l.length=l.countP (fun x=>decide (x.house=(n:Int)+1))+(l.filter (fun x=>!decide (x.house=(n:Int)+1))).length:=by
   rw[List.length_eq_countP_add_countP (fun x=>decide (x.house=(n:Int)+1)),<-List.countP_eq_length_filter];congr 1;refine List.countP_congr fun x _=>?_;by_cases e:x.house=(n:Int)+1 <;> simp[e]
  have h2:((List.range n).map fun(j:Nat)=>Ql (l.filter (fun x=>!decide (x.house=(n:Int)+1))) ((j:Int)+1)).sum<=((List.range n).map fun(j:Nat)=>Ql l ((j:Int)+1)).sum:=by
   have hm : ∀j,Ql (l.filter (fun x=>!decide (x.house=(n:Int)+1))) ((j:Int)+1)<=Ql l ((j:Int)+1):=fun j=>List.filter_sublist.countP_le;generalize List.range n=r
   induction r with
   | nil=>exact Nat.le_refl _
   | cons j r ihr=>rw[List.map_cons,List.map_cons,List.sum_cons,List.sum_cons];have:=hm j;omega
  have h3:Ql l ((n:Int)+1)=l.countP (fun x=>decide (x.house=(n:Int)+1)):=rfl;simp only[List.map_cons,List.map_nil,List.sum_cons,List.sum_nil];omega
theorem Z9a {A:Type}(g:Zj->A)(d:A): ∀(l:List Zj),l.map g=(List.range l.length).map fun j=>((l[j]?).map g).getD d:=fun l=>by
 refine List.ext_getElem? fun i=>?_
 rw[List.getElem?_map,List.getElem?_map]
 rcases Nat.lt_or_ge i l.length with hi | hi
 ·rw[List.getElem?_range hi,List.getElem?_eq_getElem hi]
  simp[List.getElem?_eq_getElem hi]
 ·rw[List.getElem?_eq_none hi,List.getElem?_eq_none (by rw[List.length_range];exact hi)]
  rfl
theorem YR.cle {W:ZM}{ss:List Nat}{T:Nat}(h:YR W ss T){k j:Nat}{S R:Zj}(hk:W.hs[k]? = some S)(hj:W.hs[j]? = some R):S.c ((j:Int)+1)<=R.c ((j:Int)+1):=by
 by_cases h0:S.c ((j:Int)+1)=0
 ·omega
 ·obtain⟨x,hx,e⟩:=((h.st' hk).1.nms ((j:Int)+1) (S.c ((j:Int)+1):Int)).2 ⟨by omega,Int.le_refl _⟩;obtain⟨i,R',g1,g2,g3⟩:=h.named hk hx;have h2:x.house=(j:Int)+1/\x.num=(S.c ((j:Int)+1):Int):=by simpa [Zn] using e
  have:i=j:=by omega
  subst this;rw[hj]at g2;cases g2;have:=((h.st' hj).1.nms ((i:Int)+1) (S.c ((i:Int)+1):Int)).1 ⟨x,g3,e⟩;omega
theorem YR.len {W:ZM}{ss:List Nat}{T:Nat}(h:YR W ss T){k:Nat}{S:Zj}(hk:W.hs[k]? = some S):S.l.length<=T:=by
 have hi:=h.st' hk;refine Nat.le_trans (Z8D W.hs.length S.l (fun x hx=>by
  obtain⟨j,R,g1,g2,g3⟩:=h.named hk hx;have:=(List.getElem?_eq_some_iff.1 g2).1;omega)) (Nat.le_trans ?_ h.tot)
 unfold Z3t;rw[Z9a (fun S=>S.c S.id) 0 W.hs];have hm : ∀j,j < W.hs.length->Ql S.l ((j:Int)+1)<=((W.hs[j]?).map (fun S=>S.c S.id)).getD 0:=fun j hj=>by
  rw[List.getElem?_eq_getElem hj];have e:=List.getElem?_eq_getElem hj;rw[Z2L hi.1.nms hi.1.nodup];show _<=W.hs[j].c W.hs[j].id;rw[(h.st' e).2.2];exact h.cle hk e
 have hl : ∀j∈List.range W.hs.length,j < W.hs.length:=fun j hj=>List.mem_range.1 hj;generalize List.range W.hs.length=r at *
 induction r with
 | nil=>exact Nat.le_refl _
 | cons j r ihr=>
  rw[List.map_cons,List.map_cons,List.sum_cons,List.sum_cons];have a1:=hm j (hl j (List.mem_cons_self ..));have a2:=ihr (fun i hi=>hl i (List.mem_cons_of_mem _ hi));omega
def Z04 (w:World)(p:Nat)(F:Nat->Prop)(S:Zj):Prop := ∃mb sp G SF,Yp w p mb sp G SF S /\ ∀k,F k↔Yw p mb G SF k
structure Q9 (PH:World->Nat->(Nat->Prop)->Zj->Prop):Prop where
 same : ∀{w w':World} {p:Nat} {F:Nat->Prop} {S:Zj} {X:Nat->Prop},PH w p F S->Zb X w w'->(∀k,X k -> ¬F k)->PH w' p F S
 lt : ∀{w:World} {p:Nat} {F:Nat->Prop} {S:Zj},PH w p F S -> ∀k,F k->k < w.heap.size
theorem Zk:Q9 Z04:=
 ⟨fun {w w' p F S X} h hs hd=>by
  obtain⟨mb,sp,G,SF,h1,h2⟩:=h
  exact⟨mb,sp,G,SF,h1.same hs (fun k hk hF=>hd k hk ((h2 k).2 hF)),h2⟩,
  fun {w p F S} h k hk=>by
  obtain⟨mb,sp,G,SF,h1,h2⟩:=h
  exact h1.lt k ((h2 k).1 hk)⟩
def Z4J (PH:World->Nat->(Nat->Prop)->Zj->Prop)(w:World)(p:Nat)(F:Nat->Prop)(S':Zj)(W:World):Prop := ∃F',PH W p F' S'/\Zb F w W /\ ∀k,F' k->F k\/w.heap.size<=k
def Z03 (Fs:List (Nat->Prop)):Nat->Prop:=fun k=>∃(i:Nat) (F:Nat->Prop),Fs[i]? = some F/\F k
structure UL (PH:World->Nat->(Nat->Prop)->Zj->Prop)(w:World)(ps:List Nat)(Fs:List (Nat->Prop))(Ss:List Zj):Prop where
 len:Fs.length=ps.length/\Ss.length=ps.length
 hou : ∀(i p:Nat) (F:Nat->Prop) (S:Zj),ps[i]? = some p->Fs[i]? = some F->Ss[i]? = some S->PH w p F S
 dis : ∀(i j:Nat) (F G:Nat->Prop),i≠j->Fs[i]? = some F->Fs[j]? = some G -> ∀k,F k -> ¬G k
section
variable {PH:World->Nat->(Nat->Prop)->Zj->Prop}{w w':World}{ps:List Nat}{Fs:List (Nat->Prop)}{Ss:List Zj}
theorem UL.get (h:UL PH w ps Fs Ss){i:Nat}{S:Zj}(hi:Ss[i]? = some S): ∃p F,ps[i]? = some p/\Fs[i]? = some F/\PH w p F S:=by
 have hl:=(List.getElem?_eq_some_iff.1 hi).1;have h1:=h.len;have e1:=List.getElem?_eq_getElem (l:=ps) (i:=i) (by omega);have e2:=List.getElem?_eq_getElem (l:=Fs) (i:=i) (by omega);exact⟨_,_,e1,e2,h.hou i _ _ S e1 e2 hi⟩
theorem UL.nil (w:World):UL PH w [] [] []:=⟨⟨rfl,rfl⟩,fun i p F S h=>by simp at h,fun i j F G _ h=>by simp at h⟩
theorem UL.lt (hp:Q9 PH)(h:UL PH w ps Fs Ss): ∀k,Z03 Fs k->k < w.heap.size:=by
 rintro k ⟨i,F,h1,h2⟩;have hl:=(List.getElem?_eq_some_iff.1 h1).1;have h3:=h.len;exact hp.lt (h.hou i _ F _ (List.getElem?_eq_getElem (by omega)) h1 (List.getElem?_eq_getElem (by omega))) k h2
theorem UL.same (hp:Q9 PH){X:Nat->Prop}(h:UL PH w ps Fs Ss)(hs:Zb X w w')(hd : ∀k,X k -> ¬Z03 Fs k):UL PH w' ps Fs Ss:=
 ⟨h.len,fun i p F S h1 h2 h3=>hp.same (h.hou i p F S h1 h2 h3) hs (fun k hk hF=>hd k hk ⟨i,F,h2,hF⟩),h.dis⟩
theorem UL.below (hp:Q9 PH)(h:UL PH w ps Fs Ss)(hb:Below w.heap.size w w'):UL PH w' ps Fs Ss:=h.same hp (X:=fun _=>False) (Zb.of_below hb) (fun _ e=>e.elim)
theorem UL.upd (hp:Q9 PH)(h:UL PH w ps Fs Ss){i p:Nat}{F F':Nat->Prop}{S':Zj}(h1:ps[i]? = some p)(h2:Fs[i]? = some F)(h':PH w' p F' S')(hs:Zb F w w')(hn : ∀k,F' k->F k\/w.heap.size<=k):
  UL PH w' ps (Fs.set i F') (Ss.set i S') /\ ∀k,Z03 (Fs.set i F') k->Z03 Fs k\/w.heap.size<=k:=by
 have hil:=(List.getElem?_eq_some_iff.1 h2).1;have hlt:=h.lt hp;have hl:=h.len;refine⟨⟨by simpa using h.len,fun j q G R g1 g2 g3=>?_,fun j l G K hjl g1 g2 k hG hK=>?_⟩,?_⟩
 ·by_cases e:i=j
  ·subst e;rw[List.getElem?_set_self hil]at g2;rw[List.getElem?_set_self (by omega)]at g3;rw[h1]at g1;cases g1;cases g2;cases g3;exact h'
  ·rw[List.getElem?_set_ne e]at g2 g3;exact hp.same (h.hou j q G R g1 g2 g3) hs (fun k hk hG=>h.dis i j F G e h2 g2 k hk hG)
 ·by_cases e:i=j
  ·subst e;rw[List.getElem?_set_self hil]at g1;cases g1;rw[List.getElem?_set_ne hjl]at g2;rcases hn k hG with h5 | h5
   ·exact h.dis i l F K hjl h2 g2 k h5 hK
   ·have:=hlt k ⟨l,K,g2,hK⟩;omega
  ·rw[List.getElem?_set_ne e]at g1;by_cases e2:i=l
   ·subst e2;rw[List.getElem?_set_self hil]at g2;cases g2;rcases hn k hK with h5 | h5
    ·exact h.dis j i G F hjl g1 h2 k hG h5
    ·have:=hlt k ⟨j,G,g1,hG⟩;omega
   ·rw[List.getElem?_set_ne e2]at g2;exact h.dis j l G K hjl g1 g2 k hG hK
 ·rintro k ⟨j,G,g1,g2⟩;by_cases e:i=j
  ·subst e;rw[List.getElem?_set_self hil]at g1;cases g1;exact(hn k g2).imp (fun h5=>⟨i,F,h2,h5⟩) id
  ·rw[List.getElem?_set_ne e]at g1;exact .inl ⟨j,G,g1,g2⟩
theorem UL.push (hp:Q9 PH)(h:UL PH w ps Fs Ss){p:Nat}{F:Nat->Prop}{S:Zj}(hb:Below w.heap.size w w')(h':PH w' p F S)(hn : ∀k,F k->w.heap.size<=k):UL PH w' (ps ++ [p]) (Fs ++ [F]) (Ss ++ [S]) /\ ∀k,Z03 (Fs ++ [F]) k->Z03 Fs k\/w.heap.size<=k:=by
 have hlt:=h.lt hp;have hk:=h.below hp hb;obtain⟨l1,l2⟩:=h.len;have hg : ∀{A:Type} (l:List A) (x:A) (i:Nat) (y:A),(l ++ [x])[i]? = some y->(i < l.length/\l[i]? = some y)\/(i=l.length/\y=x):=fun {A} l x i y e=>by
  rcases Nat.lt_or_ge i l.length with hi | hi
  ·rw[List.getElem?_append_left hi]at e;exact .inl ⟨hi,e⟩
  ·rw[List.getElem?_append_right hi]at e;have h0:i - l.length=0:=by
    have:=(List.getElem?_eq_some_iff.1 e).1;simp at this;omega
   rw[h0]at e;simp at e;exact .inr ⟨by omega,e.symm⟩
 refine⟨⟨by simp[l1,l2],fun i q G R g1 g2 g3=>?_,fun i j G K hij g1 g2 k hG hK=>?_⟩,?_⟩
 ·rcases hg _ _ _ _ g1 with ⟨a1,b1⟩ | ⟨a1,b1⟩ <;> rcases hg _ _ _ _ g2 with ⟨a2,b2⟩ | ⟨a2,b2⟩ <;> rcases hg _ _ _ _ g3 with ⟨a3,b3⟩ | ⟨a3,b3⟩ <;> first | omega | skip
  ·exact hk.hou i q G R b1 b2 b3
  ·rw[b1,b2,b3];exact h'
 ·rcases hg _ _ _ _ g1 with ⟨a1,b1⟩ | ⟨a1,b1⟩ <;> rcases hg _ _ _ _ g2 with ⟨a2,b2⟩ | ⟨a2,b2⟩
  ·exact h.dis i j G K hij b1 b2 k hG hK
  ·subst b2;have:=hlt k ⟨i,G,b1,hG⟩;have:=hn k hK;omega
  ·subst b1;have:=hlt k ⟨j,K,b2,hK⟩;have:=hn k hG;omega
  ·omega
 ·rintro k ⟨i,G,g1,g2⟩;rcases hg _ _ _ _ g1 with ⟨a1,b1⟩ | ⟨a1,b1⟩
  ·exact .inl ⟨i,G,b1,g2⟩
  ·subst b1;exact .inr (hn k g2)
end
structure LM where
 m:MlV
 a:zA
 c:Nat
def LM.val (x:LM):Value := .slice x.a x.m.body.length x.c
def LM.cells (x:LM):List Value:=[.int .i64 x.m.frm,.int .i64 x.m.to,x.val]
def ZD (l:List LM):List Value:=l.flatMap LM.cells
theorem QS (l:List LM):(ZD l).length=l.length * 3:=by
 induction l with
 | nil=>rfl
 | cons x l ih=>show(LM.cells x ++ ZD l).length=_;rw[List.length_append,ih,List.length_cons];show 3+_=_;omega
theorem Z2F (l m:List LM):ZD (l ++ m)=ZD l ++ ZD m:=by simp[ZD]
theorem Z6L (x:LM):ZD [x]=x.cells:=by simp[ZD]
theorem Z5J (l:List LM): ∀v∈ZD l,v.oneCell'=true:=by
 intro v hv;obtain⟨x,_,hv⟩:=List.mem_flatMap.1 hv;simp only[LM.cells,LM.val,List.mem_cons,List.not_mem_nil,or_false]at hv;rcases hv with rfl | rfl | rfl <;> rfl
theorem ZaR: ∀(l:List LM) (q:Nat),(ZD l).take (q * 3)=ZD (l.take q)
 | [],q=>by simp[ZD]
 | x :: l,0=>by simp[ZD]
 | x :: l,q+1=>by
  show(x.cells ++ ZD l).take ((q+1) * 3)=x.cells ++ ZD (l.take q)
  rw[List.take_append,show(q+1) * 3 - x.cells.length=q * 3 by show _ - 3=_;omega,ZaR l q,List.take_of_length_le (by show 3<=_;omega)]
theorem ZaS: ∀(l:List LM) (q:Nat),(ZD l).drop (q * 3)=ZD (l.drop q)
 | [],q=>by simp[ZD]
 | x :: l,0=>by simp
 | x :: l,q+1=>by
  show(x.cells ++ ZD l).drop ((q+1) * 3)=ZD (l.drop q)
  rw[List.drop_append,show(q+1) * 3 - x.cells.length=q * 3 by show _ - 3=_;omega,ZaS l q,List.drop_of_length_le (by show 3<=_;omega)]
  rfl
theorem Z15: ∀{l:List LM} {i:Nat} {x:LM},l[i]? = some x -> ∀(j:Nat) (v:Value),x.cells[j]? = some v->(ZD l)[i * 3+j]? = some v
 | [],i,x,h,_,_,_=>by simp at h
 | y :: l,0,x,h,j,v,hv=>by
  simp at h
  subst h
  have hj:j < 3:=(List.getElem?_eq_some_iff.1 hv).1
  show(y.cells ++ ZD l)[0 * 3+j]? = _
  rw[List.getElem?_append_left (by show _ < 3;omega),Nat.zero_mul,Nat.zero_add]
  exact hv
 | y :: l,i+1,x,h,j,v,hv=>by
  show(y.cells ++ ZD l)[(i+1) * 3+j]? = _
  rw[List.getElem?_append_right (by show 3<=_;omega),show(i+1) * 3+j - y.cells.length=i * 3+j by show _ - 3=_;omega]
  exact Z15 (l:=l) (by simpa using h) j v hv
structure Up (PH:World->Nat->(Nat->Prop)->Zj->Prop)(tW tH:TypeId)(bf:Value->Value->ZW)(w:World)(p:Nat)(ps:List Nat)(Fs:List (Nat->Prop))(ha:zA)(hc:Nat)(xs:List LM)(ma:zA)(mc:Nat)(V:ZM):Prop where
 blk:w.heap[p]? = some (.cells (bf (.slice ha ps.length hc) (.slice ma xs.length mc)) tW (0,0))
 hrow:w.ownsRow 0 tH 1 (.slice ha ps.length hc) ps.length (ps.map fun q=>.pointer (some ⟨q,0,none⟩))
 hs:UL PH w ps Fs V.hs
 mrow:w.ownsRow 0 152 3 (.slice ma xs.length mc) xs.length (ZD xs)
 mls:xs.map LM.m=V.ms
 bod : ∀x∈xs,w.ownsRow 0 5 1 x.val x.m.body.length (x.m.body.map Zr)
 sp : ¬Z03 Fs p
 sh : ∀k,Z03 Fs k->Value.ownBlock (.slice ha ps.length hc)≠some k
 sm : ∀k,Z03 Fs k->Value.ownBlock (.slice ma xs.length mc)≠some k
 sb : ∀k,Z03 Fs k -> ∀x∈xs,x.val.ownBlock≠some k
def wF (p:Nat)(Fs:List (Nat->Prop))(ha:zA)(hn hc:Nat)(xs:List LM)(ma:zA)(mc:Nat):Nat->Prop:=fun k=>k=p\/Value.ownBlock (.slice ha hn hc)=some k\/Z03 Fs k\/Value.ownBlock (.slice ma xs.length mc)=some k \/ ∃x∈xs,x.val.ownBlock=some k
section
variable {PH:World->Nat->(Nat->Prop)->Zj->Prop}{tW tH:TypeId}{bf:Value->Value->ZW}{w w':World}{p:Nat}{ps:List Nat}{Fs:List (Nat->Prop)}{ha:zA}{hc:Nat}{xs:List LM}{ma:zA}{mc:Nat}{V:ZM}
theorem Up.nh (h:Up PH tW tH bf w p ps Fs ha hc xs ma mc V):V.hs.length=ps.length:=h.hs.len.2
theorem Up.nm (h:Up PH tW tH bf w p ps Fs ha hc xs ma mc V):V.ms.length=xs.length:=by rw[<-h.mls,List.length_map]
theorem Up.same (hp:Q9 PH){X:Nat->Prop}(h:Up PH tW tH bf w p ps Fs ha hc xs ma mc V)(hs:Zb X w w')(hd : ∀k,X k -> ¬wF p Fs ha ps.length hc xs ma mc k):Up PH tW tH bf w' p ps Fs ha hc xs ma mc V:=
 ⟨(hs.block p (Zi h.blk) (fun hX=>hd p hX (.inl rfl))).trans h.blk,Ze h.hrow hs (fun b hb hX=>hd b hX (.inr (.inl hb))),h.hs.same hp hs (fun k hk hF=>hd k hk (.inr (.inr (.inl hF)))),
  Ze h.mrow hs (fun b hb hX=>hd b hX (.inr (.inr (.inr (.inl hb))))),h.mls,fun x hx=>Ze (h.bod x hx) hs (fun b hb hX=>hd b hX (.inr (.inr (.inr (.inr ⟨x,hx,hb⟩))))),h.sp,h.sh,h.sm,h.sb⟩
theorem Up.below (hp:Q9 PH)(h:Up PH tW tH bf w p ps Fs ha hc xs ma mc V)(hb:Below w.heap.size w w'):Up PH tW tH bf w' p ps Fs ha hc xs ma mc V:=h.same hp (X:=fun _=>False) (Zb.of_below hb) (fun _ e=>e.elim)
theorem Up.lt (hp:Q9 PH)(h:Up PH tW tH bf w p ps Fs ha hc xs ma mc V): ∀k,wF p Fs ha ps.length hc xs ma mc k->k < w.heap.size:=by
 rintro k (rfl | h1 | h1 | h1 | ⟨x,hx,h1⟩)
 ·exact Zi h.blk
 ·exact(h.hrow.lt k h1).2
 ·exact h.hs.lt hp k h1
 ·exact(h.mrow.lt k h1).2
 ·exact((h.bod x hx).lt k h1).2
theorem Up.house (hp:Q9 PH)(h:Up PH tW tH bf w p ps Fs ha hc xs ma mc V){i q:Nat}{F:Nat->Prop}{S':Zj}(h1:ps[i]? = some q)(h2:Fs[i]? = some F)(hr:Z4J PH w q F S' w'):
  ∃Fs',Up PH tW tH bf w' p ps Fs' ha hc xs ma mc { V with hs:=V.hs.set i S' } /\ Zb (Z03 Fs) w w'/\(∀k,wF p Fs' ha ps.length hc xs ma mc k->wF p Fs ha ps.length hc xs ma mc k\/w.heap.size<=k):=by
 obtain⟨F',g1,g2,g3⟩:=hr;obtain⟨u1,u2⟩:=h.hs.upd hp h1 h2 g1 g2 g3;have hS:Zb (Z03 Fs) w w':=g2.weaken (fun k hk=>⟨i,F,h2,hk⟩);refine⟨Fs.set i F',⟨(hS.block p (Zi h.blk) h.sp).trans h.blk,Ze h.hrow hS (fun b hb hX=>h.sh b hX hb),u1,Ze h.mrow hS (fun b hb hX=>h.sm b hX hb),h.mls,
  fun x hx=>Ze (h.bod x hx) hS (fun b hb hX=>h.sb b hX x hx hb),fun hk=>?_,fun k hk hb=>?_,fun k hk hb=>?_,fun k hk x hx hb=>?_⟩,hS,?_⟩
 ·rcases u2 p hk with h5 | h5
  ·exact h.sp h5
  ·have:=Zi h.blk;omega
 ·rcases u2 k hk with h5 | h5
  ·exact h.sh k h5 hb
  ·have:=(h.hrow.lt k hb).2;omega
 ·rcases u2 k hk with h5 | h5
  ·exact h.sm k h5 hb
  ·have:=(h.mrow.lt k hb).2;omega
 ·rcases u2 k hk with h5 | h5
  ·exact h.sb k h5 x hx hb
  ·have:=((h.bod x hx).lt k hb).2;omega
 ·rintro k (e | e | e | e | e)
  ·exact .inl (.inl e)
  ·exact .inl (.inr (.inl e))
  ·exact(u2 k e).imp (fun e=>.inr (.inr (.inl e))) id
  ·exact .inl (.inr (.inr (.inr (.inl e))))
  ·exact .inl (.inr (.inr (.inr (.inr e))))
theorem Up.mail (hp:Q9 PH)(h:Up PH tW tH bf w p ps Fs ha hc xs ma mc V){X:Nat->Prop}{xs':List LM}{ma':zA}{mc':Nat}(hs:Zb X w w')(hX : ∀k,X k -> ¬Z03 Fs k/\Value.ownBlock (.slice ha ps.length hc)≠some k)
  (hb:w'.heap[p]? = some (.cells (bf (.slice ha ps.length hc) (.slice ma' xs'.length mc')) tW (0,0))) (hm:w'.ownsRow 0 152 3 (.slice ma' xs'.length mc') xs'.length (ZD xs')) (hB : ∀x∈xs',w'.ownsRow 0 5 1 x.val x.m.body.length (x.m.body.map Zr))
  (hn : ∀k,(Value.ownBlock (.slice ma' xs'.length mc')=some k \/ ∃x∈xs',x.val.ownBlock=some k)->w.heap.size<=k\/Value.ownBlock (.slice ma xs.length mc)=some k \/ ∃x∈xs,x.val.ownBlock=some k):
  Up PH tW tH bf w' p ps Fs ha hc xs' ma' mc' { V with ms:=xs'.map LM.m } /\ (∀k,wF p Fs ha ps.length hc xs' ma' mc' k->wF p Fs ha ps.length hc xs ma mc k\/w.heap.size<=k):=by
 have hL:=h.hs.lt hp;have hno : ∀k,Z03 Fs k -> ¬(Value.ownBlock (.slice ma' xs'.length mc')=some k \/ ∃x∈xs',x.val.ownBlock=some k):=fun k hk e=>by
  rcases hn k e with h5 | h5 | ⟨x,hx,h5⟩
  ·have:=hL k hk;omega
  ·exact h.sm k hk h5
  ·exact h.sb k hk x hx h5
 refine⟨⟨hb,Ze h.hrow hs (fun b hb hk=>(hX b hk).2 hb),h.hs.same hp hs (fun k hk=>(hX k hk).1),hm,rfl,hB,h.sp,h.sh,fun k hk e=>hno k hk (.inl e),fun k hk x hx e=>hno k hk (.inr ⟨x,hx,e⟩)⟩,?_⟩;have ho : ∀k,(Value.ownBlock (.slice ma' xs'.length mc')=some k \/ ∃x∈xs',x.val.ownBlock=some k)->wF p Fs ha ps.length hc xs ma mc k\/w.heap.size<=k:=fun k e=>by
  rcases hn k e with h5 | h5 | h5
  ·exact .inr h5
  ·exact .inl (.inr (.inr (.inr (.inl h5))))
  ·exact .inl (.inr (.inr (.inr (.inr h5))))
 rintro k (e | e | e | e | e)
 ·exact .inl (.inl e)
 ·exact .inl (.inr (.inl e))
 ·exact .inl (.inr (.inr (.inl e)))
 ·exact ho k (.inl e)
 ·exact ho k (.inr e)
end
def Wld (PH:World->Nat->(Nat->Prop)->Zj->Prop)(tW tH:TypeId)(bf:Value->Value->ZW)(w:World)(p:Nat)(F:Nat->Prop)(V:ZM):Prop := ∃ps Fs ha hc xs ma mc,Up PH tW tH bf w p ps Fs ha hc xs ma mc V /\ ∀k,F k↔wF p Fs ha ps.length hc xs ma mc k
def Qs (PH:World->Nat->(Nat->Prop)->Zj->Prop)(tW tH:TypeId)(bf:Value->Value->ZW)(w:World)(p:Nat)(F:Nat->Prop)(V':ZM)(W:World):Prop := ∃F',Wld PH tW tH bf W p F' V'/\Zb F w W /\ ∀k,F' k->F k\/w.heap.size<=k
def bfP (h m:Value):ZW := #[h,m]
abbrev VR:=Wld Z04 141 27 bfP
abbrev Yv:=Qs Z04 141 27 bfP
section
variable {PH:World->Nat->(Nat->Prop)->Zj->Prop}{tW tH:TypeId}{bf:Value->Value->ZW}{w w':World}{p:Nat}{F:Nat->Prop}{V:ZM}
theorem Wld.same (hp:Q9 PH){X:Nat->Prop}(h:Wld PH tW tH bf w p F V)(hs:Zb X w w')(hd : ∀k,X k -> ¬F k):Wld PH tW tH bf w' p F V:=by
 obtain⟨ps,Fs,ha,hc,xs,ma,mc,h1,h2⟩:=h;exact⟨ps,Fs,ha,hc,xs,ma,mc,h1.same hp hs (fun k hk hF=>hd k hk ((h2 k).2 hF)),h2⟩
theorem Wld.below (hp:Q9 PH)(h:Wld PH tW tH bf w p F V)(hb:Below w.heap.size w w'):Wld PH tW tH bf w' p F V:=h.same hp (X:=fun _=>False) (Zb.of_below hb) (fun _ e=>e.elim)
theorem Wld.lt (hp:Q9 PH)(h:Wld PH tW tH bf w p F V): ∀k,F k->k < w.heap.size:=by
 obtain⟨ps,Fs,ha,hc,xs,ma,mc,h1,h2⟩:=h;exact fun k hk=>h1.lt hp k ((h2 k).1 hk)
theorem Qs.after {w0:World}{V':ZM}(h:Qs PH tW tH bf w p F V' w')(hb:Below w0.heap.size w0 w):Qs PH tW tH bf w0 p F V' w':=by
 obtain⟨F',h1,h2,h3⟩:=h;exact⟨F',h1,(Zb.of_below hb).trans h2,fun k hk=>(h3 k hk).imp id (fun e=>Nat.le_trans hb.size e)⟩
theorem Qs.then {w2:World}{V':ZM}(hp:Q9 PH)(h:Qs PH tW tH bf w p F V' w')(hb:Below w'.heap.size w' w2):Qs PH tW tH bf w p F V' w2:=by
 obtain⟨F',h1,h2,h3⟩:=h;exact⟨F',h1.below hp hb,h2.trans (Zb.of_below hb),h3⟩
theorem Qs.refl (h:Wld PH tW tH bf w p F V):Qs PH tW tH bf w p F V w:=⟨F,h,Zb.refl _ _,fun k hk=>.inl hk⟩
end
theorem ZcD {W:World}{k:Nat}{a:zA}{n c:Nat}{xs:List Value}(h:Y3 W k a n c xs)(h0:0 < n): ∃b off,a=some ⟨b,off,none⟩ /\ ∀i x,xs[i]? = some x->W.cell? ⟨b,off+i,none⟩=some x:=h.at h0
theorem Up.at {PH:World->Nat->(Nat->Prop)->Zj->Prop}{tW tH:TypeId}{bf:Value->Value->ZW}{w:World}{p:Nat}{ps:List Nat}{Fs:List (Nat->Prop)}{ha:zA}{hc:Nat}{xs:List LM}{ma:zA}{mc:Nat}{V:ZM}
  (h:Up PH tW tH bf w p ps Fs ha hc xs ma mc V) {i:Int} {S:Zj} (hi:Yi V i=some S) : ∃(k q:Nat) (F:Nat->Prop),i=(k:Int)+1/\(i - 1).toNat=k/\ps[k]? = some q/\Fs[k]? = some F/\PH w q F S/\V.hs[k]? = some S:=by
 obtain⟨k,h1,h2,h3⟩:=Yu hi;obtain⟨q,F,g1,g2,g3⟩:=h.hs.get h3;exact⟨k,q,F,h1,h2,g1,g2,g3,h3⟩
theorem Up.ret {PH:World->Nat->(Nat->Prop)->Zj->Prop}{tW tH:TypeId}{bf:Value->Value->ZW}{w w':World}{p:Nat}{ps:List Nat}{Fs:List (Nat->Prop)}{ha:zA}{hc:Nat}{xs:List LM}{ma:zA}{mc:Nat}{V:ZM}(hp:Q9 PH)
  (h:Up PH tW tH bf w p ps Fs ha hc xs ma mc V) {i:Int} {k q:Nat} {F:Nat->Prop} {S':Zj} (e:(i - 1).toNat=k) (h1:ps[k]? = some q) (h2:Fs[k]? = some F) (hr:Z4J PH w q F S' w'):
  Qs PH tW tH bf w p (wF p Fs ha ps.length hc xs ma mc) (JC V i S') w':=by
 obtain⟨Fs',g1,g2,g3⟩:=h.house hp h1 h2 hr;rw[U5 e];exact⟨_,⟨ps,Fs',ha,hc,xs,ma,mc,g1,fun k=>Iff.rfl⟩,g2.weaken (fun k hk=>.inr (.inr (.inl hk))),g3⟩
theorem Wld.open {PH:World->Nat->(Nat->Prop)->Zj->Prop}{tW tH:TypeId}{bf:Value->Value->ZW}{w:World}{p:Nat}{F:Nat->Prop}{V:ZM}(h:Wld PH tW tH bf w p F V):
  ∃ps Fs ha hc xs ma mc,Up PH tW tH bf w p ps Fs ha hc xs ma mc V/\F=wF p Fs ha ps.length hc xs ma mc:=by
 obtain⟨ps,Fs,ha,hc,xs,ma,mc,h1,h2⟩:=h;exact⟨ps,Fs,ha,hc,xs,ma,mc,h1,funext fun k=>propext (h2 k)⟩
def XA.cells (a:XA)(sa:zA)(sc:Nat):List Value:=[.int .i64 a.kind,.int .i64 a.house,.int .i64 a.to,.int .i64 a.idx] ++ (a.note.cells sa sc ++ [.int .i64 a.keep,.int .i64 a.flip])
section
variable {w:World}{p:Nat}{ps:List Nat}{Fs:List (Nat->Prop)}{ha:zA}{hc:Nat}{xs:List LM}{ma:zA}{mc:Nat}{V:ZM}
theorem Xf (h:Up Z04 141 27 bfP w p ps Fs ha hc xs ma mc V)(i:Int)(k q:Nat)(hik:i=(k:Int)+1)(hk:ps[k]? = some q):
  Calls zq 86 #[.pointer (some ⟨p,0,none⟩),.int .i64 i] w fun e w'=>e = .returned (.pointer (some ⟨q,0,none⟩))/\w'=w:=by
 have hkl:=(List.getElem?_eq_some_iff.1 hk).1;have hr:=Y3.of_own h.hrow;have hmx:=hr.maxn;have c0:=Z6 h.blk 0 (.slice ha ps.length hc) rfl;have J1:(zq.info? 27).map (·.size)=some 1:=by kernel_rfl
 obtain⟨b,off,rfl,hat⟩:=hr.at (by omega);have hcl:=hat k (.pointer (some ⟨q,0,none⟩)) (by rw[List.getElem?_map,hk];rfl);have hix:=fun W=>Yk (W:=W) (c:=hc) (b:=b) (off:=off) Tryz.underlying139 J1 hkl (by rw[Nat.mul_one]);have t1:decide (i < 1)=false:=by simp;omega
 have t2:decide ((ps.length:Int) < i)=false:=by simp;omega
 have E1:=zH (show wrap64 (i - 1)=(k:Int)by unfold wrap64;omega);clear h hr hat hmx hk hkl hik;go_enter Tryz.func86,Tryz.ntmps86;go_upto_region 3 with fail;have e1:=E1.out;go_wp2;go_ret;exact⟨rfl,rfl⟩
theorem Z05 (h:Up Z04 141 27 bfP w p ps Fs ha hc xs ma mc V)(i:Int)(hi:i < 1\/(ps.length:Int) < i):
  Calls zq 86 #[.pointer (some ⟨p,0,none⟩),.int .i64 i] w fun e w'=>e = .returned (.pointer none)/\w'=w:=by
 have c0:=Z6 h.blk 0 (.slice ha ps.length hc) rfl;by_cases h1:i < 1
 focus
  have t1:decide (i < 1)=true:=by simp;omega
 rotate_left
 focus
  have t1:decide (i < 1)=false:=by simp;omega
  have t2:decide ((ps.length:Int) < i)=true:=by simp;omega
 all_goals
  clear h hi h1;go_enter Tryz.func86,Tryz.ntmps86;go_wp2;go_ret;exact⟨rfl,rfl⟩
theorem Uu (h:Up Z04 141 27 bfP w p ps Fs ha hc xs ma mc V)(h0:0 < ps.length):
  Calls zq 85 #[.pointer (some ⟨p,0,none⟩)] w fun e w'=>e = .returned (.bool true)/\w'=w:=by
 have c0:=Z6 h.blk 0 (.slice ha ps.length hc) rfl;have T1:=zH (show decide (0 < ps.length)=true by simp;omega);clear h h0;go_enter Tryz.func85,Tryz.ntmps85;go_wp2;go_ret;refine⟨?_,rfl⟩;show Ending.returned (.bool (decide (0 < ps.length)))=_;rw[T1.out]
theorem Z0q (h:Up Z04 141 27 bfP w p ps Fs ha hc xs ma mc V):
  Calls zq 142 #[.pointer (some ⟨p,0,none⟩)] w fun e w'=>e = .returned (.bool (decide (64<=V.ms.length)))/\w'=w:=by
 have c0:=Z6 h.blk 1 (.slice ma xs.length mc) rfl;rw[h.nm];have e:decide (64<=xs.length)=decide ((64:Int)<=(xs.length:Int)):=by rw[decide_eq_decide];omega
 rw[e];clear h e;go_enter Tryz.func142,Tryz.ntmps142;go_wp2;go_ret;exact⟨rfl,rfl⟩
end
theorem Z8R (p:Nat)(F:Nat->Prop)(V:ZM)(a:XA)(sa:zA)(sc:Nat)(S:Zj)(w:World)(h:VR w p F V)(hS:Yi V a.house=some S):
  Calls zq 88 #[.pointer (some ⟨p,0,none⟩),.agg (a.cells sa sc).toArray] w fun e w'=>e = .returned (.int .i64 0)/\Yv w p F (JC V a.house S.sync) w':=by
 have b0:=zB w (.cells (a.cells sa sc).toArray 67);have C1:=zH (show(a.cells sa sc).toArray[1]? = some (.int .i64 a.house)from rfl);obtain⟨OA,hOA⟩:=zX ((a.cells sa sc).toArray);rw[hOA.out]at b0 C1 ⊢;have X0:=zH (Za w (.cells OA 67));have H0:=zH (h.below Zk b0);have B0:=zH b0;clear b0 hOA h;go_enter Tryz.func88,Tryz.ntmps88;go_upto_region 1 with fail;obtain⟨p3,hp3⟩:=zX (w.heap.size);rw[hp3.out]at X0 ⊢;generalize w.alloc (.cells OA 67)=W0 at *;obtain⟨ps,Fs,ha,hc,xs,ma,mc,h1,h2⟩:=H0.out.open;obtain⟨k,q,Fk,e1,e2,g1,g2,g3,g4⟩:=h1.at hS;have c1:=Z6 X0.out 1 (.int .i64 a.house) C1.out;have HH:=zH (Xf h1 a.house k q e1 g1);obtain⟨mb,sp,G,SF,k1,k2⟩:=g3;have HK:=zH k1;have FIN:Hid (∀w',Yp w' q mb sp G SF S.sync->Zb (fun k=>k=sp) W0 w'->Yv w p F (JC V a.house S.sync) w'):=zH (fun w' j1 j2=>by
  rw[h2];refine Qs.after (w:=W0) ?_ B0.out;refine h1.ret Zk e2 g1 g2 ⟨Fk,⟨mb,sp,G,SF,j1,k2⟩,j2.weaken (fun b hb=>(k2 b).2 ?_),fun b hb=>.inl hb⟩;rw[show b=sp from hb];exact .inr (.inr (.inl k1.stk.self)))
 clear h1 h2 k1 k2 g1 g2 g4 H0 hS e1 e2;go_wp2_with fail;refine HH.out.mono ?_;rintro e w1 ⟨rfl,rfl⟩;go_wp2_with fail;refine(Q7 q mb sp G SF S _ HK.out).mono ?_;rintro e w2 ⟨rfl,j1,j2⟩;have R:=zH (FIN.out _ j1 j2);clear j1 j2 c1;go_wp2;go_ret;exact⟨rfl,R.out⟩
def mz:List Value:=[.int .i64 0,.int .i64 0,.slice none 0 0]
theorem Z8k (w:World)(ty:TypeId)(g o c:Nat)(ht:w.there g o 3):
  (Builtin.clear_ #[89] ty #[.slice (some ⟨g,o,none⟩) 1 c]).run zq w = .ok (.tuple #[]) (w.setCells g o mz):=by
 have hst:=run_storeCells_cells (P:=zq) g o mz 0 w (fun j hj=>(ht j hj).1) (fun j hj=>(ht j hj).2) (by intro v hv;simp only[mz,List.mem_cons,List.not_mem_nil,or_false]at hv;rcases hv with rfl | rfl | rfl <;> rfl);simp only[Nat.add_zero]at hst;have hzn : ∀W,(zeroValue 152).run zq W = .ok (.agg #[.int .i64 0,.int .i64 0,.slice none 0 0]) W:=fun W=>by kernel_rfl
 have e:(Builtin.zeroCells #[.int .i64 0,.int .i64 0,.slice none 0 0] 1).toList=mz:=by kernel_rfl
 simp[Builtin.clear_,run_underlying Tryz.underlying89,hzn,Value.cells,e,hst]
theorem Z5D {w w':World}{base k n m c:Nat}{e:TypeId}{a:zA}{xs ys:List Value}{g:Nat}(h:w.ownsRow base e k (.slice a n c) n xs)(ha:a=some ⟨g,0,none⟩)(hm:m<=n)(hl:ys.length=m * k)
  (hb : ∀cur,w.heap[g]? = some (.cells cur e (0,0)) -> ∃cur',w'.heap[g]? = some (.cells cur' e (0,0))/\cur'.size=cur.size) (hc : ∀j v,ys[j]? = some v->w'.cell? ⟨g,j,none⟩=some v):w'.ownsRow base e k (.slice a m c) m ys:=by
 subst ha;refine⟨hl,.inr ?_⟩;rcases h.2 with ⟨h1,_⟩ | ⟨g',cap,cur,h1,h2,h3,h4,h5,h6,h7⟩
 ·cases h1
 ·cases h1;obtain⟨cur',e1,e2⟩:=hb cur h3;refine⟨g,c,cur',rfl,h2,e1,Nat.le_trans hm h4,h5,e2.trans h6,?_⟩;refine List.ext_getElem? fun j=>?_;rw[List.getElem?_take];split
  ·rename_i hj;have hj2:j < ys.length:=by omega
   have h8:=hc j _ (List.getElem?_eq_getElem hj2);rw[List.getElem?_eq_getElem hj2,<-h8];have hsz:j < cur'.size:=by
    rw[e2,h6];have:m * k<=c * k:=Nat.mul_le_mul_right _ (Nat.le_trans hm h4);omega
   simp[World.cell?,e1,hsz]
  ·rename_i hj;rw[List.getElem?_eq_none (by omega)]
theorem Z44 (xs:List LM)(i:Nat):ZD (xs.eraseIdx i)=ZD (xs.take i) ++ ZD (xs.drop (i+1)):=by
 rw[List.eraseIdx_eq_take_drop_succ,Z2F]
theorem Z9p (xs:List LM)(a:zA)(c i j:Nat)(hj:j=i+1)(w:World)(ho:w.ownsRow 0 152 3 (.slice a xs.length c) xs.length (ZD xs))(hi:i < xs.length):
  Calls zq 188 #[.slice a xs.length c,.int .i64 (i:Int),.int .i64 (j:Int)] w fun e w'=>e = .returned (.slice a (xs.length - 1) c) /\
   w'.ownsRow 0 152 3 (.slice a (xs.length - 1) c) (xs.length - 1) (ZD (xs.eraseIdx i))/\Zb (fun k=>Value.ownBlock (.slice a xs.length c)=some k) w w':=by
 obtain⟨g,rfl⟩ : ∃g,a=some ⟨g,0,none⟩:=by
  rcases ho.2 with ⟨h1,h2⟩ | ⟨g,cap,cur,h1,_⟩
  ·omega
  ·cases h1;exact⟨g,rfl⟩
 have hr:=Y3.of_own ho;have hnc:=hr.le;have hcm:=hr.max;have hmx:=hr.maxn;have I3:(zq.info? 152).map (·.size)=some 3:=by kernel_rfl
 obtain⟨inf,hi1,hi2⟩ : ∃t,zq.info? 152=some t/\t.size=3:=by
  cases hq:zq.info? 152 with
  | none=>simp[hq]at I3
  | some t=>exact⟨t,rfl,by simpa [hq] using I3⟩
 obtain⟨cur,hcur,hcs,hct⟩ : ∃cur,w.heap[g]? = some (.cells cur 152)/\cur.size=c * 3/\cur.toList.take (xs.length * 3)=ZD xs:=by
  rcases ho.2 with ⟨h1,_⟩ | ⟨g',cap,cur,h1,_,h3,_,_,h6,h7⟩
  ·cases h1
  ·cases h1;exact⟨cur,h3,h6,h7⟩
 have hL:(ZD xs).length=xs.length * 3:=QS xs;have hcell : ∀j v,(ZD xs)[j]? = some v->w.cell? ⟨g,j,none⟩=some v:=fun j v hv=>by
  have hj:=(List.getElem?_eq_some_iff.1 hv).1;rw[<-hct,List.getElem?_take,if_pos (by omega)]at hv;have hs:j < cur.size:=by have:xs.length * 3<=c * 3:=Nat.mul_le_mul_right _ hnc;omega
  have hv2:cur[j]? = some v:=by simpa using hv
  have hv3:cur[j]=v:=by rw[Array.getElem?_eq_getElem hs]at hv2;exact Option.some.inj hv2
  simp[World.cell?,hcur,hs,hv3]
 obtain⟨news,hnews⟩ : ∃news,news=ZD (xs.drop j):=⟨_,rfl⟩;have hnl:news.length=(xs.length - j) * 3:=by rw[hnews,QS,List.length_drop]
 obtain⟨A,hA,hsrc⟩ : ∃A:Addr,(if c=j then some (⟨g,0,none⟩:Addr)else some ⟨g,j * 3,none⟩)=some A/\Hid (∀t u,news[t]? = some u->w.drew.cell? (A.add t)=some u):=by
  by_cases h:c=j
  ·refine⟨⟨g,0,none⟩,by simp[h],fun t u hu=>?_⟩;have h0:news.length=0:=by rw[hnl];omega
   rw[List.length_eq_zero_iff.1 h0]at hu;simp at hu
  ·refine⟨⟨g,j * 3,none⟩,by simp[h],fun t u hu=>?_⟩;rw[hnews,<-ZaS,List.getElem?_drop]at hu;rw[Addr.add_lit];exact hcell _ _ hu
 have s2:Hid (∀u∈news,u.oneCell'=true):=fun u hu=>by rw[hnews]at hu;exact Z5J _ u hu
 have s3:Hid (∀t,t < news.length->(w.drew.cell? ⟨g,0+i * 3+t,none⟩).isSome=true/\w.drew.frozen? ⟨g,0+i * 3+t,none⟩=false):=fun t ht=>by
  have h5:0+i * 3+t < cur.size:=by
   rw[hnl]at ht;have:xs.length * 3<=c * 3:=Nat.mul_le_mul_right _ hnc;omega
  refine⟨by show(w.cell? _).isSome=true;simp[World.cell?,hcur];omega,by show w.frozen? _=false;simp[World.frozen?,hcur]⟩
 obtain⟨W1,hW1⟩ : ∃W1,W1=w.drew.setCells g (0+i * 3) news:=⟨_,rfl⟩;obtain⟨cur1,hcur1,hcs1⟩ : ∃cur1,W1.heap[g]? = some (.cells cur1 152)/\cur1.size=cur.size:=by
  rw[hW1];exact Vk g news _ w.drew cur _ _ hcur
 obtain⟨k,hk⟩ : ∃k,xs.length=k+1:=⟨xs.length - 1,by omega⟩;have hk1:xs.length - 1=k:=by omega
 have hth:W1.there g (k * 3) 3:=fun j hj=>by
  have h5:k * 3+j < cur1.size:=by
   have:xs.length * 3<=c * 3:=Nat.mul_le_mul_right _ hnc;omega
  exact⟨by simp[World.cell?,hcur1,h5],by simp[World.frozen?,hcur1]⟩
 have hclr:=fun ty=>Z8k W1 ty g (k * 3) (c - k) hth;have hS:Zb (fun k=>Value.ownBlock (.slice (some ⟨g,0,none⟩) xs.length c)=some k) w (W1.setCells g (k * 3) mz):=by
  have e1:Zb (fun k=>k=g) w W1:=by rw[hW1];exact(Zb.of_below ((Below.refl _ _).drew)).trans (QG g _ news w.drew)
  exact(e1.trans (QG g _ mz W1)).weaken (fun k hk=>by rw[show k=g from hk];rfl)
 have hown:(W1.setCells g (k * 3) mz).ownsRow 0 152 3 (.slice (some ⟨g,0,none⟩) k c) k (ZD (xs.eraseIdx i)):=by
  refine Z5D ho rfl (by omega) (by rw[QS,List.length_eraseIdx,if_pos hi,hk1]) (fun cur0 h0=>?_) (fun u v hv=>?_)
  ·rw[hcur]at h0;cases h0;obtain⟨cur',g1,g2⟩:=Vk g mz (k * 3) W1 cur1 _ _ hcur1;exact⟨cur',g1,g2.trans hcs1⟩
  ·have hu:=(List.getElem?_eq_some_iff.1 hv).1;rw[QS,List.length_eraseIdx,if_pos hi,hk1]at hu;rw[World.cell?_setCells_out g mz _ _ _ (fun _ _=>.inl hu),hW1];rw[Z44,<-hj]at hv;have hti:(ZD (xs.take i)).length=i * 3:=by rw[QS,List.length_take,Nat.min_eq_left (by omega)]
   rcases Nat.lt_or_ge u (i * 3)with h5 | h5
   ·rw[List.getElem?_append_left (by omega),<-ZaR,List.getElem?_take,if_pos h5]at hv;rw[World.cell?_setCells_out g news _ _ _ (fun _ _=>.inl (by show u < 0+i * 3;omega))];exact hcell u v hv
   ·rw[List.getElem?_append_right (by omega),hti,<-hnews]at hv;have h6:=(List.getElem?_eq_some_iff.1 hv).1;have h7:=World.cell?_setCells_in g news (0+i * 3) w.drew (fun t ht=>(s3.out t ht).1) (u - i * 3) h6;rw[show 0+i * 3+(u - i * 3)=u by omega]at h7;rw[h7];exact congrArg some (List.getElem?_eq_some_iff.1 hv).2
 have OWN:=zH hown;have SM:=zH hS;have hW:Hid (W1=w.drew.setCells g (0+i * 3) news):=zH hW1;have HCL:=zH hclr;have HNL:=zH hnl;have HA:=zH hA;have HLT:Hid (j<=xs.length/\xs.length<=c):=zH ⟨by omega,hnc⟩;have HJ:Hid (j=i+1):=zH hj;have t1:((i:Int)==(j:Int))=false:=by rw[beq_eq_false_iff_ne];omega
 have hel:zq.elem 89=152:=by simp[Program.elem,Tryz.underlying89]
 have hcut0 : ∀W,(Instr.sliceAt 89 (.slice (some ⟨g,0,none⟩) xs.length c) (some (.int .i64 (i:Int))) (some (.int .i64 (j:Int))) (some (.int .i64 (xs.length:Int)))).run zq W = .ok (.slice (some ⟨g,i * 3,none⟩) 1 (xs.length - i)) W:=fun W=>by
  rw[run_sliceAt_slice (P:=zq) W _ _ _ _ _ (by rw[hel];exact Tryz.underlying89),run_slice_any (P:=zq) W _ _ xs.length c (by rw[hel];exact Tryz.underlying89)];simp[Instr.sliceBounds,run_sliceBound,Result.andThen,sizeOf,typeInfo,hel,hi1,hi2,sliced,Addr.add,show i<=j by omega,show j<=xs.length by omega,hnc,show j - i=1 by omega,show ¬xs.length=i by omega];intro h;simp[h]
 have hcut1 : ∀W,(Instr.sliceAt 89 (.slice (some ⟨g,0,none⟩) xs.length c) none (some (.int .i64 (i:Int))) none).run zq W = .ok (.slice (some ⟨g,0,none⟩) i c) W:=fun W=>by
  rw[run_sliceAt_slice (P:=zq) W _ _ _ _ _ (by rw[hel];exact Tryz.underlying89),run_slice_any (P:=zq) W _ _ xs.length c (by rw[hel];exact Tryz.underlying89)];simp[Instr.sliceBounds,run_sliceBound,Result.andThen,sizeOf,typeInfo,hel,hi1,hi2,sliced,show i<=c by omega,Addr.add]
 have hcut2 : ∀W,(Instr.sliceAt 89 (.slice (some ⟨g,0,none⟩) xs.length c) (some (.int .i64 (j:Int))) none none).run zq W = .ok (.slice (some A) (xs.length - j) (c - j)) W:=fun W=>by
  rw[run_sliceAt_slice (P:=zq) W _ _ _ _ _ (by rw[hel];exact Tryz.underlying89),run_slice_any (P:=zq) W _ _ xs.length c (by rw[hel];exact Tryz.underlying89)];simp[Instr.sliceBounds,run_sliceBound,Result.andThen,sizeOf,typeInfo,hel,hi1,hi2,sliced,Addr.add,show j<=xs.length by omega,hnc,<-hA,show ¬j * 3=0 by omega]
 have hcut3 : ∀W,(Instr.sliceAt 89 (.slice (some ⟨g,0,none⟩) k c) (some (.int .i64 (k:Int))) (some (.int .i64 (xs.length:Int))) none).run zq W = .ok (.slice (some ⟨g,k * 3,none⟩) 1 (c - k)) W:=fun W=>by
  rw[run_sliceAt_slice (P:=zq) W _ _ _ _ _ (by rw[hel];exact Tryz.underlying89),run_slice_any (P:=zq) W _ _ k c (by rw[hel];exact Tryz.underlying89)];simp[Instr.sliceBounds,run_sliceBound,Result.andThen,sizeOf,typeInfo,hel,hi1,hi2,sliced,Addr.add,hnc,show k<=xs.length by omega,show ¬c=k by omega];refine⟨by intro h;simp[h],by omega⟩
 have HIK:Hid (i+(xs.length - j)=k/\xs.length - 1=k):=zH ⟨by omega,hk1⟩;clear hk hk1 hth hj hown hS hW1 hclr hnl hA hcur hcs hct hcell hnews hcur1 hcs1 ho hr hL hi hnc hel;go_enter Tryz.func188,Tryz.ntmps188;go_wp2_with fail;go_region_law (refine step_append_room (by rfl) (.tmp 22) (.tmp 25) 89 (by rfl) 152 inf 3 Tryz.underlying89 hi1 hi2 g 0 i c (by simp[Act.eval,Act.put]) A (xs.length - j) (c - j) news (by simp[Act.eval,Act.put]) HNL.out hsrc.out s2.out (by have:=HLT.out;have:=HJ.out;omega) s3.out ?_;rw[<-hW.out,HIK.out.1]);go_wp2_with (refine zy rfl _ _ rfl _ _ rfl (HCL.out _) ?_);rw[HIK.out.2];go_ret;exact⟨rfl,OWN.out,SM.out⟩
theorem Z6J (xs:List LM)(a:zA)(c i:Nat)(w:World)(ho:w.ownsRow 0 152 3 (.slice a xs.length c) xs.length (ZD xs))(hi:i < xs.length):
  Calls zq 188 #[.slice a xs.length c,.int .i64 (i:Int),.int .i64 ((i:Int)+1)] w fun e w'=>e = .returned (.slice a (xs.length - 1) c) /\
   w'.ownsRow 0 152 3 (.slice a (xs.length - 1) c) (xs.length - 1) (ZD (xs.eraseIdx i))/\Zb (fun k=>Value.ownBlock (.slice a xs.length c)=some k) w w':=Z9p xs a c i (i+1) rfl w ho hi
def Z2s (w:World)(p mb sp:Nat)(G:Nm->Option LN)(SF:Nat->Prop)(S:Zj)(n:Z8)(e:Ending)(W:World):Prop:=
 (∃ta tc,e = .returned (.tuple #[.agg (Z5 (Vc S n).2.1 ta tc),.int .i64 (Vc S n).2.2])/\W.ownsRow w.heap.size 3 1 (.slice ta (Vc S n).2.1.strokes.length tc) (Vc S n).2.1.strokes.length ((Vc S n).2.1.strokes.map Yh)) /\
 ∃G' SF',Yp W p mb sp G' SF' (Vc S n).1/\Zb (Yw p mb G SF) w W /\ ∀k,Yw p mb G' SF' k->Yw p mb G SF k\/w.heap.size<=k
theorem Z2s.no {w W:World}{p mb sp:Nat}{G:Nm->Option LN}{SF:Nat->Prop}{S:Zj}{n:Z8}{e:Ending}{c:Int}(hd:Vc S n=(S,Zg,c))(he:e = .returned (.tuple #[.agg (Z5 Zg none 0),.int .i64 c]))(hh:Yp w p mb sp G SF S)(hb:Below w.heap.size w W):Z2s w p mb sp G SF S n e W:=
 ⟨⟨none,0,by rw[hd];exact he,by rw[hd];exact World.ownsRow_nil _ _ _ _⟩,G,SF,by rw[hd];exact hh.below hb,Zb.of_below hb,fun k hk=>.inl hk⟩
section
attribute [local go_sem] ZT Xa J4 XI
theorem Zb8 (p mb sp:Nat)(G:Nm->Option LN)(SF:Nat->Prop)(S:Zj)(n:Z8)(sa:zA)(sc:Nat)(w:World)(hh:Yp w p mb sp G SF S)(hi:Xt S)(hs:Xi w sa n.strokes.length sc n.strokes)(hok:n.Ok)(hst:n.strokes.length<=1000000000)(hlen:S.l.length < 400):
  Calls zq 19 #[.pointer (some ⟨p,0,none⟩),.agg (Z5 n sa sc)] w fun e w'=>Z2s w p mb sp G SF S n e w':=by
 have HH:=zH hh;have HI:=zH hi;have HOK:=zH hok;have HLEN:=zH hlen;have HLT:=zH hh.lt;obtain⟨k,hk,hk8⟩ : ∃k:Nat,S.id=(k:Int)/\k<=8:=⟨S.id.toNat,by have:=hi.id;omega,by have:=hi.id;omega⟩;have HK:=zH hk;have HK8:=zH hk8;have CB:Hid (S.c (k:Int)<=400):=zH (ZbD hi _);have oneZ:=zH (Zm Zg none 0);have B0:Hid (Below w.heap.size w ((w.alloc (.cells (Z5 n sa sc) 47)).alloc (.cells (Z5 Zg none 0) 47))):=zH ((zB _ _).alloc (by simp) _);have N0:=zH (Z9 _ (.cells (Z5 Zg none 0) 47) _ _ (Za w (.cells (Z5 n sa sc) 47)));have Z0:=zH (Zw (w.alloc (.cells (Z5 n sa sc) 47)) (.cells (Z5 Zg none 0) 47) (w.heap.size+1) (by simp));have RS:=zH (hs.below B0.out);clear hh hi hs hok hlen hk hk8;go_enter Tryz.func19,Tryz.ntmps19;go_upto_region 1 with fail;rw[<-YN];obtain⟨p3,hp3⟩:=zX (w.heap.size);obtain⟨p4,hp4⟩:=zX (w.heap.size+1);have GE0:Hid (w.heap.size<=p3/\p3 < p4):=zH (by have:=hp3.out;have:=hp4.out;omega);rw[hp3.out]at N0;rw[hp4.out]at Z0;rw[hp4.out,hp3.out];generalize (w.alloc (.cells (Z5 n sa sc) 47)).alloc (.cells (Z5 Zg none 0) 47)=w0 at *;go_wp2_with fail;refine(VG w0 p mb sp S.f S.id S.c (HH.out.below B0.out).blk).mono ?_;rintro e w1 ⟨rfl,hw1⟩;rw[hw1];clear hw1 w1;go_upto_region 3 with fail;go_wp2_with (first
  |(refine zL p3 N0.out ?_))
 refine(Z0h n sa sc w0 RS.out hst).mono ?_;rintro e w2 ⟨ta,tc,rfl,ho,b2⟩;have N2:=zH (Z7 b2 N0.out);have Z2:=zH (Z7 b2 Z0.out);have B2:=zH (B0.out.trans (b2.mono B0.out.size));have O2:=zH (Zv ho B0.out.size);clear ho b2 N0 Z0 RS;have oneN:=Zm n ta tc;go_upto_region 4 with (refine zN p3 (Z5 n ta tc) N2.out ?_);clear oneN;have N3:=zH (Ys w2 p3 _ (Z5 n ta tc) _ _ N2.out);have S3:=zH (Uw w2 p3 (Z5 n ta tc));generalize w2.setRow p3 (Z5 n ta tc)=w3 at *;have DA:Hid (UM w w3 p3 p4 n ta tc):=zH ⟨S3.out.below B2.out B2.out.size (fun q hq=>by rw[show q=p3 from hq];exact GE0.out.1),N3.out,(S3.out.block p4 (Zi Z2.out) (fun e=>by have:=GE0.out;omega)).trans Z2.out,Ze O2.out S3.out (fun b hb e=>Zq O2.out N2.out (by intro cur;simp) (by rw[hb,show b=p3 from e])),GE0.out⟩;clear N2 Z2 O2 N3 S3 B2 GE0 hst;refine zp ((HH.out.below DA.out.bel).blk) fun hh=>?_;have DB:=zH (DA.out.below ((zd w3)));generalize w3.drew=V0 at *;clear DA;refine zw 0 rfl p 0 ?_;refine zw 1 rfl p 0 ?_;refine zw 2 rfl p 3 ?_;refine zS 3 rfl (.int .i64 (k:Int)) (fun W h=>by have hc:=Z6 h 3 (.int .i64 (k:Int)) (by rw[HK.out];rfl);go_simp) ?_;refine zw 4 rfl p 0 ?_;refine zw 5 rfl p 0 ?_;refine zw 6 rfl p 0 ?_;refine zw 7 rfl p 3 ?_;refine zS 8 rfl (.int .i64 (k:Int)) (fun W h=>by have hc:=Z6 h 3 (.int .i64 (k:Int)) (by rw[HK.out];rfl);go_simp) ?_;refine zw 9 rfl p 0 ?_;refine zw 10 rfl p 5 ?_;refine zS 11 rfl (.pointer (some ⟨p,5+k,none⟩)) (fun W h=>by have hc:=Z5O (W:=W) (p:=p) (k:=k) (by have:=HK8.out;omega);go_simp) ?_;refine zS 12 rfl (.int .i64 (S.c (k:Int):Int)) (fun W h=>by have hc:=Z6 h (5+k) (.int .i64 (S.c (k:Int):Int)) (Z3Y _ _ _ _ _ k HK8.out);go_simp) ?_;refine zS 13 rfl (.int .i64 ((S.c (k:Int):Int)+1)) (fun W h=>by have hcb:IntKind.i64.wrap ((S.c (k:Int):Int)+1)=(S.c (k:Int):Int)+1:=(by have h9:=CB.out;rw[IntKind.wrap_i64];omega);go_simp) ?_;refine zw 14 rfl p3 0 ?_;refine zR 15 rfl fun K hK=>?_;have hc:=Z6 DB.out.n 0 _ rfl;have hfz:=Zp DB.out.n 0
 have DE:Hid (UM w (V0.setCell ⟨p3,0,none⟩ (.int .i64 (k:Int))) p3 p4 { n with house:=(k:Int) } ta tc):=zH (DB.out.set (Zb.of_grown (Zl _ p3 0 _) (fun q e=>by cases e;rfl)) (by have h1:=ZK DB.out.n 0 (.int .i64 (k:Int));exact h1) rfl);have HP1:=zH ((HH.out.below DE.out.bel).blk);go_simp;clear hc hfz hh;refine zK hK HP1.out fun hh=>?_;clear hK K;refine zw 16 rfl p3 1 ?_;refine zR 17 rfl fun K hK=>?_;have hc:=Z6 DE.out.n 1 _ rfl;have hfz:=Zp DE.out.n 1;have DF:Hid (UM w ((V0.setCell ⟨p3,0,none⟩ (.int .i64 (k:Int))).setCell ⟨p3,1,none⟩ (.int .i64 ((S.c (k:Int):Int)+1))) p3 p4 { n with house:=(k:Int),num:=(S.c (k:Int):Int)+1 } ta tc):=zH (DE.out.set (Zb.of_grown (Zl _ p3 1 _) (fun q e=>by cases e;rfl)) (by have h1:=ZK DE.out.n 1 (.int .i64 ((S.c (k:Int):Int)+1));exact h1) rfl);have HP2:=zH ((HH.out.below DF.out.bel).blk);go_simp;clear hc hfz hh;refine zK hK HP2.out fun hh=>?_;clear hK K;refine zw 18 rfl p3 2 ?_;refine zR 19 rfl fun K hK=>?_;have hc:=Z6 DF.out.n 2 _ rfl;have hfz:=Zp DF.out.n 2;have DG:Hid (UM w (((V0.setCell ⟨p3,0,none⟩ (.int .i64 (k:Int))).setCell ⟨p3,1,none⟩ (.int .i64 ((S.c (k:Int):Int)+1))).setCell ⟨p3,2,none⟩ (.int .i64 1)) p3 p4 { n with house:=(k:Int),num:=(S.c (k:Int):Int)+1,clock:=1 } ta tc):=zH (DF.out.set (Zb.of_grown (Zl _ p3 2 _) (fun q e=>by cases e;rfl)) (by have h1:=ZK DF.out.n 2 (.int .i64 1);exact h1) rfl);have HP3:=zH ((HH.out.below DG.out.bel).blk);go_simp;clear hc hfz hh;refine zK hK HP3.out fun hh=>?_;clear hK K;refine zE ?_;clear HP1 HP2 HP3 DB DE DF hh;have DA:Hid (UM w (((V0.setCell ⟨p3,0,none⟩ (.int .i64 (k:Int))).setCell ⟨p3,1,none⟩ (.int .i64 ((S.c (k:Int):Int)+1))).setCell ⟨p3,2,none⟩ (.int .i64 1)) p3 p4 (doC S n 1) ta tc):=zH (by
  have h:=DG.out;unfold doC;rw[HK.out];exact h)
 clear DG;generalize ((V0.setCell ⟨p3,0,none⟩ (.int .i64 (k:Int))).setCell ⟨p3,1,none⟩ (.int .i64 ((S.c (k:Int):Int)+1))).setCell ⟨p3,2,none⟩ (.int .i64 1)=w4 at *;have c4:=Z6 (HH.out.below DA.out.bel).blk 4 (.map (some mb)) rfl;go_wp2_with (first
  |(at_range;refine JR _ rfl _ 106 47 rfl Tryz.underlying106 mb S.l.length rfl (HH.out.below DA.out.bel).map ?_;intro w5 cnt0 hrg0 hg0 hs0)
  | fail)
 go_frame;have DA5:=zH (DA.out.below (Z4E hg0));obtain⟨r,hr⟩:=zX (w4.heap.size);have RNG:=zH hrg0;have RGE:Hid (p4 < r):=zH (by have:=Zi DA.out.z;have:=hr.out;omega);rw[hr.out]at RNG;rw[hr.out];clear hrg0 hg0 hs0 c4;go_loopw [39] (fun _ wr=>∃(ks:List Nm) (cnt:Nat) (c:Int),Hid (Y6 LN.val wr mb r S.l.length G ks cnt)/\Hid (UM w wr p3 p4 (doC S n c) ta tc)/\Hid (Qw ((ks.filterMap G).map LN.n) c)) (fun _ wr=>wr.rangeLeft mb r)
 case atStart=>exact⟨[],cnt0,1,RNG,DA5,zH Qw.nil⟩
 case round=>
  obtain⟨ks,cnt,c,HR,DR,HC⟩:=hrel;clear RNG DA5 DA;go_upto_region 7 with (first
   |(at_next;refine Qa wr rfl _ rfl mb r S.l.length cnt ks rfl HR.out ?_ ?_)
   | fail)
  ·intro hall;have HALL:=zH hall;clear hall;have CK:Hid (c=Z5V S.l):=zH (HC.out.uniq ((Z8H S.l).mem fun x=>by
    constructor
    ·intro hx;obtain⟨y,hy,rfl⟩:=List.mem_map.1 hx;obtain⟨q,_,hq⟩:=List.mem_filterMap.1 hy;exact(HH.out.gs q y hq).1
    ·intro hx;obtain⟨y,hy,rfl⟩:=HH.out.gl x hx;exact List.mem_map_of_mem (List.mem_filterMap.2 ⟨_,HALL.out _ (by rw[hy];rfl),hy⟩)))
   have DA:Hid (UM w wr p3 p4 (VK S n) ta tc):=zH (by have h:=DR.out;rw[CK.out]at h;exact h);have CK2:Hid (Z5V S.l<=1099511627777):=zH (by
    rcases(Z8H S.l).2.2 with h | ⟨x,hx,h⟩
    ·omega
    ·have:=Vq (HI.out.frm x hx);omega)
   clear HR DR HC HALL CK;have c4:=Z6 (HH.out.below DA.out.bel).blk 4 (.map (some mb)) rfl;have cn:=Z6 DA.out.n 2 (.int .i64 (Z5V S.l)) rfl;by_cases hck:1099511627776 < Z5V S.l
   ·have HD:=zH (show Vc S n=(S,Zg,2)by unfold Vc;rw[if_pos (.inr hck)]);have t1:decide (1099511627776 < Z5V S.l)=true:=by simp[hck]
    clear hck;go_wp2_with (first
     |(at_len;refine Uh rfl _ 106 47 rfl Tryz.underlying106 mb S.l.length rfl (HH.out.below DA.out.bel).map ?_;intro kk hkk;have tkk:decide ((400:Int)<=(kk:Int))=false:=(by have:=HLEN.out;simp;omega))
     |(refine zN p4 (Z5 Zg none 0) DA.out.z ?_))
    refine zr (Ys _ p4 _ _ _ _ DA.out.z) ?_;exact Z2s.no HD.out rfl HH.out (DA.out.done (Uw _ p4 _)).1
   ·have t1:decide (1099511627776 < Z5V S.l)=false:=by simp;omega
    have CK3:=zH hck;clear hck;go_upto_region 11 with (first
      |(at_len;refine Uh rfl _ 106 47 rfl Tryz.underlying106 mb S.l.length rfl (HH.out.below DA.out.bel).map ?_;intro kk hkk;have tkk:decide ((400:Int)<=(kk:Int))=false:=(by have:=HLEN.out;simp;omega))
      | fail)
    clear t1 tkk hkk c4 cn;have CN:=zH (fun W (hb:Below wr.heap.size wr W)=>Un S.f (VK S n) ta tc W (Y3.of_own (Zd DA.out.own hb)));have hvl:S.f.val = .agg #[.int .i64 S.f.rings,.int .i64 S.f.sectors,.int .i64 S.f.wide]:=rfl;rw[hvl]at CN;clear hvl;obtain⟨z,hz⟩:=zX (ZZ S.f (VK S n));rw[hz.out]at CN;have hC0:Below wr.heap.size wr wr.drew:=(Below.refl _ _).drew;have LH:=zH (show ∀w0,Below wr.heap.size wr w0->w0.heap[p]? = some (.cells (Xy S.f S.id mb S.c sp) 109)from fun w0 h=>(HH.out.below (DA.out.below h).bel).blk);have LN3:=zH (show ∀w0,Below wr.heap.size wr w0->w0.heap[p3]? = some (.cells (Z5 (VK S n) ta tc) 47)from fun w0 h=>(DA.out.below h).n);try simp only[Act.put,lq3,lq4,lq5]
    refine zC (fun w':World=>Below wr.heap.size wr w') hC0 ?_;go_big_quiet_step (fail);refine zv p 0 ?_;refine zv p 0 ?_;refine zQ (.agg #[.int .i64 S.f.rings,.int .i64 S.f.sectors,.int .i64 S.f.wide]) (fun w0 hC=>?_) ?_
    ·have c0:=Z6 (LH.out w0 hC) 0 (.int .i64 S.f.rings) rfl;have c1:=Z6 (LH.out w0 hC) 1 (.int .i64 S.f.sectors) rfl;have c2:=Z6 (LH.out w0 hC) 2 (.int .i64 S.f.wide) rfl;clear hC;go_simp
    refine zQ (.agg (Z5 (VK S n) ta tc)) (fun w0 hC=>Jy (.tmp 3) rfl p3 rfl (VK S n) ta tc (LN3.out w0 hC)) ?_;refine zQ (.int .i64 z) (fun w0 hC=>?_) ?_
    ·go_simp;refine(CN.out w0 hC).mono ?_;rintro e w1 ⟨rfl,b1⟩;exact⟨rfl,hC.trans (b1.mono hC.size)⟩
    refine zV (.bool (z != 0)) ?_;refine wpQuiet_nil ?_;intro w' hC;replace DA:=zH (DA.out.below hC);clear hC LH LN3 CN hC0;generalize hwr:wr=wold at *;clear hwr;generalize w'=wr at *;by_cases hz0:z=0
    case neg=>
     have HD:=zH (show Vc S n=(S,Zg,80)by unfold Vc;rw[if_neg (by have:=HLEN.out;have:=CK3.out;omega),if_pos (by rw[hz.out];exact hz0)]);have t1:(z != 0)=true:=by simp[hz0]
     clear hz0;go_wp2_with (first
      |(refine zN p4 (Z5 Zg none 0) DA.out.z ?_))
     refine zr (Ys _ p4 _ _ _ _ DA.out.z) ?_;exact Z2s.no HD.out rfl HH.out (DA.out.done (Uw _ p4 _)).1
    rw[hz0];have CZ:Hid (ZZ S.f (VK S n)=0):=zH (hz.out.trans hz0);clear hz hz0;have FM:Hid (Zf S.f (VK S n)=true):=zH (by
     have h:=CZ.out;unfold ZZ at h;rw[if_pos HI.out.v]at h;by_cases h2:Zf S.f (VK S n)=true
     ·exact h2
     ·rw[if_neg h2]at h;cases h)
    have MOK:=zH (Z8f HOK.out FM.out);have HNUM:Hid ((VK S n).num=(S.c (VK S n).house:Int)+1):=zH rfl;have HADD:=zH (HI.out.add FM.out MOK.out HNUM.out);have NOK:Hid (Uk ((VK S n).house,(VK S n).num)):=zH ⟨MOK.out.house,MOK.out.num⟩;have KIND:Hid ((VK S n).kind=n.kind):=zH rfl;obtain⟨m,hm⟩:=zX (VK S n);rw[hm.out]at DA FM MOK HNUM HADD NOK KIND;have c4:=Z6 (HH.out.below DA.out.bel).blk 4 (.map (some mb)) rfl;go_wp2_with fail;refine(Ul mb S.l.length G wr (HH.out.below DA.out.bel).map).mono ?_;rintro e w14 ⟨rfl,hmk,bk⟩;have MK:=zH hmk;have KGE:Hid (p4 < wr.heap.size):=zH (Zi DA.out.z);replace DA:=zH (DA.out.below bk);clear bk hmk c4;obtain⟨kb,hkb⟩:=zX (wr.heap.size);rw[hkb.out]at MK KGE;rw[hkb.out];go_upto_region 14 with fail;refine zp DA.out.n fun hh=>?_;replace DA:=zH (DA.out.below ((zd w14)));replace MK:=zH (MK.out.below ((zd w14)));generalize w14.drew=V at *;refine zW 0 rfl (.map (some kb)) ?_;refine zT 1 rfl (.agg (Z5 m ta tc)) (zY p3 fun W h=>h) ?_;refine zT 3 rfl (.agg (Z5 m ta tc)) (zY p3 fun W h=>h) ?_;refine zR 2 rfl fun K hK=>?_;go_simp;go_at_call 58;refine(QR m ta tc V).mono ?_;rintro e V' ⟨rfl,bb⟩;replace DA:=zH (DA.out.below bb);replace MK:=zH (MK.out.below bb);clear bb hh;dsimp only;generalize hVo:V=Vo at *;clear hVo;generalize V'=V at *;refine zK hK DA.out.n fun hh=>?_;clear hK K;refine zR 4 rfl fun K hK=>?_;obtain⟨V',hrun,hm3,ht3⟩:=Qy (t:=106) MK.out (by have:=HLEN.out;unfold maxLen;omega) Tryz.underlying106 m.house m.num NOK.out (⟨m,ta,tc⟩:LN);have DA2:Hid (UM w V' p3 p4 m ta tc):=zH (by
     obtain⟨es,cl,hb⟩:=MK.out.blk;exact DA.out.other (Zb.of_grown (S:=fun q=>q=kb) ht3.grown (fun q e=>by cases e;rfl)) KGE.out hb (by intro cur;simp))
    have MK2:Hid (Yd LN.val V' kb (S.l.length+1) (YZ G (Zn m) ⟨m,ta,tc⟩)):=zH hm3;clear hm3 ht3 hh;unfold LN.val at hrun;go_simp;clear hrun DA MK;generalize hVo:V=Vo at *;clear hVo;generalize V'=V at *;refine zK hK DA2.out.n fun hh=>?_;clear hK K;refine zE ?_;clear hh;have GOK2:Hid (GOk (YZ G (Zn m) ⟨m,ta,tc⟩) V):=zH (fun q x hx=>by
     unfold YZ at hx;split at hx
     ·rename_i e;cases hx;exact⟨Y3.of_own DA2.out.own,by rw[e];exact NOK.out,Nat.le_trans (Xp HI.out.v FM.out) (by decide)⟩
     ·exact((HH.out.gok HI.out).below DA2.out.bel) q x hx)
    obtain⟨G2,hG2⟩:=zX (YZ G (Zn m) ⟨m,ta,tc⟩);rw[hG2.out]at MK2 GOK2;have LST:Hid (∀ks,XW G2 ks->ks.Pairwise (fun x y=>J5 x y=true)->(ks.filterMap G2).map LN.n=XY S.l m):=zH (by
     rw[<-hG2.out];exact fun ks h1 h2=>Zc5 (ZcJ (x:=⟨m,ta,tc⟩) HH.out.gs) (ZcK (x:=⟨m,ta,tc⟩) HH.out.gl HADD.out.2) HADD.out.1.srt h1 h2)
    have IOK:Hid (∀x∈XY S.l m,x.Ok):=zH HADD.out.1.ok;go_upto_region 15 with fail;apply Zem (P:=fun(xa:zA) (xn xc:Nat) (v:Value) (p9:Nat) (W:World)=>Hid (UM w W p3 p4 m ta tc /\ ∃va vb ca cn cc,v = .agg #[va,vb,.slice ca cn cc]/\W.heap[p9]? = some (.cells #[va,vb,.slice ca cn cc] 77)/\Y3 W 2 ca cn cc (ZH (Z6t S.f (XY S.l m) (XY S.l m) 99999).2.2)))
    ·intro REST;refine zp ((HH.out.below DA2.out.bel).blk) fun hh=>?_;replace DA2:=zH (DA2.out.below ((zd V)));replace MK2:=zH (MK2.out.below ((zd V)));replace GOK2:=zH (GOK2.out.below ((zd V)));generalize V.drew=U at *;refine zw 0 rfl p 0 ?_;refine zw 1 rfl p 0 ?_;refine zw 2 rfl p 0 ?_;refine zS 3 rfl (.agg #[.int .i64 S.f.rings,.int .i64 S.f.sectors,.int .i64 S.f.wide]) (fun W h=>by have h0:=Z6 h 0 (.int .i64 S.f.rings) rfl;have h1:=Z6 h 1 (.int .i64 S.f.sectors) rfl;have h2:=Z6 h 2 (.int .i64 S.f.wide) rfl;go_simp) ?_;refine zW 4 rfl (.map (some kb)) ?_;refine zM [5,10] rfl (fun K hK=>?_) ?_
     focus
      go_simp;go_at_call 61;refine(Z1r kb (S.l.length+1) G2 U MK2.out (by have:=HLEN.out;omega) GOK2.out).mono ?_;rintro e U' ⟨⟨xa,xn,xc,zs,ks,rfl,h1,h2,h3,h4,h5,h6⟩,bb⟩;have RX:Hid (Qt U' xa xn xc (XY S.l m)):=zH (by have h7:=h1.rd;rwa [h2,LST.out ks h3 h4]at h7);replace DA2:=zH (DA2.out.below bb);replace MK2:=zH (MK2.out.below bb);replace GOK2:=zH (GOK2.out.below bb);clear h1 h2 h3 h4 h5 h6 bb hh;dsimp only;generalize hVo:U=Uo at *;clear hVo;generalize U'=U at *;refine zK hK (HH.out.below DA2.out.bel).blk fun hh=>?_;clear hK K;refine zM [6,10] rfl (fun K hK=>?_) ?_
      ·go_simp;go_at_call 34;refine(Z72 S.f xa xn xc (XY S.l m) U RX.out IOK.out).mono ?_;rintro e U' ⟨v,rfl,h1,bb⟩;have RV:=zH h1;replace DA2:=zH (DA2.out.below bb);replace MK2:=zH (MK2.out.below bb);replace GOK2:=zH (GOK2.out.below bb);replace RX:=zH (RX.out.below bb);clear h1 bb hh;dsimp only;generalize hVo:U=Uo at *;clear hVo;generalize U'=U at *;refine zK hK (HH.out.below DA2.out.bel).blk fun hh=>?_;clear hK K;refine zW 7 rfl (.tuple #[v,.int .i64 (Z5S S.f (XY S.l m))]) ?_;refine zW 8 rfl v ?_;refine zW 9 rfl (.int .i64 (Z5S S.f (XY S.l m))) ?_;refine zR 10 rfl fun K hK=>?_;have bb:Below U.heap.size U (U.alloc (.cells #[.slice none 0 0,.slice none 0 0,.slice none 0 0] 77)):=zB _ _;have P9:=zH (Za U (.cells #[.slice none 0 0,.slice none 0 0,.slice none 0 0] 77));have GE9:Hid (p4 < U.heap.size):=zH (Zi DA2.out.z);replace DA2:=zH (DA2.out.below bb);replace MK2:=zH (MK2.out.below bb);replace GOK2:=zH (GOK2.out.below bb);replace RV:=zH (RV.out.below bb);clear bb hh;go_simp;obtain⟨p9,hp9⟩:=zX (U.heap.size);rw[hp9.out]at P9 GE9 ⊢;generalize hVo:U.alloc (.cells #[.slice none 0 0,.slice none 0 0,.slice none 0 0] 77)=U' at *;clear hVo hp9;generalize hVo:U=Uo at *;clear hVo;generalize U'=U at *;refine zK hK (HH.out.below DA2.out.bel).blk fun hh=>?_;clear hK K;refine zR 11 rfl fun K hK=>?_;obtain⟨ha,hn,hc,ea,en,ec,ca,cn,cc,hs,es,hv,_,_,h3,_⟩:=id RV.out;refine ZV 77 _ _ rfl p9 #[.slice none 0 0,.slice none 0 0,.slice none 0 0] #[.slice ha hn hc,.slice ea en ec,.slice ca cn cc] 77 rfl hv P9.out (by kernel_rfl) rfl (by simp[Value.oneCell']) ?_;intro U' q1 q2 q3;have S9:Hid (Zb (fun q=>q=p9) U U'):=zH (Zb.of_grown q2 (fun q e=>by cases e;rfl));have RC:Hid (Y3 U' 2 ca cn cc (ZH (Z6t S.f (XY S.l m) (XY S.l m) 99999).2.2)):=zH (Z8v h3 S9.out P9.out (fun u hu=>by
        rw[ZH,List.mem_flatMap]at hu;obtain⟨x,_,h⟩:=hu;simp only[List.mem_cons,List.not_mem_nil,or_false]at h;rcases h with rfl | rfl <;> exact⟨_,rfl⟩) (fun u hu x=>by
        simp only[List.mem_cons,List.not_mem_nil,or_false]at hu;rcases hu with rfl | rfl | rfl <;> simp))
       replace DA2:=zH (DA2.out.other S9.out GE9.out P9.out (by intro cur;simp));have HV:=zH hv;have Q1:=zH q1;clear q1 q2 q3 h3 hv P9 RV MK2 GOK2 S9 hh;generalize hVo:U=Uo at *;clear hVo;generalize U'=U at *;refine zK hK (HH.out.below DA2.out.bel).blk fun hh=>?_;clear hK K;refine zW 12 rfl (.int .i64 (Z5S S.f (XY S.l m))) ?_;refine zE ?_;exact REST xa xn xc v p9 U (zH ⟨DA2.out,_,_,ca,cn,cc,HV.out,Q1.out,RC.out⟩)
      refine zn fun K hK=>?_;have bb:Below U.heap.size U (U.alloc (.cells #[.slice none 0 0,.slice none 0 0,.slice none 0 0] 77)):=zB _ _;have P9:=zH (Za U (.cells #[.slice none 0 0,.slice none 0 0,.slice none 0 0] 77));have GE9:Hid (p4 < U.heap.size):=zH (Zi DA2.out.z);replace DA2:=zH (DA2.out.below bb);replace MK2:=zH (MK2.out.below bb);replace GOK2:=zH (GOK2.out.below bb);replace RX:=zH (RX.out.below bb);clear bb hh;go_simp;obtain⟨p9,hp9⟩:=zX (U.heap.size);rw[hp9.out]at P9 GE9 ⊢;generalize hVo:U.alloc (.cells #[.slice none 0 0,.slice none 0 0,.slice none 0 0] 77)=U' at *;clear hVo hp9
     rotate_left
     focus
      refine zn fun K hK=>?_;have bb:Below U.heap.size U (U.alloc (.cells #[.slice none 0 0,.slice none 0 0,.slice none 0 0] 77)):=zB _ _;have P9:=zH (Za U (.cells #[.slice none 0 0,.slice none 0 0,.slice none 0 0] 77));have GE9:Hid (p4 < U.heap.size):=zH (Zi DA2.out.z);replace DA2:=zH (DA2.out.below bb);replace MK2:=zH (MK2.out.below bb);replace GOK2:=zH (GOK2.out.below bb);clear bb hh;go_simp;obtain⟨p9,hp9⟩:=zX (U.heap.size);rw[hp9.out]at P9 GE9 ⊢;generalize hVo:U.alloc (.cells #[.slice none 0 0,.slice none 0 0,.slice none 0 0] 77)=U' at *;clear hVo hp9;generalize hVo:U=Uo at *;clear hVo;generalize U'=U at *;refine zK hK (HH.out.below DA2.out.bel).blk fun hh=>?_;clear hK K;refine zR 5 rfl fun K hK=>?_;go_simp;go_at_call 61;refine(Z1r kb (S.l.length+1) G2 U MK2.out (by have:=HLEN.out;omega) GOK2.out).mono ?_;rintro e U' ⟨⟨xa,xn,xc,zs,ks,rfl,h1,h2,h3,h4,h5,h6⟩,bb⟩;have RX:Hid (Qt U' xa xn xc (XY S.l m)):=zH (by have h7:=h1.rd;rwa [h2,LST.out ks h3 h4]at h7);replace DA2:=zH (DA2.out.below bb);replace MK2:=zH (MK2.out.below bb);replace GOK2:=zH (GOK2.out.below bb);replace P9:=zH (Z7 bb P9.out);clear h1 h2 h3 h4 h5 h6 bb hh;dsimp only
     all_goals
      generalize hVo:U=Uo at *;clear hVo;generalize U'=U at *;refine zK hK (HH.out.below DA2.out.bel).blk fun hh=>?_;clear hK K;refine zR 6 rfl fun K hK=>?_;go_simp;go_at_call 34;refine(Z72 S.f xa xn xc (XY S.l m) U RX.out IOK.out).mono ?_;rintro e U' ⟨v,rfl,h1,bb⟩;have RV:=zH h1;replace DA2:=zH (DA2.out.below bb);replace MK2:=zH (MK2.out.below bb);replace GOK2:=zH (GOK2.out.below bb);replace P9:=zH (Z7 bb P9.out);replace RX:=zH (RX.out.below bb);clear h1 bb hh;dsimp only;generalize hVo:U=Uo at *;clear hVo;generalize U'=U at *;refine zK hK (HH.out.below DA2.out.bel).blk fun hh=>?_;clear hK K;refine zW 7 rfl (.tuple #[v,.int .i64 (Z5S S.f (XY S.l m))]) ?_;refine zW 8 rfl v ?_;refine zW 9 rfl (.int .i64 (Z5S S.f (XY S.l m))) ?_;refine zR 11 rfl fun K hK=>?_;obtain⟨ha,hn,hc,ea,en,ec,ca,cn,cc,hs,es,hv,_,_,h3,_⟩:=id RV.out;refine ZV 77 _ _ rfl p9 #[.slice none 0 0,.slice none 0 0,.slice none 0 0] #[.slice ha hn hc,.slice ea en ec,.slice ca cn cc] 77 rfl hv P9.out (by kernel_rfl) rfl (by simp[Value.oneCell']) ?_;intro U' q1 q2 q3;have S9:Hid (Zb (fun q=>q=p9) U U'):=zH (Zb.of_grown q2 (fun q e=>by cases e;rfl));have RC:Hid (Y3 U' 2 ca cn cc (ZH (Z6t S.f (XY S.l m) (XY S.l m) 99999).2.2)):=zH (Z8v h3 S9.out P9.out (fun u hu=>by
       rw[ZH,List.mem_flatMap]at hu;obtain⟨x,_,h⟩:=hu;simp only[List.mem_cons,List.not_mem_nil,or_false]at h;rcases h with rfl | rfl <;> exact⟨_,rfl⟩) (fun u hu x=>by
       simp only[List.mem_cons,List.not_mem_nil,or_false]at hu;rcases hu with rfl | rfl | rfl <;> simp))
      replace DA2:=zH (DA2.out.other S9.out GE9.out P9.out (by intro cur;simp));have HV:=zH hv;have Q1:=zH q1;clear q1 q2 q3 h3 hv P9 RV MK2 GOK2 S9 hh;generalize hVo:U=Uo at *;clear hVo;generalize U'=U at *;refine zK hK (HH.out.below DA2.out.bel).blk fun hh=>?_;clear hK K;refine zW 12 rfl (.int .i64 (Z5S S.f (XY S.l m))) ?_;refine zE ?_;exact REST xa xn xc v p9 U (zH ⟨DA2.out,_,_,ca,cn,cc,HV.out,Q1.out,RC.out⟩)
    intro xa xn xc v p9 W9 QQ;clear DA2 MK2 GOK2 LST IOK hG2;obtain⟨DA,va,vb,ca,cn,cc,hv,hp9,hrc⟩:=QQ.out;replace DA:=zH DA;have P9:=zH hp9;have RC:=zH hrc;clear QQ hp9 hrc hv;obtain⟨cf,hcf⟩:=zX ((Z6t S.f (XY S.l m) (XY S.l m) 99999).2.2);rw[hcf.out]at RC;have DP:Hid (Vc S n=if (n.kind≠5/\n.kind≠6)/\Zn m∈cf then (S,Zg,91)else (S.add m,m,0)):=zH (by
     unfold Vc;rw[if_neg (by have:=HLEN.out;have:=CK3.out;omega),if_neg (by rw[CZ.out];decide),hm.out,hcf.out])
    clear CZ hcf hm CK3;have ck:=Z6 DA.out.n 4 (.int .i64 n.kind) (by rw[<-KIND.out];rfl);have c9:=Z6 P9.out 2 (.slice ca cn cc) rfl;have hmf : ∀(fn:Fn) (first cap:ZW) (w:World),(Instr.makeFunc fn first cap).run zq w = .ok (.func fn first cap) w:=fun _ _ _ _=>rfl;by_cases hk5:n.kind=5
    focus
     have q1:(n.kind != 5)=false:=by simp[hk5]
     have DP2:=zH (show Vc S n=(S.add m,m,0)by rw[DP.out,if_neg (fun h=>h.1.1 hk5)]);clear hk5 DP;go_upto_region 18 with fail;clear q1 ck c9 hmf
    rotate_left
    focus
     by_cases hk6:n.kind=6
     ·have q1:(n.kind != 5)=true:=by simp[hk5]
      have q2:(n.kind != 6)=false:=by simp[hk6]
      have DP2:=zH (show Vc S n=(S.add m,m,0)by rw[DP.out,if_neg (fun h=>h.1.2 hk6)]);clear hk5 hk6 DP;go_upto_region 18 with fail;clear q1 q2 ck c9 hmf;go_wp2_with (first
       |(refine zL p3 DA.out.n ?_))
      refine(Z3Z p mb sp G SF S m ta tc _ (HH.out.below DA.out.bel) HI.out (fun W hs=>Y3.of_own (Ze DA.out.own hs (fun b hb h=>by have h1:=HLT.out b h;have h2:=(DA.out.own.lt b hb).1;omega))) FM.out MOK.out HNUM.out (Nat.le_of_lt HLEN.out)).mono ?_;rintro e Y2 ⟨rfl,ta2,tc2,SF',h1,h2,h3⟩;have GB:=zH DA.out.bel;have GE:=zH DA.out.ge;have ZL:=zH (Zi DA.out.z);have NH:Hid (∀q,w.heap.size<=q -> ¬Yw p mb G SF q):=zH (fun q hq h=>by have:=HLT.out q h;omega);have N2:=zH ((h2.block p3 (Zi DA.out.n) (NH.out p3 GE.out.1)).trans DA.out.n);have Z2:=zH ((h2.block p4 (Zi DA.out.z) (NH.out p4 (by have:=GE.out;omega))).trans DA.out.z);have O2:=zH (Ze DA.out.own h2 (fun b hb h=>NH.out b (DA.out.own.lt b hb).1 h));have H2:=zH h1;have S2:=zH h2;have F2:=zH h3;clear h1 h2 h3;have oneM:=Zm m ta tc;go_wp2_with (first
       |(refine zL p3 N2.out ?_)
       |(refine zN p4 (Z5 m ta tc) Z2.out ?_))
      refine zr (Ys _ p4 _ _ _ _ Z2.out) ?_;have S3:=Uw Y2 p4 (Z5 m ta tc);have P4G:w.heap.size<=p4:=by have:=GE.out;omega
      refine⟨⟨ta,tc,by rw[DP2.out] <;> rfl,by rw[DP2.out];exact Ze O2.out S3 (fun b hb e=>Zq O2.out Z2.out (by intro cur;simp) (by rw[hb,show b=p4 from e]))⟩,_,SF',by
       rw[DP2.out];exact H2.out.same S3 (fun q hq h=>by
        rw[show q=p4 from hq]at h;rcases F2.out p4 h with h5 | h5
        ·exact NH.out p4 P4G h5
        ·have:=ZL.out;omega),Xg ((Zb.of_below GB.out).trans S2.out) S3 (fun q hq=>.inr (by rw[show q=p4 from hq];exact P4G)),fun q hq=>(F2.out q hq).imp id (fun h=>Nat.le_trans GB.out.size h)⟩
     have q1:(n.kind != 5)=true:=by simp[hk5]
     have q2:(n.kind != 6)=true:=by simp[hk6]
     go_wp2_with fail;refine(Z4B cf (fun x=>decide (x=Zn m)) 73 (.pointer (some ⟨p3,0,none⟩)) Zd9 ca cn cc W9 RC.out (fun x _ W hb=>Zcj p3 m ta tc x W (DA.out.below hb).n)).mono ?_;rintro e X1 ⟨rfl,bb⟩;replace DA:=zH (DA.out.below bb);clear q1 q2 ck c9 hmf bb P9 RC;cases han:cf.any (fun x=>decide (x=Zn m))
     case true=>
      have HD:=zH (show Vc S n=(S,Zg,91)by
       have hmem:Zn m∈cf:=by
        obtain⟨x,hx,h⟩:=List.any_eq_true.1 han;rw[<-of_decide_eq_true h];exact hx
       rw[DP.out,if_pos ⟨⟨hk5,hk6⟩,hmem⟩])
      clear han hk5 hk6 DP;go_wp2_with (first
       |(refine zN p4 (Z5 Zg none 0) DA.out.z ?_))
      refine zr (Ys _ p4 _ _ _ _ DA.out.z) ?_;exact Z2s.no HD.out rfl HH.out (DA.out.done (Uw _ p4 _)).1
     have DP2:=zH (show Vc S n=(S.add m,m,0)by
      rw[DP.out,if_neg (fun h=>by
       have h1:=List.any_eq_false.1 han _ h.2;simp at h1)])
     clear han hk5 hk6 DP;go_upto_region 18 with fail
    all_goals
     go_wp2_with (first
      |(refine zL p3 DA.out.n ?_))
     refine(Z3Z p mb sp G SF S m ta tc _ (HH.out.below DA.out.bel) HI.out (fun W hs=>Y3.of_own (Ze DA.out.own hs (fun b hb h=>by have h1:=HLT.out b h;have h2:=(DA.out.own.lt b hb).1;omega))) FM.out MOK.out HNUM.out (Nat.le_of_lt HLEN.out)).mono ?_;rintro e Y2 ⟨rfl,ta2,tc2,SF',h1,h2,h3⟩;have GB:=zH DA.out.bel;have GE:=zH DA.out.ge;have ZL:=zH (Zi DA.out.z);have NH:Hid (∀q,w.heap.size<=q -> ¬Yw p mb G SF q):=zH (fun q hq h=>by have:=HLT.out q h;omega);have N2:=zH ((h2.block p3 (Zi DA.out.n) (NH.out p3 GE.out.1)).trans DA.out.n);have Z2:=zH ((h2.block p4 (Zi DA.out.z) (NH.out p4 (by have:=GE.out;omega))).trans DA.out.z);have O2:=zH (Ze DA.out.own h2 (fun b hb h=>NH.out b (DA.out.own.lt b hb).1 h));have H2:=zH h1;have S2:=zH h2;have F2:=zH h3;clear h1 h2 h3;have oneM:=Zm m ta tc;go_wp2_with (first
      |(refine zL p3 N2.out ?_)
      |(refine zN p4 (Z5 m ta tc) Z2.out ?_))
     refine zr (Ys _ p4 _ _ _ _ Z2.out) ?_;have S3:=Uw Y2 p4 (Z5 m ta tc);have P4G:w.heap.size<=p4:=by have:=GE.out;omega
     refine⟨⟨ta,tc,by rw[DP2.out] <;> rfl,by rw[DP2.out];exact Ze O2.out S3 (fun b hb e=>Zq O2.out Z2.out (by intro cur;simp) (by rw[hb,show b=p4 from e]))⟩,_,SF',by
      rw[DP2.out];exact H2.out.same S3 (fun q hq h=>by
       rw[show q=p4 from hq]at h;rcases F2.out p4 h with h5 | h5
       ·exact NH.out p4 P4G h5
       ·have:=ZL.out;omega),Xg ((Zb.of_below GB.out).trans S2.out) S3 (fun q hq=>.inr (by rw[show q=p4 from hq];exact P4G)),fun q hq=>(F2.out q hq).imp id (fun h=>Nat.le_trans GB.out.size h)⟩
  ·intro kh km y w6 cnt1 HN hen;unfold LN.val at hen;have GY:Hid (G (kh,km)=some y):=zH HN.out.at_;have R6:=zH HN.out.range;have D6:=zH (by
    obtain⟨bb,since,seen,cc,hb⟩:=HR.out.blk;exact DR.out.other (Zb.of_grown (S:=fun q=>q=r) HN.out.grown (fun q e=>by cases e;rfl)) RGE.out hb (by intro cur;simp))
   have LT6:=zH HN.out.lt;have HC6:Hid (Qw (((ks ++ [(kh,km)]).filterMap G).map LN.n) (Z3J c (y.n.clock+1))):=zH (by
    rw[List.filterMap_append,List.map_append,List.filterMap_cons_some GY.out,List.filterMap_nil];exact HC.out.snoc y.n)
   have YC:Hid (1<=y.n.clock/\y.n.clock<=1099511627776):=zH (Vq (HI.out.frm _ (HH.out.gs _ y GY.out).1));clear HC DR;go_upto_region 8 with (first
    |(refine zP w6 w6.heap.size (Z5 y.n y.sa y.sc) ?_))
   have bt:Below w6.heap.size w6 (w6.alloc (.cells (Z5 y.n y.sa y.sc) 47)):=zB _ _;have P7:=zH (Za w6 (.cells (Z5 y.n y.sa y.sc) 47));have R7:=zH (R6.out.below bt);have D7:=zH (D6.out.below bt);obtain⟨p7,hp7⟩:=zX (w6.heap.size);rw[hp7.out]at P7;rw[hp7.out];generalize w6.alloc (.cells (Z5 y.n y.sa y.sc) 47)=w7 at *;clear bt hen R6 D6 HN;have cn:=Z6 D7.out.n 2 (.int .i64 c) rfl;have cfz:=Zp D7.out.n 2;have cy:=Z6 P7.out 2 (.int .i64 y.n.clock) rfl;have hw:wrap64 (y.n.clock+1)=y.n.clock+1:=by have h1:=YC.out;unfold wrap64;omega
   have D8:=zH (D7.out.set (m':=doC S n (Z3J c (y.n.clock+1))) (Zb.of_grown (Zl w7 p3 2 (.int .i64 (Z3J c (y.n.clock+1)))) (fun q e=>by cases e;rfl)) (by have h1:=ZK D7.out.n 2 (.int .i64 (Z3J c (y.n.clock+1)));exact h1) rfl);have R8:=zH (R7.out.of_blocks (w':=w7.setCell ⟨p3,2,none⟩ (.int .i64 (Z3J c (y.n.clock+1)))) (Below.heap_setCell _ _ _ _ (fun e=>by have:=HLT.out mb (.inr (.inl rfl));have:=D7.out.ge.1;have e2:mb=p3:=e;omega)) (Below.heap_setCell _ _ _ _ (fun e=>by have:=RGE.out;have:=D7.out.ge.2;have e2:r=p3:=e;omega)));clear R7 D7 P7;rw[Zc3]at D8 R8 HC6;go_wp2;go_roundw
   case rel=>exact⟨_,_,_,R8,D8,HC6⟩
   case measure=>rw[R8.out.left_eq,HR.out.left_eq];exact LT6.out
end
theorem Z95 {V:ZM}{a:XA}{S:Zj}(h:Yi V a.house=some S):XB V a=(JC V a.house (if (Vc S a.note).2.2=0/\((Vc S a.note).2.1.kind=2\/(Vc S a.note).2.1.kind=4)then (Vc S a.note).1.sync else (Vc S a.note).1),(Vc S a.note).2.2):=by
 unfold XB;rw[h]
theorem Z1v {w w':World}{p mb sp:Nat}{G G':Nm->Option LN}{F SF SF':Nat->Prop}{S':Zj}(h0 : ∀k,F k↔Yw p mb G SF k)(h1:Yp w' p mb sp G' SF' S')(h2:Zb (Yw p mb G SF) w w')(h3 : ∀k,Yw p mb G' SF' k->Yw p mb G SF k\/w.heap.size<=k):Z4J Z04 w p F S' w':=
 ⟨Yw p mb G' SF',⟨mb,sp,G',SF',h1,fun k=>Iff.rfl⟩,h2.weaken (fun k hk=>(h0 k).2 hk),fun k hk=>(h3 k hk).imp (fun e=>(h0 k).2 e) id⟩
section
attribute [local go_sem] ZT Xa J4 XI
theorem ZbU (p:Nat)(F:Nat->Prop)(V:ZM)(a:XA)(sa:zA)(sc:Nat)(S:Zj)(w:World)(h:VR w p F V)(hS:Yi V a.house=some S)(hi:Xt S)(hs:Xi w sa a.note.strokes.length sc a.note.strokes)(hok:a.note.Ok)(hst:a.note.strokes.length<=1000000000)(hlen:S.l.length < 400):
  Calls zq 87 #[.pointer (some ⟨p,0,none⟩),.agg (a.cells sa sc).toArray] w fun e w'=>e = .returned (.int .i64 (XB V a).2)/\Yv w p F (XB V a).1 w':=by
 rw[Z95 hS];obtain⟨S',m,z,hD⟩ : ∃S' m z,Hid (Vc S a.note=(S',m,z)):=⟨_,_,_,zH rfl⟩;rw[hD.out];dsimp only;obtain⟨Y,hY⟩:=zX ((if z=0/\(m.kind=2\/m.kind=4)then S'.sync else S'));rw[hY.out];have J19:=zH (show(zq.info? 47).map (·.size)=some (a.note.cells sa sc).length from by kernel_rfl);have b0:=zB w (.cells (a.cells sa sc).toArray 67);have C1:=zH (show(a.cells sa sc).toArray[1]? = some (.int .i64 a.house)from rfl);have CN:Hid (∀j v,(a.note.cells sa sc)[j]? = some v->(a.cells sa sc).toArray[4+j]? = some v):=zH (fun j v hv=>by
  rw[List.getElem?_toArray];unfold XA.cells;rw[List.getElem?_append_right (by show 4<=_;omega),show 4+j - _=j from by show 4+j - 4=j;omega,List.getElem?_append_left (List.getElem?_eq_some_iff.1 hv).1];exact hv)
 obtain⟨OA,hOA⟩:=zX ((a.cells sa sc).toArray);rw[hOA.out]at b0 C1 CN ⊢;have X0:=zH (Za w (.cells OA 67));have H0:=zH (h.below Zk b0);have RS:=zH (hs.below b0);have B0:=zH b0;have HI:=zH hi;have HOK:=zH hok;have HST:=zH hst;have HLEN:=zH hlen;clear b0 hOA h hs hi hok hst hlen;go_enter Tryz.func87,Tryz.ntmps87;go_upto_region 1 with fail;obtain⟨p3,hp3⟩:=zX (w.heap.size);rw[hp3.out]at X0 ⊢;generalize w.alloc (.cells OA 67)=W0 at *;obtain⟨ps,Fs,ha,hc,xs,ma,mc,h1,h2⟩:=H0.out.open;obtain⟨k,q,Fk,e1,e2,g1,g2,g3,g4⟩:=h1.at hS;have c1:=Z6 X0.out 1 (.int .i64 a.house) C1.out;have HH:=zH (Xf h1 a.house k q e1 g1);obtain⟨mb,sp,G,SF,k1,k2⟩:=g3;have HK:=zH k1;have FIN:Hid (∀S' w',Z4J Z04 W0 q Fk S' w'->Yv w p F (JC V a.house S') w'):=zH (fun S' w' j=>by
  rw[h2];exact Qs.after (w:=W0) (h1.ret Zk e2 g1 g2 j) B0.out)
 have K2:=zH k2;have HX:=zH (show W0.rangeAt p3 4 (a.note.cells sa sc)from fun j v hv=>Z6 X0.out (4+j) v (CN.out j v hv));clear h1 h2 k1 k2 g1 g2 g4 H0 hS e1 e2;go_wp2_with fail;refine HH.out.mono ?_;rintro e w1 ⟨rfl,rfl⟩;go_wp2_with (refine wpList_load_mid rfl 47 _ rfl p3 4 rfl (a.note.cells sa sc) _ HX.out Tryz.underlying47 rfl (by exact J19.out) ?_);refine(Zb8 q mb sp G SF S a.note sa sc _ HK.out HI.out RS.out HOK.out HST.out HLEN.out).mono ?_;rintro e V1 ⟨⟨ta,tc,rfl,hrt⟩,G1,SF1,j1,j2,j3⟩;have J1:=zH j1;have J2:=zH j2;have J3:=zH j3;clear hrt j1 j2 j3 HX c1;rw[hD.out]at J1 ⊢;dsimp only at J1 ⊢;go_upto_region 3 with (refine zP V1 V1.heap.size (Z5 m ta tc) ?_);have b2:Below V1.heap.size V1 (V1.alloc (.cells (Z5 m ta tc) 47)):=zB _ _;have N11:=Za V1 (.cells (Z5 m ta tc) 47);have R:Hid (Yp (V1.alloc (.cells (Z5 m ta tc) 47)) q mb sp G1 SF1 S'/\Zb (Yw q mb G SF) w1 (V1.alloc (.cells (Z5 m ta tc) 47))):=zH ⟨J1.out.below b2,J2.out.trans (Zb.of_below b2)⟩;obtain⟨p11,hp11⟩:=zX (V1.heap.size);rw[hp11.out]at N11 ⊢;generalize V1.alloc (.cells (Z5 m ta tc) 47)=V2 at *;clear b2 hp11;have c4:=Z6 N11 4 (.int .i64 m.kind) (XI m ta tc);clear N11;have END:Hid (Z4J Z04 w1 q Fk S' V2):=zH (Z1v K2.out R.out.1 R.out.2 J3.out);have SYN:Hid (∀w',Yp w' q mb sp G1 SF1 S'.sync->Zb (fun k=>k=sp) V2 w'->Z4J Z04 w1 q Fk S'.sync w'):=zH (fun w' j1 j2=>by
  refine Z1v K2.out j1 ?_ J3.out;refine R.out.2.trans2 (F1:=fun k=>Yw q mb G1 SF1 k) (j2.weaken fun b hb=>?_) (fun b hb=>(J3.out b hb));rw[show b=sp from hb];exact .inr (.inr (.inl R.out.1.stk.self)))
 have SY:Hid (Y=S'.sync -> ∀w',Yp w' q mb sp G1 SF1 S'.sync->Zb (fun k=>k=sp) V2 w'->Yv w p F (JC V a.house Y) w'):=zH (fun e w' j1 j2=>by rw[e];exact FIN.out _ _ (SYN.out w' j1 j2));have EN:Hid (Y=S'->Yv w p F (JC V a.house Y) V2):=zH (fun e=>by rw[e];exact FIN.out _ _ END.out);clear FIN SYN END J3 K2;by_cases z0:z=0
 ·subst z0;have t1:((0:Int)==0)=true:=rfl;by_cases m2:m.kind=2
  ·have t2:(m.kind==2)=true:=by simp[m2]
   have HY:=zH (show Y=S'.sync from hY.out.symm.trans (if_pos ⟨rfl,.inl m2⟩));clear m2 hY;go_wp2_with fail;refine(Q7 q mb sp G1 SF1 S' _ R.out.1).mono ?_;rintro e w2 ⟨rfl,j1,j2⟩;have J:=zH (SY.out HY.out _ j1 j2);clear j1 j2 c4;go_wp2;go_ret;exact⟨rfl,J.out⟩
  ·have t2:(m.kind==2)=false:=by simp[m2]
   by_cases m4:m.kind=4
   focus
    have t3:(m.kind==4)=true:=by simp[m4]
    have HY:=zH (show Y=S'.sync from hY.out.symm.trans (if_pos ⟨rfl,.inr m4⟩));clear m2 m4 hY;go_wp2_with fail;refine(Q7 q mb sp G1 SF1 S' _ R.out.1).mono ?_;rintro e w2 ⟨rfl,j1,j2⟩;have J:=zH (SY.out HY.out _ j1 j2);clear j1 j2 c4
   rotate_left
   focus
    have t3:(m.kind==4)=false:=by simp[m4]
    have J:=zH (EN.out (hY.out.symm.trans (if_neg (by rintro⟨_,e | e⟩;exact m2 e;exact m4 e))));clear m2 m4 hY
   all_goals
    go_wp2;go_ret;exact⟨rfl,J.out⟩
 ·have t1:(z==0)=false:=by simp[z0]
  have J:=zH (EN.out (hY.out.symm.trans (if_neg (fun e=>z0 e.1))));clear z0 hY;go_wp2;go_ret;exact⟨rfl,J.out⟩
end
theorem Zb0:(zq.info? 152).map (fun i=>(i.zero,i.size,i.bytes))=some (some (.agg #[.int .i64 0,.int .i64 0,.slice none 0 0]),3,40):=by kernel_rfl
theorem Z10 (w:World)(base:Nat)(sa:zA)(sn sc:Nat)(xs:List Value)(hown:w.ownsRow base 152 3 (.slice sa sn sc) sn xs)(xa:zA)(m xc:Nat)(ys:List Value)(hrd:Y3 w 3 xa m xc ys)(h1 : ∀u∈ys,u.oneCell'=true)
  (hbytes:(sn+m) * 40<=140737488355328) (hbase:base<=w.heap.size):
  ∃a' c' w',(Builtin.append_ #[89,89] 89 #[.slice sa sn sc,.slice xa m xc]).run zq w = .ok (.slice a' (sn+m) c') w'/\w'.ownsRow base 152 3 (.slice a' (sn+m) c') (sn+m) (xs ++ ys)/\w.grownBy w' (Value.ownBlock (.slice sa sn sc))/\(a'=sa\/a'=some ⟨w.heap.size,0,none⟩):=by
 obtain⟨i,hi,hz0,hz1,hz2⟩:=info_parts Zb0;obtain⟨a',c',w',hr,h2,h3⟩:=Yc w base 89 89 152 i _ 3 40 Tryz.underlying89 hi hz0 hz1 hz2 rfl (by decide) sa sn sc xs hown xa m xc ys hrd h1 (by unfold maxLen;omega) hbytes hbase;have hloc:=Jp (P:=zq) w base 89 89 152 i _ 3 40 Tryz.underlying89 hi hz0 hz1 hz2 sa sn sc _ hown xa m xc _ hrd h1 (by unfold maxLen;omega) hbytes _ _ hr;refine⟨a',c',w',hr,h2,h3,?_⟩;rcases hloc with ⟨n',c'',h⟩ | ⟨n',c'',h⟩
 ·simp only[Value.slice.injEq]at h;exact .inl h.1
 ·simp only[Value.slice.injEq]at h;exact .inr h.1
theorem Z5u (w:World)(a0 a1:Int):
  (Instr.buildSlice 37 2 #[(0,.int .i64 a0),(1,.int .i64 a1)]).run zq w = .ok (.slice (some ⟨w.heap.size,0,none⟩) 2 2) (w.alloc (.cells #[.int .i64 a0,.int .i64 a1] 3)):=by
 kernel_rfl
theorem Z5v (w:World)(a0:Int):
  (Instr.buildSlice 37 1 #[(0,.int .i64 a0)]).run zq w = .ok (.slice (some ⟨w.heap.size,0,none⟩) 1 1) (w.alloc (.cells #[.int .i64 a0] 3)):=by
 kernel_rfl
theorem Z3K (W:World)(a0 a1 a2:Value):Y3 (W.alloc (.cells #[a0,a1,a2] 152)) 3 (some ⟨W.heap.size,0,none⟩) 1 1 [a0,a1,a2]:=
 Y3.of_own (World.ownsRow_lit (base:=W.heap.size) (e:=152) (size:=3) W #[a0,a1,a2] 1 (Nat.le_refl _) (by unfold maxLen;omega) rfl)
theorem Z4M (base:Nat)(w:World)(y z:Int):VT base (w.alloc (.cells #[.int .i64 y,.int .i64 z] 3)) (some ⟨w.heap.size,0,none⟩):=by
 intro b off e _;cases e;exact V8 (Za w _) (by decide)
theorem JS {w:World}{b1 b2:Nat}{e1 e2:TypeId}{k1 k2:Nat}{v1 v2:Value}{n1 n2:Nat}{l1 l2:List Value}(h1:w.ownsRow b1 e1 k1 v1 n1 l1)(h2:w.ownsRow b2 e2 k2 v2 n2 l2)(hne:e1≠e2): ∀k,v1.ownBlock=some k->v2.ownBlock≠some k:=by
 intro k hk hk2;rcases h2.2 with ⟨rfl,_⟩ | ⟨g,cap,cur,rfl,_,h3,_⟩
 ·simp[Value.ownBlock]at hk2
 ·simp only[Value.ownBlock,Option.some.injEq]at hk2;subst hk2;exact ZJ h1 h3 hne hk
theorem JZ {P:Program}{op:Oper}{a:Act}{w w':World}{K:Act->World->Prop}{Q:Exit->Act->World->Prop}(v:Value)(h:(execOp a.eval op).run P w = .ok (.value v) w')(hK:K (a.put op.dst v) w'):op.wp P a w K Q:=by
 unfold Oper.wp;rw[h];exact hK
section
variable {PH:World->Nat->(Nat->Prop)->Zj->Prop}{tW tH:TypeId}{bf:Value->Value->ZW}{w w1 w2 w3:World}{p:Nat}{ps:List Nat}{Fs:List (Nat->Prop)}{ha:zA}{hc:Nat}{xs:List LM}{ma:zA}{mc:Nat}{V:ZM}
theorem Up.sent (hp:Q9 PH)(h:Up PH tW tH bf w p ps Fs ha hc xs ma mc V)(x:LM)(hb1:Below w.heap.size w w1)(hx:w1.ownsRow 0 5 1 x.val x.m.body.length (x.m.body.map Zr))(hxb : ∀k,x.val.ownBlock=some k->w.heap.size<=k \/ ∃y∈xs,y.val.ownBlock=some k)
  {ma':zA} {mc':Nat} (hxm : ∀k,x.val.ownBlock=some k->Value.ownBlock (.slice ma xs.length mc)≠some k/\k≠p) (ho:w2.ownsRow 0 152 3 (.slice ma' (xs.length+1) mc') (xs.length+1) (ZD xs ++ x.cells)) (hg:w1.grownBy w2 (Value.ownBlock (.slice ma xs.length mc))) (hl:ma'=ma\/ma'=some ⟨w1.heap.size,0,none⟩)
  (hbd : ∀y∈xs,∀k,y.val.ownBlock=some k->Value.ownBlock (.slice ma xs.length mc)≠some k/\k≠p)
  (hpm : ∀k,Value.ownBlock (.slice ma xs.length mc)=some k\/Value.ownBlock (.slice ha ps.length hc)=some k->k≠p) (hmh : ∀k,Value.ownBlock (.slice ma xs.length mc)=some k->Value.ownBlock (.slice ha ps.length hc)≠some k)
  (hb:w3.heap[p]? = some (.cells (bf (.slice ha ps.length hc) (.slice ma' (xs.length+1) mc')) tW (0,0))) (hs:Zb (fun k=>k=p) w2 w3):
  Qs PH tW tH bf w p (wF p Fs ha ps.length hc xs ma mc) (Vg V x.m) w3:=by
 have e1:xs.length+1=(xs ++ [x]).length:=by simp
 have e2:ZD xs ++ x.cells=ZD (xs ++ [x]):=by rw[Z2F,Z6L]
 rw[e2,e1]at ho;rw[e1]at hb;have hlt:=h.lt hp;have hX:Zb (fun k=>k=p\/Value.ownBlock (.slice ma xs.length mc)=some k) w w3:=by
  have g1:Zb (fun k=>k=p\/Value.ownBlock (.slice ma xs.length mc)=some k) w w1:=Zb.of_below hb1;exact(g1.trans (Zb.of_grown hg (fun k hk=>.inr hk))).trans (hs.weaken fun k hk=>.inl hk)
 have hm2 : ∀k,Value.ownBlock (.slice ma' (xs ++ [x]).length mc')=some k->Value.ownBlock (.slice ma xs.length mc)=some k\/w.heap.size<=k:=fun k hk=>by
  rcases J0 (n:=xs.length) (c:=mc) hl hk with h5 | h5
  ·exact .inl h5
  ·exact .inr (h5 ▸ hb1.size)
 have hpw:=Zi h.blk;have q1 : ∀k,(k=p\/Value.ownBlock (.slice ma xs.length mc)=some k) -> ¬Z03 Fs k/\Value.ownBlock (.slice ha ps.length hc)≠some k:=fun k hk=>by
  rcases hk with e | hk
  ·rw[e];exact⟨h.sp,fun e=>hpm _ (.inr e) rfl⟩
  ·exact⟨fun hF=>h.sm k hF hk,hmh k hk⟩
 have q2:w3.ownsRow 0 152 3 (.slice ma' (xs ++ [x]).length mc') (xs ++ [x]).length (ZD (xs ++ [x])):=by
  refine Ze ho hs (fun b hb2 e=>?_);rw[show b=p from e]at hb2;rcases hm2 p hb2 with h5 | h5
  ·exact hpm _ (.inl h5) rfl
  ·omega
 have q3 : ∀y∈xs ++ [x],w3.ownsRow 0 5 1 y.val y.m.body.length (y.m.body.map Zr):=fun y hy=>by
  rcases List.mem_append.1 hy with hy | hy
  ·refine Ze (h.bod y hy) hX (fun b hb2 e=>?_);have h5:=hbd y hy b hb2;rcases e with e | e
   ·exact h5.2 e
   ·exact h5.1 e
  ·rw[List.mem_singleton.1 hy];exact Ze (Ze hx (Zb.of_grown (S:=fun k=>Value.ownBlock (.slice ma xs.length mc)=some k) hg (fun k hk=>hk)) (fun b hb2 e=>(hxm b hb2).1 e)) hs (fun b hb2 e=>(hxm b hb2).2 e)
 have q4 : ∀k,(Value.ownBlock (.slice ma' (xs ++ [x]).length mc')=some k \/ ∃y∈xs ++ [x],y.val.ownBlock=some k)->w.heap.size<=k\/Value.ownBlock (.slice ma xs.length mc)=some k \/ ∃y∈xs,y.val.ownBlock=some k:=fun k hk=>by
  rcases hk with hk | ⟨y,hy,hk⟩
  ·exact(hm2 k hk).symm.imp id .inl
  ·rcases List.mem_append.1 hy with hy | hy
   ·exact .inr (.inr ⟨y,hy,hk⟩)
   ·rw[List.mem_singleton.1 hy]at hk;exact(hxb k hk).imp id .inr
 obtain⟨g1,g2⟩:=h.mail hp hX q1 hb q2 q3 q4;refine⟨_,⟨ps,Fs,ha,hc,xs ++ [x],ma',mc',?_,fun k=>Iff.rfl⟩,hX.weaken (fun k hk=>?_),g2⟩
 ·have e3:Vg V x.m = { V with ms:=(xs ++ [x]).map LM.m } := by unfold Vg;rw[List.map_append,h.mls];rfl
  rw[e3];exact g1
 ·rcases hk with rfl | hk
  ·exact .inl rfl
  ·exact .inr (.inr (.inr (.inl hk)))
theorem Up.send (hp:Q9 PH)(h:Up PH tW tH bf w p ps Fs ha hc xs ma mc V)(n1:152≠tH)(n2:152≠tW)(n3:tH≠tW)(n4:5≠152)(n5:5≠tW)(x:LM)(hb1:Below w.heap.size w w1)(hx:w1.ownsRow 0 5 1 x.val x.m.body.length (x.m.body.map Zr))(hxb : ∀k,x.val.ownBlock=some k->w.heap.size<=k \/ ∃y∈xs,y.val.ownBlock=some k)
  {ma':zA} {mc':Nat} (ho:w2.ownsRow 0 152 3 (.slice ma' (xs.length+1) mc') (xs.length+1) (ZD xs ++ x.cells)) (hg:w1.grownBy w2 (Value.ownBlock (.slice ma xs.length mc))) (hl:ma'=ma\/ma'=some ⟨w1.heap.size,0,none⟩)
  (hb:w3.heap[p]? = some (.cells (bf (.slice ha ps.length hc) (.slice ma' (xs.length+1) mc')) tW (0,0))) (hs:Zb (fun k=>k=p) w2 w3):
  Qs PH tW tH bf w p (wF p Fs ha ps.length hc xs ma mc) (Vg V x.m) w3:=by
 have m1:=Zd h.mrow hb1;have b1:=Z7 hb1 h.blk;refine h.sent hp x hb1 hx hxb (fun k hk=>⟨JS hx m1 n4 k hk,fun e=>ZJ hx b1 n5 (e ▸ hk)⟩) ho hg hl (fun y hy k hk=>⟨JS (h.bod y hy) h.mrow n4 k hk,fun e=>ZJ (h.bod y hy) h.blk n5 (e ▸ hk)⟩) (fun k hk e=>?_) (JS h.mrow h.hrow n1) hb hs;rcases hk with hk | hk
 ·exact ZJ h.mrow h.blk n2 (e ▸ hk)
 ·exact ZJ h.hrow h.blk n3 (e ▸ hk)
end
section
variable {P:Program}{ops:Array Oper}{Q:Exit->Act->World->Prop}{md:Region.Mode}{m:Nat}{S:World->Prop}
def Y8 (P:Program)(md:Region.Mode)(ops:Array Oper)(Q:Exit->Act->World->Prop)(m:Nat)(S:World->Prop):Nat->Array Bool->Act->World->Prop
 | 0,l,a,w=>Region.ready md ops l=[]/\Q .normal a w
 | n+1,l,a,w=>(Region.ready md ops l=[]->Q .normal a w) /\ ∀i∈Region.ready md ops l,wpOp P ops Q i (fun a' w'=>(i≠m->S w')/\Y8 P md ops Q m S n (l.setIfInBounds i true) a' w') a w
theorem Y8.any: ∀(n:Nat) (l:Array Bool) (a:Act) (w:World),Y8 P md ops Q m S n l a w->wpAny P md ops Q n l a w
 | 0,_,_,_,h=>h
 | n+1,_,_,_,h=>⟨h.1,fun i hi=>wpOp_mono (fun a' w' h'=>Y8.any n _ a' w' h'.2) (h.2 i hi)⟩
theorem Y8.done {l:Array Bool}{a:Act}{w:World}(hr:Region.ready md ops l=[])(h:Q .normal a w): ∀n,Y8 P md ops Q m S n l a w
 | 0=>⟨hr,h⟩
 | _+1=>⟨fun _=>h,by rw[hr];simp⟩
theorem Z9j {i:Nat}{l:Array Bool}(hm:Region.waitsFor md ops m i=true)(hi:l.getD i true=false):m ∉ Region.ready md ops l:=fun hr=>by
 obtain⟨oj,hj,e,he,hb,hon⟩:=Region.waitsFor_spec hm
 obtain⟨_,oj',hj',hall⟩:=mem_ready.1 hr
 have h0:oj'=oj:=Option.some.inj (hj'.symm.trans hj)
 subst h0
 have h1:=hall e he hb
 rw[hon,getD_both hi]at h1
 cases h1
theorem Y8.first {i:Nat}{oi:Oper}{v:Value}(hi:ops[i]? = some oi)(hsel : ∀(j:Nat) (o:Oper) cs b,ops[j]? = some o->o.op ≠ .select cs b)(hm:Region.waitsFor md ops m i=true)(hne:i≠m)
  (hQ : ∀c a w,Q (.panic c) (a.put oi.dst v) w->Q (.panic c) a w) : ∀(n:Nat) (l:Array Bool) (a:Act) (w:World),
   (∀j oj,ops[j]? = some oj->j≠i->l.getD j true=false->(∀e∈oj.after,Region.binds md e=true->e.on≠i)->oi.apart ops oj=true)->
   i∈Region.ready md ops l->YieldsIf P ops S oi v a->S w->Y8 P md ops Q m S n (l.setIfInBounds i true) (a.put oi.dst v) w->Y8 P md ops Q m S (n+1) l a w:=by
 intro n
 induction n with
 | zero=>
  intro l a w _ hr hy hS H;refine⟨fun h=>(by rw[h]at hr;cases hr),fun j hj=>?_⟩;by_cases e:j=i
  ·rw[e];exact hy.wpOp hi hS ⟨fun _=>hS,H⟩
  ·have h1:=ready_mono hj e;rw[H.1]at h1;cases h1
 | succ n ih=>
  intro l a w hfree hr hy hS H;refine⟨fun h=>(by rw[h]at hr;cases hr),fun j hj=>?_⟩;by_cases e:j=i
  ·rw[e];exact hy.wpOp hi hS ⟨fun _=>hS,H⟩
  ·obtain⟨hjun,oj,hoj,hall⟩:=mem_ready.1 hj;have hiun:=(mem_ready.1 hr).1;have hjm:j≠m:=fun e2=>Z9j hm hiun (e2 ▸ hj);have hno : ∀x∈oj.after,Region.binds md x=true->x.on≠i:=fun x hx hb heq=>by
    have h1:=hall x hx hb;rw[heq,getD_both hiun]at h1;cases h1
   have h2:=wpOp_putIf hoj (hfree j oj hoj e hjun hno) (fun cs b=>hsel i oi cs b hi) (fun cs b=>hsel j oj cs b hoj) hQ hy (H.2 j (ready_mono hj e));refine wpOp_mono (fun a' w' h3=>⟨fun _=>h3.2.1 hjm,ih (l.setIfInBounds j true) a' w' (fun k ok hk hki hun hn=>?_) (ready_mono hr (Ne.symm e)) h3.1 (h3.2.1 hjm) ?_⟩) h2
   ·refine hfree k ok hk hki ?_ hn;by_cases e2:j=k
    ·rw[<-e2];exact hjun
    ·rw[getD_set_ne true e2]at hun;exact hun
   ·rw[Array.setIfInBounds_comm _ _ e];exact h3.2.2
theorem Y8.take {i:Nat}{oi:Oper}{v:Value}{n:Nat}{l:Array Bool}{a:Act}{w:World}(hi:ops[i]? = some oi)(hs:Region.noSelect ops=true)(hf:Region.free md ops l i=true)(hr:(Region.ready md ops l).contains i=true)
  (hm:(Region.waitsFor md ops m i && decide (i≠m))=true) (hQ : ∀c a w,Q (.panic c) (a.put oi.dst v) w->Q (.panic c) a w) (hy:YieldsIf P ops S oi v a) (hS:S w)
  (h:Y8 P md ops Q m S n (l.setIfInBounds i true) (a.put oi.dst v) w):Y8 P md ops Q m S (n+1) l a w:=by
 rw[Bool.and_eq_true,decide_eq_true_eq]at hm;exact Y8.first hi (Region.noSelect_spec hs) hm.1 hm.2 hQ n l a w (Region.free_spec hi hf) (by simpa using hr) hy hS h
def VU (P:Program)(md:Region.Mode)(ops:Array Oper)(Q:Exit->Act->World->Prop)(m:Nat)(S:World->Prop)(n:Nat)(l:Array Bool)(a:Act)(w:World)(rs:List Nat):Prop:=
 ∀i∈rs,wpOp P ops Q i (fun a' w'=>(i≠m->S w')/\Y8 P md ops Q m S n (l.setIfInBounds i true) a' w') a w
theorem VU.nil {n:Nat}{l:Array Bool}{a:Act}{w:World}: VU P md ops Q m S n l a w []:=fun _ h=>by cases h
theorem VU.cons {n:Nat}{l:Array Bool}{a:Act}{w:World}{i:Nat}{o:Oper}{rs:List Nat}(ho:ops[i]? = some o)
  (h : ∀K:Act->World->Prop,Shut (∀a w,S w->(S w->Y8 P md ops Q m S n (l.setIfInBounds i true) a w)->K a w)->if Region.wanted o (yielded ops a.tmps)=true then Oper.wp P o a w K Q else K (a.put o.dst undef) w)
  (hs:VU P md ops Q m S n l a w rs):VU P md ops Q m S n l a w (i :: rs):=fun j hj=>by
 rcases List.mem_cons.1 hj with e | hj
 ·rw[e]
  exact wpOp_step ho (fun K hK=>h K (fun a w hS hW=>hK a w ⟨fun _=>hS,hW hS⟩))
 ·exact hs j hj
theorem VU.last {n:Nat}{l:Array Bool}{a:Act}{w:World}{o:Oper}(ho:ops[m]? = some o)
  (h : ∀K:Act->World->Prop,Shut (∀a w,Y8 P md ops Q m S n (l.setIfInBounds m true) a w->K a w)->if Region.wanted o (yielded ops a.tmps)=true then Oper.wp P o a w K Q else K (a.put o.dst undef) w):VU P md ops Q m S n l a w [m]:=fun j hj=>by
 rw[List.mem_singleton.1 hj]
 exact wpOp_step ho (fun K hK=>h K (fun a w hW=>hK a w ⟨fun e=>absurd rfl e,hW⟩))
theorem Y8.ready {rs:List Nat}{n:Nat}{l:Array Bool}{a:Act}{w:World}(hr:Region.ready md ops l=rs)(hne:rs≠[])(h:VU P md ops Q m S n l a w rs):Y8 P md ops Q m S (n+1) l a w:=
 ⟨fun h0=>absurd (hr ▸ h0) hne,hr ▸ h⟩
theorem bW {n:Nat}{l:Array Bool}{a a':Act}{w:World}(i:Nat){oi:Oper}(hi:ops[i]? = some oi)(v:Value)(h:Y8 P md ops Q m S n (l.setIfInBounds i true) a' w)
  (hs:Region.noSelect ops=true:=by kernel_rfl) (hf:Region.free md ops l i=true:=by kernel_rfl) (hr:(Region.ready md ops l).contains i=true:=by kernel_rfl) (hm:(Region.waitsFor md ops m i && decide (i≠m))=true:=by kernel_rfl)
  (hQ : ∀c a w,Q (.panic c) (a.put oi.dst v) w->Q (.panic c) a w:=by exact fun _ _ _ h=>h) (hS:S w:=by assumption) (hy:YieldsIf P ops S oi v a:=by exact Or.inl ⟨by kernel_rfl,by intro W _;go_simp⟩)
  (ha:a.put oi.dst v=a':=by first|(simp only[Act.put,List.getElem_toArray,List.getElem_cons_succ,List.getElem_cons_zero,List.setIfInBounds_toArray,List.set_cons_zero,List.set_cons_succ];rfl) | rfl):
  Y8 P md ops Q m S (n+1) l a w:=Y8.take hi hs hf hr hm hQ hy hS (ha ▸ h)
theorem bS {n:Nat}{l:Array Bool}{a a':Act}{w:World}(i:Nat){oi:Oper}(hi:ops[i]? = some oi)(v:Value)(hq : ∀W,S W->(execOp a.eval oi).run P W = .ok (.value v) W)(h:Y8 P md ops Q m S n (l.setIfInBounds i true) a' w)
  (hs:Region.noSelect ops=true:=by kernel_rfl) (hf:Region.free md ops l i=true:=by kernel_rfl) (hr:(Region.ready md ops l).contains i=true:=by kernel_rfl) (hm:(Region.waitsFor md ops m i && decide (i≠m))=true:=by kernel_rfl)
  (hQ : ∀c a w,Q (.panic c) (a.put oi.dst v) w->Q (.panic c) a w:=by exact fun _ _ _ h=>h) (hS:S w:=by assumption) (hw:Region.wanted oi (yielded ops a.tmps)=true:=by kernel_rfl)
  (ha:a.put oi.dst v=a':=by first|(simp only[Act.put,List.getElem_toArray,List.getElem_cons_succ,List.getElem_cons_zero,List.setIfInBounds_toArray,List.set_cons_zero,List.set_cons_succ];rfl) | rfl):
  Y8 P md ops Q m S (n+1) l a w:=Y8.take hi hs hf hr hm hQ (.inl ⟨hw,hq⟩) hS (ha ▸ h)
theorem bR {n:Nat}{l:Array Bool}{a:Act}{w:World}(i:Nat){o:Oper}(ho:ops[i]? = some o)
  (h : ∀K:Act->World->Prop,Shut (∀a w,S w->(S w->Y8 P md ops Q m S n (l.setIfInBounds i true) a w)->K a w)->if Region.wanted o (yielded ops a.tmps)=true then Oper.wp P o a w K Q else K (a.put o.dst undef) w)
  (hr:Region.ready md ops l=[i]:=by kernel_rfl):Y8 P md ops Q m S (n+1) l a w:=Y8.ready hr (by simp) (VU.cons ho h VU.nil)
theorem bL {n:Nat}{l:Array Bool}{a:Act}{w:World}{o:Oper}(ho:ops[m]? = some o)
  (h : ∀K:Act->World->Prop,Shut (∀a w,Y8 P md ops Q m S n (l.setIfInBounds m true) a w->K a w)->if Region.wanted o (yielded ops a.tmps)=true then Oper.wp P o a w K Q else K (a.put o.dst undef) w)
  (hr:Region.ready md ops l=[m]:=by kernel_rfl):Y8 P md ops Q m S (n+1) l a w:=Y8.ready hr (by simp) (VU.last ho h)
theorem bK {n:Nat}{l:Array Bool}{a a':Act}{w:World}{K:Act->World->Prop}(hK:Shut (∀a w,S w->(S w->Y8 P md ops Q m S n l a w)->K a w))(hS:S w)(h:S w->Y8 P md ops Q m S n l a' w)
  (ha:a=a':=by first|(simp only[Act.put,List.getElem_toArray,List.getElem_cons_succ,List.getElem_cons_zero,List.setIfInBounds_toArray,List.set_cons_zero,List.set_cons_succ];rfl) | rfl):K a w:=by
 subst ha;exact hK.out _ _ hS h
theorem bE {n:Nat}{l:Array Bool}{a:Act}{w:World}{Q:Exit->Act->World->Prop}(h:Q .normal a w)(hr:Region.ready md ops l=[]:=by kernel_rfl):Y8 P md ops (NoPanic Q) m S n l a w:=Y8.done hr (NoPanic.normal h) _
theorem bD {id:Nat}{a:Act}{w:World}{Q:Exit->Act->World->Prop}(m:Nat)(S:World->Prop)(hS:S w.drew)(h:S w.drew->Y8 P .any ops (NoPanic Q) m S ops.size (Array.replicate ops.size false) a w.drew)(hm:P.follows .mixedOrders=true:=by kernel_rfl):
  (Code.region id ops true).wp P Q a w:=wp_region_noPanic (wp_region_any hm (Y8.any _ _ _ _ (h hS)))
end
end Go.Proofs.YtlnhppgfhkkidaaGreat
