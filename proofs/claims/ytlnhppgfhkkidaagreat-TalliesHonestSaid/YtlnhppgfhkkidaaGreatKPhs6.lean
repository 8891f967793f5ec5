/- Parts of the proof, in order. -/
import Derived.Shelf.SlMaps.Clone
import Derived.Deep.RegionHeld3
import Derived.Deep.AppendLies
import Derived.Deep.DrawnRows
import Derived.Deep.Cut
import Derived.Deep.RegionLaw
import Derived.Defers
import Derived.Recover
import Derived.Laws.Pointers
import Derived.Test.YtlnhppgfhkkidaaGreatKPhs5
set_option linter.unusedSimpArgs false
set_option linter.unusedVariables false
set_option maxHeartbeats 32000000
set_option maxRecDepth 100000
namespace Go.Proofs.YtlnhppgfhkkidaaGreat
open Go.Proofs.Tryz renaming prog → zq
open Go.RowKit
theorem VP.kind {w:World}{p:Nat}{F:Nat->Prop}{sb fb:zU}{sd fd:Nat}(h:VP w p F sb fb sd fd): ∀b,F b -> ∃cur t,w.heap[b]? = some (.cells cur t (0,0))/\(t=168\/t=5):=by
 obtain⟨sa,sc,fa,fc,h1,h2,h3,h4,h5,_⟩:=h;intro b hb;rcases(h5 b).1 hb with rfl | hb | hb
 ·exact⟨_,_,h1,.inl rfl⟩
 ·rcases h2.2 with ⟨h6,_⟩ | ⟨g,cap,cur,h6,_,hg,_⟩
  ·rw[h6]at hb;cases hb
  ·rw[h6]at hb;simp only[Value.ownBlock,Option.some.injEq]at hb;subst hb;exact⟨_,_,hg,.inr rfl⟩
 ·rcases h3.2 with ⟨h6,_⟩ | ⟨g,cap,cur,h6,_,hg,_⟩
  ·rw[h6]at hb;cases hb
  ·rw[h6]at hb;simp only[Value.ownBlock,Option.some.injEq]at hb;subst hb;exact⟨_,_,hg,.inr rfl⟩
theorem Z6y {w:World}{base k n:Nat}{e:TypeId}{v:Value}{xs:List Value}(h:w.ownsRow base e k v n xs): ∀b,v.ownBlock=some b -> ∃cur,w.heap[b]? = some (.cells cur e (0,0)):=by
 intro b hb;rcases h.2 with ⟨h6,_⟩ | ⟨g,cap,cur,h6,_,hg,_⟩
 ·rw[h6]at hb;cases hb
 ·rw[h6]at hb;simp only[Value.ownBlock,Option.some.injEq]at hb;subst hb;exact⟨_,hg⟩
section
variable {w W:World}{p mb sp:Nat}{G:Nm->Option LN}{SF:Nat->Prop}{S:Zj}
structure Zeq (p mb:Nat)(G:Nm->Option LN)(SF:Nat->Prop):Prop where
 pm:p≠mb
 ps : ¬SF p
 ms : ¬SF mb
 st : ∀k x,G k=some x -> ∀b,Value.ownBlock (.slice x.sa x.n.strokes.length x.sc)=some b->b≠p/\b≠mb /\ ¬SF b
theorem Yp.dis (h:Yp w p mb sp G SF S):Zeq p mb G SF:=by
 obtain⟨es,cl,hm⟩:=h.map.blk;refine⟨fun e=>?_,fun e=>?_,fun e=>?_,fun k x hk b hb=>?_⟩
 ·have h1:=h.blk;rw[e,hm]at h1;cases h1
 ·obtain⟨cur,t,h1,h2⟩:=h.stk.kind p e;rw[h.blk]at h1;simp only[Option.some.injEq,Obj.cells.injEq]at h1;rcases h2 with rfl | rfl
  ·exact absurd h1.2.1 (by decide)
  ·exact absurd h1.2.1 (by decide)
 ·obtain⟨cur,t,h1,_⟩:=h.stk.kind mb e;rw[hm]at h1;cases h1
 ·obtain⟨cur,h1⟩:=Z6y (h.str k x hk) b hb;refine⟨fun e=>?_,fun e=>?_,fun e=>?_⟩
  ·subst e;rw[h.blk]at h1;simp only[Option.some.injEq,Obj.cells.injEq]at h1;exact absurd h1.2.1 (by decide)
  ·subst e;rw[hm]at h1;cases h1
  ·obtain⟨cur2,t,h2,h3⟩:=h.stk.kind b e;rw[h1]at h2;simp only[Option.some.injEq,Obj.cells.injEq]at h2;rcases h3 with rfl | rfl
   ·exact absurd h2.2.1 (by decide)
   ·exact absurd h2.2.1 (by decide)
end
def Zdo (w:World)(p mb sp:Nat)(G:Nm->Option LN)(SF:Nat->Prop)(S:Zj)(n:Z8)(W:World):Prop:=
 ∃ta tc SF',Yp W p mb sp (YZ G (Zn n) ⟨n,ta,tc⟩) SF' (S.add n)/\Zb (Yw p mb G SF) w W /\ ∀k,Yw p mb (YZ G (Zn n) ⟨n,ta,tc⟩) SF' k->Yw p mb G SF k\/w.heap.size<=k
section
attribute [local go_sem] ZT
theorem Z3Z (p mb sp:Nat)(G:Nm->Option LN)(SF:Nat->Prop)(S:Zj)(n:Z8)(sa:zA)(sc:Nat)(w:World)(hh:Yp w p mb sp G SF S)(hi:Xt S)(hs : ∀W,Zb (Yw p mb G SF) w W->Xi W sa n.strokes.length sc n.strokes)
  (hf:Zf S.f n=true) (hok:n.Ok) (hnum:n.num=(S.c n.house:Int)+1) (hlen:S.l.length<=400):
  Calls zq 60 #[.pointer (some ⟨p,0,none⟩),.agg (Z5 n sa sc)] w fun e w'=>e = .returned (.tuple #[])/\Zdo w p mb sp G SF S n w':=by
 have HH:=zH hh;have HI:=zH hi;have HF:=zH hf;have HOK:=zH hok;have HNUM:=zH hnum;have HLEN:=zH hlen;have DIS:=zH hh.dis;have HST:=zH (show n.strokes.length<=200 from Xp hi.v hf);have NOK:Hid (Uk (n.house,n.num)):=zH ⟨hok.house,hok.num⟩;have HFREE:=zH (hi.add hf hok hnum).2;have HINV:=zH (hi.add hf hok hnum).1;obtain⟨k,hk,hk8⟩ : ∃k:Nat,n.house=(k:Int)/\k<=8:=⟨n.house.toNat,by have:=Yq hf;omega,by have:=Yq hf;omega⟩;have HK:=zH hk;have HK8:=zH hk8;have CB:Hid ((S.c (k:Int):Int)+1<=9223372036854775807):=zH (by
  have h1:=hok.num;rw[<-hk,<-hnum];unfold XU at h1;omega)
 have B0:=zH (zB w (.cells (Z5 n sa sc) 47));have N0:=zH (Za w (.cells (Z5 n sa sc) 47));have H0:=zH (hh.below B0.out);have RS:=zH ((hs w (Zb.of_below (Below.refl _ _))).below B0.out);have RSL:=zH (show ∀W,Zb (fun q=>q=p\/q=mb) w W->Xi W sa n.strokes.length sc n.strokes from fun W hS=>hs W (hS.weaken (fun q h=>h.elim .inl (fun h=>.inr (.inl h)))));clear hh hi hs hf hok hnum hlen hk hk8;go_enter Tryz.func60,Tryz.ntmps60;go_upto_region 1 with fail;obtain⟨p3,hp3⟩:=zX (w.heap.size);have NE3:Hid (∀b,b < w.heap.size->b≠p3):=zH (by have:=hp3.out;omega);rw[hp3.out]at N0;rw[hp3.out];generalize w.alloc (.cells (Z5 n sa sc) 47)=w0 at *;refine zD (fun w'=>w'.heap[p3]? = some (.cells (Z5 n sa sc) 47)/\w'.heap[p]? = some (.cells (Xy S.f S.id mb S.c sp) 109)) (show w0.drew.heap[p3]? = _/\w0.drew.heap[p]? = _ from⟨N0.out,H0.out.blk⟩) fun hh=>?_;refine zw 0 rfl p 0 ?_;refine zw 1 rfl p 0 ?_;refine zw 2 rfl p 4 ?_;refine zS 3 rfl (.map (some mb)) (fun W h=>by have hc:=Z6 h.2 4 (.map (some mb)) rfl;go_simp) ?_;refine zT 4 rfl (.agg (Z5 n sa sc)) (zY p3 fun W h=>h.1) ?_;refine zT 6 rfl (.agg (Z5 n sa sc)) (zY p3 fun W h=>h.1) ?_;refine zR 5 rfl fun K hK=>?_;go_simp;go_at_call 58;refine(QR n sa sc _).mono ?_;rintro e v1 ⟨rfl,b1⟩;have B1:=zH (((zd w0)).trans b1);have N1:=zH (Z7 B1.out N0.out);have P1:=zH (Z7 B1.out H0.out.blk);clear b1;dsimp only;refine zK hK ⟨N1.out,P1.out⟩ fun hh=>?_;clear hK K;refine zR 7 rfl fun K hK=>?_;go_simp;go_at_call 71;refine(Z0h n sa sc v1 (RS.out.below B1.out) (Nat.le_trans HST.out (by decide))).mono ?_;rintro e v2 ⟨ta,tc,rfl,hown,b2⟩;have B2:=zH (B1.out.trans (b2.mono B1.out.size));have N2:=zH (Z7 b2 N1.out);have P2:=zH (Z7 b2 P1.out);have O2:=zH hown;have V1S:=zH B1.out.size;clear b2 hown N1 P1;dsimp only;refine zK hK ⟨N2.out,P2.out⟩ fun hh=>?_;clear hK K;refine zR 8 rfl fun K hK=>?_;obtain⟨v3,hrun,hm3,ht3⟩:=Qy (t:=106) (H0.out.map.below B2.out) (by have:=HLEN.out;unfold maxLen;omega) Tryz.underlying106 n.house n.num NOK.out (⟨n,ta,tc⟩:LN)
 have M3:=zH hm3;have G3:=zH ht3.grown;have N3:=zH (Zc ht3.grown N2.out (fun e=>absurd (Option.some.inj e) (NE3.out mb HH.out.map.lt).symm));have P3:=zH (Zc ht3.grown P2.out (fun e=>absurd (Option.some.inj e) DIS.out.pm));clear hm3 ht3;unfold LN.val at hrun;go_simp;refine zK hK ⟨N3.out,P3.out⟩ fun hh=>?_;clear hK K;refine zE ?_;have S3:Hid (Zb (fun q=>q=mb) w v3):=zH (((Zb.of_below B0.out).trans (Zb.of_below B2.out)).trans (Zb.of_grown G3.out (fun q e=>by cases e;rfl)));have O3:=zH (show v3.ownsRow w.heap.size 3 1 (.slice ta n.strokes.length tc) n.strokes.length (n.strokes.map Yh)from(Zv O2.out (Nat.le_trans B0.out.size V1S.out)).kept G3.out (.inr (by
  obtain⟨es,cl,hm⟩:=(H0.out.map.below B2.out).blk;exact(Zq O2.out hm (by intro cur;simp)).symm)))
 clear G3 N2 P2 O2 V1S B2 hrun;go_upto_region 2 with fail;refine zp N3.out fun hh=>?_;refine zw 0 rfl p 0 ?_;refine zw 1 rfl p3 0 ?_;refine zS 2 rfl (.int .i64 (k:Int)) (fun W h=>by have hc:W.cell? ⟨p3,0,none⟩=some (.int .i64 (k:Int)):=(by rw[<-HK.out];exact Z6 h 0 (.int .i64 n.house) rfl);go_simp) ?_;refine zw 3 rfl p 0 ?_;refine zw 4 rfl p 5 ?_;refine zS 5 rfl (.pointer (some ⟨p,5+k,none⟩)) (fun W h=>by have hc:=Z5O (W:=W) (p:=p) (k:=k) (by have:=HK8.out;omega);go_simp) ?_;refine zw 8 rfl p 0 ?_;refine zw 9 rfl p 5 ?_;refine zR 6 rfl fun K hK=>?_;have hc:=Z6 (show v3.drew.heap[p]? = _ from P3.out) (5+k) (.int .i64 (S.c (k:Int):Int)) (Z3Y _ _ _ _ _ k HK8.out);go_simp;clear hc;refine zK hK N3.out fun hh=>?_;clear hK K;refine zS 7 rfl (.int .i64 ((S.c (k:Int):Int)+1)) (fun W h=>by have hcb:IntKind.i64.wrap ((S.c (k:Int):Int)+1)=(S.c (k:Int):Int)+1:=(by have h9:=CB.out;rw[IntKind.wrap_i64];omega);go_simp) ?_;refine zS 10 rfl (.pointer (some ⟨p,5+k,none⟩)) (fun W h=>by have hc:=Z5O (W:=W) (p:=p) (k:=k) (by have:=HK8.out;omega);go_simp) ?_;refine zR 11 rfl fun K hK=>?_;have hc:=Z6 (show v3.drew.heap[p]? = _ from P3.out) (5+k) (.int .i64 (S.c (k:Int):Int)) (Z3Y _ _ _ _ _ k HK8.out);have hfz:=Zp (show v3.drew.heap[p]? = _ from P3.out) (5+k);have P4:Hid ((v3.drew.setCell ⟨p,5+k,none⟩ (.int .i64 ((S.c (k:Int):Int)+1))).heap[p]? = some (.cells (Xy S.f S.id mb (QW S.c (k:Int)) sp) 109 (0,0))):=zH (by
  have h1:=ZK (show v3.drew.heap[p]? = _ from P3.out) (5+k) (.int .i64 ((S.c (k:Int):Int)+1));rwa [Zb5 _ _ _ _ _ k HK8.out]at h1)
 have G4:=zH (Zl v3.drew p (5+k) (.int .i64 ((S.c (k:Int):Int)+1)));have N4:=zH (Zc G4.out (show v3.drew.heap[p3]? = _ from N3.out) (fun e=>absurd (Option.some.inj e) (NE3.out p (Zi HH.out.blk)).symm));go_simp;refine zK hK N4.out fun hh=>?_;clear hK K;refine zE ?_;clear hc hfz;change Exit.then _ _ _ _ (v3.drew.setCell ⟨p,5+k,none⟩ (.int .i64 ((S.c (k:Int):Int)+1)));generalize v3.drew.setCell ⟨p,5+k,none⟩ (.int .i64 ((S.c (k:Int):Int)+1))=v4 at *;have S4:Hid (Zb (fun q=>q=p\/q=mb) w v4):=zH (((S3.out.weaken (fun q h=>.inr h)).trans (Zb.of_below ((zd v3)))).trans (Zb.of_grown G4.out (fun q e=>by cases e;exact .inl rfl)));have M4:=zH (show Yd LN.val v4 mb (S.l.length+1) (YZ G (n.house,n.num) ⟨n,ta,tc⟩)from(M3.out.below ((zd v3))).kept G4.out (fun e=>absurd (Option.some.inj e).symm DIS.out.pm));have O4:=zH (show v4.ownsRow w.heap.size 3 1 (.slice ta n.strokes.length tc) n.strokes.length (n.strokes.map Yh)from(Zd O3.out ((zd v3))).kept G4.out (.inr (Zq (Zd O3.out ((zd v3))) (show v3.drew.heap[p]? = _ from P3.out) (by intro cur;simp)).symm));have K4:=zH (show VP v4 sp SF S.sb S.fb S.sd S.fd from HH.out.stk.same S4.out (fun q hq hF=>by
  rcases hq with rfl | rfl
  ·exact DIS.out.ps hF
  ·exact DIS.out.ms hF))
 have RS4:=zH (show Xi v4 sa n.strokes.length sc n.strokes from RSL.out v4 S4.out);clear G4 N3 P3 S3 M3 O3;go_upto_region 3 with fail;refine zD (fun w'=>w'.heap[p3]? = some (.cells (Z5 n sa sc) 47)/\w'.heap[p]? = some (.cells (Xy S.f S.id mb (QW S.c (k:Int)) sp) 109 (0,0))) (show v4.drew.heap[p3]? = _/\v4.drew.heap[p]? = _ from⟨N4.out,P4.out⟩) fun hh=>?_;refine zw 0 rfl p 0 ?_;refine zw 1 rfl p 0 ?_;refine zw 2 rfl p 14 ?_;refine zS 3 rfl (.pointer (some ⟨sp,0,none⟩)) (fun W h=>by have hc:=Z6 h.2 14 (.pointer (some ⟨sp,0,none⟩)) rfl;go_simp) ?_;refine zT 4 rfl (.agg (Z5 n sa sc)) (zY p3 fun W h=>h.1) ?_;refine zR 5 rfl fun K hK=>?_;go_simp;go_at_call 117;refine(QT n sa sc v4.drew (RS4.out.below ((zd v4))) (YT HI.out.v HF.out) (Nat.le_trans HST.out (by decide))).mono ?_;rintro e v5 ⟨ba,bc,rfl,hb5,b5⟩;have B5:=zH (((zd v4)).trans b5);have R5:=zH (Y4.of_own hb5);have N5:=zH (Z7 B5.out N4.out);have P5:=zH (Z7 B5.out P4.out);clear hb5 b5;dsimp only;refine zK hK ⟨N5.out,P5.out⟩ fun hh=>?_;clear hK K;refine zR 6 rfl fun K hK=>?_;go_simp;go_at_call 109;have hel:=Q5 HI.out.v HF.out;refine(Z8w v5 sp SF S.sb S.fb S.sd S.fd ba (ZQ n).length bc (ZQ n) (K4.out.same (S:=fun _=>False) (Zb.of_below B5.out) (fun _ h=>h.elim)) R5.out (by omega) (by have h1:=HI.out.sbl;have h2:=HI.out.len;have h3:=HLEN.out;omega) (by have h1:=HI.out.fbl;have h2:=HI.out.len;have h3:=HLEN.out;omega)).mono ?_;rintro e v6 ⟨rfl,SF',hk6,hs6,hf6⟩;have P6:=zH ((hs6.block p (Zi P5.out) DIS.out.ps).trans P5.out);have N6:=zH ((hs6.block p3 (Zi N5.out) (fun hF=>absurd rfl (NE3.out p3 (HH.out.stk.lt p3 hF)))).trans N5.out);have K6:=zH hk6;have S6:=zH hs6;have F6:=zH hf6;clear hk6 hs6 hf6 hel;dsimp only;refine zK hK ⟨N6.out,P6.out⟩ fun hh=>?_;clear hK K;refine zE ?_;go_wp2;go_end0;have S46:Hid (Zb (fun q=>q=p\/q=mb\/SF q) w v6):=zH (((S4.out.weaken (fun q h=>h.elim .inl (fun h=>.inr (.inl h)))).trans (Zb.of_below B5.out)).trans (S6.out.weaken (fun q h=>.inr (.inr h))));have O6:Hid (v6.ownsRow w.heap.size 3 1 (.slice ta n.strokes.length tc) n.strokes.length (n.strokes.map Yh)):=zH (Ze (Zd O4.out B5.out) S6.out (fun b hb hF=>absurd (HH.out.stk.lt b hF) (by have:=(O4.out.lt b hb).1;omega)))
 have M6:Hid (Yd LN.val v6 mb (S.l.length+1) (YZ G (n.house,n.num) ⟨n,ta,tc⟩)):=zH ((M4.out.below B5.out).of_block (S6.out.block mb (Nat.lt_of_lt_of_le M4.out.lt B5.out.size) DIS.out.ms));refine⟨rfl,ta,tc,SF',⟨?_,?_,fun a x hx=>?_,fun y hy=>?_,fun a x hx=>?_,K6.out⟩,?_,?_⟩
 ·have:=P6.out;rwa [<-HK.out]at this
 ·have h1:=M6.out;show Yd LN.val v6 mb (XY S.l n).length _;rwa [XY,(UC _ n S.l).length_eq,List.length_cons]
 ·unfold YZ at hx;split at hx
  ·rename_i e;cases hx;exact⟨Xo.2 (.inr rfl),e.symm⟩
  ·obtain⟨h1,h2⟩:=HH.out.gs a x hx;exact⟨Xo.2 (.inl h1),h2⟩
 ·rcases Xo.1 hy with hy | rfl
  ·obtain⟨x,h1,h2⟩:=HH.out.gl y hy;refine⟨x,?_,h2⟩;unfold YZ;rw[if_neg (HFREE.out y hy)];exact h1
  ·exact⟨⟨y,ta,tc⟩,by unfold YZ;rw[if_pos rfl],rfl⟩
 ·unfold YZ at hx;split at hx
  ·cases hx;exact Zv O6.out (Nat.zero_le _)
  ·exact Ze (HH.out.str a x hx) S46.out (fun b hb hq=>by
    obtain⟨d1,d2,d3⟩:=DIS.out.st a x hx b hb;rcases hq with hq | hq | hq
    ·exact d1 hq
    ·exact d2 hq
    ·exact d3 hq)
 ·exact S46.out.weaken (fun q h=>by
   rcases h with h | h | h
   ·exact .inl h
   ·exact .inr (.inl h)
   ·exact .inr (.inr (.inl h)))
 ·rintro q (h | h | h | ⟨a,x,h,h2⟩)
  ·exact .inl (.inl h)
  ·exact .inl (.inr (.inl h))
  ·rcases F6.out q h with h3 | h3
   ·exact .inl (.inr (.inr (.inl h3)))
   ·exact .inr (Nat.le_trans S4.out.size (Nat.le_trans B5.out.size h3))
  ·unfold YZ at h;split at h
   ·cases h;exact .inr (O6.out.lt q h2).1
   ·exact .inl (.inr (.inr (.inr ⟨a,x,h,h2⟩)))
end
def QO (c:Int->Nat):List Z8->Prop
 | []=>True
 | n :: ns=>n.num=(c n.house:Int)+1/\QO (QW c n.house) ns
theorem UE {l:List Z8}: ∀(ns fr:List Z8) (c:Int->Nat) {fr':List Z8} {c':Int->Nat},Qq (l ++ fr) c->(∀n∈ns,1<=n.num)->YI l fr c ns=some (fr',c') -> ∃t,fr'=fr ++ t/\QO c t /\ ∀x∈t,x∈ns
 | [],fr,c,fr',c',_,_,h=>by
  simp only[YI,Option.some.injEq,Prod.mk.injEq]at h
  exact⟨[],by rw[h.1,List.append_nil],trivial,fun x hx=>by cases hx⟩
 | n :: ns,fr,c,fr',c',h1,h3,h=>by
  rw[YI]at h
  have h3' : ∀m∈ns,1<=m.num:=fun m hm=>h3 m (List.mem_cons_of_mem _ hm)
  split at h
  ·split at h
   ·obtain⟨t,a1,a2,a3⟩:=UE ns fr c h1 h3' h
    exact⟨t,a1,a2,fun x hx=>List.mem_cons_of_mem _ (a3 x hx)⟩
   ·cases h
  ·rename_i hk
   split at h
   ·obtain⟨t,a1,a2,a3⟩:=UE ns fr c h1 h3' h
    exact⟨t,a1,a2,fun x hx=>List.mem_cons_of_mem _ (a3 x hx)⟩
   ·rename_i hle
    have hlt:=h1.free (h3 n (List.mem_cons_self ..)) (Qk hk)
    have hadd:=h1.add (n:=n) (by omega)
    rw[List.append_assoc]at hadd
    obtain⟨t,a1,a2,a3⟩:=UE ns (fr ++ [n]) (QW c n.house) hadd h3' h
    refine⟨n :: t,by rw[a1,List.append_assoc];rfl,⟨by omega,a2⟩,fun x hx=>?_⟩
    rcases List.mem_cons.1 hx with rfl | hx
    ·exact List.mem_cons_self ..
    ·exact List.mem_cons_of_mem _ (a3 x hx)
def Zj.adds (S:Zj)(fr:List Z8):Zj:=fr.foldl Zj.add S
theorem Za6 (S:Zj)(fr:List Z8)(n:Z8):S.adds (fr ++ [n])=(S.adds fr).add n:=by simp[Zj.adds,List.foldl_append]
theorem Z2q: ∀(fr:List Z8) (S:Zj),(S.adds fr).f=S.f
 | [],_=>rfl
 | n :: fr,S=>Z2q fr (S.add n)
theorem Z1E: ∀(fr:List Z8) (S:Zj),(S.adds fr).id=S.id
 | [],_=>rfl
 | n :: fr,S=>Z1E fr (S.add n)
theorem Z2p: ∀(fr:List Z8) (S:Zj),(S.adds fr).l=zk S.l fr
 | [],_=>rfl
 | n :: fr,S=>Z2p fr (S.add n)
theorem Z7l (fr:List Z8)(S:Zj):(S.adds fr).l.length=S.l.length+fr.length:=by rw[Z2p,Z4i]
theorem Z0j: ∀(fr:List Z8) (S:Zj),Xt S->QO S.c fr->(∀x∈fr,Zf S.f x=true/\x.Ok)->Xt (S.adds fr)
 | [],_,h,_,_=>h
 | n :: fr,S,h,hs,hf=>Z0j fr (S.add n) (h.add (hf n (List.mem_cons_self ..)).1 (hf n (List.mem_cons_self ..)).2 hs.1).1 hs.2 (fun x hx=>hf x (List.mem_cons_of_mem _ hx))
theorem Z6m: ∀(fr:List Z8) (S:Zj) (q:Nat) (n:Z8),QO S.c fr->fr[q]? = some n->n.num=((S.adds (fr.take q)).c n.house:Int)+1
 | [],_,q,n,_,h=>by simp at h
 | m :: fr,S,0,n,hs,h=>by
  simp at h
  subst h
  exact hs.1
 | m :: fr,S,q+1,n,hs,h=>by
  have:=Z6m fr (S.add m) q n hs.2 (by simpa using h)
  exact this
theorem Z0Z: ∀(fr:List Z8) (c:Int->Nat) (q:Nat),QO c fr->QO c (fr.take q)
 | [],_,q,_=>by simp[QO]
 | m :: fr,c,0,_=>trivial
 | m :: fr,c,q+1,h=>⟨h.1,Z0Z fr _ q h.2⟩
def Ym (S:Zj)(l:List Z8):Zj×Int×Int:=
 if l.any (fun n=>!decide (ZZ S.f n=0))=true then (S,0,80)else match YI S.l [] S.c l with | none=>(S,0,81) | some (fr,_)=>(S.adds fr,(fr.length:Int),0)
theorem Z0y {S:Zj}{l:List Z8}(h:l.any (fun n=>!decide (ZZ S.f n=0))=true):Ym S l=(S,0,80):=by unfold Ym;rw[if_pos h]
theorem UY {S:Zj}{l:List Z8}(h:l.any (fun n=>!decide (ZZ S.f n=0))=false)(h2:YI S.l [] S.c l=none):Ym S l=(S,0,81):=by unfold Ym;rw[if_neg (by rw[h];decide),h2]
theorem Z0b {S:Zj}{l fr:List Z8}{c:Int->Nat}(h:l.any (fun n=>!decide (ZZ S.f n=0))=false)(h2:YI S.l [] S.c l=some (fr,c)):Ym S l=(S.adds fr,(fr.length:Int),0):=by unfold Ym;rw[if_neg (by rw[h];decide),h2]
theorem zg {S:Zj}(hv:S.f.valid=true){l:List Z8}(h:l.any (fun n=>!decide (ZZ S.f n=0))=false): ∀n∈l,Zf S.f n=true:=fun n hn=>by
 rw[List.any_eq_false]at h
 have h1:=h n hn
 simp only[Bool.not_eq_true',decide_eq_false_iff_not,Decidable.not_not]at h1
 unfold ZZ at h1
 rw[if_pos hv]at h1
 by_cases h2:Zf S.f n=true
 ·exact h2
 ·rw[if_neg h2]at h1
  cases h1
theorem Z9L {S:Zj}{l:List Z8}(h:Xt S)(hok : ∀x∈l,x.Ok):Xt (Ym S l).1/\(Ym S l).1.l.length<=S.l.length+l.length:=by
 cases hb:l.any (fun n=>!decide (ZZ S.f n=0))with
 | true=>rw[Z0y hb];exact⟨h,Nat.le_add_right _ _⟩
 | false=>
  have hf:=zg h.v hb;cases hg:YI S.l [] S.c l with
  | none=>rw[UY hb hg];exact⟨h,Nat.le_add_right _ _⟩
  | some r=>
   obtain⟨fr,c'⟩:=r;rw[Z0b hb hg];have hn:Qq (S.l ++ []) S.c:=by rw[List.append_nil];exact h.nms
   obtain⟨t,e,hs,hm⟩:=UE l [] S.c hn (fun n hn=>(Yq (hf n hn)).2.2) hg;rw[List.nil_append]at e;subst e;have hl:=(Z1t l [] S.c hn (by rw[List.append_nil];exact XQ h.srt) (fun n hn=>(Yq (hf n hn)).2.2) hg).2.2.2;exact⟨Z0j fr S h hs (fun x hx=>⟨hf x (hm x hx),hok x (hm x hx)⟩),by show(S.adds fr).l.length<=_;rw[Z7l];simp at hl;omega⟩
def Z7X (es:List Nm)(p:Nm->Bool):Int:=match es.findIdx? p with | some i=>(i:Int) | none => -1
theorem Zc8 {es:List Nm}{p:Nm->Bool}{k:Nat}{x:Nm}(hx:es[k]? = some x)(hp:p x=true)(hb : ∀j y,j < k->es[j]? = some y->p y=false):Z7X es p=k:=by
 have:es.findIdx? p=some k:=by
  rw[List.findIdx?_eq_some_iff_getElem];obtain⟨h1,rfl⟩:=List.getElem?_eq_some_iff.1 hx;exact⟨h1,hp,fun j hj=>by rw[hb j _ hj (List.getElem?_eq_getElem (by omega))];decide⟩
 simp[Z7X,this]
theorem Z9C {es:List Nm}{p:Nm->Bool}(hb : ∀j y,j < es.length->es[j]? = some y->p y=false):Z7X es p = -1:=by
 have:es.findIdx? p=none:=by
  rw[List.findIdx?_eq_none_iff];intro x hx;obtain⟨j,h1,h2⟩:=List.getElem_of_mem hx;exact hb j x h1 (by rw[List.getElem?_eq_getElem h1,h2])
 simp[Z7X,this]
theorem Z7V (es:List Nm)(pred:Nm->Bool)(fn:Nat)(cv:Value)(hfn : ∀(args:ZW) (w:World),(callFunc fn args).run zq w = .ok (.enter fn args) w)
  (a:zA) (n c:Nat) (w:World) (hr:Y3 w 2 a n c (ZH es))
  (hp : ∀e∈es,∀W,Below w.heap.size w W->Calls zq fn #[.agg #[.int .i64 e.1,.int .i64 e.2],cv] W fun r W'=>r = .returned (.bool (pred e))/\Below W.heap.size W W'):
  Calls zq 127 #[.slice a n c,.func (.func fn) #[] #[cv]] w fun e w'=>e = .returned (.int .i64 (Z7X es pred))/\Below w.heap.size w w':=by
 have I2:(zq.info? 45).map (·.size)=some 2:=by kernel_rfl
 have hn63:=hr.maxn;have HN:Hid (es.length=n):=zH (by have:=hr.len;rw[Xw]at this;omega);have RE:=zH (show ∀W,Below w.heap.size w W->Y3 W 2 a n c (ZH es)from fun W h=>hr.below h);have HPD:=zH hp;clear hr hp;go_enter Tryz.func127,Tryz.ntmps127;go_wp2_with fail;go_loopw [5,8] (fun _ i wr=>∃k:Nat,i = .int .i64 k/\k<=n/\Hid (∀j y,j < k->es[j]? = some y->pred y=false)/\Hid (Below w.heap.size w wr)) (fun _ i _=>n - (intOf i).toNat)
 case atStart=>exact⟨0,rfl,Nat.zero_le _,zH (fun j y h=>by omega),zH (Below.refl _ _)⟩
 case round=>
  obtain⟨k,rfl,hk,HB,B1⟩:=hrel;by_cases hkn:k < n
  ·have t0:decide ((k:Int) < (n:Int))=true:=by simp;omega
   obtain⟨x,Hx⟩ : ∃x,es[k]? = some x:=⟨es[k]'(by rw[HN.out];exact hkn),List.getElem?_eq_getElem (by rw[HN.out];exact hkn)⟩;obtain⟨b,off,rfl,hk1,hk2⟩:=Z12 (RE.out _ B1.out) Hx;obtain⟨o,ho⟩:=zX (off+k * 2);rw[ho.out]at hk1 hk2;have hi:=fun W=>Yk (W:=W) (c:=c) (b:=b) Tryz.underlying75 I2 hkn ho.out;have hk64:(k:Int)+1<=9223372036854775807:=by omega
   obtain⟨xh,xm⟩:=x;dsimp only at hk1 hk2;go_wp2_with fail;refine(HPD.out (xh,xm) (List.mem_of_getElem? Hx) _ B1.out).mono ?_;rintro e w2 ⟨rfl,b2⟩;have B2:=zH (B1.out.trans (b2.mono B1.out.size));clear b2 hi t0;cases hpx:pred (xh,xm)with
   | true=>
    go_wp2;go_ret;exact⟨by rw[Zc8 Hx hpx HB.out];rfl,B2.out⟩
   | false=>
    have HPX:=zH hpx;clear hpx;go_wp2;go_roundw
    case rel=>exact⟨k+1,by simp,by omega,zH (fun j y hj hy=>by
     rcases Nat.lt_or_ge j k with h | h
     ·exact HB.out j y h hy
     ·have e:j=k:=by omega
      subst e;rw[Hx]at hy;cases hy;exact HPX.out),B2⟩
    case measure=>simp[intOf];omega
  ·have t0:decide ((k:Int) < (n:Int))=false:=by simp;omega
   go_wp2;go_ret;exact⟨by rw[Z9C (fun j y hj hy=>HB.out j y (by have:=HN.out;omega) hy)];rfl,B1.out⟩
theorem Zb1 {es:List Nm}{p:Nm->Bool}: decide (0<=Z7X es p)=es.any p:=by
 unfold Z7X;cases h:es.findIdx? p with
 | none=>
  rw[List.findIdx?_eq_none_iff]at h;have h2:es.any p=false:=by
   rw[List.any_eq_false];intro x hx;rw[h x hx];decide
  rw[h2];rfl
 | some i=>
  obtain⟨h1,h2,_⟩:=List.findIdx?_eq_some_iff_getElem.1 h;have h3:es.any p=true:=List.any_eq_true.2 ⟨_,List.getElem_mem h1,h2⟩;rw[h3];simp
theorem Z4B (es:List Nm)(pred:Nm->Bool)(fn:Nat)(cv:Value)(hfn : ∀(args:ZW) (w:World),(callFunc fn args).run zq w = .ok (.enter fn args) w)
  (a:zA) (n c:Nat) (w:World) (hr:Y3 w 2 a n c (ZH es))
  (hp : ∀e∈es,∀W,Below w.heap.size w W->Calls zq fn #[.agg #[.int .i64 e.1,.int .i64 e.2],cv] W fun r W'=>r = .returned (.bool (pred e))/\Below W.heap.size W W'):
  Calls zq 72 #[.slice a n c,.func (.func fn) #[] #[cv]] w fun e w'=>e = .returned (.bool (es.any pred))/\Below w.heap.size w w':=by
 have HX:=zH (Z7V es pred fn cv hfn a n c w hr hp);clear hr hp hfn;go_enter Tryz.func72,Tryz.ntmps72;go_wp2_with fail;refine HX.out.mono ?_;rintro e w1 ⟨rfl,b1⟩;have B1:=zH b1;clear b1;have hq := @Zb1 es pred;go_wp2;go_ret;exact⟨by first | rfl|(rw[<-hq];rfl),B1.out⟩
theorem Yd.cloned {α:Type}{enc:α->Value}{w:World}{b n:Nat}{f:Nm->Option α}(h:Yd enc w b n f): ∃es clock,w.heap[b]? = some (.map es clock)/\Yd enc (w.alloc (.map es clock)) w.heap.size n f:=by
 obtain⟨D,⟨es,clock,hb,F,hs,hD⟩,hr⟩:=h;exact⟨es,clock,hb,D,⟨es,clock,heap_alloc_new w _,F,hs,hD⟩,hr⟩
theorem Ul (b n:Nat)(G:Nm->Option LN)(w:World)(hm:Yd LN.val w b n G):
  Calls zq 57 #[.map (some b)] w fun e w'=>e = .returned (.map (some w.heap.size))/\Yd LN.val w' w.heap.size n G/\Below w.heap.size w w':=by
 obtain⟨es,clock,hb,hc⟩:=hm.cloned;have HC:=zH hc;clear hc hm;have hq:=fun w=>run_eql_map_nil_sl (P:=zq) w 106 _ _ (some b) Tryz.underlying106;have hx := @run_callFunc_extern zq 115 Tryz.f115 Extern.MapsClone.clone (by kernel_rfl) (by kernel_rfl) (by kernel_rfl) (by kernel_rfl) (by kernel_rfl);go_enter Tryz.func57,Tryz.ntmps57;go_wp2;rw[run_maps_clone_sl w 106 hb];simp only[Result.andThen];rw[Oper.upon_value];go_wp2;rw[run_typeAssert_map_sl _ 106 _ _ _ _ Tryz.underlying106];simp only[Result.andThen];rw[Oper.upon_value];go_wp2;go_ret;exact⟨rfl,HC.out,zB _ _⟩
def Z3W (es:List LN)(p:LN->Bool):Int:=match es.findIdx? p with | some i=>(i:Int) | none => -1
theorem Zc9 {es:List LN}{p:LN->Bool}{k:Nat}{x:LN}(hx:es[k]? = some x)(hp:p x=true)(hb : ∀j y,j < k->es[j]? = some y->p y=false):Z3W es p=k:=by
 have:es.findIdx? p=some k:=by
  rw[List.findIdx?_eq_some_iff_getElem];obtain⟨h1,rfl⟩:=List.getElem?_eq_some_iff.1 hx;exact⟨h1,hp,fun j hj=>by rw[hb j _ hj (List.getElem?_eq_getElem (by omega))];decide⟩
 simp[Z3W,this]
theorem Z9D {es:List LN}{p:LN->Bool}(hb : ∀j y,j < es.length->es[j]? = some y->p y=false):Z3W es p = -1:=by
 have:es.findIdx? p=none:=by
  rw[List.findIdx?_eq_none_iff];intro x hx;obtain⟨j,h1,h2⟩:=List.getElem_of_mem hx;exact hb j x h1 (by rw[List.getElem?_eq_getElem h1,h2])
 simp[Z3W,this]
theorem Z3V (es:List LN)(pred:LN->Bool)(fn:Nat)(cv:Value)(hfn : ∀(args:ZW) (w:World),(callFunc fn args).run zq w = .ok (.enter fn args) w)
  (a:zA) (n c:Nat) (w:World) (hr:zu w a n c es)
  (hp : ∀e∈es,∀W,Below w.heap.size w W->Calls zq fn #[.agg (Z5 e.n e.sa e.sc),cv] W fun r W'=>r = .returned (.bool (pred e))/\Below W.heap.size W W'):
  Calls zq 112 #[.slice a n c,.func (.func fn) #[] #[cv]] w fun e w'=>e = .returned (.int .i64 (Z3W es pred))/\Below w.heap.size w w':=by
 have I19:(zq.info? 47).map (·.size)=some 19:=by kernel_rfl
 have hn63:n<=9223372036854775807:=by have h1:=hr.2.1;have h2:=hr.2.2.1;unfold maxLen at h2;omega
 have HN:=zH hr.1;have RE:=zH (show ∀W,Below w.heap.size w W->zu W a n c es from fun W h=>hr.below h);have HPD:=zH hp;clear hr hp;go_enter Tryz.func112,Tryz.ntmps112;go_wp2_with fail;go_loopw [5,8] (fun _ i wr=>∃k:Nat,i = .int .i64 k/\k<=n/\Hid (∀j y,j < k->es[j]? = some y->pred y=false)/\Hid (Below w.heap.size w wr)) (fun _ i _=>n - (intOf i).toNat)
 case atStart=>exact⟨0,rfl,Nat.zero_le _,zH (fun j y h=>by omega),zH (Below.refl _ _)⟩
 case round=>
  obtain⟨k,rfl,hk,HB,B1⟩:=hrel;by_cases hkn:k < n
  ·have t0:decide ((k:Int) < (n:Int))=true:=by simp;omega
   obtain⟨b,off,rfl,hat⟩:=(RE.out _ B1.out).at (show 0 < n by omega);obtain⟨x,Hx⟩ : ∃x,es[k]? = some x:=⟨es[k]'(by rw[HN.out];exact hkn),List.getElem?_eq_getElem (by rw[HN.out];exact hkn)⟩;have HR:=zH (hat k x Hx).1;obtain⟨o,ho⟩:=zX (off+k * 19);rw[ho.out]at HR;have hi:=fun W=>Yk (W:=W) (c:=c) (b:=b) Tryz.underlying24 I19 hkn ho.out;have hk64:(k:Int)+1<=9223372036854775807:=by omega
   clear hat;go_wp2_with (refine wpList_load_mid rfl 47 _ rfl b o rfl (x.n.cells x.sa x.sc) _ HR.out Tryz.underlying47 rfl (by exact I19) ?_);refine(HPD.out x (List.mem_of_getElem? Hx) _ B1.out).mono ?_;rintro e w2 ⟨rfl,b2⟩;have B2:=zH (B1.out.trans (b2.mono B1.out.size));clear b2 hi t0;cases hpx:pred x with
   | true=>
    go_wp2;go_ret;exact⟨by rw[Zc9 Hx hpx HB.out];rfl,B2.out⟩
   | false=>
    have HPX:=zH hpx;clear hpx;go_wp2;go_roundw
    case rel=>exact⟨k+1,by simp,by omega,zH (fun j y hj hy=>by
     rcases Nat.lt_or_ge j k with h | h
     ·exact HB.out j y h hy
     ·have e:j=k:=by omega
      subst e;rw[Hx]at hy;cases hy;exact HPX.out),B2⟩
    case measure=>simp[intOf];omega
  ·have t0:decide ((k:Int) < (n:Int))=false:=by simp;omega
   go_wp2;go_ret;exact⟨by rw[Z9D (fun j y hj hy=>HB.out j y (by have:=HN.out;omega) hy)];rfl,B1.out⟩
theorem Zb2 {es:List LN}{p:LN->Bool}: decide (0<=Z3W es p)=es.any p:=by
 unfold Z3W;cases h:es.findIdx? p with
 | none=>
  rw[List.findIdx?_eq_none_iff]at h;have h2:es.any p=false:=by
   rw[List.any_eq_false];intro x hx;rw[h x hx];decide
  rw[h2];rfl
 | some i=>
  obtain⟨h1,h2,_⟩:=List.findIdx?_eq_some_iff_getElem.1 h;have h3:es.any p=true:=List.any_eq_true.2 ⟨_,List.getElem_mem h1,h2⟩;rw[h3];simp
theorem Z4C (es:List LN)(pred:LN->Bool)(fn:Nat)(cv:Value)(hfn : ∀(args:ZW) (w:World),(callFunc fn args).run zq w = .ok (.enter fn args) w)
  (a:zA) (n c:Nat) (w:World) (hr:zu w a n c es)
  (hp : ∀e∈es,∀W,Below w.heap.size w W->Calls zq fn #[.agg (Z5 e.n e.sa e.sc),cv] W fun r W'=>r = .returned (.bool (pred e))/\Below W.heap.size W W'):
  Calls zq 54 #[.slice a n c,.func (.func fn) #[] #[cv]] w fun e w'=>e = .returned (.bool (es.any pred))/\Below w.heap.size w w':=by
 have HX:=zH (Z3V es pred fn cv hfn a n c w hr hp);clear hr hp hfn;go_enter Tryz.func54,Tryz.ntmps54;go_wp2_with fail;refine HX.out.mono ?_;rintro e w1 ⟨rfl,b1⟩;have B1:=zH b1;clear b1;have hq := @Zb2 es pred;go_wp2;go_ret;exact⟨by first | rfl|(rw[<-hq];rfl),B1.out⟩
section
attribute [local go_sem] ZT Xa J4 QM XI QL QK QJ Vn Vm Qe Qd JN JM JK XR Jc Jb Jq
variable (f:Yg)(n:Z8)(sa:zA)(sc:Nat)(w:World)
theorem Z6h {f:Yg}{n:Z8}(h:ZZ f n=0):VQ n:=by
 unfold ZZ at h;split at h
 ·rename_i hv;split at h
  ·rename_i hf;exact YT hv hf
  ·simp at h
 ·simp at h
end
theorem Zb7 (args:ZW)(w:World):(callFunc 55 args).run zq w = .ok (.enter 55 args) w:=by kernel_rfl
theorem Z9M (f:Yg)(id:Int)(mb sp p pB:Nat)(c:Int->Nat)(n:Z8)(sa:zA)(sc:Nat)(w:World)(hb:w.heap[pB]? = some (.cells #[.pointer (some ⟨p,0,none⟩)] 27))
  (hh:w.heap[p]? = some (.cells (Xy f id mb c sp) 109)) (hs:Xi w sa n.strokes.length sc n.strokes):
  Calls zq 55 #[.agg (Z5 n sa sc),.pointer (some ⟨pB,0,none⟩)] w fun e w'=>e = .returned (.bool (!decide (ZZ f n=0)))/\Below w.heap.size w w':=by
 have CN:=zH (fun W (hb:Below w.heap.size w W)=>Un f n sa sc W (hs.below hb));have hvl:f.val = .agg #[.int .i64 f.rings,.int .i64 f.sectors,.int .i64 f.wide]:=rfl;rw[hvl]at CN;clear hvl;obtain⟨z,hz⟩:=zX (ZZ f n);rw[hz.out]at CN ⊢;have QE:Hid ((z != 0) = !decide (z=0)):=zH (by by_cases h:z=0 <;> simp[h]);have B0:=zH (zB w (.cells (Z5 n sa sc) 47));have N0:=zH (Za w (.cells (Z5 n sa sc) 47));have PB0:=zH (Z7 B0.out hb);have PH0:=zH (Z7 B0.out hh);clear hb hh hs;go_enter Tryz.func55,Tryz.ntmps55;go_upto_region 1 with fail;obtain⟨p2,hp2⟩:=zX (w.heap.size);rw[hp2.out]at N0;rw[hp2.out];generalize w.alloc (.cells (Z5 n sa sc) 47)=wr at *;have hC0:Below wr.heap.size wr wr.drew:=(Below.refl _ _).drew;have LB:=zH (show ∀w0,Below wr.heap.size wr w0->w0.heap[pB]? = some (.cells #[.pointer (some ⟨p,0,none⟩)] 27)from fun w0 h=>Z7 h PB0.out);have LH:=zH (show ∀w0,Below wr.heap.size wr w0->w0.heap[p]? = some (.cells (Xy f id mb c sp) 109)from fun w0 h=>Z7 h PH0.out);have LN2:=zH (show ∀w0,Below wr.heap.size wr w0->w0.heap[p2]? = some (.cells (Z5 n sa sc) 47)from fun w0 h=>Z7 h N0.out);have BW:=zH (show ∀w0,Below wr.heap.size wr w0->Below w.heap.size w w0 from fun w0 h=>B0.out.trans (h.mono B0.out.size));try simp only[Act.put,lq3,lq4,lq5]
 refine zC (fun w':World=>Below wr.heap.size wr w') hC0 ?_;refine zQ (.pointer (some ⟨p,0,none⟩)) (fun w0 hC=>?_) ?_
 ·have c0:=Z6 (LB.out w0 hC) 0 (.pointer (some ⟨p,0,none⟩)) rfl;clear hC;go_simp
 refine zv p 0 ?_;refine zv p 0 ?_;refine zQ (.agg #[.int .i64 f.rings,.int .i64 f.sectors,.int .i64 f.wide]) (fun w0 hC=>?_) ?_
 ·have c0:=Z6 (LH.out w0 hC) 0 (.int .i64 f.rings) rfl;have c1:=Z6 (LH.out w0 hC) 1 (.int .i64 f.sectors) rfl;have c2:=Z6 (LH.out w0 hC) 2 (.int .i64 f.wide) rfl;clear hC;go_simp
 refine zQ (.agg (Z5 n sa sc)) (fun w0 hC=>Jy (.tmp 2) rfl p2 rfl n sa sc (LN2.out w0 hC)) ?_;refine zQ (.int .i64 z) (fun w0 hC=>?_) ?_
 ·go_simp;refine(CN.out w0 (BW.out w0 hC)).mono ?_;rintro e w1 ⟨rfl,b1⟩;exact⟨rfl,hC.trans (b1.mono hC.size)⟩
 refine zQ (.bool (!decide (z=0))) (fun w0 hC=>?_) ?_
 ·have qe:=QE.out;clear hC;go_simp
 go_big_quiet_step (fail);refine wpQuiet_nil ?_;intro w' hC;have B9:=zH (BW.out w' hC);clear hC;go_wp2;go_ret;exact⟨rfl,B9.out⟩
theorem Z76 {f:Yg}(hv:f.valid=true){x y:Z8}(hx:Zf f x=true)(hy:Zf f y=true)(h:ZQ x=ZQ y):x=y:=by
 have h1:=Um hv x hx;rw[h,Um hv y hy]at h1;simpa using h1.symm
theorem Z99 (f:Yg)(hv:f.valid=true)(x y:Z8)(sa:zA)(sc:Nat)(ta:zA)(tc:Nat)(w:World)(hx:Xi w sa x.strokes.length sc x.strokes)(hy:Xi w ta y.strokes.length tc y.strokes)(hfx:Zf f x=true)(hfy:Zf f y=true):
  Calls zq 59 #[.agg (Z5 x sa sc),.agg (Z5 y ta tc)] w fun e w'=>e = .returned (.bool (Yx x y))/\Below w.heap.size w w':=by
 have EQ:Hid (∀b:Bool,(b=true↔ZQ x=ZQ y)->b=Yx x y):=zH (fun b hb=>by
  rw[Bool.eq_iff_iff,hb,Jx];exact⟨Z76 hv hfx hfy,fun e=>by rw[e]⟩)
 have EX:=zH (fun W (hb:Below w.heap.size w W)=>QT x sa sc W (hx.below hb) (YT hv hfx) (Nat.le_trans (Xp hv hfx) (by decide)));have EY:=zH (fun W (hb:Below w.heap.size w W)=>QT y ta tc W (hy.below hb) (YT hv hfy) (Nat.le_trans (Xp hv hfy) (by decide)));have B0:=zH ((zB w (.cells (Z5 x sa sc) 47)).alloc (by simp) (.cells (Z5 y ta tc) 47));have X0:=zH (Z9 _ (.cells (Z5 y ta tc) 47) _ _ (Za w (.cells (Z5 x sa sc) 47)));have Y0:=zH (Zw (w.alloc (.cells (Z5 x sa sc) 47)) (.cells (Z5 y ta tc) 47) (w.heap.size+1) (by simp));clear hx hy hfx hfy;go_enter Tryz.func59,Tryz.ntmps59;go_upto_region 1 with fail;obtain⟨p2,hp2⟩:=zX (w.heap.size);obtain⟨p3,hp3⟩:=zX (w.heap.size+1);rw[hp2.out]at X0;rw[hp3.out]at Y0;rw[hp3.out,hp2.out];generalize (w.alloc (.cells (Z5 x sa sc) 47)).alloc (.cells (Z5 y ta tc) 47)=wr at *;refine zD (fun w'=>w'.heap[p2]? = some (.cells (Z5 x sa sc) 47)/\w'.heap[p3]? = some (.cells (Z5 y ta tc) 47)) (show wr.drew.heap[p2]? = _/\wr.drew.heap[p3]? = _ from⟨X0.out,Y0.out⟩) fun hh=>?_;have XD:=zH (show wr.drew.heap[p2]? = _ from X0.out);have YD:=zH (show wr.drew.heap[p3]? = _ from Y0.out);have BD:=zH (show Below w.heap.size w wr.drew from B0.out.drew);generalize wr.drew=V at *;refine zT 0 rfl (.agg (Z5 x sa sc)) (zY p2 fun W h=>h.1) ?_;refine zT 2 rfl (.agg (Z5 y ta tc)) (zY p3 fun W h=>h.2) ?_;refine zR 1 rfl fun K hK=>?_;go_simp;go_at_call 117;refine(EX.out V BD.out).mono ?_;rintro e v1 ⟨xa,xc,rfl,ho,b1⟩;have B1:=zH (BD.out.trans (b1.mono BD.out.size));have X1:=zH (Z7 b1 XD.out);have Y1:=zH (Z7 b1 YD.out);have R1:=zH (Y4.of_own ho);clear b1 ho;dsimp only;refine zK hK ⟨X1.out,Y1.out⟩ fun hh=>?_;clear hK K;refine zR 3 rfl fun K hK=>?_;go_simp;go_at_call 117;refine(EY.out v1 B1.out).mono ?_;rintro e v2 ⟨ya,yc,rfl,ho,b2⟩;have B2:=zH (B1.out.trans (b2.mono B1.out.size));have X2:=zH (Z7 b2 X1.out);have Y2:=zH (Z7 b2 Y1.out);have R2:=zH (Y4.of_own ho);have R12:=zH (R1.out.below b2)
 clear b2 ho;dsimp only;refine zK hK ⟨X2.out,Y2.out⟩ fun hh=>?_;clear hK K;refine zR 4 rfl fun K hK=>?_;go_simp;go_at_call 116;refine(Z2h xa _ xc (ZQ x) ya _ yc (ZQ y) v2 R12.out R2.out).mono ?_;rintro e v3 ⟨b,rfl,hb,q3,rfl⟩;have HB:=zH hb;have B3:=zH (below_drewN B2.out q3);clear hb;dsimp only;refine zK hK ⟨X2.out,Y2.out⟩ fun hh=>?_;clear hK K;refine zW 5 rfl (.bool b) ?_;refine zE ?_;go_wp2;go_ret;exact⟨by rw[EQ.out b HB.out] <;> rfl,B3.out⟩
def Z3J (x y:Int):Int:=if y > x then y else x
def Qw (l:List Z8)(c:Int):Prop:=1<=c/\(∀x∈l,x.clock+1<=c)/\(c=1 \/ ∃x∈l,c=x.clock+1)
theorem Qw.uniq {l:List Z8}{c d:Int}(h:Qw l c)(k:Qw l d):c=d:=by
 obtain⟨h1,h2,h3⟩:=h;obtain⟨k1,k2,k3⟩:=k;have hcd:c<=d:=by
  rcases h3 with rfl | ⟨x,hx,rfl⟩
  ·exact k1
  ·exact k2 x hx
 have hdc:d<=c:=by
  rcases k3 with rfl | ⟨x,hx,rfl⟩
  ·exact h1
  ·exact h2 x hx
 omega
theorem Qw.nil:Qw [] 1:=⟨Int.le_refl _,fun x h=>(by cases h),.inl rfl⟩
theorem Qw.snoc {l:List Z8}{c:Int}(h:Qw l c)(x:Z8):Qw (l ++ [x]) (Z3J c (x.clock+1)):=by
 obtain⟨h1,h2,h3⟩:=h;unfold Z3J;refine⟨by split <;> omega,fun y hy=>?_,?_⟩
 ·rcases List.mem_append.1 hy with hy | hy
  ·have:=h2 y hy;split <;> omega
  ·rw[List.mem_singleton.1 hy];split <;> omega
 ·split
  ·exact .inr ⟨x,by simp,rfl⟩
  ·rcases h3 with h3 | ⟨y,hy,h3⟩
   ·exact .inl h3
   ·exact .inr ⟨y,List.mem_append_left _ hy,h3⟩
theorem Qw.mem {l m:List Z8}{c:Int}(h:Qw l c)(hm : ∀x,x∈m↔x∈l):Qw m c:=
 ⟨h.1,fun x hx=>h.2.1 x ((hm x).1 hx),h.2.2.imp id (fun⟨x,hx,e⟩=>⟨x,(hm x).2 hx,e⟩)⟩
def Z5V:List Z8->Int:=fun l=>l.foldl (fun c x=>Z3J c (x.clock+1)) 1
theorem Z8H (l:List Z8):Qw l (Z5V l):=by
 have h : ∀(l pre:List Z8) (c:Int),Qw pre c->Qw (pre ++ l) (l.foldl (fun c x=>Z3J c (x.clock+1)) c):=by
  intro l
  induction l with
  | nil=>intro pre c h;simpa using h
  | cons x l ih=>
   intro pre c h;have h2:=ih (pre ++ [x]) _ (h.snoc x);rw[List.append_assoc]at h2;exact h2
 exact h l [] 1 Qw.nil
def VK (S:Zj)(n:Z8):Z8 := { n with house:=S.id,num:=(S.c S.id:Int)+1,clock:=Z5V S.l }
def Vc (S:Zj)(n:Z8):Zj×Z8×Int:=
 if 400<=S.l.length\/1099511627776 < Z5V S.l then (S,Zg,2)
 else if ZZ S.f (VK S n)≠0 then (S,Zg,80)
 else if (n.kind≠5/\n.kind≠6)/\Zn (VK S n)∈(Z6t S.f (XY S.l (VK S n)) (XY S.l (VK S n)) 99999).2.2 then (S,Zg,91)
 else (S.add (VK S n),VK S n,0)
theorem Zd9 (args:ZW)(w:World):(callFunc 73 args).run zq w = .ok (.enter 73 args) w:=by kernel_rfl
theorem Zcj (pB:Nat)(n:Z8)(sa:zA)(sc:Nat)(x:Nm)(w:World)(hb:w.heap[pB]? = some (.cells (Z5 n sa sc) 47)):
  Calls zq 73 #[.agg #[.int .i64 x.1,.int .i64 x.2],.pointer (some ⟨pB,0,none⟩)] w fun e w'=>e = .returned (.bool (decide (x=Zn n)))/\Below w.heap.size w w':=by
 have NM:=zH (fun W=>QR n sa sc W);obtain⟨xh,xm⟩:=x;obtain⟨q,hq⟩:=zX (decide (((xh,xm):Nm)=Zn n));have HQ:Hid (((xh==n.house) && (xm==n.num))=q):=zH (by rw[<-hq.out];unfold Zn;rw[Bool.eq_iff_iff];simp);rw[hq.out];dsimp only;have B0:=zH (zB w (.cells #[.int .i64 xh,.int .i64 xm] 45));have X0:=zH (Za w (.cells #[.int .i64 xh,.int .i64 xm] 45));have N0:=zH (Z7 B0.out hb);clear hb hq;go_enter Tryz.func73,Tryz.ntmps73;go_upto_region 1 with fail;obtain⟨p2,hp2⟩:=zX (w.heap.size);rw[hp2.out]at X0;rw[hp2.out];generalize w.alloc (.cells #[.int .i64 xh,.int .i64 xm] 45)=wr at *;have hC0:Below wr.heap.size wr wr.drew:=(Below.refl _ _).drew;have LX:=zH (show ∀w0,Below wr.heap.size wr w0->w0.heap[p2]? = some (.cells #[.int .i64 xh,.int .i64 xm] 45)from fun w0 h=>Z7 h X0.out);have LN2:=zH (show ∀w0,Below wr.heap.size wr w0->w0.heap[pB]? = some (.cells (Z5 n sa sc) 47)from fun w0 h=>Z7 h N0.out);have BW:=zH (show ∀w0,Below wr.heap.size wr w0->Below w.heap.size w w0 from fun w0 h=>B0.out.trans (h.mono B0.out.size));try simp only[Act.put,lq3,lq4,lq5]
 refine zC (fun w':World=>Below wr.heap.size wr w') hC0 ?_;refine zQ (.agg #[.int .i64 xh,.int .i64 xm]) (fun w0 hC=>?_) ?_
 ·have c0:=Z6 (LX.out w0 hC) 0 (.int .i64 xh) rfl;have c1:=Z6 (LX.out w0 hC) 1 (.int .i64 xm) rfl;clear hC;go_simp
 refine zQ (.agg (Z5 n sa sc)) (fun w0 hC=>Jy (.tmp 1) rfl pB rfl n sa sc (LN2.out w0 hC)) ?_;refine zQ (.agg #[.int .i64 n.house,.int .i64 n.num]) (fun w0 hC=>?_) ?_
 ·go_simp;refine(NM.out w0).mono ?_;rintro e w1 ⟨rfl,b1⟩;exact⟨rfl,hC.trans (b1.mono hC.size)⟩
 refine zQ (.bool q) (fun w0 hC=>?_) ?_
 ·have hq:=HQ.out;clear hC;rw[<-hq];go_simp;try (cases h1:(xh==n.house) <;> cases h2:(xm==n.num) <;> simp_all)
 go_big_quiet_step (fail);refine wpQuiet_nil ?_;intro w' hC;have B9:=zH (BW.out w' hC);clear hC;go_wp2;go_ret;exact⟨rfl,B9.out⟩
theorem Z6q (w:World)(base:Nat)(sa:zA)(sn sc:Nat)(xs:List Value)(hown:w.ownsRow base 3 1 (.slice sa sn sc) sn xs)(xa:zA)(m xc:Nat)(ys:List Value)(hrd:Y3 w 1 xa m xc ys)(h1 : ∀u∈ys,u.oneCell'=true)
  (hbytes:(sn+m) * 8<=140737488355328) (hbase:base<=w.heap.size):
  ∃a' c' w',(Builtin.append_ #[37,37] 37 #[.slice sa sn sc,.slice xa m xc]).run zq w = .ok (.slice a' (sn+m) c') w'/\w'.ownsRow base 3 1 (.slice a' (sn+m) c') (sn+m) (xs ++ ys)/\w.grownBy w' (Value.ownBlock (.slice sa sn sc)):=by
 obtain⟨i,hi,hz0,hz1,hz2⟩:=info_parts Z5N;exact Yc w base 37 37 3 i _ 1 8 Tryz.underlying37 hi hz0 hz1 hz2 rfl (by decide) sa sn sc xs hown xa m xc ys hrd h1 (by unfold maxLen;omega) hbytes hbase
section
attribute [local go_sem] XR
end
section
attribute [local go_sem] ZT Xa
end
def Ql (l:List Z8)(h:Int):Nat:=l.countP (fun x=>decide (x.house=h))
section
attribute [local go_sem] XR
end
theorem U0 {P:Program}{ops:Array Oper}{S:World->Prop}{op:Oper}{a:Act}(hw:Region.wanted op (yielded ops a.tmps)=true)(ty:TypeId)(x:Operand)(ho:op.op = .load ty x)
  (b o:Nat) (hx:a.eval x = .pointer (some ⟨b,o,none⟩)) (cs:List Value) (d:TypeDesc) (hS : ∀w,S w->w.rangeAt b o cs)
  (hu:P.underlying ty=some d) (hd:d.isRow=true) (hi:(P.info? ty).map (·.size)=some cs.length):YieldsIf P ops S op (.agg cs.toArray) a:=
 .inl ⟨hw,fun w hw'=>by
  unfold execOp
  simp only[ho,hx,Instr.loadAt,Instr.sureAddr,Sem.run_bind,Sem.run_pure,Result.andThen_ok,run_loadVar_mid w b o ty cs d (hS w hw') hu hd hi]⟩
theorem Xg {F F1:Nat->Prop}{a b c:World}(h:Zb F a b)(k:Zb F1 b c)(hF : ∀k,F1 k->F k\/a.heap.size<=k):Zb F a c:=
 ⟨k.os.trans h.os,k.tape.trans h.tape,k.output.trans h.output,Nat.le_trans h.size k.size,fun i hi hs=>(k.block i (Nat.lt_of_lt_of_le hi h.size) (fun h1=>by
  rcases hF i h1 with h2 | h2
  ·exact hs h2
  ·omega)).trans (h.block i hi hs)⟩
theorem Zb4 {W:World}{p mb sp:Nat}{f:Yg}{id:Int}{c:Int->Nat}(h:W.heap[p]? = some (.cells (Xy f id mb c sp) 109)):W.rangeAt p 5 [.int .i64 (c 0:Int),.int .i64 (c 1:Int),.int .i64 (c 2:Int),.int .i64 (c 3:Int),.int .i64 (c 4:Int),.int .i64 (c 5:Int),.int .i64 (c 6:Int),.int .i64 (c 7:Int),.int .i64 (c 8:Int)]:=fun j v hv=>by
 have hj:j < 9:=(List.getElem?_eq_some_iff.1 hv).1
 have h1:=Z6 h (5+j) v ?_
 ·exact h1
 ·have:j=0\/j=1\/j=2\/j=3\/j=4\/j=5\/j=6\/j=7\/j=8:=by omega
  rcases this with rfl | rfl | rfl | rfl | rfl | rfl | rfl | rfl | rfl <;> simpa [Xy] using hv
def Z2l (c:Int->Nat):ZW := #[.int .i64 (c 0:Int),.int .i64 (c 1:Int),.int .i64 (c 2:Int),.int .i64 (c 3:Int),.int .i64 (c 4:Int),.int .i64 (c 5:Int),.int .i64 (c 6:Int),.int .i64 (c 7:Int),.int .i64 (c 8:Int)]
theorem Z8G (c:Int->Nat)(k:Nat)(hk:k<=8):(Z2l c)[k]? = some (.int .i64 (c (k:Int):Int)):=by
 have:k=0\/k=1\/k=2\/k=3\/k=4\/k=5\/k=6\/k=7\/k=8:=by omega
 rcases this with rfl | rfl | rfl | rfl | rfl | rfl | rfl | rfl | rfl <;> rfl
theorem ZbE (c:Int->Nat)(k:Nat)(hk:k<=8):(Z2l c).setIfInBounds k (.int .i64 ((c (k:Int):Int)+1))=Z2l (QW c (k:Int)):=by
 have:k=0\/k=1\/k=2\/k=3\/k=4\/k=5\/k=6\/k=7\/k=8:=by omega
 rcases this with rfl | rfl | rfl | rfl | rfl | rfl | rfl | rfl | rfl <;> simp[Z2l,QW]
theorem ZbF (c:Int->Nat):(Z2l c).all (·.oneCell')=true:=by simp[Z2l,Value.oneCell']
theorem Z6U {W:World}{p k:Nat}(hk:k < 9):(Instr.indexAt 107 (.pointer (some ⟨p,0,none⟩)) (.int .i64 (k:Int))).run zq W = .ok (.pointer (some ⟨p,k,none⟩)) W:=by
 have hsz:(zq.info? 3).map (·.size)=some 1:=by kernel_rfl
 cases hq:zq.info? 3 with
 | none=>simp[hq]at hsz
 | some i=>
  simp only[hq,Option.map_some,Option.some.injEq]at hsz;simp[Instr.indexAt,run_underlying Tryz.underlying107,Instr.sureAddr,asIntOf,sizeOf,typeInfo,hq,hsz,Addr.add,hk];try exact fun h=>h.symm
theorem Zeo {P T:Nat->Nat->World->Prop}{G:Prop}(h1:(∀a b W,P a b W->T a b W)->G)(h2 : ∀a b W,P a b W->T a b W):G:=h1 h2
structure Z0n (w W:World)(km pc:Nat)(S:Zj)(l:List Z8)(xs:List LN)(q:Nat)(GK:Nm->Option LN)(fr:List Z8)(c:Int->Nat)(fa:zA)(fc:Nat)(ys:List LN):Prop where
 bel:Below w.heap.size w W
 go:YI S.l [] S.c l=YI S.l fr c (l.drop q)
 nms:Qq (S.l ++ fr) c
 nd:((S.l ++ fr).map Zn).Nodup
 map:Yd LN.val W km (S.l.length+fr.length) GK
 gs : ∀k x,GK k=some x->x.n∈S.l ++ fr/\x.nm=k
 ok : ∀k x,GK k=some x -> ∀W',Below w.heap.size w W'->x.ok W'
 gl : ∀n∈S.l ++ fr,∃x,GK (Zn n)=some x/\x.n=n
 cnt:W.heap[pc]? = some (.cells (Z2l c) 107)
 own:W.ownsRow w.heap.size 47 19 (.slice fa fr.length fc) fr.length (ZF ys)
 eq:ys.map LN.n=fr
 mem : ∀y∈ys,y∈xs
 km_ge:w.heap.size<=km
 pc_ge:w.heap.size<=pc
 fl:fr.length<=q
section
variable {w W W':World}{km pc:Nat}{S:Zj}{l:List Z8}{xs:List LN}{q:Nat}{GK:Nm->Option LN}{fr:List Z8}{c:Int->Nat}{fa:zA}{fc:Nat}{ys:List LN}
theorem Z0n.below (h:Z0n w W km pc S l xs q GK fr c fa fc ys)(hb:Below W.heap.size W W'):Z0n w W' km pc S l xs q GK fr c fa fc ys:=
 ⟨h.bel.trans (hb.mono h.bel.size),h.go,h.nms,h.nd,h.map.below hb,h.gs,h.ok,h.gl,Z7 hb h.cnt,Zd h.own hb,h.eq,h.mem,h.km_ge,h.pc_ge,h.fl⟩
theorem Z0n.known (h:Z0n w W km pc S l xs q GK fr c fa fc ys){n:Z8}{x:LN}(hx:GK (Zn n)=some x):Jl (S.l ++ fr) n=some x.n:=by
 obtain⟨h1,h2⟩:=h.gs _ x hx;cases hk:Jl (S.l ++ fr) n with
 | none=>exact absurd h2 (Qk hk x.n h1)
 | some o=>
  obtain⟨h3,h4⟩:=Z5M hk;rw[Vt h.nd h3 h1 (h4.trans h2.symm)]
theorem Z0n.unknown (h:Z0n w W km pc S l xs q GK fr c fa fc ys){n:Z8}(hx:GK (Zn n)=none):Jl (S.l ++ fr) n=none:=
 Z3N fun y hy e=>by
  obtain⟨x,h1,_⟩:=h.gl y hy
  rw[e,hx]at h1
  cases h1
theorem Z0n.skip (h:Z0n w W km pc S l xs q GK fr c fa fc ys){n:Z8}(hn:l[q]? = some n)(hk:(∃o,Jl (S.l ++ fr) n=some o/\Yx o n=true)\/(Jl (S.l ++ fr) n=none/\(c n.house:Int)+1 < n.num)):Z0n w W km pc S l xs (q+1) GK fr c fa fc ys:=by
 refine⟨h.bel,?_,h.nms,h.nd,h.map,h.gs,h.ok,h.gl,h.cnt,h.own,h.eq,h.mem,h.km_ge,h.pc_ge,Nat.le_succ_of_le h.fl⟩;rw[h.go,Z5T hn,YI];rcases hk with ⟨o,h1,h2⟩ | ⟨h1,h2⟩
 ·rw[h1];simp only;rw[if_pos h2]
 ·rw[h1];simp only;rw[if_pos h2]
theorem Z0n.fork (h:Z0n w W km pc S l xs q GK fr c fa fc ys){n o:Z8}(hn:l[q]? = some n)(h1:Jl (S.l ++ fr) n=some o)(h2:Yx o n=false):YI S.l [] S.c l=none:=by
 rw[h.go,Z5T hn,YI,h1];simp only;rw[if_neg (by rw[h2];decide)]
theorem Z0n.add {x:LN}{a':zA}{c':Nat}(h:Z0n w W km pc S l xs q GK fr c fa fc ys)(hn:l[q]? = some x.n)(hx:x∈xs)(h1:Jl (S.l ++ fr) x.n=none)(h2 : ¬(c x.n.house:Int)+1 < x.n.num)(hnum:1<=x.n.num)(hok : ∀W',Below w.heap.size w W'->x.ok W')
  (hbel:Below w.heap.size w W') (hm:Yd LN.val W' km (S.l.length+fr.length+1) (YZ GK (Zn x.n) x)) (hc:W'.heap[pc]? = some (.cells (Z2l (QW c x.n.house)) 107))
  (ho:W'.ownsRow w.heap.size 47 19 (.slice a' (fr.length+1) c') (fr.length+1) (ZF ys ++ x.n.cells x.sa x.sc)):Z0n w W' km pc S l xs (q+1) (YZ GK (Zn x.n) x) (fr ++ [x.n]) (QW c x.n.house) a' c' (ys ++ [x]):=by
 have hfree:=Qk h1;have hlt:=h.nms.free hnum hfree;refine⟨hbel,?_,?_,?_,?_,fun k y hy=>?_,fun k y hy=>?_,fun y hy=>?_,hc,?_,?_,fun y hy=>?_,h.km_ge,h.pc_ge,?_⟩
 ·rw[h.go,Z5T hn,YI,h1];simp only;rw[if_neg h2]
 ·rw[<-List.append_assoc];exact h.nms.add (by omega)
 ·rw[<-List.append_assoc,List.map_append];refine List.nodup_append.2 ⟨h.nd,by simp,fun a ha b hb e=>?_⟩;rw[List.map_singleton,List.mem_singleton]at hb;obtain⟨y,hy,rfl⟩:=List.mem_map.1 ha;exact hfree y hy (e.trans hb)
 ·rw[List.length_append,List.length_singleton,<-Nat.add_assoc];exact hm
 ·rw[<-List.append_assoc];unfold YZ at hy;split at hy
  ·rename_i e;cases hy;exact⟨List.mem_append_right _ (by simp),e.symm⟩
  ·obtain⟨h3,h4⟩:=h.gs k y hy;exact⟨List.mem_append_left _ h3,h4⟩
 ·unfold YZ at hy;split at hy
  ·cases hy;exact hok
  ·exact h.ok k y hy
 ·rw[<-List.append_assoc]at hy;rcases List.mem_append.1 hy with hy | hy
  ·obtain⟨z,h3,h4⟩:=h.gl y hy;refine⟨z,?_,h4⟩;unfold YZ;rw[if_neg (hfree y hy)];exact h3
  ·rw[List.mem_singleton.1 hy];exact⟨x,by unfold YZ;rw[if_pos rfl],rfl⟩
 ·rw[Qi,List.length_append,List.length_singleton];exact ho
 ·rw[List.map_append,h.eq];rfl
 ·rcases List.mem_append.1 hy with hy | hy
  ·exact h.mem y hy
  ·rw[List.mem_singleton.1 hy];exact hx
 ·rw[List.length_append,List.length_singleton];have:=h.fl;omega
end
def Zcz (w:World)(p mb sp:Nat)(G:Nm->Option LN)(SF:Nat->Prop)(S:Zj)(l:List Z8)(e:Ending)(W:World):Prop:=
 e = .returned (.tuple #[.int .i64 (Ym S l).2.1,.int .i64 (Ym S l).2.2]) /\ ∃G' SF',Yp W p mb sp G' SF' (Ym S l).1/\Zb (Yw p mb G SF) w W /\ ∀k,Yw p mb G' SF' k->Yw p mb G SF k\/w.heap.size<=k
section
attribute [local go_sem] ZT Xa
theorem Z57 (p mb sp:Nat)(G:Nm->Option LN)(SF:Nat->Prop)(S:Zj)(a:zA)(nn nc:Nat)(l:List Z8)(xs:List LN)(w:World)(hh:Yp w p mb sp G SF S)(hi:Xt S)(hxs:xs.map LN.n=l)
  (hr : ∀W,Zb (Yw p mb G SF) w W->zu W a nn nc xs) (hok : ∀x∈l,x.Ok) (hlen:S.l.length+nn<=400):
  Calls zq 13 #[.pointer (some ⟨p,0,none⟩),.slice a nn nc] w fun e w'=>Zcz w p mb sp G SF S l e w':=by
 have J19:(zq.info? 47).map (·.size)=some 19:=by kernel_rfl
 have hmf : ∀(fn:Fn) (first cap:ZW) (w:World),(Instr.makeFunc fn first cap).run zq w = .ok (.func fn first cap) w:=fun _ _ _ _=>rfl;have HH:=zH hh;have HI:=zH hi;have HXS:=zH hxs;have HR:=zH hr;have RL:=zH (hr w (Zb.of_below (Below.refl _ _)));have LNX:Hid (xs.length=nn):=zH (hr w (Zb.of_below (Below.refl _ _))).1;have HLN:Hid (l.length=nn):=zH (by rw[<-hxs,List.length_map];exact(hr w (Zb.of_below (Below.refl _ _))).1);have LOK:=zH (show ∀W,Below w.heap.size w W -> ∀x∈xs,x.ok W from fun W hb x hx=>(Z8z (hr w (Zb.of_below (Below.refl _ _))) hx).below hb);have HOK:=zH hok;have HLEN:=zH hlen;have hn4:(nn:Int)<=9223372036854775807:=by omega
 have B0:=zH (zB w (.cells #[.pointer (some ⟨p,0,none⟩)] 27));have P0:=zH (Za w (.cells #[.pointer (some ⟨p,0,none⟩)] 27));have H0:=zH (hh.below B0.out);clear hh hi hxs hr hok hlen;go_enter Tryz.func13,Tryz.ntmps13;go_upto_region 1 with fail;obtain⟨pB,hpB⟩:=zX (w.heap.size);rw[hpB.out]at P0;rw[hpB.out];generalize w.alloc (.cells #[.pointer (some ⟨p,0,none⟩)] 27)=w0 at *;have cB:=Z6 P0.out 0 (.pointer (some ⟨p,0,none⟩)) rfl;go_wp2_with fail;refine(VG w0 p mb sp S.f S.id S.c H0.out.blk).mono ?_;rintro e w1 ⟨rfl,rfl⟩;go_wp2_with fail;refine(Z4C xs (fun x=>!decide (ZZ S.f x.n=0)) 55 (.pointer (some ⟨pB,0,none⟩)) Zb7 a nn nc w1 (RL.out.below B0.out) (fun x hx W hb=>Z9M S.f S.id mb sp p pB S.c x.n x.sa x.sc W (Z7 hb P0.out) (Z7 hb H0.out.blk) (LOK.out W (B0.out.trans (hb.mono B0.out.size)) x hx))).mono ?_;rintro e w2 ⟨rfl,b2⟩;have B2:=zH (B0.out.trans (b2.mono B0.out.size));have P2:=zH (Z7 b2 P0.out);have H2:=zH (HH.out.below B2.out);have ANY:Hid ((xs.any fun x=>!decide (ZZ S.f x.n=0))=l.any (fun n=>!decide (ZZ S.f n=0))):=zH (by rw[<-HXS.out,List.any_map];rfl);rw[ANY.out];clear b2 cB B0 P0 H0 hmf;have UNCH:=zH (show ∀W,Below w.heap.size w W -> ∃G' SF',Yp W p mb sp G' SF' S/\Zb (Yw p mb G SF) w W /\ ∀k,Yw p mb G' SF' k->Yw p mb G SF k\/w.heap.size<=k from fun W hb=>⟨G,SF,HH.out.below hb,Zb.of_below hb,fun k hk=>.inl hk⟩);have RL2:=zH (RL.out.below B2.out);have LOK2:=zH (show ∀W,Below w2.heap.size w2 W -> ∀x∈xs,x.ok W from fun W hb=>LOK.out W (B2.out.trans (hb.mono B2.out.size)));have UNCH2:=zH (show ∀W,Below w2.heap.size w2 W -> ∃G' SF',Yp W p mb sp G' SF' S/\Zb (Yw p mb G SF) w W /\ ∀k,Yw p mb G' SF' k->Yw p mb G SF k\/w.heap.size<=k from fun W hb=>UNCH.out W (B2.out.trans (hb.mono B2.out.size)));cases hbad:l.any (fun n=>!decide (ZZ S.f n=0))
 case true=>
  have HE:=zH (Z0y hbad);clear hbad;go_wp2_with fail;go_returns;exact⟨by rw[HE.out] <;> rfl,by rw[HE.out];exact UNCH.out _ B2.out⟩
 have GOOD:=zH hbad;have FRM:=zH (zg HI.out.v hbad);clear hbad;go_upto_region 5 with fail;apply Zeo (P:=fun km pc W=>Hid (Below w2.heap.size w2 W/\Yd LN.val W km S.l.length G/\W.heap[pc]? = some (.cells (Z2l S.c) 107)/\w2.heap.size<=km/\w2.heap.size<=pc))
 ·intro REST;refine zb fun hh=>?_;have HB0:=zH (show Below w2.heap.size w2 w2.drew from(Below.refl _ _).drew);generalize w2.drew=V0 at *;refine zS 0 rfl (.pointer (some ⟨p,0,none⟩)) (fun W h=>by have hc:=Z6 (Z7 h P2.out) 0 (.pointer (some ⟨p,0,none⟩)) rfl;go_simp) ?_;refine zw 1 rfl p 0 ?_;refine zw 2 rfl p 4 ?_;refine zS 3 rfl (.map (some mb)) (fun W h=>by have hc:=Z6 (Z7 h H2.out.blk) 4 (.map (some mb)) rfl;go_simp) ?_;refine zS 5 rfl (.pointer (some ⟨p,0,none⟩)) (fun W h=>by have hc:=Z6 (Z7 h P2.out) 0 (.pointer (some ⟨p,0,none⟩)) rfl;go_simp) ?_;refine zw 6 rfl p 0 ?_;refine zw 7 rfl p 5 ?_;refine zT 8 rfl (.agg (Z2l S.c)) (U0 (by kernel_rfl) 107 _ rfl p 5 rfl [.int .i64 (S.c 0:Int),.int .i64 (S.c 1:Int),.int .i64 (S.c 2:Int),.int .i64 (S.c 3:Int),.int .i64 (S.c 4:Int),.int .i64 (S.c 5:Int),.int .i64 (S.c 6:Int),.int .i64 (S.c 7:Int),.int .i64 (S.c 8:Int)] _ (fun W h=>Zb4 (Z7 h H2.out.blk)) Tryz.underlying107 rfl (by kernel_rfl)) ?_;refine zM [4,9] rfl (fun K hK=>?_) ?_
  focus
   go_simp;go_at_call 57;refine(Ul mb S.l.length G V0 (H2.out.map.below HB0.out)).mono ?_;rintro e V1 ⟨rfl,hm,b1⟩;have KGE:Hid (w2.heap.size<=V0.heap.size):=zH HB0.out.size;obtain⟨km,hkm⟩:=zX (V0.heap.size);have HB1:=zH (HB0.out.trans (b1.mono HB0.out.size));clear b1;rw[hkm.out]at hm KGE;rw[hkm.out];have HM1:=zH hm;clear hm;dsimp only;refine zK hK HB1.out fun hh=>?_;clear hK K;refine zR 9 rfl fun K hK=>?_;have bz:Below V1.heap.size V1 (V1.alloc (.cells #[.int .i64 0,.int .i64 0,.int .i64 0,.int .i64 0,.int .i64 0,.int .i64 0,.int .i64 0,.int .i64 0,.int .i64 0] 107)):=zB _ _;have HB2:=zH (HB1.out.trans (bz.mono HB1.out.size));have HP2:=zH (Za V1 (.cells #[.int .i64 0,.int .i64 0,.int .i64 0,.int .i64 0,.int .i64 0,.int .i64 0,.int .i64 0,.int .i64 0,.int .i64 0] 107));have CGE:Hid (w2.heap.size<=V1.heap.size):=zH HB1.out.size;have HM2:=zH (HM1.out.below bz);clear bz;go_simp;obtain⟨pc,hpc⟩:=zX (V1.heap.size);rw[hpc.out]at HP2 CGE;rw[hpc.out];generalize V1.alloc (.cells #[.int .i64 0,.int .i64 0,.int .i64 0,.int .i64 0,.int .i64 0,.int .i64 0,.int .i64 0,.int .i64 0,.int .i64 0] 107)=V2 at *
  rotate_left
  focus
   refine zn fun K hK=>?_;have bz:Below V0.heap.size V0 (V0.alloc (.cells #[.int .i64 0,.int .i64 0,.int .i64 0,.int .i64 0,.int .i64 0,.int .i64 0,.int .i64 0,.int .i64 0,.int .i64 0] 107)):=zB _ _;have HB1:=zH (HB0.out.trans (bz.mono HB0.out.size));have HP1:=zH (Za V0 (.cells #[.int .i64 0,.int .i64 0,.int .i64 0,.int .i64 0,.int .i64 0,.int .i64 0,.int .i64 0,.int .i64 0,.int .i64 0] 107));have CGE:Hid (w2.heap.size<=V0.heap.size):=zH HB0.out.size;clear bz;go_simp;obtain⟨pc,hpc⟩:=zX (V0.heap.size);rw[hpc.out]at HP1 CGE;rw[hpc.out];generalize V0.alloc (.cells #[.int .i64 0,.int .i64 0,.int .i64 0,.int .i64 0,.int .i64 0,.int .i64 0,.int .i64 0,.int .i64 0,.int .i64 0] 107)=V1 at *;refine zK hK HB1.out fun hh=>?_;clear hK K;refine zR 4 rfl fun K hK=>?_;go_simp;go_at_call 57;refine(Ul mb S.l.length G V1 (H2.out.map.below HB1.out)).mono ?_;rintro e V2 ⟨rfl,hm,b1⟩;have KGE:Hid (w2.heap.size<=V1.heap.size):=zH HB1.out.size;obtain⟨km,hkm⟩:=zX (V1.heap.size);have HB2:=zH (HB1.out.trans (b1.mono HB1.out.size));have HP2:=zH (Z7 b1 HP1.out);clear b1;rw[hkm.out]at hm KGE;rw[hkm.out];have HM2:=zH hm;clear hm;dsimp only
  all_goals
   refine zK hK HB2.out fun hh=>?_;clear hK K;refine zW 10 rfl (.map (some km)) ?_;refine zR 11 rfl fun K hK=>?_;rw[if_pos (by kernel_rfl)];refine ZV 107 _ _ rfl pc #[.int .i64 0,.int .i64 0,.int .i64 0,.int .i64 0,.int .i64 0,.int .i64 0,.int .i64 0,.int .i64 0,.int .i64 0] (Z2l S.c) 107 rfl rfl HP2.out (by kernel_rfl) rfl (ZbF _) ?_;intro V3 h8 hg8 hs8;have KPC:Hid (km≠pc):=zH (fun e=>by
    obtain⟨es,cl,h9⟩:=HM2.out.blk;rw[e,HP2.out]at h9;cases h9)
   have HB3:=zH (HB2.out.grown hg8 HB2.out.size (fun q hq=>by cases hq;exact CGE.out));have HM3:=zH (HM2.out.kept hg8 (fun e=>absurd (Option.some.inj e) KPC.out));have HP3:=zH h8;clear h8 hg8 hs8;simp only[Act.put,lq0,lq1,lq2];refine zK hK HB3.out fun hh=>?_;clear hK K;refine zE ?_;exact REST km pc V3 (zH ⟨HB3.out,HM3.out,HP3.out,KGE.out,CGE.out⟩)
 intro km pc W5 QQ;have HS0:Hid (Z0n w2 W5 km pc S l xs 0 G [] S.c none 0 []):=zH ⟨QQ.out.1,by rw[List.drop_zero],by rw[List.append_nil];exact HI.out.nms,by rw[List.append_nil];exact XQ HI.out.srt,QQ.out.2.1,by rw[List.append_nil];exact HH.out.gs,
  fun k x hx W' hb=>LN.ok.below (x:=x) (Y3.of_own (H2.out.str k x hx)) hb,by rw[List.append_nil];exact HH.out.gl,QQ.out.2.2.1,World.ownsRow_nil _ _ _ _,rfl,(fun y hy=>by cases hy),QQ.out.2.2.2.1,QQ.out.2.2.2.2,Nat.le_refl _⟩
 clear QQ;go_wp2_with fail;go_loopw [8,32] (fun fv iv wr=>∃(q:Nat) (GK:Nm->Option LN) (fr:List Z8) (c:Int->Nat) (fa:zA) (fc:Nat) (ys:List LN),fv = .slice fa fr.length fc/\iv = .int .i64 (q:Int)/\q<=nn/\Hid (Z0n w2 wr km pc S l xs q GK fr c fa fc ys)) (fun _ iv _=>nn - (intOf iv).toNat)
 case atStart=>exact⟨0,G,[],S.c,none,0,[],rfl,rfl,Nat.zero_le _,HS0⟩
 case round=>
  clear HS0;obtain⟨q,GK,fr,c,fa,fc,ys,rfl,rfl,hq,HS⟩:=hrel;by_cases hlt:q < nn
  ·have t0:decide ((q:Int) < (nn:Int))=true:=by simp;omega
   obtain⟨x,Hx⟩ : ∃x,xs[q]? = some x:=⟨_,List.getElem?_eq_getElem (by rw[LNX.out];exact hlt)⟩;have HLX:=zH (show l[q]? = some x.n by rw[<-HXS.out,List.getElem?_map,Hx];rfl);have XM:=zH (List.mem_of_getElem? Hx);have XF:=zH (FRM.out x.n (List.mem_of_getElem? HLX.out));have XO:=zH (HOK.out x.n (List.mem_of_getElem? HLX.out));have NOK:Hid (Uk (x.n.house,x.n.num)):=zH ⟨XO.out.house,XO.out.num⟩;obtain⟨b,off,rfl,hat⟩:=(RL2.out.below HS.out.bel).at (by omega);obtain⟨o,ho⟩:=zX (off+q * 19);have HX:=zH (hat q x Hx).1;rw[ho.out]at HX;have hix:=fun W=>Yk (W:=W) (c:=nc) (b:=b) Tryz.underlying24 J19 hlt ho.out;have HK64:Hid ((q:Int)+1<=9223372036854775807):=zH (by have:=HLEN.out;omega);clear hat Hx;go_upto_region 10 with (first
    |(refine wpList_load_mid rfl 47 _ rfl b o rfl (x.n.cells x.sa x.sc) _ HX.out Tryz.underlying47 rfl (Ui x.n x.sa x.sc) ?_)
    |(refine zP wr wr.heap.size (Z5 x.n x.sa x.sc) ?_))
   clear hix t0;have bt:Below wr.heap.size wr (wr.alloc (.cells (Z5 x.n x.sa x.sc) 47)):=zB _ _;have HT:=zH (HS.out.below bt);have N10:=zH (Za wr (.cells (Z5 x.n x.sa x.sc) 47));have GE10:Hid (w2.heap.size<=wr.heap.size):=zH HS.out.bel.size;have KM10:Hid (km < wr.heap.size/\pc < wr.heap.size):=zH ⟨HS.out.map.lt,Zi HS.out.cnt⟩;obtain⟨p10,hp10⟩:=zX (wr.heap.size);rw[hp10.out]at N10 GE10 KM10;rw[hp10.out];generalize wr.alloc (.cells (Z5 x.n x.sa x.sc) 47)=wt at *;clear bt HS HX;go_wp2_with (first
    |(refine zL p10 N10.out ?_))
   refine(QR x.n x.sa x.sc wt).mono ?_;rintro e w6 ⟨rfl,b6⟩;have HT6:=zH (HT.out.below b6);have N6:=zH (Z7 b6 N10.out);clear b6 HT N10;cases hgk:GK (x.n.house,x.n.num)with
   | some y=>
    have hget:(Instr.lookup 106 (.map (some km)) (.agg #[.int .i64 x.n.house,.int .i64 x.n.num]) true).run zq w6 = .ok (.tuple #[.agg (Z5 y.n y.sa y.sc),.bool true]) w6:=by
     have:=XC (t:=106) HT6.out.map Tryz.underlying106 (Xh w6) x.n.house x.n.num NOK.out;rw[hgk]at this;exact this
    have KB:=zH (HT6.out.known (n:=x.n) hgk);have YM:=zH (HT6.out.gs _ y hgk).1;have YK:=zH (HT6.out.ok _ y hgk);have YF:Hid (Zf S.f y.n=true):=zH (by
     rcases List.mem_append.1 YM.out with h | h
     ·exact HI.out.frm _ h
     ·rw[<-HT6.out.eq]at h;obtain⟨z,hz,hz2⟩:=List.mem_map.1 h;rw[<-hz2];exact FRM.out _ (by rw[<-HXS.out];exact List.mem_map_of_mem (HT6.out.mem z hz)))
    clear hgk;go_upto_region 14 with (first
     |(refine zP w6 w6.heap.size (Z5 y.n y.sa y.sc) ?_))
    have bt:Below w6.heap.size w6 (w6.alloc (.cells (Z5 y.n y.sa y.sc) 47)):=zB _ _;have HT7:=zH (HT6.out.below bt);have N7:=zH (Z7 bt N6.out);have M7:=zH (Za w6 (.cells (Z5 y.n y.sa y.sc) 47));obtain⟨p11,hp11⟩:=zX (w6.heap.size);rw[hp11.out]at M7;rw[hp11.out];generalize w6.alloc (.cells (Z5 y.n y.sa y.sc) 47)=w7 at *;clear bt hget HT6 N6;go_wp2_with (first
     |(refine zG p11 M7.out ?_)
     |(refine zG p10 N7.out ?_))
    refine(Z99 S.f HI.out.v y.n x.n y.sa y.sc x.sa x.sc w7 (YK.out w7 HT7.out.bel) (LOK2.out w7 HT7.out.bel x XM.out) YF.out XF.out).mono ?_;rintro e w8 ⟨rfl,b8⟩;have HT8:=zH (HT7.out.below b8);have N8:=zH (Z7 b8 N7.out);clear b8 HT7 N7 M7;cases hsame:Yx y.n x.n
    case false=>
     have HG:=zH (HT8.out.fork HLX.out KB.out hsame);have HE:=zH (UY GOOD.out HG.out);clear hsame;go_wp2_with fail;go_returns;exact⟨by rw[HE.out] <;> rfl,by rw[HE.out];exact UNCH2.out _ HT8.out.bel⟩
    case true=>
     have HN:=zH (HT8.out.skip HLX.out (.inl ⟨_,KB.out,hsame⟩));clear hsame HT8;go_upto_region 16 with fail;have hC0:Below w8.heap.size w8 w8.drew:=(Below.refl _ _).drew;try simp only[Act.put,lq3,lq4,lq5]
     refine zC (fun w':World=>Below w8.heap.size w8 w') hC0 ?_
     iterate 2 go_big_quiet_step (fail)
     iterate 8 go_big_quiet_skip
     refine zV (.bool true) ?_;go_big_quiet_step (fail);refine wpQuiet_nil ?_;intro w' hC;have HN2:=zH (HN.out.below hC);clear hC HN;have hk64:=HK64.out;go_wp2;go_roundw
     case rel=>exact⟨q+1,GK,fr,c,fa,fc,ys,by go_num,by go_num,by omega,HN2⟩
     case measure=>simp[intOf];omega
   | none=>
    have hget:(Instr.lookup 106 (.map (some km)) (.agg #[.int .i64 x.n.house,.int .i64 x.n.num]) true).run zq w6 = .ok (.tuple #[.agg (Z5 Zg none 0),.bool false]) w6:=by
     have:=XC (t:=106) HT6.out.map Tryz.underlying106 (Xh w6) x.n.house x.n.num NOK.out;rw[hgk]at this;exact this
    have KB:=zH (HT6.out.unknown (n:=x.n) hgk);clear hgk;go_upto_region 14 with (first
     |(refine zP w6 w6.heap.size (Z5 Zg none 0) ?_))
    have bt:Below w6.heap.size w6 (w6.alloc (.cells (Z5 Zg none 0) 47)):=zB _ _;have HT7:=zH (HT6.out.below bt);have N7:=zH (Z7 bt N6.out);generalize w6.alloc (.cells (Z5 Zg none 0) 47)=w7 at *;clear bt hget HT6 N6;obtain⟨k,hk,hk8⟩ : ∃k:Nat,x.n.house=(k:Int)/\k<=8:=⟨x.n.house.toNat,by have:=Yq XF.out;omega,by have:=Yq XF.out;omega⟩;have HK:=zH hk;have HK8:=zH hk8;have XP:=zH (show 1<=x.n.num from(Yq XF.out).2.2);have CB:Hid ((c (k:Int):Int)+1<=9223372036854775807):=zH (by
     have hl:=HT7.out.nms.free XP.out (Qk KB.out);have h1:=XO.out.num;rw[hk]at hl;unfold XU at h1;omega)
    have WR:Hid (IntKind.i64.wrap ((c (k:Int):Int)+1)=(c (k:Int):Int)+1):=zH (by have h9:=CB.out;rw[IntKind.wrap_i64];omega);clear hk hk8;go_upto_region 16 with fail;have hC0:Below w7.heap.size w7 w7.drew:=(Below.refl _ _).drew;have LN10:=zH (show ∀w0,Below w7.heap.size w7 w0->w0.heap[p10]? = some (.cells (Z5 x.n x.sa x.sc) 47)from fun w0 h=>Z7 h N7.out);have LC:=zH (show ∀w0,Below w7.heap.size w7 w0->w0.heap[pc]? = some (.cells (Z2l c) 107)from fun w0 h=>Z7 h HT7.out.cnt);try simp only[Act.put,lq3,lq4,lq5]
    refine zC (fun w':World=>Below w7.heap.size w7 w') hC0 ?_
    iterate 2 go_big_quiet_step (fail)
    refine zv p10 1 ?_;refine zQ (.int .i64 x.n.num) (fun w0 hC=>?_) ?_
    ·have c1:=Z6 (LN10.out w0 hC) 1 (.int .i64 x.n.num) rfl;clear hC;go_simp
    refine zv p10 0 ?_;refine zQ (.int .i64 (k:Int)) (fun w0 hC=>?_) ?_
    ·have c0:w0.cell? ⟨p10,0,none⟩=some (.int .i64 (k:Int)):=by rw[<-HK.out];exact Z6 (LN10.out w0 hC) 0 (.int .i64 x.n.house) rfl
     clear hC;go_simp
    refine zQ (.pointer (some ⟨pc,k,none⟩)) (fun w0 hC=>?_) ?_
    ·have c0:=Z6U (W:=w0) (p:=pc) (k:=k) (by have:=HK8.out;omega);clear hC;go_simp
    refine zQ (.int .i64 (c (k:Int):Int)) (fun w0 hC=>?_) ?_
    ·have c0:=Z6 (LC.out w0 hC) k (.int .i64 (c (k:Int):Int)) (Z8G c k HK8.out);clear hC;go_simp
    refine zQ (.int .i64 ((c (k:Int):Int)+1)) (fun w0 hC=>?_) ?_
    ·have c0:=WR.out;clear hC;go_simp
    refine zV (.bool (decide ((c (k:Int):Int)+1 < x.n.num))) ?_;refine zV (.bool (decide ((c (k:Int):Int)+1 < x.n.num))) ?_;go_big_quiet_step (fail);refine wpQuiet_nil ?_;intro w' hC;have H9:=zH (HT7.out.below hC);have N9:=zH (Z7 hC N7.out);clear hC LN10 LC HT7 N7;generalize w'=w9 at *;cases hgr:decide ((c (k:Int):Int)+1 < x.n.num)
    ·have LT:Hid (¬(c (k:Int):Int)+1 < x.n.num):=zH (of_decide_eq_false hgr);clear hgr;go_upto_region 11 with fail;refine zp N9.out fun hh=>?_;refine zW 0 rfl (.map (some km)) ?_;refine zT 1 rfl (.agg (Z5 x.n x.sa x.sc)) (zY p10 fun W h=>h) ?_;refine zT 3 rfl (.agg (Z5 x.n x.sa x.sc)) (zY p10 fun W h=>h) ?_;refine zR 2 rfl fun K hK=>?_;go_simp;go_at_call 58;refine(QR x.n x.sa x.sc _).mono ?_;rintro e v2 ⟨rfl,b2⟩;have bv:=((zd w9)).trans b2;have HV:=zH (H9.out.below bv);have NV:=zH (Z7 bv N9.out);clear b2 bv;dsimp only;refine zK hK NV.out fun hh=>?_;clear hK K;refine zR 4 rfl fun K hK=>?_;obtain⟨v3,hrun,hm3,ht3⟩:=Qy (t:=106) HV.out.map (by have h1:=HV.out.fl;have h2:=HLEN.out;unfold maxLen;omega) Tryz.underlying106 x.n.house x.n.num NOK.out x;have M3:=zH hm3;have NE1:Hid (pc≠km):=zH (fun e=>by
      obtain⟨es,cl,h9⟩:=HV.out.map.blk;rw[<-e,HV.out.cnt]at h9;cases h9)
     have N3:=zH (Zc ht3.grown NV.out (fun e=>absurd (Option.some.inj e) (by have:=KM10.out;omega)));have C3:=zH (Zc ht3.grown HV.out.cnt (fun e=>absurd (Option.some.inj e) NE1.out));have O3:=zH (HV.out.own.kept ht3.grown (.inr (by
      obtain⟨es,cl,h9⟩:=HV.out.map.blk;exact(Zq HV.out.own h9 (by intro cur;simp)).symm)))
     have B3:=zH (HV.out.bel.grown ht3.grown HV.out.bel.size (fun z hz=>by cases hz;exact HV.out.km_ge));clear hm3 ht3;unfold LN.val at hrun;go_simp;refine zK hK N3.out fun hh=>?_;clear hK K;refine zE ?_;clear hrun;have c0:v3.cell? ⟨p10,0,none⟩=some (.int .i64 (k:Int)):=by rw[<-HK.out];exact Z6 N3.out 0 (.int .i64 x.n.house) rfl
     have c1:=Z6U (W:=v3) (p:=pc) (k:=k) (by have:=HK8.out;omega);have c2:=Z6 C3.out k (.int .i64 (c (k:Int):Int)) (Z8G c k HK8.out);have c3:=Zp C3.out k;have c4:=WR.out;go_upto_region 13 with fail;have G4:=Zl v3 pc k (.int .i64 ((c (k:Int):Int)+1));have C4:=zH (ZK C3.out k (.int .i64 ((c (k:Int):Int)+1)));rw[ZbE c k HK8.out]at C4;have N4:=zH (Zc G4 N3.out (fun e=>absurd (Option.some.inj e) (by have:=KM10.out;omega)));have M4:=zH (M3.out.kept G4 (fun e=>absurd (Option.some.inj e).symm NE1.out));have O4:=zH (O3.out.kept G4 (.inr (Zq O3.out C3.out (by intro cur;simp)).symm));have B4:=zH (B3.out.grown G4 B3.out.size (fun z hz=>by cases hz;exact HV.out.pc_ge));clear c0 c1 c2 c3 c4 G4;generalize v3.setCell ⟨pc,k,none⟩ (.int .i64 ((c (k:Int):Int)+1))=v4 at *;have bn:Below v4.heap.size v4 (v4.alloc (.cells (Z5 x.n x.sa x.sc) 47)):=zB _ _;have O5:=zH (Zd O4.out bn);obtain⟨a',c',v9,hrun,ho9,hg9⟩:=JY (v4.alloc (.cells (Z5 x.n x.sa x.sc) 47)) w2.heap.size fa fr.length fc _ O5.out _ 1 1 _ (JO v4 x.n x.sa x.sc) (x.n.cells_one _ _) (by have h1:=HV.out.fl;have h2:=HLEN.out;omega) (Nat.le_trans B4.out.size bn.size);have M9:Yd LN.val v9 km (S.l.length+fr.length+1) (YZ GK (Zn x.n) x):=(M4.out.below bn).kept hg9 (by
      obtain⟨es,cl,h9⟩:=(M4.out.below bn).blk;exact(Zq O5.out h9 (by intro cur;simp)))
     have C9:v9.heap[pc]? = some (.cells (Z2l (QW c x.n.house)) 107):=by
      have h9:=Zc hg9 (Z7 bn C4.out) (Zq O5.out (Z7 bn C4.out) (by intro cur;simp));rwa [<-HK.out]at h9
     have B9:=(B4.out.trans (bn.mono B4.out.size)).grown hg9 (Nat.le_trans B4.out.size bn.size) (fun z hz=>(O5.out.lt z hz).1);have HN:=zH (HV.out.add HLX.out XM.out KB.out (by rw[HK.out];exact LT.out) XP.out (fun W' hb=>LOK2.out W' hb x XM.out) B9 M9 C9 ho9);clear bn ho9 hg9 M9 C9 B9 O5 M4 C4 O4 B4 HV NV M3 C3 O3 B3;have FLE:Hid ((fr ++ [x.n]).length=fr.length+1):=zH (by rw[List.length_append];rfl);have hk64:=HK64.out;go_wp2_with (first
      |(refine zL p10 N4.out ?_)
      |(refine Xv rfl _ rfl x.n x.sa x.sc rfl ?_)
      |(refine Ye rfl _ _ _ rfl _ _ _ rfl rfl hrun ?_)
      | fail)
     go_roundw
     case rel=>exact⟨q+1,YZ GK (Zn x.n) x,fr ++ [x.n],QW c x.n.house,a',c',ys ++ [x],by rw[FLE.out] <;> rfl,by go_num,by omega,HN⟩
     case measure=>simp[intOf];omega
    ·have HN:=zH (H9.out.skip HLX.out (.inr ⟨KB.out,by rw[HK.out];exact of_decide_eq_true hgr⟩));clear hgr H9;have hk64:=HK64.out;go_wp2;go_roundw
     case rel=>exact⟨q+1,GK,fr,c,fa,fc,ys,by go_num,by go_num,by omega,HN⟩
     case measure=>simp[intOf];omega
  ·have t0:decide ((q:Int) < (nn:Int))=false:=by simp;omega
   have HG:Hid (YI S.l [] S.c l=some (fr,c)):=zH (by
    rw[HS.out.go,List.drop_of_length_le (by rw[HLN.out];omega)];rfl)
   have HE:=zH (Z0b GOOD.out HG.out);have SQ:Hid (QO S.c fr /\ ∀y∈fr,y∈l):=zH (by
    obtain⟨t,h1,h2,h3⟩:=UE l [] S.c (by rw[List.append_nil];exact HI.out.nms) (fun n hn=>(Yq (FRM.out n hn)).2.2) HG.out;rw[List.nil_append]at h1;subst h1;exact⟨h2,h3⟩)
   have FL:Hid (S.l.length+fr.length<=400):=zH (by have:=HS.out.fl;have:=HLEN.out;omega);have YL:Hid (ys.length=fr.length):=zH (by rw[<-HS.out.eq,List.length_map]);have MP:=zH HS.out.map;have RY:=zH (Y3.of_own HS.out.own);have RG:=zH HS.out.own;have BW:=zH HS.out.bel;have YE:=zH HS.out.eq;have YM:=zH HS.out.mem;have PW:=zH (show wr.heap[pB]? = some (.cells #[.pointer (some ⟨p,0,none⟩)] 27)from Z7 HS.out.bel P2.out);have CA:Hid (∀W,Zb (Yw p mb G SF) wr W -> ∀y∈xs,y.ok W):=zH (fun W hS y hy=>Z8z (HR.out W ((Zb.of_below (B2.out.trans (HS.out.bel.mono B2.out.size))).trans hS)) hy);have H5:=zH (HH.out.below (B2.out.trans (HS.out.bel.mono B2.out.size)));have BT:=zH (B2.out.trans (HS.out.bel.mono B2.out.size));clear HS t0;go_upto_region 18 with fail;go_wp2_with (first
    |(at_len;refine Uh rfl _ 106 47 rfl Tryz.underlying106 km (S.l.length+fr.length) rfl MP.out ?_;intro kk hkk;have tkk:decide ((400:Int) < (kk:Int))=false:=(by have:=FL.out;simp;omega))
    | fail)
   clear tkk hkk;obtain⟨fn,hfn⟩:=zX (fr.length);rw[hfn.out]at RY RG YL FL ⊢;have F63:Hid ((fn:Int)<=9223372036854775807):=zH (by have:=FL.out;omega);generalize wr=V at *;go_loopw [83] (fun iv wr=>∃(j:Nat) (G':Nm->Option LN) (SF':Nat->Prop),iv = .int .i64 (j:Int)/\j<=fn/\Hid (Yp wr p mb sp G' SF' (S.adds (fr.take j))/\Zb (Yw p mb G SF) V wr /\ ∀k,Yw p mb G' SF' k->Yw p mb G SF k\/V.heap.size<=k)) (fun iv _=>fn - (intOf iv).toNat)
   case atStart=>exact⟨0,G,SF,rfl,Nat.zero_le _,zH ⟨H5.out,Zb.of_below (Below.refl _ _),fun k hk=>.inl hk⟩⟩
   case round=>
    obtain⟨j,G',SF',rfl,hj,HJ⟩:=hrel;by_cases hjn:j < fn
    ·have t0:decide ((j:Int) < (fn:Int))=true:=by simp;omega
     obtain⟨y,Hy⟩ : ∃y,ys[j]? = some y:=⟨_,List.getElem?_eq_getElem (by rw[YL.out];exact hjn)⟩;have FY:=zH (show fr[j]? = some y.n by rw[<-YE.out,List.getElem?_map,Hy];rfl);have YX:=zH (YM.out y (List.mem_of_getElem? Hy));have RJ:=zH (Y3.of_own (Ze RG.out HJ.out.2.1 (fun b hb hF=>absurd (HH.out.lt b hF) (by have h1:=(RG.out.lt b hb).1;have h2:=B2.out.size;omega))));obtain⟨b,off,rfl,hat⟩:=Z6K RJ.out (by omega);obtain⟨o,ho⟩:=zX (off+j * 19);have HY:=zH (hat j y Hy);rw[ho.out]at HY;have hix:=fun W=>Yk (W:=W) (c:=fc) (b:=b) Tryz.underlying24 J19 hjn ho.out;have HK64:Hid ((j:Int)+1<=9223372036854775807):=zH (by have:=F63.out;omega);have PJ:=zH ((HJ.out.2.1.block pB (Zi PW.out) (fun hF=>absurd (HH.out.lt pB hF) (by have:=hpB.out;omega))).trans PW.out);clear hat Hy;go_upto_region 23 with (first
      |(refine wpList_load_mid rfl 47 _ rfl b o rfl (y.n.cells y.sa y.sc) _ HY.out Tryz.underlying47 rfl (Ui y.n y.sa y.sc) ?_)
      |(refine zP wr wr.heap.size (Z5 y.n y.sa y.sc) ?_))
     clear t0 hix;have bt:Below wr.heap.size wr (wr.alloc (.cells (Z5 y.n y.sa y.sc) 47)):=zB _ _;have N14:=zH (Za wr (.cells (Z5 y.n y.sa y.sc) 47));have HT:=zH (HJ.out.1.below bt);have ST:=zH (HJ.out.2.1.trans (Zb.of_below bt));have FT:=zH HJ.out.2.2;have PT:=zH (Z7 bt PJ.out);obtain⟨p14,hp14⟩:=zX (wr.heap.size);rw[hp14.out]at N14;rw[hp14.out];generalize wr.alloc (.cells (Z5 y.n y.sa y.sc) 47)=wt at *;clear bt HJ PJ HY RJ;have cB:=Z6 PT.out 0 (.pointer (some ⟨p,0,none⟩)) rfl;go_wp2_with (first
      |(refine zL p14 N14.out ?_))
     clear cB;have FT2:=zH (show ∀k,Yw p mb G' SF' k->Yw p mb G SF k\/V.heap.size<=k from FT.out);have FSUB:Hid (∀x∈fr.take j,Zf S.f x=true/\x.Ok):=zH (fun x hx=>by have h1:=SQ.out.2 x (List.mem_of_mem_take hx);exact⟨FRM.out x h1,HOK.out x h1⟩);have HIJ:=zH (Z0j (fr.take j) S HI.out (Z0Z fr S.c j SQ.out.1) FSUB.out);have YF:=zH (show Zf (S.adds (fr.take j)).f y.n=true by rw[Z2q];exact FRM.out y.n (SQ.out.2 y.n (List.mem_of_getElem? FY.out)));have YO:=zH (HOK.out y.n (SQ.out.2 y.n (List.mem_of_getElem? FY.out)));refine(Z3Z p mb sp G' SF' (S.adds (fr.take j)) y.n y.sa y.sc wt HT.out HIJ.out (fun W hS=>CA.out W (Xg ST.out hS FT2.out) y YX.out) YF.out YO.out (Z6m fr S j y.n SQ.out.1 FY.out) (by rw[Z7l,List.length_take];have:=FL.out;omega)).mono ?_;rintro e w8 ⟨rfl,ta,tc,SF2,hh8,hs8,hf8⟩;have HN:=zH (show Yp w8 p mb sp (YZ G' (Zn y.n) ⟨y.n,ta,tc⟩) SF2 (S.adds (fr.take (j+1)))/\Zb (Yw p mb G SF) V w8 /\ ∀k,Yw p mb (YZ G' (Zn y.n) ⟨y.n,ta,tc⟩) SF2 k->Yw p mb G SF k\/V.heap.size<=k from⟨by rw[Qx FY.out,Za6];exact hh8,Xg ST.out hs8 FT2.out,fun k hk=>by
      rcases hf8 k hk with h1 | h1
      ·exact FT2.out k h1
      ·exact .inr (Nat.le_trans ST.out.size h1)⟩)
     clear hh8 hs8 hf8 HT ST FT FT2 PT N14;have hk64:=HK64.out;go_wp2;go_roundw
     case rel=>exact⟨j+1,YZ G' (Zn y.n) ⟨y.n,ta,tc⟩,SF2,by go_num,by omega,HN⟩
     case measure=>simp[intOf];omega
    ·have t0:decide ((j:Int) < (fn:Int))=false:=by simp;omega
     have HF:=zH (show Yp wr p mb sp G' SF' (S.adds fr)by have h1:=HJ.out.1;rwa [List.take_of_length_le (by have:=hfn.out;omega)]at h1);go_wp2_with fail;go_returns;exact⟨by rw[HE.out,hfn.out] <;> rfl,by rw[HE.out];exact⟨G',SF',HF.out,(Zb.of_below BT.out).trans HJ.out.2.1,fun k hk=>(HJ.out.2.2 k hk).imp id (fun h=>Nat.le_trans BT.out.size h)⟩⟩
end
def Z8q (lo hi:Nat)(W:World)(a:zA)(n c:Nat)(zs:List LN):Prop:=hi<=W.heap.size /\ ∀W2,Zb (fun k=>k < lo\/hi<=k) W W2->zu W2 a n c zs
theorem Z8q.rd {lo hi:Nat}{W:World}{a:zA}{n c:Nat}{zs:List LN}(h:Z8q lo hi W a n c zs):zu W a n c zs:=h.2 W (Zb.refl _ _)
theorem Z30 {W:World}{a:zA}{n c:Nat}{xs:List LN}(h:Y3 W 19 a n c (ZF xs))(hs : ∀x∈xs,x.ok W):zu W a n c xs:=by
 have hl:xs.length=n:=by have:=h.len;rw[Ua]at this;omega
 refine⟨hl,h.2.1,h.2.2.1,?_⟩;rcases h.2.2.2 with h0 | ⟨b,off,rfl,h4⟩
 ·exact .inl h0
 ·refine .inr ⟨b,off,rfl,fun i x hx=>?_⟩;have hi:=(List.getElem?_eq_some_iff.1 hx).1;obtain⟨b',off',e,hat⟩:=Z6K h (by omega);cases e;exact⟨hat i x hx,hs x (List.mem_of_getElem? hx)⟩
theorem VZ.kept {V W:World}{a:zA}{c n:Nat}{ys:List LN}(h:VZ V W a c n ys):Z8q V.heap.size W.heap.size W a n c ys:=
 ⟨Nat.le_refl _,fun W2 hs=>Z30 (Y3.of_own (Ze h.own hs (fun b hb hx=>by have:=h.own.lt b hb;omega)))
  (fun y hy=>Y3.of_own (Ze (h.str y hy) hs (fun b hb hx=>by have:=(h.str y hy).lt b hb;omega)))⟩
def SlB (w:World)(v:Value)(l:zU):Prop := ∃a c,v = .slice a l.length c/\w.ownsRow 0 5 1 (.slice a l.length c) l.length (l.map Zr)
structure Zea (w:World)(p:Nat)(G:Nat->Prop)(v0 v1 v2 v3:Value)(SD SP FD FP:zU):Prop where
 blk:w.heap[p]? = some (.cells #[v0,v1,v2,v3] 136)
 s0:SlB w v0 SD
 s1:SlB w v1 SP
 s2:SlB w v2 FD
 s3:SlB w v3 FP
 g : ∀k,G k↔(k=p\/v0.ownBlock=some k\/v1.ownBlock=some k\/v2.ownBlock=some k\/v3.ownBlock=some k)
def foot (p:Nat)(v0 v1 v2 v3:Value)(k:Nat):Prop:=k=p\/v0.ownBlock=some k\/v1.ownBlock=some k\/v2.ownBlock=some k\/v3.ownBlock=some k
section
variable {w:World}{p:Nat}{G:Nat->Prop}{v0 v1 v2 v3:Value}{SD SP FD FP:zU}(h:Zea w p G v0 v1 v2 v3 SD SP FD FP){v:Value}{l:zU}(hv:SlB w v l)
include h hv
end
section
variable {w:World}{p:Nat}{G:Nat->Prop}{v0 v1 v2 v3:Value}{SD SP FD FP:zU}(h:Zea w p G v0 v1 v2 v3 SD SP FD FP){u u':Value}{l l':zU}(hu:SlB w u l)(hu':SlB w u' l')
include h hu hu'
end
theorem Z8B: ∀(zs:List LN) (q:Nat),(ZF zs).take (q * 19)=ZF (zs.take q)
 | [],q=>by simp[ZF]
 | x :: zs,0=>by simp[ZF]
 | x :: zs,q+1=>by
  have h1:ZF (x :: zs)=x.n.cells x.sa x.sc ++ ZF zs:=by simp[ZF]
  have h2:ZF (x :: zs.take q)=x.n.cells x.sa x.sc ++ ZF (zs.take q):=by simp[ZF]
  have h3:(x.n.cells x.sa x.sc).length=19:=rfl
  rw[List.take_succ_cons,h1,h2,<-Z8B zs q,List.take_append,h3,show(q+1) * 19 - 19=q * 19 by omega,List.take_of_length_le (by rw[h3];omega)]
theorem Z8C: ∀(zs:List LN) (q:Nat),(ZF zs).drop (q * 19)=ZF (zs.drop q)
 | [],q=>by simp[ZF]
 | x :: zs,0=>by simp[ZF]
 | x :: zs,q+1=>by
  have h1:ZF (x :: zs)=x.n.cells x.sa x.sc ++ ZF zs:=by simp[ZF]
  have h3:(x.n.cells x.sa x.sc).length=19:=rfl
  rw[List.drop_succ_cons,h1,<-Z8C zs q,List.drop_append,h3,show(q+1) * 19 - 19=q * 19 by omega,List.drop_of_length_le (by rw[h3];omega),List.nil_append]
theorem Zck {w:World}{xa:zA}{n c:Nat}{zs:List LN}(hrd:Y3 w 19 xa n c (ZF zs))(L H:Nat)(lo hi:Option Value)
  (hl:(lo=none/\L=0) \/ ∃kd,lo=some (.int kd (L:Int))) (hh:(hi=none/\H=n) \/ ∃kd,hi=some (.int kd (H:Int))) (h1:L<=H) (h2:H<=n):
  ∃a',(∀W,(Instr.sliceAt 24 (.slice xa n c) lo hi none).run zq W = .ok (.slice a' (H - L) (c - L)) W)/\Y3 w 19 a' (H - L) (c - L) (ZF ((zs.drop L).take (H - L))):=by
 obtain⟨i,hi',_,hz1,_⟩:=info_parts Z3U;obtain⟨a',hs,hr⟩:=Y3.sliced hrd L H h1 h2;have hnc:=hrd.2.1;refine⟨a',fun W=>?_,by rw[Z8C,Z8B]at hr;exact hr⟩;rw[<-hs];have hel:zq.elem 24=47:=by simp[Program.elem,Tryz.underlying24]
 rw[run_sliceAt_slice (P:=zq) W 24 _ _ _ _ (by rw[hel];exact Tryz.underlying24),run_slice_any (P:=zq) W 24 xa n c (by rw[hel];exact Tryz.underlying24)];have hb:(Instr.sliceBounds true n c lo hi none).run zq W = .ok (L,H,c) W:=by
  rcases hl with ⟨rfl,rfl⟩ | ⟨kd,rfl⟩
  ·rcases hh with ⟨rfl,rfl⟩ | ⟨kd',rfl⟩
   ·simp[Instr.sliceBounds]
   ·simp[Instr.sliceBounds,run_sliceBound,Result.andThen,(by omega:H<=c)]
  ·rcases hh with ⟨rfl,rfl⟩ | ⟨kd',rfl⟩
   ·simp[Instr.sliceBounds,run_sliceBound,Result.andThen,h1]
   ·simp[Instr.sliceBounds,run_sliceBound,Result.andThen,(by omega:H<=c),h1]
 rw[hb,hel];simp[Result.andThen,sizeOf,typeInfo,hi',hz1]
def Xe (l:List (zU)):zU:=(l.map ZC).flatten
def Jk (l:List (zU)):zU:=(l.map ZO).flatten
theorem JB (x:zU)(l:List (zU)):Xe (x :: l)=ZC x ++ Xe l:=by simp[Xe]
theorem Vx (x:zU)(l:List (zU)):Jk (x :: l)=ZO x ++ Jk l:=by simp[Jk]
theorem QU (l m:List (zU)):Xe (l ++ m)=Xe l ++ Xe m:=by simp[Xe]
theorem Uf (l m:List (zU)):Jk (l ++ m)=Jk l ++ Jk m:=by simp[Jk]
theorem Z7f (l:List (zU)):(Jk l).length=4 * l.length:=by
 induction l with
 | nil=>rfl
 | cons x l ih=>rw[Vx,List.length_append,ih,YQ,List.length_cons];omega
theorem Zcr (n:Nat)(hn:n < 65536)(S:zU):Qr (two n ++ S) 0=n:=by
 simp only[Qr,two,List.cons_append,List.nil_append,List.getElem?_cons_zero,List.getElem?_cons_succ,Option.getD_some,UInt8.toNat_ofNat',Nat.zero_add];omega
theorem Z0D (x S:zU)(hx:x.length < 65536):Qr (ZC x ++ S) 0=x.length:=by
 rw[ZC,List.append_assoc];exact Zcr _ hx _
theorem Z4f (x S:zU):((ZC x ++ S).drop 2).take x.length=x:=by
 rw[ZC,List.append_assoc,show(two x.length ++ (x ++ S)).drop 2=x ++ S from rfl,List.take_left'];rfl
theorem Z52 (x S F:zU)(hx:x.length<=8192):Zx (ZC x ++ S) (ZO x ++ F)=x :: Zx S F:=by
 have e1:=Z0D x S (by omega);have e2:=Z4f x S;rw[UX (by rw[List.length_append,YU];omega) (by rw[List.length_append,YQ];omega) (by rw[e1];exact hx) (by rw[e1,List.length_append,YU];omega) (by
  rw[e1,e2,List.take_left' (YQ x)]),e1,e2]
 rw[show x.length+2=(ZC x).length from(YU x).symm,List.drop_left,show 4=(ZO x).length from rfl,List.drop_left]
theorem Z3Q (l:List (zU))(hl : ∀x∈l,x.length<=8192)(S F:zU):Zx (Xe l ++ S) (Jk l ++ F)=l ++ Zx S F:=by
 induction l with
 | nil=>rfl
 | cons x l ih=>
  rw[JB,Vx,List.append_assoc,List.append_assoc,Z52 x _ _ (hl x (List.mem_cons_self ..)),ih (fun y hy=>hl y (List.mem_cons_of_mem _ hy))];rfl
theorem Z9z (F:zU):Zx [] F=[]:=QB (by simp)
theorem Z4N (A B:zU)(n:Nat)(h:A.length<=n):(A ++ B).take n=A ++ B.take (n - A.length):=by rw[List.take_append,List.take_of_length_le h]
theorem Z6R: ∀(l:List (zU)) (_ : ∀x∈l,x.length<=8192) (a b:Nat),∃k,k<=l.length/\Zx ((Xe l).take a) ((Jk l).take b)=l.take k
 | [],_,a,b=>⟨0,Nat.le_refl _,by simp[Xe,Z9z]⟩
 | x :: l,hl,a,b=>by
  have hx:=hl x (List.mem_cons_self ..)
  by_cases h:x.length+2<=a/\4<=b
  ·obtain⟨k,hk,e⟩:=Z6R l (fun y hy=>hl y (List.mem_cons_of_mem _ hy)) (a - (x.length+2)) (b - 4)
   refine⟨k+1,by simp;omega,?_⟩
   rw[JB,Vx,Z4N _ _ _ (by rw[YU];omega),Z4N _ _ _ (by rw[YQ];omega),YU,YQ,Z52 x _ _ hx,e]
   rfl
  ·refine⟨0,Nat.zero_le _,?_⟩
   apply QB
   rintro⟨h1,h2,h3,h4,h5⟩
   rw[List.length_take]at h1 h2 h4
   have ha:2<=a:=by omega
   have hb:4<=b:=by omega
   have e1:Qr ((Xe (x :: l)).take a) 0=x.length:=by
    rw[<-Z0D x (Xe l) (by omega),<-JB];simp only[Qr,List.getElem?_take];rw[if_pos (by omega),if_pos (by omega)]
   rw[e1]at h4;omega
/-! One inverted bit. -/
theorem Z41 (v:UInt8)(b:Nat)(hb:b < 8):(v ^^^ UInt8.ofNat (2 ^ b)).toNat=v.toNat+2 ^ b\/(v ^^^ UInt8.ofNat (2 ^ b)).toNat+2 ^ b=v.toNat:=by
 have h : ∀v:Fin 256,∀b:Fin 8,v.val ^^^ 2 ^ b.val=v.val+2 ^ b.val\/(v.val ^^^ 2 ^ b.val)+2 ^ b.val=v.val:=by decide+kernel
 have h1:=h ⟨v.toNat,v.toNat_lt⟩ ⟨b,hb⟩;have h2:2 ^ b < 256:=by
  have:2 ^ b<=2 ^ 7:=Nat.pow_le_pow_right (by omega) (by omega);omega
 rw[UInt8.toNat_xor,UInt8.toNat_ofNat',Nat.mod_eq_of_lt h2];exact h1
theorem Z3e (b:Nat)(hb:b < 8):1<=2 ^ b/\2 ^ b<=128:=by
 constructor
 ·exact Nat.one_le_two_pow
 ·have:2 ^ b<=2 ^ 7:=Nat.pow_le_pow_right (by omega) (by omega);omega
theorem Vw (l:zU)(i b j:Nat):(ZP l i b)[j]?.getD 0=if i=j/\i < l.length then (l[i]?.getD 0) ^^^ UInt8.ofNat (2 ^ b)else l[j]?.getD 0:=by
 unfold ZP;rw[List.getElem?_set];by_cases h:i=j
 ·subst h;by_cases h2:i < l.length
  ·simp[h2]
  ·simp[h2]
 ·simp[h]
theorem Z0e (l m:zU)(i b:Nat)(h:i < l.length):ZP (l ++ m) i b=ZP l i b ++ m:=by
 unfold ZP;rw[List.getElem?_append_left h,List.set_append_left _ _ h]
theorem Qn (l m:zU)(i b:Nat)(h:l.length<=i):ZP (l ++ m) i b=l ++ ZP m (i - l.length) b:=by
 unfold ZP;rw[List.getElem?_append_right h,List.set_append_right _ _ h]
theorem Z4a (x y:zU)(j:Nat)(h : ∀k,k < j->x[k]?.getD 0=y[k]?.getD 0): ∀k,k<=j->Qv x k=Qv y k
 | 0,_=>rfl
 | k+1,hk=>by simp only[Qv];rw[Z4a x y j h k (by omega),h k (by omega)]
theorem Z4b (x:zU)(j b:Nat)(hj:j < x.length): ∀m,(Qv (ZP x j b) (j+1+m) - Qv x (j+1+m) - ((j:Int)+1) * ((((x[j]?.getD 0) ^^^ UInt8.ofNat (2 ^ b)).toNat:Int) - ((x[j]?.getD 0).toNat:Int))) % 65521=0
 | 0=>by
  have e:=Z4a (ZP x j b) x j (fun k hk=>by rw[Vw,if_neg (by omega)]) j (Nat.le_refl _)
  have h1:=Vw x j b j
  rw[if_pos ⟨rfl,hj⟩]at h1
  simp only[Qv]
  rw[e,h1,Int.mul_sub]
  omega
 | m+1=>by
  have ih:=Z4b x j b hj m
  have h1:=Vw x j b (j+1+m)
  rw[if_neg (by omega)]at h1
  rw[show j+1+(m+1)=(j+1+m)+1 by omega]
  simp only[Qv]
  rw[h1]
  generalize Qv (ZP x j b) (j+1+m)=A at *
  generalize Qv x (j+1+m)=B at *
  generalize (((j+1+m:Nat):Int)+1) * ((x[j+1+m]?.getD 0).toNat:Int)=C at *
  generalize ((j:Int)+1) * ((((x[j]?.getD 0) ^^^ UInt8.ofNat (2 ^ b)).toNat:Int) - ((x[j]?.getD 0).toNat:Int))=D at *
  omega
theorem Zbi {x y:zU}(hx:x.length < 65536)(hy:y.length < 65536)(h:ZO x=ZO y):x.length=y.length/\chk x=chk y:=by
 have h1:=(Z1w (fo:=ZO x) (by rw[YQ];omega) hx).1 rfl;have h2:=(Z1w (fo:=ZO x) (by rw[YQ];omega) hy).1 (by rw[<-h];rfl);omega
section
variable {w w':World}{p:Nat}{i0 i1 i2 i3 i4 i5:Value}{G:Nat->Prop}{v0 v1 v2 v3:Value}{SD SP FD FP:zU}
end
section
variable {w w':World}{p:Nat}{F:Nat->Prop}{sa:zA}{sc:Nat}{zs:List LN}{aa:zA}{ac:Nat}{cs:List Value}{G:Nat->Prop}{v0 v1 v2 v3:Value}{S:Zj}
end
theorem Z7D (w:World)(base:Nat)(sa:zA)(sn sc:Nat)(xs:List Value)(hown:w.ownsRow base 47 19 (.slice sa sn sc) sn xs)(xa:zA)(m xc:Nat)(ys:List Value)(hrd:Y3 w 19 xa m xc ys)(h1 : ∀u∈ys,u.oneCell'=true)
  (hbytes:(sn+m) * 168<=140737488355328) (hbase:base<=w.heap.size):
  ∃a' c' w',(Builtin.append_ #[24,24] 24 #[.slice sa sn sc,.slice xa m xc]).run zq w = .ok (.slice a' (sn+m) c') w'/\w'.ownsRow base 47 19 (.slice a' (sn+m) c') (sn+m) (xs ++ ys)/\w.grownBy w' (Value.ownBlock (.slice sa sn sc))/\(a'=sa\/a'=some ⟨w.heap.size,0,none⟩):=by
 obtain⟨i,hi,hz0,hz1,hz2⟩:=info_parts Z3U;obtain⟨a',c',w',hr,h2,h3⟩:=Yc w base 24 24 47 i _ 19 168 Tryz.underlying24 hi hz0 hz1 hz2 rfl (by decide) sa sn sc xs hown xa m xc ys hrd h1 (by unfold maxLen;omega) hbytes hbase;have hloc:=Jp (P:=zq) w base 24 24 47 i _ 19 168 Tryz.underlying24 hi hz0 hz1 hz2 sa sn sc _ hown xa m xc _ hrd h1 (by unfold maxLen;omega) hbytes _ _ hr;refine⟨a',c',w',hr,h2,h3,?_⟩;rcases hloc with ⟨n',c'',h⟩ | ⟨n',c'',h⟩
 ·simp only[Value.slice.injEq]at h;exact .inl h.1
 ·simp only[Value.slice.injEq]at h;exact .inr h.1
theorem Z3o (xs:List LN): ∀r∈xs.map VH,r.length=19:=by
 intro r hr;obtain⟨x,_,rfl⟩:=List.mem_map.1 hr;exact Z2c x
theorem ZaE (xs:List LN): ∀r∈xs.map VH,∀v∈r,v.oneCell'=true:=by
 intro r hr;obtain⟨x,_,rfl⟩:=List.mem_map.1 hr;exact x.n.cells_one _ _
theorem Vi.of_own {w:World}{base g n c:Nat}{xs:List LN}(h:w.ownsRow base 47 19 (.slice (some ⟨g,0,none⟩) n c) n (ZF xs))(hn:xs.length=n): ∃sz,Vi w g 47 19 sz (xs.map VH):=by
 have hrd:=Y3.of_own h;rcases h.2 with ⟨h2,_⟩ | ⟨g',cap,cur,hv,_,hg,hnc,hcm,hs,ht⟩
 ·cases h2
 ·simp only[Value.slice.injEq,Option.some.injEq,Addr.mk.injEq]at hv;obtain⟨⟨rfl,_,_⟩,_,rfl⟩:=hv;refine⟨cur.size,⟨cur,hg,rfl⟩,by rw[List.length_map,hn,hs];exact Nat.mul_le_mul_right _ hnc,fun i r hi j v hj=>?_,Z3o xs,ZaE xs⟩;have h1:(ZF xs)[i * 19+j]? = some v:=(z7 19 _ (Z3o xs) i r hi j (by rw[<-Z3o xs r (List.mem_of_getElem? hi)];exact(List.getElem?_eq_some_iff.1 hj).1)).trans hj;rw[<-ht,List.getElem?_take]at h1;split at h1
  ·rw[Array.getElem?_toList]at h1;simp[World.cell?,hg,h1]
  ·cases h1
theorem Z9W (w:World)(ty:TypeId)(g o m c:Nat)(hm:0 < m)(ht:w.there g o (m * 19)):
  (Builtin.clear_ #[24] ty #[.slice (some ⟨g,o,none⟩) m c]).run zq w = .ok (.tuple #[]) (w.setCells g o (Builtin.zeroCells (Z5 Zg none 0) m).toList):=by
 have hsz:(Builtin.zeroCells (Z5 Zg none 0) m).toList.length=m * 19:=by
  unfold Builtin.zeroCells;rw[Z11];simp
 have h1 : ∀v∈(Builtin.zeroCells (Z5 Zg none 0) m).toList,v.oneCell'=true:=by
  intro v hv;unfold Builtin.zeroCells at hv;rw[Z11]at hv;simp only[Array.toList_map,List.mem_map]at hv;obtain⟨i,_,rfl⟩:=hv;have hi:i % 19 < (Z5 Zg none 0).size:=by rw[Z11];omega
  rw[getElem!_pos (Z5 Zg none 0) (i % 19) hi];exact(Array.all_eq_true_iff_forall_mem.1 (Zm Zg none 0)) _ (Array.getElem_mem hi)
 generalize hz:Z5 Zg none 0=z at *;have hst:=run_storeCells_cells (P:=zq) g o (Builtin.zeroCells z m).toList 0 w (fun j hj=>(ht j (by omega)).1) (fun j hj=>(ht j (by omega)).2) h1;simp only[Nat.add_zero]at hst;obtain⟨k,rfl⟩ : ∃k,m=k+1:=⟨m - 1,by omega⟩;have hzn : ∀W,(zeroValue 47).run zq W = .ok (.agg z) W:=fun W=>by rw[<-hz];exact Xh W
 simp[Builtin.clear_,run_underlying Tryz.underlying24,hzn,Value.cells,hst]
theorem zy {P:Program}{ops:Array Oper}{rest:List Oper}{op:Oper}{a:Act}{w w':World}{Q:Exit->Act->World->Prop}(hgd:op.guard=none)(s:Operand)(t:TypeId)(ho:op.op = .call { callee := .builtin .clear,args := #[s],argTypes := #[t] })(v1 v:Value)
  (hs:a.eval s=v1) (hr:(Builtin.clear_ #[t] op.type #[v1]).run P w = .ok v w') (h:wpList P ops Q rest (a.put op.dst v) w'):wpList P ops Q (op :: rest) a w:=by
 refine wpList_plain hgd fun K hK=>?_;unfold Oper.wp;simp[execOp,ho,resolve,invoke,builtin,hs,hr,Result.andThen];exact hK _ _ h
structure Z1I (xs R:List LN)(q:LN->Bool)(i j:Nat):Prop where
 len:R.length=xs.length
 kept:R.take i=(xs.take j).filter q
 todo:R.drop j=xs.drop j
 lt:i < j
 le:j<=xs.length
theorem Z1I.get {xs R:List LN}{q:LN->Bool}{i j k:Nat}(h:Z1I xs R q i j)(hk:j<=k):R[k]? = xs[k]? := by
 have h1:=congrArg (fun l=>l[k - j]?) h.todo;simp only[List.getElem?_drop]at h1;rwa [show j+(k - j)=k by omega]at h1
theorem Z78 {A:Type}{l m:List A}{j:Nat}(h : ∀k,j<=k->l[k]? = m[k]?):l.drop j=m.drop j:=by
 apply List.ext_getElem?;intro i;rw[List.getElem?_drop,List.getElem?_drop];exact h _ (Nat.le_add_right _ _)
theorem Z1I.keep {xs R:List LN}{q:LN->Bool}{i j:Nat}(h:Z1I xs R q i j){x:LN}(hx:xs[j]? = some x)(hq:q x=true):Z1I xs (R.set i x) q (i+1) (j+1):=by
 have hj:=(List.getElem?_eq_some_iff.1 hx).1;have hi:i < R.length:=by rw[h.len];have:=h.lt;omega
 refine⟨by rw[List.length_set];exact h.len,?_,Z78 fun k hk=>?_,Nat.succ_lt_succ h.lt,hj⟩
 ·rw[Qx (xs:=R.set i x) (by rw[List.getElem?_set_self hi]),Qx hx,List.filter_append,<-h.kept];congr 1
  ·exact List.take_set_of_le (Nat.le_refl _)
  ·simp[hq]
 ·rw[List.getElem?_set_ne (by have:=h.lt;omega)];exact h.get (by omega)
theorem Z1I.skip {xs R:List LN}{q:LN->Bool}{i j:Nat}(h:Z1I xs R q i j){x:LN}(hx:xs[j]? = some x)(hq:q x=false):Z1I xs R q i (j+1):=by
 have hj:=(List.getElem?_eq_some_iff.1 hx).1;refine⟨h.len,?_,Z78 fun k hk=>h.get (by omega),by have:=h.lt;omega,hj⟩;rw[Qx hx,List.filter_append,<-h.kept];simp[hq]
theorem Z1I.start {xs:List LN}{p:LN->Bool}{i:Nat}(h:xs.findIdx? p=some i):Z1I xs xs (fun x=>!p x) i (i+1):=by
 obtain⟨h1,h2,h3⟩:=List.findIdx?_eq_some_iff_getElem.1 h;have hx:xs[i]? = some xs[i]:=List.getElem?_eq_getElem h1;refine⟨rfl,?_,rfl,Nat.lt_succ_self i,h1⟩;rw[Qx hx,List.filter_append,List.filter_eq_self.2 (fun x hx=>?_)]
 ·simp[h2]
 ·obtain⟨j,hj,rfl⟩:=List.mem_take_iff_getElem.1 hx;have:=h3 j (by omega);simpa using this
theorem Z1I.done {xs R:List LN}{q:LN->Bool}{i:Nat}(h:Z1I xs R q i xs.length):R.take i=xs.filter q/\(xs.filter q).length=i:=by
 have h1:=h.kept;rw[List.take_length]at h1;refine⟨h1,?_⟩;rw[<-h1,List.length_take,h.len];have:=h.lt;omega
theorem ZaV {xs:List LN}{p:LN->Bool}(h:xs.findIdx? p=none):xs.filter (fun x=>!p x)=xs:=by
 rw[List.findIdx?_eq_none_iff]at h;exact List.filter_eq_self.2 fun x hx=>by simp[h x hx]
theorem Zau {w w':World}{B g:Nat}{x:LN}{cur:ZW}(h:w.ownsRow B 3 1 (.slice x.sa x.n.strokes.length x.sc) x.n.strokes.length (x.n.strokes.map Yh))(hg:w.heap[g]? = some (.cells cur 47))(hs:Zb (fun k=>k=g) w w'):
  w'.ownsRow B 3 1 (.slice x.sa x.n.strokes.length x.sc) x.n.strokes.length (x.n.strokes.map Yh):=
 Ze h hs fun b hb e=>Zq h hg (by intro cur;simp) (by rw[hb,show b=g from e])
theorem Zbs (xs:List LN)(pred:LN->Bool)(fn:Nat)(cv:Value)(hfn : ∀(args:ZW) (w:World),(callFunc fn args).run zq w = .ok (.enter fn args) w)
  (a:zA) (n c:Nat) (V w:World) (hm:VZ V w a c n xs)
  (hp : ∀e∈xs,∀W,Zb (fun k=>Value.ownBlock (.slice a n c)=some k) w W->Calls zq fn #[.agg (Z5 e.n e.sa e.sc),cv] W fun r W'=>r = .returned (.bool (pred e))/\Below W.heap.size W W'):
  Calls zq 67 #[.slice a n c,.func (.func fn) #[] #[cv]] w fun e w'=>(∃a' i c',e = .returned (.slice a' i c')/\Z8q V.heap.size w'.heap.size w' a' i c' (xs.filter (fun x=>!pred x))/\i<=n)/\Below V.heap.size w w':=by
 have I43:=zH zI;have I19:(zq.info? 47).map (·.size)=some 19:=by kernel_rfl
 have RL:zu w a n c xs:=Z30 (Y3.of_own hm.own) (fun y hy=>Y3.of_own (hm.str y hy));have IX:=zH (Z3V xs pred fn cv hfn a n c w RL (fun e he W hb=>hp e he W (Zb.of_below hb)));have HM:=zH hm;have HR:=zH RL;have HPD:=zH hp;have HN:=zH hm.len;have hn63:n<=9223372036854775807:=by have h1:=RL.2.1;have h2:=RL.2.2.1;unfold maxLen at h2;omega
 have H63:=zH hn63;clear hm hp RL hn63;go_enter Tryz.func67,Tryz.ntmps67;go_wp2_with fail;refine IX.out.mono ?_;rintro e w1 ⟨rfl,b1⟩;have B1:=zH b1;clear b1;cases hix:xs.findIdx? pred with
 | none=>
  have hv:Z3W xs pred = -1:=by simp[Z3W,hix]
  have RF:=zH (show Z8q V.heap.size w1.heap.size w1 a n c (xs.filter (fun x=>!pred x))by rw[ZaV hix];exact(HM.out.below B1.out).kept);rw[hv];clear hv hix;go_wp2;go_ret;exact⟨⟨a,n,c,rfl,RF.out,Nat.le_refl _⟩,B1.out.mono HM.out.bel.size⟩
 | some i0=>
  have hv:Z3W xs pred=(i0:Int):=by simp[Z3W,hix]
  have D0:=zH (Z1I.start hix);rw[hv];clear hv hix;obtain⟨g,rfl,LG⟩ : ∃g,a=some ⟨g,0,none⟩/\Hid (V.heap.size<=g):=by
   rcases HM.out.own.2 with ⟨h2,h3⟩ | ⟨g,cap,cur,hv,hg,_⟩
   ·have h4:=D0.out.le;rw[HN.out,h3]at h4;omega
   ·cases hv;exact⟨g,rfl,zH hg⟩
  obtain⟨sz,SR⟩:=Vi.of_own HM.out.own HN.out;have SR1:=zH (SR.below B1.out);have SM1:Hid (Zb (fun k=>k=g) w w1):=zH (Zb.of_below B1.out);have HPE:=zH (show ∀e∈xs,∀W,Zb (fun k=>k=g) w W->Calls zq fn #[.agg (Z5 e.n e.sa e.sc),cv] W fun r W'=>r = .returned (.bool (pred e))/\Below W.heap.size W W' from fun e he W hs=>HPD.out e he W (hs.weaken fun k hk=>by rw[show k=g from hk];rfl));have XU:Hid ((i0:Int)+1<=9223372036854775807):=zH (by have h1:=D0.out.le;have h2:=HN.out;have h3:=H63.out;omega);clear SR;have q1:((i0:Int) == -1)=false:=by rw[beq_eq_false_iff_ne];omega
  go_upto_region 4 with fail;clear q1;have hk64:=XU.out;go_wp2_with fail;clear hk64;go_loopw [5,6] (fun iv jv wr=>∃(i j:Nat) (R:List LN),iv = .int .i64 (i:Int)/\jv = .int .i64 (j:Int)/\j<=n/\Hid (Z1I xs R (fun x=>!pred x) i j)/\Hid (Vi wr g 47 19 sz (R.map VH))/\Hid (Zb (fun k=>k=g) w wr)) (fun _ jv _=>n - (intOf jv).toNat)
  case atStart=>exact⟨i0,i0+1,xs,rfl,by go_num,by have:=D0.out.le;have:=HN.out;omega,D0,SR1,SM1⟩
  case round=>
   obtain⟨i,j,R,rfl,rfl,hj,DS,SR,SM⟩:=hrel;by_cases hlt:j < n
   ·have t0:decide ((j:Int) < (n:Int))=true:=by simp;omega
    obtain⟨x,Hx⟩ : ∃x,xs[j]? = some x:=⟨_,List.getElem?_eq_getElem (by rw[HN.out];exact hlt)⟩;have HX:=zH Hx;have hrx:(R.map VH)[j]? = some (VH x):=by rw[List.getElem?_map,DS.out.get (Nat.le_refl _),Hx];rfl
    have HRX:=zH (SR.out.rng j _ hrx);obtain⟨o,ho⟩:=zX (0+j * 19);have ho2:j * 19=o:=by have:=ho.out;omega
    rw[ho2]at HRX;have hi:=fun W=>Yk (W:=W) (c:=c) (b:=g) Tryz.underlying24 I19 hlt ho.out;clear Hx hrx ho2;go_upto_region 8 with (first
     |(refine wpList_load_mid rfl 47 _ rfl g o rfl (x.n.cells x.sa x.sc) _ HRX.out Tryz.underlying47 rfl (by exact I19) ?_)
     |(refine zP wr wr.heap.size (Z5 x.n x.sa x.sc) ?_))
    clear t0 hi HRX;have bt:Below wr.heap.size wr (wr.alloc (.cells (Z5 x.n x.sa x.sc) 47)):=zB _ _;have P7:=zH (Za wr (.cells (Z5 x.n x.sa x.sc) 47));have SR2:=zH (SR.out.below bt);have SM2:Hid (Zb (fun k=>k=g) w _):=zH (SM.out.trans (Zb.of_below bt));have LG2:Hid (g < wr.heap.size):=zH (by obtain⟨cur,h1,_⟩:=SR.out.blk;exact Zi h1);obtain⟨p7,hp7⟩:=zX (wr.heap.size);rw[hp7.out]at P7 LG2 ⊢;generalize wr.alloc (.cells (Z5 x.n x.sa x.sc) 47)=wt at *;clear bt SR SM;go_wp2_with (refine zL p7 P7.out ?_);refine(HPE.out x (List.mem_of_getElem? HX.out) _ SM2.out).mono ?_;rintro e w3 ⟨rfl,b3⟩;have SR3:=zH (SR2.out.below b3);have SM3:Hid (Zb (fun k=>k=g) w w3):=zH (SM2.out.trans (Zb.of_below b3));have P73:=zH (Z7 b3 P7.out);have HJ64:Hid ((j:Int)+1<=9223372036854775807):=zH (by have h3:=H63.out;omega);clear b3 SR2 SM2 P7;cases hpx:pred x with
    | true=>
     have DS2:=zH (DS.out.skip HX.out (show(!pred x)=false by rw[hpx];rfl));clear hpx;go_upto_region 6 with fail;have hj64:=HJ64.out;go_wp2;go_roundw
     case rel=>exact⟨i,j+1,R,rfl,by go_num,by omega,DS2,SR3,SM3⟩
     case measure=>simp[intOf];omega
    | false=>
     have DS2:=zH (DS.out.keep HX.out (show(!pred x)=true by rw[hpx];rfl));clear hpx;have hin:i < n:=by have:=DS.out.lt;omega
     have hiR:i < (R.map VH).length:=by rw[List.length_map,DS.out.len,HN.out];exact hin
     have TH:=zH (SR3.out.there hiR);have ST:=zH (SR3.out.set hiR (r:=VH x) rfl (Z50 x));obtain⟨u,hu⟩:=zX (0+i * 19);have hu2:i * 19=u:=by have:=hu.out;omega
     rw[hu2]at TH ST;have hiu:=fun W=>Yk (W:=W) (c:=c) (b:=g) Tryz.underlying24 I19 hin hu.out;have HI64:Hid ((i:Int)+1<=9223372036854775807):=zH (by have h3:=H63.out;omega);have ST2:=ST;rw[<-List.map_set]at ST2;clear hiR hu2 ST;go_upto_region 10 with (first
      |(refine zL p7 P73.out ?_)
      |(refine wpList_store_mid rfl 47 _ _ rfl g u (Z5 x.n x.sa x.sc) rfl rfl TH.out (I43.out _ _ _) (Zm x.n x.sa x.sc) ?_))
     have SM4:=zH (SM3.out.trans (QG g u (Z5 x.n x.sa x.sc).toList w3));generalize hw4:w3.setCells g u (Z5 x.n x.sa x.sc).toList=w4 at *;have ST4:Hid (Vi w4 g 47 19 sz ((R.set i x).map VH)):=zH (by rw[<-hw4];exact ST2.out);clear hw4 ST2 hiu TH SR3;have hi64:=HI64.out;go_upto_region 6 with fail;clear hi64;have hj64:=HJ64.out;go_wp2;go_roundw
     case rel=>exact⟨i+1,j+1,R.set i x,by go_num,by go_num,by omega,DS2,ST4,SM4⟩
     case measure=>simp[intOf];omega
   ·have t0:decide ((j:Int) < (n:Int))=false:=by simp;omega
    go_upto_region 11 with fail;clear t0;have hjn:j=xs.length:=by have:=HN.out;omega
    have DN:=zH (show R.take i=xs.filter (fun x=>!pred x)/\(xs.filter (fun x=>!pred x)).length=i from by have h:=DS.out;rw[hjn]at h;exact h.done);have hin:i < n:=by have:=DS.out.lt;omega
    have HIN:=zH hin;have hcn:=HR.out.2.1;have hcM:=HR.out.2.2.1;have RC:Hid (i<=n/\n<=c/\c<=maxLen):=zH ⟨by omega,hcn,hcM⟩;clear hcn hcM;obtain⟨inf,hi1,hi2⟩ : ∃t,zq.info? 47=some t/\t.size=19:=by
     cases hq:zq.info? 47 with
     | none=>simp[hq]at I19
     | some t=>exact⟨t,rfl,by simpa [hq] using I19⟩
    have hel:zq.elem 24=47:=by simp[Program.elem,Tryz.underlying24]
    have hcut1 : ∀W,(Instr.sliceAt 24 (.slice (some ⟨g,0,none⟩) n c) (some (.int .i64 (i:Int))) none none).run zq W = .ok (.slice (some ⟨g,i * 19,none⟩) (n - i) (c - i)) W:=fun W=>by
     have h1:=RC.out;rw[run_sliceAt_slice (P:=zq) W _ _ _ _ _ (by rw[hel];exact Tryz.underlying24),run_slice_any (P:=zq) W _ _ n c (by rw[hel];exact Tryz.underlying24)];simp[Instr.sliceBounds,run_sliceBound,Result.andThen,sizeOf,typeInfo,hel,hi1,hi2,sliced,h1.1,show ¬c=i by omega,Addr.add];omega
    have hcut2 : ∀W,(Instr.sliceAt 24 (.slice (some ⟨g,0,none⟩) n c) none (some (.int .i64 (i:Int))) none).run zq W = .ok (.slice (some ⟨g,0,none⟩) i c) W:=fun W=>by
     have h1:=RC.out;rw[run_sliceAt_slice (P:=zq) W _ _ _ _ _ (by rw[hel];exact Tryz.underlying24),run_slice_any (P:=zq) W _ _ n c (by rw[hel];exact Tryz.underlying24)];simp[Instr.sliceBounds,run_sliceBound,Result.andThen,sizeOf,typeInfo,hel,hi1,hi2,sliced,show i<=c by omega,Addr.add]
    have hthere:wr.there g (i * 19) ((n - i) * 19):=by
     intro k hk;obtain⟨cur,h1,h2⟩:=SR.out.blk;have h3:=SR.out.le;rw[List.length_map,DS.out.len,HN.out]at h3;have h4:(n - i) * 19+i * 19=n * 19:=by rw[<-Nat.add_mul];congr 1;omega
     have h5:i * 19+k < cur.size:=by omega
     exact⟨by simp[World.cell?,h1,h5],by simp[World.frozen?,h1]⟩
    have hclr:=fun ty=>Z9W wr ty g (i * 19) (n - i) (c - i) (by omega) hthere;have SMc:=zH (SM.out.trans (QG g (i * 19) (Builtin.zeroCells (Z5 Zg none 0) (n - i)).toList wr));have RNG:=zH (show ∀q x,(xs.filter (fun x=>!pred x))[q]? = some x->(wr.setCells g (i * 19) (Builtin.zeroCells (Z5 Zg none 0) (n - i)).toList).rangeAt g (0+q * 19) (x.n.cells x.sa x.sc)from fun q x hx=>by
     have hq:=(List.getElem?_eq_some_iff.1 hx).1;rw[DN.out.2]at hq;rw[<-DN.out.1,List.getElem?_take,if_pos hq]at hx;have h1:=SR.out.rng q (VH x) (by rw[List.getElem?_map,hx];rfl);rw[Nat.zero_add];refine World.rangeAt_setCells_apart h1 _ _ _ (.inr (.inl ?_));have h2:(q+1) * 19<=i * 19:=Nat.mul_le_mul_right _ hq;rw[Nat.add_mul]at h2;rw[Z2c];omega)
    clear hthere hi1 hi2 hel;generalize wr.setCells g (i * 19) (Builtin.zeroCells (Z5 Zg none 0) (n - i)).toList=wc at *;go_wp2_with (refine zy rfl _ _ rfl _ _ rfl (hclr _) ?_);go_ret;refine⟨⟨some ⟨g,0,none⟩,i,c,rfl,⟨Nat.le_refl _,fun W2 hs2=>⟨DN.out.2,by have h1:=RC.out;omega,RC.out.2.2,.inr ⟨g,0,rfl,fun q x hx=>⟨?_,?_⟩⟩⟩⟩,Nat.le_of_lt HIN.out⟩,?_⟩
    ·have hgl:g < wc.heap.size:=by
      have h1:=RNG.out q x hx 0 _ rfl;exact World.block_lt_of_cell? wc _ h1
     have hb:=hs2.block g hgl (fun h=>by have:=LG.out;omega);intro j v hj;have h1:=RNG.out q x hx j v hj;rw[<-h1];exact World.cell?_of_block hb
    ·obtain⟨cur,h1⟩ : ∃cur,w.heap[g]? = some (.cells cur 47):=by
      rcases HM.out.own.2 with ⟨h2,h3⟩ | ⟨g',cap,cur,hv,_,hg,_⟩
      ·cases h2
      ·cases hv;exact⟨cur,hg⟩
     have h3:=Zau (HM.out.str x (List.mem_filter.1 (List.mem_of_getElem? hx)).1) h1 SMc.out;exact Y3.of_own (Ze h3 hs2 (fun b hb hx=>by have:=h3.lt b hb;omega))
    ·exact SMc.out.below (Below.refl _ _) HM.out.bel.size (fun k hk=>by rw[show k=g from hk];exact LG.out)
theorem QZ (r s d:Int)(w:World):Calls zq 52 #[.agg #[.int .i64 r,.int .i64 s,.int .i64 d]] w fun e w'=>e = .returned (.bool (Yg.valid ⟨r,s,d⟩))/\Below w.heap.size w w':=by
 have hb:=zB w (.cells #[.int .i64 r,.int .i64 s,.int .i64 d] 23);have hv:Yg.valid ⟨r,s,d⟩=(decide (1<=r) && (decide (r<=24) && (decide (2<=s) && (decide (s<=96) && (decide (1<=d) && decide (d<=s)))))):=by
  simp only[Yg.valid,Ji];grind
 rw[hv];clear hv;cases h0:decide (1<=r)
 ·go_enter Tryz.func52,Tryz.ntmps52;go_wp2;go_ret;exact⟨rfl,hb⟩
 ·cases h1:decide (r<=24)
  ·go_enter Tryz.func52,Tryz.ntmps52;go_wp2;go_ret;exact⟨rfl,hb⟩
  ·cases h2:decide (2<=s)
   ·go_enter Tryz.func52,Tryz.ntmps52;go_wp2;go_ret;exact⟨rfl,hb⟩
   ·cases h3:decide (s<=96)
    ·go_enter Tryz.func52,Tryz.ntmps52;go_wp2;go_ret;exact⟨rfl,hb⟩
    ·cases h4:decide (1<=d)
     ·go_enter Tryz.func52,Tryz.ntmps52;go_wp2;go_ret;exact⟨rfl,hb⟩
     ·cases h5:decide (d<=s)
      ·go_enter Tryz.func52,Tryz.ntmps52;go_wp2;go_ret;exact⟨rfl,hb⟩
      ·go_enter Tryz.func52,Tryz.ntmps52;go_wp2;go_ret;exact⟨rfl,hb⟩
theorem Zen {P T:Nat->Nat->Nat->World->Prop}{G:Prop}(h1:(∀a b c W,P a b c W->T a b c W)->G)(h2 : ∀a b c W,P a b c W->T a b c W):G:=h1 h2
theorem Z6W (p mb sp:Nat)(G:Nm->Option LN)(SF:Nat->Prop)(S:Zj)(w:World)(hh:Yp w p mb sp G SF S)(hi:Xt S)(hlen:S.l.length<=400):
  Calls zq 14 #[.pointer (some ⟨p,0,none⟩)] w fun e w'=>(∃a un c zs,e = .returned (.slice a un c)/\VZ w w' a c un zs/\zs.map LN.n=S.l)/\Below w.heap.size w w':=by
 have LI:=zH (Z1r mb S.l.length G w hh.map (by omega) (hh.gok hi));have HH:=zH hh;have HI:=zH hi;have c4:=Z6 hh.blk 4 (.map (some mb)) rfl;have MD:=zH (VG w p mb sp S.f S.id S.c hh.blk);clear hh hi hlen;go_enter Tryz.func14,Tryz.ntmps14;go_wp2_with fail;refine MD.out.mono ?_;rintro e w1 ⟨rfl,rfl⟩;go_wp2_with fail;refine LI.out.mono ?_;rintro e w2 ⟨⟨a,un,c,zs,ks,rfl,h1,h2,h3,h4,h5,h6⟩,b2⟩;have M:=zH h1;have E:Hid (zs.map LN.n=S.l):=zH (h2.trans (HH.out.list HI.out h3 h4 h5));have B:=zH b2;clear h1 h2 h3 h4 h5 h6 b2 c4;go_wp2;go_ret;exact⟨⟨a,un,c,zs,rfl,M.out,E.out⟩,B.out⟩
def QV (c:Int->Nat):List Int:=[(c 1:Int),(c 2:Int),(c 3:Int),(c 4:Int),(c 5:Int),(c 6:Int),(c 7:Int),(c 8:Int)]
theorem Z6Y (p mb sp:Nat)(G:Nm->Option LN)(SF:Nat->Prop)(S:Zj)(w:World)(hh:Yp w p mb sp G SF S):
  Calls zq 17 #[.pointer (some ⟨p,0,none⟩)] w fun e w'=>(∃a c,e = .returned (.slice a 8 c)/\Xi w' a 8 c (QV S.c))/\Below w.heap.size w w':=by
 have RC:Xi w (some ⟨p,6,none⟩) 8 8 (QV S.c):=⟨rfl,Nat.le_refl _,by unfold maxLen;omega,.inr ⟨p,6,rfl,fun j v hv=>by
  have hj:j < 8:=(List.getElem?_eq_some_iff.1 hv).1;refine Z6 hh.blk (6+j) v ?_;have:j=0\/j=1\/j=2\/j=3\/j=4\/j=5\/j=6\/j=7:=by omega
  rcases this with rfl | rfl | rfl | rfl | rfl | rfl | rfl | rfl <;> simpa [Xy,QV,Yh] using hv⟩⟩
 have CL:=zH (Z19 (some ⟨p,6,none⟩) 8 8 (QV S.c) w (by decide) RC);have MD:=zH (VG w p mb sp S.f S.id S.c hh.blk);have hsl:(Instr.sliceAt 107 (.pointer (some ⟨p,5,none⟩)) (some (.int .i64 1)) none none).run zq w = .ok (.slice (some ⟨p,6,none⟩) 8 8) w:=by
  have hsz:(zq.info? 3).map (·.size)=some 1:=by kernel_rfl
  cases hq:zq.info? 3 with
  | none=>simp[hq]at hsz
  | some i=>
   simp only[hq,Option.map_some,Option.some.injEq]at hsz;simp[Instr.sliceAt,run_underlying Tryz.underlying107,Instr.sureAddr,sizeOf,typeInfo,hq,hsz,Addr.add,Instr.sliceBounds,Instr.sliceBound,asIntOf,Result.andThen]
 clear hh RC;go_enter Tryz.func17,Tryz.ntmps17;go_wp2_with fail;refine MD.out.mono ?_;rintro e w1 ⟨rfl,rfl⟩;go_wp2_with fail;refine CL.out.mono ?_;rintro e w2 ⟨a,c,rfl,h1,b2⟩;have R:=zH (show Xi w2 a 8 c (QV S.c)from Y3.of_own h1);have B:=zH b2;clear h1 b2 hsl;go_wp2;go_ret;exact⟨⟨a,c,rfl,R.out⟩,B.out⟩
def Z0P (cs:List Int)(n:Z8):Bool:=match cs[(n.house - 1).toNat]? with | some v=>decide (n.house<=(cs.length:Int)) && decide (n.num<=v) | none=>false
theorem Z9n {cs:List Int}{n:Z8}(_h1:1<=n.house)(h:decide (n.house<=(cs.length:Int))=false):Z0P cs n=false:=by
 unfold Z0P;split
 ·rw[h];rfl
 ·rfl
theorem ZaQ {cs:List Int}{n:Z8}{k:Nat}{v:Int}(hk:n.house=(k:Int)+1)(h:decide (n.house<=(cs.length:Int))=true)(hv:cs[k]? = some v):Z0P cs n=decide (n.num<=v):=by
 unfold Z0P;rw[show(n.house - 1).toNat=k by omega,hv];simp only[h,Bool.true_and]
theorem Z6I (args:ZW)(w:World):(callFunc 68 args).run zq w = .ok (.enter 68 args) w:=by kernel_rfl
theorem Z5H (cs:List Int)(ca:zA)(cn cc:Nat)(pB:Nat)(n:Z8)(sa:zA)(sc:Nat)(w:World)(hb:w.heap[pB]? = some (.cells #[.slice ca cn cc] 37))
  (hc:Xi w ca cn cc cs) (hn:1<=n.house/\n.house<=1000):
  Calls zq 68 #[.agg (Z5 n sa sc),.pointer (some ⟨pB,0,none⟩)] w fun e w'=>e = .returned (.bool (Z0P cs n))/\Below w.heap.size w w':=by
 have I1:(zq.info? 3).map (·.size)=some 1:=by kernel_rfl
 have HL:Hid (cs.length=cn):=zH (by have:=hc.len;simpa using this);obtain⟨k,hk⟩ : ∃k:Nat,n.house=(k:Int)+1:=⟨(n.house - 1).toNat,by omega⟩;have HK:=zH hk;have HB:=zH hn;have B0:=zH (zB w (.cells (Z5 n sa sc) 47));have N0:=zH (Za w (.cells (Z5 n sa sc) 47));have PB0:=zH (Z7 B0.out hb);have RC0:=zH (hc.below B0.out);clear hb hc hn hk;go_enter Tryz.func68,Tryz.ntmps68;go_upto_region 1 with fail;obtain⟨p2,hp2⟩:=zX (w.heap.size);rw[hp2.out]at N0;rw[hp2.out];generalize w.alloc (.cells (Z5 n sa sc) 47)=wr at *;have hC0:Below wr.heap.size wr wr.drew:=(Below.refl _ _).drew;have LB:=zH (show ∀w0,Below wr.heap.size wr w0->w0.heap[pB]? = some (.cells #[.slice ca cn cc] 37)from fun w0 h=>Z7 h PB0.out);have LN2:=zH (show ∀w0,Below wr.heap.size wr w0->w0.heap[p2]? = some (.cells (Z5 n sa sc) 47)from fun w0 h=>Z7 h N0.out);have BW:=zH (show ∀w0,Below wr.heap.size wr w0->Below w.heap.size w w0 from fun w0 h=>B0.out.trans (h.mono B0.out.size));have RW:=zH (show ∀w0,Below wr.heap.size wr w0->Xi w0 ca cn cc cs from fun w0 h=>RC0.out.below h);try simp only[Act.put,lq3,lq4,lq5]
 cases hq:decide (n.house<=(cn:Int))
 ·have MF:Hid (Z0P cs n=false):=zH (Z9n (by have:=HB.out;omega) (by rw[HL.out];exact hq));refine zC (fun w':World=>Below wr.heap.size wr w') hC0 ?_;refine zv p2 0 ?_;refine zQ (.int .i64 n.house) (fun w0 hC=>?_) ?_
  ·have c0:=Z6 (LN2.out w0 hC) 0 (.int .i64 n.house) rfl;clear hC;go_simp
  refine zQ (.slice ca cn cc) (fun w0 hC=>?_) ?_
  ·have c0:=Z6 (LB.out w0 hC) 0 (.slice ca cn cc) rfl;clear hC;go_simp
  refine zV (.int .i64 (cn:Int)) ?_;refine zV (.bool false) ?_;go_big_quiet_step (fail)
  iterate 9 go_big_quiet_skip
  refine zV (.bool false) ?_;go_big_quiet_step (fail);refine wpQuiet_nil ?_;intro w' hC;have B9:=zH (BW.out w' hC);clear hC;go_wp2;go_ret;exact⟨by rw[MF.out] <;> rfl,B9.out⟩
 ·have MT:Hid (∀v,cs[k]? = some v->Z0P cs n=decide (n.num<=v)):=zH (fun v hv=>ZaQ HK.out (by rw[HL.out];exact hq) hv);have hkc:k < cn:=by have h1:=HK.out;have h2:=of_decide_eq_true hq;omega
  obtain⟨v,hv⟩ : ∃v,cs[k]? = some v:=⟨_,List.getElem?_eq_getElem (by rw[HL.out];exact hkc)⟩;have MV:=zH (MT.out v hv);obtain⟨cb,coff,rfl,hat⟩:=RC0.out.at (show 0 < cn by omega);obtain⟨o,ho⟩:=zX (coff+k * 1);have hix:=zH (fun W=>Yk (W:=W) (c:=cc) (b:=cb) Tryz.underlying37 I1 hkc ho.out);have VC:=zH (show ∀w0,Below wr.heap.size wr w0->w0.cell? ⟨cb,o,none⟩=some (.int .i64 v)from fun w0 h=>by
   obtain⟨cb',coff',e,hat'⟩:=(RW.out w0 h).at (show 0 < cn by omega);cases e;have h3:=hat' k hkc;rw[hv]at h3;rw[<-ho.out,Nat.mul_one];exact h3)
  clear hat hkc hv MT;refine zC (fun w':World=>Below wr.heap.size wr w') hC0 ?_;refine zv p2 0 ?_;refine zQ (.int .i64 n.house) (fun w0 hC=>?_) ?_
  ·have c0:=Z6 (LN2.out w0 hC) 0 (.int .i64 n.house) rfl;clear hC;go_simp
  refine zQ (.slice (some ⟨cb,coff,none⟩) cn cc) (fun w0 hC=>?_) ?_
  ·have c0:=Z6 (LB.out w0 hC) 0 (.slice (some ⟨cb,coff,none⟩) cn cc) rfl;clear hC;go_simp
  refine zV (.int .i64 (cn:Int)) ?_;refine zV (.bool true) ?_;go_big_quiet_step (fail);refine zv p2 1 ?_;refine zQ (.int .i64 n.num) (fun w0 hC=>?_) ?_
  ·have c1:=Z6 (LN2.out w0 hC) 1 (.int .i64 n.num) rfl;clear hC;go_simp
  refine zQ (.slice (some ⟨cb,coff,none⟩) cn cc) (fun w0 hC=>?_) ?_
  ·have c0:=Z6 (LB.out w0 hC) 0 (.slice (some ⟨cb,coff,none⟩) cn cc) rfl;clear hC;go_simp
  refine zv p2 0 ?_;refine zQ (.int .i64 n.house) (fun w0 hC=>?_) ?_
  ·have c0:=Z6 (LN2.out w0 hC) 0 (.int .i64 n.house) rfl;clear hC;go_simp
  refine zQ (.int .i64 (k:Int)) (fun w0 hC=>?_) ?_
  ·have hk:=HK.out;have hb:=HB.out;clear hC;rw[hk];go_simp;rw[IntKind.wrap_i64];omega
  refine zQ (.pointer (some ⟨cb,o,none⟩)) (fun w0 hC=>?_) ?_
  ·have hi:=hix.out;clear hC;go_simp
  refine zQ (.int .i64 v) (fun w0 hC=>?_) ?_
  ·have hv:=VC.out w0 hC;clear hC;go_simp
  refine zV (.bool (decide (n.num<=v))) ?_;refine zV (.bool (decide (n.num<=v))) ?_;go_big_quiet_step (fail);refine wpQuiet_nil ?_;intro w' hC;have B9:=zH (BW.out w' hC);clear hC;go_wp2;go_ret;exact⟨by rw[MV.out] <;> rfl,B9.out⟩
def Zdm (l:List Z8)(w:World)(e:Ending)(W:World):Prop := ∃a i c zs,e = .returned (.slice a i c)/\Z8q w.heap.size W.heap.size W a i c zs/\zs.map LN.n=l
theorem Z1s (p mb sp:Nat)(G:Nm->Option LN)(SF:Nat->Prop)(S:Zj)(cs:List Int)(ca:zA)(cn cc:Nat)(w:World)(hh:Yp w p mb sp G SF S)(hi:Xt S)(hlen:S.l.length<=400)(hc:Xi w ca cn cc cs):
  Calls zq 16 #[.pointer (some ⟨p,0,none⟩),.slice ca cn cc] w fun e w'=>Zdm (S.l.filter (fun n=>!Z0P cs n)) w e w'/\Below w.heap.size w w':=by
 have B0:=zH (zB w (.cells #[.slice ca cn cc] 37));have P0:=zH (Za w (.cells #[.slice ca cn cc] 37));have HH:=zH (hh.below B0.out);have HI:=zH hi;have HC:=zH (hc.below B0.out);have HL:=zH hlen;clear hh hi hc hlen;go_enter Tryz.func16,Tryz.ntmps16;go_upto_region 1 with fail;obtain⟨pB,hpB⟩:=zX (w.heap.size);rw[hpB.out]at P0;rw[hpB.out];generalize w.alloc (.cells #[.slice ca cn cc] 37)=w1 at *;have c4:=Z6 HH.out.blk 4 (.map (some mb)) rfl;go_wp2_with fail;refine(VG w1 p mb sp S.f S.id S.c HH.out.blk).mono ?_;rintro e w2 ⟨rfl,hw2⟩;rw[hw2];clear hw2 w2;go_upto_region 3 with fail;go_wp2_with fail;refine(Z1r mb S.l.length G w1 HH.out.map (by have:=HL.out;omega) (HH.out.gok HI.out)).mono ?_;rintro e w2 ⟨⟨a,un,c,zs,ks,rfl,h1,h2,h3,h4,h5,h6⟩,b2⟩;have M:=zH h1;have E:Hid (zs.map LN.n=S.l):=zH (h2.trans (HH.out.list HI.out h3 h4 h5));have B2:=zH (B0.out.trans (b2.mono B0.out.size));have P2:=zH (Z7 b2 P0.out);have C2:=zH (HC.out.below b2);have PL:=zH (Zi P0.out);have CK:Hid (∀W,Zb (fun k=>Value.ownBlock (.slice a un c)=some k) w2 W->Xi W ca cn cc cs/\W.heap[pB]? = some (.cells #[.slice ca cn cc] 37)):=zH (fun W hs=>by
  have hlt : ∀k,Value.ownBlock (.slice a un c)=some k->w1.heap.size<=k:=fun k hk=>(M.out.own.lt k hk).1;have hb:Below w1.heap.size w1 W:=hs.below b2 M.out.bel.size hlt;exact⟨HC.out.below hb,Z7 hb P0.out⟩)
 clear h1 h2 h3 h4 h5 h6 b2 c4;go_wp2_with fail;refine(Zbs zs (fun x=>Z0P cs x.n) 68 (.pointer (some ⟨pB,0,none⟩)) Z6I a un c w1 w2 M.out (fun e he W hs=>Z5H cs ca cn cc pB e.n e.sa e.sc W (CK.out W hs).2 (CK.out W hs).1 (by
  have hm:e.n∈S.l:=by rw[<-E.out];exact List.mem_map_of_mem he
  have h1:=Yq (HI.out.frm _ hm);omega))).mono ?_
 rintro e w3 ⟨⟨a',i,c',rfl,hr,hin⟩,b3⟩;have R3:Hid (Z8q w.heap.size w3.heap.size w3 a' i c' _):=zH ⟨hr.1,fun W2 hs2=>hr.2 W2 (hs2.weaken (fun k hk=>hk.imp (fun h=>Nat.lt_of_lt_of_le h B0.out.size) id))⟩;have B3:=zH (B0.out.trans ((M.out.bel.trans b3).mono B0.out.size));clear hr hin b3;go_wp2;go_ret;exact⟨⟨a',i,c',_,rfl,R3.out,by rw[<-E.out,List.filter_map];rfl⟩,B3.out⟩
theorem ZaO (m:Int)(h:m * 2 % 65521=0):m % 65521=0:=by
 obtain⟨q,hq⟩:=Int.dvd_of_emod_eq_zero h;have h1:q=2 * (m - 32760 * q):=by
  have e:2 * (m - 32760 * q)=m * 2 - 65520 * q:=by rw[Int.mul_sub,<-Int.mul_assoc,Int.mul_comm 2 m];rfl
  rw[e,hq,<-Int.sub_mul];exact(Int.one_mul q).symm
 have h2:m=65521 * (m - 32760 * q):=by
  refine Int.eq_of_mul_eq_mul_right (a:=2) (by decide) ?_;rw[hq,Int.mul_assoc,Int.mul_comm _ 2,<-h1]
 rw[h2];exact Int.mul_emod_right _ _
theorem Zc2 (b:Nat): ∀(m:Int),(m * ((2 ^ b:Nat):Int)) % 65521=0->m % 65521=0:=by
 induction b with
 | zero=>intro m h;simpa using h
 | succ b ih=>
  intro m h;have h2:=ih (m * 2) (by rw[Int.mul_assoc];rw[Nat.pow_succ]at h;push_cast at h ⊢;rwa [Int.mul_comm 2 _]);exact ZaO m h2
theorem Z9X (x:zU)(j b:Nat)(hj:j < x.length)(hb:b < 8)(hx:x.length<=8192):chk (ZP x j b)≠chk x:=by
 intro h;have h1:=Z4b x j b hj (x.length - (j+1));rw[show j+1+(x.length - (j+1))=x.length by omega]at h1;have h2:=Z8l (ZP x j b);have h3:=Z8l x;rw[z6,h,h3]at h2;rw[<-h2,Int.sub_self,Int.zero_sub]at h1;have h4:=Z41 (x[j]?.getD 0) b hb;have h5 : ¬(((j+1:Nat):Int) * ((2 ^ b:Nat):Int)) % 65521=0:=fun h5=>by have:=Zc2 b _ h5;omega
 generalize ((x[j]?.getD 0) ^^^ UInt8.ofNat (2 ^ b)).toNat=P at *;generalize (x[j]?.getD 0).toNat=Q at *;generalize 2 ^ b=T at *;rcases h4 with h4 | h4
 ·have e:((j:Int)+1) * ((P:Int) - (Q:Int))=((j+1:Nat):Int) * (T:Int):=by
   rw[show(P:Int) - (Q:Int)=(T:Int)by omega];push_cast;rfl
  rw[e]at h1;omega
 ·have e:((j:Int)+1) * ((P:Int) - (Q:Int)) = -(((j+1:Nat):Int) * (T:Int)):=by
   rw[show(P:Int) - (Q:Int) = -(T:Int)by omega,Int.mul_neg];push_cast;rfl
  rw[e]at h1;omega
theorem Z6P (x S F:zU)(i b:Nat)(hi:i < x.length+2)(hb:b < 8)(hx:x.length<=8192):Zx (ZP (ZC x) i b ++ S) (ZO x ++ F)=[]:=by
 apply QB;rintro⟨h1,h2,h3,h4,h5⟩;rw[List.take_left' (YQ x)]at h5;have hlen:(((ZP (ZC x) i b ++ S).drop 2).take (Qr (ZP (ZC x) i b ++ S) 0)).length=Qr (ZP (ZC x) i b ++ S) 0:=by
  rw[List.length_take,List.length_drop];omega
 obtain⟨h6,h7⟩:=Zbi (by omega) (by rw[hlen];omega) h5;rw[hlen]at h6;by_cases h:i < 2
 ·have h0:=Z0D x S (by omega);rw[<-Z0e _ _ _ _ (by rw[YU];exact hi)]at h6;have e0:=Vw (ZC x ++ S) i b 0;have e1:=Vw (ZC x ++ S) i b 1;have hl:i < (ZC x ++ S).length:=by rw[List.length_append,YU];omega
  obtain⟨b1,b2⟩:=Z3e b hb;have h8:=Z41 ((ZC x ++ S)[i]?.getD 0) b hb;simp only[Qr,Nat.zero_add]at h0 h6;have hc:i=0\/i=1:=by omega
  rcases hc with rfl | rfl
  ·rw[if_pos ⟨rfl,hl⟩]at e0;rw[if_neg (by omega)]at e1;rw[e0,e1]at h6;omega
  ·rw[if_pos ⟨rfl,hl⟩]at e1;rw[if_neg (by omega)]at e0;rw[e0,e1]at h6;omega
 ·have e:ZP (ZC x) i b=two x.length ++ ZP x (i - 2) b:=by
   rw[ZC,Qn _ _ _ _ (by rw[Z8s];omega),Z8s]
  have e2:((ZP (ZC x) i b ++ S).drop 2).take (Qr (ZP (ZC x) i b ++ S) 0)=ZP x (i - 2) b:=by
   rw[<-h6,e,List.append_assoc,show(two x.length ++ (ZP x (i - 2) b ++ S)).drop 2=ZP x (i - 2) b ++ S from rfl,List.take_left' (z6 ..)]
  rw[e2]at h7;exact Z9X x (i - 2) b (by omega) hb hx h7.symm
theorem Z6Q (x S F:zU)(i b:Nat)(hi:i < 4)(hb:b < 8)(hx:x.length<=8192):Zx (ZC x ++ S) (ZP (ZO x) i b ++ F)=[]:=by
 apply QB;rintro⟨h1,h2,h3,h4,h5⟩;rw[Z0D x S (by omega),Z4f,List.take_left' (by rw[z6,YQ])]at h5;have e:=Vw (ZO x) i b i;rw[if_pos ⟨rfl,by rw[YQ];exact hi⟩,h5]at e;have h8:=Z41 ((ZO x)[i]?.getD 0) b hb;rw[<-e]at h8;obtain⟨b1,b2⟩:=Z3e b hb;omega
theorem Z2d (l:List (zU))(hl : ∀x∈l,x.length<=8192)(k i b:Nat)(hb:b < 8)(hk:k < l.length)(h1:(Xe (l.take k)).length<=i)(h2:i < (Xe (l.take (k+1))).length):
  Zx (ZP (Xe l) i b) (Jk l)=l.take k:=by
 have e:l=l.take k ++ (l[k] :: l.drop (k+1)):=by rw[List.getElem_cons_drop,List.take_append_drop]
 have hx:l[k].length<=8192:=hl _ (List.getElem_mem hk);rw[List.take_add_one,List.getElem?_eq_getElem hk,QU,List.length_append,show Xe (some l[k]).toList=ZC l[k]from by simp[Xe],YU]at h2;have e1:ZP (Xe l) i b=Xe (l.take k) ++ (ZP (ZC l[k]) (i - (Xe (l.take k)).length) b ++ Xe (l.drop (k+1))):=by
  conv=>lhs;rw[e]
  rw[QU,Qn _ _ _ _ h1,JB,Z0e _ _ _ _ (by rw[YU];omega)]
 have e2:Jk l=Jk (l.take k) ++ (ZO l[k] ++ Jk (l.drop (k+1))):=by
  conv=>lhs;rw[e]
  rw[Uf,Vx]
 rw[e1,e2,Z3Q _ (fun x hx=>by have:=hl x (List.mem_of_mem_take hx);omega),Z6P _ _ _ _ _ (by omega) hb hx,List.append_nil]
theorem Z2X (l:List (zU))(hl : ∀x∈l,x.length<=8192)(i b:Nat)(hb:b < 8)(hi:i < 4 * l.length):
  Zx (Xe l) (ZP (Jk l) i b)=l.take (i / 4):=by
 have hk:i / 4 < l.length:=by omega
 generalize hK:i / 4=k at *;have e:l=l.take k ++ (l[k] :: l.drop (k+1)):=by rw[List.getElem_cons_drop,List.take_append_drop]
 have hx:l[k].length<=8192:=hl _ (List.getElem_mem hk);have hlen:(Jk (l.take k)).length=4 * k:=by rw[Z7f,List.length_take];omega
 have e1:Xe l=Xe (l.take k) ++ (ZC l[k] ++ Xe (l.drop (k+1))):=by
  conv=>lhs;rw[e]
  rw[QU,JB]
 have e2:ZP (Jk l) i b=Jk (l.take k) ++ (ZP (ZO l[k]) (i - 4 * k) b ++ Jk (l.drop (k+1))):=by
  conv=>lhs;rw[e]
  rw[Uf,Qn _ _ _ _ (by omega),hlen,Vx,Z0e _ _ _ _ (by rw[YQ];omega)]
 rw[e1,e2,Z3Q _ (fun x hx=>by have:=hl x (List.mem_of_mem_take hx);omega),Z6Q _ _ _ _ _ (by omega) hb hx,List.append_nil]
theorem Z16: ∀(r:Nat) (X Y:zU) (a b:Nat),Y.length<=r -> ∃k,Zx (X.take a) (Y.take b)=(Zx X Y).take k
 | 0,X,Y,a,b,hr=>⟨0,by rw[List.take_zero];exact QB (fun h=>by have:=h.2.1;rw[List.length_take]at this;omega)⟩
 | r+1,X,Y,a,b,hr=>by
  by_cases h:2<=(X.take a).length/\4<=(Y.take b).length/\Qr (X.take a) 0<=8192/\Qr (X.take a) 0+2<=(X.take a).length/\(Y.take b).take 4=ZO (((X.take a).drop 2).take (Qr (X.take a) 0))
  ·have e:=UX h.1 h.2.1 h.2.2.1 h.2.2.2.1 h.2.2.2.2
   obtain⟨h1,h2,h3,h4,h5⟩:=h
   rw[List.length_take]at h1 h2 h4
   have ea:Qr (X.take a) 0=Qr X 0:=by
    simp only[Qr,List.getElem?_take];rw[if_pos (by omega),if_pos (by omega)]
   rw[ea]at e h3 h4 h5;generalize hn:Qr X 0=n at *;have eb:((X.take a).drop 2).take n=(X.drop 2).take n:=by
    rw[List.drop_take,List.take_take,Nat.min_eq_left (by omega)]
   have ey:(Y.take b).take 4=Y.take 4:=by rw[List.take_take,Nat.min_eq_left (by omega)]
   rw[eb]at e h5;rw[ey]at h5;have e2:=UX (st:=X) (fo:=Y) (by omega) (by omega) (by rw[hn];exact h3) (by rw[hn];omega) (by rw[hn];exact h5);rw[hn]at e2;obtain⟨k,hk⟩:=Z16 r (X.drop (n+2)) (Y.drop 4) (a - (n+2)) (b - 4) (by rw[List.length_drop];omega);refine⟨k+1,?_⟩;rw[e,e2,List.take_succ_cons,List.drop_take,List.drop_take,hk]
  ·exact⟨0,by rw[List.take_zero];exact QB h⟩
theorem Z6d: ∀(l:List (zU)) (i:Nat),i < (Xe l).length -> ∃k,k < l.length/\(Xe (l.take k)).length<=i/\i < (Xe (l.take (k+1))).length
 | [],i,h=>by simp[Xe]at h
 | x :: l,i,h=>by
  by_cases hx:i < (ZC x).length
  ·exact⟨0,by simp,by simp[Xe],by simpa [Xe] using hx⟩
  ·rw[JB,List.length_append]at h
   obtain⟨k,h1,h2,h3⟩:=Z6d l (i - (ZC x).length) (by omega)
   refine⟨k+1,by simpa using h1,?_,?_⟩
   ·rw[List.take_succ_cons,JB,List.length_append];omega
   ·rw[List.take_succ_cons,JB,List.length_append];omega
theorem Z5a (l:zU)(i b m:Nat)(h:i < m):ZP (l.take m) i b=(ZP l i b).take m:=by
 unfold ZP;rw[List.getElem?_take,if_pos h,List.take_set]
theorem Z8h (l:List (zU))(hl : ∀x∈l,x.length<=8192)(stock foil:Nat)(flip:Int)(h1:stock<=(Xe l).length)(h2:foil<=(Jk l).length)(h3:flip < 8 * ((stock:Int)+foil)):
  ∃k,k<=l.length/\Zx (Jj (Xe l) 0 stock flip) (J7 (Jk l) 0 stock foil flip)=l.take k:=by
 have hfix : ∀k,∃j,j<=l.length/\l.take k=l.take j:=fun k=>by
  by_cases h:k<=l.length
  ·exact⟨k,h,rfl⟩
  ·exact⟨l.length,Nat.le_refl _,by rw[List.take_length,List.take_of_length_le (by omega)]⟩
 unfold Jj J7;simp only[Nat.zero_add];by_cases hf:0<=flip
 ·obtain⟨z,rfl⟩:=Int.eq_ofNat_of_zero_le hf;simp only[Int.toNat_natCast];have hb:z % 8 < 8:=Nat.mod_lt _ (by decide);by_cases hs:z / 8 < stock
  ·rw[if_pos ⟨hf,hs⟩,if_neg (fun h=>h.2 hs),Z5a _ _ _ _ hs];obtain⟨k,hk⟩:=Z16 _ (ZP (Xe l) (z / 8) (z % 8)) (Jk l) stock foil (Nat.le_refl _);obtain⟨q,q1,q2,q3⟩:=Z6d l (z / 8) (by omega);rw[Z2d l hl q _ _ hb q1 q2 q3,List.take_take]at hk;obtain⟨j,hj,e⟩:=hfix (min k q);exact⟨j,hj,by rw[hk,e]⟩
  ·have hi:z / 8 - stock < foil:=by omega
   rw[if_neg (fun h=>hs h.2),if_pos ⟨hf,hs⟩,Z5a _ _ _ _ hi];obtain⟨k,hk⟩:=Z16 _ (Xe l) (ZP (Jk l) (z / 8 - stock) (z % 8)) stock foil (Nat.le_refl _);rw[Z7f]at h2;rw[Z2X l hl _ _ hb (by omega),List.take_take]at hk;obtain⟨j,hj,e⟩:=hfix (min k ((z / 8 - stock) / 4));exact⟨j,hj,by rw[hk,e]⟩
 ·rw[if_neg (fun h=>hf h.1),if_neg (fun h=>hf h.1)];obtain⟨k,hk,e⟩:=Z6R l hl stock foil;exact⟨k,hk,e⟩
theorem Z7d (l1 l2:List (zU))(hl : ∀x∈l1 ++ l2,x.length<=8192)(stock foil:Nat)(flip:Int)(hc:zx (Xe (l1 ++ l2)) (Jk (l1 ++ l2)) (Xe l1).length (Jk l1).length stock foil flip):
  ∃k,k<=l2.length/\Zx (Jj (Xe (l1 ++ l2)) (Xe l1).length stock flip) (J7 (Jk (l1 ++ l2)) (Jk l1).length stock foil flip)=l1 ++ l2.take k:=by
 obtain⟨_,c2,_,c4,_,c6⟩:=hc;rw[QU,Uf]at *;rw[List.length_append]at c2 c4;obtain⟨k,hk,e⟩:=Z8h l2 (fun x hx=>hl x (List.mem_append_right _ hx)) stock foil flip (by omega) (by omega) c6;refine⟨k,hk,?_⟩;have eS:Jj (Xe l1 ++ Xe l2) (Xe l1).length stock flip=Xe l1 ++ Jj (Xe l2) 0 stock flip:=by
  unfold Jj;rw[List.take_length_add_append,Nat.zero_add,Nat.zero_add];split
  ·rw[Qn _ _ _ _ (Nat.le_add_right _ _),Nat.add_sub_cancel_left]
  ·rfl
 have eF:J7 (Jk l1 ++ Jk l2) (Jk l1).length stock foil flip=Jk l1 ++ J7 (Jk l2) 0 stock foil flip:=by
  unfold J7;rw[List.take_length_add_append,Nat.zero_add,Nat.zero_add];split
  ·rename_i h;rw[Qn _ _ _ _ (by omega)];congr 2;omega
  ·rfl
 rw[eS,eF,Z3Q l1 (fun x hx=>hl x (List.mem_append_left _ hx)),e]
def ZcC:PanicEntry := { v := .iface 233 (.agg #[]),recovered:=true }
theorem Z8m (p:Nat)(x:Bool)(w:World)(hh:w.heap[p]? = some (.cells #[.bool x] 4)):
  CallsD zq 179 #[.pointer (some ⟨p,0,none⟩)] (.panicking [Z2t]) w fun e u' w'=>
   e = .returned (.tuple #[])/\u' = .panicking [ZcC]/\w'.heap[p]? = some (.cells #[.bool false] 4)/\Zb (fun k=>k=p) w w':=by
 have hc:w.cell? ⟨p,0,none⟩=some (.bool x):=Z6 hh 0 _ rfl;have hz:=Zp hh 0;have hc' : ∀o,(w.alloc o).cell? ⟨p,0,none⟩=some (.bool x):=fun o=>Z6 (Z9 w o _ _ hh) 0 _ rfl;have hz' : ∀o,(w.alloc o).frozen? ⟨p,0,none⟩=false:=fun o=>Zp (Z9 w o _ _ hh) 0;have hta : ∀w,(Instr.typeAssert (.iface 233 (.agg #[])) 20 233 true).run zq w = .ok (.tuple #[.agg #[],.bool true]) w:=fun _=>rfl;refine callsD_of_wpS Tryz.func179 rfl fun c₀ cs hu=>?_;apply wpS_seq;apply wpS_region;simp[wpOpsS,go_sem,recoverD,hu,Tryz.ntmps179,Exit.thenS,Z2t];refine wpS_of_wp ?_;change Code.wp _ _ _ { tmps := #[.pointer (some ⟨p,0,none⟩),.iface 233 (.agg #[]),undef,undef,.iface 233 (.agg #[]),undef,undef,undef,undef,undef,undef,undef,undef,undef,undef],defers:=[] } w;go_wp2_with fail;refine⟨rfl,?_⟩;simp[results,Tryz.results179];exact⟨rfl,heap_setCell_same _ p 0 _ _ (.bool false) (Z9 w _ _ _ hh),(Zb.of_below (zB _ _)).trans (Vl _ p 0 (.bool false))⟩
theorem Z4e (p:Nat)(w:World):
  CallsD zq 179 #[.pointer (some ⟨p,0,none⟩)] .returning w fun e u' w'=>e = .returned (.tuple #[])/\u' = .returning/\w'=w:=by
 refine callsD_of_wpS Tryz.func179 rfl fun c₀ cs hu=>?_;apply wpS_seq;apply wpS_region;simp[wpOpsS,go_sem,recoverD,hu,Tryz.ntmps179,Exit.thenS];refine wpS_of_wp ?_;go_wp2_with fail;cases c₀;simp_all[bodyPostS,results,Tryz.results179]
section
attribute [local go_sem] ZT
theorem ZbY (rp np:Nat)(l:zU)(a:zA)(n c:Nat)(w:World)(h:RdP w rp l a n c)(hl:l.length<=1000000)(hnp:w.heap[np]? = some (.cells (Z5 Zg none 0) 47))(hne : ¬np=rp):
  Calls zq 130 #[.pointer (some ⟨rp,0,none⟩),.pointer (some ⟨np,0,none⟩)] w fun e w'=>(∃(m:Z8) (t:zU) (sa:zA) (sc:Nat),Q6 Xs l=some (m,t)/\e = .returned (.tuple #[])/\w'.heap[np]? = some (.cells (Z5 m sa sc) 47)/\w'.ownsRow w.heap.size 3 1 (.slice sa m.strokes.length sc) m.strokes.length (m.strokes.map Yh)/\Zb (fun k=>k=rp\/k=np) w w') \/
   (Q6 Xs l=none/\e = .panicked [Z2t]/\Zb (fun k=>k=rp\/k=np) w w'):=by
 go_enter Tryz.func130,Tryz.ntmps130;go_wp2_with fail;refine(ZaL rp l a n c w h hl).mono ?_;rintro e w1 (⟨m,t,sa,sc,a2,n2,c2,h1,rfl,h2,h3,h4⟩ | ⟨h1,rfl,h4⟩)
 ·have g:=zH ((h4.block np (Array.getElem?_eq_some_iff.1 hnp).1 hne).trans hnp);have H1:=zH h1;clear h1;have one1:=Zm m sa sc;go_wp2_with (refine zN np (Z5 m sa sc) g.out ?_);have hSR:Zb (fun k=>k=np) w1 (w1.setRow np (Z5 m sa sc)):=⟨rfl,rfl,rfl,by simp,fun k hk hs=>setRow_other w1 np k _ hs⟩;have hnl:=(Array.getElem?_eq_some_iff.1 hnp).1;have hO:=JJ h2 hSR (fun b cur fr hb=>.inr (by rw[show b=np from hb];exact hnl));have hg:=setRow_heap w1 np _ (Z5 m sa sc) _ _ g.out;have hS:=(YW h4 (S':=fun k=>k=rp\/k=np) fun k e=>.inl e).trans (YW hSR fun k e=>.inr e);have HO:=hO;go_end0
  first
   | exact .inl ⟨m,t,sa,sc,H1.out,rfl,hg,HO,hS⟩
   | exact .inl ⟨m,⟨t,H1.out⟩,rfl,sa,sc,hg,HO,hS⟩
 ·have H1:=zH h1;clear h1;go_wp2_with fail;exact⟨rfl,.inr ⟨H1.out,rfl,YW h4 fun k e=>.inl e⟩⟩
theorem Z6v (np:Nat)(l:zU)(a:zA)(n c:Nat)(w:World)(h:Y4 w a n c l)(hl:l.length<=1000000)(hnp:w.heap[np]? = some (.cells (Z5 Zg none 0) 47)):
  Calls zq 129 #[.slice a n c,.func (.func 130) #[] #[.pointer (some ⟨np,0,none⟩)]] w fun e w'=>(∃(m:Z8) (t:zU) (sa:zA) (sc:Nat),Q6 Xs l=some (m,t)/\e = .returned (.bool true)/\w'.heap[np]? = some (.cells (Z5 m sa sc) 47)/\w'.ownsRow w.heap.size 3 1 (.slice sa m.strokes.length sc) m.strokes.length (m.strokes.map Yh)/\Zb (fun k=>k=np) w w') \/
   (Q6 Xs l=none/\e = .returned (.bool false)/\Zb (fun k=>k=np) w w'):=by
 have hmf : ∀(fn:Fn) (first cap:ZW) (w:World),(Instr.makeFunc fn first cap).run zq w = .ok (.func fn first cap) w:=fun _ _ _ _=>rfl;have hnl:=(Array.getElem?_eq_some_iff.1 hnp).1;go_enter_defers Tryz.func129,Tryz.ntmps129;go_wp2_with fail;obtain⟨p,hp⟩:=zX (w.heap.size);obtain⟨rp,hrp⟩:=zX (w.heap.size+1);have b2:Below w.heap.size w ((w.alloc (.cells #[.bool false] 4)).alloc (.cells #[.slice a n c] 236)):=(zB _ _).alloc (by simp) _;have g1:((w.alloc (.cells #[.bool false] 4)).alloc (.cells #[.slice a n c] 236)).heap[p]? = some (.cells #[.bool false] 4):=by rw[<-hp.out];exact Z9 _ _ _ _ (Za _ _)
 have g2:((w.alloc (.cells #[.bool false] 4)).alloc (.cells #[.slice a n c] 236)).heap[rp]? = some (.cells #[.slice a n c] 236):=by rw[<-hrp.out];exact Zw _ _ _ (by simp)
 rw[hrp.out,hp.out];generalize (w.alloc (.cells #[.bool false] 4)).alloc (.cells #[.slice a n c] 236)=w2 at *;have hne : ¬np=rp /\ ¬p=rp /\ ¬p=np:=by have h1:=hp.out;have h2:=hrp.out;omega
 have hnp2:=(b2.block np hnl).trans hnp;have hpl:=(Array.getElem?_eq_some_iff.1 g1).1;refine(ZbY rp np l a n c w2 ⟨g2,Y4.below h b2⟩ hl hnp2 hne.1).mono ?_;rintro e w3 (⟨m,t,sa,sc,h1,rfl,h2,h3,h4⟩ | ⟨h1,rfl,h4⟩)
 ·have k1:=(h4.block p hpl (by have h1:=hne.2.1;have h2:=hne.2.2;omega)).trans g1;have c1:w3.cell? ⟨p,0,none⟩=some (.bool false):=Z6 k1 0 _ rfl;have f1:=Zp k1 0;have hS:=Vl w3 p 0 (.bool true);have k2:=heap_setCell_same w3 p 0 _ _ (.bool true) k1;have c2:(w3.setCell ⟨p,0,none⟩ (.bool true)).cell? ⟨p,0,none⟩=some (.bool true):=Z6 k2 0 _ rfl;have hn3:=(hS.block np (Array.getElem?_eq_some_iff.1 h2).1 (fun e=>hne.2.2 e.symm)).trans h2;have H1:=zH h1;clear h1;have hFin:Zb (fun k=>k=np) w (w3.setCell ⟨p,0,none⟩ (.bool true)):=by
   have hh:=((YW (Zb.of_below (S:=fun _=>False) b2) (S':=fun k=>k=rp\/k=np\/k=p) (fun k e=>e.elim)).trans (YW h4 (S':=fun k=>k=rp\/k=np\/k=p) (fun k e=>e.elim .inl (fun e=>.inr (.inl e))))).trans (YW hS (S':=fun k=>k=rp\/k=np\/k=p) (fun k e=>.inr (.inr e)));exact⟨hh.os,hh.tape,hh.output,hh.size,fun k hk hs=>hh.block k hk (by have h1:=hp.out;have h2:=hrp.out;have h3 : ¬k=np:=hs;omega)⟩
  have HF:=zH hFin;clear hFin;have HR:=zH (Zv (JJ h3 hS (fun b cur fr hb=>.inr (by rw[show b=p from hb];exact hpl))) b2.size);clear h3;go_wp2_with fail;refine leaves_cons (f:=179) (args := #[.pointer (some ⟨p,0,none⟩)]) (by simp) (by simp[go_sem]) ?_;refine(Z4e p _).mono ?_;rintro e u' w'' ⟨rfl,rfl,rfl⟩;simp[Leaves,settle,results,Tryz.results129,go_sem];exact⟨.bool true,by rw[c2],.inl ⟨m,⟨t,H1.out⟩,rfl,sa,sc,hn3,HR.out,HF.out⟩⟩
 ·have k1:=(h4.block p hpl (by have h1:=hne.2.1;have h2:=hne.2.2;omega)).trans g1;have H1:=zH h1;clear h1;go_wp2_with fail;refine leaves_cons (f:=179) (args := #[.pointer (some ⟨p,0,none⟩)]) (by simp) (by simp[go_sem]) ?_;refine(Z8m p false _ k1).mono ?_;rintro e u' w'' ⟨rfl,rfl,g3,h5⟩;have c3:w''.cell? ⟨p,0,none⟩=some (.bool false):=Z6 g3 0 _ rfl;simp[Leaves,settle,results,Tryz.results129,go_sem,ZcC];refine⟨.bool false,by rw[c3],.inr ⟨H1.out,rfl,?_⟩⟩;have hh:=((YW (Zb.of_below (S:=fun _=>False) b2) (S':=fun k=>k=rp\/k=np\/k=p) (fun k e=>e.elim)).trans (YW h4 (S':=fun k=>k=rp\/k=np\/k=p) (fun k e=>e.elim .inl (fun e=>.inr (.inl e))))).trans (YW h5 (S':=fun k=>k=rp\/k=np\/k=p) (fun k e=>.inr (.inr e)));exact⟨hh.os,hh.tape,hh.output,hh.size,fun k hk hs=>hh.block k hk (by have h1:=hp.out;have h2:=hrp.out;have h3 : ¬k=np:=hs;omega)⟩
end
theorem Z9h {l t:zU}{m:Z8}(h:Q6 Xs l=some (m,t)):m.strokes.length<=l.length:=by
 cases e1:XX Xs 15 l with
 | none=>rw[Z8y e1]at h;cases h
 | some p=>
  obtain⟨x,t0⟩:=p;cases e2:VI Xs t0 with
  | none=>rw[Z8x e1 e2]at h;cases h
  | some p=>
   obtain⟨k,t1⟩:=p;rw[Z5F e1 e2]at h;have hk:k<=t1.length:=by
    unfold VI at e2;split at e2
    ·split at e2
     ·simp only[Option.some.injEq,Prod.mk.injEq]at e2;obtain⟨rfl,rfl⟩:=e2;omega
     ·cases e2
    ·cases e2
   have h2:=Z6N e2;have h3:=Z28 _ e1;split at h
   ·rename_i y t2 e3;split at h
    ·simp only[Option.some.injEq,Prod.mk.injEq]at h;have:=VE _ _ _ _ e3;rw[<-h.1,show(mkN x y _).strokes=y from rfl];omega
    ·cases h
   ·cases h
def Qu (f:Yg)(l:zU):Option Z8:=match Q6 Xs l with
 | some (m,_)=>if ZZ f m=0/\ZQ m=l then some m else none
 | none=>none
structure Z8p (w W:World)(p0 p1 p2:Nat)(f:Yg)(C:ZW):Prop where
 e0:W.heap[p0]? = some (.cells #[.int .i64 f.rings,.int .i64 f.sectors,.int .i64 f.wide] 23)
 e1:W.heap[p1]? = some (.cells (Z5 Zg none 0) 47)
 e2:W.heap[p2]? = some (.cells C 47)
 b:Below p0 w W
 lt:p0 < p1/\p1 < p2
theorem Z8p.below {w W W':World}{p0 p1 p2:Nat}{f:Yg}{C:ZW}(h:Z8p w W p0 p1 p2 f C)(hb:Below W.heap.size W W'):Z8p w W' p0 p1 p2 f C:=by
 have g : ∀{k:Nat} {o:Obj},W.heap[k]? = some o->W'.heap[k]? = some o:=fun {k o} hk=>(hb.block k (Array.getElem?_eq_some_iff.1 hk).1).trans hk;have h0:=(Array.getElem?_eq_some_iff.1 h.e0).1;exact⟨g h.e0,g h.e1,g h.e2,h.b.trans (hb.mono (by omega)),h.lt⟩
theorem Z8p.done {w W:World}{p0 p1 p2:Nat}{f:Yg}{C:ZW}(h:Z8p w W p0 p1 p2 f C)(C':ZW):(W.setRow p1 C').heap[p1]? = some (.cells C' 47)/\Below p0 w (W.setRow p1 C'):=by
 have hl:=h.lt;exact⟨setRow_heap W p1 _ C' _ _ h.e1,h.b.trans ⟨rfl,rfl,rfl,by simp,fun k hk=>setRow_other W p1 k C' (by omega)⟩⟩
section
attribute [local go_sem] ZT
end
section
attribute [local go_sem] ZT
theorem Z2O (f:Yg)(l:zU)(a:zA)(n c:Nat)(w:World)(h:Y4 w a n c l)(hl:l.length<=1000000):
  Calls zq 75 #[f.val,.slice a n c] w fun e w'=>(∃(m:Z8) (sa:zA) (sc:Nat),Qu f l=some m/\e = .returned (.tuple #[.agg (Z5 m sa sc),.int .i64 0])/\w'.ownsRow w.heap.size 3 1 (.slice sa m.strokes.length sc) m.strokes.length (m.strokes.map Yh)/\Below w.heap.size w w') \/
   (Qu f l=none/\e = .returned (.tuple #[.agg (Z5 Zg none 0),.int .i64 90])/\Below w.heap.size w w'):=by
 have I43:=zH zI;have hmf : ∀(fn:Fn) (first cap:ZW) (w:World),(Instr.makeFunc fn first cap).run zq w = .ok (.func fn first cap) w:=fun _ _ _ _=>rfl;unfold Yg.val;go_enter Tryz.func75,Tryz.ntmps75;go_wp2_with fail;rw[<-YN];have oneZ:=Zm Zg none 0;have g0:=Z9 _ (.cells (Z5 Zg none 0) 47) _ _ (Z9 _ (.cells (Z5 Zg none 0) 47) _ _ (Za w (zF f 23)));have g1:=Z9 _ (.cells (Z5 Zg none 0) 47) _ _ (Zw (w.alloc (zF f 23)) (.cells (Z5 Zg none 0) 47) (w.heap.size+1) (by simp));have g2:=Zw ((w.alloc (zF f 23)).alloc (.cells (Z5 Zg none 0) 47)) (.cells (Z5 Zg none 0) 47) (w.heap.size+1+1) (by simp);have bb:Below w.heap.size w (((w.alloc (zF f 23)).alloc (.cells (Z5 Zg none 0) 47)).alloc (.cells (Z5 Zg none 0) 47)):=((zB _ _).alloc (by simp) _).alloc (by simp;omega) _;have L0:Hid (Z8p w (((w.alloc (zF f 23)).alloc (.cells (Z5 Zg none 0) 47)).alloc (.cells (Z5 Zg none 0) 47)) w.heap.size (w.heap.size+1) (w.heap.size+1+1) f (Z5 Zg none 0)):=zH ⟨g0,g1,g2,bb,by omega⟩;clear g0 g1 g2 bb;generalize ((w.alloc (zF f 23)).alloc (.cells (Z5 Zg none 0) 47)).alloc (.cells (Z5 Zg none 0) 47)=W3 at *;generalize hp0:w.heap.size=p0 at *;generalize hp1:p0+1=p1 at *;generalize hp2:p1+1=p2 at *;have RB:=zH (show ∀W',Below p0 w W'->Y4 W' a n c l from fun W' hb=>h.below (by rw[hp0];exact hb));have HP0:=zH hp0;clear hp0 hp1 hp2;refine(Z6v p2 l a n c W3 (RB.out _ L0.out.b) hl L0.out.e2).mono ?_;rintro e w4 (⟨m,t,sa,sc,h1,rfl,h2,h3,h4⟩ | ⟨h1,rfl,h4⟩)
 ·have oneM:=Zm m sa sc;have hz2:=(Array.getElem?_eq_some_iff.1 L0.out.e2).1;have P1:Hid (p1 < W3.heap.size):=zH (Nat.lt_trans L0.out.lt.2 hz2);have L1:Hid (Z8p w w4 p0 p1 p2 f (Z5 m sa sc)):=zH ⟨(h4.block p0 (by have:=L0.out.lt;omega) (by have:=L0.out.lt;omega)).trans L0.out.e0,(h4.block p1 (by have:=L0.out.lt;omega) (by have:=L0.out.lt;omega)).trans L0.out.e1,h2,h4.below L0.out.b (by have:=L0.out.lt;omega) (fun k e=>by have:=L0.out.lt;rw[show k=p2 from e];omega),L0.out.lt⟩;have HO:=zH h3;clear h3;have HM:=zH h1;clear h1 h2 h4 hz2;have HLN:=zH (Nat.le_trans (Z9h HM.out) hl);have c0:=Z6 L1.out.e0 0 _ rfl;have c1:=Z6 L1.out.e0 1 _ rfl;have c2:=Z6 L1.out.e0 2 _ rfl;go_wp2_with   (first
    |(refine zL p2 L1.out.e2 ?_)
    |(refine zG p2 L1.out.e2 ?_))
  refine(Un f m sa sc _ (Y3.of_own HO.out)).mono ?_;rintro e w5 ⟨rfl,b5⟩;have L2:=zH (L1.out.below b5);have HO2:=zH (Zd HO.out b5);clear b5 c0 c1 c2;by_cases hc:ZZ f m=0
  ·have hq:(ZZ f m != 0)=false:=by simp[hc]
   have HC:=zH hc;clear hc;have HSM:=zH (Z6h HC.out);go_wp2_with   (first
     |(refine zL p2 L2.out.e2 ?_)
     |(refine zG p2 L2.out.e2 ?_))
   refine(QT m sa sc _ (Y3.of_own HO2.out) HSM.out HLN.out).mono ?_;rintro e w6 ⟨a',c',rfl,h6,b6⟩;have L3:=zH (L2.out.below b6);have HO3:=zH (Zd HO2.out b6);have H6:=zH h6;clear h6 b6;go_wp2_with fail;refine(Z2h _ _ _ (ZQ m) _ _ _ l _ (Y4.of_own H6.out) (RB.out _ L3.out.b)).mono ?_;rintro e w7 ⟨r,rfl,hr,q,rfl⟩;have L4:=zH (L3.out.below (below_drewN (Below.refl _ _) q));have HO4:=zH (Zd HO3.out (below_drewN (Below.refl _ _) q));generalize w6.drewN q=w7 at *;cases r with
   | false=>
    have HR:=zH (show Qu f l=none by unfold Qu;rw[HM.out];simp only;rw[if_neg (fun e=>by have:=hr.2 e.2;cases this)]);clear hr;go_wp2_with (refine zN p1 (Z5 Zg none 0) L4.out.e1 ?_);refine bodyPost_ret (Zz rfl _ _ p1 47 (Z5 Zg none 0) (0,0) _ rfl (L4.out.done _).1 Tryz.underlying47 rfl (I43.out _ _ _)) rfl ?_;exact .inr ⟨HR.out,rfl,by rw[HP0.out];exact(L4.out.done _).2⟩
   | true=>
    have HR:=zH (show Qu f l=some m by unfold Qu;rw[HM.out];simp only;rw[if_pos ⟨HC.out,hr.1 rfl⟩]);clear hr;go_wp2_with (first
     |(refine zL p2 L4.out.e2 ?_)
     |(refine zN p1 (Z5 m sa sc) L4.out.e1 ?_))
    refine bodyPost_ret (Zz rfl _ _ p1 47 (Z5 m sa sc) (0,0) _ rfl (L4.out.done _).1 Tryz.underlying47 rfl (I43.out _ _ _)) rfl ?_;have hO:=JJ (S:=fun k=>k=p1) HO4.out (W':=World.setRow _ p1 (Z5 m sa sc)) ⟨rfl,rfl,rfl,by simp,fun k hk hs=>setRow_other _ p1 k _ hs⟩ (fun b cur fr hb=>.inr (by rw[show b=p1 from hb];exact P1.out));exact .inl ⟨m,sa,sc,HR.out,rfl,Zv hO L0.out.b.size,by rw[HP0.out];exact(L4.out.done _).2⟩
  ·have hq:(ZZ f m != 0)=true:=by simp[hc]
   have HR:=zH (show Qu f l=none by unfold Qu;rw[HM.out];simp only;rw[if_neg (fun e=>hc e.1)]);clear hc;go_wp2_with (refine zN p1 (Z5 Zg none 0) L2.out.e1 ?_);refine bodyPost_ret (Zz rfl _ _ p1 47 (Z5 Zg none 0) (0,0) _ rfl (L2.out.done _).1 Tryz.underlying47 rfl (I43.out _ _ _)) rfl ?_;exact .inr ⟨HR.out,rfl,by rw[HP0.out];exact(L2.out.done _).2⟩
 ·have HR:=zH (show Qu f l=none by unfold Qu;rw[h1]);have hz2:=(Array.getElem?_eq_some_iff.1 L0.out.e2).1;have k0:=(h4.block p0 (by have:=L0.out.lt;omega) (by have:=L0.out.lt;omega)).trans L0.out.e0;have k1:=zH ((h4.block p1 (by have:=L0.out.lt;omega) (by have:=L0.out.lt;omega)).trans L0.out.e1);have kb:=zH (h4.below L0.out.b (by have:=L0.out.lt;omega) (fun k e=>by have:=L0.out.lt;rw[show k=p2 from e];omega));have kl:=zH L0.out.lt;clear h1 h4 hz2 k0;go_wp2_with (refine zN p1 (Z5 Zg none 0) k1.out ?_);refine zr (setRow_heap w4 p1 _ _ _ _ k1.out) ?_;exact .inr ⟨HR.out,rfl,by rw[HP0.out];exact kb.out.trans ⟨rfl,rfl,rfl,by simp,fun k hk=>setRow_other _ p1 k _ (by have:=kl.out;omega)⟩⟩
end
def Zj.sync (S:Zj):Zj := { S with sd:=S.sb.length,fd:=S.fb.length }
theorem Xt.sync {S:Zj}(h:Xt S):Xt S.sync:=⟨h.v,h.id,h.srt,h.frm,h.ok,h.nms,h.len,h.sbl,h.fbl⟩
def Z7I (A:Zj):Option Z8->Option Zj
 | none=>none
 | some n=>if (Ym A [n]).2.2=0/\(Ym A [n]).2.1=1 then some (Ym A [n]).1 else none
def Vh (A:Zj):List (zU)->Zj
 | []=>A
 | b :: bs=>((Z7I A (Qu A.f b)).map (fun A'=>Vh A' bs)).getD A
def CrP (S:Zj)(stock foil flip:Int)(S':Zj)(code:Int):Prop:=
 (¬zx S.sb S.fb S.sd S.fd stock foil flip/\S'=S/\code=1) \/
 (zx S.sb S.fb S.sd S.fd stock foil flip/\S'=(Vh (Zj.new S.f S.id) (Zx (Jj S.sb S.sd stock.toNat flip) (J7 S.fb S.fd stock.toNat foil.toNat flip))).sync/\code=0)
theorem Z2j {f:Yg}(hv:f.valid=true){n:Z8}(h:Zf f n=true):Qu f (ZQ n)=some n:=by
 unfold Qu;rw[Um hv n h];simp only;rw[if_pos ⟨by unfold ZZ;rw[if_pos hv,if_pos h],trivial⟩]
theorem Zbt {f:Yg}{b:zU}{n:Z8}(h:Qu f b=some n):ZZ f n=0/\ZQ n=b:=by
 unfold Qu at h;split at h
 ·split at h
  ·rename_i h2;cases h;exact h2
  ·cases h
 ·cases h
theorem Za7 (A:Zj)(n:Z8)(ns:List Z8):A.adds (n :: ns)=(A.add n).adds ns:=by unfold Zj.adds;rw[List.foldl_cons]
theorem Z3s {A A':Zj}{n:Z8}{b:zU}{bs:List (zU)}(h1:Qu A.f b=some n)(h2:Ym A [n]=(A',1,0)):Vh A (b :: bs)=Vh A' bs:=by
 have e:Z7I A (some n)=some A':=by
  show(if (Ym A [n]).2.2=0/\(Ym A [n]).2.1=1 then some (Ym A [n]).1 else none)=some A';rw[h2];exact if_pos ⟨rfl,rfl⟩
 rw[Vh,h1,e];rfl
theorem Z3r {A:Zj}{b:zU}{bs:List (zU)}(h:Z7I A (Qu A.f b)=none):Vh A (b :: bs)=A:=by
 rw[Vh,h];rfl
theorem Z39: ∀(l:List Z8) (A:Zj),(A.adds l).ad=A.ad ++ l
 | [],A=>by simp[Zj.adds]
 | n :: ns,A=>by
  show((A.add n).adds ns).ad=_
  rw[Z39 ns (A.add n)]
  show(A.ad ++ [n]) ++ ns=_
  simp
structure TwoD (w W:World)(p q:Nat)(x y:Z8)(sa:zA)(sc:Nat)(ta:zA)(tc:Nat):Prop where
 e1:W.heap[p]? = some (.cells (Z5 x sa sc) 47)
 e2:W.heap[q]? = some (.cells (Z5 y ta tc) 47)
 b:Below p w W
 lt:p < q
theorem TwoD.below {w W W':World}{p q:Nat}{x y:Z8}{sa ta:zA}{sc tc:Nat}(h:TwoD w W p q x y sa sc ta tc)(hb:Below W.heap.size W W'):TwoD w W' p q x y sa sc ta tc:=by
 have g : ∀{k:Nat} {o:Obj},W.heap[k]? = some o->W'.heap[k]? = some o:=fun {k o} hk=>(hb.block k (Array.getElem?_eq_some_iff.1 hk).1).trans hk;have h0:=(Array.getElem?_eq_some_iff.1 h.e1).1;exact⟨g h.e1,g h.e2,h.b.trans (hb.mono (by omega)),h.lt⟩
section
attribute [local go_sem] ZT
theorem Z7z (x y:Z8)(sa:zA)(sc:Nat)(ta:zA)(tc:Nat)(w:World)(hx:Xi w sa x.strokes.length sc x.strokes)(hy:Xi w ta y.strokes.length tc y.strokes)(hsx:VQ x)(hlx:x.strokes.length<=1000000)(hsy:VQ y)(hly:y.strokes.length<=1000000)(hne:ZQ x≠ZQ y):
  Calls zq 70 #[.agg (Z5 x sa sc),.agg (Z5 y ta tc)] w fun e w'=>e = .returned (.bool false)/\Below w.heap.size w w':=by
 have I43:=zH zI;have g1:=Z9 _ (.cells (Z5 y ta tc) 47) _ _ (Za w (.cells (Z5 x sa sc) 47));have g2:=Zw (w.alloc (.cells (Z5 x sa sc) 47)) (.cells (Z5 y ta tc) 47) (w.heap.size+1) (by simp);have bb:Below w.heap.size w ((w.alloc (.cells (Z5 x sa sc) 47)).alloc (.cells (Z5 y ta tc) 47)):=(zB _ _).alloc (by simp) _;have T0:Hid (TwoD w ((w.alloc (.cells (Z5 x sa sc) 47)).alloc (.cells (Z5 y ta tc) 47)) w.heap.size (w.heap.size+1) x y sa sc ta tc):=zH ⟨g1,g2,bb,by omega⟩;clear g1 g2 bb;go_enter Tryz.func70,Tryz.ntmps70;go_upto_region 1 with fail;generalize (w.alloc (.cells (Z5 x sa sc) 47)).alloc (.cells (Z5 y ta tc) 47)=W0 at *;obtain⟨p,hp⟩:=zX (w.heap.size);obtain⟨q,hq⟩:=zX (w.heap.size+1);rw[hq.out,hp.out]at T0;rw[hq.out,hp.out];have RX:=zH (show ∀W,Below p w W->Xi W sa x.strokes.length sc x.strokes from fun W h=>hx.below (by rw[hp.out];exact h));have RY:=zH (show ∀W,Below p w W->Xi W ta y.strokes.length tc y.strokes from fun W h=>hy.below (by rw[hp.out];exact h));have T0d:=zH (T0.out.below (zd W0));obtain⟨E,hE⟩ : ∃E,Hid (E=ZQ x):=⟨_,zH rfl⟩;obtain⟨D,hD⟩ : ∃D,Hid (D=ZQ y):=⟨_,zH rfl⟩;have NE:Hid (E≠D):=zH (by rw[hE.out,hD.out];exact hne);have EX:=zH (fun W (h:TwoD w W p q x y sa sc ta tc)=>Z0s x sa sc W (RX.out _ h.b) hsx hlx);have EY:=zH (fun W (h:TwoD w W p q x y sa sc ta tc)=>Z0s y ta tc W (RY.out _ h.b) hsy hly);rw[<-hE.out]at EX;rw[<-hD.out]at EY;clear hx hy hne;refine wp_region_noPanic ?_;refine wp_region_held_drew (S:=fun w'=>TwoD w w' p q x y sa sc ta tc) (by kernel_rfl) T0d.out (fun hh=>?_);refine zT 0 rfl (.agg (Z5 x sa sc)) (ZR (by rfl) 47 _ rfl p rfl _ 47 (0,0) _ (fun W h=>h.e1) Tryz.underlying47 rfl (I43.out _ _ _)) ?_;refine zT 3 rfl (.agg (Z5 y ta tc)) (ZR (by rfl) 47 _ rfl q rfl _ 47 (0,0) _ (fun W h=>h.e2) Tryz.underlying47 rfl (I43.out _ _ _)) ?_;refine zR 1 rfl fun K hK=>?_;go_simp;go_at_call 125;refine(EX.out _ T0d.out).mono ?_;rintro e wX ⟨aX,cX,rfl,hX,bX⟩;have TX:=zH (T0d.out.below bX);have cvX:=YG (Y4.of_own hX)
 have HX:=zH hX;clear hX bX;dsimp only;refine zK hK TX.out fun hh=>?_;clear hK K;refine zM [2,4] rfl (fun K hK=>?_) ?_
 focus
  go_simp;refine zK hK TX.out fun hh=>?_;clear hK K;refine zR 4 rfl fun K hK=>?_;go_simp;go_at_call 125;refine(EY.out _ TX.out).mono ?_;rintro e wY ⟨aY,cY,rfl,hY,bY⟩;have TY:=zH (TX.out.below bY);have cvY:=YG (Y4.of_own hY);have cvX2:=YG (Y4.below (Y4.of_own HX.out) bY);clear hY bY;dsimp only;refine zK hK TY.out fun hh=>?_;clear hK K;refine zR 5 rfl fun K hK=>?_
 rotate_left
 focus
  refine zn fun K hK=>?_;go_simp;go_at_call 125;refine(EY.out _ TX.out).mono ?_;rintro e wY ⟨aY,cY,rfl,hY,bY⟩;have TY:=zH (TX.out.below bY);have cvY:=YG (Y4.of_own hY);have cvX2:=YG (Y4.below (Y4.of_own HX.out) bY);clear hY bY;dsimp only;refine zK hK TY.out fun hh=>?_;clear hK K;refine zM [2,5] rfl (fun K hK=>?_) ?_
  ·go_simp;refine zK hK TY.out fun hh=>?_;clear hK K;refine zR 5 rfl fun K hK=>?_;go_simp;refine zK hK TY.out fun hh=>?_;clear hK K;refine zS 6 rfl (.bool false) (fun W _=>by go_simp;simpa using NE.out) ?_;refine zS 7 rfl (.bool false) (fun W _=>by go_simp) ?_;refine zT 8 rfl undef (Or.inr ⟨by kernel_rfl,rfl⟩) ?_;refine zT 9 rfl undef (Or.inr ⟨by kernel_rfl,rfl⟩) ?_;refine zT 10 rfl undef (Or.inr ⟨by kernel_rfl,rfl⟩) ?_;refine zT 11 rfl undef (Or.inr ⟨by kernel_rfl,rfl⟩) ?_;refine zT 12 rfl undef (Or.inr ⟨by kernel_rfl,rfl⟩) ?_;refine zS 13 rfl (.bool false) (fun W _=>by go_simp) ?_;refine zS 14 rfl (.bool false) (fun W _=>by go_simp) ?_;refine zE ?_;change Exit.then _ _ Exit.normal { tmps := #[.agg (Z5 x sa sc),.agg (Z5 y ta tc),.pointer (some ⟨p,0,none⟩),.pointer (some ⟨q,0,none⟩),.bool false,.agg (Z5 x sa sc),.slice aX E.length cX,.string { data:=E.toArray },.agg (Z5 y ta tc),.slice aY D.length cY,.string { data:=D.toArray },.bool false,.bool false,undef,undef,undef,undef,undef,.bool false],defers:=[] } _;go_wp2;go_ret;exact⟨rfl,by rw[hp.out];exact TY.out.b⟩
  refine zn fun K hK=>?_;go_simp;refine zK hK TY.out fun hh=>?_;clear hK K;refine zR 2 rfl fun K hK=>?_
 all_goals
  go_simp;refine zK hK TY.out fun hh=>?_;clear hK K;refine zS 6 rfl (.bool false) (fun W _=>by go_simp;simpa using NE.out) ?_;refine zS 7 rfl (.bool false) (fun W _=>by go_simp) ?_;refine zT 8 rfl undef (Or.inr ⟨by kernel_rfl,rfl⟩) ?_;refine zT 9 rfl undef (Or.inr ⟨by kernel_rfl,rfl⟩) ?_;refine zT 10 rfl undef (Or.inr ⟨by kernel_rfl,rfl⟩) ?_;refine zT 11 rfl undef (Or.inr ⟨by kernel_rfl,rfl⟩) ?_;refine zT 12 rfl undef (Or.inr ⟨by kernel_rfl,rfl⟩) ?_;refine zS 13 rfl (.bool false) (fun W _=>by go_simp) ?_;refine zS 14 rfl (.bool false) (fun W _=>by go_simp) ?_;refine zE ?_;change Exit.then _ _ Exit.normal { tmps := #[.agg (Z5 x sa sc),.agg (Z5 y ta tc),.pointer (some ⟨p,0,none⟩),.pointer (some ⟨q,0,none⟩),.bool false,.agg (Z5 x sa sc),.slice aX E.length cX,.string { data:=E.toArray },.agg (Z5 y ta tc),.slice aY D.length cY,.string { data:=D.toArray },.bool false,.bool false,undef,undef,undef,undef,undef,.bool false],defers:=[] } _;go_wp2;go_ret;exact⟨rfl,by rw[hp.out];exact TY.out.b⟩
end
theorem Z2L {K:List Z8}{c:Int->Nat}(h:Qq K c)(hn:(K.map Zn).Nodup)(a:Int):Ql K a=c a:=by
 have h1:Ql K a=((K.filter (fun x=>decide (x.house=a))).map Z8.num).length:=by
  unfold Ql;rw[List.length_map,List.countP_eq_length_filter]
 have h2:((List.range (c a)).map (fun k:Nat=>(k:Int)+1)).length=c a:=by rw[List.length_map,List.length_range]
 rw[h1,<-h2];refine List.Perm.length_eq ((List.perm_ext_iff_of_nodup ?_ ?_).2 fun z=>?_)
 ·have h3:K.Pairwise (fun x y=>Zn x≠Zn y):=List.pairwise_map.1 hn;have h4:=List.Pairwise.filter (fun x=>decide (x.house=a)) h3;refine List.pairwise_map.2 (List.Pairwise.imp_of_mem ?_ h4);intro x y hx hy hxy e;have hx2:=(List.mem_filter.1 hx).2;have hy2:=(List.mem_filter.1 hy).2;simp only[decide_eq_true_eq]at hx2 hy2;exact hxy (by show(x.house,x.num)=(y.house,y.num);rw[hx2,hy2,e])
 ·refine List.pairwise_map.2 (List.Pairwise.imp ?_ (List.nodup_range (n:=c a)));intro x y hxy e;omega
 ·have h5:=h a z;constructor
  ·intro hz;obtain⟨x,hx,rfl⟩:=List.mem_map.1 hz;obtain⟨hx1,hx2⟩:=List.mem_filter.1 hx;simp only[decide_eq_true_eq]at hx2;have h6:=h5.1 ⟨x,hx1,by show(x.house,x.num)=_;rw[hx2]⟩;exact List.mem_map.2 ⟨(x.num - 1).toNat,List.mem_range.2 (by omega),by omega⟩
  ·intro hz;obtain⟨k,hk,rfl⟩:=List.mem_map.1 hz;have hk2:=List.mem_range.1 hk;obtain⟨x,hx,e⟩:=h5.2 ⟨by omega,by omega⟩;have e1:x.house=a:=congrArg Prod.fst e;have e2:x.num=(k:Int)+1:=congrArg Prod.snd e;exact List.mem_map.2 ⟨x,List.mem_filter.2 ⟨hx,by simp[e1]⟩,e2⟩
theorem Xt.nodup {S:Zj}(h:Xt S):(S.l.map Zn).Nodup:=
 List.pairwise_map.2 (h.srt.imp (fun {a b} hab e=>by
  unfold ltN at hab
  rw[e]at hab
  have h2:=(Xm _ _).1 hab
  omega))
structure UM (w W:World)(p3 p4:Nat)(m:Z8)(ta:zA)(tc:Nat):Prop where
 bel:Below w.heap.size w W
 n:W.heap[p3]? = some (.cells (Z5 m ta tc) 47)
 z:W.heap[p4]? = some (.cells (Z5 Zg none 0) 47)
 own:W.ownsRow w.heap.size 3 1 (.slice ta m.strokes.length tc) m.strokes.length (m.strokes.map Yh)
 ge:w.heap.size<=p3/\p3 < p4
section
variable {w W W':World}{p3 p4:Nat}{m m':Z8}{ta:zA}{tc:Nat}
theorem UM.below (h:UM w W p3 p4 m ta tc)(hb:Below W.heap.size W W'):UM w W' p3 p4 m ta tc:=
 ⟨h.bel.trans (hb.mono h.bel.size),Z7 hb h.n,Z7 hb h.z,Zd h.own hb,h.ge⟩
theorem UM.set (h:UM w W p3 p4 m ta tc)(hs:Zb (fun k=>k=p3) W W')(hn:W'.heap[p3]? = some (.cells (Z5 m' ta tc) 47))(he:m'.strokes=m.strokes):UM w W' p3 p4 m' ta tc:=
 ⟨hs.below h.bel h.bel.size (fun k hk=>by rw[show k=p3 from hk];exact h.ge.1),hn,(hs.block p4 (Zi h.z) (fun e=>by have:=h.ge;omega)).trans h.z,
  by rw[he];exact Ze h.own hs (fun b hb e=>Zq h.own h.n (by intro cur;simp) (by rw[hb,show b=p3 from e])),h.ge⟩
theorem Z4E {W W':World}(hg:W.grownBy W' none):Below W.heap.size W W':=⟨hg.os,hg.tape,hg.output,hg.size,fun k hk=>hg.block k hk (by simp)⟩
theorem UM.other {r:Nat}{o:Obj}(h:UM w W p3 p4 m ta tc)(hs:Zb (fun k=>k=r) W W')(hr:p4 < r)(ho:W.heap[r]? = some o)(hne : ∀cur,o ≠ .cells cur 3):UM w W' p3 p4 m ta tc:=
 ⟨hs.below h.bel h.bel.size (fun k hk=>by rw[show k=r from hk];have:=h.ge;omega),(hs.block p3 (Zi h.n) (fun e=>by have:=h.ge;omega)).trans h.n,(hs.block p4 (Zi h.z) (fun e=>by omega)).trans h.z,
  Ze h.own hs (fun b hb e=>Zq h.own ho hne (by rw[hb,show b=r from e])),h.ge⟩
theorem UM.done (h:UM w W p3 p4 m ta tc)(hs:Zb (fun k=>k=p4) W W'):Below w.heap.size w W'/\W'.ownsRow w.heap.size 3 1 (.slice ta m.strokes.length tc) m.strokes.length (m.strokes.map Yh):=
 ⟨hs.below h.bel h.bel.size (fun k hk=>by rw[show k=p4 from hk];have:=h.ge;omega),Ze h.own hs (fun b hb e=>Zq h.own h.z (by intro cur;simp) (by rw[hb,show b=p4 from e]))⟩
end
theorem Uw (W:World)(p:Nat)(c:ZW):Zb (fun k=>k=p) W (W.setRow p c):=Zb.of_grown (Yz W p c) (fun k e=>by cases e;rfl)
theorem Zc3 (x y:Int):Z3J x y=max x y:=by unfold Z3J;split <;> omega
def doC (S:Zj)(n:Z8)(c:Int):Z8 := { n with house:=S.id,num:=(S.c S.id:Int)+1,clock:=c }
theorem ZbD {S:Zj}(h:Xt S)(a:Int):S.c a<=400:=by
 by_cases h0:S.c a=0
 ·omega
 ·obtain⟨x,hx,e⟩:=(h.nms a (S.c a:Int)).2 ⟨by omega,Int.le_refl _⟩;have h1:=h.frm x hx;simp only[Zf,Bool.and_eq_true,ZI,YB]at h1;have h2:x.house=a/\x.num=(S.c a:Int):=by simpa [Zn] using e
  omega
theorem Z8f {S:Zj}{n:Z8}(h:n.Ok)(hf:Zf S.f (VK S n)=true):(VK S n).Ok:=by
 have h1:=Yq hf;have h2:=Vq hf;have h3:(VK S n).num<=400:=by
  simp only[Zf,Bool.and_eq_true,ZI,YB]at hf;omega
 exact⟨by unfold XU;omega,by unfold XU;omega,by unfold XU;omega,h.day,h.kind,h.stone,h.heap,h.turns,h.hardLo,h.hardHi,h.diffLo,h.diffHi,h.a,h.b,h.ring,h.refH,h.refN,h.fix,h.strokes⟩
theorem Zc5 {G:Nm->Option LN}{L:List Z8}{ks:List Nm}(gs : ∀k x,G k=some x->x.n∈L/\x.nm=k)(gl : ∀n∈L,∃x,G (Zn n)=some x/\x.n=n)(hsr:L.Pairwise ltN)(ha:XW G ks)(hs:ks.Pairwise (fun x y=>J5 x y=true)):(ks.filterMap G).map LN.n=L:=by
 refine Z3j ?_ hsr fun x=>?_
 ·rw[List.pairwise_map];clear ha
  induction ks with
  | nil=>exact List.Pairwise.nil
  | cons k ks ih=>
   rw[List.pairwise_cons]at hs;cases hk:G k with
   | none=>rw[List.filterMap_cons_none hk];exact ih hs.2
   | some x=>
    rw[List.filterMap_cons_some hk];refine List.pairwise_cons.2 ⟨fun y hy=>?_,ih hs.2⟩;obtain⟨k',hk',h'⟩:=List.mem_filterMap.1 hy;unfold ltN;rw[show Zn x.n=k from(gs k x hk).2,show Zn y.n=k' from(gs k' y h').2];exact hs.1 k' hk'
 ·constructor
  ·intro hx;obtain⟨y,hy,rfl⟩:=List.mem_map.1 hx;obtain⟨k,_,hk⟩:=List.mem_filterMap.1 hy;exact(gs k y hk).1
  ·intro hx;obtain⟨y,hy,rfl⟩:=gl x hx;exact List.mem_map_of_mem (List.mem_filterMap.2 ⟨_,ha _ (by rw[hy];rfl),hy⟩)
theorem ZcJ {G:Nm->Option LN}{L:List Z8}{x:LN}(gs : ∀k y,G k=some y->y.n∈L/\y.nm=k): ∀k y,YZ G (Zn x.n) x k=some y->y.n∈XY L x.n/\y.nm=k:=fun k y h=>by
 unfold YZ at h
 split at h
 ·rename_i e
  cases h
  exact⟨Xo.2 (.inr rfl),e.symm⟩
 ·obtain⟨h1,h2⟩:=gs k y h
  exact⟨Xo.2 (.inl h1),h2⟩
theorem ZcK {G:Nm->Option LN}{L:List Z8}{x:LN}(gl : ∀n∈L,∃y,G (Zn n)=some y/\y.n=n)(hf : ∀y∈L,Zn y≠Zn x.n): ∀n∈XY L x.n,∃y,YZ G (Zn x.n) x (Zn n)=some y/\y.n=n:=fun n hn=>by
 rcases Xo.1 hn with hn | rfl
 ·obtain⟨y,h1,h2⟩:=gl n hn
  exact⟨y,by unfold YZ;rw[if_neg (hf n hn)];exact h1,h2⟩
 ·exact⟨x,by unfold YZ;rw[if_pos rfl],rfl⟩
theorem Z8v {W W':World}{p k:Nat}{a:zA}{n c:Nat}{l:List Value}{A:ZW}{t:TypeId}{fr:Nat×Nat}(h:Y3 W k a n c l)(hs:Zb (fun q=>q=p) W W')(hp:W.heap[p]? = some (.cells A t fr))(hl : ∀v∈l,∃x,v = .int .i64 x)(hA : ∀v∈A.toList,∀x,v ≠ .int .i64 x):Y3 W' k a n c l:=by
 refine⟨h.1,h.2.1,h.2.2.1,h.2.2.2.imp id ?_⟩;rintro⟨b,off,rfl,h4⟩;refine⟨b,off,rfl,fun i v hv=>?_⟩;have h5:=h4 i v hv;have hb:b≠p:=fun e=>by
  subst e;simp only[World.cell?,hp]at h5;obtain⟨x,hx⟩:=hl v (List.mem_of_getElem? hv);rw[<-Array.getElem?_toList]at h5;exact hA v (List.mem_of_getElem? (by simpa using h5)) x hx
 rw[<-h5];exact World.cell?_of_block (hs.block b (World.block_lt_of_cell? W _ h5) hb)
theorem Zem {A1 A2 A3 A4 A5 A6:Type}{P T:A1->A2->A3->A4->A5->A6->Prop}{G:Prop}(h1:(∀x1 x2 x3 x4 x5 x6,P x1 x2 x3 x4 x5 x6->T x1 x2 x3 x4 x5 x6)->G)(h2 : ∀x1 x2 x3 x4 x5 x6,P x1 x2 x3 x4 x5 x6->T x1 x2 x3 x4 x5 x6):G:=h1 h2
section
attribute [local go_sem] ZT Xa J4 XI
end
def RS (l:zU)(k:Nat)(xs:List Int)(at_:Nat)(bad:Bool):Prop:=(bad=false/\XX ZdA k l=some (xs,l.drop at_))\/(bad=true/\XX ZdA k l=none)
section
variable {wf W W':World}{rp p1 nb:Nat}{m:Z8}{sa:zA}{sc:Nat}{l:zU}{a:zA}{n c at_ at':Nat}{bad bad':Bool}
end
section
attribute [local go_sem] ZT
end
end Go.Proofs.YtlnhppgfhkkidaaGreat
