/- Parts of the proof, in order. -/
import Derived.Deep.MidRow
import Derived.Shelf.SlSortCmp.WholeK
import Derived.Test.YtlnhppgfhkkidaaGreatProg
import Derived.Shelf.SlSortCmp.NoneTotal
import Derived.Test.YtlnhppgfhkkidaaGreatKPcl2
set_option linter.unusedSimpArgs false
set_option linter.unusedVariables false
set_option maxHeartbeats 32000000
set_option maxRecDepth 100000
namespace Go.Proofs.YtlnhppgfhkkidaaGreat
open Go.Proofs.Tryz renaming prog → zq
open Go.RowKit
def UP (W:World)(a:zA)(n c:Nat)(l:List Z8):Prop:=
 l.length=n/\n<=c/\c<=maxLen/\(c=0 \/ ∃b off,a=some ⟨b,off,none⟩ /\ ∀i x,l[i]? = some x -> ∃sa sc,W.rangeAt b (off+i * 19) (x.cells sa sc)/\XU W sa x.strokes.length sc x.strokes)
theorem XC {W W':World}{b o:Nat}{cs:List Value}(h:W.rangeAt b o cs)(hb:Below W.heap.size W W'):W'.rangeAt b o cs:=fun j v hv=>by
 have h1:=h j v hv
 exact(hb.cell (p:=⟨b,o+j,none⟩) (World.block_lt_of_cell? W _ h1)).trans h1
theorem UP.below {W W':World}{a:zA}{n c:Nat}{l:List Z8}(h:UP W a n c l)(hb:Below W.heap.size W W'):UP W' a n c l:=by
 refine⟨h.1,h.2.1,h.2.2.1,h.2.2.2.imp id ?_⟩;rintro⟨b,off,rfl,h4⟩;refine⟨b,off,rfl,fun i x hx=>?_⟩;obtain⟨sa,sc,h5,h6⟩:=h4 i x hx;exact⟨sa,sc,XC h5 hb,h6.below hb⟩
theorem UP.at {W:World}{a:zA}{n c:Nat}{l:List Z8}(h:UP W a n c l)(h0:0 < n): ∃b off,a=some ⟨b,off,none⟩ /\ ∀i x,l[i]? = some x -> ∃sa sc,W.rangeAt b (off+i * 19) (x.cells sa sc)/\XU W sa x.strokes.length sc x.strokes:=by
 rcases h.2.2.2 with h4 | h4
 ·have:=h.2.1;omega
 ·exact h4
def Vf (f:Yh)(l:List Z8)(i:Nat):Option Int:=match l[i]? with
 | none=>none
 | some x=>if Zg f x=false then some 80 else match (if i=0 then none else l[i - 1]?)with
  | none=>none
  | some y=>if Yx y.house y.num x.house x.num=0 then some 81 else if 0 < Yx y.house y.num x.house x.num then some 1 else none
def QR (f:Yh)(l:List Z8):Nat->Nat->Int×Nat
 | 0,_=>(0,0)
 | k+1,i=>match Vf f l i with
  | some e=>(e,i)
  | none=>QR f l k (i+1)
def Zy (f:Yh)(l:List Z8):Int×Nat:=if f.valid=false then (1,0)else if 400 < l.length then (2,0)else QR f l l.length 0
theorem UX {f:Yh}{l:List Z8}{n k:Nat}{e:Int}(hk:k < n)(h:Vf f l k=some e):QR f l (n - k) k=(e,k):=by
 obtain⟨m,hm⟩ : ∃m,n - k=m+1:=⟨n - k - 1,by omega⟩;rw[hm,QR,h]
theorem Z3y {f:Yh}{l:List Z8}{n k:Nat}(hk:k < n)(h:Vf f l k=none):QR f l (n - k) k=QR f l (n - (k+1)) (k+1):=by
 obtain⟨m,hm⟩ : ∃m,n - k=m+1:=⟨n - k - 1,by omega⟩;rw[hm,QR,h,show n - (k+1)=m by omega]
section
attribute [local go_sem] ZS
theorem Z6g (f:Yh)(a:zA)(n c:Nat)(l:List Z8)(w:World)(hr:UP w a n c l):
  Calls zq 174 #[f.val,.slice a n c] w fun e w'=>e = .returned (.tuple #[.int .i64 (Zy f l).1,.int .i64 (Zy f l).2])/\Below w.heap.size w w':=by
 have I43:=zH zI;have hL:=zH hr.1;have hn63:n<=9223372036854775807:=by have h1:=hr.2.1;have h2:=hr.2.2.1;unfold maxLen at h2;omega
 have e6:=Zv (w.alloc (zF f 23)) (zF f 174) (w.heap.size+1) (by simp);have bb:Below w.heap.size w ((w.alloc (zF f 23)).alloc (zF f 174)):=(zB _ _).alloc (by simp) _;have E6:=zH e6;clear e6;have BB0:=zH bb;clear bb;unfold Yh.val;go_enter Tryz.func174,Tryz.ntmps174;go_wp2_with fail;generalize (w.alloc (zF f 23)).alloc (zF f 174)=W0 at *;obtain⟨p,hp⟩:=zX (w.heap.size);obtain⟨p6,hp6⟩:=zX (w.heap.size+1);rw[hp6.out]at E6;rw[hp.out]at BB0;rw[hp6.out,hp.out];refine(Z53 f.rings f.sectors f.wide _).mono ?_;rintro e w1 ⟨rfl,b1⟩;have B1:=zH (BB0.out.trans (b1.mono (by rw[<-hp.out];exact BB0.out.size)));have F1:=zH ((b1.block _ (Array.getElem?_eq_some_iff.1 E6.out).1).trans E6.out);clear b1 E6 BB0;have RX0:=zH (show ∀W',Below p w W'->UP W' a n c l from fun W' hb=>hr.below (by rw[hp.out];exact hb));clear hr;cases hv:f.valid
 ·have HR:=zH (show Zy f l=(1,0)by unfold Zy;rw[if_pos hv]);clear hv;go_wp2_with fail;go_returns;rw[HR.out];exact⟨rfl,by rw[hp.out];exact B1.out⟩
 ·have HV:=zH hv;clear hv;by_cases h4:400 < n
  ·have HR:=zH (show Zy f l=(2,0)by unfold Zy;rw[if_neg (by rw[HV.out];decide),if_pos (by rw[hL.out];exact h4)]);have t4:decide ((400:Int) < (n:Int))=true:=by simp;omega
   go_wp2_with fail;go_returns;rw[HR.out];exact⟨rfl,by rw[hp.out];exact B1.out⟩
  ·have HG0:=zH (show Zy f l=QR f l n 0 by unfold Zy;rw[if_neg (by rw[HV.out];decide),if_neg (by rw[hL.out];exact h4),hL.out]);have t4:decide ((400:Int) < (n:Int))=false:=by simp;omega
   go_wp2_with fail;go_loopw [22] (fun i wr=>∃k:Nat,i = .int .i64 k/\k<=n/\Hid (Zy f l=QR f l (n - k) k)/\Hid (Below w.heap.size w wr)/\Hid (wr.heap[p6]? = some (.cells #[.int .i64 f.rings,.int .i64 f.sectors,.int .i64 f.wide] 174))) (fun i _=>n - (intOf i).toNat)
   case atStart=>exact⟨0,rfl,Nat.zero_le _,HG0,by rw[hp.out];exact B1,F1⟩
   case round=>
    obtain⟨k,rfl,hk,HG,HB,HF6⟩:=hrel;rw[hp.out]at HB;by_cases hlt:k < n
    ·obtain⟨x,hx⟩ : ∃x,l[k]? = some x:=⟨_,List.getElem?_eq_getElem (by rw[hL.out];exact hlt)⟩;have HX:=zH hx;obtain⟨b,off,rfl,hall⟩:=(RX0.out _ HB.out).at (by omega);obtain⟨sa,sc,hrange,hrd⟩:=hall k x hx;have HRA:=zH hrange;have RX:=zH (show ∀W',Below wr.heap.size wr W'->XU W' sa x.strokes.length sc x.strokes from fun W' hb=>hrd.below hb);have HALL:=zH hall;clear hall hx hrange hrd;have hk63:(k:Int)<=9223372036854775807:=by omega
     go_upto_region 9 with (first
      |(refine wpList_load_mid rfl 47 _ rfl b (off+k * 19) rfl (x.cells sa sc) _ HRA.out Tryz.underlying47 rfl (Z13 x sa sc) ?_)
      |(refine zP wr wr.heap.size (Z5 x sa sc) ?_))
     have hbt:Below wr.heap.size wr (wr.alloc (.cells (Z5 x sa sc) 47)):=zB _ _;have TT:=zH (Z9 wr (.cells (Z5 x sa sc) 47));have FF:=zH ((hbt.block _ (Array.getElem?_eq_some_iff.1 HF6.out).1).trans HF6.out);have BB:=zH (HB.out.trans (hbt.mono (by rw[<-hp.out];exact HB.out.size)));have BW:=zH hbt;clear hbt;obtain⟨p8,hp8⟩:=zX (wr.heap.size);rw[hp8.out]at TT ⊢;generalize wr.alloc (.cells (Z5 x sa sc) 47)=wt at *;by_cases hk0:k=0
     ·have HK0:=zH hk0;have k0a:decide (0 < k)=false:=by simp;omega
      clear hk0;go_upto_region 12 with fail;have c0:=Z6 FF.out 0 _ rfl;have c1:=Z6 FF.out 1 _ rfl;have c2:=Z6 FF.out 2 _ rfl;go_wp2_with (refine zL p8 TT.out ?_);refine(Z1b f x sa sc _ HV.out (RX.out _ BW.out)).mono ?_;rintro e w5 ⟨rfl,b5⟩;have B5:=zH (BB.out.trans (b5.mono (by rw[<-hp.out];exact BB.out.size)));have F5:=zH ((b5.block _ (Array.getElem?_eq_some_iff.1 FF.out).1).trans FF.out);clear b5 c0 c1 c2;cases hf:Zg f x
      ·have HR:=zH (show Zy f l=(80,k)by rw[HG.out];exact UX hlt (by unfold Vf;rw[HX.out];simp only;rw[if_pos hf]));clear hf;go_wp2_with fail;go_returns;rw[HR.out];exact⟨rfl,by rw[hp.out];exact B5.out⟩
      ·have HR:=zH (show QR f l (n - k) k=QR f l (n - (k+1)) (k+1)from Z3y hlt (by unfold Vf;rw[HX.out];simp only;rw[if_neg (by rw[hf];decide),if_pos HK0.out]));clear hf;go_wp2;go_roundw
       case rel=>exact⟨k+1,by go_num,by omega,zH (by rw[<-HR.out];exact HG.out),by rw[hp.out];exact B5,F5⟩
       case measure=>simp[intOf];omega
     ·have HK0:=zH hk0;obtain⟨j,rfl⟩ : ∃j,k=j+1:=⟨k - 1,by omega⟩;have k0a:decide (0 < j+1)=true:=by simp
      clear hk0;obtain⟨y,hy⟩ : ∃y,l[j]? = some y:=⟨_,List.getElem?_eq_getElem (by rw[hL.out];omega)⟩;obtain⟨ya,yc,hyr,_⟩:=HALL.out j y hy;have HYR:=zH (XC hyr BW.out);have HY:=zH (show l[j+1 - 1]? = some y by rw[Nat.add_sub_cancel];exact hy);have hjn:j < n:=by omega
      have hwj:IntKind.i64.wrap (j:Int)=(j:Int):=by first|(rw[IntKind.wrap_i64];omega)|(rw[IntKind.wrap_i64];unfold wrap64;omega)
      clear hy hyr;go_upto_region 11 with fail;have hS0:Below wt.heap.size wt wt.drew:=(zd wt);have HS0:=zH hS0;refine wp_region_noPanic ?_;refine wp_region_held_drew (S:=fun w'=>Below wt.heap.size wt w') (by kernel_rfl) hS0 (fun hh=>?_);clear hS0;refine zS 0 rfl (.slice (some ⟨b,off,none⟩) n c) (fun W _=>by go_simp) ?_;refine zS 1 rfl (.int .i64 ((j:Int)+1)) (fun W _=>by go_simp) ?_;refine zS 2 rfl (.int .i64 (j:Int)) (fun W _=>by go_simp) ?_;refine zS 3 rfl (.pointer (some ⟨b,off+j * 19,none⟩)) (fun W _=>by go_simp) ?_;refine zT 4 rfl (.agg (y.cells ya yc).toArray) (yieldsIf_load_mid (by rfl) 47 _ rfl b (off+j * 19) rfl (y.cells ya yc) _ (fun W h=>XC HYR.out h) Tryz.underlying47 rfl (Z13 y ya yc)) ?_;refine zT 6 rfl (.agg (Z5 x sa sc)) (YB (by rfl) 47 _ rfl p8 rfl _ 47 (0,0) _ (fun W h=>(h.block _ (Array.getElem?_eq_some_iff.1 TT.out).1).trans TT.out) Tryz.underlying47 rfl (I43.out _ _ _)) ?_;refine zR 5 rfl fun K hK=>?_;go_simp;go_at_call 167;refine(Yc y ya yc _).mono ?_;rintro e v1 ⟨rfl,b1⟩;have V1:=zH (HS0.out.trans (b1.mono HS0.out.size));clear b1;dsimp only;refine zK hK V1.out fun hh=>?_;clear hK K;refine zR 7 rfl fun K hK=>?_;go_simp;go_at_call 167;refine(Yc x sa sc _).mono ?_;rintro e v2 ⟨rfl,b1⟩;have V2:=zH (V1.out.trans (b1.mono V1.out.size));clear b1;dsimp only;refine zK hK V2.out fun hh=>?_;clear hK K;obtain⟨o,HO⟩ : ∃o,Hid (o=Yx y.house y.num x.house x.num):=⟨_,zH rfl⟩;refine zR 8 rfl fun K hK=>?_;go_simp;go_at_call 124;refine(UK y.house y.num x.house x.num _).mono ?_;rintro e v3 ⟨rfl,b1⟩;have V3:=zH (V2.out.trans (b1.mono V2.out.size));clear b1;rw[<-HO.out];dsimp only;refine zK hK V3.out fun hh=>?_;clear hK K;refine zS 9 rfl (.int .i64 o) (fun W _=>by go_simp) ?_;refine zE ?_;replace TT:=zH ((V3.out.block _ (Array.getElem?_eq_some_iff.1 TT.out).1).trans TT.out);replace FF:=zH ((V3.out.block _ (Array.getElem?_eq_some_iff.1 FF.out).1).trans FF.out);replace BB:=zH (BB.out.trans (V3.out.mono (by rw[<-hp.out];exact BB.out.size)));replace BW:=zH (BW.out.trans (V3.out.mono BW.out.size))
      clear V1 V2 V3 HS0 HYR;go_upto_region 12 with fail;have c0:=Z6 FF.out 0 _ rfl;have c1:=Z6 FF.out 1 _ rfl;have c2:=Z6 FF.out 2 _ rfl;go_wp2_with (refine zL p8 TT.out ?_);refine(Z1b f x sa sc _ HV.out (RX.out _ BW.out)).mono ?_;rintro e w5 ⟨rfl,b5⟩;have B5:=zH (BB.out.trans (b5.mono (by rw[<-hp.out];exact BB.out.size)));have F5:=zH ((b5.block _ (Array.getElem?_eq_some_iff.1 FF.out).1).trans FF.out);clear b5 c0 c1 c2;cases hf:Zg f x
      ·have HR:=zH (show Zy f l=(80,j+1)by rw[HG.out];exact UX hlt (by unfold Vf;rw[HX.out];simp only;rw[if_pos hf]));clear hf;go_wp2_with fail;go_returns;rw[HR.out];exact⟨rfl,by rw[hp.out];exact B5.out⟩
      ·have HF:=zH hf;clear hf;by_cases ho:o=0
       ·have ho1:(o==0)=true:=by simp[ho]
        have HR:=zH (show Zy f l=(81,j+1)by rw[HG.out];exact UX hlt (by unfold Vf;rw[HX.out];simp only;rw[if_neg (by rw[HF.out];decide),if_neg HK0.out,HY.out];simp only;rw[<-HO.out,if_pos ho]));clear ho;go_wp2_with fail;go_returns;rw[HR.out];exact⟨rfl,by rw[hp.out];exact B5.out⟩
       ·have ho1:(o==0)=false:=by simp[ho]
        by_cases hp2:0 < o
        ·have ho2:decide (0 < o)=true:=by simp[hp2]
         have HR:=zH (show Zy f l=(1,j+1)by rw[HG.out];exact UX hlt (by unfold Vf;rw[HX.out];simp only;rw[if_neg (by rw[HF.out];decide),if_neg HK0.out,HY.out];simp only;rw[<-HO.out,if_neg ho,if_pos hp2]));clear ho hp2;go_wp2_with fail;go_returns;rw[HR.out];exact⟨rfl,by rw[hp.out];exact B5.out⟩
        ·have ho2:decide (0 < o)=false:=by simp;omega
         have HR:=zH (show QR f l (n - (j+1)) (j+1)=QR f l (n - (j+1+1)) (j+1+1)from Z3y hlt (by unfold Vf;rw[HX.out];simp only;rw[if_neg (by rw[HF.out];decide),if_neg HK0.out,HY.out];simp only;rw[<-HO.out,if_neg ho,if_neg hp2]));clear ho hp2;go_wp2;go_roundw
         case rel=>exact⟨j+1+1,by go_num,by omega,zH (by rw[<-HR.out];exact HG.out),by rw[hp.out];exact B5,F5⟩
         case measure=>simp[intOf];omega
    ·have hkn:k=n:=by omega
     subst hkn;have HR:=zH (show Zy f l=(0,0)by rw[HG.out,Nat.sub_self];rfl);go_wp2_with fail;go_returns;rw[HR.out];exact⟨rfl,by rw[hp.out];exact HB.out⟩
end
structure LN where
 n:Z8
 sa:zA
 sc:Nat
def LN.val (x:LN):Value := .agg (Z5 x.n x.sa x.sc)
def LN.nm (x:LN):Nm:=(x.n.house,x.n.num)
def LN.ok (W:World)(x:LN):Prop:=XU W x.sa x.n.strokes.length x.sc x.n.strokes
theorem LN.ok.below {W W':World}{x:LN}(h:x.ok W)(hb:Below W.heap.size W W'):x.ok W':=XU.below h hb
def UQ (W:World)(a:zA)(n c:Nat)(xs:List LN):Prop:=
 xs.length=n/\n<=c/\c<=maxLen/\(c=0 \/ ∃b off,a=some ⟨b,off,none⟩ /\ ∀i x,xs[i]? = some x->W.rangeAt b (off+i * 19) (x.n.cells x.sa x.sc)/\x.ok W)
theorem UQ.below {W W':World}{a:zA}{n c:Nat}{l:List LN}(h:UQ W a n c l)(hb:Below W.heap.size W W'):UQ W' a n c l:=by
 refine⟨h.1,h.2.1,h.2.2.1,h.2.2.2.imp id ?_⟩;rintro⟨b,off,rfl,h4⟩;refine⟨b,off,rfl,fun i x hx=>?_⟩;obtain⟨h5,h6⟩:=h4 i x hx;exact⟨XC h5 hb,h6.below hb⟩
theorem UQ.at {W:World}{a:zA}{n c:Nat}{l:List LN}(h:UQ W a n c l)(h0:0 < n): ∃b off,a=some ⟨b,off,none⟩ /\ ∀i x,l[i]? = some x->W.rangeAt b (off+i * 19) (x.n.cells x.sa x.sc)/\x.ok W:=by
 rcases h.2.2.2 with h4 | h4
 ·have:=h.2.1;omega
 ·exact h4
theorem Z5z: ∀(l:List Z8) (P:Nat->LN->Prop),(∀i x,l[i]? = some x -> ∃y:LN,y.n=x/\P i y) -> ∃xs:List LN,xs.map LN.n=l /\ ∀i y,xs[i]? = some y->P i y
 | [],_,_=>⟨[],rfl,by simp⟩
 | x :: l,P,h=>by
  obtain⟨y,h1,h2⟩:=h 0 x rfl
  obtain⟨xs,h3,h4⟩:=Z5z l (fun i=>P (i+1)) (fun i x hx=>h (i+1) x hx)
  refine⟨y :: xs,by simp[h1,h3],fun i z hz=>?_⟩
  cases i with
  | zero=>simp at hz;exact hz ▸ h2
  | succ i=>exact h4 i z hz
theorem UP.choose {W:World}{a:zA}{n c:Nat}{l:List Z8}(h:UP W a n c l): ∃xs:List LN,xs.map LN.n=l/\UQ W a n c xs:=by
 obtain⟨h1,h2,h3,h4⟩:=h;rcases h4 with h4 | ⟨b,off,rfl,h4⟩
 ·have:l=[]:=List.eq_nil_of_length_eq_zero (by omega);subst this;exact⟨[],rfl,h1,h2,h3,.inl h4⟩
 ·obtain⟨xs,h5,h6⟩:=Z5z l (fun i y=>W.rangeAt b (off+i * 19) (y.n.cells y.sa y.sc)/\y.ok W) (fun i x hx=>by
   obtain⟨sa,sc,h7,h8⟩:=h4 i x hx;exact⟨⟨x,sa,sc⟩,rfl,h7,h8⟩)
  exact⟨xs,h5,by rw[<-h1,<-h5];simp,h2,h3,.inr ⟨b,off,rfl,h6⟩⟩
def YA (xs:List LN):Nm->Option LN:=xs.foldl (fun f x=>Yv f x.nm x) (fun _=>none)
theorem Z9w (xs:List LN)(x:LN):YA (xs ++ [x])=Yv (YA xs) x.nm x:=by simp[YA,List.foldl_append]
theorem JD {α:Type}{xs:List α}{k:Nat}{x:α}(h:xs[k]? = some x):xs.take (k+1)=xs.take k ++ [x]:=by
 rw[List.take_add_one,h];rfl
def Z8K (f:Yh)(l:List Z8)(w:World)(e:Ending)(w':World):Prop:=
 ((Zy f l).1≠0/\e = .returned (.tuple #[.map none,.bool false])) \/
 ((Zy f l).1=0 /\ ∃xs b,e = .returned (.tuple #[.map (some b),.bool true])/\xs.map LN.n=l/\(∀x∈xs,x.ok w')/\Y4 LN.val w' b l.length (YA xs)/\w.heap.size<=b)
section
attribute [local go_sem] ZS
theorem Z9u (f:Yh)(a:zA)(n c:Nat)(l:List Z8)(w:World)(hr:UP w a n c l)(hok : ∀x∈l,x.Ok):
  Calls zq 121 #[f.val,.slice a n c] w fun e w'=>Z8K f l w e w'/\Below w.heap.size w w':=by
 have I43:=zH zI;obtain⟨xs,hxs,hR⟩:=hr.choose;have HXS:=zH hxs;have HOK:=zH (show ∀x∈xs,Um x.nm from fun x hx=>by
  have:=hok x.n (by rw[<-hxs];exact List.mem_map_of_mem hx);exact⟨this.house,this.num⟩)
 have HLen:=zH (show l.length=n from hr.1);have HL:=zH hR.1;have HN:=zH (show n<=maxLen by have:=hr.2.1;have:=hr.2.2.1;omega);have hn63:n<=9223372036854775807:=by have h1:=HN.out;unfold maxLen at h1;omega
 have RX0:=zH (show ∀W',Below w.heap.size w W'->UQ W' a n c xs from fun W' hb=>hR.below hb);have CS:=zH (fun W (hb:Below w.heap.size w W)=>Z6g f a n c l W (hr.below hb));unfold Yh.val at CS;have SE0:=zH (show ∀e w',(Zy f l).1≠0->e = .returned (.tuple #[.map none,.bool false])->Z8K f l w e w' from fun e w' h1 h2 => .inl ⟨h1,h2⟩);have SE1:=zH (show ∀e w' b,(Zy f l).1=0->e = .returned (.tuple #[.map (some b),.bool true])->(∀x∈xs,x.ok w')->Y4 LN.val w' b n (YA xs)->w.heap.size<=b->Z8K f l w e w' from fun e w' b h1 h2 h3 h4 h5 => .inr ⟨h1,xs,b,h2,hxs,h3,by rw[HLen.out];exact h4,h5⟩);clear hxs hR hr hok;obtain⟨z,HZ⟩:=zX ((Zy f l).1);obtain⟨y,HY⟩:=zX ((Zy f l).2);rw[HZ.out,HY.out]at CS;rw[HZ.out]at SE0 SE1;unfold Yh.val;have bb:=zB w (zF f 23);have BB:=zH bb;clear bb;go_enter Tryz.func121,Tryz.ntmps121;go_wp2_with fail;refine(CS.out _ BB.out).mono ?_;rintro e w1 ⟨rfl,b1⟩;have B1:=zH (BB.out.trans (b1.mono BB.out.size));clear b1;by_cases h0:z=0
 ·have t0:(z != 0)=false:=by simp[h0]
  have H0:=zH h0;clear h0;have M0:=zH (Y4.made (enc:=LN.val) w1);have hmm := @run_makeMap zq;have B2:=zH (B1.out.alloc B1.out.size (.map #[] 0));obtain⟨b,hb⟩:=zX (w1.heap.size);have HB:=zH (show w.heap.size<=b by rw[<-hb.out];exact B1.out.size);rw[hb.out]at M0;go_wp2_with fail;rw[hb.out];clear hmm;go_loopw [22] (fun i wr=>∃k:Nat,i = .int .i64 k/\k<=n/\Hid (Below w.heap.size w wr)/\Hid (Y4 LN.val wr b k (YA (xs.take k)))) (fun i _=>n - (intOf i).toNat)
  case atStart=>exact⟨0,rfl,Nat.zero_le _,B2,M0⟩
  case round=>
   obtain⟨k,rfl,hk,HBr,HM⟩:=hrel;by_cases hlt:k < n
   ·obtain⟨x,hx⟩ : ∃x,xs[k]? = some x:=⟨_,List.getElem?_eq_getElem (by rw[HL.out];exact hlt)⟩;have HX:=zH hx;have HXok:=zH (HOK.out x (List.mem_of_getElem? hx));obtain⟨bs,off,rfl,hall⟩:=(RX0.out _ HBr.out).at (by omega);obtain⟨hrange,_⟩:=hall k x hx;have HRA:=zH hrange;clear hall hx hrange;have hk63:(k:Int)<=9223372036854775807:=by omega
    go_upto_region 8 with (first
     |(refine wpList_load_mid rfl 47 _ rfl bs (off+k * 19) rfl (x.n.cells x.sa x.sc) _ HRA.out Tryz.underlying47 rfl (Z13 x.n x.sa x.sc) ?_)
     |(refine zP wr wr.heap.size (Z5 x.n x.sa x.sc) ?_))
    have hbt:Below wr.heap.size wr (wr.alloc (.cells (Z5 x.n x.sa x.sc) 47)):=zB _ _;have TT:=zH (Z9 wr (.cells (Z5 x.n x.sa x.sc) 47));have BT:=zH (HBr.out.trans (hbt.mono HBr.out.size));have MT:=zH (HM.out.below hbt);obtain⟨p8,hp8⟩:=zX (wr.heap.size);have HNE:=zH (show b < p8 by rw[<-hp8.out];exact HM.out.lt);rw[hp8.out]at TT ⊢;generalize wr.alloc (.cells (Z5 x.n x.sa x.sc) 47)=wt at *;clear hbt;refine zp TT.out fun hh=>?_;refine zS 0 rfl (.map (some b)) (fun W _=>by go_simp) ?_;refine zT 1 rfl (.agg (Z5 x.n x.sa x.sc)) (YB (by rfl) 47 _ rfl p8 rfl _ 47 (0,0) _ (fun W h=>h) Tryz.underlying47 rfl (I43.out _ _ _)) ?_;refine zT 3 rfl (.agg (Z5 x.n x.sa x.sc)) (YB (by rfl) 47 _ rfl p8 rfl _ 47 (0,0) _ (fun W h=>h) Tryz.underlying47 rfl (I43.out _ _ _)) ?_;refine zR 2 rfl fun K hK=>?_;go_simp;go_at_call 167;refine(Yc x.n x.sa x.sc _).mono ?_;rintro e v1 ⟨rfl,b1⟩;have b2:Below wt.heap.size wt v1:=((zd wt)).trans b1;have V1:=zH (BT.out.trans (b2.mono BT.out.size));have M1:=zH (MT.out.below b2);have T1:=zH ((b2.block _ (Array.getElem?_eq_some_iff.1 TT.out).1).trans TT.out);clear b1 b2;dsimp only;refine zK hK T1.out fun hh=>?_;clear hK K;refine zR 4 rfl fun K hK=>?_;have hput:=Qx (t:=119) M1.out (by have:=HN.out;omega) Tryz.underlying119 x.n.house x.n.num HXok.out x;obtain⟨v2,hrun,hm2,ht2⟩:=hput;have M2:=zH hm2;have V2:=zH (V1.out.grown ht2.grown V1.out.size (fun q hq=>by cases hq;exact HB.out));have T2:=zH ((ht2.grown.block p8 (Array.getElem?_eq_some_iff.1 T1.out).1 (fun he=>by cases he;exact absurd HNE.out (Nat.lt_irrefl _))).trans T1.out);clear hm2 ht2;unfold LN.val at hrun;go_simp;refine zK hK T2.out fun hh=>?_;clear hK K;refine zE ?_;go_wp2;go_roundw
    case rel=>exact⟨k+1,by go_num,by omega,V2,zH (by rw[JD HX.out,Z9w];exact M2.out)⟩
    case measure=>simp[intOf];omega
   ·have hkn:k=n:=by omega
    subst hkn;have HF:=zH (show Y4 LN.val wr b k (YA xs)by have:=HM.out;rw[List.take_of_length_le (by rw[HL.out];exact Nat.le_refl _)]at this;exact this);have HA:=zH (show ∀x∈xs,x.ok wr from fun x hx=>by
     obtain⟨i,hi⟩:=List.getElem?_of_mem hx;have hi2:i < xs.length:=(List.getElem?_eq_some_iff.1 hi).1;obtain⟨_,_,_,hall⟩:=(RX0.out _ HBr.out).at (by rw[<-HL.out];omega);exact(hall i x hi).2)
    go_wp2_with fail;go_returns;exact⟨SE1.out _ _ _ H0.out rfl HA.out HF.out HB.out,HBr.out⟩
 ·have t0:(z != 0)=true:=by simp[h0]
  have H0:=zH h0;clear h0;go_wp2_with fail;go_returns;exact⟨SE0.out _ _ H0.out rfl,B1.out⟩
end
theorem Yp (w:World)(p:Nat)(c c':ZV)(t:TypeId)(fr:Nat×Nat)(hp:w.heap[p]? = some (.cells c t fr)):(w.setRow p c').heap[p]? = some (.cells c' t fr):=by
 simp only[World.setRow,Array.getElem?_modify,hp];simp
theorem Yr (w:World)(p:Nat)(c':ZV):w.grownBy (w.setRow p c') (some p):=
 ⟨rfl,rfl,rfl,by simp[World.setRow],fun k _ hk=>by
  have : ¬p=k:=fun e=>hk (by rw[e])
  simp[World.setRow,Array.getElem?_modify,this]⟩
theorem Z0V {w w':World}(h:Below w.heap.size w w')(r:Option Nat):w.grownBy w' r:=⟨h.os,h.tape,h.output,h.size,fun k hk _=>h.block k hk⟩
theorem Zc {w w':World}{row:Option Nat}{p:Nat}{o:Obj}(hg:w.grownBy w' row)(h:w.heap[p]? = some o)(hne:some p≠row):w'.heap[p]? = some o:=
 (hg.block p (Array.getElem?_eq_some_iff.1 h).1 hne).trans h
theorem Z7 {w w':World}{p:Nat}{o:Obj}(hg:Below w.heap.size w w')(h:w.heap[p]? = some o):w'.heap[p]? = some o:=
 (hg.block p (Array.getElem?_eq_some_iff.1 h).1).trans h
theorem Zj {w:World}{p:Nat}{o:Obj}(h:w.heap[p]? = some o):p < w.heap.size:=(Array.getElem?_eq_some_iff.1 h).1
section
attribute [local go_sem] XZ
theorem Zbk (n:Z8)(sa:zA)(sc:Nat)(h m:Int)(q:Nat)(clock:Int)(w:World)(hq:w.heap[q]? = some (.cells #[.int .i64 clock] 3)):
  Calls zq 150 #[.agg #[.int .i64 h,.int .i64 m],.agg (Z5 n sa sc),.pointer (some ⟨q,0,none⟩)] w fun e w'=>e = .returned (.bool (decide (clock < n.clock)))/\Below w.heap.size w w':=by
 have B:=zH ((zB w (.cells #[.int .i64 h,.int .i64 m] 45)).alloc (by simp) (.cells (Z5 n sa sc) 47));have hl:=Zv (w.alloc (.cells #[.int .i64 h,.int .i64 m] 45)) (.cells (Z5 n sa sc) 47) (w.heap.size+1) (by simp);have c2:=Z6 hl 2 (.int .i64 n.clock) rfl;have q2:=Z6 (Zb _ (.cells (Z5 n sa sc) 47) _ _ (Zb w (.cells #[.int .i64 h,.int .i64 m] 45) _ _ hq)) 0 (.int .i64 clock) rfl;clear hl;go_enter Tryz.func150,Tryz.ntmps150;go_wp2;go_ret;exact⟨rfl,B.out⟩
end
def Ue (clock:Int)(f:Nm->Option LN)(ks:List Nm):Nm->Option LN:=fun a=>if a∈ks then (f a).filter (fun x=>!decide (clock < x.n.clock))else f a
theorem Z8g {clock:Int}{f:Nm->Option LN}{ks:List Nm}{k:Nm}{x:LN}(hf:f k=some x)(h:decide (clock < x.n.clock)=false):Ue clock f (ks ++ [k])=Ue clock f ks:=by
 funext a;unfold Ue;by_cases e:a=k
 ·subst e;simp[hf,Option.filter,h]
 ·simp[e]
theorem Z9Q {clock:Int}{f:Nm->Option LN}{ks:List Nm}{k:Nm}{x:LN}(hf:f k=some x)(h:decide (clock < x.n.clock)=true):Ue clock f (ks ++ [k])=Z6d (Ue clock f ks) k:=by
 funext a;unfold Ue Z6d;by_cases e:a=k
 ·subst e;simp[hf,Option.filter,h]
 ·simp[e]
theorem zf {clock:Int}{f:Nm->Option LN}{ks:List Nm}{k:Nm}(hk:k ∉ ks):Ue clock f ks k=f k:=by simp[Ue,hk]
theorem Z9R {clock:Int}{f:Nm->Option LN}{ks:List Nm}(h : ∀k,(Ue clock f ks k).isSome=true->k∈ks):Ue clock f ks=fun a=>(f a).filter (fun x=>!decide (clock < x.n.clock)):=by
 funext a;by_cases e:a∈ks
 ·simp[Ue,e]
 ·have h1:=h a;rw[zf e]at h1;rw[zf e];cases hf:f a with
  | none=>rfl
  | some x=>exact absurd (h1 (by rw[hf];rfl)) e
theorem Z8B (b n:Nat)(f:Nm->Option LN)(q:Nat)(clock:Int)(w:World)(hm:Y4 LN.val w b n f)(hq:w.heap[q]? = some (.cells #[.int .i64 clock] 3)):
  Calls zq 149 #[.map (some b),.func (.func 150) #[] #[.pointer (some ⟨q,0,none⟩)]] w fun e w'=>
   e = .returned (.tuple #[])/\Y4 LN.val w' b n (fun a=>(f a).filter (fun x=>!decide (clock < x.n.clock)))/\w.grownBy w' (some b):=by
 have I43:=zH zI;have I41:=zH (show ∀(x y:Int),(zq.info? 45).map (·.size)=some (#[Value.int .i64 x,Value.int .i64 y]).size from fun x y=>by kernel_rfl);have hbw:=hm.lt;have HBW:=zH hbw;clear hbw;have HQ:=zH hq;clear hq;have HNE:=zH (show q≠b from fun e=>by
  subst e;obtain⟨D,⟨es,clock,h1,_⟩,_⟩:=hm;rw[HQ.out]at h1;cases h1)
 go_enter Tryz.func149,Tryz.ntmps149;go_wp2_with (first
  |(at_range;refine J7 _ rfl _ 119 47 rfl Tryz.underlying119 b n rfl hm ?_;intro w0 cnt0 hrg0 hg0 hs0)
  | fail)
 go_frame;obtain⟨r,hr⟩:=zX (w.heap.size);have HQ0:=zH (Zc hg0 HQ.out (by simp));have G0:=zH (hg0.but (some b));rw[hr.out]at hrg0;rw[hr.out];clear hm hg0 hs0;go_loopw [8] (fun _ wr=>∃(ks:List Nm) (cnt:Nat),Hid (Ya LN.val wr b r n (Ue clock f ks) ks cnt)/\Hid (w.grownBy wr (some b))/\Hid (wr.heap[q]? = some (.cells #[.int .i64 clock] 3))) (fun _ wr=>wr.rangeLeft b r)
 case atStart=>exact⟨[],cnt0,zH (by rw[show Ue clock f []=f from funext fun a=>by simp[Ue]];exact hrg0),G0,HQ0⟩
 case round=>
  obtain⟨ks,cnt,HR,HG,HC⟩:=hrel;clear HQ0 hrg0 G0;go_upto_region 2 with (first
   |(at_next;refine Jo wr rfl _ rfl b r n cnt ks rfl HR.out ?_ ?_)
   | fail)
  ·intro hall;have HE:=zH (show Y4 LN.val wr b n (fun a=>(f a).filter (fun x=>!decide (clock < x.n.clock)))by rw[<-Z9R hall];exact HR.out.map);clear hall;go_wp2;go_end0;exact⟨rfl,HE.out,HG.out⟩
  ·intro kh km y w1 cnt1 HN hen;unfold LN.val at hen;have HC1:=zH (Zc HN.out.grown HC.out (fun e=>by
    have e':=Option.some.inj e;have h1:=Zj HQ.out;have h2:=hr.out;omega))
   have HG1:=zH (HG.out.andThen HN.out.grown (fun j hj=>by cases hj;exact .inl (by rw[hr.out];exact Nat.le_refl _)));have HR1:=zH HN.out.range;go_upto_region 3 with (first
    |(refine Zr (w1.alloc (.cells #[.int .i64 kh,.int .i64 km] 45)) rfl 47 _ _ rfl (w1.heap.size+1) (by simp) _ (Z5 y.n y.sa y.sc) rfl rfl (I43.out _ _ _) rfl (Zm y.n y.sa y.sc) ?_))
   have BT:=zH ((zB w1 (.cells #[.int .i64 kh,.int .i64 km] 45)).alloc (by simp) (.cells (Z5 y.n y.sa y.sc) 47));have T4:=zH (Zb _ (.cells (Z5 y.n y.sa y.sc) 47) _ _ (Z9 w1 (.cells #[.int .i64 kh,.int .i64 km] 45)));have T5:=zH (Zv (w1.alloc (.cells #[.int .i64 kh,.int .i64 km] 45)) (.cells (Z5 y.n y.sa y.sc) 47) (w1.heap.size+1) (by simp));generalize (w1.alloc (.cells #[.int .i64 kh,.int .i64 km] 45)).alloc (.cells (Z5 y.n y.sa y.sc) 47)=wt at *;obtain⟨p4,hp4⟩:=zX (w1.heap.size);obtain⟨p5,hp5⟩:=zX (w1.heap.size+1);rw[hp5.out]at T5 ⊢;rw[hp4.out]at T4 ⊢;have RT:=zH (HR1.out.below BT.out);have CT:=zH (Z7 BT.out HC1.out);have GT:=zH (HG1.out.andThen (Z0V BT.out none) (fun j hj=>by cases hj));have n0:=Z6 T4.out 0 (.int .i64 kh) rfl;have n1:=Z6 T4.out 1 (.int .i64 km) rfl;have LB:=zH (show b < wt.heap.size from RT.out.map.lt);clear hen;go_wp2_with (first
    |(refine zL p5 T5.out ?_))
   refine(Zbk y.n y.sa y.sc kh km q clock wt CT.out).mono ?_;rintro e w2 ⟨rfl,b2⟩;have R2:=zH (RT.out.below b2);have C2:=zH (Z7 b2 CT.out);have G2:=zH (GT.out.andThen (Z0V b2 none) (fun j hj=>by cases hj));have T42:=zH (Z7 b2 T4.out);clear b2 n0 n1;have n0:=Z6 T42.out 0 (.int .i64 kh) rfl;have n1:=Z6 T42.out 1 (.int .i64 km) rfl;cases hc:decide (clock < y.n.clock)
   ·have HE:=zH (Z8g (clock:=clock) (ks:=ks) (show f (kh,km)=some y by rw[<-zf (clock:=clock) (f:=f) HN.out.new];exact HN.out.at_) hc);clear hc;go_wp2;go_roundw
    case rel=>exact⟨_,_,zH (by rw[HE.out];exact R2.out),G2,C2⟩
    case measure=>rw[R2.out.left_eq,HR.out.left_eq];exact HN.out.lt
   ·have HE:=zH (Z9Q (clock:=clock) (ks:=ks) (show f (kh,km)=some y by rw[<-zf (clock:=clock) (f:=f) HN.out.new];exact HN.out.at_) hc);clear hc;go_wp2_with (first
     |(at_delete;refine Z4E w2 rfl _ _ 119 47 rfl Tryz.underlying119 b r n _ _ (kh,km) rfl R2.out rfl HN.out.ok (by simp) ?_;intro w3 cnt3 hr3 hle3 ht3;go_frame)
     | fail)
    have C3:=zH (Zc ht3.grown C2.out (fun e=>HNE.out (Option.some.inj e)));have G3:=zH (G2.out.andThen ht3.grown (fun j hj=>.inr hj));have R3:=zH hr3;have L3:=zH hle3;clear hr3 hle3 ht3;go_roundw
    case rel=>exact⟨_,_,zH (by rw[HE.out];exact R3.out),G3,C3⟩
    case measure=>rw[R3.out.left_eq,HR.out.left_eq];exact Nat.lt_of_le_of_lt L3.out HN.out.lt
def refN (x:LN):Nm:=(x.n.refH,x.n.refN)
def FOk (f:Nm->Option LN):Prop := ∀a x,f a=some x->x.n.Ok/\x.nm=a
def Qp (f:Nm->Option LN)(a:Nm)(x:LN):Bool := !YP x.n && decide (refN x=a) && (match f a with | none=>false | some r=>YP r.n && Jn x.n r.n)
def U1 (f:Nm->Option LN)(x:LN):Bool := !YP x.n && (match f (refN x)with | none=>true | some r => !(YP r.n && Jn x.n r.n))
def U0 (f:Nm->Option LN)(ks:List Nm):List Nm:=ks.filter (fun k=>match f k with | some x=>U1 f x | none=>false)
def Yz (f:Nm->Option LN)(ks:List Nm)(J:Nm->Option LN):Prop := ∀a,
 (J a=none -> ∀k∈ks,∀x,f k=some x->Qp f a x=false) /\
 (∀y,J a=some y->(∃k∈ks,f k=some y)/\Qp f a y=true /\ ∀k∈ks,∀x,f k=some x->Qp f a x=true -> ¬Xm y.n x.n < 0)
theorem Yz.nil (f:Nm->Option LN):Yz f [] (fun _=>none):=fun a=>⟨fun _ k hk=>by simp at hk,fun y hy=>by cases hy⟩
theorem UM (x y:Int):Yl x y < 0↔x < y:=by unfold Yl;split <;> (try split) <;> omega
theorem Z0B (x y:Int):Yl x y=0↔x=y:=by unfold Yl;split <;> (try split) <;> omega
theorem Z3f (x y:Int):orI x y < 0↔x < 0\/x=0/\y < 0:=by unfold orI;split <;> omega
theorem QB (a b:Z8):Xm a b < 0↔a.clock < b.clock\/a.clock=b.clock/\(a.house < b.house\/a.house=b.house/\a.num < b.num):=by
 rw[Xm,Yx,Z3f,Z3f,UM,UM,UM,Z0B,Z0B]
theorem Z64 (a b c:Z8)(h1:Xm a b < 0)(h2 : ¬Xm a c < 0): ¬Xm b c < 0:=by
 rw[QB]at *;omega
theorem Z2R (a:Z8): ¬Xm a a < 0:=by
 rw[QB];omega
section
variable {f:Nm->Option LN}{ks:List Nm}{J:Nm->Option LN}{k:Nm}{x:LN}
theorem Yz.skip (h:Yz f ks J)(hk:f k=some x)(hc : ∀a,Qp f a x=false):Yz f (ks ++ [k]) J:=fun a=>by
 obtain⟨h1,h2⟩:=h a
 refine⟨fun hJ k' hk' x' hx' => ?_,fun y hy=>?_⟩
 ·rcases List.mem_append.1 hk' with h3 | h3
  ·exact h1 hJ k' h3 x' hx'
  ·rw[List.mem_singleton.1 h3,hk]at hx'
   cases hx';exact hc a
 ·obtain⟨⟨k1,h3,h4⟩,h5,h6⟩:=h2 y hy
  refine⟨⟨k1,List.mem_append_left _ h3,h4⟩,h5,fun k' hk' x' hx' hcx => ?_⟩
  rcases List.mem_append.1 hk' with h7 | h7
  ·exact h6 k' h7 x' hx' hcx
  ·rw[List.mem_singleton.1 h7,hk]at hx'
   cases hx'
   rw[hc a]at hcx;cases hcx
theorem Yz.stay {y:LN}(h:Yz f ks J)(hk:f k=some x)(hJ:J (refN x)=some y)(hn : ¬Xm y.n x.n < 0):Yz f (ks ++ [k]) J:=fun a=>by
 obtain⟨h1,h2⟩:=h a
 refine⟨fun hJa k' hk' x' hx' => ?_,fun z hz=>?_⟩
 ·rcases List.mem_append.1 hk' with h3 | h3
  ·exact h1 hJa k' h3 x' hx'
  ·rw[List.mem_singleton.1 h3,hk]at hx'
   cases hx'
   by_cases e:refN x=a
   ·rw[e,hJa]at hJ;cases hJ
   ·simp[Qp,e]
 ·obtain⟨⟨k1,h3,h4⟩,h5,h6⟩:=h2 z hz
  refine⟨⟨k1,List.mem_append_left _ h3,h4⟩,h5,fun k' hk' x' hx' hcx => ?_⟩
  rcases List.mem_append.1 hk' with h7 | h7
  ·exact h6 k' h7 x' hx' hcx
  ·rw[List.mem_singleton.1 h7,hk]at hx'
   cases hx'
   have e:refN x=a:=by
    simp[Qp]at hcx;exact hcx.1.2
   rw[e,hz]at hJ;cases hJ;exact hn
theorem Yz.put (h:Yz f ks J)(hk:f k=some x)(hc:Qp f (refN x) x=true)(hn : ∀y,J (refN x)=some y->Xm y.n x.n < 0):Yz f (ks ++ [k]) (Yv J (refN x) x):=fun a=>by
 obtain⟨h1,h2⟩:=h a
 by_cases e:a=refN x
 ·subst e
  refine⟨fun hJ=>by simp[Yv]at hJ,fun z hz=>?_⟩
  have hz':some x=some z:=by rw[<-hz];simp[Yv]
  cases hz'
  refine⟨⟨k,by simp,hk⟩,hc,fun k' hk' x' hx' hcx => ?_⟩
  rcases List.mem_append.1 hk' with h7 | h7
  ·cases hJ:J (refN x)with
   | none=>rw[h1 hJ k' h7 x' hx']at hcx;cases hcx
   | some y=>exact Z64 _ _ _ (hn y hJ) ((h2 y hJ).2.2 k' h7 x' hx' hcx)
  ·rw[List.mem_singleton.1 h7,hk]at hx'
   cases hx';exact Z2R _
 ·have hno:Qp f a x=false:=by
   have : ¬refN x=a:=fun e'=>e e'.symm;simp[Qp,this]
  have hJe:Yv J (refN x) x a=J a:=by simp[Yv,e]
  rw[hJe];refine⟨fun hJ k' hk' x' hx' => ?_,fun y hy=>?_⟩
  ·rcases List.mem_append.1 hk' with h3 | h3
   ·exact h1 hJ k' h3 x' hx'
   ·rw[List.mem_singleton.1 h3,hk]at hx';cases hx';exact hno
  ·obtain⟨⟨k1,h3,h4⟩,h5,h6⟩:=h2 y hy;refine⟨⟨k1,List.mem_append_left _ h3,h4⟩,h5,fun k' hk' x' hx' hcx => ?_⟩;rcases List.mem_append.1 hk' with h7 | h7
   ·exact h6 k' h7 x' hx' hcx
   ·rw[List.mem_singleton.1 h7,hk]at hx';cases hx';rw[hno]at hcx;cases hcx
theorem Z1Y (f:Nm->Option LN)(ks:List Nm)(hk:f k=some x):U0 f (ks ++ [k])=if U1 f x=true then U0 f ks ++ [k]else U0 f ks:=by
 unfold U0;rw[List.filter_append];by_cases h:U1 f x=true
 ·simp[List.filter,hk,h]
 ·simp[List.filter,hk,h]
theorem Zal (hd:YP x.n=true)(a:Nm):Qp f a x=false:=by simp[Qp,hd]
theorem ZaK (hd:YP x.n=true):U1 f x=false:=by simp[U1,hd]
theorem Zcf (hd:U1 f x=true)(a:Nm):Qp f a x=false:=by
 by_cases e:refN x=a
 ·subst e;unfold U1 at hd;unfold Qp;cases hf:f (refN x)with
  | none=>simp
  | some r=>rw[hf]at hd;simp at hd ⊢;intro _ h1;rcases hd.2 with h2 | h2 <;> simp_all
 ·simp[Qp,e]
theorem Z6h (hd:YP x.n=false)(hv:U1 f x=false):Qp f (refN x) x=true:=by
 unfold U1 at hv;unfold Qp;cases hf:f (refN x)with
 | none=>rw[hf]at hv;simp[hd]at hv
 | some r=>rw[hf]at hv;simp[hd]at hv;simp[hd,hv]
end
def ZC (l:List Nm):List Value:=l.flatMap fun a=>[.int .i64 a.1,.int .i64 a.2]
theorem Z1v (l:List Nm)(a:Nm):ZC (l ++ [a])=ZC l ++ [.int .i64 a.1,.int .i64 a.2]:=by simp[ZC]
theorem Xv (l:List Nm):(ZC l).length=l.length * 2:=by
 induction l with
 | nil=>rfl
 | cons a l ih=>
  have:ZC (a :: l)=[.int .i64 a.1,.int .i64 a.2] ++ ZC l:=rfl;rw[this,List.length_append,ih];simp;omega
def JZ (w:World)(p bS bJ:Nat)(va:zA)(vn vc:Nat):Prop:=w.heap[p]? = some (.cells #[.map (some bS),.map (some bJ),.slice va vn vc] 243)
structure JW (w wr:World)(bS pB bJ r n:Nat)(f:Nm->Option LN)(kr ks:List Nm)(cnt:Nat)(va:zA)(vn vc:Nat)(J:Nm->Option LN):Prop where
 rng:Ya LN.val wr bS r n f kr cnt
 bel:Below w.heap.size w wr
 blk:JZ wr pB bS bJ va vn vc
 jm:Y4 LN.val wr bJ ks.length J
 jok:Yz f ks J
 own:wr.ownsRow w.heap.size 45 2 (.slice va vn vc) vn (ZC (U0 f ks))
 bJ_ge:w.heap.size<=bJ
 pB_ge:w.heap.size<=pB
 r_ge:w.heap.size<=r
 bS_lt:bS < w.heap.size
theorem Zn {w:World}{base:Nat}{e:TypeId}{size:Nat}{v:Value}{n:Nat}{xs:List Value}{p:Nat}{o:Obj}(h:w.ownsRow base e size v n xs)(hp:w.heap[p]? = some o)(ho : ∀cur,o ≠ .cells cur e (0,0)):some p≠v.ownBlock:=by
 rcases h.2 with ⟨rfl,_⟩ | ⟨g,cap,cur,rfl,_,hg,_⟩
 ·simp[Value.ownBlock]
 ·intro e1;have e2:p=g:=Option.some.inj e1;subst e2;rw[hp]at hg;exact ho cur (Option.some.inj hg)
theorem Y4.blk {α:Type}{enc:α->Value}{w:World}{b n:Nat}{f:Nm->Option α}(h:Y4 enc w b n f): ∃es clock,w.heap[b]? = some (.map es clock):=by
 obtain⟨D,⟨es,clock,h1,_⟩,_⟩:=h;exact⟨es,clock,h1⟩
theorem Ya.blk {α:Type}{enc:α->Value}{w:World}{b r n:Nat}{f:Nm->Option α}{ks:List Nm}{cnt:Nat}(h:Ya enc w b r n f ks cnt): ∃bb since seen c0,w.heap[r]? = some (.mapIter bb since seen c0):=by
 obtain⟨D,left,⟨es,clock,since,seen,c0,_,_,_,_,h1,_⟩,_⟩:=h;exact⟨_,_,_,_,h1⟩
theorem ZI {w:World}{p:Nat}{c:ZV}{t:TypeId}{fr:Nat×Nat}(h:w.heap[p]? = some (.cells c t fr))(j:Nat)(v:Value):(w.setCell ⟨p,j,none⟩ v).heap[p]? = some (.cells (c.setIfInBounds j v) t fr):=by
 simp only[World.setCell,Array.getElem?_modify,h];simp
theorem Zp (w:World)(p j:Nat)(v:Value):w.grownBy (w.setCell ⟨p,j,none⟩ v) (some p):=
 ⟨rfl,rfl,rfl,by simp[World.setCell],fun k _ hk=>Below.heap_setCell _ _ _ _ (fun e=>hk (by rw[e]))⟩
section
variable {w wr W':World}{bS pB bJ r n:Nat}{f:Nm->Option LN}{kr ks:List Nm}{cnt:Nat}{va:zA}{vn vc:Nat}{J:Nm->Option LN}
theorem JW.below (h:JW w wr bS pB bJ r n f kr ks cnt va vn vc J)(hb:Below wr.heap.size wr W'):JW w W' bS pB bJ r n f kr ks cnt va vn vc J:=
 ⟨h.rng.below hb,h.bel.trans (hb.mono h.bel.size),Z7 hb h.blk,h.jm.below hb,h.jok,Zd h.own hb,h.bJ_ge,h.pB_ge,h.r_ge,h.bS_lt⟩
theorem JW.came (h:JW w wr bS pB bJ r n f kr ks cnt va vn vc J){kh km:Int}{y:LN}{cnt':Nat}(hN:Z7O LN.val wr bS r n cnt f kr kh km y W' cnt'):JW w W' bS pB bJ r n f (kr ++ [(kh,km)]) ks cnt' va vn vc J:=by
 obtain⟨bb,since,seen,c0,hr⟩:=h.rng.blk;have hb1:=h.blk;obtain⟨es,clock,hj⟩:=h.jm.blk;refine⟨hN.range,h.bel.grown hN.grown h.bel.size (fun q hq=>by cases hq;exact h.r_ge),Zc hN.grown hb1 ?_,h.jm.kept hN.grown ?_,h.jok,h.own.kept hN.grown (.inr (Zn h.own hr (by simp)).symm),h.bJ_ge,h.pB_ge,h.r_ge,h.bS_lt⟩
 ·intro e;have e:=Option.some.inj e;subst e;unfold JZ at hb1;rw[hr]at hb1;cases hb1
 ·intro e;have e:=Option.some.inj e;subst e;rw[hr]at hj;cases hj
theorem JW.settled {k:Nm}{x:LN}(h:JW w wr bS pB bJ r n f (ks ++ [k]) ks cnt va vn vc J)(hk:f k=some x)(hv:U1 f x=false)(hj:Yz f (ks ++ [k]) J):JW w wr bS pB bJ r n f (ks ++ [k]) (ks ++ [k]) cnt va vn vc J:=
 ⟨h.rng,h.bel,h.blk,h.jm.mono (by simp),hj,by rw[Z1Y f ks hk,if_neg (by rw[hv];decide)];exact h.own,h.bJ_ge,h.pB_ge,h.r_ge,h.bS_lt⟩
theorem JW.judged {k:Nm}{x:LN}(h:JW w wr bS pB bJ r n f (ks ++ [k]) ks cnt va vn vc J)(hk:f k=some x)(hv:U1 f x=false)(hj:Yz f (ks ++ [k]) (Yv J (refN x) x))(hm:Y4 LN.val W' bJ (ks.length+1) (Yv J (refN x) x))(ht:wr.mapTurned W' bJ):
  JW w W' bS pB bJ r n f (ks ++ [k]) (ks ++ [k]) cnt va vn vc (Yv J (refN x) x):=by
 obtain⟨es,clock,hjb⟩:=h.jm.blk;obtain⟨bb,since,seen,c0,hr⟩:=h.rng.blk;have hb1:=h.blk;have hlt:=h.bS_lt;have hge:=h.bJ_ge;refine⟨h.rng.of_blocks (ht.grown.block _ h.rng.map.lt (fun e=>?_)) (ht.grown.block _ h.rng.lt (fun e=>?_)),h.bel.grown ht.grown h.bel.size (fun q hq=>by cases hq;exact hge),Zc ht.grown hb1 (fun e=>?_),by simpa using hm,hj,by rw[Z1Y f ks hk,if_neg (by rw[hv];decide)];exact h.own.kept ht.grown (.inr (Zn h.own hjb (by simp)).symm),hge,h.pB_ge,h.r_ge,hlt⟩
 ·have e:=Option.some.inj e;omega
 ·have e:=Option.some.inj e;subst e;rw[hr]at hjb;cases hjb
 ·have e:=Option.some.inj e;subst e;unfold JZ at hb1;rw[hjb]at hb1;cases hb1
theorem JW.vacant {k:Nm}{x:LN}{a':zA}{c':Nat}(h:JW w wr bS pB bJ r n f (ks ++ [k]) ks cnt va vn vc J)(hk:f k=some x)(hx:x.nm=k)(hv:U1 f x=true)
  (ho:W'.ownsRow w.heap.size 45 2 (.slice a' (vn+1) c') (vn+1) (ZC (U0 f ks) ++ [.int .i64 x.n.house,.int .i64 x.n.num])) (hg:wr.grownBy W' (Value.ownBlock (.slice va vn vc))):
  JW w (W'.setCell ⟨pB,2,none⟩ (.slice a' (vn+1) c')) bS pB bJ r n f (ks ++ [k]) (ks ++ [k]) cnt a' (vn+1) c' J:=by
 obtain⟨es,clock,hjb⟩:=h.jm.blk;obtain⟨es2,clock2,hsb⟩:=h.rng.map.blk;obtain⟨bb,since,seen,c0,hr⟩:=h.rng.blk;have hb1:wr.heap[pB]? = _:=h.blk;have hb2:=Zc hg hb1 (Zn h.own hb1 (by intro cur;simp));have hr2:=Zc hg hr (Zn h.own hr (by simp));have hj2:=Zc hg hjb (Zn h.own hjb (by simp));have hs2:=Zc hg hsb (Zn h.own hsb (by simp));have G:=Zp W' pB 2 (.slice a' (vn+1) c');have nr:some r≠some pB:=fun e=>by rw[Option.some.inj e,hb2]at hr2;cases hr2
 have nj:some bJ≠some pB:=fun e=>by rw[Option.some.inj e,hb2]at hj2;cases hj2
 have ns:some bS≠some pB:=fun e=>by rw[Option.some.inj e,hb2]at hs2;cases hs2
 have B1:=h.bel.grown hg h.bel.size (fun q hq=>(h.own.lt q hq).1);refine⟨h.rng.of_blocks ((Zc G hs2 ns).trans hsb.symm) ((Zc G hr2 nr).trans hr.symm),B1.grown G B1.size (fun q hq=>by cases hq;exact h.pB_ge),?_,(h.jm.of_block ((Zc G hj2 nj).trans hjb.symm)).mono (by simp),h.jok.skip hk (Zcf hv),?_,h.bJ_ge,h.pB_ge,h.r_ge,h.bS_lt⟩
 ·have:=ZI hb2 2 (.slice a' (vn+1) c');unfold JZ;rw[this];rfl
 ·rw[Z1Y f ks hk,if_pos hv,Z1v,<-hx];exact ho.kept G (.inr (Zn ho hb2 (by intro cur;simp)).symm)
end
theorem Zdu:(zq.info? 45).map (fun i=>(i.zero,i.size,i.bytes))=some (some (.agg #[.int .i64 0,.int .i64 0]),2,16):=by kernel_rfl
theorem XX (w:World)(base:Nat)(sa:zA)(sn sc:Nat)(xs:List Value)(hown:w.ownsRow base 45 2 (.slice sa sn sc) sn xs)(xa:zA)(m xc:Nat)(ys:List Value)(hrd:ZW w 2 xa m xc ys)(h1 : ∀u∈ys,u.oneCell'=true)
  (hbytes:(sn+m) * 16<=140737488355328) (hbase:base<=w.heap.size):
  ∃a' c' w',(Builtin.append_ #[75,75] 75 #[.slice sa sn sc,.slice xa m xc]).run zq w = .ok (.slice a' (sn+m) c') w'/\w'.ownsRow base 45 2 (.slice a' (sn+m) c') (sn+m) (xs ++ ys)/\w.grownBy w' (Value.ownBlock (.slice sa sn sc)):=by
 obtain⟨i,hi,hz0,hz1,hz2⟩:=info_parts Zdu;exact Yk w base 75 75 45 i _ 2 16 Tryz.underlying75 hi hz0 hz1 hz2 rfl (by decide) sa sn sc xs hown xa m xc ys hrd h1 (by unfold maxLen;omega) hbytes hbase
theorem VO (W:World)(x y:Value):ZW (W.alloc (.cells #[x,y] 45)) 2 (some ⟨W.heap.size,0,none⟩) 1 1 [x,y]:=
 ZW.of_own (World.ownsRow_lit (base:=W.heap.size) (e:=45) (size:=2) W #[x,y] 1 (Nat.le_refl _) (by unfold maxLen;omega) rfl)
theorem ZR {P:Program}{op:Oper}{a:Act}{w w':World}{K:Act->World->Prop}{Q:Exit->Act->World->Prop}(s x:Operand)(t:TypeId)(ho:op.op = .call { callee := .builtin .append,args := #[s,x],argTypes := #[t,t] })(v1 v2 v:Value)
  (hs:a.eval s=v1) (hx:a.eval x=v2) (hr:(Builtin.append_ #[t,t] op.type #[v1,v2]).run P w = .ok v w') (h:K (a.put op.dst v) w'):op.wp P a w K Q:=by
 unfold Oper.wp;simp[execOp,ho,resolve,invoke,builtin,hs,hx,hr,Result.andThen];exact h
theorem ZT {P:Program}{op:Oper}{a:Act}{w:World}{K:Act->World->Prop}{Q:Exit->Act->World->Prop}(ty:TypeId)(x y:Operand)(ho:op.op = .store ty x y)(p:Nat)
  (c c':ZV) (t:TypeId) (hx:a.eval x = .pointer (some ⟨p,0,none⟩)) (hy:a.eval y = .agg c') (hg:w.heap[p]? = some (.cells c t (0,0))) (hi:(P.info? ty).map (·.size)=some c'.size) (hc:c.size=c'.size) (h1:c'.all (·.oneCell')=true)
  (h : ∀w',w'.heap[p]? = some (.cells c' t (0,0))->w.grownBy w' (some p)->w'.heap.size=w.heap.size->K (a.put op.dst undef) w'):op.wp P a w K Q:=by
 unfold Oper.wp execOp;simp only[ho,hx,hy,Instr.storeAt,Instr.sureAddr,Sem.run_bind,Sem.run_pure,Result.andThen_ok,run_storeVar_row w p t ty c c' hg hi hc h1];exact h _ (Yp w p c c' t _ hg) (Yr w p c') (by simp[World.setRow])
def ZdJ (w:World)(bS n:Nat)(f:Nm->Option LN)(e:Ending)(w':World):Prop:=
 ∃p bJ va vn vc ks J,e = .returned (.pointer (some ⟨p,0,none⟩))/\JZ w' p bS bJ va vn vc/\ks.Nodup/\Jd f ks/\Y4 LN.val w' bJ ks.length J/\ks.length<=n/\Yz f ks J/\w'.ownsRow w.heap.size 45 2 (.slice va vn vc) vn (ZC (U0 f ks))/\w.heap.size<=p/\w.heap.size<=bJ
theorem Je (w:World):(zeroValue 47).run zq w = .ok (.agg (Z5 Zh none 0)) w:=by kernel_rfl
section
attribute [local go_sem] ZS X9 J9 J8
theorem Zcy (bS n:Nat)(f:Nm->Option LN)(w:World)(hm:Y4 LN.val w bS n f)(hf:FOk f)(hn:n<=1000000):
  Calls zq 151 #[.map (some bS)] w fun e w'=>ZdJ w bS n f e w'/\Below w.heap.size w w':=by
 have I43:=zH zI;have hmm := @run_makeMap zq;have FO:=zH hf;clear hf;have HNn:=zH hn;clear hn;go_enter Tryz.func151,Tryz.ntmps151;have B1:=(zB w (.map #[] 0)).alloc (by simp) (.cells #[.map (some bS),.map (some w.heap.size),.slice none 0 0] 243);have M1:=hm.below B1;go_wp2_with (first
  |(at_range;refine J7 _ rfl _ 119 47 rfl Tryz.underlying119 bS n rfl M1 ?_;intro w0 cnt0 hrg0 hg0 hs0)
  | fail)
 go_frame;clear hmm;obtain⟨bJ,hbJ⟩:=zX (w.heap.size);obtain⟨pB,hpB⟩:=zX (w.heap.size+1);obtain⟨r,hr⟩:=zX (((w.alloc (.map #[] 0)).alloc (.cells #[.map (some bS),.map (some w.heap.size),.slice none 0 0] 243)).heap.size);have e0:=Zv (w.alloc (.map #[] 0)) (.cells #[.map (some bS),.map (some w.heap.size),.slice none 0 0] 243) (w.heap.size+1) (by simp);have m0:=(Y4.made (enc:=LN.val) w).below ((Below.refl (w.alloc (.map #[] 0)).heap.size (w.alloc (.map #[] 0))).alloc (Nat.le_refl _) (.cells #[.map (some bS),.map (some w.heap.size),.slice none 0 0] 243));have hbS:bS < w.heap.size:=hm.lt;have S0:=zH (show JW w w0 bS pB bJ r n f [] [] cnt0 none 0 0 (fun _=>none)from
  ⟨by rw[<-hr.out];exact hrg0,B1.grown hg0 (by simp;omega) (fun q hq=>by cases hq),by unfold JZ;rw[<-hpB.out,<-hbJ.out];exact Zc hg0 e0 (by simp),by rw[<-hbJ.out];exact m0.kept hg0 (by simp),Yz.nil f,World.ownsRow_nil _ _ _ _,
   by rw[<-hbJ.out];exact Nat.le_refl _,by rw[<-hpB.out];omega,by rw[<-hr.out];simp;omega,hbS⟩)
 rw[show((w.alloc (.map #[] 0)).alloc (.cells #[.map (some bS),.map (some w.heap.size),.slice none 0 0] 243)).heap.size=r from hr.out];try rw[show(w.alloc (.map #[] 0)).heap.size=pB by rw[<-hpB.out];simp]
 try rw[hpB.out]
 try rw[hbJ.out]
 clear hrg0 hg0 hs0 e0 m0 hm B1 M1 hbS;go_loopw [16] (fun _ wr=>∃(ks:List Nm) (cnt:Nat) (va:zA) (vn vc:Nat) (J:Nm->Option LN),Hid (JW w wr bS pB bJ r n f ks ks cnt va vn vc J)) (fun _ wr=>wr.rangeLeft bS r)
 case atStart=>exact⟨_,_,_,_,_,_,S0⟩
 case round=>
  clear S0;obtain⟨ks,cnt,va,vn,vc,J,HS⟩:=hrel;go_upto_region 4 with (first
   |(at_next;refine Jo wr rfl _ rfl bS r n cnt ks rfl HS.out.rng ?_ ?_)
   | fail)
  ·intro hall;have HALL:=zH hall;clear hall;go_wp2;go_ret;exact⟨⟨pB,bJ,va,vn,vc,ks,J,rfl,HS.out.blk,HS.out.rng.nodup,HALL.out,HS.out.jm,by have:=HS.out.rng.count;omega,HS.out.jok,HS.out.own,HS.out.pB_ge,HS.out.bJ_ge⟩,HS.out.bel⟩
  ·intro kh km y w1 cnt1 HN hen;have HF:=zH HN.out.at_;have HOk:=zH (FO.out _ _ HN.out.at_);have S1:=zH (HS.out.came HN.out);have HM:=zH (show wr.rangeLeft bS r=cnt from HS.out.rng.left_eq);have HLT:=zH HN.out.lt;have HRok:=zH (show Um (y.n.refH,y.n.refN)from⟨HOk.out.1.refH,HOk.out.1.refN⟩);clear HS HN;unfold LN.val at hen;go_upto_region 5 with (first
    |(refine zP w1 w1.heap.size (Z5 y.n y.sa y.sc) ?_))
   clear hen;have hbt:Below w1.heap.size w1 (w1.alloc (.cells (Z5 y.n y.sa y.sc) 47)):=zB _ _;have CS:=zH (S1.out.below hbt);have CT:=zH (Z9 w1 (.cells (Z5 y.n y.sa y.sc) 47));obtain⟨p5,hp5⟩:=zX (w1.heap.size);rw[hp5.out]at CT ⊢;generalize w1.alloc (.cells (Z5 y.n y.sa y.sc) 47)=wt at *;clear hbt S1;go_wp2_with (first
    |(refine zL p5 CT.out ?_))
   refine(Z1F y.n y.sa y.sc _).mono ?_;rintro e w2 ⟨rfl,b2⟩;replace CS:=zH (CS.out.below b2);replace CT:=zH (Z7 b2 CT.out);clear b2;cases hd:YP y.n
   ·have HD:=zH hd;clear hd;have c16:=Z6 CT.out 16 (.int .i64 y.n.refH) rfl;have c17:=Z6 CT.out 17 (.int .i64 y.n.refN) rfl;cases hfr:f (y.n.refH,y.n.refN)with
    | none=>
     have HV:=zH (show U1 f y=true by simp[U1,HD.out,refN,hfr]);have hget:(Instr.lookup 119 (.map (some bS)) (.agg #[.int .i64 y.n.refH,.int .i64 y.n.refN]) true).run zq w2 = .ok (.tuple #[.agg (Z5 Zh none 0),.bool false]) w2:=by
      have:=Js (t:=119) CS.out.rng.map Tryz.underlying119 (Je w2) y.n.refH y.n.refN HRok.out;rw[hfr]at this;exact this
     clear hfr;go_upto_region 8 with (first
      |(refine zP w2 w2.heap.size (Z5 Zh none 0) ?_))
     have hbt:Below w2.heap.size w2 (w2.alloc (.cells (Z5 Zh none 0) 47)):=zB _ _;replace CS:=zH (CS.out.below hbt);replace CT:=zH (Z7 hbt CT.out);obtain⟨p6,hp6⟩:=zX (w2.heap.size);rw[hp6.out];generalize w2.alloc (.cells (Z5 Zh none 0) 47)=wz at *;clear hbt hget c16 c17;refine zp CT.out fun hh=>?_;replace CS:=zH (CS.out.below ((zd wz)));replace CT:=zH (show wz.drew.heap[p5]? = _ from CT.out);refine zw 0 rfl pB 0 ?_;refine zw 1 rfl pB 0 ?_;refine zw 2 rfl pB 0 ?_;refine zw 3 rfl pB 2 ?_;refine zT 5 rfl (.agg (Z5 y.n y.sa y.sc)) (zY p5 fun W h=>h) ?_;refine zM [4,6] rfl (fun K hK=>?_) ?_
     focus
      have hc:=Z6 CS.out.blk 2 (.slice va vn vc) rfl;go_simp;clear hc;refine zK hK CT.out fun hh=>?_;clear hK K;refine zR 6 rfl fun K hK=>?_;go_simp;go_at_call 167;refine(Yc y.n y.sa y.sc _).mono ?_;rintro e v1 ⟨rfl,b1⟩;replace CS:=zH (CS.out.below b1);replace CT:=zH (Z7 b1 CT.out);clear b1;dsimp only;refine zK hK CT.out fun hh=>?_;clear hK K;refine zR 7 rfl fun K hK=>?_;go_simp;have CR:=zH (VO v1 (.int .i64 y.n.house) (.int .i64 y.n.num));replace CS:=zH (CS.out.below (zB v1 (.cells #[.int .i64 y.n.house,.int .i64 y.n.num] 45)));replace CT:=zH (Zb v1 (.cells #[.int .i64 y.n.house,.int .i64 y.n.num] 45) _ _ CT.out)
     rotate_left
     focus
      refine zn fun K hK=>?_;go_simp;go_at_call 167;refine(Yc y.n y.sa y.sc _).mono ?_;rintro e v1 ⟨rfl,b1⟩;replace CS:=zH (CS.out.below b1);replace CT:=zH (Z7 b1 CT.out);clear b1;dsimp only;refine zK hK CT.out fun hh=>?_;clear hK K;refine zM [4,7] rfl (fun K hK=>?_) ?_
      ·have hc:=Z6 CS.out.blk 2 (.slice va vn vc) rfl;go_simp;clear hc;refine zK hK CT.out fun hh=>?_;clear hK K;refine zR 7 rfl fun K hK=>?_;go_simp;have CR:=zH (VO v1 (.int .i64 y.n.house) (.int .i64 y.n.num));replace CS:=zH (CS.out.below (zB v1 (.cells #[.int .i64 y.n.house,.int .i64 y.n.num] 45)));replace CT:=zH (Zb v1 (.cells #[.int .i64 y.n.house,.int .i64 y.n.num] 45) _ _ CT.out);refine zK hK CT.out fun hh=>?_;clear hK K;refine zR 8 rfl fun K hK=>?_;obtain⟨a',c',v3,hrun,ho,hg⟩:=XX _ w.heap.size va vn vc _ CS.out.own _ 1 1 _ CR.out (by simp[Value.oneCell']) (by have h1:=CS.out.own.1;have h2:=CS.out.rng.count;have h3:=HNn.out;have h4:(U0 f ks).length<=ks.length:=List.length_filter_le _ _;rw[Xv]at h1;simp at h2;omega) CS.out.bel.size;have HO3:=zH ho;have HG3:=zH hg;have h5:=Zn CS.out.own CT.out (by intro cur;simp);have hb1:_=some _:=CS.out.blk;have CB3:=zH (Zc hg hb1 (Zn CS.out.own hb1 (by intro cur;simp)));replace CT:=zH (Zc hg CT.out h5);clear ho hg h5 hb1;rw[if_pos (by kernel_rfl)];refine ZR _ _ _ rfl _ _ _ rfl rfl hrun ?_;clear hrun;refine zK hK CT.out fun hh=>?_;clear hK K;refine zw 9 rfl pB 0 ?_;refine zw 10 rfl pB 2 ?_;refine zR 11 rfl fun K hK=>?_;have hc:=Z6 CB3.out 2 (.slice va vn vc) rfl;have hfz:=Zq CB3.out 2;have S9:=zH (CS.out.vacant HF.out HOk.out.2 HV.out HO3.out HG3.out);have h5:some p5≠some pB:=fun e=>by
        have h1:=CT.out;rw[Option.some.inj e,CB3.out]at h1;cases h1
       replace CT:=zH (Zc (Zp v3 pB 2 (.slice a' (vn+1) c')) CT.out h5);go_simp;refine zK hK CT.out fun hh=>?_;clear hK K;refine zE ?_;go_wp2;go_roundw
       case rel=>exact⟨_,_,_,_,_,_,S9⟩
       case measure=>rw[S9.out.rng.left_eq,HM.out];exact HLT.out
      refine zn fun K hK=>?_;go_simp;have CR:=zH (VO v1 (.int .i64 y.n.house) (.int .i64 y.n.num));replace CS:=zH (CS.out.below (zB v1 (.cells #[.int .i64 y.n.house,.int .i64 y.n.num] 45)));replace CT:=zH (Zb v1 (.cells #[.int .i64 y.n.house,.int .i64 y.n.num] 45) _ _ CT.out);refine zK hK CT.out fun hh=>?_;clear hK K;refine zR 4 rfl fun K hK=>?_;have hc:=Z6 CS.out.blk 2 (.slice va vn vc) rfl;go_simp;clear hc
     all_goals
      refine zK hK CT.out fun hh=>?_;clear hK K;refine zR 8 rfl fun K hK=>?_;obtain⟨a',c',v3,hrun,ho,hg⟩:=XX _ w.heap.size va vn vc _ CS.out.own _ 1 1 _ CR.out (by simp[Value.oneCell']) (by have h1:=CS.out.own.1;have h2:=CS.out.rng.count;have h3:=HNn.out;have h4:(U0 f ks).length<=ks.length:=List.length_filter_le _ _;rw[Xv]at h1;simp at h2;omega) CS.out.bel.size;have HO3:=zH ho;have HG3:=zH hg;have h5:=Zn CS.out.own CT.out (by intro cur;simp);have hb1:_=some _:=CS.out.blk;have CB3:=zH (Zc hg hb1 (Zn CS.out.own hb1 (by intro cur;simp)));replace CT:=zH (Zc hg CT.out h5);clear ho hg h5 hb1;rw[if_pos (by kernel_rfl)];refine ZR _ _ _ rfl _ _ _ rfl rfl hrun ?_;clear hrun;refine zK hK CT.out fun hh=>?_;clear hK K;refine zw 9 rfl pB 0 ?_;refine zw 10 rfl pB 2 ?_;refine zR 11 rfl fun K hK=>?_;have hc:=Z6 CB3.out 2 (.slice va vn vc) rfl;have hfz:=Zq CB3.out 2;have S9:=zH (CS.out.vacant HF.out HOk.out.2 HV.out HO3.out HG3.out);have h5:some p5≠some pB:=fun e=>by
       have h1:=CT.out;rw[Option.some.inj e,CB3.out]at h1;cases h1
      replace CT:=zH (Zc (Zp v3 pB 2 (.slice a' (vn+1) c')) CT.out h5);go_simp;refine zK hK CT.out fun hh=>?_;clear hK K;refine zE ?_;go_wp2;go_roundw
      case rel=>exact⟨_,_,_,_,_,_,S9⟩
      case measure=>rw[S9.out.rng.left_eq,HM.out];exact HLT.out
    | some q=>
     have HFR:=zH hfr;have hget:(Instr.lookup 119 (.map (some bS)) (.agg #[.int .i64 y.n.refH,.int .i64 y.n.refN]) true).run zq w2 = .ok (.tuple #[.agg (Z5 q.n q.sa q.sc),.bool true]) w2:=by
      have:=Js (t:=119) CS.out.rng.map Tryz.underlying119 (Je w2) y.n.refH y.n.refN HRok.out;rw[hfr]at this;exact this
     clear hfr;go_upto_region 7 with (first
      |(refine zP w2 w2.heap.size (Z5 q.n q.sa q.sc) ?_))
     have hbt:Below w2.heap.size w2 (w2.alloc (.cells (Z5 q.n q.sa q.sc) 47)):=zB _ _;replace CS:=zH (CS.out.below hbt);replace CT:=zH (Z7 hbt CT.out);have CQ:=zH (Z9 w2 (.cells (Z5 q.n q.sa q.sc) 47));obtain⟨p6,hp6⟩:=zX (w2.heap.size);rw[hp6.out]at CQ ⊢;generalize w2.alloc (.cells (Z5 q.n q.sa q.sc) 47)=wq at *;clear hbt hget c16 c17;go_wp2_with (first
      |(refine zG p6 CQ.out ?_))
     refine(Z1F q.n q.sa q.sc _).mono ?_;rintro e w3 ⟨rfl,b3⟩;replace CS:=zH (CS.out.below b3);replace CT:=zH (Z7 b3 CT.out);replace CQ:=zH (Z7 b3 CQ.out);clear b3;cases hdq:YP q.n
     ·have HV:=zH (show U1 f y=true by simp[U1,HD.out,refN,HFR.out,hdq]);clear hdq;go_upto_region 8 with fail;refine zp CT.out fun hh=>?_;replace CS:=zH (CS.out.below ((zd w3)));replace CT:=zH (show w3.drew.heap[p5]? = _ from CT.out);refine zw 0 rfl pB 0 ?_;refine zw 1 rfl pB 0 ?_;refine zw 2 rfl pB 0 ?_;refine zw 3 rfl pB 2 ?_;refine zT 5 rfl (.agg (Z5 y.n y.sa y.sc)) (zY p5 fun W h=>h) ?_;refine zM [4,6] rfl (fun K hK=>?_) ?_
      focus
       have hc:=Z6 CS.out.blk 2 (.slice va vn vc) rfl;go_simp;clear hc;refine zK hK CT.out fun hh=>?_;clear hK K;refine zR 6 rfl fun K hK=>?_;go_simp;go_at_call 167;refine(Yc y.n y.sa y.sc _).mono ?_;rintro e v1 ⟨rfl,b1⟩;replace CS:=zH (CS.out.below b1);replace CT:=zH (Z7 b1 CT.out);clear b1;dsimp only;refine zK hK CT.out fun hh=>?_;clear hK K;refine zR 7 rfl fun K hK=>?_;go_simp;have CR:=zH (VO v1 (.int .i64 y.n.house) (.int .i64 y.n.num));replace CS:=zH (CS.out.below (zB v1 (.cells #[.int .i64 y.n.house,.int .i64 y.n.num] 45)));replace CT:=zH (Zb v1 (.cells #[.int .i64 y.n.house,.int .i64 y.n.num] 45) _ _ CT.out)
      rotate_left
      focus
       refine zn fun K hK=>?_;go_simp;go_at_call 167;refine(Yc y.n y.sa y.sc _).mono ?_;rintro e v1 ⟨rfl,b1⟩;replace CS:=zH (CS.out.below b1);replace CT:=zH (Z7 b1 CT.out);clear b1;dsimp only;refine zK hK CT.out fun hh=>?_;clear hK K;refine zM [4,7] rfl (fun K hK=>?_) ?_
       ·have hc:=Z6 CS.out.blk 2 (.slice va vn vc) rfl;go_simp;clear hc;refine zK hK CT.out fun hh=>?_;clear hK K;refine zR 7 rfl fun K hK=>?_;go_simp;have CR:=zH (VO v1 (.int .i64 y.n.house) (.int .i64 y.n.num));replace CS:=zH (CS.out.below (zB v1 (.cells #[.int .i64 y.n.house,.int .i64 y.n.num] 45)));replace CT:=zH (Zb v1 (.cells #[.int .i64 y.n.house,.int .i64 y.n.num] 45) _ _ CT.out);refine zK hK CT.out fun hh=>?_;clear hK K;refine zR 8 rfl fun K hK=>?_;obtain⟨a',c',v3,hrun,ho,hg⟩:=XX _ w.heap.size va vn vc _ CS.out.own _ 1 1 _ CR.out (by simp[Value.oneCell']) (by have h1:=CS.out.own.1;have h2:=CS.out.rng.count;have h3:=HNn.out;have h4:(U0 f ks).length<=ks.length:=List.length_filter_le _ _;rw[Xv]at h1;simp at h2;omega) CS.out.bel.size;have HO3:=zH ho;have HG3:=zH hg;have h5:=Zn CS.out.own CT.out (by intro cur;simp);have hb1:_=some _:=CS.out.blk;have CB3:=zH (Zc hg hb1 (Zn CS.out.own hb1 (by intro cur;simp)));replace CT:=zH (Zc hg CT.out h5);clear ho hg h5 hb1;rw[if_pos (by kernel_rfl)];refine ZR _ _ _ rfl _ _ _ rfl rfl hrun ?_;clear hrun;refine zK hK CT.out fun hh=>?_;clear hK K;refine zw 9 rfl pB 0 ?_;refine zw 10 rfl pB 2 ?_;refine zR 11 rfl fun K hK=>?_;have hc:=Z6 CB3.out 2 (.slice va vn vc) rfl;have hfz:=Zq CB3.out 2;have S9:=zH (CS.out.vacant HF.out HOk.out.2 HV.out HO3.out HG3.out);have h5:some p5≠some pB:=fun e=>by
         have h1:=CT.out;rw[Option.some.inj e,CB3.out]at h1;cases h1
        replace CT:=zH (Zc (Zp v3 pB 2 (.slice a' (vn+1) c')) CT.out h5);go_simp;refine zK hK CT.out fun hh=>?_;clear hK K;refine zE ?_;go_wp2;go_roundw
        case rel=>exact⟨_,_,_,_,_,_,S9⟩
        case measure=>rw[S9.out.rng.left_eq,HM.out];exact HLT.out
       refine zn fun K hK=>?_;go_simp;have CR:=zH (VO v1 (.int .i64 y.n.house) (.int .i64 y.n.num));replace CS:=zH (CS.out.below (zB v1 (.cells #[.int .i64 y.n.house,.int .i64 y.n.num] 45)));replace CT:=zH (Zb v1 (.cells #[.int .i64 y.n.house,.int .i64 y.n.num] 45) _ _ CT.out);refine zK hK CT.out fun hh=>?_;clear hK K;refine zR 4 rfl fun K hK=>?_;have hc:=Z6 CS.out.blk 2 (.slice va vn vc) rfl;go_simp;clear hc
      all_goals
       refine zK hK CT.out fun hh=>?_;clear hK K;refine zR 8 rfl fun K hK=>?_;obtain⟨a',c',v3,hrun,ho,hg⟩:=XX _ w.heap.size va vn vc _ CS.out.own _ 1 1 _ CR.out (by simp[Value.oneCell']) (by have h1:=CS.out.own.1;have h2:=CS.out.rng.count;have h3:=HNn.out;have h4:(U0 f ks).length<=ks.length:=List.length_filter_le _ _;rw[Xv]at h1;simp at h2;omega) CS.out.bel.size;have HO3:=zH ho;have HG3:=zH hg;have h5:=Zn CS.out.own CT.out (by intro cur;simp);have hb1:_=some _:=CS.out.blk;have CB3:=zH (Zc hg hb1 (Zn CS.out.own hb1 (by intro cur;simp)));replace CT:=zH (Zc hg CT.out h5);clear ho hg h5 hb1;rw[if_pos (by kernel_rfl)];refine ZR _ _ _ rfl _ _ _ rfl rfl hrun ?_;clear hrun;refine zK hK CT.out fun hh=>?_;clear hK K;refine zw 9 rfl pB 0 ?_;refine zw 10 rfl pB 2 ?_;refine zR 11 rfl fun K hK=>?_;have hc:=Z6 CB3.out 2 (.slice va vn vc) rfl;have hfz:=Zq CB3.out 2;have S9:=zH (CS.out.vacant HF.out HOk.out.2 HV.out HO3.out HG3.out);have h5:some p5≠some pB:=fun e=>by
        have h1:=CT.out;rw[Option.some.inj e,CB3.out]at h1;cases h1
       replace CT:=zH (Zc (Zp v3 pB 2 (.slice a' (vn+1) c')) CT.out h5);go_simp;refine zK hK CT.out fun hh=>?_;clear hK K;refine zE ?_;go_wp2;go_roundw
       case rel=>exact⟨_,_,_,_,_,_,S9⟩
       case measure=>rw[S9.out.rng.left_eq,HM.out];exact HLT.out
     ·have HDQ:=zH hdq;clear hdq;go_wp2_with (first
       |(refine zG p5 CT.out ?_)
       |(refine zG p6 CQ.out ?_))
      refine(Z8h y.n y.sa y.sc _ q.n q.sa q.sc).mono ?_;rintro e w4 ⟨rfl,b4⟩;replace CS:=zH (CS.out.below b4);replace CT:=zH (Z7 b4 CT.out);clear b4 CQ;cases hjq:Jn y.n q.n
      ·have HV:=zH (show U1 f y=true by simp[U1,HD.out,refN,HFR.out,HDQ.out,hjq]);clear hjq;go_upto_region 8 with fail;refine zp CT.out fun hh=>?_;replace CS:=zH (CS.out.below ((zd w4)));replace CT:=zH (show w4.drew.heap[p5]? = _ from CT.out);refine zw 0 rfl pB 0 ?_;refine zw 1 rfl pB 0 ?_;refine zw 2 rfl pB 0 ?_;refine zw 3 rfl pB 2 ?_;refine zT 5 rfl (.agg (Z5 y.n y.sa y.sc)) (zY p5 fun W h=>h) ?_;refine zM [4,6] rfl (fun K hK=>?_) ?_
       focus
        have hc:=Z6 CS.out.blk 2 (.slice va vn vc) rfl;go_simp;clear hc;refine zK hK CT.out fun hh=>?_;clear hK K;refine zR 6 rfl fun K hK=>?_;go_simp;go_at_call 167;refine(Yc y.n y.sa y.sc _).mono ?_;rintro e v1 ⟨rfl,b1⟩;replace CS:=zH (CS.out.below b1);replace CT:=zH (Z7 b1 CT.out);clear b1;dsimp only;refine zK hK CT.out fun hh=>?_;clear hK K;refine zR 7 rfl fun K hK=>?_;go_simp;have CR:=zH (VO v1 (.int .i64 y.n.house) (.int .i64 y.n.num));replace CS:=zH (CS.out.below (zB v1 (.cells #[.int .i64 y.n.house,.int .i64 y.n.num] 45)));replace CT:=zH (Zb v1 (.cells #[.int .i64 y.n.house,.int .i64 y.n.num] 45) _ _ CT.out)
       rotate_left
       focus
        refine zn fun K hK=>?_;go_simp;go_at_call 167;refine(Yc y.n y.sa y.sc _).mono ?_;rintro e v1 ⟨rfl,b1⟩;replace CS:=zH (CS.out.below b1);replace CT:=zH (Z7 b1 CT.out);clear b1;dsimp only;refine zK hK CT.out fun hh=>?_;clear hK K;refine zM [4,7] rfl (fun K hK=>?_) ?_
        ·have hc:=Z6 CS.out.blk 2 (.slice va vn vc) rfl;go_simp;clear hc;refine zK hK CT.out fun hh=>?_;clear hK K;refine zR 7 rfl fun K hK=>?_;go_simp;have CR:=zH (VO v1 (.int .i64 y.n.house) (.int .i64 y.n.num));replace CS:=zH (CS.out.below (zB v1 (.cells #[.int .i64 y.n.house,.int .i64 y.n.num] 45)));replace CT:=zH (Zb v1 (.cells #[.int .i64 y.n.house,.int .i64 y.n.num] 45) _ _ CT.out);refine zK hK CT.out fun hh=>?_;clear hK K;refine zR 8 rfl fun K hK=>?_;obtain⟨a',c',v3,hrun,ho,hg⟩:=XX _ w.heap.size va vn vc _ CS.out.own _ 1 1 _ CR.out (by simp[Value.oneCell']) (by have h1:=CS.out.own.1;have h2:=CS.out.rng.count;have h3:=HNn.out;have h4:(U0 f ks).length<=ks.length:=List.length_filter_le _ _;rw[Xv]at h1;simp at h2;omega) CS.out.bel.size;have HO3:=zH ho;have HG3:=zH hg;have h5:=Zn CS.out.own CT.out (by intro cur;simp);have hb1:_=some _:=CS.out.blk;have CB3:=zH (Zc hg hb1 (Zn CS.out.own hb1 (by intro cur;simp)));replace CT:=zH (Zc hg CT.out h5);clear ho hg h5 hb1;rw[if_pos (by kernel_rfl)];refine ZR _ _ _ rfl _ _ _ rfl rfl hrun ?_;clear hrun;refine zK hK CT.out fun hh=>?_;clear hK K;refine zw 9 rfl pB 0 ?_;refine zw 10 rfl pB 2 ?_;refine zR 11 rfl fun K hK=>?_;have hc:=Z6 CB3.out 2 (.slice va vn vc) rfl;have hfz:=Zq CB3.out 2;have S9:=zH (CS.out.vacant HF.out HOk.out.2 HV.out HO3.out HG3.out);have h5:some p5≠some pB:=fun e=>by
          have h1:=CT.out;rw[Option.some.inj e,CB3.out]at h1;cases h1
         replace CT:=zH (Zc (Zp v3 pB 2 (.slice a' (vn+1) c')) CT.out h5);go_simp;refine zK hK CT.out fun hh=>?_;clear hK K;refine zE ?_;go_wp2;go_roundw
         case rel=>exact⟨_,_,_,_,_,_,S9⟩
         case measure=>rw[S9.out.rng.left_eq,HM.out];exact HLT.out
        refine zn fun K hK=>?_;go_simp;have CR:=zH (VO v1 (.int .i64 y.n.house) (.int .i64 y.n.num));replace CS:=zH (CS.out.below (zB v1 (.cells #[.int .i64 y.n.house,.int .i64 y.n.num] 45)));replace CT:=zH (Zb v1 (.cells #[.int .i64 y.n.house,.int .i64 y.n.num] 45) _ _ CT.out);refine zK hK CT.out fun hh=>?_;clear hK K;refine zR 4 rfl fun K hK=>?_;have hc:=Z6 CS.out.blk 2 (.slice va vn vc) rfl;go_simp;clear hc
       all_goals
        refine zK hK CT.out fun hh=>?_;clear hK K;refine zR 8 rfl fun K hK=>?_;obtain⟨a',c',v3,hrun,ho,hg⟩:=XX _ w.heap.size va vn vc _ CS.out.own _ 1 1 _ CR.out (by simp[Value.oneCell']) (by have h1:=CS.out.own.1;have h2:=CS.out.rng.count;have h3:=HNn.out;have h4:(U0 f ks).length<=ks.length:=List.length_filter_le _ _;rw[Xv]at h1;simp at h2;omega) CS.out.bel.size;have HO3:=zH ho;have HG3:=zH hg;have h5:=Zn CS.out.own CT.out (by intro cur;simp);have hb1:_=some _:=CS.out.blk;have CB3:=zH (Zc hg hb1 (Zn CS.out.own hb1 (by intro cur;simp)));replace CT:=zH (Zc hg CT.out h5);clear ho hg h5 hb1;rw[if_pos (by kernel_rfl)];refine ZR _ _ _ rfl _ _ _ rfl rfl hrun ?_;clear hrun;refine zK hK CT.out fun hh=>?_;clear hK K;refine zw 9 rfl pB 0 ?_;refine zw 10 rfl pB 2 ?_;refine zR 11 rfl fun K hK=>?_;have hc:=Z6 CB3.out 2 (.slice va vn vc) rfl;have hfz:=Zq CB3.out 2;have S9:=zH (CS.out.vacant HF.out HOk.out.2 HV.out HO3.out HG3.out);have h5:some p5≠some pB:=fun e=>by
         have h1:=CT.out;rw[Option.some.inj e,CB3.out]at h1;cases h1
        replace CT:=zH (Zc (Zp v3 pB 2 (.slice a' (vn+1) c')) CT.out h5);go_simp;refine zK hK CT.out fun hh=>?_;clear hK K;refine zE ?_;go_wp2;go_roundw
        case rel=>exact⟨_,_,_,_,_,_,S9⟩
        case measure=>rw[S9.out.rng.left_eq,HM.out];exact HLT.out
      ·have HV:=zH (show U1 f y=false by simp[U1,HD.out,refN,HFR.out,HDQ.out,hjq]);have HC:=zH (Z6h HD.out HV.out);clear hjq HFR HDQ;cases hJ:J (y.n.refH,y.n.refN)with
       | none=>
        have HJok:=zH (show Yz f (ks ++ [(kh,km)]) (Yv J (refN y) y)from CS.out.jok.put HF.out HC.out (fun z hz=>by rw[show J (refN y)=none from hJ]at hz;cases hz));have HJ:=zH hJ;clear hJ;go_upto_region 9 with fail;refine zD (fun w'=>JW w w' bS pB bJ r n f (ks ++ [(kh,km)]) ks cnt1 va vn vc J/\w'.heap[p5]? = some (.cells (Z5 y.n y.sa y.sc) 47)) (show JW w w4.drew bS pB bJ r n f (ks ++ [(kh,km)]) ks cnt1 va vn vc J/\w4.drew.heap[p5]? = _ from⟨CS.out.below ((Below.refl w4.heap.size w4).drew),CT.out⟩) fun hh=>?_;refine zw 0 rfl pB 0 ?_;refine zw 1 rfl pB 0 ?_;refine zw 2 rfl pB 1 ?_;refine zS 3 rfl (.map (some bJ)) (fun W h=>by have hc:=Z6 h.1.blk 1 (.map (some bJ)) rfl;go_simp) ?_;refine zw 4 rfl p5 16 ?_;refine zS 5 rfl (.agg #[.int .i64 y.n.refH,.int .i64 y.n.refN]) (fun W h=>by have h0:=Z6 h.2 16 (.int .i64 y.n.refH) rfl;have h1:=Z6 h.2 17 (.int .i64 y.n.refN) rfl;go_simp) ?_;refine zS 6 rfl (.tuple #[.agg (Z5 Zh none 0),.bool false]) (fun W h=>by have hg:(Instr.lookup 106 (.map (some bJ)) (.agg #[.int .i64 y.n.refH,.int .i64 y.n.refN]) true).run zq W = .ok (.tuple #[.agg (Z5 Zh none 0),.bool false]) W:=(by have h2:=Js (t:=106) h.1.jm Tryz.underlying106 (Je W) y.n.refH y.n.refN HRok.out;rw[HJ.out]at h2;exact h2);go_simp) ?_;refine zW 7 rfl (.tuple #[.agg (Z5 Zh none 0),.bool false]) ?_;refine zW 8 rfl (.agg (Z5 Zh none 0)) ?_;refine zW 9 rfl (.bool false) ?_;refine zR 10 rfl fun K hK=>?_;go_simp;refine zK hK ⟨hh.1.below (zB _ _),Z7 (zB _ _) hh.2⟩ fun hh=>?_;clear hK K;refine zR 11 rfl fun K hK=>?_;rw[if_pos (by kernel_rfl)];refine ZT 47 _ _ rfl w4.drew.heap.size _ (Z5 Zh none 0) 47 rfl rfl (Z9 _ _) (I43.out _ _ _) rfl (Zm _ _ _) ?_;intro w5 h8 hg8 hs8;have b8:Below w4.drew.heap.size w4.drew w5:=((Below.refl w4.drew.heap.size w4.drew).alloc (Nat.le_refl _) _).grown hg8 (by simp) (fun q hq=>by cases hq;exact Nat.le_refl _);have S5:=CS.out.below (Below.trans ((zd w4)) b8);have T5:w5.heap[p5]? = _:=Z7 (Below.trans ((zd w4)) b8) CT.out
        replace CS:=zH S5;replace CT:=zH T5;have C8:=zH h8;clear S5 T5 b8 h8 hg8 hs8;simp only[Act.put,lq0,lq1,lq2];refine zK hK ⟨CS.out,CT.out⟩ fun hh=>?_;clear hK K;refine zW 12 rfl (.bool false) ?_;refine zE ?_;obtain⟨p8,hp8⟩:=zX (w4.heap.size);have C8b:w5.heap[w4.heap.size]? = some (.cells (Z5 Zh none 0) 47):=C8.out;rw[hp8.out]at C8b;replace C8:=zH C8b;clear C8b;rw[hp8.out];go_upto_region 11 with fail;refine zD (fun w'=>JZ w' pB bS bJ va vn vc/\w'.heap[p5]? = some (.cells (Z5 y.n y.sa y.sc) 47)) (show JZ w5.drew pB bS bJ va vn vc/\w5.drew.heap[p5]? = _ from⟨CS.out.blk,CT.out⟩) fun hh=>?_;replace CS:=zH (CS.out.below ((zd w5)));replace CT:=zH (show w5.drew.heap[p5]? = _ from CT.out);refine zw 0 rfl pB 0 ?_;refine zw 1 rfl pB 0 ?_;refine zw 2 rfl pB 1 ?_;refine zS 3 rfl (.map (some bJ)) (fun W h=>by have hc:=Z6 h.1 1 (.map (some bJ)) rfl;go_simp) ?_;refine zw 4 rfl p5 16 ?_;refine zS 5 rfl (.agg #[.int .i64 y.n.refH,.int .i64 y.n.refN]) (fun W h=>by have h0:=Z6 h.2 16 (.int .i64 y.n.refH) rfl;have h1:=Z6 h.2 17 (.int .i64 y.n.refN) rfl;go_simp) ?_;refine zT 6 rfl (.agg (Z5 y.n y.sa y.sc)) (zY p5 fun W h=>h.2) ?_;refine zR 7 rfl fun K hK=>?_;obtain⟨v9,hrun,hm9,ht9⟩:=Qx (t:=106) CS.out.jm (by have h2:=CS.out.rng.count;have h3:=HNn.out;simp at h2;unfold maxLen;omega) Tryz.underlying106 y.n.refH y.n.refN HRok.out y;have S9:=zH (CS.out.judged HF.out HV.out HJok.out hm9 ht9);have hpj:some p5≠some bJ:=fun e=>by
         obtain⟨es,clock,h1⟩:=CS.out.jm.blk;rw[<-Option.some.inj e,CT.out]at h1;cases h1
        have T9:=zH (Zc ht9.grown CT.out hpj);clear hm9 ht9 hpj;unfold LN.val at hrun;go_simp;refine zK hK ⟨S9.out.blk,T9.out⟩ fun hh=>?_;clear hK K;refine zE ?_;go_wp2;go_roundw
        case rel=>exact⟨_,_,_,_,_,_,S9⟩
        case measure=>rw[S9.out.rng.left_eq,HM.out];exact HLT.out
       | some z=>
        have HJ:=zH hJ;clear hJ;go_upto_region 9 with fail;refine zD (fun w'=>JW w w' bS pB bJ r n f (ks ++ [(kh,km)]) ks cnt1 va vn vc J/\w'.heap[p5]? = some (.cells (Z5 y.n y.sa y.sc) 47)) (show JW w w4.drew bS pB bJ r n f (ks ++ [(kh,km)]) ks cnt1 va vn vc J/\w4.drew.heap[p5]? = _ from⟨CS.out.below ((Below.refl w4.heap.size w4).drew),CT.out⟩) fun hh=>?_;refine zw 0 rfl pB 0 ?_;refine zw 1 rfl pB 0 ?_;refine zw 2 rfl pB 1 ?_;refine zS 3 rfl (.map (some bJ)) (fun W h=>by have hc:=Z6 h.1.blk 1 (.map (some bJ)) rfl;go_simp) ?_;refine zw 4 rfl p5 16 ?_;refine zS 5 rfl (.agg #[.int .i64 y.n.refH,.int .i64 y.n.refN]) (fun W h=>by have h0:=Z6 h.2 16 (.int .i64 y.n.refH) rfl;have h1:=Z6 h.2 17 (.int .i64 y.n.refN) rfl;go_simp) ?_;refine zS 6 rfl (.tuple #[.agg (Z5 z.n z.sa z.sc),.bool true]) (fun W h=>by have hg:(Instr.lookup 106 (.map (some bJ)) (.agg #[.int .i64 y.n.refH,.int .i64 y.n.refN]) true).run zq W = .ok (.tuple #[.agg (Z5 z.n z.sa z.sc),.bool true]) W:=(by have h2:=Js (t:=106) h.1.jm Tryz.underlying106 (Je W) y.n.refH y.n.refN HRok.out;rw[HJ.out]at h2;exact h2);go_simp) ?_;refine zW 7 rfl (.tuple #[.agg (Z5 z.n z.sa z.sc),.bool true]) ?_;refine zW 8 rfl (.agg (Z5 z.n z.sa z.sc)) ?_;refine zW 9 rfl (.bool true) ?_;refine zR 10 rfl fun K hK=>?_;go_simp;refine zK hK ⟨hh.1.below (zB _ _),Z7 (zB _ _) hh.2⟩ fun hh=>?_;clear hK K;refine zR 11 rfl fun K hK=>?_;rw[if_pos (by kernel_rfl)];refine ZT 47 _ _ rfl w4.drew.heap.size _ (Z5 z.n z.sa z.sc) 47 rfl rfl (Z9 _ _) (I43.out _ _ _) rfl (Zm _ _ _) ?_;intro w5 h8 hg8 hs8;have b8:Below w4.drew.heap.size w4.drew w5:=((Below.refl w4.drew.heap.size w4.drew).alloc (Nat.le_refl _) _).grown hg8 (by simp) (fun q hq=>by cases hq;exact Nat.le_refl _);have S5:=CS.out.below (Below.trans ((zd w4)) b8);have T5:w5.heap[p5]? = _:=Z7 (Below.trans ((zd w4)) b8) CT.out;replace CS:=zH S5;replace CT:=zH T5;have C8:=zH h8;clear S5 T5 b8 h8 hg8 hs8;simp only[Act.put,lq0,lq1,lq2];refine zK hK ⟨CS.out,CT.out⟩ fun hh=>?_
        clear hK K;refine zW 12 rfl (.bool true) ?_;refine zE ?_;obtain⟨p8,hp8⟩:=zX (w4.heap.size);have C8b:w5.heap[w4.heap.size]? = some (.cells (Z5 z.n z.sa z.sc) 47):=C8.out;rw[hp8.out]at C8b;replace C8:=zH C8b;clear C8b;rw[hp8.out];go_wp2_with (first
         |(refine zG p8 C8.out ?_)
         |(refine zG p5 CT.out ?_))
        refine(Z9T z.n y.n z.sa z.sc y.sa y.sc _).mono ?_;rintro e w6 ⟨rfl,b6⟩;replace CS:=zH (CS.out.below b6);replace CT:=zH (Z7 b6 CT.out);clear b6 C8;obtain⟨o,HO⟩ : ∃o,Hid (o=Xm z.n y.n):=⟨_,zH rfl⟩;rw[<-HO.out];by_cases ho:o < 0
        focus
         have t0:decide (o < 0)=true:=by simp[ho]
         have HJok:=zH (show Yz f (ks ++ [(kh,km)]) (Yv J (refN y) y)from CS.out.jok.put HF.out HC.out (fun z' hz=>by rw[show J (refN y)=some z from HJ.out]at hz;cases hz;rw[<-HO.out];exact ho));clear ho;go_upto_region 11 with fail;refine zD (fun w'=>JZ w' pB bS bJ va vn vc/\w'.heap[p5]? = some (.cells (Z5 y.n y.sa y.sc) 47)) (show JZ w6.drew pB bS bJ va vn vc/\w6.drew.heap[p5]? = _ from⟨CS.out.blk,CT.out⟩) fun hh=>?_;replace CS:=zH (CS.out.below ((zd w6)));replace CT:=zH (show w6.drew.heap[p5]? = _ from CT.out);refine zw 0 rfl pB 0 ?_;refine zw 1 rfl pB 0 ?_;refine zw 2 rfl pB 1 ?_;refine zS 3 rfl (.map (some bJ)) (fun W h=>by have hc:=Z6 h.1 1 (.map (some bJ)) rfl;go_simp) ?_;refine zw 4 rfl p5 16 ?_;refine zS 5 rfl (.agg #[.int .i64 y.n.refH,.int .i64 y.n.refN]) (fun W h=>by have h0:=Z6 h.2 16 (.int .i64 y.n.refH) rfl;have h1:=Z6 h.2 17 (.int .i64 y.n.refN) rfl;go_simp) ?_;refine zT 6 rfl (.agg (Z5 y.n y.sa y.sc)) (zY p5 fun W h=>h.2) ?_;refine zR 7 rfl fun K hK=>?_;obtain⟨v9,hrun,hm9,ht9⟩:=Qx (t:=106) CS.out.jm (by have h2:=CS.out.rng.count;have h3:=HNn.out;simp at h2;unfold maxLen;omega) Tryz.underlying106 y.n.refH y.n.refN HRok.out y;have S9:=zH (CS.out.judged HF.out HV.out HJok.out hm9 ht9);have hpj:some p5≠some bJ:=fun e=>by
          obtain⟨es,clock,h1⟩:=CS.out.jm.blk;rw[<-Option.some.inj e,CT.out]at h1;cases h1
         have T9:=zH (Zc ht9.grown CT.out hpj);clear hm9 ht9 hpj;unfold LN.val at hrun;go_simp;refine zK hK ⟨S9.out.blk,T9.out⟩ fun hh=>?_;clear hK K;refine zE ?_
        rotate_left
        focus
         have t0:decide (o < 0)=false:=by simp;omega
         have S9:=zH (CS.out.settled HF.out HV.out (CS.out.jok.stay HF.out HJ.out (by rw[<-HO.out];exact ho)));clear ho
        all_goals
         go_wp2;go_roundw
         case rel=>exact⟨_,_,_,_,_,_,S9⟩
         case measure=>rw[S9.out.rng.left_eq,HM.out];exact HLT.out
   ·have S9:=zH (CS.out.settled HF.out (ZaK hd) (CS.out.jok.skip HF.out (Zal hd)));clear hd;go_wp2;go_roundw
    case rel=>exact⟨_,_,_,_,_,_,S9⟩
    case measure=>rw[S9.out.rng.left_eq,HM.out];exact HLT.out
end
theorem Z0c (b:Nat): ∀(vs:List Value) (o:Nat) (w:World) (k:Nat),k≠b->(w.setCells b o vs).heap[k]? = w.heap[k]?
 | [],_,_,_,_=>rfl
 | v :: r,o,w,k,h=>by
  rw[World.setCells,Z0c b r (o+1) _ k h]
  exact Below.heap_setCell w ⟨b,o,none⟩ v k h
theorem Z0P (b:Nat): ∀(vs:List Value) (o:Nat) (w:World),(w.setCells b o vs).heap.size=w.heap.size
 | [],_,_=>rfl
 | v :: r,o,w=>by
  rw[World.setCells,Z0P b r (o+1) _]
  simp[World.setCell]
theorem QI (b:Nat): ∀(vs:List Value) (o:Nat) (w:World),(w.setCells b o vs).os=w.os/\(w.setCells b o vs).tape=w.tape/\(w.setCells b o vs).output=w.output
 | [],_,_=>⟨rfl,rfl,rfl⟩
 | v :: r,o,w=>by
  rw[World.setCells]
  exact QI b r (o+1) _
theorem Vl (b:Nat): ∀(vs:List Value) (o:Nat) (w:World) (cur:ZV) (t:TypeId) (fr:Nat×Nat),w.heap[b]? = some (.cells cur t fr) -> ∃cur',(w.setCells b o vs).heap[b]? = some (.cells cur' t fr)/\cur'.size=cur.size
 | [],_,_,cur,_,_,h=>⟨cur,h,rfl⟩
 | v :: r,o,w,cur,t,fr,h=>by
  rw[World.setCells]
  obtain⟨cur',h1,h2⟩:=Vl b r (o+1) (w.setCell ⟨b,o,none⟩ v) (cur.setIfInBounds o v) t fr (by
   have hb:=(Array.getElem?_eq_some_iff.1 h).1
   simp only[World.setCell,Array.getElem?_modify,h]
   simp)
  exact⟨cur',h1,by rw[h2];simp⟩
theorem QJ (b o:Nat)(vs:List Value)(w:World):Za (fun k=>k=b) w (w.setCells b o vs):=
 ⟨(QI b vs o w).1,(QI b vs o w).2.1,(QI b vs o w).2.2,by rw[Z0P];exact Nat.le_refl _,fun k _ hk=>Z0c b vs o w k hk⟩
structure Vj (w:World)(g:Nat)(ty:TypeId)(k sz:Nat)(rows:List (List Value)):Prop where
 blk : ∃cur,w.heap[g]? = some (.cells cur ty (0,0))/\cur.size=sz
 le:rows.length * k<=sz
 rng : ∀i r,rows[i]? = some r->w.rangeAt g (i * k) r
 len : ∀r∈rows,r.length=k
 one : ∀r∈rows,∀v∈r,v.oneCell'=true
theorem Vj.there {w:World}{g k sz:Nat}{ty:TypeId}{rows:List (List Value)}(h:Vj w g ty k sz rows){i:Nat}(hi:i < rows.length):w.there g (i * k) k:=by
 obtain⟨cur,h1,h2⟩:=h.blk;intro j hj;have h3:i * k+j < cur.size:=by
  have:(i+1) * k<=rows.length * k:=Nat.mul_le_mul_right _ hi;rw[Nat.add_mul]at this;have:=h.le;omega
 refine⟨?_,?_⟩
 ·simp[World.cell?,h1,h3]
 ·simp[World.frozen?,h1]
theorem Vj.same {S:Nat->Prop}{w w':World}{g k sz:Nat}{ty:TypeId}{rows:List (List Value)}(h:Vj w g ty k sz rows)(hs:Za S w w')(hg : ¬S g):Vj w' g ty k sz rows:=by
 obtain⟨cur,h1,h2⟩:=h.blk;have hb:=hs.block g (Array.getElem?_eq_some_iff.1 h1).1 hg;refine⟨⟨cur,hb.trans h1,h2⟩,h.le,fun i r hi j v hv=>?_,h.len,h.one⟩;have:=h.rng i r hi j v hv;simp only[World.cell?]at this ⊢;rw[hb];exact this
theorem Vj.below {w w':World}{g k sz:Nat}{ty:TypeId}{rows:List (List Value)}(h:Vj w g ty k sz rows)(hb:Below w.heap.size w w'):Vj w' g ty k sz rows:=
 h.same (S:=fun _=>False) (Za.of_below hb) (fun e=>e)
theorem Vj.set {w:World}{g k sz:Nat}{ty:TypeId}{rows:List (List Value)}(h:Vj w g ty k sz rows){i:Nat}(hi:i < rows.length){r:List Value}(hr:r.length=k)(h1 : ∀v∈r,v.oneCell'=true):
  Vj (w.setCells g (i * k) r) g ty k sz (rows.set i r):=by
 obtain⟨cur,h2,h3⟩:=h.blk;obtain⟨cur',h4,h5⟩:=Vl g r (i * k) w cur ty (0,0) h2;refine⟨⟨cur',h4,by rw[h5,h3]⟩,by rw[List.length_set];exact h.le,fun j x hj=>?_,fun x hx=>?_,fun x hx=>?_⟩
 ·by_cases e:i=j
  ·subst e;rw[List.getElem?_set_self hi]at hj;cases hj;exact World.rangeAt_setCells_same w g (i * k) r (by rw[hr];exact h.there hi)
  ·rw[List.getElem?_set_ne e]at hj;have hx:=h.len x (List.mem_of_getElem? hj);refine World.rangeAt_setCells_apart (h.rng j x hj) _ _ _ ?_;rw[hx,hr];rcases Nat.lt_or_gt_of_ne e with e | e
   ·have:=Nat.mul_le_mul_right k (show i+1<=j from e);rw[Nat.add_mul]at this;omega
   ·have:=Nat.mul_le_mul_right k (show j+1<=i from e);rw[Nat.add_mul]at this;omega
 ·rcases List.mem_or_eq_of_mem_set hx with hx | rfl
  ·exact h.len x hx
  ·exact hr
 ·rcases List.mem_or_eq_of_mem_set hx with hx | rfl
  ·exact h.one x hx
  ·exact h1
structure Ord {V:Type}(lt:V->V->Bool):Prop where
 asym : ∀x y,lt x y=true->lt y x=false
 trans : ∀x y z,lt y x=false->lt z y=false->lt z x=false
theorem QH {V:Type}{lt:V->V->Bool}: ∀{xs ys:List V},(∀x∈xs,∀y∈xs,lt x y=false->lt y x=false->x=y)->xs.Perm ys->xs.Pairwise (fun x y=>lt y x=false)->ys.Pairwise (fun x y=>lt y x=false)->xs=ys
 | [],ys,_,hp,_,_=>(List.nil_perm.1 hp).symm
 | x :: xs,[],_,hp,_,_=>by have:=hp.length_eq;simp at this
 | x :: xs,y :: ys,he,hp,hs,ht=>by
  rw[List.pairwise_cons]at hs ht
  have hxy:x=y:=by
   have hy:y∈x :: xs:=hp.symm.subset (List.mem_cons_self ..);have hx:x∈y :: ys:=hp.subset (List.mem_cons_self ..);rcases List.mem_cons.1 hy with h | h
   ·exact h.symm
   ·rcases List.mem_cons.1 hx with h' | h'
    ·exact h'
    ·exact he x (List.mem_cons_self ..) y (List.mem_cons_of_mem _ h) (ht.1 x h') (hs.1 y h)
  subst hxy;exact congrArg _ (QH (fun a ha b hb=>he a (List.mem_cons_of_mem _ ha) b (List.mem_cons_of_mem _ hb)) (List.perm_cons x |>.1 hp) hs.2 ht.2)
open Go.Shelf
def Tryz.sortNote_ren:Go.Shelf.Ren:=⟨fun | 6=>221 | 15=>205 | 14=>244 | 28=>233 | 29=>234 | 20=>255 | 21=>256 | 22=>257 | 23=>258 | 24=>259 | 25=>260 | 26=>261 | 27=>262 | 46=>268 | 47=>246 | 48=>247 | 49=>269 | 50=>270 | 57=>271 | n=>n,fun | 22=>24 | 24=>47 | 25=>244 | 3=>3 | 39=>214 | 0=>0 | 53=>292 | 55=>201 | 4=>4 | 46=>285 | 45=>284 | 50=>289 | 5=>5 | 9=>9 | 66=>300 | 70=>221 | 76=>311 | 77=>312 | n=>n,fun | n=>n⟩
theorem Tryz.sortNote:Go.Proofs.SlLaysF0.n6 zq Tryz.sortNote_ren := {
 mixed:=by kernel_rfl
 f6:=⟨Tryz.f221.name,by decide,Tryz.func221.trans (congrArg some (by kernel_rfl))⟩
 f14:=⟨Tryz.f244.name,by decide,Tryz.func244.trans (congrArg some (by kernel_rfl))⟩
 f15:=Tryz.func205.trans (congrArg some (by kernel_rfl))
 f20:=⟨Tryz.f255.name,by decide,Tryz.func255.trans (congrArg some (by kernel_rfl))⟩
 f21:=⟨Tryz.f256.name,by decide,Tryz.func256.trans (congrArg some (by kernel_rfl))⟩
 f22:=⟨Tryz.f257.name,by decide,Tryz.func257.trans (congrArg some (by kernel_rfl))⟩
 f23:=⟨Tryz.f258.name,by decide,Tryz.func258.trans (congrArg some (by kernel_rfl))⟩
 f24:=⟨Tryz.f259.name,by decide,Tryz.func259.trans (congrArg some (by kernel_rfl))⟩
 f25:=⟨Tryz.f260.name,by decide,Tryz.func260.trans (congrArg some (by kernel_rfl))⟩
 f26:=⟨Tryz.f261.name,by decide,Tryz.func261.trans (congrArg some (by kernel_rfl))⟩
 f27:=⟨Tryz.f262.name,by decide,Tryz.func262.trans (congrArg some (by kernel_rfl))⟩
 f28:=Tryz.func233.trans (congrArg some (by kernel_rfl))
 f29:=Tryz.func234.trans (congrArg some (by kernel_rfl))
 f46:=⟨Tryz.f268.name,by decide,Tryz.func268.trans (congrArg some (by kernel_rfl))⟩
 f47:=Tryz.func246.trans (congrArg some (by kernel_rfl))
 f48:=Tryz.func247.trans (congrArg some (by kernel_rfl))
 f49:=⟨Tryz.f269.name,by decide,Tryz.func269.trans (congrArg some (by kernel_rfl))⟩
 f50:=⟨Tryz.f270.name,by decide,Tryz.func270.trans (congrArg some (by kernel_rfl))⟩
 f57:=⟨Tryz.f271.name,by decide,Tryz.func271.trans (congrArg some (by kernel_rfl))⟩
 t0:=Tryz.underlying0
 a0:=Tryz.isAgg0
 z0:=Tryz.sizeOf0
 v0:=Tryz.zeroValue0
 t3:=Tryz.underlying3
 a3:=Tryz.isAgg3
 z3:=Tryz.sizeOf3
 v3:=Tryz.zeroValue3
 t4:=Tryz.underlying4
 a4:=Tryz.isAgg4
 z4:=Tryz.sizeOf4
 v4:=Tryz.zeroValue4
 t5:=Tryz.underlying5
 a5:=Tryz.isAgg5
 z5:=Tryz.sizeOf5
 v5:=Tryz.zeroValue5
 t9:=Tryz.underlying9
 a9:=Tryz.isAgg9
 z9:=Tryz.sizeOf9
 v9:=Tryz.zeroValue9
 t22:=Tryz.underlying24
 a22:=Tryz.isAgg24
 z22:=Tryz.sizeOf24
 v22:=Tryz.zeroValue24
 t25:=Tryz.underlying244
 a25:=Tryz.isAgg244
 z25:=Tryz.sizeOf244
 v25:=Tryz.zeroValue244
 t39:=Tryz.underlying214
 a39:=Tryz.isAgg214
 z39:=Tryz.sizeOf214
 v39:=Tryz.zeroValue214
 t45:=Tryz.underlying284
 a45:=Tryz.isAgg284
 z45:=Tryz.sizeOf284
 v45:=Tryz.zeroValue284
 t46:=Tryz.underlying285
 a46:=Tryz.isAgg285
 z46:=Tryz.sizeOf285
 v46:=Tryz.zeroValue285
 t50:=Tryz.underlying289
 a50:=Tryz.isAgg289
 z50:=Tryz.sizeOf289
 v50:=Tryz.zeroValue289
 t53:=Tryz.underlying292
 a53:=Tryz.isAgg292
 z53:=Tryz.sizeOf292
 v53:=Tryz.zeroValue292
 t55:=Tryz.underlying201
 a55:=Tryz.isAgg201
 z55:=Tryz.sizeOf201
 v55:=Tryz.zeroValue201
 t66:=Tryz.underlying300
 a66:=Tryz.isAgg300
 z66:=Tryz.sizeOf300
 v66:=Tryz.zeroValue300
 t70:=Tryz.underlying221
 a70:=Tryz.isAgg221
 z70:=Tryz.sizeOf221
 v70:=Tryz.zeroValue221
 t76:=Tryz.underlying311
 a76:=Tryz.isAgg311
 z76:=Tryz.sizeOf311
 v76:=Tryz.zeroValue311
 t77:=Tryz.underlying312
 a77:=Tryz.isAgg312
 z77:=Tryz.sizeOf312
 v77:=Tryz.zeroValue312 }
def Tryz.sortName_ren:Go.Shelf.Ren:=⟨fun | 6=>170 | 15=>205 | 14=>204 | 28=>233 | 29=>234 | 20=>225 | 21=>226 | 22=>227 | 23=>228 | 24=>229 | 25=>230 | 26=>231 | 27=>232 | 46=>245 | 47=>246 | 48=>247 | 49=>248 | 50=>249 | 57=>263 | n=>n,fun | 22=>75 | 24=>45 | 25=>182 | 3=>3 | 39=>214 | 0=>0 | 53=>292 | 55=>201 | 4=>4 | 46=>285 | 45=>284 | 50=>289 | 5=>5 | 9=>9 | 66=>300 | 70=>221 | 76=>311 | 77=>312 | n=>n,fun | n=>n⟩
theorem Tryz.sortName:Go.Proofs.SlLaysF0.n6 zq Tryz.sortName_ren := {
 mixed:=by kernel_rfl
 f6:=⟨Tryz.f170.name,by decide,Tryz.func170.trans (congrArg some (by kernel_rfl))⟩
 f14:=⟨Tryz.f204.name,by decide,Tryz.func204.trans (congrArg some (by kernel_rfl))⟩
 f15:=Tryz.func205.trans (congrArg some (by kernel_rfl))
 f20:=⟨Tryz.f225.name,by decide,Tryz.func225.trans (congrArg some (by kernel_rfl))⟩
 f21:=⟨Tryz.f226.name,by decide,Tryz.func226.trans (congrArg some (by kernel_rfl))⟩
 f22:=⟨Tryz.f227.name,by decide,Tryz.func227.trans (congrArg some (by kernel_rfl))⟩
 f23:=⟨Tryz.f228.name,by decide,Tryz.func228.trans (congrArg some (by kernel_rfl))⟩
 f24:=⟨Tryz.f229.name,by decide,Tryz.func229.trans (congrArg some (by kernel_rfl))⟩
 f25:=⟨Tryz.f230.name,by decide,Tryz.func230.trans (congrArg some (by kernel_rfl))⟩
 f26:=⟨Tryz.f231.name,by decide,Tryz.func231.trans (congrArg some (by kernel_rfl))⟩
 f27:=⟨Tryz.f232.name,by decide,Tryz.func232.trans (congrArg some (by kernel_rfl))⟩
 f28:=Tryz.func233.trans (congrArg some (by kernel_rfl))
 f29:=Tryz.func234.trans (congrArg some (by kernel_rfl))
 f46:=⟨Tryz.f245.name,by decide,Tryz.func245.trans (congrArg some (by kernel_rfl))⟩
 f47:=Tryz.func246.trans (congrArg some (by kernel_rfl))
 f48:=Tryz.func247.trans (congrArg some (by kernel_rfl))
 f49:=⟨Tryz.f248.name,by decide,Tryz.func248.trans (congrArg some (by kernel_rfl))⟩
 f50:=⟨Tryz.f249.name,by decide,Tryz.func249.trans (congrArg some (by kernel_rfl))⟩
 f57:=⟨Tryz.f263.name,by decide,Tryz.func263.trans (congrArg some (by kernel_rfl))⟩
 t0:=Tryz.underlying0
 a0:=Tryz.isAgg0
 z0:=Tryz.sizeOf0
 v0:=Tryz.zeroValue0
 t3:=Tryz.underlying3
 a3:=Tryz.isAgg3
 z3:=Tryz.sizeOf3
 v3:=Tryz.zeroValue3
 t4:=Tryz.underlying4
 a4:=Tryz.isAgg4
 z4:=Tryz.sizeOf4
 v4:=Tryz.zeroValue4
 t5:=Tryz.underlying5
 a5:=Tryz.isAgg5
 z5:=Tryz.sizeOf5
 v5:=Tryz.zeroValue5
 t9:=Tryz.underlying9
 a9:=Tryz.isAgg9
 z9:=Tryz.sizeOf9
 v9:=Tryz.zeroValue9
 t22:=Tryz.underlying75
 a22:=Tryz.isAgg75
 z22:=Tryz.sizeOf75
 v22:=Tryz.zeroValue75
 t25:=Tryz.underlying182
 a25:=Tryz.isAgg182
 z25:=Tryz.sizeOf182
 v25:=Tryz.zeroValue182
 t39:=Tryz.underlying214
 a39:=Tryz.isAgg214
 z39:=Tryz.sizeOf214
 v39:=Tryz.zeroValue214
 t45:=Tryz.underlying284
 a45:=Tryz.isAgg284
 z45:=Tryz.sizeOf284
 v45:=Tryz.zeroValue284
 t46:=Tryz.underlying285
 a46:=Tryz.isAgg285
 z46:=Tryz.sizeOf285
 v46:=Tryz.zeroValue285
 t50:=Tryz.underlying289
 a50:=Tryz.isAgg289
 z50:=Tryz.sizeOf289
 v50:=Tryz.zeroValue289
 t53:=Tryz.underlying292
 a53:=Tryz.isAgg292
 z53:=Tryz.sizeOf292
 v53:=Tryz.zeroValue292
 t55:=Tryz.underlying201
 a55:=Tryz.isAgg201
 z55:=Tryz.sizeOf201
 v55:=Tryz.zeroValue201
 t66:=Tryz.underlying300
 a66:=Tryz.isAgg300
 z66:=Tryz.sizeOf300
 v66:=Tryz.zeroValue300
 t70:=Tryz.underlying221
 a70:=Tryz.isAgg221
 z70:=Tryz.sizeOf221
 v70:=Tryz.zeroValue221
 t76:=Tryz.underlying311
 a76:=Tryz.isAgg311
 z76:=Tryz.sizeOf311
 v76:=Tryz.zeroValue311
 t77:=Tryz.underlying312
 a77:=Tryz.isAgg312
 z77:=Tryz.sizeOf312
 v77:=Tryz.zeroValue312 }
structure Vk (B:Nat)(w w':World):Prop where
 bel:Below B w w'
 drawn:w.drawn<=w'.drawn
theorem Vk.refl (B:Nat)(w:World):Vk B w w:=⟨Below.refl _ _,Nat.le_refl _⟩
theorem Vk.trans {B:Nat}{a b c:World}(h:Vk B a b)(k:Vk B b c):Vk B a c:=⟨h.bel.trans k.bel,Nat.le_trans h.drawn k.drawn⟩
theorem Vk.mono {B B':Nat}{w w':World}(h:Vk B w w')(hB:B'<=B):Vk B' w w':=⟨h.bel.mono hB,h.drawn⟩
theorem Vk.drew {B:Nat}{a w:World}(h:Vk B a w):Vk B a w.drew:=⟨h.bel.drew,by have:=h.drawn;simp only[World.drew];omega⟩
theorem Vk.alloc {B:Nat}{a w:World}(h:Vk B a w)(hB:B<=w.heap.size)(o:Obj):Vk B a (w.alloc o):=⟨h.bel.alloc hB o,h.drawn⟩
theorem Vk.size {B:Nat}{w w':World}(h:Vk B w w'):w.heap.size<=w'.heap.size:=h.bel.size
theorem Vk.block {B:Nat}{w w':World}(h:Vk B w w'): ∀k,k < B->w'.heap[k]? = w.heap[k]? := h.bel.block
section
attribute [local go_sem] ZS X9
theorem Z3X (n:Z8)(sa:zA)(sc:Nat)(w:World):Calls zq 167 #[.agg (Z5 n sa sc)] w fun e w'=>e = .returned (.agg #[.int .i64 n.house,.int .i64 n.num])/\Vk w.heap.size w w':=by
 have hb:=(Vk.refl w.heap.size w).alloc (Nat.le_refl _) (.cells (Z5 n sa sc) 47);go_enter Tryz.func167,Tryz.ntmps167;go_wp2_with fail;go_returns;exact⟨rfl,hb.alloc hb.size _⟩
end
structure Z4z (w W:World)(p q:Nat)(A B:ZV)(t:TypeId):Prop where
 e1:W.heap[p]? = some (.cells A t (0,0))
 e2:W.heap[q]? = some (.cells B t (0,0))
 b:Vk p w W
 lt:p < q
theorem Z4z.below {w W W':World}{p q:Nat}{A B:ZV}{t:TypeId}(h:Z4z w W p q A B t)(hb:Vk W.heap.size W W'):Z4z w W' p q A B t:=by
 have g : ∀{k:Nat} {o:Obj},W.heap[k]? = some o->W'.heap[k]? = some o:=fun {k o} hk=>(hb.block k (Array.getElem?_eq_some_iff.1 hk).1).trans hk;have h0:=(Array.getElem?_eq_some_iff.1 h.e1).1;exact⟨g h.e1,g h.e2,h.b.trans (hb.mono (by omega)),h.lt⟩
theorem UJ (x m y k:Int)(w:World):Calls zq 124 #[.agg #[.int .i64 x,.int .i64 m],.agg #[.int .i64 y,.int .i64 k]] w fun e w'=>e = .returned (.int .i64 (Yx x m y k))/\Vk w.heap.size w w':=by
 have g1:=Zb _ (.cells (#[.int .i64 y,.int .i64 k]) 45) _ _ (Z9 w (.cells (#[.int .i64 x,.int .i64 m]) 45));have g2:=Zv (w.alloc (.cells (#[.int .i64 x,.int .i64 m]) 45)) (.cells (#[.int .i64 y,.int .i64 k]) 45) (w.heap.size+1) (by simp);have bb:Vk w.heap.size w ((w.alloc (.cells (#[.int .i64 x,.int .i64 m]) 45)).alloc (.cells (#[.int .i64 y,.int .i64 k]) 45)):=((Vk.refl _ _).alloc (Nat.le_refl _) _).alloc (by simp) _;have T0:Hid (Z4z w ((w.alloc (.cells (#[.int .i64 x,.int .i64 m]) 45)).alloc (.cells (#[.int .i64 y,.int .i64 k]) 45)) w.heap.size (w.heap.size+1) (#[.int .i64 x,.int .i64 m]) (#[.int .i64 y,.int .i64 k]) 45):=zH ⟨g1,g2,bb,by omega⟩;clear g1 g2 bb;go_enter Tryz.func124,Tryz.ntmps124;go_upto_region 1 with fail;generalize (w.alloc (.cells (#[.int .i64 x,.int .i64 m]) 45)).alloc (.cells (#[.int .i64 y,.int .i64 k]) 45)=W0 at *;obtain⟨p,hp⟩:=zX (w.heap.size);obtain⟨q,hq⟩:=zX (w.heap.size+1);rw[hq.out,hp.out]at T0;rw[hq.out,hp.out];have T1:=zH (T0.out.below (Vk.refl W0.heap.size W0).drew);refine wp_region_noPanic ?_;refine wp_region_held_drew (S:=fun w'=>Z4z w w' p q (#[.int .i64 x,.int .i64 m]) (#[.int .i64 y,.int .i64 k]) 45) (by kernel_rfl) T1.out (fun hh=>?_);refine zS 0 rfl (.pointer (some ⟨p,0,none⟩)) (fun W _=>by go_simp) ?_;refine zS 1 rfl (.int .i64 x) (fun W h=>by have hc:=Z6 h.e1 0 (.int .i64 x) rfl;go_simp) ?_;refine zS 2 rfl (.pointer (some ⟨q,0,none⟩)) (fun W _=>by go_simp) ?_;refine zS 3 rfl (.int .i64 y) (fun W h=>by have hc:=Z6 h.e2 0 (.int .i64 y) rfl;go_simp) ?_;refine zS 5 rfl (.pointer (some ⟨p,1,none⟩)) (fun W _=>by go_simp) ?_;refine zS 6 rfl (.int .i64 m) (fun W h=>by have hc:=Z6 h.e1 1 (.int .i64 m) rfl;go_simp) ?_;refine zS 7 rfl (.pointer (some ⟨q,1,none⟩)) (fun W _=>by go_simp) ?_;refine zS 8 rfl (.int .i64 k) (fun W h=>by have hc:=Z6 h.e2 1 (.int .i64 k) rfl;go_simp) ?_;refine zR 4 rfl fun K hK=>?_;go_simp;go_at_call 173;refine(XA x y _).mono ?_;rintro e w1 ⟨rfl,rfl⟩;dsimp only;refine zK hK T1.out fun hh=>?_
 clear hK K;refine zR 9 rfl fun K hK=>?_;go_simp;go_at_call 173;refine(XA m k _).mono ?_;rintro e w1 ⟨rfl,rfl⟩;dsimp only;refine zK hK T1.out fun hh=>?_;clear hK K;refine zR 10 rfl fun K hK=>?_;go_simp;have TB:=zH (T1.out.below ((Vk.refl W0.drew.heap.size W0.drew).alloc (Nat.le_refl _) (.cells #[.int .i64 (Yl x y),.int .i64 (Yl m k)] 3)));refine zK hK TB.out fun hh=>?_;clear hK K;refine zR 11 rfl fun K hK=>?_;go_simp;go_at_call 172;refine(Z26 W0.drew.heap.size (Yl x y) (Yl m k) _ (Z9 W0.drew _)).mono ?_;rintro e w1 ⟨rfl,rfl⟩;dsimp only;refine zK hK TB.out fun hh=>?_;clear hK K;refine zS 12 rfl (.int .i64 (orI (Yl x y) (Yl m k))) (fun W _=>by go_simp) ?_;have TE:=TB;refine zE ?_;change Exit.then _ _ Exit.normal { tmps := #[.agg #[.int .i64 x,.int .i64 m],.agg #[.int .i64 y,.int .i64 k],.pointer (some ⟨p,0,none⟩),.pointer (some ⟨q,0,none⟩),.int .i64 (orI (Yl x y) (Yl m k)),.pointer (some ⟨p,0,none⟩),.int .i64 x,.pointer (some ⟨q,0,none⟩),.int .i64 y,.int .i64 (Yl x y),.pointer (some ⟨p,1,none⟩),.int .i64 m,.pointer (some ⟨q,1,none⟩),.int .i64 k,.int .i64 (Yl m k),.slice (some ⟨W0.drew.heap.size,0,none⟩) 2 2,.int .i64 (orI (Yl x y) (Yl m k))],defers:=[] } _;go_wp2;go_ret;exact⟨rfl,by rw[hp.out];exact TE.out.b⟩
section
attribute [local go_sem] ZS
theorem Z9S (n r:Z8)(sa:zA)(sc:Nat)(ta:zA)(tc:Nat)(w:World):Calls zq 191 #[.agg (Z5 n sa sc),.agg (Z5 r ta tc)] w fun e w'=>e = .returned (.int .i64 (Xm n r))/\Vk w.heap.size w w':=by
 have I43:=zH zI;have g1:=Zb _ (.cells (Z5 r ta tc) 47) _ _ (Z9 w (.cells (Z5 n sa sc) 47));have g2:=Zv (w.alloc (.cells (Z5 n sa sc) 47)) (.cells (Z5 r ta tc) 47) (w.heap.size+1) (by simp);have bb:Vk w.heap.size w ((w.alloc (.cells (Z5 n sa sc) 47)).alloc (.cells (Z5 r ta tc) 47)):=((Vk.refl _ _).alloc (Nat.le_refl _) _).alloc (by simp) _;have T0:Hid (Z4z w ((w.alloc (.cells (Z5 n sa sc) 47)).alloc (.cells (Z5 r ta tc) 47)) w.heap.size (w.heap.size+1) (Z5 n sa sc) (Z5 r ta tc) 47):=zH ⟨g1,g2,bb,by omega⟩;clear g1 g2 bb;go_enter Tryz.func191,Tryz.ntmps191;go_upto_region 1 with fail;generalize (w.alloc (.cells (Z5 n sa sc) 47)).alloc (.cells (Z5 r ta tc) 47)=W0 at *;obtain⟨p,hp⟩:=zX (w.heap.size);obtain⟨q,hq⟩:=zX (w.heap.size+1);rw[hq.out,hp.out]at T0;rw[hq.out,hp.out];have T1:=zH (T0.out.below (Vk.refl W0.heap.size W0).drew);refine wp_region_noPanic ?_;refine wp_region_held_drew (S:=fun w'=>Z4z w w' p q (Z5 n sa sc) (Z5 r ta tc) 47) (by kernel_rfl) T1.out (fun hh=>?_);refine zS 0 rfl (.pointer (some ⟨p,2,none⟩)) (fun W _=>by go_simp) ?_;refine zS 1 rfl (.int .i64 n.clock) (fun W h=>by have hc:=Z6 h.e1 2 (.int .i64 n.clock) rfl;go_simp) ?_;refine zS 2 rfl (.pointer (some ⟨q,2,none⟩)) (fun W _=>by go_simp) ?_;refine zS 3 rfl (.int .i64 r.clock) (fun W h=>by have hc:=Z6 h.e2 2 (.int .i64 r.clock) rfl;go_simp) ?_;refine zT 5 rfl (.agg (Z5 n sa sc)) (YB (by rfl) 47 _ rfl p rfl _ 47 (0,0) _ (fun W h=>h.e1) Tryz.underlying47 rfl (I43.out _ _ _)) ?_;refine zT 7 rfl (.agg (Z5 r ta tc)) (YB (by rfl) 47 _ rfl q rfl _ 47 (0,0) _ (fun W h=>h.e2) Tryz.underlying47 rfl (I43.out _ _ _)) ?_;refine zR 4 rfl fun K hK=>?_;go_simp;go_at_call 173;refine(XA n.clock r.clock _).mono ?_;rintro e w1 ⟨rfl,rfl⟩;dsimp only;refine zK hK T1.out fun hh=>?_;clear hK K;refine zR 6 rfl fun K hK=>?_;go_simp;go_at_call 167;refine(Z3X n sa sc _).mono ?_;rintro e w1 ⟨rfl,b1⟩;have T2:=zH (T1.out.below b1);clear b1;dsimp only;refine zK hK T2.out fun hh=>?_
 clear hK K;refine zR 8 rfl fun K hK=>?_;go_simp;go_at_call 167;refine(Z3X r ta tc _).mono ?_;rintro e w2 ⟨rfl,b1⟩;have T3:=zH (T2.out.below b1);clear b1;dsimp only;refine zK hK T3.out fun hh=>?_;clear hK K;refine zR 9 rfl fun K hK=>?_;go_simp;go_at_call 124;refine(UJ n.house n.num r.house r.num _).mono ?_;rintro e w3 ⟨rfl,b1⟩;have T4:=zH (T3.out.below b1);clear b1;dsimp only;refine zK hK T4.out fun hh=>?_;clear hK K;refine zR 10 rfl fun K hK=>?_;go_simp;have TB:=zH (T4.out.below ((Vk.refl w3.heap.size w3).alloc (Nat.le_refl _) (.cells #[.int .i64 (Yl n.clock r.clock),.int .i64 (Yx n.house n.num r.house r.num)] 3)));refine zK hK TB.out fun hh=>?_;clear hK K;refine zR 11 rfl fun K hK=>?_;go_simp;go_at_call 172;refine(Z26 w3.heap.size (Yl n.clock r.clock) (Yx n.house n.num r.house r.num) _ (Z9 w3 _)).mono ?_;rintro e w4 ⟨rfl,rfl⟩;dsimp only;refine zK hK TB.out fun hh=>?_;clear hK K;refine zS 12 rfl (.int .i64 (orI (Yl n.clock r.clock) (Yx n.house n.num r.house r.num))) (fun W _=>by go_simp) ?_;have TE:=TB;refine zE ?_;change Exit.then _ _ Exit.normal { tmps := #[.agg (Z5 n sa sc),.agg (Z5 r ta tc),.pointer (some ⟨p,0,none⟩),.pointer (some ⟨q,0,none⟩),.int .i64 (orI (Yl n.clock r.clock) (Yx n.house n.num r.house r.num)),.pointer (some ⟨p,2,none⟩),.int .i64 n.clock,.pointer (some ⟨q,2,none⟩),.int .i64 r.clock,.int .i64 (Yl n.clock r.clock),.agg (Z5 n sa sc),.agg #[.int .i64 n.house,.int .i64 n.num],.agg (Z5 r ta tc),.agg #[.int .i64 r.house,.int .i64 r.num],.int .i64 (Yx n.house n.num r.house r.num),.slice (some ⟨w3.heap.size,0,none⟩) 2 2,.int .i64 (orI (Yl n.clock r.clock) (Yx n.house n.num r.house r.num))],defers:=[] } _;go_wp2;go_ret;exact⟨rfl,by rw[hp.out];exact TE.out.b⟩
theorem ZaE (n r:Z8)(sa:zA)(sc:Nat)(ta:zA)(tc:Nat)(w:World):Calls zq 222 #[.agg (Z5 n sa sc),.agg (Z5 r ta tc)] w fun e w'=>e = .returned (.int .i64 (XV n r))/\Vk w.heap.size w w':=by
 have I43:=zH zI;have g1:=Zb _ (.cells (Z5 r ta tc) 47) _ _ (Z9 w (.cells (Z5 n sa sc) 47));have g2:=Zv (w.alloc (.cells (Z5 n sa sc) 47)) (.cells (Z5 r ta tc) 47) (w.heap.size+1) (by simp);have bb:Vk w.heap.size w ((w.alloc (.cells (Z5 n sa sc) 47)).alloc (.cells (Z5 r ta tc) 47)):=((Vk.refl _ _).alloc (Nat.le_refl _) _).alloc (by simp) _;have T0:Hid (Z4z w ((w.alloc (.cells (Z5 n sa sc) 47)).alloc (.cells (Z5 r ta tc) 47)) w.heap.size (w.heap.size+1) (Z5 n sa sc) (Z5 r ta tc) 47):=zH ⟨g1,g2,bb,by omega⟩;clear g1 g2 bb;go_enter Tryz.func222,Tryz.ntmps222;go_upto_region 1 with fail;generalize (w.alloc (.cells (Z5 n sa sc) 47)).alloc (.cells (Z5 r ta tc) 47)=W0 at *;obtain⟨p,hp⟩:=zX (w.heap.size);obtain⟨q,hq⟩:=zX (w.heap.size+1);rw[hq.out,hp.out]at T0;rw[hq.out,hp.out];have T1:=zH (T0.out.below (Vk.refl W0.heap.size W0).drew);refine wp_region_noPanic ?_;refine wp_region_held_drew (S:=fun w'=>Z4z w w' p q (Z5 n sa sc) (Z5 r ta tc) 47) (by kernel_rfl) T1.out (fun hh=>?_);refine zS 0 rfl (.pointer (some ⟨p,3,none⟩)) (fun W _=>by go_simp) ?_;refine zS 1 rfl (.int .i64 n.day) (fun W h=>by have hc:=Z6 h.e1 3 (.int .i64 n.day) rfl;go_simp) ?_;refine zS 2 rfl (.pointer (some ⟨q,3,none⟩)) (fun W _=>by go_simp) ?_;refine zS 3 rfl (.int .i64 r.day) (fun W h=>by have hc:=Z6 h.e2 3 (.int .i64 r.day) rfl;go_simp) ?_;refine zT 5 rfl (.agg (Z5 n sa sc)) (YB (by rfl) 47 _ rfl p rfl _ 47 (0,0) _ (fun W h=>h.e1) Tryz.underlying47 rfl (I43.out _ _ _)) ?_;refine zT 6 rfl (.agg (Z5 r ta tc)) (YB (by rfl) 47 _ rfl q rfl _ 47 (0,0) _ (fun W h=>h.e2) Tryz.underlying47 rfl (I43.out _ _ _)) ?_;refine zR 4 rfl fun K hK=>?_;go_simp;go_at_call 173;refine(XA n.day r.day _).mono ?_;rintro e w1 ⟨rfl,rfl⟩;dsimp only;refine zK hK T1.out fun hh=>?_;clear hK K;refine zR 7 rfl fun K hK=>?_;go_simp;go_at_call 191;refine(Z9S n r sa sc ta tc _).mono ?_;rintro e w3 ⟨rfl,b1⟩;have T4:=zH (T1.out.below b1);clear b1;dsimp only;refine zK hK T4.out fun hh=>?_
 clear hK K;refine zR 8 rfl fun K hK=>?_;go_simp;have TB:=zH (T4.out.below ((Vk.refl w3.heap.size w3).alloc (Nat.le_refl _) (.cells #[.int .i64 (Yl n.day r.day),.int .i64 (Xm n r)] 3)));refine zK hK TB.out fun hh=>?_;clear hK K;refine zR 9 rfl fun K hK=>?_;go_simp;go_at_call 172;refine(Z26 w3.heap.size (Yl n.day r.day) (Xm n r) _ (Z9 w3 _)).mono ?_;rintro e w4 ⟨rfl,rfl⟩;dsimp only;refine zK hK TB.out fun hh=>?_;clear hK K;refine zS 10 rfl (.int .i64 (orI (Yl n.day r.day) (Xm n r))) (fun W _=>by go_simp) ?_;have TE:=TB;refine zE ?_;change Exit.then _ _ Exit.normal { tmps := #[.agg (Z5 n sa sc),.agg (Z5 r ta tc),.pointer (some ⟨p,0,none⟩),.pointer (some ⟨q,0,none⟩),.int .i64 (orI (Yl n.day r.day) (Xm n r)),.pointer (some ⟨p,3,none⟩),.int .i64 n.day,.pointer (some ⟨q,3,none⟩),.int .i64 r.day,.int .i64 (Yl n.day r.day),.agg (Z5 n sa sc),.agg (Z5 r ta tc),.int .i64 (Xm n r),.slice (some ⟨w3.heap.size,0,none⟩) 2 2,.int .i64 (orI (Yl n.day r.day) (Xm n r))],defers:=[] } _;go_wp2;go_ret;exact⟨rfl,by rw[hp.out];exact TE.out.b⟩
end
open Go.RowKit Go.Sort Go.Shelf
theorem Zdj {V:Type}{lt:V->V->Bool}(ho:Ord lt):SWO lt where
 irrefl x:=by
  cases h:lt x x with
  | false=>rfl
  | true=>have:=ho.1 x x h;rw[h]at this;cases this
 trans x y z h1 h2:=by
  cases h3:lt x z with
  | true=>rfl
  | false=>
   have h4:=ho.1 y z h2;have h5:=ho.2 y z x h4 h3;rw[h1]at h5;cases h5
 ntrans x y z h1 h2:=ho.2 z y x h2 h1
theorem Zbz {w w':World}(h:Vk w.heap.size w w'): ∃q os,w'=grow (w.drewN q) os:=by
 refine⟨w'.drawn - w.drawn,w'.heap.extract w.heap.size w'.heap.size,?_⟩;have hd:=h.drawn;obtain⟨heap',tape',drawn',os',output'⟩:=w';have e1:os'=w.os:=h.bel.os;have e2:tape'=w.tape:=h.bel.tape;have e3:output'=w.output:=h.bel.output;have hs:w.heap.size<=heap'.size:=h.bel.size;have hb : ∀k,k < w.heap.size->heap'[k]? = w.heap[k]? := h.bel.block;subst e1 e2 e3;have eh:heap'=w.heap ++ heap'.extract w.heap.size heap'.size:=by
  apply Array.ext_getElem?;intro k;by_cases hk:k < w.heap.size
  ·rw[Array.getElem?_append_left hk];exact hb k hk
  ·rw[Array.getElem?_append_right (by omega),Array.getElem?_extract];by_cases hk2:k < heap'.size
   ·rw[if_pos (by omega)];congr 1;omega
   ·rw[if_neg (by omega),Array.getElem?_eq_none (by omega)]
 have ed:drawn'=w.drawn+(drawn' - w.drawn):=by simp only at hd;omega
 simp only[grow,World.drewN];congr 1
theorem Z0l (k:Nat): ∀(rows:List (List Value)),(∀r∈rows,r.length=k)->rows.flatten.length=rows.length * k
 | [],_=>by simp
 | r :: rows,h=>by
  rw[List.flatten_cons,List.length_append,Z0l k rows (fun x hx=>h x (List.mem_cons_of_mem _ hx)),h r (List.mem_cons_self ..),List.length_cons,Nat.add_mul]
  omega
theorem Ug (k:Nat): ∀(rows:List (List Value)),(∀r∈rows,r.length=k) -> ∀(i:Nat) (r:List Value),rows[i]? = some r -> ∀(j:Nat),j < k->rows.flatten[i * k+j]? = r[j]?
 | [],_,i,r,hi,_,_=>by simp at hi
 | x :: rows,h,0,r,hi,j,hj=>by
  have:x=r:=by simpa using hi
  subst this
  rw[List.flatten_cons,Nat.zero_mul,Nat.zero_add,List.getElem?_append_left (by rw[h x (List.mem_cons_self ..)];exact hj)]
 | x :: rows,h,i+1,r,hi,j,hj=>by
  have hi':rows[i]? = some r:=by simpa using hi
  rw[List.flatten_cons,List.getElem?_append_right (by rw[h x (List.mem_cons_self ..),Nat.add_mul];omega),h x (List.mem_cons_self ..),
   show(i+1) * k+j - k=i * k+j by rw[Nat.add_mul];omega]
  exact Ug k rows (fun y hy=>h y (List.mem_cons_of_mem _ hy)) i r hi' j hj
theorem Z7s {V:Type} [Inhabited V](row:V->List Value)(k:Nat)(hlen : ∀x,(row x).length=k)(ys:List V)(t:Nat)(ht:t < ys.length * k):(ys.map row).flatten[t]? = some (flatK row k ys.toArray)[t]! := by
 have hk:0 < k:=Nat.pos_of_ne_zero (fun e=>by subst e;simp at ht);have hi:t / k < ys.length:=by rw[Nat.div_lt_iff_lt_mul hk];exact ht
 have hj:=Nat.mod_lt t hk;have e:t / k * k+t % k=t:=by rw[Nat.mul_comm];exact Nat.div_add_mod t k
 have h1:=Ug k (ys.map row) (by intro r hr;obtain⟨x,_,rfl⟩:=List.mem_map.1 hr;exact hlen x) (t / k) (row ys[t / k]) (by rw[List.getElem?_map,List.getElem?_eq_getElem hi];rfl) (t % k) hj;rw[e]at h1;rw[h1,get_flatK row k ys.toArray t (by simpa using ht)];have h2:(ys.toArray)[t / k]! = ys[t / k]:=by
  rw[getElem!_pos ys.toArray (t / k) (by simpa using hi)];simp
 rw[h2,List.getElem?_eq_getElem (by rw[hlen];exact hj)];rw[getElem!_pos (row ys[t / k]) (t % k) (by rw[hlen];exact hj)]
theorem Z6A {V:Type} [Inhabited V]{lt:V->V->Bool}{ty:TypeId}{ρ:Ren}(L:SlLaysF0.n6 zq ρ)(k:Nat)(aE : ∀w,(isAgg (ρ.t 24)).run zq w = .ok true w)(zE : ∀w,(Go.sizeOf (ρ.t 24)).run zq w = .ok k w)
  (ho:Ord lt) (row:V->List Value) (hlen : ∀x,(row x).length=k) (hone : ∀x,∀v∈row x,v.oneCell'=true) (cf:V->V->Int) (hlt : ∀x y,lt x y=decide (cf x y < 0)) (fn:Nat)
  (hfn : ∀(args:ZV) (w:World),(callFunc fn args).run zq w = .ok (.enter fn args) w)
  (hcmp : ∀(x y:V) (w:World),Calls zq fn #[.agg (row x).toArray,.agg (row y).toArray] w fun e w'=>e = .returned (.int .i64 (cf x y))/\Vk w.heap.size w w')
  (base n c:Nat) (a:zA) (ys:List V) (w:World) (hR:w.ownsRow base ty k (.slice a n c) n (ys.map row).flatten) (hn:ys.length=n) (hsm:n<=1000000):
  Calls zq (ρ.f 6) #[.slice a n c,.func (.func fn) #[] #[]] w fun e w'=>
   e = .returned (.tuple #[]) /\ ∃zs:List V,w'.ownsRow base ty k (.slice a n c) n (zs.map row).flatten/\zs.Perm ys/\zs.Pairwise (fun x y=>lt y x=false)/\Za (fun k=>Value.ownBlock (.slice a n c)=some k) w w':=by
 rcases hR.2 with ⟨h2,h3⟩ | ⟨g,cap,cur,h2,hbg,hg,hnc,hcm,hcs,htake⟩
 ·simp only[Value.slice.injEq]at h2;obtain⟨rfl,rfl,rfl⟩:=h2;have hy:ys=[]:=List.eq_nil_of_length_eq_zero hn;subst hy;refine(AnyF.slices_SortFunc_none L none 0 _ w).mono ?_;rintro e w' ⟨rfl,rfl⟩;exact⟨rfl,[],hR,List.Perm.refl _,List.Pairwise.nil,Za.refl _ _⟩
 ·simp only[Value.slice.injEq]at h2;obtain⟨rfl,_,rfl⟩:=h2;have hgl:=Zj hg;have hnk:n * k<=c * k:=Nat.mul_le_mul_right _ hnc;have hlt':ltOf cf=lt:=by funext x y;rw[hlt];rfl
  have hH:HoldsK row k w g 0 ys.toArray:=by
   intro t ht;rw[size_flatK]at ht;have ht':t < ys.length * k:=by simpa using ht
   have h5:=Z7s row k hlen ys t ht';rw[<-htake,List.getElem?_take,if_pos (by rw[<-hn];exact ht')]at h5;refine⟨?_,by simp[World.frozen?,hg]⟩;simp only[World.cell?,hg,Nat.zero_add,id_eq];simpa using h5
  have hcL:CmpLays zq fn #[] row k cf g 0 ys.toArray.size w:=fun m os dk _ x y=>by
   refine(hcmp x y _).mono ?_;rintro e w' ⟨rfl,hgr⟩;exact⟨rfl,Zbz hgr⟩
  have hsz:ys.toArray.size=n:=by simpa using hn
  have hcon:=AnyQ.slices_SortFunc L k aE zE row hlen hone cf (by rw[hlt'];exact Zdj ho) fn #[] g 0 c ys.toArray w hfn hcL hH hgl (by rw[hsz];omega);rw[hsz]at hcon;refine hcon.mono ?_;rintro e w' ⟨rfl,d',q,os,hp,hs,rfl⟩;have hds:d'.size=n:=by rw[hp.1,hsz]
  have hdl:d'.toList.length=n:=by simpa using hds
  refine⟨rfl,d'.toList,⟨?_,.inr ⟨g,c,putCells id 0 (flatK row k d') cur,rfl,hbg,?_,hnc,hcm,?_,?_⟩⟩,?_,?_,?_⟩
  ·rw[Z0l k _ (by intro r hr;obtain⟨x,_,rfl⟩:=List.mem_map.1 hr;exact hlen x),List.length_map,hdl]
  ·simp only[sortWorldK,grow,putRowK,putRow,mapBlock,Sort.ahead];rw[Array.getElem?_append_left (by simpa using hgl),Array.getElem?_modify,if_pos rfl,hg];rfl
  ·rw[<-hcs];simp[putCells]
  ·apply List.ext_getElem?;intro t;rw[List.getElem?_take];by_cases ht:t < n * k
   ·rw[if_pos ht];have h5:=Z7s row k hlen d'.toList t (by rw[hdl];exact ht);rw[h5];have htc:t < cur.size:=by rw[hcs];omega
    simp only[putCells,Array.getElem?_toList,Array.getElem?_mapIdx,Array.getElem?_eq_getElem htc,Option.map_some];rw[if_pos ⟨Nat.zero_le _,by rw[size_flatK,hds,Nat.zero_add];exact ht⟩];simp
   ·rw[if_neg ht,List.getElem?_eq_none];rw[Z0l k _ (by intro r hr;obtain⟨x,_,rfl⟩:=List.mem_map.1 hr;exact hlen x),List.length_map,hdl];omega
  ·have h6:=hp.2.2;have h7:d'.extract 0 n=d':=by rw[<-hds];simp
   have h8:ys.toArray.extract 0 n=ys.toArray:=by rw[<-hsz];simp
   rw[h7,h8]at h6;simpa using h6
  ·rw[hlt']at hs;rw[List.pairwise_iff_getElem];intro i j hi hj hij;have h9:=hs i j (Nat.zero_le _) hij (by rw[hdl]at hj;exact hj);rw[getElem!_pos d' j (by simpa using hj),getElem!_pos d' i (by simpa using hi)]at h9;simpa using h9
  ·refine⟨rfl,rfl,rfl,by simp[sortWorldK,grow,putRowK,putRow,mapBlock,Sort.ahead],fun q' hq' hne => ?_⟩;have hqg:g≠q':=fun e=>hne (by rw[<-e];rfl);simp only[sortWorldK,grow,putRowK,putRow,mapBlock,Sort.ahead];rw[Array.getElem?_append_left (by simpa using hq'),Array.getElem?_modify,if_neg hqg]
theorem Z5L {V:Type} [Inhabited V]{lt:V->V->Bool}(ho:Ord lt)(row:V->List Value)(hlen : ∀x,(row x).length=19)(hone : ∀x,∀v∈row x,v.oneCell'=true)(cf:V->V->Int)(hlt : ∀x y,lt x y=decide (cf x y < 0))(fn:Nat)
  (hfn : ∀(args:ZV) (w:World),(callFunc fn args).run zq w = .ok (.enter fn args) w)
  (hcmp : ∀(x y:V) (w:World),Calls zq fn #[.agg (row x).toArray,.agg (row y).toArray] w fun e w'=>e = .returned (.int .i64 (cf x y))/\Vk w.heap.size w w')
  (base n c:Nat) (a:zA) (ys:List V) (w:World) (hR:w.ownsRow base 47 19 (.slice a n c) n (ys.map row).flatten) (hn:ys.length=n) (hsm:n<=1000000):
  Calls zq 221 #[.slice a n c,.func (.func fn) #[] #[]] w fun e w'=>
   e = .returned (.tuple #[]) /\ ∃zs:List V,w'.ownsRow base 47 19 (.slice a n c) n (zs.map row).flatten/\zs.Perm ys/\zs.Pairwise (fun x y=>lt y x=false)/\Za (fun k=>Value.ownBlock (.slice a n c)=some k) w w':=
 Z6A Tryz.sortNote 19 Tryz.isAgg47 Tryz.sizeOf47 ho row hlen hone cf hlt fn hfn hcmp base n c a ys w hR hn hsm
theorem Z1n {V:Type} [Inhabited V]{lt:V->V->Bool}(ho:Ord lt)(row:V->List Value)(hlen : ∀x,(row x).length=2)(hone : ∀x,∀v∈row x,v.oneCell'=true)(cf:V->V->Int)(hlt : ∀x y,lt x y=decide (cf x y < 0))(fn:Nat)
  (hfn : ∀(args:ZV) (w:World),(callFunc fn args).run zq w = .ok (.enter fn args) w)
  (hcmp : ∀(x y:V) (w:World),Calls zq fn #[.agg (row x).toArray,.agg (row y).toArray] w fun e w'=>e = .returned (.int .i64 (cf x y))/\Vk w.heap.size w w')
  (base n c:Nat) (a:zA) (ys:List V) (w:World) (hR:w.ownsRow base 45 2 (.slice a n c) n (ys.map row).flatten) (hn:ys.length=n) (hsm:n<=1000000):
  Calls zq 170 #[.slice a n c,.func (.func fn) #[] #[]] w fun e w'=>
   e = .returned (.tuple #[]) /\ ∃zs:List V,w'.ownsRow base 45 2 (.slice a n c) n (zs.map row).flatten/\zs.Perm ys/\zs.Pairwise (fun x y=>lt y x=false)/\Za (fun k=>Value.ownBlock (.slice a n c)=some k) w w':=
 Z6A Tryz.sortName 2 Tryz.isAgg45 Tryz.sizeOf45 ho row hlen hone cf hlt fn hfn hcmp base n c a ys w hR hn hsm
structure XH where
 nm:Nm
 x:LN
def XH.cells (e:XH):List Value:=[.int .i64 e.nm.1,.int .i64 e.nm.2] ++ e.x.n.cells e.x.sa e.x.sc
def Ji (e:XH):ZV:=e.cells.toArray
theorem Z6b (e:XH): ∀v∈e.cells,v.oneCell'=true:=by
 intro v hv;simp only[XH.cells,List.cons_append,List.nil_append,List.mem_cons]at hv;rcases hv with rfl | rfl | hv
 ·rfl
 ·rfl
 ·exact e.x.n.cells_one _ _ v hv
def Ut (W:World)(a:zA)(n c:Nat)(es:List XH):Prop:=
 es.length=n/\n<=c/\c<=maxLen/\(c=0 \/ ∃b off,a=some ⟨b,off,none⟩ /\ ∀i x,es[i]? = some x->W.rangeAt b (off+i * 21) x.cells)
theorem Ut.below {W W':World}{a:zA}{n c:Nat}{l:List XH}(h:Ut W a n c l)(hb:Below W.heap.size W W'):Ut W' a n c l:=by
 refine⟨h.1,h.2.1,h.2.2.1,h.2.2.2.imp id ?_⟩;rintro⟨b,off,rfl,h4⟩;exact⟨b,off,rfl,fun i x hx=>XC (h4 i x hx) hb⟩
theorem Ut.at {W:World}{a:zA}{n c:Nat}{l:List XH}(h:Ut W a n c l)(h0:0 < n): ∃b off,a=some ⟨b,off,none⟩ /\ ∀i x,l[i]? = some x->W.rangeAt b (off+i * 21) x.cells:=by
 rcases h.2.2.2 with h4 | h4
 ·have:=h.2.1;omega
 ·exact h4
theorem Ut.maxn {W:World}{a:zA}{n c:Nat}{l:List XH}(h:Ut W a n c l):n<=9223372036854775807:=by
 have h1:=h.2.1;have h2:=h.2.2.1;unfold maxLen at h2;omega
theorem YR {t e:TypeId}{k b off n c j o:Nat}{W:World}(ht:zq.underlying t=some (.slice e))(hk:(zq.info? e).map (·.size)=some k)(hj:j < n)(ho:off+j * k=o):
  (Instr.indexAt t (.slice (some ⟨b,off,none⟩) n c) (.int .i64 (j:Int))).run zq W = .ok (.pointer (some ⟨b,o,none⟩)) W:=by
 subst ho;cases hq:zq.info? e with
 | none=>simp[hq]at hk
 | some i=>
  simp only[hq,Option.map_some,Option.some.injEq]at hk;simp[Instr.indexAt,run_underlying ht,Instr.sureAddr,asIntOf,sizeOf,typeInfo,hq,hk,Addr.add,hj]
def Z0g (es:List XH)(p:XH->Bool):Int:=match es.findIdx? p with | some i=>(i:Int) | none => -1
theorem ZcK {es:List XH}{p:XH->Bool}{k:Nat}{x:XH}(hx:es[k]? = some x)(hp:p x=true)(hb : ∀j y,j < k->es[j]? = some y->p y=false):Z0g es p=k:=by
 have:es.findIdx? p=some k:=by
  rw[List.findIdx?_eq_some_iff_getElem];obtain⟨h1,rfl⟩:=List.getElem?_eq_some_iff.1 hx;exact⟨h1,hp,fun j hj=>by rw[hb j _ hj (List.getElem?_eq_getElem (by omega))];decide⟩
 simp[Z0g,this]
theorem Za3 {es:List XH}{p:XH->Bool}(hb : ∀j y,j < es.length->es[j]? = some y->p y=false):Z0g es p = -1:=by
 have:es.findIdx? p=none:=by
  rw[List.findIdx?_eq_none_iff];intro x hx;obtain⟨j,h1,h2⟩:=List.getElem_of_mem hx;exact hb j x h1 (by rw[List.getElem?_eq_getElem h1,h2])
 simp[Z0g,this]
theorem Z8k (es:List XH)(pred:XH->Bool)(fn:Nat)(cv:Value)(hfn : ∀(args:ZV) (w:World),(callFunc fn args).run zq w = .ok (.enter fn args) w)
  (a:zA) (n c:Nat) (w:World) (hr:Ut w a n c es)
  (hp : ∀e∈es,∀W,Below w.heap.size w W->Calls zq fn #[.agg (Ji e),cv] W fun r W'=>r = .returned (.bool (pred e))/\Below W.heap.size W W'):
  Calls zq 242 #[.slice a n c,.func (.func fn) #[] #[cv]] w fun e w'=>e = .returned (.int .i64 (Z0g es pred))/\Below w.heap.size w w':=by
 have I21:(zq.info? 210).map (·.size)=some 21:=by kernel_rfl
 have hn63:=hr.maxn;have HN:=zH hr.1;have RE:=zH (show ∀W,Below w.heap.size w W->Ut W a n c es from fun W h=>hr.below h);have HPD:=zH hp;clear hr hp;go_enter Tryz.func242,Tryz.ntmps242;go_wp2_with fail;go_loopw [5,8] (fun _ i wr=>∃k:Nat,i = .int .i64 k/\k<=n/\Hid (∀j y,j < k->es[j]? = some y->pred y=false)/\Hid (Below w.heap.size w wr)) (fun _ i _=>n - (intOf i).toNat)
 case atStart=>exact⟨0,rfl,Nat.zero_le _,zH (fun j y h=>by omega),zH (Below.refl _ _)⟩
 case round=>
  obtain⟨k,rfl,hk,HB,B1⟩:=hrel;by_cases hkn:k < n
  ·have t0:decide ((k:Int) < (n:Int))=true:=by simp;omega
   obtain⟨b,off,rfl,hat⟩:=(RE.out _ B1.out).at (show 0 < n by omega);obtain⟨x,Hx⟩ : ∃x,es[k]? = some x:=⟨es[k]'(by rw[HN.out];exact hkn),List.getElem?_eq_getElem (by rw[HN.out];exact hkn)⟩;have HR:=zH (hat k x Hx);obtain⟨o,ho⟩:=zX (off+k * 21);rw[ho.out]at HR;have hi:=fun W=>YR (W:=W) (c:=c) (b:=b) Tryz.underlying74 I21 hkn ho.out;have hk64:(k:Int)+1<=9223372036854775807:=by omega
   clear hat;go_wp2_with (refine wpList_load_mid rfl 210 _ rfl b o rfl x.cells _ HR.out Tryz.underlying210 rfl (by exact I21) ?_);refine(HPD.out x (List.mem_of_getElem? Hx) _ B1.out).mono ?_;rintro e w2 ⟨rfl,b2⟩;have B2:=zH (B1.out.trans (b2.mono B1.out.size));clear b2 hi t0;cases hpx:pred x with
   | true=>
    go_wp2;go_ret;exact⟨by rw[ZcK Hx hpx HB.out];rfl,B2.out⟩
   | false=>
    have HPX:=zH hpx;clear hpx;go_wp2;go_roundw
    case rel=>exact⟨k+1,by simp,by omega,zH (fun j y hj hy=>by
     rcases Nat.lt_or_ge j k with h | h
     ·exact HB.out j y h hy
     ·have e:j=k:=by omega
      subst e;rw[Hx]at hy;cases hy;exact HPX.out),B2⟩
    case measure=>simp[intOf];omega
  ·have t0:decide ((k:Int) < (n:Int))=false:=by simp;omega
   go_wp2;go_ret;exact⟨by rw[Za3 (fun j y hj hy=>HB.out j y (by have:=HN.out;omega) hy)];rfl,B1.out⟩
theorem Ze8 (e:XH):(Ji e)[0]? = some (.int .i64 e.nm.1):=rfl
theorem Ze7 (e:XH):(Ji e)[1]? = some (.int .i64 e.nm.2):=rfl
def Z0f (h m:Int)(e:XH):Bool:=decide (e.nm.1=h/\e.nm.2=m)
theorem Z8p (e:XH)(h m:Int)(q:Nat)(w:World)(hq:w.heap[q]? = some (.cells #[.int .i64 h,.int .i64 m] 45)):
  Calls zq 243 #[.agg (Ji e),.pointer (some ⟨q,0,none⟩)] w fun r w'=>r = .returned (.bool (Z0f h m e))/\Below w.heap.size w w':=by
 have B:=zH (zB w (.cells (Ji e) 210));have hl:=Z9 w (.cells (Ji e) 210);have c0:=Z6 hl 0 _ (Ze8 e);have c1:=Z6 hl 1 _ (Ze7 e);have hq':=Z7 B.out hq;have d0:=Z6 hq' 0 (.int .i64 h) rfl;have d1:=Z6 hq' 1 (.int .i64 m) rfl;clear hl hq hq';go_enter Tryz.func243,Tryz.ntmps243;go_wp2_with fail
 all_goals
  go_ret;refine⟨?_,B.out⟩;simp[Z0f, *]
theorem Za8 (args:ZV)(w:World):(callFunc 243 args).run zq w = .ok (.enter 243 args) w:=by kernel_rfl
def Z1B (hs:List XH)(h m:Int):ZV:=if Z0g hs (Z0f h m) < 0 then #[.int .i64 0,.int .i64 3]else #[.int .i64 (Z0g hs (Z0f h m)),.int .i64 0]
theorem Z8o (hs:List XH)(ha:zA)(hn hc:Nat)(v1 v2:Value)(h m:Int)(w:World)(hr:Ut w ha hn hc hs):
  Calls zq 219 #[.agg #[.slice ha hn hc,v1,v2],.agg #[.int .i64 h,.int .i64 m]] w fun r w'=>r = .returned (.tuple (Z1B hs h m))/\Below w.heap.size w w':=by
 have hmf : ∀(fn:Fn) (first cap:ZV) (w:World),(Instr.makeFunc fn first cap).run zq w = .ok (.func fn first cap) w:=fun _ _ _ _=>rfl;have B:=zH ((zB w (.cells #[.slice ha hn hc,v1,v2] 77)).alloc (by simp) (.cells #[.int .i64 h,.int .i64 m] 45));have g0:=zH (Zb _ (.cells #[.int .i64 h,.int .i64 m] 45) _ _ (Z9 w (.cells #[.slice ha hn hc,v1,v2] 77)));have g1:=zH (Zv (w.alloc (.cells #[.slice ha hn hc,v1,v2] 77)) (.cells #[.int .i64 h,.int .i64 m] 45) (w.heap.size+1) (by simp));have RE:=zH (hr.below B.out);clear hr;go_enter Tryz.func219,Tryz.ntmps219;go_upto_region 1 with fail;obtain⟨p0,hp0⟩:=zX (w.heap.size);obtain⟨p1,hp1⟩:=zX (p0+1);rw[hp0.out]at g0 g1 ⊢;rw[hp1.out]at g1 ⊢;generalize (w.alloc (.cells #[.slice ha hn hc,v1,v2] 77)).alloc (.cells #[.int .i64 h,.int .i64 m] 45)=W0 at *;have c0:=Z6 g0.out 0 (.slice ha hn hc) rfl;go_wp2_with fail;refine(Z8k hs (Z0f h m) 243 (.pointer (some ⟨p1,0,none⟩)) Za8 ha hn hc W0 RE.out (fun e _ W hb=>Z8p e h m p1 W (Z7 hb g1.out))).mono ?_;rintro e W1 ⟨rfl,b1⟩;have B1:=zH (B.out.trans (b1.mono B.out.size));clear b1 c0;obtain⟨k,hk⟩:=zX (Z0g hs (Z0f h m));have HV:=zH (show Z1B hs h m=if k < 0 then #[.int .i64 0,.int .i64 3]else #[.int .i64 k,.int .i64 0]by unfold Z1B;rw[hk.out]);rw[hk.out];by_cases hlt:k < 0
 focus
  have t0:decide (k < 0)=true:=by simp[hlt]
  rw[if_pos hlt]at HV
 rotate_left
 focus
  have t0:decide (k < 0)=false:=by simp;omega
  rw[if_neg hlt]at HV
 all_goals
  have hkl:=zH hlt;clear hlt;go_wp2_with fail;go_ret2;exact⟨by rw[HV.out];rfl,B1.out⟩
theorem Z5g (n:Z8)(sa ta:zA)(sc tc:Nat):(Z5 n sa sc).setIfInBounds 15 (.slice ta n.strokes.length tc)=Z5 n ta tc:=rfl
section
attribute [local go_sem] XQ
theorem VR (n:Z8)(sa:zA)(sc:Nat)(w:World)(hs:XU w sa n.strokes.length sc n.strokes)(hl:n.strokes.length<=1000000000):
  Calls zq 66 #[.agg (Z5 n sa sc)] w fun e w' => ∃ta tc,e = .returned (.agg (Z5 n ta tc))/\w'.ownsRow w.heap.size 3 1 (.slice ta n.strokes.length tc) n.strokes.length (n.strokes.map Yq)/\Below w.heap.size w w':=by
 have I43:=zH zI;go_enter Tryz.func66,Tryz.ntmps66;go_upto_region 1 with fail;rw[<-YI];have g0:=Zb _ (.cells (Z5 Zh none 0) 47) _ _ (Z9 w (.cells (Z5 n sa sc) 47));have g1:=Zv (w.alloc (.cells (Z5 n sa sc) 47)) (.cells (Z5 Zh none 0) 47) (w.heap.size+1) (by simp);have bb:Below w.heap.size w ((w.alloc (.cells (Z5 n sa sc) 47)).alloc (.cells (Z5 Zh none 0) 47)):=(zB _ _).alloc (by simp) _;have L0:Hid (Z6m w ((w.alloc (.cells (Z5 n sa sc) 47)).alloc (.cells (Z5 Zh none 0) 47)) w.heap.size (w.heap.size+1) (Z5 n sa sc) (Z5 Zh none 0) 47):=zH ⟨g0,g1,bb,by omega⟩;have RI:=zH (hs.below bb);clear g0 g1 bb hs;generalize (w.alloc (.cells (Z5 n sa sc) 47)).alloc (.cells (Z5 Zh none 0) 47)=W2 at *;generalize hp0:w.heap.size=p0 at *;generalize hp1:p0+1=p1 at *;have HP0:=zH hp0;clear hp0 hp1;obtain⟨m,hm⟩:=zX (n.strokes.length);have c15:W2.cell? ⟨p0,15,none⟩=some (.slice sa m sc):=by rw[<-hm.out];exact Z6 L0.out.e1 15 _ rfl
 rw[hm.out]at RI hl;go_wp2_with fail;refine(Z1d sa m sc n.strokes W2 (by omega) RI.out).mono ?_;rintro e W3 ⟨ta,tc,rfl,ho,b3⟩;have L3:=zH (L0.out.below b3);have O3:=zH (Zu ho (show p0<=W2.heap.size by have:=Zj L0.out.e1;omega));clear ho b3 c15;have c15:=Z6 L3.out.e1 15 _ rfl;have f15:=Zq L3.out.e1 15;have T3:=zH (Zn O3.out L3.out.e1 (fun cur h=>by simp at h));have G3:=Zp W3 p0 15 (.slice ta m tc);have E3:Hid ((W3.setCell ⟨p0,15,none⟩ (.slice ta m tc)).heap[p0]? = some (.cells (Z5 n ta tc) 47)):=zH (by
  have:=ZI L3.out.e1 15 (.slice ta m tc);rw[<-hm.out,Z5g]at this;rw[<-hm.out];exact this)
 have E4:Hid ((W3.setCell ⟨p0,15,none⟩ (.slice ta m tc)).heap[p1]? = some (.cells (Z5 Zh none 0) 47)):=zH (Zc G3 L3.out.e2 (fun e=>by have:=L3.out.lt;have e2:=Option.some.inj e;omega));go_upto_region 2 with fail;have B3:Hid (Below p0 w (W3.setCell ⟨p0,15,none⟩ (.slice ta m tc))):=zH (L3.out.b.grown G3 (by have:=Zj L3.out.e1;omega) (fun q hq=>by cases hq;exact Nat.le_refl _));have U3:=zH (Zn O3.out L3.out.e2 (fun cur h=>by simp at h));have O4:=zH (Ze (S:=fun k=>k=p0) O3.out (Za.of_grown G3 (fun k e=>by cases e;rfl)) (fun b hb e=>T3.out (by rw[hb,e])));have hlt:=L3.out.lt;clear c15 f15 G3;generalize W3.setCell ⟨p0,15,none⟩ (.slice ta m tc)=W4 at *;have oneN:=Zm n ta tc;go_wp2_with (first
  |(refine zL p0 E3.out ?_)
  |(refine zN p1 (Z5 n ta tc) E4.out ?_))
 go_wp2_with fail;have hr:=Yp W4 p1 _ (Z5 n ta tc) _ _ E4.out;refine bodyPost_ret (results_cell_row rfl _ _ p1 47 (Z5 n ta tc) (0,0) _ rfl hr Tryz.underlying47 rfl (I43.out _ _ _)) rfl ?_;have G4:=Yr W4 p1 (Z5 n ta tc);have hp1:p1 < W4.heap.size:=Zj E4.out;refine⟨ta,tc,rfl,?_,?_⟩
 ·rw[HP0.out,hm.out];exact Ze (S:=fun k=>k=p1) O4.out (Za.of_grown G4 (fun k e=>by cases e;rfl)) (fun b hb e=>U3.out (by rw[hb,e]))
 ·rw[HP0.out];exact B3.out.grown G4 (by omega) (fun q hq=>by cases hq;omega)
end
def J6 (r j:Z8):Z8 := { j with house:=r.house,num:=r.num,clock:=r.clock,kind:=j.fix,fix:=0,refH:=if j.fix=2 then r.refH else 0,refN:=if j.fix=2 then r.refN else 0 }
structure Z1O (w W:World)(p0 p1 p2 p3:Nat)(A B C D:ZV):Prop where
 e0:W.heap[p0]? = some (.cells A 47)
 e1:W.heap[p1]? = some (.cells B 47)
 e2:W.heap[p2]? = some (.cells C 47)
 e3:W.heap[p3]? = some (.cells D 47)
 b:Below p0 w W
 lt:p0 < p1/\p1 < p2/\p2 < p3
theorem Z1O.below {w W W':World}{p0 p1 p2 p3:Nat}{A B C D:ZV}(h:Z1O w W p0 p1 p2 p3 A B C D)(hb:Below W.heap.size W W'):Z1O w W' p0 p1 p2 p3 A B C D:=
 ⟨Z7 hb h.e0,Z7 hb h.e1,Z7 hb h.e2,Z7 hb h.e3,h.b.trans (hb.mono (by have:=Zj h.e0;omega)),h.lt⟩
theorem Z1O.put {w W:World}{p0 p1 p2 p3:Nat}{A B C D:ZV}(h:Z1O w W p0 p1 p2 p3 A B C D)(j:Nat)(v:Value):Z1O w (W.setCell ⟨p3,j,none⟩ v) p0 p1 p2 p3 A B C (D.setIfInBounds j v):=by
 have g:=Zp W p3 j v;have hl:=h.lt;have hz:=Zj h.e0;exact⟨Zc g h.e0 (fun e=>by have:=Option.some.inj e;omega),Zc g h.e1 (fun e=>by have:=Option.some.inj e;omega),Zc g h.e2 (fun e=>by have:=Option.some.inj e;omega),ZI h.e3 j v,
  h.b.grown g (by omega) (fun q hq=>by cases hq;omega),h.lt⟩
theorem Qf (p2:Nat)(W:World)(p3 o:Nat)(v:Value):Za (fun k=>k=p3\/k=p2) W (W.setCell ⟨p3,o,none⟩ v):=Za.of_grown (Zp W p3 o v) (fun k e=>by cases e;exact .inl rfl)
theorem Z9o {W:World}{p:Nat}{n:Z8}{a:zA}{c:Nat}{t:TypeId}(h:W.heap[p]? = some (.cells (Z5 n a c) t (0,0))):W.there p 16 2:=by
 intro j hj;have e:j=0\/j=1:=by omega
 rcases e with rfl | rfl
 ·exact⟨by rw[Z6 h 16 _ rfl];rfl,Zq h 16⟩
 ·exact⟨by rw[Z6 h 17 _ rfl];rfl,Zq h 17⟩
section
attribute [local go_sem] ZS X9 XZ XJ J9 J8 Jt
theorem Z8E (r j:Z8)(sa:zA)(sc:Nat)(ja:zA)(jc:Nat)(w:World)(hs:XU w ja j.strokes.length jc j.strokes)(hl:j.strokes.length<=1000000000):
  Calls zq 220 #[.agg (Z5 r sa sc),.agg (Z5 j ja jc)] w fun e w' => ∃ta tc,e = .returned (.agg (Z5 (J6 r j) ta tc))/\w'.ownsRow w.heap.size 3 1 (.slice ta j.strokes.length tc) j.strokes.length (j.strokes.map Yq)/\Below w.heap.size w w':=by
 have I43:=zH zI;go_enter Tryz.func220,Tryz.ntmps220;go_upto_region 1 with fail;rw[<-YI];have hb1:Below w.heap.size w (((w.alloc (.cells (Z5 r sa sc) 47)).alloc (.cells (Z5 j ja jc) 47)).alloc (.cells (Z5 Zh none 0) 47)):=((zB _ _).alloc (by simp) _).alloc (by simp;omega) _;have g0:=Zb _ (.cells (Z5 Zh none 0) 47) _ _ (Zb _ (.cells (Z5 j ja jc) 47) _ _ (Z9 w (.cells (Z5 r sa sc) 47)));have g1:=Zb _ (.cells (Z5 Zh none 0) 47) _ _ (Zv (w.alloc (.cells (Z5 r sa sc) 47)) (.cells (Z5 j ja jc) 47) (w.heap.size+1) (by simp));have g2:=Zv ((w.alloc (.cells (Z5 r sa sc) 47)).alloc (.cells (Z5 j ja jc) 47)) (.cells (Z5 Zh none 0) 47) (w.heap.size+1+1) (by simp);have RI:=zH (fun W (h:Below w.heap.size w W)=>hs.below h);have E0:=zH g0;have E1:=zH g1;have E2:=zH g2;have B0:=zH hb1;clear g0 g1 g2 hb1 hs;generalize ((w.alloc (.cells (Z5 r sa sc) 47)).alloc (.cells (Z5 j ja jc) 47)).alloc (.cells (Z5 Zh none 0) 47)=W0 at *;generalize hp0:w.heap.size=p0 at *;generalize hp1:p0+1=p1 at *;generalize hp2:p1+1=p2 at *;have HP0:=zH hp0;have HP:=zH (show p0 < p1/\p1 < p2 by omega);clear hp0 hp1 hp2;go_wp2_with (refine zL p1 E1.out ?_);refine(VR j ja jc W0 (RI.out _ B0.out) hl).mono ?_;rintro e W1 ⟨ta,tc,rfl,ho,b1⟩;have hz0:=Zj E2.out;have F0:Hid (W1.heap[p0]? = some (.cells (Z5 r sa sc) 47)):=zH (Z7 b1 E0.out);have F1:Hid (W1.heap[p1]? = some (.cells (Z5 j ja jc) 47)):=zH (Z7 b1 E1.out);have F2:Hid (W1.heap[p2]? = some (.cells (Z5 Zh none 0) 47)):=zH (Z7 b1 E2.out);have B1:=zH (B0.out.trans (b1.mono (by have:=HP.out;omega)));have O1:=zH (Zu ho (show p2+1<=W0.heap.size from hz0));clear ho b1 hz0;go_upto_region 2 with (refine zP W1 W1.heap.size (Z5 j ta tc) ?_);have b2:Below W1.heap.size W1 (W1.alloc (.cells (Z5 j ta tc) 47)):=zB _ _;have O2:=zH (Zd O1.out b2);have L2:Hid (Z1O w (W1.alloc (.cells (Z5 j ta tc) 47)) p0 p1 p2 W1.heap.size (Z5 r sa sc) (Z5 j ja jc) (Z5 Zh none 0) (Z5 j ta tc)):=
  zH ⟨Z7 b2 F0.out,Z7 b2 F1.out,Z7 b2 F2.out,Z9 _ _,B1.out.trans (b2.mono (by have:=Zj F0.out;omega)),HP.out.1,HP.out.2,Zj F2.out⟩
 have OB:Hid (∀W,Za (fun k=>k=W1.heap.size\/k=p2) (W1.alloc (.cells (Z5 j ta tc) 47)) W->W.ownsRow (p2+1) 3 1 (.slice ta j.strokes.length tc) j.strokes.length (j.strokes.map Yq)):=zH (fun W h=>Ze O2.out h (fun b hb e=>by
  rcases e with e | e
  ·exact Zn O2.out L2.out.e3 (fun cur h=>by simp at h) (by rw[hb,e])
  ·exact Zn O2.out L2.out.e2 (fun cur h=>by simp at h) (by rw[hb,e])))
 clear b2 O1 O2 F0 F1 F2 B1 E0 E1 E2 B0;obtain⟨p3,hp3⟩:=zX (W1.heap.size);rw[hp3.out]at L2 OB ⊢;generalize W1.alloc (.cells (Z5 j ta tc) 47)=W2 at *;refine zD (fun w'=>w'.heap[p0]? = some (.cells (Z5 r sa sc) 47)/\w'.heap[p1]? = some (.cells (Z5 j ja jc) 47)) (show W2.drew.heap[p0]? = _/\W2.drew.heap[p1]? = _ from⟨L2.out.e0,L2.out.e1⟩) fun hh=>?_;have M0:=zH (L2.out.below (zd W2));clear L2;have OBd:Hid (∀W,Za (fun k=>k=p3\/k=p2) W2.drew W->W.ownsRow (p2+1) 3 1 (.slice ta j.strokes.length tc) j.strokes.length (j.strokes.map Yq)):=zH (fun W h=>OB.out W ((Za.of_below (zd W2)).trans h));clear OB;have T0:Hid (Za (fun k=>k=p3\/k=p2) W2.drew W2.drew):=zH (Za.refl _ _);generalize W2.drew=V at *;refine zw 0 rfl p0 0 ?_;refine zS 1 rfl (.int .i64 r.house) (fun W h=>by have hc:=Z6 h.1 0 (.int .i64 r.house) rfl;go_simp) ?_;refine zw 2 rfl p0 1 ?_;refine zS 3 rfl (.int .i64 r.num) (fun W h=>by have hc:=Z6 h.1 1 (.int .i64 r.num) rfl;go_simp) ?_;refine zw 4 rfl p0 2 ?_;refine zS 5 rfl (.int .i64 r.clock) (fun W h=>by have hc:=Z6 h.1 2 (.int .i64 r.clock) rfl;go_simp) ?_;refine zw 6 rfl p1 18 ?_;refine zS 7 rfl (.int .i64 j.fix) (fun W h=>by have hc:=Z6 h.2 18 (.int .i64 j.fix) rfl;go_simp) ?_;refine zW 8 rfl (.agg #[.int .i64 0,.int .i64 0]) ?_;refine zw 9 rfl p3 0 ?_;refine zR 10 rfl fun K hK=>?_;have hc:=Z6 M0.out.e3 0 _ rfl;have hf:=Zq M0.out.e3 0;have M1:Hid (Z1O w (V.setCell ⟨p3,0,none⟩ (.int .i64 r.house)) p0 p1 p2 p3 (Z5 r sa sc) (Z5 j ja jc) (Z5 Zh none 0) (Z5 { j with house:=r.house } ta tc)):=zH (M0.out.put 0 (.int .i64 r.house));have T1:=zH (T0.out.trans (Qf p2 V p3 0 (.int .i64 r.house)));go_simp;clear hc hf;generalize V.setCell ⟨p3,0,none⟩ (.int .i64 r.house)=V0 at *;refine zK hK ⟨M1.out.e0,M1.out.e1⟩ fun hh=>?_;clear hK K;refine zw 11 rfl p3 1 ?_;refine zR 12 rfl fun K hK=>?_;have hc:=Z6 M1.out.e3 1 _ rfl;have hf:=Zq M1.out.e3 1;have M2:Hid (Z1O w (V0.setCell ⟨p3,1,none⟩ (.int .i64 r.num)) p0 p1 p2 p3 (Z5 r sa sc) (Z5 j ja jc) (Z5 Zh none 0) (Z5 { j with house:=r.house,num:=r.num } ta tc)):=zH (M1.out.put 1 (.int .i64 r.num))
 have T2:=zH (T1.out.trans (Qf p2 V0 p3 1 (.int .i64 r.num)));go_simp;clear hc hf;generalize V0.setCell ⟨p3,1,none⟩ (.int .i64 r.num)=V1 at *;refine zK hK ⟨M2.out.e0,M2.out.e1⟩ fun hh=>?_;clear hK K;refine zw 13 rfl p3 2 ?_;refine zR 14 rfl fun K hK=>?_;have hc:=Z6 M2.out.e3 2 _ rfl;have hf:=Zq M2.out.e3 2;have M3:Hid (Z1O w (V1.setCell ⟨p3,2,none⟩ (.int .i64 r.clock)) p0 p1 p2 p3 (Z5 r sa sc) (Z5 j ja jc) (Z5 Zh none 0) (Z5 { j with house:=r.house,num:=r.num,clock:=r.clock } ta tc)):=zH (M2.out.put 2 (.int .i64 r.clock));have T3:=zH (T2.out.trans (Qf p2 V1 p3 2 (.int .i64 r.clock)));go_simp;clear hc hf;generalize V1.setCell ⟨p3,2,none⟩ (.int .i64 r.clock)=V2 at *;refine zK hK ⟨M3.out.e0,M3.out.e1⟩ fun hh=>?_;clear hK K;refine zw 15 rfl p3 4 ?_;refine zR 16 rfl fun K hK=>?_;have hc:=Z6 M3.out.e3 4 _ rfl;have hf:=Zq M3.out.e3 4;have M4:Hid (Z1O w (V2.setCell ⟨p3,4,none⟩ (.int .i64 j.fix)) p0 p1 p2 p3 (Z5 r sa sc) (Z5 j ja jc) (Z5 Zh none 0) (Z5 { j with house:=r.house,num:=r.num,clock:=r.clock,kind:=j.fix } ta tc)):=zH (M3.out.put 4 (.int .i64 j.fix));have T4:=zH (T3.out.trans (Qf p2 V2 p3 4 (.int .i64 j.fix)));go_simp;clear hc hf;generalize V2.setCell ⟨p3,4,none⟩ (.int .i64 j.fix)=V3 at *;refine zK hK ⟨M4.out.e0,M4.out.e1⟩ fun hh=>?_;clear hK K;refine zw 17 rfl p3 18 ?_;refine zR 18 rfl fun K hK=>?_;have hc:=Z6 M4.out.e3 18 _ rfl;have hf:=Zq M4.out.e3 18;have M5:Hid (Z1O w (V3.setCell ⟨p3,18,none⟩ (.int .i64 0)) p0 p1 p2 p3 (Z5 r sa sc) (Z5 j ja jc) (Z5 Zh none 0) (Z5 { j with house:=r.house,num:=r.num,clock:=r.clock,kind:=j.fix,fix:=0 } ta tc)):=zH (M4.out.put 18 (.int .i64 0));have T5:=zH (T4.out.trans (Qf p2 V3 p3 18 (.int .i64 0)));go_simp;clear hc hf;generalize V3.setCell ⟨p3,18,none⟩ (.int .i64 0)=V4 at *;refine zK hK ⟨M5.out.e0,M5.out.e1⟩ fun hh=>?_;clear hK K;refine zw 19 rfl p3 16 ?_;refine zR 20 rfl fun K hK=>?_;have hth:World.there _ p3 16 2:=Z9o M5.out.e3;have M6:Hid (Z1O w ((V4.setCell ⟨p3,16,none⟩ (.int .i64 0)).setCell ⟨p3,17,none⟩ (.int .i64 0)) p0 p1 p2 p3 (Z5 r sa sc) (Z5 j ja jc) (Z5 Zh none 0) (Z5 { j with house:=r.house,num:=r.num,clock:=r.clock,kind:=j.fix,fix:=0,refH:=0,refN:=0 } ta tc)):=zH ((M5.out.put 16 (.int .i64 0)).put 17 (.int .i64 0))
 have T6:=zH ((T5.out.trans (Qf p2 V4 p3 16 (.int .i64 0))).trans (Qf p2 _ p3 17 (.int .i64 0)));rw[if_pos (by kernel_rfl)];refine wp_store_mid 45 _ _ rfl p3 16 #[.int .i64 0,.int .i64 0] rfl rfl hth (by kernel_rfl) (all_oneCell_toArray (by simp[Value.oneCell'])) ?_;refine zK hK ⟨M6.out.e0,M6.out.e1⟩ fun hh=>?_;clear hK K;refine zE ?_;have hV5:V4.setCells p3 16 #[.int .i64 0,.int .i64 0].toList=(V4.setCell ⟨p3,16,none⟩ (.int .i64 0)).setCell ⟨p3,17,none⟩ (.int .i64 0):=rfl;rw[hV5];clear hV5 T1 T2 T3 T4 T5 M1 M2 M3 M4 M5;generalize (V4.setCell ⟨p3,16,none⟩ (.int .i64 0)).setCell ⟨p3,17,none⟩ (.int .i64 0)=V5 at *;have c4:=Z6 M6.out.e3 4 (.int .i64 j.fix) rfl;by_cases hk:j.fix=2
 ·have t0:(j.fix==2)=true:=by simp[hk]
  have HK:=zH hk;clear hk;have c16:=Z6 M6.out.e0 16 (.int .i64 r.refH) rfl;have c17:=Z6 M6.out.e0 17 (.int .i64 r.refN) rfl;have d16:=Z6 M6.out.e3 16 (.int .i64 0) rfl;have d17:=Z6 M6.out.e3 17 (.int .i64 0) rfl;have f16:=Zq M6.out.e3 16;have f17:=Zq M6.out.e3 17;go_upto_region 5 with fail;have M7:Hid (Z1O w ((V5.setCell ⟨p3,16,none⟩ (.int .i64 r.refH)).setCell ⟨p3,17,none⟩ (.int .i64 r.refN)) p0 p1 p2 p3 (Z5 r sa sc) (Z5 j ja jc) (Z5 Zh none 0) (Z5 { j with house:=r.house,num:=r.num,clock:=r.clock,kind:=j.fix,fix:=0,refH:=r.refH,refN:=r.refN } ta tc)):=zH ((M6.out.put 16 (.int .i64 r.refH)).put 17 (.int .i64 r.refN));have T7:=zH ((T6.out.trans (Qf p2 V5 p3 16 (.int .i64 r.refH))).trans (Qf p2 _ p3 17 (.int .i64 r.refN)));clear c4 c16 c17 d16 d17 f16 f17;generalize (V5.setCell ⟨p3,16,none⟩ (.int .i64 r.refH)).setCell ⟨p3,17,none⟩ (.int .i64 r.refN)=V6 at *;have hq:({ j with house:=r.house,num:=r.num,clock:=r.clock,kind:=j.fix,fix:=0,refH:=r.refH,refN:=r.refN } : Z8)=J6 r j:=by simp[J6,HK.out]
  rw[hq]at M7;have oneN:=Zm (J6 r j) ta tc;go_wp2_with (first
   |(refine zL p3 M7.out.e3 ?_)
   |(refine zN p2 (Z5 (J6 r j) ta tc) M7.out.e2 ?_))
  go_wp2_with fail;have hr:=Yp V6 p2 _ (Z5 (J6 r j) ta tc) _ _ M7.out.e2;refine bodyPost_ret (results_cell_row rfl _ _ p2 47 (Z5 (J6 r j) ta tc) (0,0) _ rfl hr Tryz.underlying47 rfl (I43.out _ _ _)) rfl ?_;have G4:=Yr V6 p2 (Z5 (J6 r j) ta tc);refine⟨ta,tc,rfl,Zu (OBd.out _ (T7.out.trans (Za.of_grown G4 (fun k e=>by cases e;exact .inr rfl)))) (by have:=HP.out;have:=HP0.out;omega),?_⟩;rw[HP0.out];exact M7.out.b.grown G4 (by have:=Zj M7.out.e0;omega) (fun q hq=>by cases hq;have:=HP.out;omega)
 ·have t0:(j.fix==2)=false:=by simp[hk]
  have hq:({ j with house:=r.house,num:=r.num,clock:=r.clock,kind:=j.fix,fix:=0,refH:=0,refN:=0 } : Z8)=J6 r j:=by simp[J6,hk]
  rw[hq]at M6;have oneN:=Zm (J6 r j) ta tc;go_wp2_with (first
   |(refine zL p3 M6.out.e3 ?_)
   |(refine zN p2 (Z5 (J6 r j) ta tc) M6.out.e2 ?_))
  go_wp2_with fail;have hr:=Yp V5 p2 _ (Z5 (J6 r j) ta tc) _ _ M6.out.e2;refine bodyPost_ret (results_cell_row rfl _ _ p2 47 (Z5 (J6 r j) ta tc) (0,0) _ rfl hr Tryz.underlying47 rfl (I43.out _ _ _)) rfl ?_;have G4:=Yr V5 p2 (Z5 (J6 r j) ta tc);refine⟨ta,tc,rfl,Zu (OBd.out _ (T6.out.trans (Za.of_grown G4 (fun k e=>by cases e;exact .inr rfl)))) (by have:=HP.out;have:=HP0.out;omega),?_⟩;rw[HP0.out];exact M6.out.b.grown G4 (by have:=Zj M6.out.e0;omega) (fun q hq=>by cases hq;have:=HP.out;omega)
end
end Go.Proofs.YtlnhppgfhkkidaaGreat
