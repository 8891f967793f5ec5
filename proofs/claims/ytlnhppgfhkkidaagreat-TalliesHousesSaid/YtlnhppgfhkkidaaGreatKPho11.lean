/- The given row TalliesHouses, proved: whatever the input, true, and the input reads as it did. -/
import Derived.Deep.Strs
import Derived.SizedLaws
import Derived.Test.YtlnhppgfhkkidaaGreatKPho10
set_option linter.unusedSimpArgs false
set_option linter.unusedVariables false
set_option maxHeartbeats 32000000
set_option maxRecDepth 100000
namespace Go.Proofs.YtlnhppgfhkkidaaGreat
open Go.Proofs.Tryz renaming prog → zq
open Go.ChangeShapes Go.WideShapes Go.ChangeAt Go.RowKit
theorem Xu {x:Int}(h:(Lit.int .i64 x).wf=true):Qm x:=by
 simp[Lit.wf,IntKind.min,IntKind.max,IntKind.signed,IntKind.bits]at h;unfold Qm;omega
theorem Tryz.cells3:zq.cellsOf 3=1:=by kernel_rfl
theorem Tryz.cells37:zq.cellsOf 37=1:=by kernel_rfl
theorem Tryz.cells43:zq.cellsOf 43=2:=by kernel_rfl
theorem Tryz.cells45:zq.cellsOf 45=2:=by kernel_rfl
theorem Tryz.cells47:zq.cellsOf 47=19:=by kernel_rfl
section
variable {H:Type}{enc:TypeId×Value->H}{W:World}{fuel:Nat}
theorem Z6U {cs:List Value}{y:DataW H×List MemPlace}(h:DataW.trod enc zq W 0 (fun _=>true) true fuel 37 cs=some y): ∃a c l,cs=[.slice a l.length c]/\Xe W a l.length c l /\ ∀z∈l,Qm z:=by
 rcases open_ints Tryz.underlying37 Tryz.underlying3 Tryz.cells3 h with ⟨hcs,hx⟩ | ⟨a,n,c,zs,hcs,_,hl,hm,hz,hx,hcell,hwz⟩
 ·exact⟨none,0,[],hcs,ZX.nil _ _,fun z hz=>by cases hz⟩
 ·simp only[if_true]at hz;have hlen:(zs.take n).length=n:=by rw[List.length_take];omega
  refine⟨some a,c,zs.take n,by rw[hlen];exact hcs,⟨by simp,by omega,hm,?_⟩,fun z hz=>Xu (hwz z (List.mem_of_mem_take hz))⟩;by_cases hc0:c=0
  ·exact .inl hc0
  ·obtain⟨ab,ao,spot⟩:=a;have hspot:spot=none:=by simpa [Addr.add] using World.cell?_spot (hcell 0 (by omega))
   subst hspot;refine .inr ⟨ab,ao,rfl,fun i x hx=>?_⟩;rw[List.getElem?_map,List.getElem?_take]at hx;split at hx
   ·rename_i hi;have hiz:i < zs.length:=by omega
    rw[List.getElem?_eq_getElem hiz,Option.map_some]at hx;simp only[Option.some.injEq]at hx;subst hx;have hc:=hcell i hiz;rw[Addr.add_lit]at hc;rw[hc,List.getD_eq_getElem?_getD,List.getElem?_eq_getElem hiz];rfl
   ·cases hx
theorem Yn {α:Type}{xs:List α}{n i:Nat}(h:xs.length=n)(hi:i < n): ∃y,xs[i]? = some y:=⟨xs[i]'(by omega),List.getElem?_eq_getElem (by omega)⟩
theorem Z3X {t:TypeId}{cs:List Value}{y:DataW H×List MemPlace}{f0 f1:Field}(ht:zq.underlying t=some (.struct #[f0,f1]))(h0:f0.type=3)(h1:f1.type=3)(o0:f0.offset=0)(o1:f1.offset=1)(hc:zq.cellsOf t=2)
  (h:DataW.trod enc zq W 0 (fun _=>true) true fuel t cs=some y) : ∃x z,cs=[.int .i64 x,.int .i64 z]/\Qm x/\Qm z:=by
 obtain⟨y0,y1,n,_,hl,g0,g1⟩:=trod_struct2 ht h;rw[hc]at hl
 match cs,hl with
 | [c0,c1],_=>
  rw[h0,o0,Tryz.cells3]at g0;rw[h1,o1,Tryz.cells3]at g1;obtain⟨x,a0,_,b0⟩:=DataW.trod_int Tryz.underlying3 g0;obtain⟨z,a1,_,b1⟩:=DataW.trod_int Tryz.underlying3 g1;simp at a0 a1;exact⟨x,z,by rw[a0,a1],Xu b0,Xu b1⟩
theorem Z3Z {cs:List Value}{y:DataW H×List MemPlace}(h:DataW.trod enc zq W 0 (fun _=>true) true fuel 47 cs=some y): ∃n:NoteV,ZbE W cs n:=by
 obtain⟨xs,m,_,_,hl,hlen,hf⟩:=DataW.trod_struct Tryz.underlying47 h;rw[Tryz.cells47]at hl
 match cs,hl with
 | [c0,c1,c2,c3,c4,c5,c6,c7,c8,c9,c10,c11,c12,c13,c14,c15,c16,c17,c18],_=>
  obtain⟨y0,e0⟩:=Yn hlen (i:=0) (by decide);have HG:=fun(K T:Nat) {y} (h:DataW.trod enc zq W 0 (fun _=>true) true m T (([c0,c1,c2,c3,c4,c5,c6,c7,c8,c9,c10,c11,c12,c13,c14,c15,c16,c17,c18].drop K).take (zq.cellsOf T))=some y)=>h;have g0:=HG 0 3 ((hf 0 _ rfl).trans e0);rw[Tryz.cells3]at g0;obtain⟨x0,a0,_,b0⟩:=DataW.trod_int Tryz.underlying3 g0;simp at a0;clear e0 g0;obtain⟨y1,e1⟩:=Yn hlen (i:=1) (by decide);have g1:=HG 1 3 ((hf 1 _ rfl).trans e1);rw[Tryz.cells3]at g1;obtain⟨x1,a1,_,b1⟩:=DataW.trod_int Tryz.underlying3 g1;simp at a1;clear e1 g1;obtain⟨y2,e2⟩:=Yn hlen (i:=2) (by decide);have g2:=HG 2 3 ((hf 2 _ rfl).trans e2);rw[Tryz.cells3]at g2;obtain⟨x2,a2,_,b2⟩:=DataW.trod_int Tryz.underlying3 g2;simp at a2;clear e2 g2;obtain⟨y3,e3⟩:=Yn hlen (i:=3) (by decide);have g3:=HG 3 3 ((hf 3 _ rfl).trans e3);rw[Tryz.cells3]at g3;obtain⟨x3,a3,_,b3⟩:=DataW.trod_int Tryz.underlying3 g3;simp at a3;clear e3 g3;obtain⟨y4,e4⟩:=Yn hlen (i:=4) (by decide);have g4:=HG 4 3 ((hf 4 _ rfl).trans e4);rw[Tryz.cells3]at g4;obtain⟨x4,a4,_,b4⟩:=DataW.trod_int Tryz.underlying3 g4;simp at a4;clear e4 g4;obtain⟨y5,e5⟩:=Yn hlen (i:=5) (by decide);have g5:=HG 5 3 ((hf 5 _ rfl).trans e5);rw[Tryz.cells3]at g5;obtain⟨x5,a5,_,b5⟩:=DataW.trod_int Tryz.underlying3 g5;simp at a5;clear e5 g5;obtain⟨y6,e6⟩:=Yn hlen (i:=6) (by decide);have g6:=HG 6 3 ((hf 6 _ rfl).trans e6);rw[Tryz.cells3]at g6;obtain⟨x6,a6,_,b6⟩:=DataW.trod_int Tryz.underlying3 g6;simp at a6;clear e6 g6;obtain⟨y7,e7⟩:=Yn hlen (i:=7) (by decide);have g7:=HG 7 3 ((hf 7 _ rfl).trans e7);rw[Tryz.cells3]at g7;obtain⟨x7,a7,_,b7⟩:=DataW.trod_int Tryz.underlying3 g7;simp at a7;clear e7 g7;obtain⟨y8,e8⟩:=Yn hlen (i:=8) (by decide);have g8:=HG 8 43 ((hf 8 _ rfl).trans e8);rw[Tryz.cells43]at g8;obtain⟨x8,z8,a8,b8,d8⟩:=Z3X Tryz.underlying43 rfl rfl rfl rfl Tryz.cells43 g8;simp at a8;clear e8 g8;obtain⟨y9,e9⟩:=Yn hlen (i:=9) (by decide);have g9:=HG 10 43 ((hf 9 _ rfl).trans e9);rw[Tryz.cells43]at g9;obtain⟨x9,z9,a9,b9,d9⟩:=Z3X Tryz.underlying43 rfl rfl rfl rfl Tryz.cells43 g9
  simp at a9;clear e9 g9;obtain⟨y10,e10⟩:=Yn hlen (i:=10) (by decide);have g10:=HG 12 3 ((hf 10 _ rfl).trans e10);rw[Tryz.cells3]at g10;obtain⟨x10,a10,_,b10⟩:=DataW.trod_int Tryz.underlying3 g10;simp at a10;clear e10 g10;obtain⟨y11,e11⟩:=Yn hlen (i:=11) (by decide);have g11:=HG 13 3 ((hf 11 _ rfl).trans e11);rw[Tryz.cells3]at g11;obtain⟨x11,a11,_,b11⟩:=DataW.trod_int Tryz.underlying3 g11;simp at a11;clear e11 g11;obtain⟨y12,e12⟩:=Yn hlen (i:=12) (by decide);have g12:=HG 14 3 ((hf 12 _ rfl).trans e12);rw[Tryz.cells3]at g12;obtain⟨x12,a12,_,b12⟩:=DataW.trod_int Tryz.underlying3 g12;simp at a12;clear e12 g12;obtain⟨y13,e13⟩:=Yn hlen (i:=13) (by decide);have g13:=HG 15 37 ((hf 13 _ rfl).trans e13);rw[Tryz.cells37]at g13;obtain⟨sa,sc,l,a13,r13,b13⟩:=Z6U g13;simp at a13;clear e13 g13;obtain⟨y14,e14⟩:=Yn hlen (i:=14) (by decide);have g14:=HG 16 45 ((hf 14 _ rfl).trans e14);rw[Tryz.cells45]at g14;obtain⟨x14,z14,a14,b14,d14⟩:=Z3X Tryz.underlying45 rfl rfl rfl rfl Tryz.cells45 g14;simp at a14;clear e14 g14;obtain⟨y15,e15⟩:=Yn hlen (i:=15) (by decide);have g15:=HG 18 3 ((hf 15 _ rfl).trans e15);rw[Tryz.cells3]at g15;obtain⟨x15,a15,_,b15⟩:=DataW.trod_int Tryz.underlying3 g15;simp at a15;clear e15 g15;exact⟨{ house:=x0,num:=x1,clock:=x2,day:=x3,kind:=x4,stone:=x5,heap:=x6,turns:=x7,hardLo:=x8,hardHi:=z8,diffLo:=x9,diffHi:=z9,a:=x10,b:=x11,ring:=x12,strokes:=l,refH:=x14,refN:=z14,fix:=x15 },sa,sc,by simp only[NoteV.cells];rw[a0,a1,a2,a3,a4,a5,a6,a7,a8.1,a8.2,a9.1,a9.2,a10,a11,a12,a13,a14.1,a14.2,a15],r13,{ house:=Xu b0,num:=Xu b1,clock:=Xu b2,day:=Xu b3,kind:=Xu b4,stone:=Xu b5,heap:=Xu b6,turns:=Xu b7,hardLo:=b8,hardHi:=d8,diffLo:=b9,diffHi:=d9,a:=Xu b10,b:=Xu b11,ring:=Xu b12,strokes:=b13,refH:=b14,refN:=d14,fix:=Xu b15 }⟩
end
theorem Tryz.cells23:zq.cellsOf 23=3:=by kernel_rfl
theorem Tryz.cells24:zq.cellsOf 24=1:=by kernel_rfl
section
variable {H:Type}{enc:TypeId×Value->H}{W:World}
theorem Z7f {base:Nat}{v:Value}{d:DataW H}{p:List MemPlace}(hval:Value.okWide zq W .any base 23 v)
  (h:DataW.Trod enc zq W 0 (fun _=>true) true 23 v d p) : ∃f:Ys,v=f.val:=by
 obtain⟨cs,rfl,hsz⟩:=okWide_struct Tryz.underlying23 hval;obtain⟨fuel,hf⟩:=h;obtain⟨y0,y1,y2,n,_,hl,g0,g1,g2⟩:=Go.Deep.trod_struct3 Tryz.underlying23 hf;rw[Tryz.cells23]at hsz;obtain⟨l⟩:=cs
 match l,hsz with
 | [c0,c1,c2],_=>
  have g0':DataW.trod enc zq W 0 (fun _=>true) true n 3 (([c0,c1,c2].drop 0).take (zq.cellsOf 3))=some y0:=g0;have g1':DataW.trod enc zq W 0 (fun _=>true) true n 3 (([c0,c1,c2].drop 1).take (zq.cellsOf 3))=some y1:=g1;have g2':DataW.trod enc zq W 0 (fun _=>true) true n 3 (([c0,c1,c2].drop 2).take (zq.cellsOf 3))=some y2:=g2;rw[Tryz.cells3]at g0' g1' g2';obtain⟨x0,a0,_,_⟩:=DataW.trod_int Tryz.underlying3 g0';obtain⟨x1,a1,_,_⟩:=DataW.trod_int Tryz.underlying3 g1';obtain⟨x2,a2,_,_⟩:=DataW.trod_int Tryz.underlying3 g2';simp at a0 a1 a2;exact⟨⟨x0,x1,x2⟩,by rw[a0,a1,a2];rfl⟩
theorem Z4A {a:Addr}{n:Nat}{cs:List Value}(hn:0 < n)(h:W.cells? 0 a n=some cs):a.spot=none:=by
 have h2:=World.cells?_some h;have h3:=h2.2.2 0 (by have:=h2.1;omega);rw[List.getElem?_eq_getElem (by have:=h2.1;omega)]at h3;simpa [Addr.add] using World.cell?_spot h3
theorem Z39 {α:Type}{n:Nat}{P:Nat->α->Prop}(h : ∀i,i < n -> ∃x,P i x): ∃l:List α,l.length=n /\ ∀i x,l[i]? = some x->P i x:=by
 induction n with
 | zero=>exact⟨[],rfl,by simp⟩
 | succ n ih=>
  obtain⟨l,h1,h2⟩:=ih (fun i hi=>h i (by omega));obtain⟨x,hx⟩:=h n (by omega);refine⟨l ++ [x],by simp[h1],fun i y hy=>?_⟩;rcases Nat.lt_or_ge i l.length with hi | hi
  ·rw[List.getElem?_append_left hi]at hy;exact h2 i y hy
  ·rw[List.getElem?_append_right hi]at hy;have:i - l.length=0:=by
    rcases Nat.eq_zero_or_pos (i - l.length)with h0 | h0
    ·exact h0
    ·rw[List.getElem?_eq_none (by simp;omega)]at hy;cases hy
   rw[this]at hy;simp at hy;subst hy;have:i=n:=by omega
   rw[this];exact hx
end
open Go.RowKit
theorem Z12 (l:List NoteV)(a:zA)(nn nc:Nat)(ma:zA)(mn mc:Nat)(w:World)(hr:JM w a nn nc l)(hm:JM w ma mn mc l)(hsm : ∀x∈l,JU x/\x.strokes.length<=1000000):
  Calls zq 18 #[.slice a nn nc,.slice ma mn mc] w fun e w'=>e = .returned (.bool true)/\Below w.heap.size w w':=by
 have J19:(zq.info? 47).map (·.size)=some 19:=by kernel_rfl
 obtain rfl:nn=mn:=hr.1.symm.trans hm.1;obtain⟨xs,hxs,hrl⟩:=hr.choose;have RL:=zH hrl;have HXS:=zH hxs;have LNX:=zH hrl.1;have LOK:=zH (show ∀W,Below w.heap.size w W -> ∀x∈xs,x.ok W from fun W hb x hx=>(QP hrl hx).below hb);obtain⟨ys,hys,hml⟩:=hm.choose;have ML:=zH hml;have HYS:=zH hys;have LMY:=zH hml.1;have MOK:=zH (show ∀W,Below w.heap.size w W -> ∀x∈ys,x.ok W from fun W hb x hx=>(QP hml hx).below hb);have hn63:nn<=9223372036854775807:=by have h1:=hr.2.1;have h2:=hr.2.2.1;unfold maxLen at h2;omega
 have tne:((nn:Int) != (nn:Int))=false:=by simp
 have HSM:=zH hsm;clear hr hm hxs hrl hys hml hsm;go_enter Tryz.func18,Tryz.ntmps18;go_wp2_with fail;clear tne;go_loopw [5] (fun i wr=>∃(k:Nat),i = .int .i64 (k:Int)/\k<=nn/\Hid (Below w.heap.size w wr)) (fun i _=>nn - (intOf i).toNat)
 case atStart=>exact⟨0,rfl,Nat.zero_le _,zH (Below.refl _ _)⟩
 case round=>
  obtain⟨k,rfl,hk,BB⟩:=hrel;by_cases hlt:k < nn
  ·have t0:decide ((k:Int) < (nn:Int))=true:=by simp;omega
   obtain⟨x,Hx⟩ : ∃x,xs[k]? = some x:=⟨_,List.getElem?_eq_getElem (by rw[LNX.out];exact hlt)⟩;obtain⟨y,Hy⟩ : ∃y,ys[k]? = some y:=⟨_,List.getElem?_eq_getElem (by rw[LMY.out];exact hlt)⟩;have HL1:l[k]? = some x.n:=by rw[<-HXS.out,List.getElem?_map,Hx];rfl
   have EN:y.n=x.n:=by
    have h2:l[k]? = some y.n:=by rw[<-HYS.out,List.getElem?_map,Hy];rfl
    rw[HL1]at h2;exact(Option.some.inj h2).symm
   have SMX:=zH (HSM.out x.n (List.mem_of_getElem? HL1));obtain⟨yn,ysa,ysc⟩:=y;dsimp only at EN;subst EN;clear HL1;obtain⟨b,off,rfl,hat⟩:=(RL.out.below BB.out).at (by omega);have HX:=zH (hat k x Hx).1;obtain⟨o,ho⟩:=zX (off+k * 19);rw[ho.out]at HX;have HIX:=zH (fun W=>ZN (W:=W) (c:=nc) (b:=b) Tryz.underlying24 J19 hlt ho.out);obtain⟨b2,off2,rfl,hat2⟩:=(ML.out.below BB.out).at (by omega);obtain⟨o2,ho2⟩:=zX (off2+k * 19);have HY:=zH (hat2 k _ Hy).1;rw[ho2.out]at HY;have HIY:=zH (fun W=>ZN (W:=W) (c:=mc) (b:=b2) Tryz.underlying24 J19 hlt ho2.out);have XOK:=zH (LOK.out wr BB.out x (List.mem_of_getElem? Hx));have YOK:=zH (MOK.out wr BB.out _ (List.mem_of_getElem? Hy));have HK64:Hid ((k:Int)+1<=9223372036854775807):=zH (by omega);have LX:=zH (show ∀w0,Below wr.heap.size wr w0->w0.rangeAt b o (x.n.cells x.sa x.sc)from fun w0 h=>Zs HX.out h);have LY:=zH (show ∀w0,Below wr.heap.size wr w0->w0.rangeAt b2 o2 (x.n.cells ysa ysc)from fun w0 h=>Zs HY.out h);have hC0:Below wr.heap.size wr wr.drew:=(Below.refl _ _).drew;clear hat Hx hat2 Hy;go_upto_region 6 with fail;clear t0;try simp only[Act.put,VZ,VY,VX]
   refine zC (fun w':World=>Below wr.heap.size wr w') hC0 ?_
   iterate 2 go_big_quiet_step (fail)
   refine zQ (.pointer (some ⟨b,o,none⟩)) (fun w0 hC=>?_) ?_
   ·have hix:=HIX.out w0;clear hC;go_simp
   refine zQ (.agg (Z5 x.n x.sa x.sc)) (fun w0 hC=>Zx (.tmp 19) rfl b o rfl x.n x.sa x.sc (LX.out w0 hC)) ?_
   iterate 2 go_big_quiet_step (fail)
   refine zQ (.pointer (some ⟨b2,o2,none⟩)) (fun w0 hC=>?_) ?_
   ·have hix:=HIY.out w0;clear hC;go_simp
   refine zQ (.agg (Z5 x.n ysa ysc)) (fun w0 hC=>Zx (.tmp 23) rfl b2 o2 rfl x.n ysa ysc (LY.out w0 hC)) ?_;refine zQ (.bool true) (fun w0 hC=>?_) ?_
   ·go_simp;refine(Z2f x.n x.sa x.sc ysa ysc w0 (XOK.out.below hC) (YOK.out.below hC) SMX.out.1 SMX.out.2).mono ?_;rintro e w1 ⟨rfl,b1⟩;exact⟨rfl,hC.trans (b1.mono hC.size)⟩
   refine zV (.bool false) ?_;refine wpQuiet_nil ?_;intro w' hC;have BB2:=zH (BB.out.trans (hC.mono BB.out.size));clear hC LX LY XOK YOK HX HY BB;have hk64:=HK64.out;go_wp2;go_roundw
   case rel=>exact⟨k+1,by go_num,by omega,BB2⟩
   case measure=>simp[intOf];omega
  ·have t0:decide ((k:Int) < (nn:Int))=false:=by simp;omega
   go_wp2;go_ret;exact⟨rfl,BB.out⟩
theorem ZcP {S:ZC}(h:Xr S):Z8G S.l=Z6e S.c:=by
 have e : ∀a,howMany S.l a=S.c a:=fun a=>Z0k h.nms h.nodup a;unfold Z8G Z6e;rw[e,e,e,e,e,e,e,e]
theorem CrP.uniq {S S' S2:ZC}{x y z c c2:Int}(h:CrP S x y z S' c)(k:CrP S x y z S2 c2):S'=S2/\c=c2:=by
 rcases h with ⟨h1,h2,h3⟩ | ⟨h1,h2,h3⟩ <;> rcases k with ⟨k1,k2,k3⟩ | ⟨k1,k2,k3⟩
 ·exact⟨by rw[h2,k2],by rw[h3,k3]⟩
 ·exact absurd k1 h1
 ·exact absurd h1 k1
 ·exact⟨by rw[h2,k2],by rw[h3,k3]⟩
theorem Z88 {A A':ZC}{o:Option NoteV}(h:Z1e A o=some A'):A'.l.length<=A.l.length+1:=by
 cases o with
 | none=>cases h
 | some n=>
  have h0:(if (Yy A [n]).2.2=0/\(Yy A [n]).2.1=1 then some (Yy A [n]).1 else none)=some A':=h;split at h0
  ·rename_i hc;cases h0;cases hb:[n].any (fun n=>!decide (ZD A.f n=0))with
   | true=>rw[UT hb];exact Nat.le_succ _
   | false=>
    cases hg:Ym A.l [] A.c [n]with
    | none=>rw[QZ hb hg];exact Nat.le_succ _
    | some r=>
     obtain⟨fr,c'⟩:=r;rw[US hb hg]at hc ⊢;have h1:(fr.length:Int)=1:=hc.2;show(A.adds fr).l.length<=_;rw[Z21];omega
  ·cases h0
theorem Z56: ∀(bs:List (zU)) (A:ZC),(Jr A bs).l.length<=A.l.length+bs.length
 | [],A=>Nat.le_refl _
 | b :: bs,A=>by
  rw[Jr]
  cases h:Z1e A (Jl A.f b)with
  | none=>show A.l.length<=_;omega
  | some A'=>
   have h1:=Z56 bs A'
   have h2:=Z88 h
   show(Jr A' bs).l.length<=_
   rw[List.length_cons]
   omega
theorem CrP.len {S S':ZC}{x y z c:Int}(hi:Xr S)(h:CrP S x y z S' c):S'.l.length<=S.l.length:=by
 rcases h with ⟨_,h2,_⟩ | ⟨_,h2,_⟩
 ·rw[h2];exact Nat.le_refl _
 ·rw[h2];show(Jr _ _).l.length<=_;refine Nat.le_trans (Z56 _ _) ?_;unfold ZB;have h3:=(Z0K ((Ja S.fb S.fd x.toNat y.toNat z).length / 4) (JL S.sb S.sd x.toNat z) (Ja S.fb S.fd x.toNat y.toNat z)).1;have h4:(Ja S.fb S.fd x.toNat y.toNat z).length<=S.fb.length:=by
   unfold Ja;split
   ·rw[Qj,List.length_take];omega
   ·rw[List.length_take];omega
  have h5:=hi.fbl;have h6:=hi.len;have h7:(ZC.new S.f S.id).l.length=0:=rfl;omega
theorem Zc7 {S:ZC}(h:Xr S){n:NoteV}(hok:n.Ok):Xr (UC S n).1:=by
 unfold UC;split
 ·exact h
 ·split
  ·exact h
  ·rename_i h2;split
   ·exact h
   ·have hf:Zf S.f (U7 S n)=true:=by
     have h3:ZD S.f (U7 S n)=0:=by
      by_cases h3:ZD S.f (U7 S n)=0
      ·exact h3
      ·exact absurd h3 (by simpa using h2)
     unfold ZD at h3;rw[if_pos h.v]at h3;by_cases h4:Zf S.f (U7 S n)=true
     ·exact h4
     ·rw[if_neg h4]at h3;cases h3
    exact(h.add hf (Zbj hok hf) rfl).1
structure Z2I (w W:World)(p mb sp:Nat)(G:Nm->Option LN)(SF:Nat->Prop)(S1:ZC)(q:Nat)(FQ:Nat->Prop)(S2:ZC):Prop where
 bel:Below w.heap.size w W
 h1:Xl W p mb sp G SF S1
 h2:JN W q FQ S2
 dis : ∀k,XJ p mb G SF k -> ¬FQ k
 g1 : ∀k,XJ p mb G SF k->w.heap.size<=k
 g2 : ∀k,FQ k->w.heap.size<=k
section
variable {w W W':World}{p mb sp mb' sp':Nat}{G G':Nm->Option LN}{SF SF':Nat->Prop}{S1 S1':ZC}{q:Nat}{FQ:Nat->Prop}{S2 S2':ZC}
theorem Z2I.below (h:Z2I w W p mb sp G SF S1 q FQ S2)(hb:Below W.heap.size W W'):Z2I w W' p mb sp G SF S1 q FQ S2:=
 ⟨h.bel.trans (hb.mono h.bel.size),h.h1.below hb,h.h2.below hb,h.dis,h.g1,h.g2⟩
theorem Z2I.one (h:Z2I w W p mb sp G SF S1 q FQ S2)(hh:Xl W' p mb' sp' G' SF' S1')(hs:Za (XJ p mb G SF) W W')(hn : ∀k,XJ p mb' G' SF' k->XJ p mb G SF k\/W.heap.size<=k):Z2I w W' p mb' sp' G' SF' S1' q FQ S2:=
 ⟨hs.below h.bel h.bel.size (fun k hk=>h.g1 k hk),hh,h.h2.same hs h.dis,fun k hk hf=>(hn k hk).elim (fun h4=>h.dis k h4 hf) (fun h4=>by have:=h.h2.lt k hf;omega),fun k hk=>(hn k hk).elim (h.g1 k) (fun h4=>Nat.le_trans h.bel.size h4),h.g2⟩
theorem Z2I.two (h:Z2I w W p mb sp G SF S1 q FQ S2)(hr:Z2J W q FQ S2' W'): ∃FQ',Z2I w W' p mb sp G SF S1 q FQ' S2':=by
 obtain⟨F',h1,h2,h3⟩:=hr;exact⟨F',h2.below h.bel h.bel.size (fun k hk=>h.g2 k hk),h.h1.same h2 (fun k hk hf=>h.dis k hf hk),h1,fun k hk hf=>(h3 k hf).elim (fun h4=>h.dis k hk h4) (fun h4=>by have:=h.h1.lt k hk;omega),h.g1,fun k hk=>(h3 k hk).elim (h.g2 k) (fun h4=>Nat.le_trans h.bel.size h4)⟩
end
structure OpH where
 kind:Int
 ba:zA
 bn:Nat
 bc:Nat
 n:LN
 la:zA
 lc:Nat
 xs:List LN
 ca:zA
 cc:Nat
 qs:List Int
 stock:Int
 foil:Int
 flip:Int
def OpH.cells (o:OpH):List Value:=[.int .i64 o.kind,.slice o.ba o.bn o.bc] ++ o.n.n.cells o.n.sa o.n.sc ++ [.slice o.la o.xs.length o.lc,.slice o.ca o.qs.length o.cc,.int .i64 o.stock,.int .i64 o.foil,.int .i64 o.flip]
structure OpH.ok (W:World)(o:OpH):Prop where
 n:o.n.ok W
 nok:o.n.n.Ok
 nst:o.n.n.strokes.length<=17592186044416
 l:Jb W o.la o.xs.length o.lc o.xs
 lok : ∀x∈o.xs,x.n.Ok/\x.n.strokes.length<=17592186044416
 c:Xe W o.ca o.qs.length o.cc o.qs
 ll:o.xs.length<=17592186044416/\o.qs.length<=17592186044416
def Z6o (W:World)(a:zA)(n c:Nat)(os:List OpH):Prop:=
 os.length=n/\n<=c/\c<=maxLen/\(c=0 \/ ∃b off,a=some ⟨b,off,none⟩ /\ ∀i o,os[i]? = some o->W.rangeAt b (off+i * 26) o.cells/\o.ok W)
theorem Z6o.at {W:World}{a:zA}{n c:Nat}{os:List OpH}(h:Z6o W a n c os)(h0:0 < n): ∃b off,a=some ⟨b,off,none⟩ /\ ∀i o,os[i]? = some o->W.rangeAt b (off+i * 26) o.cells/\o.ok W:=by
 rcases h.2.2.2 with h4 | h4
 ·have:=h.2.1;omega
 ·exact h4
theorem Z4I (l:List Int)(a:zA)(n c:Nat)(a':zA)(c':Nat)(w:World)(hr:Xe w a n c l)(hr':Xe w a' n c' l)(hn:n<=1000):
  Calls zq 25 #[.slice a n c,.slice a' n c'] w fun e w'=>e = .returned (.bool true)/\Below w.heap.size w w':=by
 have JI:=zH (show(zq.info? 3).map (·.size)=some 1 from by kernel_rfl);have R1:=zH hr;have R2:=zH hr';have HN:=zH hr.len;have HNN:=zH hn;clear hr hr' hn;go_enter Tryz.func25,Tryz.ntmps25;go_wp2_with fail;go_loopw [5] (fun i wr=>∃k:Nat,i = .int .i64 (k:Int)/\k<=n/\Hid (Below w.heap.size w wr)) (fun i _=>n - (intOf i).toNat)
 case atStart=>exact⟨0,rfl,Nat.zero_le _,zH (Below.refl _ _)⟩
 case round=>
  obtain⟨k,rfl,hk,BB⟩:=hrel;by_cases hlt:k < n
  ·have t0:decide ((k:Int) < (n:Int))=true:=by simp;omega
   obtain⟨z,Hz⟩ : ∃z,l[k]? = some z:=⟨_,List.getElem?_eq_getElem (by rw[HN.out];exact hlt)⟩;obtain⟨b,off,rfl,h1⟩:=R1.out.at (by omega);obtain⟨b',off',rfl,h2⟩:=R2.out.at (by omega);have e1:=h1 k hlt;have e2:=h2 k hlt;rw[Hz]at e1 e2;have LA:=zH (show ∀w0,Below wr.heap.size wr w0->w0.cell? ⟨b,off+k,none⟩=some (.int .i64 z)/\w0.cell? ⟨b',off'+k,none⟩=some (.int .i64 z)from fun w0 hb=>⟨((BB.out.trans (hb.mono BB.out.size)).cell (p:=⟨b,off+k,none⟩) (World.block_lt_of_cell? w _ e1)).trans e1,((BB.out.trans (hb.mono BB.out.size)).cell (p:=⟨b',off'+k,none⟩) (World.block_lt_of_cell? w _ e2)).trans e2⟩);have HI1:=zH (fun W=>ZN (W:=W) (c:=c) (b:=b) (off:=off) Tryz.underlying37 JI.out hlt (by rw[Nat.mul_one]));have HI2:=zH (fun W=>ZN (W:=W) (c:=c') (b:=b') (off:=off') Tryz.underlying37 JI.out hlt (by rw[Nat.mul_one]));have HK64:Hid ((k:Int)+1<=9223372036854775807):=zH (by have:=HNN.out;omega);have hC0:Below wr.heap.size wr wr.drew:=(Below.refl _ _).drew;clear h1 h2 e1 e2 Hz;go_upto_region 6 with fail;clear t0;try simp only[Act.put,VZ,VY,VX]
   refine zC (fun w':World=>Below wr.heap.size wr w') hC0 ?_
   iterate 2 go_big_quiet_step (fail)
   refine zQ (.pointer (some ⟨b,off+k,none⟩)) (fun w0 hC=>?_) ?_
   ·have hix:=HI1.out w0;clear hC;go_simp
   refine zQ (.int .i64 z) (fun w0 hC=>?_) ?_
   ·obtain⟨h1,h2⟩:=LA.out w0 hC;clear hC h2;go_simp
   iterate 2 go_big_quiet_step (fail)
   refine zQ (.pointer (some ⟨b',off'+k,none⟩)) (fun w0 hC=>?_) ?_
   ·have hix:=HI2.out w0;clear hC;go_simp
   refine zQ (.int .i64 z) (fun w0 hC=>?_) ?_
   ·obtain⟨h1,h2⟩:=LA.out w0 hC;clear hC h1;go_simp
   refine zV (.bool false) ?_;refine wpQuiet_nil ?_;intro w' hC;have BB2:=zH (BB.out.trans (hC.mono BB.out.size));clear hC LA;go_upto_region 5 with fail;have hk64:=HK64.out;go_wp2;go_roundw
   case rel=>exact⟨k+1,by go_num,by omega,BB2⟩
   case measure=>simp[intOf];omega
  ·have t0:decide ((k:Int) < (n:Int))=false:=by simp;omega
   go_wp2;go_ret;exact⟨rfl,BB.out⟩
def Z2L (w:World)(p mb sp:Nat)(G:Nm->Option LN)(SF:Nat->Prop)(S:ZC)(n:NoteV)(e:Ending)(W:World):Prop:=
 (∃ta tc,e = .returned (.tuple #[.agg (Z5 (UC S n).2.1 ta tc),.int .i64 (UC S n).2.2])/\W.ownsRow w.heap.size 3 1 (.slice ta (UC S n).2.1.strokes.length tc) (UC S n).2.1.strokes.length ((UC S n).2.1.strokes.map Yo)) /\
 ∃G' SF',Xl W p mb sp G' SF' (UC S n).1/\Za (XJ p mb G SF) w W /\ ∀k,XJ p mb G' SF' k->XJ p mb G SF k\/w.heap.size<=k
theorem Z2L.no {w W:World}{p mb sp:Nat}{G:Nm->Option LN}{SF:Nat->Prop}{S:ZC}{n:NoteV}{e:Ending}{c:Int}(hd:UC S n=(S,Zd,c))(he:e = .returned (.tuple #[.agg (Z5 Zd none 0),.int .i64 c]))(hh:Xl w p mb sp G SF S)(hb:Below w.heap.size w W):Z2L w p mb sp G SF S n e W:=
 ⟨⟨none,0,by rw[hd];exact he,by rw[hd];exact World.ownsRow_nil _ _ _ _⟩,G,SF,by rw[hd];exact hh.below hb,Za.of_below hb,fun k hk=>.inl hk⟩
section
attribute [local go_sem] ZS Xi Jg Jf
theorem Zb4 (p mb sp:Nat)(G:Nm->Option LN)(SF:Nat->Prop)(S:ZC)(n:NoteV)(sa:zA)(sc:Nat)(w:World)(hh:Xl w p mb sp G SF S)(hi:Xr S)(hs:Xe w sa n.strokes.length sc n.strokes)(hok:n.Ok)(hst:n.strokes.length<=1000000000)(hlen:S.l.length < 400):
  Calls zq 19 #[.pointer (some ⟨p,0,none⟩),.agg (Z5 n sa sc)] w fun e w'=>Z2L w p mb sp G SF S n e w':=by
 have HH:=zH hh;have HI:=zH hi;have HOK:=zH hok;have HLEN:=zH hlen;have HLT:=zH hh.lt;obtain⟨k,hk,hk8⟩ : ∃k:Nat,S.id=(k:Int)/\k<=8:=⟨S.id.toNat,by have:=hi.id;omega,by have:=hi.id;omega⟩;have HK:=zH hk;have HK8:=zH hk8;have CB:Hid (S.c (k:Int)<=400):=zH (Zbu hi _);have oneZ:=zH (Zh Zd none 0);have B0:Hid (Below w.heap.size w ((w.alloc (.cells (Z5 n sa sc) 47)).alloc (.cells (Z5 Zd none 0) 47))):=zH ((zB _ _).alloc (by simp) _);have N0:=zH (Z8 _ (.cells (Z5 Zd none 0) 47) _ _ (Z9 w (.cells (Z5 n sa sc) 47)));have Z0:=zH (Zm (w.alloc (.cells (Z5 n sa sc) 47)) (.cells (Z5 Zd none 0) 47) (w.heap.size+1) (by simp));have RS:=zH (hs.below B0.out);clear hh hi hs hok hlen hk hk8;go_enter Tryz.func19,Tryz.ntmps19;go_upto_region 1 with fail;rw[<-ZZ];obtain⟨p3,hp3⟩:=zX (w.heap.size);obtain⟨p4,hp4⟩:=zX (w.heap.size+1);have GE0:Hid (w.heap.size<=p3/\p3 < p4):=zH (by have:=hp3.out;have:=hp4.out;omega);rw[hp3.out]at N0;rw[hp4.out]at Z0;rw[hp4.out,hp3.out];generalize (w.alloc (.cells (Z5 n sa sc) 47)).alloc (.cells (Z5 Zd none 0) 47)=w0 at *;go_wp2_with fail;refine(VW w0 p mb sp S.f S.id S.c (HH.out.below B0.out).blk).mono ?_;rintro e w1 ⟨rfl,hw1⟩;rw[hw1];clear hw1 w1;go_upto_region 3 with fail;go_wp2_with (first
  |(refine zL p3 N0.out ?_))
 refine(Z0n n sa sc w0 RS.out hst).mono ?_;rintro e w2 ⟨ta,tc,rfl,ho,b2⟩;have N2:=zH (Z7 b2 N0.out);have Z2:=zH (Z7 b2 Z0.out);have B2:=zH (B0.out.trans (b2.mono B0.out.size));have O2:=zH (Zp ho B0.out.size);clear ho b2 N0 Z0 RS;have oneN:=Zh n ta tc;go_upto_region 4 with (refine zN p3 (Z5 n ta tc) N2.out ?_);clear oneN;have N3:=zH (ZP w2 p3 _ (Z5 n ta tc) _ _ N2.out);have S3:=zH (Jq w2 p3 (Z5 n ta tc));generalize w2.setRow p3 (Z5 n ta tc)=w3 at *;have DA:Hid (VG w w3 p3 p4 n ta tc):=zH ⟨S3.out.below B2.out B2.out.size (fun q hq=>by rw[show q=p3 from hq];exact GE0.out.1),N3.out,(S3.out.block p4 (Zq Z2.out) (fun e=>by have:=GE0.out;omega)).trans Z2.out,Zi O2.out S3.out (fun b hb e=>Zg O2.out N2.out (by intro cur;simp) (by rw[hb,show b=p3 from e])),GE0.out⟩;clear N2 Z2 O2 N3 S3 B2 GE0 hst;refine zp ((HH.out.below DA.out.bel).blk) fun hh=>?_;have DB:=zH (DA.out.below ((zd w3)));generalize w3.drew=V0 at *;clear DA;refine zw 0 rfl p 0 ?_;refine zw 1 rfl p 0 ?_;refine zw 2 rfl p 3 ?_;refine zS 3 rfl (.int .i64 (k:Int)) (fun W h=>by have hc:=Z6 h 3 (.int .i64 (k:Int)) (by rw[HK.out];rfl);go_simp) ?_;refine zw 4 rfl p 0 ?_;refine zw 5 rfl p 0 ?_;refine zw 6 rfl p 0 ?_;refine zw 7 rfl p 3 ?_;refine zS 8 rfl (.int .i64 (k:Int)) (fun W h=>by have hc:=Z6 h 3 (.int .i64 (k:Int)) (by rw[HK.out];rfl);go_simp) ?_;refine zw 9 rfl p 0 ?_;refine zw 10 rfl p 5 ?_;refine zS 11 rfl (.pointer (some ⟨p,5+k,none⟩)) (fun W h=>by have hc:=Z65 (W:=W) (p:=p) (k:=k) (by have:=HK8.out;omega);go_simp) ?_;refine zS 12 rfl (.int .i64 (S.c (k:Int):Int)) (fun W h=>by have hc:=Z6 h (5+k) (.int .i64 (S.c (k:Int):Int)) (Z4r _ _ _ _ _ k HK8.out);go_simp) ?_;refine zS 13 rfl (.int .i64 ((S.c (k:Int):Int)+1)) (fun W h=>by have hcb:IntKind.i64.wrap ((S.c (k:Int):Int)+1)=(S.c (k:Int):Int)+1:=(by have h9:=CB.out;rw[IntKind.wrap_i64];omega);go_simp) ?_;refine zw 14 rfl p3 0 ?_;refine zR 15 rfl fun K hK=>?_;have hc:=Z6 DB.out.n 0 _ rfl;have hfz:=Ze DB.out.n 0
 have DE:Hid (VG w (V0.setCell ⟨p3,0,none⟩ (.int .i64 (k:Int))) p3 p4 { n with house:=(k:Int) } ta tc):=zH (DB.out.set (Za.of_grown (Zj _ p3 0 _) (fun q e=>by cases e;rfl)) (by have h1:=ZW DB.out.n 0 (.int .i64 (k:Int));exact h1) rfl);have HP1:=zH ((HH.out.below DE.out.bel).blk);go_simp;clear hc hfz hh;refine zK hK HP1.out fun hh=>?_;clear hK K;refine zw 16 rfl p3 1 ?_;refine zR 17 rfl fun K hK=>?_;have hc:=Z6 DE.out.n 1 _ rfl;have hfz:=Ze DE.out.n 1;have DF:Hid (VG w ((V0.setCell ⟨p3,0,none⟩ (.int .i64 (k:Int))).setCell ⟨p3,1,none⟩ (.int .i64 ((S.c (k:Int):Int)+1))) p3 p4 { n with house:=(k:Int),num:=(S.c (k:Int):Int)+1 } ta tc):=zH (DE.out.set (Za.of_grown (Zj _ p3 1 _) (fun q e=>by cases e;rfl)) (by have h1:=ZW DE.out.n 1 (.int .i64 ((S.c (k:Int):Int)+1));exact h1) rfl);have HP2:=zH ((HH.out.below DF.out.bel).blk);go_simp;clear hc hfz hh;refine zK hK HP2.out fun hh=>?_;clear hK K;refine zw 18 rfl p3 2 ?_;refine zR 19 rfl fun K hK=>?_;have hc:=Z6 DF.out.n 2 _ rfl;have hfz:=Ze DF.out.n 2;have DG:Hid (VG w (((V0.setCell ⟨p3,0,none⟩ (.int .i64 (k:Int))).setCell ⟨p3,1,none⟩ (.int .i64 ((S.c (k:Int):Int)+1))).setCell ⟨p3,2,none⟩ (.int .i64 1)) p3 p4 { n with house:=(k:Int),num:=(S.c (k:Int):Int)+1,clock:=1 } ta tc):=zH (DF.out.set (Za.of_grown (Zj _ p3 2 _) (fun q e=>by cases e;rfl)) (by have h1:=ZW DF.out.n 2 (.int .i64 1);exact h1) rfl);have HP3:=zH ((HH.out.below DG.out.bel).blk);go_simp;clear hc hfz hh;refine zK hK HP3.out fun hh=>?_;clear hK K;refine zE ?_;clear HP1 HP2 HP3 DB DE DF hh;have DA:Hid (VG w (((V0.setCell ⟨p3,0,none⟩ (.int .i64 (k:Int))).setCell ⟨p3,1,none⟩ (.int .i64 ((S.c (k:Int):Int)+1))).setCell ⟨p3,2,none⟩ (.int .i64 1)) p3 p4 (doC S n 1) ta tc):=zH (by
  have h:=DG.out;unfold doC;rw[HK.out];exact h)
 clear DG;generalize ((V0.setCell ⟨p3,0,none⟩ (.int .i64 (k:Int))).setCell ⟨p3,1,none⟩ (.int .i64 ((S.c (k:Int):Int)+1))).setCell ⟨p3,2,none⟩ (.int .i64 1)=w4 at *;have c4:=Z6 (HH.out.below DA.out.bel).blk 4 (.map (some mb)) rfl;go_wp2_with (first
  |(at_range;refine Qe _ rfl _ 106 47 rfl Tryz.underlying106 mb S.l.length rfl (HH.out.below DA.out.bel).map ?_;intro w5 cnt0 hrg0 hg0 hs0)
  | fail)
 go_frame;have DA5:=zH (DA.out.below (Z51 hg0));obtain⟨r,hr⟩:=zX (w4.heap.size);have RNG:=zH hrg0;have RGE:Hid (p4 < r):=zH (by have:=Zq DA.out.z;have:=hr.out;omega);rw[hr.out]at RNG;rw[hr.out];clear hrg0 hg0 hs0 c4;go_loopw [39] (fun _ wr=>∃(ks:List Nm) (cnt:Nat) (c:Int),Hid (YB LN.val wr mb r S.l.length G ks cnt)/\Hid (VG w wr p3 p4 (doC S n c) ta tc)/\Hid (QR ((ks.filterMap G).map LN.n) c)) (fun _ wr=>wr.rangeLeft mb r)
 case atStart=>exact⟨[],cnt0,1,RNG,DA5,zH QR.nil⟩
 case round=>
  obtain⟨ks,cnt,c,HR,DR,HC⟩:=hrel;clear RNG DA5 DA;go_upto_region 7 with (first
   |(at_next;refine Qt wr rfl _ rfl mb r S.l.length cnt ks rfl HR.out ?_ ?_)
   | fail)
  ·intro hall;have HALL:=zH hall;clear hall;have CK:Hid (c=Z3n S.l):=zH (HC.out.uniq ((Z3A S.l).mem fun x=>by
    constructor
    ·intro hx;obtain⟨y,hy,rfl⟩:=List.mem_map.1 hx;obtain⟨q,_,hq⟩:=List.mem_filterMap.1 hy;exact(HH.out.gs q y hq).1
    ·intro hx;obtain⟨y,hy,rfl⟩:=HH.out.gl x hx;exact List.mem_map_of_mem (List.mem_filterMap.2 ⟨_,HALL.out _ (by rw[hy];rfl),hy⟩)))
   have DA:Hid (VG w wr p3 p4 (U7 S n) ta tc):=zH (by have h:=DR.out;rw[CK.out]at h;exact h);have CK2:Hid (Z3n S.l<=1099511627777):=zH (by
    rcases(Z3A S.l).2.2 with h | ⟨x,hx,h⟩
    ·omega
    ·have:=QH (HI.out.frm x hx);omega)
   clear HR DR HC HALL CK;have c4:=Z6 (HH.out.below DA.out.bel).blk 4 (.map (some mb)) rfl;have cn:=Z6 DA.out.n 2 (.int .i64 (Z3n S.l)) rfl;by_cases hck:1099511627776 < Z3n S.l
   ·have HD:=zH (show UC S n=(S,Zd,2)by unfold UC;rw[if_pos (.inr hck)]);have t1:decide (1099511627776 < Z3n S.l)=true:=by simp[hck]
    clear hck;go_wp2_with (first
     |(at_len;refine Uz rfl _ 106 47 rfl Tryz.underlying106 mb S.l.length rfl (HH.out.below DA.out.bel).map ?_;intro kk hkk;have tkk:decide ((400:Int)<=(kk:Int))=false:=(by have:=HLEN.out;simp;omega))
     |(refine zN p4 (Z5 Zd none 0) DA.out.z ?_))
    refine zr (ZP _ p4 _ _ _ _ DA.out.z) ?_;exact Z2L.no HD.out rfl HH.out (DA.out.done (Jq _ p4 _)).1
   ·have t1:decide (1099511627776 < Z3n S.l)=false:=by simp;omega
    have CK3:=zH hck;clear hck;go_upto_region 11 with (first
      |(at_len;refine Uz rfl _ 106 47 rfl Tryz.underlying106 mb S.l.length rfl (HH.out.below DA.out.bel).map ?_;intro kk hkk;have tkk:decide ((400:Int)<=(kk:Int))=false:=(by have:=HLEN.out;simp;omega))
      | fail)
    clear t1 tkk hkk c4 cn;have CN:=zH (fun W (hb:Below wr.heap.size wr W)=>UB S.f (U7 S n) ta tc W (ZX.of_own (Zb DA.out.own hb)));have hvl:S.f.val = .agg #[.int .i64 S.f.rings,.int .i64 S.f.sectors,.int .i64 S.f.wide]:=rfl;rw[hvl]at CN;clear hvl;obtain⟨z,hz⟩:=zX (ZD S.f (U7 S n));rw[hz.out]at CN;have hC0:Below wr.heap.size wr wr.drew:=(Below.refl _ _).drew;have LH:=zH (show ∀w0,Below wr.heap.size wr w0->w0.heap[p]? = some (.cells (J6 S.f S.id mb S.c sp) 109)from fun w0 h=>(HH.out.below (DA.out.below h).bel).blk);have LN3:=zH (show ∀w0,Below wr.heap.size wr w0->w0.heap[p3]? = some (.cells (Z5 (U7 S n) ta tc) 47)from fun w0 h=>(DA.out.below h).n);try simp only[Act.put,VZ,VY,VX]
    refine zC (fun w':World=>Below wr.heap.size wr w') hC0 ?_;go_big_quiet_step (fail);refine zv p 0 ?_;refine zv p 0 ?_;refine zQ (.agg #[.int .i64 S.f.rings,.int .i64 S.f.sectors,.int .i64 S.f.wide]) (fun w0 hC=>?_) ?_
    ·have c0:=Z6 (LH.out w0 hC) 0 (.int .i64 S.f.rings) rfl;have c1:=Z6 (LH.out w0 hC) 1 (.int .i64 S.f.sectors) rfl;have c2:=Z6 (LH.out w0 hC) 2 (.int .i64 S.f.wide) rfl;clear hC;go_simp
    refine zQ (.agg (Z5 (U7 S n) ta tc)) (fun w0 hC=>ZG (.tmp 3) rfl p3 rfl (U7 S n) ta tc (LN3.out w0 hC)) ?_;refine zQ (.int .i64 z) (fun w0 hC=>?_) ?_
    ·go_simp;refine(CN.out w0 hC).mono ?_;rintro e w1 ⟨rfl,b1⟩;exact⟨rfl,hC.trans (b1.mono hC.size)⟩
    refine zV (.bool (z != 0)) ?_;refine wpQuiet_nil ?_;intro w' hC;replace DA:=zH (DA.out.below hC);clear hC LH LN3 CN hC0;generalize hwr:wr=wold at *;clear hwr;generalize w'=wr at *;by_cases hz0:z=0
    case neg=>
     have HD:=zH (show UC S n=(S,Zd,80)by unfold UC;rw[if_neg (by have:=HLEN.out;have:=CK3.out;omega),if_pos (by rw[hz.out];exact hz0)]);have t1:(z != 0)=true:=by simp[hz0]
     clear hz0;go_wp2_with (first
      |(refine zN p4 (Z5 Zd none 0) DA.out.z ?_))
     refine zr (ZP _ p4 _ _ _ _ DA.out.z) ?_;exact Z2L.no HD.out rfl HH.out (DA.out.done (Jq _ p4 _)).1
    rw[hz0];have CZ:Hid (ZD S.f (U7 S n)=0):=zH (hz.out.trans hz0);clear hz hz0;have FM:Hid (Zf S.f (U7 S n)=true):=zH (by
     have h:=CZ.out;unfold ZD at h;rw[if_pos HI.out.v]at h;by_cases h2:Zf S.f (U7 S n)=true
     ·exact h2
     ·rw[if_neg h2]at h;cases h)
    have MOK:=zH (Zbj HOK.out FM.out);have HNUM:Hid ((U7 S n).num=(S.c (U7 S n).house:Int)+1):=zH rfl;have HADD:=zH (HI.out.add FM.out MOK.out HNUM.out);have NOK:Hid (UM ((U7 S n).house,(U7 S n).num)):=zH ⟨MOK.out.house,MOK.out.num⟩;have KIND:Hid ((U7 S n).kind=n.kind):=zH rfl;obtain⟨m,hm⟩:=zX (U7 S n);rw[hm.out]at DA FM MOK HNUM HADD NOK KIND;have c4:=Z6 (HH.out.below DA.out.bel).blk 4 (.map (some mb)) rfl;go_wp2_with fail;refine(UA mb S.l.length G wr (HH.out.below DA.out.bel).map).mono ?_;rintro e w14 ⟨rfl,hmk,bk⟩;have MK:=zH hmk;have KGE:Hid (p4 < wr.heap.size):=zH (Zq DA.out.z);replace DA:=zH (DA.out.below bk);clear bk hmk c4;obtain⟨kb,hkb⟩:=zX (wr.heap.size);rw[hkb.out]at MK KGE;rw[hkb.out];go_upto_region 14 with fail;refine zp DA.out.n fun hh=>?_;replace DA:=zH (DA.out.below ((zd w14)));replace MK:=zH (MK.out.below ((zd w14)));generalize w14.drew=V at *;refine zW 0 rfl (.map (some kb)) ?_;refine zT 1 rfl (.agg (Z5 m ta tc)) (zY p3 fun W h=>h) ?_;refine zT 3 rfl (.agg (Z5 m ta tc)) (zY p3 fun W h=>h) ?_;refine zR 2 rfl fun K hK=>?_;go_simp;go_at_call 58;refine(Vg m ta tc V).mono ?_;rintro e V' ⟨rfl,bb⟩;replace DA:=zH (DA.out.below bb);replace MK:=zH (MK.out.below bb);clear bb hh;dsimp only;generalize hVo:V=Vo at *;clear hVo;generalize V'=V at *;refine zK hK DA.out.n fun hh=>?_;clear hK K;refine zR 4 rfl fun K hK=>?_;obtain⟨V',hrun,hm3,ht3⟩:=QU (t:=106) MK.out (by have:=HLEN.out;unfold maxLen;omega) Tryz.underlying106 m.house m.num NOK.out (⟨m,ta,tc⟩:LN);have DA2:Hid (VG w V' p3 p4 m ta tc):=zH (by
     obtain⟨es,cl,hb⟩:=MK.out.blk;exact DA.out.other (Za.of_grown (S:=fun q=>q=kb) ht3.grown (fun q e=>by cases e;rfl)) KGE.out hb (by intro cur;simp))
    have MK2:Hid (YY LN.val V' kb (S.l.length+1) (XE G (Zk m) ⟨m,ta,tc⟩)):=zH hm3;clear hm3 ht3 hh;unfold LN.val at hrun;go_simp;clear hrun DA MK;generalize hVo:V=Vo at *;clear hVo;generalize V'=V at *;refine zK hK DA2.out.n fun hh=>?_;clear hK K;refine zE ?_;clear hh;have GOK2:Hid (GOk (XE G (Zk m) ⟨m,ta,tc⟩) V):=zH (fun q x hx=>by
     unfold XE at hx;split at hx
     ·rename_i e;cases hx;exact⟨ZX.of_own DA2.out.own,by rw[e];exact NOK.out,Nat.le_trans (Yg HI.out.v FM.out) (by decide)⟩
     ·exact((HH.out.gok HI.out).below DA2.out.bel) q x hx)
    obtain⟨G2,hG2⟩:=zX (XE G (Zk m) ⟨m,ta,tc⟩);rw[hG2.out]at MK2 GOK2;have LST:Hid (∀ks,JS G2 ks->ks.Pairwise (fun x y=>Jx x y=true)->(ks.filterMap G2).map LN.n=YI S.l m):=zH (by
     rw[<-hG2.out];exact fun ks h1 h2=>ZbW (Zcv (x:=⟨m,ta,tc⟩) HH.out.gs) (Zcw (x:=⟨m,ta,tc⟩) HH.out.gl HADD.out.2) HADD.out.1.srt h1 h2)
    have IOK:Hid (∀x∈YI S.l m,x.Ok):=zH HADD.out.1.ok;go_upto_region 15 with fail;apply Zdo (P:=fun(xa:zA) (xn xc:Nat) (v:Value) (p9:Nat) (W:World)=>Hid (VG w W p3 p4 m ta tc /\ ∃va vb ca cn cc,v = .agg #[va,vb,.slice ca cn cc]/\W.heap[p9]? = some (.cells #[va,vb,.slice ca cn cc] 77)/\ZX W 2 ca cn cc (ZH (Z07 S.f (YI S.l m) (YI S.l m) 99999).2.2)))
    ·intro REST;refine zp ((HH.out.below DA2.out.bel).blk) fun hh=>?_;replace DA2:=zH (DA2.out.below ((zd V)));replace MK2:=zH (MK2.out.below ((zd V)));replace GOK2:=zH (GOK2.out.below ((zd V)));generalize V.drew=U at *;refine zw 0 rfl p 0 ?_;refine zw 1 rfl p 0 ?_;refine zw 2 rfl p 0 ?_;refine zS 3 rfl (.agg #[.int .i64 S.f.rings,.int .i64 S.f.sectors,.int .i64 S.f.wide]) (fun W h=>by have h0:=Z6 h 0 (.int .i64 S.f.rings) rfl;have h1:=Z6 h 1 (.int .i64 S.f.sectors) rfl;have h2:=Z6 h 2 (.int .i64 S.f.wide) rfl;go_simp) ?_;refine zW 4 rfl (.map (some kb)) ?_;refine zM [5,10] rfl (fun K hK=>?_) ?_
     focus
      go_simp;go_at_call 61;refine(Z1H kb (S.l.length+1) G2 U MK2.out (by have:=HLEN.out;omega) GOK2.out).mono ?_;rintro e U' ⟨⟨xa,xn,xc,zs,ks,rfl,h1,h2,h3,h4,h5,h6⟩,bb⟩;have RX:Hid (JM U' xa xn xc (YI S.l m)):=zH (by have h7:=h1.rd;rwa [h2,LST.out ks h3 h4]at h7);replace DA2:=zH (DA2.out.below bb);replace MK2:=zH (MK2.out.below bb);replace GOK2:=zH (GOK2.out.below bb);clear h1 h2 h3 h4 h5 h6 bb hh;dsimp only;generalize hVo:U=Uo at *;clear hVo;generalize U'=U at *;refine zK hK (HH.out.below DA2.out.bel).blk fun hh=>?_;clear hK K;refine zM [6,10] rfl (fun K hK=>?_) ?_
      ·go_simp;go_at_call 34;refine(Z7k S.f xa xn xc (YI S.l m) U RX.out IOK.out).mono ?_;rintro e U' ⟨v,rfl,h1,bb⟩;have RV:=zH h1;replace DA2:=zH (DA2.out.below bb);replace MK2:=zH (MK2.out.below bb);replace GOK2:=zH (GOK2.out.below bb);replace RX:=zH (RX.out.below bb);clear h1 bb hh;dsimp only;generalize hVo:U=Uo at *;clear hVo;generalize U'=U at *;refine zK hK (HH.out.below DA2.out.bel).blk fun hh=>?_;clear hK K;refine zW 7 rfl (.tuple #[v,.int .i64 (Z08 S.f (YI S.l m))]) ?_;refine zW 8 rfl v ?_;refine zW 9 rfl (.int .i64 (Z08 S.f (YI S.l m))) ?_;refine zR 10 rfl fun K hK=>?_;have bb:Below U.heap.size U (U.alloc (.cells #[.slice none 0 0,.slice none 0 0,.slice none 0 0] 77)):=zB _ _;have P9:=zH (Z9 U (.cells #[.slice none 0 0,.slice none 0 0,.slice none 0 0] 77));have GE9:Hid (p4 < U.heap.size):=zH (Zq DA2.out.z);replace DA2:=zH (DA2.out.below bb);replace MK2:=zH (MK2.out.below bb);replace GOK2:=zH (GOK2.out.below bb);replace RV:=zH (RV.out.below bb);clear bb hh;go_simp;obtain⟨p9,hp9⟩:=zX (U.heap.size);rw[hp9.out]at P9 GE9 ⊢;generalize hVo:U.alloc (.cells #[.slice none 0 0,.slice none 0 0,.slice none 0 0] 77)=U' at *;clear hVo hp9;generalize hVo:U=Uo at *;clear hVo;generalize U'=U at *;refine zK hK (HH.out.below DA2.out.bel).blk fun hh=>?_;clear hK K;refine zR 11 rfl fun K hK=>?_;obtain⟨ha,hn,hc,ea,en,ec,ca,cn,cc,hs,es,hv,_,_,h3,_⟩:=id RV.out;refine Yl 77 _ _ rfl p9 #[.slice none 0 0,.slice none 0 0,.slice none 0 0] #[.slice ha hn hc,.slice ea en ec,.slice ca cn cc] 77 rfl hv P9.out (by kernel_rfl) rfl (by simp[Value.oneCell']) ?_;intro U' q1 q2 q3;have S9:Hid (Za (fun q=>q=p9) U U'):=zH (Za.of_grown q2 (fun q e=>by cases e;rfl));have RC:Hid (ZX U' 2 ca cn cc (ZH (Z07 S.f (YI S.l m) (YI S.l m) 99999).2.2)):=zH (Z3p h3 S9.out P9.out (fun u hu=>by
        rw[ZH,List.mem_flatMap]at hu;obtain⟨x,_,h⟩:=hu;simp only[List.mem_cons,List.not_mem_nil,or_false]at h;rcases h with rfl | rfl <;> exact⟨_,rfl⟩) (fun u hu x=>by
        simp only[List.mem_cons,List.not_mem_nil,or_false]at hu;rcases hu with rfl | rfl | rfl <;> simp))
       replace DA2:=zH (DA2.out.other S9.out GE9.out P9.out (by intro cur;simp));have HV:=zH hv;have Q1:=zH q1;clear q1 q2 q3 h3 hv P9 RV MK2 GOK2 S9 hh;generalize hVo:U=Uo at *;clear hVo;generalize U'=U at *;refine zK hK (HH.out.below DA2.out.bel).blk fun hh=>?_;clear hK K;refine zW 12 rfl (.int .i64 (Z08 S.f (YI S.l m))) ?_;refine zE ?_;exact REST xa xn xc v p9 U (zH ⟨DA2.out,_,_,ca,cn,cc,HV.out,Q1.out,RC.out⟩)
      refine zn fun K hK=>?_;have bb:Below U.heap.size U (U.alloc (.cells #[.slice none 0 0,.slice none 0 0,.slice none 0 0] 77)):=zB _ _;have P9:=zH (Z9 U (.cells #[.slice none 0 0,.slice none 0 0,.slice none 0 0] 77));have GE9:Hid (p4 < U.heap.size):=zH (Zq DA2.out.z);replace DA2:=zH (DA2.out.below bb);replace MK2:=zH (MK2.out.below bb);replace GOK2:=zH (GOK2.out.below bb);replace RX:=zH (RX.out.below bb);clear bb hh;go_simp;obtain⟨p9,hp9⟩:=zX (U.heap.size);rw[hp9.out]at P9 GE9 ⊢;generalize hVo:U.alloc (.cells #[.slice none 0 0,.slice none 0 0,.slice none 0 0] 77)=U' at *;clear hVo hp9
     rotate_left
     focus
      refine zn fun K hK=>?_;have bb:Below U.heap.size U (U.alloc (.cells #[.slice none 0 0,.slice none 0 0,.slice none 0 0] 77)):=zB _ _;have P9:=zH (Z9 U (.cells #[.slice none 0 0,.slice none 0 0,.slice none 0 0] 77));have GE9:Hid (p4 < U.heap.size):=zH (Zq DA2.out.z);replace DA2:=zH (DA2.out.below bb);replace MK2:=zH (MK2.out.below bb);replace GOK2:=zH (GOK2.out.below bb);clear bb hh;go_simp;obtain⟨p9,hp9⟩:=zX (U.heap.size);rw[hp9.out]at P9 GE9 ⊢;generalize hVo:U.alloc (.cells #[.slice none 0 0,.slice none 0 0,.slice none 0 0] 77)=U' at *;clear hVo hp9;generalize hVo:U=Uo at *;clear hVo;generalize U'=U at *;refine zK hK (HH.out.below DA2.out.bel).blk fun hh=>?_;clear hK K;refine zR 5 rfl fun K hK=>?_;go_simp;go_at_call 61;refine(Z1H kb (S.l.length+1) G2 U MK2.out (by have:=HLEN.out;omega) GOK2.out).mono ?_;rintro e U' ⟨⟨xa,xn,xc,zs,ks,rfl,h1,h2,h3,h4,h5,h6⟩,bb⟩;have RX:Hid (JM U' xa xn xc (YI S.l m)):=zH (by have h7:=h1.rd;rwa [h2,LST.out ks h3 h4]at h7);replace DA2:=zH (DA2.out.below bb);replace MK2:=zH (MK2.out.below bb);replace GOK2:=zH (GOK2.out.below bb);replace P9:=zH (Z7 bb P9.out);clear h1 h2 h3 h4 h5 h6 bb hh;dsimp only
     all_goals
      generalize hVo:U=Uo at *;clear hVo;generalize U'=U at *;refine zK hK (HH.out.below DA2.out.bel).blk fun hh=>?_;clear hK K;refine zR 6 rfl fun K hK=>?_;go_simp;go_at_call 34;refine(Z7k S.f xa xn xc (YI S.l m) U RX.out IOK.out).mono ?_;rintro e U' ⟨v,rfl,h1,bb⟩;have RV:=zH h1;replace DA2:=zH (DA2.out.below bb);replace MK2:=zH (MK2.out.below bb);replace GOK2:=zH (GOK2.out.below bb);replace P9:=zH (Z7 bb P9.out);replace RX:=zH (RX.out.below bb);clear h1 bb hh;dsimp only;generalize hVo:U=Uo at *;clear hVo;generalize U'=U at *;refine zK hK (HH.out.below DA2.out.bel).blk fun hh=>?_;clear hK K;refine zW 7 rfl (.tuple #[v,.int .i64 (Z08 S.f (YI S.l m))]) ?_;refine zW 8 rfl v ?_;refine zW 9 rfl (.int .i64 (Z08 S.f (YI S.l m))) ?_;refine zR 11 rfl fun K hK=>?_;obtain⟨ha,hn,hc,ea,en,ec,ca,cn,cc,hs,es,hv,_,_,h3,_⟩:=id RV.out;refine Yl 77 _ _ rfl p9 #[.slice none 0 0,.slice none 0 0,.slice none 0 0] #[.slice ha hn hc,.slice ea en ec,.slice ca cn cc] 77 rfl hv P9.out (by kernel_rfl) rfl (by simp[Value.oneCell']) ?_;intro U' q1 q2 q3;have S9:Hid (Za (fun q=>q=p9) U U'):=zH (Za.of_grown q2 (fun q e=>by cases e;rfl));have RC:Hid (ZX U' 2 ca cn cc (ZH (Z07 S.f (YI S.l m) (YI S.l m) 99999).2.2)):=zH (Z3p h3 S9.out P9.out (fun u hu=>by
       rw[ZH,List.mem_flatMap]at hu;obtain⟨x,_,h⟩:=hu;simp only[List.mem_cons,List.not_mem_nil,or_false]at h;rcases h with rfl | rfl <;> exact⟨_,rfl⟩) (fun u hu x=>by
       simp only[List.mem_cons,List.not_mem_nil,or_false]at hu;rcases hu with rfl | rfl | rfl <;> simp))
      replace DA2:=zH (DA2.out.other S9.out GE9.out P9.out (by intro cur;simp));have HV:=zH hv;have Q1:=zH q1;clear q1 q2 q3 h3 hv P9 RV MK2 GOK2 S9 hh;generalize hVo:U=Uo at *;clear hVo;generalize U'=U at *;refine zK hK (HH.out.below DA2.out.bel).blk fun hh=>?_;clear hK K;refine zW 12 rfl (.int .i64 (Z08 S.f (YI S.l m))) ?_;refine zE ?_;exact REST xa xn xc v p9 U (zH ⟨DA2.out,_,_,ca,cn,cc,HV.out,Q1.out,RC.out⟩)
    intro xa xn xc v p9 W9 QQ;clear DA2 MK2 GOK2 LST IOK hG2;obtain⟨DA,va,vb,ca,cn,cc,hv,hp9,hrc⟩:=QQ.out;replace DA:=zH DA;have P9:=zH hp9;have RC:=zH hrc;clear QQ hp9 hrc hv;obtain⟨cf,hcf⟩:=zX ((Z07 S.f (YI S.l m) (YI S.l m) 99999).2.2);rw[hcf.out]at RC;have DP:Hid (UC S n=if (n.kind≠5/\n.kind≠6)/\Zk m∈cf then (S,Zd,91)else (S.add m,m,0)):=zH (by
     unfold UC;rw[if_neg (by have:=HLEN.out;have:=CK3.out;omega),if_neg (by rw[CZ.out];decide),hm.out,hcf.out])
    clear CZ hcf hm CK3;have ck:=Z6 DA.out.n 4 (.int .i64 n.kind) (by rw[<-KIND.out];rfl);have c9:=Z6 P9.out 2 (.slice ca cn cc) rfl;have hmf : ∀(fn:Fn) (first cap:Xz) (w:World),(Instr.makeFunc fn first cap).run zq w = .ok (.func fn first cap) w:=fun _ _ _ _=>rfl;by_cases hk5:n.kind=5
    focus
     have q1:(n.kind != 5)=false:=by simp[hk5]
     have DP2:=zH (show UC S n=(S.add m,m,0)by rw[DP.out,if_neg (fun h=>h.1.1 hk5)]);clear hk5 DP;go_upto_region 18 with fail;clear q1 ck c9 hmf
    rotate_left
    focus
     by_cases hk6:n.kind=6
     ·have q1:(n.kind != 5)=true:=by simp[hk5]
      have q2:(n.kind != 6)=false:=by simp[hk6]
      have DP2:=zH (show UC S n=(S.add m,m,0)by rw[DP.out,if_neg (fun h=>h.1.2 hk6)]);clear hk5 hk6 DP;go_upto_region 18 with fail;clear q1 q2 ck c9 hmf;go_wp2_with (first
       |(refine zL p3 DA.out.n ?_))
      refine(Z4t p mb sp G SF S m ta tc _ (HH.out.below DA.out.bel) HI.out (fun W hs=>ZX.of_own (Zi DA.out.own hs (fun b hb h=>by have h1:=HLT.out b h;have h2:=(DA.out.own.lt b hb).1;omega))) FM.out MOK.out HNUM.out (Nat.le_of_lt HLEN.out)).mono ?_;rintro e Y2 ⟨rfl,ta2,tc2,SF',h1,h2,h3⟩;have GB:=zH DA.out.bel;have GE:=zH DA.out.ge;have ZL:=zH (Zq DA.out.z);have NH:Hid (∀q,w.heap.size<=q -> ¬XJ p mb G SF q):=zH (fun q hq h=>by have:=HLT.out q h;omega);have N2:=zH ((h2.block p3 (Zq DA.out.n) (NH.out p3 GE.out.1)).trans DA.out.n);have Z2:=zH ((h2.block p4 (Zq DA.out.z) (NH.out p4 (by have:=GE.out;omega))).trans DA.out.z);have O2:=zH (Zi DA.out.own h2 (fun b hb h=>NH.out b (DA.out.own.lt b hb).1 h));have H2:=zH h1;have S2:=zH h2;have F2:=zH h3;clear h1 h2 h3;have oneM:=Zh m ta tc;go_wp2_with (first
       |(refine zL p3 N2.out ?_)
       |(refine zN p4 (Z5 m ta tc) Z2.out ?_))
      refine zr (ZP _ p4 _ _ _ _ Z2.out) ?_;have S3:=Jq Y2 p4 (Z5 m ta tc);have P4G:w.heap.size<=p4:=by have:=GE.out;omega
      refine⟨⟨ta,tc,by rw[DP2.out] <;> rfl,by rw[DP2.out];exact Zi O2.out S3 (fun b hb e=>Zg O2.out Z2.out (by intro cur;simp) (by rw[hb,show b=p4 from e]))⟩,_,SF',by
       rw[DP2.out];exact H2.out.same S3 (fun q hq h=>by
        rw[show q=p4 from hq]at h;rcases F2.out p4 h with h5 | h5
        ·exact NH.out p4 P4G h5
        ·have:=ZL.out;omega),Yq ((Za.of_below GB.out).trans S2.out) S3 (fun q hq=>.inr (by rw[show q=p4 from hq];exact P4G)),fun q hq=>(F2.out q hq).imp id (fun h=>Nat.le_trans GB.out.size h)⟩
     have q1:(n.kind != 5)=true:=by simp[hk5]
     have q2:(n.kind != 6)=true:=by simp[hk6]
     go_wp2_with fail;refine(Z4W cf (fun x=>decide (x=Zk m)) 73 (.pointer (some ⟨p3,0,none⟩)) ZcO ca cn cc W9 RC.out (fun x _ W hb=>Zc8 p3 m ta tc x W (DA.out.below hb).n)).mono ?_;rintro e X1 ⟨rfl,bb⟩;replace DA:=zH (DA.out.below bb);clear q1 q2 ck c9 hmf bb P9 RC;cases han:cf.any (fun x=>decide (x=Zk m))
     case true=>
      have HD:=zH (show UC S n=(S,Zd,91)by
       have hmem:Zk m∈cf:=by
        obtain⟨x,hx,h⟩:=List.any_eq_true.1 han;rw[<-of_decide_eq_true h];exact hx
       rw[DP.out,if_pos ⟨⟨hk5,hk6⟩,hmem⟩])
      clear han hk5 hk6 DP;go_wp2_with (first
       |(refine zN p4 (Z5 Zd none 0) DA.out.z ?_))
      refine zr (ZP _ p4 _ _ _ _ DA.out.z) ?_;exact Z2L.no HD.out rfl HH.out (DA.out.done (Jq _ p4 _)).1
     have DP2:=zH (show UC S n=(S.add m,m,0)by
      rw[DP.out,if_neg (fun h=>by
       have h1:=List.any_eq_false.1 han _ h.2;simp at h1)])
     clear han hk5 hk6 DP;go_upto_region 18 with fail
    all_goals
     go_wp2_with (first
      |(refine zL p3 DA.out.n ?_))
     refine(Z4t p mb sp G SF S m ta tc _ (HH.out.below DA.out.bel) HI.out (fun W hs=>ZX.of_own (Zi DA.out.own hs (fun b hb h=>by have h1:=HLT.out b h;have h2:=(DA.out.own.lt b hb).1;omega))) FM.out MOK.out HNUM.out (Nat.le_of_lt HLEN.out)).mono ?_;rintro e Y2 ⟨rfl,ta2,tc2,SF',h1,h2,h3⟩;have GB:=zH DA.out.bel;have GE:=zH DA.out.ge;have ZL:=zH (Zq DA.out.z);have NH:Hid (∀q,w.heap.size<=q -> ¬XJ p mb G SF q):=zH (fun q hq h=>by have:=HLT.out q h;omega);have N2:=zH ((h2.block p3 (Zq DA.out.n) (NH.out p3 GE.out.1)).trans DA.out.n);have Z2:=zH ((h2.block p4 (Zq DA.out.z) (NH.out p4 (by have:=GE.out;omega))).trans DA.out.z);have O2:=zH (Zi DA.out.own h2 (fun b hb h=>NH.out b (DA.out.own.lt b hb).1 h));have H2:=zH h1;have S2:=zH h2;have F2:=zH h3;clear h1 h2 h3;have oneM:=Zh m ta tc;go_wp2_with (first
      |(refine zL p3 N2.out ?_)
      |(refine zN p4 (Z5 m ta tc) Z2.out ?_))
     refine zr (ZP _ p4 _ _ _ _ Z2.out) ?_;have S3:=Jq Y2 p4 (Z5 m ta tc);have P4G:w.heap.size<=p4:=by have:=GE.out;omega
     refine⟨⟨ta,tc,by rw[DP2.out] <;> rfl,by rw[DP2.out];exact Zi O2.out S3 (fun b hb e=>Zg O2.out Z2.out (by intro cur;simp) (by rw[hb,show b=p4 from e]))⟩,_,SF',by
      rw[DP2.out];exact H2.out.same S3 (fun q hq h=>by
       rw[show q=p4 from hq]at h;rcases F2.out p4 h with h5 | h5
       ·exact NH.out p4 P4G h5
       ·have:=ZL.out;omega),Yq ((Za.of_below GB.out).trans S2.out) S3 (fun q hq=>.inr (by rw[show q=p4 from hq];exact P4G)),fun q hq=>(F2.out q hq).imp id (fun h=>Nat.le_trans GB.out.size h)⟩
  ·intro kh km y w6 cnt1 HN hen;unfold LN.val at hen;have GY:Hid (G (kh,km)=some y):=zH HN.out.at_;have R6:=zH HN.out.range;have D6:=zH (by
    obtain⟨bb,since,seen,cc,hb⟩:=HR.out.blk;exact DR.out.other (Za.of_grown (S:=fun q=>q=r) HN.out.grown (fun q e=>by cases e;rfl)) RGE.out hb (by intro cur;simp))
   have LT6:=zH HN.out.lt;have HC6:Hid (QR (((ks ++ [(kh,km)]).filterMap G).map LN.n) (Z3m c (y.n.clock+1))):=zH (by
    rw[List.filterMap_append,List.map_append,List.filterMap_cons_some GY.out,List.filterMap_nil];exact HC.out.snoc y.n)
   have YC:Hid (1<=y.n.clock/\y.n.clock<=1099511627776):=zH (QH (HI.out.frm _ (HH.out.gs _ y GY.out).1));clear HC DR;go_upto_region 8 with (first
    |(refine zP w6 w6.heap.size (Z5 y.n y.sa y.sc) ?_))
   have bt:Below w6.heap.size w6 (w6.alloc (.cells (Z5 y.n y.sa y.sc) 47)):=zB _ _;have P7:=zH (Z9 w6 (.cells (Z5 y.n y.sa y.sc) 47));have R7:=zH (R6.out.below bt);have D7:=zH (D6.out.below bt);obtain⟨p7,hp7⟩:=zX (w6.heap.size);rw[hp7.out]at P7;rw[hp7.out];generalize w6.alloc (.cells (Z5 y.n y.sa y.sc) 47)=w7 at *;clear bt hen R6 D6 HN;have cn:=Z6 D7.out.n 2 (.int .i64 c) rfl;have cfz:=Ze D7.out.n 2;have cy:=Z6 P7.out 2 (.int .i64 y.n.clock) rfl;have hw:wrap64 (y.n.clock+1)=y.n.clock+1:=by have h1:=YC.out;unfold wrap64;omega
   have D8:=zH (D7.out.set (m':=doC S n (Z3m c (y.n.clock+1))) (Za.of_grown (Zj w7 p3 2 (.int .i64 (Z3m c (y.n.clock+1)))) (fun q e=>by cases e;rfl)) (by have h1:=ZW D7.out.n 2 (.int .i64 (Z3m c (y.n.clock+1)));exact h1) rfl);have R8:=zH (R7.out.of_blocks (w':=w7.setCell ⟨p3,2,none⟩ (.int .i64 (Z3m c (y.n.clock+1)))) (Below.heap_setCell _ _ _ _ (fun e=>by have:=HLT.out mb (.inr (.inl rfl));have:=D7.out.ge.1;have e2:mb=p3:=e;omega)) (Below.heap_setCell _ _ _ _ (fun e=>by have:=RGE.out;have:=D7.out.ge.2;have e2:r=p3:=e;omega)));clear R7 D7 P7;rw[Z90]at D8 R8 HC6;go_wp2;go_roundw
   case rel=>exact⟨_,_,_,R8,D8,HC6⟩
   case measure=>rw[R8.out.left_eq,HR.out.left_eq];exact LT6.out
end
theorem Z0d:JU Zd:=by
 refine⟨?_,?_,?_,?_⟩ <;> simp[Zd,Zn,Zr,Xb,far]
theorem Za5 {S:ZC}(h:Xr S)(n:NoteV):JU (UC S n).2.1/\(UC S n).2.1.strokes.length<=1000000:=by
 unfold UC;split
 ·exact⟨Z0d,Nat.zero_le _⟩
 ·split
  ·exact⟨Z0d,Nat.zero_le _⟩
  ·rename_i h2;split
   ·exact⟨Z0d,Nat.zero_le _⟩
   ·have hf:Zf S.f (U7 S n)=true:=by
     have h3:ZD S.f (U7 S n)=0:=by
      by_cases h3:ZD S.f (U7 S n)=0
      ·exact h3
      ·exact absurd h3 (by simpa using h2)
     unfold ZD at h3;rw[if_pos h.v]at h3;by_cases h4:Zf S.f (U7 S n)=true
     ·exact h4
     ·rw[if_neg h4]at h3;cases h3
    exact⟨Yf h.v hf,Nat.le_trans (Yg h.v hf) (by decide)⟩
def Zd6 (w:World)(p q:Nat)(S:ZC)(m:Nat)(e:Ending)(W':World):Prop:=
 e = .returned (.bool true) /\ ∃mb' sp' G' SF' FQ' S',Z2I w W' p mb' sp' G' SF' S' q FQ' S'/\Xr S'/\S'.l.length<=S.l.length+m
theorem Zcg (o:OpH)(w W:World)(p mb sp:Nat)(G:Nm->Option LN)(SF:Nat->Prop)(S:ZC)(q:Nat)(FQ:Nat->Prop)(h:Z2I w W p mb sp G SF S q FQ S)(hi:Xr S)(ho:o.ok w)(hst:o.n.n.strokes.length<=1000000000)(hlen:S.l.length+1+o.xs.length < 400):
  Calls zq 23 #[.pointer (some ⟨p,0,none⟩),.pointer (some ⟨q,0,none⟩),.agg o.cells.toArray] W fun e W'=>Zd6 w p q S (1+o.xs.length) e W':=by
 have J19:=zH (show(zq.info? 47).map (·.size)=some 19 from by kernel_rfl);have HI:=zH hi;have HO:=zH ho;have HST:=zH hst;have HLEN:=zH hlen;have LT1:=zH h.h1.lt;have LT2:=zH h.h2.lt;have HOK:Hid (∀y∈o.xs.map LN.n,y.Ok):=zH (fun y hy=>by
  obtain⟨x,hx,rfl⟩:=List.mem_map.1 hy;exact(ho.lok x hx).1)
 have INP:Hid (∀(X:Nat->Prop) (V V':World),Below w.heap.size w V->(∀k,X k->w.heap.size<=k)->Za X V V'->Jb V' o.la o.xs.length o.lc o.xs):=zH (fun X V V' hb hX hs=>ho.l.below (hs.below hb hb.size (fun k hk=>hX k hk)));have CC:Hid (o.cells.toArray[0]? = some (.int .i64 o.kind)/\o.cells.toArray[21]? = some (.slice o.la o.xs.length o.lc)/\o.cells.toArray[22]? = some (.slice o.ca o.qs.length o.cc)/\o.cells.toArray[23]? = some (.int .i64 o.stock)/\o.cells.toArray[24]? = some (.int .i64 o.foil)/\o.cells.toArray[25]? = some (.int .i64 o.flip)):=zH ⟨rfl,rfl,rfl,rfl,rfl,rfl⟩;have CN:Hid (∀j v,(o.n.n.cells o.n.sa o.n.sc)[j]? = some v->o.cells.toArray[2+j]? = some v):=zH (fun j v hv=>by
  have hj:j < 19:=(List.getElem?_eq_some_iff.1 hv).1;have e1:o.cells=[.int .i64 o.kind,.slice o.ba o.bn o.bc] ++ (o.n.n.cells o.n.sa o.n.sc ++ [.slice o.la o.xs.length o.lc,.slice o.ca o.qs.length o.cc,.int .i64 o.stock,.int .i64 o.foil,.int .i64 o.flip]):=by unfold OpH.cells;rw[List.append_assoc]
  rw[List.getElem?_toArray,e1,List.getElem?_append_right (by simp),show 2+j - ([.int .i64 o.kind,.slice o.ba o.bn o.bc]:List Value).length=j by simp;try omega,List.getElem?_append_left (by exact hj)];exact hv)
 obtain⟨OA,hOA⟩:=zX (o.cells.toArray);rw[hOA.out]at CC CN ⊢;have b0:Below W.heap.size W (W.alloc (.cells OA 49)):=zB _ _;have T0:=zH (h.below b0);have X0:=zH (Z9 W (.cells OA 49));clear h hi ho hst hlen b0 hOA;go_enter Tryz.func23,Tryz.ntmps23;go_upto_region 1 with fail;obtain⟨p5,hp5⟩:=zX (W.heap.size);have NX1:Hid (¬XJ p mb G SF p5):=zH (fun hk=>by have:=LT1.out p5 hk;have:=hp5.out;omega);have NX2:Hid (¬FQ p5):=zH (fun hk=>by have:=LT2.out p5 hk;have:=hp5.out;omega);rw[hp5.out]at X0 ⊢;generalize W.alloc (.cells OA 49)=V0 at *;clear LT1 LT2 hp5;have XB:Hid (∀V',Below V0.heap.size V0 V'->V'.heap[p5]? = some (.cells OA 49)):=zH (fun V' hb=>Z7 hb X0.out);have c0:=Z6 X0.out 0 (.int .i64 o.kind) CC.out.1;by_cases k1:o.kind=1
 ·have t1:(o.kind==1)=true:=by simp[k1]
  clear k1;go_upto_region 3 with fail;clear t1 c0;go_wp2_with fail;refine(Z0M p mb sp G SF S _ T0.out.h1).mono ?_;rintro e V1 ⟨rfl,h1,h2⟩;have T1:=zH (T0.out.one h1 (h2.weaken (fun k hk=>by rw[show k=sp from hk];exact .inr (.inr (.inl T0.out.h1.stk.self)))) (fun k hk=>.inl hk));clear h1 h2;go_wp2_with fail;refine(Z0z q FQ S _ T1.out.h2 HI.out (by have:=HLEN.out;omega)).mono ?_;rintro e V2 ⟨rfl,h1⟩;obtain⟨FQ2,h2⟩:=T1.out.two h1;have T2:=zH h2;clear h1 h2;go_wp2;go_ret;exact⟨rfl,mb,sp,G,SF,FQ2,S.sync,T2.out,HI.out.sync,by show S.l.length<=_;omega⟩
 have t1:(o.kind==1)=false:=by simp[k1]
 by_cases k2:o.kind=2
 ·have t2:(o.kind==2)=true:=by simp[k2]
  clear k1 k2;go_upto_region 7 with fail;clear t1 t2 c0;refine zp X0.out fun hh=>?_;have hdr:=(zd V0);have TD:=zH (T0.out.below hdr);have XD:=zH (Z7 hdr X0.out);clear hdr;generalize V0.drew=U at *;refine zw 0 rfl p 0 ?_;refine zw 1 rfl p5 23 ?_;refine zS 2 rfl (.int .i64 o.stock) (fun W h=>by have hc:=Z6 h 23 (.int .i64 o.stock) CC.out.2.2.2.1;go_simp) ?_;refine zw 3 rfl p5 24 ?_;refine zS 4 rfl (.int .i64 o.foil) (fun W h=>by have hc:=Z6 h 24 (.int .i64 o.foil) CC.out.2.2.2.2.1;go_simp) ?_;refine zw 5 rfl p5 25 ?_;refine zS 6 rfl (.int .i64 o.flip) (fun W h=>by have hc:=Z6 h 25 (.int .i64 o.flip) CC.out.2.2.2.2.2;go_simp) ?_;refine zw 8 rfl q 0 ?_;refine zw 9 rfl p5 23 ?_;refine zS 10 rfl (.int .i64 o.stock) (fun W h=>by have hc:=Z6 h 23 (.int .i64 o.stock) CC.out.2.2.2.1;go_simp) ?_;refine zw 11 rfl p5 24 ?_;refine zS 12 rfl (.int .i64 o.foil) (fun W h=>by have hc:=Z6 h 24 (.int .i64 o.foil) CC.out.2.2.2.2.1;go_simp) ?_;refine zw 13 rfl p5 25 ?_;refine zS 14 rfl (.int .i64 o.flip) (fun W h=>by have hc:=Z6 h 25 (.int .i64 o.flip) CC.out.2.2.2.2.2;go_simp) ?_;refine zR 7 rfl fun K hK=>?_;go_simp;go_at_call 21;refine(Z8y p mb sp G SF S o.stock o.foil o.flip U TD.out.h1 HI.out (by have:=HLEN.out;omega)).mono ?_;rintro e U1 ⟨S',code,hcr,hi2,rfl,mb2,sp2,G2,SF2,h1,h2,h3⟩;have X1:=zH ((h2.block p5 (Zq XD.out) NX1.out).trans XD.out);have T1:=zH (TD.out.one h1 h2 h3);have CR:=zH hcr;have I2:=zH hi2;clear h1 h2 h3 hcr hi2;dsimp only;refine zK hK X1.out fun hh=>?_;clear hK K;refine zR 15 rfl fun K hK=>?_;go_simp;go_at_call 79;refine(Z6N q FQ S o.stock o.foil o.flip U1 T1.out.h2 HI.out (by have:=HLEN.out;omega)).mono ?_;rintro e U2 ⟨S2,code2,hcr,_,rfl,h1⟩;obtain⟨rfl,rfl⟩:=CR.out.uniq hcr;have X2:Hid (U2.heap[p5]? = some (.cells OA 49)):=zH (by
   obtain⟨_,_,hs,_⟩:=h1;exact(hs.block p5 (Zq X1.out) NX2.out).trans X1.out)
  obtain⟨FQ2,hT⟩:=T1.out.two h1;have T2:=zH hT;clear h1 hcr hT;dsimp only;refine zK hK X2.out fun hh=>?_;clear hK K;refine zW 16 rfl (.bool true) ?_;refine zW 17 rfl (.bool true) ?_;refine zE ?_;go_wp2;go_ret;exact⟨rfl,mb2,sp2,G2,SF2,FQ2,S',T2.out,I2.out,by have:=CR.out.len HI.out;omega⟩
 have t2:(o.kind==2)=false:=by simp[k2]
 by_cases k3:o.kind=3
 ·have t3:(o.kind==3)=true:=by simp[k3]
  clear k1 k2 k3;have c21:=Z6 X0.out 21 (.slice o.la o.xs.length o.lc) CC.out.2.1;go_upto_region 9 with fail;clear t1 t2 t3 c0;go_wp2_with fail;refine(Z5q p mb sp G SF S o.la o.xs.length o.lc (o.xs.map LN.n) o.xs _ T0.out.h1 HI.out rfl (fun V' hs=>INP.out _ _ V' T0.out.bel T0.out.g1 hs) HOK.out (by have:=HLEN.out;omega)).mono ?_;rintro e V1 ⟨rfl,G1,SF1,h1,h2,h3⟩;have X1:=zH ((h2.block p5 (Zq X0.out) NX1.out).trans X0.out);have T1:=zH (T0.out.one h1 h2 h3);clear h1 h2 h3 c21;have J:=zH (Z2A HI.out HOK.out);have HRL:=zH (Z85 q FQ S o.xs o.la o.xs.length o.lc (o.xs.map LN.n) rfl V1 T1.out.h2 HI.out (fun V' hs=>INP.out _ _ V' T1.out.bel T1.out.g2 hs) HOK.out (by have:=HLEN.out;omega));obtain⟨S',x,z,hS⟩ : ∃S' x z,Hid (Yy S (o.xs.map LN.n)=(S',x,z)):=⟨_,_,_,zH rfl⟩;rw[hS.out]at T1 J HRL ⊢;dsimp only at T1 J HRL ⊢;have c21:=Z6 X1.out 21 (.slice o.la o.xs.length o.lc) CC.out.2.1;go_wp2_with fail;refine HRL.out.mono ?_;rintro e V2 ⟨rfl,h1⟩;obtain⟨FQ2,h2⟩:=T1.out.two h1;have T2:=zH h2;clear h1 h2 c21 HRL;go_wp2;go_ret;exact⟨rfl,mb,sp,G1,SF1,FQ2,S',T2.out,J.out.1,by have h9:=J.out.2;rw[List.length_map]at h9;omega⟩
 have t3:(o.kind==3)=false:=by simp[k3]
 by_cases k4:o.kind=4
 ·have t4:(o.kind==4)=true:=by simp[k4]
  clear k1 k2 k3 k4;go_upto_region 13 with fail;clear t1 t2 t3 t4 c0;refine zp X0.out fun hh=>?_;have hdr:=(zd V0);have TD:=zH (T0.out.below hdr);have XD:=zH (Z7 hdr X0.out);clear hdr;generalize V0.drew=U at *;refine zw 0 rfl p 0 ?_;refine zw 1 rfl p5 22 ?_;refine zS 2 rfl (.slice o.ca o.qs.length o.cc) (fun W h=>by have hc:=Z6 h 22 (.slice o.ca o.qs.length o.cc) CC.out.2.2.1;go_simp) ?_;refine zw 4 rfl q 0 ?_;refine zw 5 rfl p5 22 ?_;refine zS 6 rfl (.slice o.ca o.qs.length o.cc) (fun W h=>by have hc:=Z6 h 22 (.slice o.ca o.qs.length o.cc) CC.out.2.2.1;go_simp) ?_;refine zR 3 rfl fun K hK=>?_;go_simp;go_at_call 16;refine(Z6a p mb sp G SF S o.qs o.ca o.qs.length o.cc U TD.out.h1 HI.out (by have:=HLEN.out;omega) (HO.out.c.below TD.out.bel)).mono ?_;rintro e U1 ⟨⟨a1,n1,c1,z1,rfl,hk1,he1⟩,b1⟩;have K1:=zH hk1;have E1:=zH he1;have T1:=zH (TD.out.below b1);have X1:=zH (Z7 b1 XD.out);clear hk1 he1 b1;dsimp only;refine zK hK X1.out fun hh=>?_;clear hK K;refine zR 7 rfl fun K hK=>?_;go_simp;go_at_call 81;refine(Z60 q FQ S o.qs o.ca o.qs.length o.cc U1 T1.out.h2 HI.out (by have:=HLEN.out;omega) (HO.out.c.below T1.out.bel)).mono ?_;rintro e U2 ⟨⟨a2,n2,c2,z2,rfl,hk2,he2⟩,b2⟩;have K2:=zH hk2;have E2:=zH he2;have K12:=zH (K1.out.below b2);have T2:=zH (T1.out.below b2);have X2:=zH (Z7 b2 X1.out);clear hk2 he2 b2;dsimp only;refine zK hK X2.out fun hh=>?_;clear hK K;refine zR 8 rfl fun K hK=>?_;go_simp;go_at_call 18;have r1:JM U2 a1 n1 c1 (S.l.filter (fun n=>!JZ o.qs n)):=by
   rw[<-E1.out];exact Vw (Vn K12.out.rd) (fun x hx=>QP K12.out.rd hx)
  have r2:JM U2 a2 n2 c2 (S.l.filter (fun n=>!JZ o.qs n)):=by
   rw[<-E2.out];exact Vw (Vn K2.out.rd) (fun x hx=>QP K2.out.rd hx)
  refine(Z12 _ a1 n1 c1 a2 n2 c2 U2 r1 r2 (fun x hx=>⟨Yf HI.out.v (HI.out.frm x ((List.mem_filter.1 hx).1)),Nat.le_trans (Yg HI.out.v (HI.out.frm x ((List.mem_filter.1 hx).1))) (by decide)⟩)).mono ?_;clear r1 r2;rintro e U3 ⟨rfl,b3⟩;have T3:=zH (T2.out.below b3);have X3:=zH (Z7 b3 X2.out);clear b3;dsimp only;refine zK hK X3.out fun hh=>?_;clear hK K;refine zW 9 rfl (.bool true) ?_;refine zE ?_;go_wp2;go_ret;exact⟨rfl,mb,sp,G,SF,FQ,S,T3.out,HI.out,by omega⟩
 have t4:(o.kind==4)=false:=by simp[k4]
 clear k1 k2 k3 k4;have RN:Hid (∀V':World,V'.heap[p5]? = some (.cells OA 49)->V'.rangeAt p5 2 (o.n.n.cells o.n.sa o.n.sc)):=zH (fun V' hx j v hv=>Z6 hx (2+j) v (CN.out j v hv));have HX0:=zH (RN.out V0 X0.out);go_upto_region 14 with fail;clear t1 t2 t3 t4 c0;go_wp2_with (refine wpList_load_mid rfl 47 _ rfl p5 2 rfl (o.n.n.cells o.n.sa o.n.sc) _ HX0.out Tryz.underlying47 rfl (by exact J19.out) ?_);refine(Zb4 p mb sp G SF S o.n.n o.n.sa o.n.sc _ T0.out.h1 HI.out (HO.out.n.below T0.out.bel) HO.out.nok HST.out (by have:=HLEN.out;omega)).mono ?_;rintro e V1 ⟨⟨ta,tc,rfl,hrt⟩,G1,SF1,h1,h2,h3⟩;have X1:=zH ((h2.block p5 (Zq X0.out) NX1.out).trans X0.out);have T1:=zH (T0.out.one h1 h2 h3);have R1:=zH hrt;clear h1 h2 h3 hrt HX0;have DI:=zH (Zc7 HI.out HO.out.nok);have DL:=zH (Zc6 S o.n.n);have DS:=zH (Za5 HI.out o.n.n);have DO:=zH (fun V' hh hs=>ZaH q FQ S o.n.n o.n.sa o.n.sc V' hh HI.out hs HO.out.nok HST.out (by have:=HLEN.out;omega));unfold Z1q at DO;obtain⟨S',m,z,hS⟩ : ∃S' m z,Hid (UC S o.n.n=(S',m,z)):=⟨_,_,_,zH rfl⟩;rw[hS.out]at T1 R1 DI DL DS DO ⊢;dsimp only at T1 R1 DI DL DS DO ⊢;go_upto_region 15 with (first
  |(refine zP V1 V1.heap.size (Z5 m ta tc) ?_))
 have b2:Below V1.heap.size V1 (V1.alloc (.cells (Z5 m ta tc) 47)):=zB _ _;have N11:=zH (Z9 V1 (.cells (Z5 m ta tc) 47));have LQ:Hid (∀k,FQ k->k < V1.heap.size):=zH T1.out.h2.lt;have LQ0:Hid (∀k,FQ k->k < V0.heap.size):=zH T0.out.h2.lt;replace T1:=zH (T1.out.below b2);replace X1:=zH (Z7 b2 X1.out);replace R1:=zH (Zb R1.out b2);obtain⟨p11,hp11⟩:=zX (V1.heap.size);rw[hp11.out]at N11 LQ ⊢;generalize V1.alloc (.cells (Z5 m ta tc) 47)=V2 at *;clear b2 hp11;have HX2:=zH (RN.out V2 X1.out);go_wp2_with (refine wpList_load_mid rfl 47 _ rfl p5 2 rfl (o.n.n.cells o.n.sa o.n.sc) _ HX2.out Tryz.underlying47 rfl (by exact J19.out) ?_);refine(DO.out V2 T1.out.h2 (HO.out.n.below T1.out.bel)).mono ?_;rintro e V3 ⟨⟨ra,rc,rfl,hrr⟩,F2,h1,h2,h3⟩;have N12:=zH ((h2.block p11 (Zq N11.out) (fun hk=>by have:=LQ.out p11 hk;omega)).trans N11.out);have R3:=zH hrr;have R13:Hid (∀V',Below V3.heap.size V3 V'->Xe V' ta m.strokes.length tc m.strokes):=zH (fun V' hb=>Xe.below (ZX.of_own (Zi R1.out h2 (fun b hb hF=>absurd (LQ0.out b hF) (by have:=(R1.out.lt b hb).1;omega)))) hb);obtain⟨FQ2,hT⟩:=T1.out.two ⟨F2,h1,h2,h3⟩;have T3:=zH hT;clear h1 h2 h3 hrr hT HX2 N11 R1;go_upto_region 16 with (first
  |(refine zP V3 V3.heap.size (Z5 m ra rc) ?_))
 have b4:Below V3.heap.size V3 (V3.alloc (.cells (Z5 m ra rc) 47)):=zB _ _;have N13:=zH (Z9 V3 (.cells (Z5 m ra rc) 47));have N11:=zH (Z7 b4 N12.out);have T4:=zH (T3.out.below b4);have R4:=zH (R3.out.below b4);have R14:=zH (R13.out _ b4);obtain⟨p13,hp13⟩:=zX (V3.heap.size);rw[hp13.out]at N13 ⊢;generalize V3.alloc (.cells (Z5 m ra rc) 47)=V4 at *;clear b4 hp13;go_wp2_with (first
  |(refine zG p11 N11.out ?_)
  |(refine zG p13 N13.out ?_)
  | fail)
 refine(Z2f m ta tc ra rc _ R14.out R4.out DS.out.1 DS.out.2).mono ?_;rintro e V5 ⟨rfl,b5⟩;have T5:=zH (T4.out.below b5);clear b5;go_wp2;go_ret;exact⟨rfl,mb,sp,G1,SF1,FQ2,S',T5.out,DI.out,by have:=DL.out.1;omega⟩
def Z1u (xs:List LN):Nat:=(xs.map fun x=>x.n.strokes.length).sum
def lsum (xs:List LN):Nat:=xs.length+Z1u xs
theorem Z9l (xs:List LN)(x:LN):Z1u (xs ++ [x])=Z1u xs+x.n.strokes.length:=by simp[Z1u]
theorem Z8X: ∀{xs:List LN} {b:Nat},(∀x∈xs,x.n.strokes.length<=b)->Z1u xs<=xs.length * b
 | [],b,_=>by simp[Z1u]
 | x :: xs,b,h=>by
  have h1:=Z8X (xs:=xs) (b:=b) (fun y hy=>h y (List.mem_cons_of_mem _ hy))
  have h2:=h x (List.mem_cons_self ..)
  unfold Z1u at h1 ⊢
  rw[List.map_cons,List.sum_cons,List.length_cons,Nat.add_mul,Nat.one_mul,Nat.add_comm]
  exact Nat.add_le_add h1 h2
theorem Z79 (xs:List LN)(a:zA)(n c:Nat)(most:Int)(w:World)(hr:Jb w a n c xs)(hn:n<=1000)(hs : ∀x∈xs,x.n.strokes.length<=17592186044416):
  Calls zq 11 #[.slice a n c,.int .i64 most] w fun e w'=>e = .returned (.bool (decide ((lsum xs:Int)<=most)))/\w'=w:=by
 have J19:(zq.info? 47).map (·.size)=some 19:=by kernel_rfl
 have RL:=zH hr;have HN:=zH hr.1;have hn63:n<=9223372036854775807:=by have h1:=hr.2.1;have h2:=hr.2.2.1;unfold maxLen at h2;omega
 have HS:=zH hs;have HNN:=zH hn;clear hr hs hn;go_enter Tryz.func11,Tryz.ntmps11;go_wp2_with fail;go_loopw [5,6] (fun z i wr=>∃(k:Nat) (s:Int),z = .int .i64 s/\i = .int .i64 (k:Int)/\k<=n/\Hid (s=(n:Int)+(Z1u (xs.take k):Int))/\Hid (wr=w)) (fun _ i _=>n - (intOf i).toNat)
 case atStart=>exact⟨0,_,rfl,rfl,Nat.zero_le _,zH (by simp[Z1u]),zH rfl⟩
 case round=>
  obtain⟨k,s,rfl,rfl,hk,HSU,HW⟩:=hrel;have hw:=HW.out;subst hw;by_cases hlt:k < n
  ·have t0:decide ((k:Int) < (n:Int))=true:=by simp;omega
   obtain⟨x,Hx⟩ : ∃x,xs[k]? = some x:=⟨_,List.getElem?_eq_getElem (by rw[HN.out];exact hlt)⟩;obtain⟨b,off,rfl,hat⟩:=RL.out.at (by omega);obtain⟨o,ho⟩:=zX (off+k * 19);have hx:=(hat k x Hx).1;rw[ho.out]at hx;have c15:=hx 15 (.slice x.sa x.n.strokes.length x.sc) rfl;have hix:=fun W=>ZN (W:=W) (c:=c) (b:=b) Tryz.underlying24 J19 hlt ho.out;have hk64:(k:Int)+1<=9223372036854775807:=by omega
   have HSN:Hid (Z1u (xs.take (k+1))=Z1u (xs.take k)+x.n.strokes.length):=zH (by rw[Y8 Hx,Z9l]);have HB:Hid (Z1u (xs.take k)<=1000 * 17592186044416):=zH (Nat.le_trans (Z8X (fun y hy=>HS.out y (List.mem_of_mem_take hy))) (Nat.mul_le_mul_right _ (by rw[List.length_take];have:=HNN.out;omega)));have HX2:=zH (HS.out x (List.mem_of_getElem? Hx));obtain⟨u,hu⟩:=zX (s+(x.n.strokes.length:Int));have hwr:wrap64 (s+(x.n.strokes.length:Int))=u:=by
    have h1:=HSU.out;have h2:=HB.out;have h3:=HX2.out;have h4:=HNN.out;have h5:=hu.out;unfold wrap64;omega
   have HSU2:Hid (u=(n:Int)+(Z1u (xs.take (k+1)):Int)):=zH (by have h1:=HSU.out;have h2:=HSN.out;have h5:=hu.out;omega);clear hat hx Hx;go_wp2;go_roundw
   case rel=>exact⟨k+1,u,by first | rfl|(rw[hwr]),by go_num,by omega,HSU2,(by first | exact zH rfl | exact zH trivial)⟩
   case measure=>simp[intOf];omega
  ·have t0:decide ((k:Int) < (n:Int))=false:=by simp;omega
   have hkn:k=n:=by omega
   have HE:Hid (s=(lsum xs:Int)):=zH (by
    have h1:=HSU.out;have h2:=HN.out;rw[hkn,List.take_of_length_le (by omega)]at h1;unfold lsum;rw[h1,h2];push_cast;rfl)
   clear HSU hkn;go_wp2;go_ret;exact⟨by rw[HE.out] <;> rfl,rfl⟩
theorem Z4f (xs:List LN)(a:zA)(n c:Nat)(w:World)(hr:Jb w a n c xs)(hs : ∀x∈xs,x.n.strokes.length<=17592186044416):
  Calls zq 11 #[.slice a n c,.int .i64 300] w fun e w' => ∃lb,e = .returned (.bool lb)/\w'=w/\(lb=true->n<=1000->lsum xs<=300):=by
 by_cases h:n<=1000
 ·refine(Z79 xs a n c 300 w hr h hs).mono ?_;rintro e w' ⟨rfl,rfl⟩;exact⟨_,rfl,rfl,fun h1 _=>by have h2:(lsum xs:Int)<=300:=(by simpa using h1);omega⟩
 ·refine(Z8j xs a n c 300 w hr).mono ?_;rintro e w' ⟨⟨lb,rfl⟩,rfl⟩;exact⟨lb,rfl,rfl,fun _ h1=>absurd h1 h⟩
def tot (os:List OpH):Nat:=(os.map fun o=>1+o.xs.length+o.qs.length).sum
theorem Z3D (os:List OpH)(o:OpH):tot (os ++ [o])=tot os+(1+o.xs.length+o.qs.length):=by simp[tot]
theorem Zaw (os:List OpH)(k:Nat):tot (os.take k)<=tot os:=by
 have h:tot os=tot (os.take k)+tot (os.drop k):=by
  unfold tot;rw[<-List.sum_append,<-List.map_append,List.take_append_drop]
 omega
theorem Zax: ∀{os:List OpH},(∀o∈os,o.xs.length<=17592186044416/\o.qs.length<=17592186044416)->tot os<=os.length * 35184372088833
 | [],_=>Nat.zero_le _
 | o :: os,h=>by
  have h1:=Zax (os:=os) (fun x hx=>h x (List.mem_cons_of_mem _ hx))
  have h2:=h o (List.mem_cons_self ..)
  have h3:tot (o :: os)=(1+o.xs.length+o.qs.length)+tot os:=by unfold tot;rw[List.map_cons,List.sum_cons]
  rw[h3,List.length_cons,Nat.add_mul,Nat.one_mul]
  omega
theorem ZbN {os:List OpH}{k:Nat}{o:OpH}(h:os[k]? = some o):tot (os.take k)+(1+o.xs.length+o.qs.length)<=tot os:=by
 have h1:=Zaw os (k+1);rw[Y8 h,Z3D]at h1;exact h1
theorem Z8u (f:Ys)(id:Int)(a:zA)(n c:Nat)(os:List OpH)(w:World)(hr:Z6o w a n c os):
  Calls zq 5 #[f.val,.int .i64 id,.slice a n c] w fun e w'=>e = .returned (.bool true)/\Below w.heap.size w w':=by
 have hvl:f.val = .agg #[.int .i64 f.rings,.int .i64 f.sectors,.int .i64 f.wide]:=rfl;have NH:=zH (fun W=>Z4R f id W);have NR:=zH (fun W=>Z4Q f id W);rw[hvl]at NH NR ⊢;clear hvl;have J19:=zH (show(zq.info? 47).map (·.size)=some 19 from by kernel_rfl);have J26:=zH (show(zq.info? 49).map (·.size)=some 26 from by kernel_rfl);have RO:=zH hr;have LN1:=zH hr.1;have hn63:n<=9223372036854775807:=by have h1:=hr.2.1;have h2:=hr.2.2.1;unfold maxLen at h2;omega
 have HN63:=zH hn63;clear hr hn63;have B:=zH (zB w (zF f 23));have F3:=zH (Z9 w (zF f 23));go_enter Tryz.func5,Tryz.ntmps5;go_upto_region 1 with fail;obtain⟨p3,hp3⟩:=zX (w.heap.size);rw[hp3.out]at F3 ⊢;generalize w.alloc (zF f 23)=W0 at *;go_wp2_with fail;refine(Zac _).mono ?_;rintro e W1 ⟨rfl,b1⟩;replace B:=zH (B.out.trans (b1.mono B.out.size));replace F3:=zH (Z7 b1 F3.out);clear b1;go_wp2_with fail;go_loopw [8,9] (fun mv iv wr=>∃(z:Int) (k:Nat),mv = .int .i64 z/\iv = .int .i64 (k:Int)/\k<=n/\Hid (Below W1.heap.size W1 wr)/\Hid (n<=40->z=(tot (os.take k):Int))/\Hid (∀j o,j < k->os[j]? = some o->(o.xs.length<=1000->lsum o.xs<=300)/\o.n.n.strokes.length<=300)) (fun _ iv _=>n - (intOf iv).toNat)
 case atStart=>exact⟨0,0,rfl,rfl,Nat.zero_le _,zH (Below.refl _ _),zH (fun _=>rfl),zH (fun j o h=>by omega)⟩
 case round=>
  obtain⟨z,k,rfl,rfl,hk,BB,TZ,SM⟩:=hrel;by_cases hlt:k < n
  ·have t0:decide ((k:Int) < (n:Int))=true:=by simp;omega
   obtain⟨o,Ho⟩ : ∃o,os[k]? = some o:=⟨_,List.getElem?_eq_getElem (by rw[LN1.out];exact hlt)⟩;have HOK:=zH Ho;obtain⟨b,off,rfl,hat⟩:=RO.out.at (by omega);obtain⟨oo,hoo⟩:=zX (off+k * 26);have HR:=zH (hat k o Ho).1;rw[hoo.out]at HR;have HO:=zH (hat k o Ho).2;have BW:=zH (B.out.trans (BB.out.mono B.out.size));have HRW:=zH (Zs HR.out BW.out);have HIX:=zH (fun W=>ZN (W:=W) (c:=c) (b:=b) Tryz.underlying54 J26.out hlt hoo.out);have HK64:Hid ((k:Int)+1<=9223372036854775807):=zH (by have:=HN63.out;omega);have NRG:Hid (∀V:World,V.rangeAt b oo o.cells->V.rangeAt b (oo+2) (o.n.n.cells o.n.sa o.n.sc)):=zH (fun V hV j v hv=>by
    have hj:j < 19:=(List.getElem?_eq_some_iff.1 hv).1;have e1:o.cells=[.int .i64 o.kind,.slice o.ba o.bn o.bc] ++ (o.n.n.cells o.n.sa o.n.sc ++ [.slice o.la o.xs.length o.lc,.slice o.ca o.qs.length o.cc,.int .i64 o.stock,.int .i64 o.foil,.int .i64 o.flip]):=by unfold OpH.cells;rw[List.append_assoc]
    have h2:=hV (2+j) v (by
     rw[e1,List.getElem?_append_right (by simp),show 2+j - ([.int .i64 o.kind,.slice o.ba o.bn o.bc]:List Value).length=j by simp;try omega,List.getElem?_append_left (by exact hj)];exact hv)
    rw[show oo+2+j=oo+(2+j)by omega];exact h2)
   have hix:=HIX.out;have c21:=HRW.out 21 (.slice o.la o.xs.length o.lc) rfl;clear hat Ho;go_wp2_with fail;refine(Z4f o.xs o.la o.xs.length o.lc _ (HO.out.l.below BW.out) (fun x hx=>(HO.out.lok x hx).2)).mono ?_;rintro e V1 ⟨lb,rfl,hV1,hl1⟩;subst hV1;have L1:=zH hl1;clear hl1;cases lb
   ·clear t0 c21;go_wp2;go_ret;exact⟨rfl,BW.out⟩
   have HNR:=zH (NRG.out _ HRW.out);go_wp2_with (first
    |(refine UF (by kernel_rfl) 47 _ rfl b (oo+2) rfl (o.n.n.cells o.n.sa o.n.sc) _ HNR.out Tryz.underlying47 rfl (by exact J19.out) ?_)
    |(refine VN ?hw _ rfl o.n.n o.n.sa o.n.sc rfl ?_;case hw=>kernel_rfl)
    | fail)
   have bn:Below V1.heap.size V1 (V1.alloc (.cells (Z5 o.n.n o.n.sa o.n.sc) 47)):=zB _ _;have RL1:=Z0B (xs:=[o.n]) (by rw[show Zw [o.n]=o.n.n.cells o.n.sa o.n.sc by simp[Zw]];exact XX V1 o.n.n o.n.sa o.n.sc) (fun y hy=>by rw[List.mem_singleton.1 hy];exact(HO.out.n.below BW.out).below bn);refine(Z4f [o.n] _ 1 1 _ RL1 (fun x hx=>by rw[List.mem_singleton.1 hx];exact HO.out.nst)).mono ?_;rintro e V2 ⟨lb,rfl,hV2,hl2⟩;subst hV2;have L2:=zH hl2;have BB2:=zH (BB.out.trans (bn.mono BB.out.size));have BW2:=zH (B.out.trans (BB2.out.mono B.out.size));clear hl2 RL1 bn HNR c21 t0 BB BW HRW;generalize V1.alloc (.cells (Z5 o.n.n o.n.sa o.n.sc) 47)=V3 at *;cases lb
   ·go_wp2;go_ret;exact⟨rfl,BW2.out⟩
   have SMK:Hid ((o.xs.length<=1000->lsum o.xs<=300)/\o.n.n.strokes.length<=300):=zH ⟨L1.out (by first | rfl | trivial),by
    have h1:=L2.out (by first | rfl | trivial) (by decide);simp[lsum,Z1u]at h1;omega⟩
   have SM2:Hid (∀j x,j < k+1->os[j]? = some x->(x.xs.length<=1000->lsum x.xs<=300)/\x.n.n.strokes.length<=300):=zH (fun j x hj hx=>by
    rcases Nat.lt_or_ge j k with h | h
    ·exact SM.out j x h hx
    ·have e:j=k:=by omega
     subst e;rw[HOK.out]at hx;cases hx;exact SMK.out)
   have LL:=zH HO.out.ll;obtain⟨zz,hzz⟩:=zX (wrap64 (z+(1+(o.xs.length:Int)+(o.qs.length:Int))));have TZ2:Hid (n<=40->zz=(tot (os.take (k+1)):Int)):=zH (fun h40=>by
    have h1:=TZ.out h40;have h2:tot (os.take (k+1))=tot (os.take k)+(1+o.xs.length+o.qs.length):=by rw[Y8 HOK.out,Z3D]
    have h3:tot (os.take (k+1))<=(os.take (k+1)).length * 35184372088833:=Zax (fun x hx=>by
     obtain⟨j,hj⟩:=List.getElem?_of_mem hx;obtain⟨b9,off9,_,hat9⟩:=RO.out.at (by omega);have h5:os[j]? = some x:=by
      rw[List.getElem?_take]at hj;split at hj
      ·exact hj
      ·cases hj
     exact(hat9 j x h5).2.ll)
    have h4:(os.take (k+1)).length<=40:=by rw[List.length_take,LN1.out];omega
    rw[<-hzz.out,h2];unfold wrap64;omega)
   have LR:=zH (show ∀w0,Below V3.heap.size V3 w0->w0.rangeAt b oo o.cells from fun w0 hb=>Zs HR.out (BW2.out.trans (hb.mono BW2.out.size)));have hC0:Below V3.heap.size V3 V3.drew:=(Below.refl _ _).drew;clear hix L1 L2;go_upto_region 8 with fail;try simp only[Act.put,VZ,VY,VX]
   refine zC (fun w':World=>Below V3.heap.size V3 w') hC0 ?_
   iterate 3 go_big_quiet_step (fail)
   refine zQ (.pointer (some ⟨b,oo,none⟩)) (fun w0 hC=>?_) ?_
   ·have hix:=HIX.out w0;clear hC;go_simp
   refine zv b (oo+21) ?_;refine zQ (.slice o.la o.xs.length o.lc) (fun w0 hC=>?_) ?_
   ·have hc:=LR.out w0 hC 21 (.slice o.la o.xs.length o.lc) rfl;clear hC;go_simp
   refine zV (.int .i64 (o.xs.length:Int)) ?_;refine zQ (.int .i64 (1+(o.xs.length:Int))) (fun w0 hC=>?_) ?_
   ·clear hC;have h9:=LL.out;go_simp;try (rw[IntKind.wrap_i64];omega)
    try (unfold wrap64;omega)
   iterate 2 go_big_quiet_step (fail)
   refine zQ (.pointer (some ⟨b,oo,none⟩)) (fun w0 hC=>?_) ?_
   ·have hix:=HIX.out w0;clear hC;go_simp
   refine zv b (oo+22) ?_;refine zQ (.slice o.ca o.qs.length o.cc) (fun w0 hC=>?_) ?_
   ·have hc:=LR.out w0 hC 22 (.slice o.ca o.qs.length o.cc) rfl;clear hC;go_simp
   refine zV (.int .i64 (o.qs.length:Int)) ?_;refine zQ (.int .i64 (1+(o.xs.length:Int)+(o.qs.length:Int))) (fun w0 hC=>?_) ?_
   ·clear hC;have h9:=LL.out;go_simp;try (rw[IntKind.wrap_i64];omega)
    try (unfold wrap64;omega)
   refine zQ (.int .i64 zz) (fun w0 hC=>?_) ?_
   ·clear hC;rw[<-hzz.out];go_simp
    first | done|(rw[IntKind.wrap_i64];unfold wrap64;first | done | rfl | omega)
   refine zV (.int .i64 zz) ?_;refine wpQuiet_nil ?_;intro w' hC;have BB3:=zH (BB2.out.trans (hC.mono BB2.out.size));clear hC LR;go_upto_region 5 with fail;have hk64:=HK64.out;go_wp2;go_roundw
   case rel=>exact⟨zz,k+1,by go_num,by go_num,by omega,BB3,TZ2,SM2⟩
   case measure=>simp[intOf];omega
  ·have t0:decide ((k:Int) < (n:Int))=false:=by simp;omega
   have hkn:k=n:=by omega
   have TZ2:Hid (n<=40->z=(tot os:Int)):=zH (fun h=>by have h1:=TZ.out h;rwa [List.take_of_length_le (by rw[LN1.out];omega)]at h1);have SM2:Hid (∀o∈os,(o.xs.length<=1000->lsum o.xs<=300)/\o.n.n.strokes.length<=300):=zH (fun o ho=>by
    obtain⟨j,hj⟩:=List.getElem?_of_mem ho;exact SM.out j o (by have:=(List.getElem?_eq_some_iff.1 hj).1;rw[LN1.out]at this;omega) hj)
   have B2:=zH (B.out.trans (BB.out.mono B.out.size));have F2:=zH (Z7 BB.out F3.out);clear TZ SM B F3 hkn;go_upto_region 9 with fail;clear t0 hlt hk BB;generalize wr=Wl at *;cases hq:decide ((40:Int) < (n:Int))
   case true=>
    go_wp2;go_ret;exact⟨rfl,B2.out⟩
   have NL:=zH (show n<=40 by simp at hq;omega);cases hq2:decide ((300:Int) < z)
   case true=>
    go_wp2;go_ret;exact⟨rfl,B2.out⟩
   have TOT:Hid (tot os<=300):=zH (by have h1:=TZ2.out NL.out;simp at hq2;omega);have c0:=Z6 F2.out 0 (.int .i64 f.rings) rfl;have c1:=Z6 F2.out 1 (.int .i64 f.sectors) rfl;have c2:=Z6 F2.out 2 (.int .i64 f.wide) rfl;go_wp2_with fail;clear hq hq2 TZ2;refine(NH.out _).mono ?_;rintro e V1 ⟨h1,bb⟩;have B3:=zH (B2.out.trans (bb.mono B2.out.size));have F4:=zH (Z7 bb F2.out);clear bb c0 c1 c2;rcases h1 with ⟨hbad,rfl⟩ | ⟨hv,hid,p,mb,sp,rfl,hh1,hg1⟩
   ·have HB:=zH hbad;clear hbad;have c0:=Z6 F4.out 0 (.int .i64 f.rings) rfl;have c1:=Z6 F4.out 1 (.int .i64 f.sectors) rfl;have c2:=Z6 F4.out 2 (.int .i64 f.wide) rfl;go_wp2_with fail;refine(NR.out _).mono ?_;rintro e V2 ⟨h1,bb⟩;have B4:=zH (B3.out.trans (bb.mono B3.out.size));clear bb c0 c1 c2;rcases h1 with ⟨_,rfl⟩ | ⟨hv,hid,_⟩
    ·go_wp2;go_ret;exact⟨rfl,B4.out⟩
    ·exact absurd ⟨hv,hid⟩ HB.out
   have HV:=zH hv;have HID:=zH hid;have H1:=zH hh1;have G1:=zH (show ∀k,XJ p mb (fun _=>none) (fun k=>k=sp) k->w.heap.size<=k from fun k hk=>Nat.le_trans B2.out.size (hg1 k hk));have L1:=zH hh1.lt;have I0:=zH (Xr.new hv hid);clear hv hid hh1 hg1;have c0:=Z6 F4.out 0 (.int .i64 f.rings) rfl;have c1:=Z6 F4.out 1 (.int .i64 f.sectors) rfl;have c2:=Z6 F4.out 2 (.int .i64 f.wide) rfl;go_wp2_with fail;refine(NR.out _).mono ?_;rintro e V2 ⟨h1,bb⟩;rcases h1 with ⟨hbad,rfl⟩ | ⟨_,_,q,rfl,hh2,hq⟩
   ·exact absurd ⟨HV.out,HID.out⟩ hbad
   have TW:Hid (Z2I w V2 p mb sp (fun _=>none) (fun k=>k=sp) (ZC.new f id) q (fun k=>k=q) (ZC.new f id)):=zH ⟨B3.out.trans (bb.mono B3.out.size),H1.out.below bb,hh2,fun k hk e=>by have h1:=L1.out k hk;have h2:k=q:=e;omega,G1.out,fun k hk=>by have h2:k=q:=hk;rw[h2];exact Nat.le_trans B3.out.size hq⟩;clear bb hh2 hq c0 c1 c2 H1 G1 L1 HV HID NH NR F4 F2;go_wp2_with fail;go_loopw [14] (fun iv wr=>∃(k mb sp:Nat) (G:Nm->Option LN) (SF FQ:Nat->Prop) (S:ZC),iv = .int .i64 (k:Int)/\k<=n/\Hid (Z2I w wr p mb sp G SF S q FQ S/\Xr S/\S.l.length<=tot (os.take k))) (fun iv _=>n - (intOf iv).toNat)
   case atStart=>exact⟨0,mb,sp,_,_,_,_,rfl,Nat.zero_le _,zH ⟨TW.out,I0.out,Nat.le_refl _⟩⟩
   case round=>
    clear TW I0;obtain⟨k,mb,sp,G,SF,FQ,S,rfl,hk,LP⟩:=hrel;have TW:=zH LP.out.1;have HI:=zH LP.out.2.1;have SL:=zH LP.out.2.2;clear LP;by_cases hlt:k < n
    ·have t0:decide ((k:Int) < (n:Int))=true:=by simp;omega
     obtain⟨o,Ho⟩ : ∃o,os[k]? = some o:=⟨_,List.getElem?_eq_getElem (by rw[LN1.out];exact hlt)⟩;obtain⟨b,off,rfl,hat⟩:=RO.out.at (by omega);obtain⟨oo,hoo⟩:=zX (off+k * 26);have HR:=zH (Zs (hat k o Ho).1 TW.out.bel);rw[hoo.out]at HR;have HO:=zH (hat k o Ho).2;have TK:=zH (Y8 Ho);have TM:Hid (tot (os.take k)+(1+o.xs.length+o.qs.length)<=300):=zH (Nat.le_trans (ZbN Ho) TOT.out);have SO:=zH (SM2.out o (List.mem_of_getElem? Ho)).2;have hix:=fun W=>ZN (W:=W) (c:=c) (b:=b) Tryz.underlying54 J26.out hlt hoo.out;have HK64:Hid ((k:Int)+1<=9223372036854775807):=zH (by have:=HN63.out;omega);clear hat Ho;go_wp2_with (refine wpList_load_mid rfl 49 _ rfl b oo rfl o.cells _ HR.out Tryz.underlying49 rfl (by exact J26.out) ?_);refine(Zcg o w _ p mb sp G SF S q FQ TW.out HI.out HO.out (Nat.le_trans SO.out (by decide)) (by have h1:=SL.out;have h2:=TM.out;omega)).mono ?_;rintro e X1 ⟨rfl,mb2,sp2,G2,SF2,FQ2,S2,h1,h2,h3⟩;have T1:=zH h1;have I1:=zH h2;have SL2:Hid (S2.l.length<=tot (os.take (k+1))):=zH (by rw[TK.out,Z3D];have:=SL.out;omega);have S300:Hid (S2.l.length<=300):=zH (by have h9:=SL.out;have h8:=TM.out;omega);clear h1 h2 h3 TW HI SL hix HR t0;go_wp2_with fail;refine(Z7g p mb2 sp2 G2 SF2 S2 _ T1.out.h1 I1.out (by have:=S300.out;omega)).mono ?_;rintro e X2 ⟨⟨xa,xn,xc,xz,rfl,h1,h2⟩,bb⟩;have KX:=zH h1.kept;have EX:=zH h2;have T2:=zH (T1.out.below bb);clear h1 h2 bb;go_wp2_with fail;refine(Z8c q FQ2 S2 _ T2.out.h2 I1.out (by have:=S300.out;omega)).mono ?_;rintro e X3 ⟨⟨ya,yn,yc,yz,rfl,h1,h2⟩,bb⟩;have RY:Hid (JM X3 ya yn yc S2.l):=zH (by rw[<-h2];exact h1.rd);have RX:Hid (JM X3 xa xn xc S2.l):=zH (by
      have h3:=(KX.out.below bb).rd;rw[<-EX.out];exact Vw (Vn h3) (fun x hx=>QP h3 hx))
     have T3:=zH (T2.out.below bb);clear h1 h2 bb KX EX;go_wp2_with fail;refine(Z12 S2.l xa xn xc ya yn yc _ RX.out RY.out (fun x hx=>⟨Yf I1.out.v (I1.out.frm x hx),Nat.le_trans (Yg I1.out.v (I1.out.frm x hx)) (by decide)⟩)).mono ?_;rintro e X4 ⟨rfl,bb⟩;have T4:=zH (T3.out.below bb);clear bb RX RY;go_wp2_with fail;refine(Z7i p mb2 sp2 G2 SF2 S2 _ T4.out.h1).mono ?_;rintro e X5 ⟨⟨ka,kc,rfl,h1⟩,bb⟩;have RK:=zH h1;have T5:=zH (T4.out.below bb);clear h1 bb;go_wp2_with fail;refine(Z7C q FQ2 S2 _ T5.out.h2 (by have:=S300.out;omega)).mono ?_;rintro e X6 ⟨⟨ja,jc,rfl,h1⟩,bb⟩;have RJ:Hid (Xe X6 ja 8 jc (Z6e S2.c)):=zH (by rw[<-ZcP I1.out];exact h1);have RK6:=zH (RK.out.below bb);have T6:=zH (T5.out.below bb);clear h1 bb;go_wp2_with fail;refine(Z4I (Z6e S2.c) ka 8 kc ja jc _ RK6.out RJ.out (by decide)).mono ?_;rintro e X7 ⟨rfl,bb⟩;have T7:=zH (T6.out.below bb);clear bb RK RK6 RJ T1 T2 T3 T4 T5 T6;have hk64:=HK64.out;go_wp2;go_roundw
     case rel=>exact⟨k+1,mb2,sp2,G2,SF2,FQ2,S2,by go_num,by omega,zH ⟨T7.out,I1.out,SL2.out⟩⟩
     case measure=>simp[intOf];omega
    ·have t0:decide ((k:Int) < (n:Int))=false:=by simp;omega
     go_wp2;go_ret;exact⟨rfl,TW.out.bel⟩
theorem Tryz.bytes3:zq.bytesOf 3=8:=by kernel_rfl
theorem Tryz.cellsB41:zq.cellsOf 41=1:=by kernel_rfl
theorem Tryz.cells49:zq.cellsOf 49=26:=by kernel_rfl
theorem Z02 {H:Type}{P:Program}{e:TypeId}: ∀{ds:List (DataW H)} {d:DataW H},d∈ds -> ∀n∈d.weights P e,n∈DataW.weightsAll P e ds
 | [],_,h,_,_=>by cases h
 | d0 :: ds,d,h,n,hn=>by
  simp only[DataW.weightsAll,List.mem_append]
  rcases List.mem_cons.1 h with rfl | h
  ·exact .inl hn
  ·exact .inr (Z02 h n hn)
section
variable {H:Type}{enc:TypeId×Value->H}{W:World}
def Va (t:TypeId)(d:DataW H):Prop := ∀q∈d.weights zq t,q<=reachBytes
theorem Z9h {ts:List TypeId}{ds:List (DataW H)}(h:(DataW.weightsEach zq ts ds).all (· <= reachBytes)=true){j:Nat}{t:TypeId}{d:DataW H}(ht:ts[j]? = some t)(hd:ds[j]? = some d):Va t d:=fun q hq=>by
 have:=List.all_eq_true.1 h _ (DataW.weights_mem_each ht hd q hq)
 simpa using this
theorem Z54 {fuel:Nat}{y:DataW H×List MemPlace}{a:zA}{n c:Nat}(h:DataW.trod enc zq W 0 (fun _=>true) true fuel 37 [.slice a n c]=some y)(hs:Va 37 y.1):n<=17592186044416:=by
 rcases DataW.trod_slice Tryz.underlying37 h with ⟨hcs,hx⟩ | ⟨a1,len',cap',elems,rest,m,_,hcs,hx,hb,hl,hm,hlen,hel,hsp,hns⟩
 ·simp at hcs;omega
 ·simp at hcs;obtain⟨rfl,rfl,rfl⟩:=hcs;subst hx;have h1:=hs ((elems.length+rest.length) * zq.bytesOf 3) (by simp[DataW.weights,Tryz.underlying37]);rw[Tryz.bytes3,show reachBytes=140737488351232 by decide]at h1;omega
theorem Z2M {fuel:Nat}{y:DataW H×List MemPlace}{n:NoteV}{sa:zA}{sc:Nat}(h:DataW.trod enc zq W 0 (fun _=>true) true fuel 47 (n.cells sa sc)=some y)(hs:Va 47 y.1):n.strokes.length<=17592186044416:=by
 obtain⟨xs,m,_,hx,hl,hlen,hf⟩:=DataW.trod_struct Tryz.underlying47 h;obtain⟨y13,e13⟩:=Yn hlen (i:=13) (by decide);have g13:DataW.trod enc zq W 0 (fun _=>true) true m 37 (((n.cells sa sc).drop 15).take (zq.cellsOf 37))=some y13:=(hf 13 _ rfl).trans e13;rw[Tryz.cells37]at g13;refine Z54 (y:=y13) g13 fun q hq=>hs q ?_;rw[hx];simp only[DataW.weights,Tryz.underlying47];exact DataW.weights_mem_each (j:=13) (t:=37) rfl (by simp[List.getElem?_map,e13]) q hq
theorem Z3Y {fuel:Nat}{cs:List Value}{y:DataW H×List MemPlace}{t e:TypeId}{k:Nat}(ht:zq.underlying t=some (.slice e))(hc:zq.cellsOf e=k)(hk:0 < k)
  (h:DataW.trod enc zq W 0 (fun _=>true) true fuel t cs=some y) (hs:Va t y.1):
  ∃a n c,cs=[.slice a n c]/\n<=c/\c<=maxLen/\(c=0 \/ ∃b off,a=some ⟨b,off,none⟩ /\ ∀i,i < n -> ∃es m z,DataW.trod enc zq W 0 (fun _=>true) true m e es=some z/\W.rangeAt b (off+i * k) es/\Va e z.1):=by
 rcases DataW.trod_slice ht h with ⟨hcs,hx⟩ | ⟨a,len',cap',elems,rest,m,_,hcs,hx,hb,hl,hm,hlen,hel,hsp,hns⟩
 ·exact⟨none,0,0,hcs,Nat.le_refl _,Nat.zero_le _,.inl rfl⟩
 ·rw[hc]at hel hsp;refine⟨some a,len',cap',hcs,hl,hm,?_⟩;rcases Nat.eq_zero_or_pos cap' with h0 | h0
  ·exact .inl h0
  ·have hspot:a.spot=none:=by
    rcases Nat.eq_zero_or_pos len' with h1 | h1
    ·obtain⟨h2,h3⟩:=hsp rfl;have h4:=h3 0 (by omega);rw[List.getElem?_eq_getElem (by omega)]at h4;cases hq:W.cells? 0 (a.add ((len'+0) * k)) k with
     | none=>rw[hq]at h4;cases h4
     | some cs=>rw[show(len'+0) * k=0 by rw[h1];simp]at hq;have:=Z4A hk hq;simpa [Addr.add] using this
    ·have h4:=hel 0 h1;rw[List.getElem?_eq_getElem (by omega)]at h4;cases hq:W.cells? 0 (a.add (0 * k)) k with
     | none=>rw[hq]at h4;cases h4
     | some cs=>rw[Nat.zero_mul]at hq;have:=Z4A hk hq;simpa [Addr.add] using this
   obtain⟨ab,ao,spot⟩:=a;simp only at hspot;subst hspot;refine .inr ⟨ab,ao,rfl,fun i hi=>?_⟩;have h1:=hel i hi;rw[List.getElem?_eq_getElem (by omega)]at h1;cases hcs:W.cells? 0 ((⟨ab,ao,none⟩:Addr).add (i * k)) k with
   | none=>rw[hcs]at h1;cases h1
   | some es=>
    rw[hcs]at h1;have h2:=World.cells?_some hcs;refine⟨es,m,_,h1,fun j v hv=>?_,fun q hq=>hs q ?_⟩
    ·have hj:j < es.length:=(List.getElem?_eq_some_iff.1 hv).1;have h3:=h2.2.2 j (by have:=h2.1;omega);rw[hv]at h3;simpa [Addr.add_lit] using h3
    ·rw[hx];simp only[DataW.weights,ht,List.mem_cons,List.mem_append];refine .inr (.inl (Z02 ?_ q hq));exact List.mem_map_of_mem (List.getElem_mem _)
theorem Z6z {fuel:Nat}{t e:TypeId}{cs:List Value}{y:DataW H×List MemPlace}(ht:zq.underlying t=some (.slice e))
  (h:DataW.trod enc zq W 0 (fun _=>true) true fuel t cs=some y) : ∃a n c,cs=[.slice a n c]:=by
 rcases DataW.trod_slice ht h with ⟨hcs,hx⟩ | ⟨a,len',cap',elems,rest,m,_,hcs,hx,_⟩
 ·exact⟨_,_,_,hcs⟩
 ·exact⟨_,_,_,hcs⟩
end
theorem Tryz.bytes47:zq.bytesOf 47=168:=by kernel_rfl
section
variable {H:Type}{enc:TypeId×Value->H}{W:World}
theorem Z5G {fuel:Nat}{y:DataW H×List MemPlace}{a:zA}{n c:Nat}(h:DataW.trod enc zq W 0 (fun _=>true) true fuel 24 [.slice a n c]=some y)(hs:Va 24 y.1):n<=17592186044416:=by
 rcases DataW.trod_slice Tryz.underlying24 h with ⟨hcs,hx⟩ | ⟨a1,len',cap',elems,rest,m,_,hcs,hx,hb,hl,hm,hlen,hel,hsp,hns⟩
 ·simp at hcs;omega
 ·simp at hcs;obtain⟨rfl,rfl,rfl⟩:=hcs;subst hx;have h1:=hs ((elems.length+rest.length) * zq.bytesOf 47) (by simp[DataW.weights,Tryz.underlying24]);rw[Tryz.bytes47,show reachBytes=140737488351232 by decide]at h1;omega
theorem Z5W {fuel:Nat}{cs:List Value}{y:DataW H×List MemPlace}(h:DataW.trod enc zq W 0 (fun _=>true) true fuel 24 cs=some y)(hs:Va 24 y.1): ∃a c l,cs=[.slice a l.length c]/\JM W a l.length c l/\(∀x∈l,x.Ok/\x.strokes.length<=17592186044416)/\l.length<=17592186044416:=by
 obtain⟨a,n,c,h0,h1,h2,h3⟩:=Z3Y Tryz.underlying24 Tryz.cells47 (by decide) h hs;subst h0;have hn:=Z5G h hs;rcases h3 with h3 | ⟨b,off,rfl,h3⟩
 ·obtain rfl:n=0:=by omega
  exact⟨_,_,[],rfl,⟨rfl,h1,h2,.inl h3⟩,(fun x hx=>by cases hx),Nat.zero_le _⟩
 ·obtain⟨l,h4,h5⟩:=Z39 (P:=fun i (x:NoteV) => ∃es,W.rangeAt b (off+i * 19) es/\ZbE W es x/\x.strokes.length<=17592186044416) (fun i hi=>by
   obtain⟨es,m,z,h6,h7,h8⟩:=h3 i hi;obtain⟨x,hx⟩:=Z3Z h6;have hx2:=hx;obtain⟨sa,sc,rfl,_⟩:=hx;exact⟨x,_,h7,hx2,Z2M h6 h8⟩)
  subst h4;refine⟨_,_,l,rfl,⟨rfl,h1,h2,.inr ⟨b,off,rfl,fun i x hx=>?_⟩⟩,fun x hx=>?_,hn⟩
  ·obtain⟨es,h6,⟨sa,sc,rfl,h7,_⟩,_⟩:=h5 i x hx;exact⟨sa,sc,h6,h7⟩
  ·obtain⟨i,hi⟩:=List.getElem?_of_mem hx;obtain⟨es,h6,⟨sa,sc,rfl,_,h7⟩,h8⟩:=h5 i x hi;exact⟨h7,h8⟩
theorem Z9y {fuel:Nat}{cs:List Value}{y:DataW H×List MemPlace}(h:DataW.trod enc zq W 0 (fun _=>true) true fuel 49 cs=some y)(hs:Va 49 y.1): ∃o:OpH,cs=o.cells/\o.ok W:=by
 obtain⟨xs,m,_,hyx,hl,hlen,hf⟩:=DataW.trod_struct Tryz.underlying49 h;rw[Tryz.cells49]at hl
 match cs,hl with
 | [c0,c1,c2,c3,c4,c5,c6,c7,c8,c9,c10,c11,c12,c13,c14,c15,c16,c17,c18,c19,c20,c21,c22,c23,c24,c25],_=>
  obtain⟨y0,e0⟩:=Yn hlen (i:=0) (by decide);have HG:=fun(K T:Nat) {y} (h:DataW.trod enc zq W 0 (fun _=>true) true m T (([c0,c1,c2,c3,c4,c5,c6,c7,c8,c9,c10,c11,c12,c13,c14,c15,c16,c17,c18,c19,c20,c21,c22,c23,c24,c25].drop K).take (zq.cellsOf T))=some y)=>h;have g0:=HG 0 3 ((hf 0 _ rfl).trans e0);rw[Tryz.cells3]at g0;obtain⟨x0,a0,_,b0⟩:=DataW.trod_int Tryz.underlying3 g0;simp at a0;obtain⟨y1,e1⟩:=Yn hlen (i:=1) (by decide);have g1:=HG 1 41 ((hf 1 _ rfl).trans e1);rw[Tryz.cellsB41]at g1;obtain⟨ba,bn,bc,a1⟩:=Z6z Tryz.underlying41 g1;simp at a1;obtain⟨y2,e2⟩:=Yn hlen (i:=2) (by decide);have g2:=HG 2 47 ((hf 2 _ rfl).trans e2);rw[Tryz.cells47]at g2;have w2:Va 47 y2.1:=fun q hq=>hs q (by
   rw[hyx];simp only[DataW.weights,Tryz.underlying49];exact DataW.weights_mem_each (j:=2) (t:=47) rfl (by simp[List.getElem?_map,e2]) q hq)
  have g2b:=g2;obtain⟨nv,na,nc,a2,r2,o2⟩:=Z3Z g2;rw[a2]at g2b;have l2:=Z2M g2b w2;simp only[NoteV.cells]at a2;simp at a2;obtain⟨y3,e3⟩:=Yn hlen (i:=3) (by decide);have g3:=HG 21 24 ((hf 3 _ rfl).trans e3);rw[Tryz.cells24]at g3;have w3:Va 24 y3.1:=fun q hq=>hs q (by
   rw[hyx];simp only[DataW.weights,Tryz.underlying49];exact DataW.weights_mem_each (j:=3) (t:=24) rfl (by simp[List.getElem?_map,e3]) q hq)
  obtain⟨p3,q3,l3,a3,r3,o3,n3⟩:=Z5W g3 w3;obtain⟨ls,hls,r3'⟩:=r3.choose;simp at a3;obtain⟨y4,e4⟩:=Yn hlen (i:=4) (by decide);have g4:=HG 22 37 ((hf 4 _ rfl).trans e4);rw[Tryz.cells37]at g4;have w4:Va 37 y4.1:=fun q hq=>hs q (by
   rw[hyx];simp only[DataW.weights,Tryz.underlying49];exact DataW.weights_mem_each (j:=4) (t:=37) rfl (by simp[List.getElem?_map,e4]) q hq)
  have g4b:=g4;obtain⟨p4,q4,l4,a4,r4,_⟩:=Z6U g4;rw[a4]at g4b;have n4:=Z54 g4b w4;simp at a4;obtain⟨y5,e5⟩:=Yn hlen (i:=5) (by decide);have g5:=HG 23 3 ((hf 5 _ rfl).trans e5);rw[Tryz.cells3]at g5;obtain⟨x5,a5,_,b5⟩:=DataW.trod_int Tryz.underlying3 g5;simp at a5;obtain⟨y6,e6⟩:=Yn hlen (i:=6) (by decide);have g6:=HG 24 3 ((hf 6 _ rfl).trans e6);rw[Tryz.cells3]at g6;obtain⟨x6,a6,_,b6⟩:=DataW.trod_int Tryz.underlying3 g6;simp at a6;obtain⟨y7,e7⟩:=Yn hlen (i:=7) (by decide);have g7:=HG 25 3 ((hf 7 _ rfl).trans e7);rw[Tryz.cells3]at g7;obtain⟨x7,a7,_,b7⟩:=DataW.trod_int Tryz.underlying3 g7;simp at a7;clear hs hyx hf h;obtain⟨rfl,rfl,rfl,rfl,rfl,rfl,rfl,rfl,rfl,rfl,rfl,rfl,rfl,rfl,rfl,rfl,rfl,rfl,rfl⟩:=a2;subst a0 a1 a3 a4 a5 a6 a7;have hl3:ls.length=l3.length:=by rw[<-hls,List.length_map]
  refine⟨⟨x0,ba,bn,bc,⟨nv,na,nc⟩,p3,q3,ls,p4,q4,l4,x5,x6,x7⟩,?_,?_⟩
  ·unfold OpH.cells NoteV.cells;rw[hl3];rfl
  ·refine⟨r2,o2,l2,?_,fun x hx=>?_,r4,?_,n4⟩
   ·show Jb W p3 ls.length q3 ls;rw[hl3];exact r3'
   ·exact o3 x.n (by rw[<-hls];exact List.mem_map_of_mem hx)
   ·show ls.length<=_;rw[hl3];exact n3
theorem Z9x {base:Nat}{v:Value}{d:DataW H}{p:List MemPlace}(hval:Value.okWide zq W .any base 54 v)
  (h:DataW.Trod enc zq W 0 (fun _=>true) true 54 v d p) (hs:Va 54 d) : ∃a n c l,v = .slice a n c/\Z6o W a n c l:=by
 obtain⟨a1,n1,c1,rfl⟩:=okWide_slice Tryz.underlying54 hval;obtain⟨fuel,hf⟩:=h;obtain⟨a,n,c,h0,h1,h2,h3⟩:=Z3Y Tryz.underlying54 Tryz.cells49 (by decide) hf hs;simp[Value.cells]at h0;obtain⟨rfl,rfl,rfl⟩:=h0;rcases h3 with h3 | ⟨b,off,rfl,h3⟩
 ·exact⟨_,_,_,[],rfl,⟨by simp;omega,h1,h2,.inl h3⟩⟩
 ·obtain⟨l,h4,h5⟩:=Z39 (P:=fun i (o:OpH)=>W.rangeAt b (off+i * 26) o.cells/\o.ok W) (fun i hi=>by
   obtain⟨es,m,z,h6,h7,h8⟩:=h3 i hi;obtain⟨o,rfl,ho⟩:=Z9y h6 h8;exact⟨o,h7,ho⟩)
  exact⟨_,_,_,l,rfl,⟨h4,h1,h2,.inr ⟨b,off,rfl,h5⟩⟩⟩
end
theorem Z0b (os:Os)(started:os.Started)(H:Type)(enc:TypeId×Value->H):
  ReturnsInHanded {} Tryz.checked os 5 .any (Rows.talliesHousesSpec.pre6 enc zq Tryz.f5 Rows.talliesHousesRow.domain false) (Rows.talliesHousesSpec.post enc zq Tryz.f5 false true false false):=by
 refine returnsInHanded_of_change_sized (C:=Tryz.checked) Tryz.own started (by kernel_rfl) Tryz.func5
  (ChangeSpec.witness6 (enc:=enc) (C:=Tryz.checked) false ⟨#[],#[.agg #[.int .i64 0,.int .i64 0,.int .i64 0],.int .i64 0,.slice none 0 0],[]⟩ 8 (by kernel_rfl) (by kernel_rfl) (by kernel_rfl) (by kernel_rfl)) ?_
 intro W base args ds gs before hval0 hW hcnd hsz _;have hval : ∀(j:Nat) t v,Tryz.f5.params[j]? = some t->args[j]? = some v->Value.okWide zq W .any base t v:=hval0;have hW':=hW;obtain⟨p,q,hA0,hV,rfl,hfz,hnd⟩:=hW;have hA:DataW.TrodAll enc zq W 0 (fun _=>true) true Tryz.f5.params.toList args.toList ds p:=hA0;have hA1:=hA;rw[Tryz.params5]at hA hval;obtain⟨v0,v1,v2,d0,d1,d2,p0,p1,p2,rfl,rfl,rfl,h0,h1,h2⟩:=trodAll_three hA;obtain⟨rfl,rfl⟩:=trodVars_none hV;obtain⟨f,rfl⟩:=Z7f (hval 0 23 v0 rfl rfl) h0;have k2:Va 54 d2:=Z9h hsz (j:=2) (by kernel_rfl) rfl;obtain⟨x1,rfl,rfl,rfl,w1⟩:=open_int Tryz.underlying3 (hval 1 3 v1 rfl rfl) h1;obtain⟨a,n,c,l,rfl,r1⟩:=Z9x (hval 2 54 v2 rfl rfl) h2 k2;clear hA0 hval0;simp only[List.append_nil]at hW' hA1;refine(Z8u f x1 a n c l W r1).mono fun e W' ⟨he,hb⟩ => ?_;subst he;exact⟨_,rfl,Z6S Tryz.laidOut Tryz.underlying4 rfl (by kernel_rfl) (by kernel_rfl) hW' hA1 rfl hb⟩
theorem Z9V:(Rows.talliesHousesRow.inPlace==zq.inPlace 5)=true:=by kernel_rfl
theorem Z9U:(Rows.talliesHousesRow.unfollowed==zq.unfollowed 5)=true:=by kernel_rfl
theorem Z9T:(Rows.talliesHousesRow.recurses==zq.recurses 5)=true:=by kernel_rfl
theorem Z9S:(Rows.talliesHousesRow.named==zq.varsNamed 5)=true:=by kernel_rfl
theorem Z4T:joinedFacts zq 5 Tryz.f5 Rows.talliesHousesSpec Rows.talliesHousesRow=true:=by
 unfold joinedFacts;rw[Z9V,Z9U,Z9T,Z9S];kernel_rfl
theorem talliesHouses_holds:Rows.TalliesHousesSaid:=
 OpenClaim.holds_of_wide 5 Tryz.f5 rfl rfl rfl rfl rfl rfl rfl ⟨rfl,rfl,rfl,rfl,rfl⟩ rfl rfl rfl rfl rfl (by kernel_rfl) Tryz.func5 Z4T
  (of_decide_eq_true (by kernel_rfl)) (by unfold Func.isWrapper;first|(rw[if_pos (by decide+kernel)];kernel_rfl)|(rw[if_neg (by decide+kernel)];exact⟨rfl,rfl⟩))
  (fun os started H enc _=>Z0b os started H enc)
#print axioms talliesHouses_holds
end Go.Proofs.YtlnhppgfhkkidaaGreat
