/- Parts of the proof, in order. -/
import Derived.Deep.RegionLaw
import Derived.Test.YtlnhppgfhkkidaaGreatRows
import Derived.ProofKit
import Derived.OpenShut
import Derived.Test.YtlnhppgfhkkidaaGreatKPho9
set_option linter.unusedSimpArgs false
set_option linter.unusedVariables false
set_option maxHeartbeats 32000000
set_option maxRecDepth 100000
namespace Go.Proofs.YtlnhppgfhkkidaaGreat
open Go.Proofs.Tryz renaming prog → zq
open Go.RowKit
theorem Ze4 {A1 A2 A3 A4 A5:Type}{P T:A1->A2->A3->A4->A5->Prop}{G:Prop}(h1:(∀x1 x2 x3 x4 x5,P x1 x2 x3 x4 x5->T x1 x2 x3 x4 x5)->G)(h2 : ∀x1 x2 x3 x4 x5,P x1 x2 x3 x4 x5->T x1 x2 x3 x4 x5):G:=h1 h2
theorem Z4Y (p:Nat)(F:Nat->Prop)(S:ZC)(n:NoteV)(na:zA)(nc:Nat)(w:World)(hh:JN w p F S)(hi:Xr S)(hs:Xe w na n.strokes.length nc n.strokes)(hlen:S.l.length<=400):
  Calls zq 141 #[.pointer (some ⟨p,0,none⟩),.agg (Z5 n na nc)] w fun e w'=>e = .returned (.bool (decide (Zk n∈(Z07 S.f (YI S.l n) (YI S.l n) 99999).2.2)))/\Below w.heap.size w w':=by
 obtain⟨q,hq⟩:=zX (decide (Zk n∈(Z07 S.f (YI S.l n) (YI S.l n) 99999).2.2));rw[hq.out];obtain⟨sa,sc,zs,aa,ac,cs,G,v0,v1,v2,v3,h⟩:=hh;have J2:=zH (show(zq.info? 45).map (·.size)=some 2 from by kernel_rfl);obtain⟨nz,hnz⟩:=zX (zs.length);have NZ:Hid (nz<=400):=zH (by rw[<-hnz.out,h.len];exact hlen);have HB:=zH (show w.heap[p]? = some (.cells #[.int .i64 S.f.rings,.int .i64 S.f.sectors,.int .i64 S.f.wide,.int .i64 S.id,.slice sa nz sc,.slice aa S.ad.length ac,v0,v1,v2,v3] 138)from by rw[<-hnz.out];exact h.stk.blk);have RD:=zH (show Jb w sa nz sc zs from by rw[<-hnz.out];exact h.rd);have EQ:=zH h.eq;have FO:=zH (fun a c W hr=>Z9t S.f a (nz+1) c (YI S.l n) W hr);rw[show S.f.val = .agg #[.int .i64 S.f.rings,.int .i64 S.f.sectors,.int .i64 S.f.wide]from rfl]at FO;have B0:=zB w (.cells (Z5 n na nc) 47);have B:=zH B0;have N3:=zH (Z9 w (.cells (Z5 n na nc) 47));have NS:=zH hs;clear h hi hlen hs B0;go_enter Tryz.func141,Tryz.ntmps141;go_upto_region 1 with fail;obtain⟨p3,hp3⟩:=zX (w.heap.size);have GE3:Hid (w.heap.size<=p3):=zH (Nat.le_of_eq hp3.out);rw[hp3.out]at N3 ⊢;generalize w.alloc (.cells (Z5 n na nc) 47)=w0 at *;apply Ze4 (P:=fun(a7:zA) (c7:Nat) (v:Value) (p9:Nat) (W:World)=>Hid (Below w.heap.size w W/\W.heap[p3]? = some (.cells (Z5 n na nc) 47) /\ ∃va vb ca cn cc,v = .agg #[va,vb,.slice ca cn cc]/\W.heap[p9]? = some (.cells #[va,vb,.slice ca cn cc] 77)/\ZX W 2 ca cn cc (ZH (Z07 S.f (YI S.l n) (YI S.l n) 99999).2.2)))
 ·intro REST;refine zD (fun w'=>w'.heap[p]? = some (.cells #[.int .i64 S.f.rings,.int .i64 S.f.sectors,.int .i64 S.f.wide,.int .i64 S.id,.slice sa nz sc,.slice aa S.ad.length ac,v0,v1,v2,v3] 138)/\w'.heap[p3]? = some (.cells (Z5 n na nc) 47)) (show w0.drew.heap[p]? = _/\w0.drew.heap[p3]? = _ from And.intro (show w0.heap[p]? = _ from Z7 B.out HB.out) N3.out) fun hh=>?_;have hdr:=(zd w0);replace B:=zH (B.out.trans (hdr.mono B.out.size));replace N3:=zH (Z7 hdr N3.out);clear hdr;generalize w0.drew=U at *;refine zw 0 rfl p 0 ?_;refine zw 1 rfl p 0 ?_;refine zw 2 rfl p 0 ?_;refine zS 3 rfl (.agg #[.int .i64 S.f.rings,.int .i64 S.f.sectors,.int .i64 S.f.wide]) (fun W h=>by have h0:=Z6 h.1 0 (.int .i64 S.f.rings) rfl;have h1:=Z6 h.1 1 (.int .i64 S.f.sectors) rfl;have h2:=Z6 h.1 2 (.int .i64 S.f.wide) rfl;go_simp) ?_;refine zw 4 rfl p 0 ?_;refine zw 5 rfl p 0 ?_;refine zw 6 rfl p 4 ?_;refine zS 7 rfl (.slice sa nz sc) (fun W h=>by have hc:=Z6 h.1 4 (.slice sa nz sc) rfl;go_simp) ?_;refine zT 8 rfl (.agg (Z5 n na nc)) (zY p3 fun W h=>h.2) ?_;refine zM [9,14] rfl (fun K hK=>?_) ?_
  focus
   go_simp;go_at_call 158;refine(Z0x zs sa nz sc ⟨n,na,nc⟩ U (RD.out.below B.out) (Nat.le_trans NZ.out (by decide))).mono ?_;rintro e U' ⟨a7,c7,rfl,ho7,bb⟩;have RX:Hid (JM U' a7 (nz+1) c7 (YI S.l n)):=zH (by
    have h7:=Vw (ZX.of_own ho7) (fun y hy=>by
     rcases U4.1 hy with rfl | hy
     ·exact(NS.out.below B.out).below bb
     ·exact((QP RD.out hy).below B.out).below bb)
    rwa [Z1L,EQ.out]at h7)
   replace B:=zH (B.out.trans (bb.mono B.out.size));replace N3:=zH (Z7 bb N3.out);clear ho7 bb hh;dsimp only;generalize hVo:U=Uo at *;clear hVo;generalize U'=U at *;refine zK hK ⟨Z7 B.out HB.out,N3.out⟩ fun hh=>?_;clear hK K;refine zM [10,14] rfl (fun K hK=>?_) ?_
   ·go_simp;go_at_call 187;refine(FO.out a7 c7 U RX.out).mono ?_;rintro e U' ⟨⟨v,rfl,h1⟩,bb⟩;have RV:=zH h1;replace B:=zH (B.out.trans (bb.mono B.out.size));replace N3:=zH (Z7 bb N3.out);replace RX:=zH (RX.out.below bb);clear h1 bb hh;dsimp only;generalize hVo:U=Uo at *;clear hVo;generalize U'=U at *;refine zK hK ⟨Z7 B.out HB.out,N3.out⟩ fun hh=>?_;clear hK K;refine zW 11 rfl (.tuple #[v,.int .i64 (Z08 S.f (YI S.l n))]) ?_;refine zW 12 rfl v ?_;refine zW 13 rfl (.int .i64 (Z08 S.f (YI S.l n))) ?_;refine zR 14 rfl fun K hK=>?_;have bb:Below U.heap.size U (U.alloc (.cells #[.slice none 0 0,.slice none 0 0,.slice none 0 0] 77)):=zB _ _;have P9:=zH (Z9 U (.cells #[.slice none 0 0,.slice none 0 0,.slice none 0 0] 77));have GE9:Hid (w.heap.size<=U.heap.size/\p3 < U.heap.size):=zH ⟨B.out.size,Zq N3.out⟩;replace B:=zH (B.out.trans (bb.mono B.out.size));replace N3:=zH (Z7 bb N3.out);replace RV:=zH (RV.out.below bb);clear bb hh;go_simp;obtain⟨p9,hp9⟩:=zX (U.heap.size);rw[hp9.out]at P9 GE9 ⊢;generalize hVo:U.alloc (.cells #[.slice none 0 0,.slice none 0 0,.slice none 0 0] 77)=U' at *;clear hVo hp9;generalize hVo:U=Uo at *;clear hVo;generalize U'=U at *;refine zK hK ⟨Z7 B.out HB.out,N3.out⟩ fun hh=>?_;clear hK K;refine zR 15 rfl fun K hK=>?_;obtain⟨ha,hn,hc,ea,en,ec,ca,cn,cc,hs,es,hv,_,_,h3,_⟩:=id RV.out;refine Yl 77 _ _ rfl p9 #[.slice none 0 0,.slice none 0 0,.slice none 0 0] #[.slice ha hn hc,.slice ea en ec,.slice ca cn cc] 77 rfl hv P9.out (by kernel_rfl) rfl (by simp[Value.oneCell']) ?_;intro U' q1 q2 q3;have S9:Hid (Za (fun q=>q=p9) U U'):=zH (Za.of_grown q2 (fun q e=>by cases e;rfl));have RC:Hid (ZX U' 2 ca cn cc (ZH (Z07 S.f (YI S.l n) (YI S.l n) 99999).2.2)):=zH (Z3p h3 S9.out P9.out (fun u hu=>by
     rw[ZH,List.mem_flatMap]at hu;obtain⟨x,_,h⟩:=hu;simp only[List.mem_cons,List.not_mem_nil,or_false]at h;rcases h with rfl | rfl <;> exact⟨_,rfl⟩) (fun u hu x=>by
     simp only[List.mem_cons,List.not_mem_nil,or_false]at hu;rcases hu with rfl | rfl | rfl <;> simp))
    replace B:=zH (B.out.grown q2 B.out.size (fun q e=>by cases e;exact GE9.out.1));replace N3:=zH (Zc q2 N3.out (fun e=>by have h9:=GE9.out.2;have h8:=Option.some.inj e;omega));have HV:=zH hv;have Q1:=zH q1;clear q1 q2 q3 h3 hv P9 RV S9 hh;generalize hVo:U=Uo at *;clear hVo;generalize U'=U at *;refine zK hK ⟨Z7 B.out HB.out,N3.out⟩ fun hh=>?_;clear hK K;refine zW 16 rfl (.int .i64 (Z08 S.f (YI S.l n))) ?_;refine zE ?_;exact REST a7 c7 v p9 U (zH ⟨B.out,N3.out,_,_,ca,cn,cc,HV.out,Q1.out,RC.out⟩)
   refine zn fun K hK=>?_;have bb:Below U.heap.size U (U.alloc (.cells #[.slice none 0 0,.slice none 0 0,.slice none 0 0] 77)):=zB _ _;have P9:=zH (Z9 U (.cells #[.slice none 0 0,.slice none 0 0,.slice none 0 0] 77));have GE9:Hid (w.heap.size<=U.heap.size/\p3 < U.heap.size):=zH ⟨B.out.size,Zq N3.out⟩;replace B:=zH (B.out.trans (bb.mono B.out.size));replace N3:=zH (Z7 bb N3.out);replace RX:=zH (RX.out.below bb);clear bb hh;go_simp;obtain⟨p9,hp9⟩:=zX (U.heap.size);rw[hp9.out]at P9 GE9 ⊢;generalize hVo:U.alloc (.cells #[.slice none 0 0,.slice none 0 0,.slice none 0 0] 77)=U' at *;clear hVo hp9
  rotate_left
  focus
   refine zn fun K hK=>?_;have bb:Below U.heap.size U (U.alloc (.cells #[.slice none 0 0,.slice none 0 0,.slice none 0 0] 77)):=zB _ _;have P9:=zH (Z9 U (.cells #[.slice none 0 0,.slice none 0 0,.slice none 0 0] 77));have GE9:Hid (w.heap.size<=U.heap.size/\p3 < U.heap.size):=zH ⟨B.out.size,Zq N3.out⟩;replace B:=zH (B.out.trans (bb.mono B.out.size));replace N3:=zH (Z7 bb N3.out);clear bb hh;go_simp;obtain⟨p9,hp9⟩:=zX (U.heap.size);rw[hp9.out]at P9 GE9 ⊢;generalize hVo:U.alloc (.cells #[.slice none 0 0,.slice none 0 0,.slice none 0 0] 77)=U' at *;clear hVo hp9;generalize hVo:U=Uo at *;clear hVo;generalize U'=U at *;refine zK hK ⟨Z7 B.out HB.out,N3.out⟩ fun hh=>?_;clear hK K;refine zR 9 rfl fun K hK=>?_;go_simp;go_at_call 158;refine(Z0x zs sa nz sc ⟨n,na,nc⟩ U (RD.out.below B.out) (Nat.le_trans NZ.out (by decide))).mono ?_;rintro e U' ⟨a7,c7,rfl,ho7,bb⟩;have RX:Hid (JM U' a7 (nz+1) c7 (YI S.l n)):=zH (by
    have h7:=Vw (ZX.of_own ho7) (fun y hy=>by
     rcases U4.1 hy with rfl | hy
     ·exact(NS.out.below B.out).below bb
     ·exact((QP RD.out hy).below B.out).below bb)
    rwa [Z1L,EQ.out]at h7)
   replace B:=zH (B.out.trans (bb.mono B.out.size));replace N3:=zH (Z7 bb N3.out);replace P9:=zH (Z7 bb P9.out);clear ho7 bb hh;dsimp only
  all_goals
   generalize hVo:U=Uo at *;clear hVo;generalize U'=U at *;refine zK hK ⟨Z7 B.out HB.out,N3.out⟩ fun hh=>?_;clear hK K;refine zR 10 rfl fun K hK=>?_;go_simp;go_at_call 187;refine(FO.out a7 c7 U RX.out).mono ?_;rintro e U' ⟨⟨v,rfl,h1⟩,bb⟩;have RV:=zH h1;replace B:=zH (B.out.trans (bb.mono B.out.size));replace N3:=zH (Z7 bb N3.out);replace P9:=zH (Z7 bb P9.out);replace RX:=zH (RX.out.below bb);clear h1 bb hh;dsimp only;generalize hVo:U=Uo at *;clear hVo;generalize U'=U at *;refine zK hK ⟨Z7 B.out HB.out,N3.out⟩ fun hh=>?_;clear hK K;refine zW 11 rfl (.tuple #[v,.int .i64 (Z08 S.f (YI S.l n))]) ?_;refine zW 12 rfl v ?_;refine zW 13 rfl (.int .i64 (Z08 S.f (YI S.l n))) ?_;refine zR 15 rfl fun K hK=>?_;obtain⟨ha,hn,hc,ea,en,ec,ca,cn,cc,hs,es,hv,_,_,h3,_⟩:=id RV.out;refine Yl 77 _ _ rfl p9 #[.slice none 0 0,.slice none 0 0,.slice none 0 0] #[.slice ha hn hc,.slice ea en ec,.slice ca cn cc] 77 rfl hv P9.out (by kernel_rfl) rfl (by simp[Value.oneCell']) ?_;intro U' q1 q2 q3;have S9:Hid (Za (fun q=>q=p9) U U'):=zH (Za.of_grown q2 (fun q e=>by cases e;rfl));have RC:Hid (ZX U' 2 ca cn cc (ZH (Z07 S.f (YI S.l n) (YI S.l n) 99999).2.2)):=zH (Z3p h3 S9.out P9.out (fun u hu=>by
    rw[ZH,List.mem_flatMap]at hu;obtain⟨x,_,h⟩:=hu;simp only[List.mem_cons,List.not_mem_nil,or_false]at h;rcases h with rfl | rfl <;> exact⟨_,rfl⟩) (fun u hu x=>by
    simp only[List.mem_cons,List.not_mem_nil,or_false]at hu;rcases hu with rfl | rfl | rfl <;> simp))
   replace B:=zH (B.out.grown q2 B.out.size (fun q e=>by cases e;exact GE9.out.1));replace N3:=zH (Zc q2 N3.out (fun e=>by have h9:=GE9.out.2;have h8:=Option.some.inj e;omega));have HV:=zH hv;have Q1:=zH q1;clear q1 q2 q3 h3 hv P9 RV S9 hh;generalize hVo:U=Uo at *;clear hVo;generalize U'=U at *;refine zK hK ⟨Z7 B.out HB.out,N3.out⟩ fun hh=>?_;clear hK K;refine zW 16 rfl (.int .i64 (Z08 S.f (YI S.l n))) ?_;refine zE ?_;exact REST a7 c7 v p9 U (zH ⟨B.out,N3.out,_,_,ca,cn,cc,HV.out,Q1.out,RC.out⟩)
 intro a7 c7 v p9 W9 QQ;obtain⟨hb,hn3,va,vb,ca,cn,cc,hv,hp9,hrc⟩:=QQ.out;clear B N3 QQ hv;have B:=zH hb;have N3:=zH hn3;have P9:=zH hp9;have RC:=zH hrc;clear hb hn3 hp9 hrc;obtain⟨cf,hcf⟩:=zX ((Z07 S.f (YI S.l n) (YI S.l n) 99999).2.2);rw[hcf.out]at RC hq;have CN:Hid (cf.length=cn):=zH (by have:=RC.out.len;rw[XA]at this;omega);have CM:Hid (cn<=9223372036854775807):=zH RC.out.maxn;go_wp2_with fail;go_loopw [7] (fun iv wr=>∃(k:Nat),iv = .int .i64 (k:Int)/\k<=cn/\Hid (Below W9.heap.size W9 wr)/\Hid (∀j a,j < k->cf[j]? = some a->a≠Zk n)) (fun iv _=>cn - (intOf iv).toNat)
 case atStart=>exact⟨0,rfl,Nat.zero_le _,zH (Below.refl _ _),zH (fun i x h=>by omega)⟩
 case round=>
  obtain⟨k,rfl,hk,BB,NF⟩:=hrel;have c9:=Z6 (Z7 BB.out P9.out) 2 (.slice ca cn cc) rfl;by_cases hlt:k < cn
  ·have t0:decide ((k:Int) < (cn:Int))=true:=by simp;omega
   obtain⟨a,Ha⟩ : ∃a,cf[k]? = some a:=⟨_,List.getElem?_eq_getElem (by rw[CN.out];exact hlt)⟩;have HA:=zH Ha;obtain⟨b,off,rfl,hk1,hk2⟩:=Z1h RC.out Ha;obtain⟨o,ho⟩:=zX (off+k * 2);rw[ho.out]at hk1 hk2;have LC:=zH (show ∀w0,Below wr.heap.size wr w0->w0.cell? ⟨b,o,none⟩=some (.int .i64 a.1)/\w0.cell? ⟨b,o+1,none⟩=some (.int .i64 a.2)from fun w0 hb=>⟨((BB.out.trans (hb.mono BB.out.size)).cell (World.block_lt_of_cell? W9 _ hk1)).trans hk1,((BB.out.trans (hb.mono BB.out.size)).cell (World.block_lt_of_cell? W9 _ hk2)).trans hk2⟩);have HIX:=zH (fun W=>ZN (W:=W) (c:=cc) (b:=b) Tryz.underlying75 J2.out hlt ho.out);have L3:=zH (show ∀w0,Below wr.heap.size wr w0->w0.heap[p3]? = some (.cells (Z5 n na nc) 47)from fun w0 hb=>Z7 (BB.out.trans (hb.mono BB.out.size)) N3.out);have L9:=zH (show ∀w0,Below wr.heap.size wr w0->w0.heap[p9]? = some (.cells #[va,vb,.slice (some ⟨b,off,none⟩) cn cc] 77)from fun w0 hb=>Z7 (BB.out.trans (hb.mono BB.out.size)) P9.out);have HK64:Hid ((k:Int)+1<=9223372036854775807):=zH (by have:=CM.out;omega);have hC0:Below wr.heap.size wr wr.drew:=(Below.refl _ _).drew;obtain⟨t,ht⟩:=zX (decide (a.1=n.house/\a.2=n.num));clear Ha hk1 hk2;go_upto_region 5 with fail;clear t0 c9;try simp only[Act.put,VZ,VY,VX]
   refine zC (fun w':World=>Below wr.heap.size wr w') hC0 ?_;refine zv p9 2 ?_;refine zQ (.slice (some ⟨b,off,none⟩) cn cc) (fun w0 hC=>?_) ?_
   ·have c2:=Z6 (L9.out w0 hC) 2 (.slice (some ⟨b,off,none⟩) cn cc) rfl;clear hC;go_simp
   go_big_quiet_step (fail);refine zQ (.pointer (some ⟨b,o,none⟩)) (fun w0 hC=>?_) ?_
   ·have hix:=HIX.out w0;clear hC;go_simp
   refine zQ (.agg #[.int .i64 a.1,.int .i64 a.2]) (fun w0 hC=>?_) ?_
   ·obtain⟨h0,h1⟩:=LC.out w0 hC;clear hC;go_simp
   refine zQ (.agg (Z5 n na nc)) (fun w0 hC=>ZG (.tmp 3) rfl p3 rfl n na nc (L3.out w0 hC)) ?_;refine zQ (.agg #[.int .i64 n.house,.int .i64 n.num]) (fun w0 hC=>?_) ?_
   ·go_simp;refine(JJ n na nc w0).mono ?_;rintro e w1 ⟨rfl,b1⟩;exact⟨rfl,hC.trans (b1.mono hC.size)⟩
   refine zQ (.bool t) (fun w0 hC=>?_) ?_
   ·clear hC;rw[<-ht.out];go_simp;try (by_cases h1:a.1=n.house <;> by_cases h2:a.2=n.num <;> simp[h1,h2])
   refine wpQuiet_nil ?_;intro w' hC;have BB2:=zH (BB.out.trans (hC.mono BB.out.size));clear hC LC L3 L9;cases t
   ·have NE:Hid (a≠Zk n):=zH (fun e=>(of_decide_eq_false ht.out) ⟨by rw[e];rfl,by rw[e];rfl⟩);go_upto_region 4 with fail;have hk64:=HK64.out;go_wp2;go_roundw
    case rel=>exact⟨k+1,by go_num,by omega,BB2,zH (fun j z hj hz=>by
     rcases Nat.lt_or_ge j k with h' | h'
     ·exact NF.out j z h' hz
     ·have e:j=k:=by omega
      subst e;rw[HA.out]at hz;cases hz;exact NE.out)⟩
    case measure=>simp[intOf];omega
   ·have QT:Hid (q=true):=zH (by
     rw[<-hq.out];have h1:=of_decide_eq_true ht.out;exact decide_eq_true (by rw[show Zk n=a from Prod.ext h1.1.symm h1.2.symm];exact List.mem_of_getElem? HA.out))
    obtain rfl:=QT.out;go_wp2;go_ret;exact⟨rfl,B.out.trans (BB2.out.mono B.out.size)⟩
  ·have t0:decide ((k:Int) < (cn:Int))=false:=by simp;omega
   have QF:Hid (q=false):=zH (by
    rw[<-hq.out];refine decide_eq_false (fun hm=>?_);obtain⟨j,hj⟩:=List.getElem?_of_mem hm;exact NF.out j _ (by have:=(List.getElem?_eq_some_iff.1 hj).1;rw[CN.out]at this;omega) hj rfl)
   obtain rfl:=QF.out;go_wp2;go_ret;exact⟨rfl,B.out.trans (BB.out.mono B.out.size)⟩
theorem Z7D: ∀(l:List NoteV) (a:Int),l.foldl (fun c x=>Z3m c (x.clock+1)) (a+1)=l.foldl (fun c x=>max c x.clock) a+1
 | [],a=>rfl
 | x :: l,a=>by
  rw[List.foldl_cons,List.foldl_cons,<-Z7D l (max a x.clock)]
  congr 1
  rw[Z90]
  omega
theorem ZcQ (l:List NoteV):Z3n l=Z50 l+1:=Z7D l 0
def Z1q (w:World)(p:Nat)(F:Nat->Prop)(S:ZC)(n:NoteV)(e:Ending)(W:World):Prop:=
 (∃ta tc,e = .returned (.tuple #[.agg (Z5 (UC S n).2.1 ta tc),.int .i64 (UC S n).2.2])/\Xe W ta (UC S n).2.1.strokes.length tc (UC S n).2.1.strokes)/\Z2J w p F (UC S n).1 W
theorem Z1q.no {w W:World}{p:Nat}{F:Nat->Prop}{S:ZC}{n:NoteV}{e:Ending}{c:Int}(hd:UC S n=(S,Zd,c))(he:e = .returned (.tuple #[.agg (Z5 Zd none 0),.int .i64 c]))(hh:JN w p F S)(hb:Below w.heap.size w W):Z1q w p F S n e W:=
 ⟨⟨none,0,by rw[hd];exact he,by rw[hd];exact ZX.nil _ _⟩,by rw[hd];exact Z2J.keep hh hb⟩
section
attribute [local go_sem] ZS Xi Jg Jf
theorem ZaH (p:Nat)(F:Nat->Prop)(S:ZC)(n:NoteV)(sn:zA)(cn:Nat)(w:World)(hh:JN w p F S)(hi:Xr S)(hs:Xe w sn n.strokes.length cn n.strokes)(hok:n.Ok)(hst:n.strokes.length<=1000000000)(hlen:S.l.length < 400):
  Calls zq 82 #[.pointer (some ⟨p,0,none⟩),.agg (Z5 n sn cn)] w fun e w'=>Z1q w p F S n e w':=by
 have HW:=zH hh;have HLT:=zH hh.lt;obtain⟨sa,sc,zs,aa,ac,cs,G,v0,v1,v2,v3,h⟩:=hh;have HI:=zH hi;have HOK:=zH hok;have HLEN:=zH hlen;obtain⟨nz,hnz⟩:=zX (zs.length);have NZ:Hid (nz < 400):=zH (by rw[<-hnz.out,h.len];exact hlen);have HB:=zH (show w.heap[p]? = some (.cells #[.int .i64 S.f.rings,.int .i64 S.f.sectors,.int .i64 S.f.wide,.int .i64 S.id,.slice sa nz sc,.slice aa S.ad.length ac,v0,v1,v2,v3] 138)from by rw[<-hnz.out];exact h.stk.blk);have RD:=zH (show Jb w sa nz sc zs from by rw[<-hnz.out];exact h.rd);have KN:Hid (howMany (zs.map LN.n) S.id=S.c S.id):=zH (by rw[h.eq];exact Z0k hi.nms hi.nodup S.id);have CB:Hid (S.c S.id<=400):=zH (Zbu hi _);obtain⟨ck,hck⟩:=zX (Z50 (zs.map LN.n));have CE:Hid (Z3n S.l=ck+1):=zH (by rw[<-hck.out,h.eq];exact ZcQ _);have CR:Hid (0<=ck/\ck<=1099511627776):=zH (by
  have h0:=(Z3A S.l).1;have h1:=CE.out;rcases(Z3A S.l).2.2 with h2 | ⟨x,hx,h2⟩
  ·omega
  ·have:=QH (hi.frm x hx);omega)
 have oneZ:=zH (Zh Zd none 0);have B0:Hid (Below w.heap.size w ((w.alloc (.cells (Z5 n sn cn) 47)).alloc (.cells (Z5 Zd none 0) 47))):=zH ((zB _ _).alloc (by simp) _);have N0:=zH (Z8 _ (.cells (Z5 Zd none 0) 47) _ _ (Z9 w (.cells (Z5 n sn cn) 47)));have Z0:=zH (Zm (w.alloc (.cells (Z5 n sn cn) 47)) (.cells (Z5 Zd none 0) 47) (w.heap.size+1) (by simp));have RS:=zH (hs.below B0.out);clear h hi hs hok hlen;go_enter Tryz.func82,Tryz.ntmps82;go_upto_region 1 with fail;rw[<-ZZ];obtain⟨p3,hp3⟩:=zX (w.heap.size);obtain⟨p4,hp4⟩:=zX (w.heap.size+1);have GE0:Hid (w.heap.size<=p3/\p3 < p4):=zH (by have:=hp3.out;have:=hp4.out;omega);rw[hp3.out]at N0;rw[hp4.out]at Z0;rw[hp4.out,hp3.out];generalize (w.alloc (.cells (Z5 n sn cn) 47)).alloc (.cells (Z5 Zd none 0) 47)=w0 at *;go_wp2_with (first
  |(refine zL p3 N0.out ?_))
 refine(Qq n sn cn w0 RS.out hst).mono ?_;rintro e w2 ⟨ta,tc,rfl,ho,b2⟩;have N2:=zH (Z7 b2 N0.out);have Z2:=zH (Z7 b2 Z0.out);have B2:=zH (B0.out.trans (b2.mono B0.out.size));have O2:=zH (Zp ho B0.out.size);clear ho b2 N0 Z0 RS;have oneN:=Zh n ta tc;go_upto_region 2 with (refine zN p3 (Z5 n ta tc) N2.out ?_);clear oneN;have N3:=zH (ZP w2 p3 _ (Z5 n ta tc) _ _ N2.out);have S3:=zH (Jq w2 p3 (Z5 n ta tc));generalize w2.setRow p3 (Z5 n ta tc)=w3 at *;have DA:Hid (VG w w3 p3 p4 n ta tc):=zH ⟨S3.out.below B2.out B2.out.size (fun q hq=>by rw[show q=p3 from hq];exact GE0.out.1),N3.out,(S3.out.block p4 (Zq Z2.out) (fun e=>by have:=GE0.out;omega)).trans Z2.out,Zi O2.out S3.out (fun b hb e=>Zg O2.out N2.out (by intro cur;simp) (by rw[hb,show b=p3 from e])),GE0.out⟩;clear N2 Z2 O2 N3 S3 B2 GE0 hst B0;have c3:=Z6 (Z7 DA.out.bel HB.out) 3 (.int .i64 S.id) rfl;have cn0:=Z6 DA.out.n 0 _ rfl;have cf0:=Ze DA.out.n 0;go_upto_region 3 with fail;clear c3 cn0 cf0;have D2:Hid (VG w (w3.setCell ⟨p3,0,none⟩ (.int .i64 S.id)) p3 p4 { n with house:=S.id } ta tc):=zH (DA.out.set (Za.of_grown (Zj _ p3 0 _) (fun q e=>by cases e;rfl)) (by have h1:=ZW DA.out.n 0 (.int .i64 S.id);exact h1) rfl);clear DA;generalize w3.setCell ⟨p3,0,none⟩ (.int .i64 S.id)=w4 at *;refine zp (show w4.heap[p]? = _ from Z7 D2.out.bel HB.out) fun hh=>?_;have DB:=zH (D2.out.below ((zd w4)));generalize w4.drew=V0 at *;clear D2;refine zw 0 rfl p 0 ?_;refine zw 1 rfl p 0 ?_;refine zw 2 rfl p 4 ?_;refine zS 3 rfl (.slice sa nz sc) (fun W h=>by have hc:=Z6 h 4 (.slice sa nz sc) rfl;go_simp) ?_;refine zw 4 rfl p 0 ?_;refine zw 5 rfl p 0 ?_;refine zw 6 rfl p 3 ?_;refine zS 7 rfl (.int .i64 S.id) (fun W h=>by have hc:=Z6 h 3 (.int .i64 S.id) rfl;go_simp) ?_;refine zR 8 rfl fun K hK=>?_;go_simp;go_at_call 84;refine(Z1i zs sa nz sc S.id V0 (RD.out.below DB.out.bel) (by have:=NZ.out;omega)).mono ?_;rintro e V1 ⟨rfl,hV1⟩;subst hV1
 rw[KN.out];dsimp only;refine zK hK (Z7 DB.out.bel HB.out) fun hh=>?_;clear hK K;refine zS 9 rfl (.int .i64 ((S.c S.id:Int)+1)) (fun W h=>by have hcb:IntKind.i64.wrap ((S.c S.id:Int)+1)=(S.c S.id:Int)+1:=(by have h9:=CB.out;rw[IntKind.wrap_i64];omega);go_simp) ?_;refine zw 10 rfl p3 1 ?_;refine zR 11 rfl fun K hK=>?_;have hc:=Z6 DB.out.n 1 _ rfl;have hfz:=Ze DB.out.n 1;have DC:Hid (VG w (V1.setCell ⟨p3,1,none⟩ (.int .i64 ((S.c S.id:Int)+1))) p3 p4 { n with house:=S.id,num:=(S.c S.id:Int)+1 } ta tc):=zH (DB.out.set (Za.of_grown (Zj _ p3 1 _) (fun q e=>by cases e;rfl)) (by have h1:=ZW DB.out.n 1 (.int .i64 ((S.c S.id:Int)+1));exact h1) rfl);go_simp;clear hc hfz hh;refine zK hK (Z7 DC.out.bel HB.out) fun hh=>?_;clear hK K;refine zE ?_;clear hh DB;change Exit.then _ _ _ _ (V1.setCell ⟨p3,1,none⟩ (.int .i64 ((S.c S.id:Int)+1)));generalize V1.setCell ⟨p3,1,none⟩ (.int .i64 ((S.c S.id:Int)+1))=w5 at *;have c4:=Z6 (Z7 DC.out.bel HB.out) 4 (.slice sa nz sc) rfl;go_wp2_with fail;refine(Z8H zs sa nz sc w5 (RD.out.below DC.out.bel) (by have:=NZ.out;omega)).mono ?_;rintro e w6 ⟨rfl,hw6⟩;subst hw6;rw[hck.out];have cn2:=Z6 DC.out.n 2 _ rfl;have cf2:=Ze DC.out.n 2;have hcl:wrap64 (ck+1)=ck+1:=by have:=CR.out;unfold wrap64;omega
 go_upto_region 5 with fail;clear cn2 cf2 c4;have DA:Hid (VG w (w6.setCell ⟨p3,2,none⟩ (.int .i64 (ck+1))) p3 p4 (U7 S n) ta tc):=zH (DC.out.set (Za.of_grown (Zj _ p3 2 _) (fun q e=>by cases e;rfl)) (by have h1:=ZW DC.out.n 2 (.int .i64 (ck+1));unfold U7;rw[CE.out];exact h1) rfl);clear DC hcl;generalize w6.setCell ⟨p3,2,none⟩ (.int .i64 (ck+1))=wr at *;have c4:=Z6 (Z7 DA.out.bel HB.out) 4 (.slice sa nz sc) rfl;have cl:=Z6 DA.out.n 2 (.int .i64 (ck+1)) (by show(Z5 (U7 S n) ta tc)[2]? = some (Value.int .i64 (ck+1));rw[<-CE.out];rfl);have tl:decide ((400:Int)<=(nz:Int))=false:=by have:=NZ.out;simp;omega
 by_cases hck2:1099511627776 < ck+1
 ·have HD:=zH (show UC S n=(S,Zd,2)by unfold UC;rw[if_pos (.inr (by rw[CE.out];exact hck2))]);have t1:decide (1099511627776 < ck+1)=true:=by simp[hck2]
  clear hck2;go_wp2_with (first
   |(refine zN p4 (Z5 Zd none 0) DA.out.z ?_))
  refine zr (ZP _ p4 _ _ _ _ DA.out.z) ?_;exact Z1q.no HD.out rfl HW.out (DA.out.done (Jq _ p4 _)).1
 have t1:decide (1099511627776 < ck+1)=false:=by simp;omega
 have CK3:Hid (¬1099511627776 < Z3n S.l):=zH (by rw[CE.out];exact hck2);clear hck2;go_upto_region 7 with fail;clear t1 tl c4 cl;have CN:=zH (fun W (hb:Below wr.heap.size wr W)=>VS S.f (U7 S n) ta tc W (ZX.of_own (Zb DA.out.own hb)));rw[show S.f.val = .agg #[.int .i64 S.f.rings,.int .i64 S.f.sectors,.int .i64 S.f.wide]from rfl]at CN;obtain⟨z,hz⟩:=zX (ZD S.f (U7 S n));rw[hz.out]at CN;have hC0:Below wr.heap.size wr wr.drew:=(Below.refl _ _).drew;have LH:=zH (show ∀w0,Below wr.heap.size wr w0->w0.heap[p]? = some (.cells #[.int .i64 S.f.rings,.int .i64 S.f.sectors,.int .i64 S.f.wide,.int .i64 S.id,.slice sa nz sc,.slice aa S.ad.length ac,v0,v1,v2,v3] 138)from fun w0 h=>Z7 (DA.out.below h).bel HB.out);have LN3:=zH (show ∀w0,Below wr.heap.size wr w0->w0.heap[p3]? = some (.cells (Z5 (U7 S n) ta tc) 47)from fun w0 h=>(DA.out.below h).n);try simp only[Act.put,VZ,VY,VX]
 refine zC (fun w':World=>Below wr.heap.size wr w') hC0 ?_;go_big_quiet_step (fail);refine zv p 0 ?_;refine zv p 0 ?_;refine zQ (.agg #[.int .i64 S.f.rings,.int .i64 S.f.sectors,.int .i64 S.f.wide]) (fun w0 hC=>?_) ?_
 ·have c0:=Z6 (LH.out w0 hC) 0 (.int .i64 S.f.rings) rfl;have c1:=Z6 (LH.out w0 hC) 1 (.int .i64 S.f.sectors) rfl;have c2:=Z6 (LH.out w0 hC) 2 (.int .i64 S.f.wide) rfl;clear hC;go_simp
 refine zQ (.agg (Z5 (U7 S n) ta tc)) (fun w0 hC=>ZG (.tmp 3) rfl p3 rfl (U7 S n) ta tc (LN3.out w0 hC)) ?_;refine zQ (.int .i64 z) (fun w0 hC=>?_) ?_
 ·go_simp;refine(CN.out w0 hC).mono ?_;rintro e w1 ⟨rfl,b1⟩;exact⟨rfl,hC.trans (b1.mono hC.size)⟩
 refine zV (.bool (z != 0)) ?_;refine wpQuiet_nil ?_;intro w' hC;replace DA:=zH (DA.out.below hC);clear hC LH LN3 CN hC0;generalize hwr:wr=wold at *;clear hwr;generalize w'=wr at *;by_cases hz0:z=0
 case neg=>
  have HD:=zH (show UC S n=(S,Zd,80)by unfold UC;rw[if_neg (by have:=HLEN.out;have:=CK3.out;omega),if_pos (by rw[hz.out];exact hz0)]);have t1:(z != 0)=true:=by simp[hz0]
  clear hz0;go_wp2_with (first
   |(refine zN p4 (Z5 Zd none 0) DA.out.z ?_))
  refine zr (ZP _ p4 _ _ _ _ DA.out.z) ?_;exact Z1q.no HD.out rfl HW.out (DA.out.done (Jq _ p4 _)).1
 have CZ:Hid (ZD S.f (U7 S n)=0):=zH (hz.out.trans hz0);subst hz0;clear hz;have FM:Hid (Zf S.f (U7 S n)=true):=zH (by
  have h:=CZ.out;unfold ZD at h;rw[if_pos HI.out.v]at h;by_cases h2:Zf S.f (U7 S n)=true
  ·exact h2
  ·rw[if_neg h2]at h;cases h)
 have KIND:Hid ((U7 S n).kind=n.kind):=zH rfl;obtain⟨m,hm⟩:=zX (U7 S n);obtain⟨cf,hcf⟩:=zX ((Z07 S.f (YI S.l m) (YI S.l m) 99999).2.2);have DP:Hid (UC S n=if (n.kind≠5/\n.kind≠6)/\Zk m∈cf then (S,Zd,91)else (S.add m,m,0)):=zH (by
  unfold UC;rw[if_neg (by have:=HLEN.out;have:=CK3.out;omega),if_neg (by rw[CZ.out];decide),hm.out,hcf.out])
 rw[hm.out]at DA FM KIND;clear CZ CK3 hm;have ck4:=Z6 DA.out.n 4 (.int .i64 n.kind) (by rw[<-KIND.out];rfl);by_cases hk5:n.kind=5
 focus
  have q1:(n.kind != 5)=false:=by simp[hk5]
  have DP2:=zH (show UC S n=(S.add m,m,0)by rw[DP.out,if_neg (fun h=>h.1.1 hk5)]);clear hk5 DP;go_upto_region 11 with fail;clear q1 ck4
 rotate_left
 focus
  by_cases hk6:n.kind=6
  ·have q1:(n.kind != 5)=true:=by simp[hk5]
   have q2:(n.kind != 6)=false:=by simp[hk6]
   have DP2:=zH (show UC S n=(S.add m,m,0)by rw[DP.out,if_neg (fun h=>h.1.2 hk6)]);clear hk5 hk6 DP;go_upto_region 11 with fail;clear q1 q2 ck4;go_wp2_with (first
    |(refine zL p3 DA.out.n ?_))
   refine(Z0C p F S m ta tc _ (HW.out.below DA.out.bel) HI.out (ZX.of_own DA.out.own) FM.out (Nat.le_of_lt HLEN.out)).mono ?_;rintro e Y2 ⟨rfl,F2,h1,h2,h3⟩;have GB:=zH DA.out.bel;have GE:=zH DA.out.ge;have NH:Hid (∀q,w.heap.size<=q -> ¬F q):=zH (fun q hq h=>by have:=HLT.out q h;omega);have N2:=zH ((h2.block p3 (Zq DA.out.n) (NH.out p3 GE.out.1)).trans DA.out.n);have Z2:=zH ((h2.block p4 (Zq DA.out.z) (NH.out p4 (by have:=GE.out;omega))).trans DA.out.z);have O2:=zH (Zi DA.out.own h2 (fun b hb h=>NH.out b (DA.out.own.lt b hb).1 h));have ZL:=zH (Zq DA.out.z);have H2:=zH h1;have S2:=zH h2;have F2S:=zH h3;clear h1 h2 h3;go_wp2_with (first
    |(refine zL p3 N2.out ?_))
   refine(Qq m ta tc _ (ZX.of_own O2.out) (Nat.le_trans (Yg HI.out.v FM.out) (by decide))).mono ?_;rintro e Y3 ⟨ra,rc,rfl,ho3,b3⟩;have Z3:=zH (Z7 b3 Z2.out);have H3:=zH (H2.out.below b3);have O3:=zH ho3;have B3:=zH b3;clear ho3 b3;have oneM:=Zh m ra rc;go_wp2_with (first
    |(refine zN p4 (Z5 m ra rc) Z3.out ?_))
   refine zr (ZP _ p4 _ _ _ _ Z3.out) ?_;have S3:=Jq Y3 p4 (Z5 m ra rc);have P4G:w.heap.size<=p4:=by have:=GE.out;omega
   refine⟨⟨ra,rc,by rw[DP2.out] <;> rfl,by rw[DP2.out];exact ZX.of_own (Zi O3.out S3 (fun b hb e=>Zg O3.out Z3.out (by intro cur;simp) (by rw[hb,show b=p4 from e])))⟩,F2,by
    rw[DP2.out];exact H3.out.same S3 (fun q hq h=>by
     rw[show q=p4 from hq]at h;rcases F2S.out p4 h with h5 | h5
     ·exact NH.out p4 P4G h5
     ·have:=ZL.out;omega),Yq (((Za.of_below GB.out).trans S2.out).trans (Za.of_below B3.out)) S3 (fun q hq=>.inr (by rw[show q=p4 from hq];exact P4G)),fun q hq=>(F2S.out q hq).imp id (fun h=>Nat.le_trans GB.out.size h)⟩
  have q1:(n.kind != 5)=true:=by simp[hk5]
  have q2:(n.kind != 6)=true:=by simp[hk6]
  go_wp2_with (first
   |(refine zG p3 DA.out.n ?_)
   | fail)
  refine(Z4Y p F S m ta tc _ (HW.out.below DA.out.bel) HI.out (ZX.of_own DA.out.own) (Nat.le_of_lt HLEN.out)).mono ?_;rintro e X1 ⟨rfl,bb⟩;rw[hcf.out];replace DA:=zH (DA.out.below bb);clear q1 q2 ck4 bb;by_cases han:Zk m∈cf
  ·have HD:=zH (show UC S n=(S,Zd,91)by rw[DP.out,if_pos ⟨⟨hk5,hk6⟩,han⟩]);rw[decide_eq_true han];clear han hk5 hk6 DP;go_wp2_with (first
    |(refine zN p4 (Z5 Zd none 0) DA.out.z ?_))
   refine zr (ZP _ p4 _ _ _ _ DA.out.z) ?_;exact Z1q.no HD.out rfl HW.out (DA.out.done (Jq _ p4 _)).1
  have DP2:=zH (show UC S n=(S.add m,m,0)by rw[DP.out,if_neg (fun h=>han h.2)]);rw[decide_eq_false han];clear han hk5 hk6 DP;go_upto_region 11 with fail
 all_goals
  go_wp2_with (first
   |(refine zL p3 DA.out.n ?_))
  refine(Z0C p F S m ta tc _ (HW.out.below DA.out.bel) HI.out (ZX.of_own DA.out.own) FM.out (Nat.le_of_lt HLEN.out)).mono ?_;rintro e Y2 ⟨rfl,F2,h1,h2,h3⟩;have GB:=zH DA.out.bel;have GE:=zH DA.out.ge;have NH:Hid (∀q,w.heap.size<=q -> ¬F q):=zH (fun q hq h=>by have:=HLT.out q h;omega);have N2:=zH ((h2.block p3 (Zq DA.out.n) (NH.out p3 GE.out.1)).trans DA.out.n);have Z2:=zH ((h2.block p4 (Zq DA.out.z) (NH.out p4 (by have:=GE.out;omega))).trans DA.out.z);have O2:=zH (Zi DA.out.own h2 (fun b hb h=>NH.out b (DA.out.own.lt b hb).1 h));have ZL:=zH (Zq DA.out.z);have H2:=zH h1;have S2:=zH h2;have F2S:=zH h3;clear h1 h2 h3;go_wp2_with (first
   |(refine zL p3 N2.out ?_))
  refine(Qq m ta tc _ (ZX.of_own O2.out) (Nat.le_trans (Yg HI.out.v FM.out) (by decide))).mono ?_;rintro e Y3 ⟨ra,rc,rfl,ho3,b3⟩;have Z3:=zH (Z7 b3 Z2.out);have H3:=zH (H2.out.below b3);have O3:=zH ho3;have B3:=zH b3;clear ho3 b3;have oneM:=Zh m ra rc;go_wp2_with (first
   |(refine zN p4 (Z5 m ra rc) Z3.out ?_))
  refine zr (ZP _ p4 _ _ _ _ Z3.out) ?_;have S3:=Jq Y3 p4 (Z5 m ra rc);have P4G:w.heap.size<=p4:=by have:=GE.out;omega
  refine⟨⟨ra,rc,by rw[DP2.out] <;> rfl,by rw[DP2.out];exact ZX.of_own (Zi O3.out S3 (fun b hb e=>Zg O3.out Z3.out (by intro cur;simp) (by rw[hb,show b=p4 from e])))⟩,F2,by
   rw[DP2.out];exact H3.out.same S3 (fun q hq h=>by
    rw[show q=p4 from hq]at h;rcases F2S.out p4 h with h5 | h5
    ·exact NH.out p4 P4G h5
    ·have:=ZL.out;omega),Yq (((Za.of_below GB.out).trans S2.out).trans (Za.of_below B3.out)) S3 (fun q hq=>.inr (by rw[show q=p4 from hq];exact P4G)),fun q hq=>(F2S.out q hq).imp id (fun h=>Nat.le_trans GB.out.size h)⟩
end
def RS (l:zU)(k:Nat)(xs:List Int)(at_:Nat)(bad:Bool):Prop:=(bad=false/\XI Xt k l=some (xs,l.drop at_))\/(bad=true/\XI Xt k l=none)
theorem RS.step {l:zU}{k:Nat}{xs:List Int}{at_ at':Nat}{bad bad':Bool}{z:Int}(h:RS l k xs at_ bad)
  (hn:(Xt (l.drop at_)=some (z,l.drop at')/\bad'=bad)\/(Xt (l.drop at_)=none/\bad'=true/\z=0)):RS l (k+1) (xs ++ [z]) at' bad':=by
 rcases h with ⟨rfl,h⟩ | ⟨rfl,h⟩
 ·rcases hn with ⟨e,rfl⟩ | ⟨e,rfl,_⟩
  ·exact .inl ⟨rfl,VI h e⟩
  ·exact .inr ⟨rfl,VJ h e _ (Nat.lt_succ_self k)⟩
 ·refine .inr ⟨?_,Z5g h _ (Nat.le_succ k)⟩;rcases hn with ⟨_,rfl⟩ | ⟨_,rfl,_⟩ <;> rfl
def RS3 (l:zU)(xs ys:List Int)(j:Nat)(zs:List Int)(at_:Nat)(bad:Bool):Prop:=
 (bad=false /\ ∃k t t1 t2,XI Xt 15 l=some (xs,t)/\Jy Xt t=some (k,t1)/\XI Xt k t1=some (ys,t2)/\XI Xt j t2=some (zs,l.drop at_))\/(bad=true/\Xv Xt l=none)
theorem RS.nums {l:zU}{xs ys:List Int}{at_ at':Nat}{bad bad':Bool}(h:RS l 15 xs at_ bad)(hn:Z6q l at_ bad ys at' bad'):RS3 l xs ys 0 [] at' bad':=by
 rcases hn with ⟨rfl,rfl,k,t1,e1,e2⟩ | ⟨rfl,e⟩
 ·rcases h with ⟨_,h⟩ | ⟨h,_⟩
  ·exact .inl ⟨rfl,k,_,t1,_,h,e1,e2,rfl⟩
  ·cases h
 ·refine .inr ⟨rfl,?_⟩;rcases h with ⟨rfl,h⟩ | ⟨rfl,h⟩
  ·rcases e with e | e | ⟨k,t1,e,e2⟩
   ·cases e
   ·exact Z5X h e
   ·rw[Z0E h e,e2]
  ·exact Z5Y h
theorem RS3.step {l:zU}{xs ys:List Int}{j:Nat}{zs:List Int}{at_ at':Nat}{bad bad':Bool}{z:Int}(h:RS3 l xs ys j zs at_ bad)(hj:j < 3)
  (hn:(Xt (l.drop at_)=some (z,l.drop at')/\bad'=bad)\/(Xt (l.drop at_)=none/\bad'=true/\z=0)):RS3 l xs ys (j+1) (zs ++ [z]) at' bad':=by
 rcases h with ⟨rfl,k,t,t1,t2,h1,h2,h3,h4⟩ | ⟨rfl,h⟩
 ·rcases hn with ⟨e,rfl⟩ | ⟨e,rfl,_⟩
  ·exact .inl ⟨rfl,k,t,t1,t2,h1,h2,h3,VI h4 e⟩
  ·refine .inr ⟨rfl,?_⟩;rw[Z0E h1 h2,h3];simp only;rw[VJ h4 e 3 hj]
 ·refine .inr ⟨?_,h⟩;rcases hn with ⟨_,rfl⟩ | ⟨_,rfl,_⟩ <;> rfl
theorem RS3.fin {l:zU}{xs ys zs:List Int}{at_:Nat}{bad:Bool}(h:RS3 l xs ys 3 zs at_ bad):(bad=false/\Xv Xt l=some (Jk xs ys zs,l.drop at_))\/(bad=true/\Xv Xt l=none):=by
 rcases h with ⟨rfl,k,t,t1,t2,h1,h2,h3,h4⟩ | h
 ·refine .inl ⟨rfl,?_⟩;rw[Z0E h1 h2,h3];simp only;rw[h4]
 ·exact .inr h
structure Z8P (wf W:World)(rp p1 nb:Nat)(m:NoteV)(sa:zA)(sc:Nat)(l:zU)(a:zA)(n c at_:Nat)(bad:Bool):Prop where
 e:W.heap[nb]? = some (.cells (Z5 m sa sc) 47)
 e1:W.heap[p1]? = some (.cells (Z5 Zd none 0) 47)
 r:RdQ W rp l a n c at_ bad
 s:Za (fun k=>k=rp\/p1<=k) wf W
 o:0 < n -> ∀b off,a=some ⟨b,off,none⟩->b < p1
 lt:rp < p1/\p1 < nb
section
variable {wf W W':World}{rp p1 nb:Nat}{m:NoteV}{sa:zA}{sc:Nat}{l:zU}{a:zA}{n c at_ at':Nat}{bad bad':Bool}
theorem Z8P.number (h:Z8P wf W rp p1 nb m sa sc l a n c at_ bad)(hr:RdQ W' rp l a n c at' bad')(hs:Za (fun k=>k=rp) W W'):Z8P wf W' rp p1 nb m sa sc l a n c at' bad':=
 have hl:=h.lt
 ⟨(hs.block _ (Array.getElem?_eq_some_iff.1 h.e).1 (by omega)).trans h.e,(hs.block _ (Array.getElem?_eq_some_iff.1 h.e1).1 (by omega)).trans h.e1,hr,h.s.trans (YP hs fun k e=>.inl e),h.o,h.lt⟩
theorem Z8P.set (h:Z8P wf W rp p1 nb m sa sc l a n c at_ bad)(j:Nat)(v:Value){m':NoteV}{sa':zA}{sc':Nat}(hv:(Z5 m sa sc).setIfInBounds j v=Z5 m' sa' sc'):Z8P wf (W.setCell ⟨nb,j,none⟩ v) rp p1 nb m' sa' sc' l a n c at_ bad:=
 have hl:=h.lt
 have hs:=Xw W nb j v
 ⟨by rw[<-hv];exact heap_setCell_same W nb j _ _ v h.e,(hs.block _ (Array.getElem?_eq_some_iff.1 h.e1).1 (by omega)).trans h.e1,h.r.same hs (by omega) (fun h0 b off e=>by have:=h.o h0 b off e;omega),h.s.trans (YP hs fun k e=>.inr (by rw[e];omega)),h.o,h.lt⟩
end
def Zci (rp:Nat)(l:zU)(a:zA)(n c:Nat)(m:NoteV)(w w':World):Prop:=
 ∃at' bad',RdQ w' rp l a n c at' bad'/\Za (fun k=>k=rp) w w'/\((bad'=false/\Xv Xt l=some (m,l.drop at'))\/(bad'=true/\Xv Xt l=none))
section
attribute [local go_sem] ZS
theorem Z9p (rp:Nat)(l:zU)(a:zA)(n c:Nat)(w:World)(h:RdQ w rp l a n c 0 false)(hl:l.length<=1000000):
  Calls zq 182 #[.pointer (some ⟨rp,0,none⟩)] w fun e w' => ∃(m:NoteV) (sa:zA) (sc:Nat),e = .returned (.agg (Z5 m sa sc))/\w'.ownsRow w.heap.size 3 1 (.slice sa m.strokes.length sc) m.strokes.length (m.strokes.map Yo)/\Zci rp l a n c m w w':=by
 have I43:=zH zI;have hrp:rp < w.heap.size:=(Array.getElem?_eq_some_iff.1 h.e).1;have RL:=zH (show 0 < n -> ∀b off,a=some ⟨b,off,none⟩->b < w.heap.size from fun h0 b off e=>ZaI h.r h0 (by omega) b off e);have g1:=Z8 _ (.cells (Z5 Zd none 0) 47) _ _ (Z9 w (.cells (Z5 Zd none 0) 47));have g2:=Zm (w.alloc (.cells (Z5 Zd none 0) 47)) (.cells (Z5 Zd none 0) 47) (w.heap.size+1) (by simp);have bb:Below w.heap.size w ((w.alloc (.cells (Z5 Zd none 0) 47)).alloc (.cells (Z5 Zd none 0) 47)):=(zB _ _).alloc (by simp) _;have Q0:Hid (Z8P w ((w.alloc (.cells (Z5 Zd none 0) 47)).alloc (.cells (Z5 Zd none 0) 47)) rp w.heap.size (w.heap.size+1) (Jk [] [] []) none 0 l a n c 0 false):=
  zH ⟨g2,g1,h.same (S:=fun _=>False) (Za.of_below bb) id (fun _ _ _ _=>id),Za.of_below bb,RL.out,by omega⟩
 clear g1 g2 bb hrp RL h;go_enter Tryz.func182,Tryz.ntmps182;go_upto_region 2 with fail;simp only[<-ZZ];generalize (w.alloc (.cells (Z5 Zd none 0) 47)).alloc (.cells (Z5 Zd none 0) 47)=W0 at *;generalize hp1:w.heap.size=p1 at *;generalize hnb:p1+1=nb at *;have HP1:=zH hp1;clear hp1 hnb;have S0:Hid (RS l 0 [] 0 false):=zH (.inl ⟨rfl,rfl⟩);have X0:Hid (([]:List Int).length=0):=zH rfl;go_wp2_with fail;refine(ZQ rp l a n c 0 false W0 Q0.out.r).mono ?_;rintro e v1 ⟨z1,at1,bad1,rfl,h2,h3,h4⟩;have q:=Q0.out.number h2 h3;have S1':=S0.out.step h4;clear h2 h3 h4;have e2:v1.cell? ⟨nb,0,none⟩=some (.int .i64 ((Zn (Jk [] [] []))[0]?.getD 0)):=Z6 q.e _ _ (YA (Jk [] [] []) none 0 0 (by decide));have f2:=Ze q.e 0;obtain⟨y,hy⟩ : ∃y,Hid (y=(Zn (Jk [] [] []))[0]?.getD 0):=⟨_,zH rfl⟩;rw[<-hy.out]at e2;have q2:=q.set 0 (.int .i64 z1) (by have:=Xm [] z1 (by rw[X0.out];decide);rwa [X0.out]at this);obtain⟨xs1,hx⟩ : ∃xs,Hid (xs=[] ++ [z1]):=⟨_,zH rfl⟩;have X1:Hid (xs1.length=1):=zH (by rw[hx.out,List.length_append,X0.out];rfl);rw[<-hx.out]at q2 S1';have Q1:=zH q2;clear q2 q;have S1:=zH S1';clear S1' hy hx Q0 S0 X0;go_upto_region 3 with fail;clear e2 f2;generalize v1.setCell ⟨nb,0,none⟩ (.int .i64 z1)=W1 at *;go_wp2_with fail;refine(ZQ rp l a n c at1 bad1 W1 Q1.out.r).mono ?_;rintro e v2 ⟨z2,at2,bad2,rfl,h2,h3,h4⟩;have q:=Q1.out.number h2 h3;have S2':=S1.out.step h4;clear h2 h3 h4;have e2:v2.cell? ⟨nb,1,none⟩=some (.int .i64 ((Zn (Jk xs1 [] []))[1]?.getD 0)):=Z6 q.e _ _ (YA (Jk xs1 [] []) none 0 1 (by decide));have f2:=Ze q.e 1;obtain⟨y,hy⟩ : ∃y,Hid (y=(Zn (Jk xs1 [] []))[1]?.getD 0):=⟨_,zH rfl⟩;rw[<-hy.out]at e2;have q2:=q.set 1 (.int .i64 z2) (by have:=Xm xs1 z2 (by rw[X1.out];decide);rwa [X1.out]at this);obtain⟨xs2,hx⟩ : ∃xs,Hid (xs=xs1 ++ [z2]):=⟨_,zH rfl⟩;have X2:Hid (xs2.length=2):=zH (by rw[hx.out,List.length_append,X1.out];rfl);rw[<-hx.out]at q2 S2';have Q2:=zH q2;clear q2 q;have S2:=zH S2';clear S2' hy hx Q1 S1 X1;go_upto_region 4 with fail
 clear e2 f2;generalize v2.setCell ⟨nb,1,none⟩ (.int .i64 z2)=W2 at *;go_wp2_with fail;refine(ZQ rp l a n c at2 bad2 W2 Q2.out.r).mono ?_;rintro e v3 ⟨z3,at3,bad3,rfl,h2,h3,h4⟩;have q:=Q2.out.number h2 h3;have S3':=S2.out.step h4;clear h2 h3 h4;have e2:v3.cell? ⟨nb,2,none⟩=some (.int .i64 ((Zn (Jk xs2 [] []))[2]?.getD 0)):=Z6 q.e _ _ (YA (Jk xs2 [] []) none 0 2 (by decide));have f2:=Ze q.e 2;obtain⟨y,hy⟩ : ∃y,Hid (y=(Zn (Jk xs2 [] []))[2]?.getD 0):=⟨_,zH rfl⟩;rw[<-hy.out]at e2;have q2:=q.set 2 (.int .i64 z3) (by have:=Xm xs2 z3 (by rw[X2.out];decide);rwa [X2.out]at this);obtain⟨xs3,hx⟩ : ∃xs,Hid (xs=xs2 ++ [z3]):=⟨_,zH rfl⟩;have X3:Hid (xs3.length=3):=zH (by rw[hx.out,List.length_append,X2.out];rfl);rw[<-hx.out]at q2 S3';have Q3:=zH q2;clear q2 q;have S3:=zH S3';clear S3' hy hx Q2 S2 X2;go_upto_region 5 with fail;clear e2 f2;generalize v3.setCell ⟨nb,2,none⟩ (.int .i64 z3)=W3 at *;go_wp2_with fail;refine(ZQ rp l a n c at3 bad3 W3 Q3.out.r).mono ?_;rintro e v4 ⟨z4,at4,bad4,rfl,h2,h3,h4⟩;have q:=Q3.out.number h2 h3;have S4':=S3.out.step h4;clear h2 h3 h4;have e2:v4.cell? ⟨nb,3,none⟩=some (.int .i64 ((Zn (Jk xs3 [] []))[3]?.getD 0)):=Z6 q.e _ _ (YA (Jk xs3 [] []) none 0 3 (by decide));have f2:=Ze q.e 3;obtain⟨y,hy⟩ : ∃y,Hid (y=(Zn (Jk xs3 [] []))[3]?.getD 0):=⟨_,zH rfl⟩;rw[<-hy.out]at e2;have q2:=q.set 3 (.int .i64 z4) (by have:=Xm xs3 z4 (by rw[X3.out];decide);rwa [X3.out]at this);obtain⟨xs4,hx⟩ : ∃xs,Hid (xs=xs3 ++ [z4]):=⟨_,zH rfl⟩;have X4:Hid (xs4.length=4):=zH (by rw[hx.out,List.length_append,X3.out];rfl);rw[<-hx.out]at q2 S4';have Q4:=zH q2;clear q2 q;have S4:=zH S4';clear S4' hy hx Q3 S3 X3;go_upto_region 6 with fail;clear e2 f2;generalize v4.setCell ⟨nb,3,none⟩ (.int .i64 z4)=W4 at *;go_wp2_with fail;refine(ZQ rp l a n c at4 bad4 W4 Q4.out.r).mono ?_;rintro e v5 ⟨z5,at5,bad5,rfl,h2,h3,h4⟩;have q:=Q4.out.number h2 h3;have S5':=S4.out.step h4;clear h2 h3 h4;have e2:v5.cell? ⟨nb,4,none⟩=some (.int .i64 ((Zn (Jk xs4 [] []))[4]?.getD 0)):=Z6 q.e _ _ (YA (Jk xs4 [] []) none 0 4 (by decide))
 have f2:=Ze q.e 4;obtain⟨y,hy⟩ : ∃y,Hid (y=(Zn (Jk xs4 [] []))[4]?.getD 0):=⟨_,zH rfl⟩;rw[<-hy.out]at e2;have q2:=q.set 4 (.int .i64 z5) (by have:=Xm xs4 z5 (by rw[X4.out];decide);rwa [X4.out]at this);obtain⟨xs5,hx⟩ : ∃xs,Hid (xs=xs4 ++ [z5]):=⟨_,zH rfl⟩;have X5:Hid (xs5.length=5):=zH (by rw[hx.out,List.length_append,X4.out];rfl);rw[<-hx.out]at q2 S5';have Q5:=zH q2;clear q2 q;have S5:=zH S5';clear S5' hy hx Q4 S4 X4;go_upto_region 7 with fail;clear e2 f2;generalize v5.setCell ⟨nb,4,none⟩ (.int .i64 z5)=W5 at *;go_wp2_with fail;refine(ZQ rp l a n c at5 bad5 W5 Q5.out.r).mono ?_;rintro e v6 ⟨z6,at6,bad6,rfl,h2,h3,h4⟩;have q:=Q5.out.number h2 h3;have S6':=S5.out.step h4;clear h2 h3 h4;have e2:v6.cell? ⟨nb,5,none⟩=some (.int .i64 ((Zn (Jk xs5 [] []))[5]?.getD 0)):=Z6 q.e _ _ (YA (Jk xs5 [] []) none 0 5 (by decide));have f2:=Ze q.e 5;obtain⟨y,hy⟩ : ∃y,Hid (y=(Zn (Jk xs5 [] []))[5]?.getD 0):=⟨_,zH rfl⟩;rw[<-hy.out]at e2;have q2:=q.set 5 (.int .i64 z6) (by have:=Xm xs5 z6 (by rw[X5.out];decide);rwa [X5.out]at this);obtain⟨xs6,hx⟩ : ∃xs,Hid (xs=xs5 ++ [z6]):=⟨_,zH rfl⟩;have X6:Hid (xs6.length=6):=zH (by rw[hx.out,List.length_append,X5.out];rfl);rw[<-hx.out]at q2 S6';have Q6:=zH q2;clear q2 q;have S6:=zH S6';clear S6' hy hx Q5 S5 X5;go_upto_region 8 with fail;clear e2 f2;generalize v6.setCell ⟨nb,5,none⟩ (.int .i64 z6)=W6 at *;go_wp2_with fail;refine(ZQ rp l a n c at6 bad6 W6 Q6.out.r).mono ?_;rintro e v7 ⟨z7,at7,bad7,rfl,h2,h3,h4⟩;have q:=Q6.out.number h2 h3;have S7':=S6.out.step h4;clear h2 h3 h4;have e2:v7.cell? ⟨nb,6,none⟩=some (.int .i64 ((Zn (Jk xs6 [] []))[6]?.getD 0)):=Z6 q.e _ _ (YA (Jk xs6 [] []) none 0 6 (by decide));have f2:=Ze q.e 6;obtain⟨y,hy⟩ : ∃y,Hid (y=(Zn (Jk xs6 [] []))[6]?.getD 0):=⟨_,zH rfl⟩;rw[<-hy.out]at e2;have q2:=q.set 6 (.int .i64 z7) (by have:=Xm xs6 z7 (by rw[X6.out];decide);rwa [X6.out]at this);obtain⟨xs7,hx⟩ : ∃xs,Hid (xs=xs6 ++ [z7]):=⟨_,zH rfl⟩;have X7:Hid (xs7.length=7):=zH (by rw[hx.out,List.length_append,X6.out];rfl)
 rw[<-hx.out]at q2 S7';have Q7:=zH q2;clear q2 q;have S7:=zH S7';clear S7' hy hx Q6 S6 X6;go_upto_region 9 with fail;clear e2 f2;generalize v7.setCell ⟨nb,6,none⟩ (.int .i64 z7)=W7 at *;go_wp2_with fail;refine(ZQ rp l a n c at7 bad7 W7 Q7.out.r).mono ?_;rintro e v8 ⟨z8,at8,bad8,rfl,h2,h3,h4⟩;have q:=Q7.out.number h2 h3;have S8':=S7.out.step h4;clear h2 h3 h4;have e2:v8.cell? ⟨nb,7,none⟩=some (.int .i64 ((Zn (Jk xs7 [] []))[7]?.getD 0)):=Z6 q.e _ _ (YA (Jk xs7 [] []) none 0 7 (by decide));have f2:=Ze q.e 7;obtain⟨y,hy⟩ : ∃y,Hid (y=(Zn (Jk xs7 [] []))[7]?.getD 0):=⟨_,zH rfl⟩;rw[<-hy.out]at e2;have q2:=q.set 7 (.int .i64 z8) (by have:=Xm xs7 z8 (by rw[X7.out];decide);rwa [X7.out]at this);obtain⟨xs8,hx⟩ : ∃xs,Hid (xs=xs7 ++ [z8]):=⟨_,zH rfl⟩;have X8:Hid (xs8.length=8):=zH (by rw[hx.out,List.length_append,X7.out];rfl);rw[<-hx.out]at q2 S8';have Q8:=zH q2;clear q2 q;have S8:=zH S8';clear S8' hy hx Q7 S7 X7;go_upto_region 10 with fail;clear e2 f2;generalize v8.setCell ⟨nb,7,none⟩ (.int .i64 z8)=W8 at *;go_wp2_with fail;refine(ZQ rp l a n c at8 bad8 W8 Q8.out.r).mono ?_;rintro e v9 ⟨z9,at9,bad9,rfl,h2,h3,h4⟩;have q:=Q8.out.number h2 h3;have S9':=S8.out.step h4;clear h2 h3 h4;have e2:v9.cell? ⟨nb,8,none⟩=some (.int .i64 ((Zn (Jk xs8 [] []))[8]?.getD 0)):=Z6 q.e _ _ (YA (Jk xs8 [] []) none 0 8 (by decide));have f2:=Ze q.e 8;obtain⟨y,hy⟩ : ∃y,Hid (y=(Zn (Jk xs8 [] []))[8]?.getD 0):=⟨_,zH rfl⟩;rw[<-hy.out]at e2;have q2:=q.set 8 (.int .i64 z9) (by have:=Xm xs8 z9 (by rw[X8.out];decide);rwa [X8.out]at this);obtain⟨xs9,hx⟩ : ∃xs,Hid (xs=xs8 ++ [z9]):=⟨_,zH rfl⟩;have X9:Hid (xs9.length=9):=zH (by rw[hx.out,List.length_append,X8.out];rfl);rw[<-hx.out]at q2 S9';have Q9:=zH q2;clear q2 q;have S9:=zH S9';clear S9' hy hx Q8 S8 X8;go_upto_region 11 with fail;clear e2 f2;generalize v9.setCell ⟨nb,8,none⟩ (.int .i64 z9)=W9 at *;go_wp2_with fail;refine(ZQ rp l a n c at9 bad9 W9 Q9.out.r).mono ?_;rintro e v10 ⟨z10,at10,bad10,rfl,h2,h3,h4⟩;have q:=Q9.out.number h2 h3
 have S10':=S9.out.step h4;clear h2 h3 h4;have e2:v10.cell? ⟨nb,9,none⟩=some (.int .i64 ((Zn (Jk xs9 [] []))[9]?.getD 0)):=Z6 q.e _ _ (YA (Jk xs9 [] []) none 0 9 (by decide));have f2:=Ze q.e 9;obtain⟨y,hy⟩ : ∃y,Hid (y=(Zn (Jk xs9 [] []))[9]?.getD 0):=⟨_,zH rfl⟩;rw[<-hy.out]at e2;have q2:=q.set 9 (.int .i64 z10) (by have:=Xm xs9 z10 (by rw[X9.out];decide);rwa [X9.out]at this);obtain⟨xs10,hx⟩ : ∃xs,Hid (xs=xs9 ++ [z10]):=⟨_,zH rfl⟩;have X10:Hid (xs10.length=10):=zH (by rw[hx.out,List.length_append,X9.out];rfl);rw[<-hx.out]at q2 S10';have Q10:=zH q2;clear q2 q;have S10:=zH S10';clear S10' hy hx Q9 S9 X9;go_upto_region 12 with fail;clear e2 f2;generalize v10.setCell ⟨nb,9,none⟩ (.int .i64 z10)=W10 at *;go_wp2_with fail;refine(ZQ rp l a n c at10 bad10 W10 Q10.out.r).mono ?_;rintro e v11 ⟨z11,at11,bad11,rfl,h2,h3,h4⟩;have q:=Q10.out.number h2 h3;have S11':=S10.out.step h4;clear h2 h3 h4;have e2:v11.cell? ⟨nb,10,none⟩=some (.int .i64 ((Zn (Jk xs10 [] []))[10]?.getD 0)):=Z6 q.e _ _ (YA (Jk xs10 [] []) none 0 10 (by decide));have f2:=Ze q.e 10;obtain⟨y,hy⟩ : ∃y,Hid (y=(Zn (Jk xs10 [] []))[10]?.getD 0):=⟨_,zH rfl⟩;rw[<-hy.out]at e2;have q2:=q.set 10 (.int .i64 z11) (by have:=Xm xs10 z11 (by rw[X10.out];decide);rwa [X10.out]at this);obtain⟨xs11,hx⟩ : ∃xs,Hid (xs=xs10 ++ [z11]):=⟨_,zH rfl⟩;have X11:Hid (xs11.length=11):=zH (by rw[hx.out,List.length_append,X10.out];rfl);rw[<-hx.out]at q2 S11';have Q11:=zH q2;clear q2 q;have S11:=zH S11';clear S11' hy hx Q10 S10 X10;go_upto_region 13 with fail;clear e2 f2;generalize v11.setCell ⟨nb,10,none⟩ (.int .i64 z11)=W11 at *;go_wp2_with fail;refine(ZQ rp l a n c at11 bad11 W11 Q11.out.r).mono ?_;rintro e v12 ⟨z12,at12,bad12,rfl,h2,h3,h4⟩;have q:=Q11.out.number h2 h3;have S12':=S11.out.step h4;clear h2 h3 h4;have e2:v12.cell? ⟨nb,11,none⟩=some (.int .i64 ((Zn (Jk xs11 [] []))[11]?.getD 0)):=Z6 q.e _ _ (YA (Jk xs11 [] []) none 0 11 (by decide));have f2:=Ze q.e 11;obtain⟨y,hy⟩ : ∃y,Hid (y=(Zn (Jk xs11 [] []))[11]?.getD 0):=⟨_,zH rfl⟩
 rw[<-hy.out]at e2;have q2:=q.set 11 (.int .i64 z12) (by have:=Xm xs11 z12 (by rw[X11.out];decide);rwa [X11.out]at this);obtain⟨xs12,hx⟩ : ∃xs,Hid (xs=xs11 ++ [z12]):=⟨_,zH rfl⟩;have X12:Hid (xs12.length=12):=zH (by rw[hx.out,List.length_append,X11.out];rfl);rw[<-hx.out]at q2 S12';have Q12:=zH q2;clear q2 q;have S12:=zH S12';clear S12' hy hx Q11 S11 X11;go_upto_region 14 with fail;clear e2 f2;generalize v12.setCell ⟨nb,11,none⟩ (.int .i64 z12)=W12 at *;go_wp2_with fail;refine(ZQ rp l a n c at12 bad12 W12 Q12.out.r).mono ?_;rintro e v13 ⟨z13,at13,bad13,rfl,h2,h3,h4⟩;have q:=Q12.out.number h2 h3;have S13':=S12.out.step h4;clear h2 h3 h4;have e2:v13.cell? ⟨nb,12,none⟩=some (.int .i64 ((Zn (Jk xs12 [] []))[12]?.getD 0)):=Z6 q.e _ _ (YA (Jk xs12 [] []) none 0 12 (by decide));have f2:=Ze q.e 12;obtain⟨y,hy⟩ : ∃y,Hid (y=(Zn (Jk xs12 [] []))[12]?.getD 0):=⟨_,zH rfl⟩;rw[<-hy.out]at e2;have q2:=q.set 12 (.int .i64 z13) (by have:=Xm xs12 z13 (by rw[X12.out];decide);rwa [X12.out]at this);obtain⟨xs13,hx⟩ : ∃xs,Hid (xs=xs12 ++ [z13]):=⟨_,zH rfl⟩;have X13:Hid (xs13.length=13):=zH (by rw[hx.out,List.length_append,X12.out];rfl);rw[<-hx.out]at q2 S13';have Q13:=zH q2;clear q2 q;have S13:=zH S13';clear S13' hy hx Q12 S12 X12;go_upto_region 15 with fail;clear e2 f2;generalize v13.setCell ⟨nb,12,none⟩ (.int .i64 z13)=W13 at *;go_wp2_with fail;refine(ZQ rp l a n c at13 bad13 W13 Q13.out.r).mono ?_;rintro e v14 ⟨z14,at14,bad14,rfl,h2,h3,h4⟩;have q:=Q13.out.number h2 h3;have S14':=S13.out.step h4;clear h2 h3 h4;have e2:v14.cell? ⟨nb,13,none⟩=some (.int .i64 ((Zn (Jk xs13 [] []))[13]?.getD 0)):=Z6 q.e _ _ (YA (Jk xs13 [] []) none 0 13 (by decide));have f2:=Ze q.e 13;obtain⟨y,hy⟩ : ∃y,Hid (y=(Zn (Jk xs13 [] []))[13]?.getD 0):=⟨_,zH rfl⟩;rw[<-hy.out]at e2;have q2:=q.set 13 (.int .i64 z14) (by have:=Xm xs13 z14 (by rw[X13.out];decide);rwa [X13.out]at this);obtain⟨xs14,hx⟩ : ∃xs,Hid (xs=xs13 ++ [z14]):=⟨_,zH rfl⟩;have X14:Hid (xs14.length=14):=zH (by rw[hx.out,List.length_append,X13.out];rfl)
 rw[<-hx.out]at q2 S14';have Q14:=zH q2;clear q2 q;have S14:=zH S14';clear S14' hy hx Q13 S13 X13;go_upto_region 16 with fail;clear e2 f2;generalize v14.setCell ⟨nb,13,none⟩ (.int .i64 z14)=W14 at *;go_wp2_with fail;refine(ZQ rp l a n c at14 bad14 W14 Q14.out.r).mono ?_;rintro e v15 ⟨z15,at15,bad15,rfl,h2,h3,h4⟩;have q:=Q14.out.number h2 h3;have S15':=S14.out.step h4;clear h2 h3 h4;have e2:v15.cell? ⟨nb,14,none⟩=some (.int .i64 ((Zn (Jk xs14 [] []))[14]?.getD 0)):=Z6 q.e _ _ (YA (Jk xs14 [] []) none 0 14 (by decide));have f2:=Ze q.e 14;obtain⟨y,hy⟩ : ∃y,Hid (y=(Zn (Jk xs14 [] []))[14]?.getD 0):=⟨_,zH rfl⟩;rw[<-hy.out]at e2;have q2:=q.set 14 (.int .i64 z15) (by have:=Xm xs14 z15 (by rw[X14.out];decide);rwa [X14.out]at this);obtain⟨xs15,hx⟩ : ∃xs,Hid (xs=xs14 ++ [z15]):=⟨_,zH rfl⟩;have X15:Hid (xs15.length=15):=zH (by rw[hx.out,List.length_append,X14.out];rfl);rw[<-hx.out]at q2 S15';have Q15:=zH q2;clear q2 q;have S15:=zH S15';clear S15' hy hx Q14 S14 X14;go_upto_region 17 with fail;clear e2 f2;generalize v15.setCell ⟨nb,14,none⟩ (.int .i64 z15)=W15 at *;go_wp2_with fail;refine(Z4M rp l a n c at15 bad15 W15 Q15.out.r hl).mono ?_;rintro e v16 ⟨ys,sa,sc,rfl,h1,at16,bad16,h2,h3,h4⟩;have q:=Q15.out.number h2 h3;have S16:=zH (S15.out.nums h4);have hnw:=(Array.getElem?_eq_some_iff.1 Q15.out.e).1;obtain⟨B,hB⟩:=zX (W15.heap.size);rw[hB.out]at h1 hnw;have LB:Hid (nb < B/\rp < B/\p1<=B):=zH (by have:=Q15.out.lt;omega);have e2:v16.cell? ⟨nb,15,none⟩=some (.slice none (Jk xs15 [] []).strokes.length 0):=Z6 q.e 15 _ rfl;have f2:=Ze q.e 15;have q2:=q.set 15 (.slice sa ys.length sc) (Z2Q xs15 [] ys none sa 0 sc ys.length rfl);have HO:=zH (Xd h1 (Xw v16 nb 15 (.slice sa ys.length sc)) (fun b cur fr hb=>.inr (by rw[show b=nb from hb];exact hnw)));have Q16:=zH q2;clear h1 h2 h3 h4 q q2 Q15 S15 hnw;go_upto_region 18 with fail;clear e2 f2;generalize v16.setCell ⟨nb,15,none⟩ (.slice sa ys.length sc)=W16 at *;have X16:Hid (([]:List Int).length=0):=zH rfl
 go_wp2_with fail;refine(ZQ rp l a n c at16 bad16 W16 Q16.out.r).mono ?_;rintro e v17 ⟨z17,at17,bad17,rfl,h2,h3,h4⟩;have q:=Q16.out.number h2 h3;have S17':=S16.out.step (by decide) h4;have O1:=Xd HO.out h3 (fun b cur fr hb=>.inr (by rw[show b=rp from hb];exact LB.out.2.1));clear h2 h3 h4;have e2:v17.cell? ⟨nb,16,none⟩=some (.int .i64 ((Zr (Jk xs15 ys []))[0]?.getD 0)):=Z6 q.e _ _ (Vj (Jk xs15 ys []) sa sc 0 (by decide));have f2:=Ze q.e 16;obtain⟨y,hy⟩ : ∃y,Hid (y=(Zr (Jk xs15 ys []))[0]?.getD 0):=⟨_,zH rfl⟩;rw[<-hy.out]at e2;have q2:=q.set 16 (.int .i64 z17) (by have:=zh xs15 ys sa sc [] z17 (by rw[X16.out];decide);rwa [X16.out]at this);obtain⟨zs1,hx⟩ : ∃zs,Hid (zs=[] ++ [z17]):=⟨_,zH rfl⟩;have X17:Hid (zs1.length=1):=zH (by rw[hx.out,List.length_append,X16.out];rfl);rw[<-hx.out]at q2 S17';have O2:=Xd O1 (Xw v17 nb 16 (.int .i64 z17)) (fun b cur fr hb=>.inr (by rw[show b=nb from hb];exact LB.out.1));clear HO O1;have HO:=zH O2;clear O2;have Q17:=zH q2;clear q2 q;have S17:=zH S17';clear S17' hy hx Q16 S16 X16;go_upto_region 19 with fail;clear e2 f2;generalize v17.setCell ⟨nb,16,none⟩ (.int .i64 z17)=W17 at *;go_wp2_with fail;refine(ZQ rp l a n c at17 bad17 W17 Q17.out.r).mono ?_;rintro e v18 ⟨z18,at18,bad18,rfl,h2,h3,h4⟩;have q:=Q17.out.number h2 h3;have S18':=S17.out.step (by decide) h4;have O1:=Xd HO.out h3 (fun b cur fr hb=>.inr (by rw[show b=rp from hb];exact LB.out.2.1));clear h2 h3 h4;have e2:v18.cell? ⟨nb,17,none⟩=some (.int .i64 ((Zr (Jk xs15 ys zs1))[1]?.getD 0)):=Z6 q.e _ _ (Vj (Jk xs15 ys zs1) sa sc 1 (by decide));have f2:=Ze q.e 17;obtain⟨y,hy⟩ : ∃y,Hid (y=(Zr (Jk xs15 ys zs1))[1]?.getD 0):=⟨_,zH rfl⟩;rw[<-hy.out]at e2;have q2:=q.set 17 (.int .i64 z18) (by have:=zh xs15 ys sa sc zs1 z18 (by rw[X17.out];decide);rwa [X17.out]at this);obtain⟨zs2,hx⟩ : ∃zs,Hid (zs=zs1 ++ [z18]):=⟨_,zH rfl⟩;have X18:Hid (zs2.length=2):=zH (by rw[hx.out,List.length_append,X17.out];rfl);rw[<-hx.out]at q2 S18'
 have O2:=Xd O1 (Xw v18 nb 17 (.int .i64 z18)) (fun b cur fr hb=>.inr (by rw[show b=nb from hb];exact LB.out.1));clear HO O1;have HO:=zH O2;clear O2;have Q18:=zH q2;clear q2 q;have S18:=zH S18';clear S18' hy hx Q17 S17 X17;go_upto_region 20 with fail;clear e2 f2;generalize v18.setCell ⟨nb,17,none⟩ (.int .i64 z18)=W18 at *;go_wp2_with fail;refine(ZQ rp l a n c at18 bad18 W18 Q18.out.r).mono ?_;rintro e v19 ⟨z19,at19,bad19,rfl,h2,h3,h4⟩;have q:=Q18.out.number h2 h3;have S19':=S18.out.step (by decide) h4;have O1:=Xd HO.out h3 (fun b cur fr hb=>.inr (by rw[show b=rp from hb];exact LB.out.2.1));clear h2 h3 h4;have e2:v19.cell? ⟨nb,18,none⟩=some (.int .i64 ((Zr (Jk xs15 ys zs2))[2]?.getD 0)):=Z6 q.e _ _ (Vj (Jk xs15 ys zs2) sa sc 2 (by decide));have f2:=Ze q.e 18;obtain⟨y,hy⟩ : ∃y,Hid (y=(Zr (Jk xs15 ys zs2))[2]?.getD 0):=⟨_,zH rfl⟩;rw[<-hy.out]at e2;have q2:=q.set 18 (.int .i64 z19) (by have:=zh xs15 ys sa sc zs2 z19 (by rw[X18.out];decide);rwa [X18.out]at this);obtain⟨zs3,hx⟩ : ∃zs,Hid (zs=zs2 ++ [z19]):=⟨_,zH rfl⟩;have X19:Hid (zs3.length=3):=zH (by rw[hx.out,List.length_append,X18.out];rfl);rw[<-hx.out]at q2 S19';have O2:=Xd O1 (Xw v19 nb 18 (.int .i64 z19)) (fun b cur fr hb=>.inr (by rw[show b=nb from hb];exact LB.out.1));clear HO O1;have HO:=zH O2;clear O2;have Q19:=zH q2;clear q2 q;have S19:=zH S19';clear S19' hy hx Q18 S18 X18;go_upto_region 21 with fail;clear e2 f2;generalize v19.setCell ⟨nb,18,none⟩ (.int .i64 z19)=W19 at *;have HF:=zH S19.out.fin;obtain⟨N,hN⟩:=zX (Jk xs15 ys zs3);have hNs:Hid (N.strokes=ys):=zH (by rw[<-hN.out];rfl);rw[hN.out]at Q19 HF;have one1:=Zh N sa sc;go_wp2_with (first
  |(refine zL nb Q19.out.e ?_)
  |(refine zN p1 (Z5 N sa sc) Q19.out.e1 ?_))
 refine bodyPost_ret (results_cell_row rfl _ _ p1 47 (Z5 N sa sc) (0,0) _ rfl ?hg Tryz.underlying47 rfl (I43.out _ _ _)) rfl ?_
 case hg=>exact setRow_heap W19 p1 _ _ _ _ Q19.out.e1
 have hSR:Za (fun k=>k=p1) W19 (W19.setRow p1 (Z5 N sa sc)):=⟨rfl,rfl,rfl,by simp,fun k hk hs=>setRow_other W19 p1 k _ hs⟩;have hO:=Xd HO.out hSR (fun b cur fr hb=>.inr (by rw[show b=p1 from hb];exact Nat.lt_of_lt_of_le Q19.out.lt.2 (Nat.le_of_lt LB.out.1)));have hS:=Q19.out.s.trans (YP hSR (S':=fun k=>k=rp\/p1<=k) fun k e=>.inr (by rw[e];omega));refine⟨N,sa,sc,rfl,?_,at19,bad19,?_,?_,HF.out⟩
 ·rw[hNs.out];exact Zp hO (by rw[HP1.out];exact LB.out.2.2)
 ·exact Q19.out.r.same hSR (by have:=Q19.out.lt;omega) (fun h0 b off e=>by have:=Q19.out.o h0 b off e;omega)
 ·exact⟨hS.os,hS.tape,hS.output,hS.size,fun k hk hr=>hS.block k hk (by have h1:=HP1.out;have h2 : ¬k=rp:=hr;omega)⟩
end
theorem Z9z {l t:zU}{m:NoteV}(h:Xv Xt l=some (m,t)):m.strokes.length<=l.length:=by
 obtain⟨e,_⟩:=Z5d h;have h1:=Z7q m.strokes;rw[e];unfold Yc;simp only[List.length_append];omega
def UV (f:Ys)(l:zU):Option NoteV:=match Xv Xt l with
 | some (m,t)=>if t=[]/\ZD f m=0 then some m else none
 | none=>none
section
attribute [local go_sem] ZS
end
section
attribute [local go_sem] ZS
theorem Z5U (f:Ys)(l:zU)(a:zA)(n c:Nat)(w:World)(h:Yb w a n c l)(hl:l.length<=1000000):
  Calls zq 135 #[f.val,.slice a n c] w fun e w'=>(∃(m:NoteV) (sa:zA) (sc:Nat),UV f l=some m/\e = .returned (.tuple #[.agg (Z5 m sa sc),.int .i64 0])/\w'.ownsRow w.heap.size 3 1 (.slice sa m.strokes.length sc) m.strokes.length (m.strokes.map Yo)/\Below w.heap.size w w') \/
   (UV f l=none/\e = .returned (.tuple #[.agg (Z5 Zd none 0),.int .i64 90])/\Below w.heap.size w w'):=by
 have I43:=zH zI;have oneZ:=Zh Zd none 0;have hn63:=h.maxn;have HLE:=zH (show l.length=n by have:=h.1;simpa using this);have g0:=Z8 _ (.cells #[.slice a n c,.int .i64 0,.bool false] 205) _ _ (Z8 _ (.cells (Z5 Zd none 0) 47) _ _ (Z9 w (zF f 23)));have g1:=Z8 _ (.cells #[.slice a n c,.int .i64 0,.bool false] 205) _ _ (Zm (w.alloc (zF f 23)) (.cells (Z5 Zd none 0) 47) (w.heap.size+1) (by simp));have g2:=Zm ((w.alloc (zF f 23)).alloc (.cells (Z5 Zd none 0) 47)) (.cells #[.slice a n c,.int .i64 0,.bool false] 205) (w.heap.size+1+1) (by simp);have bb:Below w.heap.size w (((w.alloc (zF f 23)).alloc (.cells (Z5 Zd none 0) 47)).alloc (.cells #[.slice a n c,.int .i64 0,.bool false] 205)):=((zB _ _).alloc (by simp) _).alloc (by simp;omega) _;have G0:=zH g0;clear g0;have G1:=zH g1;clear g1;have G2:=zH g2;clear g2;have BB:=zH bb;clear bb;unfold Ys.val;go_enter Tryz.func135,Tryz.ntmps135;go_upto_region 2 with fail;simp only[<-ZZ];generalize ((w.alloc (zF f 23)).alloc (.cells (Z5 Zd none 0) 47)).alloc (.cells #[.slice a n c,.int .i64 0,.bool false] 205)=W3 at *;generalize hp0:w.heap.size=p0 at *;generalize hp1:p0+1=p1 at *;generalize hrp:p1+1=rp at *;have RB:=zH (show ∀W',Below p0 w W'->Yb W' a n c l from fun W' hb=>h.below (by rw[hp0];exact hb));have LT:Hid (p0 < p1/\p1 < rp):=zH (by omega);have HP0:=zH hp0;clear hp0 hp1 hrp;go_wp2_with fail;refine(Z9p rp l a n c W3 ⟨G2.out,RB.out _ BB.out,Nat.zero_le _⟩ hl).mono ?_;rintro e w4 ⟨m,sa,sc,rfl,h1,at',bad',h2,h3,h4⟩;have oneM:=Zh m sa sc;have hz2:=(Array.getElem?_eq_some_iff.1 G2.out).1;have P1:Hid (p1 < W3.heap.size):=zH (Nat.lt_trans LT.out.2 hz2);obtain⟨p2,hp2⟩:=zX (w4.heap.size);have hrp2:rp < p2:=by rw[<-hp2.out];exact Nat.lt_of_lt_of_le hz2 h3.size
 have hb5:Below w4.heap.size w4 (w4.alloc (.cells (Z5 m sa sc) 47)):=zB _ _;have e0:=(h3.block p0 (by have:=LT.out;omega) (by have:=LT.out;omega)).trans G0.out;have e1:=(h3.block p1 (by have:=LT.out;omega) (by have:=LT.out;omega)).trans G1.out;have L1:Hid (Z7O w (w4.alloc (.cells (Z5 m sa sc) 47)) p0 p1 p2 f (Z5 m sa sc)):=zH ⟨Z8 _ _ _ _ e0,Z8 _ _ _ _ e1,by rw[<-hp2.out];exact Z9 _ _,(h3.below BB.out (by have:=LT.out;omega) (fun k e=>by have:=LT.out;rw[show k=rp from e];omega)).trans (hb5.mono (by rw[hp2.out];have:=LT.out;omega)),by have:=LT.out;omega⟩;have HQ:=zH (h2.same (S:=fun _=>False) (Za.of_below hb5) id (fun _ _ _ _=>id));have HO:=zH (Zb h1 hb5);have H4:=zH h4;clear h1 h2 h3 h4 e0 e1 hb5 hz2;go_upto_region 3 with (refine zP w4 w4.heap.size (Z5 m sa sc) ?_);generalize w4.alloc (.cells (Z5 m sa sc) 47)=w5 at *;rw[hp2.out];have k0:=HQ.out.c0;have k1:=HQ.out.c1;have k2:=HQ.out.c2;have hle:=HQ.out.le;rw[HLE.out]at hle;cases bad' with
 | true=>
  have HR:=zH (show UV f l=none by
   rcases H4.out with ⟨e,_⟩ | ⟨_,e⟩
   ·cases e
   ·unfold UV;rw[e])
  go_wp2_with (refine zN p1 (Z5 Zd none 0) L1.out.e1 ?_);refine bodyPost_ret (ZI rfl _ _ p1 47 (Z5 Zd none 0) (0,0) _ rfl (L1.out.done _).1 Tryz.underlying47 rfl (I43.out _ _ _)) rfl ?_;exact .inr ⟨HR.out,rfl,by rw[HP0.out];exact(L1.out.done _).2⟩
 | false=>
  have HM:Hid (Xv Xt l=some (m,l.drop at')):=zH (by
   rcases H4.out with ⟨_,e⟩ | ⟨e,_⟩
   ·exact e
   ·cases e)
  clear H4;by_cases hat:at'=n
  ·have hat1:((at':Int) != (n:Int))=false:=by simp;omega
   have HAT:=zH hat;clear hat;have HLN:=zH (Nat.le_trans (Z9z HM.out) hl);have c0:=Z6 L1.out.e0 0 _ rfl;have c1:=Z6 L1.out.e0 1 _ rfl;have c2:=Z6 L1.out.e0 2 _ rfl;go_wp2_with         (first
     |(refine zL p2 L1.out.e2 ?_)
     |(refine zG p2 L1.out.e2 ?_))
   refine(VS f m sa sc _ (ZX.of_own HO.out)).mono ?_;rintro e w6 ⟨rfl,b6⟩;have L2:=zH (L1.out.below b6);have HO2:=zH (Zb HO.out b6);clear b6 c0 c1 c2 k0 k1 k2;by_cases hc:ZD f m=0
   ·have hq:(ZD f m != 0)=false:=by simp[hc]
    have HR:=zH (show UV f l=some m by unfold UV;rw[HM.out];simp only;rw[if_pos ⟨List.drop_eq_nil_of_le (by rw[HLE.out,HAT.out];exact Nat.le_refl _),hc⟩]);clear hc;go_wp2_with (first
     |(refine zL p2 L2.out.e2 ?_)
     |(refine zN p1 (Z5 m sa sc) L2.out.e1 ?_))
    refine bodyPost_ret (ZI rfl _ _ p1 47 (Z5 m sa sc) (0,0) _ rfl (L2.out.done _).1 Tryz.underlying47 rfl (I43.out _ _ _)) rfl ?_;have hO:=Xd (S:=fun k=>k=p1) HO2.out (W':=World.setRow _ p1 (Z5 m sa sc)) ⟨rfl,rfl,rfl,by simp,fun k hk hs=>setRow_other _ p1 k _ hs⟩ (fun b cur fr hb=>.inr (by rw[show b=p1 from hb];exact P1.out));exact .inl ⟨m,sa,sc,HR.out,rfl,Zp hO (by have h9:=P1.out;have h8:=HP0.out;have h7:=LT.out;omega),by rw[HP0.out];exact(L2.out.done _).2⟩
   ·have hq:(ZD f m != 0)=true:=by simp[hc]
    have HR:=zH (show UV f l=none by unfold UV;rw[HM.out];simp only;rw[if_neg (fun e=>hc e.2)]);clear hc;go_wp2_with (refine zN p1 (Z5 Zd none 0) L2.out.e1 ?_);refine bodyPost_ret (ZI rfl _ _ p1 47 (Z5 Zd none 0) (0,0) _ rfl (L2.out.done _).1 Tryz.underlying47 rfl (I43.out _ _ _)) rfl ?_;exact .inr ⟨HR.out,rfl,by rw[HP0.out];exact(L2.out.done _).2⟩
  ·have hat1:((at':Int) != (n:Int))=true:=by simp;omega
   have HR:=zH (show UV f l=none by
    unfold UV;rw[HM.out];simp only;rw[if_neg (fun e=>by
     have h1:=congrArg List.length e.1;rw[List.length_drop,HLE.out,List.length_nil]at h1;omega)])
   clear hat;go_wp2_with (refine zN p1 (Z5 Zd none 0) L1.out.e1 ?_);refine bodyPost_ret (ZI rfl _ _ p1 47 (Z5 Zd none 0) (0,0) _ rfl (L1.out.done _).1 Tryz.underlying47 rfl (I43.out _ _ _)) rfl ?_;exact .inr ⟨HR.out,rfl,by rw[HP0.out];exact(L1.out.done _).2⟩
end
section
variable {w:World}{p:Nat}{i0 i1 i2 i3 i4 i5:Value}{G:Nat->Prop}{v0 v1 v2 v3:Value}{SD SP FD FP:zU}
theorem Z89 (h:XG w p i0 i1 i2 i3 i4 i5 G v0 v1 v2 v3 SD SP FD FP)(stock foil flip:Int)(hs:SD.length+SP.length<=16777216)(hf:FD.length+FP.length<=16777216)
  (hc : ¬(0<=stock/\stock<=(SP.length:Int)/\0<=foil/\foil<=(FP.length:Int) /\ -1<=flip/\flip < 8 * (stock+foil))):
  Calls zq 133 #[.pointer (some ⟨p,6,none⟩),.int .i64 stock,.int .i64 foil,.int .i64 flip] w fun e w'=>e = .returned (.int .i64 1)/\w=w':=by
 obtain⟨c0,c1,c2,c3,_⟩:=h.cells;obtain⟨a0,k0,rfl,_⟩:=h.s0.rd;obtain⟨a1,k1,rfl,_⟩:=h.s1.rd;obtain⟨a2,k2,rfl,_⟩:=h.s2.rd;obtain⟨a3,k3,rfl,_⟩:=h.s3.rd;clear h;by_cases h1:0<=stock/\stock<=(SP.length:Int)
 ·by_cases h2:0<=foil/\foil<=(FP.length:Int)
  focus
   have t3:decide (-1<=flip/\flip<=8 * (stock+foil) - 1)=false:=by
    simp only[decide_eq_false_iff_not];intro h3;exact hc ⟨h1.1,h1.2,h2.1,h2.2,h3.1,by omega⟩
   have w1:=J8 stock 0 SP.length true (by simp;omega) w;have w2:=J8 foil 0 FP.length true (by simp;omega) w;have w3:=J8 flip (-1) (8 * (stock+foil) - 1) false t3 w;have W1:=zH w1;have W2:=zH w2;have W3:=zH w3;clear w1 w2 w3 hc t3;have hb1:stock<=16777216:=by omega
   have hb2:foil<=16777216:=by omega
   have hb3:=h1.1;have hb4:=h2.1;have X1:=zH h1;clear h1;have X2:=zH h2;clear h2 hs hf;go_enter Tryz.func133,Tryz.ntmps133;go_wp2_with fail;refine W1.out.mono ?_;rintro e w1 ⟨rfl,rfl⟩;go_wp2_with fail;refine W2.out.mono ?_;rintro e w1 ⟨rfl,rfl⟩;go_wp2_with fail;refine W3.out.mono ?_
  rotate_left
  focus
   have w1:=J8 stock 0 SP.length true (by simp;omega) w;have w2:=J8 foil 0 FP.length false (by simp;omega) w;have W1:=zH w1;have W2:=zH w2;clear w1 w2 hc;have X1:=zH h1;clear h1;have X2:=zH h2;clear h2 hs hf;go_enter Tryz.func133,Tryz.ntmps133;go_wp2_with fail;refine W1.out.mono ?_;rintro e w1 ⟨rfl,rfl⟩;go_wp2_with fail;refine W2.out.mono ?_
  all_goals
   rintro e w1 ⟨rfl,rfl⟩;go_wp2;go_ret;exact⟨rfl,rfl⟩
 ·have w1:=J8 stock 0 SP.length false (by simp;omega) w;have W1:=zH w1;clear w1 hc;have X1:=zH h1;clear h1 hs hf;go_enter Tryz.func133,Tryz.ntmps133;go_wp2_with fail;refine W1.out.mono ?_;rintro e w1 ⟨rfl,rfl⟩;go_wp2;go_ret;exact⟨rfl,rfl⟩
end
attribute [local go_sem ↓] Go.wp_at_zero Go.wp_at_succ
section
variable {w:World}{p:Nat}{i0 i1 i2 i3 i4 i5:Value}{G:Nat->Prop}{v0 v1 v2 v3:Value}{SD SP FD FP:zU}
theorem Z6O (h:XG w p i0 i1 i2 i3 i4 i5 G v0 v1 v2 v3 SD SP FD FP)(stock foil:Nat)(flip:Int)(hs:SD.length+SP.length<=16777216)(hf:FD.length+FP.length<=16777216)
  (k1:stock<=SP.length) (k2:foil<=FP.length) (k3 : -1<=flip) (k4:flip < 8 * ((stock:Int)+foil)):
  Calls zq 133 #[.pointer (some ⟨p,6,none⟩),.int .i64 stock,.int .i64 foil,.int .i64 flip] w fun e w'=>e = .returned (.int .i64 0) /\
   ∃G' u0 u1 u2 u3,XG w' p i0 i1 i2 i3 i4 i5 G' u0 u1 u2 u3 (SD ++ (QC SP FP stock foil flip).take stock) [] (FD ++ (QC SP FP stock foil flip).drop stock) []/\Za (fun k=>k=p) w w'/\(∀k,G' k->G k\/w.heap.size<=k):=by
 obtain⟨c0,c1,c2,c3,f0,f1,f2,f3⟩:=h.cells;obtain⟨a0,n0,rfl,r0⟩:=h.s0.rd;obtain⟨a1,n1,rfl,r1⟩:=h.s1.rd;obtain⟨a2,n2,rfl,r2⟩:=h.s2.rd;obtain⟨a3,n3,rfl,r3⟩:=h.s3.rd;have hp:=h.plt;have H:=zH h;clear h;have w1:=J8 stock 0 SP.length true (by simp;omega) w;have w2:=J8 foil 0 FP.length true (by simp;omega) w;have w3:=J8 flip (-1) (8 * ((stock:Int)+foil) - 1) true (by simp;omega) w;have W1:=zH w1;have W2:=zH w2;have W3:=zH w3;clear w1 w2 w3;have hb1:stock<=16777216:=by omega
 have hb2:foil<=16777216:=by omega
 have HS:=zH hs;clear hs;have HF:=zH hf;clear hf;have K1:=zH k1;clear k1;have K2:=zH k2;clear k2;have K3:=zH k3;clear k3;have K4:=zH k4;clear k4;obtain⟨ja,hcut1,hj⟩:=U9 r1 0 stock none (some (.int .i64 (stock:Int))) (.inl ⟨rfl,rfl⟩) (.inr ⟨_,by go_num⟩) (Nat.zero_le _) K1.out;obtain⟨ka,hcut3,hk⟩:=U9 r3 0 foil none (some (.int .i64 (foil:Int))) (.inl ⟨rfl,rfl⟩) (.inr ⟨_,by go_num⟩) (Nat.zero_le _) K2.out;rw[Nat.sub_zero,Nat.sub_zero,List.drop_zero]at hj hk;simp only[Nat.sub_zero]at hcut1 hcut3;have bA:Below w.heap.size w (w.alloc (.cells #[] 5)):=zB _ _;have bAd:Below w.heap.size w (w.alloc (.cells #[] 5)).drew:=bA.drew;have oA:=Vy w w.heap.size (Nat.le_refl _);have zA:=bA.size;have zAd:=bAd.size;have oAd:=Zb oA ((Below.refl (w.alloc (.cells #[] 5)).heap.size (w.alloc (.cells #[] 5))).drew);have jA:=hj.below bAd;have keep0:w.drew.cell? ⟨p,7,none⟩=some (.slice a1 SP.length n1)/\w.drew.cell? ⟨p,9,none⟩=some (.slice a3 FP.length n3):=⟨c1,c3⟩;have keep1:(w.alloc (.cells #[] 5)).drew.cell? ⟨p,7,none⟩=some (.slice a1 SP.length n1)/\(w.alloc (.cells #[] 5)).drew.cell? ⟨p,9,none⟩=some (.slice a3 FP.length n3):=⟨(bAd.cell (p:=⟨p,7,none⟩) hp).trans c1,(bAd.cell (p:=⟨p,9,none⟩) hp).trans c3⟩;go_enter Tryz.func133,Tryz.ntmps133;go_wp2_with fail;refine W1.out.mono ?_;rintro e w1 ⟨rfl,rfl⟩;go_wp2_with fail;refine W2.out.mono ?_;rintro e w1 ⟨rfl,rfl⟩;go_wp2_with fail;refine W3.out.mono ?_;rintro e w1 ⟨rfl,rfl⟩;go_upto_region 3 with fail;go_region_held3 (fun w'=>w'.cell? ⟨p,7,none⟩=some (.slice a1 SP.length n1)/\w'.cell? ⟨p,9,none⟩=some (.slice a3 FP.length n3))
  (first
   | with_reducible exact keep0
   | with_reducible exact keep1
   | with_reducible exact keep2
   | with_reducible exact keep3)
  (first
   |(refine Yk rfl _ _ rfl w.heap.size _ _ _ (SP.take stock) rfl ho2 _ _ _ (FP.take foil) rfl kk2 (by omega) z2 ?_;intro ta tc w3 ho3 hg3;have b3:=b2.grown hg3 z2 (fun q hq=>(ho2.lt q hq).1);have keep3:=And.intro ((b3.cell (p:=⟨p,7,none⟩) hp).trans c1) ((b3.cell (p:=⟨p,9,none⟩) hp).trans c3))
   |(refine Yk rfl _ _ rfl w.heap.size _ _ _ [] rfl oAd _ _ _ (SP.take stock) rfl jA (by omega) zAd ?_;simp only[Nat.zero_add,List.nil_append];intro sa sc w2 ho2 hg2;have b2:=bAd.grown hg2 zAd (fun q hq=>(oAd.lt q hq).1);have z2:=b2.size;have kk2:=hk.below b2;have keep2:=And.intro ((b2.cell (p:=⟨p,7,none⟩) hp).trans c1) ((b2.cell (p:=⟨p,9,none⟩) hp).trans c3)))
 have HH:=zH hcut1;clear hcut1 hcut3 keep0 keep1 keep2 keep3;clear hj hk bA bAd oA zA zAd oAd jA ho2 hg2 b2 z2 kk2 hg3 c0 c1 c2 c3 r0 r1 r2 r3 W1 W2 W3 HH f0 f1 f2 f3;have HS1:=zH (show SD.length<=16777216/\FD.length<=16777216 by have h1:=HS.out;have h2:=HF.out;omega);by_cases hm:flip < 0
 ·go_upto_region 6 with fail;have hL:QC SP FP stock foil flip=SP.take stock ++ FP.take foil:=by unfold QC;rw[if_neg (by omega)]
  rw[<-hL]at ho3;clear hL;have h4:=H.out.below b3;obtain⟨c0,c1,c2,c3,f0,f1,f2,f3⟩:=h4.cells;obtain⟨_,_,e0,r0⟩:=h4.s0.rd;cases e0;have H4:=zH h4;clear h4;have hp4:=H4.out.plt;obtain⟨la,hcut1,hl1⟩:=U9 (Yb.of_own ho3) 0 stock none (some (.int .i64 (stock:Int))) (.inl ⟨rfl,rfl⟩) (.inr ⟨_,by go_num⟩) (Nat.zero_le _) (Nat.le_add_right _ _);rw[Nat.sub_zero,List.drop_zero]at hl1;simp only[Nat.sub_zero]at hcut1 hl1;have bB:Below w3.heap.size w3 (w3.alloc (.cells #[] 5)):=zB _ _;have bBd:=bB.drew;have oB:=Zb (Vy w3 w3.heap.size (Nat.le_refl _)) ((Below.refl (w3.alloc (.cells #[] 5)).heap.size (w3.alloc (.cells #[] 5))).drew);have zB:=bBd.size;have rB:=r0.below bBd;have HO:=zH ho3;have HB:=zH b3;clear ho3 b3 bB r0;go_region_law (first
   |(refine Yk rfl _ _ rfl w3.heap.size _ _ _ SD rfl ho4 _ _ _ _ rfl ll4 (by have:=HS1.out.1;omega) z4 ?_;intro sb sd w5 ho5 hg5;have b5:=b4.grown hg5 z4 (fun q hq=>(ho4.lt q hq).1);have h5:=H4.out.below b5;obtain⟨y0,y1,_,_,y4,y5,_,_⟩:=h5.cells;have H5:=zH h5;clear h5)
   |(refine Yk rfl _ _ rfl w3.heap.size _ _ _ [] rfl oB _ _ _ SD rfl rB (by have:=HS1.out.1;omega) zB ?_;simp only[Nat.zero_add,List.nil_append];intro sa' sc' w4 ho4 hg4;have b4:=bBd.grown hg4 zB (fun q hq=>(oB.lt q hq).1);have z4:=b4.size;have ll4:=hl1.below b4))
  all_goals
   have h6:=H5.out.set01 (Vl.of_own ho5) (Vl.nil w5);have S6:=zH ((Za.of_below (S:=fun k=>k=p) (HB.out.trans (b5.mono HB.out.size))).trans (J3 w5 p 6 7 (.slice sb (SD.length+stock) sd) (.slice none 0 0)));have F6:Hid (∀k,Value.ownBlock (.slice sb (SD.length+stock) sd)=some k->w.heap.size<=k):=fun k hk=>Nat.le_trans HB.out.size (ho5.lt k hk).1;have O6:=Zi (Zb HO.out b5) (J3 w5 p 6 7 (.slice sb (SD.length+stock) sd) (.slice none 0 0)) (fun k hk e=>J9 (Zb HO.out b5) H5.out.blk (by decide) (by rw[hk,e]));clear c0 c1 c2 c3 f0 f1 f2 f3 hcut1 hl1 bBd oB zB rB ho4 hg4 b4 z4 ll4 ho5 hg5 b5 y0 y1 y4 y5 H5 H4 hp4 HO;generalize (w5.setCell ⟨p,6,none⟩ (.slice sb (SD.length+stock) sd)).setCell ⟨p,7,none⟩ (.slice none 0 0)=w6 at *;have z6:=S6.out.size;go_upto_region 7 with fail;obtain⟨c0,c1,c2,c3,f0,f1,f2,f3⟩:=h6.cells;obtain⟨_,_,e2,r2⟩:=h6.s2.rd;cases e2;have H6:=zH h6;clear h6;have hp6:=H6.out.plt;obtain⟨ra,hcut2,hr1⟩:=U9 (Yb.of_own O6) stock (stock+foil) (some (.int .i64 (stock:Int))) none (.inr ⟨_,by go_num⟩) (.inl ⟨rfl,rfl⟩) (Nat.le_add_right _ _) (Nat.le_refl _);rw[Nat.add_sub_cancel_left,List.take_of_length_le (by rw[List.length_drop,Z4g _ _ _ _ _ K1.out K2.out];omega)]at hr1;simp only[Nat.add_sub_cancel_left]at hcut2;have bB:Below w6.heap.size w6 (w6.alloc (.cells #[] 5)):=zB _ _;have bBd:=bB.drew;have oB:=Zb (Vy w6 w6.heap.size (Nat.le_refl _)) ((Below.refl (w6.alloc (.cells #[] 5)).heap.size (w6.alloc (.cells #[] 5))).drew);have zB:=bBd.size;have rB:=r2.below bBd;clear bB r2 O6;go_region_law (first
    |(refine Yk rfl _ _ rfl w6.heap.size _ _ _ FD rfl ho7 _ _ _ _ rfl ll7 (by have:=HS1.out.2;omega) z7 ?_;intro fb fd w8 ho8 hg8;have b8:=b7.grown hg8 z7 (fun q hq=>(ho7.lt q hq).1);have h8:=H6.out.below b8;obtain⟨_,_,y2,y3,_,_,y6,y7⟩:=h8.cells;have H8:=zH h8;clear h8)
    |(refine Yk rfl _ _ rfl w6.heap.size _ _ _ [] rfl oB _ _ _ FD rfl rB (by have:=HS1.out.2;omega) zB ?_;simp only[Nat.zero_add,List.nil_append];intro fa' fc' w7 ho7 hg7;have b7:=bBd.grown hg7 zB (fun q hq=>(oB.lt q hq).1);have z7:=b7.size;have ll7:=hr1.below b7))
   all_goals
    have h9:=zH (H8.out.set23 (Vl.of_own ho8) (Vl.nil w8));have S9:=zH ((S6.out.trans (Za.of_below (S:=fun k=>k=p) b8)).trans (J3 w8 p 8 9 (.slice fb (FD.length+foil) fd) (.slice none 0 0)));have F9:Hid (∀k,Value.ownBlock (.slice fb (FD.length+foil) fd)=some k->w.heap.size<=k):=fun k hk=>Nat.le_trans z6 (ho8.lt k hk).1;go_wp2;go_ret
    first | refine⟨rfl,_,_,_,_,_,h9.out,S9.out,?_⟩ | refine⟨rfl,_,⟨_,_,_,_,h9.out⟩,S9.out,?_⟩
    rintro k (rfl | hk | hk | hk | hk)
    ·exact .inl H.out.self
    ·exact .inr (F6.out k hk)
    ·exact absurd hk (J4 k)
    ·exact .inr (F9.out k hk)
    ·exact absurd hk (J4 k)
 ·obtain⟨f,rfl⟩:=Int.eq_ofNat_of_zero_le (show 0<=flip by omega);have hA:f / 8 < stock+foil:=by have:=K4.out;omega
  obtain⟨g,rfl,hg0,hcell,hfz,ho,hgr⟩:=Z9w ho3 (f / 8) hA (((SP.take stock ++ FP.take foil)[f / 8]?.getD 0) ^^^ UInt8.ofNat (2 ^ (f % 8)));have hx:=Z29 ((SP.take stock ++ FP.take foil)[f / 8]?.getD 0) (UInt8.ofNat (2 ^ (f % 8)));have hL:QC SP FP stock foil (f:Int)=(SP.take stock ++ FP.take foil).set (f / 8) (((SP.take stock ++ FP.take foil)[f / 8]?.getD 0) ^^^ UInt8.ofNat (2 ^ (f % 8))):=by unfold QC;rw[if_pos (by omega)];rfl
  rw[<-hL]at ho;have b4:=(b3.grown hgr b3.size (fun k hk=>by cases hk;exact hg0)).drew;have ho4:=Zb ho (Below.refl _ _).drew;have HX:=zH hx;clear hx hL ho hgr ho3;go_upto_region 5 with fail;go_region;rw[Z91,HX.out];clear hcell hfz b3;generalize (w3.setCell ⟨g,f / 8,none⟩ (.int .u8 ((((SP.take stock ++ FP.take foil)[f / 8]?.getD 0) ^^^ UInt8.ofNat (2 ^ (f % 8))).toNat:Int))).drew=wz at *;have HA:=zH hA;clear hA;go_upto_region 6 with fail;have h4:=H.out.below b4;obtain⟨c0,c1,c2,c3,f0,f1,f2,f3⟩:=h4.cells;obtain⟨_,_,e0,r0⟩:=h4.s0.rd;cases e0;have H4:=zH h4;clear h4;have hp4:=H4.out.plt;obtain⟨la,hcut1,hl1⟩:=U9 (Yb.of_own ho4) 0 stock none (some (.int .i64 (stock:Int))) (.inl ⟨rfl,rfl⟩) (.inr ⟨_,by go_num⟩) (Nat.zero_le _) (Nat.le_add_right _ _);rw[Nat.sub_zero,List.drop_zero]at hl1;simp only[Nat.sub_zero]at hcut1 hl1;have bB:Below wz.heap.size wz (wz.alloc (.cells #[] 5)):=zB _ _;have bBd:=bB.drew;have oB:=Zb (Vy wz wz.heap.size (Nat.le_refl _)) ((Below.refl (wz.alloc (.cells #[] 5)).heap.size (wz.alloc (.cells #[] 5))).drew);have zB:=bBd.size;have rB:=r0.below bBd;have HO:=zH ho4;have HB:=zH b4;clear ho4 b4 bB r0;go_region_law (first
   |(refine Yk rfl _ _ rfl wz.heap.size _ _ _ SD rfl ho4 _ _ _ _ rfl ll4 (by have:=HS1.out.1;omega) z4 ?_;intro sb sd w5 ho5 hg5;have b5:=b4.grown hg5 z4 (fun q hq=>(ho4.lt q hq).1);have h5:=H4.out.below b5;obtain⟨y0,y1,_,_,y4,y5,_,_⟩:=h5.cells;have H5:=zH h5;clear h5)
   |(refine Yk rfl _ _ rfl wz.heap.size _ _ _ [] rfl oB _ _ _ SD rfl rB (by have:=HS1.out.1;omega) zB ?_;simp only[Nat.zero_add,List.nil_append];intro sa' sc' w4 ho4 hg4;have b4:=bBd.grown hg4 zB (fun q hq=>(oB.lt q hq).1);have z4:=b4.size;have ll4:=hl1.below b4))
  all_goals
   have h6:=H5.out.set01 (Vl.of_own ho5) (Vl.nil w5);have S6:=zH ((Za.of_below (S:=fun k=>k=p) (HB.out.trans (b5.mono HB.out.size))).trans (J3 w5 p 6 7 (.slice sb (SD.length+stock) sd) (.slice none 0 0)));have F6:Hid (∀k,Value.ownBlock (.slice sb (SD.length+stock) sd)=some k->w.heap.size<=k):=fun k hk=>Nat.le_trans HB.out.size (ho5.lt k hk).1;have O6:=Zi (Zb HO.out b5) (J3 w5 p 6 7 (.slice sb (SD.length+stock) sd) (.slice none 0 0)) (fun k hk e=>J9 (Zb HO.out b5) H5.out.blk (by decide) (by rw[hk,e]));clear c0 c1 c2 c3 f0 f1 f2 f3 hcut1 hl1 bBd oB zB rB ho4 hg4 b4 z4 ll4 ho5 hg5 b5 y0 y1 y4 y5 H5 H4 hp4 HO;generalize (w5.setCell ⟨p,6,none⟩ (.slice sb (SD.length+stock) sd)).setCell ⟨p,7,none⟩ (.slice none 0 0)=w6 at *;have z6:=S6.out.size;go_upto_region 7 with fail;obtain⟨c0,c1,c2,c3,f0,f1,f2,f3⟩:=h6.cells;obtain⟨_,_,e2,r2⟩:=h6.s2.rd;cases e2;have H6:=zH h6;clear h6;have hp6:=H6.out.plt;obtain⟨ra,hcut2,hr1⟩:=U9 (Yb.of_own O6) stock (stock+foil) (some (.int .i64 (stock:Int))) none (.inr ⟨_,by go_num⟩) (.inl ⟨rfl,rfl⟩) (Nat.le_add_right _ _) (Nat.le_refl _);rw[Nat.add_sub_cancel_left,List.take_of_length_le (by rw[List.length_drop,Z4g _ _ _ _ _ K1.out K2.out];omega)]at hr1;simp only[Nat.add_sub_cancel_left]at hcut2;have bB:Below w6.heap.size w6 (w6.alloc (.cells #[] 5)):=zB _ _;have bBd:=bB.drew;have oB:=Zb (Vy w6 w6.heap.size (Nat.le_refl _)) ((Below.refl (w6.alloc (.cells #[] 5)).heap.size (w6.alloc (.cells #[] 5))).drew);have zB:=bBd.size;have rB:=r2.below bBd;clear bB r2 O6;go_region_law (first
    |(refine Yk rfl _ _ rfl w6.heap.size _ _ _ FD rfl ho7 _ _ _ _ rfl ll7 (by have:=HS1.out.2;omega) z7 ?_;intro fb fd w8 ho8 hg8;have b8:=b7.grown hg8 z7 (fun q hq=>(ho7.lt q hq).1);have h8:=H6.out.below b8;obtain⟨_,_,y2,y3,_,_,y6,y7⟩:=h8.cells;have H8:=zH h8;clear h8)
    |(refine Yk rfl _ _ rfl w6.heap.size _ _ _ [] rfl oB _ _ _ FD rfl rB (by have:=HS1.out.2;omega) zB ?_;simp only[Nat.zero_add,List.nil_append];intro fa' fc' w7 ho7 hg7;have b7:=bBd.grown hg7 zB (fun q hq=>(oB.lt q hq).1);have z7:=b7.size;have ll7:=hr1.below b7))
   all_goals
    have h9:=zH (H8.out.set23 (Vl.of_own ho8) (Vl.nil w8));have S9:=zH ((S6.out.trans (Za.of_below (S:=fun k=>k=p) b8)).trans (J3 w8 p 8 9 (.slice fb (FD.length+foil) fd) (.slice none 0 0)));have F9:Hid (∀k,Value.ownBlock (.slice fb (FD.length+foil) fd)=some k->w.heap.size<=k):=fun k hk=>Nat.le_trans z6 (ho8.lt k hk).1;go_wp2;go_ret
    first | refine⟨rfl,_,_,_,_,_,h9.out,S9.out,?_⟩ | refine⟨rfl,_,⟨_,_,_,_,h9.out⟩,S9.out,?_⟩
    rintro k (rfl | hk | hk | hk | hk)
    ·exact .inl H.out.self
    ·exact .inr (F6.out k hk)
    ·exact absurd hk (J4 k)
    ·exact .inr (F9.out k hk)
    ·exact absurd hk (J4 k)
end
def Z9d (f:Ys)(id:Int)(w:World)(e:Ending)(W:World):Prop:=
 (¬(f.valid=true/\1<=id/\id<=8)/\e = .returned (.tuple #[.pointer none,.int .i64 1])) \/
 (f.valid=true/\(1<=id/\id<=8) /\ ∃p mb sp,e = .returned (.tuple #[.pointer (some ⟨p,0,none⟩),.int .i64 0])/\Xl W p mb sp (fun _=>none) (fun k=>k=sp) (ZC.new f id) /\ ∀k,XJ p mb (fun _=>none) (fun k=>k=sp) k->w.heap.size<=k)
theorem Z15 (f:Ys)(id:Int)(w:World)(hid:1<=id/\id<=8):
  Calls zq 12 #[f.val,.int .i64 id] w fun e w'=>Z9d f id w e w'/\Below w.heap.size w w':=by
 have VF:=zH (fun W=>Z3i f.rings f.sectors f.wide W);have hvl:f.val = .agg #[.int .i64 f.rings,.int .i64 f.sectors,.int .i64 f.wide]:=rfl;have HID:=zH (show 1<=id/\id<=8 by omega);rw[hvl];clear hvl;have B0:=zH (zB w (zF f 23));have F0:=zH (Z9 w (zF f 23));have q1:decide (id < 1)=false:=by simp;omega
 have q2:decide (8 < id)=false:=by simp;omega
 clear hid;go_enter Tryz.func12,Tryz.ntmps12;go_upto_region 1 with fail;obtain⟨p2,hp2⟩:=zX (w.heap.size);rw[hp2.out]at F0;rw[hp2.out];generalize w.alloc (zF f 23)=w0 at *;have c0:=Z6 F0.out 0 (.int .i64 f.rings) rfl;have c1:=Z6 F0.out 1 (.int .i64 f.sectors) rfl;have c2:=Z6 F0.out 2 (.int .i64 f.wide) rfl;go_wp2_with fail;refine(VF.out w0).mono ?_;rintro e w1 ⟨rfl,b1⟩;have B1:=zH (B0.out.trans (b1.mono B0.out.size));have F1:=zH (Z7 b1 F0.out);clear b1 c0 c1 c2 q1 q2;cases hv:Ys.valid ⟨f.rings,f.sectors,f.wide⟩
 ·have HV:Hid (¬(f.valid=true/\1<=id/\id<=8)):=zH (fun h=>by
   have h1:Ys.valid ⟨f.rings,f.sectors,f.wide⟩=true:=h.1;rw[hv]at h1;cases h1)
  clear hv;go_wp2_with fail;go_returns;exact⟨.inl ⟨HV.out,rfl⟩,B1.out⟩
 have HV:Hid (f.valid=true):=zH hv;clear hv;have hmm := @run_makeMap zq;go_upto_region 3 with fail;apply Ze5 (P:=fun mb sp p W=>Hid (Below w1.heap.size w1 W/\Xl W p mb sp (fun _=>none) (fun k=>k=sp) (ZC.new f id)/\w.heap.size<=mb/\w.heap.size<=sp/\w.heap.size<=p))
 ·intro REST;refine zb fun hh=>?_;have HB0:=zH (show Below w1.heap.size w1 w1.drew from(Below.refl _ _).drew);generalize w1.drew=V0 at *;refine zT 0 rfl (.agg #[.int .i64 f.rings,.int .i64 f.sectors,.int .i64 f.wide]) (Y7 (by kernel_rfl) 23 _ rfl p2 rfl _ 23 (0,0) _ (fun W h=>Z7 h F1.out) Tryz.underlying23 rfl (by kernel_rfl)) ?_;refine zW 1 rfl (.int .i64 id) ?_;refine zM [2,3] rfl (fun K hK=>?_) ?_
  focus
   have bz:Below V0.heap.size V0 (V0.alloc (.map #[] 0)):=zB _ _;have HB1:=zH (HB0.out.trans (bz.mono HB0.out.size));have HM1:=zH (YY.made (enc:=LN.val) V0);have KGE:Hid (w.heap.size<=V0.heap.size):=zH (Nat.le_trans B1.out.size HB0.out.size);clear bz;go_simp;obtain⟨mb,hmb⟩:=zX (V0.heap.size);rw[hmb.out]at HM1 KGE;rw[hmb.out];generalize V0.alloc (.map #[] 0)=V1 at *;refine zK hK HB1.out fun hh=>?_;clear hK K;refine zR 3 rfl fun K hK=>?_;go_simp;go_at_call 48;refine(zl V1).mono ?_;rintro e V2 ⟨rfl,hk,b1⟩;have SGE:Hid (w.heap.size<=V1.heap.size):=zH (Nat.le_trans B1.out.size HB1.out.size);obtain⟨sp,hsp⟩:=zX (V1.heap.size);have HB2:=zH (HB1.out.trans (b1.mono HB1.out.size));have HM2:=zH (HM1.out.below b1);clear b1;rw[hsp.out]at hk SGE;rw[hsp.out];have HK2:=zH hk;clear hk;dsimp only
  rotate_left
  focus
   refine zn fun K hK=>?_;go_simp;go_at_call 48;refine(zl V0).mono ?_;rintro e V1 ⟨rfl,hk,b1⟩;have SGE:Hid (w.heap.size<=V0.heap.size):=zH (Nat.le_trans B1.out.size HB0.out.size);obtain⟨sp,hsp⟩:=zX (V0.heap.size);have HB1:=zH (HB0.out.trans (b1.mono HB0.out.size));clear b1;rw[hsp.out]at hk SGE;rw[hsp.out];have HK1:=zH hk;clear hk;dsimp only;refine zK hK HB1.out fun hh=>?_;clear hK K;refine zR 2 rfl fun K hK=>?_;have bz:Below V1.heap.size V1 (V1.alloc (.map #[] 0)):=zB _ _;have HB2:=zH (HB1.out.trans (bz.mono HB1.out.size));have HM2:=zH (YY.made (enc:=LN.val) V1);have KGE:Hid (w.heap.size<=V1.heap.size):=zH (Nat.le_trans B1.out.size HB1.out.size);have HK2:=zH (HK1.out.same (S:=fun _=>False) (Za.of_below bz) (fun _ h=>h.elim));clear bz;go_simp;obtain⟨mb,hmb⟩:=zX (V1.heap.size);rw[hmb.out]at HM2 KGE;rw[hmb.out];generalize V1.alloc (.map #[] 0)=V2 at *
  all_goals
   refine zK hK HB2.out fun hh=>?_;clear hK K;refine zS 4 rfl (.agg (J6 f id mb (fun _=>0) sp)) (fun W _=>by kernel_rfl) ?_;refine zR 5 rfl fun K hK=>?_;have bz:Below V2.heap.size V2 (V2.alloc (.cells (J6 f id mb (fun _=>0) sp) 109)):=zB _ _;have HB3:=zH (HB2.out.trans (bz.mono HB2.out.size));have HM3:=zH (HM2.out.below bz);have HK3:=zH (HK2.out.same (S:=fun _=>False) (Za.of_below bz) (fun _ h=>h.elim));have HP3:=zH (Z9 V2 (.cells (J6 f id mb (fun _=>0) sp) 109));have PGE:Hid (w.heap.size<=V2.heap.size):=zH (Nat.le_trans B1.out.size HB2.out.size);clear bz;go_simp;obtain⟨p,hp⟩:=zX (V2.heap.size);rw[hp.out]at HP3 PGE;rw[hp.out];generalize V2.alloc (.cells (J6 f id mb (fun _=>0) sp) 109)=V3 at *;refine zK hK HB3.out fun hh=>?_;clear hK K;refine zw 6 rfl p 0 ?_;refine zW 7 rfl (.int .i64 0) ?_;refine zE ?_;exact REST mb sp p V3 (zH ⟨HB3.out,⟨HP3.out,HM3.out,(fun k x h=>by cases h),(fun n h=>by cases h),(fun k x h=>by cases h),HK3.out⟩,KGE.out,SGE.out,PGE.out⟩)
 intro mb sp p W QQ;go_wp2_with fail;go_returns;exact⟨.inr ⟨HV.out,HID.out,p,mb,sp,rfl,QQ.out.2.1,fun k hk=>by
  have hp:=QQ.out.2.2;rcases hk with h | h | h | ⟨a,x,h,_⟩
  ·omega
  ·omega
  ·have h2:k=sp:=h;omega
  ·cases h⟩,B1.out.trans (QQ.out.1.mono B1.out.size)⟩
theorem Z4S (f:Ys)(id:Int)(w:World)(hid : ¬(1<=id/\id<=8)):
  Calls zq 12 #[f.val,.int .i64 id] w fun e w'=>e = .returned (.tuple #[.pointer none,.int .i64 1])/\Below w.heap.size w w':=by
 have hvl:f.val = .agg #[.int .i64 f.rings,.int .i64 f.sectors,.int .i64 f.wide]:=rfl;rw[hvl];clear hvl;have B0:=zH (zB w (zF f 23));by_cases h1:id < 1
 focus
  have q1:decide (id < 1)=true:=by simp[h1]
 rotate_left
 focus
  have q1:decide (id < 1)=false:=by simp;omega
  have q2:decide (8 < id)=true:=by simp;omega
 all_goals
  clear h1 hid;go_enter Tryz.func12,Tryz.ntmps12;go_wp2_with fail;go_returns;exact⟨rfl,B0.out⟩
theorem Z4R (f:Ys)(id:Int)(w:World):Calls zq 12 #[f.val,.int .i64 id] w fun e w'=>Z9d f id w e w'/\Below w.heap.size w w':=by
 by_cases hid:1<=id/\id<=8
 ·exact Z15 f id w hid
 ·refine(Z4S f id w hid).mono fun e w' h=>⟨.inl ⟨fun h2=>hid h2.2,h.1⟩,h.2⟩
theorem Z0M (p mb sp:Nat)(G:Nm->Option LN)(SF:Nat->Prop)(S:ZC)(w:World)(hh:Xl w p mb sp G SF S):
  Calls zq 20 #[.pointer (some ⟨p,0,none⟩)] w fun e w'=>e = .returned (.tuple #[])/\Xl w' p mb sp G SF S.sync/\Za (fun k=>k=sp) w w':=by
 have HH:=zH hh;have DIS:=zH hh.dis;have SP:=zH hh.stk.self;have c14:=Z6 hh.blk 14 (.pointer (some ⟨sp,0,none⟩)) rfl;have MD:=zH (VW w p mb sp S.f S.id S.c hh.blk);have SY:=zH (Z3E w sp SF S.sb S.fb S.sd S.fd hh.stk);clear hh;go_enter Tryz.func20,Tryz.ntmps20;go_wp2_with fail;refine MD.out.mono ?_;rintro e w1 ⟨rfl,rfl⟩;go_wp2_with fail;refine SY.out.mono ?_;rintro e w2 ⟨rfl,hk,hs⟩;have K:=zH hk;have HS:=zH hs;clear hk hs c14;go_wp2;go_end0;have hne : ∀k,SF k->k≠p/\k≠mb:=fun k hk=>⟨fun e=>DIS.out.ps (e ▸ hk),fun e=>DIS.out.ms (e ▸ hk)⟩;exact⟨rfl,⟨(HS.out.block p (Zq HH.out.blk) (fun e=>(hne sp SP.out).1 e.symm)).trans HH.out.blk,HH.out.map.of_block (HS.out.block mb HH.out.map.lt (fun e=>(hne sp SP.out).2 e.symm)),HH.out.gs,HH.out.gl,
  fun k x hk=>Zi (HH.out.str k x hk) HS.out (fun b hb e=>(DIS.out.st k x hk b hb).2.2 (by rw[show b=sp from e];exact SP.out)),K.out⟩,HS.out⟩
theorem Z2g {z:Int}(h:Xb z):Qm z:=by
 unfold Xb far at h;unfold Qm;omega
theorem Z6y {n:NoteV}(h:JU n):n.Ok:=by
 obtain⟨h1,h2,h3,_⟩:=h;have a : ∀z∈Zn n,Qm z:=fun z hz=>Z2g (h1 z hz);have b : ∀z∈Zr n,Qm z:=fun z hz=>Z2g (h3 z hz);simp only[Zn,Zr,List.mem_cons,List.not_mem_nil,or_false]at a b;refine⟨a _ ?_,a _ ?_,a _ ?_,a _ ?_,a _ ?_,a _ ?_,a _ ?_,a _ ?_,a _ ?_,a _ ?_,a _ ?_,a _ ?_,a _ ?_,a _ ?_,a _ ?_,b _ ?_,b _ ?_,b _ ?_,fun z hz=>Z2g (h2 z hz)⟩ <;> simp
theorem Z0K: ∀(k:Nat) (st fo:zU),(UQ k st fo).length<=k /\ ∀x∈UQ k st fo,x.length<=8192
 | 0,_,_=>⟨Nat.le_refl _,fun x h=>by simp[UQ]at h⟩
 | k+1,st,fo=>by
  unfold UQ
  split
  ·rename_i h
   obtain⟨h1,h2⟩:=Z0K k (st.drop (atN st 0+2)) (fo.drop 4)
   refine⟨by rw[List.length_cons];omega,fun x hx=>?_⟩
   rcases List.mem_cons.1 hx with rfl | hx
   ·rw[List.length_take];have:=h.2.2.1;omega
   ·exact h2 x hx
  ·exact⟨Nat.zero_le _,fun x h=>by simp at h⟩
theorem ZcI (S:ZC)(l:List NoteV):(Yy S l).1.f=S.f:=by
 unfold Yy;split
 ·rfl
 ·split
  ·rfl
  ·exact Z6m _ _
theorem Z9W {A:ZC}{n:NoteV}(h : ¬((Yy A [n]).2.2=0/\(Yy A [n]).2.1=1)):(Yy A [n]).1=A:=by
 cases hb:[n].any (fun n=>!decide (ZD A.f n=0))with
 | true=>rw[UT hb]
 | false=>
  cases hg:Ym A.l [] A.c [n]with
  | none=>rw[QZ hb hg]
  | some r=>
   obtain⟨fr,c'⟩:=r;rw[US hb hg]at h ⊢;have h2:fr=[]:=by
    rw[Ym]at hg;split at hg
    ·split at hg
     ·simp[Ym]at hg;exact hg.1
     ·cases hg
    ·split at hg
     ·simp[Ym]at hg;exact hg.1
     ·simp[Ym]at hg;obtain⟨rfl,_⟩:=hg;exact absurd ⟨rfl,rfl⟩ h
   rw[h2];rfl
theorem Z7s {α:Type}{l:List α}{i:Nat}{x:α}(h:l[i]? = some x):l.drop i=x :: l.drop (i+1):=by
 obtain⟨h1,h2⟩:=List.getElem?_eq_some_iff.1 h;rw[List.drop_eq_getElem_cons h1,h2]
theorem QS (W:World)(p:Nat)(c:Xz):Za (fun k=>k=p) W (W.setRow p c):=Za.of_grown (Y6 W p c) (fun k e=>by cases e;rfl)
def ZdY (w:World)(p mb:Nat)(G:Nm->Option LN)(SF:Nat->Prop)(S:ZC)(stock foil flip:Int)(e:Ending)(W:World):Prop:=
 ∃S' code,CrP S stock foil flip S' code/\Xr S'/\e = .returned (.int .i64 code) /\ ∃mb' sp' G' SF',Xl W p mb' sp' G' SF' S'/\Za (XJ p mb G SF) w W /\ ∀k,XJ p mb' G' SF' k->XJ p mb G SF k\/w.heap.size<=k
structure Z7Q (w W3 W:World)(p p2 mb2 sp2:Nat)(SF:Nat->Prop)(S:ZC)(mb sp:Nat)(G2:Nm->Option LN)(SF2:Nat->Prop)(A:ZC)(bs:List (zU))(i:Nat):Prop where
 hou:Xl W p2 mb2 sp2 G2 SF2 A
 inv:Xr A
 f:A.f=S.f
 rcv:Jr (ZC.new S.f S.id) bs=Jr A (bs.drop i)
 len:A.l.length<=i
 same:Za (fun k=>k=p2\/k=mb2\/k=sp2\/W3.heap.size<=k) W3 W
 foot : ∀k,XJ p2 mb2 G2 SF2 k->k=p2\/k=mb2\/k=sp2\/W3.heap.size<=k
 blk:W.heap[p]? = some (.cells (J6 S.f S.id mb S.c sp) 109)
 np:p≠p2/\p≠mb2/\p≠sp2/\p < W3.heap.size
section
variable {w W3 W W':World}{p p2 mb2 sp2:Nat}{SF:Nat->Prop}{S:ZC}{mb sp:Nat}{G2 G3:Nm->Option LN}{SF2 SF3:Nat->Prop}{A A':ZC}{bs:List (zU)}{i j:Nat}
theorem Z7Q.below (h:Z7Q w W3 W p p2 mb2 sp2 SF S mb sp G2 SF2 A bs i)(hb:Below W.heap.size W W'):Z7Q w W3 W' p p2 mb2 sp2 SF S mb sp G2 SF2 A bs i:=
 ⟨h.hou.below hb,h.inv,h.f,h.rcv,h.len,h.same.trans (Za.of_below hb),h.foot,Z7 hb h.blk,h.np⟩
theorem Z7Q.step (h:Z7Q w W3 W p p2 mb2 sp2 SF S mb sp G2 SF2 A bs i)(hh:Xl W' p2 mb2 sp2 G3 SF3 A')(hi:Xr A')(hf:A'.f=S.f)(hr:Jr (ZC.new S.f S.id) bs=Jr A' (bs.drop j))(hl:A'.l.length<=j)
  (hs:Za (XJ p2 mb2 G2 SF2) W W') (hn : ∀k,XJ p2 mb2 G3 SF3 k->XJ p2 mb2 G2 SF2 k\/W.heap.size<=k):Z7Q w W3 W' p p2 mb2 sp2 SF S mb sp G3 SF3 A' bs j:=
 ⟨hh,hi,hf,hr,hl,h.same.trans (hs.weaken h.foot),fun k hk=>(hn k hk).elim (h.foot k) (fun h2=>.inr (.inr (.inr (Nat.le_trans h.same.size h2)))),
  (hs.block p (Zq h.blk) (fun hk=>by rcases h.foot p hk with h2 | h2 | h2 | h2 <;> have:=h.np <;> omega)).trans h.blk,h.np⟩
end
theorem Z4q (f:Ys)(id:Int)(mb:Nat)(c:Int->Nat)(sp:Nat):(J6 f id mb c sp).all (·.oneCell')=true:=by simp[J6,Value.oneCell']
theorem Z8y (p mb sp:Nat)(G:Nm->Option LN)(SF:Nat->Prop)(S:ZC)(stock foil flip:Int)(w:World)(hh:Xl w p mb sp G SF S)(hi:Xr S)(hlen:S.l.length < 400):
  Calls zq 21 #[.pointer (some ⟨p,0,none⟩),.int .i64 stock,.int .i64 foil,.int .i64 flip] w fun e w'=>ZdY w p mb G SF S stock foil flip e w':=by
 have HH:=zH hh;have HI:=zH hi;have HLEN:=zH hlen;have DIS:=zH hh.dis;have HLT:=zH hh.lt;have MD:=zH (VW w p mb sp S.f S.id S.c hh.blk);have c14:=Z6 hh.blk 14 (.pointer (some ⟨sp,0,none⟩)) rfl;by_cases hok:Uy S.sb S.fb S.sd S.fd stock foil flip
 case neg=>
  have HC:=zH hok;have CN:=zH (Zbl w sp SF S.sb S.fb S.sd S.fd stock foil flip hh.stk hok);clear hh hi hok hlen;go_enter Tryz.func21,Tryz.ntmps21;go_wp2_with fail;refine MD.out.mono ?_;rintro e w1 ⟨rfl,rfl⟩;go_wp2_with fail;refine CN.out.mono ?_;rintro e w2 ⟨rfl,q,rfl⟩;clear c14;go_wp2;go_ret;have bq:=below_drewN (Below.refl w1.heap.size w1) q;exact⟨S,1,.inl ⟨HC.out,rfl,rfl⟩,HI.out,rfl,mb,sp,G,SF,HH.out.below bq,Za.of_below bq,fun k hk=>.inl hk⟩
 have HC:=zH hok;obtain⟨st,rfl⟩:=Int.eq_ofNat_of_zero_le hok.1;obtain⟨fo,rfl⟩:=Int.eq_ofNat_of_zero_le hok.2.2.1;have CY:=zH (Z5x w sp SF S.sb S.fb S.sd S.fd st fo flip hh.stk hok);clear hh hi hok hlen;go_enter Tryz.func21,Tryz.ntmps21;go_wp2_with fail;refine MD.out.mono ?_;rintro e w1 ⟨rfl,rfl⟩;go_wp2_with fail;refine CY.out.mono ?_;rintro e W1 ⟨rfl,F1,h1,h2,h3⟩;clear c14;have K1:=zH h1;have S1:=zH h2;have P1:Hid (W1.heap[p]? = some (.cells (J6 S.f S.id mb S.c sp) 109)):=zH ((h2.block p (Zq HH.out.blk) DIS.out.ps).trans HH.out.blk);have PW1:Hid (p < W1.heap.size):=zH (Zq P1.out);clear h1 h2 h3 CY MD;obtain⟨cs,hcs⟩:=zX (JL S.sb S.sd st flip);obtain⟨cf,hcf⟩:=zX (Ja S.fb S.fd st fo flip);have CFL:Hid (cf.length<=S.fb.length):=zH (by
  rw[<-hcf.out];unfold Ja;split
  ·rw[Qj,List.length_take];omega
  ·rw[List.length_take];omega)
 rw[hcs.out,hcf.out]at K1;go_upto_region 6 with fail;refine zp P1.out fun hh=>?_;have BU:=zH ((zd W1));generalize W1.drew=U at *;refine zw 0 rfl p 0 ?_;refine zw 1 rfl p 0 ?_;refine zw 2 rfl p 0 ?_;refine zS 3 rfl (.agg #[.int .i64 S.f.rings,.int .i64 S.f.sectors,.int .i64 S.f.wide]) (fun W h=>by have h0:=Z6 h 0 (.int .i64 S.f.rings) rfl;have h1:=Z6 h 1 (.int .i64 S.f.sectors) rfl;have h2:=Z6 h 2 (.int .i64 S.f.wide) rfl;go_simp) ?_;refine zw 4 rfl p 0 ?_;refine zw 5 rfl p 0 ?_;refine zw 6 rfl p 3 ?_;refine zS 7 rfl (.int .i64 S.id) (fun W h=>by have hc:=Z6 h 3 (.int .i64 S.id) rfl;go_simp) ?_;refine zR 8 rfl fun K hK=>?_;go_simp;go_at_call 12;refine(Z15 S.f S.id U HI.out.id).mono ?_;rintro e W2 ⟨h1,bb⟩;rcases h1 with ⟨hbad,_⟩ | ⟨_,_,p2,mb2,sp2,rfl,h2,h3⟩
 ·exact absurd ⟨HI.out.v,HI.out.id⟩ hbad
 have B2:=zH (BU.out.trans (bb.mono BU.out.size));have P2:=zH (Z7 bb hh);have H2:=zH h2;have GE2:=zH (show ∀k,XJ p2 mb2 (fun _=>none) (fun k=>k=sp2) k->W1.heap.size<=k from fun k hk=>Nat.le_trans BU.out.size (h3 k hk));clear bb h2 h3 hh;dsimp only;refine zK hK P2.out fun hh=>?_;clear hK K;refine zW 9 rfl (.tuple #[.pointer (some ⟨p2,0,none⟩),.int .i64 0]) ?_;refine zw 10 rfl p2 0 ?_;refine zW 11 rfl (.int .i64 0) ?_;refine zw 12 rfl p2 0 ?_;refine zW 13 rfl (.int .i64 0) ?_;refine zE ?_;clear hh BU P1;have K2:=zH (K1.out.same (S:=fun _=>False) (Za.of_below B2.out) (fun _ h=>h.elim));have c14:=Z6 P2.out 14 (.pointer (some ⟨sp,0,none⟩)) rfl;go_wp2_with fail;refine(Z0Y W2 sp F1 cs cf cs.length cf.length K2.out).mono ?_;rintro e W3 ⟨oa,oc,rfl,h1,b3⟩;have L2:=zH H2.out.lt;have OB:=zH h1;have P3:=zH (Z7 b3 P2.out);have H3:=zH (H2.out.below b3);have B3:=zH (B2.out.trans (b3.mono B2.out.size));have SZ3:=zH b3.size;clear h1 b3 c14 K2 P2 K1;obtain⟨bs,hbs⟩:=zX (ZB cs cf);rw[hbs.out]at OB ⊢;have BL:Hid (bs.length<=S.l.length /\ ∀x∈bs,x.length<=8192):=zH (by
  rw[<-hbs.out];unfold ZB;obtain⟨h1,h2⟩:=Z0K (cf.length / 4) cs cf;refine⟨?_,h2⟩;have h3:=CFL.out;have h4:=HI.out.fbl;have h5:=HI.out.len;omega)
 obtain⟨n,hn⟩:=zX (bs.length);rw[hn.out]at OB BL ⊢;have BBX:Hid (∀W',Za (fun k=>k=p2\/k=mb2\/k=sp2\/W3.heap.size<=k) W3 W'->Z23 W' oa n oc bs):=zH (fun W' hs=>by
  obtain⟨vs,o1,o2,o3⟩:=OB.out;have l1:p2 < W2.heap.size:=L2.out p2 (.inl rfl);have l2:mb2 < W2.heap.size:=L2.out mb2 (.inr (.inl rfl));have l3:sp2 < W2.heap.size:=L2.out sp2 (.inr (.inr (.inl H2.out.stk.self)));have:Xq W' W2.heap.size oa n oc bs:=⟨vs,Zi o1 hs (fun b hb h=>by
    have h4:=o1.lt b hb;rcases h with h | h | h | h <;> omega),o2,fun i hi=>by
    obtain⟨ai,ci,q1,q2⟩:=o3 i hi;refine⟨ai,ci,q1,Zi q2 hs (fun b hb h=>?_)⟩;obtain⟨cur,hk⟩:=Z0g q2 b hb;rcases h with rfl | rfl | rfl | h
    ·rw[H3.out.blk]at hk;simp only[Option.some.injEq,Obj.cells.injEq]at hk;exact absurd hk.2.1 (by decide)
    ·obtain⟨es,cl,hm⟩:=H3.out.map.blk;rw[hm]at hk;cases hk
    ·obtain⟨sa,sc,fa,fc,g1,_⟩:=id H3.out.stk;rw[g1]at hk;simp only[Option.some.injEq,Obj.cells.injEq]at hk;exact absurd hk.2.1 (by decide)
    ·have:=(q2.lt b hb).2;omega⟩
  exact this.rd)
 have FT0 : ∀k,XJ p2 mb2 (fun _=>none) (fun k=>k=sp2) k->k=p2\/k=mb2\/k=sp2\/W3.heap.size<=k:=fun k hk=>by
  rcases hk with h | h | h | ⟨a,x,h,_⟩
  ·exact .inl h
  ·exact .inr (.inl h)
  ·exact .inr (.inr (.inl h))
  ·cases h
 have NP0:p≠p2/\p≠mb2/\p≠sp2/\p < W3.heap.size:=by
  have q1:=GE2.out p2 (.inl rfl);have q2:=GE2.out mb2 (.inr (.inl rfl));have q3:=GE2.out sp2 (.inr (.inr (.inl rfl)));have q4:=PW1.out;have q5:=Zq P3.out;omega
 have CA0:Hid (Z7Q w1 W3 W3 p p2 mb2 sp2 SF S mb sp (fun _=>none) (fun k=>k=sp2) (ZC.new S.f S.id) bs 0):=zH ⟨H3.out,Xr.new HI.out.v HI.out.id,rfl,by rw[List.drop_zero],Nat.le_refl _,Za.refl _ _,FT0,P3.out,NP0⟩;clear FT0 NP0 OB H3 P3 H2 L2;have N63:Hid ((n:Int)<=400):=zH (by have h1:=BL.out.1;have h2:=HLEN.out;have h3:=hn.out;omega);go_wp2_with fail;go_loopw [50] (fun iv wr=>∃(i:Nat) (A:ZC) (G2:Nm->Option LN) (SF2:Nat->Prop),iv = .int .i64 (i:Int)/\i<=n/\Hid (Z7Q w1 W3 wr p p2 mb2 sp2 SF S mb sp G2 SF2 A bs i)) (fun iv _=>n - (intOf iv).toNat)
 case atStart=>exact⟨0,_,_,_,rfl,Nat.zero_le _,CA0⟩
 case round=>
  clear CA0;obtain⟨i,A,G2,SF2,rfl,hin,CA⟩:=hrel;by_cases hlt:i < n
  ·have t0:decide ((i:Int) < (n:Int))=true:=by simp;omega
   obtain⟨b,off,hoa,hc⟩:=(BBX.out wr CA.out.same).at (show 0 < n by omega);obtain⟨ai,ci,hx,hri⟩:=hc i hlt;obtain⟨x,Hx⟩ : ∃x,bs[i]? = some x:=⟨_,List.getElem?_eq_getElem (by rw[hn.out];exact hlt)⟩;rw[Hx]at hx hri;have RX:=zH (show Yb wr ai x.length ci x from hri);have XL:=zH (BL.out.2 x (List.mem_of_getElem? Hx));have DR:=zH (Z7s Hx);have hk64:(i:Int) < n:=by omega
   simp only[Option.getD_some]at hx;clear hc hri Hx;subst hoa;have c0:=Z6 CA.out.blk 0 (.int .i64 S.f.rings) rfl;have c1:=Z6 CA.out.blk 1 (.int .i64 S.f.sectors) rfl;have c2:=Z6 CA.out.blk 2 (.int .i64 S.f.wide) rfl;go_wp2_with fail;clear t0;have DC:=zH (Z7u S.f x ai x.length ci wr RX.out (Nat.le_trans XL.out (by decide)));have hvl:S.f.val = .agg #[.int .i64 S.f.rings,.int .i64 S.f.sectors,.int .i64 S.f.wide]:=rfl;rw[hvl]at DC;clear hvl;refine DC.out.mono ?_;clear DC;rintro e w5 (⟨m,sa,sc,hdec,rfl,ho,b5⟩ | ⟨hdec,rfl,b5⟩)
   ·have DE:Hid (Jl A.f x=some m):=zH (by rw[CA.out.f];exact hdec);have MC:=zH (Z7B hdec);have MOK:Hid m.Ok:=zH (Z6y (Z3H MC.out.1));have O5:=zH ho;have F2L:=zH CA.out.hou.lt;have WRS:=zH b5.size;replace CA:=zH (CA.out.below b5);clear hdec ho b5 c0 c1 c2 hx;go_upto_region 11 with (first
     |(refine zP w5 w5.heap.size (Z5 m sa sc) ?_))
    have bt:Below w5.heap.size w5 (w5.alloc (.cells (Z5 m sa sc) 47)):=zB _ _;have N14:=zH (Z9 w5 (.cells (Z5 m sa sc) 47));replace CA:=zH (CA.out.below bt);replace O5:=zH (Zb O5.out bt);replace WRS:=zH (Nat.le_trans WRS.out bt.size);obtain⟨p14,hp14⟩:=zX (w5.heap.size);rw[hp14.out]at N14;rw[hp14.out];generalize w5.alloc (.cells (Z5 m sa sc) 47)=w6 at *;clear bt hp14;have b7:Below w6.heap.size w6 (w6.alloc (.cells (Z5 m sa sc) 47)):=zB _ _;have R7:=zH (Z9 w6 (.cells (Z5 m sa sc) 47));have CA7:=zH (CA.out.below b7);have O7:=zH (Zb O5.out b7);have PB:Hid (wr.heap.size<=w6.heap.size):=zH WRS.out;obtain⟨pb,hpb⟩:=zX (w6.heap.size);go_wp2_with (first
     |(refine zL p14 N14.out ?_)
     |(refine YT rfl _ rfl m sa sc rfl ?_))
    rw[hpb.out]at R7 PB;rw[hpb.out];generalize w6.alloc (.cells (Z5 m sa sc) 47)=w7 at *;clear b7 hpb;refine(Z5q p2 mb2 sp2 G2 SF2 A (some ⟨pb,0,none⟩) 1 1 [m] [⟨m,sa,sc⟩] w7 CA7.out.hou CA7.out.inv rfl (fun W hs=>⟨rfl,Nat.le_refl _,by decide,.inr ⟨pb,0,rfl,fun j y hy=>by
     have hj:j=0:=by have:=(List.getElem?_eq_some_iff.1 hy).1;simp at this;exact this
     subst hj;simp only[List.getElem?_cons_zero,Option.some.injEq]at hy;subst hy;refine⟨fun q v hv=>?_,ZX.of_own (Zi O7.out hs (fun b hb h=>by have h1:=F2L.out b h;have h2:=(O7.out.lt b hb).1;omega))⟩;have hb2:=hs.block pb (Zq R7.out) (fun h=>by have h1:=F2L.out pb h;have h2:=PB.out;omega);have h3:W.heap[pb]? = some (.cells (Z5 m sa sc) 47):=hb2.trans R7.out;rw[show 0+0 * 19+q=q by omega];exact Z6 h3 q v (by rw[<-Array.getElem?_toList];exact hv)⟩⟩) (fun y hy=>by rw[List.mem_singleton.1 hy];exact MOK.out) (by have h1:=CA7.out.len;have h2:=N63.out;omega)).mono ?_
    rintro e w8 ⟨rfl,G3,SF3,h1,h2,h3⟩;obtain⟨A',XI,code,hap⟩ : ∃A' XI code,Hid (Yy A [m]=(A',XI,code)):=⟨_,_,_,zH rfl⟩;have HI2:=(Z2A CA7.out.inv (l:=[m]) (fun y hy=>by rw[List.mem_singleton.1 hy];exact MOK.out));have HF2:=ZcI A [m];have HST := @Z9W A m;rw[hap.out]at h1 HI2 HF2 HST ⊢;dsimp only at h1 HI2 HF2 HST ⊢;have H8:=zH h1;have S8:=zH h2;have F8:=zH h3;have I8:=zH HI2;have E8:=zH HF2;have T8:=zH HST;clear h1 h2 h3 HI2 HF2 HST;by_cases hgo:code=0/\XI=1
    ·obtain⟨rfl,rfl⟩:=hgo;have CA8:=zH (CA7.out.step (j:=i+1) H8.out I8.out.1 (E8.out.trans CA7.out.f) (CA7.out.rcv.trans (by rw[DR.out];exact Z3U DE.out hap.out)) (Nat.le_trans I8.out.2 (Nat.add_le_add_right CA7.out.len 1)) S8.out F8.out);clear CA CA7 H8 S8 F8 I8 E8 T8 hap;have hi64:(i:Int)+1<=401:=by have:=N63.out;omega
     go_wp2;go_roundw
     case rel=>exact⟨i+1,A',G3,SF3,by go_num,by omega,CA8⟩
     case measure=>simp[intOf];omega
    have hAA:A'=A:=T8.out hgo;have REC:Hid (Jr (ZC.new S.f S.id) bs=A):=zH (by
     rw[CA7.out.rcv,DR.out];refine zj ?_;rw[DE.out];show(if (Yy A [m]).2.2=0/\(Yy A [m]).2.1=1 then some (Yy A [m]).1 else none)=none;rw[hap.out];exact if_neg hgo)
    rw[hAA]at H8;replace CA:=zH (CA7.out.step (j:=i) H8.out CA7.out.inv CA7.out.f CA7.out.rcv CA7.out.len S8.out F8.out);clear CA7 H8 S8 F8 I8 E8 T8 hap hAA;by_cases hc0:code=0
    focus
     have t1:(XI != 1)=true:=by
      have:XI≠1:=fun h=>hgo ⟨hc0,h⟩;simp[this]
     subst hc0;clear hgo
    rotate_left
    focus
     have t1:(code != 0)=true:=by simp[hc0]
     clear hgo hc0
    all_goals
     go_upto_region 15 with fail;clear t1 hlt;go_wp2_with fail;refine(Z0M p2 mb2 sp2 G3 SF3 A _ CA.out.hou).mono ?_;rintro e X1 ⟨rfl,h1,h2⟩;have HS:=zH h1;have SX:=zH h2;have PX:=zH ((h2.block p (Zq CA.out.blk) CA.out.np.2.2.1).trans CA.out.blk);have P2X:Hid (X1.heap[p2]? = some (.cells (J6 A.f A.id mb2 A.c sp2) 109)):=zH h1.blk;have SP2:=zH CA.out.hou.stk.self;have HSZ:Hid ((zq.info? 109).map (·.size)=some (J6 A.f A.id mb2 A.c sp2).size):=zH (by kernel_rfl);clear h1 h2;have oneH:=Z4q A.f A.id mb2 A.c sp2;go_wp2_with (first
      |(refine wpList_load_row rfl 109 _ rfl p2 rfl 109 (J6 A.f A.id mb2 A.c sp2) (0,0) _ P2X.out Tryz.underlying109 rfl HSZ.out ?_)
      |(refine ZY rfl 109 _ _ rfl p (J6 S.f S.id mb S.c sp) (J6 A.f A.id mb2 A.c sp2) 109 rfl rfl PX.out HSZ.out rfl oneH ?_))
     go_ret;have S3:=QS X1 p (J6 A.f A.id mb2 A.c sp2);have g1:=GE2.out p2 (.inl rfl);have g2:=GE2.out mb2 (.inr (.inl rfl));have g3:=GE2.out sp2 (.inr (.inr (.inl rfl)));have g4:=S1.out.size;have g5:=B3.out.size;have g6 : ∀k,k=p2\/k=mb2\/k=sp2\/W3.heap.size<=k->w1.heap.size<=k:=fun k hk=>by omega
     have HS3:=HS.out.same S3 (fun k hk h=>by
      rw[show k=p from hk]at h;have h5:=CA.out.np;rcases CA.out.foot p h with h | h | h | h <;> omega)
     have SW1:Za (XJ p mb G SF) w1 W3:=(S1.out.weaken (fun k hk=>.inr (.inr (.inl hk)))).trans (Za.of_below B3.out);have SW2:=Yq SW1 CA.out.same (fun k hk=>.inr (g6 k hk));have SW3:=Yq SW2 SX.out (fun k hk=>.inr (g6 k (.inr (.inr (.inl hk)))));have SW4:=SW3.trans (S3.weaken (fun k hk=>.inl hk));exact⟨A.sync,0,.inr ⟨HC.out,by rw[Int.toNat_natCast,Int.toNat_natCast,hcs.out,hcf.out,hbs.out,REC.out],rfl⟩,CA.out.inv.sync,rfl,mb2,sp2,G3,SF3,
      ⟨ZP X1 p _ (J6 A.f A.id mb2 A.c sp2) _ _ PX.out,HS3.map,HS3.gs,HS3.gl,HS3.str,HS3.stk⟩,SW4,fun k hk=>by
       rcases hk with h | h
       ·exact .inl (.inl h)
       ·exact .inr (g6 k (CA.out.foot k (.inr h)))⟩
   ·have REC:Hid (Jr (ZC.new S.f S.id) bs=A):=zH (by
     rw[CA.out.rcv,DR.out];refine zj ?_;rw[CA.out.f,hdec];rfl)
    replace CA:=zH (CA.out.below b5);clear hdec b5 c0 c1 c2 hx;go_upto_region 11 with (first
     |(refine zP w5 w5.heap.size (Z5 Zd none 0) ?_))
    have bt:Below w5.heap.size w5 (w5.alloc (.cells (Z5 Zd none 0) 47)):=zB _ _;replace CA:=zH (CA.out.below bt);clear bt;generalize w5.alloc (.cells (Z5 Zd none 0) 47)=w6 at *;go_upto_region 15 with fail;clear hlt;go_wp2_with fail;refine(Z0M p2 mb2 sp2 G2 SF2 A _ CA.out.hou).mono ?_;rintro e X1 ⟨rfl,h1,h2⟩;have HS:=zH h1;have SX:=zH h2;have PX:=zH ((h2.block p (Zq CA.out.blk) CA.out.np.2.2.1).trans CA.out.blk);have P2X:Hid (X1.heap[p2]? = some (.cells (J6 A.f A.id mb2 A.c sp2) 109)):=zH h1.blk;have SP2:=zH CA.out.hou.stk.self;have HSZ:Hid ((zq.info? 109).map (·.size)=some (J6 A.f A.id mb2 A.c sp2).size):=zH (by kernel_rfl);clear h1 h2;have oneH:=Z4q A.f A.id mb2 A.c sp2;go_wp2_with (first
     |(refine wpList_load_row rfl 109 _ rfl p2 rfl 109 (J6 A.f A.id mb2 A.c sp2) (0,0) _ P2X.out Tryz.underlying109 rfl HSZ.out ?_)
     |(refine ZY rfl 109 _ _ rfl p (J6 S.f S.id mb S.c sp) (J6 A.f A.id mb2 A.c sp2) 109 rfl rfl PX.out HSZ.out rfl oneH ?_))
    go_ret;have S3:=QS X1 p (J6 A.f A.id mb2 A.c sp2);have g1:=GE2.out p2 (.inl rfl);have g2:=GE2.out mb2 (.inr (.inl rfl));have g3:=GE2.out sp2 (.inr (.inr (.inl rfl)));have g4:=S1.out.size;have g5:=B3.out.size;have g6 : ∀k,k=p2\/k=mb2\/k=sp2\/W3.heap.size<=k->w1.heap.size<=k:=fun k hk=>by omega
    have HS3:=HS.out.same S3 (fun k hk h=>by
     rw[show k=p from hk]at h;have h5:=CA.out.np;rcases CA.out.foot p h with h | h | h | h <;> omega)
    have SW1:Za (XJ p mb G SF) w1 W3:=(S1.out.weaken (fun k hk=>.inr (.inr (.inl hk)))).trans (Za.of_below B3.out);have SW2:=Yq SW1 CA.out.same (fun k hk=>.inr (g6 k hk));have SW3:=Yq SW2 SX.out (fun k hk=>.inr (g6 k (.inr (.inr (.inl hk)))));have SW4:=SW3.trans (S3.weaken (fun k hk=>.inl hk));exact⟨A.sync,0,.inr ⟨HC.out,by rw[Int.toNat_natCast,Int.toNat_natCast,hcs.out,hcf.out,hbs.out,REC.out],rfl⟩,CA.out.inv.sync,rfl,mb2,sp2,G2,SF2,
     ⟨ZP X1 p _ (J6 A.f A.id mb2 A.c sp2) _ _ PX.out,HS3.map,HS3.gs,HS3.gl,HS3.str,HS3.stk⟩,SW4,fun k hk=>by
      rcases hk with h | h
      ·exact .inl (.inl h)
      ·exact .inr (g6 k (CA.out.foot k (.inr h)))⟩
  ·have t0:decide ((i:Int) < (n:Int))=false:=by simp;omega
   have REC:Hid (Jr (ZC.new S.f S.id) bs=A):=zH (by rw[CA.out.rcv,List.drop_of_length_le (by rw[hn.out];omega)];rfl);go_upto_region 15 with fail;clear t0 hlt;go_wp2_with fail;refine(Z0M p2 mb2 sp2 G2 SF2 A _ CA.out.hou).mono ?_;rintro e X1 ⟨rfl,h1,h2⟩;have HS:=zH h1;have SX:=zH h2;have PX:=zH ((h2.block p (Zq CA.out.blk) CA.out.np.2.2.1).trans CA.out.blk);have P2X:Hid (X1.heap[p2]? = some (.cells (J6 A.f A.id mb2 A.c sp2) 109)):=zH h1.blk;have SP2:=zH CA.out.hou.stk.self;have HSZ:Hid ((zq.info? 109).map (·.size)=some (J6 A.f A.id mb2 A.c sp2).size):=zH (by kernel_rfl);clear h1 h2;have oneH:=Z4q A.f A.id mb2 A.c sp2;go_wp2_with (first
    |(refine wpList_load_row rfl 109 _ rfl p2 rfl 109 (J6 A.f A.id mb2 A.c sp2) (0,0) _ P2X.out Tryz.underlying109 rfl HSZ.out ?_)
    |(refine ZY rfl 109 _ _ rfl p (J6 S.f S.id mb S.c sp) (J6 A.f A.id mb2 A.c sp2) 109 rfl rfl PX.out HSZ.out rfl oneH ?_))
   go_ret;have S3:=QS X1 p (J6 A.f A.id mb2 A.c sp2);have g1:=GE2.out p2 (.inl rfl);have g2:=GE2.out mb2 (.inr (.inl rfl));have g3:=GE2.out sp2 (.inr (.inr (.inl rfl)));have g4:=S1.out.size;have g5:=B3.out.size;have g6 : ∀k,k=p2\/k=mb2\/k=sp2\/W3.heap.size<=k->w1.heap.size<=k:=fun k hk=>by omega
   have HS3:=HS.out.same S3 (fun k hk h=>by
    rw[show k=p from hk]at h;have h5:=CA.out.np;rcases CA.out.foot p h with h | h | h | h <;> omega)
   have SW1:Za (XJ p mb G SF) w1 W3:=(S1.out.weaken (fun k hk=>.inr (.inr (.inl hk)))).trans (Za.of_below B3.out);have SW2:=Yq SW1 CA.out.same (fun k hk=>.inr (g6 k hk));have SW3:=Yq SW2 SX.out (fun k hk=>.inr (g6 k (.inr (.inr (.inl hk)))));have SW4:=SW3.trans (S3.weaken (fun k hk=>.inl hk));exact⟨A.sync,0,.inr ⟨HC.out,by rw[Int.toNat_natCast,Int.toNat_natCast,hcs.out,hcf.out,hbs.out,REC.out],rfl⟩,CA.out.inv.sync,rfl,mb2,sp2,G2,SF2,
    ⟨ZP X1 p _ (J6 A.f A.id mb2 A.c sp2) _ _ PX.out,HS3.map,HS3.gs,HS3.gl,HS3.str,HS3.stk⟩,SW4,fun k hk=>by
     rcases hk with h | h
     ·exact .inl (.inl h)
     ·exact .inr (g6 k (CA.out.foot k (.inr h)))⟩
theorem Z3a {f:Ys}{m:NoteV}: ZD f m=0↔f.valid=true/\Zf f m=true:=by
 unfold ZD;cases f.valid <;> cases Zf f m <;> simp
theorem Z7A {f:Ys}{l:zU}{m:NoteV}: Jl f l=some m↔(∃t,Xv Je l=some (m,t))/\ZD f m=0/\Yc m=l:=by
 unfold Jl;cases h:Xv Je l with
 | none=>simp
 | some p=>
  obtain⟨m',t⟩:=p;simp only;by_cases hc:ZD f m'=0/\Yc m'=l
  ·rw[if_pos hc];constructor
   ·intro e;cases e;exact⟨⟨t,rfl⟩,hc⟩
   ·rintro⟨⟨t',e⟩,_⟩;cases e;rfl
  ·rw[if_neg hc];constructor
   ·intro e;cases e
   ·rintro⟨⟨t',e⟩,h2⟩;cases e;exact absurd h2 hc
theorem Z7x {f:Ys}{l:zU}{m:NoteV}: UV f l=some m↔Xv Xt l=some (m,[])/\ZD f m=0:=by
 unfold UV;cases h:Xv Xt l with
 | none=>simp
 | some p=>
  obtain⟨m',t⟩:=p;simp only;by_cases hc:t=[]/\ZD f m'=0
  ·rw[if_pos hc];obtain⟨rfl,hc⟩:=hc;constructor
   ·intro e;cases e;exact⟨rfl,hc⟩
   ·rintro⟨e,_⟩;cases e;rfl
  ·rw[if_neg hc];constructor
   ·intro e;cases e
   ·rintro⟨e,h2⟩;cases e;exact absurd ⟨rfl,h2⟩ hc
theorem Z3y (f:Ys)(l:zU):Jl f l=UV f l:=by
 apply Option.ext;intro m;rw[Z7A,Z7x];constructor
 ·rintro⟨h1,h2,h3⟩;obtain⟨hv,hf⟩:=Z3a.1 h2;exact⟨(Z4x hv l m hf).1 ⟨h1,h3⟩,h2⟩
 ·rintro⟨h1,h2⟩;obtain⟨hv,hf⟩:=Z3a.1 h2;obtain⟨h3,h4⟩:=(Z4x hv l m hf).2 h1;exact⟨h3,h2,h4⟩
theorem VN {ops:Array Oper}{rest:List Oper}{op:Oper}{a:Act}{w:World}{Q:Exit->Act->World->Prop}(hw:Region.wanted op (yielded ops a.tmps)=true)(x:Operand)(ho:op.op = .buildSlice 24 1 #[(0,x)])(n:NoteV)(sa:zA)(sc:Nat)(hx:a.eval x = .agg (Z5 n sa sc))
  (h:wpList zq ops Q rest (a.put op.dst (.slice (some ⟨w.heap.size,0,none⟩) 1 1)) (w.alloc (.cells (Z5 n sa sc) 47))):wpList zq ops Q (op :: rest) a w:=
 wpList_step fun _ hK=>by rw[if_pos hw];exact YG x ho n sa sc hx (hK _ _ h)
theorem Z87 {A:ZC}{zs:List LN}{x:LN}(hi:Xr A)(he:zs.map LN.n=A.l)(hc:ZD A.f x.n=0):
  ((Uj zs [x]).2=[]/\Z1e A (some x.n)=none)\/((Uj zs [x]).2=[x]/\Zf A.f x.n=true/\Z1e A (some x.n)=some (A.add x.n)/\Yy A [x.n]=(A.add x.n,1,0)):=by
 have hfm:Zf A.f x.n=true:=by
  unfold ZD at hc;rw[if_pos hi.v]at hc;by_cases h2:Zf A.f x.n=true
  ·exact h2
  ·rw[if_neg h2]at hc;cases hc
 have hf : ∀y∈[x],Zf A.f y.n=true:=fun y hy=>by rw[List.mem_singleton.1 hy];exact hfm
 have hb:[x.n].any (fun n=>!decide (ZD A.f n=0))=false:=by simp[hc]
 have hl:Uj zs [x]=Jc (zs,[]) x:=rfl;have e0:Uj zs ([x].take 0)=(zs,[]):=rfl;cases hq:Qc zs [x] 0 x with
 | true=>
  have hg:=Z5s hi he hf ⟨0,x,rfl,hq⟩;have hp:=QZ hb hg;refine .inl ⟨?_,?_⟩
  ·unfold Qc at hq;rw[e0]at hq;rcases Z0m x.n (zs.map LN.n)with ⟨_,h2⟩ | ⟨k,o,h1,_,_⟩
   ·simp only[List.append_nil]at hq;rw[h2]at hq;cases hq
   ·rw[hl];unfold Jc;rw[if_neg];have h3 : ¬Jz (zs.map LN.n) (Zk x.n) < 0:=by omega
    simp[h3]
  ·show(if (Yy A [x.n]).2.2=0/\(Yy A [x.n]).2.1=1 then some (Yy A [x.n]).1 else none)=none;rw[hp];rfl
 | false=>
  obtain⟨c,hg⟩:=Z5r hi he hf (fun i y hy=>by
   have h1:=(List.getElem?_eq_some_iff.1 hy).1;simp at h1;subst h1;simp only[List.getElem?_cons_zero,Option.some.injEq]at hy;subst hy;exact hq)
  have hp:=US hb hg;rw[hl]at hp ⊢;unfold Jc at hp ⊢;split at hp
  ·rename_i hs;rw[if_pos hs];have e1:Yy A [x.n]=(A.add x.n,1,0):=hp;refine .inr ⟨rfl,hfm,?_,e1⟩;show(if (Yy A [x.n]).2.2=0/\(Yy A [x.n]).2.1=1 then some (Yy A [x.n]).1 else none)=_;rw[e1];rfl
  ·rename_i hs;rw[if_neg hs];have e1:Yy A [x.n]=(A,0,0):=hp;refine .inl ⟨rfl,?_⟩;show(if (Yy A [x.n]).2.2=0/\(Yy A [x.n]).2.1=1 then some (Yy A [x.n]).1 else none)=none;rw[e1];rfl
def Z8R (f:Ys)(x:zU)(base:Nat)(m:NoteV)(ma:zA)(mc:Nat)(g:Int)(W:World):Prop:=
 (Jl f x=some m/\g=0/\W.ownsRow base 3 1 (.slice ma m.strokes.length mc) m.strokes.length (m.strokes.map Yo))\/(Jl f x=none/\g=90)
theorem Z8R.below {f:Ys}{x:zU}{base:Nat}{m:NoteV}{ma:zA}{mc:Nat}{g:Int}{W W':World}(h:Z8R f x base m ma mc g W)(hb:Below W.heap.size W W'):Z8R f x base m ma mc g W':=
 h.imp (fun h=>⟨h.1,h.2.1,Zb h.2.2 hb⟩) id
theorem Z9B (m:NoteV)(a:zA)(c:Nat):(Z5 m a c).all (·.oneCell')=true:=by kernel_rfl
def Zd1 (w:World)(p:Nat)(F:Nat->Prop)(S:ZC)(stock foil flip:Int)(e:Ending)(W:World):Prop:=
 ∃S' code,CrP S stock foil flip S' code/\Xr S'/\e = .returned (.int .i64 code)/\Z2J w p F S' W
structure CrR (w3 W:World)(p pA:Nat)(hc:Xz)(FA:Nat->Prop)(A S:ZC)(bs:List (zU))(i:Nat):Prop where
 hou:JN W pA FA A
 inv:Xr A
 f:A.f=S.f
 rcv:Jr (ZC.new S.f S.id) bs=Jr A (bs.drop i)
 len:A.l.length<=i
 same:Za (fun k=>k=pA\/w3.heap.size<=k) w3 W
 foot : ∀k,FA k->k=pA\/w3.heap.size<=k
 blk:W.heap[p]? = some (.cells hc 138)
 np:p≠pA/\p < w3.heap.size/\pA < w3.heap.size
section
variable {w3 W W':World}{p pA:Nat}{hc:Xz}{FA FA':Nat->Prop}{A A' S:ZC}{bs:List (zU)}{i j:Nat}
theorem CrR.below (h:CrR w3 W p pA hc FA A S bs i)(hb:Below W.heap.size W W'):CrR w3 W' p pA hc FA A S bs i:=
 ⟨h.hou.below hb,h.inv,h.f,h.rcv,h.len,h.same.trans (Za.of_below hb),h.foot,Z7 hb h.blk,h.np⟩
theorem CrR.fresh {q:Nat}(h:CrR w3 W p pA hc FA A S bs i)(hs:Za (fun k=>k=q) W W')(hq : ¬FA q)(h1:q≠p)(h2:w3.heap.size<=q):CrR w3 W' p pA hc FA A S bs i:=
 ⟨h.hou.same hs (fun k hk=>by rw[show k=q from hk];exact hq),h.inv,h.f,h.rcv,h.len,h.same.trans (hs.weaken (fun k hk=>.inr (by rw[show k=q from hk];exact h2))),h.foot,(hs.block p (Zq h.blk) (fun e=>h1 (show p=q from e).symm)).trans h.blk,h.np⟩
theorem CrR.step (h:CrR w3 W p pA hc FA A S bs i)(hh:JN W' pA FA' A')(hi:Xr A')(hf:A'.f=S.f)(hr:Jr (ZC.new S.f S.id) bs=Jr A' (bs.drop j))(hl:A'.l.length<=j)(hs:Za FA W W')(hn : ∀k,FA' k->FA k\/W.heap.size<=k):CrR w3 W' p pA hc FA' A' S bs j:=
 ⟨hh,hi,hf,hr,hl,h.same.trans (hs.weaken h.foot),fun k hk=>(hn k hk).elim (h.foot k) (fun h2=>.inr (Nat.le_trans h.same.size h2)),
  (hs.block p (Zq h.blk) (fun hk=>by rcases h.foot p hk with h2 | h2 <;> have:=h.np <;> omega)).trans h.blk,h.np⟩
end
theorem JN.copy {W:World}{p pA:Nat}{FA:Nat->Prop}{A:ZC}{hc:Xz}(h:JN W pA FA A)(hp:W.heap[p]? = some (.cells hc 138))(hne:p≠pA)(hnf : ¬FA p):
  ∃hc',W.heap[pA]? = some (.cells hc' 138)/\hc'.size=10/\hc'.all (·.oneCell')=true/\JN (W.setRow p hc') p (fun k=>k=p\/(FA k/\k≠pA)) A:=by
 obtain⟨sa,sc,zs,aa,ac,cs,G,v0,v1,v2,v3,h⟩:=h;have hk:=h.stk;obtain⟨a0,k0,e0,o0⟩:=id hk.s0;obtain⟨a1,k1,e1,o1⟩:=id hk.s1;obtain⟨a2,k2,e2,o2⟩:=id hk.s2;obtain⟨a3,k3,e3,o3⟩:=id hk.s3;refine⟨_,hk.blk,rfl,by simp[Value.oneCell',e0,e1,e2,e3],?_⟩;have hs:=QS W p #[.int .i64 A.f.rings,.int .i64 A.f.sectors,.int .i64 A.f.wide,.int .i64 A.id,.slice sa zs.length sc,.slice aa A.ad.length ac,v0,v1,v2,v3];have hG : ∀k,G k->FA k:=fun k hg=>(h.f k).2 (.inl hg);have np : ∀k,FA k -> ¬(k=p):=fun k hk e=>hnf (by rw[<-e];exact hk);have gA : ∀k,(v0.ownBlock=some k\/v1.ownBlock=some k\/v2.ownBlock=some k\/v3.ownBlock=some k)->FA k/\k≠pA:=fun k hv=>by
  refine⟨hG k ((hk.g k).2 (.inr hv)),fun e=>?_⟩;subst e;rcases hv with h1 | h1 | h1 | h1
  ·exact hk.s0.ne hk.blk (by decide) h1
  ·exact hk.s1.ne hk.blk (by decide) h1
  ·exact hk.s2.ne hk.blk (by decide) h1
  ·exact hk.s3.ne hk.blk (by decide) h1
 have ne1 : ∀{base e k m:Nat} {v:Value} {xs:List Value},W.ownsRow base e k v m xs->e≠138 -> ∀b,v.ownBlock=some b->b≠pA:=fun ho he b hb e=>J9 ho hk.blk he (by rw[hb,e]);refine⟨sa,sc,zs,aa,ac,cs,fun k=>k=p\/v0.ownBlock=some k\/v1.ownBlock=some k\/v2.ownBlock=some k\/v3.ownBlock=some k,v0,v1,v2,v3,
  ⟨ZP W p _ _ _ _ hp,hk.nb,hk.s0.same hs (fun k hv=>np k (gA k (.inl hv)).1),hk.s1.same hs (fun k hv=>np k (gA k (.inr (.inl hv))).1),hk.s2.same hs (fun k hv=>np k (gA k (.inr (.inr (.inl hv)))).1),hk.s3.same hs (fun k hv=>np k (gA k (.inr (.inr (.inr hv)))).1),fun k=>Iff.rfl⟩,
  Zi h.set hs (fun b hb=>np b ((h.f b).2 (.inr (.inl hb)))),h.eq,fun x hx=>Zi (h.str x hx) hs (fun b hb=>np b ((h.f b).2 (.inr (.inr (.inr ⟨x,hx,hb⟩))))),Zi h.add hs (fun b hb=>np b ((h.f b).2 (.inr (.inr (.inl hb))))),h.ap,h.sd,fun k=>?_⟩
 constructor
 ·rintro(hp2 | ⟨hf2,hn2⟩)
  ·exact .inl (.inl hp2)
  ·rcases(h.f k).1 hf2 with h1 | h1
   ·rcases(hk.g k).1 h1 with h2 | h2
    ·exact absurd h2 hn2
    ·exact .inl (.inr h2)
   ·exact .inr h1
 ·rintro((hp2 | hv) | hr)
  ·exact .inl hp2
  ·exact .inr (gA k hv)
  ·refine .inr ⟨(h.f k).2 (.inr hr),?_⟩;rcases hr with h1 | h1 | ⟨x,hx,h1⟩
   ·exact ne1 h.set (by decide) k h1
   ·exact ne1 h.add (by decide) k h1
   ·exact ne1 (h.str x hx) (by decide) k h1
theorem Z6N (p:Nat)(F:Nat->Prop)(S:ZC)(stock foil flip:Int)(w:World)(hh:JN w p F S)(hi:Xr S)(hlen:S.l.length < 400):
  Calls zq 79 #[.pointer (some ⟨p,0,none⟩),.int .i64 stock,.int .i64 foil,.int .i64 flip] w fun e w'=>Zd1 w p F S stock foil flip e w':=by
 have I43:=zH zI;have JB:=zH (show(zq.info? 41).map (·.size)=some 1 from by kernel_rfl);have HW:=zH hh;have HI:=zH hi;have HLEN:=zH hlen;obtain⟨sa,sc,zs,aa,ac,cs0,G,v0,v1,v2,v3,h⟩:=hh;have H:=zH h;have LS:(S.sb.take S.sd).length+(S.sb.drop S.sd).length<=16777216:=by have h1:=hi.sbl;have h2:=hi.len;rw[List.length_take,List.length_drop];omega
 have LF:(S.fb.take S.fd).length+(S.fb.drop S.fd).length<=16777216:=by have h1:=hi.fbl;have h2:=hi.len;rw[List.length_take,List.length_drop];omega
 have hcond:Uy S.sb S.fb S.sd S.fd stock foil flip↔(0<=stock/\stock<=((S.sb.drop S.sd).length:Int)/\0<=foil/\foil<=((S.fb.drop S.fd).length:Int) /\ -1<=flip/\flip < 8 * (stock+foil)):=by
  have h1:=h.sd;unfold Uy;rw[List.length_drop,List.length_drop];omega
 by_cases hok:Uy S.sb S.fb S.sd S.fd stock foil flip
 case neg=>
  have HC:=zH hok;have CN:=zH (Z89 h.stk stock foil flip LS LF (fun hh=>hok (hcond.2 hh)));clear hi hok hlen hcond LS LF h;go_enter Tryz.func79,Tryz.ntmps79;go_wp2_with fail;refine CN.out.mono ?_;rintro e w2 ⟨rfl,rfl⟩;go_wp2;go_ret;exact⟨S,1,.inl ⟨HC.out,rfl,rfl⟩,HI.out,rfl,Z2J.keep HW.out (Below.refl _ _)⟩
 have HC:=zH hok;have hcd:=hcond.1 hok;obtain⟨st,rfl⟩:=Int.eq_ofNat_of_zero_le hok.1;obtain⟨fo,rfl⟩:=Int.eq_ofNat_of_zero_le hok.2.2.1;have CY:=zH (Z6O h.stk st fo flip LS LF (by omega) (by omega) hcd.2.2.2.2.1 hcd.2.2.2.2.2);have EC1:Hid (S.sb.take S.sd ++ (QC (S.sb.drop S.sd) (S.fb.drop S.fd) st fo flip).take st=JL S.sb S.sd st flip):=zH (by
  have h1:=Z8l (S.sb.take S.sd) (S.sb.drop S.sd) (S.fb.drop S.fd) st fo flip (by omega) (by omega);rwa [List.take_append_drop,List.length_take,Nat.min_eq_left h.sd.1]at h1)
 have EC2:Hid (S.fb.take S.fd ++ (QC (S.sb.drop S.sd) (S.fb.drop S.fd) st fo flip).drop st=Ja S.fb S.fd st fo flip):=zH (by
  have h1:=Z9G (S.sb.drop S.sd) (S.fb.take S.fd) (S.fb.drop S.fd) st fo flip (by omega) (by omega);rwa [List.take_append_drop,List.length_take,Nat.min_eq_left h.sd.2]at h1)
 have LSS:=zH LS;have LFF:=zH LF;clear hi hok hlen hcond hcd LS LF h;go_enter Tryz.func79,Tryz.ntmps79;go_wp2_with fail;refine CY.out.mono ?_;rintro e W1 ⟨rfl,G1,u0,u1,u2,u3,h1,h2,h3⟩;rw[EC1.out,EC2.out]at h1;obtain⟨cs,hcs⟩:=zX (JL S.sb S.sd st flip);obtain⟨cf,hcf⟩:=zX (Ja S.fb S.fd st fo flip);have CFL:Hid (cf.length<=S.fb.length):=zH (by
  rw[<-hcf.out];unfold Ja;split
  ·rw[Qj,List.length_take];omega
  ·rw[List.length_take];omega)
 have CSL:Hid (cs.length<=S.sb.length):=zH (by
  rw[<-hcs.out];unfold JL;split
  ·rw[Qj,List.length_take];omega
  ·rw[List.length_take];omega)
 rw[hcs.out,hcf.out]at h1;have K1:=zH h1;have S1:=zH h2;clear h1 h2 h3 CY EC1 EC2;obtain⟨hc,hhc⟩:=zX (#[.int .i64 S.f.rings,.int .i64 S.f.sectors,.int .i64 S.f.wide,.int .i64 S.id,.slice sa zs.length sc,.slice aa S.ad.length ac,u0,u1,u2,u3]);have P1:Hid (W1.heap[p]? = some (.cells hc 138)):=zH (by rw[<-hhc.out];exact K1.out.blk);have HC0:Hid (hc[0]? = some (.int .i64 S.f.rings)/\hc[1]? = some (.int .i64 S.f.sectors)/\hc[2]? = some (.int .i64 S.f.wide)/\hc[3]? = some (.int .i64 S.id)/\hc.size=10):=zH (by rw[<-hhc.out];exact⟨rfl,rfl,rfl,rfl,rfl⟩);have PW1:Hid (p < W1.heap.size):=zH (Zq P1.out);go_upto_region 4 with fail;refine zp P1.out fun hh=>?_;have BU:=zH ((zd W1));generalize W1.drew=U at *;refine zw 0 rfl p 0 ?_;refine zw 1 rfl p 0 ?_;refine zw 2 rfl p 0 ?_;refine zS 3 rfl (.agg #[.int .i64 S.f.rings,.int .i64 S.f.sectors,.int .i64 S.f.wide]) (fun W h=>by have h0:=Z6 h 0 (.int .i64 S.f.rings) HC0.out.1;have h1:=Z6 h 1 (.int .i64 S.f.sectors) HC0.out.2.1;have h2:=Z6 h 2 (.int .i64 S.f.wide) HC0.out.2.2.1;go_simp) ?_;refine zw 4 rfl p 0 ?_;refine zw 5 rfl p 0 ?_;refine zw 6 rfl p 3 ?_;refine zS 7 rfl (.int .i64 S.id) (fun W h=>by have hc:=Z6 h 3 (.int .i64 S.id) HC0.out.2.2.2.1;go_simp) ?_;refine zW 8 rfl (.agg #[.int .i64 S.f.rings,.int .i64 S.f.sectors,.int .i64 S.f.wide,.int .i64 S.id,.slice none 0 0,.slice none 0 0,.slice none 0 0,.slice none 0 0,.slice none 0 0,.slice none 0 0]) ?_;refine zR 9 rfl fun K hK=>?_;have bb:=zB U (.cells #[.int .i64 S.f.rings,.int .i64 S.f.sectors,.int .i64 S.f.wide,.int .i64 S.id,.slice none 0 0,.slice none 0 0,.slice none 0 0,.slice none 0 0,.slice none 0 0,.slice none 0 0] 138);have PA:=zH (Z9 U (.cells #[.int .i64 S.f.rings,.int .i64 S.f.sectors,.int .i64 S.f.wide,.int .i64 S.id,.slice none 0 0,.slice none 0 0,.slice none 0 0,.slice none 0 0,.slice none 0 0,.slice none 0 0] 138));have P2:=zH (Z7 bb hh);have B2:=zH (BU.out.trans (bb.mono BU.out.size));have GA:Hid (W1.heap.size<=U.heap.size):=zH BU.out.size;clear hh bb;go_simp;obtain⟨pA,hpA⟩:=zX (U.heap.size)
 rw[hpA.out]at PA GA ⊢;generalize U.alloc (.cells #[.int .i64 S.f.rings,.int .i64 S.f.sectors,.int .i64 S.f.wide,.int .i64 S.id,.slice none 0 0,.slice none 0 0,.slice none 0 0,.slice none 0 0,.slice none 0 0,.slice none 0 0] 138)=W2 at *;refine zK hK P2.out fun hh=>?_;clear hK K;refine zw 10 rfl pA 0 ?_;refine zE ?_;clear hh BU;have K2:=zH (K1.out.below B2.out);have LAH:Hid (pA < W2.heap.size):=zH (Zq PA.out);go_wp2_with fail;refine(Z4L K2.out (by rw[List.length_nil];have h1:=CSL.out;have h2:=HI.out.sbl;have h3:=HI.out.len;have h4:=HLEN.out;omega) (by rw[List.length_nil];have h1:=CFL.out;have h2:=HI.out.fbl;have h3:=HI.out.len;have h4:=HLEN.out;omega)).mono ?_;rintro e W3 ⟨oa,oc,rfl,h1,b3⟩;rw[List.append_nil,List.append_nil]at h1 ⊢;have OB:=zH h1;have P3:=zH (Z7 b3 P2.out);have HA3:Hid (JN W3 pA (fun k=>k=pA) (ZC.new S.f S.id)):=zH (JN.new (Z7 b3 PA.out));have B3:=zH (B2.out.trans (b3.mono B2.out.size));have SZ3:=zH b3.size;clear h1 b3 K2 P2 PA K1;obtain⟨bs,hbs⟩:=zX (ZB cs cf);rw[hbs.out]at OB ⊢;have BL:Hid (bs.length<=S.l.length /\ ∀x∈bs,x.length<=8192):=zH (by
  rw[<-hbs.out];unfold ZB;obtain⟨h1,h2⟩:=Z0K (cf.length / 4) cs cf;refine⟨?_,h2⟩;have h3:=CFL.out;have h4:=HI.out.fbl;have h5:=HI.out.len;omega)
 obtain⟨n,hn⟩:=zX (bs.length);rw[hn.out]at OB BL ⊢;have BBX:Hid (∀W',Za (fun k=>k=pA\/W3.heap.size<=k) W3 W'->Z23 W' oa n oc bs):=zH (fun W' hs=>by
  obtain⟨vs,o1,o2,o3⟩:=OB.out;have:Xq W' W2.heap.size oa n oc bs:=⟨vs,Zi o1 hs (fun b hb h=>by
    have h4:=o1.lt b hb;have h5:=LAH.out;rcases h with h | h <;> omega),o2,fun i hi=>by
    obtain⟨ai,ci,q1,q2⟩:=o3 i hi;exact⟨ai,ci,q1,Zi q2 hs (fun b hb h=>by
     obtain⟨cur,hk⟩:=Z0g q2 b hb;rcases h with rfl | h
     ·obtain⟨sa9,sc9,zs9,aa9,ac9,cs9,G9,x0,x1,x2,x3,h9⟩:=HA3.out;rw[h9.stk.blk]at hk;simp only[Option.some.injEq,Obj.cells.injEq]at hk;exact absurd hk.2.1 (by decide)
     ·have:=(q2.lt b hb).2;omega)⟩⟩
  exact this.rd)
 have CA0:Hid (CrR W3 W3 p pA hc (fun k=>k=pA) (ZC.new S.f S.id) S bs 0):=zH ⟨HA3.out,Xr.new HI.out.v HI.out.id,rfl,by rw[List.drop_zero],Nat.le_refl _,Za.refl _ _,fun k hk=>.inl hk,P3.out,by have h1:=GA.out;have h2:=PW1.out;have h3:=SZ3.out;have h4:=LAH.out;have h5:=Zq P3.out;omega⟩;have N63:Hid ((n:Int)<=400):=zH (by have h1:=BL.out.1;have h2:=HLEN.out;have h3:=hn.out;omega);go_wp2_with fail;go_loopw [12,13,14] (fun iv _ _ wr=>∃(i:Nat) (A:ZC) (FA:Nat->Prop),iv = .int .i64 (i:Int)/\i<=n/\Hid (CrR W3 wr p pA hc FA A S bs i)) (fun iv _ _ _=>n - (intOf iv).toNat)
 case atStart=>exact⟨0,_,_,rfl,Nat.zero_le _,CA0⟩
 case round=>
  clear CA0;obtain⟨i,A,FA,rfl,hin,CA⟩:=hrel;by_cases hlt:i < n
  ·have t0:decide ((i:Int) < (n:Int))=true:=by simp;omega
   obtain⟨b,off,hoa,hcb⟩:=(BBX.out wr CA.out.same).at (show 0 < n by omega);obtain⟨ai,ci,hx,hri⟩:=hcb i hlt;obtain⟨x,Hx⟩ : ∃x,bs[i]? = some x:=⟨_,List.getElem?_eq_getElem (by rw[hn.out];exact hlt)⟩;rw[Hx]at hx hri;simp only[Option.getD_some]at hx hri;have RX:=zH (show Yb wr ai x.length ci x from hri);have XL:=zH (BL.out.2 x (List.mem_of_getElem? Hx));have DR:=zH (Z7s Hx);have HX:=zH hx;have HIX:=zH (fun W=>ZN (W:=W) (c:=oc) (b:=b) (off:=off) Tryz.underlying98 JB.out hlt (by rw[Nat.mul_one]));have HK64:Hid ((i:Int)+1<=9223372036854775807):=zH (by have:=N63.out;omega);have HLT2:=zH hlt;have DC:=zH (fun W h=>Z5U S.f x ai x.length ci W h (Nat.le_trans XL.out (by decide)));rw[show S.f.val = .agg #[.int .i64 S.f.rings,.int .i64 S.f.sectors,.int .i64 S.f.wide]from rfl]at DC;clear hcb hri Hx hx;subst hoa;go_upto_region 9 with fail;apply Zdo (P:=fun(p13:Nat) (m:NoteV) (ma:zA) (mc:Nat) (g:Int) (W:World)=>Hid (CrR W3 W p pA hc FA A S bs i/\W.heap[p13]? = some (.cells (Z5 m ma mc) 47)/\Z8R S.f x W3.heap.size m ma mc g W))
   ·intro REST;refine zD (fun w'=>w'.heap[p]? = some (.cells hc 138)/\w'.cell? ⟨b,off+i,none⟩=some (.slice ai x.length ci)) (show wr.drew.heap[p]? = _/\wr.drew.cell? ⟨b,off+i,none⟩=_ from And.intro CA.out.blk HX.out) fun hh=>?_;have hdr:=(zd wr);replace CA:=zH (CA.out.below hdr);replace RX:=zH (RX.out.below hdr);have CX:Hid (wr.drew.cell? ⟨b,off+i,none⟩=some (.slice ai x.length ci)):=zH HX.out;have FL:=zH (show ∀k,FA k->k < wr.drew.heap.size from CA.out.hou.lt);have W3L:Hid (W3.heap.size<=wr.drew.heap.size):=zH CA.out.same.size;clear hdr;generalize wr.drew=U at *;have GU:Hid (∀q,U.heap.size<=q -> ¬FA q/\q≠p/\W3.heap.size<=q):=zH (fun q hq=>⟨fun hk=>by have:=FL.out q hk;omega,fun e=>by have:=Zq CA.out.blk;omega,Nat.le_trans W3L.out hq⟩);obtain⟨u0s,hu0s⟩:=zX (U.heap.size);rw[hu0s.out]at GU;have ULE:Hid (u0s<=U.heap.size):=zH (Nat.le_of_eq hu0s.out.symm);have B0S:Hid (b < u0s):=zH (by rw[<-hu0s.out];exact World.block_lt_of_cell? _ _ CX.out);clear FL W3L hu0s;refine zw 0 rfl p 0 ?_;refine zw 1 rfl p 0 ?_;refine zw 2 rfl p 0 ?_;refine zS 3 rfl (.agg #[.int .i64 S.f.rings,.int .i64 S.f.sectors,.int .i64 S.f.wide]) (fun W h=>by have h0:=Z6 h.1 0 (.int .i64 S.f.rings) HC0.out.1;have h1:=Z6 h.1 1 (.int .i64 S.f.sectors) HC0.out.2.1;have h2:=Z6 h.1 2 (.int .i64 S.f.wide) HC0.out.2.2.1;go_simp) ?_;refine zW 4 rfl (.slice (some ⟨b,off,none⟩) n oc) ?_;refine zW 5 rfl (.int .i64 (i:Int)) ?_;refine zS 6 rfl (.pointer (some ⟨b,off+i,none⟩)) (fun W h=>by have hc9:=HIX.out W;go_simp) ?_;refine zS 7 rfl (.slice ai x.length ci) (fun W h=>by have hc:=h.2;go_simp) ?_;refine zM [8,12] rfl (fun K hK=>?_) ?_
    focus
     go_simp;go_at_call 135;refine((DC.out U RX.out).mono (R':=fun e w' => ∃(m:NoteV) (ma:zA) (mc:Nat) (g:Int),e = .returned (.tuple #[.agg (Z5 m ma mc),.int .i64 g])/\((Jl S.f x=some m/\g=0/\w'.ownsRow U.heap.size 3 1 (.slice ma m.strokes.length mc) m.strokes.length (m.strokes.map Yo))\/(Jl S.f x=none/\g=90))/\Below U.heap.size U w') (fun e w' h=>by
      rcases h with ⟨m,ma,mc,q1,q2,q3,q4⟩ | ⟨q1,q2,q4⟩
      ·exact⟨m,ma,mc,0,q2,.inl ⟨by rw[Z3y];exact q1,rfl,q3⟩,q4⟩
      ·exact⟨Zd,none,0,90,q2,.inr ⟨by rw[Z3y];exact q1,rfl⟩,q4⟩)).mono ?_
     rintro e U' ⟨m,ma,mc,g,rfl,hdo,bb⟩;have DO:Hid (Z8R S.f x W3.heap.size m ma mc g U'):=zH (hdo.imp (fun h=>⟨h.1,h.2.1,Zp h.2.2 (Nat.le_trans CA.out.same.size (Nat.le_refl _))⟩) id);replace CA:=zH (CA.out.below bb);replace CX:=zH ((bb.cell (p:=⟨b,off+i,none⟩) (World.block_lt_of_cell? _ _ CX.out)).trans CX.out);replace ULE:=zH (Nat.le_trans ULE.out bb.size);replace RX:=zH (RX.out.below bb);clear hdo bb hh;dsimp only;generalize hVo:U=Uo at *;clear hVo;generalize U'=U at *;refine zK hK ⟨CA.out.blk,CX.out⟩ fun hh=>?_;clear hK K;refine zW 9 rfl (.tuple #[.agg (Z5 m ma mc),.int .i64 g]) ?_;refine zW 10 rfl (.agg (Z5 m ma mc)) ?_;refine zW 11 rfl (.int .i64 g) ?_;refine zR 12 rfl fun K hK=>?_;have bb:Below U.heap.size U (U.alloc (.cells (Z5 Zd none 0) 47)):=zB _ _;have P13:=zH (Z9 U (.cells (Z5 Zd none 0) 47));have G13:=zH (GU.out U.heap.size ULE.out);have B13:Hid (b≠U.heap.size):=zH (by have h1:=B0S.out;have h2:=ULE.out;omega);have NB13:Hid (∀k,Value.ownBlock (.slice ma m.strokes.length mc)=some k->g=0->U.heap.size≠k):=zH (fun k hk hg e=>by
      rcases DO.out with ⟨_,_,ho⟩ | ⟨_,h9⟩
      ·have h1:=(ho.lt k hk).2;omega
      ·omega)
     replace CA:=zH (CA.out.below bb);replace CX:=zH ((bb.cell (p:=⟨b,off+i,none⟩) (World.block_lt_of_cell? _ _ CX.out)).trans CX.out);replace ULE:=zH (Nat.le_trans ULE.out bb.size);replace DO:=zH (DO.out.below bb);clear bb hh;go_simp;rw[<-ZZ];obtain⟨p13,hp13⟩:=zX (U.heap.size);rw[hp13.out]at P13 G13 B13 NB13 ⊢;generalize hVo:U.alloc (.cells (Z5 Zd none 0) 47)=U' at *;clear hVo hp13;generalize hVo:U=Uo at *;clear hVo;generalize U'=U at *;refine zK hK ⟨CA.out.blk,CX.out⟩ fun hh=>?_;clear hK K
    rotate_left
    focus
     refine zn fun K hK=>?_;have bb:Below U.heap.size U (U.alloc (.cells (Z5 Zd none 0) 47)):=zB _ _;have P13:=zH (Z9 U (.cells (Z5 Zd none 0) 47));have G13:=zH (GU.out U.heap.size ULE.out);have B13:Hid (b≠U.heap.size):=zH (by have h1:=B0S.out;have h2:=ULE.out;omega);replace CA:=zH (CA.out.below bb);replace CX:=zH ((bb.cell (p:=⟨b,off+i,none⟩) (World.block_lt_of_cell? _ _ CX.out)).trans CX.out);replace ULE:=zH (Nat.le_trans ULE.out bb.size);replace RX:=zH (RX.out.below bb);clear bb hh;go_simp;rw[<-ZZ];obtain⟨p13,hp13⟩:=zX (U.heap.size);rw[hp13.out]at P13 G13 B13 ⊢;generalize hVo:U.alloc (.cells (Z5 Zd none 0) 47)=U' at *;clear hVo hp13;generalize hVo:U=Uo at *;clear hVo;generalize U'=U at *;refine zK hK ⟨CA.out.blk,CX.out⟩ fun hh=>?_;clear hK K;refine zR 8 rfl fun K hK=>?_;go_simp;go_at_call 135;refine((DC.out U RX.out).mono (R':=fun e w' => ∃(m:NoteV) (ma:zA) (mc:Nat) (g:Int),e = .returned (.tuple #[.agg (Z5 m ma mc),.int .i64 g])/\((Jl S.f x=some m/\g=0/\w'.ownsRow U.heap.size 3 1 (.slice ma m.strokes.length mc) m.strokes.length (m.strokes.map Yo))\/(Jl S.f x=none/\g=90))/\Below U.heap.size U w') (fun e w' h=>by
      rcases h with ⟨m,ma,mc,q1,q2,q3,q4⟩ | ⟨q1,q2,q4⟩
      ·exact⟨m,ma,mc,0,q2,.inl ⟨by rw[Z3y];exact q1,rfl,q3⟩,q4⟩
      ·exact⟨Zd,none,0,90,q2,.inr ⟨by rw[Z3y];exact q1,rfl⟩,q4⟩)).mono ?_
     rintro e U' ⟨m,ma,mc,g,rfl,hdo,bb⟩;have DO:Hid (Z8R S.f x W3.heap.size m ma mc g U'):=zH (hdo.imp (fun h=>⟨h.1,h.2.1,Zp h.2.2 (Nat.le_trans CA.out.same.size (Nat.le_refl _))⟩) id);have NB13:Hid (∀k,Value.ownBlock (.slice ma m.strokes.length mc)=some k->g=0->p13≠k):=zH (fun k hk hg e=>by
      rcases hdo with ⟨_,_,ho⟩ | ⟨_,h9⟩
      ·have h1:=(ho.lt k hk).1;have h2:=Zq P13.out;omega
      ·omega)
     replace CA:=zH (CA.out.below bb);replace CX:=zH ((bb.cell (p:=⟨b,off+i,none⟩) (World.block_lt_of_cell? _ _ CX.out)).trans CX.out);replace ULE:=zH (Nat.le_trans ULE.out bb.size);replace P13:=zH (Z7 bb P13.out);replace RX:=zH (RX.out.below bb);clear hdo bb hh;dsimp only;generalize hVo:U=Uo at *;clear hVo;generalize U'=U at *;refine zK hK ⟨CA.out.blk,CX.out⟩ fun hh=>?_;clear hK K;refine zW 9 rfl (.tuple #[.agg (Z5 m ma mc),.int .i64 g]) ?_;refine zW 10 rfl (.agg (Z5 m ma mc)) ?_;refine zW 11 rfl (.int .i64 g) ?_
    all_goals
     refine zR 13 rfl fun K hK=>?_;refine Yl 47 _ _ rfl p13 (Z5 Zd none 0) (Z5 m ma mc) 47 rfl rfl P13.out (I43.out _ _ _) rfl (Z9B m ma mc) ?_;intro U' q1 q2 q3;have S13:Hid (Za (fun q=>q=p13) U U'):=zH (Za.of_grown q2 (fun q e=>by cases e;rfl));have DO2:Hid (Z8R S.f x W3.heap.size m ma mc g U'):=zH (DO.out.imp (fun h=>⟨h.1,h.2.1,Zi h.2.2 S13.out (fun b hb e=>NB13.out b hb h.2.1 (show b=p13 from e).symm)⟩) id);have CX2:Hid (U'.cell? ⟨b,off+i,none⟩=some (.slice ai x.length ci)):=zH ((World.cell?_of_block (a:=⟨b,off+i,none⟩) (S13.out.block b (World.block_lt_of_cell? _ _ CX.out) (fun e=>B13.out (show b=p13 from e)))).trans CX.out);have CA2:=zH (CA.out.fresh S13.out G13.out.1 G13.out.2.1 G13.out.2.2);have Q1:=zH q1;clear q1 q2 q3 P13 DO CX CA S13 hh;generalize hVo:U=Uo at *;clear hVo;generalize U'=U at *;refine zK hK ⟨CA2.out.blk,CX2.out⟩ fun hh=>?_;clear hK K;refine zW 14 rfl (.int .i64 g) ?_;refine zE ?_;exact REST p13 m ma mc g U (zH ⟨CA2.out,Q1.out,DO2.out⟩)
   intro p13 m ma mc g W9 QQ;obtain⟨q1,q2,q3⟩:=QQ.out;clear CA QQ;have CA:=zH q1;have P13:=zH q2;clear q1 q2;rcases q3 with ⟨hd,rfl,ho⟩ | ⟨hd,rfl⟩
   ·have DE:Hid (Jl A.f x=some m):=zH (by rw[CA.out.f];exact hd);have MC:Hid (ZD A.f m=0):=zH (by rw[CA.out.f];exact(Z7B hd).1);have O9:=zH ho;clear hd ho;have b7:Below W9.heap.size W9 (W9.alloc (.cells (Z5 m ma mc) 47)):=zB _ _;have CA7:=zH (CA.out.below b7);have O7:=zH (Zb O9.out b7);have P7:=zH (Z7 b7 P13.out);have R7:=zH (XX W9 m ma mc);obtain⟨pb,hpb⟩:=zX (W9.heap.size);go_wp2_with (first
     |(refine zG p13 P13.out ?_)
     |(refine VN ?hw _ rfl m ma mc rfl ?_;case hw=>kernel_rfl)
     | fail)
    rw[hpb.out]at R7;rw[hpb.out];generalize W9.alloc (.cells (Z5 m ma mc) 47)=w7 at *;clear b7 hpb CA O9 P13;obtain⟨sa9,sc9,zs9,aa9,ac9,cs9,G9,x0,x1,x2,x3,h9⟩:=CA7.out.hou;have H9:=zH h9;have R1:Hid (Jb w7 (some ⟨pb,0,none⟩) 1 1 [⟨m,ma,mc⟩]):=zH (Z0B (by rw[show Zw [(⟨m,ma,mc⟩:LN)]=m.cells ma mc by simp[Zw]];exact R7.out) (fun y hy=>by rw[List.mem_singleton.1 hy];exact ZX.of_own O7.out));refine(Z2z pA FA A sa9 sc9 zs9 aa9 ac9 cs9 G9 x0 x1 x2 x3 [⟨m,ma,mc⟩] (some ⟨pb,0,none⟩) 1 1 w7 h9 (by have h1:=CA7.out.len;have h2:=N63.out;omega) R1.out (by decide)).mono ?_;rintro e w8 ⟨⟨a8,m8,c8,rfl,_,hm8⟩,b8⟩;have CA8:=zH (CA7.out.below b8);have O8:=zH (Zb O7.out b8);have P8:=zH (Z7 b8 P7.out);have M8:=zH hm8;have RO:=zH (Z87 CA8.out.inv H9.out.eq (x:=⟨m,ma,mc⟩) MC.out);clear h9 hm8 b8 CA7 O7 P7 R7 R1;rcases RO.out with ⟨he1,he2⟩ | ⟨he1,hfm,he2,he3⟩
    ·have REC:Hid (Jr (ZC.new S.f S.id) bs=A):=zH (by
      rw[CA8.out.rcv,DR.out];exact zj (by rw[DE.out];exact he2))
     obtain rfl:m8=0:=by rw[<-M8.out,he1];rfl
     clear he1 he2 RO M8;go_upto_region 12 with fail;clear t0 hlt;replace CA:=zH CA8.out;clear CA8;go_wp2_with fail;refine(Z0z pA FA A _ CA.out.hou CA.out.inv (by have h1:=CA.out.len;have h2:=N63.out;omega)).mono ?_;rintro e X1 ⟨rfl,F2,h1,h2,h3⟩;have HX1:=zH h1;have SX:=zH (CA.out.same.trans (h2.weaken CA.out.foot));have FX:Hid (∀k,F2 k->k=pA\/W3.heap.size<=k):=zH (fun k hk=>(h3 k hk).elim (CA.out.foot k) (fun h4=>.inr (Nat.le_trans CA.out.same.size h4)));have PX:=zH ((h2.block p (Zq CA.out.blk) (fun hk=>by rcases CA.out.foot p hk with h4 | h4 <;> have:=CA.out.np <;> omega)).trans CA.out.blk);clear h1 h2 h3;obtain⟨hc2,g1,g2,g3,g4⟩:=HX1.out.copy PX.out CA.out.np.1 (fun hk=>by rcases FX.out p hk with h4 | h4 <;> have:=CA.out.np <;> omega);have PA2:=zH g1;have G4:=zH g4;have HSZ:Hid ((zq.info? 138).map (·.size)=some hc2.size):=zH (by rw[g2];kernel_rfl);have HCC:Hid (hc.size=hc2.size):=zH (by rw[g2];exact HC0.out.2.2.2.2);have oneH:hc2.all (·.oneCell')=true:=g3;clear g1 g2 g3 g4;go_wp2_with (first
      |(refine wpList_load_row rfl 138 _ rfl pA rfl 138 hc2 (0,0) _ PA2.out Tryz.underlying138 rfl HSZ.out ?_)
      |(refine ZY rfl 138 _ _ rfl p hc hc2 138 rfl rfl PX.out HSZ.out HCC.out oneH ?_))
     go_ret;have S3:=QS X1 p hc2;have SW1:Za F w W3:=(S1.out.weaken (fun k hk=>by rw[show k=p from hk];exact H.out.self)).trans (Za.of_below B3.out);have GE1 : ∀k,k=pA\/W3.heap.size<=k->w.heap.size<=k:=fun k hk=>by
      have q1:=S1.out.size;have q2:=GA.out;have q3:=B3.out.size;rcases hk with h | h <;> omega
     have SW2:=Yq SW1 SX.out (fun k hk=>.inr (GE1 k hk));have SW3:=SW2.trans (S3.weaken (fun k hk=>by rw[show k=p from hk];exact H.out.self));exact⟨A.sync,0,.inr ⟨HC.out,by rw[Int.toNat_natCast,Int.toNat_natCast,hcs.out,hcf.out,hbs.out,REC.out],rfl⟩,CA.out.inv.sync,rfl,fun k=>k=p\/(F2 k/\k≠pA),G4.out,SW3,fun k hk=>by
      rcases hk with rfl | ⟨h,_⟩
      ·exact .inl H.out.self
      ·exact .inr (GE1 k (FX.out k h))⟩
    ·obtain rfl:m8=1:=by rw[<-M8.out,he1];rfl
     have HE3:=zH he3;have HFM:=zH hfm;have MOK:Hid m.Ok:=zH (Z6y (Z3H MC.out));clear he1 he2 he3 hfm RO M8;go_upto_region 11 with fail;clear t0;go_wp2_with (first
      |(refine zL p13 P8.out ?_))
     refine(Z0C pA FA A m ma mc w8 CA8.out.hou CA8.out.inv (ZX.of_own O8.out) HFM.out (by have h1:=CA8.out.len;have h2:=N63.out;omega)).mono ?_;rintro e wA ⟨rfl,F2,h1,h2,h3⟩;have INV2:Hid (Xr (A.add m)):=zH (by
      have h5:=(Z2A CA8.out.inv (l:=[m]) (fun y hy=>by rw[List.mem_singleton.1 hy];exact MOK.out)).1;rwa [show Yy A [m]=(A.add m,1,0)from HE3.out]at h5)
     have CA9:Hid (CrR W3 wA p pA hc F2 (A.add m) S bs (i+1)):=zH (CA8.out.step h1 INV2.out CA8.out.f (CA8.out.rcv.trans (by rw[DR.out];exact Z3U DE.out HE3.out)) (by
      have h5:=CA8.out.len;show(YI A.l m).length<=i+1;rw[YI,(Qp _ m A.l).length_eq,List.length_cons];omega) h2 h3)
     clear h1 h2 h3 CA8;have hk64:=HK64.out;go_wp2;go_roundw
     case rel=>exact⟨i+1,A.add m,F2,by go_num,by have:=HLT2.out;omega,CA9⟩
     case measure=>simp[intOf];have:=HLT2.out;omega
   ·have REC:Hid (Jr (ZC.new S.f S.id) bs=A):=zH (by
     rw[CA.out.rcv,DR.out];exact zj (by rw[CA.out.f,hd];rfl))
    clear hd P13;go_upto_region 12 with fail;clear t0 hlt;go_wp2_with fail;refine(Z0z pA FA A _ CA.out.hou CA.out.inv (by have h1:=CA.out.len;have h2:=N63.out;omega)).mono ?_;rintro e X1 ⟨rfl,F2,h1,h2,h3⟩;have HX1:=zH h1;have SX:=zH (CA.out.same.trans (h2.weaken CA.out.foot));have FX:Hid (∀k,F2 k->k=pA\/W3.heap.size<=k):=zH (fun k hk=>(h3 k hk).elim (CA.out.foot k) (fun h4=>.inr (Nat.le_trans CA.out.same.size h4)));have PX:=zH ((h2.block p (Zq CA.out.blk) (fun hk=>by rcases CA.out.foot p hk with h4 | h4 <;> have:=CA.out.np <;> omega)).trans CA.out.blk);clear h1 h2 h3;obtain⟨hc2,g1,g2,g3,g4⟩:=HX1.out.copy PX.out CA.out.np.1 (fun hk=>by rcases FX.out p hk with h4 | h4 <;> have:=CA.out.np <;> omega);have PA2:=zH g1;have G4:=zH g4;have HSZ:Hid ((zq.info? 138).map (·.size)=some hc2.size):=zH (by rw[g2];kernel_rfl);have HCC:Hid (hc.size=hc2.size):=zH (by rw[g2];exact HC0.out.2.2.2.2);have oneH:hc2.all (·.oneCell')=true:=g3;clear g1 g2 g3 g4;go_wp2_with (first
     |(refine wpList_load_row rfl 138 _ rfl pA rfl 138 hc2 (0,0) _ PA2.out Tryz.underlying138 rfl HSZ.out ?_)
     |(refine ZY rfl 138 _ _ rfl p hc hc2 138 rfl rfl PX.out HSZ.out HCC.out oneH ?_))
    go_ret;have S3:=QS X1 p hc2;have SW1:Za F w W3:=(S1.out.weaken (fun k hk=>by rw[show k=p from hk];exact H.out.self)).trans (Za.of_below B3.out);have GE1 : ∀k,k=pA\/W3.heap.size<=k->w.heap.size<=k:=fun k hk=>by
     have q1:=S1.out.size;have q2:=GA.out;have q3:=B3.out.size;rcases hk with h | h <;> omega
    have SW2:=Yq SW1 SX.out (fun k hk=>.inr (GE1 k hk));have SW3:=SW2.trans (S3.weaken (fun k hk=>by rw[show k=p from hk];exact H.out.self));exact⟨A.sync,0,.inr ⟨HC.out,by rw[Int.toNat_natCast,Int.toNat_natCast,hcs.out,hcf.out,hbs.out,REC.out],rfl⟩,CA.out.inv.sync,rfl,fun k=>k=p\/(F2 k/\k≠pA),G4.out,SW3,fun k hk=>by
     rcases hk with rfl | ⟨h,_⟩
     ·exact .inl H.out.self
     ·exact .inr (GE1 k (FX.out k h))⟩
  ·have t0:decide ((i:Int) < (n:Int))=false:=by simp;omega
   have REC:Hid (Jr (ZC.new S.f S.id) bs=A):=zH (by
    rw[CA.out.rcv,List.drop_of_length_le (by rw[hn.out];omega)];rfl)
   go_upto_region 12 with fail;clear t0 hlt;go_wp2_with fail;refine(Z0z pA FA A _ CA.out.hou CA.out.inv (by have h1:=CA.out.len;have h2:=N63.out;omega)).mono ?_;rintro e X1 ⟨rfl,F2,h1,h2,h3⟩;have HX1:=zH h1;have SX:=zH (CA.out.same.trans (h2.weaken CA.out.foot));have FX:Hid (∀k,F2 k->k=pA\/W3.heap.size<=k):=zH (fun k hk=>(h3 k hk).elim (CA.out.foot k) (fun h4=>.inr (Nat.le_trans CA.out.same.size h4)));have PX:=zH ((h2.block p (Zq CA.out.blk) (fun hk=>by rcases CA.out.foot p hk with h4 | h4 <;> have:=CA.out.np <;> omega)).trans CA.out.blk);clear h1 h2 h3;obtain⟨hc2,g1,g2,g3,g4⟩:=HX1.out.copy PX.out CA.out.np.1 (fun hk=>by rcases FX.out p hk with h4 | h4 <;> have:=CA.out.np <;> omega);have PA2:=zH g1;have G4:=zH g4;have HSZ:Hid ((zq.info? 138).map (·.size)=some hc2.size):=zH (by rw[g2];kernel_rfl);have HCC:Hid (hc.size=hc2.size):=zH (by rw[g2];exact HC0.out.2.2.2.2);have oneH:hc2.all (·.oneCell')=true:=g3;clear g1 g2 g3 g4;go_wp2_with (first
    |(refine wpList_load_row rfl 138 _ rfl pA rfl 138 hc2 (0,0) _ PA2.out Tryz.underlying138 rfl HSZ.out ?_)
    |(refine ZY rfl 138 _ _ rfl p hc hc2 138 rfl rfl PX.out HSZ.out HCC.out oneH ?_))
   go_ret;have S3:=QS X1 p hc2;have SW1:Za F w W3:=(S1.out.weaken (fun k hk=>by rw[show k=p from hk];exact H.out.self)).trans (Za.of_below B3.out);have GE1 : ∀k,k=pA\/W3.heap.size<=k->w.heap.size<=k:=fun k hk=>by
    have q1:=S1.out.size;have q2:=GA.out;have q3:=B3.out.size;rcases hk with h | h <;> omega
   have SW2:=Yq SW1 SX.out (fun k hk=>.inr (GE1 k hk));have SW3:=SW2.trans (S3.weaken (fun k hk=>by rw[show k=p from hk];exact H.out.self));exact⟨A.sync,0,.inr ⟨HC.out,by rw[Int.toNat_natCast,Int.toNat_natCast,hcs.out,hcf.out,hbs.out,REC.out],rfl⟩,CA.out.inv.sync,rfl,fun k=>k=p\/(F2 k/\k≠pA),G4.out,SW3,fun k hk=>by
    rcases hk with rfl | ⟨h,_⟩
    ·exact .inl H.out.self
    ·exact .inr (GE1 k (FX.out k h))⟩
open Go.ChangeShapes Go.WideShapes Go.ChangeAt Go.RowKit
theorem Tryz.own:ownKnob zq.godebug=none:=by kernel_rfl
theorem Tryz.laidOut:laidOutB zq=true:=by kernel_rfl
theorem Z18 {H:Type}{enc:TypeId×Value->H}{P:Program}(hl:laidOutB P=true){W W':World}(hb:Below W.heap.size W W'):
  ∀(ts:List TypeId) {vs:List Value} {ds:List (DataW H)} {ps:List MemPlace},ts.all (fun t=>P.readableRec t && decide (t < P.types.size))=true->(∀x∈ps,x.block < W.heap.size)->
   DataW.TrodAll enc P W 0 (fun _=>true) true ts vs ds ps->DataW.TrodAll enc P W' 0 (fun b=>decide (b < W.heap.size)) true ts vs ds ps
 | [],[],[],_,_,_,h=>h
 | [],_ :: _,_,_,_,_,h=>h.elim
 | [],[],_ :: _,_,_,_,h=>h.elim
 | _ :: _,[],_,_,_,_,h=>h.elim
 | _ :: _,_ :: _,[],_,_,_,h=>h.elim
 | t :: ts,v :: vs,d :: ds,ps,hr,hlt,h=>by
  obtain⟨p,q,h1,h2,rfl⟩:=h
  simp only[List.all_cons,Bool.and_eq_true,decide_eq_true_eq]at hr
  exact⟨p,q,Below.trod hl hr.1.1 hr.1.2 h1 hb (fun x hx=>hlt x (List.mem_append_left _ hx)),Z18 hl hb ts hr.2 (fun x hx=>hlt x (List.mem_append_right _ hx)) h2,rfl⟩
theorem Z6S {H:Type}{enc:TypeId×Value->H}{P:Program}(hl:laidOutB P=true){t:TypeId}(ht:P.underlying t=some .bool){f:Func}{s:ChangeSpec}{W W':World}{args:Xz}{ds:List (DataW H)}{ps:List MemPlace}
  (hv:s.vars=[]) (hf:f.resultTypes = #[t]) (hr:f.params.toList.all (fun t=>P.readableRec t && decide (t < P.types.size))=true)
  (hW:DataW.Whole enc P f.params.toList s.vars false W args.toList ds [] ps) (hA:DataW.TrodAll enc P W 0 (fun _=>true) true f.params.toList args.toList ds ps)
  (hs:s.fn H (ds ++ []) = { results:=[.lit (.bool true)],args:=ds }) (hb:Below W.heap.size W W'):s.post enc P f false true false false W args (.bool true) W':=by
 refine⟨ds,[],ps,[],ps,[],hW,?_,?_,?_,hb.frame _,fun h=>by cases h⟩
 ·rw[hs,hf];exact trodAll_mk1 (shut_bool ht _)
 ·rw[hs];exact Z18 hl hb _ hr hW.lt hA
 ·rw[hs,hv];rfl
end Go.Proofs.YtlnhppgfhkkidaaGreat
