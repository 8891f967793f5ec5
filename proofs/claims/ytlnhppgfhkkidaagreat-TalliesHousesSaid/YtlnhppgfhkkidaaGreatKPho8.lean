/- Parts of the proof, in order. -/
import Derived.Deep.RegionLaw
import Derived.Defers
import Derived.Recover
import Derived.Laws.Pointers
import Derived.Test.YtlnhppgfhkkidaaGreatKPho7
set_option linter.unusedSimpArgs false
set_option linter.unusedVariables false
set_option maxHeartbeats 32000000
set_option maxRecDepth 100000
namespace Go.Proofs.YtlnhppgfhkkidaaGreat
open Go.Proofs.Tryz renaming prog → zq
open Go.RowKit
theorem Z1w (a:zA)(n c:Nat)(b:UInt8):(Value.slice a n c)≠Zt b:=by
 intro e;cases e
section
variable {w w':World}{p:Nat}{i0 i1 i2 i3 i4 i5:Value}{G:Nat->Prop}{v0 v1 v2 v3:Value}{SD SP FD FP:zU}
theorem XG.set4 (h:XG w p i0 i1 i2 i3 i4 i5 G v0 v1 v2 v3 SD SP FD FP){u:Value}(hu : ∀b:UInt8,u≠Zt b):XG (w.setCell ⟨p,4,none⟩ u) p i0 i1 i2 i3 u i5 G v0 v1 v2 v3 SD SP FD FP:=
 ⟨by rw[heap_setCell_same w p 4 _ 138 u h.blk];rfl,fun b=>⟨(h.nb b).1,(h.nb b).2.1,(h.nb b).2.2.1,(h.nb b).2.2.2.1,hu b,(h.nb b).2.2.2.2.2⟩,h.s0.keep h.blk (by decide),h.s1.keep h.blk (by decide),h.s2.keep h.blk (by decide),h.s3.keep h.blk (by decide),h.g⟩
theorem XG.set5 (h:XG w p i0 i1 i2 i3 i4 i5 G v0 v1 v2 v3 SD SP FD FP){u:Value}(hu : ∀b:UInt8,u≠Zt b):XG (w.setCell ⟨p,5,none⟩ u) p i0 i1 i2 i3 i4 u G v0 v1 v2 v3 SD SP FD FP:=
 ⟨by rw[heap_setCell_same w p 5 _ 138 u h.blk];rfl,fun b=>⟨(h.nb b).1,(h.nb b).2.1,(h.nb b).2.2.1,(h.nb b).2.2.2.1,(h.nb b).2.2.2.2.1,hu b⟩,h.s0.keep h.blk (by decide),h.s1.keep h.blk (by decide),h.s2.keep h.blk (by decide),h.s3.keep h.blk (by decide),h.g⟩
theorem Vl.kind {v:Value}{l:zU}(h:Vl w v l): ∀k,v.ownBlock=some k -> ∃cur,w.heap[k]? = some (.cells cur 5):=by
 obtain⟨a,c,rfl,h⟩:=h;exact Z0g h
theorem XG.kind (h:XG w p i0 i1 i2 i3 i4 i5 G v0 v1 v2 v3 SD SP FD FP): ∀k,G k -> ∃cur t,w.heap[k]? = some (.cells cur t (0,0))/\(t=138\/t=5):=by
 intro k hk;rcases(h.g k).1 hk with rfl | h1 | h1 | h1 | h1
 ·exact⟨_,_,h.blk,.inl rfl⟩
 ·obtain⟨cur,h2⟩:=h.s0.kind k h1;exact⟨_,_,h2,.inr rfl⟩
 ·obtain⟨cur,h2⟩:=h.s1.kind k h1;exact⟨_,_,h2,.inr rfl⟩
 ·obtain⟨cur,h2⟩:=h.s2.kind k h1;exact⟨_,_,h2,.inr rfl⟩
 ·obtain⟨cur,h2⟩:=h.s3.kind k h1;exact⟨_,_,h2,.inr rfl⟩
theorem XG.grown (h:XG w p i0 i1 i2 i3 i4 i5 G v0 v1 v2 v3 SD SP FD FP){base e k n:Nat}{v:Value}{xs:List Value}(hv:w.ownsRow base e k v n xs)(h1:e≠138)(h2:e≠5)(hg:w.grownBy w' v.ownBlock):XG w' p i0 i1 i2 i3 i4 i5 G v0 v1 v2 v3 SD SP FD FP:=
 h.same (S:=fun q=>v.ownBlock=some q) (Za.of_grown hg (fun q e=>e)) (fun q hq hG=>by
  obtain⟨cur,h3⟩:=Z0g hv q hq
  obtain⟨cur2,t,h4,h5⟩:=h.kind q hG
  rw[h3]at h4
  simp only[Option.some.injEq,Obj.cells.injEq]at h4
  rcases h5 with rfl | rfl
  ·exact h1 h4.2.1
  ·exact h2 h4.2.1)
end
structure RHo (w:World)(p:Nat)(F:Nat->Prop)(sa:zA)(sc:Nat)(zs:List LN)(aa:zA)(ac:Nat)(cs:List Value)(G:Nat->Prop)(v0 v1 v2 v3:Value)(S:ZC):Prop where
 stk:XG w p (.int .i64 S.f.rings) (.int .i64 S.f.sectors) (.int .i64 S.f.wide) (.int .i64 S.id) (.slice sa zs.length sc) (.slice aa S.ad.length ac) G v0 v1 v2 v3 (S.sb.take S.sd) (S.sb.drop S.sd) (S.fb.take S.fd) (S.fb.drop S.fd)
 set:w.ownsRow 0 47 19 (.slice sa zs.length sc) zs.length (Zw zs)
 eq:zs.map LN.n=S.l
 str:Z0v w 0 zs
 add:w.ownsRow 0 47 19 (.slice aa S.ad.length ac) S.ad.length cs
 ap : ∀k,Value.ownBlock (.slice sa zs.length sc)=some k->Value.ownBlock (.slice aa S.ad.length ac)≠some k
 sd:S.sd<=S.sb.length/\S.fd<=S.fb.length
 f : ∀k,F k↔(G k\/Value.ownBlock (.slice sa zs.length sc)=some k\/Value.ownBlock (.slice aa S.ad.length ac)=some k \/ ∃x∈zs,Value.ownBlock (.slice x.sa x.n.strokes.length x.sc)=some k)
def JN (w:World)(p:Nat)(F:Nat->Prop)(S:ZC):Prop := ∃sa sc zs aa ac cs G v0 v1 v2 v3,RHo w p F sa sc zs aa ac cs G v0 v1 v2 v3 S
section
variable {w w':World}{p:Nat}{F:Nat->Prop}{sa:zA}{sc:Nat}{zs:List LN}{aa:zA}{ac:Nat}{cs:List Value}{G:Nat->Prop}{v0 v1 v2 v3:Value}{S:ZC}
theorem RHo.same {X:Nat->Prop}(h:RHo w p F sa sc zs aa ac cs G v0 v1 v2 v3 S)(hs:Za X w w')(hd : ∀k,X k -> ¬F k):RHo w' p F sa sc zs aa ac cs G v0 v1 v2 v3 S:=
 ⟨h.stk.same hs (fun k hk hG=>hd k hk ((h.f k).2 (.inl hG))),Zi h.set hs (fun b hb hX=>hd b hX ((h.f b).2 (.inr (.inl hb)))),h.eq,
  fun x hx=>Zi (h.str x hx) hs (fun b hb hX=>hd b hX ((h.f b).2 (.inr (.inr (.inr ⟨x,hx,hb⟩))))),Zi h.add hs (fun b hb hX=>hd b hX ((h.f b).2 (.inr (.inr (.inl hb))))),h.ap,h.sd,h.f⟩
theorem RHo.below (h:RHo w p F sa sc zs aa ac cs G v0 v1 v2 v3 S)(hb:Below w.heap.size w w'):RHo w' p F sa sc zs aa ac cs G v0 v1 v2 v3 S:=
 h.same (X:=fun _=>False) (Za.of_below hb) (fun _ e=>e.elim)
theorem RHo.lt (h:RHo w p F sa sc zs aa ac cs G v0 v1 v2 v3 S): ∀k,F k->k < w.heap.size:=by
 intro k hk;rcases(h.f k).1 hk with h1 | h1 | h1 | ⟨x,hx,h1⟩
 ·exact h.stk.lt k h1
 ·exact(h.set.lt k h1).2
 ·exact(h.add.lt k h1).2
 ·exact((h.str x hx).lt k h1).2
theorem RHo.self (h:RHo w p F sa sc zs aa ac cs G v0 v1 v2 v3 S):F p:=(h.f p).2 (.inl h.stk.self)
theorem RHo.rd (h:RHo w p F sa sc zs aa ac cs G v0 v1 v2 v3 S):Jb w sa zs.length sc zs:=ZcD h.set (fun x hx=>ZX.of_own (h.str x hx))
theorem RHo.len (h:RHo w p F sa sc zs aa ac cs G v0 v1 v2 v3 S):zs.length=S.l.length:=by rw[<-h.eq,List.length_map]
theorem JN.same {X:Nat->Prop}(h:JN w p F S)(hs:Za X w w')(hd : ∀k,X k -> ¬F k):JN w' p F S:=by
 obtain⟨sa,sc,zs,aa,ac,cs,G,v0,v1,v2,v3,h⟩:=h;exact⟨sa,sc,zs,aa,ac,cs,G,v0,v1,v2,v3,h.same hs hd⟩
theorem JN.below (h:JN w p F S)(hb:Below w.heap.size w w'):JN w' p F S:=h.same (X:=fun _=>False) (Za.of_below hb) (fun _ e=>e.elim)
theorem JN.lt (h:JN w p F S): ∀k,F k->k < w.heap.size:=by
 obtain⟨sa,sc,zs,aa,ac,cs,G,v0,v1,v2,v3,h⟩:=h;exact h.lt
end
def Z2J (w:World)(p:Nat)(F:Nat->Prop)(S':ZC)(W:World):Prop := ∃F',JN W p F' S'/\Za F w W /\ ∀k,F' k->F k\/w.heap.size<=k
theorem Z81 (w:World)(base:Nat)(sa:zA)(sn sc:Nat)(xs:List Value)(hown:w.ownsRow base 47 19 (.slice sa sn sc) sn xs)(xa:zA)(m xc:Nat)(ys:List Value)(hrd:ZX w 19 xa m xc ys)(h1 : ∀u∈ys,u.oneCell'=true)
  (hbytes:(sn+m) * 168<=140737488355328) (hbase:base<=w.heap.size):
  ∃a' c' w',(Builtin.append_ #[24,24] 24 #[.slice sa sn sc,.slice xa m xc]).run zq w = .ok (.slice a' (sn+m) c') w'/\w'.ownsRow base 47 19 (.slice a' (sn+m) c') (sn+m) (xs ++ ys)/\w.grownBy w' (Value.ownBlock (.slice sa sn sc))/\(a'=sa\/a'=some ⟨w.heap.size,0,none⟩):=by
 obtain⟨i,hi,hz0,hz1,hz2⟩:=info_parts Z4m;obtain⟨a',c',w',hr,h2,h3⟩:=Xh w base 24 24 47 i _ 19 168 Tryz.underlying24 hi hz0 hz1 hz2 rfl (by decide) sa sn sc xs hown xa m xc ys hrd h1 (by unfold maxLen;omega) hbytes hbase;have hloc:=VR (P:=zq) w base 24 24 47 i _ 19 168 Tryz.underlying24 hi hz0 hz1 hz2 sa sn sc _ hown xa m xc _ hrd h1 (by unfold maxLen;omega) hbytes _ _ hr;refine⟨a',c',w',hr,h2,h3,?_⟩;rcases hloc with ⟨n',c'',h⟩ | ⟨n',c'',h⟩
 ·simp only[Value.slice.injEq]at h;exact .inl h.1
 ·simp only[Value.slice.injEq]at h;exact .inr h.1
theorem Z0C (p:Nat)(F:Nat->Prop)(S:ZC)(n:NoteV)(na:zA)(nc:Nat)(w:World)(hh:JN w p F S)(hi:Xr S)(hs:Xe w na n.strokes.length nc n.strokes)(hf:Zf S.f n=true)(hlen:S.l.length<=400):
  Calls zq 137 #[.pointer (some ⟨p,0,none⟩),.agg (Z5 n na nc)] w fun e w'=>e = .returned (.tuple #[])/\Z2J w p F (S.add n) w':=by
 obtain⟨sa,sc,zs,aa,ac,cs,G,v0,v1,v2,v3,h⟩:=hh;have H:=zH h;have HI:=zH hi;have HF:=zH hf;have HLEN:=zH hlen;have ZL:=zH h.len;have HST:=zH (show n.strokes.length<=200 from Yg hi.v hf);have B0:=zH (zB w (.cells (Z5 n na nc) 47));have N0:=zH (Z9 w (.cells (Z5 n na nc) 47));have RS:=zH (hs.below B0.out);clear hi hs hf hlen;go_enter Tryz.func137,Tryz.ntmps137;go_upto_region 1 with fail;obtain⟨p3,hp3⟩:=zX (w.heap.size);have NE3:Hid (∀b,b < w.heap.size->b≠p3):=zH (by have:=hp3.out;omega);rw[hp3.out]at N0;rw[hp3.out];generalize w.alloc (.cells (Z5 n na nc) 47)=w0 at *;go_wp2_with (refine zL p3 N0.out ?_);refine(Qq n na nc _ RS.out (Nat.le_trans HST.out (by decide))).mono ?_;rintro e w1 ⟨ta,tc,rfl,hown,b1⟩;have oneN:=Zh n ta tc;have N1:=zH (Z7 b1 N0.out);have B1:=zH (B0.out.trans (b1.mono B0.out.size));have O1:=zH (Zp hown B0.out.size);clear b1 hown;go_upto_region 2 with (refine zN p3 (Z5 n ta tc) N1.out ?_);have N2:=zH (ZP w1 p3 _ (Z5 n ta tc) _ _ N1.out);have G2:=Y6 w1 p3 (Z5 n ta tc);have B2:=zH (B1.out.grown G2 B1.out.size (fun q hq=>by cases hq;exact Nat.le_of_eq hp3.out));have O2:=zH (O1.out.kept G2 (.inr (Zg O1.out N1.out (by intro cur;simp)).symm));clear G2 N1 B1 O1 oneN N0 B0 RS;generalize w1.setRow p3 (Z5 n ta tc)=w2 at *;have H2:=zH (h.below B2.out);have NP:Hid (some p3≠some p):=zH (fun e=>absurd (Option.some.inj e) (NE3.out p (h.lt p h.self)).symm);have D2:=zH ((zd w2));clear h;refine zp N2.out fun hh=>?_;refine zw 0 rfl p 0 ?_;refine zw 1 rfl p 0 ?_;refine zw 2 rfl p 0 ?_;refine zw 3 rfl p 4 ?_;refine zT 5 rfl (.agg (Z5 n ta tc)) (zY p3 fun W h=>h) ?_;refine zR 4 rfl fun K hK=>?_;have hc:=Z6 (show w2.drew.heap[p]? = _ from H2.out.stk.blk) 4 (.slice sa zs.length sc) rfl;go_simp;clear hc;refine zK hK N2.out fun hh=>?_;clear hK K;refine zR 6 rfl fun K hK=>?_;go_simp;go_at_call 158;refine(Z0x zs sa zs.length sc ⟨n,ta,tc⟩ w2.drew (H2.out.below D2.out).rd (by have h1:=ZL.out;have h2:=HLEN.out;omega)).mono ?_;rintro e w3 ⟨a3,c3,rfl,ho3,b3⟩
 have B3:=zH (D2.out.trans (b3.mono D2.out.size));have N3:=zH (Z7 B3.out N2.out);have O3:=zH (show w3.ownsRow w2.heap.size 47 19 (.slice a3 (zs.length+1) c3) (zs.length+1) (Zw (QG zs ⟨n,ta,tc⟩))from ho3);have H3:=zH (H2.out.below B3.out);have L3:=zH (Zb O2.out B3.out);clear b3 ho3;dsimp only;refine zK hK N3.out fun hh=>?_;clear hK K;refine zw 7 rfl p 0 ?_;refine zw 8 rfl p 4 ?_;refine zR 9 rfl fun K hK=>?_;have hfz:=Ze H3.out.stk.blk 4;have hc:=Z6 H3.out.stk.blk 4 (.slice sa zs.length sc) rfl;have G4:=zH (Zj w3 p 4 (.slice a3 (zs.length+1) c3));have N4:=zH (Zc G4.out N3.out NP.out);have K4:=zH (H3.out.stk.set4 (u := .slice a3 (zs.length+1) c3) (Z1w _ _ _));go_simp;refine zK hK N4.out fun hh=>?_;clear hK K;refine zE ?_;clear hfz hc;change Exit.then _ _ _ _ (w3.setCell ⟨p,4,none⟩ (.slice a3 (zs.length+1) c3));have O4:=zH (O3.out.kept G4.out (.inr (Zg O3.out H3.out.stk.blk (by intro cur;simp)).symm));have L4:=zH (L3.out.kept G4.out (.inr (Zg L3.out H3.out.stk.blk (by intro cur;simp)).symm));have A4:=zH (H3.out.add.kept G4.out (.inr (Zg H3.out.add H3.out.stk.blk (by intro cur;simp)).symm));have T4:=zH (show Z0v _ 0 zs from fun x hx=>(H3.out.str x hx).kept G4.out (.inr (Zg (H3.out.str x hx) H3.out.stk.blk (by intro cur;simp)).symm));have S4:=zH (show Za F w _ from((Za.of_below B2.out).trans (Za.of_below B3.out)).trans (Za.of_grown G4.out (fun q e=>by cases e;exact H.out.self)));have M4:Hid (w2.heap.size<=(w3.setCell ⟨p,4,none⟩ (.slice a3 (zs.length+1) c3)).heap.size):=zH (Nat.le_trans B3.out.size G4.out.size);clear G4 N3 H3 L3 O3 B3;generalize w3.setCell ⟨p,4,none⟩ (.slice a3 (zs.length+1) c3)=w4 at *;go_upto_region 3 with fail;refine zp N4.out fun hh=>?_;refine zw 0 rfl p 0 ?_;refine zw 1 rfl p 0 ?_;refine zw 2 rfl p 0 ?_;refine zw 3 rfl p 5 ?_;refine zT 5 rfl (.agg (Z5 n ta tc)) (zY p3 fun W h=>h) ?_;refine zM [4,6] rfl (fun K hK=>?_) ?_
 focus
  have hc:=Z6 (show w4.drew.heap[p]? = _ from K4.out.blk) 5 (.slice aa S.ad.length ac) rfl;go_simp;clear hc;refine zK hK N4.out fun hh=>?_;clear hK K;refine zR 6 rfl fun K hK=>?_;have D4:=(zd w4);have hbe:=D4.alloc D4.size (.cells (Z5 n ta tc) 47);have HQ:=zH (Z9 w4.drew (.cells (Z5 n ta tc) 47));refine YG _ rfl n ta tc rfl ?_;obtain⟨q,hq⟩:=zX (w4.drew.heap.size);rw[hq.out]at HQ ⊢;have B5:=zH hbe;have N5:=zH (Z7 hbe N4.out);have K5:=zH (K4.out.below hbe);clear hbe D4;generalize w4.drew.alloc (.cells (Z5 n ta tc) 47)=w5 at *
 rotate_left
 focus
  refine zn fun K hK=>?_;have D4:=(zd w4);have hbe:=D4.alloc D4.size (.cells (Z5 n ta tc) 47);have HQ:=zH (Z9 w4.drew (.cells (Z5 n ta tc) 47));refine YG _ rfl n ta tc rfl ?_;obtain⟨q,hq⟩:=zX (w4.drew.heap.size);rw[hq.out]at HQ ⊢;have B5:=zH hbe;have N5:=zH (Z7 hbe N4.out);have K5:=zH (K4.out.below hbe);clear hbe D4;generalize w4.drew.alloc (.cells (Z5 n ta tc) 47)=w5 at *;refine zK hK N5.out fun hh=>?_;clear hK K;refine zR 4 rfl fun K hK=>?_;have hc:=Z6 K5.out.blk 5 (.slice aa S.ad.length ac) rfl;go_simp;clear hc
 all_goals
  refine zK hK N5.out fun hh=>?_;clear hK K;refine zR 7 rfl fun K hK=>?_;have A5:=Zb A4.out B5.out;obtain⟨a6,c6,w6,hrun,ho6,hg6,hloc⟩:=Z81 w5 0 aa S.ad.length ac cs A5 (some ⟨q,0,none⟩) 1 1 _ (ZcR HQ.out) (n.cells_one ta tc) (by have h1:=HI.out.len;have h2:=HLEN.out;omega) (Nat.zero_le _);have N6:=zH (Zc hg6 N5.out (fun e=>NE3.out p3 (H.out.add.lt p3 e.symm).2 rfl));have K6:=zH (K5.out.grown A5 (by decide) (by decide) hg6);have G6:=zH hg6;have O6:=zH ho6;have LOC:=zH hloc;clear ho6 hg6 hloc;rw[if_pos (by kernel_rfl)];refine ZJ _ _ _ rfl _ _ _ rfl rfl hrun ?_;clear hrun;refine zK hK N6.out fun hh=>?_;clear hK K;refine zw 8 rfl p 0 ?_;refine zw 9 rfl p 5 ?_;refine zR 10 rfl fun K hK=>?_;have hfz:=Ze K6.out.blk 5;have hc:=Z6 K6.out.blk 5 (.slice aa S.ad.length ac) rfl;have G7:=zH (Zj w6 p 5 (.slice a6 (S.ad.length+1) c6));have N7:=zH (Zc G7.out N6.out NP.out);have K7:=zH (K6.out.set5 (u := .slice a6 (S.ad.length+1) c6) (Z1w _ _ _));go_simp;refine zK hK N7.out fun hh=>?_;clear hK K;refine zE ?_;clear hfz hc;change Exit.then _ _ _ _ (w6.setCell ⟨p,5,none⟩ (.slice a6 (S.ad.length+1) c6));have AS:Hid (∀k,Value.ownBlock (.slice a3 (zs.length+1) c3)=some k->Value.ownBlock (.slice aa S.ad.length ac)≠some k):=zH (fun k hk e=>by
   have h1:=(O4.out.lt k hk).1;have h2:=(H.out.add.lt k e).2;have h3:=B2.out.size;omega)
  have O6s:=zH ((Zb O4.out B5.out).kept G6.out (by
   cases h1:Value.ownBlock (.slice a3 (zs.length+1) c3)with
   | none=>exact .inl rfl
   | some k=>exact .inr (fun e=>AS.out k h1 e.symm)))
  have L6:=zH ((Zb L4.out B5.out).kept G6.out (Xs (Zb L4.out B5.out) (Zb A4.out B5.out) (by decide)));have T6:=zH (show Z0v w6 0 zs from fun x hx=>(Zb (T4.out x hx) B5.out).kept G6.out (Xs (Zb (T4.out x hx) B5.out) (Zb A4.out B5.out) (by decide)));have O7:=zH (O6s.out.kept G7.out (.inr (Zg O6s.out K6.out.blk (by intro cur;simp)).symm));have L7:=zH (L6.out.kept G7.out (.inr (Zg L6.out K6.out.blk (by intro cur;simp)).symm));have A7:=zH (O6.out.kept G7.out (.inr (Zg O6.out K6.out.blk (by intro cur;simp)).symm));have T7:=zH (show Z0v _ 0 zs from fun x hx=>(T6.out x hx).kept G7.out (.inr (Zg (T6.out x hx) K6.out.blk (by intro cur;simp)).symm));have S7:=zH (show Za F w _ from((S4.out.trans (Za.of_below B5.out)).trans (Za.of_grown G6.out (fun k e=>(H.out.f k).2 (.inr (.inr (.inl e)))))).trans (Za.of_grown G7.out (fun k e=>by cases e;exact H.out.self)));have AL:Hid (∀k,Value.ownBlock (.slice a6 (S.ad.length+1) c6)=some k->Value.ownBlock (.slice aa S.ad.length ac)=some k\/w4.heap.size<=k):=zH (fun k hk=>by
   rcases JO (n:=S.ad.length) (c:=ac) LOC.out hk with h1 | h1
   ·exact .inl h1
   ·exact .inr (by rw[h1];exact B5.out.size))
  have OS:Hid (∀k,Value.ownBlock (.slice a3 (zs.length+1) c3)=some k->w2.heap.size<=k/\k < w4.heap.size):=zH (fun k hk=>O4.out.lt k hk);clear O4 L4 A4 T4 S4 B5 G6 O6 LOC O6s L6 T6 G7 K4 K5 K6 N4 N5 N6 HQ hq N2 D2;generalize w6.setCell ⟨p,5,none⟩ (.slice a6 (S.ad.length+1) c6)=w7 at *;go_upto_region 4 with fail;go_wp2_with (refine zL p3 N7.out ?_);refine(UL n ta tc _ (ZX.of_own L7.out) (Yf HI.out.v HF.out) (Nat.le_trans HST.out (by decide))).mono ?_;rintro e w8 ⟨ea,ec,rfl,ho8,b8⟩;have E8:=zH (Yb.of_own ho8);have B8:=zH b8;clear ho8 b8;go_wp2_with fail;refine(Z83 ea _ ec (Yc n) _ E8.out (by have:=zx HI.out.v HF.out;omega)).mono ?_;rintro e w9 ⟨x1,d1,x2,d2,rfl,h1,h2,b9⟩;have X1:=zH h1;have X2:=zH h2;have B9:=zH (B8.out.trans (b9.mono B8.out.size));clear h1 h2 b9;have K9:=zH (K7.out.below B9.out);have EL:Hid ((ZT (Yc n)).length=(Yc n).length+2/\(Y5 (Yc n)).length=4):=zH ⟨Z0c _,Z1l _⟩;go_wp2_with fail;refine(Z9u K9.out x1 _ d1 (ZT (Yc n)) x2 _ d2 (Y5 (Yc n)) X1.out X2.out (by
   have h1:=HI.out.sbl;have h2:=HI.out.len;have h3:=HLEN.out;have h4:=zx HI.out.v HF.out;have h5:=EL.out.1;rw[List.length_take,List.length_drop];omega) (by
   have h1:=HI.out.fbl;have h2:=HI.out.len;have h3:=HLEN.out;have h5:=EL.out.2;rw[List.length_take,List.length_drop];omega)).mono ?_
  rintro e wA ⟨rfl,GA,u1,u3,hA,hsA,hfA⟩;go_wp2;go_end0;refine⟨rfl,fun k=>GA k\/Value.ownBlock (.slice a3 (zs.length+1) c3)=some k\/Value.ownBlock (.slice a6 (S.ad.length+1) c6)=some k \/ ∃x∈QG zs ⟨n,ta,tc⟩,Value.ownBlock (.slice x.sa x.n.strokes.length x.sc)=some k,⟨a3,c3,QG zs ⟨n,ta,tc⟩,a6,c6,cs ++ n.cells ta tc,GA,v0,u1,v2,u3,?_⟩,?_,?_⟩
  ·have eZ:(QG zs ⟨n,ta,tc⟩).length=zs.length+1:=Z4l _ _;have eA:(S.add n).ad.length=S.ad.length+1:=by show(S.ad ++ [n]).length=_;rw[List.length_append];rfl
   have eT:(S.add n).sb.take (S.add n).sd=S.sb.take S.sd:=by show(S.sb ++ ZT (Yc n)).take S.sd=_;rw[List.take_append_of_le_length H.out.sd.1]
   have eD:(S.add n).sb.drop (S.add n).sd=S.sb.drop S.sd ++ ZT (Yc n):=by show(S.sb ++ ZT (Yc n)).drop S.sd=_;rw[List.drop_append_of_le_length H.out.sd.1]
   have fT:(S.add n).fb.take (S.add n).fd=S.fb.take S.fd:=by show(S.fb ++ Y5 (Yc n)).take S.fd=_;rw[List.take_append_of_le_length H.out.sd.2]
   have fD:(S.add n).fb.drop (S.add n).fd=S.fb.drop S.fd ++ Y5 (Yc n):=by show(S.fb ++ Y5 (Yc n)).drop S.fd=_;rw[List.drop_append_of_le_length H.out.sd.2]
   have blkne : ∀{base e k m:Nat} {v:Value} {xs:List Value},w9.ownsRow base e k v m xs->e≠138 -> ∀b,v.ownBlock=some b -> ¬(b=p):=fun ho he b hb e=>J9 ho K9.out.blk he (by rw[hb,e]);refine⟨?_,?_,?_,?_,?_,?_,?_,?_⟩
   ·rw[eZ,eA,eT,eD,fT,fD];exact hA
   ·rw[eZ];exact Zp (Zi (Zb O7.out B9.out) hsA (blkne (Zb O7.out B9.out) (by decide))) (Nat.zero_le _)
   ·rw[Z1L,H.out.eq];rfl
   ·intro x hx;rcases U4.1 hx with rfl | hx
    ·exact Zp (Zi (Zb L7.out B9.out) hsA (blkne (Zb L7.out B9.out) (by decide))) (Nat.zero_le _)
    ·exact Zi (Zb (T7.out x hx) B9.out) hsA (blkne (Zb (T7.out x hx) B9.out) (by decide))
   ·rw[eA];exact Zi (Zb A7.out B9.out) hsA (blkne (Zb A7.out B9.out) (by decide))
   ·rw[eZ,eA];intro k hk e;have h1:=OS.out k hk;rcases AL.out k e with h2 | h2
    ·exact AS.out k hk h2
    ·omega
   ·exact⟨Nat.le_trans H.out.sd.1 (by show _<=(S.sb ++ ZT (Yc n)).length;rw[List.length_append];omega),Nat.le_trans H.out.sd.2 (by show _<=(S.fb ++ Y5 (Yc n)).length;rw[List.length_append];omega)⟩
   ·intro k;rw[eZ,eA]
  ·exact(S7.out.trans (Za.of_below B9.out)).trans (hsA.weaken (fun k e=>by rw[e];exact H.out.self))
  ·rintro k (hk | hk | hk | ⟨x,hx,hk⟩)
   ·rcases hfA k hk with h1 | h1
    ·exact .inl ((H.out.f k).2 (.inl h1))
    ·exact .inr (Nat.le_trans S7.out.size (Nat.le_trans B9.out.size h1))
   ·exact .inr (Nat.le_trans B2.out.size (OS.out k hk).1)
   ·rcases AL.out k hk with h1 | h1
    ·exact .inl ((H.out.f k).2 (.inr (.inr (.inl h1))))
    ·exact .inr (Nat.le_trans B2.out.size (Nat.le_trans M4.out h1))
   ·rcases U4.1 hx with rfl | hx
    ·exact .inr (L7.out.lt k hk).1
    ·exact .inl ((H.out.f k).2 (.inr (.inr (.inr ⟨x,hx,hk⟩))))
section
variable {w:World}{p:Nat}{i0 i1 i2 i3 i4 i5:Value}{G:Nat->Prop}{v0 v1 v2 v3:Value}{SD SP FD FP:zU}
theorem Z4L (h:XG w p i0 i1 i2 i3 i4 i5 G v0 v1 v2 v3 SD SP FD FP)(hs:SD.length+SP.length<=16777216)(hf:FD.length+FP.length<=16777216):
  Calls zq 134 #[.pointer (some ⟨p,6,none⟩)] w fun e w' => ∃oa oc,e = .returned (.slice oa (ZB (SD ++ SP) (FD ++ FP)).length oc)/\Xq w' w.heap.size oa (ZB (SD ++ SP) (FD ++ FP)).length oc (ZB (SD ++ SP) (FD ++ FP))/\Below w.heap.size w w':=by
 obtain⟨c0,c1,c2,c3,_⟩:=h.cells;obtain⟨a0,k0,rfl,r0⟩:=h.s0.rd;obtain⟨a1,k1,rfl,r1⟩:=h.s1.rd;obtain⟨a2,k2,rfl,r2⟩:=h.s2.rd;obtain⟨a3,k3,rfl,r3⟩:=h.s3.rd;have hlt:=h.plt;clear h;have bd:Below w.heap.size w w.drew:=(Below.refl _ _).drew;have keep0:w.drew.cell? ⟨p,6,none⟩=some (.slice a0 SD.length k0)/\w.drew.cell? ⟨p,7,none⟩=some (.slice a1 SP.length k1)/\w.drew.cell? ⟨p,8,none⟩=some (.slice a2 FD.length k2)/\w.drew.cell? ⟨p,9,none⟩=some (.slice a3 FP.length k3):=⟨c0,c1,c2,c3⟩;have q0:=r0.below bd;have q1:=r1.below bd;have hs1:SD.length<=70368744177664/\SP.length<=70368744177664/\FD.length<=70368744177664/\FP.length<=70368744177664:=by omega
 have HS1:=zH hs1;clear hs1;have HS:=zH hs;clear hs;have HF:=zH hf;clear hf;go_enter Tryz.func134,Tryz.ntmps134;go_wp2_with fail;go_region_held3 (fun w'=>w'.cell? ⟨p,6,none⟩=some (.slice a0 SD.length k0)/\w'.cell? ⟨p,7,none⟩=some (.slice a1 SP.length k1)/\w'.cell? ⟨p,8,none⟩=some (.slice a2 FD.length k2)/\w'.cell? ⟨p,9,none⟩=some (.slice a3 FP.length k3))
  (first
   | with_reducible exact keep0
   | with_reducible exact keep1
   | with_reducible exact keep2
   | with_reducible exact keep3)
  (first
   |(go_at_call 180;refine(Z3B a2 _ k2 FD a3 _ k3 FP _ Q2.out Q3.out HS1.out.2.2.1 HS1.out.2.2.2).mono ?_;rintro e w2 ⟨fa,fc,rfl,hs2,hb2'⟩;dsimp only;have hs1':=Yb.of_own (Zb HS2.out hb2');have hs2':=Yb.of_own hs2;have hb2:=hbw.trans (hb2'.mono hbw.size);have keep2:=And.intro ((hb2.cell (p:=⟨p,6,none⟩) hlt).trans c0) (And.intro ((hb2.cell (p:=⟨p,7,none⟩) hlt).trans c1) (And.intro ((hb2.cell (p:=⟨p,8,none⟩) hlt).trans c2) ((hb2.cell (p:=⟨p,9,none⟩) hlt).trans c3))))
   |(go_at_call 180;refine(Z3B a0 _ k0 SD a1 _ k1 SP _ q0 q1 HS1.out.1 HS1.out.2.1).mono ?_;rintro e w1 ⟨sa,sc,rfl,hs1,hb⟩;dsimp only;have hbw:=bd.trans hb;have Q2:=zH (r2.below hbw);have Q3:=zH (r3.below hbw);have HS2:=zH hs1;clear hs1 hb;have keep1:=And.intro ((hbw.cell (p:=⟨p,6,none⟩) hlt).trans c0) (And.intro ((hbw.cell (p:=⟨p,7,none⟩) hlt).trans c1) (And.intro ((hbw.cell (p:=⟨p,8,none⟩) hlt).trans c2) ((hbw.cell (p:=⟨p,9,none⟩) hlt).trans c3))))
   |(go_at_call 181;refine(Z9q _ _ _ (SD ++ SP) _ _ _ (FD ++ FP) _ hs1' hs2' HS.out HF.out).mono ?_;rintro e w3 ⟨oa,oc,rfl,ho,hb3'⟩;dsimp only;have hb3:=hb2.trans (hb3'.mono hb2.size);have keep3:=And.intro ((hb3.cell (p:=⟨p,6,none⟩) hlt).trans c0) (And.intro ((hb3.cell (p:=⟨p,7,none⟩) hlt).trans c1) (And.intro ((hb3.cell (p:=⟨p,8,none⟩) hlt).trans c2) ((hb3.cell (p:=⟨p,9,none⟩) hlt).trans c3)))))
 go_wp2;go_ret;exact⟨oa,oc,rfl,ho.mono hb2.size,hb3⟩
theorem Z82 (h:XG w p i0 i1 i2 i3 i4 i5 G v0 v1 v2 v3 SD SP FD FP)(hs:SD.length+SP.length<=16777216)(hf:FD.length+FP.length<=16777216):
  Calls zq 132 #[.pointer (some ⟨p,6,none⟩)] w fun e w'=>e = .returned (.tuple #[]) /\ ∃G' u0 u1 u2 u3,XG w' p i0 i1 i2 i3 i4 i5 G' u0 u1 u2 u3 (SD ++ SP) [] (FD ++ FP) []/\Za (fun k=>k=p) w w'/\(∀k,G' k->G k\/w.heap.size<=k):=by
 obtain⟨c0,c1,c2,c3,f0,f1,f2,f3⟩:=h.cells;have hs1:SD.length<=70368744177664/\SP.length<=70368744177664/\FD.length<=70368744177664/\FP.length<=70368744177664:=by omega
 have HS1:=zH hs1;clear hs1 hs hf;obtain⟨a0,k0,rfl,r0⟩:=h.s0.rd;obtain⟨a1,k1,rfl,r1⟩:=h.s1.rd;obtain⟨a2,k2,rfl,r2⟩:=h.s2.rd;obtain⟨a3,k3,rfl,r3⟩:=h.s3.rd;have H:=zH h;clear h;go_enter Tryz.func132,Tryz.ntmps132;go_wp2_with fail;refine(Z3B _ _ _ SD _ _ _ SP _ r0 r1 HS1.out.1 HS1.out.2.1).mono ?_;rintro e w1 ⟨sa,sc,rfl,hs1,hb⟩;have h1:=H.out.below hb;obtain⟨c0,c1,c2,c3,f0,f1,f2,f3⟩:=h1.cells;go_wp2_with fail;have h2:=h1.set01 (Vl.of_own hs1) (Vl.nil w1);have z2:=(J3 w1 p 6 7 (.slice sa (SD.length+SP.length) sc) (.slice none 0 0)).size;have S2:=zH ((Za.of_below (S:=fun k=>k=p) hb).trans (J3 w1 p 6 7 (.slice sa (SD.length+SP.length) sc) (.slice none 0 0)));have hp:p < w.heap.size:=H.out.plt;have hne2 : ∀{a:zA} {n c:Nat} {l:zU},Yb w1 a n c l->XG w1 p i0 i1 i2 i3 i4 i5 G (.slice a0 SD.length k0) (.slice a1 SP.length k1) (.slice a2 FD.length k2) (.slice a3 FP.length k3) SD SP FD FP->True:=fun _ _=>trivial;clear hne2;generalize (w1.setCell ⟨p,6,none⟩ (.slice sa (SD.length+SP.length) sc)).setCell ⟨p,7,none⟩ (.slice none 0 0)=w2 at *;obtain⟨b2,q2,e2,r2'⟩:=h2.s2.rd;obtain⟨b3,q3,e3,r3'⟩:=h2.s3.rd;cases e2;cases e3;have FT:Hid (∀k,Value.ownBlock (.slice sa (SD.length+SP.length) sc)=some k->w.heap.size<=k):=fun k hk=>(hs1.lt k hk).1;have hbs:=hb.size;clear c0 c1 c2 c3 f0 f1 f2 f3 r2 r3 hs1 hb h1;refine(Z3B _ _ _ FD _ _ _ FP _ r2' r3' HS1.out.2.2.1 HS1.out.2.2.2).mono ?_;rintro e w3 ⟨fa,fc,rfl,hs3,hb3⟩;have h3:=h2.below hb3;obtain⟨c0,c1,c2,c3,f0,f1,f2,f3⟩:=h3.cells;go_wp2;go_end0;refine⟨rfl,_,_,_,_,_,h3.set23 (Vl.of_own hs3) (Vl.nil w3),?_,?_⟩
 ·exact(S2.out.trans (Za.of_below hb3)).trans (J3 w3 p 8 9 _ _)
 ·rintro k (rfl | hk | hk | hk | hk)
  ·exact .inl H.out.self
  ·exact .inr (FT.out k hk)
  ·exact absurd hk (J4 k)
  ·have:=(hs3.lt k hk).1;exact .inr (by omega)
  ·exact absurd hk (J4 k)
end
def QC (SP FP:zU)(stock foil:Nat)(flip:Int):zU:=
 if 0<=flip then Qk (SP.take stock ++ FP.take foil) (flip.toNat / 8) (flip.toNat % 8)else SP.take stock ++ FP.take foil
theorem Z4g (SP FP:zU)(stock foil:Nat)(flip:Int)(h1:stock<=SP.length)(h2:foil<=FP.length):(QC SP FP stock foil flip).length=stock+foil:=by
 unfold QC;split <;> simp[Qj] <;> omega
theorem UI (D P:zU)(m:Nat):(D ++ P).take (D.length+m)=D ++ P.take m:=by
 rw[List.take_append,List.take_of_length_le (by omega),Nat.add_sub_cancel_left]
theorem Z8l (SD SP FP:zU)(stock foil:Nat)(flip:Int)(h1:stock<=SP.length)(h2:foil<=FP.length):
  SD ++ (QC SP FP stock foil flip).take stock=JL (SD ++ SP) SD.length stock flip:=by
 have hl:(SP.take stock).length=stock:=by rw[List.length_take];omega
 unfold QC JL;by_cases hf:0<=flip
 ·rw[if_pos hf];by_cases hs:flip.toNat / 8 < stock
  ·rw[if_pos ⟨hf,hs⟩,Z38 _ _ _ _ (by rw[hl];exact hs),List.take_left' (by rw[Qj,hl]),UI,VA _ _ _ _ (by omega),Nat.add_sub_cancel_left]
  ·rw[if_neg (by omega),VA _ _ _ _ (by rw[hl];omega),List.take_left' hl,UI]
 ·rw[if_neg hf,if_neg (by omega),List.take_left' hl,UI]
theorem Z9G (SP FD FP:zU)(stock foil:Nat)(flip:Int)(h1:stock<=SP.length)(h2:foil<=FP.length):
  FD ++ (QC SP FP stock foil flip).drop stock=Ja (FD ++ FP) FD.length stock foil flip:=by
 have hl:(SP.take stock).length=stock:=by rw[List.length_take];omega
 unfold QC Ja;by_cases hf:0<=flip
 ·rw[if_pos hf];by_cases hs:flip.toNat / 8 < stock
  ·rw[if_neg (by omega),Z38 _ _ _ _ (by rw[hl];exact hs),List.drop_left' (by rw[Qj,hl]),UI]
  ·rw[if_pos ⟨hf,hs⟩,VA _ _ _ _ (by rw[hl];omega),List.drop_left' hl,UI,VA _ _ _ _ (by omega),hl];congr 2;omega
 ·rw[if_neg hf,if_neg (by omega),List.drop_left' hl,UI]
theorem J8 (x lo hi:Int)(b:Bool)(hb:decide (lo<=x/\x<=hi)=b)(w:World):
  Calls zq 77 #[.int .i64 x,.int .i64 lo,.int .i64 hi] w fun e w'=>e = .returned (.bool b)/\w=w':=by
 subst hb;by_cases h1:lo<=x
 ·have t1:decide (lo<=x)=true:=by simp;omega
  by_cases h2:x<=hi
  focus
   have t2:decide (x<=hi)=true:=by simp;omega
   have t3:decide (lo<=x/\x<=hi)=true:=by simp;omega
  rotate_left
  focus
   have t2:decide (x<=hi)=false:=by simp;omega
   have t3:decide (lo<=x/\x<=hi)=false:=by simp;omega
  all_goals
   rw[t3];clear t3;go_enter Tryz.func77,Tryz.ntmps77;go_wp2;go_ret;exact⟨rfl,rfl⟩
 ·have t1:decide (lo<=x)=false:=by simp;omega
  have t3:decide (lo<=x/\x<=hi)=false:=by simp;omega
  rw[t3];clear t3;go_enter Tryz.func77,Tryz.ntmps77;go_wp2;go_ret;exact⟨rfl,rfl⟩
section
variable {w:World}{p:Nat}{G:Nat->Prop}{v0 v1 v2 v3:Value}{SD SP FD FP:zU}
end
theorem Z3O (xs:List LN): ∀r∈xs.map U0,r.length=19:=by
 intro r hr;obtain⟨x,_,rfl⟩:=List.mem_map.1 hr;exact Z2x x
theorem ZaF (xs:List LN): ∀r∈xs.map U0,∀v∈r,v.oneCell'=true:=by
 intro r hr;obtain⟨x,_,rfl⟩:=List.mem_map.1 hr;exact x.n.cells_one _ _
theorem Vu.of_own {w:World}{base g n c:Nat}{xs:List LN}(h:w.ownsRow base 47 19 (.slice (some ⟨g,0,none⟩) n c) n (Zw xs))(hn:xs.length=n): ∃sz,Vu w g 47 19 sz (xs.map U0):=by
 have hrd:=ZX.of_own h;rcases h.2 with ⟨h2,_⟩ | ⟨g',cap,cur,hv,_,hg,hnc,hcm,hs,ht⟩
 ·cases h2
 ·simp only[Value.slice.injEq,Option.some.injEq,Addr.mk.injEq]at hv;obtain⟨⟨rfl,_,_⟩,_,rfl⟩:=hv;refine⟨cur.size,⟨cur,hg,rfl⟩,by rw[List.length_map,hn,hs];exact Nat.mul_le_mul_right _ hnc,fun i r hi j v hj=>?_,Z3O xs,ZaF xs⟩;have h1:(Zw xs)[i * 19+j]? = some v:=(Uq 19 _ (Z3O xs) i r hi j (by rw[<-Z3O xs r (List.mem_of_getElem? hi)];exact(List.getElem?_eq_some_iff.1 hj).1)).trans hj;rw[<-ht,List.getElem?_take]at h1;split at h1
  ·rw[Array.getElem?_toList]at h1;simp[World.cell?,hg,h1]
  ·cases h1
theorem Za9 (w:World)(ty:TypeId)(g o m c:Nat)(hm:0 < m)(ht:w.there g o (m * 19)):
  (Builtin.clear_ #[24] ty #[.slice (some ⟨g,o,none⟩) m c]).run zq w = .ok (.tuple #[]) (w.setCells g o (Builtin.zeroCells (Z5 Zd none 0) m).toList):=by
 have hsz:(Builtin.zeroCells (Z5 Zd none 0) m).toList.length=m * 19:=by
  unfold Builtin.zeroCells;rw[Z1f];simp
 have h1 : ∀v∈(Builtin.zeroCells (Z5 Zd none 0) m).toList,v.oneCell'=true:=by
  intro v hv;unfold Builtin.zeroCells at hv;rw[Z1f]at hv;simp only[Array.toList_map,List.mem_map]at hv;obtain⟨i,_,rfl⟩:=hv;have hi:i % 19 < (Z5 Zd none 0).size:=by rw[Z1f];omega
  rw[getElem!_pos (Z5 Zd none 0) (i % 19) hi];exact(Array.all_eq_true_iff_forall_mem.1 (Zh Zd none 0)) _ (Array.getElem_mem hi)
 generalize hz:Z5 Zd none 0=z at *;have hst:=run_storeCells_cells (P:=zq) g o (Builtin.zeroCells z m).toList 0 w (fun j hj=>(ht j (by omega)).1) (fun j hj=>(ht j (by omega)).2) h1;simp only[Nat.add_zero]at hst;obtain⟨k,rfl⟩ : ∃k,m=k+1:=⟨m - 1,by omega⟩;have hzn : ∀W,(zeroValue 47).run zq W = .ok (.agg z) W:=fun W=>by rw[<-hz];exact Jt W
 simp[Builtin.clear_,run_underlying Tryz.underlying24,hzn,Value.cells,hst]
theorem Z3f {P:Program}{ops:Array Oper}{rest:List Oper}{op:Oper}{a:Act}{w w':World}{Q:Exit->Act->World->Prop}(hgd:op.guard=none)(s:Operand)(t:TypeId)(ho:op.op = .call { callee := .builtin .clear,args := #[s],argTypes := #[t] })(v1 v:Value)
  (hs:a.eval s=v1) (hr:(Builtin.clear_ #[t] op.type #[v1]).run P w = .ok v w') (h:wpList P ops Q rest (a.put op.dst v) w'):wpList P ops Q (op :: rest) a w:=by
 refine wpList_plain hgd fun K hK=>?_;unfold Oper.wp;simp[execOp,ho,resolve,invoke,builtin,hs,hr,Result.andThen];exact hK _ _ h
structure Z26 (xs R:List LN)(q:LN->Bool)(i j:Nat):Prop where
 len:R.length=xs.length
 kept:R.take i=(xs.take j).filter q
 todo:R.drop j=xs.drop j
 lt:i < j
 le:j<=xs.length
theorem Z26.get {xs R:List LN}{q:LN->Bool}{i j k:Nat}(h:Z26 xs R q i j)(hk:j<=k):R[k]? = xs[k]? := by
 have h1:=congrArg (fun l=>l[k - j]?) h.todo;simp only[List.getElem?_drop]at h1;rwa [show j+(k - j)=k by omega]at h1
theorem Z7t {A:Type}{l m:List A}{j:Nat}(h : ∀k,j<=k->l[k]? = m[k]?):l.drop j=m.drop j:=by
 apply List.ext_getElem?;intro i;rw[List.getElem?_drop,List.getElem?_drop];exact h _ (Nat.le_add_right _ _)
theorem Z26.keep {xs R:List LN}{q:LN->Bool}{i j:Nat}(h:Z26 xs R q i j){x:LN}(hx:xs[j]? = some x)(hq:q x=true):Z26 xs (R.set i x) q (i+1) (j+1):=by
 have hj:=(List.getElem?_eq_some_iff.1 hx).1;have hi:i < R.length:=by rw[h.len];have:=h.lt;omega
 refine⟨by rw[List.length_set];exact h.len,?_,Z7t fun k hk=>?_,Nat.succ_lt_succ h.lt,hj⟩
 ·rw[Y8 (xs:=R.set i x) (by rw[List.getElem?_set_self hi]),Y8 hx,List.filter_append,<-h.kept];congr 1
  ·exact List.take_set_of_le (Nat.le_refl _)
  ·simp[hq]
 ·rw[List.getElem?_set_ne (by have:=h.lt;omega)];exact h.get (by omega)
theorem Z26.skip {xs R:List LN}{q:LN->Bool}{i j:Nat}(h:Z26 xs R q i j){x:LN}(hx:xs[j]? = some x)(hq:q x=false):Z26 xs R q i (j+1):=by
 have hj:=(List.getElem?_eq_some_iff.1 hx).1;refine⟨h.len,?_,Z7t fun k hk=>h.get (by omega),by have:=h.lt;omega,hj⟩;rw[Y8 hx,List.filter_append,<-h.kept];simp[hq]
theorem Z26.start {xs:List LN}{p:LN->Bool}{i:Nat}(h:xs.findIdx? p=some i):Z26 xs xs (fun x=>!p x) i (i+1):=by
 obtain⟨h1,h2,h3⟩:=List.findIdx?_eq_some_iff_getElem.1 h;have hx:xs[i]? = some xs[i]:=List.getElem?_eq_getElem h1;refine⟨rfl,?_,rfl,Nat.lt_succ_self i,h1⟩;rw[Y8 hx,List.filter_append,List.filter_eq_self.2 (fun x hx=>?_)]
 ·simp[h2]
 ·obtain⟨j,hj,rfl⟩:=List.mem_take_iff_getElem.1 hx;have:=h3 j (by omega);simpa using this
theorem Z26.done {xs R:List LN}{q:LN->Bool}{i:Nat}(h:Z26 xs R q i xs.length):R.take i=xs.filter q/\(xs.filter q).length=i:=by
 have h1:=h.kept;rw[List.take_length]at h1;refine⟨h1,?_⟩;rw[<-h1,List.length_take,h.len];have:=h.lt;omega
theorem ZaR {xs:List LN}{p:LN->Bool}(h:xs.findIdx? p=none):xs.filter (fun x=>!p x)=xs:=by
 rw[List.findIdx?_eq_none_iff]at h;exact List.filter_eq_self.2 fun x hx=>by simp[h x hx]
theorem ZaA {w w':World}{B g:Nat}{x:LN}{cur:Xz}(h:w.ownsRow B 3 1 (.slice x.sa x.n.strokes.length x.sc) x.n.strokes.length (x.n.strokes.map Yo))(hg:w.heap[g]? = some (.cells cur 47))(hs:Za (fun k=>k=g) w w'):
  w'.ownsRow B 3 1 (.slice x.sa x.n.strokes.length x.sc) x.n.strokes.length (x.n.strokes.map Yo):=
 Zi h hs fun b hb e=>Zg h hg (by intro cur;simp) (by rw[hb,show b=g from e])
theorem Zbk (xs:List LN)(pred:LN->Bool)(fn:Nat)(cv:Value)(hfn : ∀(args:Xz) (w:World),(callFunc fn args).run zq w = .ok (.enter fn args) w)
  (a:zA) (n c:Nat) (V w:World) (hm:Vr V w a c n xs)
  (hp : ∀e∈xs,∀W,Za (fun k=>Value.ownBlock (.slice a n c)=some k) w W->Calls zq fn #[.agg (Z5 e.n e.sa e.sc),cv] W fun r W'=>r = .returned (.bool (pred e))/\Below W.heap.size W W'):
  Calls zq 67 #[.slice a n c,.func (.func fn) #[] #[cv]] w fun e w'=>(∃a' i c',e = .returned (.slice a' i c')/\Z2K V.heap.size w'.heap.size w' a' i c' (xs.filter (fun x=>!pred x))/\i<=n)/\Below V.heap.size w w':=by
 have I43:=zH zI;have I19:(zq.info? 47).map (·.size)=some 19:=by kernel_rfl
 have RL:Jb w a n c xs:=Z0B (ZX.of_own hm.own) (fun y hy=>ZX.of_own (hm.str y hy));have IX:=zH (Z4n xs pred fn cv hfn a n c w RL (fun e he W hb=>hp e he W (Za.of_below hb)));have HM:=zH hm;have HR:=zH RL;have HPD:=zH hp;have HN:=zH hm.len;have hn63:n<=9223372036854775807:=by have h1:=RL.2.1;have h2:=RL.2.2.1;unfold maxLen at h2;omega
 have H63:=zH hn63;clear hm hp RL hn63;go_enter Tryz.func67,Tryz.ntmps67;go_wp2_with fail;refine IX.out.mono ?_;rintro e w1 ⟨rfl,b1⟩;have B1:=zH b1;clear b1;cases hix:xs.findIdx? pred with
 | none=>
  have hv:Z4o xs pred = -1:=by simp[Z4o,hix]
  have RF:=zH (show Z2K V.heap.size w1.heap.size w1 a n c (xs.filter (fun x=>!pred x))by rw[ZaR hix];exact(HM.out.below B1.out).kept);rw[hv];clear hv hix;go_wp2;go_ret;exact⟨⟨a,n,c,rfl,RF.out,Nat.le_refl _⟩,B1.out.mono HM.out.bel.size⟩
 | some i0=>
  have hv:Z4o xs pred=(i0:Int):=by simp[Z4o,hix]
  have D0:=zH (Z26.start hix);rw[hv];clear hv hix;obtain⟨g,rfl,LG⟩ : ∃g,a=some ⟨g,0,none⟩/\Hid (V.heap.size<=g):=by
   rcases HM.out.own.2 with ⟨h2,h3⟩ | ⟨g,cap,cur,hv,hg,_⟩
   ·have h4:=D0.out.le;rw[HN.out,h3]at h4;omega
   ·cases hv;exact⟨g,rfl,zH hg⟩
  obtain⟨sz,SR⟩:=Vu.of_own HM.out.own HN.out;have SR1:=zH (SR.below B1.out);have SM1:Hid (Za (fun k=>k=g) w w1):=zH (Za.of_below B1.out);have HPE:=zH (show ∀e∈xs,∀W,Za (fun k=>k=g) w W->Calls zq fn #[.agg (Z5 e.n e.sa e.sc),cv] W fun r W'=>r = .returned (.bool (pred e))/\Below W.heap.size W W' from fun e he W hs=>HPD.out e he W (hs.weaken fun k hk=>by rw[show k=g from hk];rfl));have Qm:Hid ((i0:Int)+1<=9223372036854775807):=zH (by have h1:=D0.out.le;have h2:=HN.out;have h3:=H63.out;omega);clear SR;have q1:((i0:Int) == -1)=false:=by rw[beq_eq_false_iff_ne];omega
  go_upto_region 4 with fail;clear q1;have hk64:=Qm.out;go_wp2_with fail;clear hk64;go_loopw [5,6] (fun iv jv wr=>∃(i j:Nat) (R:List LN),iv = .int .i64 (i:Int)/\jv = .int .i64 (j:Int)/\j<=n/\Hid (Z26 xs R (fun x=>!pred x) i j)/\Hid (Vu wr g 47 19 sz (R.map U0))/\Hid (Za (fun k=>k=g) w wr)) (fun _ jv _=>n - (intOf jv).toNat)
  case atStart=>exact⟨i0,i0+1,xs,rfl,by go_num,by have:=D0.out.le;have:=HN.out;omega,D0,SR1,SM1⟩
  case round=>
   obtain⟨i,j,R,rfl,rfl,hj,DS,SR,SM⟩:=hrel;by_cases hlt:j < n
   ·have t0:decide ((j:Int) < (n:Int))=true:=by simp;omega
    obtain⟨x,Hx⟩ : ∃x,xs[j]? = some x:=⟨_,List.getElem?_eq_getElem (by rw[HN.out];exact hlt)⟩;have HX:=zH Hx;have hrx:(R.map U0)[j]? = some (U0 x):=by rw[List.getElem?_map,DS.out.get (Nat.le_refl _),Hx];rfl
    have HRX:=zH (SR.out.rng j _ hrx);obtain⟨o,ho⟩:=zX (0+j * 19);have ho2:j * 19=o:=by have:=ho.out;omega
    rw[ho2]at HRX;have hi:=fun W=>ZN (W:=W) (c:=c) (b:=g) Tryz.underlying24 I19 hlt ho.out;clear Hx hrx ho2;go_upto_region 8 with (first
     |(refine wpList_load_mid rfl 47 _ rfl g o rfl (x.n.cells x.sa x.sc) _ HRX.out Tryz.underlying47 rfl (by exact I19) ?_)
     |(refine zP wr wr.heap.size (Z5 x.n x.sa x.sc) ?_))
    clear t0 hi HRX;have bt:Below wr.heap.size wr (wr.alloc (.cells (Z5 x.n x.sa x.sc) 47)):=zB _ _;have P7:=zH (Z9 wr (.cells (Z5 x.n x.sa x.sc) 47));have SR2:=zH (SR.out.below bt);have SM2:Hid (Za (fun k=>k=g) w _):=zH (SM.out.trans (Za.of_below bt));have LG2:Hid (g < wr.heap.size):=zH (by obtain⟨cur,h1,_⟩:=SR.out.blk;exact Zq h1);obtain⟨p7,hp7⟩:=zX (wr.heap.size);rw[hp7.out]at P7 LG2 ⊢;generalize wr.alloc (.cells (Z5 x.n x.sa x.sc) 47)=wt at *;clear bt SR SM;go_wp2_with (refine zL p7 P7.out ?_);refine(HPE.out x (List.mem_of_getElem? HX.out) _ SM2.out).mono ?_;rintro e w3 ⟨rfl,b3⟩;have SR3:=zH (SR2.out.below b3);have SM3:Hid (Za (fun k=>k=g) w w3):=zH (SM2.out.trans (Za.of_below b3));have P73:=zH (Z7 b3 P7.out);have HJ64:Hid ((j:Int)+1<=9223372036854775807):=zH (by have h3:=H63.out;omega);clear b3 SR2 SM2 P7;cases hpx:pred x with
    | true=>
     have DS2:=zH (DS.out.skip HX.out (show(!pred x)=false by rw[hpx];rfl));clear hpx;go_upto_region 6 with fail;have hj64:=HJ64.out;go_wp2;go_roundw
     case rel=>exact⟨i,j+1,R,rfl,by go_num,by omega,DS2,SR3,SM3⟩
     case measure=>simp[intOf];omega
    | false=>
     have DS2:=zH (DS.out.keep HX.out (show(!pred x)=true by rw[hpx];rfl));clear hpx;have hin:i < n:=by have:=DS.out.lt;omega
     have hiR:i < (R.map U0).length:=by rw[List.length_map,DS.out.len,HN.out];exact hin
     have TH:=zH (SR3.out.there hiR);have ST:=zH (SR3.out.set hiR (r:=U0 x) rfl (Z5j x));obtain⟨u,hu⟩:=zX (0+i * 19);have hu2:i * 19=u:=by have:=hu.out;omega
     rw[hu2]at TH ST;have hiu:=fun W=>ZN (W:=W) (c:=c) (b:=g) Tryz.underlying24 I19 hin hu.out;have HI64:Hid ((i:Int)+1<=9223372036854775807):=zH (by have h3:=H63.out;omega);have ST2:=ST;rw[<-List.map_set]at ST2;clear hiR hu2 ST;go_upto_region 10 with (first
      |(refine zL p7 P73.out ?_)
      |(refine wpList_store_mid rfl 47 _ _ rfl g u (Z5 x.n x.sa x.sc) rfl rfl TH.out (I43.out _ _ _) (Zh x.n x.sa x.sc) ?_))
     have SM4:=zH (SM3.out.trans (Z11 g u (Z5 x.n x.sa x.sc).toList w3));generalize hw4:w3.setCells g u (Z5 x.n x.sa x.sc).toList=w4 at *;have ST4:Hid (Vu w4 g 47 19 sz ((R.set i x).map U0)):=zH (by rw[<-hw4];exact ST2.out);clear hw4 ST2 hiu TH SR3;have hi64:=HI64.out;go_upto_region 6 with fail;clear hi64;have hj64:=HJ64.out;go_wp2;go_roundw
     case rel=>exact⟨i+1,j+1,R.set i x,by go_num,by go_num,by omega,DS2,ST4,SM4⟩
     case measure=>simp[intOf];omega
   ·have t0:decide ((j:Int) < (n:Int))=false:=by simp;omega
    go_upto_region 11 with fail;clear t0;have hjn:j=xs.length:=by have:=HN.out;omega
    have DN:=zH (show R.take i=xs.filter (fun x=>!pred x)/\(xs.filter (fun x=>!pred x)).length=i from by have h:=DS.out;rw[hjn]at h;exact h.done);have hin:i < n:=by have:=DS.out.lt;omega
    have HIN:=zH hin;have hcn:=HR.out.2.1;have hcM:=HR.out.2.2.1;have RC:Hid (i<=n/\n<=c/\c<=maxLen):=zH ⟨by omega,hcn,hcM⟩;clear hcn hcM;obtain⟨inf,hi1,hi2⟩ : ∃t,zq.info? 47=some t/\t.size=19:=by
     cases hq:zq.info? 47 with
     | none=>simp[hq]at I19
     | some t=>exact⟨t,rfl,by simpa [hq] using I19⟩
    have hel:zq.elem 24=47:=by simp[Program.elem,Tryz.underlying24]
    have hcut1 : ∀W,(Instr.sliceAt 24 (.slice (some ⟨g,0,none⟩) n c) (some (.int .i64 (i:Int))) none none).run zq W = .ok (.slice (some ⟨g,i * 19,none⟩) (n - i) (c - i)) W:=fun W=>by
     have h1:=RC.out;rw[run_sliceAt_slice (P:=zq) W _ _ _ _ _ (by rw[hel];exact Tryz.underlying24),run_slice_any (P:=zq) W _ _ n c (by rw[hel];exact Tryz.underlying24)];simp[Instr.sliceBounds,run_sliceBound,Result.andThen,sizeOf,typeInfo,hel,hi1,hi2,sliced,h1.1,show ¬c=i by omega,Addr.add];omega
    have hcut2 : ∀W,(Instr.sliceAt 24 (.slice (some ⟨g,0,none⟩) n c) none (some (.int .i64 (i:Int))) none).run zq W = .ok (.slice (some ⟨g,0,none⟩) i c) W:=fun W=>by
     have h1:=RC.out;rw[run_sliceAt_slice (P:=zq) W _ _ _ _ _ (by rw[hel];exact Tryz.underlying24),run_slice_any (P:=zq) W _ _ n c (by rw[hel];exact Tryz.underlying24)];simp[Instr.sliceBounds,run_sliceBound,Result.andThen,sizeOf,typeInfo,hel,hi1,hi2,sliced,show i<=c by omega,Addr.add]
    have hthere:wr.there g (i * 19) ((n - i) * 19):=by
     intro k hk;obtain⟨cur,h1,h2⟩:=SR.out.blk;have h3:=SR.out.le;rw[List.length_map,DS.out.len,HN.out]at h3;have h4:(n - i) * 19+i * 19=n * 19:=by rw[<-Nat.add_mul];congr 1;omega
     have h5:i * 19+k < cur.size:=by omega
     exact⟨by simp[World.cell?,h1,h5],by simp[World.frozen?,h1]⟩
    have hclr:=fun ty=>Za9 wr ty g (i * 19) (n - i) (c - i) (by omega) hthere;have SMc:=zH (SM.out.trans (Z11 g (i * 19) (Builtin.zeroCells (Z5 Zd none 0) (n - i)).toList wr));have RNG:=zH (show ∀q x,(xs.filter (fun x=>!pred x))[q]? = some x->(wr.setCells g (i * 19) (Builtin.zeroCells (Z5 Zd none 0) (n - i)).toList).rangeAt g (0+q * 19) (x.n.cells x.sa x.sc)from fun q x hx=>by
     have hq:=(List.getElem?_eq_some_iff.1 hx).1;rw[DN.out.2]at hq;rw[<-DN.out.1,List.getElem?_take,if_pos hq]at hx;have h1:=SR.out.rng q (U0 x) (by rw[List.getElem?_map,hx];rfl);rw[Nat.zero_add];refine World.rangeAt_setCells_apart h1 _ _ _ (.inr (.inl ?_));have h2:(q+1) * 19<=i * 19:=Nat.mul_le_mul_right _ hq;rw[Nat.add_mul]at h2;rw[Z2x];omega)
    clear hthere hi1 hi2 hel;generalize wr.setCells g (i * 19) (Builtin.zeroCells (Z5 Zd none 0) (n - i)).toList=wc at *;go_wp2_with (refine Z3f rfl _ _ rfl _ _ rfl (hclr _) ?_);go_ret;refine⟨⟨some ⟨g,0,none⟩,i,c,rfl,⟨Nat.le_refl _,fun W2 hs2=>⟨DN.out.2,by have h1:=RC.out;omega,RC.out.2.2,.inr ⟨g,0,rfl,fun q x hx=>⟨?_,?_⟩⟩⟩⟩,Nat.le_of_lt HIN.out⟩,?_⟩
    ·have hgl:g < wc.heap.size:=by
      have h1:=RNG.out q x hx 0 _ rfl;exact World.block_lt_of_cell? wc _ h1
     have hb:=hs2.block g hgl (fun h=>by have:=LG.out;omega);intro j v hj;have h1:=RNG.out q x hx j v hj;rw[<-h1];exact World.cell?_of_block hb
    ·obtain⟨cur,h1⟩ : ∃cur,w.heap[g]? = some (.cells cur 47):=by
      rcases HM.out.own.2 with ⟨h2,h3⟩ | ⟨g',cap,cur,hv,_,hg,_⟩
      ·cases h2
      ·cases hv;exact⟨cur,hg⟩
     have h3:=ZaA (HM.out.str x (List.mem_filter.1 (List.mem_of_getElem? hx)).1) h1 SMc.out;exact ZX.of_own (Zi h3 hs2 (fun b hb hx=>by have:=h3.lt b hb;omega))
    ·exact SMc.out.below (Below.refl _ _) HM.out.bel.size (fun k hk=>by rw[show k=g from hk];exact LG.out)
theorem Z3i (r s d:Int)(w:World):Calls zq 52 #[.agg #[.int .i64 r,.int .i64 s,.int .i64 d]] w fun e w'=>e = .returned (.bool (Ys.valid ⟨r,s,d⟩))/\Below w.heap.size w w':=by
 have hb:=zB w (.cells #[.int .i64 r,.int .i64 s,.int .i64 d] 23);have hv:Ys.valid ⟨r,s,d⟩=(decide (1<=r) && (decide (r<=24) && (decide (2<=s) && (decide (s<=96) && (decide (1<=d) && decide (d<=s)))))):=by
  simp only[Ys.valid,Xx];grind
 rw[hv];clear hv;cases h0:decide (1<=r)
 ·go_enter Tryz.func52,Tryz.ntmps52;go_wp2;go_ret;exact⟨rfl,hb⟩
 ·cases h1:decide (r<=24)
  ·go_enter Tryz.func52,Tryz.ntmps52;go_wp2;go_ret;exact⟨rfl,hb⟩
  ·cases h2:decide (2<=s)
   ·go_enter Tryz.func52,Tryz.ntmps52;go_wp2;go_ret;exact⟨rfl,hb⟩
   ·cases h3:decide (s<=96)
    ·go_enter Tryz.func52,Tryz.ntmps52;go_wp2;go_ret;exact⟨rfl,hb⟩
    ·cases h4:decide (1<=d)
     ·go_enter Tryz.func52,Tryz.ntmps52;go_wp2;go_ret;exact⟨rfl,hb⟩
     ·cases h5:decide (d<=s)
      ·go_enter Tryz.func52,Tryz.ntmps52;go_wp2;go_ret;exact⟨rfl,hb⟩
      ·go_enter Tryz.func52,Tryz.ntmps52;go_wp2;go_ret;exact⟨rfl,hb⟩
theorem Ze5 {P T:Nat->Nat->Nat->World->Prop}{G:Prop}(h1:(∀a b c W,P a b c W->T a b c W)->G)(h2 : ∀a b c W,P a b c W->T a b c W):G:=h1 h2
theorem Z7g (p mb sp:Nat)(G:Nm->Option LN)(SF:Nat->Prop)(S:ZC)(w:World)(hh:Xl w p mb sp G SF S)(hi:Xr S)(hlen:S.l.length<=400):
  Calls zq 14 #[.pointer (some ⟨p,0,none⟩)] w fun e w'=>(∃a un c zs,e = .returned (.slice a un c)/\Vr w w' a c un zs/\zs.map LN.n=S.l)/\Below w.heap.size w w':=by
 have LI:=zH (Z1H mb S.l.length G w hh.map (by omega) (hh.gok hi));have HH:=zH hh;have HI:=zH hi;have c4:=Z6 hh.blk 4 (.map (some mb)) rfl;have MD:=zH (VW w p mb sp S.f S.id S.c hh.blk);clear hh hi hlen;go_enter Tryz.func14,Tryz.ntmps14;go_wp2_with fail;refine MD.out.mono ?_;rintro e w1 ⟨rfl,rfl⟩;go_wp2_with fail;refine LI.out.mono ?_;rintro e w2 ⟨⟨a,un,c,zs,ks,rfl,h1,h2,h3,h4,h5,h6⟩,b2⟩;have M:=zH h1;have E:Hid (zs.map LN.n=S.l):=zH (h2.trans (HH.out.list HI.out h3 h4 h5));have B:=zH b2;clear h1 h2 h3 h4 h5 h6 b2 c4;go_wp2;go_ret;exact⟨⟨a,un,c,zs,rfl,M.out,E.out⟩,B.out⟩
def Z6e (c:Int->Nat):List Int:=[(c 1:Int),(c 2:Int),(c 3:Int),(c 4:Int),(c 5:Int),(c 6:Int),(c 7:Int),(c 8:Int)]
theorem Z7i (p mb sp:Nat)(G:Nm->Option LN)(SF:Nat->Prop)(S:ZC)(w:World)(hh:Xl w p mb sp G SF S):
  Calls zq 17 #[.pointer (some ⟨p,0,none⟩)] w fun e w'=>(∃a c,e = .returned (.slice a 8 c)/\Xe w' a 8 c (Z6e S.c))/\Below w.heap.size w w':=by
 have RC:Xe w (some ⟨p,6,none⟩) 8 8 (Z6e S.c):=⟨rfl,Nat.le_refl _,by unfold maxLen;omega,.inr ⟨p,6,rfl,fun j v hv=>by
  have hj:j < 8:=(List.getElem?_eq_some_iff.1 hv).1;refine Z6 hh.blk (6+j) v ?_;have:j=0\/j=1\/j=2\/j=3\/j=4\/j=5\/j=6\/j=7:=by omega
  rcases this with rfl | rfl | rfl | rfl | rfl | rfl | rfl | rfl <;> simpa [J6,Z6e,Yo] using hv⟩⟩
 have CL:=zH (Z1n (some ⟨p,6,none⟩) 8 8 (Z6e S.c) w (by decide) RC);have MD:=zH (VW w p mb sp S.f S.id S.c hh.blk);have hsl:(Instr.sliceAt 107 (.pointer (some ⟨p,5,none⟩)) (some (.int .i64 1)) none none).run zq w = .ok (.slice (some ⟨p,6,none⟩) 8 8) w:=by
  have hsz:(zq.info? 3).map (·.size)=some 1:=by kernel_rfl
  cases hq:zq.info? 3 with
  | none=>simp[hq]at hsz
  | some i=>
   simp only[hq,Option.map_some,Option.some.injEq]at hsz;simp[Instr.sliceAt,run_underlying Tryz.underlying107,Instr.sureAddr,sizeOf,typeInfo,hq,hsz,Addr.add,Instr.sliceBounds,Instr.sliceBound,asIntOf,Result.andThen]
 clear hh RC;go_enter Tryz.func17,Tryz.ntmps17;go_wp2_with fail;refine MD.out.mono ?_;rintro e w1 ⟨rfl,rfl⟩;go_wp2_with fail;refine CL.out.mono ?_;rintro e w2 ⟨a,c,rfl,h1,b2⟩;have R:=zH (show Xe w2 a 8 c (Z6e S.c)from ZX.of_own h1);have B:=zH b2;clear h1 b2 hsl;go_wp2;go_ret;exact⟨⟨a,c,rfl,R.out⟩,B.out⟩
def ZcX (e:Ending):Prop := ∃r:Bool,e = .returned (.bool r)
theorem Z8j (xs:List LN)(a:zA)(n c:Nat)(most:Int)(w:World)(hr:Jb w a n c xs):
  Calls zq 11 #[.slice a n c,.int .i64 most] w fun e w'=>ZcX e/\w'=w:=by
 have J19:(zq.info? 47).map (·.size)=some 19:=by kernel_rfl
 have RL:=zH hr;have HN:=zH hr.1;have hn63:n<=9223372036854775807:=by have h1:=hr.2.1;have h2:=hr.2.2.1;unfold maxLen at h2;omega
 clear hr;go_enter Tryz.func11,Tryz.ntmps11;go_wp2_with fail;go_loopw [5,6] (fun z i wr=>∃(k:Nat) (s:Int),z = .int .i64 s/\i = .int .i64 (k:Int)/\k<=n/\Hid (wr=w)) (fun _ i _=>n - (intOf i).toNat)
 case atStart=>exact⟨0,_,rfl,rfl,Nat.zero_le _,zH rfl⟩
 case round=>
  obtain⟨k,s,rfl,rfl,hk,HW⟩:=hrel;have hw:=HW.out;subst hw;by_cases hlt:k < n
  ·have t0:decide ((k:Int) < (n:Int))=true:=by simp;omega
   obtain⟨x,Hx⟩ : ∃x,xs[k]? = some x:=⟨_,List.getElem?_eq_getElem (by rw[HN.out];exact hlt)⟩;obtain⟨b,off,rfl,hat⟩:=RL.out.at (by omega);obtain⟨o,ho⟩:=zX (off+k * 19);have hx:=(hat k x Hx).1;rw[ho.out]at hx;have c15:=hx 15 (.slice x.sa x.n.strokes.length x.sc) rfl;have hix:=fun W=>ZN (W:=W) (c:=c) (b:=b) Tryz.underlying24 J19 hlt ho.out;have hk64:(k:Int)+1<=9223372036854775807:=by omega
   clear hat hx Hx;go_wp2;go_roundw
   case rel=>exact⟨k+1,_,rfl,by go_num,by omega,(by first | exact zH rfl | exact zH trivial)⟩
   case measure=>simp[intOf];omega
  ·have t0:decide ((k:Int) < (n:Int))=false:=by simp;omega
   go_wp2;go_ret;exact⟨⟨_,rfl⟩,rfl⟩
def JZ (cs:List Int)(n:NoteV):Bool:=match cs[(n.house - 1).toNat]? with | some v=>decide (n.house<=(cs.length:Int)) && decide (n.num<=v) | none=>false
theorem Z5e {cs:List Int}{n:NoteV}(_h1:1<=n.house)(h:decide (n.house<=(cs.length:Int))=false):JZ cs n=false:=by
 unfold JZ;split
 ·rw[h];rfl
 ·rfl
theorem Z76 {cs:List Int}{n:NoteV}{k:Nat}{v:Int}(hk:n.house=(k:Int)+1)(h:decide (n.house<=(cs.length:Int))=true)(hv:cs[k]? = some v):JZ cs n=decide (n.num<=v):=by
 unfold JZ;rw[show(n.house - 1).toNat=k by omega,hv];simp only[h,Bool.true_and]
theorem Z75 (args:Xz)(w:World):(callFunc 68 args).run zq w = .ok (.enter 68 args) w:=by kernel_rfl
theorem Z61 (cs:List Int)(ca:zA)(cn cc:Nat)(pB:Nat)(n:NoteV)(sa:zA)(sc:Nat)(w:World)(hb:w.heap[pB]? = some (.cells #[.slice ca cn cc] 37))
  (hc:Xe w ca cn cc cs) (hn:1<=n.house/\n.house<=1000):
  Calls zq 68 #[.agg (Z5 n sa sc),.pointer (some ⟨pB,0,none⟩)] w fun e w'=>e = .returned (.bool (JZ cs n))/\Below w.heap.size w w':=by
 have I1:(zq.info? 3).map (·.size)=some 1:=by kernel_rfl
 have HL:Hid (cs.length=cn):=zH (by have:=hc.len;simpa using this);obtain⟨k,hk⟩ : ∃k:Nat,n.house=(k:Int)+1:=⟨(n.house - 1).toNat,by omega⟩;have HK:=zH hk;have HB:=zH hn;have B0:=zH (zB w (.cells (Z5 n sa sc) 47));have N0:=zH (Z9 w (.cells (Z5 n sa sc) 47));have PB0:=zH (Z7 B0.out hb);have RC0:=zH (hc.below B0.out);clear hb hc hn hk;go_enter Tryz.func68,Tryz.ntmps68;go_upto_region 1 with fail;obtain⟨p2,hp2⟩:=zX (w.heap.size);rw[hp2.out]at N0;rw[hp2.out];generalize w.alloc (.cells (Z5 n sa sc) 47)=wr at *;have hC0:Below wr.heap.size wr wr.drew:=(Below.refl _ _).drew;have LB:=zH (show ∀w0,Below wr.heap.size wr w0->w0.heap[pB]? = some (.cells #[.slice ca cn cc] 37)from fun w0 h=>Z7 h PB0.out);have LN2:=zH (show ∀w0,Below wr.heap.size wr w0->w0.heap[p2]? = some (.cells (Z5 n sa sc) 47)from fun w0 h=>Z7 h N0.out);have BW:=zH (show ∀w0,Below wr.heap.size wr w0->Below w.heap.size w w0 from fun w0 h=>B0.out.trans (h.mono B0.out.size));have RW:=zH (show ∀w0,Below wr.heap.size wr w0->Xe w0 ca cn cc cs from fun w0 h=>RC0.out.below h);try simp only[Act.put,VZ,VY,VX]
 cases hq:decide (n.house<=(cn:Int))
 ·have MF:Hid (JZ cs n=false):=zH (Z5e (by have:=HB.out;omega) (by rw[HL.out];exact hq));refine zC (fun w':World=>Below wr.heap.size wr w') hC0 ?_;refine zv p2 0 ?_;refine zQ (.int .i64 n.house) (fun w0 hC=>?_) ?_
  ·have c0:=Z6 (LN2.out w0 hC) 0 (.int .i64 n.house) rfl;clear hC;go_simp
  refine zQ (.slice ca cn cc) (fun w0 hC=>?_) ?_
  ·have c0:=Z6 (LB.out w0 hC) 0 (.slice ca cn cc) rfl;clear hC;go_simp
  refine zV (.int .i64 (cn:Int)) ?_;refine zV (.bool false) ?_;go_big_quiet_step (fail)
  iterate 9 go_big_quiet_skip
  refine zV (.bool false) ?_;go_big_quiet_step (fail);refine wpQuiet_nil ?_;intro w' hC;have B9:=zH (BW.out w' hC);clear hC;go_wp2;go_ret;exact⟨by rw[MF.out] <;> rfl,B9.out⟩
 ·have MT:Hid (∀v,cs[k]? = some v->JZ cs n=decide (n.num<=v)):=zH (fun v hv=>Z76 HK.out (by rw[HL.out];exact hq) hv);have hkc:k < cn:=by have h1:=HK.out;have h2:=of_decide_eq_true hq;omega
  obtain⟨v,hv⟩ : ∃v,cs[k]? = some v:=⟨_,List.getElem?_eq_getElem (by rw[HL.out];exact hkc)⟩;have MV:=zH (MT.out v hv);obtain⟨cb,coff,rfl,hat⟩:=RC0.out.at (show 0 < cn by omega);obtain⟨o,ho⟩:=zX (coff+k * 1);have hix:=zH (fun W=>ZN (W:=W) (c:=cc) (b:=cb) Tryz.underlying37 I1 hkc ho.out);have VC:=zH (show ∀w0,Below wr.heap.size wr w0->w0.cell? ⟨cb,o,none⟩=some (.int .i64 v)from fun w0 h=>by
   obtain⟨cb',coff',e,hat'⟩:=(RW.out w0 h).at (show 0 < cn by omega);cases e;have h3:=hat' k hkc;rw[hv]at h3;rw[<-ho.out,Nat.mul_one];exact h3)
  clear hat hkc hv MT;refine zC (fun w':World=>Below wr.heap.size wr w') hC0 ?_;refine zv p2 0 ?_;refine zQ (.int .i64 n.house) (fun w0 hC=>?_) ?_
  ·have c0:=Z6 (LN2.out w0 hC) 0 (.int .i64 n.house) rfl;clear hC;go_simp
  refine zQ (.slice (some ⟨cb,coff,none⟩) cn cc) (fun w0 hC=>?_) ?_
  ·have c0:=Z6 (LB.out w0 hC) 0 (.slice (some ⟨cb,coff,none⟩) cn cc) rfl;clear hC;go_simp
  refine zV (.int .i64 (cn:Int)) ?_;refine zV (.bool true) ?_;go_big_quiet_step (fail);refine zv p2 1 ?_;refine zQ (.int .i64 n.num) (fun w0 hC=>?_) ?_
  ·have c1:=Z6 (LN2.out w0 hC) 1 (.int .i64 n.num) rfl;clear hC;go_simp
  refine zQ (.slice (some ⟨cb,coff,none⟩) cn cc) (fun w0 hC=>?_) ?_
  ·have c0:=Z6 (LB.out w0 hC) 0 (.slice (some ⟨cb,coff,none⟩) cn cc) rfl;clear hC;go_simp
  refine zv p2 0 ?_;refine zQ (.int .i64 n.house) (fun w0 hC=>?_) ?_
  ·have c0:=Z6 (LN2.out w0 hC) 0 (.int .i64 n.house) rfl;clear hC;go_simp
  refine zQ (.int .i64 (k:Int)) (fun w0 hC=>?_) ?_
  ·have hk:=HK.out;have hb:=HB.out;clear hC;rw[hk];go_simp;rw[IntKind.wrap_i64];omega
  refine zQ (.pointer (some ⟨cb,o,none⟩)) (fun w0 hC=>?_) ?_
  ·have hi:=hix.out;clear hC;go_simp
  refine zQ (.int .i64 v) (fun w0 hC=>?_) ?_
  ·have hv:=VC.out w0 hC;clear hC;go_simp
  refine zV (.bool (decide (n.num<=v))) ?_;refine zV (.bool (decide (n.num<=v))) ?_;go_big_quiet_step (fail);refine wpQuiet_nil ?_;intro w' hC;have B9:=zH (BW.out w' hC);clear hC;go_wp2;go_ret;exact⟨by rw[MV.out] <;> rfl,B9.out⟩
def ZbG (l:List NoteV)(w:World)(e:Ending)(W:World):Prop := ∃a i c zs,e = .returned (.slice a i c)/\Z2K w.heap.size W.heap.size W a i c zs/\zs.map LN.n=l
theorem Z6a (p mb sp:Nat)(G:Nm->Option LN)(SF:Nat->Prop)(S:ZC)(cs:List Int)(ca:zA)(cn cc:Nat)(w:World)(hh:Xl w p mb sp G SF S)(hi:Xr S)(hlen:S.l.length<=400)(hc:Xe w ca cn cc cs):
  Calls zq 16 #[.pointer (some ⟨p,0,none⟩),.slice ca cn cc] w fun e w'=>ZbG (S.l.filter (fun n=>!JZ cs n)) w e w'/\Below w.heap.size w w':=by
 have B0:=zH (zB w (.cells #[.slice ca cn cc] 37));have P0:=zH (Z9 w (.cells #[.slice ca cn cc] 37));have HH:=zH (hh.below B0.out);have HI:=zH hi;have HC:=zH (hc.below B0.out);have HL:=zH hlen;clear hh hi hc hlen;go_enter Tryz.func16,Tryz.ntmps16;go_upto_region 1 with fail;obtain⟨pB,hpB⟩:=zX (w.heap.size);rw[hpB.out]at P0;rw[hpB.out];generalize w.alloc (.cells #[.slice ca cn cc] 37)=w1 at *;have c4:=Z6 HH.out.blk 4 (.map (some mb)) rfl;go_wp2_with fail;refine(VW w1 p mb sp S.f S.id S.c HH.out.blk).mono ?_;rintro e w2 ⟨rfl,hw2⟩;rw[hw2];clear hw2 w2;go_upto_region 3 with fail;go_wp2_with fail;refine(Z1H mb S.l.length G w1 HH.out.map (by have:=HL.out;omega) (HH.out.gok HI.out)).mono ?_;rintro e w2 ⟨⟨a,un,c,zs,ks,rfl,h1,h2,h3,h4,h5,h6⟩,b2⟩;have M:=zH h1;have E:Hid (zs.map LN.n=S.l):=zH (h2.trans (HH.out.list HI.out h3 h4 h5));have B2:=zH (B0.out.trans (b2.mono B0.out.size));have P2:=zH (Z7 b2 P0.out);have C2:=zH (HC.out.below b2);have PL:=zH (Zq P0.out);have CK:Hid (∀W,Za (fun k=>Value.ownBlock (.slice a un c)=some k) w2 W->Xe W ca cn cc cs/\W.heap[pB]? = some (.cells #[.slice ca cn cc] 37)):=zH (fun W hs=>by
  have hlt : ∀k,Value.ownBlock (.slice a un c)=some k->w1.heap.size<=k:=fun k hk=>(M.out.own.lt k hk).1;have hb:Below w1.heap.size w1 W:=hs.below b2 M.out.bel.size hlt;exact⟨HC.out.below hb,Z7 hb P0.out⟩)
 clear h1 h2 h3 h4 h5 h6 b2 c4;go_wp2_with fail;refine(Zbk zs (fun x=>JZ cs x.n) 68 (.pointer (some ⟨pB,0,none⟩)) Z75 a un c w1 w2 M.out (fun e he W hs=>Z61 cs ca cn cc pB e.n e.sa e.sc W (CK.out W hs).2 (CK.out W hs).1 (by
  have hm:e.n∈S.l:=by rw[<-E.out];exact List.mem_map_of_mem he
  have h1:=Yh (HI.out.frm _ hm);omega))).mono ?_
 rintro e w3 ⟨⟨a',i,c',rfl,hr,hin⟩,b3⟩;have R3:Hid (Z2K w.heap.size w3.heap.size w3 a' i c' _):=zH ⟨hr.1,fun W2 hs2=>hr.2 W2 (hs2.weaken (fun k hk=>hk.imp (fun h=>Nat.lt_of_lt_of_le h B0.out.size) id))⟩;have B3:=zH (B0.out.trans ((M.out.bel.trans b3).mono B0.out.size));clear hr hin b3;go_wp2;go_ret;exact⟨⟨a',i,c',_,rfl,R3.out,by rw[<-E.out,List.filter_map];rfl⟩,B3.out⟩
def Zcp:PanicEntry := { v := .iface 233 (.agg #[]),recovered:=true }
theorem Z8J (p:Nat)(x:Bool)(w:World)(hh:w.heap[p]? = some (.cells #[.bool x] 4)):
  CallsD zq 179 #[.pointer (some ⟨p,0,none⟩)] (.panicking [Z2N]) w fun e u' w'=>
   e = .returned (.tuple #[])/\u' = .panicking [Zcp]/\w'.heap[p]? = some (.cells #[.bool false] 4)/\Za (fun k=>k=p) w w':=by
 have hc:w.cell? ⟨p,0,none⟩=some (.bool x):=Z6 hh 0 _ rfl;have hz:=Ze hh 0;have hc' : ∀o,(w.alloc o).cell? ⟨p,0,none⟩=some (.bool x):=fun o=>Z6 (Z8 w o _ _ hh) 0 _ rfl;have hz' : ∀o,(w.alloc o).frozen? ⟨p,0,none⟩=false:=fun o=>Ze (Z8 w o _ _ hh) 0;have hta : ∀w,(Instr.typeAssert (.iface 233 (.agg #[])) 20 233 true).run zq w = .ok (.tuple #[.agg #[],.bool true]) w:=fun _=>rfl;refine callsD_of_wpS Tryz.func179 rfl fun c₀ cs hu=>?_;apply wpS_seq;apply wpS_region;simp[wpOpsS,go_sem,recoverD,hu,Tryz.ntmps179,Exit.thenS,Z2N];refine wpS_of_wp ?_;change Code.wp _ _ _ { tmps := #[.pointer (some ⟨p,0,none⟩),.iface 233 (.agg #[]),undef,undef,.iface 233 (.agg #[]),undef,undef,undef,undef,undef,undef,undef,undef,undef,undef],defers:=[] } w;go_wp2_with fail;refine⟨rfl,?_⟩;simp[results,Tryz.results179];exact⟨rfl,heap_setCell_same _ p 0 _ _ (.bool false) (Z8 w _ _ _ hh),(Za.of_below (zB _ _)).trans (Xw _ p 0 (.bool false))⟩
theorem Z8K (p:Nat)(w:World):
  CallsD zq 179 #[.pointer (some ⟨p,0,none⟩)] .returning w fun e u' w'=>e = .returned (.tuple #[])/\u' = .returning/\w'=w:=by
 refine callsD_of_wpS Tryz.func179 rfl fun c₀ cs hu=>?_;apply wpS_seq;apply wpS_region;simp[wpOpsS,go_sem,recoverD,hu,Tryz.ntmps179,Exit.thenS];refine wpS_of_wp ?_;go_wp2_with fail;cases c₀;simp_all[bodyPostS,results,Tryz.results179]
section
attribute [local go_sem] ZS
theorem ZbP (rp np:Nat)(l:zU)(a:zA)(n c:Nat)(w:World)(h:RdP w rp l a n c)(hl:l.length<=1000000)(hnp:w.heap[np]? = some (.cells (Z5 Zd none 0) 47))(hne : ¬np=rp):
  Calls zq 130 #[.pointer (some ⟨rp,0,none⟩),.pointer (some ⟨np,0,none⟩)] w fun e w'=>(∃(m:NoteV) (t:zU) (sa:zA) (sc:Nat),Xv Je l=some (m,t)/\e = .returned (.tuple #[])/\w'.heap[np]? = some (.cells (Z5 m sa sc) 47)/\w'.ownsRow w.heap.size 3 1 (.slice sa m.strokes.length sc) m.strokes.length (m.strokes.map Yo)/\Za (fun k=>k=rp\/k=np) w w') \/
   (Xv Je l=none/\e = .panicked [Z2N]/\Za (fun k=>k=rp\/k=np) w w'):=by
 go_enter Tryz.func130,Tryz.ntmps130;go_wp2_with fail;refine(ZaM rp l a n c w h hl).mono ?_;rintro e w1 (⟨m,t,sa,sc,a2,n2,c2,h1,rfl,h2,h3,h4⟩ | ⟨h1,rfl,h4⟩)
 ·have g:=zH ((h4.block np (Array.getElem?_eq_some_iff.1 hnp).1 hne).trans hnp);have H1:=zH h1;clear h1;have one1:=Zh m sa sc;go_wp2_with (refine zN np (Z5 m sa sc) g.out ?_);have hSR:Za (fun k=>k=np) w1 (w1.setRow np (Z5 m sa sc)):=⟨rfl,rfl,rfl,by simp,fun k hk hs=>setRow_other w1 np k _ hs⟩;have hnl:=(Array.getElem?_eq_some_iff.1 hnp).1;have hO:=Xd h2 hSR (fun b cur fr hb=>.inr (by rw[show b=np from hb];exact hnl));have hg:=setRow_heap w1 np _ (Z5 m sa sc) _ _ g.out;have hS:=(YP h4 (S':=fun k=>k=rp\/k=np) fun k e=>.inl e).trans (YP hSR fun k e=>.inr e);have HO:=hO;go_end0
  first
   | exact .inl ⟨m,t,sa,sc,H1.out,rfl,hg,HO,hS⟩
   | exact .inl ⟨m,⟨t,H1.out⟩,rfl,sa,sc,hg,HO,hS⟩
 ·have H1:=zH h1;clear h1;go_wp2_with fail;exact⟨rfl,.inr ⟨H1.out,rfl,YP h4 fun k e=>.inl e⟩⟩
theorem Z6M (np:Nat)(l:zU)(a:zA)(n c:Nat)(w:World)(h:Yb w a n c l)(hl:l.length<=1000000)(hnp:w.heap[np]? = some (.cells (Z5 Zd none 0) 47)):
  Calls zq 129 #[.slice a n c,.func (.func 130) #[] #[.pointer (some ⟨np,0,none⟩)]] w fun e w'=>(∃(m:NoteV) (t:zU) (sa:zA) (sc:Nat),Xv Je l=some (m,t)/\e = .returned (.bool true)/\w'.heap[np]? = some (.cells (Z5 m sa sc) 47)/\w'.ownsRow w.heap.size 3 1 (.slice sa m.strokes.length sc) m.strokes.length (m.strokes.map Yo)/\Za (fun k=>k=np) w w') \/
   (Xv Je l=none/\e = .returned (.bool false)/\Za (fun k=>k=np) w w'):=by
 have hmf : ∀(fn:Fn) (first cap:Xz) (w:World),(Instr.makeFunc fn first cap).run zq w = .ok (.func fn first cap) w:=fun _ _ _ _=>rfl;have hnl:=(Array.getElem?_eq_some_iff.1 hnp).1;go_enter_defers Tryz.func129,Tryz.ntmps129;go_wp2_with fail;obtain⟨p,hp⟩:=zX (w.heap.size);obtain⟨rp,hrp⟩:=zX (w.heap.size+1);have b2:Below w.heap.size w ((w.alloc (.cells #[.bool false] 4)).alloc (.cells #[.slice a n c] 236)):=(zB _ _).alloc (by simp) _;have g1:((w.alloc (.cells #[.bool false] 4)).alloc (.cells #[.slice a n c] 236)).heap[p]? = some (.cells #[.bool false] 4):=by rw[<-hp.out];exact Z8 _ _ _ _ (Z9 _ _)
 have g2:((w.alloc (.cells #[.bool false] 4)).alloc (.cells #[.slice a n c] 236)).heap[rp]? = some (.cells #[.slice a n c] 236):=by rw[<-hrp.out];exact Zm _ _ _ (by simp)
 rw[hrp.out,hp.out];generalize (w.alloc (.cells #[.bool false] 4)).alloc (.cells #[.slice a n c] 236)=w2 at *;have hne : ¬np=rp /\ ¬p=rp /\ ¬p=np:=by have h1:=hp.out;have h2:=hrp.out;omega
 have hnp2:=(b2.block np hnl).trans hnp;have hpl:=(Array.getElem?_eq_some_iff.1 g1).1;refine(ZbP rp np l a n c w2 ⟨g2,Yb.below h b2⟩ hl hnp2 hne.1).mono ?_;rintro e w3 (⟨m,t,sa,sc,h1,rfl,h2,h3,h4⟩ | ⟨h1,rfl,h4⟩)
 ·have k1:=(h4.block p hpl (by have h1:=hne.2.1;have h2:=hne.2.2;omega)).trans g1;have c1:w3.cell? ⟨p,0,none⟩=some (.bool false):=Z6 k1 0 _ rfl;have f1:=Ze k1 0;have hS:=Xw w3 p 0 (.bool true);have k2:=heap_setCell_same w3 p 0 _ _ (.bool true) k1;have c2:(w3.setCell ⟨p,0,none⟩ (.bool true)).cell? ⟨p,0,none⟩=some (.bool true):=Z6 k2 0 _ rfl;have hn3:=(hS.block np (Array.getElem?_eq_some_iff.1 h2).1 (fun e=>hne.2.2 e.symm)).trans h2;have H1:=zH h1;clear h1;have hFin:Za (fun k=>k=np) w (w3.setCell ⟨p,0,none⟩ (.bool true)):=by
   have hh:=((YP (Za.of_below (S:=fun _=>False) b2) (S':=fun k=>k=rp\/k=np\/k=p) (fun k e=>e.elim)).trans (YP h4 (S':=fun k=>k=rp\/k=np\/k=p) (fun k e=>e.elim .inl (fun e=>.inr (.inl e))))).trans (YP hS (S':=fun k=>k=rp\/k=np\/k=p) (fun k e=>.inr (.inr e)));exact⟨hh.os,hh.tape,hh.output,hh.size,fun k hk hs=>hh.block k hk (by have h1:=hp.out;have h2:=hrp.out;have h3 : ¬k=np:=hs;omega)⟩
  have HF:=zH hFin;clear hFin;have HR:=zH (Zp (Xd h3 hS (fun b cur fr hb=>.inr (by rw[show b=p from hb];exact hpl))) b2.size);clear h3;go_wp2_with fail;refine leaves_cons (f:=179) (args := #[.pointer (some ⟨p,0,none⟩)]) (by simp) (by simp[go_sem]) ?_;refine(Z8K p _).mono ?_;rintro e u' w'' ⟨rfl,rfl,rfl⟩;simp[Leaves,settle,results,Tryz.results129,go_sem];exact⟨.bool true,by rw[c2],.inl ⟨m,⟨t,H1.out⟩,rfl,sa,sc,hn3,HR.out,HF.out⟩⟩
 ·have k1:=(h4.block p hpl (by have h1:=hne.2.1;have h2:=hne.2.2;omega)).trans g1;have H1:=zH h1;clear h1;go_wp2_with fail;refine leaves_cons (f:=179) (args := #[.pointer (some ⟨p,0,none⟩)]) (by simp) (by simp[go_sem]) ?_;refine(Z8J p false _ k1).mono ?_;rintro e u' w'' ⟨rfl,rfl,g3,h5⟩;have c3:w''.cell? ⟨p,0,none⟩=some (.bool false):=Z6 g3 0 _ rfl;simp[Leaves,settle,results,Tryz.results129,go_sem,Zcp];refine⟨.bool false,by rw[c3],.inr ⟨H1.out,rfl,?_⟩⟩;have hh:=((YP (Za.of_below (S:=fun _=>False) b2) (S':=fun k=>k=rp\/k=np\/k=p) (fun k e=>e.elim)).trans (YP h4 (S':=fun k=>k=rp\/k=np\/k=p) (fun k e=>e.elim .inl (fun e=>.inr (.inl e))))).trans (YP h5 (S':=fun k=>k=rp\/k=np\/k=p) (fun k e=>.inr (.inr e)));exact⟨hh.os,hh.tape,hh.output,hh.size,fun k hk hs=>hh.block k hk (by have h1:=hp.out;have h2:=hrp.out;have h3 : ¬k=np:=hs;omega)⟩
end
theorem Z9A {l t:zU}{m:NoteV}(h:Xv Je l=some (m,t)):m.strokes.length<=l.length:=by
 cases e1:XI Je 15 l with
 | none=>rw[Z5Y e1]at h;cases h
 | some p=>
  obtain⟨x,t0⟩:=p;cases e2:Jy Je t0 with
  | none=>rw[Z5X e1 e2]at h;cases h
  | some p=>
   obtain⟨k,t1⟩:=p;rw[Z0E e1 e2]at h;have hk:k<=t1.length:=by
    unfold Jy at e2;split at e2
    ·split at e2
     ·simp only[Option.some.injEq,Prod.mk.injEq]at e2;obtain⟨rfl,rfl⟩:=e2;omega
     ·cases e2
    ·cases e2
   have h2:=Z7a e2;have h3:=Z2w _ e1;split at h
   ·rename_i y t2 e3;split at h
    ·simp only[Option.some.injEq,Prod.mk.injEq]at h;have:=Qa _ _ _ _ e3;rw[<-h.1,show(Jk x y _).strokes=y from rfl];omega
    ·cases h
   ·cases h
def Jl (f:Ys)(l:zU):Option NoteV:=match Xv Je l with
 | some (m,_)=>if ZD f m=0/\Yc m=l then some m else none
 | none=>none
structure Z7O (w W:World)(p0 p1 p2:Nat)(f:Ys)(C:Xz):Prop where
 e0:W.heap[p0]? = some (.cells #[.int .i64 f.rings,.int .i64 f.sectors,.int .i64 f.wide] 23)
 e1:W.heap[p1]? = some (.cells (Z5 Zd none 0) 47)
 e2:W.heap[p2]? = some (.cells C 47)
 b:Below p0 w W
 lt:p0 < p1/\p1 < p2
theorem Z7O.below {w W W':World}{p0 p1 p2:Nat}{f:Ys}{C:Xz}(h:Z7O w W p0 p1 p2 f C)(hb:Below W.heap.size W W'):Z7O w W' p0 p1 p2 f C:=by
 have g : ∀{k:Nat} {o:Obj},W.heap[k]? = some o->W'.heap[k]? = some o:=fun {k o} hk=>(hb.block k (Array.getElem?_eq_some_iff.1 hk).1).trans hk;have h0:=(Array.getElem?_eq_some_iff.1 h.e0).1;exact⟨g h.e0,g h.e1,g h.e2,h.b.trans (hb.mono (by omega)),h.lt⟩
theorem Z7O.done {w W:World}{p0 p1 p2:Nat}{f:Ys}{C:Xz}(h:Z7O w W p0 p1 p2 f C)(C':Xz):(W.setRow p1 C').heap[p1]? = some (.cells C' 47)/\Below p0 w (W.setRow p1 C'):=by
 have hl:=h.lt;exact⟨setRow_heap W p1 _ C' _ _ h.e1,h.b.trans ⟨rfl,rfl,rfl,by simp,fun k hk=>setRow_other W p1 k C' (by omega)⟩⟩
section
attribute [local go_sem] ZS
end
section
attribute [local go_sem] ZS
theorem Z7u (f:Ys)(l:zU)(a:zA)(n c:Nat)(w:World)(h:Yb w a n c l)(hl:l.length<=1000000):
  Calls zq 75 #[f.val,.slice a n c] w fun e w'=>(∃(m:NoteV) (sa:zA) (sc:Nat),Jl f l=some m/\e = .returned (.tuple #[.agg (Z5 m sa sc),.int .i64 0])/\w'.ownsRow w.heap.size 3 1 (.slice sa m.strokes.length sc) m.strokes.length (m.strokes.map Yo)/\Below w.heap.size w w') \/
   (Jl f l=none/\e = .returned (.tuple #[.agg (Z5 Zd none 0),.int .i64 90])/\Below w.heap.size w w'):=by
 have I43:=zH zI;have hmf : ∀(fn:Fn) (first cap:Xz) (w:World),(Instr.makeFunc fn first cap).run zq w = .ok (.func fn first cap) w:=fun _ _ _ _=>rfl;unfold Ys.val;go_enter Tryz.func75,Tryz.ntmps75;go_wp2_with fail;rw[<-ZZ];have oneZ:=Zh Zd none 0;have g0:=Z8 _ (.cells (Z5 Zd none 0) 47) _ _ (Z8 _ (.cells (Z5 Zd none 0) 47) _ _ (Z9 w (zF f 23)));have g1:=Z8 _ (.cells (Z5 Zd none 0) 47) _ _ (Zm (w.alloc (zF f 23)) (.cells (Z5 Zd none 0) 47) (w.heap.size+1) (by simp));have g2:=Zm ((w.alloc (zF f 23)).alloc (.cells (Z5 Zd none 0) 47)) (.cells (Z5 Zd none 0) 47) (w.heap.size+1+1) (by simp);have bb:Below w.heap.size w (((w.alloc (zF f 23)).alloc (.cells (Z5 Zd none 0) 47)).alloc (.cells (Z5 Zd none 0) 47)):=((zB _ _).alloc (by simp) _).alloc (by simp;omega) _;have L0:Hid (Z7O w (((w.alloc (zF f 23)).alloc (.cells (Z5 Zd none 0) 47)).alloc (.cells (Z5 Zd none 0) 47)) w.heap.size (w.heap.size+1) (w.heap.size+1+1) f (Z5 Zd none 0)):=zH ⟨g0,g1,g2,bb,by omega⟩;clear g0 g1 g2 bb;generalize ((w.alloc (zF f 23)).alloc (.cells (Z5 Zd none 0) 47)).alloc (.cells (Z5 Zd none 0) 47)=W3 at *;generalize hp0:w.heap.size=p0 at *;generalize hp1:p0+1=p1 at *;generalize hp2:p1+1=p2 at *;have RB:=zH (show ∀W',Below p0 w W'->Yb W' a n c l from fun W' hb=>h.below (by rw[hp0];exact hb));have HP0:=zH hp0;clear hp0 hp1 hp2;refine(Z6M p2 l a n c W3 (RB.out _ L0.out.b) hl L0.out.e2).mono ?_;rintro e w4 (⟨m,t,sa,sc,h1,rfl,h2,h3,h4⟩ | ⟨h1,rfl,h4⟩)
 ·have oneM:=Zh m sa sc;have hz2:=(Array.getElem?_eq_some_iff.1 L0.out.e2).1;have P1:Hid (p1 < W3.heap.size):=zH (Nat.lt_trans L0.out.lt.2 hz2);have L1:Hid (Z7O w w4 p0 p1 p2 f (Z5 m sa sc)):=zH ⟨(h4.block p0 (by have:=L0.out.lt;omega) (by have:=L0.out.lt;omega)).trans L0.out.e0,(h4.block p1 (by have:=L0.out.lt;omega) (by have:=L0.out.lt;omega)).trans L0.out.e1,h2,h4.below L0.out.b (by have:=L0.out.lt;omega) (fun k e=>by have:=L0.out.lt;rw[show k=p2 from e];omega),L0.out.lt⟩;have HO:=zH h3;clear h3;have HM:=zH h1;clear h1 h2 h4 hz2;have HLN:=zH (Nat.le_trans (Z9A HM.out) hl);have c0:=Z6 L1.out.e0 0 _ rfl;have c1:=Z6 L1.out.e0 1 _ rfl;have c2:=Z6 L1.out.e0 2 _ rfl;go_wp2_with   (first
    |(refine zL p2 L1.out.e2 ?_)
    |(refine zG p2 L1.out.e2 ?_))
  refine(UB f m sa sc _ (ZX.of_own HO.out)).mono ?_;rintro e w5 ⟨rfl,b5⟩;have L2:=zH (L1.out.below b5);have HO2:=zH (Zb HO.out b5);clear b5 c0 c1 c2;by_cases hc:ZD f m=0
  ·have hq:(ZD f m != 0)=false:=by simp[hc]
   have HC:=zH hc;clear hc;have HSM:=zH (Z3H HC.out);go_wp2_with   (first
     |(refine zL p2 L2.out.e2 ?_)
     |(refine zG p2 L2.out.e2 ?_))
   refine(Uu m sa sc _ (ZX.of_own HO2.out) HSM.out HLN.out).mono ?_;rintro e w6 ⟨a',c',rfl,h6,b6⟩;have L3:=zH (L2.out.below b6);have HO3:=zH (Zb HO2.out b6);have H6:=zH h6;clear h6 b6;go_wp2_with fail;refine(Z2E _ _ _ (Yc m) _ _ _ l _ (Yb.of_own H6.out) (RB.out _ L3.out.b)).mono ?_;rintro e w7 ⟨r,rfl,hr,q,rfl⟩;have L4:=zH (L3.out.below (below_drewN (Below.refl _ _) q));have HO4:=zH (Zb HO3.out (below_drewN (Below.refl _ _) q));generalize w6.drewN q=w7 at *;cases r with
   | false=>
    have HR:=zH (show Jl f l=none by unfold Jl;rw[HM.out];simp only;rw[if_neg (fun e=>by have:=hr.2 e.2;cases this)]);clear hr;go_wp2_with (refine zN p1 (Z5 Zd none 0) L4.out.e1 ?_);refine bodyPost_ret (ZI rfl _ _ p1 47 (Z5 Zd none 0) (0,0) _ rfl (L4.out.done _).1 Tryz.underlying47 rfl (I43.out _ _ _)) rfl ?_;exact .inr ⟨HR.out,rfl,by rw[HP0.out];exact(L4.out.done _).2⟩
   | true=>
    have HR:=zH (show Jl f l=some m by unfold Jl;rw[HM.out];simp only;rw[if_pos ⟨HC.out,hr.1 rfl⟩]);clear hr;go_wp2_with (first
     |(refine zL p2 L4.out.e2 ?_)
     |(refine zN p1 (Z5 m sa sc) L4.out.e1 ?_))
    refine bodyPost_ret (ZI rfl _ _ p1 47 (Z5 m sa sc) (0,0) _ rfl (L4.out.done _).1 Tryz.underlying47 rfl (I43.out _ _ _)) rfl ?_;have hO:=Xd (S:=fun k=>k=p1) HO4.out (W':=World.setRow _ p1 (Z5 m sa sc)) ⟨rfl,rfl,rfl,by simp,fun k hk hs=>setRow_other _ p1 k _ hs⟩ (fun b cur fr hb=>.inr (by rw[show b=p1 from hb];exact P1.out));exact .inl ⟨m,sa,sc,HR.out,rfl,Zp hO L0.out.b.size,by rw[HP0.out];exact(L4.out.done _).2⟩
  ·have hq:(ZD f m != 0)=true:=by simp[hc]
   have HR:=zH (show Jl f l=none by unfold Jl;rw[HM.out];simp only;rw[if_neg (fun e=>hc e.1)]);clear hc;go_wp2_with (refine zN p1 (Z5 Zd none 0) L2.out.e1 ?_);refine bodyPost_ret (ZI rfl _ _ p1 47 (Z5 Zd none 0) (0,0) _ rfl (L2.out.done _).1 Tryz.underlying47 rfl (I43.out _ _ _)) rfl ?_;exact .inr ⟨HR.out,rfl,by rw[HP0.out];exact(L2.out.done _).2⟩
 ·have HR:=zH (show Jl f l=none by unfold Jl;rw[h1]);have hz2:=(Array.getElem?_eq_some_iff.1 L0.out.e2).1;have k0:=(h4.block p0 (by have:=L0.out.lt;omega) (by have:=L0.out.lt;omega)).trans L0.out.e0;have k1:=zH ((h4.block p1 (by have:=L0.out.lt;omega) (by have:=L0.out.lt;omega)).trans L0.out.e1);have kb:=zH (h4.below L0.out.b (by have:=L0.out.lt;omega) (fun k e=>by have:=L0.out.lt;rw[show k=p2 from e];omega));have kl:=zH L0.out.lt;clear h1 h4 hz2 k0;go_wp2_with (refine zN p1 (Z5 Zd none 0) k1.out ?_);refine zr (setRow_heap w4 p1 _ _ _ _ k1.out) ?_;exact .inr ⟨HR.out,rfl,by rw[HP0.out];exact kb.out.trans ⟨rfl,rfl,rfl,by simp,fun k hk=>setRow_other _ p1 k _ (by have:=kl.out;omega)⟩⟩
end
def ZC.sync (S:ZC):ZC := { S with sd:=S.sb.length,fd:=S.fb.length }
theorem Xr.sync {S:ZC}(h:Xr S):Xr S.sync:=⟨h.v,h.id,h.srt,h.frm,h.ok,h.nms,h.len,h.sbl,h.fbl⟩
def Z1e (A:ZC):Option NoteV->Option ZC
 | none=>none
 | some n=>if (Yy A [n]).2.2=0/\(Yy A [n]).2.1=1 then some (Yy A [n]).1 else none
def Jr (A:ZC):List (zU)->ZC
 | []=>A
 | b :: bs=>((Z1e A (Jl A.f b)).map (fun A'=>Jr A' bs)).getD A
def CrP (S:ZC)(stock foil flip:Int)(S':ZC)(code:Int):Prop:=
 (¬Uy S.sb S.fb S.sd S.fd stock foil flip/\S'=S/\code=1) \/
 (Uy S.sb S.fb S.sd S.fd stock foil flip/\S'=(Jr (ZC.new S.f S.id) (ZB (JL S.sb S.sd stock.toNat flip) (Ja S.fb S.fd stock.toNat foil.toNat flip))).sync/\code=0)
theorem Z7B {f:Ys}{b:zU}{n:NoteV}(h:Jl f b=some n):ZD f n=0/\Yc n=b:=by
 unfold Jl at h;split at h
 ·split at h
  ·rename_i h2;cases h;exact h2
  ·cases h
 ·cases h
theorem Z3U {A A':ZC}{n:NoteV}{b:zU}{bs:List (zU)}(h1:Jl A.f b=some n)(h2:Yy A [n]=(A',1,0)):Jr A (b :: bs)=Jr A' bs:=by
 have e:Z1e A (some n)=some A':=by
  show(if (Yy A [n]).2.2=0/\(Yy A [n]).2.1=1 then some (Yy A [n]).1 else none)=some A';rw[h2];exact if_pos ⟨rfl,rfl⟩
 rw[Jr,h1,e];rfl
theorem zj {A:ZC}{b:zU}{bs:List (zU)}(h:Z1e A (Jl A.f b)=none):Jr A (b :: bs)=A:=by
 rw[Jr,h];rfl
theorem Zc6 (S:ZC)(n:NoteV):(UC S n).1.l.length<=S.l.length+1/\S.l.length<=(UC S n).1.l.length:=by
 unfold UC;split
 ·exact⟨Nat.le_succ _,Nat.le_refl _⟩
 ·split
  ·exact⟨Nat.le_succ _,Nat.le_refl _⟩
  ·split
   ·exact⟨Nat.le_succ _,Nat.le_refl _⟩
   ·show(YI S.l (U7 S n)).length<=_/\_;rw[YI,(Qp _ _ S.l).length_eq,List.length_cons];refine⟨Nat.le_refl _,?_⟩;show _<=(YI S.l (U7 S n)).length;rw[YI,(Qp _ _ S.l).length_eq,List.length_cons];exact Nat.le_succ _
theorem zu (x lo hi:Int)(w:World):Calls zq 77 #[.int .i64 x,.int .i64 lo,.int .i64 hi] w fun e w'=>e = .returned (.bool (Xx x lo hi))/\w=w':=
 J8 x lo hi (Xx x lo hi) (by unfold Xx;rw[Bool.decide_and]) w
theorem Z3h (r s d:Int)(w:World):Calls zq 76 #[.agg #[.int .i64 r,.int .i64 s,.int .i64 d]] w fun e w'=>e = .returned (.bool (Ys.valid ⟨r,s,d⟩))/\Below w.heap.size w w':=by
 have hb:=zB w (.cells #[.int .i64 r,.int .i64 s,.int .i64 d] 23);unfold Ys.valid;cases h1:Xx r 1 24
 ·go_enter Tryz.func76,Tryz.ntmps76;go_wp2_with fail;refine(zu r 1 24 _).mono ?_;rintro e w' ⟨rfl,rfl⟩;rw[h1];go_wp2;go_ret;exact⟨rfl,hb⟩
 ·cases h2:Xx s 2 96
  focus
   go_enter Tryz.func76,Tryz.ntmps76;go_wp2_with fail;refine(zu r 1 24 _).mono ?_;rintro e w' ⟨rfl,rfl⟩;rw[h1];go_wp2_with fail;refine(zu s 2 96 _).mono ?_;rintro e w' ⟨rfl,rfl⟩;rw[h2]
  rotate_left
  focus
   go_enter Tryz.func76,Tryz.ntmps76;go_wp2_with fail;refine(zu r 1 24 _).mono ?_;rintro e w' ⟨rfl,rfl⟩;rw[h1];go_wp2_with fail;refine(zu s 2 96 _).mono ?_;rintro e w' ⟨rfl,rfl⟩;rw[h2];go_wp2_with fail;refine(zu d 1 s _).mono ?_;rintro e w' ⟨rfl,rfl⟩
  all_goals
   go_wp2;go_ret;exact⟨rfl,hb⟩
def Zcj (f:Ys)(id:Int)(w:World)(e:Ending)(W:World):Prop:=
 (¬(f.valid=true/\1<=id/\id<=8)/\e = .returned (.tuple #[.pointer none,.int .i64 1])) \/
 (f.valid=true/\(1<=id/\id<=8) /\ ∃p,e = .returned (.tuple #[.pointer (some ⟨p,0,none⟩),.int .i64 0])/\JN W p (fun k=>k=p) (ZC.new f id)/\w.heap.size<=p)
theorem JN.new {w:World}{p:Nat}{f:Ys}{id:Int}(h:w.heap[p]? = some (.cells #[.int .i64 f.rings,.int .i64 f.sectors,.int .i64 f.wide,.int .i64 id,.slice none 0 0,.slice none 0 0,.slice none 0 0,.slice none 0 0,.slice none 0 0,.slice none 0 0] 138)):JN w p (fun k=>k=p) (ZC.new f id):=by
 refine⟨none,0,[],none,0,[],fun k=>k=p,.slice none 0 0,.slice none 0 0,.slice none 0 0,.slice none 0 0,⟨h,fun b=>⟨?_,?_,?_,?_,Z1w _ _ _ _,Z1w _ _ _ _⟩,Vl.nil _,Vl.nil _,Vl.nil _,Vl.nil _,fun k=>⟨.inl,?_⟩⟩,World.ownsRow_nil _ _ _ _,rfl,(fun x hx=>by cases hx),World.ownsRow_nil _ _ _ _,(fun k hk=>absurd hk (J4 k)),⟨Nat.le_refl _,Nat.le_refl _⟩,fun k=>⟨.inl,?_⟩⟩
 ·intro e;cases e
 ·intro e;cases e
 ·intro e;cases e
 ·intro e;cases e
 ·rintro(h | h | h | h | h)
  ·exact h
  ·exact absurd h (J4 k)
  ·exact absurd h (J4 k)
  ·exact absurd h (J4 k)
  ·exact absurd h (J4 k)
 ·rintro(h | h | h | ⟨x,hx,_⟩)
  ·exact h
  ·exact absurd h (J4 k)
  ·exact absurd h (J4 k)
  ·cases hx
theorem Z4Q (f:Ys)(id:Int)(w:World):Calls zq 22 #[f.val,.int .i64 id] w fun e w'=>Zcj f id w e w'/\Below w.heap.size w w':=by
 have hvl:f.val = .agg #[.int .i64 f.rings,.int .i64 f.sectors,.int .i64 f.wide]:=rfl;rw[hvl];clear hvl;have B0:=zH (zB w (zF f 23));have F0:=zH (Z9 w (zF f 23));go_enter Tryz.func22,Tryz.ntmps22;go_upto_region 1 with fail;obtain⟨p2,hp2⟩:=zX (w.heap.size);rw[hp2.out]at F0 ⊢;generalize w.alloc (zF f 23)=W0 at *;have c0:=Z6 F0.out 0 (.int .i64 f.rings) rfl;have c1:=Z6 F0.out 1 (.int .i64 f.sectors) rfl;have c2:=Z6 F0.out 2 (.int .i64 f.wide) rfl;go_wp2_with fail;refine(Z3h f.rings f.sectors f.wide _).mono ?_;rintro e W1 ⟨rfl,b1⟩;have B1:=zH (B0.out.trans (b1.mono B0.out.size));have F1:=zH (Z7 b1 F0.out);clear b1 c0 c1 c2;cases hv:Ys.valid ⟨f.rings,f.sectors,f.wide⟩
 ·have NV:Hid (¬(f.valid=true/\1<=id/\id<=8)):=zH (fun h=>by rw[show f.valid=false from hv]at h;exact absurd h.1 (by simp));go_wp2_with fail;go_returns;exact⟨.inl ⟨NV.out,rfl⟩,B1.out⟩
 have HV:=zH (show f.valid=true from hv);go_wp2_with fail;refine(zu id 1 8 _).mono ?_;rintro e W2 ⟨rfl,rfl⟩;cases hq:Xx id 1 8
 ·have NV:Hid (¬(f.valid=true/\1<=id/\id<=8)):=zH (fun h=>by rw[Ya.2 ⟨h.2.1,h.2.2⟩]at hq;cases hq);go_wp2_with fail;go_returns;exact⟨.inl ⟨NV.out,rfl⟩,B1.out⟩
 have HQ:Hid (1<=id/\id<=8):=zH (Ya.1 hq);have c0:=Z6 F1.out 0 (.int .i64 f.rings) rfl;have c1:=Z6 F1.out 1 (.int .i64 f.sectors) rfl;have c2:=Z6 F1.out 2 (.int .i64 f.wide) rfl;go_wp2_with fail;go_returns;have hb2:=zB W1 (.cells #[.int .i64 f.rings,.int .i64 f.sectors,.int .i64 f.wide,.int .i64 id,.slice none 0 0,.slice none 0 0,.slice none 0 0,.slice none 0 0,.slice none 0 0,.slice none 0 0] 138);exact⟨.inr ⟨HV.out,HQ.out,W1.heap.size,rfl,JN.new (Z9 W1 _),B1.out.size⟩,B1.out.trans (hb2.mono B1.out.size)⟩
section
variable {w w':World}{p:Nat}{F:Nat->Prop}{sa:zA}{sc:Nat}{zs:List LN}{aa:zA}{ac:Nat}{cs:List Value}{G:Nat->Prop}{v0 v1 v2 v3:Value}{S:ZC}
theorem RHo.stick (h:RHo w p F sa sc zs aa ac cs G v0 v1 v2 v3 S){S':ZC}{G':Nat->Prop}{u0 u1 u2 u3:Value}(hf:S'.f=S.f)(hid:S'.id=S.id)(hl:S'.l=S.l)(ha:S'.ad=S.ad)(hd:S'.sd<=S'.sb.length/\S'.fd<=S'.fb.length)
  (hst:XG w' p (.int .i64 S.f.rings) (.int .i64 S.f.sectors) (.int .i64 S.f.wide) (.int .i64 S.id) (.slice sa zs.length sc) (.slice aa S.ad.length ac) G' u0 u1 u2 u3 (S'.sb.take S'.sd) (S'.sb.drop S'.sd) (S'.fb.take S'.fd) (S'.fb.drop S'.fd))
  (hs:Za (fun k=>k=p) w w') (hG : ∀k,G' k->G k\/w.heap.size<=k):Z2J w p F S' w':=by
 have ne : ∀{base e k m:Nat} {v:Value} {xs:List Value},w.ownsRow base e k v m xs->e≠138 -> ∀b,v.ownBlock=some b -> ¬(b=p):=fun ho he b hb e=>J9 ho h.stk.blk he (by rw[hb,e]);refine⟨fun k=>G' k\/Value.ownBlock (.slice sa zs.length sc)=some k\/Value.ownBlock (.slice aa S.ad.length ac)=some k \/ ∃x∈zs,Value.ownBlock (.slice x.sa x.n.strokes.length x.sc)=some k,⟨sa,sc,zs,aa,ac,cs,G',u0,u1,u2,u3,?_⟩,hs.weaken (fun k e=>by rw[e];exact h.self),?_⟩
 ·refine⟨?_,Zi h.set hs (ne h.set (by decide)),by rw[hl];exact h.eq,fun x hx=>Zi (h.str x hx) hs (ne (h.str x hx) (by decide)),?_,?_,hd,?_⟩
  ·rw[hf,hid,ha];exact hst
  ·rw[ha];exact Zi h.add hs (ne h.add (by decide))
  ·rw[ha];exact h.ap
  ·intro k;rw[ha]
 ·rintro k (hk | hk)
  ·exact(hG k hk).imp (fun h1=>(h.f k).2 (.inl h1)) id
  ·exact .inl ((h.f k).2 (.inr hk))
end
theorem Z0z (p:Nat)(F:Nat->Prop)(S:ZC)(w:World)(hh:JN w p F S)(hi:Xr S)(hlen:S.l.length<=400):
  Calls zq 78 #[.pointer (some ⟨p,0,none⟩)] w fun e w'=>e = .returned (.tuple #[])/\Z2J w p F S.sync w':=by
 obtain⟨sa,sc,zs,aa,ac,cs,G,v0,v1,v2,v3,h⟩:=hh;have H:=zH h;have SY:=zH (Z82 h.stk (by have h1:=hi.sbl;have h2:=hi.len;rw[List.length_take,List.length_drop];omega) (by have h1:=hi.fbl;have h2:=hi.len;rw[List.length_take,List.length_drop];omega));clear h hi hlen;go_enter Tryz.func78,Tryz.ntmps78;go_wp2_with fail;refine SY.out.mono ?_;rintro e w1 ⟨rfl,G',u0,u1,u2,u3,h1,h2,h3⟩;rw[List.take_append_drop,List.take_append_drop]at h1;have K:=zH h1;have HS:=zH h2;have HG:=zH h3;clear h1 h2 h3 SY;go_wp2;go_end0;refine⟨rfl,H.out.stick (S':=S.sync) rfl rfl rfl rfl ⟨Nat.le_refl _,Nat.le_refl _⟩ (u0:=u0) (u1:=u1) (u2:=u2) (u3:=u3) (G':=G') ?_ HS.out HG.out⟩;have e1:S.sync.sb.take S.sync.sd=S.sb:=by show S.sb.take S.sb.length=_;rw[List.take_length]
 have e2:S.sync.sb.drop S.sync.sd=[]:=by show S.sb.drop S.sb.length=_;rw[List.drop_length]
 have e3:S.sync.fb.take S.sync.fd=S.fb:=by show S.fb.take S.fb.length=_;rw[List.take_length]
 have e4:S.sync.fb.drop S.sync.fd=[]:=by show S.fb.drop S.fb.length=_;rw[List.drop_length]
 rw[e1,e2,e3,e4];exact K.out
theorem Z8c (p:Nat)(F:Nat->Prop)(S:ZC)(w:World)(hh:JN w p F S)(hi:Xr S)(hlen:S.l.length<=400):
  Calls zq 24 #[.pointer (some ⟨p,0,none⟩)] w fun e w'=>(∃a un c zs,e = .returned (.slice a un c)/\Vr w w' a c un zs/\zs.map LN.n=S.l)/\Below w.heap.size w w':=by
 obtain⟨sa,sc,zs,aa,ac,cs,G,v0,v1,v2,v3,h⟩:=hh;have J19:=zH (show(zq.info? 47).map (·.size)=some 19 from by kernel_rfl);have H:=zH h;have HI:=zH hi;obtain⟨nz,hnz⟩:=zX (zs.length);have NZ:Hid (nz<=400):=zH (by rw[<-hnz.out,h.len];exact hlen);have HB:=zH (show w.heap[p]? = some (.cells #[.int .i64 S.f.rings,.int .i64 S.f.sectors,.int .i64 S.f.wide,.int .i64 S.id,.slice sa nz sc,.slice aa S.ad.length ac,v0,v1,v2,v3] 138)from by rw[<-hnz.out];exact h.stk.blk);have RD:=zH (show Jb w sa nz sc zs from by rw[<-hnz.out];exact h.rd);clear h hi hlen;go_enter Tryz.func24,Tryz.ntmps24;go_wp2_with fail;go_loopw [3,4] (fun ov iv wr=>∃(k:Nat) (a:zA) (c:Nat) (ys:List LN),ov = .slice a k c/\iv = .int .i64 (k:Int)/\k<=nz/\Hid (Vr w wr a c k ys)/\Hid (ys.map LN.n=(zs.take k).map LN.n)) (fun _ iv _=>nz - (intOf iv).toNat)
 case atStart=>exact⟨0,none,0,[],rfl,rfl,Nat.zero_le _,zH (Vr.start _),zH rfl⟩
 case round=>
  obtain⟨k,oa,oc,ys,rfl,rfl,hk,MA,YE⟩:=hrel;have c4:=Z6 (Z7 MA.out.bel HB.out) 4 (.slice sa nz sc) rfl;by_cases hlt:k < nz
  ·have t0:decide ((k:Int) < (nz:Int))=true:=by simp;omega
   obtain⟨x,Hx⟩ : ∃x,zs[k]? = some x:=⟨_,List.getElem?_eq_getElem (by rw[hnz.out];exact hlt)⟩;obtain⟨b,off,rfl,hat⟩:=(RD.out.below MA.out.bel).at (by omega);obtain⟨o,ho⟩:=zX (off+k * 19);have HX:=zH (hat k x Hx).1;rw[ho.out]at HX;have RX:=zH (hat k x Hx).2;have XS:Hid (x.n.strokes.length<=1000000000):=zH (Nat.le_trans (Yg HI.out.v (HI.out.frm x.n (by rw[<-H.out.eq];exact List.mem_map_of_mem (List.mem_of_getElem? Hx)))) (by decide));have TK:=zH (Y8 Hx);have hix:=fun W=>ZN (W:=W) (c:=sc) (b:=b) Tryz.underlying24 J19.out hlt ho.out;have HK64:Hid ((k:Int)+1<=9223372036854775807):=zH (by have:=NZ.out;omega);clear hat Hx;go_wp2_with (refine wpList_load_mid rfl 47 _ rfl b o rfl (x.n.cells x.sa x.sc) _ HX.out Tryz.underlying47 rfl (by exact J19.out) ?_);refine(Qq x.n x.sa x.sc _ RX.out XS.out).mono ?_;rintro e w5 ⟨ta,tc,rfl,hown,b5⟩;have MA5:=zH (MA.out.below b5);have HO5:=zH (Zp hown MA.out.bel.size);have bn:Below w5.heap.size w5 (w5.alloc (.cells (Z5 x.n ta tc) 47)):=zB _ _;obtain⟨a',c',v9,hrun,ho9,hg9⟩:=Yw (w5.alloc (.cells (Z5 x.n ta tc) 47)) w.heap.size oa k oc _ (Zb MA5.out.own bn) _ 1 1 _ (XX w5 x.n ta tc) (x.n.cells_one _ _) (by have:=NZ.out;omega) (Nat.le_trans MA5.out.bel.size bn.size);have MA9:=zH (MA5.out.add (x:=⟨x.n,ta,tc⟩) HO5.out ho9 hg9);have YE9:Hid ((ys ++ [(⟨x.n,ta,tc⟩:LN)]).map LN.n=(zs.take (k+1)).map LN.n):=zH (by rw[TK.out,List.map_append,List.map_append,YE.out];rfl);clear hown b5 bn ho9 hg9 MA5 HO5 MA t0 hix c4;have hk64:=HK64.out;go_wp2_with (first
    |(refine YT rfl _ rfl x.n ta tc rfl ?_)
    |(refine Zu rfl _ _ _ rfl _ _ _ rfl rfl hrun ?_)
    | fail)
   go_roundw
   case rel=>exact⟨k+1,a',c',ys ++ [⟨x.n,ta,tc⟩],by go_num,by go_num,by omega,MA9,YE9⟩
   case measure=>simp[intOf];omega
  ·have t0:decide ((k:Int) < (nz:Int))=false:=by simp;omega
   have ZE:Hid (ys.map LN.n=S.l):=zH (by rw[YE.out,List.take_of_length_le (by rw[hnz.out];omega),H.out.eq]);go_wp2;go_ret;exact⟨⟨oa,k,oc,ys,rfl,MA.out,ZE.out⟩,MA.out.bel⟩
def Z8G (l:List NoteV):List Int:=[(howMany l 1:Int),(howMany l 2:Int),(howMany l 3:Int),(howMany l 4:Int),(howMany l 5:Int),(howMany l 6:Int),(howMany l 7:Int),(howMany l 8:Int)]
theorem Zcb (l:List NoteV)(k:Nat)(hk:k < 8):(Z8G l)[k]? = some (howMany l ((k:Int)+1):Int):=by
 have:k=0\/k=1\/k=2\/k=3\/k=4\/k=5\/k=6\/k=7:=by omega
 rcases this with rfl | rfl | rfl | rfl | rfl | rfl | rfl | rfl <;> rfl
theorem Z7C (p:Nat)(F:Nat->Prop)(S:ZC)(w:World)(hh:JN w p F S)(hlen:S.l.length<=400):
  Calls zq 26 #[.pointer (some ⟨p,0,none⟩)] w fun e w'=>(∃a c,e = .returned (.slice a 8 c)/\Xe w' a 8 c (Z8G S.l))/\Below w.heap.size w w':=by
 obtain⟨sa,sc,zs,aa,ac,cs,G,v0,v1,v2,v3,h⟩:=hh;have H:=zH h;obtain⟨nz,hnz⟩:=zX (zs.length);have NZ:Hid (nz<=400):=zH (by rw[<-hnz.out,h.len];exact hlen);have HB:=zH (show w.heap[p]? = some (.cells #[.int .i64 S.f.rings,.int .i64 S.f.sectors,.int .i64 S.f.wide,.int .i64 S.id,.slice sa nz sc,.slice aa S.ad.length ac,v0,v1,v2,v3] 138)from by rw[<-hnz.out];exact h.stk.blk);have RD:=zH (show Jb w sa nz sc zs from by rw[<-hnz.out];exact h.rd);have EQ:=zH h.eq;clear h hlen;go_enter Tryz.func26,Tryz.ntmps26;go_wp2_with fail;go_loopw [3,4] (fun ov iv wr=>∃(k:Nat) (a:zA) (c:Nat),ov = .slice a k c/\iv = .int .i64 ((k:Int)+1)/\k<=8/\Hid (Below w.heap.size w wr)/\Hid (wr.ownsRow w.heap.size 3 1 (.slice a k c) k (((Z8G S.l).take k).map Yo))) (fun _ iv _=>9 - (intOf iv).toNat)
 case atStart=>exact⟨0,none,0,rfl,by go_num,Nat.zero_le _,zH (Below.refl _ _),zH (World.ownsRow_nil _ _ _ _)⟩
 case round=>
  obtain⟨k,oa,oc,rfl,rfl,hk,BB,OO⟩:=hrel;have c4:=Z6 (Z7 BB.out HB.out) 4 (.slice sa nz sc) rfl;by_cases hlt:k < 8
  ·have t0:decide ((k:Int)+1<=8)=true:=by simp;omega
   have CK:=zH (Zcb S.l k hlt);have HK64:Hid ((k:Int)+1+1<=9223372036854775807):=zH (by omega);go_wp2_with fail;refine(Z1i zs sa nz sc ((k:Int)+1) _ (RD.out.below BB.out) (by have:=NZ.out;omega)).mono ?_;rintro e w5 ⟨rfl,rfl⟩;rw[EQ.out];obtain⟨q,hq⟩:=zX (howMany S.l ((k:Int)+1));rw[hq.out]at CK ⊢;have bn:Below w5.heap.size w5 (w5.alloc (.cells #[.int .i64 (q:Int)] 3)):=zB _ _;have lit:=ZX.of_own (World.ownsRow_lit (base:=w5.heap.size) (e:=3) (size:=1) w5 #[.int .i64 (q:Int)] 1 (Nat.le_refl _) (by unfold maxLen;omega) rfl);obtain⟨a',c',v9,hrun,ho9,hg9⟩:=Z0f (w5.alloc (.cells #[.int .i64 (q:Int)] 3)) w.heap.size oa k oc _ (Zb OO.out bn) _ 1 1 _ lit (by intro u hu;simp at hu;rw[hu];rfl) (by omega) (Nat.le_trans BB.out.size bn.size);have O9:Hid (v9.ownsRow w.heap.size 3 1 (.slice a' (k+1) c') (k+1) (((Z8G S.l).take (k+1)).map Yo)):=zH (by rw[Y8 CK.out,List.map_append];exact ho9);have B9:=zH ((BB.out.trans (bn.mono BB.out.size)).grown hg9 (Nat.le_trans BB.out.size bn.size) (fun z hz=>(OO.out.lt z hz).1));clear bn lit ho9 hg9 OO BB t0 c4;have hk64:=HK64.out;go_wp2_with (first
    |(refine Zu rfl _ _ _ rfl _ _ _ rfl rfl hrun ?_)
    | fail)
   go_roundw
   case rel=>exact⟨k+1,a',c',by go_num,by go_num,by omega,B9,O9⟩
   case measure=>simp[intOf];omega
  ·have t0:decide ((k:Int)+1<=8)=false:=by simp;omega
   have h8:k=8:=by omega
   subst h8;have RR:Hid (Xe wr oa 8 oc (Z8G S.l)):=zH (ZX.of_own OO.out);go_wp2;go_ret;exact⟨⟨oa,oc,rfl,RR.out⟩,BB.out⟩
section
attribute [local go_sem] ZS Xi
theorem Z60 (p:Nat)(F:Nat->Prop)(S:ZC)(qs:List Int)(ca:zA)(cn cc:Nat)(w:World)(hh:JN w p F S)(hi:Xr S)(hlen:S.l.length<=400)(hc:Xe w ca cn cc qs):
  Calls zq 81 #[.pointer (some ⟨p,0,none⟩),.slice ca cn cc] w fun e w'=>ZbG (S.l.filter (fun n=>!JZ qs n)) w e w'/\Below w.heap.size w w':=by
 obtain⟨sa,sc,zs,aa,ac,cs,G,v0,v1,v2,v3,h⟩:=hh;have J19:=zH (show(zq.info? 47).map (·.size)=some 19 from by kernel_rfl);have JI:=zH (show(zq.info? 3).map (·.size)=some 1 from by kernel_rfl);have H:=zH h;have HI:=zH hi;have HC:=zH hc;have CL:=zH hc.len;have CM:=zH hc.maxn;obtain⟨nz,hnz⟩:=zX (zs.length);have NZ:Hid (nz<=400):=zH (by rw[<-hnz.out,h.len];exact hlen);have HB:=zH (show w.heap[p]? = some (.cells #[.int .i64 S.f.rings,.int .i64 S.f.sectors,.int .i64 S.f.wide,.int .i64 S.id,.slice sa nz sc,.slice aa S.ad.length ac,v0,v1,v2,v3] 138)from by rw[<-hnz.out];exact h.stk.blk);have RD:=zH (show Jb w sa nz sc zs from by rw[<-hnz.out];exact h.rd);clear h hi hlen hc;go_enter Tryz.func81,Tryz.ntmps81;go_wp2_with fail;go_loopw [5,6,7,8] (fun ov iv _ _ wr=>∃(k m:Nat) (a:zA) (c:Nat) (ys:List LN),ov = .slice a m c/\iv = .int .i64 (k:Int)/\k<=nz/\Hid (Vr w wr a c m ys)/\Hid (m<=k)/\Hid (ys.map LN.n=((zs.take k).map LN.n).filter (fun n=>!JZ qs n))) (fun _ iv _ _ _=>nz - (intOf iv).toNat)
 case atStart=>exact⟨0,0,none,0,[],rfl,rfl,Nat.zero_le _,zH (Vr.start _),zH (Nat.le_refl _),zH rfl⟩
 case round=>
  obtain⟨k,m,oa,oc,ys,rfl,rfl,hk,MA,MK,YE⟩:=hrel;have c4:=Z6 (Z7 MA.out.bel HB.out) 4 (.slice sa nz sc) rfl;by_cases hlt:k < nz
  ·have t0:decide ((k:Int) < (nz:Int))=true:=by simp;omega
   obtain⟨x,Hx⟩ : ∃x,zs[k]? = some x:=⟨_,List.getElem?_eq_getElem (by rw[hnz.out];exact hlt)⟩;obtain⟨b,off,rfl,hat⟩:=(RD.out.below MA.out.bel).at (by omega);obtain⟨o,ho⟩:=zX (off+k * 19);have HX:=zH (hat k x Hx).1;rw[ho.out]at HX;have RX:=zH (hat k x Hx).2;have FX:=zH (HI.out.frm x.n (by rw[<-H.out.eq];exact List.mem_map_of_mem (List.mem_of_getElem? Hx)));have XS:Hid (x.n.strokes.length<=1000000000):=zH (Nat.le_trans (Yg HI.out.v FX.out) (by decide));obtain⟨j,hj,hj7⟩ : ∃j:Nat,x.n.house=(j:Int)+1/\j<=7:=⟨(x.n.house - 1).toNat,by have:=Yh FX.out;omega,by have:=Yh FX.out;omega⟩;have HJ:=zH hj;have TK:=zH (Y8 Hx);have hix:=fun W=>ZN (W:=W) (c:=sc) (b:=b) Tryz.underlying24 J19.out hlt ho.out;have HK64:Hid ((k:Int)+1<=9223372036854775807):=zH (by have:=NZ.out;omega);clear hat Hx hj;go_upto_region 6 with (first
    |(refine wpList_load_mid rfl 47 _ rfl b o rfl (x.n.cells x.sa x.sc) _ HX.out Tryz.underlying47 rfl (by exact J19.out) ?_)
    |(refine zP wr wr.heap.size (Z5 x.n x.sa x.sc) ?_))
   have b2:Below wr.heap.size wr (wr.alloc (.cells (Z5 x.n x.sa x.sc) 47)):=zB _ _;have E2:=zH (Z9 wr (.cells (Z5 x.n x.sa x.sc) 47));replace MA:=zH (MA.out.below b2);replace RX:=zH (RX.out.below b2);obtain⟨p7,hp7⟩:=zX (wr.heap.size);rw[hp7.out]at E2 ⊢;clear b2 c4 hix t0;generalize wr.alloc (.cells (Z5 x.n x.sa x.sc) 47)=W2 at *;have c0:=Z6 E2.out 0 (.int .i64 x.n.house) rfl;rw[HJ.out]at c0;have c1:=Z6 E2.out 1 (.int .i64 x.n.num) rfl;obtain⟨lst,LST,hlst⟩ : ∃lst:Int,Hid (JZ qs x.n=decide (x.n.num<=lst))/\((lst=0 /\ ¬j < cn)\/(j < cn/\qs[j]? = some lst)):=by
    by_cases hjc:j < cn
    ·obtain⟨v,hv⟩ : ∃v,qs[j]? = some v:=⟨_,List.getElem?_eq_getElem (by rw[CL.out];exact hjc)⟩;exact⟨v,zH (Z76 HJ.out (by rw[HJ.out,CL.out];simp;omega) hv),.inr ⟨hjc,hv⟩⟩
    ·have h1:=Yh FX.out;exact⟨0,zH (by rw[Z5e h1.1 (by rw[HJ.out,CL.out];simp;omega)];symm;simp;omega),.inl ⟨rfl,hjc⟩⟩
   have FIN:Hid (JZ qs x.n=decide (x.n.num<=lst)):=LST;have ADD:Hid (decide (lst < x.n.num)=true->((zs.take (k+1)).map LN.n).filter (fun n=>!JZ qs n)=(ys ++ [x]).map LN.n):=zH (fun h=>by
    rw[TK.out,List.map_append,List.filter_append,<-YE.out,List.map_append];have e:JZ qs x.n=false:=by rw[FIN.out];simp at h ⊢;omega
    simp[e])
   have SKP:Hid (decide (lst < x.n.num)=false->((zs.take (k+1)).map LN.n).filter (fun n=>!JZ qs n)=ys.map LN.n):=zH (fun h=>by
    rw[TK.out,List.map_append,List.filter_append,<-YE.out];have e:JZ qs x.n=true:=by rw[FIN.out];simp at h ⊢;omega
    simp[e])
   have CV:=zH hlst;clear hlst LST FIN TK;obtain⟨t8,ht8⟩:=zX (decide (lst < x.n.num));rw[ht8.out]at ADD SKP;by_cases hjc:j < cn
   focus
    have t1:decide ((j:Int) < (cn:Int))=true:=by simp;omega
    have LV:Hid (qs[j]? = some lst):=zH (CV.out.elim (fun h=>absurd hjc h.2) (fun h=>h.2));obtain⟨cb,co,rfl,hcat⟩:=(HC.out.below MA.out.bel).at (by omega);have cl:W2.cell? ⟨cb,co+j,none⟩=some (.int .i64 lst):=by rw[hcat j hjc,LV.out];rfl
    have hixc:=fun W=>ZN (W:=W) (c:=cc) (b:=cb) (off:=co) Tryz.underlying37 JI.out hjc (by rw[Nat.mul_one]);clear hcat
   rotate_left
   focus
    have t1:decide ((j:Int) < (cn:Int))=false:=by simp;omega
    have L0:Hid (lst=0):=zH (CV.out.elim (fun h=>h.1) (fun h=>absurd h.1 hjc));obtain rfl:=L0.out
   all_goals
    have TT:=zH ht8.out;clear CV;cases t8
    ·have ht:=TT.out;have YN:=zH ((SKP.out rfl).symm);go_upto_region 4 with fail;have hk64:=HK64.out;clear ht t1;go_wp2;go_roundw
     case rel=>exact⟨k+1,m,oa,oc,ys,rfl,by go_num,by omega,MA,zH (by have:=MK.out;omega),YN⟩
     case measure=>simp[intOf];omega
    ·have ht:=TT.out;have YN:=zH ((ADD.out rfl).symm);go_upto_region 10 with fail;clear ht t1;go_wp2_with (refine zL p7 E2.out ?_);refine(Qq x.n x.sa x.sc _ RX.out XS.out).mono ?_;rintro e w5 ⟨ta,tc,rfl,hown,b5⟩;have MA5:=zH (MA.out.below b5);have HO5:=zH (Zp hown MA.out.bel.size);have bn:Below w5.heap.size w5 (w5.alloc (.cells (Z5 x.n ta tc) 47)):=zB _ _;obtain⟨a',c',v9,hrun,ho9,hg9⟩:=Yw (w5.alloc (.cells (Z5 x.n ta tc) 47)) w.heap.size oa m oc _ (Zb MA5.out.own bn) _ 1 1 _ (XX w5 x.n ta tc) (x.n.cells_one _ _) (by have:=NZ.out;have:=MK.out;omega) (Nat.le_trans MA5.out.bel.size bn.size);have MA9:=zH (MA5.out.add (x:=⟨x.n,ta,tc⟩) HO5.out ho9 hg9);have YE9:Hid ((ys ++ [(⟨x.n,ta,tc⟩:LN)]).map LN.n=((zs.take (k+1)).map LN.n).filter (fun n=>!JZ qs n)):=zH (by rw[<-YN.out,List.map_append,List.map_append];rfl);clear hown b5 bn ho9 hg9 MA5 HO5 MA c0 c1;go_upto_region 4 with (first
      |(refine YT rfl _ rfl x.n ta tc rfl ?_)
      |(refine Zu rfl _ _ _ rfl _ _ _ rfl rfl hrun ?_)
      | fail)
     have hk64:=HK64.out;go_wp2;go_roundw
     case rel=>exact⟨k+1,m+1,a',c',ys ++ [⟨x.n,ta,tc⟩],by go_num,by go_num,by omega,MA9,zH (by have:=MK.out;omega),YE9⟩
     case measure=>simp[intOf];omega
  ·have t0:decide ((k:Int) < (nz:Int))=false:=by simp;omega
   have ZE:Hid (ys.map LN.n=S.l.filter (fun n=>!JZ qs n)):=zH (by rw[YE.out,List.take_of_length_le (by rw[hnz.out];omega),H.out.eq]);go_wp2;go_ret;exact⟨⟨oa,m,oc,ys,rfl,MA.out.kept,ZE.out⟩,MA.out.bel⟩
end
def Jc (s:List LN×List LN)(x:LN):List LN×List LN:=
 if (decide (Jz (s.1.map LN.n) (Zk x.n) < 0) && decide (x.n.num<=(howMany (s.1.map LN.n) x.n.house:Int)+1))=true then (QG s.1 x,s.2 ++ [x])else s
def Uj (zs xs:List LN):List LN×List LN:=xs.foldl Jc (zs,[])
theorem Z7e (zs:List LN){xs:List LN}{k:Nat}{x:LN}(h:xs[k]? = some x):Uj zs (xs.take (k+1))=Jc (Uj zs (xs.take k)) x:=by
 unfold Uj;rw[Y8 h,List.foldl_append];rfl
theorem Z67 (zs:List LN): ∀(xs:List LN) (s:List LN×List LN),(xs.foldl Jc s).1.length<=s.1.length+xs.length/\(xs.foldl Jc s).2.length<=s.2.length+xs.length
 | [],s=>⟨Nat.le_refl _,Nat.le_refl _⟩
 | x :: xs,s=>by
  have ih:=Z67 zs xs (Jc s x)
  have h1:(Jc s x).1.length<=s.1.length+1/\(Jc s x).2.length<=s.2.length+1:=by
   unfold Jc;split
   ·exact⟨by show(QG s.1 x).length<=_;rw[Z4l];exact Nat.le_refl _,by show(s.2 ++ [x]).length<=_;rw[List.length_append];exact Nat.le_refl _⟩
   ·exact⟨Nat.le_succ _,Nat.le_succ _⟩
  rw[List.foldl_cons,List.length_cons];omega
theorem Z1M: ∀(xs:List LN) (s:List LN×List LN),(∀y∈(xs.foldl Jc s).1,y∈s.1\/y∈xs)/\(∀y∈(xs.foldl Jc s).2,y∈s.2\/y∈xs)
 | [],s=>⟨fun y h=>.inl h,fun y h=>.inl h⟩
 | x :: xs,s=>by
  have ih:=Z1M xs (Jc s x)
  have h1:(∀y∈(Jc s x).1,y∈s.1\/y=x)/\(∀y∈(Jc s x).2,y∈s.2\/y=x):=by
   unfold Jc;split
   ·exact⟨fun y hy=>(U4.1 hy).symm,fun y hy=>(List.mem_append.1 hy).imp id List.mem_singleton.1⟩
   ·exact⟨fun y hy=>.inl hy,fun y hy=>.inl hy⟩
  refine⟨fun y hy=>?_,fun y hy=>?_⟩
  ·rcases ih.1 y hy with h | h
   ·exact(h1.1 y h).imp id (fun e=>by rw[e];exact List.mem_cons_self ..)
   ·exact .inr (List.mem_cons_of_mem _ h)
  ·rcases ih.2 y hy with h | h
   ·exact(h1.2 y h).imp id (fun e=>by rw[e];exact List.mem_cons_self ..)
   ·exact .inr (List.mem_cons_of_mem _ h)
theorem Z2z (p:Nat)(F:Nat->Prop)(S:ZC)(sa:zA)(sc:Nat)(zs:List LN)(aa:zA)(ac:Nat)(cs:List Value)(G:Nat->Prop)(v0 v1 v2 v3:Value)(xs:List LN)(la:zA)(n lc:Nat)(w:World)(h:RHo w p F sa sc zs aa ac cs G v0 v1 v2 v3 S)(hlen:S.l.length<=400)(hr:Jb w la n lc xs)(hn:n<=400):
  Calls zq 136 #[.pointer (some ⟨p,0,none⟩),.slice la n lc] w fun e w'=>(∃a m c,e = .returned (.slice a m c)/\w'.ownsRow w.heap.size 47 19 (.slice a m c) m (Zw (Uj zs xs).2)/\(Uj zs xs).2.length=m)/\Below w.heap.size w w':=by
 have J19:=zH (show(zq.info? 47).map (·.size)=some 19 from by kernel_rfl);obtain⟨nz,hnz⟩:=zX (zs.length);have NZ:Hid (nz<=400):=zH (by rw[<-hnz.out,h.len];exact hlen);have HB:=zH (show w.heap[p]? = some (.cells #[.int .i64 S.f.rings,.int .i64 S.f.sectors,.int .i64 S.f.wide,.int .i64 S.id,.slice sa nz sc,.slice aa S.ad.length ac,v0,v1,v2,v3] 138)from by rw[<-hnz.out];exact h.stk.blk);have RD:=zH (show Jb w sa nz sc zs from by rw[<-hnz.out];exact h.rd);have RX:=zH hr;have XN:=zH hr.1;have HN:=zH hn;have c4:=Z6 HB.out 4 (.slice sa nz sc) rfl;clear h hlen hr hn;go_enter Tryz.func136,Tryz.ntmps136;go_wp2_with fail;clear c4;go_loopw [5,6,7] (fun ov qv iv wr=>∃(k m:Nat) (oa:zA) (oc:Nat) (qa:zA) (qn qc:Nat),ov = .slice oa m oc/\qv = .slice qa qn qc/\iv = .int .i64 (k:Int)/\k<=n/\Hid (Below w.heap.size w wr)/\Hid (Jb wr qa qn qc (Uj zs (xs.take k)).1)/\Hid (wr.ownsRow w.heap.size 47 19 (.slice oa m oc) m (Zw (Uj zs (xs.take k)).2))/\Hid ((Uj zs (xs.take k)).2.length=m)/\Hid (qn<=400+k/\m<=k)) (fun _ _ iv _=>n - (intOf iv).toNat)
 case atStart=>exact⟨0,0,none,0,sa,nz,sc,rfl,rfl,rfl,Nat.zero_le _,zH (Below.refl _ _),RD,zH (World.ownsRow_nil _ _ _ _),zH rfl,zH ⟨NZ.out,Nat.le_refl _⟩⟩
 case round=>
  obtain⟨k,m,oa,oc,qa,qn,qc,rfl,rfl,rfl,hk,BB,RQ,OO,OM,LE⟩:=hrel;by_cases hlt:k < n
  ·have t0:decide ((k:Int) < (n:Int))=true:=by simp;omega
   obtain⟨x,Hx⟩ : ∃x,xs[k]? = some x:=⟨_,List.getElem?_eq_getElem (by rw[XN.out];exact hlt)⟩;obtain⟨b,off,rfl,hat⟩:=(RX.out.below BB.out).at (by omega);obtain⟨o,ho⟩:=zX (off+k * 19);have HX:=zH (hat k x Hx).1;rw[ho.out]at HX;have RXK:=zH (hat k x Hx).2;have HS:=zH (Z7e zs Hx);have HIX:=zH (fun W=>ZN (W:=W) (c:=lc) (b:=b) Tryz.underlying24 J19.out hlt ho.out);have HK64:Hid ((k:Int)+1<=9223372036854775807):=zH (by have:=HN.out;omega);have LX:=zH (show ∀w0,Below wr.heap.size wr w0->w0.rangeAt b o (x.n.cells x.sa x.sc)from fun w0 h=>Zs HX.out h);have LQ:=zH (show ∀w0,Below wr.heap.size wr w0->Jb w0 qa qn qc (Uj zs (xs.take k)).1 from fun w0 h=>RQ.out.below h);have QN:Hid (qn<=800):=zH (by have:=LE.out;have:=HN.out;omega);have hC0:Below wr.heap.size wr wr.drew:=(Below.refl _ _).drew;obtain⟨L,hL⟩:=zX ((Uj zs (xs.take k)).1);obtain⟨R,hR⟩:=zX ((Uj zs (xs.take k)).2);have HS2:Hid (Uj zs (xs.take (k+1))=Jc (L,R) x):=zH (by rw[HS.out,<-hL.out,<-hR.out]);have LOK:Hid (∀y∈L,y.ok w):=zH (fun y hy=>by
    rw[<-hL.out]at hy;rcases(Z1M (xs.take k) (zs,[])).1 y hy with h | h
    ·exact QP RD.out h
    ·exact QP RX.out (List.mem_of_mem_take h))
   have XOK:=zH (QP RX.out (List.mem_of_getElem? Hx));rw[hL.out]at LQ RQ;rw[hR.out]at OO OM;obtain⟨fi,hfi⟩:=zX (Jz (L.map LN.n) (Zk x.n));obtain⟨hm,hhm⟩:=zX (howMany (L.map LN.n) x.n.house);have HML:Hid (hm<=800):=zH (by rw[<-hhm.out];have h1:=Z4p (L.map LN.n) x.n.house;rw[List.length_map,RQ.out.1]at h1;have:=QN.out;omega);obtain⟨b1,hb1⟩:=zX (decide (fi < 0));obtain⟨b2,hb2⟩:=zX (decide (x.n.num<=(hm:Int)+1));have HST:Hid (Jc (L,R) x=if (b1 && b2)=true then (QG L x,R ++ [x])else (L,R)):=zH (by unfold Jc;rw[hfi.out,hhm.out,hb1.out,hb2.out]);clear hat Hx HS hL hR;go_upto_region 6 with fail;clear t0;try simp only[Act.put,VZ,VY,VX]
   cases b1
   ·have hf1:=hb1.out;refine zC (fun w':World=>Below wr.heap.size wr w') hC0 ?_
    iterate 3 go_big_quiet_step (fail)
    refine zQ (.pointer (some ⟨b,o,none⟩)) (fun w0 hC=>?_) ?_
    ·have hix:=HIX.out w0;clear hC;go_simp
    refine zQ (.agg (Z5 x.n x.sa x.sc)) (fun w0 hC=>Zx (.tmp 21) rfl b o rfl x.n x.sa x.sc (LX.out w0 hC)) ?_;refine zQ (.agg #[.int .i64 x.n.house,.int .i64 x.n.num]) (fun w0 hC=>?_) ?_
    ·go_simp;refine(JJ x.n x.sa x.sc w0).mono ?_;rintro e w1 ⟨rfl,b1⟩;exact⟨rfl,hC.trans (b1.mono hC.size)⟩
    refine zQ (.int .i64 fi) (fun w0 hC=>?_) ?_
    ·go_simp;refine(Z2C (L.map LN.n) qa qn qc x.n.house x.n.num w0 (Vw (Vn (LQ.out w0 hC)) (fun y hy=>QP (LQ.out w0 hC) hy)) (Nat.le_trans QN.out (by decide))).mono ?_;rintro e w1 ⟨rfl,b1⟩;exact⟨by rw[<-hfi.out] <;> rfl,hC.trans (b1.mono hC.size)⟩
    refine zQ (.bool false) (fun w0 hC=>?_) ?_
    ·clear hC;go_simp
     first | done|(rw[hf1]) | exact hf1
    go_big_quiet_step (fail)
    iterate 14 go_big_quiet_skip
    refine zV (.bool false) ?_;refine wpQuiet_nil ?_;intro w' hC;have BB2:=zH (BB.out.trans (hC.mono BB.out.size));have OO2:=zH (Zb OO.out hC);have RQ2:=zH (RQ.out.below hC);have EQ:Hid (Uj zs (xs.take (k+1))=(L,R)):=zH (by rw[HS2.out,HST.out];rfl);clear hC LX LQ OO RQ BB;go_upto_region 5 with fail;have hk64:=HK64.out;clear hf1;go_wp2;go_roundw
    case rel=>exact⟨k+1,m,oa,oc,qa,qn,qc,rfl,rfl,by go_num,by omega,BB2,zH (by rw[EQ.out];exact RQ2.out),zH (by rw[EQ.out];exact OO2.out),zH (by rw[EQ.out];exact OM.out),zH (by have:=LE.out;omega)⟩
    case measure=>simp[intOf];omega
   ·have hf1:=hb1.out;refine zC (fun w':World=>Below wr.heap.size wr w') hC0 ?_
    iterate 3 go_big_quiet_step (fail)
    refine zQ (.pointer (some ⟨b,o,none⟩)) (fun w0 hC=>?_) ?_
    ·have hix:=HIX.out w0;clear hC;go_simp
    refine zQ (.agg (Z5 x.n x.sa x.sc)) (fun w0 hC=>Zx (.tmp 21) rfl b o rfl x.n x.sa x.sc (LX.out w0 hC)) ?_;refine zQ (.agg #[.int .i64 x.n.house,.int .i64 x.n.num]) (fun w0 hC=>?_) ?_
    ·go_simp;refine(JJ x.n x.sa x.sc w0).mono ?_;rintro e w1 ⟨rfl,b1⟩;exact⟨rfl,hC.trans (b1.mono hC.size)⟩
    refine zQ (.int .i64 fi) (fun w0 hC=>?_) ?_
    ·go_simp;refine(Z2C (L.map LN.n) qa qn qc x.n.house x.n.num w0 (Vw (Vn (LQ.out w0 hC)) (fun y hy=>QP (LQ.out w0 hC) hy)) (Nat.le_trans QN.out (by decide))).mono ?_;rintro e w1 ⟨rfl,b1⟩;exact⟨by rw[<-hfi.out] <;> rfl,hC.trans (b1.mono hC.size)⟩
    refine zQ (.bool true) (fun w0 hC=>?_) ?_
    ·clear hC;go_simp
     first | done|(rw[hf1]) | exact hf1
    iterate 3 go_big_quiet_step (fail)
    refine zQ (.pointer (some ⟨b,o,none⟩)) (fun w0 hC=>?_) ?_
    ·have hix:=HIX.out w0;clear hC;go_simp
    refine zv b (o+1) ?_;refine zQ (.int .i64 x.n.num) (fun w0 hC=>?_) ?_
    ·have hc:=LX.out w0 hC 1 (.int .i64 x.n.num) rfl;clear hC;go_simp
    iterate 3 go_big_quiet_step (fail)
    refine zQ (.pointer (some ⟨b,o,none⟩)) (fun w0 hC=>?_) ?_
    ·have hix:=HIX.out w0;clear hC;go_simp
    refine zv b o ?_;refine zQ (.int .i64 x.n.house) (fun w0 hC=>?_) ?_
    ·have hc:=LX.out w0 hC 0 (.int .i64 x.n.house) rfl;rw[Nat.add_zero]at hc;clear hC;go_simp
    refine zQ (.int .i64 (hm:Int)) (fun w0 hC=>?_) ?_
    ·go_simp;refine(Z1i L qa qn qc x.n.house w0 (LQ.out w0 hC) (Nat.le_trans QN.out (by decide))).mono ?_;rintro e w1 ⟨rfl,rfl⟩;exact⟨by rw[<-hhm.out] <;> rfl,hC⟩
    refine zQ (.int .i64 ((hm:Int)+1)) (fun w0 hC=>?_) ?_
    ·clear hC;have h9:=HML.out;go_simp;try (rw[IntKind.wrap_i64];omega)
    refine zQ (.bool b2) (fun w0 hC=>?_) ?_
    ·clear hC;go_simp
     first | done|(rw[hb2.out]) | exact hb2.out
    refine zV (.bool b2) ?_;refine wpQuiet_nil ?_;intro w' hC;cases b2
    ·have BB2:=zH (BB.out.trans (hC.mono BB.out.size));have OO2:=zH (Zb OO.out hC);have RQ2:=zH (RQ.out.below hC);have EQ:Hid (Uj zs (xs.take (k+1))=(L,R)):=zH (by rw[HS2.out,HST.out];rfl);clear hC LX LQ OO RQ BB;go_upto_region 5 with fail;have hk64:=HK64.out;clear hf1;go_wp2;go_roundw
     case rel=>exact⟨k+1,m,oa,oc,qa,qn,qc,rfl,rfl,by go_num,by omega,BB2,zH (by rw[EQ.out];exact RQ2.out),zH (by rw[EQ.out];exact OO2.out),zH (by rw[EQ.out];exact OM.out),zH (by have:=LE.out;omega)⟩
     case measure=>simp[intOf];omega
    ·have BB2:=zH (BB.out.trans (hC.mono BB.out.size));have OO2:=zH (Zb OO.out hC);have RQ2:=zH (RQ.out.below hC);have HX2:=zH (LX.out w' hC);have EQ:Hid (Uj zs (xs.take (k+1))=(QG L x,R ++ [x])):=zH (by rw[HS2.out,HST.out];rfl);clear hC LX LQ OO RQ BB HX RXK;generalize w'=W6 at *;go_upto_region 7 with fail;have hix:=HIX.out;go_wp2_with (refine wpList_load_mid rfl 47 _ rfl b o rfl (x.n.cells x.sa x.sc) _ HX2.out Tryz.underlying47 rfl (by exact J19.out) ?_);refine(Z0x L qa qn qc x _ RQ2.out (Nat.le_trans QN.out (by decide))).mono ?_;rintro e W7 ⟨a7,c7,rfl,ho7,b7⟩;have BB7:=zH (BB2.out.trans (b7.mono BB2.out.size));have OO7:=zH (Zb OO2.out b7);have HX7:=zH (Zs HX2.out b7);have O7:=zH ho7;clear ho7 b7 BB2 HX2 RQ2;have bn:Below W7.heap.size W7 (W7.alloc (.cells (Z5 x.n x.sa x.sc) 47)):=zB _ _;obtain⟨a',c',v9,hrun,ho9,hg9⟩:=Yw (W7.alloc (.cells (Z5 x.n x.sa x.sc) 47)) w.heap.size oa m oc _ (Zb OO7.out bn) _ 1 1 _ (XX W7 x.n x.sa x.sc) (x.n.cells_one _ _) (by have:=LE.out;have:=HN.out;omega) (Nat.le_trans BB7.out.size bn.size);have BB9:=zH ((BB7.out.trans (bn.mono BB7.out.size)).grown hg9 (Nat.le_trans BB7.out.size bn.size) (fun q hq=>(OO7.out.lt q hq).1));have OO9:=zH (show v9.ownsRow w.heap.size 47 19 (.slice a' (m+1) c') (m+1) (Zw (R ++ [x]))from by rw[JP];exact ho9);have RQ9:=zH (show Jb v9 a7 (qn+1) c7 (QG L x)from ZcD ((Zb O7.out bn).kept hg9 (by
      cases e1:Value.ownBlock (.slice a7 (qn+1) c7)with
      | none=>exact .inl rfl
      | some z=>exact .inr (fun e=>by have h1:=(O7.out.lt z e1).1;have h2:=(OO2.out.lt z e.symm).2;omega))) (fun y hy=>by
      rcases U4.1 hy with rfl | hy
      ·exact XOK.out.below BB9.out
      ·exact(LOK.out y hy).below BB9.out))
     clear bn ho9 hg9 BB7 OO7 OO2 O7;have hk64:=HK64.out;go_wp2_with (first
      |(refine wpList_load_mid rfl 47 _ rfl b o rfl (x.n.cells x.sa x.sc) _ HX7.out Tryz.underlying47 rfl (by exact J19.out) ?_)
      |(refine YT rfl _ rfl x.n x.sa x.sc rfl ?_)
      |(refine Zu rfl _ _ _ rfl _ _ _ rfl rfl hrun ?_)
      | fail)
     go_roundw
     case rel=>exact⟨k+1,m+1,a',c',a7,qn+1,c7,by go_num,by go_num,by go_num,by omega,BB9,zH (by rw[EQ.out];exact RQ9.out),zH (by rw[EQ.out];exact OO9.out),zH (by rw[EQ.out];show(R ++ [x]).length=_;rw[List.length_append,OM.out];rfl),zH (by have:=LE.out;omega)⟩
     case measure=>simp[intOf];omega
  ·have t0:decide ((k:Int) < (n:Int))=false:=by simp;omega
   rw[List.take_of_length_le (by rw[XN.out];omega)]at OO OM;go_wp2;go_ret;exact⟨⟨oa,m,oc,rfl,OO.out,OM.out⟩,BB.out⟩
structure TwoD (w W:World)(p q:Nat)(x y:NoteV)(sa:zA)(sc:Nat)(ta:zA)(tc:Nat):Prop where
 e1:W.heap[p]? = some (.cells (Z5 x sa sc) 47)
 e2:W.heap[q]? = some (.cells (Z5 y ta tc) 47)
 b:Below p w W
 lt:p < q
theorem TwoD.below {w W W':World}{p q:Nat}{x y:NoteV}{sa ta:zA}{sc tc:Nat}(h:TwoD w W p q x y sa sc ta tc)(hb:Below W.heap.size W W'):TwoD w W' p q x y sa sc ta tc:=by
 have g : ∀{k:Nat} {o:Obj},W.heap[k]? = some o->W'.heap[k]? = some o:=fun {k o} hk=>(hb.block k (Array.getElem?_eq_some_iff.1 hk).1).trans hk;have h0:=(Array.getElem?_eq_some_iff.1 h.e1).1;exact⟨g h.e1,g h.e2,h.b.trans (hb.mono (by omega)),h.lt⟩
section
attribute [local go_sem] ZS
theorem Z7Z (x y:NoteV)(sa:zA)(sc:Nat)(ta:zA)(tc:Nat)(w:World)(hx:Xe w sa x.strokes.length sc x.strokes)(hy:Xe w ta y.strokes.length tc y.strokes)(hsx:JU x)(hlx:x.strokes.length<=1000000)(hsy:JU y)(hly:y.strokes.length<=1000000)(hne:Yc x≠Yc y):
  Calls zq 70 #[.agg (Z5 x sa sc),.agg (Z5 y ta tc)] w fun e w'=>e = .returned (.bool false)/\Below w.heap.size w w':=by
 have I43:=zH zI;have g1:=Z8 _ (.cells (Z5 y ta tc) 47) _ _ (Z9 w (.cells (Z5 x sa sc) 47));have g2:=Zm (w.alloc (.cells (Z5 x sa sc) 47)) (.cells (Z5 y ta tc) 47) (w.heap.size+1) (by simp);have bb:Below w.heap.size w ((w.alloc (.cells (Z5 x sa sc) 47)).alloc (.cells (Z5 y ta tc) 47)):=(zB _ _).alloc (by simp) _;have T0:Hid (TwoD w ((w.alloc (.cells (Z5 x sa sc) 47)).alloc (.cells (Z5 y ta tc) 47)) w.heap.size (w.heap.size+1) x y sa sc ta tc):=zH ⟨g1,g2,bb,by omega⟩;clear g1 g2 bb;go_enter Tryz.func70,Tryz.ntmps70;go_upto_region 1 with fail;generalize (w.alloc (.cells (Z5 x sa sc) 47)).alloc (.cells (Z5 y ta tc) 47)=W0 at *;obtain⟨p,hp⟩:=zX (w.heap.size);obtain⟨q,hq⟩:=zX (w.heap.size+1);rw[hq.out,hp.out]at T0;rw[hq.out,hp.out];have RX:=zH (show ∀W,Below p w W->Xe W sa x.strokes.length sc x.strokes from fun W h=>hx.below (by rw[hp.out];exact h));have RY:=zH (show ∀W,Below p w W->Xe W ta y.strokes.length tc y.strokes from fun W h=>hy.below (by rw[hp.out];exact h));have T0d:=zH (T0.out.below (zd W0));obtain⟨E,hE⟩ : ∃E,Hid (E=Yc x):=⟨_,zH rfl⟩;obtain⟨D,hD⟩ : ∃D,Hid (D=Yc y):=⟨_,zH rfl⟩;have NE:Hid (E≠D):=zH (by rw[hE.out,hD.out];exact hne);have EX:=zH (fun W (h:TwoD w W p q x y sa sc ta tc)=>UL x sa sc W (RX.out _ h.b) hsx hlx);have EY:=zH (fun W (h:TwoD w W p q x y sa sc ta tc)=>UL y ta tc W (RY.out _ h.b) hsy hly);rw[<-hE.out]at EX;rw[<-hD.out]at EY;clear hx hy hne;refine wp_region_noPanic ?_;refine wp_region_held_drew (S:=fun w'=>TwoD w w' p q x y sa sc ta tc) (by kernel_rfl) T0d.out (fun hh=>?_);refine zT 0 rfl (.agg (Z5 x sa sc)) (Y7 (by rfl) 47 _ rfl p rfl _ 47 (0,0) _ (fun W h=>h.e1) Tryz.underlying47 rfl (I43.out _ _ _)) ?_;refine zT 3 rfl (.agg (Z5 y ta tc)) (Y7 (by rfl) 47 _ rfl q rfl _ 47 (0,0) _ (fun W h=>h.e2) Tryz.underlying47 rfl (I43.out _ _ _)) ?_;refine zR 1 rfl fun K hK=>?_;go_simp;go_at_call 125;refine(EX.out _ T0d.out).mono ?_;rintro e wX ⟨aX,cX,rfl,hX,bX⟩;have TX:=zH (T0d.out.below bX);have cvX:=Xj (Yb.of_own hX)
 have HX:=zH hX;clear hX bX;dsimp only;refine zK hK TX.out fun hh=>?_;clear hK K;refine zM [2,4] rfl (fun K hK=>?_) ?_
 focus
  go_simp;refine zK hK TX.out fun hh=>?_;clear hK K;refine zR 4 rfl fun K hK=>?_;go_simp;go_at_call 125;refine(EY.out _ TX.out).mono ?_;rintro e wY ⟨aY,cY,rfl,hY,bY⟩;have TY:=zH (TX.out.below bY);have cvY:=Xj (Yb.of_own hY);have cvX2:=Xj (Yb.below (Yb.of_own HX.out) bY);clear hY bY;dsimp only;refine zK hK TY.out fun hh=>?_;clear hK K;refine zR 5 rfl fun K hK=>?_
 rotate_left
 focus
  refine zn fun K hK=>?_;go_simp;go_at_call 125;refine(EY.out _ TX.out).mono ?_;rintro e wY ⟨aY,cY,rfl,hY,bY⟩;have TY:=zH (TX.out.below bY);have cvY:=Xj (Yb.of_own hY);have cvX2:=Xj (Yb.below (Yb.of_own HX.out) bY);clear hY bY;dsimp only;refine zK hK TY.out fun hh=>?_;clear hK K;refine zM [2,5] rfl (fun K hK=>?_) ?_
  ·go_simp;refine zK hK TY.out fun hh=>?_;clear hK K;refine zR 5 rfl fun K hK=>?_;go_simp;refine zK hK TY.out fun hh=>?_;clear hK K;refine zS 6 rfl (.bool false) (fun W _=>by go_simp;simpa using NE.out) ?_;refine zS 7 rfl (.bool false) (fun W _=>by go_simp) ?_;refine zT 8 rfl undef (Or.inr ⟨by kernel_rfl,rfl⟩) ?_;refine zT 9 rfl undef (Or.inr ⟨by kernel_rfl,rfl⟩) ?_;refine zT 10 rfl undef (Or.inr ⟨by kernel_rfl,rfl⟩) ?_;refine zT 11 rfl undef (Or.inr ⟨by kernel_rfl,rfl⟩) ?_;refine zT 12 rfl undef (Or.inr ⟨by kernel_rfl,rfl⟩) ?_;refine zS 13 rfl (.bool false) (fun W _=>by go_simp) ?_;refine zS 14 rfl (.bool false) (fun W _=>by go_simp) ?_;refine zE ?_;change Exit.then _ _ Exit.normal { tmps := #[.agg (Z5 x sa sc),.agg (Z5 y ta tc),.pointer (some ⟨p,0,none⟩),.pointer (some ⟨q,0,none⟩),.bool false,.agg (Z5 x sa sc),.slice aX E.length cX,.string { data:=E.toArray },.agg (Z5 y ta tc),.slice aY D.length cY,.string { data:=D.toArray },.bool false,.bool false,undef,undef,undef,undef,undef,.bool false],defers:=[] } _;go_wp2;go_ret;exact⟨rfl,by rw[hp.out];exact TY.out.b⟩
  refine zn fun K hK=>?_;go_simp;refine zK hK TY.out fun hh=>?_;clear hK K;refine zR 2 rfl fun K hK=>?_
 all_goals
  go_simp;refine zK hK TY.out fun hh=>?_;clear hK K;refine zS 6 rfl (.bool false) (fun W _=>by go_simp;simpa using NE.out) ?_;refine zS 7 rfl (.bool false) (fun W _=>by go_simp) ?_;refine zT 8 rfl undef (Or.inr ⟨by kernel_rfl,rfl⟩) ?_;refine zT 9 rfl undef (Or.inr ⟨by kernel_rfl,rfl⟩) ?_;refine zT 10 rfl undef (Or.inr ⟨by kernel_rfl,rfl⟩) ?_;refine zT 11 rfl undef (Or.inr ⟨by kernel_rfl,rfl⟩) ?_;refine zT 12 rfl undef (Or.inr ⟨by kernel_rfl,rfl⟩) ?_;refine zS 13 rfl (.bool false) (fun W _=>by go_simp) ?_;refine zS 14 rfl (.bool false) (fun W _=>by go_simp) ?_;refine zE ?_;change Exit.then _ _ Exit.normal { tmps := #[.agg (Z5 x sa sc),.agg (Z5 y ta tc),.pointer (some ⟨p,0,none⟩),.pointer (some ⟨q,0,none⟩),.bool false,.agg (Z5 x sa sc),.slice aX E.length cX,.string { data:=E.toArray },.agg (Z5 y ta tc),.slice aY D.length cY,.string { data:=D.toArray },.bool false,.bool false,undef,undef,undef,undef,undef,.bool false],defers:=[] } _;go_wp2;go_ret;exact⟨rfl,by rw[hp.out];exact TY.out.b⟩
end
def Qc (zs xs:List LN)(i:Nat)(x:LN):Bool:=match Xn ((zs ++ (Uj zs (xs.take i)).2).map LN.n) x.n with | some o => !decide (Yc o=Yc x.n) | none=>false
def ZbI (zs xs:List LN)(e:Ending):Prop:=(e = .returned (.bool true) /\ ∃i x,xs[i]? = some x/\Qc zs xs i x=true)\/(e = .returned (.bool false) /\ ∀i x,xs[i]? = some x->Qc zs xs i x=false)
theorem Z0m (n:NoteV): ∀K:List NoteV,(Jz K (Zk n) < 0/\Xn K n=none) \/ ∃(k:Nat) (o:NoteV),Jz K (Zk n)=(k:Int)/\K[k]? = some o/\Xn K n=some o
 | [] => .inl ⟨by unfold Jz;omega,rfl⟩
 | y :: ys=>by
  unfold Xn
  rw[Jz,List.find?_cons]
  by_cases hy:Zk y=Zk n
  ·rw[if_pos hy]
   simp only[hy,decide_true]
   exact .inr ⟨0,y,rfl,rfl,rfl⟩
  ·rw[if_neg hy]
   simp only[hy,decide_false]
   rcases Z0m n ys with ⟨h1,h2⟩ | ⟨k,o,h1,h2,h3⟩
   ·rw[if_pos h1]
    exact .inl ⟨by omega,h2⟩
   ·rw[if_neg (by rw[h1];omega)]
    exact .inr ⟨k+1,o,by rw[h1];omega,by simpa using h2,h3⟩
theorem Z98 {f:Ys}(hv:f.valid=true){x y:NoteV}(hx:Zf f x=true)(hy:Zf f y=true)(h:Yc x=Yc y):x=y:=by
 have h1:=Vf hv x hx;have h2:=Vf hv y hy;rw[h,h2]at h1;cases h1;rfl
theorem Z7Y {f:Ys}(hv:f.valid=true)(x y:NoteV)(hx:Zf f x=true)(hy:Zf f y=true)(sa:zA)(sc:Nat)(ta:zA)(tc:Nat)(w:World)(rx:Xe w sa x.strokes.length sc x.strokes)(ry:Xe w ta y.strokes.length tc y.strokes):
  Calls zq 70 #[.agg (Z5 x sa sc),.agg (Z5 y ta tc)] w fun e w'=>e = .returned (.bool (decide (Yc x=Yc y)))/\Below w.heap.size w w':=by
 by_cases h:Yc x=Yc y
 ·have e:=Z98 hv hx hy h;subst e;rw[decide_eq_true h];exact Z2f x sa sc ta tc w rx ry (Yf hv hx) (Nat.le_trans (Yg hv hx) (by decide))
 ·rw[decide_eq_false h];exact Z7Z x y sa sc ta tc w rx ry (Yf hv hx) (Nat.le_trans (Yg hv hx) (by decide)) (Yf hv hy) (Nat.le_trans (Yg hv hy) (by decide)) h
theorem Z8z (p:Nat)(F:Nat->Prop)(S:ZC)(sa:zA)(sc:Nat)(zs:List LN)(aa:zA)(ac:Nat)(cs:List Value)(G:Nat->Prop)(v0 v1 v2 v3:Value)(xs:List LN)(la:zA)(n lc:Nat)(w:World)(h:RHo w p F sa sc zs aa ac cs G v0 v1 v2 v3 S)(hi:Xr S)(hlen:S.l.length<=400)(hr:Jb w la n lc xs)(hn:n<=400)(hf : ∀x∈xs,Zf S.f x.n=true):
  Calls zq 139 #[.pointer (some ⟨p,0,none⟩),.slice la n lc] w fun e w'=>ZbI zs xs e/\Below w.heap.size w w':=by
 have J19:=zH (show(zq.info? 47).map (·.size)=some 19 from by kernel_rfl);obtain⟨nz,hnz⟩:=zX (zs.length);have NZ:Hid (nz<=400):=zH (by rw[<-hnz.out,h.len];exact hlen);have HB:=zH (show w.heap[p]? = some (.cells #[.int .i64 S.f.rings,.int .i64 S.f.sectors,.int .i64 S.f.wide,.int .i64 S.id,.slice sa nz sc,.slice aa S.ad.length ac,v0,v1,v2,v3] 138)from by rw[<-hnz.out];exact h.stk.blk);have H:=zH h;have HI:=zH hi;have HL:=zH hlen;have RD:=zH (show Jb w sa nz sc zs from by rw[<-hnz.out];exact h.rd);have RX:=zH hr;have XN:=zH hr.1;have HN:=zH hn;have XF:=zH hf;have ZF:Hid (∀y∈zs,Zf S.f y.n=true):=zH (fun y hy=>hi.frm y.n (by rw[<-h.eq];exact List.mem_map_of_mem hy));have OKS:Hid (∀k,∀y∈zs ++ (Uj zs (xs.take k)).2,y.ok w/\Zf S.f y.n=true):=zH (fun k y hy=>by
  rcases List.mem_append.1 hy with hy | hy
  ·exact⟨ZX.of_own (h.str y hy),ZF.out y hy⟩
  ·rcases(Z1M (xs.take k) (zs,[])).2 y hy with h1 | h1
   ·cases h1
   ·exact⟨QP hr (List.mem_of_mem_take h1),hf y (List.mem_of_mem_take h1)⟩)
 clear h hi hlen hr hn hf;go_enter Tryz.func139,Tryz.ntmps139;go_wp2_with fail;go_loopw [5,6,7] (fun iv _ _ wr=>∃(k:Nat),iv = .int .i64 (k:Int)/\k<=n/\Hid (Below w.heap.size w wr)/\Hid (∀i x,i < k->xs[i]? = some x->Qc zs xs i x=false)) (fun iv _ _ _=>n - (intOf iv).toNat)
 case atStart=>exact⟨0,rfl,Nat.zero_le _,zH (Below.refl _ _),zH (fun i x h=>by omega)⟩
 case round=>
  obtain⟨k,rfl,hk,BB,NF⟩:=hrel;by_cases hlt:k < n
  ·have t0:decide ((k:Int) < (n:Int))=true:=by simp;omega
   obtain⟨x,Hx⟩ : ∃x,xs[k]? = some x:=⟨_,List.getElem?_eq_getElem (by rw[XN.out];exact hlt)⟩;have HXK:=zH Hx;obtain⟨b,off,rfl,hat⟩:=RX.out.at (by omega);obtain⟨o,ho⟩:=zX (off+k * 19);have HX:=zH (hat k x Hx).1;rw[ho.out]at HX;have RXK:=zH (hat k x Hx).2;have HIX:=zH (fun W=>ZN (W:=W) (c:=lc) (b:=b) Tryz.underlying24 J19.out hlt ho.out);have HK64:Hid ((k:Int)+1<=9223372036854775807):=zH (by have:=HN.out;omega);have FX:=zH (XF.out x (List.mem_of_getElem? Hx));obtain⟨ja,hcut,hj⟩:=Z1V (zs:=xs) (Vn RX.out) 0 k none (some (.int .i64 (k:Int))) (.inl ⟨rfl,rfl⟩) (.inr ⟨_,by go_num⟩) (Nat.zero_le _) hk;rw[Nat.sub_zero,Nat.sub_zero,List.drop_zero]at hj;simp only[Nat.sub_zero]at hcut;have HCUT:=zH hcut;have RJ:Hid (Jb w ja k lc (xs.take k)):=zH (Z0B hj (fun y hy=>QP RX.out (List.mem_of_mem_take hy)));have P0:=zH (Z7 BB.out HB.out);have D0:=(zd wr);have BD:=zH (BB.out.trans (D0.mono BB.out.size));have HK:=zH hk;clear hat Hx hj hcut D0;go_upto_region 4 with fail;clear t0;refine zp P0.out fun hh=>?_;refine zw 1 rfl p 0 ?_;refine zw 2 rfl p 0 ?_;refine zw 3 rfl p 4 ?_;refine zS 4 rfl (.slice sa nz sc) (fun W h=>by have hc:=Z6 h 4 (.slice sa nz sc) rfl;go_simp) ?_;refine zw 6 rfl p 0 ?_;refine zW 7 rfl (.slice (some ⟨b,off,none⟩) n lc) ?_;refine zW 8 rfl (.int .i64 (k:Int)) ?_;refine zS 9 rfl (.slice ja k lc) (fun W _=>by have hc:=HCUT.out W;go_simp) ?_;refine zR 0 rfl fun K hK=>?_;have hbe:=(zB wr (.cells #[] 47)).drew;have O1:=zH (Zb (World.ownsRow_lit (base:=w.heap.size) (e:=47) (size:=19) wr #[] 0 BB.out.size (by unfold maxLen;omega) rfl) ((Below.refl (wr.alloc (.cells #[] 47)).heap.size (wr.alloc (.cells #[] 47))).drew));have B1:=zH (BB.out.trans (hbe.mono BB.out.size));have P1:=zH (Z7 hbe P0.out);clear hbe;go_simp;obtain⟨q,hq⟩:=zX (wr.heap.size);rw[hq.out]at O1 ⊢;generalize (wr.alloc (.cells #[] 47)).drew=V1 at *;refine zK hK P1.out fun hh=>?_;clear hK K;refine zR 5 rfl fun K hK=>?_;obtain⟨a2,c2,V2,hrun,ho2,hg2⟩:=Yw V1 w.heap.size (some ⟨q,0,none⟩) 0 0 _ O1.out sa nz sc _ (Vn (RD.out.below B1.out)) (Qn _) (by have:=NZ.out;omega) B1.out.size
   rw[Nat.zero_add]at ho2 hrun;have O2:Hid (V2.ownsRow w.heap.size 47 19 (.slice a2 nz c2) nz (Zw zs)):=zH (by simpa using ho2);have B2:=zH (B1.out.grown hg2 B1.out.size (fun z hz=>(O1.out.lt z hz).1));have P2:=zH (Z7 B2.out HB.out);clear ho2 hg2;rw[if_pos (by kernel_rfl)];refine ZJ _ _ _ rfl _ _ _ rfl rfl hrun ?_;clear hrun;refine zK hK P2.out fun hh=>?_;clear hK K;refine zR 10 rfl fun K hK=>?_;go_simp;go_at_call 136;refine(Z2z p F S sa sc zs aa ac cs G v0 v1 v2 v3 (xs.take k) ja k lc V2 (H.out.below B2.out) HL.out (RJ.out.below B2.out) (Nat.le_trans HK.out HN.out)).mono ?_;rintro e V3 ⟨⟨a3,m,c3,rfl,ho3,hm⟩,b3⟩;have HM:=zH hm;have O3:=zH (Zb O2.out b3);have R3:=zH (ZX.of_own ho3);have B3:=zH (B2.out.trans (b3.mono B2.out.size));have P3:=zH (Z7 B3.out HB.out);have ML:Hid (m<=400):=zH (by rw[<-hm];have h1:=(Z67 zs (xs.take k) (zs,[])).2;rw[List.length_take]at h1;have:=HN.out;have:=HK.out;show(List.foldl Jc (zs,[]) (xs.take k)).2.length<=400;simp at h1;omega);clear ho3 b3 hm;dsimp only;refine zK hK P3.out fun hh=>?_;clear hK K;refine zR 11 rfl fun K hK=>?_;obtain⟨a4,c4,V4,hrun,ho4,hg4⟩:=Yw V3 w.heap.size a2 nz c2 _ O3.out a3 m c3 _ R3.out (Qn _) (by have:=NZ.out;have:=ML.out;omega) B3.out.size;have O4:Hid (V4.ownsRow w.heap.size 47 19 (.slice a4 (nz+m) c4) (nz+m) (Zw (zs ++ (Uj zs (xs.take k)).2))):=zH (by rw[Z0j];exact ho4);have B4:=zH (B3.out.grown hg4 B3.out.size (fun z hz=>(O3.out.lt z hz).1));have P4:=zH (Z7 B4.out HB.out);clear ho4 hg4;rw[if_pos (by kernel_rfl)];refine ZJ _ _ _ rfl _ _ _ rfl rfl hrun ?_;clear hrun;refine zK hK P4.out fun hh=>?_;clear hK K;refine zW 12 rfl (.slice a4 (nz+m) c4) ?_;refine zE ?_;obtain⟨K,hK2⟩:=zX (zs ++ (Uj zs (xs.take k)).2);have OKK:=zH (OKS.out k);rw[hK2.out]at O4 OKK;have RK:=zH (ZcD O4.out (fun y hy=>(OKK.out y hy).1.below B4.out));have FRK:Hid (Qc zs xs k x=match Xn (K.map LN.n) x.n with | some o => !decide (Yc o=Yc x.n) | none=>false):=zH (by unfold Qc;rw[hK2.out])
   clear O1 O2 O3 R3 B1 B2 B3 P0 P1 P2 P3 P4 HCUT RJ BD hK2 hq O4;have HX4:=zH (Zs HX.out B4.out);have hix:=HIX.out;go_upto_region 5 with fail;go_wp2_with (refine wpList_load_mid rfl 47 _ rfl b o rfl (x.n.cells x.sa x.sc) _ HX4.out Tryz.underlying47 rfl (by exact J19.out) ?_);refine(JJ x.n x.sa x.sc _).mono ?_;rintro e V5 ⟨rfl,b5⟩;replace RK:=zH (RK.out.below b5);replace B4:=zH (B4.out.trans (b5.mono B4.out.size));clear b5 HX4 hix;go_wp2_with fail;refine(Z2C (K.map LN.n) a4 (nz+m) c4 x.n.house x.n.num _ (Vw (Vn RK.out) (fun y hy=>QP RK.out hy)) (by have:=NZ.out;have:=ML.out;omega)).mono ?_;rintro e V6 ⟨rfl,b6⟩;replace RK:=zH (RK.out.below b6);replace B4:=zH (B4.out.trans (b6.mono B4.out.size));have HX6:=zH (Zs HX.out B4.out);have RX6:=zH (RXK.out.below B4.out);clear b6;have FK:=zH (Z0m x.n (K.map LN.n));obtain⟨fi,hfi⟩:=zX (Jz (K.map LN.n) (Zk x.n));have hfe:Jz (K.map LN.n) (x.n.house,x.n.num)=fi:=hfi.out;rw[hfi.out]at FK;go_upto_region 6 with fail;try rw[hfe]
   clear hfe hfi;have hC0:Below V6.heap.size V6 V6.drew:=(Below.refl _ _).drew;have LX:=zH (show ∀w0,Below V6.heap.size V6 w0->w0.rangeAt b o (x.n.cells x.sa x.sc)from fun w0 h=>Zs HX6.out h);rcases FK.out with ⟨h1,h2⟩ | ⟨fk,y,rfl,h2,h3⟩
   ·have NFK:Hid (Qc zs xs k x=false):=zH (by rw[FRK.out,h2]);have tf:decide (0<=fi)=false:=by simp;omega
    clear h2 FRK;refine zC (fun w':World=>Below V6.heap.size V6 w') hC0 ?_;go_big_quiet_step (fail);refine zQ (.bool false) (fun w0 hC=>?_) ?_
    ·clear hC;go_simp
     first | done | exact tf
    go_big_quiet_step (fail)
    iterate 10 go_big_quiet_skip
    refine zV (.bool false) ?_;refine wpQuiet_nil ?_;intro w' hC;have BB2:=zH (B4.out.trans (hC.mono B4.out.size));clear hC LX;go_upto_region 3 with fail;have hk64:=HK64.out;clear tf;go_wp2;go_roundw
    case rel=>exact⟨k+1,by go_num,by omega,BB2,zH (fun i z hi hz=>by
     rcases Nat.lt_or_ge i k with h' | h'
     ·exact NF.out i z h' hz
     ·have e:i=k:=by omega
      subst e;rw[HXK.out]at hz;cases hz;exact NFK.out)⟩
    case measure=>simp[intOf];omega
   ·obtain⟨yl,hyl,rfl⟩ : ∃yl,K[fk]? = some yl/\yl.n=y:=by
     rw[List.getElem?_map]at h2;cases hq:K[fk]? with
     | none=>rw[hq]at h2;cases h2
     | some yl=>rw[hq]at h2;exact⟨yl,rfl,by simpa using h2⟩
    have YF:=zH (OKK.out yl (List.mem_of_getElem? hyl)).2;have FRE:Hid (Qc zs xs k x = !decide (Yc yl.n=Yc x.n)):=zH (by rw[FRK.out,h3]);have hflt:fk < nz+m:=by have:=(List.getElem?_eq_some_iff.1 hyl).1;rw[RK.out.1]at this;exact this
    have tf:decide ((0:Int)<=(fk:Int))=true:=by simp
    obtain⟨kb,ko,rfl,hkat⟩:=RK.out.at (by omega);obtain⟨oy,hoy⟩:=zX (ko+fk * 19);have HY:=zH (hkat fk yl hyl).1;rw[hoy.out]at HY;have RY:=zH (hkat fk yl hyl).2;have HIY:=zH (fun W=>ZN (W:=W) (c:=c4) (b:=kb) Tryz.underlying24 J19.out hflt hoy.out);have LY:=zH (show ∀w0,Below V6.heap.size V6 w0->w0.rangeAt kb oy (yl.n.cells yl.sa yl.sc)from fun w0 h=>Zs HY.out h);obtain⟨sb,hsb⟩:=zX (decide (Yc yl.n=Yc x.n));rw[hsb.out]at FRE;clear h2 h3 hyl hkat FRK;refine zC (fun w':World=>Below V6.heap.size V6 w') hC0 ?_;go_big_quiet_step (fail);refine zQ (.bool true) (fun w0 hC=>?_) ?_
    ·clear hC;go_simp;try exact tf
    iterate 3 go_big_quiet_step (fail)
    refine zQ (.pointer (some ⟨kb,oy,none⟩)) (fun w0 hC=>?_) ?_
    ·have hix:=HIY.out w0;clear hC;go_simp
    refine zQ (.agg (Z5 yl.n yl.sa yl.sc)) (fun w0 hC=>Zx (.tmp 38) rfl kb oy rfl yl.n yl.sa yl.sc (LY.out w0 hC)) ?_
    iterate 2 go_big_quiet_step (fail)
    refine zQ (.pointer (some ⟨b,o,none⟩)) (fun w0 hC=>?_) ?_
    ·have hix:=HIX.out w0;clear hC;go_simp
    refine zQ (.agg (Z5 x.n x.sa x.sc)) (fun w0 hC=>Zx (.tmp 42) rfl b o rfl x.n x.sa x.sc (LX.out w0 hC)) ?_;refine zQ (.bool sb) (fun w0 hC=>?_) ?_
    ·go_simp;refine(Z7Y HI.out.v yl.n x.n YF.out FX.out yl.sa yl.sc x.sa x.sc w0 (RY.out.below hC) (RX6.out.below hC)).mono ?_;rintro e w1 ⟨rfl,b1⟩;exact⟨by rw[<-hsb.out] <;> rfl,hC.trans (b1.mono hC.size)⟩
    refine zV (.bool (!sb)) ?_;refine zV (.bool (!sb)) ?_;refine wpQuiet_nil ?_;intro w' hC;cases sb
    ·simp only[Bool.not_false];have YES:Hid (Qc zs xs k x=true):=zH (by rw[FRE.out];rfl);have BB2:=zH (B4.out.trans (hC.mono B4.out.size));clear hC LX LY tf;go_wp2;go_ret;exact⟨.inl ⟨rfl,k,x,HXK.out,YES.out⟩,BB2.out⟩
    ·simp only[Bool.not_true];have NFK:Hid (Qc zs xs k x=false):=zH (by rw[FRE.out];rfl);have BB2:=zH (B4.out.trans (hC.mono B4.out.size));clear hC LX LY;go_upto_region 3 with fail;have hk64:=HK64.out;clear tf;go_wp2;go_roundw
     case rel=>exact⟨k+1,by go_num,by omega,BB2,zH (fun i z hi hz=>by
      rcases Nat.lt_or_ge i k with h' | h'
      ·exact NF.out i z h' hz
      ·have e:i=k:=by omega
       subst e;rw[HXK.out]at hz;cases hz;exact NFK.out)⟩
     case measure=>simp[intOf];omega
  ·have t0:decide ((k:Int) < (n:Int))=false:=by simp;omega
   have NO:Hid (∀i x,xs[i]? = some x->Qc zs xs i x=false):=zH (fun i x hx=>NF.out i x (by have:=(List.getElem?_eq_some_iff.1 hx).1;rw[XN.out]at this;omega) hx);go_wp2;go_ret;exact⟨.inr ⟨rfl,NO.out⟩,BB.out⟩
theorem Z69 {l m:List NoteV}(h:l.Perm m)(a:Int):howMany l a=howMany m a:=h.countP_eq _
theorem Z0k {K:List NoteV}{c:Int->Nat}(h:Qr K c)(hn:(K.map Zk).Nodup)(a:Int):howMany K a=c a:=by
 have h1:howMany K a=((K.filter (fun x=>decide (x.house=a))).map NoteV.num).length:=by
  unfold howMany;rw[List.length_map,List.countP_eq_length_filter]
 have h2:((List.range (c a)).map (fun k:Nat=>(k:Int)+1)).length=c a:=by rw[List.length_map,List.length_range]
 rw[h1,<-h2];refine List.Perm.length_eq ((List.perm_ext_iff_of_nodup ?_ ?_).2 fun z=>?_)
 ·have h3:K.Pairwise (fun x y=>Zk x≠Zk y):=List.pairwise_map.1 hn;have h4:=List.Pairwise.filter (fun x=>decide (x.house=a)) h3;refine List.pairwise_map.2 (List.Pairwise.imp_of_mem ?_ h4);intro x y hx hy hxy e;have hx2:=(List.mem_filter.1 hx).2;have hy2:=(List.mem_filter.1 hy).2;simp only[decide_eq_true_eq]at hx2 hy2;exact hxy (by show(x.house,x.num)=(y.house,y.num);rw[hx2,hy2,e])
 ·refine List.pairwise_map.2 (List.Pairwise.imp ?_ (List.nodup_range (n:=c a)));intro x y hxy e;omega
 ·have h5:=h a z;constructor
  ·intro hz;obtain⟨x,hx,rfl⟩:=List.mem_map.1 hz;obtain⟨hx1,hx2⟩:=List.mem_filter.1 hx;simp only[decide_eq_true_eq]at hx2;have h6:=h5.1 ⟨x,hx1,by show(x.house,x.num)=_;rw[hx2]⟩;exact List.mem_map.2 ⟨(x.num - 1).toNat,List.mem_range.2 (by omega),by omega⟩
  ·intro hz;obtain⟨k,hk,rfl⟩:=List.mem_map.1 hz;have hk2:=List.mem_range.1 hk;obtain⟨x,hx,e⟩:=h5.2 ⟨by omega,by omega⟩;have e1:x.house=a:=congrArg Prod.fst e;have e2:x.num=(k:Int)+1:=congrArg Prod.snd e;exact List.mem_map.2 ⟨x,List.mem_filter.2 ⟨hx,by simp[e1]⟩,e2⟩
theorem Z5n (x:LN): ∀zs:List LN,(QG zs x).Perm (x :: zs)
 | []=>List.Perm.refl _
 | z :: zs=>by
  rw[QG]
  split
  ·exact((Z5n x zs).cons z).trans (List.Perm.swap x z zs)
  ·exact List.Perm.refl _
theorem Z4V {l:List NoteV}{a:Nm}: Jz l a < 0 ↔ ∀x∈l,Zk x≠a:=
 ⟨Z5u,fun h=>by rw[Z1m h];omega⟩
structure Z8Q (S:ZC)(zs xs:List LN)(k:Nat)(c:Int->Nat):Prop where
 go:Ym S.l [] S.c (xs.map LN.n)=Ym S.l ((Uj zs (xs.take k)).2.map LN.n) c ((xs.drop k).map LN.n)
 nms:Qr (S.l ++ (Uj zs (xs.take k)).2.map LN.n) c
 nd:((S.l ++ (Uj zs (xs.take k)).2.map LN.n).map Zk).Nodup
 perm:((Uj zs (xs.take k)).1.map LN.n).Perm (S.l ++ (Uj zs (xs.take k)).2.map LN.n)
theorem Xr.nodup {S:ZC}(h:Xr S):(S.l.map Zk).Nodup:=
 List.pairwise_map.2 (h.srt.imp (fun {a b} hab e=>by
  unfold ltN at hab
  rw[e]at hab
  have h2:=(JH _ _).1 hab
  omega))
theorem Z8Q.start {S:ZC}{zs:List LN}(hi:Xr S)(he:zs.map LN.n=S.l)(xs:List LN):Z8Q S zs xs 0 S.c:=by
 refine⟨rfl,?_,?_,?_⟩
 ·show Qr (S.l ++ []) S.c;rw[List.append_nil];exact hi.nms
 ·show((S.l ++ []).map Zk).Nodup;rw[List.append_nil];exact hi.nodup
 ·show(zs.map LN.n).Perm (S.l ++ []);rw[he,List.append_nil]
theorem Z9X {S:ZC}{zs xs:List LN}{k:Nat}{c:Int->Nat}{x:LN}(hi:Xr S)(he:zs.map LN.n=S.l)(h:Z8Q S zs xs k c)(hf : ∀x∈xs,Zf S.f x.n=true)(hx:xs[k]? = some x):
  (Qc zs xs k x=true->Ym S.l [] S.c (xs.map LN.n)=none)/\(Qc zs xs k x=false -> ∃c',Z8Q S zs xs (k+1) c'):=by
 have hd:(xs.drop k).map LN.n=x.n :: (xs.drop (k+1)).map LN.n:=by
  obtain⟨h1,h2⟩:=List.getElem?_eq_some_iff.1 hx;rw[List.drop_eq_getElem_cons h1,h2,List.map_cons]
 have hstep':=Z7e zs hx;have hgo:=h.go;have hnms:=h.nms;have hnd:=h.nd;have hperm:=h.perm;have hmemR : ∀y∈(Uj zs (xs.take k)).2,Zf S.f y.n=true:=fun y hy=>by
  rcases(Z1M (xs.take k) (zs,[])).2 y hy with h1 | h1
  ·cases h1
  ·exact hf y (List.mem_of_mem_take h1)
 have hK:(zs ++ (Uj zs (xs.take k)).2).map LN.n=S.l ++ (Uj zs (xs.take k)).2.map LN.n:=by rw[List.map_append,he]
 have hfork:Qc zs xs k x=match Xn (S.l ++ (Uj zs (xs.take k)).2.map LN.n) x.n with | some o => !decide (Yc o=Yc x.n) | none=>false:=by unfold Qc;rw[hK];try cases Xn (S.l ++ (Uj zs (xs.take k)).2.map LN.n) x.n <;> rfl
 clear hK;have hKF : ∀y∈S.l ++ (Uj zs (xs.take k)).2.map LN.n,Zf S.f y=true:=fun y hy=>by
  rcases List.mem_append.1 hy with h1 | h1
  ·exact hi.frm y h1
  ·obtain⟨z,hz,rfl⟩:=List.mem_map.1 h1;exact hmemR z hz
 have hxf:=hf x (List.mem_of_getElem? hx);have hh:=Yh hxf;rw[hd]at hgo;generalize hL:(Uj zs (xs.take k)).1=L at *;generalize hR:(Uj zs (xs.take k)).2=R at *;have hhm : ∀a,howMany (L.map LN.n) a=c a:=fun a=>by rw[Z69 hperm,Z0k hnms hnd]
 have hsame : ∀o,Ym S.l (R.map LN.n) c (x.n :: (xs.drop (k+1)).map LN.n)=o->o=Ym S.l (R.map LN.n) c (x.n :: (xs.drop (k+1)).map LN.n):=fun o e=>e.symm;have keep:Jc (L,R) x=(L,R)->Ym S.l [] S.c (xs.map LN.n)=Ym S.l (R.map LN.n) c ((xs.drop (k+1)).map LN.n) -> ∃c',Z8Q S zs xs (k+1) c':=fun e1 e2=>by
  have e3:Uj zs (xs.take (k+1))=(L,R):=by
   rw[hstep',show Uj zs (xs.take k)=(L,R)from Prod.ext hL hR,e1]
  exact⟨c,by rw[e3];exact e2,by rw[e3];exact hnms,by rw[e3];exact hnd,by rw[e3];exact hperm⟩
 rw[Ym]at hgo;cases hk:Xn (S.l ++ R.map LN.n) x.n with
 | some o=>
  rw[hk]at hgo hfork;simp only at hgo hfork;obtain⟨ho1,ho2⟩:=Z1I hk;have hns:Jc (L,R) x=(L,R):=by
   unfold Jc;rw[if_neg];have h1 : ¬Jz (L.map LN.n) (Zk x.n) < 0:=fun h2=>Z5u h2 o (hperm.mem_iff.2 ho1) ho2;simp[h1]
  refine⟨fun hfk=>?_,fun hfk=>?_⟩
  ·rw[hfork]at hfk;have hne:Yc o≠Yc x.n:=by simpa using hfk
   have hns2 : ¬Yv o x.n=true:=fun h2=>hne (by rw[Z2h.1 h2]);rw[if_neg hns2]at hgo;exact hgo
  ·rw[hfork]at hfk;have heq:Yc o=Yc x.n:=by simpa using hfk
   have e:=Z98 hi.v (hKF o ho1) hxf heq;rw[if_pos (Z2h.2 e)]at hgo;exact keep hns hgo
 | none=>
  rw[hk]at hgo hfork;simp only at hgo hfork;have hfree:=JQ hk;have hfi:Jz (L.map LN.n) (Zk x.n) < 0:=Z4V.2 (fun y hy=>hfree y (hperm.mem_iff.1 hy));refine⟨(fun hfk=>by rw[hfork]at hfk;cases hfk),fun _=>?_⟩;by_cases hc:(c x.n.house:Int)+1 < x.n.num
  ·rw[if_pos hc]at hgo;refine keep ?_ hgo;unfold Jc;rw[if_neg];have h1 : ¬x.n.num<=(howMany (L.map LN.n) x.n.house:Int)+1:=by rw[hhm];omega
   simp[h1]
  ·rw[if_neg hc]at hgo;have hlt:=hnms.free hh.2.2 hfree;have hadd:=hnms.add (n:=x.n) (by omega);rw[List.append_assoc]at hadd;have e1:Jc (L,R) x=(QG L x,R ++ [x]):=by
    unfold Jc;rw[if_pos];have h1:x.n.num<=(howMany (L.map LN.n) x.n.house:Int)+1:=by rw[hhm];omega
    simp[h1,hfi]
   have e3:Uj zs (xs.take (k+1))=(QG L x,R ++ [x]):=by
    rw[hstep',show Uj zs (xs.take k)=(L,R)from Prod.ext hL hR,e1]
   have e4:(R ++ [x]).map LN.n=R.map LN.n ++ [x.n]:=by rw[List.map_append];rfl
   refine⟨Z09 c x.n.house,?_,?_,?_,?_⟩
   ·rw[e3];show _=Ym S.l ((R ++ [x]).map LN.n) _ _;rw[e4];exact hgo
   ·rw[e3];show Qr (S.l ++ (R ++ [x]).map LN.n) _;rw[e4];exact hadd
   ·rw[e3];show((S.l ++ (R ++ [x]).map LN.n).map Zk).Nodup;rw[e4,<-List.append_assoc,List.map_append];refine List.nodup_append.2 ⟨hnd,by simp,fun a ha b hb e=>?_⟩;rw[List.map_singleton,List.mem_singleton]at hb;obtain⟨y,hy,rfl⟩:=List.mem_map.1 ha;exact hfree y hy (e.trans hb)
   ·rw[e3];show((QG L x).map LN.n).Perm (S.l ++ (R ++ [x]).map LN.n);rw[e4,<-List.append_assoc];refine((Z5n x L).map LN.n).trans ?_;rw[List.map_cons];exact(hperm.cons x.n).trans (List.perm_append_singleton _ _).symm
theorem Z4s {S:ZC}{zs xs:List LN}(hi:Xr S)(he:zs.map LN.n=S.l)(hf : ∀x∈xs,Zf S.f x.n=true): ∀k,k<=xs.length->
  ((∀i x,i < k->xs[i]? = some x->Qc zs xs i x=false) /\ ∃c,Z8Q S zs xs k c)\/((∃i x,i < k/\xs[i]? = some x/\Qc zs xs i x=true)/\Ym S.l [] S.c (xs.map LN.n)=none)
 | 0,_ => .inl ⟨fun i x h=>by omega,S.c,Z8Q.start hi he xs⟩
 | k+1,hk=>by
  rcases Z4s hi he hf k (by omega)with ⟨h1,c,h2⟩ | ⟨⟨i,x,h1,h2,h3⟩,h4⟩
  ·obtain⟨x,hx⟩ : ∃x,xs[k]? = some x:=⟨_,List.getElem?_eq_getElem (by omega)⟩
   obtain⟨s1,s2⟩:=Z9X hi he h2 hf hx
   cases hq:Qc zs xs k x with
   | true=>exact .inr ⟨⟨k,x,by omega,hx,hq⟩,s1 hq⟩
   | false=>
    refine .inl ⟨fun i z hi hz=>?_,s2 hq⟩
    rcases Nat.lt_or_ge i k with h5 | h5
    ·exact h1 i z h5 hz
    ·have:i=k:=by omega
     subst this
     rw[hx]at hz
     cases hz
     exact hq
  ·exact .inr ⟨⟨i,x,by omega,h2,h3⟩,h4⟩
theorem Z5s {S:ZC}{zs xs:List LN}(hi:Xr S)(he:zs.map LN.n=S.l)(hf : ∀x∈xs,Zf S.f x.n=true)(h : ∃i x,xs[i]? = some x/\Qc zs xs i x=true):Ym S.l [] S.c (xs.map LN.n)=none:=by
 obtain⟨i,x,h1,h2⟩:=h;have hlt:=(List.getElem?_eq_some_iff.1 h1).1;rcases Z4s hi he hf xs.length (Nat.le_refl _)with ⟨h3,_⟩ | ⟨_,h3⟩
 ·rw[h3 i x hlt h1]at h2;cases h2
 ·exact h3
theorem Z5r {S:ZC}{zs xs:List LN}(hi:Xr S)(he:zs.map LN.n=S.l)(hf : ∀x∈xs,Zf S.f x.n=true)(h : ∀i x,xs[i]? = some x->Qc zs xs i x=false): ∃c,Ym S.l [] S.c (xs.map LN.n)=some ((Uj zs xs).2.map LN.n,c):=by
 rcases Z4s hi he hf xs.length (Nat.le_refl _)with ⟨_,c,h3⟩ | ⟨⟨i,x,_,h1,h2⟩,_⟩
 ·have h4:=h3.go;rw[List.take_length,List.drop_length]at h4;exact⟨c,h4⟩
 ·rw[h i x h1]at h2;cases h2
theorem Z2J.keep {w W:World}{p:Nat}{F:Nat->Prop}{S:ZC}(h:JN w p F S)(hb:Below w.heap.size w W):Z2J w p F S W:=⟨F,h.below hb,Za.of_below hb,fun k hk=>.inl hk⟩
theorem Z85 (p:Nat)(F:Nat->Prop)(S:ZC)(xs:List LN)(la:zA)(n lc:Nat)(l:List NoteV)(hxs:xs.map LN.n=l)(w:World)(hh:JN w p F S)(hi:Xr S)(hl : ∀W,Za F w W->Jb W la n lc xs)(hok : ∀x∈l,x.Ok)(hlen:S.l.length+n<=400):
  Calls zq 80 #[.pointer (some ⟨p,0,none⟩),.slice la n lc] w fun e w'=>e = .returned (.tuple #[.int .i64 (Yy S l).2.1,.int .i64 (Yy S l).2.2])/\Z2J w p F (Yy S l).1 w':=by
 have HW:=zH hh;obtain⟨sa,sc,zs,aa,ac,cs,G,v0,v1,v2,v3,h⟩:=hh;have J19:=zH (show(zq.info? 47).map (·.size)=some 19 from by kernel_rfl);obtain⟨nz,hnz⟩:=zX (zs.length);have NZ:Hid (nz+n<=400):=zH (by rw[<-hnz.out,h.len];exact hlen);have HB:=zH (show w.heap[p]? = some (.cells #[.int .i64 S.f.rings,.int .i64 S.f.sectors,.int .i64 S.f.wide,.int .i64 S.id,.slice sa nz sc,.slice aa S.ad.length ac,v0,v1,v2,v3] 138)from by rw[<-hnz.out];exact h.stk.blk);have H:=zH h;have HI:=zH hi;have HXS:=zH hxs;have HOK:=zH hok;have SL:=zH (show S.l.length<=400 by omega);have RXW:=zH hl;have RX:=zH (hl w (Za.of_below (Below.refl _ _)));have XN:=zH (hl w (Za.of_below (Below.refl _ _))).1;have hn63:(n:Int)<=9223372036854775807:=by omega
 clear h hi hl hok hlen hxs;go_enter Tryz.func80,Tryz.ntmps80;go_wp2_with fail;go_loopw [6] (fun iv wr=>∃(k:Nat),iv = .int .i64 (k:Int)/\k<=n/\Hid (Below w.heap.size w wr)/\Hid (∀i x,i < k->xs[i]? = some x->ZD S.f x.n=0)) (fun iv _=>n - (intOf iv).toNat)
 case atStart=>exact⟨0,rfl,Nat.zero_le _,zH (Below.refl _ _),zH (fun i x h=>by omega)⟩
 case round=>
  obtain⟨k,rfl,hk,BB,NC⟩:=hrel;by_cases hlt:k < n
  ·have t0:decide ((k:Int) < (n:Int))=true:=by simp;omega
   obtain⟨x,Hx⟩ : ∃x,xs[k]? = some x:=⟨_,List.getElem?_eq_getElem (by rw[XN.out];exact hlt)⟩;have HXK:=zH Hx;obtain⟨b,off,rfl,hat⟩:=(RX.out.below BB.out).at (by omega);obtain⟨o,ho⟩:=zX (off+k * 19);have HX:=zH (hat k x Hx).1;rw[ho.out]at HX;have RXK:=zH (hat k x Hx).2;have HIX:=zH (fun W=>ZN (W:=W) (c:=lc) (b:=b) Tryz.underlying24 J19.out hlt ho.out);have HK64:Hid ((k:Int)+1<=9223372036854775807):=zH (by have:=NZ.out;omega);have P0:=zH (Z7 BB.out HB.out);have LF:=zH (show ∀w0,Below wr.heap.size wr w0->w0.heap[p]? = some (.cells #[.int .i64 S.f.rings,.int .i64 S.f.sectors,.int .i64 S.f.wide,.int .i64 S.id,.slice sa nz sc,.slice aa S.ad.length ac,v0,v1,v2,v3] 138)from fun w0 hb=>Z7 hb P0.out);have LX:=zH (show ∀w0,Below wr.heap.size wr w0->w0.rangeAt b o (x.n.cells x.sa x.sc)from fun w0 h=>Zs HX.out h);obtain⟨ck,hck⟩:=zX (ZD S.f x.n);have CN:=zH (fun W hs=>VS S.f x.n x.sa x.sc W hs);rw[hck.out,show S.f.val = .agg #[.int .i64 S.f.rings,.int .i64 S.f.sectors,.int .i64 S.f.wide]from rfl]at CN;have hC0:Below wr.heap.size wr wr.drew:=(Below.refl _ _).drew;clear hat Hx;go_upto_region 4 with fail;clear t0;try simp only[Act.put,VZ,VY,VX]
   refine zC (fun w':World=>Below wr.heap.size wr w') hC0 ?_;go_big_quiet_step (fail);refine zv p 0 ?_;refine zv p 0 ?_;refine zQ (.agg #[.int .i64 S.f.rings,.int .i64 S.f.sectors,.int .i64 S.f.wide]) (fun w0 hC=>?_) ?_
   ·have c0:=Z6 (LF.out w0 hC) 0 (.int .i64 S.f.rings) rfl;have c1:=Z6 (LF.out w0 hC) 1 (.int .i64 S.f.sectors) rfl;have c2:=Z6 (LF.out w0 hC) 2 (.int .i64 S.f.wide) rfl;clear hC;go_simp
   iterate 2 go_big_quiet_step (fail)
   refine zQ (.pointer (some ⟨b,o,none⟩)) (fun w0 hC=>?_) ?_
   ·have hix:=HIX.out w0;clear hC;go_simp
   refine zQ (.agg (Z5 x.n x.sa x.sc)) (fun w0 hC=>Zx (.tmp 21) rfl b o rfl x.n x.sa x.sc (LX.out w0 hC)) ?_;refine zQ (.int .i64 ck) (fun w0 hC=>?_) ?_
   ·go_simp;refine(CN.out w0 (RXK.out.below hC)).mono ?_;rintro e w1 ⟨rfl,b1⟩;exact⟨rfl,hC.trans (b1.mono hC.size)⟩
   refine zV (.bool (ck != 0)) ?_;refine wpQuiet_nil ?_;intro w' hC;have BB2:=zH (BB.out.trans (hC.mono BB.out.size));clear hC LX LF;by_cases hz:ck=0
   ·have OK0:=zH hck.out;have t1:(ck != 0)=false:=by simp[hz]
    rw[t1];rw[hz]at OK0;clear hz t1;go_upto_region 3 with fail;have hk64:=HK64.out;go_wp2;go_roundw
    case rel=>exact⟨k+1,by go_num,by omega,BB2,zH (fun i z hi hz=>by
     rcases Nat.lt_or_ge i k with h' | h'
     ·exact NC.out i z h' hz
     ·have e:i=k:=by omega
      subst e;rw[HXK.out]at hz;cases hz;exact OK0.out)⟩
    case measure=>simp[intOf];omega
   ·have t1:(ck != 0)=true:=by simp[hz]
    have HE:=zH (UT (S:=S) (l:=l) (List.any_eq_true.2 ⟨x.n,by rw[<-HXS.out];exact List.mem_map_of_mem (List.mem_of_getElem? HXK.out),by rw[hck.out];simp[hz]⟩));rw[t1];clear hz t1;go_wp2_with fail;go_returns;rw[HE.out];exact⟨rfl,Z2J.keep HW.out BB2.out⟩
  ·have t0:decide ((k:Int) < (n:Int))=false:=by simp;omega
   have GOOD:Hid (∀x∈xs,ZD S.f x.n=0):=zH (fun x hx=>by
    obtain⟨i,hi⟩:=List.getElem?_of_mem hx;exact NC.out i x (by have:=(List.getElem?_eq_some_iff.1 hi).1;rw[XN.out]at this;omega) hi)
   have NB:Hid (l.any (fun n=>!decide (ZD S.f n=0))=false):=zH (by
    rw[List.any_eq_false];intro y hy;rw[<-HXS.out]at hy;obtain⟨x,hx,rfl⟩:=List.mem_map.1 hy;simp[GOOD.out x hx])
   have FRM:Hid (∀x∈xs,Zf S.f x.n=true):=zH (fun x hx=>QJ HI.out.v NB.out x.n (by rw[<-HXS.out];exact List.mem_map_of_mem hx));clear NC;go_wp2_with fail;generalize wr=W1 at *;refine(Z8z p F S sa sc zs aa ac cs G v0 v1 v2 v3 xs la n lc _ (H.out.below BB.out) HI.out SL.out (RX.out.below BB.out) (by have:=NZ.out;omega) FRM.out).mono ?_;rintro e W2 ⟨hfk,b2⟩;have B2:=zH (BB.out.trans (b2.mono BB.out.size));clear b2;rcases hfk with ⟨rfl,hfk⟩ | ⟨rfl,hfk⟩
   ·have HE:=zH (QZ NB.out (by rw[<-HXS.out];exact Z5s HI.out H.out.eq FRM.out hfk));clear hfk;go_wp2_with fail;go_returns;rw[HE.out];exact⟨rfl,Z2J.keep HW.out B2.out⟩
   obtain⟨c,hgo⟩:=Z5r HI.out H.out.eq FRM.out hfk;rw[HXS.out]at hgo;have HGO:=zH hgo;have HE:=zH (US NB.out hgo);have SQ:Hid (Z1y S.c ((Uj zs xs).2.map LN.n) /\ ∀y∈(Uj zs xs).2.map LN.n,y∈l):=zH (by
    obtain⟨t,h1,h2,h3⟩:=UR l [] S.c (by rw[List.append_nil];exact HI.out.nms) (fun n hn=>(Yh (QJ HI.out.v NB.out n hn)).2.2) hgo;rw[List.nil_append]at h1;rw[h1];exact⟨h2,h3⟩)
   clear hgo hfk;go_wp2_with fail;refine(Z2z p F S sa sc zs aa ac cs G v0 v1 v2 v3 xs la n lc _ (H.out.below B2.out) SL.out (RX.out.below B2.out) (by have:=NZ.out;omega)).mono ?_;rintro e W3 ⟨⟨a3,m,c3,rfl,ho3,hm⟩,b3⟩;have B3:=zH (B2.out.trans (b3.mono B2.out.size));have O3:=zH ho3;have HM:=zH hm;have ML:Hid (m<=n):=zH (by rw[<-hm];have h1:=(Z67 zs xs (zs,[])).2;rw[XN.out]at h1;show(List.foldl Jc (zs,[]) xs).2.length<=n;simp at h1;omega);have RMEM:Hid (∀y∈(Uj zs xs).2,y∈xs):=zH (fun y hy=>by
    rcases(Z1M xs (zs,[])).2 y hy with h1 | h1
    ·cases h1
    ·exact h1)
   clear ho3 hm b3;have SZ:Hid (∀k,F k->k < W2.heap.size):=zH (fun k hk=>Nat.lt_of_lt_of_le (H.out.lt k hk) B2.out.size);obtain⟨R,hR⟩:=zX ((Uj zs xs).2);rw[hR.out]at O3 HM RMEM SQ HE;have c4:=Z6 (Z7 B3.out HB.out) 4 (.slice sa nz sc) rfl;have hq1:nz<=400:=by have:=NZ.out;omega
   have hq2:m<=400:=by have:=NZ.out;have:=ML.out;omega
   have tq:decide ((400:Int) < (nz:Int)+(m:Int))=false:=by have:=NZ.out;have:=ML.out;simp;omega
   have M63:Hid ((m:Int)<=9223372036854775807):=zH (by omega);have FRL:Hid ((R.map LN.n).length=m):=zH (by rw[List.length_map,HM.out]);go_wp2_with fail;clear tq c4 hq1 hq2;go_loopw [8] (fun iv wr=>∃(j:Nat) (F':Nat->Prop),iv = .int .i64 (j:Int)/\j<=m/\Hid (JN wr p F' (S.adds ((R.map LN.n).take j))/\Za F W3 wr /\ ∀k,F' k->F k\/W3.heap.size<=k)) (fun iv _=>m - (intOf iv).toNat)
   case atStart=>exact⟨0,F,rfl,Nat.zero_le _,zH ⟨HW.out.below B3.out,Za.of_below (Below.refl _ _),fun k hk=>.inl hk⟩⟩
   case round=>
    obtain⟨j,F',rfl,hj,HJ⟩:=hrel;by_cases hjn:j < m
    ·have t1:decide ((j:Int) < (m:Int))=true:=by simp;omega
     obtain⟨y,Hy⟩ : ∃y,R[j]? = some y:=⟨_,List.getElem?_eq_getElem (by rw[HM.out];exact hjn)⟩;have FY:=zH (show(R.map LN.n)[j]? = some y.n by rw[List.getElem?_map,Hy];rfl);have YX:=zH (RMEM.out y (List.mem_of_getElem? Hy));have RJ:=ZX.of_own (Zi O3.out HJ.out.2.1 (fun b hb hF=>absurd (SZ.out b hF) (by have h1:=(O3.out.lt b hb).1;omega)));have YO:=zH (QP (RXW.out wr ((Za.of_below B3.out).trans HJ.out.2.1)) YX.out);obtain⟨b,off,rfl,hat⟩:=Z77 RJ (by omega);obtain⟨o,ho⟩:=zX (off+j * 19);have HY:=zH (hat j y Hy);rw[ho.out]at HY;have hix:=fun W=>ZN (W:=W) (c:=c3) (b:=b) Tryz.underlying24 J19.out hjn ho.out;have HK64:Hid ((j:Int)+1<=9223372036854775807):=zH (by have:=NZ.out;have:=ML.out;omega);have FSUB:Hid (∀x∈(R.map LN.n).take j,Zf S.f x=true/\x.Ok):=zH (fun x hx=>by have h1:=SQ.out.2 x (List.mem_of_mem_take hx);exact⟨QJ HI.out.v NB.out x h1,HOK.out x h1⟩);have HIJ:=zH (Z22 ((R.map LN.n).take j) S HI.out (Z1b (R.map LN.n) S.c j SQ.out.1) FSUB.out);have YF:=zH (show Zf (S.adds ((R.map LN.n).take j)).f y.n=true by rw[Z6m];exact FRM.out y YX.out);clear hat Hy RJ;go_wp2_with (refine wpList_load_mid rfl 47 _ rfl b o rfl (y.n.cells y.sa y.sc) _ HY.out Tryz.underlying47 rfl (by exact J19.out) ?_);refine(Z0C p F' (S.adds ((R.map LN.n).take j)) y.n y.sa y.sc _ HJ.out.1 HIJ.out YO.out YF.out (by rw[Z21,List.length_take];have h1:=NZ.out;have h2:=ML.out;have h3:=H.out.len;have h4:=hnz.out;omega)).mono ?_;rintro e w8 ⟨rfl,F2,h1,h2,h3⟩;have HN:Hid (JN w8 p F2 (S.adds ((R.map LN.n).take (j+1)))/\Za F W3 w8 /\ ∀k,F2 k->F k\/W3.heap.size<=k):=zH ⟨by rw[Y8 FY.out,Z5B];exact h1,Yq HJ.out.2.1 h2 HJ.out.2.2,fun k hk=>by
      rcases h3 k hk with h4 | h4
      ·exact HJ.out.2.2 k h4
      ·exact .inr (Nat.le_trans HJ.out.2.1.size h4)⟩
     clear h1 h2 h3 HJ t1 hix;have hk64:=HK64.out;go_wp2;go_roundw
     case rel=>exact⟨j+1,F2,by go_num,by omega,HN⟩
     case measure=>simp[intOf];omega
    ·have t1:decide ((j:Int) < (m:Int))=false:=by simp;omega
     have EJ:Hid (JN wr p F' (S.adds (R.map LN.n))):=zH (by
      have h1:=HJ.out.1;rwa [List.take_of_length_le (by rw[FRL.out];omega)]at h1)
     go_wp2_with fail;go_returns;rw[HE.out];refine⟨by rw[FRL.out] <;> rfl,F',EJ.out,(Za.of_below B3.out).trans HJ.out.2.1,fun k hk=>?_⟩;rcases HJ.out.2.2 k hk with h1 | h1
     ·exact .inl h1
     ·exact .inr (Nat.le_trans B3.out.size h1)
theorem Z9s (hs:List Xg)(a:zA)(n c:Nat)(h m:Int)(w:World)(hr:Vk w a n c hs):
  Calls zq 239 #[.slice a n c,.agg #[.int .i64 h,.int .i64 m]] w fun e w'=>e = .returned (.int .i64 (Ui hs (QY h m)))/\Below w.heap.size w w':=by
 have I21:(zq.info? 210).map (·.size)=some 21:=by kernel_rfl
 have hn63:=hr.maxn;have HN:=zH hr.1;have B0:=zH (zB w (.cells #[.int .i64 h,.int .i64 m] 45));have N0:=zH (Z9 w (.cells #[.int .i64 h,.int .i64 m] 45));have RE:=zH (hr.below B0.out);clear hr;have QA:Hid (∀(k:Nat) x,hs[k]? = some x->QY h m x=true->(∀j y,j < k->hs[j]? = some y->QY h m y=false)->Ui hs (QY h m)=k):=zH (fun k x hx hp hb=>Z97 hx hp hb);have QN:Hid ((∀j y,j < n->hs[j]? = some y->QY h m y=false)->Ui hs (QY h m) = -1):=zH (fun hb=>Z5p (fun j y hj hy=>hb j y (by rw[<-HN.out];exact hj) hy));generalize Ui hs (QY h m)=q at *;go_enter Tryz.func239,Tryz.ntmps239;go_upto_region 1 with fail;obtain⟨p,hp⟩:=zX (w.heap.size);rw[hp.out]at N0 ⊢;generalize w.alloc (.cells #[.int .i64 h,.int .i64 m] 45)=W0 at *;have n0:=Z6 N0.out 0 (.int .i64 h) rfl;have n1:=Z6 N0.out 1 (.int .i64 m) rfl;go_wp2_with fail;go_loopw [5] (fun i wr=>∃k:Nat,i = .int .i64 k/\k<=n/\Hid (∀j y,j < k->hs[j]? = some y->QY h m y=false) /\ ∃q,wr=W0.drewN q) (fun i _=>n - (intOf i).toNat)
 case atStart=>exact⟨0,rfl,Nat.zero_le _,zH (fun j y h=>by omega),0,rfl⟩
 case round=>
  obtain⟨k,rfl,hk,HB,q',rfl⟩:=hrel;by_cases hkn:k < n
  ·have t0:decide ((k:Int) < (n:Int))=true:=by simp;omega
   obtain⟨b,off,rfl,hat⟩:=RE.out.at (show 0 < n by omega);obtain⟨x,Hx⟩ : ∃x,hs[k]? = some x:=⟨hs[k]'(by rw[HN.out];exact hkn),List.getElem?_eq_getElem (by rw[HN.out];exact hkn)⟩;have hra:=hat k x Hx;obtain⟨o,ho⟩:=zX (off+k * 21);rw[ho.out]at hra;have x0:=hra 0 (.int .i64 x.nm.1) rfl;have x1:=hra 1 (.int .i64 x.nm.2) rfl;rw[Nat.add_zero]at x0;have hi:=fun W=>ZN (W:=W) (c:=c) (b:=b) Tryz.underlying74 I21 hkn ho.out;have hk64:(k:Int)+1<=9223372036854775807:=by omega
   have HX:=zH Hx;clear hat Hx hra;cases hp1:QY h m x with
   | true=>
    have hp2:=of_decide_eq_true hp1;have HQ:=zH (QA.out k x HX.out hp1 HB.out);rw[hp2.1]at x0;rw[hp2.2]at x1;clear hp1 hp2;go_wp2;go_quiet (fail);go_wp2;go_ret;exact⟨by rw[HQ.out];rfl,below_drewN (below_drewN B0.out _) _⟩
   | false=>
    have hp2:=of_decide_eq_false hp1;have HP:=zH hp1;clear hp1;by_cases e1:x.nm.1=h
    focus
     have e2:(x.nm.2==m)=false:=by rw[beq_eq_false_iff_ne];exact fun h'=>hp2 ⟨e1,h'⟩
     rw[e1]at x0
    rotate_left
    focus
     have e2:(x.nm.1==h)=false:=by rw[beq_eq_false_iff_ne];exact e1
    all_goals
     clear hp2 e1;go_wp2;go_quiet (fail);go_wp2;go_roundw
     case rel=>exact⟨k+1,by go_num,by omega,zH (fun j y hj hy=>by
      rcases Nat.lt_or_ge j k with h' | h'
      ·exact HB.out j y h' hy
      ·have e:j=k:=by omega
       subst e;rw[HX.out]at hy;cases hy;exact HP.out),_,rfl⟩
     case measure=>simp[intOf];omega
  ·have t0:decide ((k:Int) < (n:Int))=false:=by simp;omega
   have HQ:=zH (QN.out (fun j y hj hy=>HB.out j y (by omega) hy));go_wp2;go_ret;exact⟨by rw[HQ.out];rfl,below_drewN B0.out _⟩
end Go.Proofs.YtlnhppgfhkkidaaGreat
