/- Parts of the proof, in order. -/
import Derived.Laws.EntriesVeiled
import Derived.Test.YtlnhppgfhkkidaaGreatKPcl3
set_option linter.unusedSimpArgs false
set_option linter.unusedVariables false
set_option maxHeartbeats 32000000
set_option maxRecDepth 100000
namespace Go.Proofs.YtlnhppgfhkkidaaGreat
open Go.Proofs.Tryz renaming prog → zq
open Go.RowKit
def evN (f J:Nm->Option LN)(k:Nm):Option Z8:=match f k with
 | none=>none
 | some x=>if YP x.n=true then (match J k with | none=>some x.n | some j=>if j.n.kind=6 then none else some (J6 x.n j.n))else none
def ZB (es:List LN):List Value:=(es.map fun x=>x.n.cells x.sa x.sc).flatten
theorem Vq (es:List LN)(x:LN):ZB (es ++ [x])=ZB es ++ x.n.cells x.sa x.sc:=by simp[ZB]
def Z0Z (W:World)(base:Nat)(es:List LN):Prop := ∀x∈es,W.ownsRow base 3 1 (.slice x.sa x.n.strokes.length x.sc) x.n.strokes.length (x.n.strokes.map Yq)
theorem Z0Z.below {W W':World}{base:Nat}{es:List LN}(h:Z0Z W base es)(hb:Below W.heap.size W W'):Z0Z W' base es:=fun x hx=>Zd (h x hx) hb
theorem JG {W:World}{b1 b2 e1 e2 k1 k2 n1 n2:Nat}{v1 v2:Value}{x1 x2:List Value}(h1:W.ownsRow b1 e1 k1 v1 n1 x1)(h2:W.ownsRow b2 e2 k2 v2 n2 x2)(hne:e1≠e2):v1.ownBlock=none\/v1.ownBlock≠v2.ownBlock:=by
 rcases h1.2 with ⟨rfl,_⟩ | ⟨g,cap,cur,rfl,_,hg,_⟩
 ·exact .inl rfl
 ·rcases h2.2 with ⟨rfl,_⟩ | ⟨g',cap',cur',rfl,_,hg',_⟩
  ·exact .inr (by simp[Value.ownBlock])
  ·refine .inr (fun e=>?_);simp only[Value.ownBlock,Option.some.injEq]at e;subst e;rw[hg]at hg';cases hg';exact hne rfl
theorem Z36 (w:World)(a0 a1 a2 a3 a4 a5 a6 a7 a8 a9 a10 a11 a12 a13 a14 a15 a16 a17 a18:Value):
  (Instr.buildSlice 24 1 #[(0,.agg #[a0,a1,a2,a3,a4,a5,a6,a7,a8,a9,a10,a11,a12,a13,a14,a15,a16,a17,a18])]).run zq w = .ok (.slice (some ⟨w.heap.size,0,none⟩) 1 1) (w.alloc (.cells #[a0,a1,a2,a3,a4,a5,a6,a7,a8,a9,a10,a11,a12,a13,a14,a15,a16,a17,a18] 47)):=by
 kernel_rfl
theorem Z3C (w:World)(n:Z8)(sa:zA)(sc:Nat):
  (Instr.buildSlice 24 1 #[(0,.agg (Z5 n sa sc))]).run zq w = .ok (.slice (some ⟨w.heap.size,0,none⟩) 1 1) (w.alloc (.cells (Z5 n sa sc) 47)):=Z36 w ..
theorem Z7f:(zq.info? 47).map (fun i=>(i.zero,i.size,i.bytes))=some (some (.agg (Z5 Zh none 0)),19,168):=by kernel_rfl
theorem Q5 (w:World)(base:Nat)(sa:zA)(sn sc:Nat)(xs:List Value)(hown:w.ownsRow base 47 19 (.slice sa sn sc) sn xs)(xa:zA)(m xc:Nat)(ys:List Value)(hrd:ZW w 19 xa m xc ys)(h1 : ∀u∈ys,u.oneCell'=true)
  (hbytes:(sn+m) * 168<=140737488355328) (hbase:base<=w.heap.size):
  ∃a' c' w',(Builtin.append_ #[24,24] 24 #[.slice sa sn sc,.slice xa m xc]).run zq w = .ok (.slice a' (sn+m) c') w'/\w'.ownsRow base 47 19 (.slice a' (sn+m) c') (sn+m) (xs ++ ys)/\w.grownBy w' (Value.ownBlock (.slice sa sn sc)):=by
 obtain⟨i,hi,hz0,hz1,hz2⟩:=info_parts Z7f;exact Yk w base 24 24 47 i _ 19 168 Tryz.underlying24 hi hz0 hz1 hz2 rfl (by decide) sa sn sc xs hown xa m xc ys hrd h1 (by unfold maxLen;omega) hbytes hbase
theorem Qk (W:World)(n:Z8)(sa:zA)(sc:Nat):ZW (W.alloc (.cells (Z5 n sa sc) 47)) 19 (some ⟨W.heap.size,0,none⟩) 1 1 (n.cells sa sc):=
 ZW.of_own (World.ownsRow_lit (base:=W.heap.size) (e:=47) (size:=19) W (Z5 n sa sc) 1 (Nat.le_refl _) (by unfold maxLen;omega) rfl)
structure Z0t (w wr:World)(bS pL r n:Nat)(f J:Nm->Option LN)(kr ks:List Nm)(cnt:Nat)(a:zA)(c:Nat)(es:List LN):Prop where
 rng:Ya LN.val wr bS r n f kr cnt
 bel:Below w.heap.size w wr
 lst:wr.heap[pL]? = some (.cells #[.slice a es.length c] 24)
 own:wr.ownsRow w.heap.size 47 19 (.slice a es.length c) es.length (ZB es)
 str:Z0Z wr w.heap.size es
 evs:es.map LN.n=ks.filterMap (evN f J)
 pL_ge:w.heap.size<=pL
 r_ge:w.heap.size<=r
section
variable {w wr W':World}{bS pL r n:Nat}{f J:Nm->Option LN}{kr ks:List Nm}{cnt:Nat}{a:zA}{c:Nat}{es:List LN}
theorem Z0t.below (h:Z0t w wr bS pL r n f J kr ks cnt a c es)(hb:Below wr.heap.size wr W'):Z0t w W' bS pL r n f J kr ks cnt a c es:=
 ⟨h.rng.below hb,h.bel.trans (hb.mono h.bel.size),Z7 hb h.lst,Zd h.own hb,h.str.below hb,h.evs,h.pL_ge,h.r_ge⟩
theorem Z0t.came (h:Z0t w wr bS pL r n f J kr ks cnt a c es){kh km:Int}{y:LN}{cnt':Nat}(hN:Z7O LN.val wr bS r n cnt f kr kh km y W' cnt'):Z0t w W' bS pL r n f J (kr ++ [(kh,km)]) ks cnt' a c es:=by
 obtain⟨bb,since,seen,c0,hr⟩:=h.rng.blk;have hb1:=h.lst;refine⟨hN.range,h.bel.grown hN.grown h.bel.size (fun q hq=>by cases hq;exact h.r_ge),Zc hN.grown hb1 ?_,h.own.kept hN.grown (.inr (Zn h.own hr (by simp)).symm),fun x hx=>(h.str x hx).kept hN.grown (.inr (Zn (h.str x hx) hr (by simp)).symm),h.evs,h.pL_ge,h.r_ge⟩;intro e;have e:=Option.some.inj e;subst e;rw[hr]at hb1;cases hb1
theorem Z0t.skip {k:Nm}(h:Z0t w wr bS pL r n f J (ks ++ [k]) ks cnt a c es)(hk:evN f J k=none):Z0t w wr bS pL r n f J (ks ++ [k]) (ks ++ [k]) cnt a c es:=
 ⟨h.rng,h.bel,h.lst,h.own,h.str,by rw[List.filterMap_append,h.evs];simp[hk],h.pL_ge,h.r_ge⟩
theorem Z0t.app {k:Nm}{x:LN}{a':zA}{c':Nat}(h:Z0t w wr bS pL r n f J (ks ++ [k]) ks cnt a c es)(hk:evN f J k=some x.n)
  (hx:wr.ownsRow w.heap.size 3 1 (.slice x.sa x.n.strokes.length x.sc) x.n.strokes.length (x.n.strokes.map Yq))
  (ho:W'.ownsRow w.heap.size 47 19 (.slice a' (es.length+1) c') (es.length+1) (ZB es ++ x.n.cells x.sa x.sc)) (hg:wr.grownBy W' (Value.ownBlock (.slice a es.length c))):
  Z0t w (W'.setCell ⟨pL,0,none⟩ (.slice a' (es.length+1) c')) bS pL r n f J (ks ++ [k]) (ks ++ [k]) cnt a' c' (es ++ [x]):=by
 obtain⟨es2,clock2,hsb⟩:=h.rng.map.blk;obtain⟨bb,since,seen,c0,hr⟩:=h.rng.blk;have hb1:=h.lst;have hb2:=Zc hg hb1 (Zn h.own hb1 (by intro cur;simp));have hr2:=Zc hg hr (Zn h.own hr (by simp));have hs2:=Zc hg hsb (Zn h.own hsb (by simp));have G:=Zp W' pL 0 (.slice a' (es.length+1) c');have nr:some r≠some pL:=fun e=>by rw[Option.some.inj e,hb2]at hr2;cases hr2
 have ns:some bS≠some pL:=fun e=>by rw[Option.some.inj e,hb2]at hs2;cases hs2
 have B1:=h.bel.grown hg h.bel.size (fun q hq=>(h.own.lt q hq).1);have hst : ∀y∈es ++ [x],(W'.setCell ⟨pL,0,none⟩ (.slice a' (es.length+1) c')).ownsRow w.heap.size 3 1 (.slice y.sa y.n.strokes.length y.sc) y.n.strokes.length (y.n.strokes.map Yq):=fun y hy=>by
  have h0:wr.ownsRow w.heap.size 3 1 (.slice y.sa y.n.strokes.length y.sc) y.n.strokes.length (y.n.strokes.map Yq):=by
   rcases List.mem_append.1 hy with hy | hy
   ·exact h.str y hy
   ·rw[List.mem_singleton.1 hy];exact hx
  have h1:=h0.kept hg (JG h0 h.own (by decide));exact h1.kept G (.inr (Zn h1 hb2 (by intro cur;simp)).symm)
 refine⟨h.rng.of_blocks ((Zc G hs2 ns).trans hsb.symm) ((Zc G hr2 nr).trans hr.symm),B1.grown G B1.size (fun q hq=>by cases hq;exact h.pL_ge),?_,?_,hst,?_,h.pL_ge,h.r_ge⟩
 ·have:=ZI hb2 0 (.slice a' (es.length+1) c');rw[this,List.length_append];rfl
 ·rw[Vq,List.length_append];exact ho.kept G (.inr (Zn ho hb2 (by intro cur;simp)).symm)
 ·rw[List.filterMap_append,List.map_append,h.evs];simp[hk]
end
def Z1X (x y:LN):Bool:=decide (XV x.n y.n < 0)
theorem Uy (a b:Z8):XV a b < 0↔a.day < b.day\/a.day=b.day/\(a.clock < b.clock\/a.clock=b.clock/\(a.house < b.house\/a.house=b.house/\a.num < b.num)):=by
 rw[XV,Z3f,UM,Z0B,QB]
theorem Zb5:Ord Z1X:=by
 refine⟨fun x y h=>?_,fun x y z h1 h2=>?_⟩
 ·simp only[Z1X,decide_eq_true_eq,decide_eq_false_iff_not,Uy]at *;omega
 ·simp only[Z1X,decide_eq_false_iff_not,Uy]at *;omega
def VN (x:LN):List Value:=x.n.cells x.sa x.sc
theorem Z2l (x:LN):(VN x).length=19:=rfl
theorem Z5j (x:LN): ∀v∈VN x,v.oneCell'=true:=x.n.cells_one x.sa x.sc
theorem Zct (args:ZV)(w:World):(callFunc 222 args).run zq w = .ok (.enter 222 args) w:=by kernel_rfl
instance:Inhabited LN:=⟨⟨Zh,none,0⟩⟩
theorem ZaF (x y:LN)(w:World):Calls zq 222 #[.agg (VN x).toArray,.agg (VN y).toArray] w fun e w'=>e = .returned (.int .i64 (XV x.n y.n))/\Vk w.heap.size w w':=
 ZaE x.n y.n x.sa x.sc y.sa y.sc w
def ZeI (w:World)(f J:Nm->Option LN)(e:Ending)(w':World):Prop:=
 ∃pL a c es ks,e = .returned (.func (.func 223) #[] #[.pointer (some ⟨pL,0,none⟩)])/\w'.heap[pL]? = some (.cells #[.slice a es.length c] 24) /\
  w'.ownsRow w.heap.size 47 19 (.slice a es.length c) es.length (ZB es)/\Z0Z w' w.heap.size es/\ks.Nodup/\Jd f ks/\(es.map LN.n).Perm (ks.filterMap (evN f J))/\es.Pairwise (fun x y=>Z1X y x=false)/\w.heap.size<=pL
theorem Xd {op:Oper}{a:Act}{w:World}{K:Act->World->Prop}{Q:Exit->Act->World->Prop}(x:Operand)(ho:op.op = .buildSlice 24 1 #[(0,x)])(n:Z8)(sa:zA)(sc:Nat)(hx:a.eval x = .agg (Z5 n sa sc))
  (h:K (a.put op.dst (.slice (some ⟨w.heap.size,0,none⟩) 1 1)) (w.alloc (.cells (Z5 n sa sc) 47))):op.wp zq a w K Q:=by
 have e:=Z3C w n sa sc;unfold Oper.wp execOp;simp[ho,hx,e,Result.andThen];exact h
theorem Z0t.note {w W:World}{bS pL r n:Nat}{f J:Nm->Option LN}{kr ks:List Nm}{cnt:Nat}{a:zA}{c:Nat}{es:List LN}(h:Z0t w W bS pL r n f J kr ks cnt a c es){p5:Nat}{A B:ZV}
  (hp:W.heap[p5]? = some (.cells A 47)) (hne:Value.ownBlock (.slice a es.length c)≠some p5) (hge:w.heap.size<=p5):Z0t w (W.setRow p5 B) bS pL r n f J kr ks cnt a c es:=by
 obtain⟨es2,clock2,hsb⟩:=h.rng.map.blk;obtain⟨bb,since,seen,c0,hr⟩:=h.rng.blk;have G:=Yr W p5 B;have nr:some r≠some p5:=fun e=>by rw[Option.some.inj e,hp]at hr;cases hr
 have ns:some bS≠some p5:=fun e=>by rw[Option.some.inj e,hp]at hsb;cases hsb
 have nl:some pL≠some p5:=fun e=>by have h1:=h.lst;rw[Option.some.inj e,hp]at h1;cases h1
 exact⟨h.rng.of_blocks ((Zc G hsb ns).trans hsb.symm) ((Zc G hr nr).trans hr.symm),h.bel.grown G h.bel.size (fun q hq=>by cases hq;exact hge),Zc G h.lst nl,h.own.kept G (.inr hne),
  fun x hx=>(h.str x hx).kept G (.inr (Zn (h.str x hx) hp (by intro cur;simp)).symm),h.evs,h.pL_ge,h.r_ge⟩
section
attribute [local go_sem] ZS XJ
theorem Z8w (pB bS bJ n m:Nat)(va:zA)(vn vc:Nat)(f J:Nm->Option LN)(w:World)
  (hb:JZ w pB bS bJ va vn vc) (hm:Y4 LN.val w bS n f) (hj:Y4 LN.val w bJ m J) (hfo:FOk f) (hjf : ∀a x,J a=some x -> ∃k,f k=some x)
  (hrd : ∀a x,f a=some x->x.ok w/\x.n.strokes.length<=1000000) (hn:n<=1000):
  Calls zq 193 #[.pointer (some ⟨pB,0,none⟩)] w fun e w'=>ZeI w f J e w'/\Below w.heap.size w w':=by
 have I43:=zH zI;have FO:=zH hfo;clear hfo;have JF:=zH hjf;clear hjf;have RDF:=zH hrd;clear hrd;have HNn:=zH hn;clear hn;have HBN:=zH hb;clear hb;have HMM:=zH hm;clear hm;have HJJ:=zH hj;clear hj;have B1:=zH (zB w (.cells #[.slice none 0 0] 24));have e0:=Z9 w (.cells #[.slice none 0 0] 24);go_enter Tryz.func193,Tryz.ntmps193;go_upto_region 2 with fail;obtain⟨pL,hpL⟩:=zX (w.heap.size);rw[hpL.out]at e0 ⊢;have hz1:Hid ((w.alloc (.cells #[.slice none 0 0] 24)).heap.size=w.heap.size+1):=zH (by simp);generalize w.alloc (.cells #[.slice none 0 0] 24)=wa at *;have M1:=HMM.out.below B1.out;have cB0:=Z6 (Z7 B1.out HBN.out) 0 (.map (some bS)) rfl;go_wp2_with (first
  |(at_range;refine J7 _ rfl _ 119 47 rfl Tryz.underlying119 bS n rfl M1 ?_;intro w0 cnt0 hrg0 hg0 hs0)
  | fail)
 go_frame;obtain⟨r,hr⟩:=zX (wa.heap.size);have S0:=zH (show Z0t w w0 bS pL r n f J [] [] cnt0 none 0 []from
  ⟨by rw[<-hr.out];exact hrg0,B1.out.grown hg0 (by rw[hz1.out];omega) (fun q hq=>by cases hq),Zc hg0 e0 (by simp),World.ownsRow_nil _ _ _ _,(fun x hx=>by cases hx),rfl,by rw[hpL.out];exact Nat.le_refl _,by rw[<-hr.out,hz1.out];omega⟩)
 rw[hr.out];clear hrg0 hg0 hs0 e0 M1 cB0;go_loopw [13] (fun _ wr=>∃(ks:List Nm) (cnt:Nat) (a:zA) (c:Nat) (es:List LN),Hid (Z0t w wr bS pL r n f J ks ks cnt a c es)) (fun _ wr=>wr.rangeLeft bS r)
 case atStart=>exact⟨_,_,_,_,_,S0⟩
 case round=>
  clear S0;obtain⟨ks,cnt,a,c,es,HS⟩:=hrel;go_upto_region 4 with (first
   |(at_next;refine Jo wr rfl _ rfl bS r n cnt ks rfl HS.out.rng ?_ ?_)
   | fail)
  ·intro hall;have HALL:=zH hall;clear hall;have hc:=Z6 HS.out.lst 0 (.slice a es.length c) rfl;have hmf : ∀(fn:Fn) (first cap:ZV) (w:World),(Instr.makeFunc fn first cap).run zq w = .ok (.func fn first cap) w:=fun _ _ _ _=>rfl;have hle:Hid (es.length<=1000000):=zH (by
    have h1:=congrArg List.length HS.out.evs;have h2:=HS.out.rng.count;have h3:=HNn.out;have h4:(ks.filterMap (evN f J)).length<=ks.length:=List.length_filterMap_le _ _;rw[List.length_map]at h1;omega)
   go_wp2_with fail;refine(Z5L (V:=LN) Zb5 VN Z2l Z5j (fun x y=>XV x.n y.n) (fun _ _=>rfl) 222 Zct ZaF w.heap.size es.length c a es wr HS.out.own rfl hle.out).mono ?_;rintro e w9 ⟨rfl,zs,ho,hp,hs,hsame⟩;have HO:=zH ho;have HP:=zH hp;have HSo:=zH hs;have HSm:=zH hsame;clear ho hp hs hsame hc;go_wp2;go_ret;have hzl:zs.length=es.length:=HP.out.length_eq;refine⟨⟨pL,a,c,zs,ks,rfl,?_,?_,?_,HS.out.rng.nodup,HALL.out,?_,HSo.out,HS.out.pL_ge⟩,?_⟩
   ·rw[hzl];exact(HSm.out.block pL (Zj HS.out.lst) (fun e=>Zn HS.out.own HS.out.lst (by intro cur;simp) e.symm)).trans HS.out.lst
   ·rw[hzl];exact HO.out
   ·intro x hx;have h0:=HS.out.str x (HP.out.subset hx);exact Ze h0 HSm.out (fun b hb e=>by
     rcases JG h0 HS.out.own (by decide)with h | h
     ·rw[h]at hb;cases hb
     ·exact h (by rw[hb,e]))
   ·rw[<-HS.out.evs];exact HP.out.map _
   ·exact HSm.out.below HS.out.bel HS.out.bel.size (fun k hk=>(HS.out.own.lt k hk).1)
  ·intro kh km y w1 cnt1 HN hen;have HF:=zH HN.out.at_;have HOk:=zH (FO.out _ _ HN.out.at_);have HKok:=zH HN.out.ok;have S1:=zH (HS.out.came HN.out);have HM:=zH (show wr.rangeLeft bS r=cnt from HS.out.rng.left_eq);have HLT:=zH HN.out.lt;clear HS HN;unfold LN.val at hen;go_upto_region 5 with (first
    |(refine Zr (w1.alloc (.cells #[.int .i64 kh,.int .i64 km] 45)) rfl 47 _ _ rfl (w1.heap.size+1) (by simp) _ (Z5 y.n y.sa y.sc) rfl rfl (I43.out _ _ _) rfl (Zm y.n y.sa y.sc) ?_))
   clear hen;have hbt:Below w1.heap.size w1 ((w1.alloc (.cells #[.int .i64 kh,.int .i64 km] 45)).alloc (.cells (Z5 y.n y.sa y.sc) 47)):=(zB _ _).alloc (by simp) _;have CS:=zH (S1.out.below hbt);have CN:=zH (Zb _ (.cells (Z5 y.n y.sa y.sc) 47) _ _ (Z9 w1 (.cells #[.int .i64 kh,.int .i64 km] 45)));have CT:=zH (Zv (w1.alloc (.cells #[.int .i64 kh,.int .i64 km] 45)) (.cells (Z5 y.n y.sa y.sc) 47) (w1.heap.size+1) (by simp));obtain⟨p4,hp4⟩:=zX (w1.heap.size);obtain⟨p5,hp5⟩:=zX (p4+1);rw[hp4.out]at CN CT ⊢;rw[hp5.out]at CT ⊢;generalize (w1.alloc (.cells #[.int .i64 kh,.int .i64 km] 45)).alloc (.cells (Z5 y.n y.sa y.sc) 47)=wt at *;have HP5:=zH (show Value.ownBlock (.slice a es.length c)≠some p5 from fun e=>by
    have h1:=(S1.out.own.lt p5 e).2;have h2:=hp4.out;have h3:=hp5.out;omega)
   have HG5:=zH (show w.heap.size<=p5 by
    have h1:=S1.out.bel.size;have h2:=hp4.out;have h3:=hp5.out;omega)
   clear hbt S1;have CQ:=zH (show y.ok wt/\y.n.strokes.length<=1000000 from⟨(RDF.out _ _ HF.out).1.below CS.out.bel,(RDF.out _ _ HF.out).2⟩);have JT:=zH (HJJ.out.below CS.out.bel);cases hJ:J (kh,km)with
   | none=>
    have HJ:=zH hJ;clear hJ;refine zb fun hh=>?_;refine zw 0 rfl pB 0 ?_;refine zw 1 rfl pB 0 ?_;refine zw 2 rfl pB 1 ?_;refine zS 3 rfl (.map (some bJ)) (fun W h=>by have hc:=Z6 (Z7 h (Z7 CS.out.bel HBN.out)) 1 (.map (some bJ)) rfl;go_simp) ?_;refine zS 4 rfl (.agg #[.int .i64 kh,.int .i64 km]) (fun W h=>by have h0:=Z6 (Z7 h CN.out) 0 (.int .i64 kh) rfl;have h1:=Z6 (Z7 h CN.out) 1 (.int .i64 km) rfl;go_simp) ?_;refine zS 5 rfl (.tuple #[.agg (Z5 Zh none 0),.bool false]) (fun W h=>by have hg:(Instr.lookup 106 (.map (some bJ)) (.agg #[.int .i64 kh,.int .i64 km]) true).run zq W = .ok (.tuple #[.agg (Z5 Zh none 0),.bool false]) W:=(by have h2:=Js (t:=106) (JT.out.below h) Tryz.underlying106 (Je W) kh km HKok.out;rw[HJ.out]at h2;exact h2);go_simp) ?_;refine zW 6 rfl (.tuple #[.agg (Z5 Zh none 0),.bool false]) ?_;refine zW 7 rfl (.agg (Z5 Zh none 0)) ?_;refine zW 8 rfl (.bool false) ?_;refine zR 9 rfl fun K hK=>?_;go_simp;refine zK hK ((zd wt).alloc (Nat.le_refl _) _) fun hh=>?_;clear hK K;refine zR 10 rfl fun K hK=>?_;rw[if_pos (by kernel_rfl)];refine ZT 47 _ _ rfl wt.drew.heap.size _ (Z5 Zh none 0) 47 rfl rfl (Z9 _ _) (I43.out _ _ _) rfl (Zm _ _ _) ?_;intro w5 h8 hg8 hs8;have b8:Below wt.heap.size wt w5:=((zd wt).alloc (Nat.le_refl _) _).grown hg8 (by simp) (fun q hq=>by cases hq;exact Nat.le_refl _);have C6:Hid (w5.heap[wt.heap.size]? = some (.cells (Z5 Zh none 0) 47)):=zH h8;have B8:=zH b8;clear h8 hg8 hs8 b8;simp only[Act.put,lq0,lq1,lq2];refine zK hK B8.out fun hh=>?_;clear hK K;refine zW 11 rfl (.bool false) ?_;refine zE ?_;obtain⟨p6,hp6⟩:=zX (wt.heap.size);rw[hp6.out]at C6 ⊢;replace CS:=zH (CS.out.below B8.out);replace CT:=zH (Z7 B8.out CT.out);replace CQ:=zH (show y.ok w5/\y.n.strokes.length<=1000000 from⟨CQ.out.1.below B8.out,CQ.out.2⟩);clear B8 CN JT hh;go_wp2_with (first
     |(refine zL p5 CT.out ?_))
    refine(Z1F y.n y.sa y.sc _).mono ?_;rintro e w6 ⟨rfl,b6⟩;replace CS:=zH (CS.out.below b6);replace CT:=zH (Z7 b6 CT.out);replace C6:=zH (Z7 b6 C6.out);replace CQ:=zH (show y.ok w6/\y.n.strokes.length<=1000000 from⟨CQ.out.1.below b6,CQ.out.2⟩);clear b6;cases hd:YP y.n
    ·have HE:=zH (show evN f J (kh,km)=none by simp[evN,HF.out,hd]);clear hd;go_wp2;go_roundw
     case rel=>exact⟨_,_,_,_,_,zH (CS.out.skip HE.out)⟩
     case measure=>rw[CS.out.rng.left_eq,HM.out];exact HLT.out
    ·have HE:=zH (show evN f J (kh,km)=some y.n by simp[evN,HF.out,hd,HJ.out]);clear hd C6;go_upto_region 10 with fail;refine zp CT.out fun hh=>?_;replace CS:=zH (CS.out.below ((zd w6)));replace CT:=zH (show w6.drew.heap[p5]? = _ from CT.out);replace CQ:=zH (show XU w6.drew y.sa y.n.strokes.length y.sc y.n.strokes/\y.n.strokes.length<=1000000 from⟨XU.below CQ.out.1 ((zd w6)),CQ.out.2⟩);refine zT 1 rfl (.agg (Z5 y.n y.sa y.sc)) (zY p5 fun W h=>h) ?_;refine zM [0,2] rfl (fun K hK=>?_) ?_
     focus
      have hc:=Z6 CS.out.lst 0 (.slice a es.length c) rfl;go_simp;clear hc;refine zK hK CT.out fun hh=>?_;clear hK K;refine zR 2 rfl fun K hK=>?_;go_simp;go_at_call 66;refine(VR y.n y.sa y.sc _ CQ.out.1 (by have:=CQ.out.2;omega)).mono ?_;rintro e v8 ⟨ta,tc,rfl,ho,b8⟩;have HO:=zH (Zu ho (show w.heap.size<=_ from CS.out.bel.size));replace CS:=zH (CS.out.below b8);replace CT:=zH (Z7 b8 CT.out);clear ho b8 CQ;dsimp only;refine zK hK CT.out fun hh=>?_;clear hK K;refine zR 3 rfl fun K hK=>?_;rw[if_pos (by kernel_rfl)];refine Xd _ rfl (y.n) ta tc rfl ?_;have b9:Below v8.heap.size v8 (v8.alloc (.cells (Z5 y.n ta tc) 47)):=zB _ _;have CR:=zH (Qk v8 (y.n) ta tc);replace HO:=zH (Zd HO.out b9);replace CS:=zH (CS.out.below b9);replace CT:=zH (Z7 b9 CT.out);clear b9
     rotate_left
     focus
      refine zn fun K hK=>?_;go_simp;go_at_call 66;refine(VR y.n y.sa y.sc _ CQ.out.1 (by have:=CQ.out.2;omega)).mono ?_;rintro e v8 ⟨ta,tc,rfl,ho,b8⟩;have HO:=zH (Zu ho (show w.heap.size<=_ from CS.out.bel.size));replace CS:=zH (CS.out.below b8);replace CT:=zH (Z7 b8 CT.out);clear ho b8 CQ;dsimp only;refine zK hK CT.out fun hh=>?_;clear hK K;refine zM [0,3] rfl (fun K hK=>?_) ?_
      ·have hc:=Z6 CS.out.lst 0 (.slice a es.length c) rfl;go_simp;clear hc;refine zK hK CT.out fun hh=>?_;clear hK K;refine zR 3 rfl fun K hK=>?_;rw[if_pos (by kernel_rfl)];refine Xd _ rfl (y.n) ta tc rfl ?_;have b9:Below v8.heap.size v8 (v8.alloc (.cells (Z5 y.n ta tc) 47)):=zB _ _;have CR:=zH (Qk v8 (y.n) ta tc);replace HO:=zH (Zd HO.out b9);replace CS:=zH (CS.out.below b9);replace CT:=zH (Z7 b9 CT.out);clear b9;refine zK hK CT.out fun hh=>?_;clear hK K;refine zR 4 rfl fun K hK=>?_;obtain⟨a',c',v9,hrun,ho,hg⟩:=Q5 _ w.heap.size a es.length c _ CS.out.own _ 1 1 _ CR.out (Z8.cells_one _ _ _) (by
        have h1:=congrArg List.length CS.out.evs;have h2:=CS.out.rng.count;have h3:=HNn.out;have h4:(ks.filterMap (evN f J)).length<=ks.length:=List.length_filterMap_le _ _;rw[List.length_map]at h1;rw[List.length_append]at h2;omega) CS.out.bel.size
       have HO3:=zH ho;have HG3:=zH hg;have CL3:=zH (Zc hg CS.out.lst (Zn CS.out.own CS.out.lst (by intro cur;simp)));replace CT:=zH (Zc hg CT.out (fun e=>HP5.out e.symm));clear ho hg;rw[if_pos (by kernel_rfl)];refine ZR _ _ _ rfl _ _ _ rfl rfl hrun ?_;clear hrun;refine zK hK CT.out fun hh=>?_;clear hK K;refine zR 5 rfl fun K hK=>?_;have hc:=Z6 CL3.out 0 (.slice a es.length c) rfl;have hfz:=Zq CL3.out 0;have S9:=zH (CS.out.app (x:=⟨y.n,ta,tc⟩) HE.out HO.out HO3.out HG3.out);have h5:some p5≠some pL:=fun e=>by
        have h1:=CT.out;rw[Option.some.inj e,CL3.out]at h1;cases h1
       replace CT:=zH (Zc (Zp v9 pL 0 (.slice a' (es.length+1) c')) CT.out h5);go_simp;refine zK hK CT.out fun hh=>?_;clear hK K;refine zE ?_;go_wp2;go_roundw
       case rel=>exact⟨_,_,_,_,_,S9⟩
       case measure=>rw[S9.out.rng.left_eq,HM.out];exact HLT.out
      refine zn fun K hK=>?_;rw[if_pos (by kernel_rfl)];refine Xd _ rfl (y.n) ta tc rfl ?_;have b9:Below v8.heap.size v8 (v8.alloc (.cells (Z5 y.n ta tc) 47)):=zB _ _;have CR:=zH (Qk v8 (y.n) ta tc);replace HO:=zH (Zd HO.out b9);replace CS:=zH (CS.out.below b9);replace CT:=zH (Z7 b9 CT.out);clear b9;refine zK hK CT.out fun hh=>?_;clear hK K;refine zR 0 rfl fun K hK=>?_;have hc:=Z6 CS.out.lst 0 (.slice a es.length c) rfl;go_simp;clear hc
     all_goals
      refine zK hK CT.out fun hh=>?_;clear hK K;refine zR 4 rfl fun K hK=>?_;obtain⟨a',c',v9,hrun,ho,hg⟩:=Q5 _ w.heap.size a es.length c _ CS.out.own _ 1 1 _ CR.out (Z8.cells_one _ _ _) (by
       have h1:=congrArg List.length CS.out.evs;have h2:=CS.out.rng.count;have h3:=HNn.out;have h4:(ks.filterMap (evN f J)).length<=ks.length:=List.length_filterMap_le _ _;rw[List.length_map]at h1;rw[List.length_append]at h2;omega) CS.out.bel.size
      have HO3:=zH ho;have HG3:=zH hg;have CL3:=zH (Zc hg CS.out.lst (Zn CS.out.own CS.out.lst (by intro cur;simp)));replace CT:=zH (Zc hg CT.out (fun e=>HP5.out e.symm));clear ho hg;rw[if_pos (by kernel_rfl)];refine ZR _ _ _ rfl _ _ _ rfl rfl hrun ?_;clear hrun;refine zK hK CT.out fun hh=>?_;clear hK K;refine zR 5 rfl fun K hK=>?_;have hc:=Z6 CL3.out 0 (.slice a es.length c) rfl;have hfz:=Zq CL3.out 0;have S9:=zH (CS.out.app (x:=⟨y.n,ta,tc⟩) HE.out HO.out HO3.out HG3.out);have h5:some p5≠some pL:=fun e=>by
       have h1:=CT.out;rw[Option.some.inj e,CL3.out]at h1;cases h1
      replace CT:=zH (Zc (Zp v9 pL 0 (.slice a' (es.length+1) c')) CT.out h5);go_simp;refine zK hK CT.out fun hh=>?_;clear hK K;refine zE ?_;go_wp2;go_roundw
      case rel=>exact⟨_,_,_,_,_,S9⟩
      case measure=>rw[S9.out.rng.left_eq,HM.out];exact HLT.out
   | some z=>
    have HJ:=zH hJ;clear hJ;refine zb fun hh=>?_;refine zw 0 rfl pB 0 ?_;refine zw 1 rfl pB 0 ?_;refine zw 2 rfl pB 1 ?_;refine zS 3 rfl (.map (some bJ)) (fun W h=>by have hc:=Z6 (Z7 h (Z7 CS.out.bel HBN.out)) 1 (.map (some bJ)) rfl;go_simp) ?_;refine zS 4 rfl (.agg #[.int .i64 kh,.int .i64 km]) (fun W h=>by have h0:=Z6 (Z7 h CN.out) 0 (.int .i64 kh) rfl;have h1:=Z6 (Z7 h CN.out) 1 (.int .i64 km) rfl;go_simp) ?_;refine zS 5 rfl (.tuple #[.agg (Z5 z.n z.sa z.sc),.bool true]) (fun W h=>by have hg:(Instr.lookup 106 (.map (some bJ)) (.agg #[.int .i64 kh,.int .i64 km]) true).run zq W = .ok (.tuple #[.agg (Z5 z.n z.sa z.sc),.bool true]) W:=(by have h2:=Js (t:=106) (JT.out.below h) Tryz.underlying106 (Je W) kh km HKok.out;rw[HJ.out]at h2;exact h2);go_simp) ?_;refine zW 6 rfl (.tuple #[.agg (Z5 z.n z.sa z.sc),.bool true]) ?_;refine zW 7 rfl (.agg (Z5 z.n z.sa z.sc)) ?_;refine zW 8 rfl (.bool true) ?_;refine zR 9 rfl fun K hK=>?_;go_simp;refine zK hK ((zd wt).alloc (Nat.le_refl _) _) fun hh=>?_;clear hK K;refine zR 10 rfl fun K hK=>?_;rw[if_pos (by kernel_rfl)];refine ZT 47 _ _ rfl wt.drew.heap.size _ (Z5 z.n z.sa z.sc) 47 rfl rfl (Z9 _ _) (I43.out _ _ _) rfl (Zm _ _ _) ?_;intro w5 h8 hg8 hs8;have b8:Below wt.heap.size wt w5:=((zd wt).alloc (Nat.le_refl _) _).grown hg8 (by simp) (fun q hq=>by cases hq;exact Nat.le_refl _);have C6:Hid (w5.heap[wt.heap.size]? = some (.cells (Z5 z.n z.sa z.sc) 47)):=zH h8;have B8:=zH b8;clear h8 hg8 hs8 b8;simp only[Act.put,lq0,lq1,lq2];refine zK hK B8.out fun hh=>?_;clear hK K;refine zW 11 rfl (.bool true) ?_;refine zE ?_;obtain⟨p6,hp6⟩:=zX (wt.heap.size);rw[hp6.out]at C6 ⊢;replace CS:=zH (CS.out.below B8.out);replace CT:=zH (Z7 B8.out CT.out);replace CQ:=zH (show y.ok w5/\y.n.strokes.length<=1000000 from⟨CQ.out.1.below B8.out,CQ.out.2⟩);clear B8 CN JT hh;go_wp2_with (first
     |(refine zL p5 CT.out ?_))
    refine(Z1F y.n y.sa y.sc _).mono ?_;rintro e w6 ⟨rfl,b6⟩;replace CS:=zH (CS.out.below b6);replace CT:=zH (Z7 b6 CT.out);replace C6:=zH (Z7 b6 C6.out);replace CQ:=zH (show y.ok w6/\y.n.strokes.length<=1000000 from⟨CQ.out.1.below b6,CQ.out.2⟩);clear b6;cases hd:YP y.n
    ·have HE:=zH (show evN f J (kh,km)=none by simp[evN,HF.out,hd]);clear hd;go_wp2;go_roundw
     case rel=>exact⟨_,_,_,_,_,zH (CS.out.skip HE.out)⟩
     case measure=>rw[CS.out.rng.left_eq,HM.out];exact HLT.out
    ·have c4:=Z6 C6.out 4 (.int .i64 z.n.kind) rfl;by_cases hk:z.n.kind=6
     ·have t0:(z.n.kind==6)=true:=by simp[hk]
      have HE:=zH (show evN f J (kh,km)=none by simp[evN,HF.out,HJ.out,hk]);clear hd hk;go_wp2;go_roundw
      case rel=>exact⟨_,_,_,_,_,zH (CS.out.skip HE.out)⟩
      case measure=>rw[CS.out.rng.left_eq,HM.out];exact HLT.out
     ·have t0:(z.n.kind==6)=false:=by simp[hk]
      have HE:=zH (show evN f J (kh,km)=some (J6 y.n z.n)by simp[evN,HF.out,HJ.out,hd,hk]);clear hd hk;obtain⟨kz,hkz⟩:=JF.out _ _ HJ.out;have CZ:=zH (show z.ok w6/\z.n.strokes.length<=1000000 from⟨(RDF.out _ _ hkz).1.below CS.out.bel,(RDF.out _ _ hkz).2⟩);clear hkz;go_wp2_with (first
       |(refine zL p5 CT.out ?_)
       |(refine zL p6 C6.out ?_))
      refine(Z8E y.n z.n y.sa y.sc z.sa z.sc _ CZ.out.1 (by have:=CZ.out.2;omega)).mono ?_;rintro e w7 ⟨qa,qc,rfl,hq,b7⟩;replace CS:=zH (CS.out.below b7);replace CT:=zH (Z7 b7 CT.out);obtain⟨q,hqe⟩:=zX (J6 y.n z.n);have hq':w7.ownsRow w6.heap.size 3 1 (.slice qa q.strokes.length qc) q.strokes.length (q.strokes.map Yq):=by rw[<-hqe.out];exact hq
      have HQL:=zH (show q.strokes.length<=1000000 by rw[<-hqe.out];exact CZ.out.2);rw[hqe.out]at HE ⊢;clear b7 c4 CZ C6 CQ hq;have CQ2:=zH hq';clear hq';have oneQ:=Zm q qa qc;go_upto_region 10 with (first
       |(refine zN p5 (Z5 q qa qc) CT.out ?_))
      have CQ:=zH (show XU (w7.setRow p5 (Z5 q qa qc)) qa q.strokes.length qc q.strokes/\q.strokes.length<=1000000 from⟨ZW.of_own (CQ2.out.kept (Yr w7 p5 (Z5 q qa qc)) (.inr (Zn CQ2.out CT.out (by intro cur;simp)).symm)),HQL.out⟩);replace CS:=zH (CS.out.note (B:=Z5 q qa qc) CT.out HP5.out HG5.out);replace CT:=zH (Yp w7 p5 _ (Z5 q qa qc) _ _ CT.out);clear CQ2;generalize w7.setRow p5 (Z5 q qa qc)=wd at *;refine zp CT.out fun hh=>?_;replace CS:=zH (CS.out.below ((zd wd)));replace CT:=zH (show wd.drew.heap[p5]? = _ from CT.out);replace CQ:=zH (show XU wd.drew qa q.strokes.length qc q.strokes/\q.strokes.length<=1000000 from⟨XU.below CQ.out.1 ((zd wd)),CQ.out.2⟩);refine zT 1 rfl (.agg (Z5 q qa qc)) (zY p5 fun W h=>h) ?_;refine zM [0,2] rfl (fun K hK=>?_) ?_
      focus
       have hc:=Z6 CS.out.lst 0 (.slice a es.length c) rfl;go_simp;clear hc;refine zK hK CT.out fun hh=>?_;clear hK K;refine zR 2 rfl fun K hK=>?_;go_simp;go_at_call 66;refine(VR q qa qc _ CQ.out.1 (by have:=CQ.out.2;omega)).mono ?_;rintro e v8 ⟨ta,tc,rfl,ho,b8⟩;have HO:=zH (Zu ho (show w.heap.size<=_ from CS.out.bel.size));replace CS:=zH (CS.out.below b8);replace CT:=zH (Z7 b8 CT.out);clear ho b8 CQ;dsimp only;refine zK hK CT.out fun hh=>?_;clear hK K;refine zR 3 rfl fun K hK=>?_;rw[if_pos (by kernel_rfl)];refine Xd _ rfl (q) ta tc rfl ?_;have b9:Below v8.heap.size v8 (v8.alloc (.cells (Z5 q ta tc) 47)):=zB _ _;have CR:=zH (Qk v8 (q) ta tc);replace HO:=zH (Zd HO.out b9);replace CS:=zH (CS.out.below b9);replace CT:=zH (Z7 b9 CT.out);clear b9
      rotate_left
      focus
       refine zn fun K hK=>?_;go_simp;go_at_call 66;refine(VR q qa qc _ CQ.out.1 (by have:=CQ.out.2;omega)).mono ?_;rintro e v8 ⟨ta,tc,rfl,ho,b8⟩;have HO:=zH (Zu ho (show w.heap.size<=_ from CS.out.bel.size));replace CS:=zH (CS.out.below b8);replace CT:=zH (Z7 b8 CT.out);clear ho b8 CQ;dsimp only;refine zK hK CT.out fun hh=>?_;clear hK K;refine zM [0,3] rfl (fun K hK=>?_) ?_
       ·have hc:=Z6 CS.out.lst 0 (.slice a es.length c) rfl;go_simp;clear hc;refine zK hK CT.out fun hh=>?_;clear hK K;refine zR 3 rfl fun K hK=>?_;rw[if_pos (by kernel_rfl)];refine Xd _ rfl (q) ta tc rfl ?_;have b9:Below v8.heap.size v8 (v8.alloc (.cells (Z5 q ta tc) 47)):=zB _ _;have CR:=zH (Qk v8 (q) ta tc);replace HO:=zH (Zd HO.out b9);replace CS:=zH (CS.out.below b9);replace CT:=zH (Z7 b9 CT.out);clear b9;refine zK hK CT.out fun hh=>?_;clear hK K;refine zR 4 rfl fun K hK=>?_;obtain⟨a',c',v9,hrun,ho,hg⟩:=Q5 _ w.heap.size a es.length c _ CS.out.own _ 1 1 _ CR.out (Z8.cells_one _ _ _) (by
         have h1:=congrArg List.length CS.out.evs;have h2:=CS.out.rng.count;have h3:=HNn.out;have h4:(ks.filterMap (evN f J)).length<=ks.length:=List.length_filterMap_le _ _;rw[List.length_map]at h1;rw[List.length_append]at h2;omega) CS.out.bel.size
        have HO3:=zH ho;have HG3:=zH hg;have CL3:=zH (Zc hg CS.out.lst (Zn CS.out.own CS.out.lst (by intro cur;simp)));replace CT:=zH (Zc hg CT.out (fun e=>HP5.out e.symm));clear ho hg;rw[if_pos (by kernel_rfl)];refine ZR _ _ _ rfl _ _ _ rfl rfl hrun ?_;clear hrun;refine zK hK CT.out fun hh=>?_;clear hK K;refine zR 5 rfl fun K hK=>?_;have hc:=Z6 CL3.out 0 (.slice a es.length c) rfl;have hfz:=Zq CL3.out 0;have S9:=zH (CS.out.app (x:=⟨q,ta,tc⟩) HE.out HO.out HO3.out HG3.out);have h5:some p5≠some pL:=fun e=>by
         have h1:=CT.out;rw[Option.some.inj e,CL3.out]at h1;cases h1
        replace CT:=zH (Zc (Zp v9 pL 0 (.slice a' (es.length+1) c')) CT.out h5);go_simp;refine zK hK CT.out fun hh=>?_;clear hK K;refine zE ?_;go_wp2;go_roundw
        case rel=>exact⟨_,_,_,_,_,S9⟩
        case measure=>rw[S9.out.rng.left_eq,HM.out];exact HLT.out
       refine zn fun K hK=>?_;rw[if_pos (by kernel_rfl)];refine Xd _ rfl (q) ta tc rfl ?_;have b9:Below v8.heap.size v8 (v8.alloc (.cells (Z5 q ta tc) 47)):=zB _ _;have CR:=zH (Qk v8 (q) ta tc);replace HO:=zH (Zd HO.out b9);replace CS:=zH (CS.out.below b9);replace CT:=zH (Z7 b9 CT.out);clear b9;refine zK hK CT.out fun hh=>?_;clear hK K;refine zR 0 rfl fun K hK=>?_;have hc:=Z6 CS.out.lst 0 (.slice a es.length c) rfl;go_simp;clear hc
      all_goals
       refine zK hK CT.out fun hh=>?_;clear hK K;refine zR 4 rfl fun K hK=>?_;obtain⟨a',c',v9,hrun,ho,hg⟩:=Q5 _ w.heap.size a es.length c _ CS.out.own _ 1 1 _ CR.out (Z8.cells_one _ _ _) (by
        have h1:=congrArg List.length CS.out.evs;have h2:=CS.out.rng.count;have h3:=HNn.out;have h4:(ks.filterMap (evN f J)).length<=ks.length:=List.length_filterMap_le _ _;rw[List.length_map]at h1;rw[List.length_append]at h2;omega) CS.out.bel.size
       have HO3:=zH ho;have HG3:=zH hg;have CL3:=zH (Zc hg CS.out.lst (Zn CS.out.own CS.out.lst (by intro cur;simp)));replace CT:=zH (Zc hg CT.out (fun e=>HP5.out e.symm));clear ho hg;rw[if_pos (by kernel_rfl)];refine ZR _ _ _ rfl _ _ _ rfl rfl hrun ?_;clear hrun;refine zK hK CT.out fun hh=>?_;clear hK K;refine zR 5 rfl fun K hK=>?_;have hc:=Z6 CL3.out 0 (.slice a es.length c) rfl;have hfz:=Zq CL3.out 0;have S9:=zH (CS.out.app (x:=⟨q,ta,tc⟩) HE.out HO.out HO3.out HG3.out);have h5:some p5≠some pL:=fun e=>by
        have h1:=CT.out;rw[Option.some.inj e,CL3.out]at h1;cases h1
       replace CT:=zH (Zc (Zp v9 pL 0 (.slice a' (es.length+1) c')) CT.out h5);go_simp;refine zK hK CT.out fun hh=>?_;clear hK K;refine zE ?_;go_wp2;go_roundw
       case rel=>exact⟨_,_,_,_,_,S9⟩
       case measure=>rw[S9.out.rng.left_eq,HM.out];exact HLT.out
end
def Xz (l:List XH):List Value:=(l.map XH.cells).flatten
theorem Z1E (l:List XH)(e:XH):Xz (l ++ [e])=Xz l ++ e.cells:=by simp[Xz]
theorem Z4J (w:World)(b0 b1 a0 a1 a2 a3 a4 a5 a6 a7 a8 a9 a10 a11 a12 a13 a14 a15 a16 a17 a18:Value):
  (Instr.buildSlice 74 1 #[(0,.agg #[b0,b1,a0,a1,a2,a3,a4,a5,a6,a7,a8,a9,a10,a11,a12,a13,a14,a15,a16,a17,a18])]).run zq w = .ok (.slice (some ⟨w.heap.size,0,none⟩) 1 1) (w.alloc (.cells #[b0,b1,a0,a1,a2,a3,a4,a5,a6,a7,a8,a9,a10,a11,a12,a13,a14,a15,a16,a17,a18] 210)):=by
 kernel_rfl
theorem Z5O (w:World)(e:XH):(Instr.buildSlice 74 1 #[(0,.agg (Ji e))]).run zq w = .ok (.slice (some ⟨w.heap.size,0,none⟩) 1 1) (w.alloc (.cells (Ji e) 210)):=Z4J w ..
theorem QK {op:Oper}{a:Act}{w:World}{K:Act->World->Prop}{Q:Exit->Act->World->Prop}(x:Operand)(ho:op.op = .buildSlice 74 1 #[(0,x)])(e:XH)(hx:a.eval x = .agg (Ji e))
  (h:K (a.put op.dst (.slice (some ⟨w.heap.size,0,none⟩) 1 1)) (w.alloc (.cells (Ji e) 210))):op.wp zq a w K Q:=by
 have e1:=Z5O w e;unfold Oper.wp execOp;simp[ho,hx,e1,Result.andThen];exact h
theorem Zdx:(zq.info? 210).map (fun i=>(i.zero,i.size,i.bytes))=some (some (.agg (Ji ⟨(0,0),⟨Zh,none,0⟩⟩)),21,184):=by kernel_rfl
theorem Z3D (w:World)(base:Nat)(sa:zA)(sn sc:Nat)(xs:List Value)(hown:w.ownsRow base 210 21 (.slice sa sn sc) sn xs)(xa:zA)(m xc:Nat)(ys:List Value)(hrd:ZW w 21 xa m xc ys)(h1 : ∀u∈ys,u.oneCell'=true)
  (hbytes:(sn+m) * 184<=140737488355328) (hbase:base<=w.heap.size):
  ∃a' c' w',(Builtin.append_ #[74,74] 74 #[.slice sa sn sc,.slice xa m xc]).run zq w = .ok (.slice a' (sn+m) c') w'/\w'.ownsRow base 210 21 (.slice a' (sn+m) c') (sn+m) (xs ++ ys)/\w.grownBy w' (Value.ownBlock (.slice sa sn sc))/\(a'=sa\/a'=some ⟨w.heap.size,0,none⟩):=by
 obtain⟨i,hi,hz0,hz1,hz2⟩:=info_parts Zdx;obtain⟨a',c',w',h2,h3,h4⟩:=Yk w base 74 74 210 i _ 21 184 Tryz.underlying74 hi hz0 hz1 hz2 rfl (by decide) sa sn sc xs hown xa m xc ys hrd h1 (by unfold maxLen;omega) hbytes hbase;have hloc:=Qd (P:=zq) w base 74 74 210 i _ 21 184 Tryz.underlying74 hi hz0 hz1 hz2 sa sn sc xs hown xa m xc ys hrd h1 (by unfold maxLen;omega) hbytes _ _ h2;refine⟨a',c',w',h2,h3,h4,?_⟩;rcases hloc with ⟨n',c'',h⟩ | ⟨n',c'',h⟩
 ·simp only[Value.slice.injEq]at h;exact .inl h.1
 ·simp only[Value.slice.injEq]at h;exact .inr h.1
theorem Z62 (W:World)(e:XH):ZW (W.alloc (.cells (Ji e) 210)) 21 (some ⟨W.heap.size,0,none⟩) 1 1 e.cells:=
 ZW.of_own (World.ownsRow_lit (base:=W.heap.size) (e:=210) (size:=21) W (Ji e) 1 (Nat.le_refl _) (by unfold maxLen;omega) rfl)
structure XR (base:Nat)(W:World)(p:Nat)(ha:zA)(hc:Nat)(ea:zA)(ec:Nat)(ca:zA)(cc:Nat)(hs es:List XH)(cs:List Nm):Prop where
 blk:W.heap[p]? = some (.cells #[.slice ha hs.length hc,.slice ea es.length ec,.slice ca cs.length cc] 77)
 hown:W.ownsRow base 210 21 (.slice ha hs.length hc) hs.length (Xz hs)
 eown:W.ownsRow base 210 21 (.slice ea es.length ec) es.length (Xz es)
 cown:W.ownsRow base 45 2 (.slice ca cs.length cc) cs.length (ZC cs)
 dis:Value.ownBlock (.slice ha hs.length hc)=none\/Value.ownBlock (.slice ha hs.length hc)≠Value.ownBlock (.slice ea es.length ec)
section
variable {base:Nat}{W W':World}{p:Nat}{ha:zA}{hc:Nat}{ea:zA}{ec:Nat}{ca:zA}{cc:Nat}{hs es:List XH}{cs:List Nm}
theorem XR.below (h:XR base W p ha hc ea ec ca cc hs es cs)(hb:Below W.heap.size W W'):XR base W' p ha hc ea ec ca cc hs es cs:=
 ⟨Z7 hb h.blk,Zd h.hown hb,Zd h.eown hb,Zd h.cown hb,h.dis⟩
theorem XR.lt (h:XR base W p ha hc ea ec ca cc hs es cs):p < W.heap.size:=Zj h.blk
theorem XR.addE {e:XH}{a':zA}{c':Nat}(h:XR base W p ha hc ea ec ca cc hs es cs)(ho:W'.ownsRow base 210 21 (.slice a' (es.length+1) c') (es.length+1) (Xz es ++ e.cells))(hg:W.grownBy W' (Value.ownBlock (.slice ea es.length ec)))(hl:a'=ea\/a'=some ⟨W.heap.size,0,none⟩):
  XR base (W'.setCell ⟨p,1,none⟩ (.slice a' (es.length+1) c')) p ha hc a' c' ca cc hs (es ++ [e]) cs/\Za (fun k=>k=p\/Value.ownBlock (.slice ea es.length ec)=some k) W (W'.setCell ⟨p,1,none⟩ (.slice a' (es.length+1) c')):=by
 have hb2:=Zc hg h.blk (Zn h.eown h.blk (by intro cur;simp));have G:=Zp W' p 1 (.slice a' (es.length+1) c');refine⟨⟨?_,?_,?_,?_,?_⟩,(Za.of_grown hg (fun k e=>.inr e)).trans (Za.of_grown G (fun k e=>by cases e;exact .inl rfl))⟩
 ·rw[ZI hb2 1 (.slice a' (es.length+1) c'),List.length_append];rfl
 ·have h1:=h.hown.kept hg h.dis;exact h1.kept G (.inr (Zn h1 hb2 (by intro cur;simp)).symm)
 ·rw[Z1E,List.length_append];exact ho.kept G (.inr (Zn ho hb2 (by intro cur;simp)).symm)
 ·have h1:=h.cown.kept hg (JG h.cown h.eown (by decide));exact h1.kept G (.inr (Zn h1 hb2 (by intro cur;simp)).symm)
 ·rw[List.length_append];rcases hl with rfl | rfl
  ·rcases h.dis with hd | hd
   ·exact .inl hd
   ·exact .inr (by cases a' <;> exact hd)
  ·cases hq:Value.ownBlock (.slice ha hs.length hc)with
   | none=>exact .inl rfl
   | some k=>
    have:=(h.hown.lt k hq).2;exact .inr (by simp only[Value.ownBlock,ne_eq,Option.some.injEq];omega)
theorem XR.addH {e:XH}{a':zA}{c':Nat}(h:XR base W p ha hc ea ec ca cc hs es cs)(ho:W'.ownsRow base 210 21 (.slice a' (hs.length+1) c') (hs.length+1) (Xz hs ++ e.cells))(hg:W.grownBy W' (Value.ownBlock (.slice ha hs.length hc)))(hl:a'=ha\/a'=some ⟨W.heap.size,0,none⟩):
  XR base (W'.setCell ⟨p,0,none⟩ (.slice a' (hs.length+1) c')) p a' c' ea ec ca cc (hs ++ [e]) es cs/\Za (fun k=>k=p\/Value.ownBlock (.slice ha hs.length hc)=some k) W (W'.setCell ⟨p,0,none⟩ (.slice a' (hs.length+1) c')):=by
 have hb2:=Zc hg h.blk (Zn h.hown h.blk (by intro cur;simp));have G:=Zp W' p 0 (.slice a' (hs.length+1) c');have hd2:Value.ownBlock (.slice ea es.length ec)=none\/Value.ownBlock (.slice ea es.length ec)≠Value.ownBlock (.slice ha hs.length hc):=by
  rcases h.dis with hd | hd
  ·cases hq:Value.ownBlock (.slice ea es.length ec)with
   | none=>exact .inl rfl
   | some k=>exact .inr (by rw[hd];simp)
  ·exact .inr (fun e=>hd e.symm)
 refine⟨⟨?_,?_,?_,?_,?_⟩,(Za.of_grown hg (fun k e=>.inr e)).trans (Za.of_grown G (fun k e=>by cases e;exact .inl rfl))⟩
 ·rw[ZI hb2 0 (.slice a' (hs.length+1) c'),List.length_append];rfl
 ·rw[Z1E,List.length_append];exact ho.kept G (.inr (Zn ho hb2 (by intro cur;simp)).symm)
 ·have h1:=h.eown.kept hg hd2;exact h1.kept G (.inr (Zn h1 hb2 (by intro cur;simp)).symm)
 ·have h1:=h.cown.kept hg (JG h.cown h.hown (by decide));exact h1.kept G (.inr (Zn h1 hb2 (by intro cur;simp)).symm)
 ·rw[List.length_append];rcases hl with rfl | rfl
  ·rcases h.dis with hd | hd
   ·exact .inl (by cases a' <;> exact hd)
   ·exact .inr (by cases a' <;> exact hd)
  ·refine .inr (fun e=>?_);have:=(h.eown.lt W.heap.size e.symm).2;omega
end
theorem Z98 (e:XH)(base:Nat)(p:Nat)(ha:zA)(hc:Nat)(ea:zA)(ec:Nat)(ca:zA)(cc:Nat)(hs es:List XH)(cs:List Nm)(W:World)(h:XR base W p ha hc ea ec ca cc hs es cs)(hbase:base<=W.heap.size)(hsz:es.length<=1000000):
  Calls zq 216 #[.pointer (some ⟨p,0,none⟩),.agg (Ji e)] W fun r W'=>r = .returned (.bool true) /\ ∃a' c',XR base W' p ha hc a' c' ca cc hs (es ++ [e]) cs/\Za (fun k=>k=p\/Value.ownBlock (.slice ea es.length ec)=some k) W W':=by
 have I21:=zH (show ∀(x:XH),(zq.info? 210).map (·.size)=some (Ji x).size from fun x=>by kernel_rfl);have B1:=zH (zB W (.cells (Ji e) 210));have CT:=zH (Z9 W (.cells (Ji e) 210));have R1:=zH (h.below B1.out);have R0:=zH h;have HB1:Hid (base<=(W.alloc (.cells (Ji e) 210)).heap.size):=zH (Nat.le_trans hbase B1.out.size);have HS:=zH hsz;clear h hbase hsz;go_enter Tryz.func216,Tryz.ntmps216;go_upto_region 1 with fail;obtain⟨p3,hp3⟩:=zX (W.heap.size);have HNE:=zH (show Value.ownBlock (.slice ea es.length ec)≠some p3 from fun e2=>by have h1:=(R0.out.eown.lt p3 e2).2;have h2:=hp3.out;omega);rw[hp3.out]at CT ⊢;generalize W.alloc (.cells (Ji e) 210)=W1 at *;refine zp CT.out fun hh=>?_;have B2:=zH (B1.out.trans ((zd W1).mono B1.out.size));have R2:=zH (R1.out.below ((zd W1)));have HB2:Hid (base<=W1.drew.heap.size):=HB1;replace CT:=zH (show W1.drew.heap[p3]? = _ from CT.out);clear R1 B1 HB1;generalize W1.drew=V at *;refine zw 0 rfl p 0 ?_;refine zw 1 rfl p 0 ?_;refine zw 2 rfl p 0 ?_;refine zw 3 rfl p 1 ?_;refine zT 5 rfl (.agg (Ji e)) (YB (by kernel_rfl) 210 _ rfl p3 rfl _ 210 (0,0) _ (fun W h=>h) Tryz.underlying210 rfl (I21.out _)) ?_;refine zM [4,6] rfl (fun K hK=>?_) ?_
 focus
  have hcl:=Z6 R2.out.blk 1 (.slice ea es.length ec) rfl;go_simp;clear hcl;refine zK hK CT.out fun hh=>?_;clear hK K;refine zR 6 rfl fun K hK=>?_;rw[if_pos (by kernel_rfl)];refine QK _ rfl e rfl ?_;have b9:Below V.heap.size V (V.alloc (.cells (Ji e) 210)):=zB _ _;have CR:=zH (Z62 V e);replace B2:=zH (B2.out.trans (b9.mono B2.out.size));replace R2:=zH (R2.out.below b9);replace HB2:=zH (Nat.le_trans HB2.out b9.size);replace CT:=zH (Z7 b9 CT.out);clear b9;generalize V.alloc (.cells (Ji e) 210)=V2 at *
 rotate_left
 focus
  refine zn fun K hK=>?_;rw[if_pos (by kernel_rfl)];refine QK _ rfl e rfl ?_;have b9:Below V.heap.size V (V.alloc (.cells (Ji e) 210)):=zB _ _;have CR:=zH (Z62 V e);replace B2:=zH (B2.out.trans (b9.mono B2.out.size));replace R2:=zH (R2.out.below b9);replace HB2:=zH (Nat.le_trans HB2.out b9.size);replace CT:=zH (Z7 b9 CT.out);clear b9;generalize V.alloc (.cells (Ji e) 210)=V2 at *;refine zK hK CT.out fun hh=>?_;clear hK K;refine zR 4 rfl fun K hK=>?_;have hcl:=Z6 R2.out.blk 1 (.slice ea es.length ec) rfl;go_simp;clear hcl
 all_goals
  refine zK hK CT.out fun hh=>?_;clear hK K;refine zR 7 rfl fun K hK=>?_;obtain⟨a',c',v9,hrun,ho,hg,hl⟩:=Z3D _ base ea es.length ec _ R2.out.eown _ 1 1 _ CR.out (Z6b e) (by have:=HS.out;omega) HB2.out;have HN:=zH (R2.out.addE ho hg hl);have CL3:=zH (Zc hg R2.out.blk (Zn R2.out.eown R2.out.blk (by intro cur;simp)));replace CT:Hid (v9.heap[p3]? = some (.cells (Ji e) 210)):=zH (Zc hg CT.out (fun e2=>HNE.out e2.symm));clear ho hg hl;rw[if_pos (by kernel_rfl)];refine ZR _ _ _ rfl _ _ _ rfl rfl hrun ?_;clear hrun;refine zK hK CT.out fun hh=>?_;clear hK K;refine zw 8 rfl p 0 ?_;refine zw 9 rfl p 1 ?_;refine zR 10 rfl fun K hK=>?_;have hcl:=Z6 CL3.out 1 (.slice ea es.length ec) rfl;have hfz:=Zq CL3.out 1;have h5:some p3≠some p:=fun e2=>by
   have h1:=CT.out;rw[Option.some.inj e2,CL3.out]at h1;cases h1
  replace CT:=zH (Zc (Zp v9 p 1 (.slice a' (es.length+1) c')) CT.out h5);go_simp;refine zK hK CT.out fun hh=>?_;clear hK K;refine zE ?_;go_wp2;go_ret;exact⟨rfl,a',c',HN.out.1,(Za.of_below B2.out).trans HN.out.2⟩
theorem Zcm (args:ZV)(w:World):(callFunc 216 args).run zq w = .ok (.enter 216 args) w:=by kernel_rfl
theorem Z7k (e:XH)(base:Nat)(p:Nat)(ha:zA)(hc:Nat)(ea:zA)(ec:Nat)(ca:zA)(cc:Nat)(hs es:List XH)(cs:List Nm)(W:World)(h:XR base W p ha hc ea ec ca cc hs es cs)(hbase:base<=W.heap.size)(hsz:hs.length<=1000000):
  Calls zq 217 #[.pointer (some ⟨p,0,none⟩),.agg (Ji e)] W fun r W'=>(hs.length=8/\r = .returned (.bool false)/\Below W.heap.size W W')\/(hs.length≠8/\r = .returned (.bool true) /\ ∃a' c',XR base W' p a' c' ea ec ca cc (hs ++ [e]) es cs/\Za (fun k=>k=p\/Value.ownBlock (.slice ha hs.length hc)=some k) W W'):=by
 have I21:=zH (show ∀(x:XH),(zq.info? 210).map (·.size)=some (Ji x).size from fun x=>by kernel_rfl);have B1:=zH (zB W (.cells (Ji e) 210));have CT:=zH (Z9 W (.cells (Ji e) 210));have R1:=zH (h.below B1.out);have R0:=zH h;have HB1:Hid (base<=(W.alloc (.cells (Ji e) 210)).heap.size):=zH (Nat.le_trans hbase B1.out.size);have HS:=zH hsz;clear h hbase hsz;go_enter Tryz.func217,Tryz.ntmps217;go_upto_region 1 with fail;obtain⟨p3,hp3⟩:=zX (W.heap.size);have HNE:=zH (show Value.ownBlock (.slice ha hs.length hc)≠some p3 from fun e2=>by have h1:=(R0.out.hown.lt p3 e2).2;have h2:=hp3.out;omega);rw[hp3.out]at CT ⊢;generalize W.alloc (.cells (Ji e) 210)=W1 at *;have c0:=Z6 R1.out.blk 0 (.slice ha hs.length hc) rfl;by_cases h8:hs.length=8
 ·have t0:((hs.length:Int)==8)=true:=by simp;omega
  have H8:=zH h8;clear h8;go_wp2;go_ret;exact .inl ⟨H8.out,rfl,B1.out⟩
 ·have t0:((hs.length:Int)==8)=false:=by simp;omega
  have H8:=zH h8;clear h8;go_upto_region 3 with fail;clear c0 t0;refine zp CT.out fun hh=>?_;have B2:=zH (B1.out.trans ((zd W1).mono B1.out.size));have R2:=zH (R1.out.below ((zd W1)));have HB2:Hid (base<=W1.drew.heap.size):=HB1;replace CT:=zH (show W1.drew.heap[p3]? = _ from CT.out);clear R1 B1 HB1;generalize W1.drew=V at *;refine zw 0 rfl p 0 ?_;refine zw 1 rfl p 0 ?_;refine zw 2 rfl p 0 ?_;refine zw 3 rfl p 0 ?_;refine zT 5 rfl (.agg (Ji e)) (YB (by kernel_rfl) 210 _ rfl p3 rfl _ 210 (0,0) _ (fun W h=>h) Tryz.underlying210 rfl (I21.out _)) ?_;refine zM [4,6] rfl (fun K hK=>?_) ?_
  focus
   have hcl:=Z6 R2.out.blk 0 (.slice ha hs.length hc) rfl;go_simp;clear hcl;refine zK hK CT.out fun hh=>?_;clear hK K;refine zR 6 rfl fun K hK=>?_;rw[if_pos (by kernel_rfl)];refine QK _ rfl e rfl ?_;have b9:Below V.heap.size V (V.alloc (.cells (Ji e) 210)):=zB _ _;have CR:=zH (Z62 V e);replace B2:=zH (B2.out.trans (b9.mono B2.out.size));replace R2:=zH (R2.out.below b9);replace HB2:=zH (Nat.le_trans HB2.out b9.size);replace CT:=zH (Z7 b9 CT.out);clear b9;generalize V.alloc (.cells (Ji e) 210)=V2 at *
  rotate_left
  focus
   refine zn fun K hK=>?_;rw[if_pos (by kernel_rfl)];refine QK _ rfl e rfl ?_;have b9:Below V.heap.size V (V.alloc (.cells (Ji e) 210)):=zB _ _;have CR:=zH (Z62 V e);replace B2:=zH (B2.out.trans (b9.mono B2.out.size));replace R2:=zH (R2.out.below b9);replace HB2:=zH (Nat.le_trans HB2.out b9.size);replace CT:=zH (Z7 b9 CT.out);clear b9;generalize V.alloc (.cells (Ji e) 210)=V2 at *;refine zK hK CT.out fun hh=>?_;clear hK K;refine zR 4 rfl fun K hK=>?_;have hcl:=Z6 R2.out.blk 0 (.slice ha hs.length hc) rfl;go_simp;clear hcl
  all_goals
   refine zK hK CT.out fun hh=>?_;clear hK K;refine zR 7 rfl fun K hK=>?_;obtain⟨a',c',v9,hrun,ho,hg,hl⟩:=Z3D _ base ha hs.length hc _ R2.out.hown _ 1 1 _ CR.out (Z6b e) (by have:=HS.out;omega) HB2.out;have HN:=zH (R2.out.addH ho hg hl);have CL3:=zH (Zc hg R2.out.blk (Zn R2.out.hown R2.out.blk (by intro cur;simp)));replace CT:Hid (v9.heap[p3]? = some (.cells (Ji e) 210)):=zH (Zc hg CT.out (fun e2=>HNE.out e2.symm));clear ho hg hl;rw[if_pos (by kernel_rfl)];refine ZR _ _ _ rfl _ _ _ rfl rfl hrun ?_;clear hrun;refine zK hK CT.out fun hh=>?_;clear hK K;refine zw 8 rfl p 0 ?_;refine zw 9 rfl p 0 ?_;refine zR 10 rfl fun K hK=>?_;have hcl:=Z6 CL3.out 0 (.slice ha hs.length hc) rfl;have hfz:=Zq CL3.out 0;have h5:some p3≠some p:=fun e2=>by
    have h1:=CT.out;rw[Option.some.inj e2,CL3.out]at h1;cases h1
   replace CT:=zH (Zc (Zp v9 p 0 (.slice a' (hs.length+1) c')) CT.out h5);go_simp;refine zK hK CT.out fun hh=>?_;clear hK K;refine zE ?_;go_wp2;go_ret;exact .inr ⟨H8.out,rfl,a',c',HN.out.1,(Za.of_below B2.out).trans HN.out.2⟩
open Go.Maps (Keyed)
theorem JI:Keyed zq 3:=Go.Maps.int_keyed Tryz.underlying3
def UI:Value := .func (.func 216) #[] #[]
def Z7u:Value := .func (.func 217) #[] #[]
def Z7t (q:Nat):Value := .func (.func 218) #[] #[.pointer (some ⟨q,0,none⟩)]
def ZaR (q:Nat):DataW Value:=((((DataW.map []).put (.int .i64 1) (.held Z7u)).put (.int .i64 2) (.held (Z7t q))).put (.int .i64 3) (.held UI)).put (.int .i64 4) (.held UI)
def Yu (W:World)(bT q:Nat):Prop:=W.heap[q]? = some (.cells #[UI] 250)/\W.ownsMap zq 3 JV bT 4 (ZaR q)
theorem Yu.of_blocks {W W':World}{bT q:Nat}(h:Yu W bT q)(h1:W'.heap[q]? = W.heap[q]?)(h2:W'.heap[bT]? = W.heap[bT]?):Yu W' bT q:=by
 obtain⟨h3,es,clock,h4,h5⟩:=h;exact⟨h1.trans h3,es,clock,h2.trans h4,h5⟩
theorem Yu.lt {W:World}{bT q:Nat}(h:Yu W bT q):q < W.heap.size/\bT < W.heap.size:=⟨Zj h.1,h.2.lt⟩
theorem Yu.below {W W':World}{bT q:Nat}(h:Yu W bT q)(hb:Below W.heap.size W W'):Yu W' bT q:=h.of_blocks (hb.block q h.lt.1) (hb.block bT h.lt.2)
theorem Zay (w:World):(zeroValue 250).run zq w = .ok .nilFunc w:=by kernel_rfl
theorem Yu.look {W:World}{bT q:Nat}(h:Yu W bT q)(k:Int)(v:Value)(hk:keyOf zq 3 (.int .i64 k)=some (.int .i64 k))(hv:(ZaR q).atKey (.int .i64 k) (.held .nilFunc) = .held v):
  (Instr.lookup 245 (.map (some bT)) (.int .i64 k) false).run zq W = .ok v W:=by
 obtain⟨v',ps,h1,h2⟩:=h.2.lookup JI Tryz.underlying245 (Zay W) (zd := .held .nilFunc) (zp:=[]) rfl hk;rw[hv]at h2;simp only[JV,Option.some.injEq,Prod.mk.injEq,DataW.held.injEq]at h2;rw[h1,h2.1]
theorem Yu.at1 {W:World}{bT q:Nat}(h:Yu W bT q):(Instr.lookup 245 (.map (some bT)) (.int .i64 1) false).run zq W = .ok Z7u W:=h.look 1 _ (by kernel_rfl) (by rfl)
theorem Yu.at2 {W:World}{bT q:Nat}(h:Yu W bT q):(Instr.lookup 245 (.map (some bT)) (.int .i64 2) false).run zq W = .ok (Z7t q) W:=h.look 2 _ (by kernel_rfl) (by rfl)
theorem Yu.at3 {W:World}{bT q:Nat}(h:Yu W bT q):(Instr.lookup 245 (.map (some bT)) (.int .i64 3) false).run zq W = .ok UI W:=h.look 3 _ (by kernel_rfl) (by rfl)
theorem Yu.at4 {W:World}{bT q:Nat}(h:Yu W bT q):(Instr.lookup 245 (.map (some bT)) (.int .i64 4) false).run zq W = .ok UI W:=h.look 4 _ (by kernel_rfl) (by rfl)
theorem Z1w {w w':World}{b p:Nat}{o:Obj}(h:w.mapTurned w' b)(hp:w.heap[p]? = some o)(hne:p≠b):w'.heap[p]? = some o:=Zc h.grown hp (fun e=>hne (Option.some.inj e))
theorem Z7y (w:World):Calls zq 192 #[] w fun e w' => ∃bT q,e = .returned (.map (some bT))/\Yu w' bT q/\Below w.heap.size w w'/\w.heap.size<=q/\w.heap.size<=bT:=by
 have hmf : ∀(fn:Fn) (first cap:ZV) (w:World),(Instr.makeFunc fn first cap).run zq w = .ok (.func fn first cap) w:=fun _ _ _ _=>rfl;have hmm := @run_makeMap zq;have ht:zq.underlying 245=some (.map 3 250):=Tryz.underlying245;have q0:=Zb _ (.map #[] 0) _ _ (Z9 w (.cells #[UI] 250));have m0:=World.ownsMap_made (w.alloc (.cells #[UI] 250)) zq 3 JV;have b0:Below w.heap.size w ((w.alloc (.cells #[UI] 250)).alloc (.map #[] 0)):=(zB _ _).alloc (by simp) _;have hz:(w.alloc (.cells #[UI] 250)).heap.size=w.heap.size+1:=by simp
 rw[hz]at m0;obtain⟨w1,r1,m1,t1⟩:=m0.store JI ht (by unfold maxLen;omega) (key := .int .i64 1) (kl := .int .i64 1) (by kernel_rfl) (val:=Z7u) (d := .held Z7u) (ps:=[]) rfl;have q1:=Z1w t1 q0 (by omega);obtain⟨w2,r2,m2,t2⟩:=m1.store JI ht (by unfold maxLen;omega) (key := .int .i64 2) (kl := .int .i64 2) (by kernel_rfl) (val:=Z7t w.heap.size) (d := .held (Z7t w.heap.size)) (ps:=[]) rfl;have q2:=Z1w t2 q1 (by omega);obtain⟨w3,r3,m3,t3⟩:=m2.store JI ht (by unfold maxLen;omega) (key := .int .i64 3) (kl := .int .i64 3) (by kernel_rfl) (val:=UI) (d := .held UI) (ps:=[]) rfl;have q3:=Z1w t3 q2 (by omega);obtain⟨w4,r4,m4,t4⟩:=m3.store JI ht (by unfold maxLen;omega) (key := .int .i64 4) (kl := .int .i64 4) (by kernel_rfl) (val:=UI) (d := .held UI) (ps:=[]) rfl;have q4:=Z1w t4 q3 (by omega);have hb:Hid (Below w.heap.size w w4):=zH (by
  have g : ∀{a b:World},Below w.heap.size w a->a.mapTurned b (w.heap.size+1)->w.heap.size<=a.heap.size->Below w.heap.size w b:=fun h t hle=>h.grown t.grown hle (fun k e=>by cases e;omega);have h1:=g b0 t1 b0.size;have h2:=g h1 t2 h1.size;have h3:=g h2 t3 h2.size;exact g h3 t4 h3.size)
 have hT:Hid (Yu w4 (w.heap.size+1) w.heap.size):=zH ⟨q4,m4⟩;have c2:=Z6 q2 0 UI rfl;have c3:=Z6 q3 0 UI rfl;clear q0 q1 q2 q3 q4 m0 m1 m2 m3 m4 t1 t2 t3 t4 b0 hz ht;unfold UI at *;unfold Z7u Z7t at *;go_enter Tryz.func192,Tryz.ntmps192;go_wp2;go_ret;exact⟨_,_,rfl,hT.out,hb.out,Nat.le_refl _,by omega⟩
structure Jb where
 hs:List XH
 es:List XH
 cs:List Nm
def zk (R:Jb)(e:XH):Bool:=if e.x.n.kind=1 then decide (R.hs.length≠8)else if e.x.n.kind=2 then decide (¬Z0g R.hs (Z0f e.x.n.refH e.x.n.refN) < 0)else true
def U2 (R:Jb)(e:XH):Jb:=if zk R e=true then (if e.x.n.kind=1 then { R with hs:=R.hs ++ [e] } else { R with es:=R.es ++ [e] })else R
def Yi (day:Int)(R:Jb)(e:XH):Jb:=if e.x.n.day<=day then (if zk R e=true then U2 R e else { R with cs:=R.cs ++ [e.nm] })else R
def Xl (day:Int)(l:List XH):Jb:=l.foldl (Yi day) ⟨[],[],[]⟩
theorem Z84 (day:Int)(l:List XH)(e:XH):Xl day (l ++ [e])=Yi day (Xl day l) e:=by simp[Xl,List.foldl_append]
theorem ZbO (R:Jb)(e:XH):(U2 R e).hs.length+(U2 R e).es.length+(U2 R e).cs.length<=R.hs.length+R.es.length+R.cs.length+1:=by
 unfold U2;split <;> (try split) <;> simp <;> omega
theorem Z6P (day:Int)(R:Jb)(e:XH):(Yi day R e).hs.length+(Yi day R e).es.length+(Yi day R e).cs.length<=R.hs.length+R.es.length+R.cs.length+1:=by
 unfold Yi;split
 ·split
  ·exact ZbO R e
  ·simp;omega
 ·omega
theorem Z2K (day:Int): ∀(l:List XH) (R:Jb),(l.foldl (Yi day) R).hs.length+(l.foldl (Yi day) R).es.length+(l.foldl (Yi day) R).cs.length<=R.hs.length+R.es.length+R.cs.length+l.length
 | [],R=>by simp
 | e :: l,R=>by
  have h1:=Z2K day l (Yi day R e)
  have h2:=Z6P day R e
  simp only[List.foldl_cons,List.length_cons]
  omega
theorem Z59 (day:Int)(l:List XH):(Xl day l).hs.length+(Xl day l).es.length+(Xl day l).cs.length<=l.length:=by
 have:=Z2K day l ⟨[],[],[]⟩;simpa [Xl] using this
def Z7N (base:Nat)(W:World)(p:Nat)(R:Jb):Prop := ∃ha hc ea ec ca cc,XR base W p ha hc ea ec ca cc R.hs R.es R.cs
theorem Z7N.below {base p:Nat}{W W':World}{R:Jb}(h:Z7N base W p R)(hb:Below W.heap.size W W'):Z7N base W' p R:=by
 obtain⟨ha,hc,ea,ec,ca,cc,h⟩:=h;exact⟨ha,hc,ea,ec,ca,cc,h.below hb⟩
abbrev ZeS (base p:Nat):Nat->Prop:=fun k=>k=p\/base<=k
theorem Ut.of_own {W:World}{base:Nat}{a:zA}{c:Nat}{l:List XH}(h:W.ownsRow base 210 21 (.slice a l.length c) l.length (Xz l)):Ut W a l.length c l:=by
 have h:=ZW.of_own h;refine⟨rfl,h.le,h.max,h.2.2.2.imp id ?_⟩;rintro⟨b,off,rfl,h4⟩;refine⟨b,off,rfl,fun i x hx j v hv=>?_⟩;have hj:j < 21:=(List.getElem?_eq_some_iff.1 hv).1;have h5:=Ug 21 (l.map XH.cells) (by intro r hr;obtain⟨y,_,rfl⟩:=List.mem_map.1 hr;rfl) i x.cells (by rw[List.getElem?_map,hx];rfl) j hj;have h6:=h4 (i * 21+j) v (h5.trans hv);rwa [<-Nat.add_assoc]at h6
theorem Z4U (hs:List XH)(h m:Int): ∃i0 e0:Int,Z1B hs h m = #[.int .i64 i0,.int .i64 e0]/\(Z0g hs (Z0f h m) < 0->e0=3)/\(¬Z0g hs (Z0f h m) < 0->e0=0):=by
 unfold Z1B;by_cases hlt:Z0g hs (Z0f h m) < 0
 ·exact⟨0,3,by rw[if_pos hlt],fun _=>rfl,fun h=>absurd hlt h⟩
 ·exact⟨_,0,by rw[if_neg hlt],fun h=>absurd h hlt,fun _=>rfl⟩
theorem Z6T (e:XH)(base:Nat)(p:Nat)(ha:zA)(hc:Nat)(ea:zA)(ec:Nat)(ca:zA)(cc:Nat)(hs es:List XH)(cs:List Nm)(q:Nat)(W:World)(h:XR base W p ha hc ea ec ca cc hs es cs)(hq:W.heap[q]? = some (.cells #[UI] 250))(hbase:base<=W.heap.size)(hsz:es.length<=1000000):
  Calls zq 218 #[.pointer (some ⟨p,0,none⟩),.agg (Ji e),.pointer (some ⟨q,0,none⟩)] W fun r W'=>(Z0g hs (Z0f e.x.n.refH e.x.n.refN) < 0/\r = .returned (.bool false)/\Below W.heap.size W W')\/(¬Z0g hs (Z0f e.x.n.refH e.x.n.refN) < 0/\r = .returned (.bool true) /\ ∃a' c',XR base W' p ha hc a' c' ca cc hs (es ++ [e]) cs/\Za (fun k=>k=p\/Value.ownBlock (.slice ea es.length ec)=some k) W W'):=by
 have I21:=zH (show ∀(x:XH),(zq.info? 210).map (·.size)=some (Ji x).size from fun x=>by kernel_rfl);have B1:=zH (zB W (.cells (Ji e) 210));have CT:=zH (Z9 W (.cells (Ji e) 210));have R1:=zH (h.below B1.out);have Q1:=zH (Z7 B1.out hq);have R0:=zH h;have HB1:Hid (base<=(W.alloc (.cells (Ji e) 210)).heap.size):=zH (Nat.le_trans hbase B1.out.size);have HS:=zH hsz;clear h hbase hsz hq;obtain⟨i0,e0,hv,hp1,hp2⟩:=Z4U hs e.x.n.refH e.x.n.refN;have HV:=zH hv;have HP1:=zH hp1;have HP2:=zH hp2;clear hv hp1 hp2;go_enter Tryz.func218,Tryz.ntmps218;go_upto_region 1 with fail;obtain⟨p3,hp3⟩:=zX (W.heap.size);rw[hp3.out]at CT ⊢;generalize W.alloc (.cells (Ji e) 210)=W1 at *;refine zD (fun w'=>w'.heap[p3]? = some (.cells (Ji e) 210)/\w'.heap[p]? = some (.cells #[.slice ha hs.length hc,.slice ea es.length ec,.slice ca cs.length cc] 77)) (show W1.drew.heap[p3]? = _/\W1.drew.heap[p]? = _ from⟨CT.out,R1.out.blk⟩) fun hh=>?_;have B2:=zH (B1.out.trans ((zd W1).mono B1.out.size));have R2:=zH (R1.out.below ((zd W1)));have Q2:=zH (Z7 ((zd W1)) Q1.out);have HB2:Hid (base<=W1.drew.heap.size):=HB1;replace CT:=zH (show W1.drew.heap[p3]? = _ from CT.out);clear R1 B1 HB1 Q1;generalize W1.drew=V at *;refine zw 0 rfl p 0 ?_;refine zw 1 rfl p 0 ?_;refine zS 2 rfl (.agg #[.slice ha hs.length hc,.slice ea es.length ec,.slice ca cs.length cc]) (fun W h=>by have h0:=Z6 h.2 0 (.slice ha hs.length hc) rfl;have h1:=Z6 h.2 1 (.slice ea es.length ec) rfl;have h2:=Z6 h.2 2 (.slice ca cs.length cc) rfl;go_simp) ?_;refine zw 3 rfl p3 2 ?_;refine zw 4 rfl p3 18 ?_;refine zS 5 rfl (.agg #[.int .i64 e.x.n.refH,.int .i64 e.x.n.refN]) (fun W h=>by have h0:=Z6 h.1 18 (.int .i64 e.x.n.refH) rfl;have h1:=Z6 h.1 19 (.int .i64 e.x.n.refN) rfl;go_simp) ?_;refine zR 6 rfl fun K hK=>?_;go_simp;go_at_call 219;refine(Z8o hs ha hs.length hc _ _ e.x.n.refH e.x.n.refN _ (Ut.of_own R2.out.hown)).mono ?_;rintro r W3 ⟨rfl,b3⟩;rw[HV.out];replace B2:=zH (B2.out.trans (b3.mono B2.out.size));replace R2:=zH (R2.out.below b3)
 replace Q2:=zH (Z7 b3 Q2.out);replace HB2:=zH (Nat.le_trans HB2.out b3.size);replace CT:=zH (Z7 b3 CT.out);clear b3;dsimp only;refine zK hK ⟨CT.out,R2.out.blk⟩ fun hh=>?_;clear hK K;refine zW 7 rfl (.tuple #[.int .i64 i0,.int .i64 e0]) ?_;refine zW 8 rfl (.int .i64 i0) ?_;refine zW 9 rfl (.int .i64 e0) ?_;refine zW 10 rfl (.int .i64 i0) ?_;refine zW 11 rfl (.int .i64 e0) ?_;refine zE ?_;have cq:=Z6 Q2.out 0 UI rfl;unfold UI at cq;by_cases hlt:Z0g hs (Z0f e.x.n.refH e.x.n.refN) < 0
 ·have h3:e0=3:=HP1.out hlt;subst h3;have HLT:=zH hlt;clear hlt;go_wp2;go_ret;exact .inl ⟨HLT.out,rfl,B2.out⟩
 ·have h3:e0=0:=HP2.out hlt;subst h3;have HLT:=zH hlt;clear hlt;go_wp2_with (first
   |(go_at_call 216
     refine(Z98 e base p ha hc ea ec ca cc hs es cs _ R2.out HB2.out HS.out).mono ?_;rintro r W5 ⟨rfl,a',c',r5,s5⟩;have R5:=zH r5;clear r5;have S5:=zH s5;clear s5;dsimp only)
   |(refine Uw ?hw 210 _ rfl p3 rfl 210 (Ji e) (0,0) _ CT.out Tryz.underlying210 rfl (I21.out _) ?_;case hw=>rfl)
   | fail)
  go_ret;exact .inr ⟨HLT.out,rfl,⟨a',c',R5.out⟩,(Za.of_below B2.out).trans S5.out⟩
def Z1f (F:Fence):Prop:=F=Fence.wide \/ ∃l,F=Fence.wide.inRound l
theorem Z1f.fn {F:Fence}(h:Z1f F)(f:FuncId):F.fn f:=by
 rcases h with rfl | ⟨l,rfl⟩ <;> trivial
theorem Z1f.depth {F:Fence}(h:Z1f F):F.depth.isSome=true -> ∀{p:Prop},p:=by
 rcases h with rfl | ⟨l,rfl⟩ <;> intro h' <;> simp[Fence.wide]at h'
theorem Z1f.calls {F:Fence}(h:Z1f F){n:Nat}{P:Program}{f:FuncId}{args:ZV}{w:World}{R:Ending->World->Prop}(hc:Calls P f args w R):CallsIn F n P f args w R:=by
 rcases h with rfl | ⟨l,rfl⟩
 ·exact callsIn_wide.2 hc
 ·exact CallsIn.inRound l (callsIn_wide.2 hc)
theorem Z1f.rows {F:Fence}(h:Z1f F){n:Nat}{P:Program}{row:String}{args:ZV}{w:World}{R:Value->World->Prop}(hc:Rows P row args w R):RowsIn F n P row args w R:=by
 rcases h with rfl | ⟨l,rfl⟩ <;> exact fun c cs _=>let ⟨v,w',r,s⟩:=hc c cs;⟨v,w',r,stepsIn_wide.2 s⟩
theorem Xk {F:Fence}(hF:Z1f F){n:Nat}{P:Program}{o:Oper}{a:Act}{w:World}{K:Act->World->Prop}{Q:Exit->Act->World->Prop}(hnd : ∀c,o.op ≠ .defer c)(h:o.wp P a w K Q):o.wpIn F n P a w K Q:=by
 refine⟨fun f _=>hF.fn f,?_⟩;rw[Oper.semAt_plain F _ _ hnd];unfold Oper.wp at h;generalize (execOp a.eval o).run P w=r at h;unfold Oper.upon at h;unfold Oper.uponIn;cases r with
 | ok v w'=>
  cases v with
  | enter f args=>exact⟨fun h'=>hF.depth h',hF.calls h⟩
  | row r args=>exact⟨fun h'=>hF.depth h',hF.rows h⟩
  | round _ _ _ _ _=>exact(show False from h).elim
  | _=>exact h
 | halt s w'=>cases s <;> exact h
def Z3g (l:List Oper):Bool:=l.all fun o=>match o.op with | .defer _=>false | _=>true
theorem Z8f {l:List Oper}(h:Z3g l=true){o:Oper}(ho:o∈l): ∀c,o.op ≠ .defer c:=fun c e=>by
 have:=List.all_eq_true.1 h o ho
 rw[e]at this
 cases this
theorem Q4 {F:Fence}(hF:Z1f F){n:Nat}{P:Program}{ops:Array Oper}{Q:Exit->Act->World->Prop}(hQ : ¬LetsOut Q): ∀(l:List Oper) (a:Act) (w:World),Z3g l=true->wpList P ops Q l a w->wpListIn F n P ops Q l a w
 | [],a,w,_,h=>h
 | o :: l,a,w,hnd,h=>by
  have h1 : ∀c,o.op ≠ .defer c:=Z8f hnd (List.mem_cons_self ..)
  have h2:Z3g l=true:=(Bool.and_eq_true_iff.1 hnd).2
  unfold wpList at h
  unfold wpListIn
  split at h
  ·rename_i hw
   rw[if_pos hw]
   rcases h with h | h
   ·exact Xk hF h1 (Oper.wp_mono (fun a w hk=>Q4 hF hQ l a w h2 hk) h)
   ·exact(hQ h.2).elim
  ·rename_i hw
   rw[if_neg hw]
   exact⟨fun f _=>hF.fn f,Q4 hF hQ l _ w h2 h⟩
theorem Xt {F:Fence}(hF:Z1f F){n:Nat}{P:Program}{id:Nat}{l:List Oper}{a:Act}{w:World}{Q:Exit->Act->World->Prop}(hQ : ¬LetsOut Q)(hnd:Z3g l=true)(h:wpList P l.toArray Q l a w):(Code.region id l.toArray false).wpIn F n P Q a w:=
 wpIn_region_lit (Q4 hF hQ l a w hnd h)
section
variable {P:Program}{σ:Type}{n:Nat}{g:Operand}{ps:Array Tmp}{assign body:Code}{Q:Exit->Act->World->Prop}{a:Act}{w:World}
theorem Z0N
  {gf:Nat} {lb:ZV} (hg:a.eval g = .func (.func gf) #[] lb) (eg : ∀args w,(callFunc gf args).run P w = .ok (.enter gf args) w)
  (encs:σ->ZV) (hps : ∀x,(encs x).size=ps.size)
  (A B:σ->World->Prop) (A':σ->Act->World->Prop) (Done:World->Prop)
  (hA' : ∀s a W o,A' s a W->(∃r,W.heap[w.heap.size+1]? = some (.loop r))->A' s a (W.putObj (w.heap.size+1) (.loop o)))
  (hB : ∀s W o,B s W->(∃r,W.heap[w.heap.size+1]? = some (.loop r))->B s (W.putObj (w.heap.size+1) (.loop o)))
  (hDone : ∀W o,Done W->(∃r,W.heap[w.heap.size+1]? = some (.loop r))->Done (W.putObj (w.heap.size+1) (.loop o)))
  (hassign : ∀(s:σ) (W:World),A s W->
   assign.wpIn (Fence.wide.inRound (w.heap.size+1)) (n - 1) P (Exit.then (fun a₁ W₁=>KeepsFrom w.heap.size W W₁/\A' s a₁ W₁) (fun _ _ _=>False)) { tmps:=(ps.zip (encs s)).foldl (fun t (p,v)=>t.setIfInBounds p v) a.tmps,defers:=[] } W)
  (hbody : ∀(s:σ) (a₁:Act) (W:World),A' s a₁ W->body.wpIn (Fence.wide.inRound (w.heap.size+1)) (n - 1) P (Z6O w.heap.size (B s) (fun _ _=>False) W) a₁ W)
  (hiter : ∀(rec:LoopState->Option Code->Loop),
   ZG rec w.heap.size .ready none ((w.alloc (.deferred (some []))).alloc (.loop (rec .ready none)))->
   (∀s W,A s W->ZG rec w.heap.size .ready none W->YieldAt Fence.wide (n - 1) P (w.heap.size+1) (encs s) W fun e W'=>
    e = .returned (.bool true)/\B s W'/\ZG rec w.heap.size .ready none W')->
   CallsIn Fence.wide n P gf (#[.func (.yield (w.heap.size+1)) #[] #[]] ++ lb) ((w.alloc (.deferred (some []))).alloc (.loop (rec .ready none))) fun e W'=>
    (∃v,e = .returned v)/\Done W'/\ZG rec w.heap.size .ready none W')
  (hdone : ∀(W:World),Done W->W.heap[w.heap.size]? = some (.deferred (some []))->Q .normal { a with defers := { target := .collected w.heap.size,args := #[] } :: a.defers } W):
  (Code.rangeFunc g ps assign body).wpIn Fence.wide (n+1) P Q a w:=by
 refine wpIn_rangeFunc ?_;intro fn hfn;obtain⟨rec,hrec⟩ : ∃rec:LoopState->Option Code->Loop,rec=fun st pe=>{ state:=st,pending:=pe,fn,tmps:=a.tmps,params:=ps,assign,body,defers:=w.heap.size } := ⟨_,rfl⟩;have hnew:ZG rec w.heap.size .ready none ((w.alloc (.deferred (some []))).alloc (.loop (rec .ready none))):=by
  refine⟨?_,(Below.heap_alloc _ _ _ (by simp)).trans (World.alloc_heap_new w _)⟩;have:=World.alloc_heap_new (w.alloc (.deferred (some []))) (.loop (rec .ready none));rwa [World.size_alloc]at this
 have hput : ∀(W:World) (st st':LoopState) (pe pe':Option Code),ZG rec w.heap.size st pe W->ZG rec w.heap.size st' pe' (W.putObj (w.heap.size+1) (.loop (rec st' pe'))):=
  fun W st st' pe pe' h=>⟨World.putObj_heap_same (Array.getElem?_eq_some_iff.1 h.1).1,(World.putObj_heap_other (by omega)).trans h.2⟩
 refine⟨w.heap.size+1,[{ target := .collected w.heap.size,args := #[] }],(w.alloc (.deferred (some []))).alloc (.loop (rec .ready none)),{ target := .fn (.func gf) lb,args := #[.func (.yield (w.heap.size+1)) #[] #[]] },(w.alloc (.deferred (some []))).alloc (.loop (rec .ready none)),gf,
  #[.func (.yield (w.heap.size+1)) #[] #[]] ++ lb,(w.alloc (.deferred (some []))).alloc (.loop (rec .ready none)),?_,?_,?_,?_,?_,?_⟩
 ·rw[hrec];exact run_enterLoop_outer _ _ _ _ _
 ·simp only[resolve,hg];simp[go_sem]
 ·intro f' _;trivial
 ·simp[invoke,go_sem,eg]
 ·intro h;simp[Fence.wide]at h
 ·rw[Nat.add_sub_cancel];refine(hiter rec hnew ?_).mono ?_
  ·intro s W hs hl;have hy:=run_yield (P:=P) (args:=encs s) hl.1 (by rw[hrec];exact hps s);rw[hrec]at hy;refine⟨fn,_,assign,body,hy,roundIn_of_wpIn hfn (wpIn_mono (hassign s W hs) ?_)⟩;rintro e a₁ W₁ hp;cases e with
   | normal=>
    obtain⟨hk1,hs1⟩:KeepsFrom w.heap.size W W₁/\A' s a₁ W₁:=hp;have hl1:=hl.kept hk1;refine⟨_,run_beginRound hl1.1 (by rw[hrec]),?_⟩;have hbusy:({ rec .ready none with state := .busy } : Loop)=rec .busy none:=by rw[hrec]
    rw[hbusy];have hl2:=hput W₁ .ready .busy none none hl1;refine wpIn_mono (hbody s a₁ _ (hA' s a₁ W₁ _ hs1 ⟨_,hl1.1⟩)) ?_;have fin : ∀(jump:Option Code) (W3:World),KeepsFrom w.heap.size (W₁.putObj (w.heap.size+1) (.loop (rec .busy none))) W3->
      (Instr.endRound (w.heap.size+1) jump).run P W3 = .ok (.bool jump.isNone) (W3.putObj (w.heap.size+1) (.loop (rec (if jump.isNone then .ready else .done) jump))) /\
      ZG rec w.heap.size .busy none W3/\ZG rec w.heap.size (if jump.isNone then .ready else .done) jump (W3.putObj (w.heap.size+1) (.loop (rec (if jump.isNone then .ready else .done) jump))):=fun jump W3 hk=>by
     have h3:=hl2.kept hk;have hr:=run_endRound (P:=P) jump h3.1;rw[hrec]at hr ⊢;exact⟨hr,by rw[hrec]at h3;exact h3,by have:=hput W3 .busy (if jump.isNone then .ready else .done) none jump h3;rw[hrec]at this;exact this⟩
    rintro e a3 W3 hp;cases e with
    | normal=>
     obtain⟨hk,hb⟩:=hp;obtain⟨hr,h3,h4⟩:=fin none W3 hk;exact⟨_,_,hr,rfl,hB s W3 _ hb ⟨_,h3.1⟩,h4⟩
    | ret=>exact hp.2.elim
    | exit id=>exact hp.2.elim
    | goto t=>exact hp.2.elim
    | panic ch=>exact hp.elim
    | outgrown=>exact hp.elim
   | _=>exact hp.elim
  ·rintro e W2 ⟨⟨v,rfl⟩,hd,hl⟩;refine⟨none,_,by have:=run_endLoop (P:=P) hl.1 (by rw[hrec];simp);rw[hrec]at this;exact this,?_⟩;exact hdone _ (hDone W2 _ hd ⟨_,hl.1⟩) ((World.putObj_heap_other (by omega)).trans hl.2)
end
theorem Za.weaken {S T:Nat->Prop}{W W':World}(h:Za S W W')(hs : ∀k,S k->T k):Za T W W':=⟨h.os,h.tape,h.output,h.size,fun k hk ht=>h.block k hk (fun e=>ht (hs k e))⟩
theorem Qa {W W':World}(h:Below W.heap.size W W'):KeepsOthers W W':=⟨h.size,fun _ _ hk _=>Z7 h hk⟩
theorem Z24 {W:World}{base:Nat}{e:TypeId}{k:Nat}{v:Value}{n:Nat}{xs:List Value}(h:W.ownsRow base e k v n xs){j:Nat}{o:Obj}(hj:Value.ownBlock v=some j)(ho:W.heap[j]? = some o):o.isCells=true:=by
 rcases h.2 with ⟨h2,_⟩ | ⟨g,cap,cur,h2,_,hg,_⟩
 ·rw[h2]at hj;simp[Value.ownBlock]at hj
 ·rw[h2]at hj;simp only[Value.ownBlock,Option.some.injEq]at hj;subst hj;rw[hg]at ho;cases ho;rfl
theorem UD {base:Nat}{W W':World}{p:Nat}{v:Value}{A:ZV}{t e:TypeId}{k n:Nat}{xs:List Value}(hp:W.heap[p]? = some (.cells A t (0,0)))(hv:W.ownsRow base e k v n xs)(s:Za (fun k=>k=p\/Value.ownBlock v=some k) W W'):KeepsOthers W W':=by
 refine⟨s.size,fun j o hj ho=>(s.block j (Array.getElem?_eq_some_iff.1 hj).1 ?_).trans hj⟩;rintro(rfl | h)
 ·rw[hp]at hj;cases hj;cases ho
 ·have:=Z24 hv h hj;rw[this]at ho;cases ho
abbrev Zdl (p:Nat)(ha:zA)(hn hc:Nat)(ea:zA)(en ec:Nat):Nat->Prop:=fun k=>k=p\/Value.ownBlock (.slice ha hn hc)=some k\/Value.ownBlock (.slice ea en ec)=some k
def Z4A (base:Nat)(W:World)(p:Nat)(ha:zA)(hc:Nat)(ea:zA)(ec:Nat)(R:Jb)(e:XH)(r:Ending)(W':World):Prop:=
 r = .returned (.bool (zk R e))/\Z7N base W' p (U2 R e)/\Za (Zdl p ha R.hs.length hc ea R.es.length ec) W W'/\KeepsOthers W W'
section
variable {e:XH}{base p:Nat}{R:Jb}{W:World}{ha:zA}{hc:Nat}{ea:zA}{ec:Nat}{ca:zA}{cc:Nat}
theorem ZbP (h:XR base W p ha hc ea ec ca cc R.hs R.es R.cs)(hbase:base<=W.heap.size)(hsz:R.es.length<=1000000)(h1:e.x.n.kind≠1)(h2:e.x.n.kind≠2):
  Calls zq 216 #[.pointer (some ⟨p,0,none⟩),.agg (Ji e)] W (Z4A base W p ha hc ea ec R e):=by
 refine(Z98 e base p ha hc ea ec ca cc R.hs R.es R.cs W h hbase hsz).mono ?_;rintro r W' ⟨rfl,a',c',h3,h4⟩;have hb:zk R e=true:=by simp[zk,h1,h2]
 have hr:U2 R e = { R with es:=R.es ++ [e] } := by simp[U2,hb,h1]
 refine⟨by rw[hb],?_,h4.weaken (fun k hk=>hk.imp id .inr),UD h.blk h.eown h4⟩;rw[hr];exact⟨ha,hc,a',c',ca,cc,h3⟩
theorem ZcS (h:XR base W p ha hc ea ec ca cc R.hs R.es R.cs)(hbase:base<=W.heap.size)(hsz:R.hs.length<=1000000)(h1:e.x.n.kind=1):
  Calls zq 217 #[.pointer (some ⟨p,0,none⟩),.agg (Ji e)] W (Z4A base W p ha hc ea ec R e):=by
 refine(Z7k e base p ha hc ea ec ca cc R.hs R.es R.cs W h hbase hsz).mono ?_;rintro r W' (⟨h8,rfl,h3⟩ | ⟨h8,rfl,a',c',h3,h4⟩)
 ·have hb:zk R e=false:=by simp[zk,h1,h8]
  have hr:U2 R e=R:=by simp[U2,hb]
  refine⟨by rw[hb],?_,Za.of_below h3,Qa h3⟩;rw[hr];exact⟨ha,hc,ea,ec,ca,cc,h.below h3⟩
 ·have hb:zk R e=true:=by simp[zk,h1,h8]
  have hr:U2 R e = { R with hs:=R.hs ++ [e] } := by simp[U2,hb,h1]
  refine⟨by rw[hb],?_,h4.weaken (fun k hk=>hk.imp id .inl),UD h.blk h.hown h4⟩;rw[hr];exact⟨a',c',ea,ec,ca,cc,h3⟩
theorem ZcR (q:Nat)(h:XR base W p ha hc ea ec ca cc R.hs R.es R.cs)(hq:W.heap[q]? = some (.cells #[UI] 250))(hbase:base<=W.heap.size)(hsz:R.es.length<=1000000)(h1:e.x.n.kind=2):
  Calls zq 218 #[.pointer (some ⟨p,0,none⟩),.agg (Ji e),.pointer (some ⟨q,0,none⟩)] W (Z4A base W p ha hc ea ec R e):=by
 refine(Z6T e base p ha hc ea ec ca cc R.hs R.es R.cs q W h hq hbase hsz).mono ?_;rintro r W' (⟨h8,rfl,h3⟩ | ⟨h8,rfl,a',c',h3,h4⟩)
 ·have hb:zk R e=false:=by simp[zk,h1,h8]
  have hr:U2 R e=R:=by simp[U2,hb]
  refine⟨by rw[hb],?_,Za.of_below h3,Qa h3⟩;rw[hr];exact⟨ha,hc,ea,ec,ca,cc,h.below h3⟩
 ·have hb:zk R e=true:=by simp only[zk,h1];simp;omega
  have hr:U2 R e = { R with es:=R.es ++ [e] } := by simp[U2,hb,h1]
  refine⟨by rw[hb],?_,h4.weaken (fun k hk=>hk.imp id .inr),UD h.blk h.eown h4⟩;rw[hr];exact⟨ha,hc,a',c',ca,cc,h3⟩
end
structure Yn (Wb:World)(p:Nat)(R:Jb)(W:World):Prop where
 reg:Z7N Wb.heap.size W p R
 same:Za (fun k=>k=p) Wb W
theorem Yn.below {Wb W W':World}{p:Nat}{R:Jb}(h:Yn Wb p R W)(hb:Below W.heap.size W W'):Yn Wb p R W':=⟨h.reg.below hb,h.same.trans (Za.of_below hb)⟩
theorem Yn.size {Wb W:World}{p:Nat}{R:Jb}(h:Yn Wb p R W):Wb.heap.size<=W.heap.size:=h.same.size
theorem Za.reg {Wb W W':World}{p:Nat}(h:Za (fun k=>k=p) Wb W)(s:Za (ZeS Wb.heap.size p) W W'):Za (fun k=>k=p) Wb W':=
 ⟨s.os.trans h.os,s.tape.trans h.tape,s.output.trans h.output,Nat.le_trans h.size s.size,fun k hk hp=>(s.block k (Nat.lt_of_lt_of_le hk h.size) (by rintro(rfl | h2);exact hp rfl;omega)).trans (h.block k hk hp)⟩
theorem Yn.putObj {Wb W:World}{p:Nat}{R:Jb}(h:Yn Wb p R W)(o:Loop)(hl : ∃r,W.heap[Wb.heap.size+1]? = some (.loop r)):Yn Wb p R (W.putObj (Wb.heap.size+1) (.loop o)):=by
 obtain⟨r,hl⟩:=hl;obtain⟨ha,hc,ea,ec,ca,cc,h1,h2,h3,h4,h5⟩:=h.reg;have hne:p≠Wb.heap.size+1:=fun e=>by rw[e,hl]at h1;cases h1
 refine⟨⟨ha,hc,ea,ec,ca,cc,(World.putObj_heap_other hne).trans h1,ownsRow_putObj h2 _ hl rfl,ownsRow_putObj h3 _ hl rfl,ownsRow_putObj h4 _ hl rfl,h5⟩,?_⟩;exact h.same.reg (Za.of_grown (grownBy_putObj' W _ _) (fun k e=>by cases e;exact .inr (by omega)))
theorem Yn.blk {Wb W:World}{p:Nat}{R:Jb}(h:Yn Wb p R W){k:Nat}{o:Obj}(hk:Wb.heap[k]? = some o)(hne:k≠p):W.heap[k]? = some o:=(h.same.block k (Array.getElem?_eq_some_iff.1 hk).1 hne).trans hk
theorem Yn.eff {Wb W W':World}{p:Nat}{R:Jb}{e:XH}{r:Ending}{ha:zA}{hc:Nat}{ea:zA}{ec:Nat}{ca:zA}{cc:Nat}(hs:Za (fun k=>k=p) Wb W)(h:XR Wb.heap.size W p ha hc ea ec ca cc R.hs R.es R.cs)(he:Z4A Wb.heap.size W p ha hc ea ec R e r W'):Yn Wb p (U2 R e) W':=
 ⟨he.2.1,hs.reg (he.2.2.1.weaken (fun k hk=>by rcases hk with h1 | h1 | h1;exact .inl h1;exact .inr (h.hown.lt k h1).1;exact .inr (h.eown.lt k h1).1))⟩
structure Vt (Wb:World)(p:Nat)(R:Jb)(top:Nat)(W:World):Prop where
 reg : ∃ha hc ea ec ca cc,XR Wb.heap.size W p ha hc ea ec ca cc R.hs R.es R.cs /\ ∀k,k=p\/Value.ownBlock (.slice ha R.hs.length hc)=some k\/Value.ownBlock (.slice ea R.es.length ec)=some k->k < top
 same:Za (fun k=>k=p) Wb W
theorem Yn.bound {Wb W W':World}{p:Nat}{R:Jb}(h:Yn Wb p R W)(hb:Below W.heap.size W W'):Vt Wb p R W.heap.size W':=by
 obtain⟨ha,hc,ea,ec,ca,cc,h1⟩:=h.reg;exact⟨⟨ha,hc,ea,ec,ca,cc,h1.below hb,fun k hk=>by rcases hk with rfl | hk | hk;exact h1.lt;exact(h1.hown.lt k hk).2;exact(h1.eown.lt k hk).2⟩,h.same.trans (Za.of_below hb)⟩
theorem Vt.st {Wb W:World}{p top:Nat}{R:Jb}(h:Vt Wb p R top W):Yn Wb p R W:=by
 obtain⟨ha,hc,ea,ec,ca,cc,h1,_⟩:=h.reg;exact⟨⟨ha,hc,ea,ec,ca,cc,h1⟩,h.same⟩
theorem Vt.putObj {Wb W:World}{p top:Nat}{R:Jb}(h:Vt Wb p R top W)(o:Loop)(hl : ∃r,W.heap[Wb.heap.size+1]? = some (.loop r)):Vt Wb p R top (W.putObj (Wb.heap.size+1) (.loop o)):=by
 have h9:=h.st.putObj o hl;obtain⟨ha,hc,ea,ec,ca,cc,h1,h2⟩:=h.reg;obtain⟨r,hl⟩:=hl;obtain⟨k1,k2,k3,k4,k5⟩:=h1;have hne:p≠Wb.heap.size+1:=fun e=>by rw[e,hl]at k1;cases k1
 exact⟨⟨ha,hc,ea,ec,ca,cc,⟨(World.putObj_heap_other hne).trans k1,ownsRow_putObj k2 _ hl rfl,ownsRow_putObj k3 _ hl rfl,ownsRow_putObj k4 _ hl rfl,k5⟩,h2⟩,h9.same⟩
attribute [local go_sem] Oper.semAt_some
def YY (x:LN):XH:=⟨x.nm,x⟩
theorem Z75 {W:World}{a:zA}{n c:Nat}{xs:List LN}(h:ZW W 19 a n c (ZB xs))(h0:0 < n): ∃b off,a=some ⟨b,off,none⟩ /\ ∀i x,xs[i]? = some x->W.rangeAt b (off+i * 19) (x.n.cells x.sa x.sc):=by
 rcases h.2.2.2 with h5 | ⟨b,off,rfl,h4⟩
 ·have:=h.2.1;omega
 ·refine⟨b,off,rfl,fun i x hx j v hv=>?_⟩;have hj:j < 19:=(List.getElem?_eq_some_iff.1 hv).1;have h5:=Ug 19 (xs.map fun x=>x.n.cells x.sa x.sc) (by intro r hr;obtain⟨y,_,rfl⟩:=List.mem_map.1 hr;rfl) i (x.n.cells x.sa x.sc) (by rw[List.getElem?_map,hx];rfl) j hj;have h6:=h4 (i * 19+j) v (h5.trans hv);rwa [<-Nat.add_assoc]at h6
structure Z32 (Wb:World)(p pL:Nat)(base0:Nat)(a:zA)(c:Nat)(xs:List LN):Prop where
 reg:Wb.heap[p]? = some (.cells #[.slice none 0 0,.slice none 0 0,.slice none 0 0] 77)
 lst:Wb.heap[pL]? = some (.cells #[.slice a xs.length c] 24)
 own:Wb.ownsRow base0 47 19 (.slice a xs.length c) xs.length (ZB xs)
theorem Z32.ne {Wb:World}{p pL base0:Nat}{a:zA}{c:Nat}{xs:List LN}(h:Z32 Wb p pL base0 a c xs):pL≠p:=fun e=>by have h1:=h.lst;rw[e,h.reg]at h1;simp at h1
theorem Z32.lst_at {Wb W:World}{p pL base0:Nat}{a:zA}{c:Nat}{xs:List LN}{R:Jb}(h:Z32 Wb p pL base0 a c xs)(hr:Yn Wb p R W):W.heap[pL]? = some (.cells #[.slice a xs.length c] 24):=hr.blk h.lst h.ne
theorem Z32.own_at {Wb W:World}{p pL base0:Nat}{a:zA}{c:Nat}{xs:List LN}{R:Jb}(h:Z32 Wb p pL base0 a c xs)(hr:Yn Wb p R W):W.ownsRow base0 47 19 (.slice a xs.length c) xs.length (ZB xs):=
 Ze h.own hr.same (fun b hb e=>Zn h.own h.reg (by intro cur;simp) (by rw[hb,e]))
def ZeK (Wb:World)(p:Nat)(day:Int)(xs:List LN)(s:Nat×LN)(W:World):Prop:=xs[s.1]? = some s.2/\Yn Wb p (Xl day ((xs.take s.1).map YY)) W
theorem Z85 (day:Int)(xs:List LN)(k:Nat)(x:LN)(hx:xs[k]? = some x):Xl day ((xs.take (k+1)).map YY)=Yi day (Xl day ((xs.take k).map YY)) (YY x):=by
 rw[List.take_add_one,hx];simp only[Option.toList,List.map_append,List.map_cons,List.map_nil];exact Z84 _ _ _
theorem ZG.of_below {rec:LoopState->Option Code->Loop}{D:Nat}{st:LoopState}{pe:Option Code}{W W':World}(h:ZG rec D st pe W)(hb:Below W.heap.size W W'):ZG rec D st pe W':=
 ⟨Z7 hb h.1,Z7 hb h.2⟩
theorem Jf:Z1f Fence.wide := .inl rfl
theorem Z0d {Q:Exit->Act->World->Prop}(h : ∀a w,¬Q .outgrown a w): ¬LetsOut Q:=fun⟨a,w,hq⟩=>h a w hq
section
variable {F:Fence}{n:Nat}{P:Program}{ops:Array Oper}{rest:List Oper}{op:Oper}{a:Act}{w:World}{Q:Exit->Act->World->Prop}
theorem Z11 (hF:Z1f F)(hgd:op.guard=none)(ty:TypeId)(x:Operand)(ho:op.op = .load ty x)(b o:Nat)(hx:a.eval x = .pointer (some ⟨b,o,none⟩))(cs:List Value)(d:TypeDesc)(hc:w.rangeAt b o cs)
  (hu:P.underlying ty=some d) (hd:d.isRow=true) (hi:(P.info? ty).map (·.size)=some cs.length) (h:wpListIn F n P ops Q rest (a.put op.dst (.agg cs.toArray)) w):wpListIn F n P ops Q (op :: rest) a w:=
 wpListIn_plain hgd fun _ hK=>Xk hF (by rw[ho];intro c e;cases e) (wp_load_mid ty x ho b o hx cs d hc hu hd hi (hK _ _ h))
theorem Z0F (hF:Z1f F)(hgd:op.guard=none)(ty:TypeId)(x y:Operand)(ho:op.op = .store ty x y)(p:Nat)(c c':ZV)(t:TypeId)(hx:a.eval x = .pointer (some ⟨p,0,none⟩))(hy:a.eval y = .agg c')(hg:w.heap[p]? = some (.cells c t (0,0)))
  (hi:(P.info? ty).map (·.size)=some c'.size) (hc:c.size=c'.size) (h1:c'.all (·.oneCell')=true)
  (h : ∀w',w'.heap[p]? = some (.cells c' t (0,0))->w.grownBy w' (some p)->w'.heap.size=w.heap.size->wpListIn F n P ops Q rest (a.put op.dst undef) w'):wpListIn F n P ops Q (op :: rest) a w:=
 wpListIn_plain hgd fun _ hK=>Xk hF (by rw[ho];intro c e;cases e) (ZT ty x y ho p c c' t hx hy hg hi hc h1 (fun w' h1 h2 h3=>hK _ _ (h w' h1 h2 h3)))
end
theorem ZdC (m:Nat)(Wb:World)(p pL base0:Nat)(day:Int)(a:zA)(c:Nat)(xs:List LN)(henv:Z32 Wb p pL base0 a c xs)(rec:LoopState->Option Code->Loop)(W1:World)(h0:Yn Wb p ⟨[],[],[]⟩ W1)(hl:ZG rec Wb.heap.size .ready none W1)
  (hY : ∀s W,ZeK Wb p day xs s W->ZG rec Wb.heap.size .ready none W->YieldAt Fence.wide (m - 1) zq (Wb.heap.size+1) #[.agg (Ji (YY s.2))] W fun e W'=>
    e = .returned (.bool true)/\Yn Wb p (Xl day ((xs.take (s.1+1)).map YY)) W'/\ZG rec Wb.heap.size .ready none W'):
  CallsIn Fence.wide m zq 223 #[.func (.yield (Wb.heap.size+1)) #[] #[],.pointer (some ⟨pL,0,none⟩)] W1 fun e W'=>
    (∃v,e = .returned v)/\Yn Wb p (Xl day (xs.map YY)) W'/\ZG rec Wb.heap.size .ready none W':=by
 have I43:=zH zI;have IN:(zq.info? 47).map (·.size)=some 19:=by kernel_rfl
 have HY:=zH hY;clear hY;have EN:=zH henv;clear henv;have hlc:=Z6 (EN.out.lst_at h0) 0 (.slice a xs.length c) rfl;have hn63:xs.length<=9223372036854775807:=(ZW.of_own EN.out.own).maxn;have R0:=zH h0;clear h0;have L0:=zH hl;clear hl;refine callsIn_of_wp Tryz.func223 rfl trivial ?_;simp only[Tryz.ntmps223,List.size_toArray,List.length_cons,List.length_nil,Nat.reduceAdd,Nat.reduceSub,Array.replicate_succ,Array.replicate_zero,List.push_toArray,List.append_toArray,List.nil_append,List.cons_append];gi_wp2;clear hlc;gi_loopw [7] (fun i wr=>∃k:Nat,i = .int .i64 k/\k<=xs.length/\Hid (Yn Wb p (Xl day ((xs.take k).map YY)) wr)/\Hid (ZG rec Wb.heap.size .ready none wr)) (fun i _=>xs.length - (intOf i).toNat)
 case atStart=>exact⟨0,rfl,Nat.zero_le _,R0,L0⟩
 case round=>
  obtain⟨k,rfl,hk,HR,HL⟩:=hrel;by_cases hkn:k < xs.length
  ·have t0:decide ((k:Int) < (xs.length:Int))=true:=by simp;omega
   obtain⟨b,off,rfl,hat⟩:=Z75 (ZW.of_own (EN.out.own_at HR.out)) (show 0 < xs.length by omega);obtain⟨x,hx⟩ : ∃x,xs[k]? = some x:=⟨xs[k]'hkn,List.getElem?_eq_getElem hkn⟩;have HX:=zH hx;have HRA:=zH (hat k x hx);obtain⟨o,ho⟩:=zX (off+k * 19);rw[ho.out]at HRA;have hi:=fun W=>YR (W:=W) (c:=c) (b:=b) Tryz.underlying24 IN hkn ho.out;have hk64:(k:Int)+1<=9223372036854775807:=by omega
   clear hat hx;have B1:=zH (zB wr (.cells (Z5 Zh none 0) 47));gi_wp2_with (first
    |(refine Z11 Jf rfl 47 _ rfl b o rfl (x.n.cells x.sa x.sc) _ HRA.out Tryz.underlying47 rfl IN ?_)
    |(refine Z0F Jf rfl 47 _ _ rfl wr.heap.size (Z5 Zh none 0) (Z5 x.n x.sa x.sc) 47 rfl rfl (Z9 wr _) (I43.out _ _ _) rfl (Zm x.n x.sa x.sc) ?_;intro w2 h21 h22 h23)
    | fail)
   have B2:Hid (Below wr.heap.size wr w2):=zH (B1.out.grown h22 B1.out.size (fun q hq=>by cases hq;exact Nat.le_refl _));have CT:=zH h21;clear h22 h23 h21 B1 hi;obtain⟨pX,hpX⟩:=zX (wr.heap.size);rw[hpX.out]at CT ⊢;replace HR:=zH (HR.out.below B2.out);replace HL:=zH (HL.out.of_below B2.out);have bd:=(zd w2);replace B2:=zH (B2.out.trans (bd.mono B2.out.size));replace HR:=zH (HR.out.below bd);replace HL:=zH (HL.out.of_below bd);replace CT:=zH (Z7 bd CT.out);clear bd;refine wpIn_region_any (by kernel_rfl) ?_;change wpAnyIn _ _ _ _ _ _ _ _ _ w2.drew;generalize w2.drew=V at *;try simp only[Act.put,lq0,lq1,lq2,lq3,lq4,lq5]
   refine wpAnyIn_take (i:=0) (v := .func (.yield (Wb.heap.size+1)) #[] #[]) rfl rfl (by kernel_rfl) (by kernel_rfl) (by kernel_rfl) (fun _ _ _ h=>h) ⟨Or.inl ⟨by rfl,by intro W;go_simp⟩,fun _=>rfl⟩ ?_;try simp only[Act.put,lq0,lq1,lq2,lq3,lq4,lq5]
   refine wpAnyIn_ready (rs:=[1,3]) (by kernel_rfl) (by simp) ?_;refine AllReadyIn.cons rfl (fun K hK=>?_) ?_
   ·rw[if_pos (by kernel_rfl)];refine Xk Jf (by intro c e;cases e) (wp_load_row 47 _ rfl pX rfl 47 (Z5 x.n x.sa x.sc) (0,0) _ CT.out Tryz.underlying47 rfl (I43.out _ _ _) (hK _ _ ?_));clear hK K;try simp only[Act.put,lq0,lq1,lq2,lq3,lq4,lq5]
    refine wpAnyIn_ready (rs:=[2,3]) (by kernel_rfl) (by simp) ?_;refine AllReadyIn.cons rfl (fun K hK=>?_) ?_
    ·rw[if_pos (by kernel_rfl)];refine Xk Jf (by intro c e;cases e) ?_;go_simp;go_at_call 167;refine(Yc x.n x.sa x.sc _).mono ?_;rintro e V2 ⟨rfl,b2⟩;replace B2:=zH (B2.out.trans (b2.mono B2.out.size));replace HR:=zH (HR.out.below b2);replace HL:=zH (HL.out.of_below b2);replace CT:=zH (Z7 b2 CT.out);clear b2;dsimp only;refine hK _ _ ?_;clear hK K;try simp only[Act.put,lq0,lq1,lq2,lq3,lq4,lq5]
     refine wpAnyIn_ready (rs:=[3]) (by kernel_rfl) (by simp) ?_;refine AllReadyIn.cons rfl (fun K hK=>?_) AllReadyIn.nil;rw[if_pos (by kernel_rfl)];refine Xk Jf (by intro c e;cases e) (wp_load_row 47 _ rfl pX rfl 47 (Z5 x.n x.sa x.sc) (0,0) _ CT.out Tryz.underlying47 rfl (I43.out _ _ _) (hK _ _ ?_));clear hK K;try simp only[Act.put,lq0,lq1,lq2,lq3,lq4,lq5]
     refine wpAnyIn_take (i:=4) (v := .agg (Ji (YY x))) rfl rfl (by kernel_rfl) (by kernel_rfl) (by kernel_rfl) (fun _ _ _ h=>h) ⟨Or.inl ⟨by rfl,by intro W;kernel_rfl⟩,fun _=>rfl⟩ ?_;try simp only[Act.put,lq0,lq1,lq2,lq3,lq4,lq5]
     refine wpAnyIn_ready (rs:=[5]) (by kernel_rfl) (by simp) ?_;refine AllReadyIn.cons rfl (fun K hK=>?_) AllReadyIn.nil;rw[if_pos (by kernel_rfl)];obtain⟨fn,tmps,assign,body,hy,hRo⟩:=HY.out (k,x) _ ⟨HX.out,HR.out⟩ HL.out;refine⟨fun _ _=>trivial,?_⟩;go_simp;refine⟨fun h=>by simp[Fence.wide]at h,?_⟩;refine hRo.mono ?_;rintro e W6 ⟨rfl,hR6,hL6⟩;have HR6:=zH hR6;have HL6:=zH hL6;clear hRo hy hR6 hL6;refine hK _ _ ?_;clear hK K;try simp only[Act.put,lq0,lq1,lq2,lq3,lq4,lq5]
     refine wpAnyIn_take (i:=6) (v := .bool false) rfl rfl (by kernel_rfl) (by kernel_rfl) (by kernel_rfl) (fun _ _ _ h=>h) ⟨Or.inl ⟨by rfl,by intro W;go_simp⟩,fun _=>rfl⟩ ?_;try simp only[Act.put,lq0,lq1,lq2,lq3,lq4,lq5]
     refine wpAnyIn_done (by kernel_rfl) ?_ _;gi_wp2_with fail;go_roundw
     case rel=>exact⟨k+1,by simp,by omega,HR6,HL6⟩
     case measure=>simp[intOf];omega
    refine AllReadyIn.cons rfl (fun K hK=>?_) AllReadyIn.nil
    ·rw[if_pos (by kernel_rfl)];refine Xk Jf (by intro c e;cases e) (wp_load_row 47 _ rfl pX rfl 47 (Z5 x.n x.sa x.sc) (0,0) _ CT.out Tryz.underlying47 rfl (I43.out _ _ _) (hK _ _ ?_));clear hK K;try simp only[Act.put,lq0,lq1,lq2,lq3,lq4,lq5]
     refine wpAnyIn_ready (rs:=[2]) (by kernel_rfl) (by simp) ?_;refine AllReadyIn.cons rfl (fun K hK=>?_) AllReadyIn.nil;rw[if_pos (by kernel_rfl)];refine Xk Jf (by intro c e;cases e) ?_;go_simp;go_at_call 167;refine(Yc x.n x.sa x.sc _).mono ?_;rintro e V2 ⟨rfl,b2⟩;replace B2:=zH (B2.out.trans (b2.mono B2.out.size));replace HR:=zH (HR.out.below b2);replace HL:=zH (HL.out.of_below b2);replace CT:=zH (Z7 b2 CT.out);clear b2;dsimp only;refine hK _ _ ?_;clear hK K;try simp only[Act.put,lq0,lq1,lq2,lq3,lq4,lq5]
     refine wpAnyIn_take (i:=4) (v := .agg (Ji (YY x))) rfl rfl (by kernel_rfl) (by kernel_rfl) (by kernel_rfl) (fun _ _ _ h=>h) ⟨Or.inl ⟨by rfl,by intro W;kernel_rfl⟩,fun _=>rfl⟩ ?_;try simp only[Act.put,lq0,lq1,lq2,lq3,lq4,lq5]
     refine wpAnyIn_ready (rs:=[5]) (by kernel_rfl) (by simp) ?_;refine AllReadyIn.cons rfl (fun K hK=>?_) AllReadyIn.nil;rw[if_pos (by kernel_rfl)];obtain⟨fn,tmps,assign,body,hy,hRo⟩:=HY.out (k,x) _ ⟨HX.out,HR.out⟩ HL.out;refine⟨fun _ _=>trivial,?_⟩;go_simp;refine⟨fun h=>by simp[Fence.wide]at h,?_⟩;refine hRo.mono ?_;rintro e W6 ⟨rfl,hR6,hL6⟩;have HR6:=zH hR6;have HL6:=zH hL6;clear hRo hy hR6 hL6;refine hK _ _ ?_;clear hK K;try simp only[Act.put,lq0,lq1,lq2,lq3,lq4,lq5]
     refine wpAnyIn_take (i:=6) (v := .bool false) rfl rfl (by kernel_rfl) (by kernel_rfl) (by kernel_rfl) (fun _ _ _ h=>h) ⟨Or.inl ⟨by rfl,by intro W;go_simp⟩,fun _=>rfl⟩ ?_;try simp only[Act.put,lq0,lq1,lq2,lq3,lq4,lq5]
     refine wpAnyIn_done (by kernel_rfl) ?_ _;gi_wp2_with fail;go_roundw
     case rel=>exact⟨k+1,by simp,by omega,HR6,HL6⟩
     case measure=>simp[intOf];omega
   refine AllReadyIn.cons rfl (fun K hK=>?_) AllReadyIn.nil
   ·rw[if_pos (by kernel_rfl)];refine Xk Jf (by intro c e;cases e) (wp_load_row 47 _ rfl pX rfl 47 (Z5 x.n x.sa x.sc) (0,0) _ CT.out Tryz.underlying47 rfl (I43.out _ _ _) (hK _ _ ?_));clear hK K;try simp only[Act.put,lq0,lq1,lq2,lq3,lq4,lq5]
    refine wpAnyIn_ready (rs:=[1]) (by kernel_rfl) (by simp) ?_;refine AllReadyIn.cons rfl (fun K hK=>?_) AllReadyIn.nil;rw[if_pos (by kernel_rfl)];refine Xk Jf (by intro c e;cases e) (wp_load_row 47 _ rfl pX rfl 47 (Z5 x.n x.sa x.sc) (0,0) _ CT.out Tryz.underlying47 rfl (I43.out _ _ _) (hK _ _ ?_));clear hK K;try simp only[Act.put,lq0,lq1,lq2,lq3,lq4,lq5]
    refine wpAnyIn_ready (rs:=[2]) (by kernel_rfl) (by simp) ?_;refine AllReadyIn.cons rfl (fun K hK=>?_) AllReadyIn.nil;rw[if_pos (by kernel_rfl)];refine Xk Jf (by intro c e;cases e) ?_;go_simp;go_at_call 167;refine(Yc x.n x.sa x.sc _).mono ?_;rintro e V2 ⟨rfl,b2⟩;replace B2:=zH (B2.out.trans (b2.mono B2.out.size));replace HR:=zH (HR.out.below b2);replace HL:=zH (HL.out.of_below b2);replace CT:=zH (Z7 b2 CT.out);clear b2;dsimp only;refine hK _ _ ?_;clear hK K;try simp only[Act.put,lq0,lq1,lq2,lq3,lq4,lq5]
    refine wpAnyIn_take (i:=4) (v := .agg (Ji (YY x))) rfl rfl (by kernel_rfl) (by kernel_rfl) (by kernel_rfl) (fun _ _ _ h=>h) ⟨Or.inl ⟨by rfl,by intro W;kernel_rfl⟩,fun _=>rfl⟩ ?_;try simp only[Act.put,lq0,lq1,lq2,lq3,lq4,lq5]
    refine wpAnyIn_ready (rs:=[5]) (by kernel_rfl) (by simp) ?_;refine AllReadyIn.cons rfl (fun K hK=>?_) AllReadyIn.nil;rw[if_pos (by kernel_rfl)];obtain⟨fn,tmps,assign,body,hy,hRo⟩:=HY.out (k,x) _ ⟨HX.out,HR.out⟩ HL.out;refine⟨fun _ _=>trivial,?_⟩;go_simp;refine⟨fun h=>by simp[Fence.wide]at h,?_⟩;refine hRo.mono ?_;rintro e W6 ⟨rfl,hR6,hL6⟩;have HR6:=zH hR6;have HL6:=zH hL6;clear hRo hy hR6 hL6;refine hK _ _ ?_;clear hK K;try simp only[Act.put,lq0,lq1,lq2,lq3,lq4,lq5]
    refine wpAnyIn_take (i:=6) (v := .bool false) rfl rfl (by kernel_rfl) (by kernel_rfl) (by kernel_rfl) (fun _ _ _ h=>h) ⟨Or.inl ⟨by rfl,by intro W;go_simp⟩,fun _=>rfl⟩ ?_;try simp only[Act.put,lq0,lq1,lq2,lq3,lq4,lq5]
    refine wpAnyIn_done (by kernel_rfl) ?_ _;gi_wp2_with fail;go_roundw
    case rel=>exact⟨k+1,by simp,by omega,HR6,HL6⟩
    case measure=>simp[intOf];omega
  ·have t0:decide ((k:Int) < (xs.length:Int))=false:=by simp;omega
   have hke:k=xs.length:=by omega
   have HR2:Hid (Yn Wb p (Xl day (xs.map YY)) wr):=zH (by have:=HR.out;rwa [hke,List.take_length]at this);gi_wp2_with fail;go_end0;exact⟨⟨_,rfl⟩,HR2.out,HL.out⟩
attribute [local go_sem] Oper.semAt_some
theorem Z3W (l m:List Nm):ZC (l ++ m)=ZC l ++ ZC m:=by simp[ZC]
theorem XR.addC {base:Nat}{W W':World}{p:Nat}{ha:zA}{hc:Nat}{ea:zA}{ec:Nat}{ca:zA}{cc:Nat}{hs es:List XH}{cs ns:List Nm}{a':zA}{c':Nat}(h:XR base W p ha hc ea ec ca cc hs es cs)
  (ho:W'.ownsRow base 45 2 (.slice a' (cs.length+ns.length) c') (cs.length+ns.length) (ZC cs ++ ZC ns)) (hg:W.grownBy W' (Value.ownBlock (.slice ca cs.length cc))):
  XR base (W'.setCell ⟨p,2,none⟩ (.slice a' (cs.length+ns.length) c')) p ha hc ea ec a' c' hs es (cs ++ ns)/\Za (fun k=>k=p\/Value.ownBlock (.slice ca cs.length cc)=some k) W (W'.setCell ⟨p,2,none⟩ (.slice a' (cs.length+ns.length) c')):=by
 have hb2:=Zc hg h.blk (Zn h.cown h.blk (by intro cur;simp));have G:=Zp W' p 2 (.slice a' (cs.length+ns.length) c');refine⟨⟨?_,?_,?_,?_,?_⟩,(Za.of_grown hg (fun k e=>.inr e)).trans (Za.of_grown G (fun k e=>by cases e;exact .inl rfl))⟩
 ·rw[ZI hb2 2 (.slice a' (cs.length+ns.length) c'),List.length_append];rfl
 ·have h1:=h.hown.kept hg (JG h.hown h.cown (by decide));exact h1.kept G (.inr (Zn h1 hb2 (by intro cur;simp)).symm)
 ·have h1:=h.eown.kept hg (JG h.eown h.cown (by decide));exact h1.kept G (.inr (Zn h1 hb2 (by intro cur;simp)).symm)
 ·rw[Z3W,List.length_append];exact ho.kept G (.inr (Zn ho hb2 (by intro cur;simp)).symm)
 ·exact h.dis
def Z03 (x:Nm):List Value:=[.int .i64 x.1,.int .i64 x.2]
theorem VJ (l:List Nm):ZC l=(l.map Z03).flatten:=by
 rw[ZC,List.flatMap_def];rfl
def JH (x y:Nm):Bool:=decide (Yx x.1 x.2 y.1 y.2 < 0)
theorem Jv (x y:Nm):JH x y=true↔x.1 < y.1\/x.1=y.1/\x.2 < y.2:=by
 rw[JH,decide_eq_true_eq,Yx,Z3f,UM,Z0B,UM]
theorem Z8b:Ord JH:=by
 refine⟨fun x y h=>?_,fun x y z h1 h2=>?_⟩
 ·rw[Jv]at h;rw[<-Bool.not_eq_true,Jv];omega
 ·rw[<-Bool.not_eq_true,Jv]at *;omega
theorem Zbb (args:ZV)(w:World):(callFunc 124 args).run zq w = .ok (.enter 124 args) w:=by kernel_rfl
theorem Ze4 (x y:Nm)(w:World):Calls zq 124 #[.agg (Z03 x).toArray,.agg (Z03 y).toArray] w fun e w'=>e = .returned (.int .i64 (Yx x.1 x.2 y.1 y.2))/\Vk w.heap.size w w':=
 UJ x.1 x.2 y.1 y.2 w
theorem Yn.table {Wb W:World}{p bT q:Nat}{R:Jb}(h:Yn Wb p R W)(ht:Yu Wb bT q)(h1:bT≠p)(h2:q≠p):Yu W bT q:=
 ht.of_blocks (h.same.block q ht.lt.1 h2) (h.same.block bT ht.lt.2 h1)
theorem Z8q (args:ZV)(w:World):(callFunc 217 args).run zq w = .ok (.enter 217 args) w:=by kernel_rfl
theorem Z89 (args:ZV)(w:World):(callFunc 218 args).run zq w = .ok (.enter 218 args) w:=by kernel_rfl
theorem VD (l:Nat):Z1f (Fence.wide.inRound l) := .inr ⟨l,rfl⟩
theorem Z7Z {e:XH}{base p bT q:Nat}{R:Jb}{W:World}{ha:zA}{hc:Nat}{ea:zA}{ec:Nat}{ca:zA}{cc:Nat}(ht:Yu W bT q)(h:XR base W p ha hc ea ec ca cc R.hs R.es R.cs)(hbase:base<=W.heap.size)(h1:R.hs.length<=1000000)(h2:R.es.length<=1000000)(hk:1<=e.x.n.kind/\e.x.n.kind<=4):
  ∃g lb,(Instr.lookup 245 (.map (some bT)) (.int .i64 e.x.n.kind) false).run zq W = .ok (.func (.func g) #[] lb) W/\(∀(args:ZV) (w:World),(callFunc g args).run zq w = .ok (.enter g args) w) /\
   Calls zq g (#[.pointer (some ⟨p,0,none⟩),.agg (Ji e)] ++ lb) W (Z4A base W p ha hc ea ec R e):=by
 have hk':e.x.n.kind=1\/e.x.n.kind=2\/e.x.n.kind=3\/e.x.n.kind=4:=by omega
 have h0 : ∀{g:Nat} {r:Ending->World->Prop},Calls zq g #[.pointer (some ⟨p,0,none⟩),.agg (Ji e)] W r->Calls zq g (#[.pointer (some ⟨p,0,none⟩),.agg (Ji e)] ++ #[]) W r:=fun h=>by rw[Array.append_empty];exact h
 rcases hk' with hk | hk | hk | hk
 ·exact⟨217,#[],by rw[hk];exact ht.at1,Z8q,h0 (ZcS h hbase h1 hk)⟩
 ·exact⟨218,#[.pointer (some ⟨q,0,none⟩)],by rw[hk];exact ht.at2,Z89,ZcR q h ht.1 hbase h2 hk⟩
 ·exact⟨216,#[],by rw[hk];exact ht.at3,Zcm,h0 (ZbP h hbase h2 (by omega) (by omega))⟩
 ·exact⟨216,#[],by rw[hk];exact ht.at4,Zcm,h0 (ZbP h hbase h2 (by omega) (by omega))⟩
def Z5E:XH:=⟨(0,0),⟨Zh,none,0⟩⟩
theorem Z5P (W:World):(Instr.alloc 210 true (.tuple #[])).run zq W = .ok (.pointer (some ⟨W.heap.size,0,none⟩)) (W.alloc (.cells (Ji Z5E) 210)):=by kernel_rfl
theorem Z4N {op:Oper}{a:Act}{w:World}{K:Act->World->Prop}{Q:Exit->Act->World->Prop}(ho:op.op = .alloc 210)
  (h:K (a.put op.dst (.pointer (some ⟨w.heap.size,0,none⟩))) (w.alloc (.cells (Ji Z5E) 210))):op.wp zq a w K Q:=by
 have e1:=Z5P w;unfold Oper.wp execOp;simp[ho,e1,Result.andThen];exact h
theorem Z34 {ops:Array Oper}{rest:List Oper}{op:Oper}{a:Act}{w:World}{Q:Exit->Act->World->Prop}(hgd:op.guard=none)(ho:op.op = .alloc 210)
  (h:wpList zq ops Q rest (a.put op.dst (.pointer (some ⟨w.heap.size,0,none⟩))) (w.alloc (.cells (Ji Z5E) 210))):wpList zq ops Q (op :: rest) a w:=
 wpList_plain hgd fun _ hK=>Z4N ho (hK _ _ h)
theorem ZcQ (e:XH):(Ji e).all (·.oneCell')=true:=by
 rw[Array.all_eq_true];intro i hi;exact Z6b e _ (by simp[Ji])
theorem YG {P:Program}{ops:Array Oper}{rest:List Oper}{op:Oper}{a:Act}{w w':World}{Q:Exit->Act->World->Prop}(hgd:op.guard=none)(s x:Operand)(t:TypeId)(ho:op.op = .call { callee := .builtin .append,args := #[s,x],argTypes := #[t,t] })(v1 v2 v:Value)
  (hs:a.eval s=v1) (hx:a.eval x=v2) (hr:(Builtin.append_ #[t,t] op.type #[v1,v2]).run P w = .ok v w') (h:wpList P ops Q rest (a.put op.dst v) w'):wpList P ops Q (op :: rest) a w:=
 wpList_plain hgd fun _ hK=>ZR s x t ho v1 v2 v hs hx hr (hK _ _ h)
theorem Xs {P:Program}{ops:Array Oper}{rest:List Oper}{op:Oper}{a:Act}{w:World}{Q:Exit->Act->World->Prop}(hgd:op.guard=none)(ty:TypeId)(x y:Operand)(ho:op.op = .store ty x y)(p:Nat)(c c':ZV)(t:TypeId)(hx:a.eval x = .pointer (some ⟨p,0,none⟩))(hy:a.eval y = .agg c')(hg:w.heap[p]? = some (.cells c t (0,0)))
  (hi:(P.info? ty).map (·.size)=some c'.size) (hc:c.size=c'.size) (h1:c'.all (·.oneCell')=true)
  (h : ∀w',w'.heap[p]? = some (.cells c' t (0,0))->w.grownBy w' (some p)->w'.heap.size=w.heap.size->wpList P ops Q rest (a.put op.dst undef) w'):wpList P ops Q (op :: rest) a w:=
 wpList_plain hgd fun _ hK=>ZT ty x y ho p c c' t hx hy hg hi hc h1 (fun w' h1 h2 h3=>hK _ _ (h w' h1 h2 h3))
theorem Z70 (l:List Nm): ∀u∈ZC l,u.oneCell'=true:=by
 intro u hu;rw[ZC,List.mem_flatMap]at hu;obtain⟨a,_,h⟩:=hu;simp only[List.mem_cons,List.not_mem_nil,or_false]at h;rcases h with rfl | rfl <;> rfl
theorem Z5R {day:Int}{R:Jb}{e:XH}(h1:e.x.n.day<=day)(h2:zk R e=true):Yi day R e=U2 R e:=by simp[Yi,h1,h2]
theorem Z4L {day:Int}{R:Jb}{e:XH}(h1:e.x.n.day<=day)(h2:zk R e=false):Yi day R e = { R with cs:=R.cs ++ [e.nm] } := by simp[Yi,h1,h2]
theorem Z8y {R:Jb}{e:XH}(h2:zk R e=false):U2 R e=R:=by simp[U2,h2]
theorem Z5T {day:Int}{R:Jb}{e:XH}(h1 : ¬e.x.n.day<=day):Yi day R e=R:=by simp[Yi,h1]
def zZ (w:World)(day:Int)(f J:Nm->Option LN)(vs:List Nm)(e:Ending)(w':World):Prop:=
 ∃(R:Jb) (ha:zA) (hc:Nat) (ea:zA) (ec:Nat) (ca:zA) (cc:Nat) (xs:List LN) (ks:List Nm),e = .returned (.agg #[.slice ha R.hs.length hc,.slice ea R.es.length ec,.slice ca R.cs.length cc]) /\
  w'.ownsRow w.heap.size 210 21 (.slice ha R.hs.length hc) R.hs.length (Xz R.hs)/\w'.ownsRow w.heap.size 210 21 (.slice ea R.es.length ec) R.es.length (Xz R.es)/\w'.ownsRow w.heap.size 45 2 (.slice ca R.cs.length cc) R.cs.length (ZC R.cs) /\
  Z0Z w' w.heap.size xs/\ks.Nodup/\Jd f ks/\(xs.map LN.n).Perm (ks.filterMap (evN f J))/\xs.Pairwise (fun x y=>Z1X y x=false) /\
  R.hs=(Xl day (xs.map YY)).hs/\R.es=(Xl day (xs.map YY)).es/\R.cs.Perm ((Xl day (xs.map YY)).cs ++ vs)/\R.cs.Pairwise (fun x y=>JH y x=false)
theorem Z5Q (pB bS bJ n m:Nat)(va:zA)(vc:Nat)(vs:List Nm)(f J:Nm->Option LN)(day:Int)(w:World)
  (hb:JZ w pB bS bJ va vs.length vc) (hm:Y4 LN.val w bS n f) (hj:Y4 LN.val w bJ m J) (hfo:FOk f) (hjf : ∀a x,J a=some x -> ∃k,f k=some x)
  (hrd : ∀a x,f a=some x->x.ok w/\x.n.strokes.length<=1000000) (hn:n<=1000) (hv:ZW w 2 va vs.length vc (ZC vs)) (hk : ∀k y,evN f J k=some y->1<=y.kind/\y.kind<=4)
  (hcnt : ∀ks:List Nm,ks.Nodup->Jd f ks->(ks.filterMap (evN f J)).length+vs.length<=1000):
  Calls zq 152 #[.pointer (some ⟨pB,0,none⟩),.int .i64 day] w fun e w'=>zZ w day f J vs e w'/\Below w.heap.size w w':=by
 have HB:=zH hb;clear hb;have HM:=zH hm;clear hm;have HJ:=zH hj;clear hj;have FO:=zH hfo;clear hfo;have JF:=zH hjf;clear hjf;have RD:=zH hrd;clear hrd;have HV:=zH hv;clear hv;have HK:=zH hk;clear hk;have HC:=zH hcnt;clear hcnt;refine(callsIn_wide (n:=4)).1 ?_;refine callsIn_of_wp_marks Tryz.func152 rfl trivial ?_;simp only[Tryz.ntmps152,List.size_toArray,List.length_cons,List.length_nil,Nat.reduceAdd,Nat.reduceSub,Array.replicate_succ,Array.replicate_zero,List.push_toArray,List.append_toArray,List.nil_append,List.cons_append];refine wpIn_wide.2 ?_;go_upto_region 2 with fail;have B0:=zH ((((zB w (.cells #[.int .i64 day] 3)).alloc (by simp) (.cells #[.slice none 0 0,.slice none 0 0,.slice none 0 0] 77)).alloc (by simp;omega) (.cells #[.slice none 0 0,.slice none 0 0,.slice none 0 0] 77)));have D0:=zH (Zb _ (.cells #[.slice none 0 0,.slice none 0 0,.slice none 0 0] 77) _ _ (Zb _ (.cells #[.slice none 0 0,.slice none 0 0,.slice none 0 0] 77) _ _ (Z9 w (.cells #[.int .i64 day] 3))));have P0:=zH (Zb _ (.cells #[.slice none 0 0,.slice none 0 0,.slice none 0 0] 77) _ _ (Zv (w.alloc (.cells #[.int .i64 day] 3)) (.cells #[.slice none 0 0,.slice none 0 0,.slice none 0 0] 77) (w.heap.size+1) (by simp)));have Q0:=zH (Zv ((w.alloc (.cells #[.int .i64 day] 3)).alloc (.cells #[.slice none 0 0,.slice none 0 0,.slice none 0 0] 77)) (.cells #[.slice none 0 0,.slice none 0 0,.slice none 0 0] 77) (w.heap.size+1+1) (by simp));obtain⟨pD,hpD⟩:=zX (w.heap.size);obtain⟨pR,hpR⟩:=zX (w.heap.size+1);obtain⟨p,hp⟩:=zX (w.heap.size+1+1);rw[hp.out,hpR.out,hpD.out];rw[hpD.out]at D0;rw[hpR.out]at P0;rw[hp.out]at Q0;generalize ((w.alloc (.cells #[.int .i64 day] 3)).alloc (.cells #[.slice none 0 0,.slice none 0 0,.slice none 0 0] 77)).alloc (.cells #[.slice none 0 0,.slice none 0 0,.slice none 0 0] 77)=w0 at *;go_upto_region 3 with (first
  |(go_at_call 192
    refine(Z7y _).mono ?_;rintro e w1 ⟨bT,q,rfl,hT,hb1,hq1,hq2⟩;have HT:=zH hT;have HB1:=zH hb1;have HQ:=zH (And.intro hq1 hq2);clear hT hb1 hq1 hq2;dsimp only)
  | fail)
 have B1:=zH (B0.out.trans (HB1.out.mono B0.out.size));have hal:=zB w1 (.cells #[.map (some bT)] 245);have T2:=zH (Z9 w1 (.cells #[.map (some bT)] 245));have B2:=zH (B1.out.trans (hal.mono B1.out.size));have HT2:=zH (HT.out.below hal);have D2:=zH (Z7 hal (Z7 HB1.out D0.out));have P2:=zH (Z7 hal (Z7 HB1.out P0.out));have Q2:=zH (Z7 hal (Z7 HB1.out Q0.out));clear hal HT B1 HB1 D0 P0 Q0 B0 HQ;obtain⟨pT,hpT⟩:=zX (w1.heap.size);rw[hpT.out]at T2 ⊢;generalize w1.alloc (.cells #[.map (some bT)] 245)=w2 at *;go_wp2_with (first
  |(go_at_call 193
    refine(Z8w pB bS bJ n m va vs.length vc f J w2 (Z7 B2.out HB.out) (HM.out.below B2.out) (HJ.out.below B2.out) FO.out JF.out (fun a x h=>⟨(RD.out a x h).1.below B2.out,(RD.out a x h).2⟩) hn).mono ?_;rintro e w3 ⟨⟨pL,a,c,xs,ks,rfl,h1,h2,h3,h4,h5,h6,h7,h8⟩,hb3⟩;have HL:=zH h1;have HO:=zH h2;have HE:=zH h3;have HKS:=zH (And.intro h4 (And.intro h5 (And.intro h6 h7)));have HPL:=zH h8;have B3:=zH hb3;clear h1 h2 h3 h4 h5 h6 h7 h8 hb3;dsimp only)
  | fail)
 have T3:=zH (Z7 B3.out T2.out);have D3:=zH (Z7 B3.out D2.out);have P3:=zH (Z7 B3.out P2.out);have Q3:=zH (Z7 B3.out Q2.out);have HT3:=zH (HT2.out.below B3.out);have B4:=zH (B2.out.trans (B3.out.mono B2.out.size));have HW2:Hid (w.heap.size<=w2.heap.size):=zH B2.out.size;have ENV:Hid (Z32 w3 p pL w2.heap.size a c xs):=zH ⟨Q3.out,HL.out,HO.out⟩;have NT:Hid (pT≠p):=zH (fun e=>by have h1:=T3.out;rw[e,Q3.out]at h1;simp at h1);have ND:Hid (pD≠p):=zH (fun e=>by have h1:=D3.out;rw[e,Q3.out]at h1;simp at h1);have NB:Hid (bT≠p):=zH (fun e=>by obtain⟨es,clock,h1,_⟩:=HT3.out.2;rw[e,Q3.out]at h1;simp at h1);have NQ:Hid (q≠p):=zH (fun e=>by have h1:=HT3.out.1;rw[e,Q3.out]at h1;simp at h1);have NR:Hid (pR≠p):=zH (by have:=hpR.out;have:=hp.out;omega);have HKD:Hid (∀x∈xs,1<=x.n.kind/\x.n.kind<=4):=zH (fun x hx=>by
  have h1:=HKS.out.2.2.1.subset (List.mem_map_of_mem (f:=LN.n) hx);obtain⟨k,_,h2⟩:=List.mem_filterMap.1 h1;exact HK.out k x.n h2)
 have HLEN:Hid (xs.length+vs.length<=1000):=zH (by
  have h1:=HC.out ks HKS.out.1 HKS.out.2.1;have h2:=HKS.out.2.2.1.length_eq;rw[List.length_map]at h2;omega)
 clear T2 D2 P2 Q2 HT2 HL HO B3 HK HC;refine(wpIn_wide (n:=4)).1 ?_;refine Z0N (n:=3) (σ:=Nat×LN) (w:=w3) (gf:=223) (lb := #[.pointer (some ⟨pL,0,none⟩)]) rfl (enters_of Tryz.func223 (by kernel_rfl) rfl)
  (fun s=>#[.agg (Ji (YY s.2))]) (fun _=>rfl) (ZeK w3 p day xs) (fun s W=>Yn w3 p (Xl day ((xs.take (s.1+1)).map YY)) W)
  (fun s a₁ W=>∃pX,a₁ = { tmps := #[.pointer (some ⟨pB,0,none⟩),.int .i64 day,undef,.pointer (some ⟨pD,0,none⟩),.pointer (some ⟨pR,0,none⟩),.pointer (some ⟨p,0,none⟩),.pointer (some ⟨pT,0,none⟩),.pointer (some ⟨pX,0,none⟩),.map (some bT),.pointer (some ⟨pB,0,none⟩),.func (.func 223) #[] #[.pointer (some ⟨pL,0,none⟩)],.agg (Ji (YY s.2)),undef,undef,undef,undef,undef,undef,undef,undef,undef,undef,undef,undef,undef,undef,undef,undef,undef,undef,undef,undef,undef,undef,undef,undef,undef,undef,undef,undef,undef,undef,undef,undef,undef,undef],defers:=[] } /\ W.heap[pX]? = some (.cells (Ji (YY s.2)) 210)/\xs[s.1]? = some s.2/\Vt w3 p (Xl day ((xs.take s.1).map YY)) pX W)
  (fun W=>Yn w3 p (Xl day (xs.map YY)) W) ?hA' ?hB ?hD ?assign ?body ?iter ?done
 case hA'=>
  rintro s a₁ W o ⟨pX,rfl,h1,h3,h4⟩ ⟨r,hr⟩;refine⟨pX,rfl,(World.putObj_heap_other (fun e=>?_)).trans h1,h3,h4.putObj o ⟨r,hr⟩⟩;rw[e,hr]at h1;simp at h1
 case hB=>
  intro s W o h hl;exact h.putObj o hl
 case hD=>
  intro W o h hl;exact h.putObj o hl
 case assign=>
  rintro⟨k,x⟩ W ⟨h1,h2⟩;have I21:=zH (show ∀(x:XH),(zq.info? 210).map (·.size)=some (Ji x).size from fun x=>by kernel_rfl);have H1:=zH h1;have H2:=zH h2;clear h1 h2;dsimp only;have hb5:Below W.heap.size W (W.alloc (.cells (Ji (YY x)) 210)):=zB W _;have HG:=zH (show KeepsFrom w3.heap.size W (W.alloc (.cells (Ji (YY x)) 210))/\(W.alloc (.cells (Ji (YY x)) 210)).heap[W.heap.size]? = some (.cells (Ji (YY x)) 210)/\xs[k]? = some x/\Vt w3 p (Xl day ((xs.take k).map YY)) W.heap.size (W.alloc (.cells (Ji (YY x)) 210))from
   ⟨(Qa hb5).from _,Z9 W _,H1.out,H2.out.bound hb5⟩)
  clear hb5 H1 H2;have hf : ∀t:ZV,(#[11].zip #[Value.agg (Ji (YY x))]).foldl (fun t (p,v)=>t.setIfInBounds p v) t=t.setIfInBounds 11 (.agg (Ji (YY x))):=fun t=>by simp
  rw[hf];simp only[List.setIfInBounds_toArray,List.set_cons_succ,List.set_cons_zero];clear hf;refine Xt (VD _) (Z0d (fun a w h=>h)) ?hnd ?_
  case hnd=>rfl
  refine Z34 rfl rfl ?_;refine Zr W rfl 210 _ _ rfl W.heap.size rfl (Ji Z5E) (Ji (YY x)) rfl rfl (I21.out _) rfl (ZcQ _) ?_;exact⟨HG.out.1,W.heap.size,rfl,HG.out.2⟩
 case body=>
  rintro⟨k,x⟩ a₁ W ⟨pX,rfl,hX,h1,h2⟩;have I21:=zH (show ∀(x:XH),(zq.info? 210).map (·.size)=some (Ji x).size from fun x=>by kernel_rfl);have HX:=zH hX;have H1:=zH (show xs[k]? = some x from h1);have H2:=zH (show Vt w3 p (Xl day ((xs.take k).map YY)) pX W from h2);clear hX h1 h2;have HNX:=zH (Z85 day xs k x H1.out);have HL1:Hid ((Xl day ((xs.take k).map YY)).hs.length+(Xl day ((xs.take k).map YY)).es.length+(Xl day ((xs.take k).map YY)).cs.length<=1000):=zH (by
   have h1:=Z59 day ((xs.take k).map YY);have h2:=HLEN.out;rw[List.length_map,List.length_take]at h1;omega)
  dsimp only;rw[HNX.out];generalize Xl day ((xs.take k).map YY)=R at *;have hS:=H2.out.same;obtain⟨ha,hc,ea,ec,ca,cc,hRA,htop⟩:=H2.out.reg;have HRA:=zH hRA;have HTOP:=zH htop;clear hRA htop;obtain⟨g,lb,hlk,hfn,hcall⟩:=Z7Z (e:=YY x) (H2.out.st.table HT3.out NB.out NQ.out) HRA.out hS.size (by have:=HL1.out;omega) (by have:=HL1.out;omega) (HKD.out x (List.mem_of_getElem? H1.out));have c5:=Z6 HX.out 5 (.int .i64 x.n.day) rfl;have c6:=Z6 HX.out 6 (.int .i64 x.n.kind) rfl;have cT:=Z6 (H2.out.st.blk T3.out NT.out) 0 (.map (some bT)) rfl;have cD:=Z6 (H2.out.st.blk D3.out ND.out) 0 (.int .i64 day) rfl;have HCL:=zH hcall;have HSm:=zH hS;clear hcall hS;replace hlk:(Instr.lookup 245 (.map (some bT)) (.int .i64 x.n.kind) false).run zq W = .ok (.func (.func g) #[] lb) W:=hlk;apply wpIn_block;apply wpIn_seq_k;intro K1 hK1;refine Xt (VD _) (Z0d (fun a w h=>h)) ?hnd ?_
  case hnd=>rfl
  by_cases hd:x.n.day<=day
  ·have t0:decide (x.n.day<=day)=true:=by simp[hd]
   have HD:=zH hd;clear hd;go_wp2_with (first
    |(refine Uw ?hw 210 _ rfl pX rfl 210 (Ji (YY x)) (0,0) _ HX.out Tryz.underlying210 rfl (I21.out _) ?_;case hw=>rfl)
    | fail)
   refine HCL.out.mono ?_;intro r W5 he;have S5:=zH (Yn.eff HSm.out HRA.out he);have KP:=zH he.2.2.2;have HX5:Hid (W5.heap[pX]? = some (.cells (Ji (YY x)) 210)):=zH ((he.2.2.1.block pX (Array.getElem?_eq_some_iff.1 HX.out).1 (fun e=>absurd (HTOP.out pX e) (Nat.lt_irrefl _))).trans HX.out);obtain⟨rfl,-,-,-⟩:=he;clear HCL hlk hfn c5 c6 cT cD t0;obtain⟨bv,hbv⟩ : ∃bv,zk R (YY x)=bv:=⟨_,rfl⟩;have HBV:=zH hbv;rw[hbv];clear hbv;dsimp only;cases bv with
   | true=>
    go_wp2_with fail;gi_wp2_with fail;exact⟨KP.out.from _,by show Yn _ _ (Yi day R (YY x)) _;rw[Z5R HD.out HBV.out];exact S5.out⟩
   | false=>
    have S6:=zH (show Yn w3 p R W5 by have:=S5.out;rwa [Z8y HBV.out]at this);clear S5 HRA HTOP;obtain⟨ha,hc,ea,ec,ca,cc,hRA⟩:=S6.out.reg;have HRA:=zH hRA;clear hRA;go_wp2_with fail;refine wpIn_cond (t:=true) rfl ?_;rw[if_pos rfl];refine Xt (VD _) (Z0d (fun a w h=>h)) ?hnd ?_
    case hnd=>rfl
    have bn:Below W5.heap.size W5 (W5.alloc (.cells #[.int .i64 x.n.house,.int .i64 x.n.num] 45)):=zB _ _;have hRB:=HRA.out.below bn;obtain⟨a',c',v9,hrun,ho,hg⟩:=XX (W5.alloc (.cells #[.int .i64 x.n.house,.int .i64 x.n.num] 45)) w3.heap.size ca R.cs.length cc _ hRB.cown _ 1 1 _ (VO W5 (.int .i64 x.n.house) (.int .i64 x.n.num)) (by simp[Value.oneCell']) (by have:=HL1.out;omega) (Nat.le_trans S6.out.size bn.size);have hN:=hRB.addC (ns:=[(YY x).nm]) ho hg;have CL3:=Zc hg hRB.blk (Zn hRB.cown hRB.blk (by intro cur;simp));have hcl3:=Z6 CL3 2 (.slice ca R.cs.length cc) rfl;have hfz:=Zq CL3 2;have HFIN:Hid (KeepsFrom w3.heap.size W (v9.setCell ⟨p,2,none⟩ (.slice a' (R.cs.length+1) c'))/\Yn w3 p (Yi day R (YY x)) (v9.setCell ⟨p,2,none⟩ (.slice a' (R.cs.length+1) c'))):=zH (by
     refine⟨((KP.out.trans (Qa bn)).trans (UD hRB.blk hRB.cown hN.2)).from _,?_⟩;rw[Z4L HD.out HBV.out];exact⟨⟨ha,hc,ea,ec,a',c',hN.1⟩,(S6.out.same.trans (Za.of_below bn)).reg (hN.2.weaken (fun k hk=>hk.imp id (fun h=>(hRB.cown.lt k h).1)))⟩)
    have hcl:=Z6 HRA.out.blk 2 (.slice ca R.cs.length cc) rfl;have e0:=Z6 HX5.out 0 (.int .i64 x.n.house) rfl;have e1:=Z6 HX5.out 1 (.int .i64 x.n.num) rfl;clear bn hRB ho hg hN CL3;go_wp2_with (first
     |(refine YG rfl _ _ _ rfl _ _ _ rfl rfl hrun ?_)
     | fail)
    exact HFIN.out
  ·have t0:decide (x.n.day<=day)=false:=by simp[hd]
   have HD:=zH hd;clear hd;clear hlk hfn;go_wp2_with fail;gi_wp2_with fail;exact⟨KeepsFrom.refl _ _,by show Yn _ _ (Yi day R (YY x)) _;rw[Z5T (by have:=HD.out;show ¬x.n.day<=day;omega)];exact H2.out.st⟩
 case iter=>
  intro rec hlr hY;have hbb:=(zB w3 (.deferred (some []))).alloc (by simp) (.loop (rec .ready none));refine ZdC 3 w3 p pL w2.heap.size day a c xs ENV.out rec _ ⟨⟨none,0,none,0,none,0,Z7 hbb Q3.out,World.ownsRow_nil _ _ _ _,World.ownsRow_nil _ _ _ _,World.ownsRow_nil _ _ _ _,.inl rfl⟩,Za.of_below hbb⟩ hlr hY
 case done=>
  intro W hW hD0;dsimp only;have HW:=zH hW;have HD0:=zH hD0;clear hW hD0;go_upto_region 7 with fail;obtain⟨R,hR⟩:=zX (Xl day (xs.map YY));have HCN:Hid (R.cs.length+vs.length<=1000):=zH (by
   have h1:=Z59 day (xs.map YY);have h2:=HLEN.out;rw[List.length_map,hR.out]at h1;omega)
  rw[hR.out]at HW;have NPB:Hid (pB≠p):=zH (fun e=>by have h1:=Z7 B4.out HB.out;rw[e,Q3.out]at h1;simp at h1);have HBW:=zH (HW.out.blk (Z7 B4.out HB.out) NPB.out);have HPR:=zH (HW.out.blk P3.out NR.out);have BW:Hid (Below w.heap.size w W):=zH (HW.out.same.below B4.out B4.out.size (fun k hk=>by have:=hp.out;omega));obtain⟨ha,hc,ea,ec,ca,cc,hRA⟩:=HW.out.reg;have HRA:=zH hRA;clear hRA;refine zp HBW.out fun hh=>?_;have bd:=(zd W);have KV:=zH (Qa bd);have SV:=zH (HW.out.same.trans (Za.of_below bd));have RA:=zH (HRA.out.below bd);have BV:=zH (BW.out.trans (bd.mono BW.out.size));replace HBW:=zH (Z7 bd HBW.out);have PRV:=zH (Z7 bd HPR.out);clear bd HRA HPR;generalize W.drew=V at *;have RV:=zH (HV.out.below BV.out);refine zw 0 rfl p 2 ?_;refine zw 2 rfl pB 0 ?_;refine zw 3 rfl pB 0 ?_;refine zw 4 rfl pB 2 ?_;refine zS 5 rfl (.slice va vs.length vc) (fun W h=>by have hc:=Z6 h 2 (.slice va vs.length vc) rfl;go_simp) ?_;refine zR 1 rfl fun K hK=>?_;have hcl:=Z6 RA.out.blk 2 (.slice ca R.cs.length cc) rfl;go_simp;clear hcl;refine zK hK HBW.out fun hh=>?_;clear hK K;refine zR 6 rfl fun K hK=>?_;obtain⟨a',c',v9,hrun,ho,hg⟩:=XX _ w3.heap.size ca R.cs.length cc _ RA.out.cown va vs.length vc _ RV.out (Z70 vs) (by have:=HCN.out;omega) SV.out.size;have HN:=zH (RA.out.addC (ns:=vs) ho hg);have CL3:=zH (Zc hg RA.out.blk (Zn RA.out.cown RA.out.blk (by intro cur;simp)));replace HBW:Hid (v9.heap[pB]? = some (.cells #[.map (some bS),.map (some bJ),.slice va vs.length vc] 243)):=zH (Zc hg HBW.out (Zn RA.out.cown HBW.out (by intro cur;simp)));clear ho hg;rw[if_pos (by kernel_rfl)];refine ZR _ _ _ rfl _ _ _ rfl rfl hrun ?_;clear hrun;refine zK hK HBW.out fun hh=>?_;clear hK K;refine zw 7 rfl p 2 ?_;refine zR 8 rfl fun K hK=>?_;have hcl:=Z6 CL3.out 2 (.slice ca R.cs.length cc) rfl;have hfz:=Zq CL3.out 2;have h5:some pB≠some p:=fun e2=>by
   have h1:=HBW.out;rw[Option.some.inj e2,CL3.out]at h1;simp at h1
  replace HBW:=zH (Zc (Zp v9 p 2 (.slice a' (R.cs.length+vs.length) c')) HBW.out h5);go_simp;refine zK hK HBW.out fun hh=>?_;clear hK K;refine zE ?_;clear hcl hfz h5 CL3 RV;generalize v9.setCell ⟨p,2,none⟩ (.slice a' (R.cs.length+vs.length) c')=V9 at *;have HP9:Hid (V9.heap[p]? = some (.cells #[.slice ha R.hs.length hc,.slice ea R.es.length ec,.slice a' (R.cs.length+vs.length) c'] 77)):=zH (by have:=HN.out.1.blk;rwa [List.length_append]at this);have HC9:Hid (V9.ownsRow w3.heap.size 45 2 (.slice a' (R.cs.length+vs.length) c') (R.cs.length+vs.length) (((R.cs ++ vs).map Z03).flatten)):=zH (by have:=HN.out.1.cown;rwa [List.length_append,VJ]at this);have HPR9:=zH ((HN.out.2.block pR (Zj PRV.out) (fun e=>e.elim (fun e=>NR.out e) (fun e=>Zn RA.out.cown PRV.out (by intro cur;simp) e.symm))).trans PRV.out);have c92:=Z6 HP9.out 2 (.slice a' (R.cs.length+vs.length) c') rfl;go_wp2_with (first
   |(go_at_call 170
     refine(Z1n (V:=Nm) Z8b Z03 (fun _=>rfl) (fun x v hv=>by simp only[Z03,List.mem_cons,List.not_mem_nil,or_false]at hv;rcases hv with rfl | rfl <;> rfl) (fun x y=>Yx x.1 x.2 y.1 y.2) (fun _ _=>rfl) 124 Zbb Ze4 w3.heap.size (R.cs.length+vs.length) c' a' (R.cs ++ vs) _ HC9.out (by simp) (by have:=HCN.out;omega)).mono ?_;rintro e w10 ⟨rfl,zs,hz1,hz2,hz3,hz4⟩;have Z1:=zH hz1;have Z2:=zH hz2;have Z3:=zH hz3;have Z4:=zH hz4;have HP10:Hid (w10.heap[p]? = some (.cells #[.slice ha R.hs.length hc,.slice ea R.es.length ec,.slice a' (R.cs.length+vs.length) c'] 77)):=zH ((hz4.block p (Zj HP9.out) (fun e=>Zn HC9.out HP9.out (by intro cur;simp) e.symm)).trans HP9.out);have HPRX:=zH ((hz4.block pR (Zj HPR9.out) (fun e=>Zn HC9.out HPR9.out (by intro cur;simp) e.symm)).trans HPR9.out);clear hz1 hz2 hz3 hz4 c92;dsimp only)
   |(refine wpList_load_row rfl 77 _ rfl p rfl 77 #[.slice ha R.hs.length hc,.slice ea R.es.length ec,.slice a' (R.cs.length+vs.length) c'] (0,0) _ HP10.out Tryz.underlying77 rfl (by kernel_rfl) ?_)
   |(refine Xs rfl 77 _ _ rfl pR #[.slice none 0 0,.slice none 0 0,.slice none 0 0] #[.slice ha R.hs.length hc,.slice ea R.es.length ec,.slice a' (R.cs.length+vs.length) c'] 77 rfl rfl HPRX.out (by kernel_rfl) rfl (by simp[Value.oneCell']) ?_;intro w11 hr1 hr2 hr3)
   | fail)
  have H11:=zH hr1;have KS:KeepsOthers V9 w10:=⟨Z4.out.size,fun k o hk ho=>(Z4.out.block k (Array.getElem?_eq_some_iff.1 hk).1 (fun e=>by have:=Z24 HC9.out e hk;rw[this]at ho;cases ho)).trans hk⟩;have HD10:=(((KV.out.trans (UD RA.out.blk RA.out.cown HN.out.2)).trans KS).same _ _ HD0.out rfl);have HD11:=zH (Zc hr2 HD10 (fun e=>by rw[Option.some.inj e,HPRX.out]at HD10;simp at HD10));clear KS HD10;have KEEP : ∀{b e k n:Nat} {v:Value} {ys:List Value},e≠45->e≠77->V.ownsRow b e k v n ys->(w11.putObj w3.heap.size (.deferred none)).ownsRow b e k v n ys:=by
   intro b e k n v ys hn1 hn2 h;have h1:=Ze h HN.out.2 (fun j hj hs=>hs.elim (fun e2=>Zn h RA.out.blk (fun cur hh=>hn2 (by injection hh with _ h4 _;exact h4.symm)) (hj.trans (congrArg some e2)).symm) (fun h2=>(JG h RA.out.cown hn1).elim (fun h3=>by rw[h3]at hj;cases hj) (fun h3=>h3 (hj.trans h2.symm))));have h2:=Ze h1 Z4.out (fun j hj hs=>(JG h1 HC9.out hn1).elim (fun h3=>by rw[h3]at hj;cases hj) (fun h3=>h3 (hj.trans hs.symm)));have h3:=h2.kept hr2 (.inr (Zn h2 HPRX.out (fun cur hh=>hn2 (by injection hh with _ h4 _;exact h4.symm))).symm);exact ownsRow_putObj h3 _ HD11.out rfl
  have hzl:zs.length=R.cs.length+vs.length:=by rw[Z2.out.length_eq,List.length_append]
  have hcs:(w11.putObj w3.heap.size (.deferred none)).ownsRow w3.heap.size 45 2 (.slice a' zs.length c') zs.length (ZC zs):=by
   rw[hzl,VJ];exact ownsRow_putObj (Z1.out.kept hr2 (.inr (Zn Z1.out HPRX.out (by intro cur;simp)).symm)) _ HD11.out rfl
  have hpD:=hpD.out;have hb9:=HN.out.2.below BV.out BV.out.size (fun k hk=>hk.elim (fun e=>by have:=hp.out;omega) (fun h=>Nat.le_trans B4.out.size (RA.out.cown.lt k h).1));have hb10:=Z4.out.below hb9 hb9.size (fun k hk=>Nat.le_trans B4.out.size (HC9.out.lt k hk).1);have hb11:=hb10.grown hr2 hb10.size (fun k e=>by cases e;have:=hpR.out;omega);have hbz:Below w.heap.size w (w11.putObj w3.heap.size (.deferred none)):=hb11.grown (grownBy_putObj' w11 _ _) hb11.size (fun k e=>by cases e;exact B4.out.size);have hprz:(w11.putObj w3.heap.size (.deferred none)).heap[pR]? = some (.cells #[.slice ha R.hs.length hc,.slice ea R.es.length ec,.slice a' zs.length c'] 77):=by
   rw[hzl];exact(World.putObj_heap_other (fun e=>by have h1:=HD11.out;rw[<-e,H11.out]at h1;simp at h1)).trans H11.out
  have hle:=B4.out.size;have h32:=HW2.out;have FIN:=zH (show zZ w day f J vs (.returned (.agg #[.slice ha R.hs.length hc,.slice ea R.es.length ec,.slice a' zs.length c'])) (w11.putObj w3.heap.size (.deferred none))from
   ⟨⟨R.hs,R.es,zs⟩,ha,hc,ea,ec,a',c',xs,ks,rfl,Zu (KEEP (by decide) (by decide) RA.out.hown) hle,Zu (KEEP (by decide) (by decide) RA.out.eown) hle,Zu hcs hle,
    fun x hx=>Zu (KEEP (by decide) (by decide) (Ze (HE.out x hx) SV.out (fun j hj e2=>Zn (HE.out x hx) Q3.out (by intro cur;simp) (hj.trans (congrArg some e2)).symm))) h32,
    HKS.out.1,HKS.out.2.1,HKS.out.2.2.1,HKS.out.2.2.2,by rw[hR.out],by rw[hR.out],by rw[hR.out];exact Z2.out,Z3.out⟩)
  refine⟨by simp,.inl ⟨_,_,rfl,run_takeDeferred HD11.out,?_⟩⟩;refine⟨.agg #[.slice ha R.hs.length hc,.slice ea R.es.length ec,.slice a' zs.length c'],results_cell_row rfl _ _ pR 77 _ (0,0) _ rfl hprz Tryz.underlying77 rfl (by kernel_rfl),FIN.out,hbz⟩
theorem Z2H {k:Nm}{x:LN}: ∀(xs:List LN) (g:Nm->Option LN),(xs.foldl (fun f x=>Yv f x.nm x) g) k=some x->(x∈xs/\x.nm=k)\/g k=some x
 | [],_,h => .inr h
 | y :: xs,g,h=>by
  rcases Z2H xs _ h with ⟨h1,h2⟩ | h1
  ·exact .inl ⟨List.mem_cons_of_mem _ h1,h2⟩
  ·simp only[Yv]at h1
   split at h1
   ·rename_i hk
    cases h1
    exact .inl ⟨List.mem_cons_self ..,hk.symm⟩
   ·exact .inr h1
theorem X3 {xs:List LN}{k:Nm}{x:LN}(h:YA xs k=some x):x∈xs/\x.nm=k:=by
 rcases Z2H xs _ h with h | h
 ·exact h
 ·cases h
theorem Z6Z {α:Type} [DecidableEq α]: ∀(l m:List α),l.Nodup->(∀a∈l,a∈m)->l.length<=m.length
 | [],_,_,_=>Nat.zero_le _
 | a :: l,m,hn,hs=>by
  have ha:=hs a (List.mem_cons_self ..)
  rw[List.nodup_cons]at hn
  have h1:=Z6Z l (m.erase a) hn.2 (fun b hb=>(List.mem_erase_of_ne (fun e=>hn.1 (by rw[<-e];exact hb))).2 (hs b (List.mem_cons_of_mem _ hb)))
  have h2:=List.length_erase_of_mem ha
  have h3:0 < m.length:=List.length_pos_of_mem ha
  simp only[List.length_cons]
  omega
theorem Z5w {xs:List LN}{ks:List Nm}(hn:ks.Nodup)(p:Nm->Bool)(hp : ∀k,p k=true->(YA xs k).isSome=true):(ks.filter p).length<=xs.length:=by
 have h:=Z6Z (ks.filter p) (xs.map LN.nm) (hn.sublist List.filter_sublist) (fun a ha=>by
  have h1:=hp a (List.mem_filter.1 ha).2;obtain⟨x,hx⟩:=Option.isSome_iff_exists.1 h1;obtain⟨h2,h3⟩:=X3 hx;rw[<-h3];exact List.mem_map_of_mem h2)
 rwa [List.length_map]at h
theorem Zcv {xs:List LN}{ks:List Nm}(hn:ks.Nodup):(U0 (YA xs) ks).length<=xs.length:=by
 refine Z5w hn _ (fun k hk=>?_);cases h:YA xs k with
 | none=>simp[h]at hk
 | some x=>rfl
theorem Z0W {α β:Type}(g:α->Option β): ∀l:List α,(l.filterMap g).length=(l.filter (fun a=>(g a).isSome)).length
 | []=>rfl
 | a :: l=>by
  have:=Z0W g l
  cases h:g a <;> simp[List.filterMap_cons,List.filter_cons,h,this]
theorem ZdA {xs:List LN}{ks:List Nm}{J:Nm->Option LN}(hn:ks.Nodup):(ks.filterMap (evN (YA xs) J)).length<=xs.length:=by
 rw[Z0W];refine Z5w hn _ (fun k hk=>?_);unfold evN at hk;cases h:YA xs k with
 | none=>simp[h]at hk
 | some x=>rfl
theorem ZbK {xs:List LN}{ks:List Nm}{J:Nm->Option LN}(hJ:Yz (YA xs) ks J)(hk : ∀x∈xs,YP x.n=false->x.n.kind=6\/(1<=x.n.fix/\x.n.fix<=4))(k:Nm)(y:Z8)(h:evN (YA xs) J k=some y):1<=y.kind/\y.kind<=4:=by
 unfold evN at h;cases h1:YA xs k with
 | none=>simp[h1]at h
 | some x=>
  simp only[h1]at h;split at h
  ·rename_i hd;cases h2:J k with
   | none=>
    simp only[h2]at h;cases h;simpa [YP,JC] using hd
   | some j=>
    simp only[h2]at h;split at h
    ·cases h
    ·rename_i h6;cases h;obtain⟨⟨k',_,h3⟩,h4,_⟩:=(hJ k).2 j h2;have hd:YP j.n=false:=by simp only[Qp,Bool.and_eq_true]at h4;simpa using h4.1.1
     rcases hk j (X3 h3).1 hd with h5 | h5
     ·exact absurd h5 h6
     ·exact h5
  ·cases h
theorem zZ.mono {w w1 w':World}{day:Int}{f J:Nm->Option LN}{vs:List Nm}{e:Ending}(h:zZ w1 day f J vs e w')(hw:w.heap.size<=w1.heap.size):zZ w day f J vs e w':=by
 obtain⟨R,ha,hc,ea,ec,ca,cc,xs,ks,h1,h2,h3,h4,h5,h6⟩:=h;exact⟨R,ha,hc,ea,ec,ca,cc,xs,ks,h1,Zu h2 hw,Zu h3 hw,Zu h4 hw,fun x hx=>Zu (h5 x hx) hw,h6⟩
theorem zZ.kept {w w1 w':World}{day:Int}{f J:Nm->Option LN}{vs:List Nm}{e:Ending}{p:Nat}{A:ZV}(h:zZ w day f J vs e w1)(hp:w1.heap[p]? = some (.cells A 77))(hg:w1.grownBy w' (some p)):zZ w day f J vs e w':=by
 obtain⟨R,ha,hc,ea,ec,ca,cc,xs,ks,h1,h2,h3,h4,h5,h6⟩:=h;exact⟨R,ha,hc,ea,ec,ca,cc,xs,ks,h1,h2.kept hg (.inr (Zn h2 hp (by intro cur;simp)).symm),h3.kept hg (.inr (Zn h3 hp (by intro cur;simp)).symm),h4.kept hg (.inr (Zn h4 hp (by intro cur;simp)).symm),
  fun x hx=>(h5 x hx).kept hg (.inr (Zn (h5 x hx) hp (by intro cur;simp)).symm),h6⟩
theorem Zb8 {W W':World}{x:LN}{b:Nat}{es:Array MapEntry}{clock:Nat}(h:x.ok W)(hg:W.grownBy W' (some b))(hb:W.heap[b]? = some (.map es clock)):x.ok W':=by
 refine⟨h.1,h.2.1,h.2.2.1,h.2.2.2.imp id ?_⟩;rintro⟨b',off,h1,h2⟩;refine⟨b',off,h1,fun i v hv=>?_⟩;have h3:=h2 i v hv;by_cases he:b'=b
 ·subst he;simp[World.cell?,hb]at h3
 ·rw[<-h3];have hlt:b' < W.heap.size:=World.block_lt_of_cell? W _ h3;simp only[World.cell?,hg.block b' hlt (fun e=>he (Option.some.inj e))]
def Z7R (l:List Z8)(day:Int)(w:World)(e:Ending)(w':World):Prop:=
 ∃v xs ks J,e = .returned (.tuple #[v,.int .i64 0])/\xs.map LN.n=l/\ks.Nodup/\Jd (YA xs) ks/\Yz (YA xs) ks J/\zZ w day (YA xs) J (U0 (YA xs) ks) (.returned v) w'
def Zk (n:Z8):Nm:=(n.house,n.num)
def Z5a (n:Z8):Nm:=(n.refH,n.refN)
theorem Z8Y (x:LN):x.nm=Zk x.n:=rfl
def UO (r x:Z8):Bool := !YP x && (decide (Z5a x=Zk r) && (YP r && Jn x r))
def Xh (r:Z8)(b:Option Z8)(x:Z8):Option Z8:=if UO r x=true then (match b with | none=>some x | some y=>if Xm y x < 0 then some x else some y)else b
def Z46 (l:List Z8)(r:Z8):Option Z8:=l.foldl (Xh r) none
def countP (l:List Z8)(r:Z8):Option Z8:=if YP r=true then (match Z46 l r with | none=>some r | some j=>if j.kind=6 then none else some (J6 r j))else none
def Z49 (n:Z8):List Z8->List Z8
 | []=>[n]
 | y :: ys=>if XV y n < 0 then y :: Z49 n ys else n :: y :: ys
def ZaV (l:List Z8):List Z8:=l.foldl (fun out n=>Z49 n out) []
def Qn (l:List Z8):List Z8:=ZaV (l.filterMap (countP l))
/-! ### Sets -/
theorem Z6E {f:Yh}{l:List Z8}: ∀(n k:Nat),(QR f l n k).1=0 -> ∀i,k<=i->i < k+n->Vf f l i=none
 | 0,k,_,i,h1,h2=>by omega
 | n+1,k,h,i,h1,h2=>by
  rw[QR]at h
  cases he:Vf f l k with
  | some e=>
   rw[he]at h
   simp only at h
   subst h
   exfalso
   unfold Vf at he
   split at he
   ·cases he
   ·split at he
    ·cases he
    ·split at he
     ·cases he
     ·split at he
      ·cases he
      ·split at he <;> cases he
  | none=>
   rw[he]at h
   rcases Nat.eq_or_lt_of_le h1 with h3 | h3
   ·rw[<-h3];exact he
   ·exact Z6E n (k+1) h i h3 (by omega)
theorem Z6l {l:List Z8}(h : ∀i x y,l[i]? = some x->l[i+1]? = some y->JH (Zk x) (Zk y)=true):l.Pairwise (fun x y=>JH (Zk x) (Zk y)=true):=by
 induction l with
 | nil=>exact List.Pairwise.nil
 | cons a l ih=>
  have ih':=ih (fun i x y h1 h2=>h (i+1) x y h1 h2);refine List.pairwise_cons.2 ⟨fun y hy=>?_,ih'⟩;cases l with
  | nil=>cases hy
  | cons b l=>
   have hab:=h 0 a b rfl rfl;rcases List.mem_cons.1 hy with rfl | hy
   ·exact hab
   ·have hby:=(List.pairwise_cons.1 ih').1 y hy;rw[Jv]at *;omega
theorem Z0b {f:Yh}{l:List Z8}(h:(Zy f l).1=0):f.valid=true/\l.length<=400/\(∀x∈l,Zg f x=true)/\l.Pairwise (fun x y=>JH (Zk x) (Zk y)=true):=by
 unfold Zy at h;split at h
 ·cases h
 ·rename_i hv;split at h
  ·cases h
  ·rename_i hl;have hg:=Z6E l.length 0 h;refine⟨by simpa using hv,by omega,fun x hx=>?_,Z6l (fun i x y hx hy=>?_)⟩
   ·obtain⟨i,hi⟩:=List.getElem?_of_mem hx;have h1:=hg i (Nat.zero_le _) (by have:=(List.getElem?_eq_some_iff.1 hi).1;omega);unfold Vf at h1;rw[hi]at h1;simp only at h1;split at h1
    ·cases h1
    ·rename_i h2;simpa using h2
   ·have h1:=hg (i+1) (Nat.zero_le _) (by have:=(List.getElem?_eq_some_iff.1 hy).1;omega);unfold Vf at h1;rw[hy]at h1;simp only[Nat.add_sub_cancel,hx]at h1;split at h1
    ·cases h1
    ·rw[if_neg (by omega)]at h1;simp only at h1;split at h1
     ·cases h1
     ·rename_i h0;split at h1
      ·cases h1
      ·rw[JH,decide_eq_true_eq];show Yx x.house x.num y.house y.num < 0;omega
theorem YH {l:List Z8}(h:l.Pairwise (fun x y=>JH (Zk x) (Zk y)=true)):(l.map Zk).Nodup:=by
 rw[List.Nodup,List.pairwise_map];refine h.imp (fun {x y} hxy e => ?_);rw[e]at hxy;have:=(Jv (Zk y) (Zk y)).1 hxy;omega
theorem Qz {l:List Z8}(h:(l.map Zk).Nodup){x y:Z8}(hx:x∈l)(hy:y∈l)(e:Zk x=Zk y):x=y:=by
 induction l with
 | nil=>cases hx
 | cons a l ih=>
  rw[List.map_cons,List.nodup_cons]at h;rcases List.mem_cons.1 hx with h1 | h1
  ·rcases List.mem_cons.1 hy with h2 | h2
   ·rw[h1,h2]
   ·exact absurd (by rw[<-h1,e];exact List.mem_map_of_mem h2) h.1
  ·rcases List.mem_cons.1 hy with h2 | h2
   ·exact absurd (by rw[<-h2,<-e];exact List.mem_map_of_mem h1) h.1
   ·exact ih h.2 h1 h2
/-! ### Judges -/
theorem Z1I (r:Z8): ∀(l:List Z8) (b:Option Z8),
  (l.foldl (Xh r) b=none↔b=none /\ ∀x∈l,UO r x=false) /\
  ∀y,l.foldl (Xh r) b=some y->(b=some y\/(y∈l/\UO r y=true))/\(∀z,b=some z -> ¬Xm y z < 0) /\ ∀x∈l,UO r x=true -> ¬Xm y x < 0
 | [],b=>by
  refine⟨by simp,fun y hy=>⟨.inl hy,fun z hz=>?_,fun x hx=>by cases hx⟩⟩
  rw[List.foldl_nil]at hy
  rw[hy]at hz
  cases hz
  exact Z2R y
 | x :: l,b=>by
  have ih:=Z1I r l (Xh r b x)
  rw[List.foldl_cons]
  refine⟨?_,fun y hy=>?_⟩
  ·rw[ih.1]
   constructor
   ·rintro⟨h1,h2⟩
    unfold Xh at h1
    split at h1
    ·split at h1
     ·cases h1
     ·split at h1 <;> cases h1
    ·rename_i hc
     exact⟨h1,fun z hz=>by rcases List.mem_cons.1 hz with rfl | hz;simpa using hc;exact h2 z hz⟩
   ·rintro⟨rfl,h2⟩
    have hc:=h2 x (List.mem_cons_self ..)
    exact⟨by simp[Xh,hc],fun z hz=>h2 z (List.mem_cons_of_mem _ hz)⟩
  ·obtain⟨h1,h2,h3⟩:=ih.2 y hy
   by_cases hc:UO r x=true
   ·cases hb:b with
    | none=>
     have e:Xh r b x=some x:=by simp[Xh,hc,hb]
     rw[e]at h1 h2
     refine⟨.inr ?_,(fun z hz=>by cases hz),fun z hz hcz=>?_⟩
     ·rcases h1 with h1 | h1
      ·cases h1;exact⟨List.mem_cons_self ..,hc⟩
      ·exact⟨List.mem_cons_of_mem _ h1.1,h1.2⟩
     ·rcases List.mem_cons.1 hz with rfl | hz
      ·exact h2 _ rfl
      ·exact h3 z hz hcz
    | some u=>
     by_cases hk:Xm u x < 0
     ·have e:Xh r b x=some x:=by simp[Xh,hc,hb,hk]
      rw[e]at h1 h2
      have hyx:=h2 x rfl
      refine⟨.inr ?_,fun z hz=>?_,fun z hz hcz=>?_⟩
      ·rcases h1 with h1 | h1
       ·cases h1;exact⟨List.mem_cons_self ..,hc⟩
       ·exact⟨List.mem_cons_of_mem _ h1.1,h1.2⟩
      ·cases hz
       rw[QB]at *
       omega
      ·rcases List.mem_cons.1 hz with rfl | hz
       ·exact hyx
       ·exact h3 z hz hcz
     ·have e:Xh r b x=some u:=by simp[Xh,hc,hb,hk]
      rw[e]at h1 h2
      have hyu:=h2 u rfl
      refine⟨?_,(fun z hz=>by cases hz;exact hyu),fun z hz hcz=>?_⟩
      ·rcases h1 with h1 | h1
       ·exact .inl h1
       ·exact .inr ⟨List.mem_cons_of_mem _ h1.1,h1.2⟩
      ·rcases List.mem_cons.1 hz with rfl | hz
       ·rw[QB]at *
        omega
       ·exact h3 z hz hcz
   ·have e:Xh r b x=b:=by simp[Xh,hc]
    rw[e]at h1 h2
    refine⟨?_,h2,fun z hz hcz=>?_⟩
    ·rcases h1 with h1 | h1
     ·exact .inl h1
     ·exact .inr ⟨List.mem_cons_of_mem _ h1.1,h1.2⟩
    ·rcases List.mem_cons.1 hz with rfl | hz
     ·exact absurd hcz hc
     ·exact h3 z hz hcz
theorem Qc {xs:List LN}(hd:((xs.map LN.n).map Zk).Nodup){x:LN}(hx:x∈xs):YA xs x.nm=some x:=by
 have h : ∀(xs:List LN) (g:Nm->Option LN),((xs.map LN.n).map Zk).Nodup->x∈xs->(xs.foldl (fun f x=>Yv f x.nm x) g) x.nm=some x:=by
  intro xs
  induction xs with
  | nil=>intro g _ h;cases h
  | cons a xs ih=>
   intro g hd hx;rw[List.map_cons,List.map_cons,List.nodup_cons]at hd;rw[List.foldl_cons];rcases List.mem_cons.1 hx with rfl | hx
   ·have hk : ∀(ys:List LN) (g:Nm->Option LN),Zk x.n ∉ (ys.map LN.n).map Zk->(ys.foldl (fun f x=>Yv f x.nm x) g) x.nm=g x.nm:=by
     intro ys
     induction ys with
     | nil=>intro g _;rfl
     | cons b ys ihy=>
      intro g hn;rw[List.map_cons,List.map_cons,List.mem_cons,not_or]at hn;rw[List.foldl_cons,ihy _ hn.2];simp[Yv,Z8Y,hn.1]
    rw[hk xs _ hd.1];simp[Yv]
   ·exact ih _ hd.2 hx
 exact h xs _ hd hx
theorem Z6F {xs:List LN}(hd:((xs.map LN.n).map Zk).Nodup)(k:Nm)(x:LN):YA xs k=some x↔x∈xs/\x.nm=k:=by
 constructor
 ·exact X3
 ·rintro⟨h1,rfl⟩;exact Qc hd h1
theorem ZaB {xs:List LN}(hd:((xs.map LN.n).map Zk).Nodup){x y:LN}(hx:x∈xs)(hy:y∈xs)(e:x.nm=y.nm):x=y:=by
 have h1:=Qc hd hx;rw[e,Qc hd hy]at h1;exact(Option.some.inj h1).symm
theorem ZaA {xs:List LN}(hd:((xs.map LN.n).map Zk).Nodup):xs.Nodup:=by
 rw[List.map_map]at hd;have h2:(xs.map (Zk∘LN.n)).Pairwise (· ≠ ·):=hd;rw[List.pairwise_map]at h2;exact h2.imp (fun {x y} h e=>h (by rw[e]))
theorem Z9U {xs:List LN}{ks:List Nm}(hd:((xs.map LN.n).map Zk).Nodup)(hk:ks.Nodup)(ha:Jd (YA xs) ks):(ks.filterMap (YA xs)).Perm xs:=by
 have hn:(ks.filterMap (YA xs)).Nodup:=by
  clear ha
  induction ks with
  | nil=>exact List.nodup_nil
  | cons k ks ih=>
   rw[List.nodup_cons]at hk;cases h:YA xs k with
   | none=>rw[List.filterMap_cons_none h];exact ih hk.2
   | some x=>
    rw[List.filterMap_cons_some h,List.nodup_cons];refine⟨fun hx=>?_,ih hk.2⟩;obtain⟨k',hk',h'⟩:=List.mem_filterMap.1 hx;have e1:=(X3 h).2;have e2:=(X3 h').2;exact hk.1 (by rw[<-e1,e2];exact hk')
 rw[List.perm_ext_iff_of_nodup hn (ZaA hd)];intro x;rw[List.mem_filterMap];constructor
 ·rintro⟨k,_,h⟩;exact(X3 h).1
 ·intro hx;have h:=Qc hd hx;exact⟨x.nm,ha _ (by rw[h];rfl),h⟩
theorem Z6i {xs:List LN}(hd:((xs.map LN.n).map Zk).Nodup){r:LN}(hr:r∈xs)(x:LN):Qp (YA xs) r.nm x=UO r.n x.n:=by
 simp only[Qp,Qc hd hr,UO];rw[show refN x=Z5a x.n from rfl,Z8Y,Bool.and_assoc]
theorem Zbm {xs:List LN}{ks:List Nm}{J:Nm->Option LN}(hd:((xs.map LN.n).map Zk).Nodup)(ha:Jd (YA xs) ks)(hJ:Yz (YA xs) ks J){r:LN}(hr:r∈xs):(J r.nm).map LN.n=Z46 (xs.map LN.n) r.n:=by
 obtain⟨h1,h2⟩:=hJ r.nm;obtain⟨s1,s2⟩:=Z1I r.n (xs.map LN.n) none;have hall : ∀x∈xs,∃k∈ks,YA xs k=some x:=fun x hx=>⟨x.nm,ha _ (by rw[Qc hd hx];rfl),Qc hd hx⟩;cases hj:J r.nm with
 | none=>
  symm;rw[Option.map_none];refine s1.2 ⟨rfl,fun n hn=>?_⟩;obtain⟨x,hx,rfl⟩:=List.mem_map.1 hn;obtain⟨k,hk,hkx⟩:=hall x hx;rw[<-Z6i hd hr];exact h1 hj k hk x hkx
 | some y=>
  obtain⟨⟨k,hk,hky⟩,hc,hmax⟩:=h2 y hj;have hy:=(X3 hky).1;have hcy:UO r.n y.n=true:=by rw[<-Z6i hd hr];exact hc
  cases hp:Z46 (xs.map LN.n) r.n with
  | none=>
   have:=(s1.1 hp).2 y.n (List.mem_map_of_mem hy);rw[hcy]at this;cases this
  | some m=>
   obtain⟨t1,_,t3⟩:=s2 m hp;rcases t1 with t1 | ⟨tm,tc⟩
   ·cases t1
   ·obtain⟨z,hz,rfl⟩:=List.mem_map.1 tm;obtain⟨k',hk',hkz⟩:=hall z hz;have u1:=hmax k' hk' z hkz (by rw[Z6i hd hr];exact tc);have u2:=t3 y.n (List.mem_map_of_mem hy) hcy;have e:y=z:=by
     refine ZaB hd hy hz ?_;rw[QB]at u1 u2;show(y.n.house,y.n.num)=(z.n.house,z.n.num);rw[Prod.mk.injEq];omega
    rw[Option.map_some,e]
theorem Z4j {α β:Type}(g:α->Option β){l m:List α}(h:l.Perm m):(l.filterMap g).Perm (m.filterMap g):=h.filterMap g
theorem ZdB {xs:List LN}{ks ks2:List Nm}{J:Nm->Option LN}(hd:((xs.map LN.n).map Zk).Nodup)(ha:Jd (YA xs) ks)(hJ:Yz (YA xs) ks J)(hk2:ks2.Nodup)(ha2:Jd (YA xs) ks2):
  (ks2.filterMap (evN (YA xs) J)).Perm ((xs.map LN.n).filterMap (countP (xs.map LN.n))):=by
 have h1 : ∀k,evN (YA xs) J k=(YA xs k).bind (fun x=>countP (xs.map LN.n) x.n):=by
  intro k;unfold evN;cases h:YA xs k with
  | none=>rfl
  | some x=>
   obtain⟨hx,rfl⟩:=X3 h;have hj:=Zbm hd ha hJ hx;simp only[Option.bind_some,countP];split
   ·cases hJx:J x.nm with
    | none=>rw[hJx]at hj;simp only[Option.map_none]at hj;rw[<-hj]
    | some j=>rw[hJx]at hj;simp only[Option.map_some]at hj;rw[<-hj]
   ·rfl
 have h2:ks2.filterMap (evN (YA xs) J)=(ks2.filterMap (YA xs)).filterMap (fun x=>countP (xs.map LN.n) x.n):=by
  rw[List.filterMap_filterMap];exact congrArg (fun g=>ks2.filterMap g) (funext h1)
 rw[h2,List.filterMap_map];exact Z4j _ (Z9U hd hk2 ha2)
theorem Z6s {a b c:Z8}(h1 : ¬XV b a < 0)(h2 : ¬XV c b < 0): ¬XV c a < 0:=by
 rw[Uy]at *;omega
theorem Z6u {a b:Z8}(h1:XV a b < 0): ¬XV b a < 0:=by
 rw[Uy]at *;omega
theorem Z6t {a b:Z8}(h1 : ¬XV a b < 0)(h2 : ¬XV b a < 0):Zk a=Zk b:=by
 rw[Uy]at *;show(a.house,a.num)=(b.house,b.num);rw[Prod.mk.injEq];omega
theorem Z2n (n:Z8): ∀l:List Z8,(Z49 n l).Perm (n :: l)
 | []=>List.Perm.refl _
 | y :: ys=>by
  unfold Z49
  split
  ·exact((Z2n n ys).cons y).trans (List.Perm.swap ..)
  ·exact List.Perm.refl _
theorem Z2T {n:Z8}: ∀{l:List Z8},l.Pairwise (fun x y=>¬XV y x < 0)->(Z49 n l).Pairwise (fun x y=>¬XV y x < 0)
 | [],_=>by simp[Z49]
 | y :: ys,h=>by
  rw[List.pairwise_cons]at h
  unfold Z49
  split
  ·rename_i hy
   refine List.pairwise_cons.2 ⟨fun z hz=>?_,Z2T h.2⟩
   rcases List.mem_cons.1 ((Z2n n ys).subset hz)with rfl | hz
   ·exact Z6u hy
   ·exact h.1 z hz
  ·rename_i hy
   refine List.pairwise_cons.2 ⟨fun z hz=>?_,List.pairwise_cons.2 h⟩
   rcases List.mem_cons.1 hz with rfl | hz
   ·exact hy
   ·exact Z6s hy (h.1 z hz)
theorem ZaW (l:List Z8): ∀out:List Z8,(l.foldl (fun out n=>Z49 n out) out).Perm (out ++ l)/\(out.Pairwise (fun x y=>¬XV y x < 0)->(l.foldl (fun out n=>Z49 n out) out).Pairwise (fun x y=>¬XV y x < 0)):=by
 induction l with
 | nil=>intro out;exact⟨by simp,fun h=>h⟩
 | cons n l ih=>
  intro out;rw[List.foldl_cons];refine⟨(ih (Z49 n out)).1.trans ?_,fun h=>(ih (Z49 n out)).2 (Z2T h)⟩;refine((Z2n n out).append_right l).trans ?_;rw[List.cons_append];exact List.perm_middle.symm
theorem UW (l:List Z8):(ZaV l).Perm l:=(ZaW l []).1
theorem Z1m (l:List Z8):(ZaV l).Pairwise (fun x y=>¬XV y x < 0):=(ZaW l []).2 List.Pairwise.nil
theorem Z2u {l:List Z8}{r e:Z8}(h:countP l r=some e):Zk e=Zk r:=by
 unfold countP at h;split at h
 ·split at h
  ·cases h;rfl
  ·split at h
   ·cases h
   ·cases h;rfl
 ·cases h
theorem Ui (l0:List Z8): ∀l:List Z8,(l.map Zk).Nodup->((l.filterMap (countP l0)).map Zk).Nodup
 | [],_=>by simp
 | r :: l,h=>by
  rw[List.map_cons,List.nodup_cons]at h
  cases hc:countP l0 r with
  | none=>rw[List.filterMap_cons_none hc];exact Ui l0 l h.2
  | some e=>
   rw[List.filterMap_cons_some hc,List.map_cons,List.nodup_cons]
   refine⟨fun hm=>?_,Ui l0 l h.2⟩
   obtain⟨e',he',h2⟩:=List.mem_map.1 hm
   obtain⟨r',hr',h3⟩:=List.mem_filterMap.1 he'
   refine h.1 ?_
   rw[<-Z2u hc,<-h2,Z2u h3]
   exact List.mem_map_of_mem hr'
theorem Zac {l zs:List Z8}(hd:(l.map Zk).Nodup)(hp:zs.Perm (l.filterMap (countP l)))(hs:zs.Pairwise (fun x y=>¬XV y x < 0)):zs=Qn l:=by
 refine QH (lt:=fun x y=>decide (XV x y < 0)) (fun x hx y hy h1 h2=>?_) (hp.trans (UW _).symm) (hs.imp (by simp)) ((Z1m _).imp (by simp));have hn:=(hp.map Zk).nodup_iff.2 (Ui l l hd);exact Qz hn hx hy (Z6t (by simpa using h1) (by simpa using h2))
/-! ### The register -/
structure Z1M where
 hs:List Z8
 es:List Z8
 cs:List Nm
def Z8z (R:Z1M)(n:Z8):Bool:=if n.kind=1 then decide (R.hs.length≠8)else if n.kind=2 then R.hs.any (fun h=>decide (Zk h=Z5a n))else true
def Jp (day:Int)(R:Z1M)(n:Z8):Z1M:=if n.day<=day then (if Z8z R n=true then (if n.kind=1 then { R with hs:=R.hs ++ [n] } else { R with es:=R.es ++ [n] })else { R with cs:=R.cs ++ [Zk n] })else R
def Z0H (day:Int)(l:List Z8):Z1M:=(Qn l).foldl (Jp day) ⟨[],[],[]⟩
def Z4c (l:List Z8)(n:Z8):Bool := !YP n && !l.any (fun r=>UO r n)
def csN (day:Int)(l:List Z8):List Nm:=(l.filter (fun n=>decide (Zk n∈(Z0H day l).cs) || Z4c l n)).map Zk
structure zO (R:Jb)(N:Z1M):Prop where
 hs:R.hs.map (fun e=>e.x.n)=N.hs
 es:R.es.map (fun e=>e.x.n)=N.es
 cs:R.cs=N.cs
 nh : ∀e∈R.hs,e.nm=Zk e.x.n
 ne : ∀e∈R.es,e.nm=Zk e.x.n
theorem Zbt (hs:List XH)(p:XH->Bool):Z0g hs p < 0↔hs.any p=false:=by
 rw[Z0g];cases h:hs.findIdx? p with
 | none=>
  rw[List.findIdx?_eq_none_iff]at h;refine⟨fun _=>?_,fun _=>by decide⟩;rw[List.any_eq_false];intro x hx;rw[h x hx];simp
 | some i=>
  obtain⟨h2,h3,_⟩:=List.findIdx?_eq_some_iff_getElem.1 h;refine⟨fun h4=>by simp only at h4;omega,fun h4=>?_⟩;rw[List.any_eq_false]at h4;exact absurd h3 (by simpa using h4 _ (List.getElem_mem h2))
theorem Zcl {hs:List XH}(h : ∀e∈hs,e.nm=Zk e.x.n)(a b:Int):hs.any (Z0f a b)=(hs.map (fun e=>e.x.n)).any (fun n=>decide (Zk n=(a,b))):=by
 rw[List.any_map]
 induction hs with
 | nil=>rfl
 | cons e hs ih=>
  rw[List.any_cons,List.any_cons,ih (fun x hx=>h x (List.mem_cons_of_mem _ hx))];congr 1;have he:=h e (List.mem_cons_self ..);simp only[Z0f,Function.comp];rw[<-he,decide_eq_decide,Prod.ext_iff]
theorem ZcT {R:Jb}{N:Z1M}(h:zO R N)(e:XH):zk R e=Z8z N e.x.n:=by
 unfold zk Z8z;have hl:R.hs.length=N.hs.length:=by rw[<-h.hs,List.length_map]
 rw[hl];split
 ·rfl
 ·split
  ·rw[<-h.hs,show Z5a e.x.n=(e.x.n.refH,e.x.n.refN)from rfl,<-Zcl h.nh];have:=Zbt R.hs (Z0f e.x.n.refH e.x.n.refN);cases hq:R.hs.any (Z0f e.x.n.refH e.x.n.refN)with
   | true=>rw[hq]at this;simp at this;simp;exact this
   | false=>rw[hq]at this;simp at this;simp;exact this
  ·rfl
theorem Z5S {day:Int}{R:Jb}{N:Z1M}(h:zO R N)(x:LN):zO (Yi day R (YY x)) (Jp day N x.n):=by
 have he:=ZcT h (YY x);have e1:(YY x).x=x:=rfl;rw[e1]at he;unfold Yi Jp U2;rw[e1,he];split
 ·split
  ·split
   ·exact⟨by rw[List.map_append,h.hs];rfl,h.es,h.cs,fun e hm=>by
     rcases List.mem_append.1 hm with hm | hm
     ·exact h.nh e hm
     ·rw[List.mem_singleton]at hm;subst hm;rfl,h.ne⟩
   ·exact⟨h.hs,by rw[List.map_append,h.es];rfl,h.cs,h.nh,fun e hm=>by
     rcases List.mem_append.1 hm with hm | hm
     ·exact h.ne e hm
     ·rw[List.mem_singleton]at hm;subst hm;rfl⟩
  ·exact⟨h.hs,h.es,by rw[h.cs];rfl,h.nh,h.ne⟩
 ·exact h
theorem Z86 (day:Int)(xs:List LN):zO (Xl day (xs.map YY)) ((xs.map LN.n).foldl (Jp day) ⟨[],[],[]⟩):=by
 have h : ∀(xs:List LN) (R:Jb) (N:Z1M),zO R N->zO ((xs.map YY).foldl (Yi day) R) ((xs.map LN.n).foldl (Jp day) N):=by
  intro xs
  induction xs with
  | nil=>intro R N h;exact h
  | cons x xs ih=>intro R N h;exact ih _ _ (Z5S h x)
 exact h xs _ _ ⟨rfl,rfl,rfl,fun e h=>(by cases h),fun e h=>(by cases h)⟩
theorem Z9M {day:Int}{l:List XH}{e:XH}(h:e∈(Xl day l).hs ++ (Xl day l).es):e∈l:=by
 have hg : ∀(l:List XH) (R:Jb),e∈(l.foldl (Yi day) R).hs ++ (l.foldl (Yi day) R).es->e∈l\/e∈R.hs ++ R.es:=by
  intro l
  induction l with
  | nil=>intro R h;exact .inr h
  | cons x l ih=>
   intro R h;rcases ih _ h with h1 | h1
   ·exact .inl (List.mem_cons_of_mem _ h1)
   ·unfold Yi U2 at h1;split at h1
    ·split at h1
     ·split at h1
      ·rw[List.append_assoc,List.mem_append,List.mem_append,List.mem_singleton]at h1;rw[List.mem_cons,List.mem_append];rcases h1 with h1 | rfl | h1
       ·exact .inr (.inl h1)
       ·exact .inl (.inl rfl)
       ·exact .inr (.inr h1)
      ·rw[<-List.append_assoc,List.mem_append,List.mem_singleton]at h1;rcases h1 with h1 | rfl
       ·exact .inr h1
       ·exact .inl (List.mem_cons_self ..)
     ·exact .inr h1
    ·exact .inr h1
 rcases hg l _ h with h | h
 ·exact h
 ·simp at h
/-! ### Conflicts -/
theorem Z2J (day:Int): ∀(l:List Z8) (N:Z1M),∀a∈(l.foldl (Jp day) N).cs,a∈N.cs\/a∈l.map Zk
 | [],N,a,h => .inl h
 | n :: l,N,a,h=>by
  rw[List.foldl_cons]at h
  rcases Z2J day l _ a h with h | h
  ·unfold Jp at h
   split at h
   ·split at h
    ·split at h <;> exact .inl h
    ·simp only at h
     rw[List.mem_append,List.mem_singleton]at h
     rcases h with h | rfl
     ·exact .inl h
     ·exact .inr (List.mem_cons_self ..)
   ·exact .inl h
  ·exact .inr (List.mem_cons_of_mem _ h)
theorem Z0Q (day:Int): ∀(l:List Z8) (N:Z1M),(l.map Zk).Nodup->N.cs.Nodup->(∀a∈N.cs,a ∉ l.map Zk)->(l.foldl (Jp day) N).cs.Nodup
 | [],N,_,h,_=>h
 | n :: l,N,hd,h,hx=>by
  rw[List.map_cons,List.nodup_cons]at hd
  rw[List.foldl_cons]
  refine Z0Q day l _ hd.2 ?_ ?_
  ·unfold Jp
   split
   ·split
    ·split <;> exact h
    ·simp only
     rw[List.nodup_append]
     refine⟨h,by simp,fun a ha b hb e=>?_⟩
     rw[List.mem_singleton]at hb
     exact hx a ha (by rw[e,hb];exact List.mem_cons_self ..)
   ·exact h
  ·intro a ha hm
   unfold Jp at ha
   have h2 : ∀a∈N.cs,a ∉ l.map Zk:=fun a h1 h3=>hx a h1 (List.mem_cons_of_mem _ h3)
   split at ha
   ·split at ha
    ·split at ha <;> exact h2 a ha hm
    ·simp only at ha
     rw[List.mem_append,List.mem_singleton]at ha
     rcases ha with ha | rfl
     ·exact h2 a ha hm
     ·exact hd.1 hm
   ·exact h2 a ha hm
theorem Zab {l:List Z8}{e:Z8}(h:e∈Qn l): ∃r∈l,YP r=true/\Zk e=Zk r:=by
 obtain⟨r,hr,hc⟩:=List.mem_filterMap.1 ((UW _).subset h);refine⟨r,hr,?_,Z2u hc⟩;unfold countP at hc;split at hc
 ·assumption
 ·cases hc
theorem ZaJ {xs:List LN}(hd:((xs.map LN.n).map Zk).Nodup){x:LN}(hx:x∈xs):U1 (YA xs) x=Z4c (xs.map LN.n) x.n:=by
 unfold U1 Z4c;cases hdn:YP x.n with
 | true=>rfl
 | false=>
  simp only[Bool.not_false,Bool.true_and];rw[List.any_map];cases hf:YA xs (refN x)with
  | none=>
   symm;rw[Bool.not_eq_true',List.any_eq_false];intro r hr hc;simp only[Function.comp,UO,Bool.and_eq_true,decide_eq_true_eq]at hc;have h1:=Qc hd hr;have h2:refN x=r.nm:=hc.2.1;rw[h2,h1]at hf;cases hf
  | some r=>
   obtain⟨hr,hrn⟩:=X3 hf;simp only;congr 1;cases hq:(YP r.n && Jn x.n r.n)with
   | true=>
    symm;rw[List.any_eq_true];exact⟨r,hr,by simp only[Function.comp,UO,hdn,hq];simp;exact hrn.symm⟩
   | false=>
    symm;rw[List.any_eq_false];intro r' hr' hc;simp only[Function.comp,UO,Bool.and_eq_true,decide_eq_true_eq]at hc;have e:r'=r:=ZaB hd hr' hr (by rw[hrn];exact hc.2.1.symm);rw[e]at hc;rw[hc.2.2.1,hc.2.2.2]at hq;cases hq
theorem ZaI {xs:List LN}{ks:List Nm}(hd:((xs.map LN.n).map Zk).Nodup)(ha:Jd (YA xs) ks)(a:Nm):a∈U0 (YA xs) ks ↔ ∃n∈xs.map LN.n,Z4c (xs.map LN.n) n=true/\Zk n=a:=by
 unfold U0;rw[List.mem_filter];constructor
 ·rintro⟨_,h⟩;cases hf:YA xs a with
  | none=>rw[hf]at h;cases h
  | some x=>
   rw[hf]at h;obtain⟨hx,hn⟩:=X3 hf;exact⟨x.n,List.mem_map_of_mem hx,by rw[<-ZaJ hd hx];exact h,hn⟩
 ·rintro⟨n,hn,hi,rfl⟩;obtain⟨x,hx,rfl⟩:=List.mem_map.1 hn;have hf:=Qc hd hx;exact⟨ha _ (by rw[<-Z8Y,hf];rfl),by rw[<-Z8Y,hf];simp only;rw[ZaJ hd hx];exact hi⟩
theorem Z1t {x y:Nm}(h1:JH x y=false)(h2:JH y x=false):x=y:=by
 rw[<-Bool.not_eq_true,Jv]at h1 h2;rw[Prod.ext_iff];omega
theorem Zeb {xs:List LN}{ks cs:List Nm}{day:Int}(hp:(xs.map LN.n).Pairwise (fun x y=>JH (Zk x) (Zk y)=true))(hk:ks.Nodup)(ha:Jd (YA xs) ks)
  (hc:cs.Perm ((Z0H day (xs.map LN.n)).cs ++ U0 (YA xs) ks)) (hs:cs.Pairwise (fun x y=>JH y x=false)):cs=csN day (xs.map LN.n):=by
 have hd:=YH hp;generalize hl:xs.map LN.n=l at *;have hcsub : ∀a∈(Z0H day l).cs,∃r∈l,YP r=true/\Zk r=a:=fun a h=>by
  rcases Z2J day _ _ a h with h | h
  ·cases h
  ·obtain⟨e,he,rfl⟩:=List.mem_map.1 h;obtain⟨r,hr,hd,hn⟩:=Zab he;exact⟨r,hr,hd,hn.symm⟩
 have hvm : ∀a,a∈U0 (YA xs) ks ↔ ∃n∈l,Z4c l n=true/\Zk n=a:=fun a=>by rw[<-hl];exact ZaI (by rw[hl];exact hd) ha a
 have hn1:((Z0H day l).cs ++ U0 (YA xs) ks).Nodup:=by
  rw[List.nodup_append];refine⟨Z0Q day _ _ ?_ List.nodup_nil (fun a h=>by cases h),hk.sublist List.filter_sublist,fun a h1 b h2 e=>?_⟩
  ·exact((UW _).map Zk).nodup_iff.2 (Ui l l hd)
  ·subst e;obtain⟨r,hr,hdn,hn⟩:=hcsub a h1;obtain⟨n,hnl,hi,hna⟩:=(hvm a).1 h2;have e:=Qz hd hr hnl (hn.trans hna.symm);rw[e]at hdn;unfold Z4c at hi;rw[hdn]at hi;cases hi
 have hn2:(csN day l).Nodup:=(hd.sublist (List.Sublist.map _ List.filter_sublist));refine QH (lt:=JH) (fun x _ y _ h1 h2=>Z1t h1 h2) (hc.trans ?_) hs ?_
 ·rw[List.perm_ext_iff_of_nodup hn1 hn2];intro a;rw[List.mem_append,hvm];unfold csN;rw[List.mem_map];constructor
  ·rintro(h | ⟨n,hn,hi,rfl⟩)
   ·obtain⟨r,hr,_,rfl⟩:=hcsub a h;exact⟨r,List.mem_filter.2 ⟨hr,by simp[h]⟩,rfl⟩
   ·exact⟨n,List.mem_filter.2 ⟨hn,by simp[hi]⟩,rfl⟩
  ·rintro⟨n,hn,rfl⟩;obtain⟨hnl,h⟩:=List.mem_filter.1 hn;rw[Bool.or_eq_true,decide_eq_true_eq]at h;rcases h with h | h
   ·exact .inl h
   ·exact .inr ⟨n,hnl,h,rfl⟩
 ·unfold csN;rw[List.pairwise_map];refine(hp.sublist List.filter_sublist).imp (fun {x y} h => ?_);exact Z8b.1 _ _ h
def ZdK (w0 w':World)(v:Value)(R:Jb):Prop:=
 ∃(ha:zA) (hc:Nat) (ea:zA) (ec:Nat) (ca:zA) (cc:Nat),v = .agg #[.slice ha R.hs.length hc,.slice ea R.es.length ec,.slice ca R.cs.length cc] /\
  w'.ownsRow w0.heap.size 210 21 (.slice ha R.hs.length hc) R.hs.length (Xz R.hs)/\w'.ownsRow w0.heap.size 210 21 (.slice ea R.es.length ec) R.es.length (Xz R.es)/\w'.ownsRow w0.heap.size 45 2 (.slice ca R.cs.length cc) R.cs.length (ZC R.cs) /\
  ∀e∈R.hs ++ R.es,w'.ownsRow w0.heap.size 3 1 (.slice e.x.sa e.x.n.strokes.length e.x.sc) e.x.n.strokes.length (e.x.n.strokes.map Yq)
theorem Z5B {l:List Z8}{day:Int}{w w':World}{e:Ending}(h:Z7R l day w e w')(hp:l.Pairwise (fun x y=>JH (Zk x) (Zk y)=true)):
  ∃v R,e = .returned (.tuple #[v,.int .i64 0])/\ZdK w w' v R/\R.hs.map (fun e=>e.x.n)=(Z0H day l).hs/\R.es.map (fun e=>e.x.n)=(Z0H day l).es/\R.cs=csN day l /\ ∀e∈R.hs ++ R.es,e.nm=Zk e.x.n:=by
 obtain⟨v,xs,ks,J,rfl,rfl,hk,ha,hJ,R,hha,hc,ea,ec,ca,cc,ys,ks2,hv,o1,o2,o3,ho,hk2,ha2,hpm,hpw,e1,e2,e3,e4⟩:=h;have hd:=YH hp;have hys:ys.map LN.n=Qn (xs.map LN.n):=Zac hd (hpm.trans (ZdB hd ha hJ hk2 ha2)) (by
  rw[List.pairwise_map];exact hpw.imp (fun {x y} h=>by simpa [Z1X] using h))
 have hlk:=Z86 day ys;rw[hys]at hlk;have hlk:zO (Xl day (ys.map YY)) (Z0H day (xs.map LN.n)):=hlk;refine⟨v,R,rfl,⟨hha,hc,ea,ec,ca,cc,by injection hv,o1,o2,o3,fun x hx=>?_⟩,by rw[e1];exact hlk.hs,by rw[e2];exact hlk.es,Zeb hp hk ha (by rw[<-hlk.cs];exact e3) e4,fun x hx=>?_⟩
 ·rw[e1,e2]at hx;obtain⟨y,hy,rfl⟩:=List.mem_map.1 (Z9M hx);exact ho y hy
 ·rw[e1,e2]at hx;rcases List.mem_append.1 hx with hx | hx
  ·exact hlk.nh x hx
  ·exact hlk.ne x hx
end Go.Proofs.YtlnhppgfhkkidaaGreat
