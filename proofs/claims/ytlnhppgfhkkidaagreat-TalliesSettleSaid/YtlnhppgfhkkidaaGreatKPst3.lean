/- Parts of the proof, in order. -/
import Derived.Deep.RegionHeld3
import Derived.Maps.RangeWalk
import Derived.Maps.OwnSet
import Derived.DeepKeys4
import Derived.Deep.MidRow
import Derived.Shelf.SlSortCmp.WholeK
import Derived.Test.YtlnhppgfhkkidaaGreatProg
import Derived.Test.YtlnhppgfhkkidaaGreatKPst2
set_option linter.unusedSimpArgs false
set_option linter.unusedVariables false
set_option maxHeartbeats 32000000
set_option maxRecDepth 100000
namespace Go.Proofs.YtlnhppgfhkkidaaGreat
open Go.Proofs.Tryz renaming prog → zq
open Go.RowKit
theorem Z6V (x lo hi:Int)(w:World):Calls zq 77 #[.int .i64 x,.int .i64 lo,.int .i64 hi] w fun e w'=>e = .returned (.bool (Jw x lo hi))/\w=w':=by
 by_cases h1:lo<=x
 ·have t1:decide (lo<=x)=true:=by simp;omega
  by_cases h2:x<=hi
  focus
   have t2:decide (x<=hi)=true:=by simp;omega
   have t3:Jw x lo hi=true:=YN.2 ⟨h1,h2⟩
  rotate_left
  focus
   have t2:decide (x<=hi)=false:=by simp;omega
   have t3:Jw x lo hi=false:=Z0X.2 (fun h=>h2 h.2)
  all_goals
   rw[t3];clear t3;go_enter Tryz.func77,Tryz.ntmps77;go_wp2;go_ret;exact⟨rfl,rfl⟩
 ·have t1:decide (lo<=x)=false:=by simp;omega
  have t3:Jw x lo hi=false:=Z0X.2 (fun h=>h1 h.1);rw[t3];clear t3;go_enter Tryz.func77,Tryz.ntmps77;go_wp2;go_ret;exact⟨rfl,rfl⟩
theorem Z1P {w:World}{base P:Nat}{l:List Int}{k:Nat}(h:w.heap[P]? = some (.cells (l.map Ys).toArray 3 (0,0)))(hk:l.length=k)(hb:base<=P)(hm:k<=maxLen):w.ownsRow base 3 1 (.slice (some ⟨P,0,none⟩) k k) k (l.map Ys):=by
 refine⟨by simp[hk],.inr ⟨P,k,_,rfl,hb,h,Nat.le_refl _,hm,by simp[hk],?_⟩⟩;rw[List.take_of_length_le (by simp[hk])]
theorem Zbr {z:Int}(h:Yk z):Jw z (-4611686018427387904) 4611686018427387903=true:=by
 unfold Yk far at h;rw[YN];omega
section
attribute [local go_sem] ZY
theorem Z4p (n:Z8)(sa:zA)(sc:Nat)(w:World)(hs:Xs w sa n.strokes.length sc n.strokes)(hsm:Uc n)(hlen:n.strokes.length<=1000000):
  Calls zq 126 #[.agg (Z5 n sa sc)] w fun e w'=>e = .returned (.bool true)/\Below w.heap.size w w':=by
 have hlast:=Za w (.cells (Z5 n sa sc) 47);have bb:Below w.heap.size w (w.alloc (.cells (Z5 n sa sc) 47)):=zB _ _;have hlt:w.heap.size < (w.alloc (.cells (Z5 n sa sc) 47)).heap.size:=by simp
 have H0:=zH (And.intro hlast (And.intro bb hlt));clear hlast bb hlt;go_enter Tryz.func126,Tryz.ntmps126;go_upto_region 1 with fail;generalize w.alloc (.cells (Z5 n sa sc) 47)=w0 at *;obtain⟨base,hbase⟩:=zX (w.heap.size);rw[hbase.out];rw[hbase.out]at H0;go_wp2_with (refine zL base H0.out.1 ?_);refine(Z36 n sa sc w0).mono ?_;rintro e wf ⟨P,Q,rfl,g1,g2,g3,g4,b1⟩;have hlb:=Nat.le_of_lt H0.out.2.2;have BF:=zH (H0.out.2.1.trans (b1.mono hlb));have hn1:=(b1.block _ H0.out.2.2).trans H0.out.1;have hPQ:Q≠P:=by
  intro e;rw[e]at g2;rw[g1]at g2;simp only[Option.some.injEq,Obj.cells.injEq]at g2;have:=congrArg Array.size g2.1;simp[ZA,Zu]at this
 have OW:=zH (Z1P (base:=base) g1 (k:=15) rfl (Nat.le_trans hlb g3) (by unfold maxLen;omega));have OQ:=zH (And.intro hPQ (And.intro (Z1P (base:=base) g2 (k:=3) rfl (Nat.le_trans hlb g4) (by unfold maxLen;omega)) (Array.getElem?_eq_some_iff.1 g2).1));have e15:wf.cell? ⟨base,15,none⟩=some (.slice sa n.strokes.length sc):=Z6 hn1 15 _ rfl;have hbw:base<=wf.heap.size:=Nat.le_trans hlb b1.size;have RS1:=zH (show Xs wf sa n.strokes.length sc n.strokes from hs.below (by rw[hbase.out];exact BF.out));have hln:n.strokes.length<=1000000:=hlen;obtain⟨ln,hlnn⟩:=zX (n.strokes.length);rw[hlnn.out]at RS1 e15 hln;clear g1 g2 g3 g4 b1 H0 hn1 hPQ hlb;go_wp2_with (first
  |(at_builtin;refine Z4M _ rfl _ _ rfl base _ _ _ (ZA n) rfl OW.out _ _ _ n.strokes rfl RS1.out (by omega) hbw ?_;intro a1 c1 w1 h1 k1;have O1:=zH h1;have G1:=zH k1;have hbw1:base<=w1.heap.size:=Nat.le_trans hbw G1.out.size;have RQ:=zH (show Xs w1 (some ⟨Q,0,none⟩) 3 3 (Zu n)from Y3.of_cells (Y3.of_own OQ.out.2.1) (fun b ⟨off,hb⟩ hlt=>by cases hb;exact G1.out.block _ hlt (fun e=>by cases e;exact OQ.out.1 rfl)));clear h1 k1)
  |(at_builtin;refine Z4M _ rfl _ _ rfl base _ _ _ (ZA n ++ n.strokes) rfl O1.out _ _ _ (Zu n) rfl RQ.out (by omega) hbw1 ?_;intro a2 c2 w2 h2 k2;have O2:=zH h2;have B2:=zH ((BF.out.grown G1.out hbw (fun q hq=>(OW.out.lt q hq).1)).grown k2 hbw1 (fun q hq=>(O1.out.lt q hq).1));clear h2 k2))
 have SM:=zH (show ∀z∈ZA n ++ n.strokes ++ Zu n,Yk z from fun z hz=>by
  rcases List.mem_append.1 hz with hz | hz
  ·rcases List.mem_append.1 hz with hz | hz
   ·exact hsm.1 z hz
   ·exact hsm.2.1 z hz
  ·exact hsm.2.2.1 z hz)
 have LL:Hid ((ZA n ++ n.strokes ++ Zu n).length=15+ln+3):=zH (by rw[List.length_append,List.length_append,hlnn.out];rfl);obtain⟨X,hX⟩ : ∃X,Hid (X=ZA n ++ n.strokes ++ Zu n):=⟨_,zH rfl⟩;obtain⟨L,hL⟩:=zX (15+ln+3);rw[<-hX.out]at SM LL O2;rw[hL.out]at LL O2 ⊢;have hL63:(L:Int)<=9223372036854775807:=by have:=hL.out;omega
 have RX:=zH (Y3.of_own O2.out);clear OW OQ O1 G1 RQ RS1 e15 hbw1 hbw;go_loopw [6] (fun i wr=>∃k:Nat,i = .int .i64 k/\k<=L/\Hid (w2=wr)) (fun i _=>L - (intOf i).toNat)
 case atStart=>exact⟨0,rfl,Nat.zero_le _,zH rfl⟩
 case round=>
  obtain⟨k,rfl,hk,HE⟩:=hrel;have:=HE.out;subst this;by_cases hlt:k < L
  ·obtain⟨b,off,rfl,hc⟩:=Xs.at RX.out (by omega);have e1:=hc k hlt;have hin:=Zbr (SM.out (X[k]?.getD 0) (by rw[List.getElem?_eq_getElem (by rw[LL.out];exact hlt),Option.getD_some];exact List.getElem_mem _));have HIN:=zH hin;clear hin;generalize X[k]?.getD 0=z at *;clear hc;go_wp2_with fail;refine(Z6V z (-4611686018427387904) 4611686018427387903 w2).mono ?_;rintro e w' ⟨rfl,rfl⟩;rw[HIN.out];go_wp2;go_roundw
   case rel=>exact⟨k+1,by go_num,by omega,zH (by trivial)⟩
   case measure=>simp[intOf];omega
  ·have hkn:k=L:=by omega
   subst hkn;go_wp2;go_ret;exact⟨rfl,by rw[hbase.out];exact B2.out⟩
end
structure TwoN (w W:World)(p q:Nat)(x:Z8)(sa:zA)(sc:Nat)(ta:zA)(tc:Nat):Prop where
 e1:W.heap[p]? = some (.cells (Z5 x sa sc) 47)
 e2:W.heap[q]? = some (.cells (Z5 x ta tc) 47)
 b:Below p w W
 lt:p < q
theorem TwoN.below {w W W':World}{p q:Nat}{x:Z8}{sa ta:zA}{sc tc:Nat}(h:TwoN w W p q x sa sc ta tc)(hb:Below W.heap.size W W'):TwoN w W' p q x sa sc ta tc:=by
 have g : ∀{k:Nat} {o:Obj},W.heap[k]? = some o->W'.heap[k]? = some o:=fun {k o} hk=>(hb.block k (Array.getElem?_eq_some_iff.1 hk).1).trans hk;have h0:=(Array.getElem?_eq_some_iff.1 h.e1).1;exact⟨g h.e1,g h.e2,h.b.trans (hb.mono (by omega)),h.lt⟩
theorem ZW {P:Program}{ops:Array Oper}{S:World->Prop}{op:Oper}{a:Act}(hw:Region.wanted op (yielded ops a.tmps)=true)(ty:TypeId)(x:Operand)(ho:op.op = .load ty x)
  (b:Nat) (hx:a.eval x = .pointer (some ⟨b,0,none⟩)) (cs:Y6) (t:TypeId) (fr:Nat×Nat) (d:TypeDesc) (hS : ∀w,S w->w.heap[b]? = some (.cells cs t fr))
  (hu:P.underlying ty=some d) (hd:(match d with | .struct _ | .array _ _=>true | _=>false)=true) (hi:(P.info? ty).map (·.size)=some cs.size):YieldsIf P ops S op (.agg cs) a:=
 .inl ⟨hw,fun w hw'=>by
  unfold execOp
  simp only[ho,hx,Instr.loadAt,Instr.sureAddr,Sem.run_bind,Sem.run_pure,Result.andThen_ok,run_loadVar_row w b t ty cs fr d (hS w hw') hu hd hi]⟩
section
attribute [local go_sem] ZY
theorem Z9W (x:Z8)(sa:zA)(sc:Nat)(ta:zA)(tc:Nat)(w:World)(hx:Xs w sa x.strokes.length sc x.strokes)(hy:Xs w ta x.strokes.length tc x.strokes)(hsm:Uc x)(hlen:x.strokes.length<=1000000):
  Calls zq 70 #[.agg (Z5 x sa sc),.agg (Z5 x ta tc)] w fun e w'=>e = .returned (.bool true)/\Below w.heap.size w w':=by
 have I43:=zH zI;have g1:=Z9 _ (.cells (Z5 x ta tc) 47) _ _ (Za w (.cells (Z5 x sa sc) 47));have g2:=Zy (w.alloc (.cells (Z5 x sa sc) 47)) (.cells (Z5 x ta tc) 47) (w.heap.size+1) (by simp);have bb:Below w.heap.size w ((w.alloc (.cells (Z5 x sa sc) 47)).alloc (.cells (Z5 x ta tc) 47)):=(zB _ _).alloc (by simp) _;have T0:Hid (TwoN w ((w.alloc (.cells (Z5 x sa sc) 47)).alloc (.cells (Z5 x ta tc) 47)) w.heap.size (w.heap.size+1) x sa sc ta tc):=zH ⟨g1,g2,bb,by omega⟩;clear g1 g2 bb;go_enter Tryz.func70,Tryz.ntmps70;go_upto_region 1 with fail;generalize (w.alloc (.cells (Z5 x sa sc) 47)).alloc (.cells (Z5 x ta tc) 47)=W0 at *;obtain⟨p,hp⟩:=zX (w.heap.size);obtain⟨q,hq⟩:=zX (w.heap.size+1);rw[hq.out,hp.out]at T0;rw[hq.out,hp.out];have RX:=zH (show ∀W,Below p w W->Xs W sa x.strokes.length sc x.strokes from fun W h=>hx.below (by rw[hp.out];exact h));have RY:=zH (show ∀W,Below p w W->Xs W ta x.strokes.length tc x.strokes from fun W h=>hy.below (by rw[hp.out];exact h));have T0d:=zH (T0.out.below (zd W0));obtain⟨E,hE⟩ : ∃E,Hid (E=Y5 x):=⟨_,zH rfl⟩;have EX:=zH (fun W (h:TwoN w W p q x sa sc ta tc)=>Z5q x sa sc W (RX.out _ h.b) hsm hlen);have EY:=zH (fun W (h:TwoN w W p q x sa sc ta tc)=>Z5q x ta tc W (RY.out _ h.b) hsm hlen);have IX:=zH (fun W (h:TwoN w W p q x sa sc ta tc)=>Z4p x sa sc W (RX.out _ h.b) hsm hlen);have IY:=zH (fun W (h:TwoN w W p q x sa sc ta tc)=>Z4p x ta tc W (RY.out _ h.b) hsm hlen);rw[<-hE.out]at EX EY;clear hx hy;refine wp_region_noPanic ?_;refine wp_region_held_drew (S:=fun w'=>TwoN w w' p q x sa sc ta tc) (by kernel_rfl) T0d.out (fun hh=>?_);refine zT 0 rfl (.agg (Z5 x sa sc)) (ZW (by rfl) 47 _ rfl p rfl _ 47 (0,0) _ (fun W h=>h.e1) Tryz.underlying47 rfl (I43.out _ _ _)) ?_;refine zT 3 rfl (.agg (Z5 x ta tc)) (ZW (by rfl) 47 _ rfl q rfl _ 47 (0,0) _ (fun W h=>h.e2) Tryz.underlying47 rfl (I43.out _ _ _)) ?_;refine zR 1 rfl fun K hK=>?_;go_simp;go_at_call 125;refine(EX.out _ T0d.out).mono ?_
 rintro e wX ⟨aX,cX,rfl,hX,bX⟩;have TX:=zH (T0d.out.below bX);have cvX:=Jh (Ye.of_own hX);have HX:=zH hX;clear hX bX;dsimp only;refine zK hK TX.out fun hh=>?_;clear hK K;refine zM [2,4] rfl (fun K hK=>?_) ?_
 focus
  go_simp;refine zK hK TX.out fun hh=>?_;clear hK K;refine zR 4 rfl fun K hK=>?_;go_simp;go_at_call 125;refine(EY.out _ TX.out).mono ?_;rintro e wY ⟨aY,cY,rfl,hY,bY⟩;have TY:=zH (TX.out.below bY);have cvY:=Jh (Ye.of_own hY);have cvX2:=Jh (Ye.below (Ye.of_own HX.out) bY);clear hY bY;dsimp only;refine zK hK TY.out fun hh=>?_;clear hK K;refine zR 5 rfl fun K hK=>?_
 rotate_left
 focus
  refine zn fun K hK=>?_;go_simp;go_at_call 125;refine(EY.out _ TX.out).mono ?_;rintro e wY ⟨aY,cY,rfl,hY,bY⟩;have TY:=zH (TX.out.below bY);have cvY:=Jh (Ye.of_own hY);have cvX2:=Jh (Ye.below (Ye.of_own HX.out) bY);clear hY bY;dsimp only;refine zK hK TY.out fun hh=>?_;clear hK K;refine zM [2,5] rfl (fun K hK=>?_) ?_
  ·go_simp;refine zK hK TY.out fun hh=>?_;clear hK K;refine zR 5 rfl fun K hK=>?_;go_simp;refine zK hK TY.out fun hh=>?_;clear hK K;refine zS 6 rfl (.bool true) (fun W _=>by go_simp) ?_;refine zS 7 rfl (.bool true) (fun W _=>by go_simp) ?_;refine zT 8 rfl (.agg (Z5 x sa sc)) (ZW (by rfl) 47 _ rfl p rfl _ 47 (0,0) _ (fun W h=>h.e1) Tryz.underlying47 rfl (I43.out _ _ _)) ?_;refine zT 10 rfl (.agg (Z5 x ta tc)) (ZW (by rfl) 47 _ rfl q rfl _ 47 (0,0) _ (fun W h=>h.e2) Tryz.underlying47 rfl (I43.out _ _ _)) ?_;refine zR 9 rfl fun K hK=>?_;go_simp;go_at_call 126;refine(IX.out _ TY.out).mono ?_;rintro e wI ⟨rfl,bI⟩;have TI:=zH (TY.out.below bI);clear bI;dsimp only;refine zK hK TI.out fun hh=>?_;clear hK K;refine zR 11 rfl fun K hK=>?_;go_simp;go_at_call 126;refine(IY.out _ TI.out).mono ?_;rintro e wJ ⟨rfl,bJ⟩;have TJ:=zH (TI.out.below bJ);clear bJ;dsimp only;refine zK hK TJ.out fun hh=>?_;clear hK K;refine zS 12 rfl (.bool true) (fun W _=>by go_simp) ?_;refine zS 13 rfl (.bool true) (fun W _=>by go_simp) ?_;refine zS 14 rfl (.bool true) (fun W _=>by go_simp) ?_;refine zE ?_;change Exit.then _ _ Exit.normal { tmps := #[.agg (Z5 x sa sc),.agg (Z5 x ta tc),.pointer (some ⟨p,0,none⟩),.pointer (some ⟨q,0,none⟩),.bool true,.agg (Z5 x sa sc),.slice aX E.length cX,.string { data:=E.toArray },.agg (Z5 x ta tc),.slice aY E.length cY,.string { data:=E.toArray },.bool true,.bool true,.agg (Z5 x sa sc),.bool true,.agg (Z5 x ta tc),.bool true,.bool true,.bool true],defers:=[] } _;go_wp2;go_ret;exact⟨rfl,by rw[hp.out];exact TJ.out.b⟩
  refine zn fun K hK=>?_;go_simp;refine zK hK TY.out fun hh=>?_;clear hK K;refine zR 2 rfl fun K hK=>?_
 all_goals
  go_simp;refine zK hK TY.out fun hh=>?_;clear hK K;refine zS 6 rfl (.bool true) (fun W _=>by go_simp) ?_;refine zS 7 rfl (.bool true) (fun W _=>by go_simp) ?_;refine zT 8 rfl (.agg (Z5 x sa sc)) (ZW (by rfl) 47 _ rfl p rfl _ 47 (0,0) _ (fun W h=>h.e1) Tryz.underlying47 rfl (I43.out _ _ _)) ?_;refine zT 10 rfl (.agg (Z5 x ta tc)) (ZW (by rfl) 47 _ rfl q rfl _ 47 (0,0) _ (fun W h=>h.e2) Tryz.underlying47 rfl (I43.out _ _ _)) ?_;refine zR 9 rfl fun K hK=>?_;go_simp;go_at_call 126;refine(IX.out _ TY.out).mono ?_;rintro e wI ⟨rfl,bI⟩;have TI:=zH (TY.out.below bI);clear bI;dsimp only;refine zK hK TI.out fun hh=>?_;clear hK K;refine zR 11 rfl fun K hK=>?_;go_simp;go_at_call 126;refine(IY.out _ TI.out).mono ?_;rintro e wJ ⟨rfl,bJ⟩;have TJ:=zH (TI.out.below bJ);clear bJ;dsimp only;refine zK hK TJ.out fun hh=>?_;clear hK K;refine zS 12 rfl (.bool true) (fun W _=>by go_simp) ?_;refine zS 13 rfl (.bool true) (fun W _=>by go_simp) ?_;refine zS 14 rfl (.bool true) (fun W _=>by go_simp) ?_;refine zE ?_;change Exit.then _ _ Exit.normal { tmps := #[.agg (Z5 x sa sc),.agg (Z5 x ta tc),.pointer (some ⟨p,0,none⟩),.pointer (some ⟨q,0,none⟩),.bool true,.agg (Z5 x sa sc),.slice aX E.length cX,.string { data:=E.toArray },.agg (Z5 x ta tc),.slice aY E.length cY,.string { data:=E.toArray },.bool true,.bool true,.agg (Z5 x sa sc),.bool true,.agg (Z5 x ta tc),.bool true,.bool true,.bool true],defers:=[] } _;go_wp2;go_ret;exact⟨rfl,by rw[hp.out];exact TJ.out.b⟩
end
def Yw (x y:Int):Int:=if x < y then -1 else if y < x then 1 else 0
def orI (x y:Int):Int:=if x=0 then y else x
def YJ (h m h' m':Int):Int:=orI (Yw h h') (Yw m m')
def Xo (x y:Z8):Int:=orI (Yw x.clock y.clock) (YJ x.house x.num y.house y.num)
def JV (x y:Z8):Int:=orI (Yw x.day y.day) (Xo x y)
def J8 (n:Z8):Bool:=Jw n.kind 1 4
def Jz (x r:Z8):Bool:=decide (x.kind=6) ||(decide (x.kind=5) && (!decide (x.fix=2) || decide (r.kind=2)))
theorem Z0W (x:Int)(w:World):Calls zq 206 #[.int .i64 x] w fun e w'=>e = .returned (.bool false)/\w'=w:=by
 have h:(x != x)=false:=by simp
 go_enter Tryz.func206,Tryz.ntmps206;go_wp2;go_ret;exact⟨rfl,rfl⟩
theorem XJ (x y:Int)(w:World):Calls zq 173 #[.int .i64 x,.int .i64 y] w fun e w'=>e = .returned (.int .i64 (Yw x y))/\w'=w:=by
 have K : ∀{v:Int},Yw x y=v->Hid (Yw x y=v):=fun h=>zH h;by_cases h1:x < y
 ·have HK:=K (if_pos h1);have t1:decide (x < y)=true:=by simp[h1]
  go_enter Tryz.func173,Tryz.ntmps173;go_wp2_with fail;refine(Z0W x w).mono ?_;rintro e w1 ⟨rfl,rfl⟩;go_wp2_with fail;refine(Z0W y _).mono ?_;rintro e w1 ⟨rfl,rfl⟩;go_wp2;go_ret;rw[HK.out];exact⟨rfl,rfl⟩
 ·have t1:decide (x < y)=false:=by simp;omega
  by_cases h2:y < x
  focus
   have HK:=K ((if_neg h1).trans (if_pos h2));have t2:decide (y < x)=true:=by simp[h2]
  rotate_left
  focus
   have HK:=K ((if_neg h1).trans (if_neg h2));have t2:decide (y < x)=false:=by simp;omega
  all_goals
   go_enter Tryz.func173,Tryz.ntmps173;go_wp2_with fail;refine(Z0W x w).mono ?_;rintro e w1 ⟨rfl,rfl⟩;go_wp2_with fail;refine(Z0W y _).mono ?_;rintro e w1 ⟨rfl,rfl⟩;go_wp2;go_ret;rw[HK.out];exact⟨rfl,rfl⟩
theorem Zbl (w:World)(x y:Int):Xs (w.alloc (.cells #[.int .i64 x,.int .i64 y] 3)) (some ⟨w.heap.size,0,none⟩) 2 2 [x,y]:=
 Y3.of_own (World.ownsRow_lit (base:=w.heap.size) (e:=3) (size:=1) w #[.int .i64 x,.int .i64 y] 2 (Nat.le_refl _) (by unfold maxLen;omega) rfl)
theorem Z2v (b:Nat)(x y:Int)(w:World)(h:w.heap[b]? = some (.cells #[.int .i64 x,.int .i64 y] 3)):Calls zq 172 #[.slice (some ⟨b,0,none⟩) 2 2] w fun e w'=>e = .returned (.int .i64 (orI x y))/\w'=w:=by
 have c0:w.cell? ⟨b,0,none⟩=some (.int .i64 x):=Z6 h 0 _ rfl;have c1:w.cell? ⟨b,1,none⟩=some (.int .i64 y):=Z6 h 1 _ rfl;go_enter Tryz.func172,Tryz.ntmps172;go_wp2_with fail;go_loopw [5,8] (fun _ i wr=>((i = .int .i64 0)\/(i = .int .i64 1/\Hid (x=0))\/(i = .int .i64 2/\Hid (x=0/\y=0)))/\Hid (w=wr)) (fun _ i _=>2 - (intOf i).toNat)
 case atStart=>exact⟨.inl rfl,zH rfl⟩
 case round=>
  obtain⟨hr,HE⟩:=hrel;have:=HE.out;subst this;rcases hr with rfl | ⟨rfl,hx⟩ | ⟨rfl,hx⟩
  ·by_cases h0:x=0
   ·have t0:(x != 0)=false:=by simp[h0]
    have H0:=zH h0;clear h0;go_wp2;go_roundw
    case rel=>exact⟨.inr (.inl ⟨rfl,H0⟩),zH (by trivial)⟩
    case measure=>simp[intOf]
   ·have t0:(x != 0)=true:=by simp[h0]
    have H0:=zH (show orI x y=x from if_neg h0);clear h0;go_wp2;go_ret;rw[H0.out];exact⟨rfl,rfl⟩
  ·by_cases h0:y=0
   ·have t0:(y != 0)=false:=by simp[h0]
    have H0:=zH (show x=0/\y=0 from⟨hx.out,h0⟩);clear h0;go_wp2;go_roundw
    case rel=>exact⟨.inr (.inr ⟨rfl,H0⟩),zH (by trivial)⟩
    case measure=>simp[intOf]
   ·have t0:(y != 0)=true:=by simp[h0]
    have H0:=zH (show orI x y=y from if_pos hx.out);clear h0;go_wp2;go_ret;rw[H0.out];exact⟨rfl,rfl⟩
  ·have H0:=zH (show orI x y=0 by rw[orI,if_pos hx.out.1];exact hx.out.2);go_wp2;go_ret;rw[H0.out];exact⟨rfl,rfl⟩
structure Z6R (w W:World)(p q:Nat)(A B:Y6)(t:TypeId):Prop where
 e1:W.heap[p]? = some (.cells A t (0,0))
 e2:W.heap[q]? = some (.cells B t (0,0))
 b:Below p w W
 lt:p < q
theorem Z6R.below {w W W':World}{p q:Nat}{A B:Y6}{t:TypeId}(h:Z6R w W p q A B t)(hb:Below W.heap.size W W'):Z6R w W' p q A B t:=by
 have g : ∀{k:Nat} {o:Obj},W.heap[k]? = some o->W'.heap[k]? = some o:=fun {k o} hk=>(hb.block k (Array.getElem?_eq_some_iff.1 hk).1).trans hk;have h0:=(Array.getElem?_eq_some_iff.1 h.e1).1;exact⟨g h.e1,g h.e2,h.b.trans (hb.mono (by omega)),h.lt⟩
theorem zi (x m y k:Int)(w:World):Calls zq 124 #[.agg #[.int .i64 x,.int .i64 m],.agg #[.int .i64 y,.int .i64 k]] w fun e w'=>e = .returned (.int .i64 (YJ x m y k))/\Below w.heap.size w w':=by
 have g1:=Z9 _ (.cells (#[.int .i64 y,.int .i64 k]) 45) _ _ (Za w (.cells (#[.int .i64 x,.int .i64 m]) 45));have g2:=Zy (w.alloc (.cells (#[.int .i64 x,.int .i64 m]) 45)) (.cells (#[.int .i64 y,.int .i64 k]) 45) (w.heap.size+1) (by simp);have bb:Below w.heap.size w ((w.alloc (.cells (#[.int .i64 x,.int .i64 m]) 45)).alloc (.cells (#[.int .i64 y,.int .i64 k]) 45)):=(zB _ _).alloc (by simp) _;have T0:Hid (Z6R w ((w.alloc (.cells (#[.int .i64 x,.int .i64 m]) 45)).alloc (.cells (#[.int .i64 y,.int .i64 k]) 45)) w.heap.size (w.heap.size+1) (#[.int .i64 x,.int .i64 m]) (#[.int .i64 y,.int .i64 k]) 45):=zH ⟨g1,g2,bb,by omega⟩;clear g1 g2 bb;go_enter Tryz.func124,Tryz.ntmps124;go_upto_region 1 with fail;generalize (w.alloc (.cells (#[.int .i64 x,.int .i64 m]) 45)).alloc (.cells (#[.int .i64 y,.int .i64 k]) 45)=W0 at *;obtain⟨p,hp⟩:=zX (w.heap.size);obtain⟨q,hq⟩:=zX (w.heap.size+1);rw[hq.out,hp.out]at T0;rw[hq.out,hp.out];have T1:=zH (T0.out.below (zd W0));refine wp_region_noPanic ?_;refine wp_region_held_drew (S:=fun w'=>Z6R w w' p q (#[.int .i64 x,.int .i64 m]) (#[.int .i64 y,.int .i64 k]) 45) (by kernel_rfl) T1.out (fun hh=>?_);refine zS 0 rfl (.pointer (some ⟨p,0,none⟩)) (fun W _=>by go_simp) ?_;refine zS 1 rfl (.int .i64 x) (fun W h=>by have hc:=Z6 h.e1 0 (.int .i64 x) rfl;go_simp) ?_;refine zS 2 rfl (.pointer (some ⟨q,0,none⟩)) (fun W _=>by go_simp) ?_;refine zS 3 rfl (.int .i64 y) (fun W h=>by have hc:=Z6 h.e2 0 (.int .i64 y) rfl;go_simp) ?_;refine zS 5 rfl (.pointer (some ⟨p,1,none⟩)) (fun W _=>by go_simp) ?_;refine zS 6 rfl (.int .i64 m) (fun W h=>by have hc:=Z6 h.e1 1 (.int .i64 m) rfl;go_simp) ?_;refine zS 7 rfl (.pointer (some ⟨q,1,none⟩)) (fun W _=>by go_simp) ?_;refine zS 8 rfl (.int .i64 k) (fun W h=>by have hc:=Z6 h.e2 1 (.int .i64 k) rfl;go_simp) ?_;refine zR 4 rfl fun K hK=>?_;go_simp;go_at_call 173;refine(XJ x y _).mono ?_;rintro e w1 ⟨rfl,rfl⟩;dsimp only;refine zK hK T1.out fun hh=>?_;clear hK K;refine zR 9 rfl fun K hK=>?_;go_simp;go_at_call 173
 refine(XJ m k _).mono ?_;rintro e w1 ⟨rfl,rfl⟩;dsimp only;refine zK hK T1.out fun hh=>?_;clear hK K;refine zR 10 rfl fun K hK=>?_;go_simp;have TB:=zH (T1.out.below ((Below.refl W0.drew.heap.size W0.drew).alloc (Nat.le_refl _) (.cells #[.int .i64 (Yw x y),.int .i64 (Yw m k)] 3)));refine zK hK TB.out fun hh=>?_;clear hK K;refine zR 11 rfl fun K hK=>?_;go_simp;go_at_call 172;refine(Z2v W0.drew.heap.size (Yw x y) (Yw m k) _ (Za W0.drew _)).mono ?_;rintro e w1 ⟨rfl,rfl⟩;dsimp only;refine zK hK TB.out fun hh=>?_;clear hK K;refine zS 12 rfl (.int .i64 (orI (Yw x y) (Yw m k))) (fun W _=>by go_simp) ?_;have TE:=TB;refine zE ?_;change Exit.then _ _ Exit.normal { tmps := #[.agg #[.int .i64 x,.int .i64 m],.agg #[.int .i64 y,.int .i64 k],.pointer (some ⟨p,0,none⟩),.pointer (some ⟨q,0,none⟩),.int .i64 (orI (Yw x y) (Yw m k)),.pointer (some ⟨p,0,none⟩),.int .i64 x,.pointer (some ⟨q,0,none⟩),.int .i64 y,.int .i64 (Yw x y),.pointer (some ⟨p,1,none⟩),.int .i64 m,.pointer (some ⟨q,1,none⟩),.int .i64 k,.int .i64 (Yw m k),.slice (some ⟨W0.drew.heap.size,0,none⟩) 2 2,.int .i64 (orI (Yw x y) (Yw m k))],defers:=[] } _;go_wp2;go_ret;exact⟨rfl,by rw[hp.out];exact TE.out.b⟩
section
attribute [local go_sem] ZY
theorem Zaq (n r:Z8)(sa:zA)(sc:Nat)(ta:zA)(tc:Nat)(w:World):Calls zq 191 #[.agg (Z5 n sa sc),.agg (Z5 r ta tc)] w fun e w'=>e = .returned (.int .i64 (Xo n r))/\Below w.heap.size w w':=by
 have I43:=zH zI;have g1:=Z9 _ (.cells (Z5 r ta tc) 47) _ _ (Za w (.cells (Z5 n sa sc) 47));have g2:=Zy (w.alloc (.cells (Z5 n sa sc) 47)) (.cells (Z5 r ta tc) 47) (w.heap.size+1) (by simp);have bb:Below w.heap.size w ((w.alloc (.cells (Z5 n sa sc) 47)).alloc (.cells (Z5 r ta tc) 47)):=(zB _ _).alloc (by simp) _;have T0:Hid (Z6R w ((w.alloc (.cells (Z5 n sa sc) 47)).alloc (.cells (Z5 r ta tc) 47)) w.heap.size (w.heap.size+1) (Z5 n sa sc) (Z5 r ta tc) 47):=zH ⟨g1,g2,bb,by omega⟩;clear g1 g2 bb;go_enter Tryz.func191,Tryz.ntmps191;go_upto_region 1 with fail;generalize (w.alloc (.cells (Z5 n sa sc) 47)).alloc (.cells (Z5 r ta tc) 47)=W0 at *;obtain⟨p,hp⟩:=zX (w.heap.size);obtain⟨q,hq⟩:=zX (w.heap.size+1);rw[hq.out,hp.out]at T0;rw[hq.out,hp.out];have T1:=zH (T0.out.below (zd W0));refine wp_region_noPanic ?_;refine wp_region_held_drew (S:=fun w'=>Z6R w w' p q (Z5 n sa sc) (Z5 r ta tc) 47) (by kernel_rfl) T1.out (fun hh=>?_);refine zS 0 rfl (.pointer (some ⟨p,2,none⟩)) (fun W _=>by go_simp) ?_;refine zS 1 rfl (.int .i64 n.clock) (fun W h=>by have hc:=Z6 h.e1 2 (.int .i64 n.clock) rfl;go_simp) ?_;refine zS 2 rfl (.pointer (some ⟨q,2,none⟩)) (fun W _=>by go_simp) ?_;refine zS 3 rfl (.int .i64 r.clock) (fun W h=>by have hc:=Z6 h.e2 2 (.int .i64 r.clock) rfl;go_simp) ?_;refine zT 5 rfl (.agg (Z5 n sa sc)) (ZW (by rfl) 47 _ rfl p rfl _ 47 (0,0) _ (fun W h=>h.e1) Tryz.underlying47 rfl (I43.out _ _ _)) ?_;refine zT 7 rfl (.agg (Z5 r ta tc)) (ZW (by rfl) 47 _ rfl q rfl _ 47 (0,0) _ (fun W h=>h.e2) Tryz.underlying47 rfl (I43.out _ _ _)) ?_;refine zR 4 rfl fun K hK=>?_;go_simp;go_at_call 173;refine(XJ n.clock r.clock _).mono ?_;rintro e w1 ⟨rfl,rfl⟩;dsimp only;refine zK hK T1.out fun hh=>?_;clear hK K;refine zR 6 rfl fun K hK=>?_;go_simp;go_at_call 167;refine(Yj n sa sc _).mono ?_;rintro e w1 ⟨rfl,b1⟩;have T2:=zH (T1.out.below b1);clear b1;dsimp only;refine zK hK T2.out fun hh=>?_;clear hK K;refine zR 8 rfl fun K hK=>?_
 go_simp;go_at_call 167;refine(Yj r ta tc _).mono ?_;rintro e w2 ⟨rfl,b1⟩;have T3:=zH (T2.out.below b1);clear b1;dsimp only;refine zK hK T3.out fun hh=>?_;clear hK K;refine zR 9 rfl fun K hK=>?_;go_simp;go_at_call 124;refine(zi n.house n.num r.house r.num _).mono ?_;rintro e w3 ⟨rfl,b1⟩;have T4:=zH (T3.out.below b1);clear b1;dsimp only;refine zK hK T4.out fun hh=>?_;clear hK K;refine zR 10 rfl fun K hK=>?_;go_simp;have TB:=zH (T4.out.below (zB w3 (.cells #[.int .i64 (Yw n.clock r.clock),.int .i64 (YJ n.house n.num r.house r.num)] 3)));refine zK hK TB.out fun hh=>?_;clear hK K;refine zR 11 rfl fun K hK=>?_;go_simp;go_at_call 172;refine(Z2v w3.heap.size (Yw n.clock r.clock) (YJ n.house n.num r.house r.num) _ (Za w3 _)).mono ?_;rintro e w4 ⟨rfl,rfl⟩;dsimp only;refine zK hK TB.out fun hh=>?_;clear hK K;refine zS 12 rfl (.int .i64 (orI (Yw n.clock r.clock) (YJ n.house n.num r.house r.num))) (fun W _=>by go_simp) ?_;have TE:=TB;refine zE ?_;change Exit.then _ _ Exit.normal { tmps := #[.agg (Z5 n sa sc),.agg (Z5 r ta tc),.pointer (some ⟨p,0,none⟩),.pointer (some ⟨q,0,none⟩),.int .i64 (orI (Yw n.clock r.clock) (YJ n.house n.num r.house r.num)),.pointer (some ⟨p,2,none⟩),.int .i64 n.clock,.pointer (some ⟨q,2,none⟩),.int .i64 r.clock,.int .i64 (Yw n.clock r.clock),.agg (Z5 n sa sc),.agg #[.int .i64 n.house,.int .i64 n.num],.agg (Z5 r ta tc),.agg #[.int .i64 r.house,.int .i64 r.num],.int .i64 (YJ n.house n.num r.house r.num),.slice (some ⟨w3.heap.size,0,none⟩) 2 2,.int .i64 (orI (Yw n.clock r.clock) (YJ n.house n.num r.house r.num))],defers:=[] } _;go_wp2;go_ret;exact⟨rfl,by rw[hp.out];exact TE.out.b⟩
end
theorem Z1A (a:zA)(n c:Nat)(l:List Int)(w:World)(hn:n<=1000000000)(hr:Xs w a n c l):
  Calls zq 69 #[.slice a n c] w fun e w' => ∃a' c',e = .returned (.slice a' n c')/\w'.ownsRow w.heap.size 3 1 (.slice a' n c') n (l.map Ys)/\Below w.heap.size w w':=by
 have hnc:=hr.2.1;by_cases ha:a=none
 ·subst ha;have hc:n=0/\c=0:=by
   rcases hr.2.2.2 with h | ⟨b,off,h,_⟩
   ·omega
   ·cases h
  obtain⟨rfl,rfl⟩:=hc;have hl:l=[]:=List.eq_nil_of_length_eq_zero hr.len;subst hl;clear hr hnc;have heq : ∀w,(binOp .eql 37 (.slice none 0 0) (.slice none 0 0)).run zq w = .ok (.bool true) w:=fun w=>Lib.run_eql_slice_nil (P:=zq) w 37 3 none 0 0 0 0 Tryz.underlying37;go_enter Tryz.func69,Tryz.ntmps69;go_wp2;go_ret;exact⟨_,_,rfl,World.ownsRow_nil _ _ _ _,Below.refl _ _⟩
 ·obtain⟨ad,rfl⟩:=Option.ne_none_iff_exists'.1 ha;clear ha;have heq : ∀w,(binOp .eql 37 (.slice (some ad) n c) (.slice none 0 0)).run zq w = .ok (.bool false) w:=fun w=>Lib.run_eql_slice_nil (P:=zq) w 37 3 (some ad) n c 0 0 Tryz.underlying37;have hown:=World.ownsRow_lit (base:=w.heap.size) (e:=3) (size:=1) w #[] 0 (Nat.le_refl _) (by unfold maxLen;omega) rfl;have hr1:=hr.below (zB w (Obj.cells #[] 3));go_enter Tryz.func69,Tryz.ntmps69;go_wp2_with (at_builtin;refine Z4M _ rfl _ _ rfl w.heap.size _ _ _ [] rfl hown _ _ _ l rfl hr1 (by omega) (by simp) ?_);intro a' c' w' h1 h2;have hb:=(zB w (Obj.cells #[] 3)).grown h2 (by simp) (fun q hq=>(hown.lt q hq).1);have H1:=zH (show w'.ownsRow w.heap.size 3 1 (.slice a' n c') n (l.map Ys)by simpa using h1);clear h1 h2;try simp only[Nat.zero_add]
  go_wp2;go_ret;exact⟨_,_,rfl,H1.out,hb⟩
section
attribute [local go_sem] ZY YV Jd Vf XU Ve Vd Vc VH VG Qz Qy Qa Q9 Q8 XY Jl Jk JE
variable (n:Z8)(sa:zA)(sc:Nat)(w:World)
theorem Z27:Calls zq 189 #[.agg (Z5 n sa sc)] w fun e w'=>e = .returned (.bool (J8 n))/\Below w.heap.size w w':=by
 have hb:=zB w (.cells (Z5 n sa sc) 47);go_enter Tryz.func189,Tryz.ntmps189;go_wp2_with fail;refine(Yn n.kind 1 4 _).mono ?_;rintro e w' ⟨rfl,rfl⟩;go_wp2;go_ret;exact⟨rfl,hb⟩
theorem Z8M (r:Z8)(ta:zA)(tc:Nat):Calls zq 190 #[.agg (Z5 n sa sc),.agg (Z5 r ta tc)] w fun e w'=>e = .returned (.bool (Jz n r))/\Below w.heap.size w w':=by
 have hb:=(zB w (.cells (Z5 n sa sc) 47)).alloc (by simp) (.cells (Z5 r ta tc) 47);have hl:=Z9 _ (.cells (Z5 r ta tc) 47) _ _ (Za w (.cells (Z5 n sa sc) 47));have hl2:=Zy (w.alloc (.cells (Z5 n sa sc) 47)) (.cells (Z5 r ta tc) 47) (w.heap.size+1) (by simp);have c4:=Z6 hl 4 (.int .i64 n.kind) rfl;have c18:=Z6 hl 18 (.int .i64 n.fix) rfl;have d4:=Z6 hl2 4 (.int .i64 r.kind) rfl;have HB:=zH hb;clear hb hl hl2;by_cases h6:n.kind=6
 ·have q6:(n.kind==6)=true:=by simp[h6]
  have HR:=zH (show Jz n r=true by simp[Jz,h6]);clear h6;go_enter Tryz.func190,Tryz.ntmps190;go_wp2;go_ret;rw[HR.out];exact⟨rfl,HB.out⟩
 ·have q6:(n.kind==6)=false:=by simp[h6]
  by_cases h5:n.kind=5
  ·have q5:(n.kind==5)=true:=by simp[h5]
   by_cases h2:n.fix=2
   focus
    have q2:(n.fix != 2)=false:=by simp[h2]
    have HR:=zH (show Jz n r=(r.kind==2)by simp[Jz,h5,h2];by_cases h:r.kind=2 <;> simp[h])
   rotate_left
   focus
    have q2:(n.fix != 2)=true:=by simp[h2]
    have HR:=zH (show Jz n r=true by simp[Jz,h5,h2])
   all_goals
    clear h6 h5 h2;go_enter Tryz.func190,Tryz.ntmps190;go_wp2;go_ret;rw[HR.out];exact⟨rfl,HB.out⟩
  ·have q5:(n.kind==5)=false:=by simp[h5]
   have HR:=zH (show Jz n r=false by simp[Jz,h5,h6]);clear h6 h5;go_enter Tryz.func190,Tryz.ntmps190;go_wp2;go_ret;rw[HR.out];exact⟨rfl,HB.out⟩
end
open Go.Maps (Keyed)
abbrev Nm:=Int×Int
def nmV (a:Nm):Value := .agg #[.int .i64 a.1,.int .i64 a.2]
def VI (a:Nm):Prop:=J6 a.1/\J6 a.2
def nmL (a:Nm):Lit := .string (keyBytes [.int .i64 a.1,.int .i64 a.2])
theorem Zd0:laidOutB zq=true:=by kernel_rfl
theorem ZdL:(45:TypeId) < zq.types.size:=of_decide_eq_true (by kernel_rfl)
theorem ZcV:zq.keyTypeAt 2 45=true:=by kernel_rfl
theorem ZdM:WideMaps.KeyLaw zq 45:=by
 refine deep_law_laid Zd0 (m:=2) (by omega) ZdL ZcV ?_;rw[Tryz.underlying45]
theorem JG:Keyed zq 45:=Keyed.of_law ZdM
theorem Z4c:zq.cellsOf 45=2:=by kernel_rfl
theorem ZdD {z:Int}(h:J6 z):(Lit.int .i64 z).wf=true:=by
 have h1:=h.1;have h2:=h.2;simp[Lit.wf,IntKind.min,IntKind.max,IntKind.signed,IntKind.bits];omega
theorem Z8R {z:Int}(h:(Lit.int .i64 z).wf=true):J6 z:=by
 simp[Lit.wf,IntKind.min,IntKind.max,IntKind.signed,IntKind.bits]at h;unfold J6;omega
theorem Z4l:zq.keyType 45=true:=by kernel_rfl
theorem Z4m (d:Nat)(c0 c1:Value):zq.keyLits (d+2) 45 [c0,c1]=(do let a <-zq.keyLits (d+1) 3 [c0];let b <-zq.keyLits (d+1) 3 [c1];pure (a ++ b)):=by
 have hc:zq.cellsOf 3=1:=by kernel_rfl
 rw[show d+2=(d+1)+1 from rfl]
 conv=>lhs;unfold Program.keyLits;rw[Tryz.underlying45]
 simp[Z4c,hc];cases zq.keyLits (d+1) 3 [c0] <;> cases zq.keyLits (d+1) 3 [c1] <;> simp
theorem Z3g (d:Nat)(z:Int)(h:J6 z):zq.keyLits (d+1) 3 [.int .i64 z]=some [.int .i64 z]:=by
 unfold Program.keyLits;rw[Tryz.underlying3];simp[ZdD h]
theorem Z0r (d:Nat)(v:Value)(ls:List Lit)(h:zq.keyLits (d+1) 3 [v]=some ls): ∃z,v = .int .i64 z/\J6 z/\ls=[.int .i64 z]:=by
 unfold Program.keyLits at h;generalize hu:zq.underlying 3=u at h;rw[Tryz.underlying3]at hu;subst hu;cases v <;> simp at h
 obtain⟨⟨rfl,hw⟩,rfl⟩:=h;exact⟨_,rfl,Z8R hw,rfl⟩
theorem Z3N: ∃d,zq.types.size+1=d+2:=by
 have h:0 < zq.types.size:=of_decide_eq_true (by kernel_rfl);generalize zq.types.size=s at h;exact⟨s - 1,by omega⟩
theorem U7 (a:Nm)(h:VI a):keyOf zq 45 (nmV a)=some (nmL a):=by
 obtain⟨d,hd⟩:=Z3N;have hf:(nmV a).formed zq 45=true:=by simp[nmV,Value.formed,Tryz.underlying45,Z4c]
 unfold keyOf;rw[Tryz.underlying45];simp only[Z4l,hf,Bool.and_self,if_true,hd];rw[show(nmV a).cells.toList=[.int .i64 a.1,.int .i64 a.2]from rfl,Z4m,Z3g _ _ h.1,Z3g _ _ h.2];rfl
theorem Z0V {v:Value}{kl:Lit}(h:keyOf zq 45 v=some kl): ∃a,v=nmV a/\VI a/\kl=nmL a:=by
 obtain⟨d,hd⟩:=Z3N;unfold keyOf at h;rw[Tryz.underlying45]at h;simp only[Z4l,Bool.true_and,hd]at h;split at h
 ·rename_i hf;cases v <;> simp[Value.formed,Tryz.underlying45,Z4c]at hf
  rename_i cs;obtain⟨l⟩:=cs
  match l,hf with
  | [c0,c1],_=>
   rw[show(Value.agg #[c0,c1]).cells.toList=[c0,c1]from rfl,Z4m]at h;cases h0:zq.keyLits (d+1) 3 [c0]with
   | none=>simp[h0]at h
   | some l0=>
    cases h1:zq.keyLits (d+1) 3 [c1]with
    | none=>simp[h0,h1]at h
    | some l1=>
     obtain⟨z0,rfl,hz0,rfl⟩:=Z0r _ _ _ h0;obtain⟨z1,rfl,hz1,rfl⟩:=Z0r _ _ _ h1;simp[h0,h1]at h;exact⟨(z0,z1),rfl,⟨hz0,hz1⟩,h.symm⟩
 ·cases h
theorem Z1R (a:Nm):WideAt.IsKeyLit (nmL a):=trivial
theorem Z6s {a b:Nm}(h:nmV a=nmV b):a=b:=by
 simp[nmV]at h;exact Prod.ext h.1 h.2
theorem Z00 {a b:Nm}(ha:VI a)(hb:VI b)(h:nmL a=nmL b):a=b:=
 Z6s (JG.inj (U7 a ha) (h ▸ U7 b hb))
def Qc:Value->Option (DataW Value×List MemPlace):=fun v=>some (.held v,[])
structure Z0O {α:Type}(enc:α->Value)(D:DataW Value)(f:Nm->Option α):Prop where
 ok : ∀a,(f a).isSome=true->VI a
 has : ∀a,VI a->Maps.has D (nmL a)=(f a).isSome
 val : ∀a x,f a=some x -> ∀z,D.atKey (nmL a) z = .held (enc x)
def ZZ {α:Type}(enc:α->Value)(w:World)(b n:Nat)(f:Nm->Option α):Prop := ∃D,w.ownsMap zq 45 Qc b n D/\Z0O enc D f
def YH {α:Type}(f:Nm->Option α)(k:Nm)(x:α):Nm->Option α:=fun a=>if a=k then some x else f a
def Z6I {α:Type}(f:Nm->Option α)(k:Nm):Nm->Option α:=fun a=>if a=k then none else f a
section
variable {α:Type}{enc:α->Value}{D:DataW Value}{f:Nm->Option α}
theorem Z0O.empty:Z0O enc (.map []) (fun _=>none):=⟨by simp,fun a _=>rfl,by simp⟩
theorem Z0O.put (h:Z0O enc D f)(hm:Maps.IsMap D){k:Nm}(hk:VI k)(x:α):Z0O enc (D.put (nmL k) (.held (enc x))) (YH f k x):=by
 refine⟨fun a ha=>?_,fun a ha=>?_,fun a y hy z=>?_⟩
 ·unfold YH at ha;split at ha
  ·rename_i e;rw[e];exact hk
  ·exact h.ok a ha
 ·unfold YH;split
  ·rename_i e;rw[e,Maps.has_put_same hm (Z1R _)];rfl
  ·rename_i e;rw[Maps.has_put_other (fun he=>e (Z00 ha hk he))];exact h.has a ha
 ·unfold YH at hy;split at hy
  ·rename_i e;cases hy;rw[e,Maps.atKey_put_same hm (Z1R _)]
  ·rename_i e;rw[Maps.atKey_put_other (fun he=>e (Z00 (h.ok a (by rw[hy];rfl)) hk he))];exact h.val a y hy z
theorem Z0O.del (h:Z0O enc D f){k:Nm}(hk:VI k):Z0O enc (D.del (nmL k)) (Z6I f k):=by
 refine⟨fun a ha=>?_,fun a ha=>?_,fun a y hy z=>?_⟩
 ·unfold Z6I at ha;split at ha
  ·cases ha
  ·exact h.ok a ha
 ·unfold Z6I;split
  ·rename_i e;rw[e,Maps.has_del_same];rfl
  ·rename_i e;rw[Maps.has_del_other (fun he=>e (Z00 ha hk he))];exact h.has a ha
 ·unfold Z6I at hy;split at hy
  ·cases hy
  ·rename_i e;rw[Maps.atKey_del_other (fun he=>e (Z00 (h.ok a (by rw[hy];rfl)) hk he))];exact h.val a y hy z
variable {w:World}{b n:Nat}
theorem ZZ.made (w:World):ZZ enc (w.alloc (.map #[] 0)) w.heap.size 0 (fun _=>none):=⟨_,World.ownsMap_made w _ _ _,Z0O.empty⟩
theorem ZZ.lt (h:ZZ enc w b n f):b < w.heap.size:=by obtain⟨D,h1,_⟩:=h;exact h1.lt
theorem ZZ.kept {w':World}{row:Option Nat}(h:ZZ enc w b n f)(hg:w.grownBy w' row)(hne:some b≠row):ZZ enc w' b n f:=by
 obtain⟨D,h1,h2⟩:=h;exact⟨D,h1.kept hg hne,h2⟩
theorem ZZ.of_block {w':World}(h:ZZ enc w b n f)(hb:w'.heap[b]? = w.heap[b]?):ZZ enc w' b n f:=by
 obtain⟨D,⟨es,clock,h1,h2⟩,h3⟩:=h;exact⟨D,⟨es,clock,hb.trans h1,h2⟩,h3⟩
theorem ZZ.below {w':World}(h:ZZ enc w b n f)(hb:Below w.heap.size w w'):ZZ enc w' b n f:=h.of_block (hb.block b h.lt)
theorem ZZ.mono {m:Nat}(h:ZZ enc w b n f)(hn:n<=m):ZZ enc w b m f:=by obtain⟨D,h1,h2⟩:=h;exact⟨D,h1.mono hn,h2⟩
end
def Y8 {α:Type}(enc:α->Value)(w:World)(b r n:Nat)(f:Nm->Option α)(ks:List Nm)(cnt:Nat):Prop:=
 ∃D left,w.ranges zq 45 Qc b r n D left cnt/\Z0O enc D f/\(∀a,VI a->left (nmL a)=((f a).isSome && !decide (a∈ks)))/\ks.Nodup/\cnt+ks.length<=n
section
variable {α:Type}{enc:α->Value}{f:Nm->Option α}{w:World}{b r n cnt:Nat}{ks:List Nm}
theorem Y8.map (h:Y8 enc w b r n f ks cnt):ZZ enc w b n f:=by obtain⟨D,left,h1,h2,_⟩:=h;exact⟨D,h1.owns,h2⟩
theorem Y8.left_eq (h:Y8 enc w b r n f ks cnt):w.rangeLeft b r=cnt:=by obtain⟨D,left,h1,_⟩:=h;exact h1.left_eq
theorem Y8.lt (h:Y8 enc w b r n f ks cnt):r < w.heap.size:=by obtain⟨D,left,h1,_⟩:=h;exact h1.lt
theorem Y8.nodup (h:Y8 enc w b r n f ks cnt):ks.Nodup:=by obtain⟨D,left,_,_,_,h1,_⟩:=h;exact h1
theorem Y8.count (h:Y8 enc w b r n f ks cnt):cnt+ks.length<=n:=by obtain⟨D,left,_,_,_,_,h1⟩:=h;exact h1
theorem Y8.of_blocks {w':World}(h:Y8 enc w b r n f ks cnt)(hb:w'.heap[b]? = w.heap[b]?)(hr:w'.heap[r]? = w.heap[r]?):Y8 enc w' b r n f ks cnt:=by
 obtain⟨D,left,⟨es,clock,since,seen,c0,h1,h2,h3,h4,h5,h6⟩,h7⟩:=h;exact⟨D,left,⟨es,clock,since,seen,c0,hb.trans h1,h2,h3,h4,hr.trans h5,h6⟩,h7⟩
theorem Y8.below {w':World}(h:Y8 enc w b r n f ks cnt)(hb:Below w.heap.size w w'):Y8 enc w' b r n f ks cnt:=h.of_blocks (hb.block b h.map.lt) (hb.block r h.lt)
end
section
variable {α:Type}{enc:α->Value}{f:Nm->Option α}{P:Program}(w:World){ops:Array Oper}{rest:List Oper}{o:Oper}{a:Act}{Q:Exit->Act->World->Prop}
theorem Xx (hg:o.guard=none)(m:Operand)(t e:TypeId)(hop:o.op=Op.range t m)(ht:zq.underlying t=some (.map 45 e))(b n:Nat)(hm:a.eval m = .map (some b))(hmap:ZZ enc w b n f)
  (hK : ∀w' cnt,Y8 enc w' b w.heap.size n f [] cnt->w.grownBy w' none->w'.heap.size=w.heap.size+1->wpList zq ops Q rest (a.put o.dst (.pointer (some ⟨w.heap.size,0,none⟩))) w'):wpList zq ops Q (o :: rest) a w:=by
 obtain⟨D,h1,h2⟩:=hmap;exact wpList_range_own w hg m t hop 45 e JG ht Qc b n D hm h1 (fun w' h3 h4 h5=>hK w' _ ⟨D,_,h3,h2,fun k hk=>by rw[h2.has k hk];simp,List.nodup_nil,by have:=h1.size_le;simpa using this⟩ h4 h5)
structure Z60 {α:Type}(enc:α->Value)(w:World)(b r n cnt:Nat)(f:Nm->Option α)(ks:List Nm)(kh km:Int)(y:α)(w':World)(cnt':Nat):Prop where
 at_:f (kh,km)=some y
 new:(kh,km) ∉ ks
 ok:VI (kh,km)
 range:Y8 enc w' b r n f (ks ++ [(kh,km)]) cnt'
 lt:cnt' < cnt
 grown:w.grownBy w' (some r)
 size:w'.heap.size=w.heap.size
def Xt {α:Type}(f:Nm->Option α)(ks:List Nm):Prop := ∀k,(f k).isSome=true->k∈ks
theorem XV (hg:o.guard=none)(it:Operand)(hop:o.op=Op.next it false)(b r n cnt:Nat)(ks:List Nm)(hit:a.eval it = .pointer (some ⟨r,0,none⟩))(h:Y8 enc w b r n f ks cnt)
  (hDone:Xt f ks->wpList zq ops Q rest (a.put o.dst (.tuple #[.bool false])) w)
  (hMore : ∀kh km y w' cnt',Hid (Z60 enc w b r n cnt f ks kh km y w' cnt')->
   (Instr.entry (.pointer (some ⟨r,0,none⟩))).run zq w' = .ok (.tuple #[.agg #[.int .i64 kh,.int .i64 km],enc y]) w'->wpList zq ops Q rest (a.put o.dst (.tuple #[.bool true,.agg #[.int .i64 kh,.int .i64 km],enc y])) w'):wpList zq ops Q (o :: rest) a w:=by
 obtain⟨D,left,h1,h2,h3,h4,hcn⟩:=h;refine wpList_next_ranges (α:=Nm) (β:=Value) w hg it hop 45 JG Qc nmV id (fun key kl hk=>by obtain⟨a,rfl,_⟩:=Z0V hk;exact⟨a,rfl⟩) (fun v _ _=>⟨v,rfl⟩) b r n D left cnt hit h1 (fun _ hl=>hDone (fun k hk=>?_)) (fun k c kl y w' cnt' hkey hlk hv hat hrg hlt hgr hsz hen => ?_)
 ·have:=hl (nmL k);rw[h3 k (h2.ok k hk),hk]at this;simpa using this
 ·obtain⟨k',e1,hk',rfl⟩:=Z0V hkey;cases Z6s e1;rw[h3 k hk']at hlk;simp only[Bool.and_eq_true,Bool.not_eq_true',decide_eq_false_iff_not]at hlk;obtain⟨x,hx⟩:=Option.isSome_iff_exists.1 hlk.1;have hy:=hat (.lit (.bool true));rw[h2.val k x hx]at hy;simp only[Qc,Option.some.injEq]at hv;rw[<-hv]at hy;simp only[DataW.held.injEq,id_eq]at hy;subst hy;refine hMore k.1 k.2 x w' cnt' (zH ⟨hx,hlk.2,hk',⟨D,_,hrg,h2,fun a ha=>?_,?_,by rw[List.length_append,List.length_singleton];omega⟩,hlt,hgr,hsz⟩) hen
  ·rw[h3 a ha];by_cases e:a=k
   ·subst e;have:(nmL a).sameKey (nmL a)=true:=WideAt.sameKey_self (Z1R _);simp[this]
   ·have:(nmL a).sameKey (nmL k)=false:=Maps.sameKey_ne (fun he=>e (Z00 ha hk' he));simp[this,e]
  ·exact List.nodup_append.2 ⟨h4,by simp,fun a ha b hb e=>hlk.2 (by rw[List.mem_singleton]at hb;rw[<-show b=k from hb,<-e];exact ha)⟩
theorem Z4V (hg:o.guard=none)(m x:Operand)(t e:TypeId)(hop:o.op=Op.call { callee:=Callee.builtin Builtin.delete,args := #[m,x],argTypes := #[t,45] })(ht:zq.underlying t=some (.map 45 e))(b r n cnt:Nat)(ks:List Nm)(k:Nm)
  (hm:a.eval m = .map (some b)) (h:Y8 enc w b r n f ks cnt) (hx:a.eval x=nmV k) (hk:VI k) (hin:k∈ks)
  (hK : ∀w' cnt',Y8 enc w' b r n (Z6I f k) ks cnt'->cnt'<=cnt->w.mapTurned w' b->wpList zq ops Q rest (a.put o.dst (.tuple #[])) w'):wpList zq ops Q (o :: rest) a w:=by
 obtain⟨D,left,h1,h2,h3,h4,hcn⟩:=h;refine wpList_delete_ranges w hg m x t 45 hop e JG ht Qc b r n D left cnt hm h1 (nmV k) (nmL k) hx (U7 k hk) (fun w' cnt' h5 h6 h7=>hK w' cnt' ⟨_,_,h5,h2.del hk,fun a ha=>?_,h4,by omega⟩ h6 h7);rw[h3 a ha];by_cases e:a=k
 ·subst e;have:(nmL a).sameKey (nmL a)=true:=WideAt.sameKey_self (Z1R _);simp[this,Z6I]
 ·have:(nmL a).sameKey (nmL k)=false:=Maps.sameKey_ne (fun he=>e (Z00 ha hk he));simp[this,Z6I,e]
end
section
variable {α:Type}{enc:α->Value}{f:Nm->Option α}{w:World}{b n:Nat}{t e:TypeId}
theorem Ql (hmap:ZZ enc w b n f)(hn:n < maxLen)(ht:zq.underlying t=some (.map 45 e))(h m:Int)(hk:VI (h,m))(y:α):
  ∃w',(Instr.mapUpdate t (.map (some b)) (.agg #[.int .i64 h,.int .i64 m]) (enc y)).run zq w = .ok () w'/\ZZ enc w' b (n+1) (YH f (h,m) y)/\w.mapTurned w' b:=by
 obtain⟨D,h1,h2⟩:=hmap;obtain⟨w',h3,h4,h5⟩:=h1.store JG ht hn (U7 (h,m) hk) (val:=enc y) (d := .held (enc y)) (ps:=[]) rfl;exact⟨w',h3,⟨_,h4,h2.put h1.isMap hk y⟩,h5⟩
theorem XR (hmap:ZZ enc w b n f)(ht:zq.underlying t=some (.map 45 e)){z:Value}(hz:(zeroValue e).run zq w = .ok z w)(h m:Int)(hk:VI (h,m)):
  (Instr.lookup t (.map (some b)) (.agg #[.int .i64 h,.int .i64 m]) true).run zq w = .ok (.tuple #[((f (h,m)).map enc).getD z,.bool (f (h,m)).isSome]) w:=by
 obtain⟨D,h1,h2⟩:=hmap;obtain⟨v,ps,h3,h4⟩:=h1.look_ok JG ht hz (zd := .held z) (zp:=[]) rfl (U7 (h,m) hk);rw[h2.has (h,m) hk]at h3;simp only[Qc,Option.some.injEq,Prod.mk.injEq]at h4;refine h3.trans ?_;cases hf:f (h,m)with
 | none=>
  rw[Maps.atKey_of_not_has (by rw[h2.has (h,m) hk,hf];rfl)]at h4;have:=h4.1;simp only[DataW.held.injEq]at this;rw[this];rfl
 | some y=>
  rw[h2.val (h,m) y hf]at h4;have:=h4.1;simp only[DataW.held.injEq]at this;rw[this];rfl
end
def Qs (W:World)(a:zA)(n c:Nat)(l:List Z8):Prop:=
 l.length=n/\n<=c/\c<=maxLen/\(c=0 \/ ∃b off,a=some ⟨b,off,none⟩ /\ ∀i x,l[i]? = some x -> ∃sa sc,W.rangeAt b (off+i * 19) (x.cells sa sc)/\Xs W sa x.strokes.length sc x.strokes)
theorem Yv {W W':World}{b o:Nat}{cs:List Value}(h:W.rangeAt b o cs)(hb:Below W.heap.size W W'):W'.rangeAt b o cs:=fun j v hv=>by
 have h1:=h j v hv
 exact(hb.cell (p:=⟨b,o+j,none⟩) (World.block_lt_of_cell? W _ h1)).trans h1
theorem Qs.below {W W':World}{a:zA}{n c:Nat}{l:List Z8}(h:Qs W a n c l)(hb:Below W.heap.size W W'):Qs W' a n c l:=by
 refine⟨h.1,h.2.1,h.2.2.1,h.2.2.2.imp id ?_⟩;rintro⟨b,off,rfl,h4⟩;refine⟨b,off,rfl,fun i x hx=>?_⟩;obtain⟨sa,sc,h5,h6⟩:=h4 i x hx;exact⟨sa,sc,Yv h5 hb,h6.below hb⟩
theorem Qs.at {W:World}{a:zA}{n c:Nat}{l:List Z8}(h:Qs W a n c l)(h0:0 < n): ∃b off,a=some ⟨b,off,none⟩ /\ ∀i x,l[i]? = some x -> ∃sa sc,W.rangeAt b (off+i * 19) (x.cells sa sc)/\Xs W sa x.strokes.length sc x.strokes:=by
 rcases h.2.2.2 with h4 | h4
 ·have:=h.2.1;omega
 ·exact h4
def Vx (f:Yo)(l:List Z8)(i:Nat):Option Int:=match l[i]? with
 | none=>none
 | some x=>if Zg f x=false then some 80 else match (if i=0 then none else l[i - 1]?)with
  | none=>none
  | some y=>if YJ y.house y.num x.house x.num=0 then some 81 else if 0 < YJ y.house y.num x.house x.num then some 1 else none
def Vh (f:Yo)(l:List Z8):Nat->Nat->Int×Nat
 | 0,_=>(0,0)
 | k+1,i=>match Vx f l i with
  | some e=>(e,i)
  | none=>Vh f l k (i+1)
def Zs (f:Yo)(l:List Z8):Int×Nat:=if f.valid=false then (1,0)else if 400 < l.length then (2,0)else Vh f l l.length 0
theorem zz {f:Yo}{l:List Z8}{n k:Nat}{e:Int}(hk:k < n)(h:Vx f l k=some e):Vh f l (n - k) k=(e,k):=by
 obtain⟨m,hm⟩ : ∃m,n - k=m+1:=⟨n - k - 1,by omega⟩;rw[hm,Vh,h]
theorem Z3S {f:Yo}{l:List Z8}{n k:Nat}(hk:k < n)(h:Vx f l k=none):Vh f l (n - k) k=Vh f l (n - (k+1)) (k+1):=by
 obtain⟨m,hm⟩ : ∃m,n - k=m+1:=⟨n - k - 1,by omega⟩;rw[hm,Vh,h,show n - (k+1)=m by omega]
section
attribute [local go_sem] ZY
theorem Z6K (f:Yo)(a:zA)(n c:Nat)(l:List Z8)(w:World)(hr:Qs w a n c l):
  Calls zq 174 #[f.val,.slice a n c] w fun e w'=>e = .returned (.tuple #[.int .i64 (Zs f l).1,.int .i64 (Zs f l).2])/\Below w.heap.size w w':=by
 have I43:=zH zI;have hL:=zH hr.1;have hn63:n<=9223372036854775807:=by have h1:=hr.2.1;have h2:=hr.2.2.1;unfold maxLen at h2;omega
 have e6:=Zy (w.alloc (zF f 23)) (zF f 174) (w.heap.size+1) (by simp);have bb:Below w.heap.size w ((w.alloc (zF f 23)).alloc (zF f 174)):=(zB _ _).alloc (by simp) _;have E6:=zH e6;clear e6;have BB0:=zH bb;clear bb;unfold Yo.val;go_enter Tryz.func174,Tryz.ntmps174;go_wp2_with fail;generalize (w.alloc (zF f 23)).alloc (zF f 174)=W0 at *;obtain⟨p,hp⟩:=zX (w.heap.size);obtain⟨p6,hp6⟩:=zX (w.heap.size+1);rw[hp6.out]at E6;rw[hp.out]at BB0;rw[hp6.out,hp.out];refine(Z5l f.rings f.sectors f.wide _).mono ?_;rintro e w1 ⟨rfl,b1⟩;have B1:=zH (BB0.out.trans (b1.mono (by rw[<-hp.out];exact BB0.out.size)));have F1:=zH ((b1.block _ (Array.getElem?_eq_some_iff.1 E6.out).1).trans E6.out);clear b1 E6 BB0;have RX0:=zH (show ∀W',Below p w W'->Qs W' a n c l from fun W' hb=>hr.below (by rw[hp.out];exact hb));clear hr;cases hv:f.valid
 ·have HR:=zH (show Zs f l=(1,0)by unfold Zs;rw[if_pos hv]);clear hv;go_wp2_with fail;go_returns;rw[HR.out];exact⟨rfl,by rw[hp.out];exact B1.out⟩
 ·have HV:=zH hv;clear hv;by_cases h4:400 < n
  ·have HR:=zH (show Zs f l=(2,0)by unfold Zs;rw[if_neg (by rw[HV.out];decide),if_pos (by rw[hL.out];exact h4)]);have t4:decide ((400:Int) < (n:Int))=true:=by simp;omega
   go_wp2_with fail;go_returns;rw[HR.out];exact⟨rfl,by rw[hp.out];exact B1.out⟩
  ·have HG0:=zH (show Zs f l=Vh f l n 0 by unfold Zs;rw[if_neg (by rw[HV.out];decide),if_neg (by rw[hL.out];exact h4),hL.out]);have t4:decide ((400:Int) < (n:Int))=false:=by simp;omega
   go_wp2_with fail;go_loopw [22] (fun i wr=>∃k:Nat,i = .int .i64 k/\k<=n/\Hid (Zs f l=Vh f l (n - k) k)/\Hid (Below w.heap.size w wr)/\Hid (wr.heap[p6]? = some (.cells #[.int .i64 f.rings,.int .i64 f.sectors,.int .i64 f.wide] 174))) (fun i _=>n - (intOf i).toNat)
   case atStart=>exact⟨0,rfl,Nat.zero_le _,HG0,by rw[hp.out];exact B1,F1⟩
   case round=>
    obtain⟨k,rfl,hk,HG,HB,HF6⟩:=hrel;rw[hp.out]at HB;by_cases hlt:k < n
    ·obtain⟨x,hx⟩ : ∃x,l[k]? = some x:=⟨_,List.getElem?_eq_getElem (by rw[hL.out];exact hlt)⟩;have HX:=zH hx;obtain⟨b,off,rfl,hall⟩:=(RX0.out _ HB.out).at (by omega);obtain⟨sa,sc,hrange,hrd⟩:=hall k x hx;have HRA:=zH hrange;have RX:=zH (show ∀W',Below wr.heap.size wr W'->Xs W' sa x.strokes.length sc x.strokes from fun W' hb=>hrd.below hb);have HALL:=zH hall;clear hall hx hrange hrd;have hk63:(k:Int)<=9223372036854775807:=by omega
     go_upto_region 9 with (first
      |(refine wpList_load_mid rfl 47 _ rfl b (off+k * 19) rfl (x.cells sa sc) _ HRA.out Tryz.underlying47 rfl (Z0x x sa sc) ?_)
      |(refine zP wr wr.heap.size (Z5 x sa sc) ?_))
     have hbt:Below wr.heap.size wr (wr.alloc (.cells (Z5 x sa sc) 47)):=zB _ _;have TT:=zH (Za wr (.cells (Z5 x sa sc) 47));have FF:=zH ((hbt.block _ (Array.getElem?_eq_some_iff.1 HF6.out).1).trans HF6.out);have BB:=zH (HB.out.trans (hbt.mono (by rw[<-hp.out];exact HB.out.size)));have BW:=zH hbt;clear hbt;obtain⟨p8,hp8⟩:=zX (wr.heap.size);rw[hp8.out]at TT ⊢;generalize wr.alloc (.cells (Z5 x sa sc) 47)=wt at *;by_cases hk0:k=0
     ·have HK0:=zH hk0;have k0a:decide (0 < k)=false:=by simp;omega
      clear hk0;go_upto_region 12 with fail;have c0:=Z6 FF.out 0 _ rfl;have c1:=Z6 FF.out 1 _ rfl;have c2:=Z6 FF.out 2 _ rfl;go_wp2_with (refine zL p8 TT.out ?_);refine(Z1z f x sa sc _ HV.out (RX.out _ BW.out)).mono ?_;rintro e w5 ⟨rfl,b5⟩;have B5:=zH (BB.out.trans (b5.mono (by rw[<-hp.out];exact BB.out.size)));have F5:=zH ((b5.block _ (Array.getElem?_eq_some_iff.1 FF.out).1).trans FF.out);clear b5 c0 c1 c2;cases hf:Zg f x
      ·have HR:=zH (show Zs f l=(80,k)by rw[HG.out];exact zz hlt (by unfold Vx;rw[HX.out];simp only;rw[if_pos hf]));clear hf;go_wp2_with fail;go_returns;rw[HR.out];exact⟨rfl,by rw[hp.out];exact B5.out⟩
      ·have HR:=zH (show Vh f l (n - k) k=Vh f l (n - (k+1)) (k+1)from Z3S hlt (by unfold Vx;rw[HX.out];simp only;rw[if_neg (by rw[hf];decide),if_pos HK0.out]));clear hf;go_wp2;go_roundw
       case rel=>exact⟨k+1,by go_num,by omega,zH (by rw[<-HR.out];exact HG.out),by rw[hp.out];exact B5,F5⟩
       case measure=>simp[intOf];omega
     ·have HK0:=zH hk0;obtain⟨j,rfl⟩ : ∃j,k=j+1:=⟨k - 1,by omega⟩;have k0a:decide (0 < j+1)=true:=by simp
      clear hk0;obtain⟨y,hy⟩ : ∃y,l[j]? = some y:=⟨_,List.getElem?_eq_getElem (by rw[hL.out];omega)⟩;obtain⟨ya,yc,hyr,_⟩:=HALL.out j y hy;have HYR:=zH (Yv hyr BW.out);have HY:=zH (show l[j+1 - 1]? = some y by rw[Nat.add_sub_cancel];exact hy);have hjn:j < n:=by omega
      have hwj:IntKind.i64.wrap (j:Int)=(j:Int):=by first|(rw[IntKind.wrap_i64];omega)|(rw[IntKind.wrap_i64];unfold wrap64;omega)
      clear hy hyr;go_upto_region 11 with fail;have hS0:Below wt.heap.size wt wt.drew:=(zd wt);have HS0:=zH hS0;refine wp_region_noPanic ?_;refine wp_region_held_drew (S:=fun w'=>Below wt.heap.size wt w') (by kernel_rfl) hS0 (fun hh=>?_);clear hS0;refine zS 0 rfl (.slice (some ⟨b,off,none⟩) n c) (fun W _=>by go_simp) ?_;refine zS 1 rfl (.int .i64 ((j:Int)+1)) (fun W _=>by go_simp) ?_;refine zS 2 rfl (.int .i64 (j:Int)) (fun W _=>by go_simp) ?_;refine zS 3 rfl (.pointer (some ⟨b,off+j * 19,none⟩)) (fun W _=>by go_simp) ?_;refine zT 4 rfl (.agg (y.cells ya yc).toArray) (yieldsIf_load_mid (by rfl) 47 _ rfl b (off+j * 19) rfl (y.cells ya yc) _ (fun W h=>Yv HYR.out h) Tryz.underlying47 rfl (Z0x y ya yc)) ?_;refine zT 6 rfl (.agg (Z5 x sa sc)) (ZW (by rfl) 47 _ rfl p8 rfl _ 47 (0,0) _ (fun W h=>(h.block _ (Array.getElem?_eq_some_iff.1 TT.out).1).trans TT.out) Tryz.underlying47 rfl (I43.out _ _ _)) ?_;refine zR 5 rfl fun K hK=>?_;go_simp;go_at_call 167;refine(Yj y ya yc _).mono ?_;rintro e v1 ⟨rfl,b1⟩;have V1:=zH (HS0.out.trans (b1.mono HS0.out.size));clear b1;dsimp only;refine zK hK V1.out fun hh=>?_;clear hK K;refine zR 7 rfl fun K hK=>?_;go_simp;go_at_call 167;refine(Yj x sa sc _).mono ?_;rintro e v2 ⟨rfl,b1⟩;have V2:=zH (V1.out.trans (b1.mono V1.out.size));clear b1;dsimp only;refine zK hK V2.out fun hh=>?_;clear hK K;obtain⟨o,HO⟩ : ∃o,Hid (o=YJ y.house y.num x.house x.num):=⟨_,zH rfl⟩;refine zR 8 rfl fun K hK=>?_;go_simp;go_at_call 124;refine(zi y.house y.num x.house x.num _).mono ?_;rintro e v3 ⟨rfl,b1⟩;have V3:=zH (V2.out.trans (b1.mono V2.out.size));clear b1;rw[<-HO.out];dsimp only;refine zK hK V3.out fun hh=>?_;clear hK K;refine zS 9 rfl (.int .i64 o) (fun W _=>by go_simp) ?_;refine zE ?_;replace TT:=zH ((V3.out.block _ (Array.getElem?_eq_some_iff.1 TT.out).1).trans TT.out);replace FF:=zH ((V3.out.block _ (Array.getElem?_eq_some_iff.1 FF.out).1).trans FF.out);replace BB:=zH (BB.out.trans (V3.out.mono (by rw[<-hp.out];exact BB.out.size)));replace BW:=zH (BW.out.trans (V3.out.mono BW.out.size))
      clear V1 V2 V3 HS0 HYR;go_upto_region 12 with fail;have c0:=Z6 FF.out 0 _ rfl;have c1:=Z6 FF.out 1 _ rfl;have c2:=Z6 FF.out 2 _ rfl;go_wp2_with (refine zL p8 TT.out ?_);refine(Z1z f x sa sc _ HV.out (RX.out _ BW.out)).mono ?_;rintro e w5 ⟨rfl,b5⟩;have B5:=zH (BB.out.trans (b5.mono (by rw[<-hp.out];exact BB.out.size)));have F5:=zH ((b5.block _ (Array.getElem?_eq_some_iff.1 FF.out).1).trans FF.out);clear b5 c0 c1 c2;cases hf:Zg f x
      ·have HR:=zH (show Zs f l=(80,j+1)by rw[HG.out];exact zz hlt (by unfold Vx;rw[HX.out];simp only;rw[if_pos hf]));clear hf;go_wp2_with fail;go_returns;rw[HR.out];exact⟨rfl,by rw[hp.out];exact B5.out⟩
      ·have HF:=zH hf;clear hf;by_cases ho:o=0
       ·have ho1:(o==0)=true:=by simp[ho]
        have HR:=zH (show Zs f l=(81,j+1)by rw[HG.out];exact zz hlt (by unfold Vx;rw[HX.out];simp only;rw[if_neg (by rw[HF.out];decide),if_neg HK0.out,HY.out];simp only;rw[<-HO.out,if_pos ho]));clear ho;go_wp2_with fail;go_returns;rw[HR.out];exact⟨rfl,by rw[hp.out];exact B5.out⟩
       ·have ho1:(o==0)=false:=by simp[ho]
        by_cases hp2:0 < o
        ·have ho2:decide (0 < o)=true:=by simp[hp2]
         have HR:=zH (show Zs f l=(1,j+1)by rw[HG.out];exact zz hlt (by unfold Vx;rw[HX.out];simp only;rw[if_neg (by rw[HF.out];decide),if_neg HK0.out,HY.out];simp only;rw[<-HO.out,if_neg ho,if_pos hp2]));clear ho hp2;go_wp2_with fail;go_returns;rw[HR.out];exact⟨rfl,by rw[hp.out];exact B5.out⟩
        ·have ho2:decide (0 < o)=false:=by simp;omega
         have HR:=zH (show Vh f l (n - (j+1)) (j+1)=Vh f l (n - (j+1+1)) (j+1+1)from Z3S hlt (by unfold Vx;rw[HX.out];simp only;rw[if_neg (by rw[HF.out];decide),if_neg HK0.out,HY.out];simp only;rw[<-HO.out,if_neg ho,if_neg hp2]));clear ho hp2;go_wp2;go_roundw
         case rel=>exact⟨j+1+1,by go_num,by omega,zH (by rw[<-HR.out];exact HG.out),by rw[hp.out];exact B5,F5⟩
         case measure=>simp[intOf];omega
    ·have hkn:k=n:=by omega
     subst hkn;have HR:=zH (show Zs f l=(0,0)by rw[HG.out,Nat.sub_self];rfl);go_wp2_with fail;go_returns;rw[HR.out];exact⟨rfl,by rw[hp.out];exact HB.out⟩
end
structure LN where
 n:Z8
 sa:zA
 sc:Nat
def LN.val (x:LN):Value := .agg (Z5 x.n x.sa x.sc)
def LN.nm (x:LN):Nm:=(x.n.house,x.n.num)
def LN.ok (W:World)(x:LN):Prop:=Xs W x.sa x.n.strokes.length x.sc x.n.strokes
theorem LN.ok.below {W W':World}{x:LN}(h:x.ok W)(hb:Below W.heap.size W W'):x.ok W':=Xs.below h hb
def zk (W:World)(a:zA)(n c:Nat)(xs:List LN):Prop:=
 xs.length=n/\n<=c/\c<=maxLen/\(c=0 \/ ∃b off,a=some ⟨b,off,none⟩ /\ ∀i x,xs[i]? = some x->W.rangeAt b (off+i * 19) (x.n.cells x.sa x.sc)/\x.ok W)
theorem zk.below {W W':World}{a:zA}{n c:Nat}{l:List LN}(h:zk W a n c l)(hb:Below W.heap.size W W'):zk W' a n c l:=by
 refine⟨h.1,h.2.1,h.2.2.1,h.2.2.2.imp id ?_⟩;rintro⟨b,off,rfl,h4⟩;refine⟨b,off,rfl,fun i x hx=>?_⟩;obtain⟨h5,h6⟩:=h4 i x hx;exact⟨Yv h5 hb,h6.below hb⟩
theorem zk.at {W:World}{a:zA}{n c:Nat}{l:List LN}(h:zk W a n c l)(h0:0 < n): ∃b off,a=some ⟨b,off,none⟩ /\ ∀i x,l[i]? = some x->W.rangeAt b (off+i * 19) (x.n.cells x.sa x.sc)/\x.ok W:=by
 rcases h.2.2.2 with h4 | h4
 ·have:=h.2.1;omega
 ·exact h4
theorem Z5V: ∀(l:List Z8) (P:Nat->LN->Prop),(∀i x,l[i]? = some x -> ∃y:LN,y.n=x/\P i y) -> ∃xs:List LN,xs.map LN.n=l /\ ∀i y,xs[i]? = some y->P i y
 | [],_,_=>⟨[],rfl,by simp⟩
 | x :: l,P,h=>by
  obtain⟨y,h1,h2⟩:=h 0 x rfl
  obtain⟨xs,h3,h4⟩:=Z5V l (fun i=>P (i+1)) (fun i x hx=>h (i+1) x hx)
  refine⟨y :: xs,by simp[h1,h3],fun i z hz=>?_⟩
  cases i with
  | zero=>simp at hz;exact hz ▸ h2
  | succ i=>exact h4 i z hz
theorem Qs.choose {W:World}{a:zA}{n c:Nat}{l:List Z8}(h:Qs W a n c l): ∃xs:List LN,xs.map LN.n=l/\zk W a n c xs:=by
 obtain⟨h1,h2,h3,h4⟩:=h;rcases h4 with h4 | ⟨b,off,rfl,h4⟩
 ·have:l=[]:=List.eq_nil_of_length_eq_zero (by omega);subst this;exact⟨[],rfl,h1,h2,h3,.inl h4⟩
 ·obtain⟨xs,h5,h6⟩:=Z5V l (fun i y=>W.rangeAt b (off+i * 19) (y.n.cells y.sa y.sc)/\y.ok W) (fun i x hx=>by
   obtain⟨sa,sc,h7,h8⟩:=h4 i x hx;exact⟨⟨x,sa,sc⟩,rfl,h7,h8⟩)
  exact⟨xs,h5,by rw[<-h1,<-h5];simp,h2,h3,.inr ⟨b,off,rfl,h6⟩⟩
def ZS (xs:List LN):Nm->Option LN:=xs.foldl (fun f x=>YH f x.nm x) (fun _=>none)
theorem Za3 (xs:List LN)(x:LN):ZS (xs ++ [x])=YH (ZS xs) x.nm x:=by simp[ZS,List.foldl_append]
theorem Jp {α:Type}{xs:List α}{k:Nat}{x:α}(h:xs[k]? = some x):xs.take (k+1)=xs.take k ++ [x]:=by
 rw[List.take_add_one,h];rfl
def Z9f (f:Yo)(l:List Z8)(w:World)(e:Ending)(w':World):Prop:=
 ((Zs f l).1≠0/\e = .returned (.tuple #[.map none,.bool false])) \/
 ((Zs f l).1=0 /\ ∃xs b,e = .returned (.tuple #[.map (some b),.bool true])/\xs.map LN.n=l/\(∀x∈xs,x.ok w')/\ZZ LN.val w' b l.length (ZS xs)/\w.heap.size<=b)
section
attribute [local go_sem] ZY
theorem Z2q (f:Yo)(a:zA)(n c:Nat)(l:List Z8)(w:World)(hr:Qs w a n c l)(hok : ∀x∈l,x.Ok):
  Calls zq 121 #[f.val,.slice a n c] w fun e w'=>Z9f f l w e w'/\Below w.heap.size w w':=by
 have I43:=zH zI;obtain⟨xs,hxs,hR⟩:=hr.choose;have HXS:=zH hxs;have HOK:=zH (show ∀x∈xs,VI x.nm from fun x hx=>by
  have:=hok x.n (by rw[<-hxs];exact List.mem_map_of_mem hx);exact⟨this.house,this.num⟩)
 have HLen:=zH (show l.length=n from hr.1);have HL:=zH hR.1;have HN:=zH (show n<=maxLen by have:=hr.2.1;have:=hr.2.2.1;omega);have hn63:n<=9223372036854775807:=by have h1:=HN.out;unfold maxLen at h1;omega
 have RX0:=zH (show ∀W',Below w.heap.size w W'->zk W' a n c xs from fun W' hb=>hR.below hb);have CS:=zH (fun W (hb:Below w.heap.size w W)=>Z6K f a n c l W (hr.below hb));unfold Yo.val at CS;have SE0:=zH (show ∀e w',(Zs f l).1≠0->e = .returned (.tuple #[.map none,.bool false])->Z9f f l w e w' from fun e w' h1 h2 => .inl ⟨h1,h2⟩);have SE1:=zH (show ∀e w' b,(Zs f l).1=0->e = .returned (.tuple #[.map (some b),.bool true])->(∀x∈xs,x.ok w')->ZZ LN.val w' b n (ZS xs)->w.heap.size<=b->Z9f f l w e w' from fun e w' b h1 h2 h3 h4 h5 => .inr ⟨h1,xs,b,h2,hxs,h3,by rw[HLen.out];exact h4,h5⟩);clear hxs hR hr hok;obtain⟨z,HZ⟩:=zX ((Zs f l).1);obtain⟨y,HY⟩:=zX ((Zs f l).2);rw[HZ.out,HY.out]at CS;rw[HZ.out]at SE0 SE1;unfold Yo.val;have bb:=zB w (zF f 23);have BB:=zH bb;clear bb;go_enter Tryz.func121,Tryz.ntmps121;go_wp2_with fail;refine(CS.out _ BB.out).mono ?_;rintro e w1 ⟨rfl,b1⟩;have B1:=zH (BB.out.trans (b1.mono BB.out.size));clear b1;by_cases h0:z=0
 ·have t0:(z != 0)=false:=by simp[h0]
  have H0:=zH h0;clear h0;have M0:=zH (ZZ.made (enc:=LN.val) w1);have hmm := @run_makeMap zq;have B2:=zH (B1.out.alloc B1.out.size (.map #[] 0));obtain⟨b,hb⟩:=zX (w1.heap.size);have HB:=zH (show w.heap.size<=b by rw[<-hb.out];exact B1.out.size);rw[hb.out]at M0;go_wp2_with fail;rw[hb.out];clear hmm;go_loopw [22] (fun i wr=>∃k:Nat,i = .int .i64 k/\k<=n/\Hid (Below w.heap.size w wr)/\Hid (ZZ LN.val wr b k (ZS (xs.take k)))) (fun i _=>n - (intOf i).toNat)
  case atStart=>exact⟨0,rfl,Nat.zero_le _,B2,M0⟩
  case round=>
   obtain⟨k,rfl,hk,HBr,HM⟩:=hrel;by_cases hlt:k < n
   ·obtain⟨x,hx⟩ : ∃x,xs[k]? = some x:=⟨_,List.getElem?_eq_getElem (by rw[HL.out];exact hlt)⟩;have HX:=zH hx;have HXok:=zH (HOK.out x (List.mem_of_getElem? hx));obtain⟨bs,off,rfl,hall⟩:=(RX0.out _ HBr.out).at (by omega);obtain⟨hrange,_⟩:=hall k x hx;have HRA:=zH hrange;clear hall hx hrange;have hk63:(k:Int)<=9223372036854775807:=by omega
    go_upto_region 8 with (first
     |(refine wpList_load_mid rfl 47 _ rfl bs (off+k * 19) rfl (x.n.cells x.sa x.sc) _ HRA.out Tryz.underlying47 rfl (Z0x x.n x.sa x.sc) ?_)
     |(refine zP wr wr.heap.size (Z5 x.n x.sa x.sc) ?_))
    have hbt:Below wr.heap.size wr (wr.alloc (.cells (Z5 x.n x.sa x.sc) 47)):=zB _ _;have TT:=zH (Za wr (.cells (Z5 x.n x.sa x.sc) 47));have BT:=zH (HBr.out.trans (hbt.mono HBr.out.size));have MT:=zH (HM.out.below hbt);obtain⟨p8,hp8⟩:=zX (wr.heap.size);have HNE:=zH (show b < p8 by rw[<-hp8.out];exact HM.out.lt);rw[hp8.out]at TT ⊢;generalize wr.alloc (.cells (Z5 x.n x.sa x.sc) 47)=wt at *;clear hbt;refine zp TT.out fun hh=>?_;refine zS 0 rfl (.map (some b)) (fun W _=>by go_simp) ?_;refine zT 1 rfl (.agg (Z5 x.n x.sa x.sc)) (ZW (by rfl) 47 _ rfl p8 rfl _ 47 (0,0) _ (fun W h=>h) Tryz.underlying47 rfl (I43.out _ _ _)) ?_;refine zT 3 rfl (.agg (Z5 x.n x.sa x.sc)) (ZW (by rfl) 47 _ rfl p8 rfl _ 47 (0,0) _ (fun W h=>h) Tryz.underlying47 rfl (I43.out _ _ _)) ?_;refine zR 2 rfl fun K hK=>?_;go_simp;go_at_call 167;refine(Yj x.n x.sa x.sc _).mono ?_;rintro e v1 ⟨rfl,b1⟩;have b2:Below wt.heap.size wt v1:=((zd wt)).trans b1;have V1:=zH (BT.out.trans (b2.mono BT.out.size));have M1:=zH (MT.out.below b2);have T1:=zH ((b2.block _ (Array.getElem?_eq_some_iff.1 TT.out).1).trans TT.out);clear b1 b2;dsimp only;refine zK hK T1.out fun hh=>?_;clear hK K;refine zR 4 rfl fun K hK=>?_;have hput:=Ql (t:=119) M1.out (by have:=HN.out;omega) Tryz.underlying119 x.n.house x.n.num HXok.out x;obtain⟨v2,hrun,hm2,ht2⟩:=hput;have M2:=zH hm2;have V2:=zH (V1.out.grown ht2.grown V1.out.size (fun q hq=>by cases hq;exact HB.out));have T2:=zH ((ht2.grown.block p8 (Array.getElem?_eq_some_iff.1 T1.out).1 (fun he=>by cases he;exact absurd HNE.out (Nat.lt_irrefl _))).trans T1.out);clear hm2 ht2;unfold LN.val at hrun;go_simp;refine zK hK T2.out fun hh=>?_;clear hK K;refine zE ?_;go_wp2;go_roundw
    case rel=>exact⟨k+1,by go_num,by omega,V2,zH (by rw[Jp HX.out,Za3];exact M2.out)⟩
    case measure=>simp[intOf];omega
   ·have hkn:k=n:=by omega
    subst hkn;have HF:=zH (show ZZ LN.val wr b k (ZS xs)by have:=HM.out;rw[List.take_of_length_le (by rw[HL.out];exact Nat.le_refl _)]at this;exact this);have HA:=zH (show ∀x∈xs,x.ok wr from fun x hx=>by
     obtain⟨i,hi⟩:=List.getElem?_of_mem hx;have hi2:i < xs.length:=(List.getElem?_eq_some_iff.1 hi).1;obtain⟨_,_,_,hall⟩:=(RX0.out _ HBr.out).at (by rw[<-HL.out];omega);exact(hall i x hi).2)
    go_wp2_with fail;go_returns;exact⟨SE1.out _ _ _ H0.out rfl HA.out HF.out HB.out,HBr.out⟩
 ·have t0:(z != 0)=true:=by simp[h0]
  have H0:=zH h0;clear h0;go_wp2_with fail;go_returns;exact⟨SE0.out _ _ H0.out rfl,B1.out⟩
end
theorem Yz (w:World)(p:Nat)(c c':Y6)(t:TypeId)(fr:Nat×Nat)(hp:w.heap[p]? = some (.cells c t fr)):(w.setRow p c').heap[p]? = some (.cells c' t fr):=by
 simp only[World.setRow,Array.getElem?_modify,hp];simp
theorem YI (w:World)(p:Nat)(c':Y6):w.grownBy (w.setRow p c') (some p):=
 ⟨rfl,rfl,rfl,by simp[World.setRow],fun k _ hk=>by
  have : ¬p=k:=fun e=>hk (by rw[e])
  simp[World.setRow,Array.getElem?_modify,this]⟩
theorem Z1k {w w':World}(h:Below w.heap.size w w')(r:Option Nat):w.grownBy w' r:=⟨h.os,h.tape,h.output,h.size,fun k hk _=>h.block k hk⟩
theorem Zc {w w':World}{row:Option Nat}{p:Nat}{o:Obj}(hg:w.grownBy w' row)(h:w.heap[p]? = some o)(hne:some p≠row):w'.heap[p]? = some o:=
 (hg.block p (Array.getElem?_eq_some_iff.1 h).1 hne).trans h
theorem Z7 {w w':World}{p:Nat}{o:Obj}(hg:Below w.heap.size w w')(h:w.heap[p]? = some o):w'.heap[p]? = some o:=
 (hg.block p (Array.getElem?_eq_some_iff.1 h).1).trans h
theorem Zk {w:World}{p:Nat}{o:Obj}(h:w.heap[p]? = some o):p < w.heap.size:=(Array.getElem?_eq_some_iff.1 h).1
section
attribute [local go_sem] Jd
theorem ZbN (n:Z8)(sa:zA)(sc:Nat)(h m:Int)(q:Nat)(clock:Int)(w:World)(hq:w.heap[q]? = some (.cells #[.int .i64 clock] 3)):
  Calls zq 150 #[.agg #[.int .i64 h,.int .i64 m],.agg (Z5 n sa sc),.pointer (some ⟨q,0,none⟩)] w fun e w'=>e = .returned (.bool (decide (clock < n.clock)))/\Below w.heap.size w w':=by
 have B:=zH ((zB w (.cells #[.int .i64 h,.int .i64 m] 45)).alloc (by simp) (.cells (Z5 n sa sc) 47));have hl:=Zy (w.alloc (.cells #[.int .i64 h,.int .i64 m] 45)) (.cells (Z5 n sa sc) 47) (w.heap.size+1) (by simp);have c2:=Z6 hl 2 (.int .i64 n.clock) rfl;have q2:=Z6 (Z9 _ (.cells (Z5 n sa sc) 47) _ _ (Z9 w (.cells #[.int .i64 h,.int .i64 m] 45) _ _ hq)) 0 (.int .i64 clock) rfl;clear hl;go_enter Tryz.func150,Tryz.ntmps150;go_wp2;go_ret;exact⟨rfl,B.out⟩
end
def Ux (clock:Int)(f:Nm->Option LN)(ks:List Nm):Nm->Option LN:=fun a=>if a∈ks then (f a).filter (fun x=>!decide (clock < x.n.clock))else f a
theorem Z8L {clock:Int}{f:Nm->Option LN}{ks:List Nm}{k:Nm}{x:LN}(hf:f k=some x)(h:decide (clock < x.n.clock)=false):Ux clock f (ks ++ [k])=Ux clock f ks:=by
 funext a;unfold Ux;by_cases e:a=k
 ·subst e;simp[hf,Option.filter,h]
 ·simp[e]
theorem Zan {clock:Int}{f:Nm->Option LN}{ks:List Nm}{k:Nm}{x:LN}(hf:f k=some x)(h:decide (clock < x.n.clock)=true):Ux clock f (ks ++ [k])=Z6I (Ux clock f ks) k:=by
 funext a;unfold Ux Z6I;by_cases e:a=k
 ·subst e;simp[hf,Option.filter,h]
 ·simp[e]
theorem Z04 {clock:Int}{f:Nm->Option LN}{ks:List Nm}{k:Nm}(hk:k ∉ ks):Ux clock f ks k=f k:=by simp[Ux,hk]
theorem Zao {clock:Int}{f:Nm->Option LN}{ks:List Nm}(h : ∀k,(Ux clock f ks k).isSome=true->k∈ks):Ux clock f ks=fun a=>(f a).filter (fun x=>!decide (clock < x.n.clock)):=by
 funext a;by_cases e:a∈ks
 ·simp[Ux,e]
 ·have h1:=h a;rw[Z04 e]at h1;rw[Z04 e];cases hf:f a with
  | none=>rfl
  | some x=>exact absurd (h1 (by rw[hf];rfl)) e
theorem Z97 (b n:Nat)(f:Nm->Option LN)(q:Nat)(clock:Int)(w:World)(hm:ZZ LN.val w b n f)(hq:w.heap[q]? = some (.cells #[.int .i64 clock] 3)):
  Calls zq 149 #[.map (some b),.func (.func 150) #[] #[.pointer (some ⟨q,0,none⟩)]] w fun e w'=>
   e = .returned (.tuple #[])/\ZZ LN.val w' b n (fun a=>(f a).filter (fun x=>!decide (clock < x.n.clock)))/\w.grownBy w' (some b):=by
 have I43:=zH zI;have I41:=zH (show ∀(x y:Int),(zq.info? 45).map (·.size)=some (#[Value.int .i64 x,Value.int .i64 y]).size from fun x y=>by kernel_rfl);have hbw:=hm.lt;have HBW:=zH hbw;clear hbw;have HQ:=zH hq;clear hq;have HNE:=zH (show q≠b from fun e=>by
  subst e;obtain⟨D,⟨es,clock,h1,_⟩,_⟩:=hm;rw[HQ.out]at h1;cases h1)
 go_enter Tryz.func149,Tryz.ntmps149;go_wp2_with (first
  |(at_range;refine Xx _ rfl _ 119 47 rfl Tryz.underlying119 b n rfl hm ?_;intro w0 cnt0 hrg0 hg0 hs0)
  | fail)
 go_frame;obtain⟨r,hr⟩:=zX (w.heap.size);have HQ0:=zH (Zc hg0 HQ.out (by simp));have G0:=zH (hg0.but (some b));rw[hr.out]at hrg0;rw[hr.out];clear hm hg0 hs0;go_loopw [8] (fun _ wr=>∃(ks:List Nm) (cnt:Nat),Hid (Y8 LN.val wr b r n (Ux clock f ks) ks cnt)/\Hid (w.grownBy wr (some b))/\Hid (wr.heap[q]? = some (.cells #[.int .i64 clock] 3))) (fun _ wr=>wr.rangeLeft b r)
 case atStart=>exact⟨[],cnt0,zH (by rw[show Ux clock f []=f from funext fun a=>by simp[Ux]];exact hrg0),G0,HQ0⟩
 case round=>
  obtain⟨ks,cnt,HR,HG,HC⟩:=hrel;clear HQ0 hrg0 G0;go_upto_region 2 with (first
   |(at_next;refine XV wr rfl _ rfl b r n cnt ks rfl HR.out ?_ ?_)
   | fail)
  ·intro hall;have HE:=zH (show ZZ LN.val wr b n (fun a=>(f a).filter (fun x=>!decide (clock < x.n.clock)))by rw[<-Zao hall];exact HR.out.map);clear hall;go_wp2;go_end0;exact⟨rfl,HE.out,HG.out⟩
  ·intro kh km y w1 cnt1 HN hen;unfold LN.val at hen;have HC1:=zH (Zc HN.out.grown HC.out (fun e=>by
    have e':=Option.some.inj e;have h1:=Zk HQ.out;have h2:=hr.out;omega))
   have HG1:=zH (HG.out.andThen HN.out.grown (fun j hj=>by cases hj;exact .inl (by rw[hr.out];exact Nat.le_refl _)));have HR1:=zH HN.out.range;go_upto_region 3 with (first
    |(refine Zv (w1.alloc (.cells #[.int .i64 kh,.int .i64 km] 45)) rfl 47 _ _ rfl (w1.heap.size+1) (by simp) _ (Z5 y.n y.sa y.sc) rfl rfl (I43.out _ _ _) rfl (Zm y.n y.sa y.sc) ?_))
   have BT:=zH ((zB w1 (.cells #[.int .i64 kh,.int .i64 km] 45)).alloc (by simp) (.cells (Z5 y.n y.sa y.sc) 47));have T4:=zH (Z9 _ (.cells (Z5 y.n y.sa y.sc) 47) _ _ (Za w1 (.cells #[.int .i64 kh,.int .i64 km] 45)));have T5:=zH (Zy (w1.alloc (.cells #[.int .i64 kh,.int .i64 km] 45)) (.cells (Z5 y.n y.sa y.sc) 47) (w1.heap.size+1) (by simp));generalize (w1.alloc (.cells #[.int .i64 kh,.int .i64 km] 45)).alloc (.cells (Z5 y.n y.sa y.sc) 47)=wt at *;obtain⟨p4,hp4⟩:=zX (w1.heap.size);obtain⟨p5,hp5⟩:=zX (w1.heap.size+1);rw[hp5.out]at T5 ⊢;rw[hp4.out]at T4 ⊢;have RT:=zH (HR1.out.below BT.out);have CT:=zH (Z7 BT.out HC1.out);have GT:=zH (HG1.out.andThen (Z1k BT.out none) (fun j hj=>by cases hj));have n0:=Z6 T4.out 0 (.int .i64 kh) rfl;have n1:=Z6 T4.out 1 (.int .i64 km) rfl;have LB:=zH (show b < wt.heap.size from RT.out.map.lt);clear hen;go_wp2_with (first
    |(refine zL p5 T5.out ?_))
   refine(ZbN y.n y.sa y.sc kh km q clock wt CT.out).mono ?_;rintro e w2 ⟨rfl,b2⟩;have R2:=zH (RT.out.below b2);have C2:=zH (Z7 b2 CT.out);have G2:=zH (GT.out.andThen (Z1k b2 none) (fun j hj=>by cases hj));have T42:=zH (Z7 b2 T4.out);clear b2 n0 n1;have n0:=Z6 T42.out 0 (.int .i64 kh) rfl;have n1:=Z6 T42.out 1 (.int .i64 km) rfl;cases hc:decide (clock < y.n.clock)
   ·have HE:=zH (Z8L (clock:=clock) (ks:=ks) (show f (kh,km)=some y by rw[<-Z04 (clock:=clock) (f:=f) HN.out.new];exact HN.out.at_) hc);clear hc;go_wp2;go_roundw
    case rel=>exact⟨_,_,zH (by rw[HE.out];exact R2.out),G2,C2⟩
    case measure=>rw[R2.out.left_eq,HR.out.left_eq];exact HN.out.lt
   ·have HE:=zH (Zan (clock:=clock) (ks:=ks) (show f (kh,km)=some y by rw[<-Z04 (clock:=clock) (f:=f) HN.out.new];exact HN.out.at_) hc);clear hc;go_wp2_with (first
     |(at_delete;refine Z4V w2 rfl _ _ 119 47 rfl Tryz.underlying119 b r n _ _ (kh,km) rfl R2.out rfl HN.out.ok (by simp) ?_;intro w3 cnt3 hr3 hle3 ht3;go_frame)
     | fail)
    have C3:=zH (Zc ht3.grown C2.out (fun e=>HNE.out (Option.some.inj e)));have G3:=zH (G2.out.andThen ht3.grown (fun j hj=>.inr hj));have R3:=zH hr3;have L3:=zH hle3;clear hr3 hle3 ht3;go_roundw
    case rel=>exact⟨_,_,zH (by rw[HE.out];exact R3.out),G3,C3⟩
    case measure=>rw[R3.out.left_eq,HR.out.left_eq];exact Nat.lt_of_le_of_lt L3.out HN.out.lt
def refN (x:LN):Nm:=(x.n.refH,x.n.refN)
def FOk (f:Nm->Option LN):Prop := ∀a x,f a=some x->x.n.Ok/\x.nm=a
def QD (f:Nm->Option LN)(a:Nm)(x:LN):Bool := !J8 x.n && decide (refN x=a) && (match f a with | none=>false | some r=>J8 r.n && Jz x.n r.n)
def Ui (f:Nm->Option LN)(x:LN):Bool := !J8 x.n && (match f (refN x)with | none=>true | some r => !(J8 r.n && Jz x.n r.n))
def Uh (f:Nm->Option LN)(ks:List Nm):List Nm:=ks.filter (fun k=>match f k with | some x=>Ui f x | none=>false)
def YR (f:Nm->Option LN)(ks:List Nm)(J:Nm->Option LN):Prop := ∀a,
 (J a=none -> ∀k∈ks,∀x,f k=some x->QD f a x=false) /\
 (∀y,J a=some y->(∃k∈ks,f k=some y)/\QD f a y=true /\ ∀k∈ks,∀x,f k=some x->QD f a x=true -> ¬Xo y.n x.n < 0)
theorem YR.nil (f:Nm->Option LN):YR f [] (fun _=>none):=fun a=>⟨fun _ k hk=>by simp at hk,fun y hy=>by cases hy⟩
theorem zj (x y:Int):Yw x y < 0↔x < y:=by unfold Yw;split <;> (try split) <;> omega
theorem Z13 (x y:Int):Yw x y=0↔x=y:=by unfold Yw;split <;> (try split) <;> omega
theorem Z3B (x y:Int):orI x y < 0↔x < 0\/x=0/\y < 0:=by unfold orI;split <;> omega
theorem QR (a b:Z8):Xo a b < 0↔a.clock < b.clock\/a.clock=b.clock/\(a.house < b.house\/a.house=b.house/\a.num < b.num):=by
 rw[Xo,YJ,Z3B,Z3B,zj,zj,zj,Z13,Z13]
theorem Z6z (a b c:Z8)(h1:Xo a b < 0)(h2 : ¬Xo a c < 0): ¬Xo b c < 0:=by
 rw[QR]at *;omega
theorem Z3f (a:Z8): ¬Xo a a < 0:=by
 rw[QR];omega
section
variable {f:Nm->Option LN}{ks:List Nm}{J:Nm->Option LN}{k:Nm}{x:LN}
theorem YR.skip (h:YR f ks J)(hk:f k=some x)(hc : ∀a,QD f a x=false):YR f (ks ++ [k]) J:=fun a=>by
 obtain⟨h1,h2⟩:=h a
 refine⟨fun hJ k' hk' x' hx' => ?_,fun y hy=>?_⟩
 ·rcases List.mem_append.1 hk' with h3 | h3
  ·exact h1 hJ k' h3 x' hx'
  ·rw[List.mem_singleton.1 h3,hk]at hx'
   cases hx';exact hc a
 ·obtain⟨⟨k1,h3,h4⟩,h5,h6⟩:=h2 y hy
  refine⟨⟨k1,List.mem_append_left _ h3,h4⟩,h5,fun k' hk' x' hx' hcx => ?_⟩
  rcases List.mem_append.1 hk' with h7 | h7
  ·exact h6 k' h7 x' hx' hcx
  ·rw[List.mem_singleton.1 h7,hk]at hx'
   cases hx'
   rw[hc a]at hcx;cases hcx
theorem YR.stay {y:LN}(h:YR f ks J)(hk:f k=some x)(hJ:J (refN x)=some y)(hn : ¬Xo y.n x.n < 0):YR f (ks ++ [k]) J:=fun a=>by
 obtain⟨h1,h2⟩:=h a
 refine⟨fun hJa k' hk' x' hx' => ?_,fun z hz=>?_⟩
 ·rcases List.mem_append.1 hk' with h3 | h3
  ·exact h1 hJa k' h3 x' hx'
  ·rw[List.mem_singleton.1 h3,hk]at hx'
   cases hx'
   by_cases e:refN x=a
   ·rw[e,hJa]at hJ;cases hJ
   ·simp[QD,e]
 ·obtain⟨⟨k1,h3,h4⟩,h5,h6⟩:=h2 z hz
  refine⟨⟨k1,List.mem_append_left _ h3,h4⟩,h5,fun k' hk' x' hx' hcx => ?_⟩
  rcases List.mem_append.1 hk' with h7 | h7
  ·exact h6 k' h7 x' hx' hcx
  ·rw[List.mem_singleton.1 h7,hk]at hx'
   cases hx'
   have e:refN x=a:=by
    simp[QD]at hcx;exact hcx.1.2
   rw[e,hz]at hJ;cases hJ;exact hn
theorem YR.put (h:YR f ks J)(hk:f k=some x)(hc:QD f (refN x) x=true)(hn : ∀y,J (refN x)=some y->Xo y.n x.n < 0):YR f (ks ++ [k]) (YH J (refN x) x):=fun a=>by
 obtain⟨h1,h2⟩:=h a
 by_cases e:a=refN x
 ·subst e
  refine⟨fun hJ=>by simp[YH]at hJ,fun z hz=>?_⟩
  have hz':some x=some z:=by rw[<-hz];simp[YH]
  cases hz'
  refine⟨⟨k,by simp,hk⟩,hc,fun k' hk' x' hx' hcx => ?_⟩
  rcases List.mem_append.1 hk' with h7 | h7
  ·cases hJ:J (refN x)with
   | none=>rw[h1 hJ k' h7 x' hx']at hcx;cases hcx
   | some y=>exact Z6z _ _ _ (hn y hJ) ((h2 y hJ).2.2 k' h7 x' hx' hcx)
  ·rw[List.mem_singleton.1 h7,hk]at hx'
   cases hx';exact Z3f _
 ·have hno:QD f a x=false:=by
   have : ¬refN x=a:=fun e'=>e e'.symm;simp[QD,this]
  have hJe:YH J (refN x) x a=J a:=by simp[YH,e]
  rw[hJe];refine⟨fun hJ k' hk' x' hx' => ?_,fun y hy=>?_⟩
  ·rcases List.mem_append.1 hk' with h3 | h3
   ·exact h1 hJ k' h3 x' hx'
   ·rw[List.mem_singleton.1 h3,hk]at hx';cases hx';exact hno
  ·obtain⟨⟨k1,h3,h4⟩,h5,h6⟩:=h2 y hy;refine⟨⟨k1,List.mem_append_left _ h3,h4⟩,h5,fun k' hk' x' hx' hcx => ?_⟩;rcases List.mem_append.1 hk' with h7 | h7
   ·exact h6 k' h7 x' hx' hcx
   ·rw[List.mem_singleton.1 h7,hk]at hx';cases hx';rw[hno]at hcx;cases hcx
theorem Z2m (f:Nm->Option LN)(ks:List Nm)(hk:f k=some x):Uh f (ks ++ [k])=if Ui f x=true then Uh f ks ++ [k]else Uh f ks:=by
 unfold Uh;rw[List.filter_append];by_cases h:Ui f x=true
 ·simp[List.filter,hk,h]
 ·simp[List.filter,hk,h]
theorem ZaQ (hd:J8 x.n=true)(a:Nm):QD f a x=false:=by simp[QD,hd]
theorem Zbe (hd:J8 x.n=true):Ui f x=false:=by simp[Ui,hd]
theorem ZcF (hd:Ui f x=true)(a:Nm):QD f a x=false:=by
 by_cases e:refN x=a
 ·subst e;unfold Ui at hd;unfold QD;cases hf:f (refN x)with
  | none=>simp
  | some r=>rw[hf]at hd;simp at hd ⊢;intro _ h1;rcases hd.2 with h2 | h2 <;> simp_all
 ·simp[QD,e]
theorem Z6L (hd:J8 x.n=false)(hv:Ui f x=false):QD f (refN x) x=true:=by
 unfold Ui at hv;unfold QD;cases hf:f (refN x)with
 | none=>rw[hf]at hv;simp[hd]at hv
 | some r=>rw[hf]at hv;simp[hd]at hv;simp[hd,hv]
end
def ZC (l:List Nm):List Value:=l.flatMap fun a=>[.int .i64 a.1,.int .i64 a.2]
theorem Z1S (l:List Nm)(a:Nm):ZC (l ++ [a])=ZC l ++ [.int .i64 a.1,.int .i64 a.2]:=by simp[ZC]
theorem X3 (l:List Nm):(ZC l).length=l.length * 2:=by
 induction l with
 | nil=>rfl
 | cons a l ih=>
  have:ZC (a :: l)=[.int .i64 a.1,.int .i64 a.2] ++ ZC l:=rfl;rw[this,List.length_append,ih];simp;omega
def Qh (w:World)(p bS bJ:Nat)(va:zA)(vn vc:Nat):Prop:=w.heap[p]? = some (.cells #[.map (some bS),.map (some bJ),.slice va vn vc] 243)
structure Qe (w wr:World)(bS pB bJ r n:Nat)(f:Nm->Option LN)(kr ks:List Nm)(cnt:Nat)(va:zA)(vn vc:Nat)(J:Nm->Option LN):Prop where
 rng:Y8 LN.val wr bS r n f kr cnt
 bel:Below w.heap.size w wr
 blk:Qh wr pB bS bJ va vn vc
 jm:ZZ LN.val wr bJ ks.length J
 jok:YR f ks J
 own:wr.ownsRow w.heap.size 45 2 (.slice va vn vc) vn (ZC (Uh f ks))
 bJ_ge:w.heap.size<=bJ
 pB_ge:w.heap.size<=pB
 r_ge:w.heap.size<=r
 bS_lt:bS < w.heap.size
theorem Zo {w:World}{base:Nat}{e:TypeId}{size:Nat}{v:Value}{n:Nat}{xs:List Value}{p:Nat}{o:Obj}(h:w.ownsRow base e size v n xs)(hp:w.heap[p]? = some o)(ho : ∀cur,o ≠ .cells cur e (0,0)):some p≠v.ownBlock:=by
 rcases h.2 with ⟨rfl,_⟩ | ⟨g,cap,cur,rfl,_,hg,_⟩
 ·simp[Value.ownBlock]
 ·intro e1;have e2:p=g:=Option.some.inj e1;subst e2;rw[hp]at hg;exact ho cur (Option.some.inj hg)
theorem ZZ.blk {α:Type}{enc:α->Value}{w:World}{b n:Nat}{f:Nm->Option α}(h:ZZ enc w b n f): ∃es clock,w.heap[b]? = some (.map es clock):=by
 obtain⟨D,⟨es,clock,h1,_⟩,_⟩:=h;exact⟨es,clock,h1⟩
theorem Y8.blk {α:Type}{enc:α->Value}{w:World}{b r n:Nat}{f:Nm->Option α}{ks:List Nm}{cnt:Nat}(h:Y8 enc w b r n f ks cnt): ∃bb since seen c0,w.heap[r]? = some (.mapIter bb since seen c0):=by
 obtain⟨D,left,⟨es,clock,since,seen,c0,_,_,_,_,h1,_⟩,_⟩:=h;exact⟨_,_,_,_,h1⟩
theorem ZM {w:World}{p:Nat}{c:Y6}{t:TypeId}{fr:Nat×Nat}(h:w.heap[p]? = some (.cells c t fr))(j:Nat)(v:Value):(w.setCell ⟨p,j,none⟩ v).heap[p]? = some (.cells (c.setIfInBounds j v) t fr):=by
 simp only[World.setCell,Array.getElem?_modify,h];simp
theorem Zn (w:World)(p j:Nat)(v:Value):w.grownBy (w.setCell ⟨p,j,none⟩ v) (some p):=
 ⟨rfl,rfl,rfl,by simp[World.setCell],fun k _ hk=>Below.heap_setCell _ _ _ _ (fun e=>hk (by rw[e]))⟩
section
variable {w wr W':World}{bS pB bJ r n:Nat}{f:Nm->Option LN}{kr ks:List Nm}{cnt:Nat}{va:zA}{vn vc:Nat}{J:Nm->Option LN}
theorem Qe.below (h:Qe w wr bS pB bJ r n f kr ks cnt va vn vc J)(hb:Below wr.heap.size wr W'):Qe w W' bS pB bJ r n f kr ks cnt va vn vc J:=
 ⟨h.rng.below hb,h.bel.trans (hb.mono h.bel.size),Z7 hb h.blk,h.jm.below hb,h.jok,Zd h.own hb,h.bJ_ge,h.pB_ge,h.r_ge,h.bS_lt⟩
theorem Qe.came (h:Qe w wr bS pB bJ r n f kr ks cnt va vn vc J){kh km:Int}{y:LN}{cnt':Nat}(hN:Z60 LN.val wr bS r n cnt f kr kh km y W' cnt'):Qe w W' bS pB bJ r n f (kr ++ [(kh,km)]) ks cnt' va vn vc J:=by
 obtain⟨bb,since,seen,c0,hr⟩:=h.rng.blk;have hb1:=h.blk;obtain⟨es,clock,hj⟩:=h.jm.blk;refine⟨hN.range,h.bel.grown hN.grown h.bel.size (fun q hq=>by cases hq;exact h.r_ge),Zc hN.grown hb1 ?_,h.jm.kept hN.grown ?_,h.jok,h.own.kept hN.grown (.inr (Zo h.own hr (by simp)).symm),h.bJ_ge,h.pB_ge,h.r_ge,h.bS_lt⟩
 ·intro e;have e:=Option.some.inj e;subst e;unfold Qh at hb1;rw[hr]at hb1;cases hb1
 ·intro e;have e:=Option.some.inj e;subst e;rw[hr]at hj;cases hj
theorem Qe.settled {k:Nm}{x:LN}(h:Qe w wr bS pB bJ r n f (ks ++ [k]) ks cnt va vn vc J)(hk:f k=some x)(hv:Ui f x=false)(hj:YR f (ks ++ [k]) J):Qe w wr bS pB bJ r n f (ks ++ [k]) (ks ++ [k]) cnt va vn vc J:=
 ⟨h.rng,h.bel,h.blk,h.jm.mono (by simp),hj,by rw[Z2m f ks hk,if_neg (by rw[hv];decide)];exact h.own,h.bJ_ge,h.pB_ge,h.r_ge,h.bS_lt⟩
theorem Qe.judged {k:Nm}{x:LN}(h:Qe w wr bS pB bJ r n f (ks ++ [k]) ks cnt va vn vc J)(hk:f k=some x)(hv:Ui f x=false)(hj:YR f (ks ++ [k]) (YH J (refN x) x))(hm:ZZ LN.val W' bJ (ks.length+1) (YH J (refN x) x))(ht:wr.mapTurned W' bJ):
  Qe w W' bS pB bJ r n f (ks ++ [k]) (ks ++ [k]) cnt va vn vc (YH J (refN x) x):=by
 obtain⟨es,clock,hjb⟩:=h.jm.blk;obtain⟨bb,since,seen,c0,hr⟩:=h.rng.blk;have hb1:=h.blk;have hlt:=h.bS_lt;have hge:=h.bJ_ge;refine⟨h.rng.of_blocks (ht.grown.block _ h.rng.map.lt (fun e=>?_)) (ht.grown.block _ h.rng.lt (fun e=>?_)),h.bel.grown ht.grown h.bel.size (fun q hq=>by cases hq;exact hge),Zc ht.grown hb1 (fun e=>?_),by simpa using hm,hj,by rw[Z2m f ks hk,if_neg (by rw[hv];decide)];exact h.own.kept ht.grown (.inr (Zo h.own hjb (by simp)).symm),hge,h.pB_ge,h.r_ge,hlt⟩
 ·have e:=Option.some.inj e;omega
 ·have e:=Option.some.inj e;subst e;rw[hr]at hjb;cases hjb
 ·have e:=Option.some.inj e;subst e;unfold Qh at hb1;rw[hjb]at hb1;cases hb1
theorem Qe.vacant {k:Nm}{x:LN}{a':zA}{c':Nat}(h:Qe w wr bS pB bJ r n f (ks ++ [k]) ks cnt va vn vc J)(hk:f k=some x)(hx:x.nm=k)(hv:Ui f x=true)
  (ho:W'.ownsRow w.heap.size 45 2 (.slice a' (vn+1) c') (vn+1) (ZC (Uh f ks) ++ [.int .i64 x.n.house,.int .i64 x.n.num])) (hg:wr.grownBy W' (Value.ownBlock (.slice va vn vc))):
  Qe w (W'.setCell ⟨pB,2,none⟩ (.slice a' (vn+1) c')) bS pB bJ r n f (ks ++ [k]) (ks ++ [k]) cnt a' (vn+1) c' J:=by
 obtain⟨es,clock,hjb⟩:=h.jm.blk;obtain⟨es2,clock2,hsb⟩:=h.rng.map.blk;obtain⟨bb,since,seen,c0,hr⟩:=h.rng.blk;have hb1:wr.heap[pB]? = _:=h.blk;have hb2:=Zc hg hb1 (Zo h.own hb1 (by intro cur;simp));have hr2:=Zc hg hr (Zo h.own hr (by simp));have hj2:=Zc hg hjb (Zo h.own hjb (by simp));have hs2:=Zc hg hsb (Zo h.own hsb (by simp));have G:=Zn W' pB 2 (.slice a' (vn+1) c');have nr:some r≠some pB:=fun e=>by rw[Option.some.inj e,hb2]at hr2;cases hr2
 have nj:some bJ≠some pB:=fun e=>by rw[Option.some.inj e,hb2]at hj2;cases hj2
 have ns:some bS≠some pB:=fun e=>by rw[Option.some.inj e,hb2]at hs2;cases hs2
 have B1:=h.bel.grown hg h.bel.size (fun q hq=>(h.own.lt q hq).1);refine⟨h.rng.of_blocks ((Zc G hs2 ns).trans hsb.symm) ((Zc G hr2 nr).trans hr.symm),B1.grown G B1.size (fun q hq=>by cases hq;exact h.pB_ge),?_,(h.jm.of_block ((Zc G hj2 nj).trans hjb.symm)).mono (by simp),h.jok.skip hk (ZcF hv),?_,h.bJ_ge,h.pB_ge,h.r_ge,h.bS_lt⟩
 ·have:=ZM hb2 2 (.slice a' (vn+1) c');unfold Qh;rw[this];rfl
 ·rw[Z2m f ks hk,if_pos hv,Z1S,<-hx];exact ho.kept G (.inr (Zo ho hb2 (by intro cur;simp)).symm)
end
theorem ZdS:(zq.info? 45).map (fun i=>(i.zero,i.size,i.bytes))=some (some (.agg #[.int .i64 0,.int .i64 0]),2,16):=by kernel_rfl
theorem XS (w:World)(base:Nat)(sa:zA)(sn sc:Nat)(xs:List Value)(hown:w.ownsRow base 45 2 (.slice sa sn sc) sn xs)(xa:zA)(m xc:Nat)(ys:List Value)(hrd:Y3 w 2 xa m xc ys)(h1 : ∀u∈ys,u.oneCell'=true)
  (hbytes:(sn+m) * 16<=140737488355328) (hbase:base<=w.heap.size):
  ∃a' c' w',(Builtin.append_ #[75,75] 75 #[.slice sa sn sc,.slice xa m xc]).run zq w = .ok (.slice a' (sn+m) c') w'/\w'.ownsRow base 45 2 (.slice a' (sn+m) c') (sn+m) (xs ++ ys)/\w.grownBy w' (Value.ownBlock (.slice sa sn sc)):=by
 obtain⟨i,hi,hz0,hz1,hz2⟩:=info_parts ZdS;exact Yu w base 75 75 45 i _ 2 16 Tryz.underlying75 hi hz0 hz1 hz2 rfl (by decide) sa sn sc xs hown xa m xc ys hrd h1 (by unfold maxLen;omega) hbytes hbase
theorem Vu (W:World)(x y:Value):Y3 (W.alloc (.cells #[x,y] 45)) 2 (some ⟨W.heap.size,0,none⟩) 1 1 [x,y]:=
 Y3.of_own (World.ownsRow_lit (base:=W.heap.size) (e:=45) (size:=2) W #[x,y] 1 (Nat.le_refl _) (by unfold maxLen;omega) rfl)
theorem Y4 {P:Program}{op:Oper}{a:Act}{w w':World}{K:Act->World->Prop}{Q:Exit->Act->World->Prop}(s x:Operand)(t:TypeId)(ho:op.op = .call { callee := .builtin .append,args := #[s,x],argTypes := #[t,t] })(v1 v2 v:Value)
  (hs:a.eval s=v1) (hx:a.eval x=v2) (hr:(Builtin.append_ #[t,t] op.type #[v1,v2]).run P w = .ok v w') (h:K (a.put op.dst v) w'):op.wp P a w K Q:=by
 unfold Oper.wp;simp[execOp,ho,resolve,invoke,builtin,hs,hx,hr,Result.andThen];exact h
theorem ZT {P:Program}{op:Oper}{a:Act}{w:World}{K:Act->World->Prop}{Q:Exit->Act->World->Prop}(ty:TypeId)(x y:Operand)(ho:op.op = .store ty x y)(p:Nat)
  (c c':Y6) (t:TypeId) (hx:a.eval x = .pointer (some ⟨p,0,none⟩)) (hy:a.eval y = .agg c') (hg:w.heap[p]? = some (.cells c t (0,0))) (hi:(P.info? ty).map (·.size)=some c'.size) (hc:c.size=c'.size) (h1:c'.all (·.oneCell')=true)
  (h : ∀w',w'.heap[p]? = some (.cells c' t (0,0))->w.grownBy w' (some p)->w'.heap.size=w.heap.size->K (a.put op.dst undef) w'):op.wp P a w K Q:=by
 unfold Oper.wp execOp;simp only[ho,hx,hy,Instr.storeAt,Instr.sureAddr,Sem.run_bind,Sem.run_pure,Result.andThen_ok,run_storeVar_row w p t ty c c' hg hi hc h1];exact h _ (Yz w p c c' t _ hg) (YI w p c') (by simp[World.setRow])
def Ze8 (w:World)(bS n:Nat)(f:Nm->Option LN)(e:Ending)(w':World):Prop:=
 ∃p bJ va vn vc ks J,e = .returned (.pointer (some ⟨p,0,none⟩))/\Qh w' p bS bJ va vn vc/\ks.Nodup/\Xt f ks/\ZZ LN.val w' bJ ks.length J/\ks.length<=n/\YR f ks J/\w'.ownsRow w.heap.size 45 2 (.slice va vn vc) vn (ZC (Uh f ks))/\w.heap.size<=p/\w.heap.size<=bJ
theorem Xc (w:World):(zeroValue 47).run zq w = .ok (.agg (Z5 Zh none 0)) w:=by kernel_rfl
section
attribute [local go_sem] ZY YV Jl Jk
theorem ZcT (bS n:Nat)(f:Nm->Option LN)(w:World)(hm:ZZ LN.val w bS n f)(hf:FOk f)(hn:n<=1000000):
  Calls zq 151 #[.map (some bS)] w fun e w'=>Ze8 w bS n f e w'/\Below w.heap.size w w':=by
 have I43:=zH zI;have hmm := @run_makeMap zq;have FO:=zH hf;clear hf;have HNn:=zH hn;clear hn;go_enter Tryz.func151,Tryz.ntmps151;have B1:=(zB w (.map #[] 0)).alloc (by simp) (.cells #[.map (some bS),.map (some w.heap.size),.slice none 0 0] 243);have M1:=hm.below B1;go_wp2_with (first
  |(at_range;refine Xx _ rfl _ 119 47 rfl Tryz.underlying119 bS n rfl M1 ?_;intro w0 cnt0 hrg0 hg0 hs0)
  | fail)
 go_frame;clear hmm;obtain⟨bJ,hbJ⟩:=zX (w.heap.size);obtain⟨pB,hpB⟩:=zX (w.heap.size+1);obtain⟨r,hr⟩:=zX (((w.alloc (.map #[] 0)).alloc (.cells #[.map (some bS),.map (some w.heap.size),.slice none 0 0] 243)).heap.size);have e0:=Zy (w.alloc (.map #[] 0)) (.cells #[.map (some bS),.map (some w.heap.size),.slice none 0 0] 243) (w.heap.size+1) (by simp);have m0:=(ZZ.made (enc:=LN.val) w).below ((Below.refl (w.alloc (.map #[] 0)).heap.size (w.alloc (.map #[] 0))).alloc (Nat.le_refl _) (.cells #[.map (some bS),.map (some w.heap.size),.slice none 0 0] 243));have hbS:bS < w.heap.size:=hm.lt;have S0:=zH (show Qe w w0 bS pB bJ r n f [] [] cnt0 none 0 0 (fun _=>none)from
  ⟨by rw[<-hr.out];exact hrg0,B1.grown hg0 (by simp;omega) (fun q hq=>by cases hq),by unfold Qh;rw[<-hpB.out,<-hbJ.out];exact Zc hg0 e0 (by simp),by rw[<-hbJ.out];exact m0.kept hg0 (by simp),YR.nil f,World.ownsRow_nil _ _ _ _,
   by rw[<-hbJ.out];exact Nat.le_refl _,by rw[<-hpB.out];omega,by rw[<-hr.out];simp;omega,hbS⟩)
 rw[show((w.alloc (.map #[] 0)).alloc (.cells #[.map (some bS),.map (some w.heap.size),.slice none 0 0] 243)).heap.size=r from hr.out];try rw[show(w.alloc (.map #[] 0)).heap.size=pB by rw[<-hpB.out];simp]
 try rw[hpB.out]
 try rw[hbJ.out]
 clear hrg0 hg0 hs0 e0 m0 hm B1 M1 hbS;go_loopw [16] (fun _ wr=>∃(ks:List Nm) (cnt:Nat) (va:zA) (vn vc:Nat) (J:Nm->Option LN),Hid (Qe w wr bS pB bJ r n f ks ks cnt va vn vc J)) (fun _ wr=>wr.rangeLeft bS r)
 case atStart=>exact⟨_,_,_,_,_,_,S0⟩
 case round=>
  clear S0;obtain⟨ks,cnt,va,vn,vc,J,HS⟩:=hrel;go_upto_region 4 with (first
   |(at_next;refine XV wr rfl _ rfl bS r n cnt ks rfl HS.out.rng ?_ ?_)
   | fail)
  ·intro hall;have HALL:=zH hall;clear hall;go_wp2;go_ret;exact⟨⟨pB,bJ,va,vn,vc,ks,J,rfl,HS.out.blk,HS.out.rng.nodup,HALL.out,HS.out.jm,by have:=HS.out.rng.count;omega,HS.out.jok,HS.out.own,HS.out.pB_ge,HS.out.bJ_ge⟩,HS.out.bel⟩
  ·intro kh km y w1 cnt1 HN hen;have HF:=zH HN.out.at_;have HOk:=zH (FO.out _ _ HN.out.at_);have S1:=zH (HS.out.came HN.out);have HM:=zH (show wr.rangeLeft bS r=cnt from HS.out.rng.left_eq);have HLT:=zH HN.out.lt;have HRok:=zH (show VI (y.n.refH,y.n.refN)from⟨HOk.out.1.refH,HOk.out.1.refN⟩);clear HS HN;unfold LN.val at hen;go_upto_region 5 with (first
    |(refine zP w1 w1.heap.size (Z5 y.n y.sa y.sc) ?_))
   clear hen;have hbt:Below w1.heap.size w1 (w1.alloc (.cells (Z5 y.n y.sa y.sc) 47)):=zB _ _;have CS:=zH (S1.out.below hbt);have CT:=zH (Za w1 (.cells (Z5 y.n y.sa y.sc) 47));obtain⟨p5,hp5⟩:=zX (w1.heap.size);rw[hp5.out]at CT ⊢;generalize w1.alloc (.cells (Z5 y.n y.sa y.sc) 47)=wt at *;clear hbt S1;go_wp2_with (first
    |(refine zL p5 CT.out ?_))
   refine(Z27 y.n y.sa y.sc _).mono ?_;rintro e w2 ⟨rfl,b2⟩;replace CS:=zH (CS.out.below b2);replace CT:=zH (Z7 b2 CT.out);clear b2;cases hd:J8 y.n
   ·have HD:=zH hd;clear hd;have c16:=Z6 CT.out 16 (.int .i64 y.n.refH) rfl;have c17:=Z6 CT.out 17 (.int .i64 y.n.refN) rfl;cases hfr:f (y.n.refH,y.n.refN)with
    | none=>
     have HV:=zH (show Ui f y=true by simp[Ui,HD.out,refN,hfr]);have hget:(Instr.lookup 119 (.map (some bS)) (.agg #[.int .i64 y.n.refH,.int .i64 y.n.refN]) true).run zq w2 = .ok (.tuple #[.agg (Z5 Zh none 0),.bool false]) w2:=by
      have:=XR (t:=119) CS.out.rng.map Tryz.underlying119 (Xc w2) y.n.refH y.n.refN HRok.out;rw[hfr]at this;exact this
     clear hfr;go_upto_region 8 with (first
      |(refine zP w2 w2.heap.size (Z5 Zh none 0) ?_))
     have hbt:Below w2.heap.size w2 (w2.alloc (.cells (Z5 Zh none 0) 47)):=zB _ _;replace CS:=zH (CS.out.below hbt);replace CT:=zH (Z7 hbt CT.out);obtain⟨p6,hp6⟩:=zX (w2.heap.size);rw[hp6.out];generalize w2.alloc (.cells (Z5 Zh none 0) 47)=wz at *;clear hbt hget c16 c17;refine zp CT.out fun hh=>?_;replace CS:=zH (CS.out.below ((zd wz)));replace CT:=zH (show wz.drew.heap[p5]? = _ from CT.out);refine zw 0 rfl pB 0 ?_;refine zw 1 rfl pB 0 ?_;refine zw 2 rfl pB 0 ?_;refine zw 3 rfl pB 2 ?_;refine zT 5 rfl (.agg (Z5 y.n y.sa y.sc)) (zY p5 fun W h=>h) ?_;refine zM [4,6] rfl (fun K hK=>?_) ?_
     focus
      have hc:=Z6 CS.out.blk 2 (.slice va vn vc) rfl;go_simp;clear hc;refine zK hK CT.out fun hh=>?_;clear hK K;refine zR 6 rfl fun K hK=>?_;go_simp;go_at_call 167;refine(Yj y.n y.sa y.sc _).mono ?_;rintro e v1 ⟨rfl,b1⟩;replace CS:=zH (CS.out.below b1);replace CT:=zH (Z7 b1 CT.out);clear b1;dsimp only;refine zK hK CT.out fun hh=>?_;clear hK K;refine zR 7 rfl fun K hK=>?_;go_simp;have CR:=zH (Vu v1 (.int .i64 y.n.house) (.int .i64 y.n.num));replace CS:=zH (CS.out.below (zB v1 (.cells #[.int .i64 y.n.house,.int .i64 y.n.num] 45)));replace CT:=zH (Z9 v1 (.cells #[.int .i64 y.n.house,.int .i64 y.n.num] 45) _ _ CT.out)
     rotate_left
     focus
      refine zn fun K hK=>?_;go_simp;go_at_call 167;refine(Yj y.n y.sa y.sc _).mono ?_;rintro e v1 ⟨rfl,b1⟩;replace CS:=zH (CS.out.below b1);replace CT:=zH (Z7 b1 CT.out);clear b1;dsimp only;refine zK hK CT.out fun hh=>?_;clear hK K;refine zM [4,7] rfl (fun K hK=>?_) ?_
      ·have hc:=Z6 CS.out.blk 2 (.slice va vn vc) rfl;go_simp;clear hc;refine zK hK CT.out fun hh=>?_;clear hK K;refine zR 7 rfl fun K hK=>?_;go_simp;have CR:=zH (Vu v1 (.int .i64 y.n.house) (.int .i64 y.n.num));replace CS:=zH (CS.out.below (zB v1 (.cells #[.int .i64 y.n.house,.int .i64 y.n.num] 45)));replace CT:=zH (Z9 v1 (.cells #[.int .i64 y.n.house,.int .i64 y.n.num] 45) _ _ CT.out);refine zK hK CT.out fun hh=>?_;clear hK K;refine zR 8 rfl fun K hK=>?_;obtain⟨a',c',v3,hrun,ho,hg⟩:=XS _ w.heap.size va vn vc _ CS.out.own _ 1 1 _ CR.out (by simp[Value.oneCell']) (by have h1:=CS.out.own.1;have h2:=CS.out.rng.count;have h3:=HNn.out;have h4:(Uh f ks).length<=ks.length:=List.length_filter_le _ _;rw[X3]at h1;simp at h2;omega) CS.out.bel.size;have HO3:=zH ho;have HG3:=zH hg;have h5:=Zo CS.out.own CT.out (by intro cur;simp);have hb1:_=some _:=CS.out.blk;have CB3:=zH (Zc hg hb1 (Zo CS.out.own hb1 (by intro cur;simp)));replace CT:=zH (Zc hg CT.out h5);clear ho hg h5 hb1;rw[if_pos (by kernel_rfl)];refine Y4 _ _ _ rfl _ _ _ rfl rfl hrun ?_;clear hrun;refine zK hK CT.out fun hh=>?_;clear hK K;refine zw 9 rfl pB 0 ?_;refine zw 10 rfl pB 2 ?_;refine zR 11 rfl fun K hK=>?_;have hc:=Z6 CB3.out 2 (.slice va vn vc) rfl;have hfz:=Zq CB3.out 2;have S9:=zH (CS.out.vacant HF.out HOk.out.2 HV.out HO3.out HG3.out);have h5:some p5≠some pB:=fun e=>by
        have h1:=CT.out;rw[Option.some.inj e,CB3.out]at h1;cases h1
       replace CT:=zH (Zc (Zn v3 pB 2 (.slice a' (vn+1) c')) CT.out h5);go_simp;refine zK hK CT.out fun hh=>?_;clear hK K;refine zE ?_;go_wp2;go_roundw
       case rel=>exact⟨_,_,_,_,_,_,S9⟩
       case measure=>rw[S9.out.rng.left_eq,HM.out];exact HLT.out
      refine zn fun K hK=>?_;go_simp;have CR:=zH (Vu v1 (.int .i64 y.n.house) (.int .i64 y.n.num));replace CS:=zH (CS.out.below (zB v1 (.cells #[.int .i64 y.n.house,.int .i64 y.n.num] 45)));replace CT:=zH (Z9 v1 (.cells #[.int .i64 y.n.house,.int .i64 y.n.num] 45) _ _ CT.out);refine zK hK CT.out fun hh=>?_;clear hK K;refine zR 4 rfl fun K hK=>?_;have hc:=Z6 CS.out.blk 2 (.slice va vn vc) rfl;go_simp;clear hc
     all_goals
      refine zK hK CT.out fun hh=>?_;clear hK K;refine zR 8 rfl fun K hK=>?_;obtain⟨a',c',v3,hrun,ho,hg⟩:=XS _ w.heap.size va vn vc _ CS.out.own _ 1 1 _ CR.out (by simp[Value.oneCell']) (by have h1:=CS.out.own.1;have h2:=CS.out.rng.count;have h3:=HNn.out;have h4:(Uh f ks).length<=ks.length:=List.length_filter_le _ _;rw[X3]at h1;simp at h2;omega) CS.out.bel.size;have HO3:=zH ho;have HG3:=zH hg;have h5:=Zo CS.out.own CT.out (by intro cur;simp);have hb1:_=some _:=CS.out.blk;have CB3:=zH (Zc hg hb1 (Zo CS.out.own hb1 (by intro cur;simp)));replace CT:=zH (Zc hg CT.out h5);clear ho hg h5 hb1;rw[if_pos (by kernel_rfl)];refine Y4 _ _ _ rfl _ _ _ rfl rfl hrun ?_;clear hrun;refine zK hK CT.out fun hh=>?_;clear hK K;refine zw 9 rfl pB 0 ?_;refine zw 10 rfl pB 2 ?_;refine zR 11 rfl fun K hK=>?_;have hc:=Z6 CB3.out 2 (.slice va vn vc) rfl;have hfz:=Zq CB3.out 2;have S9:=zH (CS.out.vacant HF.out HOk.out.2 HV.out HO3.out HG3.out);have h5:some p5≠some pB:=fun e=>by
       have h1:=CT.out;rw[Option.some.inj e,CB3.out]at h1;cases h1
      replace CT:=zH (Zc (Zn v3 pB 2 (.slice a' (vn+1) c')) CT.out h5);go_simp;refine zK hK CT.out fun hh=>?_;clear hK K;refine zE ?_;go_wp2;go_roundw
      case rel=>exact⟨_,_,_,_,_,_,S9⟩
      case measure=>rw[S9.out.rng.left_eq,HM.out];exact HLT.out
    | some q=>
     have HFR:=zH hfr;have hget:(Instr.lookup 119 (.map (some bS)) (.agg #[.int .i64 y.n.refH,.int .i64 y.n.refN]) true).run zq w2 = .ok (.tuple #[.agg (Z5 q.n q.sa q.sc),.bool true]) w2:=by
      have:=XR (t:=119) CS.out.rng.map Tryz.underlying119 (Xc w2) y.n.refH y.n.refN HRok.out;rw[hfr]at this;exact this
     clear hfr;go_upto_region 7 with (first
      |(refine zP w2 w2.heap.size (Z5 q.n q.sa q.sc) ?_))
     have hbt:Below w2.heap.size w2 (w2.alloc (.cells (Z5 q.n q.sa q.sc) 47)):=zB _ _;replace CS:=zH (CS.out.below hbt);replace CT:=zH (Z7 hbt CT.out);have CQ:=zH (Za w2 (.cells (Z5 q.n q.sa q.sc) 47));obtain⟨p6,hp6⟩:=zX (w2.heap.size);rw[hp6.out]at CQ ⊢;generalize w2.alloc (.cells (Z5 q.n q.sa q.sc) 47)=wq at *;clear hbt hget c16 c17;go_wp2_with (first
      |(refine zG p6 CQ.out ?_))
     refine(Z27 q.n q.sa q.sc _).mono ?_;rintro e w3 ⟨rfl,b3⟩;replace CS:=zH (CS.out.below b3);replace CT:=zH (Z7 b3 CT.out);replace CQ:=zH (Z7 b3 CQ.out);clear b3;cases hdq:J8 q.n
     ·have HV:=zH (show Ui f y=true by simp[Ui,HD.out,refN,HFR.out,hdq]);clear hdq;go_upto_region 8 with fail;refine zp CT.out fun hh=>?_;replace CS:=zH (CS.out.below ((zd w3)));replace CT:=zH (show w3.drew.heap[p5]? = _ from CT.out);refine zw 0 rfl pB 0 ?_;refine zw 1 rfl pB 0 ?_;refine zw 2 rfl pB 0 ?_;refine zw 3 rfl pB 2 ?_;refine zT 5 rfl (.agg (Z5 y.n y.sa y.sc)) (zY p5 fun W h=>h) ?_;refine zM [4,6] rfl (fun K hK=>?_) ?_
      focus
       have hc:=Z6 CS.out.blk 2 (.slice va vn vc) rfl;go_simp;clear hc;refine zK hK CT.out fun hh=>?_;clear hK K;refine zR 6 rfl fun K hK=>?_;go_simp;go_at_call 167;refine(Yj y.n y.sa y.sc _).mono ?_;rintro e v1 ⟨rfl,b1⟩;replace CS:=zH (CS.out.below b1);replace CT:=zH (Z7 b1 CT.out);clear b1;dsimp only;refine zK hK CT.out fun hh=>?_;clear hK K;refine zR 7 rfl fun K hK=>?_;go_simp;have CR:=zH (Vu v1 (.int .i64 y.n.house) (.int .i64 y.n.num));replace CS:=zH (CS.out.below (zB v1 (.cells #[.int .i64 y.n.house,.int .i64 y.n.num] 45)));replace CT:=zH (Z9 v1 (.cells #[.int .i64 y.n.house,.int .i64 y.n.num] 45) _ _ CT.out)
      rotate_left
      focus
       refine zn fun K hK=>?_;go_simp;go_at_call 167;refine(Yj y.n y.sa y.sc _).mono ?_;rintro e v1 ⟨rfl,b1⟩;replace CS:=zH (CS.out.below b1);replace CT:=zH (Z7 b1 CT.out);clear b1;dsimp only;refine zK hK CT.out fun hh=>?_;clear hK K;refine zM [4,7] rfl (fun K hK=>?_) ?_
       ·have hc:=Z6 CS.out.blk 2 (.slice va vn vc) rfl;go_simp;clear hc;refine zK hK CT.out fun hh=>?_;clear hK K;refine zR 7 rfl fun K hK=>?_;go_simp;have CR:=zH (Vu v1 (.int .i64 y.n.house) (.int .i64 y.n.num));replace CS:=zH (CS.out.below (zB v1 (.cells #[.int .i64 y.n.house,.int .i64 y.n.num] 45)));replace CT:=zH (Z9 v1 (.cells #[.int .i64 y.n.house,.int .i64 y.n.num] 45) _ _ CT.out);refine zK hK CT.out fun hh=>?_;clear hK K;refine zR 8 rfl fun K hK=>?_;obtain⟨a',c',v3,hrun,ho,hg⟩:=XS _ w.heap.size va vn vc _ CS.out.own _ 1 1 _ CR.out (by simp[Value.oneCell']) (by have h1:=CS.out.own.1;have h2:=CS.out.rng.count;have h3:=HNn.out;have h4:(Uh f ks).length<=ks.length:=List.length_filter_le _ _;rw[X3]at h1;simp at h2;omega) CS.out.bel.size;have HO3:=zH ho;have HG3:=zH hg;have h5:=Zo CS.out.own CT.out (by intro cur;simp);have hb1:_=some _:=CS.out.blk;have CB3:=zH (Zc hg hb1 (Zo CS.out.own hb1 (by intro cur;simp)));replace CT:=zH (Zc hg CT.out h5);clear ho hg h5 hb1;rw[if_pos (by kernel_rfl)];refine Y4 _ _ _ rfl _ _ _ rfl rfl hrun ?_;clear hrun;refine zK hK CT.out fun hh=>?_;clear hK K;refine zw 9 rfl pB 0 ?_;refine zw 10 rfl pB 2 ?_;refine zR 11 rfl fun K hK=>?_;have hc:=Z6 CB3.out 2 (.slice va vn vc) rfl;have hfz:=Zq CB3.out 2;have S9:=zH (CS.out.vacant HF.out HOk.out.2 HV.out HO3.out HG3.out);have h5:some p5≠some pB:=fun e=>by
         have h1:=CT.out;rw[Option.some.inj e,CB3.out]at h1;cases h1
        replace CT:=zH (Zc (Zn v3 pB 2 (.slice a' (vn+1) c')) CT.out h5);go_simp;refine zK hK CT.out fun hh=>?_;clear hK K;refine zE ?_;go_wp2;go_roundw
        case rel=>exact⟨_,_,_,_,_,_,S9⟩
        case measure=>rw[S9.out.rng.left_eq,HM.out];exact HLT.out
       refine zn fun K hK=>?_;go_simp;have CR:=zH (Vu v1 (.int .i64 y.n.house) (.int .i64 y.n.num));replace CS:=zH (CS.out.below (zB v1 (.cells #[.int .i64 y.n.house,.int .i64 y.n.num] 45)));replace CT:=zH (Z9 v1 (.cells #[.int .i64 y.n.house,.int .i64 y.n.num] 45) _ _ CT.out);refine zK hK CT.out fun hh=>?_;clear hK K;refine zR 4 rfl fun K hK=>?_;have hc:=Z6 CS.out.blk 2 (.slice va vn vc) rfl;go_simp;clear hc
      all_goals
       refine zK hK CT.out fun hh=>?_;clear hK K;refine zR 8 rfl fun K hK=>?_;obtain⟨a',c',v3,hrun,ho,hg⟩:=XS _ w.heap.size va vn vc _ CS.out.own _ 1 1 _ CR.out (by simp[Value.oneCell']) (by have h1:=CS.out.own.1;have h2:=CS.out.rng.count;have h3:=HNn.out;have h4:(Uh f ks).length<=ks.length:=List.length_filter_le _ _;rw[X3]at h1;simp at h2;omega) CS.out.bel.size;have HO3:=zH ho;have HG3:=zH hg;have h5:=Zo CS.out.own CT.out (by intro cur;simp);have hb1:_=some _:=CS.out.blk;have CB3:=zH (Zc hg hb1 (Zo CS.out.own hb1 (by intro cur;simp)));replace CT:=zH (Zc hg CT.out h5);clear ho hg h5 hb1;rw[if_pos (by kernel_rfl)];refine Y4 _ _ _ rfl _ _ _ rfl rfl hrun ?_;clear hrun;refine zK hK CT.out fun hh=>?_;clear hK K;refine zw 9 rfl pB 0 ?_;refine zw 10 rfl pB 2 ?_;refine zR 11 rfl fun K hK=>?_;have hc:=Z6 CB3.out 2 (.slice va vn vc) rfl;have hfz:=Zq CB3.out 2;have S9:=zH (CS.out.vacant HF.out HOk.out.2 HV.out HO3.out HG3.out);have h5:some p5≠some pB:=fun e=>by
        have h1:=CT.out;rw[Option.some.inj e,CB3.out]at h1;cases h1
       replace CT:=zH (Zc (Zn v3 pB 2 (.slice a' (vn+1) c')) CT.out h5);go_simp;refine zK hK CT.out fun hh=>?_;clear hK K;refine zE ?_;go_wp2;go_roundw
       case rel=>exact⟨_,_,_,_,_,_,S9⟩
       case measure=>rw[S9.out.rng.left_eq,HM.out];exact HLT.out
     ·have HDQ:=zH hdq;clear hdq;go_wp2_with (first
       |(refine zG p5 CT.out ?_)
       |(refine zG p6 CQ.out ?_))
      refine(Z8M y.n y.sa y.sc _ q.n q.sa q.sc).mono ?_;rintro e w4 ⟨rfl,b4⟩;replace CS:=zH (CS.out.below b4);replace CT:=zH (Z7 b4 CT.out);clear b4 CQ;cases hjq:Jz y.n q.n
      ·have HV:=zH (show Ui f y=true by simp[Ui,HD.out,refN,HFR.out,HDQ.out,hjq]);clear hjq;go_upto_region 8 with fail;refine zp CT.out fun hh=>?_;replace CS:=zH (CS.out.below ((zd w4)));replace CT:=zH (show w4.drew.heap[p5]? = _ from CT.out);refine zw 0 rfl pB 0 ?_;refine zw 1 rfl pB 0 ?_;refine zw 2 rfl pB 0 ?_;refine zw 3 rfl pB 2 ?_;refine zT 5 rfl (.agg (Z5 y.n y.sa y.sc)) (zY p5 fun W h=>h) ?_;refine zM [4,6] rfl (fun K hK=>?_) ?_
       focus
        have hc:=Z6 CS.out.blk 2 (.slice va vn vc) rfl;go_simp;clear hc;refine zK hK CT.out fun hh=>?_;clear hK K;refine zR 6 rfl fun K hK=>?_;go_simp;go_at_call 167;refine(Yj y.n y.sa y.sc _).mono ?_;rintro e v1 ⟨rfl,b1⟩;replace CS:=zH (CS.out.below b1);replace CT:=zH (Z7 b1 CT.out);clear b1;dsimp only;refine zK hK CT.out fun hh=>?_;clear hK K;refine zR 7 rfl fun K hK=>?_;go_simp;have CR:=zH (Vu v1 (.int .i64 y.n.house) (.int .i64 y.n.num));replace CS:=zH (CS.out.below (zB v1 (.cells #[.int .i64 y.n.house,.int .i64 y.n.num] 45)));replace CT:=zH (Z9 v1 (.cells #[.int .i64 y.n.house,.int .i64 y.n.num] 45) _ _ CT.out)
       rotate_left
       focus
        refine zn fun K hK=>?_;go_simp;go_at_call 167;refine(Yj y.n y.sa y.sc _).mono ?_;rintro e v1 ⟨rfl,b1⟩;replace CS:=zH (CS.out.below b1);replace CT:=zH (Z7 b1 CT.out);clear b1;dsimp only;refine zK hK CT.out fun hh=>?_;clear hK K;refine zM [4,7] rfl (fun K hK=>?_) ?_
        ·have hc:=Z6 CS.out.blk 2 (.slice va vn vc) rfl;go_simp;clear hc;refine zK hK CT.out fun hh=>?_;clear hK K;refine zR 7 rfl fun K hK=>?_;go_simp;have CR:=zH (Vu v1 (.int .i64 y.n.house) (.int .i64 y.n.num));replace CS:=zH (CS.out.below (zB v1 (.cells #[.int .i64 y.n.house,.int .i64 y.n.num] 45)));replace CT:=zH (Z9 v1 (.cells #[.int .i64 y.n.house,.int .i64 y.n.num] 45) _ _ CT.out);refine zK hK CT.out fun hh=>?_;clear hK K;refine zR 8 rfl fun K hK=>?_;obtain⟨a',c',v3,hrun,ho,hg⟩:=XS _ w.heap.size va vn vc _ CS.out.own _ 1 1 _ CR.out (by simp[Value.oneCell']) (by have h1:=CS.out.own.1;have h2:=CS.out.rng.count;have h3:=HNn.out;have h4:(Uh f ks).length<=ks.length:=List.length_filter_le _ _;rw[X3]at h1;simp at h2;omega) CS.out.bel.size;have HO3:=zH ho;have HG3:=zH hg;have h5:=Zo CS.out.own CT.out (by intro cur;simp);have hb1:_=some _:=CS.out.blk;have CB3:=zH (Zc hg hb1 (Zo CS.out.own hb1 (by intro cur;simp)));replace CT:=zH (Zc hg CT.out h5);clear ho hg h5 hb1;rw[if_pos (by kernel_rfl)];refine Y4 _ _ _ rfl _ _ _ rfl rfl hrun ?_;clear hrun;refine zK hK CT.out fun hh=>?_;clear hK K;refine zw 9 rfl pB 0 ?_;refine zw 10 rfl pB 2 ?_;refine zR 11 rfl fun K hK=>?_;have hc:=Z6 CB3.out 2 (.slice va vn vc) rfl;have hfz:=Zq CB3.out 2;have S9:=zH (CS.out.vacant HF.out HOk.out.2 HV.out HO3.out HG3.out);have h5:some p5≠some pB:=fun e=>by
          have h1:=CT.out;rw[Option.some.inj e,CB3.out]at h1;cases h1
         replace CT:=zH (Zc (Zn v3 pB 2 (.slice a' (vn+1) c')) CT.out h5);go_simp;refine zK hK CT.out fun hh=>?_;clear hK K;refine zE ?_;go_wp2;go_roundw
         case rel=>exact⟨_,_,_,_,_,_,S9⟩
         case measure=>rw[S9.out.rng.left_eq,HM.out];exact HLT.out
        refine zn fun K hK=>?_;go_simp;have CR:=zH (Vu v1 (.int .i64 y.n.house) (.int .i64 y.n.num));replace CS:=zH (CS.out.below (zB v1 (.cells #[.int .i64 y.n.house,.int .i64 y.n.num] 45)));replace CT:=zH (Z9 v1 (.cells #[.int .i64 y.n.house,.int .i64 y.n.num] 45) _ _ CT.out);refine zK hK CT.out fun hh=>?_;clear hK K;refine zR 4 rfl fun K hK=>?_;have hc:=Z6 CS.out.blk 2 (.slice va vn vc) rfl;go_simp;clear hc
       all_goals
        refine zK hK CT.out fun hh=>?_;clear hK K;refine zR 8 rfl fun K hK=>?_;obtain⟨a',c',v3,hrun,ho,hg⟩:=XS _ w.heap.size va vn vc _ CS.out.own _ 1 1 _ CR.out (by simp[Value.oneCell']) (by have h1:=CS.out.own.1;have h2:=CS.out.rng.count;have h3:=HNn.out;have h4:(Uh f ks).length<=ks.length:=List.length_filter_le _ _;rw[X3]at h1;simp at h2;omega) CS.out.bel.size;have HO3:=zH ho;have HG3:=zH hg;have h5:=Zo CS.out.own CT.out (by intro cur;simp);have hb1:_=some _:=CS.out.blk;have CB3:=zH (Zc hg hb1 (Zo CS.out.own hb1 (by intro cur;simp)));replace CT:=zH (Zc hg CT.out h5);clear ho hg h5 hb1;rw[if_pos (by kernel_rfl)];refine Y4 _ _ _ rfl _ _ _ rfl rfl hrun ?_;clear hrun;refine zK hK CT.out fun hh=>?_;clear hK K;refine zw 9 rfl pB 0 ?_;refine zw 10 rfl pB 2 ?_;refine zR 11 rfl fun K hK=>?_;have hc:=Z6 CB3.out 2 (.slice va vn vc) rfl;have hfz:=Zq CB3.out 2;have S9:=zH (CS.out.vacant HF.out HOk.out.2 HV.out HO3.out HG3.out);have h5:some p5≠some pB:=fun e=>by
         have h1:=CT.out;rw[Option.some.inj e,CB3.out]at h1;cases h1
        replace CT:=zH (Zc (Zn v3 pB 2 (.slice a' (vn+1) c')) CT.out h5);go_simp;refine zK hK CT.out fun hh=>?_;clear hK K;refine zE ?_;go_wp2;go_roundw
        case rel=>exact⟨_,_,_,_,_,_,S9⟩
        case measure=>rw[S9.out.rng.left_eq,HM.out];exact HLT.out
      ·have HV:=zH (show Ui f y=false by simp[Ui,HD.out,refN,HFR.out,HDQ.out,hjq]);have HC:=zH (Z6L HD.out HV.out);clear hjq HFR HDQ;cases hJ:J (y.n.refH,y.n.refN)with
       | none=>
        have HJok:=zH (show YR f (ks ++ [(kh,km)]) (YH J (refN y) y)from CS.out.jok.put HF.out HC.out (fun z hz=>by rw[show J (refN y)=none from hJ]at hz;cases hz));have HJ:=zH hJ;clear hJ;go_upto_region 9 with fail;refine zD (fun w'=>Qe w w' bS pB bJ r n f (ks ++ [(kh,km)]) ks cnt1 va vn vc J/\w'.heap[p5]? = some (.cells (Z5 y.n y.sa y.sc) 47)) (show Qe w w4.drew bS pB bJ r n f (ks ++ [(kh,km)]) ks cnt1 va vn vc J/\w4.drew.heap[p5]? = _ from⟨CS.out.below ((Below.refl w4.heap.size w4).drew),CT.out⟩) fun hh=>?_;refine zw 0 rfl pB 0 ?_;refine zw 1 rfl pB 0 ?_;refine zw 2 rfl pB 1 ?_;refine zS 3 rfl (.map (some bJ)) (fun W h=>by have hc:=Z6 h.1.blk 1 (.map (some bJ)) rfl;go_simp) ?_;refine zw 4 rfl p5 16 ?_;refine zS 5 rfl (.agg #[.int .i64 y.n.refH,.int .i64 y.n.refN]) (fun W h=>by have h0:=Z6 h.2 16 (.int .i64 y.n.refH) rfl;have h1:=Z6 h.2 17 (.int .i64 y.n.refN) rfl;go_simp) ?_;refine zS 6 rfl (.tuple #[.agg (Z5 Zh none 0),.bool false]) (fun W h=>by have hg:(Instr.lookup 106 (.map (some bJ)) (.agg #[.int .i64 y.n.refH,.int .i64 y.n.refN]) true).run zq W = .ok (.tuple #[.agg (Z5 Zh none 0),.bool false]) W:=(by have h2:=XR (t:=106) h.1.jm Tryz.underlying106 (Xc W) y.n.refH y.n.refN HRok.out;rw[HJ.out]at h2;exact h2);go_simp) ?_;refine zW 7 rfl (.tuple #[.agg (Z5 Zh none 0),.bool false]) ?_;refine zW 8 rfl (.agg (Z5 Zh none 0)) ?_;refine zW 9 rfl (.bool false) ?_;refine zR 10 rfl fun K hK=>?_;go_simp;refine zK hK ⟨hh.1.below (zB _ _),Z7 (zB _ _) hh.2⟩ fun hh=>?_;clear hK K;refine zR 11 rfl fun K hK=>?_;rw[if_pos (by kernel_rfl)];refine ZT 47 _ _ rfl w4.drew.heap.size _ (Z5 Zh none 0) 47 rfl rfl (Za _ _) (I43.out _ _ _) rfl (Zm _ _ _) ?_;intro w5 h8 hg8 hs8;have b8:Below w4.drew.heap.size w4.drew w5:=((Below.refl w4.drew.heap.size w4.drew).alloc (Nat.le_refl _) _).grown hg8 (by simp) (fun q hq=>by cases hq;exact Nat.le_refl _);have S5:=CS.out.below (Below.trans ((zd w4)) b8);have T5:w5.heap[p5]? = _:=Z7 (Below.trans ((zd w4)) b8) CT.out
        replace CS:=zH S5;replace CT:=zH T5;have C8:=zH h8;clear S5 T5 b8 h8 hg8 hs8;simp only[Act.put,lq0,lq1,lq2];refine zK hK ⟨CS.out,CT.out⟩ fun hh=>?_;clear hK K;refine zW 12 rfl (.bool false) ?_;refine zE ?_;obtain⟨p8,hp8⟩:=zX (w4.heap.size);have C8b:w5.heap[w4.heap.size]? = some (.cells (Z5 Zh none 0) 47):=C8.out;rw[hp8.out]at C8b;replace C8:=zH C8b;clear C8b;rw[hp8.out];go_upto_region 11 with fail;refine zD (fun w'=>Qh w' pB bS bJ va vn vc/\w'.heap[p5]? = some (.cells (Z5 y.n y.sa y.sc) 47)) (show Qh w5.drew pB bS bJ va vn vc/\w5.drew.heap[p5]? = _ from⟨CS.out.blk,CT.out⟩) fun hh=>?_;replace CS:=zH (CS.out.below ((zd w5)));replace CT:=zH (show w5.drew.heap[p5]? = _ from CT.out);refine zw 0 rfl pB 0 ?_;refine zw 1 rfl pB 0 ?_;refine zw 2 rfl pB 1 ?_;refine zS 3 rfl (.map (some bJ)) (fun W h=>by have hc:=Z6 h.1 1 (.map (some bJ)) rfl;go_simp) ?_;refine zw 4 rfl p5 16 ?_;refine zS 5 rfl (.agg #[.int .i64 y.n.refH,.int .i64 y.n.refN]) (fun W h=>by have h0:=Z6 h.2 16 (.int .i64 y.n.refH) rfl;have h1:=Z6 h.2 17 (.int .i64 y.n.refN) rfl;go_simp) ?_;refine zT 6 rfl (.agg (Z5 y.n y.sa y.sc)) (zY p5 fun W h=>h.2) ?_;refine zR 7 rfl fun K hK=>?_;obtain⟨v9,hrun,hm9,ht9⟩:=Ql (t:=106) CS.out.jm (by have h2:=CS.out.rng.count;have h3:=HNn.out;simp at h2;unfold maxLen;omega) Tryz.underlying106 y.n.refH y.n.refN HRok.out y;have S9:=zH (CS.out.judged HF.out HV.out HJok.out hm9 ht9);have hpj:some p5≠some bJ:=fun e=>by
         obtain⟨es,clock,h1⟩:=CS.out.jm.blk;rw[<-Option.some.inj e,CT.out]at h1;cases h1
        have T9:=zH (Zc ht9.grown CT.out hpj);clear hm9 ht9 hpj;unfold LN.val at hrun;go_simp;refine zK hK ⟨S9.out.blk,T9.out⟩ fun hh=>?_;clear hK K;refine zE ?_;go_wp2;go_roundw
        case rel=>exact⟨_,_,_,_,_,_,S9⟩
        case measure=>rw[S9.out.rng.left_eq,HM.out];exact HLT.out
       | some z=>
        have HJ:=zH hJ;clear hJ;go_upto_region 9 with fail;refine zD (fun w'=>Qe w w' bS pB bJ r n f (ks ++ [(kh,km)]) ks cnt1 va vn vc J/\w'.heap[p5]? = some (.cells (Z5 y.n y.sa y.sc) 47)) (show Qe w w4.drew bS pB bJ r n f (ks ++ [(kh,km)]) ks cnt1 va vn vc J/\w4.drew.heap[p5]? = _ from⟨CS.out.below ((Below.refl w4.heap.size w4).drew),CT.out⟩) fun hh=>?_;refine zw 0 rfl pB 0 ?_;refine zw 1 rfl pB 0 ?_;refine zw 2 rfl pB 1 ?_;refine zS 3 rfl (.map (some bJ)) (fun W h=>by have hc:=Z6 h.1.blk 1 (.map (some bJ)) rfl;go_simp) ?_;refine zw 4 rfl p5 16 ?_;refine zS 5 rfl (.agg #[.int .i64 y.n.refH,.int .i64 y.n.refN]) (fun W h=>by have h0:=Z6 h.2 16 (.int .i64 y.n.refH) rfl;have h1:=Z6 h.2 17 (.int .i64 y.n.refN) rfl;go_simp) ?_;refine zS 6 rfl (.tuple #[.agg (Z5 z.n z.sa z.sc),.bool true]) (fun W h=>by have hg:(Instr.lookup 106 (.map (some bJ)) (.agg #[.int .i64 y.n.refH,.int .i64 y.n.refN]) true).run zq W = .ok (.tuple #[.agg (Z5 z.n z.sa z.sc),.bool true]) W:=(by have h2:=XR (t:=106) h.1.jm Tryz.underlying106 (Xc W) y.n.refH y.n.refN HRok.out;rw[HJ.out]at h2;exact h2);go_simp) ?_;refine zW 7 rfl (.tuple #[.agg (Z5 z.n z.sa z.sc),.bool true]) ?_;refine zW 8 rfl (.agg (Z5 z.n z.sa z.sc)) ?_;refine zW 9 rfl (.bool true) ?_;refine zR 10 rfl fun K hK=>?_;go_simp;refine zK hK ⟨hh.1.below (zB _ _),Z7 (zB _ _) hh.2⟩ fun hh=>?_;clear hK K;refine zR 11 rfl fun K hK=>?_;rw[if_pos (by kernel_rfl)];refine ZT 47 _ _ rfl w4.drew.heap.size _ (Z5 z.n z.sa z.sc) 47 rfl rfl (Za _ _) (I43.out _ _ _) rfl (Zm _ _ _) ?_;intro w5 h8 hg8 hs8;have b8:Below w4.drew.heap.size w4.drew w5:=((Below.refl w4.drew.heap.size w4.drew).alloc (Nat.le_refl _) _).grown hg8 (by simp) (fun q hq=>by cases hq;exact Nat.le_refl _);have S5:=CS.out.below (Below.trans ((zd w4)) b8);have T5:w5.heap[p5]? = _:=Z7 (Below.trans ((zd w4)) b8) CT.out;replace CS:=zH S5;replace CT:=zH T5;have C8:=zH h8;clear S5 T5 b8 h8 hg8 hs8;simp only[Act.put,lq0,lq1,lq2];refine zK hK ⟨CS.out,CT.out⟩ fun hh=>?_
        clear hK K;refine zW 12 rfl (.bool true) ?_;refine zE ?_;obtain⟨p8,hp8⟩:=zX (w4.heap.size);have C8b:w5.heap[w4.heap.size]? = some (.cells (Z5 z.n z.sa z.sc) 47):=C8.out;rw[hp8.out]at C8b;replace C8:=zH C8b;clear C8b;rw[hp8.out];go_wp2_with (first
         |(refine zG p8 C8.out ?_)
         |(refine zG p5 CT.out ?_))
        refine(Zaq z.n y.n z.sa z.sc y.sa y.sc _).mono ?_;rintro e w6 ⟨rfl,b6⟩;replace CS:=zH (CS.out.below b6);replace CT:=zH (Z7 b6 CT.out);clear b6 C8;obtain⟨o,HO⟩ : ∃o,Hid (o=Xo z.n y.n):=⟨_,zH rfl⟩;rw[<-HO.out];by_cases ho:o < 0
        focus
         have t0:decide (o < 0)=true:=by simp[ho]
         have HJok:=zH (show YR f (ks ++ [(kh,km)]) (YH J (refN y) y)from CS.out.jok.put HF.out HC.out (fun z' hz=>by rw[show J (refN y)=some z from HJ.out]at hz;cases hz;rw[<-HO.out];exact ho));clear ho;go_upto_region 11 with fail;refine zD (fun w'=>Qh w' pB bS bJ va vn vc/\w'.heap[p5]? = some (.cells (Z5 y.n y.sa y.sc) 47)) (show Qh w6.drew pB bS bJ va vn vc/\w6.drew.heap[p5]? = _ from⟨CS.out.blk,CT.out⟩) fun hh=>?_;replace CS:=zH (CS.out.below ((zd w6)));replace CT:=zH (show w6.drew.heap[p5]? = _ from CT.out);refine zw 0 rfl pB 0 ?_;refine zw 1 rfl pB 0 ?_;refine zw 2 rfl pB 1 ?_;refine zS 3 rfl (.map (some bJ)) (fun W h=>by have hc:=Z6 h.1 1 (.map (some bJ)) rfl;go_simp) ?_;refine zw 4 rfl p5 16 ?_;refine zS 5 rfl (.agg #[.int .i64 y.n.refH,.int .i64 y.n.refN]) (fun W h=>by have h0:=Z6 h.2 16 (.int .i64 y.n.refH) rfl;have h1:=Z6 h.2 17 (.int .i64 y.n.refN) rfl;go_simp) ?_;refine zT 6 rfl (.agg (Z5 y.n y.sa y.sc)) (zY p5 fun W h=>h.2) ?_;refine zR 7 rfl fun K hK=>?_;obtain⟨v9,hrun,hm9,ht9⟩:=Ql (t:=106) CS.out.jm (by have h2:=CS.out.rng.count;have h3:=HNn.out;simp at h2;unfold maxLen;omega) Tryz.underlying106 y.n.refH y.n.refN HRok.out y;have S9:=zH (CS.out.judged HF.out HV.out HJok.out hm9 ht9);have hpj:some p5≠some bJ:=fun e=>by
          obtain⟨es,clock,h1⟩:=CS.out.jm.blk;rw[<-Option.some.inj e,CT.out]at h1;cases h1
         have T9:=zH (Zc ht9.grown CT.out hpj);clear hm9 ht9 hpj;unfold LN.val at hrun;go_simp;refine zK hK ⟨S9.out.blk,T9.out⟩ fun hh=>?_;clear hK K;refine zE ?_
        rotate_left
        focus
         have t0:decide (o < 0)=false:=by simp;omega
         have S9:=zH (CS.out.settled HF.out HV.out (CS.out.jok.stay HF.out HJ.out (by rw[<-HO.out];exact ho)));clear ho
        all_goals
         go_wp2;go_roundw
         case rel=>exact⟨_,_,_,_,_,_,S9⟩
         case measure=>rw[S9.out.rng.left_eq,HM.out];exact HLT.out
   ·have S9:=zH (CS.out.settled HF.out (Zbe hd) (CS.out.jok.skip HF.out (ZaQ hd)));clear hd;go_wp2;go_roundw
    case rel=>exact⟨_,_,_,_,_,_,S9⟩
    case measure=>rw[S9.out.rng.left_eq,HM.out];exact HLT.out
end
theorem Z0y (b:Nat): ∀(vs:List Value) (o:Nat) (w:World) (k:Nat),k≠b->(w.setCells b o vs).heap[k]? = w.heap[k]?
 | [],_,_,_,_=>rfl
 | v :: r,o,w,k,h=>by
  rw[World.setCells,Z0y b r (o+1) _ k h]
  exact Below.heap_setCell w ⟨b,o,none⟩ v k h
theorem Z1e (b:Nat): ∀(vs:List Value) (o:Nat) (w:World),(w.setCells b o vs).heap.size=w.heap.size
 | [],_,_=>rfl
 | v :: r,o,w=>by
  rw[World.setCells,Z1e b r (o+1) _]
  simp[World.setCell]
theorem QZ (b:Nat): ∀(vs:List Value) (o:Nat) (w:World),(w.setCells b o vs).os=w.os/\(w.setCells b o vs).tape=w.tape/\(w.setCells b o vs).output=w.output
 | [],_,_=>⟨rfl,rfl,rfl⟩
 | v :: r,o,w=>by
  rw[World.setCells]
  exact QZ b r (o+1) _
theorem VD (b:Nat): ∀(vs:List Value) (o:Nat) (w:World) (cur:Y6) (t:TypeId) (fr:Nat×Nat),w.heap[b]? = some (.cells cur t fr) -> ∃cur',(w.setCells b o vs).heap[b]? = some (.cells cur' t fr)/\cur'.size=cur.size
 | [],_,_,cur,_,_,h=>⟨cur,h,rfl⟩
 | v :: r,o,w,cur,t,fr,h=>by
  rw[World.setCells]
  obtain⟨cur',h1,h2⟩:=VD b r (o+1) (w.setCell ⟨b,o,none⟩ v) (cur.setIfInBounds o v) t fr (by
   have hb:=(Array.getElem?_eq_some_iff.1 h).1
   simp only[World.setCell,Array.getElem?_modify,h]
   simp)
  exact⟨cur',h1,by rw[h2];simp⟩
theorem V8 (b o:Nat)(vs:List Value)(w:World):Zb (fun k=>k=b) w (w.setCells b o vs):=
 ⟨(QZ b vs o w).1,(QZ b vs o w).2.1,(QZ b vs o w).2.2,by rw[Z1e];exact Nat.le_refl _,fun k _ hk=>Z0y b vs o w k hk⟩
structure VA (w:World)(g:Nat)(ty:TypeId)(k sz:Nat)(rows:List (List Value)):Prop where
 blk : ∃cur,w.heap[g]? = some (.cells cur ty (0,0))/\cur.size=sz
 le:rows.length * k<=sz
 rng : ∀i r,rows[i]? = some r->w.rangeAt g (i * k) r
 len : ∀r∈rows,r.length=k
 one : ∀r∈rows,∀v∈r,v.oneCell'=true
theorem VA.there {w:World}{g k sz:Nat}{ty:TypeId}{rows:List (List Value)}(h:VA w g ty k sz rows){i:Nat}(hi:i < rows.length):w.there g (i * k) k:=by
 obtain⟨cur,h1,h2⟩:=h.blk;intro j hj;have h3:i * k+j < cur.size:=by
  have:(i+1) * k<=rows.length * k:=Nat.mul_le_mul_right _ hi;rw[Nat.add_mul]at this;have:=h.le;omega
 refine⟨?_,?_⟩
 ·simp[World.cell?,h1,h3]
 ·simp[World.frozen?,h1]
theorem VA.same {S:Nat->Prop}{w w':World}{g k sz:Nat}{ty:TypeId}{rows:List (List Value)}(h:VA w g ty k sz rows)(hs:Zb S w w')(hg : ¬S g):VA w' g ty k sz rows:=by
 obtain⟨cur,h1,h2⟩:=h.blk;have hb:=hs.block g (Array.getElem?_eq_some_iff.1 h1).1 hg;refine⟨⟨cur,hb.trans h1,h2⟩,h.le,fun i r hi j v hv=>?_,h.len,h.one⟩;have:=h.rng i r hi j v hv;simp only[World.cell?]at this ⊢;rw[hb];exact this
theorem VA.below {w w':World}{g k sz:Nat}{ty:TypeId}{rows:List (List Value)}(h:VA w g ty k sz rows)(hb:Below w.heap.size w w'):VA w' g ty k sz rows:=
 h.same (S:=fun _=>False) (Zb.of_below hb) (fun e=>e)
theorem VA.set {w:World}{g k sz:Nat}{ty:TypeId}{rows:List (List Value)}(h:VA w g ty k sz rows){i:Nat}(hi:i < rows.length){r:List Value}(hr:r.length=k)(h1 : ∀v∈r,v.oneCell'=true):
  VA (w.setCells g (i * k) r) g ty k sz (rows.set i r):=by
 obtain⟨cur,h2,h3⟩:=h.blk;obtain⟨cur',h4,h5⟩:=VD g r (i * k) w cur ty (0,0) h2;refine⟨⟨cur',h4,by rw[h5,h3]⟩,by rw[List.length_set];exact h.le,fun j x hj=>?_,fun x hx=>?_,fun x hx=>?_⟩
 ·by_cases e:i=j
  ·subst e;rw[List.getElem?_set_self hi]at hj;cases hj;exact World.rangeAt_setCells_same w g (i * k) r (by rw[hr];exact h.there hi)
  ·rw[List.getElem?_set_ne e]at hj;have hx:=h.len x (List.mem_of_getElem? hj);refine World.rangeAt_setCells_apart (h.rng j x hj) _ _ _ ?_;rw[hx,hr];rcases Nat.lt_or_gt_of_ne e with e | e
   ·have:=Nat.mul_le_mul_right k (show i+1<=j from e);rw[Nat.add_mul]at this;omega
   ·have:=Nat.mul_le_mul_right k (show j+1<=i from e);rw[Nat.add_mul]at this;omega
 ·rcases List.mem_or_eq_of_mem_set hx with hx | rfl
  ·exact h.len x hx
  ·exact hr
 ·rcases List.mem_or_eq_of_mem_set hx with hx | rfl
  ·exact h.one x hx
  ·exact h1
structure Ord {V:Type}(lt:V->V->Bool):Prop where
 asym : ∀x y,lt x y=true->lt y x=false
 trans : ∀x y z,lt y x=false->lt z y=false->lt z x=false
theorem JY {V:Type}{lt:V->V->Bool}: ∀{xs ys:List V},(∀x∈xs,∀y∈xs,lt x y=false->lt y x=false->x=y)->xs.Perm ys->xs.Pairwise (fun x y=>lt y x=false)->ys.Pairwise (fun x y=>lt y x=false)->xs=ys
 | [],ys,_,hp,_,_=>(List.nil_perm.1 hp).symm
 | x :: xs,[],_,hp,_,_=>by have:=hp.length_eq;simp at this
 | x :: xs,y :: ys,he,hp,hs,ht=>by
  rw[List.pairwise_cons]at hs ht
  have hxy:x=y:=by
   have hy:y∈x :: xs:=hp.symm.subset (List.mem_cons_self ..);have hx:x∈y :: ys:=hp.subset (List.mem_cons_self ..);rcases List.mem_cons.1 hy with h | h
   ·exact h.symm
   ·rcases List.mem_cons.1 hx with h' | h'
    ·exact h'
    ·exact he x (List.mem_cons_self ..) y (List.mem_cons_of_mem _ h) (ht.1 x h') (hs.1 y h)
  subst hxy;exact congrArg _ (JY (fun a ha b hb=>he a (List.mem_cons_of_mem _ ha) b (List.mem_cons_of_mem _ hb)) (List.perm_cons x |>.1 hp) hs.2 ht.2)
open Go.Shelf
def Tryz.sortNote_ren:Go.Shelf.Ren:=⟨fun | 6=>221 | 15=>205 | 14=>244 | 28=>233 | 29=>234 | 20=>255 | 21=>256 | 22=>257 | 23=>258 | 24=>259 | 25=>260 | 26=>261 | 27=>262 | 46=>268 | 47=>246 | 48=>247 | 49=>269 | 50=>270 | 57=>271 | n=>n,fun | 22=>24 | 24=>47 | 25=>244 | 3=>3 | 39=>214 | 0=>0 | 53=>292 | 55=>201 | 4=>4 | 46=>285 | 45=>284 | 50=>289 | 5=>5 | 9=>9 | 66=>300 | 70=>221 | 76=>311 | 77=>312 | n=>n,fun | n=>n⟩
theorem Tryz.sortNote:Go.Proofs.SlLaysF0.n6 zq Tryz.sortNote_ren := {
 mixed:=by kernel_rfl
 f6:=⟨Tryz.f221.name,by decide,Tryz.func221.trans (congrArg some (by kernel_rfl))⟩
 f14:=⟨Tryz.f244.name,by decide,Tryz.func244.trans (congrArg some (by kernel_rfl))⟩
 f15:=Tryz.func205.trans (congrArg some (by kernel_rfl))
 f20:=⟨Tryz.f255.name,by decide,Tryz.func255.trans (congrArg some (by kernel_rfl))⟩
 f21:=⟨Tryz.f256.name,by decide,Tryz.func256.trans (congrArg some (by kernel_rfl))⟩
 f22:=⟨Tryz.f257.name,by decide,Tryz.func257.trans (congrArg some (by kernel_rfl))⟩
 f23:=⟨Tryz.f258.name,by decide,Tryz.func258.trans (congrArg some (by kernel_rfl))⟩
 f24:=⟨Tryz.f259.name,by decide,Tryz.func259.trans (congrArg some (by kernel_rfl))⟩
 f25:=⟨Tryz.f260.name,by decide,Tryz.func260.trans (congrArg some (by kernel_rfl))⟩
 f26:=⟨Tryz.f261.name,by decide,Tryz.func261.trans (congrArg some (by kernel_rfl))⟩
 f27:=⟨Tryz.f262.name,by decide,Tryz.func262.trans (congrArg some (by kernel_rfl))⟩
 f28:=Tryz.func233.trans (congrArg some (by kernel_rfl))
 f29:=Tryz.func234.trans (congrArg some (by kernel_rfl))
 f46:=⟨Tryz.f268.name,by decide,Tryz.func268.trans (congrArg some (by kernel_rfl))⟩
 f47:=Tryz.func246.trans (congrArg some (by kernel_rfl))
 f48:=Tryz.func247.trans (congrArg some (by kernel_rfl))
 f49:=⟨Tryz.f269.name,by decide,Tryz.func269.trans (congrArg some (by kernel_rfl))⟩
 f50:=⟨Tryz.f270.name,by decide,Tryz.func270.trans (congrArg some (by kernel_rfl))⟩
 f57:=⟨Tryz.f271.name,by decide,Tryz.func271.trans (congrArg some (by kernel_rfl))⟩
 t0:=Tryz.underlying0
 a0:=Tryz.isAgg0
 z0:=Tryz.sizeOf0
 v0:=Tryz.zeroValue0
 t3:=Tryz.underlying3
 a3:=Tryz.isAgg3
 z3:=Tryz.sizeOf3
 v3:=Tryz.zeroValue3
 t4:=Tryz.underlying4
 a4:=Tryz.isAgg4
 z4:=Tryz.sizeOf4
 v4:=Tryz.zeroValue4
 t5:=Tryz.underlying5
 a5:=Tryz.isAgg5
 z5:=Tryz.sizeOf5
 v5:=Tryz.zeroValue5
 t9:=Tryz.underlying9
 a9:=Tryz.isAgg9
 z9:=Tryz.sizeOf9
 v9:=Tryz.zeroValue9
 t22:=Tryz.underlying24
 a22:=Tryz.isAgg24
 z22:=Tryz.sizeOf24
 v22:=Tryz.zeroValue24
 t25:=Tryz.underlying244
 a25:=Tryz.isAgg244
 z25:=Tryz.sizeOf244
 v25:=Tryz.zeroValue244
 t39:=Tryz.underlying214
 a39:=Tryz.isAgg214
 z39:=Tryz.sizeOf214
 v39:=Tryz.zeroValue214
 t45:=Tryz.underlying284
 a45:=Tryz.isAgg284
 z45:=Tryz.sizeOf284
 v45:=Tryz.zeroValue284
 t46:=Tryz.underlying285
 a46:=Tryz.isAgg285
 z46:=Tryz.sizeOf285
 v46:=Tryz.zeroValue285
 t50:=Tryz.underlying289
 a50:=Tryz.isAgg289
 z50:=Tryz.sizeOf289
 v50:=Tryz.zeroValue289
 t53:=Tryz.underlying292
 a53:=Tryz.isAgg292
 z53:=Tryz.sizeOf292
 v53:=Tryz.zeroValue292
 t55:=Tryz.underlying201
 a55:=Tryz.isAgg201
 z55:=Tryz.sizeOf201
 v55:=Tryz.zeroValue201
 t66:=Tryz.underlying300
 a66:=Tryz.isAgg300
 z66:=Tryz.sizeOf300
 v66:=Tryz.zeroValue300
 t70:=Tryz.underlying221
 a70:=Tryz.isAgg221
 z70:=Tryz.sizeOf221
 v70:=Tryz.zeroValue221
 t76:=Tryz.underlying311
 a76:=Tryz.isAgg311
 z76:=Tryz.sizeOf311
 v76:=Tryz.zeroValue311
 t77:=Tryz.underlying312
 a77:=Tryz.isAgg312
 z77:=Tryz.sizeOf312
 v77:=Tryz.zeroValue312 }
def Tryz.sortName_ren:Go.Shelf.Ren:=⟨fun | 6=>170 | 15=>205 | 14=>204 | 28=>233 | 29=>234 | 20=>225 | 21=>226 | 22=>227 | 23=>228 | 24=>229 | 25=>230 | 26=>231 | 27=>232 | 46=>245 | 47=>246 | 48=>247 | 49=>248 | 50=>249 | 57=>263 | n=>n,fun | 22=>75 | 24=>45 | 25=>182 | 3=>3 | 39=>214 | 0=>0 | 53=>292 | 55=>201 | 4=>4 | 46=>285 | 45=>284 | 50=>289 | 5=>5 | 9=>9 | 66=>300 | 70=>221 | 76=>311 | 77=>312 | n=>n,fun | n=>n⟩
theorem Tryz.sortName:Go.Proofs.SlLaysF0.n6 zq Tryz.sortName_ren := {
 mixed:=by kernel_rfl
 f6:=⟨Tryz.f170.name,by decide,Tryz.func170.trans (congrArg some (by kernel_rfl))⟩
 f14:=⟨Tryz.f204.name,by decide,Tryz.func204.trans (congrArg some (by kernel_rfl))⟩
 f15:=Tryz.func205.trans (congrArg some (by kernel_rfl))
 f20:=⟨Tryz.f225.name,by decide,Tryz.func225.trans (congrArg some (by kernel_rfl))⟩
 f21:=⟨Tryz.f226.name,by decide,Tryz.func226.trans (congrArg some (by kernel_rfl))⟩
 f22:=⟨Tryz.f227.name,by decide,Tryz.func227.trans (congrArg some (by kernel_rfl))⟩
 f23:=⟨Tryz.f228.name,by decide,Tryz.func228.trans (congrArg some (by kernel_rfl))⟩
 f24:=⟨Tryz.f229.name,by decide,Tryz.func229.trans (congrArg some (by kernel_rfl))⟩
 f25:=⟨Tryz.f230.name,by decide,Tryz.func230.trans (congrArg some (by kernel_rfl))⟩
 f26:=⟨Tryz.f231.name,by decide,Tryz.func231.trans (congrArg some (by kernel_rfl))⟩
 f27:=⟨Tryz.f232.name,by decide,Tryz.func232.trans (congrArg some (by kernel_rfl))⟩
 f28:=Tryz.func233.trans (congrArg some (by kernel_rfl))
 f29:=Tryz.func234.trans (congrArg some (by kernel_rfl))
 f46:=⟨Tryz.f245.name,by decide,Tryz.func245.trans (congrArg some (by kernel_rfl))⟩
 f47:=Tryz.func246.trans (congrArg some (by kernel_rfl))
 f48:=Tryz.func247.trans (congrArg some (by kernel_rfl))
 f49:=⟨Tryz.f248.name,by decide,Tryz.func248.trans (congrArg some (by kernel_rfl))⟩
 f50:=⟨Tryz.f249.name,by decide,Tryz.func249.trans (congrArg some (by kernel_rfl))⟩
 f57:=⟨Tryz.f263.name,by decide,Tryz.func263.trans (congrArg some (by kernel_rfl))⟩
 t0:=Tryz.underlying0
 a0:=Tryz.isAgg0
 z0:=Tryz.sizeOf0
 v0:=Tryz.zeroValue0
 t3:=Tryz.underlying3
 a3:=Tryz.isAgg3
 z3:=Tryz.sizeOf3
 v3:=Tryz.zeroValue3
 t4:=Tryz.underlying4
 a4:=Tryz.isAgg4
 z4:=Tryz.sizeOf4
 v4:=Tryz.zeroValue4
 t5:=Tryz.underlying5
 a5:=Tryz.isAgg5
 z5:=Tryz.sizeOf5
 v5:=Tryz.zeroValue5
 t9:=Tryz.underlying9
 a9:=Tryz.isAgg9
 z9:=Tryz.sizeOf9
 v9:=Tryz.zeroValue9
 t22:=Tryz.underlying75
 a22:=Tryz.isAgg75
 z22:=Tryz.sizeOf75
 v22:=Tryz.zeroValue75
 t25:=Tryz.underlying182
 a25:=Tryz.isAgg182
 z25:=Tryz.sizeOf182
 v25:=Tryz.zeroValue182
 t39:=Tryz.underlying214
 a39:=Tryz.isAgg214
 z39:=Tryz.sizeOf214
 v39:=Tryz.zeroValue214
 t45:=Tryz.underlying284
 a45:=Tryz.isAgg284
 z45:=Tryz.sizeOf284
 v45:=Tryz.zeroValue284
 t46:=Tryz.underlying285
 a46:=Tryz.isAgg285
 z46:=Tryz.sizeOf285
 v46:=Tryz.zeroValue285
 t50:=Tryz.underlying289
 a50:=Tryz.isAgg289
 z50:=Tryz.sizeOf289
 v50:=Tryz.zeroValue289
 t53:=Tryz.underlying292
 a53:=Tryz.isAgg292
 z53:=Tryz.sizeOf292
 v53:=Tryz.zeroValue292
 t55:=Tryz.underlying201
 a55:=Tryz.isAgg201
 z55:=Tryz.sizeOf201
 v55:=Tryz.zeroValue201
 t66:=Tryz.underlying300
 a66:=Tryz.isAgg300
 z66:=Tryz.sizeOf300
 v66:=Tryz.zeroValue300
 t70:=Tryz.underlying221
 a70:=Tryz.isAgg221
 z70:=Tryz.sizeOf221
 v70:=Tryz.zeroValue221
 t76:=Tryz.underlying311
 a76:=Tryz.isAgg311
 z76:=Tryz.sizeOf311
 v76:=Tryz.zeroValue311
 t77:=Tryz.underlying312
 a77:=Tryz.isAgg312
 z77:=Tryz.sizeOf312
 v77:=Tryz.zeroValue312 }
end Go.Proofs.YtlnhppgfhkkidaaGreat
