/- Parts of the proof, in order. -/
import Derived.Deep.Cut
import Derived.Sort.MapsRangeIn
import Derived.Lib.AppendZerosOnto
import Derived.Laws.MakeOwn
import Derived.Shelf.SlMaps.Clone
import Derived.Test.YtlnhppgfhkkidaaGreatKPho5
set_option linter.unusedSimpArgs false
set_option linter.unusedVariables false
set_option maxHeartbeats 32000000
set_option maxRecDepth 100000
namespace Go.Proofs.YtlnhppgfhkkidaaGreat
open Go.Proofs.Tryz renaming prog → zq
open Go.RowKit
theorem JA {x y:NoteV}: Yv x y=true↔(x.house=y.house/\x.num=y.num)/\(x.clock=y.clock/\x.day=y.day/\x.kind=y.kind/\x.stone=y.stone/\x.heap=y.heap/\x.turns=y.turns) /\
  (x.hardLo=y.hardLo/\x.hardHi=y.hardHi)/\(x.diffLo=y.diffLo/\x.diffHi=y.diffHi)/\(x.a=y.a/\x.b=y.b/\x.ring=y.ring)/\(x.refH=y.refH/\x.refN=y.refN)/\x.fix=y.fix/\x.strokes=y.strokes:=by
 simp only[Yv,QW];grind
theorem Z1o {a b:Int}(h:a=b):(a != b)=false:=by simp[h]
theorem Z00 {a b:Int}(h : ¬a=b):(a != b)=true:=by simp[h]
theorem ZaW {l m:List Int}(hl:l.length=m.length)(h : ∀j,j < l.length->l[j]?.getD 0=m[j]?.getD 0):l=m:=by
 apply List.ext_getElem hl;intro i h1 h2;have:=h i h1;simpa [List.getElem?_eq_getElem h1,List.getElem?_eq_getElem h2] using this
section
attribute [local go_sem] ZS Xi Jg Qz Jf Qy Qx Qw Ve Vd JY JX JG JE JD J5 Jj Ji Js
theorem QV (x y:NoteV)(sa:zA)(sc:Nat)(ta:zA)(tc:Nat)(w:World)(hx:Xe w sa x.strokes.length sc x.strokes)(hy:Xe w ta y.strokes.length tc y.strokes):
  Calls zq 159 #[.agg (Z5 x sa sc),.agg (Z5 y ta tc)] w fun e w'=>e = .returned (.bool (Yv x y))/\Below w.heap.size w w':=by
 have hlast:=Z9 w (.cells (Z5 x sa sc) 47);have p0:=Z8 (w.alloc (.cells (Z5 x sa sc) 47)) (.cells (Z5 y ta tc) 47) _ _ hlast;have q0:((w.alloc (.cells (Z5 x sa sc) 47)).alloc (.cells (Z5 y ta tc) 47)).heap[w.heap.size+1]? = some (.cells (Z5 y ta tc) 47):=by
  have:=Z9 (w.alloc (.cells (Z5 x sa sc) 47)) (.cells (Z5 y ta tc) 47);simpa using this
 have hb:Below w.heap.size w ((w.alloc (.cells (Z5 x sa sc) 47)).alloc (.cells (Z5 y ta tc) 47)):=(zB _ _).alloc (by simp) _;have hp:w.heap.size < ((w.alloc (.cells (Z5 x sa sc) 47)).alloc (.cells (Z5 y ta tc) 47)).heap.size:=by simp;omega
 have hq:w.heap.size+1 < ((w.alloc (.cells (Z5 x sa sc) 47)).alloc (.cells (Z5 y ta tc) 47)).heap.size:=by simp
 clear hlast;have H1:=zH p0;clear p0;have H2:=zH q0;clear q0;have HB:=zH hb;clear hb;have HP:=zH hp;clear hp;have HQ:=zH hq;clear hq;have hbx:=hx.below HB.out;have hby:=hy.below HB.out;have hmx:=hx.maxn;have hmy:=hy.maxn;have hu:=Tryz.underlying47;go_enter Tryz.func159,Tryz.ntmps159;go_upto_region 1 with fail;generalize (w.alloc (.cells (Z5 x sa sc) 47)).alloc (.cells (Z5 y ta tc) 47)=W at *;generalize hpe:w.heap.size=p at *;generalize hqe:p+1=q at *;have HPE:=zH hpe;clear hpe;have HQE:=zH hqe;clear hqe;have HX:=zH (show ∀w0,Below W.heap.size W w0->w0.heap[p]? = some (.cells (Z5 x sa sc) 47)from fun w0 h=>(h.block p HP.out).trans H1.out);have HY:=zH (show ∀w0,Below W.heap.size W w0->w0.heap[q]? = some (.cells (Z5 y ta tc) 47)from fun w0 h=>(h.block q HQ.out).trans H2.out);have hZ:p<=W.heap.size:=Nat.le_of_lt HP.out;have c15:=VU (HX.out W (Below.refl _ _)) 15 _ rfl;have d15:=VU (HY.out W (Below.refl _ _)) 15 _ rfl;simp only[Nat.zero_add]at c15 d15;have C15:=zH c15;have D15:=zH d15;by_cases hln:x.strokes.length=y.strokes.length
 ·have hbn:((x.strokes.length:Int) != (y.strokes.length:Int))=false:=by simp[hln]
  generalize hn:x.strokes.length=n at *;have HN:=zH hn;have HM:=zH hln;have hln':y.strokes.length=n:=hln.symm;rw[hln']at hby d15;clear hn hln hmy;have D15':=zH d15;go_wp2_with fail;clear c15 d15;go_loopw [5] (fun i wr=>∃k:Nat,k<=n/\i = .int .i64 k/\Hid (∀j,j < k->x.strokes[j]?.getD 0=y.strokes[j]?.getD 0)/\Hid (Below W.heap.size W wr)) (fun i _=>n - (intOf i).toNat)
  case atStart=>exact⟨0,Nat.zero_le _,rfl,zH (fun j hj=>by omega),zH (Below.refl _ _)⟩
  case round=>
   obtain⟨k,hk,rfl,HRL,HW⟩:=hrel;have c15:=((HW.out.cell (p:=⟨p,15,none⟩) HP.out).trans C15.out);have d15:=((HW.out.cell (p:=⟨q,15,none⟩) HQ.out).trans D15'.out);by_cases hlt:k < n
   ·obtain⟨b,off,rfl,hc⟩:=(hbx.below HW.out).at (by omega);obtain⟨b',off',rfl,hc'⟩:=(hby.below HW.out).at (by omega);have e1:=hc k hlt;have e2:=hc' k hlt;clear hc hc' hbx hby;have hk64:(k:Int)<=9223372036854775807:=by omega
    generalize hX:x.strokes[k]?.getD 0=X at *;generalize hY:y.strokes[k]?.getD 0=Y at *;have HX1:=zH hX;clear hX;have HY1:=zH hY;clear hY;by_cases he:X=Y
    ·have hb:=Z1o he;have HE:=zH he;clear he;go_wp2_with fail;go_quiet (fail);go_wp2;go_roundw
     case rel=>exact⟨k+1,by omega,by go_num,zH fun j hj=>by
      rcases Nat.lt_succ_iff_lt_or_eq.1 hj with h | h
      ·exact HRL.out j h
      ·rw[h,HX1.out,HY1.out];exact HE.out,zH (below_drewN HW.out _)⟩
     case measure=>simp[intOf];omega
    ·have hb:=Z00 he;have HE:=zH he;clear he;have hR:Yv x y=false:=by
      rw[<-Bool.not_eq_true,JA];intro h;apply HE.out;rw[<-HX1.out,<-HY1.out,h.2.2.2.2.2.2.2]
     have HR:=zH hR;clear hR;go_wp2_with fail;go_quiet (fail);go_wp2;go_ret;rw[HR.out];exact⟨rfl,by rw[HPE.out];exact HB.out.trans ((below_drewN HW.out _).mono hZ)⟩
   ·have hkn:k=n:=by omega
    subst hkn;have hst:x.strokes=y.strokes:=ZaW (by rw[HN.out,hln']) (fun j hj=>HRL.out j (by rw[HN.out]at hj;exact hj));have HST:=zH hst;clear hst hbx hby;have hC0:Below W.heap.size W wr.drew:=HW.out.drew;by_cases h0:x.house=y.house/\x.num=y.num
    ·have HD:=zH h0;clear h0;by_cases h1:x.clock=y.clock
     ·have q1:=Z1o h1;have K1:=zH h1;clear h1;by_cases h2:x.day=y.day
      ·have q2:=Z1o h2;have K2:=zH h2;clear h2;by_cases h3:x.kind=y.kind
       ·have q3:=Z1o h3;have K3:=zH h3;clear h3;by_cases h4:x.stone=y.stone
        ·have q4:=Z1o h4;have K4:=zH h4;clear h4;by_cases h5:x.heap=y.heap
         ·have q5:=Z1o h5;have K5:=zH h5;clear h5;by_cases h6:x.turns=y.turns
          ·have q6:=Z1o h6;have K6:=zH h6;clear h6;go_upto_region 8 with fail;refine zC (fun w':World=>Below W.heap.size W w') hC0 ?_;refine zQ (.agg (Z5 x sa sc)) (fun w0 hC=>ZG (.tmp 2) rfl p rfl x sa sc (HX.out w0 hC)) ?_;refine zQ (.agg #[.int .i64 x.house,.int .i64 x.num]) (fun w0 hC=>?_) ?_
           ·go_simp;refine(ZA x sa sc _).mono ?_;rintro e w1 ⟨rfl,b1⟩;exact⟨rfl,hC.trans (b1.mono hC.size)⟩
           refine zQ (.agg (Z5 y ta tc)) (fun w0 hC=>ZG (.tmp 3) rfl q rfl y ta tc (HY.out w0 hC)) ?_;refine zQ (.agg #[.int .i64 y.house,.int .i64 y.num]) (fun w0 hC=>?_) ?_
           ·go_simp;refine(ZA y ta tc _).mono ?_;rintro e w1 ⟨rfl,b1⟩;exact⟨rfl,hC.trans (b1.mono hC.size)⟩
           refine zQ (.bool false) (fun w0 hC=>?_) ?_
           ·clear hC;go_simp;have h:=HD.out;simp[h.1,h.2]
           refine zV (.bool false) ?_;refine zv p 2 ?_;refine zQ (.int .i64 x.clock) (fun w0 hC=>?_) ?_
           ·have c2:=zc (HX.out w0 hC) 2 _ rfl;clear hC;go_simp
           refine zv q 2 ?_;refine zQ (.int .i64 y.clock) (fun w0 hC=>?_) ?_
           ·have c2:=zc (HY.out w0 hC) 2 _ rfl;clear hC;go_simp
           refine zV (.bool false) ?_;refine zV (.bool false) ?_;refine zV (.bool false) ?_;refine zv p 3 ?_;refine zQ (.int .i64 x.day) (fun w0 hC=>?_) ?_
           ·have c3:=zc (HX.out w0 hC) 3 _ rfl;clear hC;go_simp
           refine zv q 3 ?_;refine zQ (.int .i64 y.day) (fun w0 hC=>?_) ?_
           ·have c3:=zc (HY.out w0 hC) 3 _ rfl;clear hC;go_simp
           refine zV (.bool false) ?_;refine zV (.bool false) ?_;refine zV (.bool false) ?_;refine zv p 4 ?_;refine zQ (.int .i64 x.kind) (fun w0 hC=>?_) ?_
           ·have c4:=zc (HX.out w0 hC) 4 _ rfl;clear hC;go_simp
           refine zv q 4 ?_;refine zQ (.int .i64 y.kind) (fun w0 hC=>?_) ?_
           ·have c4:=zc (HY.out w0 hC) 4 _ rfl;clear hC;go_simp
           refine zV (.bool false) ?_;refine zV (.bool false) ?_;refine zV (.bool false) ?_;refine zv p 5 ?_;refine zQ (.int .i64 x.stone) (fun w0 hC=>?_) ?_
           ·have c5:=zc (HX.out w0 hC) 5 _ rfl;clear hC;go_simp
           refine zv q 5 ?_;refine zQ (.int .i64 y.stone) (fun w0 hC=>?_) ?_
           ·have c5:=zc (HY.out w0 hC) 5 _ rfl;clear hC;go_simp
           refine zV (.bool false) ?_;refine zV (.bool false) ?_;refine zV (.bool false) ?_;refine zv p 6 ?_;refine zQ (.int .i64 x.heap) (fun w0 hC=>?_) ?_
           ·have c6:=zc (HX.out w0 hC) 6 _ rfl;clear hC;go_simp
           refine zv q 6 ?_;refine zQ (.int .i64 y.heap) (fun w0 hC=>?_) ?_
           ·have c6:=zc (HY.out w0 hC) 6 _ rfl;clear hC;go_simp
           refine zV (.bool false) ?_;refine zV (.bool false) ?_;refine zV (.bool false) ?_;refine zv p 7 ?_;refine zQ (.int .i64 x.turns) (fun w0 hC=>?_) ?_
           ·have c7:=zc (HX.out w0 hC) 7 _ rfl;clear hC;go_simp
           refine zv q 7 ?_;refine zQ (.int .i64 y.turns) (fun w0 hC=>?_) ?_
           ·have c7:=zc (HY.out w0 hC) 7 _ rfl;clear hC;go_simp
           refine zV (.bool false) ?_;refine zV (.bool false) ?_;refine wpQuiet_nil ?_;intro w' hC;generalize hw9:wr=w9 at *;have ch0:=VU (HX.out w' hC);have dh0:=VU (HY.out w' hC);have CH:=zH ch0;have DH:=zH dh0;clear ch0 dh0;have x8:=CH.out 8 _ rfl;have x9:=CH.out 9 _ rfl;have x10:=CH.out 10 _ rfl;have x11:=CH.out 11 _ rfl;have x12:=CH.out 12 _ rfl;have x13:=CH.out 13 _ rfl;have x14:=CH.out 14 _ rfl;have x16:=CH.out 16 _ rfl;have x17:=CH.out 17 _ rfl;have x18:=CH.out 18 _ rfl;have y8:=DH.out 8 _ rfl;have y9:=DH.out 9 _ rfl;have y10:=DH.out 10 _ rfl;have y11:=DH.out 11 _ rfl;have y12:=DH.out 12 _ rfl;have y13:=DH.out 13 _ rfl;have y14:=DH.out 14 _ rfl;have y16:=DH.out 16 _ rfl;have y17:=DH.out 17 _ rfl;have y18:=DH.out 18 _ rfl;simp only[Nat.zero_add]at x8 x9 x10 x11 x12 x13 x14 x16 x17 x18 y8 y9 y10 y11 y12 y13 y14 y16 y17 y18;have HBC:=zH (HB.out.trans (hC.mono hZ));clear hC;have hS:Yv x y=(decide (x.hardLo=y.hardLo/\x.hardHi=y.hardHi) && (decide (x.diffLo=y.diffLo/\x.diffHi=y.diffHi) && (decide (x.a=y.a) && (decide (x.b=y.b) && (decide (x.ring=y.ring) && (decide (x.refH=y.refH/\x.refN=y.refN) && decide (x.fix=y.fix))))))):=by
            rw[Bool.eq_iff_iff,JA];simp[HD.out,HST.out,K1.out,K2.out,K3.out,K4.out,K5.out,K6.out];grind
           have HS:=zH hS;clear hS;go_wp2_with fail
           all_goals
            go_ret;rw[HS.out];refine⟨?_,by rw[HPE.out];exact HBC.out⟩
            first|(simp_all only [decide_true,decide_false,Bool.true_and,Bool.false_and,Bool.and_true,Bool.and_false,and_true,true_and,and_false,false_and];done)|(clear hu HX HY H1 H2 CH DH C15 D15 D15' hx hy;simp[*];done)|(clear hu HX HY H1 H2 CH DH C15 D15 D15' hx hy;simp[*];by_cases hh:x.fix=y.fix <;> simp[hh])
          ·have q6:=Z00 h6;have hR:Yv x y=false:=by rw[<-Bool.not_eq_true,JA];intro h;exact h6 h.2.1.2.2.2.2.2
           have HR:=zH hR;clear hR h6;go_upto_region 8 with fail;refine zC (fun w':World=>Below W.heap.size W w') hC0 ?_;refine zQ (.agg (Z5 x sa sc)) (fun w0 hC=>ZG (.tmp 2) rfl p rfl x sa sc (HX.out w0 hC)) ?_;refine zQ (.agg #[.int .i64 x.house,.int .i64 x.num]) (fun w0 hC=>?_) ?_
           ·go_simp;refine(ZA x sa sc _).mono ?_;rintro e w1 ⟨rfl,b1⟩;exact⟨rfl,hC.trans (b1.mono hC.size)⟩
           refine zQ (.agg (Z5 y ta tc)) (fun w0 hC=>ZG (.tmp 3) rfl q rfl y ta tc (HY.out w0 hC)) ?_;refine zQ (.agg #[.int .i64 y.house,.int .i64 y.num]) (fun w0 hC=>?_) ?_
           ·go_simp;refine(ZA y ta tc _).mono ?_;rintro e w1 ⟨rfl,b1⟩;exact⟨rfl,hC.trans (b1.mono hC.size)⟩
           refine zQ (.bool false) (fun w0 hC=>?_) ?_
           ·clear hC;go_simp;have h:=HD.out;simp[h.1,h.2]
           refine zV (.bool false) ?_;refine zv p 2 ?_;refine zQ (.int .i64 x.clock) (fun w0 hC=>?_) ?_
           ·have c2:=zc (HX.out w0 hC) 2 _ rfl;clear hC;go_simp
           refine zv q 2 ?_;refine zQ (.int .i64 y.clock) (fun w0 hC=>?_) ?_
           ·have c2:=zc (HY.out w0 hC) 2 _ rfl;clear hC;go_simp
           refine zV (.bool false) ?_;refine zV (.bool false) ?_;refine zV (.bool false) ?_;refine zv p 3 ?_;refine zQ (.int .i64 x.day) (fun w0 hC=>?_) ?_
           ·have c3:=zc (HX.out w0 hC) 3 _ rfl;clear hC;go_simp
           refine zv q 3 ?_;refine zQ (.int .i64 y.day) (fun w0 hC=>?_) ?_
           ·have c3:=zc (HY.out w0 hC) 3 _ rfl;clear hC;go_simp
           refine zV (.bool false) ?_;refine zV (.bool false) ?_;refine zV (.bool false) ?_;refine zv p 4 ?_;refine zQ (.int .i64 x.kind) (fun w0 hC=>?_) ?_
           ·have c4:=zc (HX.out w0 hC) 4 _ rfl;clear hC;go_simp
           refine zv q 4 ?_;refine zQ (.int .i64 y.kind) (fun w0 hC=>?_) ?_
           ·have c4:=zc (HY.out w0 hC) 4 _ rfl;clear hC;go_simp
           refine zV (.bool false) ?_;refine zV (.bool false) ?_;refine zV (.bool false) ?_;refine zv p 5 ?_;refine zQ (.int .i64 x.stone) (fun w0 hC=>?_) ?_
           ·have c5:=zc (HX.out w0 hC) 5 _ rfl;clear hC;go_simp
           refine zv q 5 ?_;refine zQ (.int .i64 y.stone) (fun w0 hC=>?_) ?_
           ·have c5:=zc (HY.out w0 hC) 5 _ rfl;clear hC;go_simp
           refine zV (.bool false) ?_;refine zV (.bool false) ?_;refine zV (.bool false) ?_;refine zv p 6 ?_;refine zQ (.int .i64 x.heap) (fun w0 hC=>?_) ?_
           ·have c6:=zc (HX.out w0 hC) 6 _ rfl;clear hC;go_simp
           refine zv q 6 ?_;refine zQ (.int .i64 y.heap) (fun w0 hC=>?_) ?_
           ·have c6:=zc (HY.out w0 hC) 6 _ rfl;clear hC;go_simp
           refine zV (.bool false) ?_;refine zV (.bool false) ?_;refine zV (.bool false) ?_;refine zv p 7 ?_;refine zQ (.int .i64 x.turns) (fun w0 hC=>?_) ?_
           ·have c7:=zc (HX.out w0 hC) 7 _ rfl;clear hC;go_simp
           refine zv q 7 ?_;refine zQ (.int .i64 y.turns) (fun w0 hC=>?_) ?_
           ·have c7:=zc (HY.out w0 hC) 7 _ rfl;clear hC;go_simp
           refine zV (.bool true) ?_;refine zV (.bool true) ?_;refine wpQuiet_nil ?_;intro w' hC;go_wp2;go_ret;rw[HR.out];exact⟨rfl,by rw[HPE.out];exact HB.out.trans (hC.mono hZ)⟩
         ·have q5:=Z00 h5;have hR:Yv x y=false:=by rw[<-Bool.not_eq_true,JA];intro h;exact h5 h.2.1.2.2.2.2.1
          have HR:=zH hR;clear hR h5;go_upto_region 8 with fail;refine zC (fun w':World=>Below W.heap.size W w') hC0 ?_;refine zQ (.agg (Z5 x sa sc)) (fun w0 hC=>ZG (.tmp 2) rfl p rfl x sa sc (HX.out w0 hC)) ?_;refine zQ (.agg #[.int .i64 x.house,.int .i64 x.num]) (fun w0 hC=>?_) ?_
          ·go_simp;refine(ZA x sa sc _).mono ?_;rintro e w1 ⟨rfl,b1⟩;exact⟨rfl,hC.trans (b1.mono hC.size)⟩
          refine zQ (.agg (Z5 y ta tc)) (fun w0 hC=>ZG (.tmp 3) rfl q rfl y ta tc (HY.out w0 hC)) ?_;refine zQ (.agg #[.int .i64 y.house,.int .i64 y.num]) (fun w0 hC=>?_) ?_
          ·go_simp;refine(ZA y ta tc _).mono ?_;rintro e w1 ⟨rfl,b1⟩;exact⟨rfl,hC.trans (b1.mono hC.size)⟩
          refine zQ (.bool false) (fun w0 hC=>?_) ?_
          ·clear hC;go_simp;have h:=HD.out;simp[h.1,h.2]
          refine zV (.bool false) ?_;refine zv p 2 ?_;refine zQ (.int .i64 x.clock) (fun w0 hC=>?_) ?_
          ·have c2:=zc (HX.out w0 hC) 2 _ rfl;clear hC;go_simp
          refine zv q 2 ?_;refine zQ (.int .i64 y.clock) (fun w0 hC=>?_) ?_
          ·have c2:=zc (HY.out w0 hC) 2 _ rfl;clear hC;go_simp
          refine zV (.bool false) ?_;refine zV (.bool false) ?_;refine zV (.bool false) ?_;refine zv p 3 ?_;refine zQ (.int .i64 x.day) (fun w0 hC=>?_) ?_
          ·have c3:=zc (HX.out w0 hC) 3 _ rfl;clear hC;go_simp
          refine zv q 3 ?_;refine zQ (.int .i64 y.day) (fun w0 hC=>?_) ?_
          ·have c3:=zc (HY.out w0 hC) 3 _ rfl;clear hC;go_simp
          refine zV (.bool false) ?_;refine zV (.bool false) ?_;refine zV (.bool false) ?_;refine zv p 4 ?_;refine zQ (.int .i64 x.kind) (fun w0 hC=>?_) ?_
          ·have c4:=zc (HX.out w0 hC) 4 _ rfl;clear hC;go_simp
          refine zv q 4 ?_;refine zQ (.int .i64 y.kind) (fun w0 hC=>?_) ?_
          ·have c4:=zc (HY.out w0 hC) 4 _ rfl;clear hC;go_simp
          refine zV (.bool false) ?_;refine zV (.bool false) ?_;refine zV (.bool false) ?_;refine zv p 5 ?_;refine zQ (.int .i64 x.stone) (fun w0 hC=>?_) ?_
          ·have c5:=zc (HX.out w0 hC) 5 _ rfl;clear hC;go_simp
          refine zv q 5 ?_;refine zQ (.int .i64 y.stone) (fun w0 hC=>?_) ?_
          ·have c5:=zc (HY.out w0 hC) 5 _ rfl;clear hC;go_simp
          refine zV (.bool false) ?_;refine zV (.bool false) ?_;refine zV (.bool false) ?_;refine zv p 6 ?_;refine zQ (.int .i64 x.heap) (fun w0 hC=>?_) ?_
          ·have c6:=zc (HX.out w0 hC) 6 _ rfl;clear hC;go_simp
          refine zv q 6 ?_;refine zQ (.int .i64 y.heap) (fun w0 hC=>?_) ?_
          ·have c6:=zc (HY.out w0 hC) 6 _ rfl;clear hC;go_simp
          refine zV (.bool true) ?_;refine zV (.bool true) ?_;refine zV (.bool true) ?_
          iterate 5 go_big_quiet_skip
          refine zV (.bool true) ?_;refine wpQuiet_nil ?_;intro w' hC;go_wp2;go_ret;rw[HR.out];exact⟨rfl,by rw[HPE.out];exact HB.out.trans (hC.mono hZ)⟩
        ·have q4:=Z00 h4;have hR:Yv x y=false:=by rw[<-Bool.not_eq_true,JA];intro h;exact h4 h.2.1.2.2.2.1
         have HR:=zH hR;clear hR h4;go_upto_region 8 with fail;refine zC (fun w':World=>Below W.heap.size W w') hC0 ?_;refine zQ (.agg (Z5 x sa sc)) (fun w0 hC=>ZG (.tmp 2) rfl p rfl x sa sc (HX.out w0 hC)) ?_;refine zQ (.agg #[.int .i64 x.house,.int .i64 x.num]) (fun w0 hC=>?_) ?_
         ·go_simp;refine(ZA x sa sc _).mono ?_;rintro e w1 ⟨rfl,b1⟩;exact⟨rfl,hC.trans (b1.mono hC.size)⟩
         refine zQ (.agg (Z5 y ta tc)) (fun w0 hC=>ZG (.tmp 3) rfl q rfl y ta tc (HY.out w0 hC)) ?_;refine zQ (.agg #[.int .i64 y.house,.int .i64 y.num]) (fun w0 hC=>?_) ?_
         ·go_simp;refine(ZA y ta tc _).mono ?_;rintro e w1 ⟨rfl,b1⟩;exact⟨rfl,hC.trans (b1.mono hC.size)⟩
         refine zQ (.bool false) (fun w0 hC=>?_) ?_
         ·clear hC;go_simp;have h:=HD.out;simp[h.1,h.2]
         refine zV (.bool false) ?_;refine zv p 2 ?_;refine zQ (.int .i64 x.clock) (fun w0 hC=>?_) ?_
         ·have c2:=zc (HX.out w0 hC) 2 _ rfl;clear hC;go_simp
         refine zv q 2 ?_;refine zQ (.int .i64 y.clock) (fun w0 hC=>?_) ?_
         ·have c2:=zc (HY.out w0 hC) 2 _ rfl;clear hC;go_simp
         refine zV (.bool false) ?_;refine zV (.bool false) ?_;refine zV (.bool false) ?_;refine zv p 3 ?_;refine zQ (.int .i64 x.day) (fun w0 hC=>?_) ?_
         ·have c3:=zc (HX.out w0 hC) 3 _ rfl;clear hC;go_simp
         refine zv q 3 ?_;refine zQ (.int .i64 y.day) (fun w0 hC=>?_) ?_
         ·have c3:=zc (HY.out w0 hC) 3 _ rfl;clear hC;go_simp
         refine zV (.bool false) ?_;refine zV (.bool false) ?_;refine zV (.bool false) ?_;refine zv p 4 ?_;refine zQ (.int .i64 x.kind) (fun w0 hC=>?_) ?_
         ·have c4:=zc (HX.out w0 hC) 4 _ rfl;clear hC;go_simp
         refine zv q 4 ?_;refine zQ (.int .i64 y.kind) (fun w0 hC=>?_) ?_
         ·have c4:=zc (HY.out w0 hC) 4 _ rfl;clear hC;go_simp
         refine zV (.bool false) ?_;refine zV (.bool false) ?_;refine zV (.bool false) ?_;refine zv p 5 ?_;refine zQ (.int .i64 x.stone) (fun w0 hC=>?_) ?_
         ·have c5:=zc (HX.out w0 hC) 5 _ rfl;clear hC;go_simp
         refine zv q 5 ?_;refine zQ (.int .i64 y.stone) (fun w0 hC=>?_) ?_
         ·have c5:=zc (HY.out w0 hC) 5 _ rfl;clear hC;go_simp
         refine zV (.bool true) ?_;refine zV (.bool true) ?_;refine zV (.bool true) ?_
         iterate 5 go_big_quiet_skip
         refine zV (.bool true) ?_;refine zV (.bool true) ?_
         iterate 5 go_big_quiet_skip
         refine zV (.bool true) ?_;refine wpQuiet_nil ?_;intro w' hC;go_wp2;go_ret;rw[HR.out];exact⟨rfl,by rw[HPE.out];exact HB.out.trans (hC.mono hZ)⟩
       ·have q3:=Z00 h3;have hR:Yv x y=false:=by rw[<-Bool.not_eq_true,JA];intro h;exact h3 h.2.1.2.2.1
        have HR:=zH hR;clear hR h3;go_upto_region 8 with fail;refine zC (fun w':World=>Below W.heap.size W w') hC0 ?_;refine zQ (.agg (Z5 x sa sc)) (fun w0 hC=>ZG (.tmp 2) rfl p rfl x sa sc (HX.out w0 hC)) ?_;refine zQ (.agg #[.int .i64 x.house,.int .i64 x.num]) (fun w0 hC=>?_) ?_
        ·go_simp;refine(ZA x sa sc _).mono ?_;rintro e w1 ⟨rfl,b1⟩;exact⟨rfl,hC.trans (b1.mono hC.size)⟩
        refine zQ (.agg (Z5 y ta tc)) (fun w0 hC=>ZG (.tmp 3) rfl q rfl y ta tc (HY.out w0 hC)) ?_;refine zQ (.agg #[.int .i64 y.house,.int .i64 y.num]) (fun w0 hC=>?_) ?_
        ·go_simp;refine(ZA y ta tc _).mono ?_;rintro e w1 ⟨rfl,b1⟩;exact⟨rfl,hC.trans (b1.mono hC.size)⟩
        refine zQ (.bool false) (fun w0 hC=>?_) ?_
        ·clear hC;go_simp;have h:=HD.out;simp[h.1,h.2]
        refine zV (.bool false) ?_;refine zv p 2 ?_;refine zQ (.int .i64 x.clock) (fun w0 hC=>?_) ?_
        ·have c2:=zc (HX.out w0 hC) 2 _ rfl;clear hC;go_simp
        refine zv q 2 ?_;refine zQ (.int .i64 y.clock) (fun w0 hC=>?_) ?_
        ·have c2:=zc (HY.out w0 hC) 2 _ rfl;clear hC;go_simp
        refine zV (.bool false) ?_;refine zV (.bool false) ?_;refine zV (.bool false) ?_;refine zv p 3 ?_;refine zQ (.int .i64 x.day) (fun w0 hC=>?_) ?_
        ·have c3:=zc (HX.out w0 hC) 3 _ rfl;clear hC;go_simp
        refine zv q 3 ?_;refine zQ (.int .i64 y.day) (fun w0 hC=>?_) ?_
        ·have c3:=zc (HY.out w0 hC) 3 _ rfl;clear hC;go_simp
        refine zV (.bool false) ?_;refine zV (.bool false) ?_;refine zV (.bool false) ?_;refine zv p 4 ?_;refine zQ (.int .i64 x.kind) (fun w0 hC=>?_) ?_
        ·have c4:=zc (HX.out w0 hC) 4 _ rfl;clear hC;go_simp
        refine zv q 4 ?_;refine zQ (.int .i64 y.kind) (fun w0 hC=>?_) ?_
        ·have c4:=zc (HY.out w0 hC) 4 _ rfl;clear hC;go_simp
        refine zV (.bool true) ?_;refine zV (.bool true) ?_;refine zV (.bool true) ?_
        iterate 5 go_big_quiet_skip
        refine zV (.bool true) ?_;refine zV (.bool true) ?_
        iterate 5 go_big_quiet_skip
        refine zV (.bool true) ?_;refine zV (.bool true) ?_
        iterate 5 go_big_quiet_skip
        refine zV (.bool true) ?_;refine wpQuiet_nil ?_;intro w' hC;go_wp2;go_ret;rw[HR.out];exact⟨rfl,by rw[HPE.out];exact HB.out.trans (hC.mono hZ)⟩
      ·have q2:=Z00 h2;have hR:Yv x y=false:=by rw[<-Bool.not_eq_true,JA];intro h;exact h2 h.2.1.2.1
       have HR:=zH hR;clear hR h2;go_upto_region 8 with fail;refine zC (fun w':World=>Below W.heap.size W w') hC0 ?_;refine zQ (.agg (Z5 x sa sc)) (fun w0 hC=>ZG (.tmp 2) rfl p rfl x sa sc (HX.out w0 hC)) ?_;refine zQ (.agg #[.int .i64 x.house,.int .i64 x.num]) (fun w0 hC=>?_) ?_
       ·go_simp;refine(ZA x sa sc _).mono ?_;rintro e w1 ⟨rfl,b1⟩;exact⟨rfl,hC.trans (b1.mono hC.size)⟩
       refine zQ (.agg (Z5 y ta tc)) (fun w0 hC=>ZG (.tmp 3) rfl q rfl y ta tc (HY.out w0 hC)) ?_;refine zQ (.agg #[.int .i64 y.house,.int .i64 y.num]) (fun w0 hC=>?_) ?_
       ·go_simp;refine(ZA y ta tc _).mono ?_;rintro e w1 ⟨rfl,b1⟩;exact⟨rfl,hC.trans (b1.mono hC.size)⟩
       refine zQ (.bool false) (fun w0 hC=>?_) ?_
       ·clear hC;go_simp;have h:=HD.out;simp[h.1,h.2]
       refine zV (.bool false) ?_;refine zv p 2 ?_;refine zQ (.int .i64 x.clock) (fun w0 hC=>?_) ?_
       ·have c2:=zc (HX.out w0 hC) 2 _ rfl;clear hC;go_simp
       refine zv q 2 ?_;refine zQ (.int .i64 y.clock) (fun w0 hC=>?_) ?_
       ·have c2:=zc (HY.out w0 hC) 2 _ rfl;clear hC;go_simp
       refine zV (.bool false) ?_;refine zV (.bool false) ?_;refine zV (.bool false) ?_;refine zv p 3 ?_;refine zQ (.int .i64 x.day) (fun w0 hC=>?_) ?_
       ·have c3:=zc (HX.out w0 hC) 3 _ rfl;clear hC;go_simp
       refine zv q 3 ?_;refine zQ (.int .i64 y.day) (fun w0 hC=>?_) ?_
       ·have c3:=zc (HY.out w0 hC) 3 _ rfl;clear hC;go_simp
       refine zV (.bool true) ?_;refine zV (.bool true) ?_;refine zV (.bool true) ?_
       iterate 5 go_big_quiet_skip
       refine zV (.bool true) ?_;refine zV (.bool true) ?_
       iterate 5 go_big_quiet_skip
       refine zV (.bool true) ?_;refine zV (.bool true) ?_
       iterate 5 go_big_quiet_skip
       refine zV (.bool true) ?_;refine zV (.bool true) ?_
       iterate 5 go_big_quiet_skip
       refine zV (.bool true) ?_;refine wpQuiet_nil ?_;intro w' hC;go_wp2;go_ret;rw[HR.out];exact⟨rfl,by rw[HPE.out];exact HB.out.trans (hC.mono hZ)⟩
     ·have q1:=Z00 h1;have hR:Yv x y=false:=by rw[<-Bool.not_eq_true,JA];intro h;exact h1 h.2.1.1
      have HR:=zH hR;clear hR h1;go_upto_region 8 with fail;refine zC (fun w':World=>Below W.heap.size W w') hC0 ?_;refine zQ (.agg (Z5 x sa sc)) (fun w0 hC=>ZG (.tmp 2) rfl p rfl x sa sc (HX.out w0 hC)) ?_;refine zQ (.agg #[.int .i64 x.house,.int .i64 x.num]) (fun w0 hC=>?_) ?_
      ·go_simp;refine(ZA x sa sc _).mono ?_;rintro e w1 ⟨rfl,b1⟩;exact⟨rfl,hC.trans (b1.mono hC.size)⟩
      refine zQ (.agg (Z5 y ta tc)) (fun w0 hC=>ZG (.tmp 3) rfl q rfl y ta tc (HY.out w0 hC)) ?_;refine zQ (.agg #[.int .i64 y.house,.int .i64 y.num]) (fun w0 hC=>?_) ?_
      ·go_simp;refine(ZA y ta tc _).mono ?_;rintro e w1 ⟨rfl,b1⟩;exact⟨rfl,hC.trans (b1.mono hC.size)⟩
      refine zQ (.bool false) (fun w0 hC=>?_) ?_
      ·clear hC;go_simp;have h:=HD.out;simp[h.1,h.2]
      refine zV (.bool false) ?_;refine zv p 2 ?_;refine zQ (.int .i64 x.clock) (fun w0 hC=>?_) ?_
      ·have c2:=zc (HX.out w0 hC) 2 _ rfl;clear hC;go_simp
      refine zv q 2 ?_;refine zQ (.int .i64 y.clock) (fun w0 hC=>?_) ?_
      ·have c2:=zc (HY.out w0 hC) 2 _ rfl;clear hC;go_simp
      refine zV (.bool true) ?_;refine zV (.bool true) ?_;refine zV (.bool true) ?_
      iterate 5 go_big_quiet_skip
      refine zV (.bool true) ?_;refine zV (.bool true) ?_
      iterate 5 go_big_quiet_skip
      refine zV (.bool true) ?_;refine zV (.bool true) ?_
      iterate 5 go_big_quiet_skip
      refine zV (.bool true) ?_;refine zV (.bool true) ?_
      iterate 5 go_big_quiet_skip
      refine zV (.bool true) ?_;refine zV (.bool true) ?_
      iterate 5 go_big_quiet_skip
      refine zV (.bool true) ?_;refine wpQuiet_nil ?_;intro w' hC;go_wp2;go_ret;rw[HR.out];exact⟨rfl,by rw[HPE.out];exact HB.out.trans (hC.mono hZ)⟩
    ·have HD:=zH h0;have hR:Yv x y=false:=by rw[<-Bool.not_eq_true,JA];intro h;exact h0 h.1
     have HR:=zH hR;clear hR h0;go_upto_region 8 with fail;refine zC (fun w':World=>Below W.heap.size W w') hC0 ?_;refine zQ (.agg (Z5 x sa sc)) (fun w0 hC=>ZG (.tmp 2) rfl p rfl x sa sc (HX.out w0 hC)) ?_;refine zQ (.agg #[.int .i64 x.house,.int .i64 x.num]) (fun w0 hC=>?_) ?_
     ·go_simp;refine(ZA x sa sc _).mono ?_;rintro e w1 ⟨rfl,b1⟩;exact⟨rfl,hC.trans (b1.mono hC.size)⟩
     refine zQ (.agg (Z5 y ta tc)) (fun w0 hC=>ZG (.tmp 3) rfl q rfl y ta tc (HY.out w0 hC)) ?_;refine zQ (.agg #[.int .i64 y.house,.int .i64 y.num]) (fun w0 hC=>?_) ?_
     ·go_simp;refine(ZA y ta tc _).mono ?_;rintro e w1 ⟨rfl,b1⟩;exact⟨rfl,hC.trans (b1.mono hC.size)⟩
     refine zQ (.bool true) (fun w0 hC=>?_) ?_
     ·clear hC;go_simp;by_cases h1:x.house=y.house <;> by_cases h2:x.num=y.num <;> simp[h1,h2]
      exact HD.out ⟨h1,h2⟩
     refine zV (.bool true) ?_
     iterate 5 go_big_quiet_skip
     refine zV (.bool true) ?_;refine zV (.bool true) ?_
     iterate 5 go_big_quiet_skip
     refine zV (.bool true) ?_;refine zV (.bool true) ?_
     iterate 5 go_big_quiet_skip
     refine zV (.bool true) ?_;refine zV (.bool true) ?_
     iterate 5 go_big_quiet_skip
     refine zV (.bool true) ?_;refine zV (.bool true) ?_
     iterate 5 go_big_quiet_skip
     refine zV (.bool true) ?_;refine zV (.bool true) ?_
     iterate 5 go_big_quiet_skip
     refine zV (.bool true) ?_;refine wpQuiet_nil ?_;intro w' hC;go_wp2;go_ret;rw[HR.out];exact⟨rfl,by rw[HPE.out];exact HB.out.trans (hC.mono hZ)⟩
 ·have hbn:((x.strokes.length:Int) != (y.strokes.length:Int))=true:=by simp;omega
  have hR:Yv x y=false:=by rw[<-Bool.not_eq_true,JA];intro h;exact hln (by rw[h.2.2.2.2.2.2.2])
  have HR:=zH hR;clear hR hln;go_wp2;go_ret;rw[HR.out];exact⟨rfl,by rw[HPE.out];exact HB.out⟩
end
theorem Z2h {x y:NoteV}: Yv x y=true↔x=y:=by
 constructor
 ·intro h;obtain⟨⟨h1,h2⟩,⟨h3,h4,h5,h6,h7,h8⟩,⟨h9,h10⟩,⟨h11,h12⟩,⟨h13,h14,h15⟩,⟨h16,h17⟩,h18,h19⟩:=JA.1 h;cases x;cases y;simp only[NoteV.mk.injEq];exact⟨h1,h2,h3,h4,h5,h6,h7,h8,h9,h10,h11,h12,h13,h14,h15,h16,h17,h18,h19⟩
 ·rintro rfl;simp[Yv]
abbrev ltN (x y:NoteV):Prop:=Jx (Zk x) (Zk y)=true
theorem Z9F {x y z:NoteV}(h1:ltN x y)(h2:ltN y z):ltN x z:=by
 unfold ltN at *;rw[JH]at *;omega
theorem Z5h {x y:NoteV}(h:ltN x y):Jx (Zk y) (Zk x)=false:=by
 cases h2:Jx (Zk y) (Zk x)with
 | false=>rfl
 | true=>
  unfold ltN at h;rw[JH]at h h2;omega
theorem Z8i {x y:NoteV}(h:ltN x y)(e:Zk x=Zk y):False:=by
 unfold ltN at h;rw[e,JH]at h;omega
theorem ZaN {u:List NoteV}(h:u.Pairwise ltN):u.Nodup:=by
 rw[List.Nodup];exact h.imp (fun {x y} hxy (e:x=y)=>Z8i hxy (congrArg Zk e))
theorem Z3F {u v:List NoteV}(h1:u.Pairwise ltN)(h2:v.Pairwise ltN)(h : ∀x,x∈u↔x∈v):u=v:=by
 have hp:u.Perm v:=(List.perm_ext_iff_of_nodup (ZaN h1) (ZaN h2)).2 h;refine Vb (lt:=fun x y=>Jx (Zk x) (Zk y)) (fun x hx y hy h3 h4=>?_) hp (h1.imp Z5h) (h2.imp Z5h);exact Z0G (VH h1) hx hy (Z1E h3 h4)
theorem Z6c {l:List NoteV}{i:Nat}{x:NoteV}(hx:l[i]? = some x):l.drop i=x :: l.drop (i+1):=by
 obtain⟨h1,h2⟩:=List.getElem?_eq_some_iff.1 hx;rw[List.drop_eq_getElem_cons h1,h2]
section
variable {l m out:List NoteV}{i k:Nat}{x y:NoteV}
end
theorem Z96 (n:NoteV): ∀(l:List NoteV) (k:Nat),k<=l.length->(∀j y,j < k->l[j]? = some y->XT y n < 0)->(∀y,l[k]? = some y -> ¬XT y n < 0)->Z0T n l=l.take k ++ n :: l.drop k
 | [],k,hk,_,_=>by
  obtain rfl:k=0:=by simpa using hk
  rfl
 | a :: l,0,_,_,h2=>by
  rw[Z0T,if_neg (h2 a rfl)]
  rfl
 | a :: l,k+1,hk,h1,h2=>by
  rw[Z0T,if_pos (h1 0 a (by omega) rfl),Z96 n l k (by simpa using hk) (fun j y hj hy=>h1 (j+1) y (by omega) hy) (fun y hy=>h2 y hy)]
  rfl
def Z8q (lt:NoteV->NoteV->Bool)(n:NoteV):List NoteV->List NoteV
 | []=>[n]
 | y :: ys=>if lt y n=true then y :: Z8q lt n ys else n :: y :: ys
def Z1A (x r:NoteV):Bool := !Xf x && (Xf r && (decide (Z2Y x=Zk r) && (decide (x.kind=6) ||(!decide (x.fix=2) || decide (r.kind=2)))))
theorem Z3Q {x:NoteV}(r:NoteV)(hx:1<=x.kind/\x.kind<=6):Z1A x r=Jm r x:=by
 unfold Z1A Jm Jp Xf;rw[show Xx x.kind 1 4=decide (1<=x.kind/\x.kind<=4)from by unfold Xx;simp];by_cases h:1<=x.kind/\x.kind<=4
 ·simp[h]
 ·have h5:x.kind=5\/x.kind=6:=by omega
  rcases h5 with h5 | h5 <;> simp[h5] <;> cases Xx r.kind 1 4 <;> simp
theorem zt (l:List NoteV)(r:NoteV){k:Nat}{x:NoteV}(h:l[k]? = some x):QD (l.take (k+1)) r=Xy r (QD (l.take k) r) x:=by
 unfold QD;rw[Y8 h,List.foldl_append];rfl
theorem Z7H {r x:NoteV}{b:Option NoteV}(hc:Jm r x=false):Xy r b x=b:=by
 unfold Xy;rw[if_neg (by rw[hc];decide)]
theorem Z6i {r x:NoteV}(hc:Jm r x=true):Xy r none x=some x:=by
 unfold Xy;rw[if_pos hc]
theorem Z3b {r x y:NoteV}(hc:Jm r x=true):Xy r (some y) x=if Xa y x < 0 then some x else some y:=by
 unfold Xy;rw[if_pos hc]
def QO (l:List NoteV)(r:NoteV)(k:Nat)(i:Int):Prop:=(i = -1/\QD (l.take k) r=none) \/ ∃(j:Nat) (x:NoteV),i=(j:Int)/\l[j]? = some x/\QD (l.take k) r=some x
theorem QO.start (l:List NoteV)(r:NoteV):QO l r 0 (-1) := .inl ⟨rfl,rfl⟩
theorem QO.skip {l:List NoteV}{r x:NoteV}{k:Nat}{i:Int}(h:QO l r k i)(hx:l[k]? = some x)(hc:Jm r x=false):QO l r (k+1) i:=by
 have e:QD (l.take (k+1)) r=QD (l.take k) r:=by rw[zt l r hx,Z7H hc]
 unfold QO;rw[e];exact h
theorem QO.first {l:List NoteV}{r x:NoteV}{k:Nat}{i:Int}(h:QO l r k i)(hi:i < 0)(hx:l[k]? = some x)(hc:Jm r x=true):QO l r (k+1) (k:Int):=by
 rcases h with ⟨_,h⟩ | ⟨j,y,rfl,_⟩
 ·exact .inr ⟨k,x,rfl,hx,by rw[zt l r hx,h,Z6i hc]⟩
 ·omega
theorem QO.better {l:List NoteV}{r x y:NoteV}{k j:Nat}(h:QO l r k (j:Int))(hx:l[k]? = some x)(hy:l[j]? = some y)(hc:Jm r x=true)(hk:Xa y x < 0):QO l r (k+1) (k:Int):=by
 rcases h with ⟨h,_⟩ | ⟨j',y',e,hy',h⟩
 ·omega
 ·obtain rfl:j=j':=by omega
  rw[hy]at hy';cases hy';exact .inr ⟨k,x,rfl,hx,by rw[zt l r hx,h,Z3b hc,if_pos hk]⟩
theorem QO.worse {l:List NoteV}{r x y:NoteV}{k j:Nat}(h:QO l r k (j:Int))(hx:l[k]? = some x)(hy:l[j]? = some y)(hc:Jm r x=true)(hk : ¬Xa y x < 0):QO l r (k+1) (j:Int):=by
 rcases h with ⟨h,_⟩ | ⟨j',y',e,hy',h⟩
 ·omega
 ·obtain rfl:j=j':=by omega
  rw[hy]at hy';cases hy';exact .inr ⟨j,y,rfl,hy,by rw[zt l r hx,h,Z3b hc,if_neg hk]⟩
def Z2D (l:List NoteV)(k:Nat):List NoteV:=Z3G ((l.take k).filterMap (countP l))
theorem Z7X (l:List NoteV)(n:NoteV):Z3G (l ++ [n])=Z0T n (Z3G l):=by simp[Z3G,List.foldl_append]
theorem Za4 {l:List NoteV}{k:Nat}{x:NoteV}(h:l[k]? = some x)(hc:countP l x=none):Z2D l (k+1)=Z2D l k:=by
 unfold Z2D;rw[Y8 h,List.filterMap_append,List.filterMap_cons_none hc,List.filterMap_nil,List.append_nil]
theorem Za3 {l:List NoteV}{k:Nat}{x n:NoteV}(h:l[k]? = some x)(hc:countP l x=some n):Z2D l (k+1)=Z0T n (Z2D l k):=by
 unfold Z2D;rw[Y8 h,List.filterMap_append,List.filterMap_cons_some hc,List.filterMap_nil,Z7X]
theorem Zbd (l:List NoteV):Z2D l l.length=Ur l:=by
 unfold Z2D Ur;rw[List.take_length]
theorem Zbc (l:List NoteV)(k:Nat):(Z2D l k).length<=k:=by
 unfold Z2D;rw[(zg _).length_eq];refine Nat.le_trans (List.length_filterMap_le _ _) ?_;rw[List.length_take];omega
theorem Qp (lt:NoteV->NoteV->Bool)(n:NoteV): ∀l:List NoteV,(Z8q lt n l).Perm (n :: l)
 | []=>List.Perm.refl _
 | y :: ys=>by
  unfold Z8q
  split
  ·exact((Qp lt n ys).cons y).trans (List.Perm.swap ..)
  ·exact List.Perm.refl _
def Z09 (c:Int->Nat)(h:Int):Int->Nat:=fun a=>if a=h then c a+1 else c a
def Qr (K:List NoteV)(c:Int->Nat):Prop := ∀h k:Int,(∃x∈K,Zk x=(h,k))↔1<=k/\k<=(c h:Int)
def Xn (K:List NoteV)(n:NoteV):Option NoteV:=K.find? (fun x=>decide (Zk x=Zk n))
def Ym (l:List NoteV):List NoteV->(Int->Nat)->List NoteV->Option (List NoteV×(Int->Nat))
 | fr,c,[]=>some (fr,c)
 | fr,c,n :: ns=>match Xn (l ++ fr) n with
  | some o=>if Yv o n=true then Ym l fr c ns else none
  | none=>if (c n.house:Int)+1 < n.num then Ym l fr c ns else Ym l (fr ++ [n]) (Z09 c n.house) ns
def YI (l:List NoteV)(n:NoteV):List NoteV:=Z8q (fun x y=>Jx (Zk x) (Zk y)) n l
def Z6n (l fr:List NoteV):List NoteV:=fr.foldl YI l
theorem Z1I {K:List NoteV}{n o:NoteV}(h:Xn K n=some o):o∈K/\Zk o=Zk n:=by
 unfold Xn at h;exact⟨List.mem_of_find?_eq_some h,by simpa using List.find?_some h⟩
theorem JQ {K:List NoteV}{n:NoteV}(h:Xn K n=none): ∀y∈K,Zk y≠Zk n:=by
 unfold Xn at h;rw[List.find?_eq_none]at h;intro y hy e;exact h y hy (by simpa using e)
theorem Z8n {K:List NoteV}{n:NoteV}(h : ∀y∈K,Zk y≠Zk n):Xn K n=none:=by
 unfold Xn;rw[List.find?_eq_none];intro y hy e;exact h y hy (by simpa using e)
theorem Qr.free {K:List NoteV}{c:Int->Nat}(h:Qr K c){n:NoteV}(h1:1<=n.num)(hn : ∀y∈K,Zk y≠Zk n):(c n.house:Int) < n.num:=by
 have:=(h n.house n.num).2;by_cases h2:n.num<=(c n.house:Int)
 ·obtain⟨x,hx,e⟩:=this ⟨h1,h2⟩;exact absurd e (hn x hx)
 ·omega
theorem Qr.le {K:List NoteV}{c:Int->Nat}(h:Qr K c){n:NoteV}(hn:n∈K):1<=n.num/\n.num<=(c n.house:Int):=(h n.house n.num).1 ⟨n,hn,rfl⟩
theorem Qr.add {K:List NoteV}{c:Int->Nat}(h:Qr K c){n:NoteV}(hk:n.num=(c n.house:Int)+1):Qr (K ++ [n]) (Z09 c n.house):=fun a k=>by
 have e1:(∃x∈K ++ [n],Zk x=(a,k))↔(∃x∈K,Zk x=(a,k))\/Zk n=(a,k):=by
  constructor
  ·rintro⟨x,hx,e⟩;rcases List.mem_append.1 hx with hx | hx
   ·exact .inl ⟨x,hx,e⟩
   ·rw[List.mem_singleton.1 hx]at e;exact .inr e
  ·rintro(⟨x,hx,e⟩ | e)
   ·exact⟨x,List.mem_append_left _ hx,e⟩
   ·exact⟨n,by simp,e⟩
 rw[e1,h a k];unfold Z09;have e2:Zk n=(a,k)↔n.house=a/\n.num=k:=by
  show(n.house,n.num)=(a,k)↔_;rw[Prod.mk.injEq]
 rw[e2];by_cases ha:a=n.house
 ·subst ha;simp;omega
 ·rw[if_neg ha];constructor
  ·rintro(h2 | h2)
   ·exact h2
   ·exact absurd h2.1.symm ha
  ·exact .inl
theorem Qr.perm {K L:List NoteV}{c:Int->Nat}(h:Qr K c)(hm : ∀x,x∈L↔x∈K):Qr L c:=fun a k=>by
 rw[<-h a k]
 constructor
 ·rintro⟨x,hx,e⟩;exact⟨x,(hm x).1 hx,e⟩
 ·rintro⟨x,hx,e⟩;exact⟨x,(hm x).2 hx,e⟩
theorem Z3x {l:List NoteV}: ∀(ns fr:List NoteV) (c:Int->Nat) {fr':List NoteV} {c':Int->Nat},Qr (l ++ fr) c->((l ++ fr).map Zk).Nodup->(∀n∈ns,1<=n.num)->Ym l fr c ns=some (fr',c')->
  Qr (l ++ fr') c'/\((l ++ fr').map Zk).Nodup/\(∀x∈fr',x∈fr\/x∈ns)/\fr'.length<=fr.length+ns.length
 | [],fr,c,fr',c',h1,h2,_,h=>by
  simp only[Ym,Option.some.injEq,Prod.mk.injEq]at h
  obtain⟨rfl,rfl⟩:=h
  exact⟨h1,h2,fun x hx=>.inl hx,by simp⟩
 | n :: ns,fr,c,fr',c',h1,h2,h3,h=>by
  rw[Ym]at h
  have h3' : ∀m∈ns,1<=m.num:=fun m hm=>h3 m (List.mem_cons_of_mem _ hm)
  split at h
  ·split at h
   ·obtain⟨a1,a2,a3,a4⟩:=Z3x ns fr c h1 h2 h3' h
    exact⟨a1,a2,fun x hx=>(a3 x hx).imp id (List.mem_cons_of_mem _),by rw[List.length_cons];omega⟩
   ·cases h
  ·rename_i hk
   have hfree:=JQ hk
   split at h
   ·obtain⟨a1,a2,a3,a4⟩:=Z3x ns fr c h1 h2 h3' h
    exact⟨a1,a2,fun x hx=>(a3 x hx).imp id (List.mem_cons_of_mem _),by rw[List.length_cons];omega⟩
   ·rename_i hle
    have hlt:=h1.free (h3 n (List.mem_cons_self ..)) hfree
    have hadd:=h1.add (n:=n) (by omega)
    rw[List.append_assoc]at hadd
    obtain⟨a1,a2,a3,a4⟩:=Z3x ns (fr ++ [n]) (Z09 c n.house) hadd (by
     rw[<-List.append_assoc,List.map_append]
     refine List.nodup_append.2 ⟨h2,by simp,fun a ha b hb e=>?_⟩
     rw[List.map_singleton,List.mem_singleton]at hb
     obtain⟨x,hx,rfl⟩:=List.mem_map.1 ha
     exact hfree x hx (e.trans hb)) h3' h
    refine⟨a1,a2,fun x hx=>?_,by rw[List.length_append]at a4;rw[List.length_cons];simp at a4;omega⟩
    rcases a3 x hx with h5 | h5
    ·rcases List.mem_append.1 h5 with h5 | h5
     ·exact .inl h5
     ·rw[List.mem_singleton.1 h5];exact .inr (List.mem_cons_self ..)
    ·exact .inr (List.mem_cons_of_mem _ h5)
theorem Qb {l:List NoteV}{n x:NoteV}: x∈YI l n↔x∈l\/x=n:=by
 unfold YI;rw[(Qp _ n l).mem_iff,List.mem_cons];exact Or.comm
theorem Z37 {n:NoteV}: ∀{l:List NoteV},l.Pairwise ltN->(∀y∈l,Zk y≠Zk n)->(YI l n).Pairwise ltN
 | [],_,_=>by simp[YI,Z8q]
 | y :: ys,h,hf=>by
  rw[List.pairwise_cons]at h
  have hf' : ∀z∈ys,Zk z≠Zk n:=fun z hz=>hf z (List.mem_cons_of_mem _ hz)
  have ih:=Z37 h.2 hf'
  unfold YI at ih ⊢
  unfold Z8q
  split
  ·rename_i hy
   refine List.pairwise_cons.2 ⟨fun z hz=>?_,ih⟩
   rcases(Qb (l:=ys) (n:=n) (x:=z)).1 hz with hz | rfl
   ·exact h.1 z hz
   ·exact hy
  ·rename_i hy
   have hny:ltN n y:=by
    unfold ltN;cases h2:Jx (Zk n) (Zk y)with
    | true=>rfl
    | false=>exact absurd (Z1E (by simpa using hy) h2) (hf y (List.mem_cons_self ..))
   refine List.pairwise_cons.2 ⟨fun z hz=>?_,List.pairwise_cons.2 h⟩;rcases List.mem_cons.1 hz with rfl | hz
   ·exact hny
   ·exact Z9F hny (h.1 z hz)
theorem Z4B: ∀(fr l:List NoteV),(Z6n l fr).length=l.length+fr.length
 | [],l=>by simp[Z6n]
 | n :: fr,l=>by
  show(Z6n (YI l n) fr).length=_
  rw[Z4B fr (YI l n),YI,(Qp _ n l).length_eq,List.length_cons,List.length_cons]
  omega
attribute [local go_sem] Oper.semAt_some
section
variable {α:Type}{enc:α->Value}{f:Nm->Option α}{F:Fence}{m:Nat}(w:World){ops:Array Oper}{rest:List Oper}{o:Oper}{a:Act}{Q:Exit->Act->World->Prop}
theorem Z1t (hg:o.guard=none)(x:Operand)(t e:TypeId)(hop:o.op=Op.range t x)(ht:zq.underlying t=some (.map 45 e))(b n:Nat)(hm:a.eval x = .map (some b))(hmap:YY enc w b n f)
  (hK : ∀w' cnt,YB enc w' b w.heap.size n f [] cnt->w.grownBy w' none->w'.heap.size=w.heap.size+1->wpListIn F m zq ops Q rest (a.put o.dst (.pointer (some ⟨w.heap.size,0,none⟩))) w'):wpListIn F m zq ops Q (o :: rest) a w:=by
 obtain⟨D,h1,h2⟩:=hmap;exact wpListIn_range_own w hg x t hop 45 e QB ht U6 b n D hm h1 (fun w' h3 h4 h5=>hK w' _ ⟨D,_,h3,h2,fun k hk=>by rw[h2.has k hk];simp,List.nodup_nil,by have:=h1.size_le;simpa using this⟩ h4 h5)
theorem Z2b (hg:o.guard=none)(it:Operand)(hop:o.op=Op.next it false)(b r n cnt:Nat)(ks:List Nm)(hit:a.eval it = .pointer (some ⟨r,0,none⟩))(h:YB enc w b r n f ks cnt)
  (hDone:JS f ks->wpListIn F m zq ops Q rest (a.put o.dst (.tuple #[.bool false])) w)
  (hMore : ∀kh km y w' cnt',Hid (Z9c enc w b r n cnt f ks kh km y w' cnt')->
   (Instr.entry (.pointer (some ⟨r,0,none⟩))).run zq w' = .ok (.tuple #[.agg #[.int .i64 kh,.int .i64 km],enc y]) w'->wpListIn F m zq ops Q rest (a.put o.dst (.tuple #[.bool true,.agg #[.int .i64 kh,.int .i64 km],enc y])) w'):wpListIn F m zq ops Q (o :: rest) a w:=by
 obtain⟨D,left,h1,h2,h3,h4,hcn⟩:=h;refine wpListIn_next_ranges (α:=Nm) (β:=Value) w hg it hop 45 QB U6 nmV id (fun key kl hk=>by obtain⟨a,rfl,_⟩:=Z0J hk;exact⟨a,rfl⟩) (fun v _ _=>⟨v,rfl⟩) b r n D left cnt hit h1 (fun _ hl=>hDone (fun k hk=>?_)) (fun k c kl y w' cnt' hkey hlk hv hat hrg hlt hgr hsz hen => ?_)
 ·have:=hl (nmL k);rw[h3 k (h2.ok k hk),hk]at this;simpa using this
 ·obtain⟨k',e1,hk',rfl⟩:=Z0J hkey;cases Z5Z e1;rw[h3 k hk']at hlk;simp only[Bool.and_eq_true,Bool.not_eq_true',decide_eq_false_iff_not]at hlk;obtain⟨x,hx⟩:=Option.isSome_iff_exists.1 hlk.1;have hy:=hat (.lit (.bool true));rw[h2.val k x hx]at hy;simp only[U6,Option.some.injEq]at hv;rw[<-hv]at hy;simp only[DataW.held.injEq,id_eq]at hy;subst hy;refine hMore k.1 k.2 x w' cnt' (zH ⟨hx,hlk.2,hk',⟨D,_,hrg,h2,fun a ha=>?_,?_,by rw[List.length_append,List.length_singleton];omega⟩,hlt,hgr,hsz⟩) hen
  ·rw[h3 a ha];by_cases e:a=k
   ·subst e;have:(nmL a).sameKey (nmL a)=true:=WideAt.sameKey_self (Z1F _);simp[this]
   ·have:(nmL a).sameKey (nmL k)=false:=Maps.sameKey_ne (fun he=>e (zk ha hk' he));simp[this,e]
  ·exact List.nodup_append.2 ⟨h4,by simp,fun a ha b hb e=>hlk.2 (by rw[List.mem_singleton]at hb;rw[<-show b=k from hb,<-e];exact ha)⟩
end
theorem ZR.turn {rec:LoopState->Option Code->Loop}{D:Nat}{st:LoopState}{pe:Option Code}{W W':World}{r:Nat}{o:Obj}(h:ZR rec D st pe W)(hr:W.heap[r]? = some o)(ho1 : ∀l,o ≠ .loop l)(ho2 : ∀l,o ≠ .deferred l)(hg:W.grownBy W' (some r)):ZR rec D st pe W':=
 ⟨Zc hg h.1 (fun e=>by have h1:=h.1;rw[Option.some.inj e,hr]at h1;exact ho1 _ (Option.some.inj h1)),Zc hg h.2 (fun e=>by have h1:=h.2;rw[Option.some.inj e,hr]at h1;exact ho2 _ (Option.some.inj h1))⟩
structure Z0V (Wb:World)(p:Nat)(ks:List Nm)(W:World):Prop where
 blk : ∃a c,W.heap[p]? = some (.cells #[.slice a ks.length c] 75)/\W.ownsRow Wb.heap.size 45 2 (.slice a ks.length c) ks.length (ZH ks)
 same:Za (fun k=>k=p) Wb W
theorem Z0V.below {Wb W W':World}{p:Nat}{ks:List Nm}(h:Z0V Wb p ks W)(hb:Below W.heap.size W W'):Z0V Wb p ks W':=by
 obtain⟨⟨a,c,h1,h2⟩,h3⟩:=h;exact⟨⟨a,c,Z7 hb h1,Zb h2 hb⟩,h3.trans (Za.of_below hb)⟩
theorem Z0V.turn {Wb W W':World}{p r:Nat}{ks:List Nm}{o:Obj}(h:Z0V Wb p ks W)(hr:W.heap[r]? = some o)(ho : ∀c t fr,o ≠ .cells c t fr)(hg:W.grownBy W' (some r))(hge:Wb.heap.size<=r):Z0V Wb p ks W':=by
 obtain⟨⟨a,c,h1,h2⟩,h3⟩:=h;exact⟨⟨a,c,Zc hg h1 (fun e=>by rw[Option.some.inj e,hr]at h1;exact ho _ _ _ (Option.some.inj h1)),h2.kept hg (.inr (Zg h2 hr (fun cur=>ho _ _ _)).symm)⟩,h3.reg (Za.of_grown hg (fun k e=>by cases e;exact .inr hge))⟩
theorem Z0V.putObj {Wb W:World}{p:Nat}{ks:List Nm}(h:Z0V Wb p ks W)(o:Loop)(hl : ∃r,W.heap[Wb.heap.size+1]? = some (.loop r)):Z0V Wb p ks (W.putObj (Wb.heap.size+1) (.loop o)):=by
 obtain⟨r,hl⟩:=hl;exact h.turn hl (fun _ _ _=>by simp) (grownBy_putObj' W _ _) (by omega)
theorem Z0V.add {Wb W V:World}{p:Nat}{ks:List Nm}{k:Nm}{a a':zA}{c c':Nat}(hs:Za (fun k=>k=p) Wb W)(hp:W.heap[p]? = some (.cells #[.slice a ks.length c] 75))(how:W.ownsRow Wb.heap.size 45 2 (.slice a ks.length c) ks.length (ZH ks))
  (ho:V.ownsRow Wb.heap.size 45 2 (.slice a' (ks.length+1) c') (ks.length+1) (ZH ks ++ [.int .i64 k.1,.int .i64 k.2])) (hg:W.grownBy V (Value.ownBlock (.slice a ks.length c))):
  Z0V Wb p (ks ++ [k]) (V.setCell ⟨p,0,none⟩ (.slice a' (ks.length+1) c'))/\V.heap[p]? = some (.cells #[.slice a ks.length c] 75):=by
 have hb2:=Zc hg hp (Zg how hp (by intro cur;simp));have G:=Zj V p 0 (.slice a' (ks.length+1) c');refine⟨⟨⟨a',c',?_,?_⟩,hs.reg ((Za.of_grown hg (fun k e=>.inr (how.lt k e).1)).trans (Za.of_grown G (fun k e=>by cases e;exact .inl rfl)))⟩,hb2⟩
 ·rw[ZW hb2 0 (.slice a' (ks.length+1) c'),List.length_append];rfl
 ·rw[Vx,List.length_append];exact ho.kept G (.inr (Zg ho hb2 (by intro cur;simp)).symm)
theorem YB.turn {W W':World}{b r n cnt:Nat}{f:Nm->Option LN}{ks:List Nm}{row:Option Nat}(h:YB LN.val W b r n f ks cnt)(hg:W.grownBy W' row)(hrow : ∀q,row=some q -> ∃o,W.heap[q]? = some o/\(∀e c,o ≠ .map e c) /\ ∀a1 a2 a3 a4,o ≠ .mapIter a1 a2 a3 a4):YB LN.val W' b r n f ks cnt:=by
 obtain⟨es,clock,hsb⟩:=h.map.blk;obtain⟨bb,since,seen,c0,hr⟩:=h.blk;refine h.of_blocks ((Zc hg hsb (fun e=>?_)).trans hsb.symm) ((Zc hg hr (fun e=>?_)).trans hr.symm)
 ·obtain⟨o,h1,h2,h3⟩:=hrow b e.symm;rw[hsb]at h1;exact h2 _ _ (Option.some.inj h1).symm
 ·obtain⟨o,h1,h2,h3⟩:=hrow r e.symm;rw[hr]at h1;exact h3 _ _ _ _ (Option.some.inj h1).symm
abbrev KSt:=List Nm×Nm×Nat×Nat
def KAt (Wb:World)(p b n:Nat)(f:Nm->Option LN)(ks js:List Nm)(r cnt:Nat)(W:World):Prop:=Z0V Wb p js W/\YB LN.val W b r n f ks cnt/\Wb.heap.size<=r /\ ∀k∈ks,(f k).isSome=true
def ZbF (f:Nm->Option LN)(n:Nat)(w:World)(e:Ending)(W:World):Prop:=
 ∃(a:zA) (c:Nat) (ks:List Nm),e = .returned (.slice a ks.length c)/\W.ownsRow w.heap.size 45 2 (.slice a ks.length c) ks.length (ZH ks)/\JS f ks/\ks.Pairwise (fun x y=>Jx x y=true)/\(∀k∈ks,(f k).isSome=true)/\ks.length<=n
theorem Z9D {zs:List Nm}(hn:zs.Nodup)(hs:zs.Pairwise (fun x y=>Jx y x=false)):zs.Pairwise (fun x y=>Jx x y=true):=by
 refine(hs.and hn).imp (fun {x y} h => ?_);cases h2:Jx x y with
 | true=>rfl
 | false=>exact absurd (Z1E h2 h.1) h.2
section
attribute [local go_sem] ZS Xi
theorem Vg (n:NoteV)(sa:zA)(sc:Nat)(w:World):Calls zq 58 #[.agg (Z5 n sa sc)] w fun e w'=>e = .returned (.agg #[.int .i64 n.house,.int .i64 n.num])/\Below w.heap.size w w':=by
 have hb:=zB w (.cells (Z5 n sa sc) 47);go_enter Tryz.func58,Tryz.ntmps58;go_wp2_with fail;go_returns;exact⟨rfl,hb.alloc hb.size _⟩
end
section
attribute [local go_sem] J5
theorem Z0n (n:NoteV)(sa:zA)(sc:Nat)(w:World)(hs:Xe w sa n.strokes.length sc n.strokes)(hl:n.strokes.length<=1000000000):
  Calls zq 71 #[.agg (Z5 n sa sc)] w fun e w' => ∃ta tc,e = .returned (.agg (Z5 n ta tc))/\w'.ownsRow w.heap.size 3 1 (.slice ta n.strokes.length tc) n.strokes.length (n.strokes.map Yo)/\Below w.heap.size w w':=by
 have I43:=zH zI;go_enter Tryz.func71,Tryz.ntmps71;go_upto_region 1 with fail;rw[<-ZZ];have g0:=Z8 _ (.cells (Z5 Zd none 0) 47) _ _ (Z9 w (.cells (Z5 n sa sc) 47));have g1:=Zm (w.alloc (.cells (Z5 n sa sc) 47)) (.cells (Z5 Zd none 0) 47) (w.heap.size+1) (by simp);have bb:Below w.heap.size w ((w.alloc (.cells (Z5 n sa sc) 47)).alloc (.cells (Z5 Zd none 0) 47)):=(zB _ _).alloc (by simp) _;have L0:Hid (Z4D w ((w.alloc (.cells (Z5 n sa sc) 47)).alloc (.cells (Z5 Zd none 0) 47)) w.heap.size (w.heap.size+1) (Z5 n sa sc) (Z5 Zd none 0) 47):=zH ⟨g0,g1,bb,by omega⟩;have RI:=zH (hs.below bb);clear g0 g1 bb hs;generalize (w.alloc (.cells (Z5 n sa sc) 47)).alloc (.cells (Z5 Zd none 0) 47)=W2 at *;generalize hp0:w.heap.size=p0 at *;generalize hp1:p0+1=p1 at *;have HP0:=zH hp0;clear hp0 hp1;obtain⟨m,hm⟩:=zX (n.strokes.length);have c15:W2.cell? ⟨p0,15,none⟩=some (.slice sa m sc):=by rw[<-hm.out];exact Z6 L0.out.e1 15 _ rfl
 rw[hm.out]at RI hl;go_wp2_with fail;refine(Z1n sa m sc n.strokes W2 (by omega) RI.out).mono ?_;rintro e W3 ⟨ta,tc,rfl,ho,b3⟩;have L3:=zH (L0.out.below b3);have O3:=zH (Zp ho (show p0<=W2.heap.size by have:=Zq L0.out.e1;omega));clear ho b3 c15;have c15:=Z6 L3.out.e1 15 _ rfl;have f15:=Ze L3.out.e1 15;have T3:=zH (Zg O3.out L3.out.e1 (fun cur h=>by simp at h));have G3:=Zj W3 p0 15 (.slice ta m tc);have E3:Hid ((W3.setCell ⟨p0,15,none⟩ (.slice ta m tc)).heap[p0]? = some (.cells (Z5 n ta tc) 47)):=zH (by
  have:=ZW L3.out.e1 15 (.slice ta m tc);rw[<-hm.out,Z0F]at this;rw[<-hm.out];exact this)
 have E4:Hid ((W3.setCell ⟨p0,15,none⟩ (.slice ta m tc)).heap[p1]? = some (.cells (Z5 Zd none 0) 47)):=zH (Zc G3 L3.out.e2 (fun e=>by have:=L3.out.lt;have e2:=Option.some.inj e;omega));go_upto_region 2 with fail;have B3:Hid (Below p0 w (W3.setCell ⟨p0,15,none⟩ (.slice ta m tc))):=zH (L3.out.b.grown G3 (by have:=Zq L3.out.e1;omega) (fun q hq=>by cases hq;exact Nat.le_refl _));have U3:=zH (Zg O3.out L3.out.e2 (fun cur h=>by simp at h));have O4:=zH (Zi (S:=fun k=>k=p0) O3.out (Za.of_grown G3 (fun k e=>by cases e;rfl)) (fun b hb e=>T3.out (by rw[hb,e])));have hlt:=L3.out.lt;clear c15 f15 G3;generalize W3.setCell ⟨p0,15,none⟩ (.slice ta m tc)=W4 at *;have oneN:=Zh n ta tc;go_wp2_with (first
  |(refine zL p0 E3.out ?_)
  |(refine zN p1 (Z5 n ta tc) E4.out ?_))
 go_wp2_with fail;have hr:=ZP W4 p1 _ (Z5 n ta tc) _ _ E4.out;refine bodyPost_ret (results_cell_row rfl _ _ p1 47 (Z5 n ta tc) (0,0) _ rfl hr Tryz.underlying47 rfl (I43.out _ _ _)) rfl ?_;have G4:=Y6 W4 p1 (Z5 n ta tc);have hp1:p1 < W4.heap.size:=Zq E4.out;refine⟨ta,tc,rfl,?_,?_⟩
 ·rw[HP0.out,hm.out];exact Zi (S:=fun k=>k=p1) O4.out (Za.of_grown G4 (fun k e=>by cases e;rfl)) (fun b hb e=>U3.out (by rw[hb,e]))
 ·rw[HP0.out];exact B3.out.grown G4 (by omega) (fun q hq=>by cases hq;omega)
end
theorem Z1W (x m y k:Int)(w:World):Calls zq 120 #[.agg #[.int .i64 x,.int .i64 m],.agg #[.int .i64 y,.int .i64 k]] w fun e w'=>e = .returned (.int .i64 (YQ x m y k))/\Vv w.heap.size w w':=by
 have g1:=Z8 _ (.cells (#[.int .i64 y,.int .i64 k]) 45) _ _ (Z9 w (.cells (#[.int .i64 x,.int .i64 m]) 45));have g2:=Zm (w.alloc (.cells (#[.int .i64 x,.int .i64 m]) 45)) (.cells (#[.int .i64 y,.int .i64 k]) 45) (w.heap.size+1) (by simp);have bb:Vv w.heap.size w ((w.alloc (.cells (#[.int .i64 x,.int .i64 m]) 45)).alloc (.cells (#[.int .i64 y,.int .i64 k]) 45)):=((Vv.refl _ _).alloc (Nat.le_refl _) _).alloc (by simp) _;have T0:Hid (Z4C w ((w.alloc (.cells (#[.int .i64 x,.int .i64 m]) 45)).alloc (.cells (#[.int .i64 y,.int .i64 k]) 45)) w.heap.size (w.heap.size+1) (#[.int .i64 x,.int .i64 m]) (#[.int .i64 y,.int .i64 k]) 45):=zH ⟨g1,g2,bb,by omega⟩;clear g1 g2 bb;go_enter Tryz.func120,Tryz.ntmps120;go_upto_region 1 with fail;generalize (w.alloc (.cells (#[.int .i64 x,.int .i64 m]) 45)).alloc (.cells (#[.int .i64 y,.int .i64 k]) 45)=W0 at *;obtain⟨p,hp⟩:=zX (w.heap.size);obtain⟨q,hq⟩:=zX (w.heap.size+1);rw[hq.out,hp.out]at T0;rw[hq.out,hp.out];have T1:=zH (T0.out.below (Vv.refl W0.heap.size W0).drew);refine wp_region_noPanic ?_;refine wp_region_held_drew (S:=fun w'=>Z4C w w' p q (#[.int .i64 x,.int .i64 m]) (#[.int .i64 y,.int .i64 k]) 45) (by kernel_rfl) T1.out (fun hh=>?_);refine zS 0 rfl (.pointer (some ⟨p,0,none⟩)) (fun W _=>by go_simp) ?_;refine zS 1 rfl (.int .i64 x) (fun W h=>by have hc:=Z6 h.e1 0 (.int .i64 x) rfl;go_simp) ?_;refine zS 2 rfl (.pointer (some ⟨q,0,none⟩)) (fun W _=>by go_simp) ?_;refine zS 3 rfl (.int .i64 y) (fun W h=>by have hc:=Z6 h.e2 0 (.int .i64 y) rfl;go_simp) ?_;refine zS 5 rfl (.pointer (some ⟨p,1,none⟩)) (fun W _=>by go_simp) ?_;refine zS 6 rfl (.int .i64 m) (fun W h=>by have hc:=Z6 h.e1 1 (.int .i64 m) rfl;go_simp) ?_;refine zS 7 rfl (.pointer (some ⟨q,1,none⟩)) (fun W _=>by go_simp) ?_;refine zS 8 rfl (.int .i64 k) (fun W h=>by have hc:=Z6 h.e2 1 (.int .i64 k) rfl;go_simp) ?_;refine zR 4 rfl fun K hK=>?_;go_simp;go_at_call 173;refine(J7 x y _).mono ?_;rintro e w1 ⟨rfl,rfl⟩;dsimp only;refine zK hK T1.out fun hh=>?_
 clear hK K;refine zR 9 rfl fun K hK=>?_;go_simp;go_at_call 173;refine(J7 m k _).mono ?_;rintro e w1 ⟨rfl,rfl⟩;dsimp only;refine zK hK T1.out fun hh=>?_;clear hK K;refine zR 10 rfl fun K hK=>?_;go_simp;have TB:=zH (T1.out.below ((Vv.refl W0.drew.heap.size W0.drew).alloc (Nat.le_refl _) (.cells #[.int .i64 (Yp x y),.int .i64 (Yp m k)] 3)));refine zK hK TB.out fun hh=>?_;clear hK K;refine zR 11 rfl fun K hK=>?_;go_simp;go_at_call 172;refine(Z2k W0.drew.heap.size (Yp x y) (Yp m k) _ (Z9 W0.drew _)).mono ?_;rintro e w1 ⟨rfl,rfl⟩;dsimp only;refine zK hK TB.out fun hh=>?_;clear hK K;refine zS 12 rfl (.int .i64 (orI (Yp x y) (Yp m k))) (fun W _=>by go_simp) ?_;have TE:=TB;refine zE ?_;change Exit.then _ _ Exit.normal { tmps := #[.agg #[.int .i64 x,.int .i64 m],.agg #[.int .i64 y,.int .i64 k],.pointer (some ⟨p,0,none⟩),.pointer (some ⟨q,0,none⟩),.int .i64 (orI (Yp x y) (Yp m k)),.pointer (some ⟨p,0,none⟩),.int .i64 x,.pointer (some ⟨q,0,none⟩),.int .i64 y,.int .i64 (Yp x y),.pointer (some ⟨p,1,none⟩),.int .i64 m,.pointer (some ⟨q,1,none⟩),.int .i64 k,.int .i64 (Yp m k),.slice (some ⟨W0.drew.heap.size,0,none⟩) 2 2,.int .i64 (orI (Yp x y) (Yp m k))],defers:=[] } _;go_wp2;go_ret;exact⟨rfl,by rw[hp.out];exact TE.out.b⟩
theorem Z9E (args:Xz)(w:World):(callFunc 120 args).run zq w = .ok (.enter 120 args) w:=by kernel_rfl
theorem ZcC (x y:Nm)(w:World):Calls zq 120 #[.agg (Z03 x).toArray,.agg (Z03 y).toArray] w fun e w'=>e = .returned (.int .i64 (YQ x.1 x.2 y.1 y.2))/\Vv w.heap.size w w':=
 Z1W x.1 x.2 y.1 y.2 w
section
attribute [local go_sem] Oper.semAt_some
theorem Z9M (m:Nat)(Wb:World)(p pB b n:Nat)(f:Nm->Option LN)(hpB:Wb.heap[pB]? = some (.cells #[.map (some b)] 106))(hne:pB≠p)(hmap:YY LN.val Wb b n f)(hbp:b≠p)
  (rec:LoopState->Option Code->Loop) (W1:World) (h0:Z0V Wb p [] W1) (hl:ZR rec Wb.heap.size .ready none W1)
  (hY : ∀(s:KSt) W,KAt Wb p b n f (s.1 ++ [s.2.1]) s.1 s.2.2.1 s.2.2.2 W->ZR rec Wb.heap.size .ready none W->YieldAt Fence.wide (m - 1) zq (Wb.heap.size+1) #[.agg #[.int .i64 s.2.1.1,.int .i64 s.2.1.2]] W fun e W'=>
    e = .returned (.bool true)/\KAt Wb p b n f (s.1 ++ [s.2.1]) (s.1 ++ [s.2.1]) s.2.2.1 s.2.2.2 W'/\ZR rec Wb.heap.size .ready none W'):
  CallsIn Fence.wide m zq 171 #[.func (.yield (Wb.heap.size+1)) #[] #[],.pointer (some ⟨pB,0,none⟩)] W1 fun e W'=>
    (∃v,e = .returned v)/\(∃ks,Z0V Wb p ks W'/\JS f ks/\ks.Nodup/\(∀k∈ks,(f k).isSome=true)/\ks.length<=n)/\ZR rec Wb.heap.size .ready none W':=by
 have HY:=zH hY;clear hY;have M1:=zH (hmap.of_block (h0.same.block b hmap.lt hbp));have hlc:=Z6 ((h0.same.block pB (Zq hpB) hne).trans hpB) 0 (.map (some b)) rfl;have R0:=zH h0;clear h0;have L0:=zH hl;clear hl;clear hpB hne hmap hbp;refine callsIn_of_wp Tryz.func171 rfl trivial ?_;simp only[Tryz.ntmps171,List.size_toArray,List.length_cons,List.length_nil,Nat.reduceAdd,Nat.reduceSub,Array.replicate_succ,Array.replicate_zero,List.push_toArray,List.append_toArray,List.nil_append,List.cons_append];gi_wp2_with (first
  |(gi_at_range;refine Z1t _ rfl _ 106 47 rfl Tryz.underlying106 b n rfl M1.out ?_;intro w0 cnt0 hrg0 hg0 hs0)
  | gi_in)
 go_frame;obtain⟨r,hr⟩:=zX (W1.heap.size);have b0:Below W1.heap.size W1 w0:=(Below.refl _ _).grown hg0 (Nat.le_refl _) (fun q hq=>by cases hq);have S0:Hid (KAt Wb p b n f [] [] r cnt0 w0):=zH ⟨R0.out.below b0,by rw[<-hr.out];exact hrg0,by rw[<-hr.out];exact R0.out.same.size,fun k hk=>by cases hk⟩;have LL0:=zH (L0.out.of_below b0);rw[hr.out];clear hrg0 hg0 hs0 b0 hlc M1 R0 L0;gi_loopw [3] (fun _ wr=>∃(ks:List Nm) (cnt:Nat),Hid (KAt Wb p b n f ks ks r cnt wr)/\Hid (ZR rec Wb.heap.size .ready none wr)) (fun _ wr=>wr.rangeLeft b r)
 case atStart=>exact⟨[],cnt0,S0,LL0⟩
 case round=>
  obtain⟨ks,cnt,HS,HL⟩:=hrel;gi_wp2_with (first
   |(gi_at_next;refine Z2b _ rfl _ rfl b r n cnt ks rfl HS.out.2.1 ?_ ?_)
   | gi_in)
  ·intro hall;have HALL:=zH hall;clear hall;gi_wp2;go_end0;exact⟨⟨_,rfl⟩,⟨ks,HS.out.1,HALL.out,HS.out.2.1.nodup,HS.out.2.2.2,by have:=HS.out.2.1.count;omega⟩,HL.out⟩
  ·intro kh km y w2 cnt2 HN hen;obtain⟨bb,since,seen,c0,hrb⟩:=HS.out.2.1.blk;have np2:=HS.out.1.turn hrb (fun _ _ _=>by simp) HN.out.grown HS.out.2.2.1;have bn:Below w2.heap.size w2 (w2.alloc (.cells #[.int .i64 kh,.int .i64 km] 45)):=zB _ _;have L3:=zH ((HL.out.turn hrb (fun _=>by simp) (fun _=>by simp) HN.out.grown).of_below bn);have K3:Hid (KAt Wb p b n f (ks ++ [(kh,km)]) ks r cnt2 (w2.alloc (.cells #[.int .i64 kh,.int .i64 km] 45))):=zH ⟨np2.below bn,HN.out.range.below bn,HS.out.2.2.1,fun k hk=>by
    rcases List.mem_append.1 hk with hk | hk
    ·exact HS.out.2.2.2 k hk
    ·rw[List.mem_singleton.1 hk,HN.out.at_];rfl⟩
   have HM:=zH (show wr.rangeLeft b r=cnt from HS.out.2.1.left_eq);have HLT:=zH HN.out.lt;clear np2 bn HS HL HN hrb;unfold LN.val at hen;obtain⟨fn,tmps,assign,body,hy,hRo⟩:=HY.out (ks,(kh,km),r,cnt2) _ K3.out L3.out;dsimp only at hy;gi_wp2;refine⟨fun h=>by simp[Fence.wide]at h,?_⟩;refine hRo.mono ?_;rintro e W6 ⟨rfl,hK6,hL6⟩;have HK6:=zH hK6;have HL6:=zH hL6;clear hRo hy hK6 hL6 hen;gi_wp2;go_roundw
   case rel=>exact⟨_,cnt2,HK6,HL6⟩
   case measure=>rw[HK6.out.2.1.left_eq,HM.out];exact HLT.out
theorem Z52 (pB b n:Nat)(f:Nm->Option LN)(w:World)(hpB:w.heap[pB]? = some (.cells #[.map (some b)] 106))(hmap:YY LN.val w b n f)(hn:n<=1000):
  Calls zq 203 #[.slice none 0 0,.func (.func 171) #[] #[.pointer (some ⟨pB,0,none⟩)]] w fun e w'=>
   (∃a' c' ks,e = .returned (.slice a' ks.length c')/\w'.ownsRow w.heap.size 45 2 (.slice a' ks.length c') ks.length (ZH ks)/\JS f ks/\ks.Nodup/\(∀k∈ks,(f k).isSome=true)/\ks.length<=n)/\Below w.heap.size w w':=by
 have HLEN:=zH hn;clear hn;have B0:=zH (zB w (.cells #[.slice none 0 0] 75));have P0:=zH (Z9 w (.cells #[.slice none 0 0] 75));have HB:=zH (Z7 B0.out hpB);have HM:=zH (hmap.below B0.out);have NE:Hid (pB≠w.heap.size/\b≠w.heap.size):=zH (by have:=Zq hpB;have:=hmap.lt;omega);clear hpB hmap;refine(callsIn_wide (n:=4)).1 ?_;refine callsIn_of_wp_marks Tryz.func203 rfl trivial ?_;simp only[Tryz.ntmps203,List.size_toArray,List.length_cons,List.length_nil,Nat.reduceAdd,Nat.reduceSub,Array.replicate_succ,Array.replicate_zero,List.push_toArray,List.append_toArray,List.nil_append,List.cons_append];refine wpIn_wide.2 ?_;go_upto_region 1 with fail;obtain⟨p,hp⟩:=zX (w.heap.size);rw[hp.out]at P0 NE ⊢;generalize w.alloc (.cells #[.slice none 0 0] 75)=w3 at *;go_wp2_with fail;refine(wpIn_wide (n:=4)).1 ?_;refine Z0X (n:=3) (σ:=KSt) (w:=w3) (gf:=171) (lb := #[.pointer (some ⟨pB,0,none⟩)]) rfl (enters_of Tryz.func171 (by kernel_rfl) rfl)
  (fun s=>#[.agg #[.int .i64 s.2.1.1,.int .i64 s.2.1.2]]) (fun _=>rfl) (fun s W=>KAt w3 p b n f (s.1 ++ [s.2.1]) s.1 s.2.2.1 s.2.2.2 W) (fun s W=>KAt w3 p b n f (s.1 ++ [s.2.1]) (s.1 ++ [s.2.1]) s.2.2.1 s.2.2.2 W)
  (fun s a₁ W=>∃pX,a₁ = { tmps := #[.slice none 0 0,.func (.func 171) #[] #[.pointer (some ⟨pB,0,none⟩)],.pointer (some ⟨p,0,none⟩),undef,.slice none 0 0,.pointer (some ⟨pX,0,none⟩),.func (.func 171) #[] #[.pointer (some ⟨pB,0,none⟩)],.agg #[.int .i64 s.2.1.1,.int .i64 s.2.1.2],undef,undef,undef,undef,undef],defers:=[] } /\ W.heap[pX]? = some (.cells #[.int .i64 s.2.1.1,.int .i64 s.2.1.2] 45)/\KAt w3 p b n f (s.1 ++ [s.2.1]) s.1 s.2.2.1 s.2.2.2 W)
  (fun W=>∃ks,Z0V w3 p ks W/\JS f ks/\ks.Nodup/\(∀k∈ks,(f k).isSome=true)/\ks.length<=n) ?hA' ?hB ?hD ?assign ?body ?iter ?done
 case hA'=>
  rintro s a₁ W o ⟨pX,rfl,h1,h2,h3,h4⟩ ⟨r,hr⟩;refine⟨pX,rfl,(World.putObj_heap_other (fun e=>?_)).trans h1,h2.putObj o ⟨r,hr⟩,h3.turn (grownBy_putObj' W _ _) (fun q e=>by cases e;exact⟨_,hr,by simp,by simp⟩),h4⟩;rw[e,hr]at h1;simp at h1
 case hB=>
  rintro s W o ⟨h2,h3,h4⟩ ⟨r,hr⟩;exact⟨h2.putObj o ⟨r,hr⟩,h3.turn (grownBy_putObj' W _ _) (fun q e=>by cases e;exact⟨_,hr,by simp,by simp⟩),h4⟩
 case hD=>
  rintro W o ⟨ks,h,h2⟩ hl;exact⟨ks,h.putObj o hl,h2⟩
 case assign=>
  rintro⟨ks,k,r,cnt⟩ W h1;have H1:=zH h1;clear h1;dsimp only;have hb5:Below W.heap.size W (W.alloc (.cells #[.int .i64 k.1,.int .i64 k.2] 45)):=zB W _;have HG:=zH (show KeepsFrom w3.heap.size W (W.alloc (.cells #[.int .i64 k.1,.int .i64 k.2] 45))/\(W.alloc (.cells #[.int .i64 k.1,.int .i64 k.2] 45)).heap[W.heap.size]? = some (.cells #[.int .i64 k.1,.int .i64 k.2] 45)/\KAt w3 p b n f (ks ++ [k]) ks r cnt (W.alloc (.cells #[.int .i64 k.1,.int .i64 k.2] 45))from
   ⟨(Qo hb5).from _,Z9 W _,H1.out.1.below hb5,H1.out.2.1.below hb5,H1.out.2.2⟩)
  clear hb5 H1;have hf : ∀t:Xz,(#[7].zip #[Value.agg #[.int .i64 k.1,.int .i64 k.2]]).foldl (fun t (p,v)=>t.setIfInBounds p v) t=t.setIfInBounds 7 (.agg #[.int .i64 k.1,.int .i64 k.2]):=fun t=>by simp
  rw[hf];simp only[List.setIfInBounds_toArray,List.set_cons_succ,List.set_cons_zero];clear hf;refine J1 (VO _) (Z0i (fun a w h=>h)) ?hnd ?_
  case hnd=>rfl
  go_wp2_with fail;exact⟨HG.out.1,W.heap.size,rfl,HG.out.2⟩
 case body=>
  rintro⟨ks,k,r,cnt⟩ a₁ W ⟨pX,rfl,hX,h1⟩;have HX:=zH hX;have H1:=zH (show KAt w3 p b n f (ks ++ [k]) ks r cnt W from h1);clear hX h1;dsimp only;have HKL:Hid (ks.length<=1000):=zH (by have h1:=H1.out.2.1.count;have:=HLEN.out;rw[List.length_append]at h1;omega);obtain⟨⟨ea,ec,hblk,how⟩,hsm⟩:=H1.out.1;have bn:Below W.heap.size W (W.alloc (.cells #[.int .i64 k.1,.int .i64 k.2] 45)):=zB _ _;obtain⟨a',c',v9,hrun,ho9,hg9⟩:=YZ (W.alloc (.cells #[.int .i64 k.1,.int .i64 k.2] 45)) w3.heap.size ea ks.length ec _ (Zb how bn) _ 1 1 _ (Jo W _ _) (fun u hu=>by simp only[List.mem_cons,List.not_mem_nil,or_false]at hu;rcases hu with rfl | rfl <;> rfl) (by have:=HKL.out;omega) (Nat.le_trans hsm.size bn.size);have hadd:=Z0V.add (hsm.trans (Za.of_below bn)) (Z7 bn hblk) (Zb how bn) ho9 hg9;have HK:Hid (KeepsFrom w3.heap.size W (v9.setCell ⟨p,0,none⟩ (.slice a' (ks.length+1) c'))):=zH (by
   refine KeepsOthers.from ⟨?_,fun k o hk ho=>?_⟩ _
   ·exact Nat.le_trans bn.size (Nat.le_trans hg9.size (by simp[World.setCell]))
   ·have hk1:=Z7 bn hk;have hk2:=Zc hg9 hk1 (fun e=>by have:=Z2j (Zb how bn) e.symm hk1;rw[this]at ho;cases ho);exact Zc (Zj v9 p 0 _) hk2 (fun e=>by rw[Option.some.inj e,hadd.2]at hk2;cases hk2;cases ho))
  have RA:YB LN.val (v9.setCell ⟨p,0,none⟩ (.slice a' (ks.length+1) c')) b r n f (ks ++ [k]) cnt:=by
   have h2:=H1.out.2.1.below bn;have h3:YB LN.val v9 b r n f (ks ++ [k]) cnt:=h2.turn hg9 (fun q e=>by
    rcases(Zb how bn).2 with ⟨h4,_⟩ | ⟨g,cap,cur,h4,_,h5,_⟩
    ·rw[h4]at e;cases e
    ·rw[h4]at e;cases e;exact⟨_,h5,by simp,by simp⟩)
   exact h3.turn (Zj v9 p 0 _) (fun q e=>by cases e;exact⟨_,hadd.2,by simp,by simp⟩)
  have HA:=zH (show KAt w3 p b n f (ks ++ [k]) (ks ++ [k]) r cnt (v9.setCell ⟨p,0,none⟩ (.slice a' (ks.length+1) c'))from⟨hadd.1,RA,H1.out.2.2⟩);have hcl:=Z6 hblk 0 (.slice ea ks.length ec) rfl;have hx0:=Z6 HX.out 0 (.int .i64 k.1) rfl;have hx1:=Z6 HX.out 1 (.int .i64 k.2) rfl;have hcl3:=Z6 hadd.2 0 (.slice ea ks.length ec) rfl;have hfz:=Ze hadd.2 0;clear hadd how hsm bn ho9 hg9 hblk RA;apply wpIn_block;refine J1 (VO _) (Z0i (fun a w h=>h)) ?hnd ?_
  case hnd=>rfl
  go_wp2_with (first
   |(refine Zu rfl _ _ _ rfl _ _ _ rfl rfl hrun ?_)
   | fail)
  exact⟨HK.out,HA.out⟩
 case iter=>
  intro rec hlr hY;have hbb:=(zB w3 (.deferred (some []))).alloc (by simp) (.loop (rec .ready none));exact Z9M 3 w3 p pB b n f HB.out NE.out.1 HM.out NE.out.2 rec _ ⟨⟨none,0,Z7 hbb P0.out,World.ownsRow_nil _ _ _ _⟩,Za.of_below hbb⟩ hlr hY
 case done=>
  rintro W ⟨ks,⟨⟨a',c',hblk,how⟩,hsm⟩,hks⟩ hD0;dsimp only;have HD0:=zH hD0;have HOW:=zH how;have HSM:=zH hsm;have HKS:=zH hks;have hcl:=Z6 hblk 0 (.slice a' ks.length c') rfl;clear hD0 how hsm hblk hks;go_wp2_with fail;have hb:Below w.heap.size w W:=HSM.out.below B0.out B0.out.size (fun k hk=>by have:=hp.out;omega);have hbz:Below w.heap.size w (W.putObj w3.heap.size (.deferred none)):=hb.grown (grownBy_putObj' W _ _) hb.size (fun k e=>by cases e;exact B0.out.size);have hoz:=Zp (ownsRow_putObj HOW.out (.deferred none) HD0.out rfl) B0.out.size;refine⟨by simp,.inl ⟨_,_,rfl,run_takeDeferred HD0.out,?_⟩⟩;exact⟨.slice a' ks.length c',by kernel_rfl,⟨a',c',ks,rfl,hoz,HKS.out⟩,hbz⟩
theorem Z4z (pB b n:Nat)(f:Nm->Option LN)(w:World)(hpB:w.heap[pB]? = some (.cells #[.map (some b)] 106))(hmap:YY LN.val w b n f)(hn:n<=1000):
  Calls zq 169 #[.func (.func 171) #[] #[.pointer (some ⟨pB,0,none⟩)]] w fun e w'=>
   (∃a' c' ks,e = .returned (.slice a' ks.length c')/\w'.ownsRow w.heap.size 45 2 (.slice a' ks.length c') ks.length (ZH ks)/\JS f ks/\ks.Nodup/\(∀k∈ks,(f k).isSome=true)/\ks.length<=n)/\Below w.heap.size w w':=by
 have HA:=zH (Z52 pB b n f w hpB hmap hn);clear hpB hmap hn;go_enter Tryz.func169,Tryz.ntmps169;go_wp2_with fail;refine HA.out.mono ?_;rintro e w1 ⟨⟨a',c',ks,rfl,h1⟩,h2⟩;have H:=zH (And.intro h1 h2);clear h1 h2;go_wp2;go_ret;exact⟨⟨a',c',ks,rfl,H.out.1⟩,H.out.2⟩
theorem Z4H (pB b n:Nat)(f:Nm->Option LN)(w:World)(hpB:w.heap[pB]? = some (.cells #[.map (some b)] 106))(hmap:YY LN.val w b n f)(hn:n<=1000):
  Calls zq 118 #[.func (.func 171) #[] #[.pointer (some ⟨pB,0,none⟩)],.func (.func 120) #[] #[]] w fun e w'=>ZbF f n w e w'/\Below w.heap.size w w':=by
 have HA:=zH (Z4z pB b n f w hpB hmap hn);have HN:=zH hn;clear hpB hmap hn;go_enter Tryz.func118,Tryz.ntmps118;go_wp2_with fail;refine HA.out.mono ?_;rintro e w1 ⟨⟨a',c',ks,rfl,h1,h2,h3,h4,h5⟩,hb⟩;have HO:=zH h1;have HAL:=zH h2;have HND:=zH h3;have HIN:=zH h4;have HL:=zH h5;have HB:=zH hb;clear h1 h2 h3 h4 h5 hb;go_wp2_with fail;refine(Z1v (V:=Nm) Z8b Z03 (fun _=>rfl) (fun x v hv=>by simp only[Z03,List.mem_cons,List.not_mem_nil,or_false]at hv;rcases hv with rfl | rfl <;> rfl) (fun x y=>YQ x.1 x.2 y.1 y.2) (fun _ _=>rfl) 120 Z9E ZcC w.heap.size ks.length c' a' ks _ (by rw[<-VV];exact HO.out) rfl (by have:=HL.out;have:=HN.out;omega)).mono ?_;rintro e w10 ⟨rfl,zs,hz1,hz2,hz3,hz4⟩;have Z1:=zH hz1;have Z2:=zH hz2;have Z3:=zH hz3;have B2:=zH (hz4.below HB.out HB.out.size (fun k hk=>(HO.out.lt k hk).1));clear hz1 hz2 hz3 hz4;have ZL:Hid (zs.length=ks.length):=zH Z2.out.length_eq;go_wp2;go_ret;exact⟨⟨a',c',zs,by rw[ZL.out] <;> rfl,by rw[VV,ZL.out];exact Z1.out,fun k hk=>Z2.out.symm.subset (HAL.out k hk),Z9D (Z2.out.nodup_iff.2 HND.out) Z3.out,fun k hk=>HIN.out k (Z2.out.subset hk),by rw[ZL.out];exact HL.out⟩,B2.out⟩
theorem Z9N (b:Nat)(W:World):Calls zq 119 #[.map (some b)] W fun e W'=>e = .returned (.func (.func 171) #[] #[.pointer (some ⟨W.heap.size,0,none⟩)])/\W'=W.alloc (.cells #[.map (some b)] 106):=by
 have hmf : ∀(fn:Fn) (first cap:Xz) (w:World),(Instr.makeFunc fn first cap).run zq w = .ok (.func fn first cap) w:=fun _ _ _ _=>rfl;go_enter Tryz.func119,Tryz.ntmps119;go_wp2;go_ret;exact⟨rfl,rfl⟩
end
theorem Us (l:List Xg): ∀u∈ZU l,u.oneCell'=true:=by
 intro u hu;rw[ZU,List.mem_flatten]at hu;obtain⟨r,hr,h⟩:=hu;obtain⟨e,_,rfl⟩:=List.mem_map.1 hr;exact VB e u h
theorem Ut (l:List Xg):(ZU l).length=l.length * 21:=by
 rw[ZU,Z0l 21 _ (by intro r hr;obtain⟨e,_,rfl⟩:=List.mem_map.1 hr;rfl),List.length_map]
theorem Vk.of_rd {W:World}{a:zA}{n c:Nat}{l:List Xg}(h:ZX W 21 a n c (ZU l)):Vk W a n c l:=by
 refine⟨by have:=h.len;rw[Ut]at this;omega,h.le,h.max,h.2.2.2.imp id ?_⟩;rintro⟨b,off,rfl,h4⟩;refine⟨b,off,rfl,fun i x hx j v hv=>?_⟩;have hj:j < 21:=(List.getElem?_eq_some_iff.1 hv).1;have h5:=Uq 21 (l.map Xg.cells) (by intro r hr;obtain⟨y,_,rfl⟩:=List.mem_map.1 hr;rfl) i x.cells (by rw[List.getElem?_map,hx];rfl) j hj;have h6:=h4 (i * 21+j) v (h5.trans hv);rwa [<-Nat.add_assoc]at h6
theorem Zx {C:World->Prop}{w:World}{o:Oper}{a:Act}(x:Operand)(ho:o.op = .load 47 x)(p off:Nat)(hx:a.eval x = .pointer (some ⟨p,off,none⟩))(n:NoteV)(sa:zA)(sc:Nat)
  (h:w.rangeAt p off (n.cells sa sc)):o.quietAt zq a C w (.agg (Z5 n sa sc)):=by
 unfold Oper.quietAt execOp;simp only[ho,hx,Instr.loadAt,Instr.sureAddr,Sem.run_bind,Sem.run_pure,Result.andThen_ok,run_loadVar_mid w p off 47 (n.cells sa sc) _ h Tryz.underlying47 rfl (Qh n sa sc)];exact⟨rfl,rfl⟩
theorem Z1O (l:List Xg)(k:Nat):(ZU l).take (k * 21)=ZU (l.take k):=by
 rw[ZU,ZU]
 induction l generalizing k with
 | nil=>simp
 | cons e l ih=>
  cases k with
  | zero=>simp
  | succ k=>
   simp only[List.map_cons,List.flatten_cons,List.take_succ_cons];rw[List.take_append,show(k+1) * 21=k * 21+21 by omega,List.take_of_length_le (by show 21<=_;omega),show k * 21+21 - e.cells.length=k * 21 from by show k * 21+21 - 21=_;omega,ih]
theorem Z8Y {W:World}{a:zA}{n c:Nat}{l:List Nm}(h:ZX W 2 a n c (ZH l))(h0:0 < n): ∃b off,a=some ⟨b,off,none⟩ /\ ∀i x,l[i]? = some x->W.cell? ⟨b,off+i * 2,none⟩=some (.int .i64 x.1)/\W.cell? ⟨b,off+i * 2+1,none⟩=some (.int .i64 x.2):=by
 rcases h.2.2.2 with h5 | ⟨b,off,rfl,h4⟩
 ·have:=h.2.1;omega
 ·refine⟨b,off,rfl,fun i x hx=>?_⟩;rw[VV]at h4;have hf:=fun j hj=>Uq 2 (l.map Z03) (by intro r hr;obtain⟨y,_,rfl⟩:=List.mem_map.1 hr;rfl) i (Z03 x) (by rw[List.getElem?_map,hx];rfl) j hj;have h6:=h4 (i * 2+0) _ ((hf 0 (by omega)).trans rfl);have h7:=h4 (i * 2+1) _ ((hf 1 (by omega)).trans rfl);exact⟨h6,by rwa [<-Nat.add_assoc]at h7⟩
theorem Um (xs:List LN):(Zw xs).length=xs.length * 19:=by
 rw[Zw,Z0l 19 _ (by intro r hr;obtain⟨e,_,rfl⟩:=List.mem_map.1 hr;rfl),List.length_map]
theorem Vw {W:World}{a:zA}{n c:Nat}{xs:List LN}(h:ZX W 19 a n c (Zw xs))(hs : ∀x∈xs,x.ok W):JM W a n c (xs.map LN.n):=by
 have hl:xs.length=n:=by have:=h.len;rw[Um]at this;omega
 refine⟨by rw[List.length_map,hl],h.2.1,h.2.2.1,?_⟩;rcases h.2.2.2 with h0 | ⟨b,off,rfl,h4⟩
 ·exact .inl h0
 ·rcases Nat.eq_zero_or_pos n with hn | hn
  ·refine .inr ⟨b,off,rfl,fun i x hx=>?_⟩;have:xs=[]:=List.eq_nil_of_length_eq_zero (by omega);subst this;simp at hx
  ·obtain⟨b',off',e,hat⟩:=Z77 h hn;cases e;refine .inr ⟨b,off,rfl,fun i x hx=>?_⟩;rw[List.getElem?_map]at hx;cases hy:xs[i]? with
   | none=>simp[hy]at hx
   | some y=>
    simp only[hy,Option.map_some,Option.some.injEq]at hx;subst hx;exact⟨y.sa,y.sc,hat i y hy,hs y (List.mem_of_getElem? hy)⟩
section
variable (s1:zA)(c1:Nat)(s2:zA)(c2:Nat)(s3:zA)(c3:Nat)
end
structure Vr (V W:World)(a:zA)(c n:Nat)(ys:List LN):Prop where
 bel:Below V.heap.size V W
 own:W.ownsRow V.heap.size 47 19 (.slice a n c) n (Zw ys)
 str:Z0v W V.heap.size ys
 len:ys.length=n
theorem Vr.start (V:World):Vr V V none 0 0 []:=⟨Below.refl _ _,World.ownsRow_nil _ _ _ _,(fun x hx=>by cases hx),rfl⟩
theorem Vr.below {V W W':World}{a:zA}{c n:Nat}{ys:List LN}(h:Vr V W a c n ys)(hb:Below W.heap.size W W'):Vr V W' a c n ys:=⟨h.bel.trans (hb.mono h.bel.size),Zb h.own hb,h.str.below hb,h.len⟩
theorem Vr.add {V W W':World}{a a':zA}{c c' n:Nat}{ys:List LN}{x:LN}(h:Vr V W a c n ys)(hx:W.ownsRow V.heap.size 3 1 (.slice x.sa x.n.strokes.length x.sc) x.n.strokes.length (x.n.strokes.map Yo))
  (ho:W'.ownsRow V.heap.size 47 19 (.slice a' (n+1) c') (n+1) (Zw ys ++ x.n.cells x.sa x.sc)) (hg:(W.alloc (.cells (Z5 x.n x.sa x.sc) 47)).grownBy W' (Value.ownBlock (.slice a n c))):Vr V W' a' c' (n+1) (ys ++ [x]):=by
 have bn:Below W.heap.size W (W.alloc (.cells (Z5 x.n x.sa x.sc) 47)):=zB _ _;have h2:=h.below bn;refine⟨h2.bel.grown hg h2.bel.size (fun k hk=>(h2.own.lt k hk).1),by rw[JP];exact ho,fun y hy=>?_,by rw[List.length_append,h.len];rfl⟩;have h0:(W.alloc (.cells (Z5 x.n x.sa x.sc) 47)).ownsRow V.heap.size 3 1 (.slice y.sa y.n.strokes.length y.sc) y.n.strokes.length (y.n.strokes.map Yo):=by
  rcases List.mem_append.1 hy with hy | hy
  ·exact h2.str y hy
  ·rw[List.mem_singleton.1 hy];exact Zb hx bn
 exact h0.kept hg (Xs h0 h2.own (by decide))
theorem Vr.rd {V W:World}{a:zA}{c n:Nat}{ys:List LN}(h:Vr V W a c n ys):JM W a n c (ys.map LN.n):=Vw (ZX.of_own h.own) (fun y hy=>ZX.of_own (h.str y hy))
theorem Z6F {α:Type}{enc:α->Value}{f:Nm->Option α}{w:World}{b n:Nat}{t e:TypeId}(hmap:YY enc w b n f)(ht:zq.underlying t=some (.map 45 e)){z:Value}(hz:(zeroValue e).run zq w = .ok z w)(h m:Int)(hk:UM (h,m)){y:α}(hy:f (h,m)=some y):
  (Instr.lookup t (.map (some b)) (.agg #[.int .i64 h,.int .i64 m]) false).run zq w = .ok (enc y) w:=by
 obtain⟨D,h1,h2⟩:=hmap;obtain⟨v,ps,h3,h4⟩:=h1.lookup QB ht hz (zd := .held z) (zp:=[]) rfl (UO (h,m) hk);rw[h2.val (h,m) y hy]at h4;simp only[U6,Option.some.injEq,Prod.mk.injEq]at h4;have h5:=h4.1;simp only[DataW.held.injEq]at h5;rw[<-h5];exact h3
theorem Uz {α:Type}{enc:α->Value}{f:Nm->Option α}{w:World}{ops:Array Oper}{rest:List Oper}{o:Oper}{a:Act}{Q:Exit->Act->World->Prop}(hg:o.guard=none)(m:Operand)(t e:TypeId)(hop:o.op=Op.call { callee:=Callee.builtin Builtin.len,args := #[m],argTypes := #[t] })(ht:zq.underlying t=some (.map 45 e))(b n:Nat)
  (hm:a.eval m = .map (some b)) (hmap:YY enc w b n f) (hK : ∀k:Nat,k<=n->wpList zq ops Q rest (a.put o.dst (.int .i64 (k:Int))) w):wpList zq ops Q (o :: rest) a w:=by
 obtain⟨D,h1,h2⟩:=hmap;exact wpList_len_own w hg m t hop 45 e ht U6 b n D hm h1 (hK _ h1.size_le)
section
variable {w wr W':World}{bd bs r nd n:Nat}{f g:Nm->Option LN}{kr ks:List Nm}{cnt:Nat}
end
theorem Z1h {W:World}{a:zA}{n c:Nat}{l:List Nm}(h:ZX W 2 a n c (ZH l)){q:Nat}{k:Nm}(hk:l[q]? = some k): ∃b off,a=some ⟨b,off,none⟩/\W.cell? ⟨b,off+q * 2,none⟩=some (.int .i64 k.1)/\W.cell? ⟨b,off+q * 2+1,none⟩=some (.int .i64 k.2):=by
 have hl:l.length=n:=by have:=h.len;rw[XA]at this;omega
 have hq:=(List.getElem?_eq_some_iff.1 hk).1;obtain⟨b,off,rfl,hat⟩:=Z8Y h (by omega);exact⟨b,off,rfl,hat q k hk⟩
def evC (e:Xg):Nm×NoteV:=(e.nm,e.x.n)
theorem Z5w {W:World}{b o:Nat}{e:Xg}(h:W.rangeAt b o e.cells):W.rangeAt b (o+2) (e.x.n.cells e.x.sa e.x.sc):=fun j v hv=>by
 have:=h (2+j) v (by rw[Xg.cells,List.getElem?_append_right (by simp)];simpa using hv)
 rwa [<-Nat.add_assoc]at this
abbrev Z8O:=List NoteV×List NoteV×List Nm
def Z07 (f:Ys)(l m:List NoteV)(day:Int):Z8O:=if (Zv f l).1=0 then ((Z1d day m).hs,(Z1d day m).es,csN day m)else ([],[],[])
def Z08 (f:Ys)(l:List NoteV):Int:=if (Zv f l).1=0 then 0 else 1
def evP (n:NoteV):Nm×NoteV:=(Zk n,n)
def Uf (W:World)(v:Value)(T:Z8O):Prop:=
 ∃(ha:zA) (hn hc:Nat) (ea:zA) (en ec:Nat) (ca:zA) (cn cc:Nat) (hs es:List Xg),v = .agg #[.slice ha hn hc,.slice ea en ec,.slice ca cn cc] /\
  Vk W ha hn hc hs/\Vk W ea en ec es/\ZX W 2 ca cn cc (ZH T.2.2)/\(∀e∈hs ++ es,e.x.ok W)/\hs.map evC=T.1.map evP/\es.map evC=T.2.1.map evP
theorem Uf.below {W W':World}{v:Value}{T:Z8O}(h:Uf W v T)(hb:Below W.heap.size W W'):Uf W' v T:=by
 obtain⟨ha,hn,hc,ea,en,ec,ca,cn,cc,hs,es,rfl,h1,h2,h3,h4,h5,h6⟩:=h;exact⟨ha,hn,hc,ea,en,ec,ca,cn,cc,hs,es,rfl,h1.below hb,h2.below hb,h3.below hb,fun e he=>(h4 e he).below hb,h5,h6⟩
theorem Z0N {es:List Xg}{N:List NoteV}(h:es.map (fun e=>e.x.n)=N)(hn : ∀e∈es,e.nm=Zk e.x.n):es.map evC=N.map evP:=by
 subst h;rw[List.map_map];refine List.map_congr_left fun e he=>?_;unfold evC evP;rw[hn e he];rfl
theorem Uf.empty (W:World):Uf W (.agg #[.slice none 0 0,.slice none 0 0,.slice none 0 0]) ([],[],[]):=
 ⟨none,0,0,none,0,0,none,0,0,[],[],rfl,⟨rfl,Nat.le_refl _,Nat.zero_le _,.inl rfl⟩,⟨rfl,Nat.le_refl _,Nat.zero_le _,.inl rfl⟩,ZX.nil _ _,fun e he=>by simp at he,rfl,rfl⟩
theorem Zae {l:List NoteV}{day:Int}{w w':World}{e:Ending}(h:Z9f l day w e w')(hp:l.Pairwise (fun x y=>Jx (Zk x) (Zk y)=true)):
  ∃v,e = .returned (.tuple #[v,.int .i64 0])/\Uf w' v ((Z1d day l).hs,(Z1d day l).es,csN day l):=by
 obtain⟨v,R,rfl,⟨ha,hc,ea,ec,ca,cc,rfl,o1,o2,o3,o4⟩,q1,q2,q3,q4⟩:=Zad h hp;refine⟨_,rfl,ha,_,hc,ea,_,ec,ca,_,cc,R.hs,R.es,rfl,Vk.of_own o1,Vk.of_own o2,?_,fun e he=>ZX.of_own (o4 e he),Z0N q1 (fun e he=>q4 e (List.mem_append_left _ he)),Z0N q2 (fun e he=>q4 e (List.mem_append_right _ he))⟩;have:=ZX.of_own o3;rw[q3]at this ⊢;exact this
theorem Z7k (f:Ys)(a:zA)(n c:Nat)(l:List NoteV)(w:World)(hr:JM w a n c l)(hok : ∀x∈l,x.Ok):
  Calls zq 34 #[f.val,.slice a n c] w fun e w' => ∃v,e = .returned (.tuple #[v,.int .i64 (Z08 f l)])/\Uf w' v (Z07 f l l 99999)/\Below w.heap.size w w':=by
 refine(Zba f a n c l w hr hok).mono ?_;rintro e w' ⟨⟨h0,rfl⟩ | ⟨h0,h1⟩,hb⟩
 ·exact⟨_,by rw[Z08,if_neg h0],by rw[Z07,if_neg h0];exact Uf.empty w',hb⟩
 ·obtain⟨v,rfl,h2⟩:=Zae h1 (VQ h0).2.2.2;exact⟨v,by rw[Z08,if_pos h0],by rw[Z07,if_pos h0];exact h2,hb⟩
theorem YT {ops:Array Oper}{rest:List Oper}{op:Oper}{a:Act}{w:World}{Q:Exit->Act->World->Prop}(hgd:op.guard=none)(x:Operand)(ho:op.op = .buildSlice 24 1 #[(0,x)])(n:NoteV)(sa:zA)(sc:Nat)(hx:a.eval x = .agg (Z5 n sa sc))
  (h:wpList zq ops Q rest (a.put op.dst (.slice (some ⟨w.heap.size,0,none⟩) 1 1)) (w.alloc (.cells (Z5 n sa sc) 47))):wpList zq ops Q (op :: rest) a w:=
 wpList_plain hgd fun _ hK=>YG x ho n sa sc hx (hK _ _ h)
theorem Zc1 {α:Type}(p:α->Bool){es:List α}{k:Nat}{x:α}(h:es[k]? = some x):(es.take (k+1)).filter p=if p x=true then (es.take k).filter p ++ [x]else (es.take k).filter p:=by
 rw[Y8 h,List.filter_append];by_cases hq:p x=true
 ·rw[if_pos hq,List.filter_cons_of_pos hq];rfl
 ·rw[if_neg hq,List.filter_cons_of_neg hq];simp
theorem QP {W:World}{a:zA}{n c:Nat}{xs:List LN}(h:Jb W a n c xs){x:LN}(hx:x∈xs):x.ok W:=by
 have h0:0 < n:=by have:=List.length_pos_of_mem hx;have:=h.1;omega
 obtain⟨b,off,rfl,hat⟩:=h.at h0;obtain⟨i,hi⟩:=List.getElem?_of_mem hx;exact(hat i x hi).2
theorem Qn (xs:List LN): ∀u∈Zw xs,u.oneCell'=true:=by
 intro u hu;rw[Zw,List.mem_flatten]at hu;obtain⟨r,hr,h⟩:=hu;obtain⟨e,_,rfl⟩:=List.mem_map.1 hr;exact e.n.cells_one _ _ u h
theorem Vn {W:World}{a:zA}{n c:Nat}{xs:List LN}(h:Jb W a n c xs):ZX W 19 a n c (Zw xs):=by
 obtain⟨h1,h2,h3,h4⟩:=h;refine⟨by rw[Um,h1],h2,h3,h4.imp id ?_⟩;rintro⟨b,off,rfl,hat⟩;refine⟨b,off,rfl,fun j v hv=>?_⟩;have hl:=(List.getElem?_eq_some_iff.1 hv).1;rw[Um]at hl;obtain⟨x,hx⟩ : ∃x,xs[j / 19]? = some x:=⟨_,List.getElem?_eq_getElem (by omega)⟩;have h5:=Uq 19 (xs.map fun x=>x.n.cells x.sa x.sc) (by intro r hr;obtain⟨y,_,rfl⟩:=List.mem_map.1 hr;rfl) (j / 19) (x.n.cells x.sa x.sc) (by rw[List.getElem?_map,hx];rfl) (j % 19) (by omega);have h6:=(hat (j / 19) x hx).1 (j % 19) v (by rw[<-h5,show j / 19 * 19+j % 19=j by omega];exact hv);rwa [show off+j / 19 * 19+j % 19=off+j by omega]at h6
theorem ZcR {W:World}{q:Nat}{n:NoteV}{sa:zA}{sc:Nat}(h:W.heap[q]? = some (.cells (Z5 n sa sc) 47)):ZX W 19 (some ⟨q,0,none⟩) 1 1 (n.cells sa sc):=
 ⟨rfl,Nat.le_refl _,by unfold maxLen;omega,.inr ⟨q,0,rfl,fun j v hv=>by rw[Nat.zero_add];exact Z6 h j v (by simpa [Z5] using hv)⟩⟩
theorem Z80 (x:Xg):(zq.info? 210).map (·.size)=some x.cells.length:=by kernel_rfl
theorem Vr.mono {V V' W:World}{a:zA}{c n:Nat}{ys:List LN}(h:Vr V W a c n ys)(hb:Below V'.heap.size V' V):Vr V' W a c n ys:=
 ⟨hb.trans (h.bel.mono hb.size),Zp h.own hb.size,fun x hx=>Zp (h.str x hx) hb.size,h.len⟩
def GOk (G:Nm->Option LN)(w:World):Prop := ∀k x,G k=some x->x.ok w/\UM k/\x.n.strokes.length<=1000000000
theorem GOk.below {G:Nm->Option LN}{w w':World}(h:GOk G w)(hb:Below w.heap.size w w'):GOk G w':=fun k x hx=>⟨(h k x hx).1.below hb,(h k x hx).2⟩
def Zck (G:Nm->Option LN)(n:Nat)(w:World)(e:Ending)(W:World):Prop:=
 ∃(a:zA) (un c:Nat) (zs:List LN) (ks:List Nm),e = .returned (.slice a un c)/\Vr w W a c un zs/\zs.map LN.n=(ks.filterMap G).map LN.n/\JS G ks/\ks.Pairwise (fun x y=>Jx x y=true)/\(∀k∈ks,(G k).isSome=true)/\un<=n
theorem Z1H (b n:Nat)(G:Nm->Option LN)(w:World)(hm:YY LN.val w b n G)(hn:n<=1000)(hG:GOk G w):
  Calls zq 61 #[.map (some b)] w fun e w'=>Zck G n w e w'/\Below w.heap.size w w':=by
 have J2:(zq.info? 45).map (·.size)=some 2:=by kernel_rfl
 have M0:=zH hm;have HN:=zH hn;have HG0:=zH hG;clear hm hn hG;go_enter Tryz.func61,Tryz.ntmps61;go_wp2_with fail;refine(Z9N b w).mono ?_;rintro e w1 ⟨rfl,rfl⟩;have B1:=zH (zB w (.cells #[.map (some b)] 106));have P1:=zH (Z9 w (.cells #[.map (some b)] 106));have M1:=zH (M0.out.below B1.out);obtain⟨pB,hpB⟩:=zX (w.heap.size);rw[hpB.out]at P1;rw[hpB.out];generalize w.alloc (.cells #[.map (some b)] 106)=w1 at *;go_wp2_with fail;refine(Z4H pB b n G w1 P1.out M1.out HN.out).mono ?_;rintro e W5 ⟨⟨na,nc,ks,rfl,h1,h2,h3,h4,h5⟩,b5⟩;have RN:=zH (ZX.of_own h1);have HAL:=zH h2;have HSO:=zH h3;have HIN:=zH h4;have HKN:=zH h5;have B5:=zH (B1.out.trans (b5.mono B1.out.size));have M5:=zH (M1.out.below b5);have HX5:=zH (HG0.out.below B5.out);obtain⟨kn,hkn⟩:=zX (ks.length);rw[hkn.out]at RN HKN ⊢;clear b5 h1 h2 h3 h4 h5 P1 M1 B1;have H63:Hid ((kn:Int)<=9223372036854775807):=zH (by have:=HKN.out;have:=HN.out;omega);go_wp2_with fail;go_loopw [3,10] (fun ov iv wr=>∃(q:Nat) (oa:zA) (on oc:Nat) (zs:List LN),ov = .slice oa on oc/\iv = .int .i64 (q:Int)/\q<=kn/\Hid (Vr W5 wr oa oc on zs)/\Hid (zs.map LN.n=((ks.take q).filterMap G).map LN.n)/\on<=q) (fun _ iv _=>kn - (intOf iv).toNat)
 case atStart=>exact⟨0,none,0,0,[],rfl,rfl,Nat.zero_le _,zH (Vr.start _),zH rfl,Nat.le_refl _⟩
 case round=>
  obtain⟨q,oa,on,oc,zs,rfl,rfl,hq,MA,HZ,hon⟩:=hrel;by_cases hlt:q < kn
  ·have t0:decide ((q:Int) < (kn:Int))=true:=by simp;omega
   obtain⟨k,Hk⟩ : ∃k,ks[q]? = some k:=⟨_,List.getElem?_eq_getElem (by rw[hkn.out];exact hlt)⟩;obtain⟨y,hy⟩:=Option.isSome_iff_exists.1 (HIN.out k (List.mem_of_getElem? Hk));have GY:=zH hy;have HY:=zH (HX5.out k y hy);have HZ2:Hid (((ks.take (q+1)).filterMap G).map LN.n=zs.map LN.n ++ [y.n]):=zH (by
    rw[Y8 Hk,List.filterMap_append,List.map_append,<-HZ.out,List.filterMap_cons_some hy];rfl)
   obtain⟨kb,koff,rfl,hk1,hk2⟩:=Z1h (RN.out.below MA.out.bel) Hk;obtain⟨o,ho⟩:=zX (koff+q * 2);rw[ho.out]at hk1 hk2;have hix:=fun W=>ZN (W:=W) (c:=nc) (b:=kb) Tryz.underlying75 J2 hlt ho.out;have HK64:Hid ((q:Int)+1<=9223372036854775807):=zH (by have:=HKN.out;have:=HN.out;omega);obtain⟨kh,km⟩:=k;dsimp only at hk1 hk2;clear Hk hy;go_upto_region 5 with fail;clear t0 hix hk1 hk2;have bt:Below wr.heap.size wr (wr.alloc (.cells #[.int .i64 kh,.int .i64 km] 45)):=zB _ _;have P7:=zH (Z9 wr (.cells #[.int .i64 kh,.int .i64 km] 45));have MA2:=zH (MA.out.below bt);obtain⟨p7,hp7⟩:=zX (wr.heap.size);rw[hp7.out]at P7 ⊢;generalize wr.alloc (.cells #[.int .i64 kh,.int .i64 km] 45)=wt at *;clear bt MA;have n0:=Z6 P7.out 0 (.int .i64 kh) rfl;have n1:=Z6 P7.out 1 (.int .i64 km) rfl;have hget:(Instr.lookup 106 (.map (some b)) (.agg #[.int .i64 kh,.int .i64 km]) false).run zq wt = .ok (.agg (Z5 y.n y.sa y.sc)) wt:=Z6F (t:=106) (M5.out.below MA2.out.bel) Tryz.underlying106 (Jt wt) kh km HY.out.2.1 GY.out;go_wp2_with fail;refine(Z0n y.n y.sa y.sc wt (HY.out.1.below MA2.out.bel) HY.out.2.2).mono ?_;rintro e w5 ⟨ta,tc,rfl,hown,b5⟩;have MA5:=zH (MA2.out.below b5);have HO5:=zH (Zp hown MA2.out.bel.size);have bn:Below w5.heap.size w5 (w5.alloc (.cells (Z5 y.n ta tc) 47)):=zB _ _;obtain⟨a',c',v9,hrun,ho9,hg9⟩:=Yw (w5.alloc (.cells (Z5 y.n ta tc) 47)) W5.heap.size oa on oc _ (Zb MA5.out.own bn) _ 1 1 _ (XX w5 y.n ta tc) (y.n.cells_one _ _) (by have:=HKN.out;have:=HN.out;omega) (Nat.le_trans MA5.out.bel.size bn.size);have MA9:=zH (MA5.out.add (x:=⟨y.n,ta,tc⟩) HO5.out ho9 hg9);have HZ9:Hid ((zs ++ [(⟨y.n,ta,tc⟩:LN)]).map LN.n=((ks.take (q+1)).filterMap G).map LN.n):=zH (by rw[HZ2.out,List.map_append];rfl);clear hown b5 bn ho9 hg9 MA5 HO5 n0 n1 hget MA2;have hk64:=HK64.out;go_wp2_with (first
    |(refine YT rfl _ rfl y.n ta tc rfl ?_)
    |(refine Zu rfl _ _ _ rfl _ _ _ rfl rfl hrun ?_)
    | fail)
   go_roundw
   case rel=>exact⟨q+1,a',on+1,c',zs ++ [⟨y.n,ta,tc⟩],by go_num,by go_num,by omega,MA9,HZ9,by omega⟩
   case measure=>simp[intOf];omega
  ·have t0:decide ((q:Int) < (kn:Int))=false:=by simp;omega
   have UZ:Hid (zs.map LN.n=(ks.filterMap G).map LN.n):=zH (by rw[HZ.out,List.take_of_length_le (by rw[hkn.out];omega)]);have ON:Hid (on<=n):=zH (by have:=HKN.out;omega);go_wp2_with fail;go_returns;exact⟨⟨oa,on,oc,zs,ks,rfl,MA.out.mono B5.out,UZ.out,HAL.out,HSO.out,HIN.out,ON.out⟩,B5.out.trans (MA.out.bel.mono B5.out.size)⟩
structure ZC where
 f:Ys
 id:Int
 l:List NoteV
 c:Int->Nat
 ad:List NoteV
 sb:zU
 fb:zU
 sd:Nat
 fd:Nat
def ZC.new (f:Ys)(id:Int):ZC:=⟨f,id,[],fun _=>0,[],[],[],0,0⟩
def ZC.add (S:ZC)(n:NoteV):ZC := { S with l:=YI S.l n,c:=Z09 S.c n.house,ad:=S.ad ++ [n],sb:=S.sb ++ ZT (Yc n),fb:=S.fb ++ Y5 (Yc n) }
def J6 (f:Ys)(id:Int)(mb:Nat)(c:Int->Nat)(sp:Nat):Xz:=
 #[.int .i64 f.rings,.int .i64 f.sectors,.int .i64 f.wide,.int .i64 id,.map (some mb),.int .i64 (c 0:Int),.int .i64 (c 1:Int),.int .i64 (c 2:Int),.int .i64 (c 3:Int),.int .i64 (c 4:Int),.int .i64 (c 5:Int),.int .i64 (c 6:Int),.int .i64 (c 7:Int),.int .i64 (c 8:Int),.pointer (some ⟨sp,0,none⟩)]
theorem Z4r (f:Ys)(id:Int)(mb:Nat)(c:Int->Nat)(sp k:Nat)(hk:k<=8):(J6 f id mb c sp)[5+k]? = some (.int .i64 (c (k:Int):Int)):=by
 have:k=0\/k=1\/k=2\/k=3\/k=4\/k=5\/k=6\/k=7\/k=8:=by omega
 rcases this with rfl | rfl | rfl | rfl | rfl | rfl | rfl | rfl | rfl <;> rfl
theorem Zb2 (f:Ys)(id:Int)(mb:Nat)(c:Int->Nat)(sp k:Nat)(hk:k<=8):(J6 f id mb c sp).setIfInBounds (5+k) (.int .i64 ((c (k:Int):Int)+1))=J6 f id mb (Z09 c (k:Int)) sp:=by
 have:k=0\/k=1\/k=2\/k=3\/k=4\/k=5\/k=6\/k=7\/k=8:=by omega
 rcases this with rfl | rfl | rfl | rfl | rfl | rfl | rfl | rfl | rfl <;> simp[J6,Z09]
structure Xr (S:ZC):Prop where
 v:S.f.valid=true
 id:1<=S.id/\S.id<=8
 srt:S.l.Pairwise ltN
 frm : ∀x∈S.l,Zf S.f x=true
 ok : ∀x∈S.l,x.Ok
 nms:Qr S.l S.c
 len:S.ad.length=S.l.length
 sbl:S.sb.length<=2200 * S.ad.length
 fbl:S.fb.length=4 * S.ad.length
theorem Yh {f:Ys}{x:NoteV}(h:Zf f x=true):1<=x.house/\x.house<=8/\1<=x.num:=by
 simp only[Zf,Bool.and_eq_true,Zy,Ya]at h;omega
theorem zx {f:Ys}{x:NoteV}(hv:f.valid=true)(h:Zf f x=true):(Yc x).length<=2190:=by
 have h1:=Z4w x (Yf hv h);have h2:=Yg hv h;omega
theorem Xr.new {f:Ys}{id:Int}(hv:f.valid=true)(h:1<=id/\id<=8):Xr (ZC.new f id):=
 ⟨hv,h,List.Pairwise.nil,(fun x hx=>by cases hx),(fun x hx=>by cases hx),(fun a k=>by simp[ZC.new];omega),rfl,Nat.zero_le _,rfl⟩
theorem Xr.add {S:ZC}{n:NoteV}(h:Xr S)(hf:Zf S.f n=true)(hok:n.Ok)(hk:n.num=(S.c n.house:Int)+1):Xr (S.add n) /\ ∀y∈S.l,Zk y≠Zk n:=by
 have hfree : ∀y∈S.l,Zk y≠Zk n:=fun y hy e=>by
  have h5:=h.nms.le hy;have h6:y.house=n.house/\y.num=n.num:=by simpa [Zk] using e
  rw[h6.1,h6.2]at h5;omega
 refine⟨⟨h.v,h.id,Z37 h.srt hfree,fun x hx=>?_,fun x hx=>?_,(h.nms.add hk).perm fun x=>?_,?_,?_,?_⟩,hfree⟩
 ·rcases Qb.1 hx with hx | rfl
  ·exact h.frm x hx
  ·exact hf
 ·rcases Qb.1 hx with hx | rfl
  ·exact h.ok x hx
  ·exact hok
 ·rw[List.mem_append,List.mem_singleton];exact Qb
 ·show(S.ad ++ [n]).length=(YI S.l n).length;rw[YI,(Qp _ n S.l).length_eq,List.length_append,List.length_cons,h.len];rfl
 ·show(S.sb ++ ZT (Yc n)).length<=2200 * (S.ad ++ [n]).length;have:=h.sbl;have:=zx h.v hf;rw[List.length_append,List.length_append,Z0c,List.length_singleton];omega
 ·show(S.fb ++ Y5 (Yc n)).length=4 * (S.ad ++ [n]).length;have:=h.fbl;rw[List.length_append,List.length_append,Z1l,List.length_singleton];omega
def XJ (p mb:Nat)(G:Nm->Option LN)(SF:Nat->Prop):Nat->Prop:=fun b=>b=p\/b=mb\/SF b \/ ∃k x,G k=some x/\Value.ownBlock (.slice x.sa x.n.strokes.length x.sc)=some b
structure Xl (w:World)(p mb sp:Nat)(G:Nm->Option LN)(SF:Nat->Prop)(S:ZC):Prop where
 blk:w.heap[p]? = some (.cells (J6 S.f S.id mb S.c sp) 109)
 map:YY LN.val w mb S.l.length G
 gs : ∀k x,G k=some x->x.n∈S.l/\x.nm=k
 gl : ∀n∈S.l,∃x,G (Zk n)=some x/\x.n=n
 str : ∀k x,G k=some x->w.ownsRow 0 3 1 (.slice x.sa x.n.strokes.length x.sc) x.n.strokes.length (x.n.strokes.map Yo)
 stk:Ue w sp SF S.sb S.fb S.sd S.fd
section
variable {w w':World}{p mb sp:Nat}{G:Nm->Option LN}{SF:Nat->Prop}{S:ZC}
theorem Xl.same {X:Nat->Prop}(h:Xl w p mb sp G SF S)(hs:Za X w w')(hd : ∀k,X k -> ¬XJ p mb G SF k):Xl w' p mb sp G SF S:=
 ⟨(hs.block p (Zq h.blk) (fun hX=>hd p hX (.inl rfl))).trans h.blk,h.map.of_block (hs.block mb h.map.lt (fun hX=>hd mb hX (.inr (.inl rfl)))),h.gs,h.gl,
  fun k x hk=>Zi (h.str k x hk) hs (fun b hb hX=>hd b hX (.inr (.inr (.inr ⟨k,x,hk,hb⟩)))),h.stk.same hs (fun k hX hF=>hd k hX (.inr (.inr (.inl hF))))⟩
theorem Xl.below (h:Xl w p mb sp G SF S)(hb:Below w.heap.size w w'):Xl w' p mb sp G SF S:=h.same (X:=fun _=>False) (Za.of_below hb) (fun _ h=>h.elim)
theorem Xl.gok (h:Xl w p mb sp G SF S)(hi:Xr S):GOk G w:=fun k x hk=>by
 obtain⟨h1,h2⟩:=h.gs k x hk
 subst h2
 exact⟨ZX.of_own (h.str _ x hk),⟨(hi.ok _ h1).house,(hi.ok _ h1).num⟩,Nat.le_trans (Yg hi.v (hi.frm _ h1)) (by decide)⟩
theorem Xl.lt (h:Xl w p mb sp G SF S): ∀k,XJ p mb G SF k->k < w.heap.size:=by
 rintro k (rfl | rfl | hk | ⟨a,x,h1,h2⟩)
 ·exact Zq h.blk
 ·exact h.map.lt
 ·exact h.stk.lt k hk
 ·exact((h.str a x h1).lt k h2).2
theorem Xl.list {ks:List Nm}(h:Xl w p mb sp G SF S)(hi:Xr S)(ha:JS G ks)(hs:ks.Pairwise (fun x y=>Jx x y=true))(_hin : ∀k∈ks,(G k).isSome=true):(ks.filterMap G).map LN.n=S.l:=by
 refine Z3F ?_ hi.srt fun x=>?_
 ·rw[List.pairwise_map];clear ha _hin
  induction ks with
  | nil=>exact List.Pairwise.nil
  | cons k ks ih=>
   rw[List.pairwise_cons]at hs;cases hk:G k with
   | none=>rw[List.filterMap_cons_none hk];exact ih hs.2
   | some x=>
    rw[List.filterMap_cons_some hk];refine List.pairwise_cons.2 ⟨fun y hy=>?_,ih hs.2⟩;obtain⟨k',hk',h'⟩:=List.mem_filterMap.1 hy;unfold ltN;rw[show Zk x.n=k from(h.gs k x hk).2,show Zk y.n=k' from(h.gs k' y h').2];exact hs.1 k' hk'
 ·constructor
  ·intro hx;obtain⟨y,hy,rfl⟩:=List.mem_map.1 hx;obtain⟨k,_,hk⟩:=List.mem_filterMap.1 hy;exact(h.gs k y hk).1
  ·intro hx;obtain⟨y,hy,rfl⟩:=h.gl x hx;exact List.mem_map_of_mem (List.mem_filterMap.2 ⟨_,ha _ (by rw[hy];rfl),hy⟩)
end
theorem Z65 {W:World}{p k:Nat}(hk:k < 9):(Instr.indexAt 107 (.pointer (some ⟨p,5,none⟩)) (.int .i64 (k:Int))).run zq W = .ok (.pointer (some ⟨p,5+k,none⟩)) W:=by
 have hsz:(zq.info? 3).map (·.size)=some 1:=by kernel_rfl
 cases hq:zq.info? 3 with
 | none=>simp[hq]at hsz
 | some i=>
  simp only[hq,Option.map_some,Option.some.injEq]at hsz;simp[Instr.indexAt,run_underlying Tryz.underlying107,Instr.sureAddr,asIntOf,sizeOf,typeInfo,hq,hsz,Addr.add,hk]
theorem VW (w:World)(p mb sp:Nat)(f:Ys)(id:Int)(c:Int->Nat)(h:w.heap[p]? = some (.cells (J6 f id mb c sp) 109)):
  Calls zq 53 #[.pointer (some ⟨p,0,none⟩)] w fun e w'=>e = .returned (.bool true)/\w'=w:=by
 have c14:=Z6 h 14 (.pointer (some ⟨sp,0,none⟩)) rfl;go_enter Tryz.func53,Tryz.ntmps53;go_wp2;go_ret;exact⟨rfl,rfl⟩
theorem Ue.kind {w:World}{p:Nat}{F:Nat->Prop}{sb fb:zU}{sd fd:Nat}(h:Ue w p F sb fb sd fd): ∀b,F b -> ∃cur t,w.heap[b]? = some (.cells cur t (0,0))/\(t=168\/t=5):=by
 obtain⟨sa,sc,fa,fc,h1,h2,h3,h4,h5,_⟩:=h;intro b hb;rcases(h5 b).1 hb with rfl | hb | hb
 ·exact⟨_,_,h1,.inl rfl⟩
 ·rcases h2.2 with ⟨h6,_⟩ | ⟨g,cap,cur,h6,_,hg,_⟩
  ·rw[h6]at hb;cases hb
  ·rw[h6]at hb;simp only[Value.ownBlock,Option.some.injEq]at hb;subst hb;exact⟨_,_,hg,.inr rfl⟩
 ·rcases h3.2 with ⟨h6,_⟩ | ⟨g,cap,cur,h6,_,hg,_⟩
  ·rw[h6]at hb;cases hb
  ·rw[h6]at hb;simp only[Value.ownBlock,Option.some.injEq]at hb;subst hb;exact⟨_,_,hg,.inr rfl⟩
theorem Z0g {w:World}{base k n:Nat}{e:TypeId}{v:Value}{xs:List Value}(h:w.ownsRow base e k v n xs): ∀b,v.ownBlock=some b -> ∃cur,w.heap[b]? = some (.cells cur e (0,0)):=by
 intro b hb;rcases h.2 with ⟨h6,_⟩ | ⟨g,cap,cur,h6,_,hg,_⟩
 ·rw[h6]at hb;cases hb
 ·rw[h6]at hb;simp only[Value.ownBlock,Option.some.injEq]at hb;subst hb;exact⟨_,hg⟩
section
variable {w W:World}{p mb sp:Nat}{G:Nm->Option LN}{SF:Nat->Prop}{S:ZC}
structure Ze8 (p mb:Nat)(G:Nm->Option LN)(SF:Nat->Prop):Prop where
 pm:p≠mb
 ps : ¬SF p
 ms : ¬SF mb
 st : ∀k x,G k=some x -> ∀b,Value.ownBlock (.slice x.sa x.n.strokes.length x.sc)=some b->b≠p/\b≠mb /\ ¬SF b
theorem Xl.dis (h:Xl w p mb sp G SF S):Ze8 p mb G SF:=by
 obtain⟨es,cl,hm⟩:=h.map.blk;refine⟨fun e=>?_,fun e=>?_,fun e=>?_,fun k x hk b hb=>?_⟩
 ·have h1:=h.blk;rw[e,hm]at h1;cases h1
 ·obtain⟨cur,t,h1,h2⟩:=h.stk.kind p e;rw[h.blk]at h1;simp only[Option.some.injEq,Obj.cells.injEq]at h1;rcases h2 with rfl | rfl
  ·exact absurd h1.2.1 (by decide)
  ·exact absurd h1.2.1 (by decide)
 ·obtain⟨cur,t,h1,_⟩:=h.stk.kind mb e;rw[hm]at h1;cases h1
 ·obtain⟨cur,h1⟩:=Z0g (h.str k x hk) b hb;refine⟨fun e=>?_,fun e=>?_,fun e=>?_⟩
  ·subst e;rw[h.blk]at h1;simp only[Option.some.injEq,Obj.cells.injEq]at h1;exact absurd h1.2.1 (by decide)
  ·subst e;rw[hm]at h1;cases h1
  ·obtain⟨cur2,t,h2,h3⟩:=h.stk.kind b e;rw[h1]at h2;simp only[Option.some.injEq,Obj.cells.injEq]at h2;rcases h3 with rfl | rfl
   ·exact absurd h2.2.1 (by decide)
   ·exact absurd h2.2.1 (by decide)
end
def Zd5 (w:World)(p mb sp:Nat)(G:Nm->Option LN)(SF:Nat->Prop)(S:ZC)(n:NoteV)(W:World):Prop:=
 ∃ta tc SF',Xl W p mb sp (XE G (Zk n) ⟨n,ta,tc⟩) SF' (S.add n)/\Za (XJ p mb G SF) w W /\ ∀k,XJ p mb (XE G (Zk n) ⟨n,ta,tc⟩) SF' k->XJ p mb G SF k\/w.heap.size<=k
section
attribute [local go_sem] ZS
theorem Z4t (p mb sp:Nat)(G:Nm->Option LN)(SF:Nat->Prop)(S:ZC)(n:NoteV)(sa:zA)(sc:Nat)(w:World)(hh:Xl w p mb sp G SF S)(hi:Xr S)(hs : ∀W,Za (XJ p mb G SF) w W->Xe W sa n.strokes.length sc n.strokes)
  (hf:Zf S.f n=true) (hok:n.Ok) (hnum:n.num=(S.c n.house:Int)+1) (hlen:S.l.length<=400):
  Calls zq 60 #[.pointer (some ⟨p,0,none⟩),.agg (Z5 n sa sc)] w fun e w'=>e = .returned (.tuple #[])/\Zd5 w p mb sp G SF S n w':=by
 have HH:=zH hh;have HI:=zH hi;have HF:=zH hf;have HOK:=zH hok;have HNUM:=zH hnum;have HLEN:=zH hlen;have DIS:=zH hh.dis;have HST:=zH (show n.strokes.length<=200 from Yg hi.v hf);have NOK:Hid (UM (n.house,n.num)):=zH ⟨hok.house,hok.num⟩;have HFREE:=zH (hi.add hf hok hnum).2;have HINV:=zH (hi.add hf hok hnum).1;obtain⟨k,hk,hk8⟩ : ∃k:Nat,n.house=(k:Int)/\k<=8:=⟨n.house.toNat,by have:=Yh hf;omega,by have:=Yh hf;omega⟩;have HK:=zH hk;have HK8:=zH hk8;have CB:Hid ((S.c (k:Int):Int)+1<=9223372036854775807):=zH (by
  have h1:=hok.num;rw[<-hk,<-hnum];unfold Qm at h1;omega)
 have B0:=zH (zB w (.cells (Z5 n sa sc) 47));have N0:=zH (Z9 w (.cells (Z5 n sa sc) 47));have H0:=zH (hh.below B0.out);have RS:=zH ((hs w (Za.of_below (Below.refl _ _))).below B0.out);have RSL:=zH (show ∀W,Za (fun q=>q=p\/q=mb) w W->Xe W sa n.strokes.length sc n.strokes from fun W hS=>hs W (hS.weaken (fun q h=>h.elim .inl (fun h=>.inr (.inl h)))));clear hh hi hs hf hok hnum hlen hk hk8;go_enter Tryz.func60,Tryz.ntmps60;go_upto_region 1 with fail;obtain⟨p3,hp3⟩:=zX (w.heap.size);have NE3:Hid (∀b,b < w.heap.size->b≠p3):=zH (by have:=hp3.out;omega);rw[hp3.out]at N0;rw[hp3.out];generalize w.alloc (.cells (Z5 n sa sc) 47)=w0 at *;refine zD (fun w'=>w'.heap[p3]? = some (.cells (Z5 n sa sc) 47)/\w'.heap[p]? = some (.cells (J6 S.f S.id mb S.c sp) 109)) (show w0.drew.heap[p3]? = _/\w0.drew.heap[p]? = _ from⟨N0.out,H0.out.blk⟩) fun hh=>?_;refine zw 0 rfl p 0 ?_;refine zw 1 rfl p 0 ?_;refine zw 2 rfl p 4 ?_;refine zS 3 rfl (.map (some mb)) (fun W h=>by have hc:=Z6 h.2 4 (.map (some mb)) rfl;go_simp) ?_;refine zT 4 rfl (.agg (Z5 n sa sc)) (zY p3 fun W h=>h.1) ?_;refine zT 6 rfl (.agg (Z5 n sa sc)) (zY p3 fun W h=>h.1) ?_;refine zR 5 rfl fun K hK=>?_;go_simp;go_at_call 58;refine(Vg n sa sc _).mono ?_;rintro e v1 ⟨rfl,b1⟩;have B1:=zH (((zd w0)).trans b1);have N1:=zH (Z7 B1.out N0.out);have P1:=zH (Z7 B1.out H0.out.blk);clear b1;dsimp only;refine zK hK ⟨N1.out,P1.out⟩ fun hh=>?_;clear hK K;refine zR 7 rfl fun K hK=>?_;go_simp;go_at_call 71;refine(Z0n n sa sc v1 (RS.out.below B1.out) (Nat.le_trans HST.out (by decide))).mono ?_;rintro e v2 ⟨ta,tc,rfl,hown,b2⟩;have B2:=zH (B1.out.trans (b2.mono B1.out.size));have N2:=zH (Z7 b2 N1.out);have P2:=zH (Z7 b2 P1.out);have O2:=zH hown;have V1S:=zH B1.out.size;clear b2 hown N1 P1;dsimp only;refine zK hK ⟨N2.out,P2.out⟩ fun hh=>?_;clear hK K;refine zR 8 rfl fun K hK=>?_;obtain⟨v3,hrun,hm3,ht3⟩:=QU (t:=106) (H0.out.map.below B2.out) (by have:=HLEN.out;unfold maxLen;omega) Tryz.underlying106 n.house n.num NOK.out (⟨n,ta,tc⟩:LN)
 have M3:=zH hm3;have G3:=zH ht3.grown;have N3:=zH (Zc ht3.grown N2.out (fun e=>absurd (Option.some.inj e) (NE3.out mb HH.out.map.lt).symm));have P3:=zH (Zc ht3.grown P2.out (fun e=>absurd (Option.some.inj e) DIS.out.pm));clear hm3 ht3;unfold LN.val at hrun;go_simp;refine zK hK ⟨N3.out,P3.out⟩ fun hh=>?_;clear hK K;refine zE ?_;have S3:Hid (Za (fun q=>q=mb) w v3):=zH (((Za.of_below B0.out).trans (Za.of_below B2.out)).trans (Za.of_grown G3.out (fun q e=>by cases e;rfl)));have O3:=zH (show v3.ownsRow w.heap.size 3 1 (.slice ta n.strokes.length tc) n.strokes.length (n.strokes.map Yo)from(Zp O2.out (Nat.le_trans B0.out.size V1S.out)).kept G3.out (.inr (by
  obtain⟨es,cl,hm⟩:=(H0.out.map.below B2.out).blk;exact(Zg O2.out hm (by intro cur;simp)).symm)))
 clear G3 N2 P2 O2 V1S B2 hrun;go_upto_region 2 with fail;refine zp N3.out fun hh=>?_;refine zw 0 rfl p 0 ?_;refine zw 1 rfl p3 0 ?_;refine zS 2 rfl (.int .i64 (k:Int)) (fun W h=>by have hc:W.cell? ⟨p3,0,none⟩=some (.int .i64 (k:Int)):=(by rw[<-HK.out];exact Z6 h 0 (.int .i64 n.house) rfl);go_simp) ?_;refine zw 3 rfl p 0 ?_;refine zw 4 rfl p 5 ?_;refine zS 5 rfl (.pointer (some ⟨p,5+k,none⟩)) (fun W h=>by have hc:=Z65 (W:=W) (p:=p) (k:=k) (by have:=HK8.out;omega);go_simp) ?_;refine zw 8 rfl p 0 ?_;refine zw 9 rfl p 5 ?_;refine zR 6 rfl fun K hK=>?_;have hc:=Z6 (show v3.drew.heap[p]? = _ from P3.out) (5+k) (.int .i64 (S.c (k:Int):Int)) (Z4r _ _ _ _ _ k HK8.out);go_simp;clear hc;refine zK hK N3.out fun hh=>?_;clear hK K;refine zS 7 rfl (.int .i64 ((S.c (k:Int):Int)+1)) (fun W h=>by have hcb:IntKind.i64.wrap ((S.c (k:Int):Int)+1)=(S.c (k:Int):Int)+1:=(by have h9:=CB.out;rw[IntKind.wrap_i64];omega);go_simp) ?_;refine zS 10 rfl (.pointer (some ⟨p,5+k,none⟩)) (fun W h=>by have hc:=Z65 (W:=W) (p:=p) (k:=k) (by have:=HK8.out;omega);go_simp) ?_;refine zR 11 rfl fun K hK=>?_;have hc:=Z6 (show v3.drew.heap[p]? = _ from P3.out) (5+k) (.int .i64 (S.c (k:Int):Int)) (Z4r _ _ _ _ _ k HK8.out);have hfz:=Ze (show v3.drew.heap[p]? = _ from P3.out) (5+k);have P4:Hid ((v3.drew.setCell ⟨p,5+k,none⟩ (.int .i64 ((S.c (k:Int):Int)+1))).heap[p]? = some (.cells (J6 S.f S.id mb (Z09 S.c (k:Int)) sp) 109 (0,0))):=zH (by
  have h1:=ZW (show v3.drew.heap[p]? = _ from P3.out) (5+k) (.int .i64 ((S.c (k:Int):Int)+1));rwa [Zb2 _ _ _ _ _ k HK8.out]at h1)
 have G4:=zH (Zj v3.drew p (5+k) (.int .i64 ((S.c (k:Int):Int)+1)));have N4:=zH (Zc G4.out (show v3.drew.heap[p3]? = _ from N3.out) (fun e=>absurd (Option.some.inj e) (NE3.out p (Zq HH.out.blk)).symm));go_simp;refine zK hK N4.out fun hh=>?_;clear hK K;refine zE ?_;clear hc hfz;change Exit.then _ _ _ _ (v3.drew.setCell ⟨p,5+k,none⟩ (.int .i64 ((S.c (k:Int):Int)+1)));generalize v3.drew.setCell ⟨p,5+k,none⟩ (.int .i64 ((S.c (k:Int):Int)+1))=v4 at *;have S4:Hid (Za (fun q=>q=p\/q=mb) w v4):=zH (((S3.out.weaken (fun q h=>.inr h)).trans (Za.of_below ((zd v3)))).trans (Za.of_grown G4.out (fun q e=>by cases e;exact .inl rfl)));have M4:=zH (show YY LN.val v4 mb (S.l.length+1) (XE G (n.house,n.num) ⟨n,ta,tc⟩)from(M3.out.below ((zd v3))).kept G4.out (fun e=>absurd (Option.some.inj e).symm DIS.out.pm));have O4:=zH (show v4.ownsRow w.heap.size 3 1 (.slice ta n.strokes.length tc) n.strokes.length (n.strokes.map Yo)from(Zb O3.out ((zd v3))).kept G4.out (.inr (Zg (Zb O3.out ((zd v3))) (show v3.drew.heap[p]? = _ from P3.out) (by intro cur;simp)).symm));have K4:=zH (show Ue v4 sp SF S.sb S.fb S.sd S.fd from HH.out.stk.same S4.out (fun q hq hF=>by
  rcases hq with rfl | rfl
  ·exact DIS.out.ps hF
  ·exact DIS.out.ms hF))
 have RS4:=zH (show Xe v4 sa n.strokes.length sc n.strokes from RSL.out v4 S4.out);clear G4 N3 P3 S3 M3 O3;go_upto_region 3 with fail;refine zD (fun w'=>w'.heap[p3]? = some (.cells (Z5 n sa sc) 47)/\w'.heap[p]? = some (.cells (J6 S.f S.id mb (Z09 S.c (k:Int)) sp) 109 (0,0))) (show v4.drew.heap[p3]? = _/\v4.drew.heap[p]? = _ from⟨N4.out,P4.out⟩) fun hh=>?_;refine zw 0 rfl p 0 ?_;refine zw 1 rfl p 0 ?_;refine zw 2 rfl p 14 ?_;refine zS 3 rfl (.pointer (some ⟨sp,0,none⟩)) (fun W h=>by have hc:=Z6 h.2 14 (.pointer (some ⟨sp,0,none⟩)) rfl;go_simp) ?_;refine zT 4 rfl (.agg (Z5 n sa sc)) (zY p3 fun W h=>h.1) ?_;refine zR 5 rfl fun K hK=>?_;go_simp;go_at_call 117;refine(Uu n sa sc v4.drew (RS4.out.below ((zd v4))) (Yf HI.out.v HF.out) (Nat.le_trans HST.out (by decide))).mono ?_;rintro e v5 ⟨ba,bc,rfl,hb5,b5⟩;have B5:=zH (((zd v4)).trans b5);have R5:=zH (Yb.of_own hb5);have N5:=zH (Z7 B5.out N4.out);have P5:=zH (Z7 B5.out P4.out);clear hb5 b5;dsimp only;refine zK hK ⟨N5.out,P5.out⟩ fun hh=>?_;clear hK K;refine zR 6 rfl fun K hK=>?_;go_simp;go_at_call 109;have hel:=zx HI.out.v HF.out;refine(Z8Z v5 sp SF S.sb S.fb S.sd S.fd ba (Yc n).length bc (Yc n) (K4.out.same (S:=fun _=>False) (Za.of_below B5.out) (fun _ h=>h.elim)) R5.out (by omega) (by have h1:=HI.out.sbl;have h2:=HI.out.len;have h3:=HLEN.out;omega) (by have h1:=HI.out.fbl;have h2:=HI.out.len;have h3:=HLEN.out;omega)).mono ?_;rintro e v6 ⟨rfl,SF',hk6,hs6,hf6⟩;have P6:=zH ((hs6.block p (Zq P5.out) DIS.out.ps).trans P5.out);have N6:=zH ((hs6.block p3 (Zq N5.out) (fun hF=>absurd rfl (NE3.out p3 (HH.out.stk.lt p3 hF)))).trans N5.out);have K6:=zH hk6;have S6:=zH hs6;have F6:=zH hf6;clear hk6 hs6 hf6 hel;dsimp only;refine zK hK ⟨N6.out,P6.out⟩ fun hh=>?_;clear hK K;refine zE ?_;go_wp2;go_end0;have S46:Hid (Za (fun q=>q=p\/q=mb\/SF q) w v6):=zH (((S4.out.weaken (fun q h=>h.elim .inl (fun h=>.inr (.inl h)))).trans (Za.of_below B5.out)).trans (S6.out.weaken (fun q h=>.inr (.inr h))));have O6:Hid (v6.ownsRow w.heap.size 3 1 (.slice ta n.strokes.length tc) n.strokes.length (n.strokes.map Yo)):=zH (Zi (Zb O4.out B5.out) S6.out (fun b hb hF=>absurd (HH.out.stk.lt b hF) (by have:=(O4.out.lt b hb).1;omega)))
 have M6:Hid (YY LN.val v6 mb (S.l.length+1) (XE G (n.house,n.num) ⟨n,ta,tc⟩)):=zH ((M4.out.below B5.out).of_block (S6.out.block mb (Nat.lt_of_lt_of_le M4.out.lt B5.out.size) DIS.out.ms));refine⟨rfl,ta,tc,SF',⟨?_,?_,fun a x hx=>?_,fun y hy=>?_,fun a x hx=>?_,K6.out⟩,?_,?_⟩
 ·have:=P6.out;rwa [<-HK.out]at this
 ·have h1:=M6.out;show YY LN.val v6 mb (YI S.l n).length _;rwa [YI,(Qp _ n S.l).length_eq,List.length_cons]
 ·unfold XE at hx;split at hx
  ·rename_i e;cases hx;exact⟨Qb.2 (.inr rfl),e.symm⟩
  ·obtain⟨h1,h2⟩:=HH.out.gs a x hx;exact⟨Qb.2 (.inl h1),h2⟩
 ·rcases Qb.1 hy with hy | rfl
  ·obtain⟨x,h1,h2⟩:=HH.out.gl y hy;refine⟨x,?_,h2⟩;unfold XE;rw[if_neg (HFREE.out y hy)];exact h1
  ·exact⟨⟨y,ta,tc⟩,by unfold XE;rw[if_pos rfl],rfl⟩
 ·unfold XE at hx;split at hx
  ·cases hx;exact Zp O6.out (Nat.zero_le _)
  ·exact Zi (HH.out.str a x hx) S46.out (fun b hb hq=>by
    obtain⟨d1,d2,d3⟩:=DIS.out.st a x hx b hb;rcases hq with hq | hq | hq
    ·exact d1 hq
    ·exact d2 hq
    ·exact d3 hq)
 ·exact S46.out.weaken (fun q h=>by
   rcases h with h | h | h
   ·exact .inl h
   ·exact .inr (.inl h)
   ·exact .inr (.inr (.inl h)))
 ·rintro q (h | h | h | ⟨a,x,h,h2⟩)
  ·exact .inl (.inl h)
  ·exact .inl (.inr (.inl h))
  ·rcases F6.out q h with h3 | h3
   ·exact .inl (.inr (.inr (.inl h3)))
   ·exact .inr (Nat.le_trans S4.out.size (Nat.le_trans B5.out.size h3))
  ·unfold XE at h;split at h
   ·cases h;exact .inr (O6.out.lt q h2).1
   ·exact .inl (.inr (.inr (.inr ⟨a,x,h,h2⟩)))
end
def Z1y (c:Int->Nat):List NoteV->Prop
 | []=>True
 | n :: ns=>n.num=(c n.house:Int)+1/\Z1y (Z09 c n.house) ns
theorem UR {l:List NoteV}: ∀(ns fr:List NoteV) (c:Int->Nat) {fr':List NoteV} {c':Int->Nat},Qr (l ++ fr) c->(∀n∈ns,1<=n.num)->Ym l fr c ns=some (fr',c') -> ∃t,fr'=fr ++ t/\Z1y c t /\ ∀x∈t,x∈ns
 | [],fr,c,fr',c',_,_,h=>by
  simp only[Ym,Option.some.injEq,Prod.mk.injEq]at h
  exact⟨[],by rw[h.1,List.append_nil],trivial,fun x hx=>by cases hx⟩
 | n :: ns,fr,c,fr',c',h1,h3,h=>by
  rw[Ym]at h
  have h3' : ∀m∈ns,1<=m.num:=fun m hm=>h3 m (List.mem_cons_of_mem _ hm)
  split at h
  ·split at h
   ·obtain⟨t,a1,a2,a3⟩:=UR ns fr c h1 h3' h
    exact⟨t,a1,a2,fun x hx=>List.mem_cons_of_mem _ (a3 x hx)⟩
   ·cases h
  ·rename_i hk
   split at h
   ·obtain⟨t,a1,a2,a3⟩:=UR ns fr c h1 h3' h
    exact⟨t,a1,a2,fun x hx=>List.mem_cons_of_mem _ (a3 x hx)⟩
   ·rename_i hle
    have hlt:=h1.free (h3 n (List.mem_cons_self ..)) (JQ hk)
    have hadd:=h1.add (n:=n) (by omega)
    rw[List.append_assoc]at hadd
    obtain⟨t,a1,a2,a3⟩:=UR ns (fr ++ [n]) (Z09 c n.house) hadd h3' h
    refine⟨n :: t,by rw[a1,List.append_assoc];rfl,⟨by omega,a2⟩,fun x hx=>?_⟩
    rcases List.mem_cons.1 hx with rfl | hx
    ·exact List.mem_cons_self ..
    ·exact List.mem_cons_of_mem _ (a3 x hx)
def ZC.adds (S:ZC)(fr:List NoteV):ZC:=fr.foldl ZC.add S
theorem Z5B (S:ZC)(fr:List NoteV)(n:NoteV):S.adds (fr ++ [n])=(S.adds fr).add n:=by simp[ZC.adds,List.foldl_append]
theorem Z6m: ∀(fr:List NoteV) (S:ZC),(S.adds fr).f=S.f
 | [],_=>rfl
 | n :: fr,S=>Z6m fr (S.add n)
theorem ZbC: ∀(fr:List NoteV) (S:ZC),(S.adds fr).l=Z6n S.l fr
 | [],_=>rfl
 | n :: fr,S=>ZbC fr (S.add n)
theorem Z21 (fr:List NoteV)(S:ZC):(S.adds fr).l.length=S.l.length+fr.length:=by rw[ZbC,Z4B]
theorem Z22: ∀(fr:List NoteV) (S:ZC),Xr S->Z1y S.c fr->(∀x∈fr,Zf S.f x=true/\x.Ok)->Xr (S.adds fr)
 | [],_,h,_,_=>h
 | n :: fr,S,h,hs,hf=>Z22 fr (S.add n) (h.add (hf n (List.mem_cons_self ..)).1 (hf n (List.mem_cons_self ..)).2 hs.1).1 hs.2 (fun x hx=>hf x (List.mem_cons_of_mem _ hx))
theorem Z6D: ∀(fr:List NoteV) (S:ZC) (q:Nat) (n:NoteV),Z1y S.c fr->fr[q]? = some n->n.num=((S.adds (fr.take q)).c n.house:Int)+1
 | [],_,q,n,_,h=>by simp at h
 | m :: fr,S,0,n,hs,h=>by
  simp at h
  subst h
  exact hs.1
 | m :: fr,S,q+1,n,hs,h=>by
  have:=Z6D fr (S.add m) q n hs.2 (by simpa using h)
  exact this
theorem Z1b: ∀(fr:List NoteV) (c:Int->Nat) (q:Nat),Z1y c fr->Z1y c (fr.take q)
 | [],_,q,_=>by simp[Z1y]
 | m :: fr,c,0,_=>trivial
 | m :: fr,c,q+1,h=>⟨h.1,Z1b fr _ q h.2⟩
def Yy (S:ZC)(l:List NoteV):ZC×Int×Int:=
 if l.any (fun n=>!decide (ZD S.f n=0))=true then (S,0,80)else match Ym S.l [] S.c l with | none=>(S,0,81) | some (fr,_)=>(S.adds fr,(fr.length:Int),0)
theorem UT {S:ZC}{l:List NoteV}(h:l.any (fun n=>!decide (ZD S.f n=0))=true):Yy S l=(S,0,80):=by unfold Yy;rw[if_pos h]
theorem QZ {S:ZC}{l:List NoteV}(h:l.any (fun n=>!decide (ZD S.f n=0))=false)(h2:Ym S.l [] S.c l=none):Yy S l=(S,0,81):=by unfold Yy;rw[if_neg (by rw[h];decide),h2]
theorem US {S:ZC}{l fr:List NoteV}{c:Int->Nat}(h:l.any (fun n=>!decide (ZD S.f n=0))=false)(h2:Ym S.l [] S.c l=some (fr,c)):Yy S l=(S.adds fr,(fr.length:Int),0):=by unfold Yy;rw[if_neg (by rw[h];decide),h2]
theorem QJ {S:ZC}(hv:S.f.valid=true){l:List NoteV}(h:l.any (fun n=>!decide (ZD S.f n=0))=false): ∀n∈l,Zf S.f n=true:=fun n hn=>by
 rw[List.any_eq_false]at h
 have h1:=h n hn
 simp only[Bool.not_eq_true',decide_eq_false_iff_not,Decidable.not_not]at h1
 unfold ZD at h1
 rw[if_pos hv]at h1
 by_cases h2:Zf S.f n=true
 ·exact h2
 ·rw[if_neg h2]at h1
  cases h1
theorem Z2A {S:ZC}{l:List NoteV}(h:Xr S)(hok : ∀x∈l,x.Ok):Xr (Yy S l).1/\(Yy S l).1.l.length<=S.l.length+l.length:=by
 cases hb:l.any (fun n=>!decide (ZD S.f n=0))with
 | true=>rw[UT hb];exact⟨h,Nat.le_add_right _ _⟩
 | false=>
  have hf:=QJ h.v hb;cases hg:Ym S.l [] S.c l with
  | none=>rw[QZ hb hg];exact⟨h,Nat.le_add_right _ _⟩
  | some r=>
   obtain⟨fr,c'⟩:=r;rw[US hb hg];have hn:Qr (S.l ++ []) S.c:=by rw[List.append_nil];exact h.nms
   obtain⟨t,e,hs,hm⟩:=UR l [] S.c hn (fun n hn=>(Yh (hf n hn)).2.2) hg;rw[List.nil_append]at e;subst e;have hl:=(Z3x l [] S.c hn (by rw[List.append_nil];exact VH h.srt) (fun n hn=>(Yh (hf n hn)).2.2) hg).2.2.2;exact⟨Z22 fr S h hs (fun x hx=>⟨hf x (hm x hx),hok x (hm x hx)⟩),by show(S.adds fr).l.length<=_;rw[Z21];simp at hl;omega⟩
def Z8t (es:List Nm)(p:Nm->Bool):Int:=match es.findIdx? p with | some i=>(i:Int) | none => -1
theorem ZbY {es:List Nm}{p:Nm->Bool}{k:Nat}{x:Nm}(hx:es[k]? = some x)(hp:p x=true)(hb : ∀j y,j < k->es[j]? = some y->p y=false):Z8t es p=k:=by
 have:es.findIdx? p=some k:=by
  rw[List.findIdx?_eq_some_iff_getElem];obtain⟨h1,rfl⟩:=List.getElem?_eq_some_iff.1 hx;exact⟨h1,hp,fun j hj=>by rw[hb j _ hj (List.getElem?_eq_getElem (by omega))];decide⟩
 simp[Z8t,this]
theorem Z9Q {es:List Nm}{p:Nm->Bool}(hb : ∀j y,j < es.length->es[j]? = some y->p y=false):Z8t es p = -1:=by
 have:es.findIdx? p=none:=by
  rw[List.findIdx?_eq_none_iff];intro x hx;obtain⟨j,h1,h2⟩:=List.getElem_of_mem hx;exact hb j x h1 (by rw[List.getElem?_eq_getElem h1,h2])
 simp[Z8t,this]
theorem Z8r (es:List Nm)(pred:Nm->Bool)(fn:Nat)(cv:Value)(hfn : ∀(args:Xz) (w:World),(callFunc fn args).run zq w = .ok (.enter fn args) w)
  (a:zA) (n c:Nat) (w:World) (hr:ZX w 2 a n c (ZH es))
  (hp : ∀e∈es,∀W,Below w.heap.size w W->Calls zq fn #[.agg #[.int .i64 e.1,.int .i64 e.2],cv] W fun r W'=>r = .returned (.bool (pred e))/\Below W.heap.size W W'):
  Calls zq 127 #[.slice a n c,.func (.func fn) #[] #[cv]] w fun e w'=>e = .returned (.int .i64 (Z8t es pred))/\Below w.heap.size w w':=by
 have I2:(zq.info? 45).map (·.size)=some 2:=by kernel_rfl
 have hn63:=hr.maxn;have HN:Hid (es.length=n):=zH (by have:=hr.len;rw[XA]at this;omega);have RE:=zH (show ∀W,Below w.heap.size w W->ZX W 2 a n c (ZH es)from fun W h=>hr.below h);have HPD:=zH hp;clear hr hp;go_enter Tryz.func127,Tryz.ntmps127;go_wp2_with fail;go_loopw [5,8] (fun _ i wr=>∃k:Nat,i = .int .i64 k/\k<=n/\Hid (∀j y,j < k->es[j]? = some y->pred y=false)/\Hid (Below w.heap.size w wr)) (fun _ i _=>n - (intOf i).toNat)
 case atStart=>exact⟨0,rfl,Nat.zero_le _,zH (fun j y h=>by omega),zH (Below.refl _ _)⟩
 case round=>
  obtain⟨k,rfl,hk,HB,B1⟩:=hrel;by_cases hkn:k < n
  ·have t0:decide ((k:Int) < (n:Int))=true:=by simp;omega
   obtain⟨x,Hx⟩ : ∃x,es[k]? = some x:=⟨es[k]'(by rw[HN.out];exact hkn),List.getElem?_eq_getElem (by rw[HN.out];exact hkn)⟩;obtain⟨b,off,rfl,hk1,hk2⟩:=Z1h (RE.out _ B1.out) Hx;obtain⟨o,ho⟩:=zX (off+k * 2);rw[ho.out]at hk1 hk2;have hi:=fun W=>ZN (W:=W) (c:=c) (b:=b) Tryz.underlying75 I2 hkn ho.out;have hk64:(k:Int)+1<=9223372036854775807:=by omega
   obtain⟨xh,xm⟩:=x;dsimp only at hk1 hk2;go_wp2_with fail;refine(HPD.out (xh,xm) (List.mem_of_getElem? Hx) _ B1.out).mono ?_;rintro e w2 ⟨rfl,b2⟩;have B2:=zH (B1.out.trans (b2.mono B1.out.size));clear b2 hi t0;cases hpx:pred (xh,xm)with
   | true=>
    go_wp2;go_ret;exact⟨by rw[ZbY Hx hpx HB.out];rfl,B2.out⟩
   | false=>
    have HPX:=zH hpx;clear hpx;go_wp2;go_roundw
    case rel=>exact⟨k+1,by simp,by omega,zH (fun j y hj hy=>by
     rcases Nat.lt_or_ge j k with h | h
     ·exact HB.out j y h hy
     ·have e:j=k:=by omega
      subst e;rw[Hx]at hy;cases hy;exact HPX.out),B2⟩
    case measure=>simp[intOf];omega
  ·have t0:decide ((k:Int) < (n:Int))=false:=by simp;omega
   go_wp2;go_ret;exact⟨by rw[Z9Q (fun j y hj hy=>HB.out j y (by have:=HN.out;omega) hy)];rfl,B1.out⟩
theorem ZaY {es:List Nm}{p:Nm->Bool}: decide (0<=Z8t es p)=es.any p:=by
 unfold Z8t;cases h:es.findIdx? p with
 | none=>
  rw[List.findIdx?_eq_none_iff]at h;have h2:es.any p=false:=by
   rw[List.any_eq_false];intro x hx;rw[h x hx];decide
  rw[h2];rfl
 | some i=>
  obtain⟨h1,h2,_⟩:=List.findIdx?_eq_some_iff_getElem.1 h;have h3:es.any p=true:=List.any_eq_true.2 ⟨_,List.getElem_mem h1,h2⟩;rw[h3];simp
theorem Z4W (es:List Nm)(pred:Nm->Bool)(fn:Nat)(cv:Value)(hfn : ∀(args:Xz) (w:World),(callFunc fn args).run zq w = .ok (.enter fn args) w)
  (a:zA) (n c:Nat) (w:World) (hr:ZX w 2 a n c (ZH es))
  (hp : ∀e∈es,∀W,Below w.heap.size w W->Calls zq fn #[.agg #[.int .i64 e.1,.int .i64 e.2],cv] W fun r W'=>r = .returned (.bool (pred e))/\Below W.heap.size W W'):
  Calls zq 72 #[.slice a n c,.func (.func fn) #[] #[cv]] w fun e w'=>e = .returned (.bool (es.any pred))/\Below w.heap.size w w':=by
 have HX:=zH (Z8r es pred fn cv hfn a n c w hr hp);clear hr hp hfn;go_enter Tryz.func72,Tryz.ntmps72;go_wp2_with fail;refine HX.out.mono ?_;rintro e w1 ⟨rfl,b1⟩;have B1:=zH b1;clear b1;have hq := @ZaY es pred;go_wp2;go_ret;exact⟨by first | rfl|(rw[<-hq];rfl),B1.out⟩
theorem YY.cloned {α:Type}{enc:α->Value}{w:World}{b n:Nat}{f:Nm->Option α}(h:YY enc w b n f): ∃es clock,w.heap[b]? = some (.map es clock)/\YY enc (w.alloc (.map es clock)) w.heap.size n f:=by
 obtain⟨D,⟨es,clock,hb,F,hs,hD⟩,hr⟩:=h;exact⟨es,clock,hb,D,⟨es,clock,heap_alloc_new w _,F,hs,hD⟩,hr⟩
theorem UA (b n:Nat)(G:Nm->Option LN)(w:World)(hm:YY LN.val w b n G):
  Calls zq 57 #[.map (some b)] w fun e w'=>e = .returned (.map (some w.heap.size))/\YY LN.val w' w.heap.size n G/\Below w.heap.size w w':=by
 obtain⟨es,clock,hb,hc⟩:=hm.cloned;have HC:=zH hc;clear hc hm;have hq:=fun w=>run_eql_map_nil_sl (P:=zq) w 106 _ _ (some b) Tryz.underlying106;have hx := @run_callFunc_extern zq 115 Tryz.f115 Extern.MapsClone.clone (by kernel_rfl) (by kernel_rfl) (by kernel_rfl) (by kernel_rfl) (by kernel_rfl);go_enter Tryz.func57,Tryz.ntmps57;go_wp2;rw[run_maps_clone_sl w 106 hb];simp only[Result.andThen];rw[Oper.upon_value];go_wp2;rw[run_typeAssert_map_sl _ 106 _ _ _ _ Tryz.underlying106];simp only[Result.andThen];rw[Oper.upon_value];go_wp2;go_ret;exact⟨rfl,HC.out,zB _ _⟩
def Z4o (es:List LN)(p:LN->Bool):Int:=match es.findIdx? p with | some i=>(i:Int) | none => -1
theorem ZbZ {es:List LN}{p:LN->Bool}{k:Nat}{x:LN}(hx:es[k]? = some x)(hp:p x=true)(hb : ∀j y,j < k->es[j]? = some y->p y=false):Z4o es p=k:=by
 have:es.findIdx? p=some k:=by
  rw[List.findIdx?_eq_some_iff_getElem];obtain⟨h1,rfl⟩:=List.getElem?_eq_some_iff.1 hx;exact⟨h1,hp,fun j hj=>by rw[hb j _ hj (List.getElem?_eq_getElem (by omega))];decide⟩
 simp[Z4o,this]
theorem Z9R {es:List LN}{p:LN->Bool}(hb : ∀j y,j < es.length->es[j]? = some y->p y=false):Z4o es p = -1:=by
 have:es.findIdx? p=none:=by
  rw[List.findIdx?_eq_none_iff];intro x hx;obtain⟨j,h1,h2⟩:=List.getElem_of_mem hx;exact hb j x h1 (by rw[List.getElem?_eq_getElem h1,h2])
 simp[Z4o,this]
theorem Z4n (es:List LN)(pred:LN->Bool)(fn:Nat)(cv:Value)(hfn : ∀(args:Xz) (w:World),(callFunc fn args).run zq w = .ok (.enter fn args) w)
  (a:zA) (n c:Nat) (w:World) (hr:Jb w a n c es)
  (hp : ∀e∈es,∀W,Below w.heap.size w W->Calls zq fn #[.agg (Z5 e.n e.sa e.sc),cv] W fun r W'=>r = .returned (.bool (pred e))/\Below W.heap.size W W'):
  Calls zq 112 #[.slice a n c,.func (.func fn) #[] #[cv]] w fun e w'=>e = .returned (.int .i64 (Z4o es pred))/\Below w.heap.size w w':=by
 have I19:(zq.info? 47).map (·.size)=some 19:=by kernel_rfl
 have hn63:n<=9223372036854775807:=by have h1:=hr.2.1;have h2:=hr.2.2.1;unfold maxLen at h2;omega
 have HN:=zH hr.1;have RE:=zH (show ∀W,Below w.heap.size w W->Jb W a n c es from fun W h=>hr.below h);have HPD:=zH hp;clear hr hp;go_enter Tryz.func112,Tryz.ntmps112;go_wp2_with fail;go_loopw [5,8] (fun _ i wr=>∃k:Nat,i = .int .i64 k/\k<=n/\Hid (∀j y,j < k->es[j]? = some y->pred y=false)/\Hid (Below w.heap.size w wr)) (fun _ i _=>n - (intOf i).toNat)
 case atStart=>exact⟨0,rfl,Nat.zero_le _,zH (fun j y h=>by omega),zH (Below.refl _ _)⟩
 case round=>
  obtain⟨k,rfl,hk,HB,B1⟩:=hrel;by_cases hkn:k < n
  ·have t0:decide ((k:Int) < (n:Int))=true:=by simp;omega
   obtain⟨b,off,rfl,hat⟩:=(RE.out _ B1.out).at (show 0 < n by omega);obtain⟨x,Hx⟩ : ∃x,es[k]? = some x:=⟨es[k]'(by rw[HN.out];exact hkn),List.getElem?_eq_getElem (by rw[HN.out];exact hkn)⟩;have HR:=zH (hat k x Hx).1;obtain⟨o,ho⟩:=zX (off+k * 19);rw[ho.out]at HR;have hi:=fun W=>ZN (W:=W) (c:=c) (b:=b) Tryz.underlying24 I19 hkn ho.out;have hk64:(k:Int)+1<=9223372036854775807:=by omega
   clear hat;go_wp2_with (refine wpList_load_mid rfl 47 _ rfl b o rfl (x.n.cells x.sa x.sc) _ HR.out Tryz.underlying47 rfl (by exact I19) ?_);refine(HPD.out x (List.mem_of_getElem? Hx) _ B1.out).mono ?_;rintro e w2 ⟨rfl,b2⟩;have B2:=zH (B1.out.trans (b2.mono B1.out.size));clear b2 hi t0;cases hpx:pred x with
   | true=>
    go_wp2;go_ret;exact⟨by rw[ZbZ Hx hpx HB.out];rfl,B2.out⟩
   | false=>
    have HPX:=zH hpx;clear hpx;go_wp2;go_roundw
    case rel=>exact⟨k+1,by simp,by omega,zH (fun j y hj hy=>by
     rcases Nat.lt_or_ge j k with h | h
     ·exact HB.out j y h hy
     ·have e:j=k:=by omega
      subst e;rw[Hx]at hy;cases hy;exact HPX.out),B2⟩
    case measure=>simp[intOf];omega
  ·have t0:decide ((k:Int) < (n:Int))=false:=by simp;omega
   go_wp2;go_ret;exact⟨by rw[Z9R (fun j y hj hy=>HB.out j y (by have:=HN.out;omega) hy)];rfl,B1.out⟩
theorem ZaZ {es:List LN}{p:LN->Bool}: decide (0<=Z4o es p)=es.any p:=by
 unfold Z4o;cases h:es.findIdx? p with
 | none=>
  rw[List.findIdx?_eq_none_iff]at h;have h2:es.any p=false:=by
   rw[List.any_eq_false];intro x hx;rw[h x hx];decide
  rw[h2];rfl
 | some i=>
  obtain⟨h1,h2,_⟩:=List.findIdx?_eq_some_iff_getElem.1 h;have h3:es.any p=true:=List.any_eq_true.2 ⟨_,List.getElem_mem h1,h2⟩;rw[h3];simp
theorem Z4X (es:List LN)(pred:LN->Bool)(fn:Nat)(cv:Value)(hfn : ∀(args:Xz) (w:World),(callFunc fn args).run zq w = .ok (.enter fn args) w)
  (a:zA) (n c:Nat) (w:World) (hr:Jb w a n c es)
  (hp : ∀e∈es,∀W,Below w.heap.size w W->Calls zq fn #[.agg (Z5 e.n e.sa e.sc),cv] W fun r W'=>r = .returned (.bool (pred e))/\Below W.heap.size W W'):
  Calls zq 54 #[.slice a n c,.func (.func fn) #[] #[cv]] w fun e w'=>e = .returned (.bool (es.any pred))/\Below w.heap.size w w':=by
 have HX:=zH (Z4n es pred fn cv hfn a n c w hr hp);clear hr hp hfn;go_enter Tryz.func54,Tryz.ntmps54;go_wp2_with fail;refine HX.out.mono ?_;rintro e w1 ⟨rfl,b1⟩;have B1:=zH b1;clear b1;have hq := @ZaZ es pred;go_wp2;go_ret;exact⟨by first | rfl|(rw[<-hq];rfl),B1.out⟩
end Go.Proofs.YtlnhppgfhkkidaaGreat
