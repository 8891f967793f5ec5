/- Parts of the proof, in order. -/
import Derived.Test.YtlnhppgfhkkidaaGreatKPho8
set_option linter.unusedSimpArgs false
set_option linter.unusedVariables false
set_option maxHeartbeats 32000000
set_option maxRecDepth 100000
namespace Go.Proofs.YtlnhppgfhkkidaaGreat
open Go.Proofs.Tryz renaming prog → zq
open Go.RowKit
theorem Z0D (n:NoteV)(sa:zA)(sc:Nat)(w:World):Calls zq 251 #[.agg (Z5 n sa sc)] w fun e w'=>e = .returned (.bool (Xf n))/\Below w.heap.size w w':=by
 have hb:=zB w (.cells (Z5 n sa sc) 47);have c4:=Z6 (Z9 w (.cells (Z5 n sa sc) 47)) 4 (.int .i64 n.kind) rfl;have BB:=zH hb;clear hb;have hd:Xf n=(decide (1<=n.kind) && decide (n.kind<=4)):=rfl;cases h1:decide (1<=n.kind)
 ·rw[h1]at hd;have HD:=zH hd;clear hd;go_enter Tryz.func251,Tryz.ntmps251;go_wp2;go_ret;exact⟨by rw[HD.out];rfl,BB.out⟩
 ·cases h2:decide (n.kind<=4)
  ·rw[h1,h2]at hd;have HD:=zH hd;clear hd;go_enter Tryz.func251,Tryz.ntmps251;go_wp2;go_ret;exact⟨by rw[HD.out];rfl,BB.out⟩
  ·rw[h1,h2]at hd;have HD:=zH hd;clear hd;go_enter Tryz.func251,Tryz.ntmps251;go_wp2;go_ret;exact⟨by rw[HD.out];rfl,BB.out⟩
theorem Z1c (x y:Int)(w:World):Calls zq 264 #[.int .i64 x,.int .i64 y] w fun e w'=>e = .returned (.int .i64 (Yp x y))/\w=w':=by
 have hc:Yp x y=if x < y then -1 else if y < x then 1 else 0:=rfl
 by_cases h1:x < y
 ·have t1:decide (x < y)=true:=by simp[h1]
  rw[if_pos h1]at hc;have HC:=zH hc;clear hc h1;go_enter Tryz.func264,Tryz.ntmps264;go_wp2;go_ret;exact⟨by rw[HC.out];rfl,rfl⟩
 ·have t1:decide (x < y)=false:=by simp;omega
  rw[if_neg h1]at hc;by_cases h2:y < x
  focus
   have t2:decide (y < x)=true:=by simp[h2]
   rw[if_pos h2]at hc
  rotate_left
  focus
   have t2:decide (y < x)=false:=by simp;omega
   rw[if_neg h2]at hc
  all_goals
   have HC:=zH hc;clear hc h1 h2;go_enter Tryz.func264,Tryz.ntmps264;go_wp2;go_ret;exact⟨by rw[HC.out];rfl,rfl⟩
theorem Z6P (x m y k:Int)(w:World):Calls zq 250 #[.agg #[.int .i64 x,.int .i64 m],.agg #[.int .i64 y,.int .i64 k]] w fun e w'=>e = .returned (.int .i64 (YQ x m y k))/\Below w.heap.size w w':=by
 have g1:=Z8 _ (.cells (#[.int .i64 y,.int .i64 k]) 45) _ _ (Z9 w (.cells (#[.int .i64 x,.int .i64 m]) 45));have g2:=Zm (w.alloc (.cells (#[.int .i64 x,.int .i64 m]) 45)) (.cells (#[.int .i64 y,.int .i64 k]) 45) (w.heap.size+1) (by simp);have bb:Below w.heap.size w ((w.alloc (.cells (#[.int .i64 x,.int .i64 m]) 45)).alloc (.cells (#[.int .i64 y,.int .i64 k]) 45)):=(zB _ _).alloc (by simp) _;have BB:=zH bb;clear bb;have a0:=Z6 g1 0 (.int .i64 x) rfl;have a1:=Z6 g1 1 (.int .i64 m) rfl;have b0:=Z6 g2 0 (.int .i64 y) rfl;have b1:=Z6 g2 1 (.int .i64 k) rfl;clear g1 g2;have hc:YQ x m y k=if Yp x y=0 then Yp m k else Yp x y:=rfl
 have hz:=V8 x y;by_cases h1:x=y
 focus
  have t1:(x != y)=false:=by simp[h1]
  rw[if_pos (hz.2 h1)]at hc
 rotate_left
 focus
  have t1:(x != y)=true:=by simp[h1]
  rw[if_neg (fun h=>h1 (hz.1 h))]at hc
 all_goals
  have HC:=zH hc;clear hc h1 hz;go_enter Tryz.func250,Tryz.ntmps250;go_wp2_with fail;refine(Z1c _ _ _).mono ?_;rintro e w1 ⟨rfl,rfl⟩;go_wp2;go_ret;exact⟨by rw[HC.out];rfl,BB.out⟩
section
attribute [local go_sem] ZS
theorem Z3P (n r:NoteV)(sa:zA)(sc:Nat)(ta:zA)(tc:Nat)(w:World):Calls zq 267 #[.agg (Z5 n sa sc),.agg (Z5 r ta tc)] w fun e w'=>e = .returned (.bool (decide (Xa n r < 0)))/\Below w.heap.size w w':=by
 have g1:=Z8 _ (.cells (Z5 r ta tc) 47) _ _ (Z9 w (.cells (Z5 n sa sc) 47));have g2:=Zm (w.alloc (.cells (Z5 n sa sc) 47)) (.cells (Z5 r ta tc) 47) (w.heap.size+1) (by simp);have bb:Below w.heap.size w ((w.alloc (.cells (Z5 n sa sc) 47)).alloc (.cells (Z5 r ta tc) 47)):=(zB _ _).alloc (by simp) _;have T0:Hid (Z4D w ((w.alloc (.cells (Z5 n sa sc) 47)).alloc (.cells (Z5 r ta tc) 47)) w.heap.size (w.heap.size+1) (Z5 n sa sc) (Z5 r ta tc) 47):=zH ⟨g1,g2,bb,by omega⟩;clear g1 g2 bb;go_enter Tryz.func267,Tryz.ntmps267;go_upto_region 1 with fail;generalize (w.alloc (.cells (Z5 n sa sc) 47)).alloc (.cells (Z5 r ta tc) 47)=W0 at *;obtain⟨p,hp⟩:=zX (w.heap.size);obtain⟨q,hq⟩:=zX (w.heap.size+1);rw[hq.out,hp.out]at T0;rw[hq.out,hp.out];have a2:=Z6 T0.out.e1 2 (.int .i64 n.clock) rfl;have b2:=Z6 T0.out.e2 2 (.int .i64 r.clock) rfl;have BW:Hid (Below w.heap.size w W0):=zH (by rw[hp.out];exact T0.out.b);go_wp2_with fail;refine(Z1c _ _ _).mono ?_;rintro e w1 ⟨rfl,rfl⟩;have hz:=V8 n.clock r.clock;have hc:Xa n r=if Yp n.clock r.clock=0 then YQ n.house n.num r.house r.num else Yp n.clock r.clock:=rfl
 obtain⟨z,hZ⟩:=zX (Yp n.clock r.clock);rw[hZ.out]at hz hc ⊢;by_cases h0:z=0
 ·have t1:(z==0)=true:=by simp[h0]
  rw[if_pos h0]at hc;have HC:=zH hc;clear hc hz h0;go_upto_region 3 with fail;have hC0:Below W0.heap.size W0 W0.drew:=(Below.refl _ _).drew;have LP:=zH (show ∀w0,Below W0.heap.size W0 w0->w0.heap[p]? = some (.cells (Z5 n sa sc) 47)from fun w0 h=>Z7 h T0.out.e1);have LQ:=zH (show ∀w0,Below W0.heap.size W0 w0->w0.heap[q]? = some (.cells (Z5 r ta tc) 47)from fun w0 h=>Z7 h T0.out.e2);refine zC (fun w':World=>Below W0.heap.size W0 w') hC0 ?_;refine zQ (.agg (Z5 n sa sc)) (fun w0 hC=>ZG (.tmp 2) rfl p rfl n sa sc (LP.out w0 hC)) ?_;refine zQ (.agg #[.int .i64 n.house,.int .i64 n.num]) (fun w0 hC=>?_) ?_
  ·go_simp;refine(ZA n sa sc w0).mono ?_;rintro e w1 ⟨rfl,b1⟩;exact⟨rfl,hC.trans (b1.mono hC.size)⟩
  refine zQ (.agg (Z5 r ta tc)) (fun w0 hC=>ZG (.tmp 3) rfl q rfl r ta tc (LQ.out w0 hC)) ?_;refine zQ (.agg #[.int .i64 r.house,.int .i64 r.num]) (fun w0 hC=>?_) ?_
  ·go_simp;refine(ZA r ta tc w0).mono ?_;rintro e w1 ⟨rfl,b1⟩;exact⟨rfl,hC.trans (b1.mono hC.size)⟩
  refine zQ (.int .i64 (YQ n.house n.num r.house r.num)) (fun w0 hC=>?_) ?_
  ·go_simp;refine(Z6P _ _ _ _ w0).mono ?_;rintro e w1 ⟨rfl,b1⟩;exact⟨rfl,hC.trans (b1.mono hC.size)⟩
  go_big_quiet_step (fail);refine wpQuiet_nil ?_;intro w' hC;have B1:=zH (BW.out.trans (hC.mono BW.out.size));clear hC;go_wp2;go_ret;exact⟨by rw[HC.out];rfl,B1.out⟩
 ·have t1:(z==0)=false:=by simp[h0]
  rw[if_neg h0]at hc;have HC:=zH hc;clear hc hz h0;go_wp2;go_ret;exact⟨by rw[HC.out];rfl,BW.out⟩
theorem Z6Q (n r:NoteV)(sa:zA)(sc:Nat)(ta:zA)(tc:Nat)(w:World):Calls zq 253 #[.agg (Z5 n sa sc),.agg (Z5 r ta tc)] w fun e w'=>e = .returned (.bool (decide (XT n r < 0)))/\Below w.heap.size w w':=by
 have g1:=Z8 _ (.cells (Z5 r ta tc) 47) _ _ (Z9 w (.cells (Z5 n sa sc) 47));have g2:=Zm (w.alloc (.cells (Z5 n sa sc) 47)) (.cells (Z5 r ta tc) 47) (w.heap.size+1) (by simp);have bb:Below w.heap.size w ((w.alloc (.cells (Z5 n sa sc) 47)).alloc (.cells (Z5 r ta tc) 47)):=(zB _ _).alloc (by simp) _;have T0:Hid (Z4D w ((w.alloc (.cells (Z5 n sa sc) 47)).alloc (.cells (Z5 r ta tc) 47)) w.heap.size (w.heap.size+1) (Z5 n sa sc) (Z5 r ta tc) 47):=zH ⟨g1,g2,bb,by omega⟩;clear g1 g2 bb;go_enter Tryz.func253,Tryz.ntmps253;go_upto_region 1 with fail;generalize (w.alloc (.cells (Z5 n sa sc) 47)).alloc (.cells (Z5 r ta tc) 47)=W0 at *;obtain⟨p,hp⟩:=zX (w.heap.size);obtain⟨q,hq⟩:=zX (w.heap.size+1);rw[hq.out,hp.out]at T0;rw[hq.out,hp.out];have a2:=Z6 T0.out.e1 3 (.int .i64 n.day) rfl;have b2:=Z6 T0.out.e2 3 (.int .i64 r.day) rfl;have BW:Hid (Below w.heap.size w W0):=zH (by rw[hp.out];exact T0.out.b);go_wp2_with fail;refine(Z1c _ _ _).mono ?_;rintro e w1 ⟨rfl,rfl⟩;have hz:=V8 n.day r.day;have hc:XT n r=if Yp n.day r.day=0 then Xa n r else Yp n.day r.day:=rfl
 obtain⟨z,hZ⟩:=zX (Yp n.day r.day);rw[hZ.out]at hz hc ⊢;by_cases h0:z=0
 ·have t1:(z==0)=true:=by simp[h0]
  rw[if_pos h0]at hc;have HC:=zH hc;clear hc hz h0;go_wp2_with (first
   |(go_at_call 267
     refine(Z3P n r sa sc ta tc _).mono ?_;rintro e w2 ⟨rfl,hb2⟩;have B2:=zH (BW.out.trans (hb2.mono BW.out.size));clear hb2;dsimp only)
   |(refine zL p T0.out.e1 ?_)
   |(refine zL q T0.out.e2 ?_)
   | fail)
  go_ret;exact⟨by rw[HC.out];rfl,B2.out⟩
 ·have t1:(z==0)=false:=by simp[h0]
  rw[if_neg h0]at hc;have HC:=zH hc;clear hc hz h0;go_wp2;go_ret;exact⟨by rw[HC.out];rfl,BW.out⟩
end
theorem za {W:World}{p:Nat}{n:NoteV}{sa:zA}{sc:Nat}{t:TypeId}(h:W.heap[p]? = some (.cells (Z5 n sa sc) t (0,0))):W.rangeAt p 0 (n.cells sa sc):=fun j v hv=>by
 rw[Nat.zero_add]
 exact Z6 h j v (by simpa [Z5] using hv)
theorem Z2U (x r:NoteV)(sa:zA)(sc:Nat)(ta:zA)(tc:Nat)(w:World):
  Calls zq 254 #[.agg (Z5 x sa sc),.agg (Z5 r ta tc)] w fun e w'=>e = .returned (.bool (Z1A x r))/\Below w.heap.size w w':=by
 go_enter Tryz.func254,Tryz.ntmps254;go_upto_region 1 with fail;have B0:=zH ((zB w (.cells (Z5 x sa sc) 47)).alloc (by simp) (.cells (Z5 r ta tc) 47));have X0:=zH (Z8 _ (.cells (Z5 r ta tc) 47) _ _ (Z9 w (.cells (Z5 x sa sc) 47)));have Y0:=zH (Zm (w.alloc (.cells (Z5 x sa sc) 47)) (.cells (Z5 r ta tc) 47) (w.heap.size+1) (by simp));obtain⟨p2,hp2⟩:=zX (w.heap.size);obtain⟨p3,hp3⟩:=zX (w.heap.size+1);rw[hp2.out]at X0;rw[hp3.out]at Y0;rw[hp3.out,hp2.out];generalize (w.alloc (.cells (Z5 x sa sc) 47)).alloc (.cells (Z5 r ta tc) 47)=W0 at *;have hC0:Below W0.heap.size W0 W0.drew:=(Below.refl _ _).drew;have LX:=zH (show ∀w0,Below W0.heap.size W0 w0->w0.heap[p2]? = some (.cells (Z5 x sa sc) 47)from fun w0 h=>Z7 h X0.out);have LY:=zH (show ∀w0,Below W0.heap.size W0 w0->w0.heap[p3]? = some (.cells (Z5 r ta tc) 47)from fun w0 h=>Z7 h Y0.out);have XR:=zH (show ∀w0,Below W0.heap.size W0 w0->w0.rangeAt p2 0 (x.cells sa sc)from fun w0 h=>za (LX.out w0 h));have YR:=zH (show ∀w0,Below W0.heap.size W0 w0->w0.rangeAt p3 0 (r.cells ta tc)from fun w0 h=>za (LY.out w0 h));have GB:Hid (∀b,(!Xf x && (Xf r && (decide (Z2Y x=Zk r) && (decide (x.kind=6) ||(!decide (x.fix=2) || decide (r.kind=2))))))=b->Z1A x r=b):=zH (fun b h=>h);refine zC (fun w':World=>Below W0.heap.size W0 w') hC0 ?_;refine zQ (.agg (Z5 x sa sc)) (fun w0 hC=>Zx (.tmp 2) rfl p2 0 rfl x sa sc (XR.out w0 hC)) ?_;refine zQ (.bool (Xf x)) (fun w0 hC=>?_) ?_
 ·go_simp;refine(Z0D x sa sc w0).mono ?_;rintro e w1 ⟨rfl,b1⟩;exact⟨rfl,hC.trans (b1.mono hC.size)⟩
 cases hdx:Xf x
 ·go_big_quiet_step (fail);refine zQ (.agg (Z5 r ta tc)) (fun w0 hC=>Zx (.tmp 3) rfl p3 0 rfl r ta tc (YR.out w0 hC)) ?_;refine zQ (.bool (Xf r)) (fun w0 hC=>?_) ?_
  ·go_simp;refine(Z0D r ta tc w0).mono ?_;rintro e w1 ⟨rfl,b1⟩;exact⟨rfl,hC.trans (b1.mono hC.size)⟩
  cases hdr:Xf r
  ·refine zV (.bool true) ?_;refine zV (.bool true) ?_;go_big_quiet_step (fail)
   iterate 5 go_big_quiet_skip
   refine zV (.bool true) ?_;refine wpQuiet_nil ?_;intro w' hC;have GR:=zH (GB.out false (by simp[hdx,hdr]));have B9:=zH (B0.out.trans (hC.mono B0.out.size));clear hC;go_wp2;go_ret;exact⟨by rw[GR.out] <;> rfl,B9.out⟩
  ·refine zV (.bool false) ?_;refine zV (.bool false) ?_;go_big_quiet_step (fail);refine zv p2 16 ?_;refine zQ (.agg #[.int .i64 x.refH,.int .i64 x.refN]) (fun w0 hC=>?_) ?_
   ·have c16:=Z6 (LX.out w0 hC) 16 (.int .i64 x.refH) rfl;have c17:=Z6 (LX.out w0 hC) 17 (.int .i64 x.refN) rfl;clear hC;go_simp
   refine zQ (.agg (Z5 r ta tc)) (fun w0 hC=>Zx (.tmp 3) rfl p3 0 rfl r ta tc (YR.out w0 hC)) ?_;refine zQ (.agg #[.int .i64 r.house,.int .i64 r.num]) (fun w0 hC=>?_) ?_
   ·go_simp;refine(ZA r ta tc w0).mono ?_;rintro e w1 ⟨rfl,b1⟩;exact⟨rfl,hC.trans (b1.mono hC.size)⟩
   refine zQ (.bool (!decide (x.refH=r.house/\x.refN=r.num))) (fun w0 hC=>?_) ?_
   ·clear hC;go_simp;try (by_cases h1:x.refH=r.house <;> by_cases h2:x.refN=r.num <;> simp[h1,h2])
   cases hq:decide (x.refH=r.house/\x.refN=r.num)
   ·refine zV (.bool true) ?_;refine wpQuiet_nil ?_;intro w' hC;have GR:=zH (GB.out false (by have h1 : ¬Z2Y x=Zk r:=fun e=>of_decide_eq_false hq ⟨congrArg Prod.fst e,congrArg Prod.snd e⟩;simp[hdx,hdr,h1]));have B9:=zH (B0.out.trans (hC.mono B0.out.size));clear hC;go_wp2;go_ret;exact⟨by rw[GR.out] <;> rfl,B9.out⟩
   ·refine zV (.bool false) ?_;refine wpQuiet_nil ?_;intro w' hC;have B9:=zH (B0.out.trans (hC.mono B0.out.size));have h1:Z2Y x=Zk r:=Prod.ext (of_decide_eq_true hq).1 (of_decide_eq_true hq).2;have GR:=zH (GB.out (decide (x.kind=6) ||(!decide (x.fix=2) || decide (r.kind=2))) (by simp[hdx,hdr,h1]));have X9:=zH (LX.out w' hC);have Y9:=zH (LY.out w' hC);clear hC hq h1 hdx hdr;have c4:=Z6 X9.out 4 (.int .i64 x.kind) rfl;have c18:=Z6 X9.out 18 (.int .i64 x.fix) rfl;have d4:=Z6 Y9.out 4 (.int .i64 r.kind) rfl;by_cases k6:x.kind=6
    ·have e1:(x.kind==6)=true:=by simp[k6]
     rw[decide_eq_true k6,Bool.true_or]at GR;clear k6;go_wp2;go_ret;exact⟨by rw[GR.out] <;> rfl,B9.out⟩
    ·have e1:(x.kind==6)=false:=by simp[k6]
     rw[decide_eq_false k6,Bool.false_or]at GR;clear k6;by_cases k2:x.fix=2
     focus
      have e2:(x.fix==2)=true:=by simp[k2]
      have e3:(x.fix != 2)=false:=by simp[k2]
      rw[decide_eq_true k2,Bool.not_true,Bool.false_or]at GR;clear k2;have e4:decide (r.kind=2)=(r.kind==2):=rfl;rw[e4]at GR;clear e4
     rotate_left
     focus
      have e2:(x.fix==2)=false:=by simp[k2]
      have e3:(x.fix != 2)=true:=by simp[k2]
      rw[decide_eq_false k2,Bool.not_false,Bool.true_or]at GR;clear k2
     all_goals
      go_wp2;go_ret;exact⟨by rw[GR.out] <;> rfl,B9.out⟩
 ·go_big_quiet_step (fail)
  iterate 3 go_big_quiet_skip
  refine zV (.bool true) ?_;go_big_quiet_step (fail)
  iterate 5 go_big_quiet_skip
  refine zV (.bool true) ?_;refine wpQuiet_nil ?_;intro w' hC;have GR:=zH (GB.out false (by simp[hdx]));have B9:=zH (B0.out.trans (hC.mono B0.out.size));clear hC;go_wp2;go_ret;exact⟨by rw[GR.out] <;> rfl,B9.out⟩
theorem Z5P (l:List NoteV)(a:zA)(nn nc:Nat)(r:NoteV)(ta:zA)(tc:Nat)(w:World)(hr:JM w a nn nc l)(hk : ∀x∈l,1<=x.kind/\x.kind<=6):
  Calls zq 265 #[.slice a nn nc,.agg (Z5 r ta tc)] w fun e w'=>(∃i,e = .returned (.int .i64 i)/\QO l r l.length i)/\Below w.heap.size w w':=by
 have J19:(zq.info? 47).map (·.size)=some 19:=by kernel_rfl
 have hn63:nn<=9223372036854775807:=by have h1:=hr.2.1;have h2:=hr.2.2.1;unfold maxLen at h2;omega
 obtain⟨xs,hxs,hrl⟩:=hr.choose;have RL:=zH hrl;have HXS:=zH hxs;have LNX:=zH hrl.1;have HK:=zH hk;have HLN:=zH hr.1;clear hr hk hxs hrl;have B0:=zH (zB w (.cells (Z5 r ta tc) 47));have R0:=zH (Z9 w (.cells (Z5 r ta tc) 47));go_enter Tryz.func265,Tryz.ntmps265;go_upto_region 1 with fail;obtain⟨p3,hp3⟩:=zX (w.heap.size);rw[hp3.out]at R0 ⊢;generalize w.alloc (.cells (Z5 r ta tc) 47)=W0 at *;go_wp2_with fail;go_loopw [5,6] (fun ov i wr=>∃(k:Nat) (o:Int),ov = .int .i64 o/\i = .int .i64 (k:Int)/\k<=nn/\QO l r k o/\Hid (Below W0.heap.size W0 wr)) (fun _ i _=>nn - (intOf i).toNat)
 case atStart=>exact⟨0,-1,rfl,rfl,Nat.zero_le _,QO.start l r,zH (Below.refl _ _)⟩
 case round=>
  obtain⟨k,jo,rfl,rfl,hk,hj,BB⟩:=hrel;have HJ:=zH hj;clear hj;by_cases hlt:k < nn
  ·have t0:decide ((k:Int) < (nn:Int))=true:=by simp;omega
   obtain⟨x,Hx⟩ : ∃x,xs[k]? = some x:=⟨_,List.getElem?_eq_getElem (by rw[LNX.out];exact hlt)⟩;have HLX:=zH (show l[k]? = some x.n by rw[<-HXS.out,List.getElem?_map,Hx];rfl);have BW:=zH (B0.out.trans (BB.out.mono B0.out.size));have CJ:=zH (Z3Q r (HK.out x.n (List.mem_of_getElem? HLX.out)));obtain⟨b,off,rfl,hat⟩:=(RL.out.below BW.out).at (by omega);have HAT:=zH (show ∀i y,xs[i]? = some y->wr.rangeAt b (off+i * 19) (y.n.cells y.sa y.sc)from fun i y hy=>(hat i y hy).1);obtain⟨o,ho⟩:=zX (off+k * 19);have HX:=zH (HAT.out k x Hx);rw[ho.out]at HX;have HIX:=zH (fun W=>ZN (W:=W) (c:=nc) (b:=b) Tryz.underlying24 J19 hlt ho.out);have hk64:(k:Int)+1<=9223372036854775807:=by omega
   have RW:=zH (Z7 BB.out R0.out);clear hat Hx;go_upto_region 5 with fail;clear t0;try simp only[Act.put,VZ,VY,VX]
   have hC0:Below wr.heap.size wr wr.drew:=(Below.refl _ _).drew;have LX:=zH (show ∀w0,Below wr.heap.size wr w0->w0.rangeAt b o (x.n.cells x.sa x.sc)from fun w0 h=>Zs HX.out h);have LR:=zH (show ∀w0,Below wr.heap.size wr w0->w0.rangeAt p3 0 (r.cells ta tc)from fun w0 h=>za (Z7 h RW.out));have CJF:=zH (fun W=>Z2U x.n r x.sa x.sc ta tc W);rw[CJ.out]at CJF;refine zC (fun w':World=>Below wr.heap.size wr w') hC0 ?_
   iterate 2 go_big_quiet_step (fail)
   refine zQ (.pointer (some ⟨b,o,none⟩)) (fun w0 hC=>?_) ?_
   ·have hix:=HIX.out w0;clear hC;go_simp
   refine zQ (.agg (Z5 x.n x.sa x.sc)) (fun w0 hC=>Zx (.tmp 15) rfl b o rfl x.n x.sa x.sc (LX.out w0 hC)) ?_;refine zQ (.agg (Z5 r ta tc)) (fun w0 hC=>Zx (.tmp 3) rfl p3 0 rfl r ta tc (LR.out w0 hC)) ?_;refine zQ (.bool (Jm r x.n)) (fun w0 hC=>?_) ?_
   ·go_simp;refine(CJF.out w0).mono ?_;rintro e w1 ⟨rfl,b1⟩;exact⟨rfl,hC.trans (b1.mono hC.size)⟩
   cases hc:Jm r x.n
   ·go_big_quiet_step (fail)
    iterate 13 go_big_quiet_skip
    refine zV (.bool false) ?_;refine wpQuiet_nil ?_;intro w' hC;have BB2:=zH (BB.out.trans (hC.mono BB.out.size));clear hC;go_wp2;go_roundw
    case rel=>exact⟨k+1,jo,by go_num,by go_num,by omega,HJ.out.skip HLX.out hc,BB2⟩
    case measure=>simp[intOf];omega
   ·go_big_quiet_step (fail);go_big_quiet_step (fail);by_cases hneg:jo < 0
    ·refine zQ (.bool true) (fun w0 hC=>?_) ?_
     ·have hn0:decide (jo < 0)=true:=decide_eq_true hneg;clear hC;go_simp
     go_big_quiet_step (fail)
     iterate 9 go_big_quiet_skip
     refine zV (.bool true) ?_;refine zV (.bool true) ?_;refine wpQuiet_nil ?_;intro w' hC;have BB2:=zH (BB.out.trans (hC.mono BB.out.size));clear hC;go_wp2;go_roundw
     case rel=>exact⟨k+1,(k:Int),by go_num,by go_num,by omega,HJ.out.first hneg HLX.out hc,BB2⟩
     case measure=>simp[intOf];omega
    ·obtain⟨j,y,rfl,Hy,hjl⟩ : ∃(j:Nat) (y:LN),jo=(j:Int)/\xs[j]? = some y/\j < nn:=by
      rcases HJ.out with ⟨h,_⟩ | ⟨j,y,h1,h2,_⟩
      ·omega
      ·have hj:=(List.getElem?_eq_some_iff.1 h2).1;rw[<-HXS.out,List.getElem?_map]at h2;cases h3:xs[j]? with
       | none=>rw[h3]at h2;cases h2
       | some z=>exact⟨j,z,h1,h3,by rw[HLN.out]at hj;exact hj⟩
     have HLY:=zH (show l[j]? = some y.n by rw[<-HXS.out,List.getElem?_map,Hy];rfl);obtain⟨oj,hoj⟩:=zX (off+j * 19);have HY:=zH (HAT.out j y Hy);rw[hoj.out]at HY;have HIY:=zH (fun W=>ZN (W:=W) (c:=nc) (b:=b) Tryz.underlying24 J19 hjl hoj.out);have LY:=zH (show ∀w0,Below wr.heap.size wr w0->w0.rangeAt b oj (y.n.cells y.sa y.sc)from fun w0 h=>Zs HY.out h);clear Hy hneg;refine zQ (.bool false) (fun w0 hC=>?_) ?_
     ·have hn0:decide ((j:Int) < 0)=false:=by simp
      clear hC;go_simp
     iterate 3 go_big_quiet_step (fail)
     refine zQ (.pointer (some ⟨b,oj,none⟩)) (fun w0 hC=>?_) ?_
     ·have hix:=HIY.out w0;clear hC;go_simp
     refine zQ (.agg (Z5 y.n y.sa y.sc)) (fun w0 hC=>Zx (.tmp 25) rfl b oj rfl y.n y.sa y.sc (LY.out w0 hC)) ?_
     iterate 2 go_big_quiet_step (fail)
     refine zQ (.pointer (some ⟨b,o,none⟩)) (fun w0 hC=>?_) ?_
     ·have hix:=HIX.out w0;clear hC;go_simp
     refine zQ (.agg (Z5 x.n x.sa x.sc)) (fun w0 hC=>Zx (.tmp 29) rfl b o rfl x.n x.sa x.sc (LX.out w0 hC)) ?_;refine zQ (.bool (decide (Xa y.n x.n < 0))) (fun w0 hC=>?_) ?_
     ·go_simp;refine(Z3P y.n x.n y.sa y.sc x.sa x.sc w0).mono ?_;rintro e w1 ⟨rfl,b1⟩;exact⟨rfl,hC.trans (b1.mono hC.size)⟩
     cases hkn:decide (Xa y.n x.n < 0)
     ·refine zV (.bool false) ?_;refine zV (.bool false) ?_;refine wpQuiet_nil ?_;intro w' hC;have BB2:=zH (BB.out.trans (hC.mono BB.out.size));clear hC;go_wp2;go_roundw
      case rel=>exact⟨k+1,(j:Int),by go_num,by go_num,by omega,HJ.out.worse HLX.out HLY.out hc (of_decide_eq_false hkn),BB2⟩
      case measure=>simp[intOf];omega
     ·refine zV (.bool true) ?_;refine zV (.bool true) ?_;refine wpQuiet_nil ?_;intro w' hC;have BB2:=zH (BB.out.trans (hC.mono BB.out.size));clear hC;go_wp2;go_roundw
      case rel=>exact⟨k+1,(k:Int),by go_num,by go_num,by omega,HJ.out.better HLX.out HLY.out hc (of_decide_eq_true hkn),BB2⟩
      case measure=>simp[intOf];omega
  ·have t0:decide ((k:Int) < (nn:Int))=false:=by simp;omega
   obtain rfl:k=nn:=by omega
   rw[<-HLN.out]at HJ;have BW:=zH (B0.out.trans (BB.out.mono B0.out.size));go_wp2;go_ret;exact⟨⟨jo,rfl,HJ.out⟩,BW.out⟩
def Z4Z (l:List NoteV)(r:NoteV):Option NoteV:=match QD l r with | none=>some r | some j=>if j.kind=6 then none else some (Yr r j)
theorem Zca {l:List NoteV}{r:NoteV}(h:Xf r=true):countP l r=Z4Z l r:=by
 unfold countP Z4Z;rw[if_pos h];cases QD l r <;> rfl
def Zd4 (w W:World)(l:List NoteV)(r:NoteV)(v:Value)(b:Bool):Prop:=
 (Z4Z l r=none/\b=false/\v = .agg (Z5 Zd none 0)) \/ ∃n ta tc,Z4Z l r=some n/\b=true/\v = .agg (Z5 n ta tc)/\W.ownsRow w.heap.size 3 1 (.slice ta n.strokes.length tc) n.strokes.length (n.strokes.map Yo)
def Zd3 (w W:World)(l:List NoteV)(r:NoteV)(e:Ending):Prop := ∃v b,e = .returned (.tuple #[v,.bool b])/\Zd4 w W l r v b
structure Zco (w W:World)(p3 p4 p7:Nat)(A M:Xz)(ja:zA)(jn jc:Nat)(S:List Value):Prop where
 bel:Below w.heap.size w W
 e3:W.heap[p3]? = some (.cells A 47)
 e4:W.heap[p4]? = some (.cells (Z5 Zd none 0) 47)
 e7:W.heap[p7]? = some (.cells M 47)
 own:W.ownsRow w.heap.size 3 1 (.slice ja jn jc) jn S
 lt:w.heap.size<=p4/\p3 < p7/\p4 < p7
theorem Zco.put {w W:World}{p3 p4 p7:Nat}{A M:Xz}{ja:zA}{jn jc:Nat}{S:List Value}(h:Zco w W p3 p4 p7 A M ja jn jc S)(j:Nat)(v:Value):Zco w (W.setCell ⟨p7,j,none⟩ v) p3 p4 p7 A (M.setIfInBounds j v) ja jn jc S:=by
 have g:=Zj W p7 j v;have hl:=h.lt;exact⟨h.bel.grown g h.bel.size (fun k e=>by cases e;omega),Zc g h.e3 (fun e=>by have:=Option.some.inj e;omega),Zc g h.e4 (fun e=>by have:=Option.some.inj e;omega),ZW h.e7 j v,
  h.own.kept g (.inr (Zg h.own h.e7 (fun cur h=>by simp at h)).symm),h.lt⟩
theorem Z8g (n:NoteV)(sa:zA)(sc:Nat)(z:Int):(Z5 n sa sc).setIfInBounds 0 (.int .i64 z)=Z5 { n with house:=z } sa sc:=rfl
theorem Z8f (n:NoteV)(sa:zA)(sc:Nat)(z:Int):(Z5 n sa sc).setIfInBounds 1 (.int .i64 z)=Z5 { n with num:=z } sa sc:=rfl
theorem Z8e (n:NoteV)(sa:zA)(sc:Nat)(z:Int):(Z5 n sa sc).setIfInBounds 2 (.int .i64 z)=Z5 { n with clock:=z } sa sc:=rfl
theorem Z8d (n:NoteV)(sa:zA)(sc:Nat)(z:Int):(Z5 n sa sc).setIfInBounds 4 (.int .i64 z)=Z5 { n with kind:=z } sa sc:=rfl
theorem Z72 (n:NoteV)(sa:zA)(sc:Nat)(z:Int):(Z5 n sa sc).setIfInBounds 18 (.int .i64 z)=Z5 { n with fix:=z } sa sc:=rfl
theorem Z32 (n:NoteV)(sa:zA)(sc:Nat)(y z:Int):((Z5 n sa sc).setIfInBounds 16 (.int .i64 y)).setIfInBounds 17 (.int .i64 z)=Z5 { n with refH:=y,refN:=z } sa sc:=rfl
theorem Z5V (l:List NoteV)(a:zA)(nn nc:Nat)(r:NoteV)(ta:zA)(tc:Nat)(w:World)(hr:JM w a nn nc l)(hk : ∀x∈l,1<=x.kind/\x.kind<=6)(hst : ∀x∈l,x.strokes.length<=1000000)(hrs:Xe w ta r.strokes.length tc r.strokes)(hrl:r.strokes.length<=1000000):
  Calls zq 252 #[.slice a nn nc,.agg (Z5 r ta tc)] w fun e w'=>Zd3 w w' l r e/\Below w.heap.size w w':=by
 have J19:(zq.info? 47).map (·.size)=some 19:=by kernel_rfl
 have hn63:nn<=9223372036854775807:=by have h1:=hr.2.1;have h2:=hr.2.2.1;unfold maxLen at h2;omega
 obtain⟨xs,hxs,hrls⟩:=hr.choose;have RL:=zH hrls;have HXS:=zH hxs;have HK:=zH hk;have HST:=zH hst;have RN:=zH hr;have RR:=zH hrs;have RRL:=zH hrl;clear hr hk hst hrs hrl hxs hrls;have B0:=zH ((zB w (.cells (Z5 r ta tc) 47)).alloc (by simp) (.cells (Z5 Zd none 0) 47));have X0:=zH (Z8 _ (.cells (Z5 Zd none 0) 47) _ _ (Z9 w (.cells (Z5 r ta tc) 47)));have Y0:=zH (Zm (w.alloc (.cells (Z5 r ta tc) 47)) (.cells (Z5 Zd none 0) 47) (w.heap.size+1) (by simp));go_enter Tryz.func252,Tryz.ntmps252;go_upto_region 1 with fail;rw[<-ZZ];obtain⟨p3,hp3⟩:=zX (w.heap.size);obtain⟨p4,hp4⟩:=zX (w.heap.size+1);rw[hp3.out]at X0;rw[hp4.out]at Y0;rw[hp4.out,hp3.out];generalize (w.alloc (.cells (Z5 r ta tc) 47)).alloc (.cells (Z5 Zd none 0) 47)=W0 at *;have LT:Hid (w.heap.size<=p4/\p3 < p4):=zH (by have:=hp3.out;have:=hp4.out;omega);go_wp2_with (refine zL p3 X0.out ?_);refine(Z5P l a nn nc r ta tc W0 (RN.out.below B0.out) HK.out).mono ?_;rintro e W1 ⟨⟨i,rfl,hj⟩,b1⟩;have X1:=zH (Z7 b1 X0.out);have Y1:=zH (Z7 b1 Y0.out);have B1:=zH (B0.out.trans (b1.mono B0.out.size));have HJ:=zH (show(i = -1/\QD l r=none) \/ ∃(j:Nat) (x:NoteV),i=(j:Int)/\l[j]? = some x/\QD l r=some x by unfold QO at hj;rwa [List.take_length]at hj);clear hj b1 X0 Y0 B0;rcases HJ.out with ⟨rfl,hn⟩ | ⟨j,x,rfl,hx,hjx⟩
 ·have HV:=zH (show Z4Z l r=some r by unfold Z4Z;rw[hn]);clear hn HJ;go_wp2_with (refine zL p3 X1.out ?_);refine(Z57 r ta tc W1 (RR.out.below B1.out) (Nat.le_trans RRL.out (by decide))).mono ?_;rintro e W2 ⟨ta',tc',rfl,ho,b2⟩;have Y2:=zH (Z7 b2 Y1.out);have O2:=zH (Zp ho B1.out.size);have B2:=zH (B1.out.trans (b2.mono B1.out.size));clear ho b2;have oneN:=Zh r ta' tc';go_wp2_with (refine zN p4 (Z5 r ta' tc') Y2.out ?_);go_wp2_with fail;have hr:=ZP W2 p4 _ (Z5 r ta' tc') _ _ Y2.out;have G4:=Y6 W2 p4 (Z5 r ta' tc');refine zr hr ?_;exact⟨⟨_,true,rfl,.inr ⟨r,ta',tc',HV.out,rfl,rfl,O2.out.kept G4 (.inr (Zg O2.out Y2.out (fun cur h=>by simp at h)).symm)⟩⟩,B2.out.grown G4 B2.out.size (fun q hq=>by cases hq;exact LT.out.1)⟩
 have HX:=zH hx;have HJX:=zH hjx;clear hx hjx HJ;obtain⟨y,Hy⟩ : ∃y,xs[j]? = some y:=by
  have h1:=HX.out;rw[<-HXS.out,List.getElem?_map]at h1;cases h2:xs[j]? with
  | none=>rw[h2]at h1;cases h1
  | some y=>exact⟨y,rfl⟩
 have HYX:x=y.n:=by
  have h1:=HX.out;rw[<-HXS.out,List.getElem?_map,Hy]at h1;exact(Option.some.inj h1).symm
 subst HYX;have hjn:j < nn:=by have:=(List.getElem?_eq_some_iff.1 Hy).1;rw[RL.out.1]at this;exact this
 have YST:=zH (HST.out y.n (List.mem_of_getElem? HX.out));obtain⟨b,off,rfl,hat⟩:=(RL.out.below B1.out).at (by omega);obtain⟨o,ho⟩:=zX (off+j * 19);have HYA:=zH (hat j y Hy).1;have HYO:=zH (hat j y Hy).2;rw[ho.out]at HYA;have hix:=fun W=>ZN (W:=W) (c:=nc) (b:=b) Tryz.underlying24 J19 hjn ho.out;clear hat Hy;have tneg:decide ((j:Int) < 0)=false:=by simp
 have c4:=HYA.out 4 (.int .i64 y.n.kind) rfl;by_cases k6:y.n.kind=6
 ·have t6:(y.n.kind==6)=true:=by simp[k6]
  have HV:=zH (show Z4Z l r=none by unfold Z4Z;rw[HJX.out];simp only;rw[if_pos k6]);clear k6;go_wp2_with (refine zN p4 (Z5 Zd none 0) Y1.out ?_);go_wp2_with fail;have hr:=ZP W1 p4 _ (Z5 Zd none 0) _ _ Y1.out;have G4:=Y6 W1 p4 (Z5 Zd none 0);refine zr hr ?_;exact⟨⟨_,false,rfl,.inl ⟨HV.out,rfl,rfl⟩⟩,B1.out.grown G4 B1.out.size (fun q hq=>by cases hq;exact LT.out.1)⟩
 have t6:(y.n.kind==6)=false:=by simp[k6]
 have HV:=zH (show Z4Z l r=some (Yr r y.n)by unfold Z4Z;rw[HJX.out];simp only;rw[if_neg k6]);clear k6;go_wp2_with (refine wpList_load_mid rfl 47 _ rfl b o rfl (y.n.cells y.sa y.sc) _ HYA.out Tryz.underlying47 rfl (Qh y.n y.sa y.sc) ?_);refine(Z57 y.n y.sa y.sc W1 HYO.out (Nat.le_trans YST.out (by decide))).mono ?_;rintro e W2 ⟨ja,jc,rfl,ho2,b2⟩;have X2:=zH (Z7 b2 X1.out);have Y2:=zH (Z7 b2 Y1.out);have O2:=zH (Zp ho2 B1.out.size);have B2:=zH (B1.out.trans (b2.mono B1.out.size));have HYB:=zH (Zs HYA.out b2);clear ho2 b2 X1 Y1 B1 c4 t6 tneg HYO HYA;go_upto_region 7 with (refine zP W2 W2.heap.size (Z5 y.n ja jc) ?_);have b3:Below W2.heap.size W2 (W2.alloc (.cells (Z5 y.n ja jc) 47)):=zB _ _;have M0:Hid (Zco w (W2.alloc (.cells (Z5 y.n ja jc) 47)) p3 p4 W2.heap.size (Z5 r ta tc) (Z5 y.n ja jc) ja y.n.strokes.length jc (y.n.strokes.map Yo)):=zH ⟨B2.out.trans (b3.mono B2.out.size),Z7 b3 X2.out,Z7 b3 Y2.out,Z9 W2 _,Zb O2.out b3,LT.out.1,Zq X2.out,Zq Y2.out⟩;have FX:Hid ((W2.alloc (.cells (Z5 y.n ja jc) 47)).cell? ⟨b,o+18,none⟩=some (.int .i64 y.n.fix)/\b < W2.heap.size):=zH ⟨Zs HYB.out b3 18 (.int .i64 y.n.fix) rfl,World.block_lt_of_cell? W2 _ (HYB.out 18 (.int .i64 y.n.fix) rfl)⟩;clear b3 X2 Y2 O2 B2 HYB;obtain⟨p7,hp7⟩:=zX (W2.heap.size);rw[hp7.out]at M0 FX ⊢;generalize W2.alloc (.cells (Z5 y.n ja jc) 47)=V0 at *;have zc:=Z6 M0.out.e7 0 _ rfl;have zf:=Ze M0.out.e7 0;have zs:=Z6 M0.out.e3 0 (.int .i64 r.house) rfl;go_upto_region 8 with fail;have M1:=zH (M0.out.put 0 (.int .i64 r.house));rw[Z8g]at M1;replace FX:=zH (And.intro ((World.cell?_setCell_other V0 ⟨p7,0,none⟩ ⟨b,o+18,none⟩ (.int .i64 r.house) (by intro h;simp only[Addr.mk.injEq]at h;have:=FX.out.2;omega)).trans FX.out.1) FX.out.2);clear zc zf zs M0;generalize V0.setCell ⟨p7,0,none⟩ (.int .i64 r.house)=V1 at *;have zc:=Z6 M1.out.e7 1 _ rfl;have zf:=Ze M1.out.e7 1;have zs:=Z6 M1.out.e3 1 (.int .i64 r.num) rfl
 go_upto_region 9 with fail;have M2:=zH (M1.out.put 1 (.int .i64 r.num));rw[Z8f]at M2;replace FX:=zH (And.intro ((World.cell?_setCell_other V1 ⟨p7,1,none⟩ ⟨b,o+18,none⟩ (.int .i64 r.num) (by intro h;simp only[Addr.mk.injEq]at h;have:=FX.out.2;omega)).trans FX.out.1) FX.out.2);clear zc zf zs M1;generalize V1.setCell ⟨p7,1,none⟩ (.int .i64 r.num)=V2 at *;have zc:=Z6 M2.out.e7 2 _ rfl;have zf:=Ze M2.out.e7 2;have zs:=Z6 M2.out.e3 2 (.int .i64 r.clock) rfl;go_upto_region 10 with fail;have M3:=zH (M2.out.put 2 (.int .i64 r.clock));rw[Z8e]at M3;replace FX:=zH (And.intro ((World.cell?_setCell_other V2 ⟨p7,2,none⟩ ⟨b,o+18,none⟩ (.int .i64 r.clock) (by intro h;simp only[Addr.mk.injEq]at h;have:=FX.out.2;omega)).trans FX.out.1) FX.out.2);clear zc zf zs M2;generalize V2.setCell ⟨p7,2,none⟩ (.int .i64 r.clock)=V3 at *;have zc:=Z6 M3.out.e7 4 _ rfl;have zf:=Ze M3.out.e7 4;have zs:=FX.out.1;go_upto_region 11 with fail;have M4:=zH (M3.out.put 4 (.int .i64 y.n.fix));rw[Z8d]at M4;clear FX;clear zc zf zs M3;generalize V3.setCell ⟨p7,4,none⟩ (.int .i64 y.n.fix)=V4 at *;have zc:=Z6 M4.out.e7 18 _ rfl;have zf:=Ze M4.out.e7 18;go_upto_region 12 with fail;have M5:=zH (M4.out.put 18 (.int .i64 0));rw[Z72]at M5;clear zc zf  M4;generalize V4.setCell ⟨p7,18,none⟩ (.int .i64 0)=V5 at *;have z16:=Z6 M5.out.e7 16 (.int .i64 y.n.refH) rfl;have z17:=Z6 M5.out.e7 17 (.int .i64 y.n.refN) rfl;have f16:=Ze M5.out.e7 16;have f17:=Ze M5.out.e7 17;go_upto_region 13 with fail;have M6:=zH ((M5.out.put 16 (.int .i64 0)).put 17 (.int .i64 0));rw[Z32]at M6;clear z16 z17 f16 f17 M5;generalize (V5.setCell ⟨p7,16,none⟩ (.int .i64 0)).setCell ⟨p7,17,none⟩ (.int .i64 0)=V6 at *;have c4:=Z6 M6.out.e7 4 (.int .i64 y.n.fix) rfl;by_cases k2:y.n.fix=2
 ·have t2:(y.n.fix==2)=true:=by simp[k2]
  have r16:=Z6 M6.out.e3 16 (.int .i64 r.refH) rfl;have r17:=Z6 M6.out.e3 17 (.int .i64 r.refN) rfl;have z16:=Z6 M6.out.e7 16 (.int .i64 0) rfl;have z17:=Z6 M6.out.e7 17 (.int .i64 0) rfl;have f16:=Ze M6.out.e7 16;have f17:=Ze M6.out.e7 17;have K2:=zH k2;clear k2;go_upto_region 15 with fail;have M7:=zH ((M6.out.put 16 (.int .i64 r.refH)).put 17 (.int .i64 r.refN));rw[Z32]at M7;clear z16 z17 f16 f17 r16 r17 c4 t2 M6;have hq:({ y.n with house:=r.house,num:=r.num,clock:=r.clock,kind:=y.n.fix,fix:=0,refH:=r.refH,refN:=r.refN } : NoteV)=Yr r y.n:=by simp[Yr,K2.out]
  rw[show Z5 _ ja jc=Z5 (Yr r y.n) ja jc from congrArg (fun z=>Z5 z ja jc) hq]at M7;have oneN:=Zh (Yr r y.n) ja jc;go_wp2_with (first
   |(refine zL p7 M7.out.e7 ?_)
   |(refine zN p4 (Z5 (Yr r y.n) ja jc) M7.out.e4 ?_))
  go_wp2_with fail;have hr:=ZP ((V6.setCell ⟨p7,16,none⟩ (.int .i64 r.refH)).setCell ⟨p7,17,none⟩ (.int .i64 r.refN)) p4 _ (Z5 (Yr r y.n) ja jc) _ _ M7.out.e4;have G4:=Y6 ((V6.setCell ⟨p7,16,none⟩ (.int .i64 r.refH)).setCell ⟨p7,17,none⟩ (.int .i64 r.refN)) p4 (Z5 (Yr r y.n) ja jc);refine zr hr ?_;exact⟨⟨_,true,rfl,.inr ⟨Yr r y.n,ja,jc,HV.out,rfl,rfl,M7.out.own.kept G4 (.inr (Zg M7.out.own M7.out.e4 (fun cur h=>by simp at h)).symm)⟩⟩,M7.out.bel.grown G4 M7.out.bel.size (fun q hq=>by cases hq;exact LT.out.1)⟩
 ·have t2:(y.n.fix==2)=false:=by simp[k2]
  have hq:({ y.n with house:=r.house,num:=r.num,clock:=r.clock,kind:=y.n.fix,fix:=0,refH:=0,refN:=0 } : NoteV)=Yr r y.n:=by simp[Yr,k2]
  rw[show Z5 _ ja jc=Z5 (Yr r y.n) ja jc from congrArg (fun z=>Z5 z ja jc) hq]at M6;clear k2 hq;have oneN:=Zh (Yr r y.n) ja jc;go_wp2_with (first
   |(refine zL p7 M6.out.e7 ?_)
   |(refine zN p4 (Z5 (Yr r y.n) ja jc) M6.out.e4 ?_))
  go_wp2_with fail;have hr:=ZP V6 p4 _ (Z5 (Yr r y.n) ja jc) _ _ M6.out.e4;have G4:=Y6 V6 p4 (Z5 (Yr r y.n) ja jc);refine zr hr ?_;exact⟨⟨_,true,rfl,.inr ⟨Yr r y.n,ja,jc,HV.out,rfl,rfl,M6.out.own.kept G4 (.inr (Zg M6.out.own M6.out.e4 (fun cur h=>by simp at h)).symm)⟩⟩,M6.out.bel.grown G4 M6.out.bel.size (fun q hq=>by cases hq;exact LT.out.1)⟩
theorem Z5t (k:Nat): ∀(rows:List (List Value)),(∀r∈rows,r.length=k) -> ∀q,rows.flatten.drop (q * k)=(rows.drop q).flatten
 | [],_,q=>by simp
 | r :: rows,h,0=>by simp
 | r :: rows,h,q+1=>by
  have hr:=h r (List.mem_cons_self ..)
  rw[List.flatten_cons,List.drop_append,hr,List.drop_of_length_le (by rw[hr,Nat.add_mul];omega),show(q+1) * k - k=q * k by rw[Nat.add_mul];omega,Z5t k rows (fun x hx=>h x (List.mem_cons_of_mem _ hx)) q]
  rfl
theorem ZcL (es:List Xg): ∀r∈es.map Xg.cells,r.length=21:=by
 intro r hr;obtain⟨e,_,rfl⟩:=List.mem_map.1 hr;rfl
theorem Z1Q (es:List Xg)(q:Nat):(ZU es).drop (q * 21)=ZU (es.drop q):=by
 rw[ZU,Z5t 21 _ (ZcL es),<-List.map_drop];rfl
theorem Z3z {w:World}{t e:TypeId}{i:TypeInfo}{k:Nat}(ht:zq.underlying t=some (.slice e))(hi':zq.info? e=some i)(hz1:i.size=k){xa:zA}{n c:Nat}{xs:List Value}(hrd:ZX w k xa n c xs)(L H:Nat)(lo hi:Option Value)
  (hl:(lo=none/\L=0) \/ ∃kd,lo=some (.int kd (L:Int))) (hh:(hi=none/\H=n) \/ ∃kd,hi=some (.int kd (H:Int))) (h1:L<=H) (h2:H<=n):
  ∃a',(∀W,(Instr.sliceAt t (.slice xa n c) lo hi none).run zq W = .ok (.slice a' (H - L) (c - L)) W)/\ZX w k a' (H - L) (c - L) ((xs.drop (L * k)).take ((H - L) * k)):=by
 obtain⟨a',hs,hr⟩:=ZX.sliced hrd L H h1 h2;have hnc:=hrd.2.1;refine⟨a',fun W=>?_,hr⟩;rw[<-hs];have hel:zq.elem t=e:=by simp[Program.elem,ht]
 rw[run_sliceAt_slice (P:=zq) W t _ _ _ _ (by rw[hel];exact ht),run_slice_any (P:=zq) W t xa n c (by rw[hel];exact ht)];have hb:(Instr.sliceBounds true n c lo hi none).run zq W = .ok (L,H,c) W:=by
  rcases hl with ⟨rfl,rfl⟩ | ⟨kd,rfl⟩ <;> rcases hh with ⟨rfl,rfl⟩ | ⟨kd',rfl⟩
  ·simp[Instr.sliceBounds]
  ·simp[Instr.sliceBounds,run_sliceBound,Result.andThen,(by omega:H<=c)]
  ·simp[Instr.sliceBounds,run_sliceBound,Result.andThen,h1]
  ·simp[Instr.sliceBounds,run_sliceBound,Result.andThen,(by omega:H<=c),h1]
 rw[hb,hel];simp[Result.andThen,sizeOf,typeInfo,hi',hz1]
theorem Z3v: ∃i,zq.info? 210=some i/\i.size=21:=by
 obtain⟨i,hi,_,hz1,_⟩:=info_parts ZaX;exact⟨i,hi,hz1⟩
structure Z0u (w W:World)(a:zA)(n c:Nat)(es:List Xg)(l:List NoteV)(k:Nat):Prop where
 bel:Below w.heap.size w W
 own:W.ownsRow w.heap.size 210 21 (.slice a n c) n (ZU es)
 str : ∀e∈es,W.ownsRow w.heap.size 3 1 (.slice e.x.sa e.x.n.strokes.length e.x.sc) e.x.n.strokes.length (e.x.n.strokes.map Yo)
 ev:es.map (fun e=>e.x.n)=Z2D l k
 nm : ∀e∈es,e.nm=Zk e.x.n
theorem Z0u.below {w W W':World}{a:zA}{n c:Nat}{es:List Xg}{l:List NoteV}{k:Nat}(h:Z0u w W a n c es l k)(hb:Below W.heap.size W W'):Z0u w W' a n c es l k:=
 ⟨h.bel.trans (hb.mono h.bel.size),Zb h.own hb,fun e he=>Zb (h.str e he) hb,h.ev,h.nm⟩
theorem Z0u.rd {w W:World}{a:zA}{n c:Nat}{es:List Xg}{l:List NoteV}{k:Nat}(h:Z0u w W a n c es l k):ZX W 21 a n c (ZU es):=ZX.of_own h.own
theorem Z0u.start (w:World)(l:List NoteV):Z0u w w none 0 0 [] l 0:=⟨Below.refl _ _,World.ownsRow_nil _ _ _ _,fun e h=>by simp at h,rfl,fun e h=>by simp at h⟩
theorem Z0u.len {w W:World}{a:zA}{n c:Nat}{es:List Xg}{l:List NoteV}{k:Nat}(h:Z0u w W a n c es l k):es.length=n/\n<=k:=by
 have h1:=h.rd.len;rw[Ut]at h1;have h2:=congrArg List.length h.ev;rw[List.length_map]at h2;have h3:=Zbc l k;omega
theorem Z0u.skip {w W:World}{a:zA}{n c:Nat}{es:List Xg}{l:List NoteV}{k:Nat}{x:NoteV}(h:Z0u w W a n c es l k)(hx:l[k]? = some x)(hc:countP l x=none):Z0u w W a n c es l (k+1):=
 ⟨h.bel,h.own,h.str,by rw[Za4 hx hc];exact h.ev,h.nm⟩
def ZdW (w W:World)(l:List NoteV)(e:Ending):Prop := ∃oa on oc es,e = .returned (.slice oa on oc)/\Z0u w W oa on oc es l l.length
def Z14 (es:List Xg)(q:Nat)(e:Xg):List Xg:=es.take q ++ (e :: es.drop q)
theorem Z6R {es:List Xg}{l:List NoteV}{k q:Nat}{x n:NoteV}{sa:zA}{sc:Nat}(h:es.map (fun e=>e.x.n)=Z2D l k)(hx:l[k]? = some x)(hc:countP l x=some n)(hq:q<=es.length)(h1 : ∀j y,j < q->es[j]? = some y->XT y.x.n n < 0)(h2 : ∀y,es[q]? = some y -> ¬XT y.x.n n < 0):
  (Z14 es q ⟨Zk n,⟨n,sa,sc⟩⟩).map (fun e=>e.x.n)=Z2D l (k+1):=by
 rw[Za3 hx hc,<-h,Z96 n _ q (by rw[List.length_map];exact hq) (fun j y hj hy=>?_) (fun y hy=>?_)]
 ·simp[Z14,List.map_take,List.map_drop]
 ·rw[List.getElem?_map]at hy;cases hz:es[j]? with
  | none=>rw[hz]at hy;cases hy
  | some z=>rw[hz]at hy;cases hy;exact h1 j z hj hz
 ·rw[List.getElem?_map]at hy;cases hz:es[q]? with
  | none=>rw[hz]at hy;cases hy
  | some z=>rw[hz]at hy;cases hy;exact h2 z hz
theorem Z0H {es:List Xg}{q:Nat}{e y:Xg}(h:y∈Z14 es q e):y=e\/y∈es:=by
 unfold Z14 at h;rcases List.mem_append.1 h with h | h
 ·exact .inr (List.mem_of_mem_take h)
 ·rcases List.mem_cons.1 h with h | h
  ·exact .inl h
  ·exact .inr (List.mem_of_mem_drop h)
theorem Z2Z (es:List Xg)(q:Nat)(e:Xg):ZU (es.take q) ++ e.cells ++ ZU (es.drop q)=ZU (Z14 es q e):=by
 simp[Z14,ZU]
theorem Z6I (l:List NoteV)(a:zA)(nn nc:Nat)(w:World)(hr:JM w a nn nc l)(hk : ∀x∈l,1<=x.kind/\x.kind<=6)(hst : ∀x∈l,x.strokes.length<=1000000)(hlen:nn<=1000):
  Calls zq 238 #[.slice a nn nc] w fun e w'=>ZdW w w' l e/\Below w.heap.size w w':=by
 have J19:(zq.info? 47).map (·.size)=some 19:=by kernel_rfl
 have J21:(zq.info? 210).map (·.size)=some 21:=by kernel_rfl
 have hn63:nn<=9223372036854775807:=by omega
 obtain⟨xs,hxs,hrl⟩:=hr.choose;have RL:=zH hrl;have HXS:=zH hxs;have LNX:=zH hrl.1;have HLN:=zH hr.1;have RN:=zH hr;have HNN:=zH hlen;have CC:=zH (fun(r:NoteV) (ta:zA) (tc:Nat) (W:World) (hb:Below w.heap.size w W) h1 h2=>Z5V l a nn nc r ta tc W (hr.below hb) hk hst h1 h2);have HST:=zH hst;clear hr hk hst hxs hrl;go_enter Tryz.func238,Tryz.ntmps238;go_wp2_with fail;go_loopw [3,4] (fun ov i wr=>∃(k:Nat) (oa:zA) (on oc:Nat) (es:List Xg),ov = .slice oa on oc/\i = .int .i64 (k:Int)/\k<=nn/\Hid (Z0u w wr oa on oc es l k)) (fun _ i _=>nn - (intOf i).toNat)
 case atStart=>exact⟨0,none,0,0,[],rfl,rfl,Nat.zero_le _,zH (Z0u.start w l)⟩
 case round=>
  obtain⟨k,oa,on,oc,es,rfl,rfl,hk,ST⟩:=hrel;by_cases hlt:k < nn
  ·have t0:decide ((k:Int) < (nn:Int))=true:=by simp;omega
   obtain⟨x,Hx⟩ : ∃x,xs[k]? = some x:=⟨_,List.getElem?_eq_getElem (by rw[LNX.out];exact hlt)⟩;have HLX:=zH (show l[k]? = some x.n by rw[<-HXS.out,List.getElem?_map,Hx];rfl);obtain⟨b,off,rfl,hat⟩:=(RL.out.below ST.out.bel).at (by omega);obtain⟨o,ho⟩:=zX (off+k * 19);have HX:=zH (hat k x Hx).1;have HXO:=zH (hat k x Hx).2;rw[ho.out]at HX;have hix:=fun W=>ZN (W:=W) (c:=nc) (b:=b) Tryz.underlying24 J19 hlt ho.out;have hk64:(k:Int)+1<=9223372036854775807:=by omega
   have XST:=zH (HST.out x.n (List.mem_of_getElem? HLX.out));clear hat Hx;go_wp2_with (refine wpList_load_mid rfl 47 _ rfl b o rfl (x.n.cells x.sa x.sc) _ HX.out Tryz.underlying47 rfl (Qh x.n x.sa x.sc) ?_);refine(Z0D x.n x.sa x.sc wr).mono ?_;rintro e W1 ⟨rfl,b1⟩;replace ST:=zH (ST.out.below b1);replace HX:=zH (Zs HX.out b1);replace HXO:=zH (HXO.out.below b1);clear b1;cases hd:Xf x.n
   ·have HC:=zH (show countP l x.n=none by unfold countP;rw[if_neg (by rw[hd];decide)]);clear hd;go_wp2;go_roundw
    case rel=>exact⟨k+1,oa,on,oc,es,by go_num,by go_num,by omega,zH (ST.out.skip HLX.out HC.out)⟩
    case measure=>simp[intOf];omega
   have CV:=zH (Zca (l:=l) hd);clear hd;go_wp2_with (refine wpList_load_mid rfl 47 _ rfl b o rfl (x.n.cells x.sa x.sc) _ HX.out Tryz.underlying47 rfl (Qh x.n x.sa x.sc) ?_);refine(CC.out x.n x.sa x.sc W1 ST.out.bel HXO.out XST.out).mono ?_;rintro e W2 ⟨⟨v,bb,rfl,hv⟩,b2⟩;have W1S:=zH ST.out.bel.size;replace ST:=zH (ST.out.below b2);clear b2;rcases hv with ⟨hc,rfl,rfl⟩ | ⟨n,ta,tc,hc,rfl,rfl,how⟩
   ·have HC:=zH (CV.out.trans hc);clear hc;go_upto_region 7 with (refine zP W2 W2.heap.size (Z5 Zd none 0) ?_);have b3:Below W2.heap.size W2 (W2.alloc (.cells (Z5 Zd none 0) 47)):=zB _ _;replace ST:=zH (ST.out.below b3);clear b3;generalize W2.alloc (.cells (Z5 Zd none 0) 47)=W3 at *;go_wp2;go_roundw
    case rel=>exact⟨k+1,oa,on,oc,es,by go_num,by go_num,by omega,zH (ST.out.skip HLX.out HC.out)⟩
    case measure=>simp[intOf];omega
   have HC:=zH (CV.out.trans hc);have HOW:=zH (Zp how W1S.out);clear hc how hix HX HXO;go_upto_region 7 with (refine zP W2 W2.heap.size (Z5 n ta tc) ?_);have b3:Below W2.heap.size W2 (W2.alloc (.cells (Z5 n ta tc) 47)):=zB _ _;replace ST:=zH (ST.out.below b3);have NB:=zH (Z9 W2 (.cells (Z5 n ta tc) 47));replace HOW:=zH (Zb HOW.out b3);clear b3;obtain⟨p5,hp5⟩:=zX (W2.heap.size);rw[hp5.out]at NB ⊢;generalize W2.alloc (.cells (Z5 n ta tc) 47)=W3 at *;have LEN:=zH ST.out.len;have hon:on<=9223372036854775807:=by have:=LEN.out.2;omega
   go_wp2_with fail;go_loopw [7] (fun qv wr2=>∃q:Nat,qv = .int .i64 (q:Int)/\q<=on/\Hid (∀j y,j < q->es[j]? = some y->XT y.x.n n < 0)/\Hid (Below W3.heap.size W3 wr2)) (fun qv _=>on - (intOf qv).toNat)
   case atStart=>exact⟨0,rfl,Nat.zero_le _,zH (fun j y h=>by omega),zH (Below.refl _ _)⟩
   case round=>
    obtain⟨q,rfl,hq,HJ,BQ⟩:=hrel;have hq64:(q:Int)+1<=9223372036854775807:=by have h1:=LEN.out.2;have h2:=HNN.out;omega
    have hC0:Below wr.heap.size wr wr.drew:=(Below.refl _ _).drew;by_cases hql:q < on
    ·have HT0:Hid (decide ((q:Int) < (on:Int))=true):=zH (by simp;omega);obtain⟨y,Hy⟩ : ∃y,es[q]? = some y:=⟨_,List.getElem?_eq_getElem (by rw[LEN.out.1];exact hql)⟩;have HY:=zH Hy;obtain⟨be,eo,rfl,hat⟩:=(Vk.of_rd (ST.out.rd.below BQ.out)).at (by omega);obtain⟨oy,hoy⟩:=zX (eo+q * 21);have HYA:=zH (hat q y Hy);rw[hoy.out]at HYA;have HIY:=zH (fun W=>ZN (W:=W) (c:=oc) (b:=be) Tryz.underlying74 J21 hql hoy.out);have LY:=zH (show ∀w0,Below wr.heap.size wr w0->w0.rangeAt be (oy+2) (y.x.n.cells y.x.sa y.x.sc)from fun w0 h=>Zs (Z5w HYA.out) h);have LN5:=zH (show ∀w0,Below wr.heap.size wr w0->w0.rangeAt p5 0 (n.cells ta tc)from fun w0 h=>za (Z7 h (Z7 BQ.out NB.out)));clear hat Hy;go_upto_region 9 with fail;try simp only[Act.put,VZ,VY,VX]
     refine zC (fun w':World=>Below wr.heap.size wr w') hC0 ?_
     iterate 2 go_big_quiet_step (fail)
     refine zV (.int .i64 (on:Int)) ?_;refine zQ (.bool true) (fun w0 hC=>?_) ?_
     ·have h0:=HT0.out;clear hC;go_simp
     iterate 3 go_big_quiet_step (fail)
     refine zQ (.pointer (some ⟨be,oy,none⟩)) (fun w0 hC=>?_) ?_
     ·have hix:=HIY.out w0;clear hC;go_simp
     refine zv be (oy+2) ?_;refine zQ (.agg (Z5 y.x.n y.x.sa y.x.sc)) (fun w0 hC=>Zx (.tmp 40) rfl be (oy+2) rfl y.x.n y.x.sa y.x.sc (LY.out w0 hC)) ?_;refine zQ (.agg (Z5 n ta tc)) (fun w0 hC=>Zx (.tmp 5) rfl p5 0 rfl n ta tc (LN5.out w0 hC)) ?_;refine zQ (.bool (decide (XT y.x.n n < 0))) (fun w0 hC=>?_) ?_
     ·go_simp;refine(Z6Q y.x.n n y.x.sa y.x.sc ta tc w0).mono ?_;rintro e w1 ⟨rfl,b1⟩;exact⟨rfl,hC.trans (b1.mono hC.size)⟩
     cases hw:decide (XT y.x.n n < 0)
     ·refine zV (.bool false) ?_;refine wpQuiet_nil ?_;intro wq hC;have QN:Hid (∀y,es[q]? = some y -> ¬XT y.x.n n < 0):=zH (fun z hz=>by rw[HY.out]at hz;cases hz;exact of_decide_eq_false hw);have BQ2:=zH (BQ.out.trans (hC.mono BQ.out.size));clear hC hw LY LN5 HYA BQ HT0;replace ST:=zH (ST.out.below BQ2.out);replace NB:=zH (Z7 BQ2.out NB.out);replace HOW:=zH (Zb HOW.out BQ2.out);have QL:Hid (q<=on):=zH (by omega);obtain⟨ia,hi1,hi2⟩:=Z3v;obtain⟨a1,hcut1,hrd1⟩:=Z3z Tryz.underlying74 hi1 hi2 ST.out.rd 0 q none (some (.int .i64 (q:Int))) (.inl ⟨rfl,rfl⟩) (.inr ⟨_,rfl⟩) (Nat.zero_le _) QL.out;simp only[Nat.zero_mul,List.drop_zero,Nat.sub_zero,Z1O]at hcut1 hrd1;have hbe:Below wq.heap.size wq (wq.alloc (.cells #[] 210)):=zB _ _;have o0:=World.ownsRow_lit (base:=wq.heap.size) (e:=210) (size:=21) wq #[] 0 (Nat.le_refl _) (by unfold maxLen;omega) rfl;obtain⟨a2,c2,w2,hrun,ho2,hg2,_⟩:=XW (wq.alloc (.cells #[] 210)) wq.heap.size _ 0 0 _ o0 a1 q oc _ (hrd1.below hbe) (Us _) (by have:=HNN.out;have:=LEN.out.2;omega) hbe.size;have hb2:Below wq.heap.size wq w2:=hbe.grown hg2 hbe.size (fun k hk=>(o0.lt k hk).1);rw[Nat.zero_add]at hrun ho2;have O2:Hid (w2.ownsRow wq.heap.size 210 21 (.slice a2 q c2) q (ZU (es.take q))):=zH (by simpa using ho2);have B2:=zH hb2;clear hbe o0 ho2 hg2 hb2 hrd1 hi1 hi2;go_upto_region 12 with (first
       |(refine Zu rfl _ _ _ rfl _ _ _ rfl rfl hrun ?_)
       | fail)
      clear hrun hcut1;try simp only[Act.put,VZ,VY,VX]
      have N2:=zH (Z7 B2.out NB.out);refine zp N2.out fun hh=>?_;have bd:=(zd w2);replace O2:=zH (Zb O2.out bd);replace N2:=zH (Z7 bd N2.out);replace B2:=zH (B2.out.trans (bd.mono B2.out.size));clear bd;generalize w2.drew=v2 at *;refine zW 0 rfl (.slice a2 q c2) ?_;refine zT 1 rfl (.agg (Z5 n ta tc)) (zY p5 fun W h=>h) ?_;refine zT 3 rfl (.agg (Z5 n ta tc)) (zY p5 fun W h=>h) ?_;refine zR 2 rfl fun K hK=>?_;go_simp;refine(ZA n ta tc v2).mono ?_;rintro e v3 ⟨rfl,b3⟩;replace O2:=zH (Zb O2.out b3);replace N2:=zH (Z7 b3 N2.out);replace B2:=zH (B2.out.trans (b3.mono B2.out.size));clear b3;refine zK hK N2.out fun hh=>?_;clear hK K;refine zS 4 rfl (.agg (J0 ⟨Zk n,⟨n,ta,tc⟩⟩)) (fun W h=>by clear h;go_simp;kernel_rfl) ?_;refine zR 5 rfl fun K hK=>?_;have bn:Below v3.heap.size v3 (v3.alloc (.cells (J0 ⟨Zk n,⟨n,ta,tc⟩⟩) 210)):=zB _ _;have LE:=zH (Vp v3 ⟨Zk n,⟨n,ta,tc⟩⟩);replace O2:=zH (Zb O2.out bn);replace N2:=zH (Z7 bn N2.out);replace B2:=zH (B2.out.trans (bn.mono B2.out.size));clear bn;refine YH _ rfl ⟨Zk n,⟨n,ta,tc⟩⟩ rfl ?_;obtain⟨p6,hp6⟩:=zX (v3.heap.size);rw[hp6.out]at LE ⊢;generalize v3.alloc (.cells (J0 ⟨Zk n,⟨n,ta,tc⟩⟩) 210)=v4 at *;refine zK hK N2.out fun hh=>?_;clear hK K;refine zR 6 rfl fun K hK=>?_;obtain⟨a4,c4,v5,hrun,ho,hg,_⟩:=XW v4 wq.heap.size a2 q c2 _ O2.out _ 1 1 _ LE.out (VB _) (by have:=HNN.out;have:=LEN.out.2;have:=QL.out;omega) B2.out.size;have O4:=zH ho;have N4:=zH (Zc hg N2.out (Zg O2.out N2.out (fun cur h=>by simp at h)));have B4:=zH (B2.out.grown hg B2.out.size (fun k hk=>(O2.out.lt k hk).1));clear ho hg;rw[if_pos (by kernel_rfl)];refine ZJ _ _ _ rfl _ _ _ rfl rfl hrun ?_;clear hrun O2 LE;refine zK hK N4.out fun hh=>?_;clear hK K;refine zW 7 rfl (.slice a4 (q+1) c4) ?_;refine zE ?_;clear N2 N4 B2;have ST5:=zH (ST.out.below B4.out);obtain⟨ia,hi1,hi2⟩:=Z3v;obtain⟨a6,hcut2,hrd2⟩:=Z3z Tryz.underlying74 hi1 hi2 ST5.out.rd q on (some (.int .i64 (q:Int))) none (.inr ⟨_,rfl⟩) (.inl ⟨rfl,rfl⟩) QL.out (Nat.le_refl _)
      rw[Z1Q,List.take_of_length_le (by rw[Ut,List.length_drop,LEN.out.1];exact Nat.le_refl _)]at hrd2;obtain⟨a7,c7,w7,hrun,ho,hg,_⟩:=XW v5 wq.heap.size a4 (q+1) c4 _ O4.out a6 (on - q) (oc - q) _ hrd2 (Us _) (by have:=HNN.out;have:=LEN.out.2;have:=QL.out;omega) B4.out.size;have B7:=zH (B4.out.grown hg B4.out.size (fun k hk=>(O4.out.lt k hk).1));have SN:Hid (Z0u w w7 a7 (q+1+(on - q)) c7 (Z14 es q ⟨Zk n,⟨n,ta,tc⟩⟩) l (k+1)):=zH ⟨ST.out.bel.trans (B7.out.mono ST.out.bel.size),by rw[<-Z2Z];exact Zp ho ST.out.bel.size,fun e he=>by
       rcases Z0H he with rfl | he
       ·exact Zb HOW.out B7.out
       ·exact Zb (ST.out.str e he) B7.out,Z6R ST.out.ev HLX.out HC.out (by rw[LEN.out.1];exact QL.out) HJ.out QN.out,fun e he=>by
       rcases Z0H he with rfl | he
       ·rfl
       ·exact ST.out.nm e he⟩
      clear ho hg hi1 hi2 hrd2 O4 ST5 B4;go_upto_region 4 with (first
       |(refine Zu rfl _ _ _ rfl _ _ _ rfl rfl hrun ?_)
       | fail)
      clear hrun hcut2;go_wp2;go_roundw
      case rel=>exact⟨k+1,a7,q+1+(on - q),c7,Z14 es q ⟨Zk n,⟨n,ta,tc⟩⟩,by go_num,by go_num,by omega,SN⟩
      case measure=>simp[intOf];omega
     ·refine zV (.bool true) ?_;refine wpQuiet_nil ?_;intro w' hC;have BQ2:=zH (BQ.out.trans (hC.mono BQ.out.size));have WT:=zH (of_decide_eq_true hw);clear hC hw;go_wp2;go_roundw
      case rel=>exact⟨q+1,by go_num,by omega,zH (fun i z hi hz=>by
       rcases Nat.lt_or_ge i q with h' | h'
       ·exact HJ.out i z h' hz
       ·have e:i=q:=by omega
        subst e;rw[HY.out]at hz;cases hz;exact WT.out),BQ2⟩
      case measure=>simp[intOf];omega
    ·have HT0:Hid (decide ((q:Int) < (on:Int))=false):=zH (by simp;omega);go_upto_region 9 with fail;try simp only[Act.put,VZ,VY,VX]
     refine zC (fun w':World=>Below wr.heap.size wr w') hC0 ?_
     iterate 2 go_big_quiet_step (fail)
     refine zV (.int .i64 (on:Int)) ?_;refine zQ (.bool false) (fun w0 hC=>?_) ?_
     ·have h0:=HT0.out;clear hC;go_simp
     go_big_quiet_step (fail)
     iterate 7 go_big_quiet_skip
     refine zV (.bool false) ?_;refine wpQuiet_nil ?_;intro wq hC;have QN:Hid (∀y,es[q]? = some y -> ¬XT y.x.n n < 0):=zH (fun z hz=>by have:=(List.getElem?_eq_some_iff.1 hz).1;have:=LEN.out.1;omega);have BQ2:=zH (BQ.out.trans (hC.mono BQ.out.size));clear hC BQ HT0;replace ST:=zH (ST.out.below BQ2.out);replace NB:=zH (Z7 BQ2.out NB.out);replace HOW:=zH (Zb HOW.out BQ2.out);have QL:Hid (q<=on):=zH (by omega);obtain⟨ia,hi1,hi2⟩:=Z3v;obtain⟨a1,hcut1,hrd1⟩:=Z3z Tryz.underlying74 hi1 hi2 ST.out.rd 0 q none (some (.int .i64 (q:Int))) (.inl ⟨rfl,rfl⟩) (.inr ⟨_,rfl⟩) (Nat.zero_le _) QL.out;simp only[Nat.zero_mul,List.drop_zero,Nat.sub_zero,Z1O]at hcut1 hrd1;have hbe:Below wq.heap.size wq (wq.alloc (.cells #[] 210)):=zB _ _;have o0:=World.ownsRow_lit (base:=wq.heap.size) (e:=210) (size:=21) wq #[] 0 (Nat.le_refl _) (by unfold maxLen;omega) rfl;obtain⟨a2,c2,w2,hrun,ho2,hg2,_⟩:=XW (wq.alloc (.cells #[] 210)) wq.heap.size _ 0 0 _ o0 a1 q oc _ (hrd1.below hbe) (Us _) (by have:=HNN.out;have:=LEN.out.2;omega) hbe.size;have hb2:Below wq.heap.size wq w2:=hbe.grown hg2 hbe.size (fun k hk=>(o0.lt k hk).1);rw[Nat.zero_add]at hrun ho2;have O2:Hid (w2.ownsRow wq.heap.size 210 21 (.slice a2 q c2) q (ZU (es.take q))):=zH (by simpa using ho2);have B2:=zH hb2;clear hbe o0 ho2 hg2 hb2 hrd1 hi1 hi2;go_upto_region 12 with (first
      |(refine Zu rfl _ _ _ rfl _ _ _ rfl rfl hrun ?_)
      | fail)
     clear hrun hcut1;try simp only[Act.put,VZ,VY,VX]
     have N2:=zH (Z7 B2.out NB.out);refine zp N2.out fun hh=>?_;have bd:=(zd w2);replace O2:=zH (Zb O2.out bd);replace N2:=zH (Z7 bd N2.out);replace B2:=zH (B2.out.trans (bd.mono B2.out.size));clear bd;generalize w2.drew=v2 at *;refine zW 0 rfl (.slice a2 q c2) ?_;refine zT 1 rfl (.agg (Z5 n ta tc)) (zY p5 fun W h=>h) ?_;refine zT 3 rfl (.agg (Z5 n ta tc)) (zY p5 fun W h=>h) ?_;refine zR 2 rfl fun K hK=>?_;go_simp;refine(ZA n ta tc v2).mono ?_;rintro e v3 ⟨rfl,b3⟩;replace O2:=zH (Zb O2.out b3);replace N2:=zH (Z7 b3 N2.out);replace B2:=zH (B2.out.trans (b3.mono B2.out.size));clear b3;refine zK hK N2.out fun hh=>?_;clear hK K;refine zS 4 rfl (.agg (J0 ⟨Zk n,⟨n,ta,tc⟩⟩)) (fun W h=>by clear h;go_simp;kernel_rfl) ?_;refine zR 5 rfl fun K hK=>?_;have bn:Below v3.heap.size v3 (v3.alloc (.cells (J0 ⟨Zk n,⟨n,ta,tc⟩⟩) 210)):=zB _ _;have LE:=zH (Vp v3 ⟨Zk n,⟨n,ta,tc⟩⟩);replace O2:=zH (Zb O2.out bn);replace N2:=zH (Z7 bn N2.out);replace B2:=zH (B2.out.trans (bn.mono B2.out.size));clear bn;refine YH _ rfl ⟨Zk n,⟨n,ta,tc⟩⟩ rfl ?_;obtain⟨p6,hp6⟩:=zX (v3.heap.size);rw[hp6.out]at LE ⊢;generalize v3.alloc (.cells (J0 ⟨Zk n,⟨n,ta,tc⟩⟩) 210)=v4 at *;refine zK hK N2.out fun hh=>?_;clear hK K;refine zR 6 rfl fun K hK=>?_;obtain⟨a4,c4,v5,hrun,ho,hg,_⟩:=XW v4 wq.heap.size a2 q c2 _ O2.out _ 1 1 _ LE.out (VB _) (by have:=HNN.out;have:=LEN.out.2;have:=QL.out;omega) B2.out.size;have O4:=zH ho;have N4:=zH (Zc hg N2.out (Zg O2.out N2.out (fun cur h=>by simp at h)));have B4:=zH (B2.out.grown hg B2.out.size (fun k hk=>(O2.out.lt k hk).1));clear ho hg;rw[if_pos (by kernel_rfl)];refine ZJ _ _ _ rfl _ _ _ rfl rfl hrun ?_;clear hrun O2 LE;refine zK hK N4.out fun hh=>?_;clear hK K;refine zW 7 rfl (.slice a4 (q+1) c4) ?_;refine zE ?_;clear N2 N4 B2;have ST5:=zH (ST.out.below B4.out);obtain⟨ia,hi1,hi2⟩:=Z3v;obtain⟨a6,hcut2,hrd2⟩:=Z3z Tryz.underlying74 hi1 hi2 ST5.out.rd q on (some (.int .i64 (q:Int))) none (.inr ⟨_,rfl⟩) (.inl ⟨rfl,rfl⟩) QL.out (Nat.le_refl _)
     rw[Z1Q,List.take_of_length_le (by rw[Ut,List.length_drop,LEN.out.1];exact Nat.le_refl _)]at hrd2;obtain⟨a7,c7,w7,hrun,ho,hg,_⟩:=XW v5 wq.heap.size a4 (q+1) c4 _ O4.out a6 (on - q) (oc - q) _ hrd2 (Us _) (by have:=HNN.out;have:=LEN.out.2;have:=QL.out;omega) B4.out.size;have B7:=zH (B4.out.grown hg B4.out.size (fun k hk=>(O4.out.lt k hk).1));have SN:Hid (Z0u w w7 a7 (q+1+(on - q)) c7 (Z14 es q ⟨Zk n,⟨n,ta,tc⟩⟩) l (k+1)):=zH ⟨ST.out.bel.trans (B7.out.mono ST.out.bel.size),by rw[<-Z2Z];exact Zp ho ST.out.bel.size,fun e he=>by
      rcases Z0H he with rfl | he
      ·exact Zb HOW.out B7.out
      ·exact Zb (ST.out.str e he) B7.out,Z6R ST.out.ev HLX.out HC.out (by rw[LEN.out.1];exact QL.out) HJ.out QN.out,fun e he=>by
      rcases Z0H he with rfl | he
      ·rfl
      ·exact ST.out.nm e he⟩
     clear ho hg hi1 hi2 hrd2 O4 ST5 B4;go_upto_region 4 with (first
      |(refine Zu rfl _ _ _ rfl _ _ _ rfl rfl hrun ?_)
      | fail)
     clear hrun hcut2;go_wp2;go_roundw
     case rel=>exact⟨k+1,a7,q+1+(on - q),c7,Z14 es q ⟨Zk n,⟨n,ta,tc⟩⟩,by go_num,by go_num,by omega,SN⟩
     case measure=>simp[intOf];omega
  ·have t0:decide ((k:Int) < (nn:Int))=false:=by simp;omega
   obtain rfl:k=nn:=by omega
   rw[<-HLN.out]at ST;go_wp2;go_ret;exact⟨⟨oa,on,oc,es,rfl,ST.out⟩,ST.out.bel⟩
theorem Z4O (f:Ys)(a:zA)(n c:Nat)(l:List NoteV)(w:World)(hr:JM w a n c l):
  Calls zq 237 #[f.val,.slice a n c] w fun e w'=>e = .returned (.tuple #[.int .i64 (Zv f l).1,.int .i64 (Zv f l).2])/\Below w.heap.size w w':=by
 have hvl:f.val = .agg #[.int .i64 f.rings,.int .i64 f.sectors,.int .i64 f.wide]:=rfl;have HVL:=zH hvl;have WELL:=zH (fun(x:NoteV) sa sc (W:World) (hv:f.valid=true) (hs:Xe W sa x.strokes.length sc x.strokes)=>Vh hv x ▸ Z6v f x sa sc W hv hs);rw[hvl]at WELL ⊢;clear hvl;have I43:(zq.info? 47).map (·.size)=some 19:=by kernel_rfl
 have hL:=zH hr.1;have hn63:n<=9223372036854775807:=by have h1:=hr.2.1;have h2:=hr.2.2.1;unfold maxLen at h2;omega
 have B0:=zH (zB w (zF f 23));have F0:=zH (Z9 w (zF f 23));have R0:=zH (hr.below B0.out);clear hr;go_enter Tryz.func237,Tryz.ntmps237;go_upto_region 1 with fail;obtain⟨p,hp⟩:=zX (w.heap.size);rw[hp.out]at F0 ⊢;generalize w.alloc (zF f 23)=W0 at *;have c0:=Z6 F0.out 0 (.int .i64 f.rings) rfl;have c1:=Z6 F0.out 1 (.int .i64 f.sectors) rfl;have c2:=Z6 F0.out 2 (.int .i64 f.wide) rfl;go_wp2_with fail;refine(Z0a f.rings f.sectors f.wide _).mono ?_;rintro e W1 ⟨rfl,b1⟩;have B1:=zH (B0.out.trans (b1.mono B0.out.size));have F1:=zH (Z7 b1 F0.out);have R1:=zH (R0.out.below b1);clear b1 c0 c1 c2 B0 F0 R0;cases hv:f.valid
 ·have HR:=zH (show Zv f l=(1,0)by unfold Zv;rw[hv];rfl);clear hv;go_wp2_with fail;go_ret2;exact⟨by rw[HR.out];rfl,B1.out⟩
 ·have HV:=zH hv;clear hv;by_cases h4:400 < n
  ·have t4:decide ((400:Int) < (n:Int))=true:=by simp;omega
   have HR:=zH (show Zv f l=(2,0)by unfold Zv;rw[if_neg (by rw[HV.out];decide),if_pos (by rw[hL.out];exact h4)]);clear h4;go_wp2_with fail;go_ret2;exact⟨by rw[HR.out];rfl,B1.out⟩
  ·have t4:decide ((400:Int) < (n:Int))=false:=by simp;omega
   have HG0:=zH (show Zv f l=JW f l (n - 0) 0 by unfold Zv;rw[if_neg (by rw[HV.out];decide),if_neg (by rw[hL.out];exact h4),hL.out,Nat.sub_zero]);have HN4:Hid (n<=400):=zH (by omega);clear h4;go_wp2_with fail;clear t4;go_loopw [6,7] (fun i _ wr=>∃k:Nat,i = .int .i64 k/\k<=n/\Hid (Zv f l=JW f l (n - k) k)/\Hid (Below W1.heap.size W1 wr)) (fun i _ _=>n - (intOf i).toNat)
   case atStart=>exact⟨0,rfl,Nat.zero_le _,HG0,zH (Below.refl _ _)⟩
   case round=>
    obtain⟨k,rfl,hk,HG,HB⟩:=hrel;by_cases hlt:k < n
    ·have t0:decide ((k:Int) < (n:Int))=true:=by simp;omega
     obtain⟨x,hx⟩ : ∃x,l[k]? = some x:=⟨_,List.getElem?_eq_getElem (by rw[hL.out];exact hlt)⟩;have HX:=zH hx;obtain⟨b,off,rfl,hall⟩:=(R1.out.below HB.out).at (by omega);obtain⟨sa,sc,hrange,hrd⟩:=hall k x hx;have HALL:=zH hall;obtain⟨o,ho⟩:=zX (off+k * 19);rw[ho.out]at hrange;have HIX:=zH (fun W=>ZN (W:=W) (c:=c) (b:=b) Tryz.underlying24 I43 hlt ho.out);have LN:=zH (show ∀w0,Below wr.heap.size wr w0->w0.rangeAt b o (x.cells sa sc)from fun w0 hb=>Zs hrange hb);have RX:=zH (show ∀W',Below wr.heap.size wr W'->Xe W' sa x.strokes.length sc x.strokes from fun W' hb=>hrd.below hb);have LF:=zH (show ∀w0,Below wr.heap.size wr w0->w0.heap[p]? = some (.cells #[.int .i64 f.rings,.int .i64 f.sectors,.int .i64 f.wide] 23)from fun w0 hb=>Z7 (HB.out.trans (hb.mono HB.out.size)) F1.out);have hC0:Below wr.heap.size wr wr.drew:=(Below.refl _ _).drew;clear hall hx hrange hrd;have hk64:(k:Int)+1<=9223372036854775807:=by have:=HN4.out;omega
     go_upto_region 8 with fail;refine zC (fun w':World=>Below wr.heap.size wr w') hC0 ?_;refine zQ (.agg #[.int .i64 f.rings,.int .i64 f.sectors,.int .i64 f.wide]) (fun w0 hC=>?_) ?_
     ·have c0:=Z6 (LF.out w0 hC) 0 (.int .i64 f.rings) rfl;have c1:=Z6 (LF.out w0 hC) 1 (.int .i64 f.sectors) rfl;have c2:=Z6 (LF.out w0 hC) 2 (.int .i64 f.wide) rfl;clear hC;go_simp
     iterate 2 go_big_quiet_step (fail)
     refine zQ (.pointer (some ⟨b,o,none⟩)) (fun w0 hC=>?_) ?_
     ·have hix:=HIX.out w0;clear hC;go_simp
     refine zQ (.agg (Z5 x sa sc)) (fun w0 hC=>Zx (.tmp 23) rfl b o rfl x sa sc (LN.out w0 hC)) ?_;refine zQ (.bool (Zf f x)) (fun w0 hC=>?_) ?_
     ·go_simp;refine(WELL.out x sa sc w0 HV.out (RX.out w0 hC)).mono ?_;rintro e w1 ⟨rfl,b1⟩;exact⟨rfl,hC.trans (b1.mono hC.size)⟩
     cases hf:Zf f x
     ·have HR:=zH (show Zv f l=(80,k)by rw[HG.out];exact Qi hlt (by unfold setAt;rw[HX.out];simp only;rw[if_pos hf]));clear hf;refine zV (.bool true) ?_;refine wpQuiet_nil ?_;intro w' hC;have BE:=zH (HB.out.trans (hC.mono HB.out.size));clear hC;go_wp2_with fail;go_ret2;exact⟨by rw[HR.out];rfl,B1.out.trans (BE.out.mono B1.out.size)⟩
     ·have HF:=zH hf;clear hf;refine zV (.bool false) ?_;refine wpQuiet_nil ?_;intro w' hC;have BE:=zH (HB.out.trans (hC.mono HB.out.size));have HC:=zH hC;clear hC;rcases Nat.eq_zero_or_pos k with hk0 | hk0
      ·have k0a:((k:Int)==0)=true:=by rw[hk0];rfl
       have HR:=zH (show JW f l (n - k) k=JW f l (n - (k+1)) (k+1)from zi hlt (by unfold setAt;rw[HX.out];simp only;rw[if_neg (by rw[HF.out];decide),if_pos hk0]));clear hk0;go_wp2;go_roundw
       case rel=>exact⟨k+1,by go_num,by omega,zH (by rw[<-HR.out];exact HG.out),BE⟩
       case measure=>simp[intOf];omega
      ·have k0a:((k:Int)==0)=false:=by rw[beq_eq_false_iff_ne];omega
       have HK0:Hid (¬k=0):=zH (by omega);obtain⟨j,hkj⟩ : ∃j,k=j+1:=⟨k - 1,by omega⟩;have hj1:(k:Int) - 1=(j:Int):=by omega
       have hjn:j < n:=by omega
       have HWJ:Hid (IntKind.i64.wrap (j:Int)=(j:Int)):=zH (by have:=HN4.out;first|(rw[IntKind.wrap_i64];omega)|(rw[IntKind.wrap_i64];unfold wrap64;omega));obtain⟨y,hy⟩ : ∃y,l[j]? = some y:=⟨_,List.getElem?_eq_getElem (by rw[hL.out];omega)⟩;obtain⟨ya,yc,hyr,_⟩:=HALL.out j y hy;have HY:=zH (show l[k - 1]? = some y by rw[hkj,Nat.add_sub_cancel];exact hy);obtain⟨oy,hoy⟩:=zX (off+j * 19);rw[hoy.out]at hyr;have HIY:=zH (fun W=>ZN (W:=W) (c:=c) (b:=b) Tryz.underlying24 I43 hjn hoy.out);have LY:=zH (show ∀w0,Below w'.heap.size w' w0->w0.rangeAt b oy (y.cells ya yc)from fun w0 hb=>Zs hyr (HC.out.trans (hb.mono HC.out.size)));have LX:=zH (show ∀w0,Below w'.heap.size w' w0->w0.rangeAt b o (x.cells sa sc)from fun w0 hb=>LN.out w0 (HC.out.trans (hb.mono HC.out.size)));have hC1:Below w'.heap.size w' w'.drew:=(Below.refl _ _).drew;clear hy hyr hk0 hkj;go_upto_region 11 with fail;clear k0a;refine zC (fun wz:World=>Below w'.heap.size w' wz) hC1 ?_
       iterate 2 go_big_quiet_step (fail)
       refine zQ (.int .i64 (j:Int)) (fun w0 hC=>?_) ?_
       ·clear hC;go_simp
        first | done | exact HWJ.out
       refine zQ (.pointer (some ⟨b,oy,none⟩)) (fun w0 hC=>?_) ?_
       ·have hix:=HIY.out w0;clear hC;go_simp
       refine zQ (.agg (Z5 y ya yc)) (fun w0 hC=>Zx (.tmp 33) rfl b oy rfl y ya yc (LY.out w0 hC)) ?_;refine zQ (.agg #[.int .i64 y.house,.int .i64 y.num]) (fun w0 hC=>?_) ?_
       ·go_simp;refine(ZA y ya yc w0).mono ?_;rintro e w1 ⟨rfl,b1⟩;exact⟨rfl,hC.trans (b1.mono hC.size)⟩
       iterate 2 go_big_quiet_step (fail)
       refine zQ (.pointer (some ⟨b,o,none⟩)) (fun w0 hC=>?_) ?_
       ·have hix:=HIX.out w0;clear hC;go_simp
       refine zQ (.agg (Z5 x sa sc)) (fun w0 hC=>Zx (.tmp 38) rfl b o rfl x sa sc (LX.out w0 hC)) ?_;refine zQ (.agg #[.int .i64 x.house,.int .i64 x.num]) (fun w0 hC=>?_) ?_
       ·go_simp;refine(ZA x sa sc w0).mono ?_;rintro e w1 ⟨rfl,b1⟩;exact⟨rfl,hC.trans (b1.mono hC.size)⟩
       refine zQ (.int .i64 (YQ y.house y.num x.house x.num)) (fun w0 hC=>?_) ?_
       ·go_simp;refine(Z6P _ _ _ _ w0).mono ?_;rintro e w1 ⟨rfl,b1⟩;exact⟨rfl,hC.trans (b1.mono hC.size)⟩
       go_big_quiet_step (fail);refine wpQuiet_nil ?_;intro wz hC;have BF:=zH (BE.out.trans (hC.mono BE.out.size));clear hC;obtain⟨z,hz⟩:=zX (YQ y.house y.num x.house x.num);rw[hz.out];by_cases hz0:z=0
       ·have ho1:(z==0)=true:=by simp[hz0]
        have HR:=zH (show Zv f l=(81,k)by rw[HG.out];exact Qi hlt (by unfold setAt;rw[HX.out];simp only;rw[if_neg (by rw[HF.out];decide),if_neg HK0.out,HY.out];simp only;rw[hz.out,if_pos hz0]));clear hz0;go_wp2_with fail;go_ret2;exact⟨by rw[HR.out];rfl,B1.out.trans (BF.out.mono B1.out.size)⟩
       ·have ho1:(z==0)=false:=by simp[hz0]
        by_cases hz1:0 < z
        ·have ho2:decide (0 < z)=true:=by simp[hz1]
         have HR:=zH (show Zv f l=(1,k)by rw[HG.out];exact Qi hlt (by unfold setAt;rw[HX.out];simp only;rw[if_neg (by rw[HF.out];decide),if_neg HK0.out,HY.out];simp only;rw[hz.out,if_neg hz0,if_pos hz1]));clear hz0 hz1;go_wp2_with fail;go_ret2;exact⟨by rw[HR.out];rfl,B1.out.trans (BF.out.mono B1.out.size)⟩
        ·have ho2:decide (0 < z)=false:=by simp;omega
         have HR:=zH (show JW f l (n - k) k=JW f l (n - (k+1)) (k+1)from zi hlt (by unfold setAt;rw[HX.out];simp only;rw[if_neg (by rw[HF.out];decide),if_neg HK0.out,HY.out];simp only;rw[hz.out,if_neg hz0,if_neg hz1]));clear hz0 hz1;go_wp2;go_roundw
         case rel=>exact⟨k+1,by go_num,by omega,zH (by rw[<-HR.out];exact HG.out),BF⟩
         case measure=>simp[intOf];omega
    ·have hkn:n - k=0:=by omega
     have HR:=zH (show Zv f l=(0,0)by rw[HG.out,hkn];rfl);have t0:decide ((k:Int) < (n:Int))=false:=by simp;omega
     go_wp2_with fail;go_ret2;exact⟨by rw[HR.out];rfl,B1.out.trans (HB.out.mono B1.out.size)⟩
theorem ZaG (l:List Nm)(a:zA)(nn nc:Nat)(h m:Int)(w:World)(hr:ZX w 2 a nn nc (ZH l)):
  Calls zq 240 #[.slice a nn nc,.agg #[.int .i64 h,.int .i64 m]] w fun e w'=>e = .returned (.bool (decide ((h,m)∈l)))/\Below w.heap.size w w':=by
 have J2:(zq.info? 45).map (·.size)=some 2:=by kernel_rfl
 have hn63:=hr.maxn;have HLN:Hid (l.length=nn):=zH (by have:=hr.len;rw[XA]at this;omega);have HR:=zH hr;clear hr;have B0:=zH (zB w (.cells #[.int .i64 h,.int .i64 m] 45));have R0:=zH (Z9 w (.cells #[.int .i64 h,.int .i64 m] 45));go_enter Tryz.func240,Tryz.ntmps240;go_upto_region 1 with fail;obtain⟨p3,hp3⟩:=zX (w.heap.size);rw[hp3.out]at R0 ⊢;generalize w.alloc (.cells #[.int .i64 h,.int .i64 m] 45)=W0 at *;go_wp2_with fail;go_loopw [5] (fun i wr=>∃k:Nat,i = .int .i64 (k:Int)/\k<=nn/\Hid (∀j y,j < k->l[j]? = some y->y≠(h,m))/\Hid (Below W0.heap.size W0 wr)) (fun i _=>nn - (intOf i).toNat)
 case atStart=>exact⟨0,rfl,Nat.zero_le _,zH (fun j y h=>by omega),zH (Below.refl _ _)⟩
 case round=>
  obtain⟨k,rfl,hk,HA,BB⟩:=hrel;by_cases hlt:k < nn
  ·have t0:decide ((k:Int) < (nn:Int))=true:=by simp;omega
   obtain⟨x,Hx⟩ : ∃x,l[k]? = some x:=⟨_,List.getElem?_eq_getElem (by rw[HLN.out];exact hlt)⟩;have HX:=zH Hx;obtain⟨b,off,rfl,hat⟩:=Z8Y (HR.out.below (B0.out.trans (BB.out.mono B0.out.size))) (by omega);have HC:=zH (hat k x Hx);obtain⟨o,ho⟩:=zX (off+k * 2);rw[ho.out]at HC;have HIX:=zH (fun W=>ZN (W:=W) (c:=nc) (b:=b) Tryz.underlying75 J2 hlt ho.out);have hk64:(k:Int)+1<=9223372036854775807:=by omega
   have LR:=zH (show ∀w0,Below wr.heap.size wr w0->w0.heap[p3]? = some (.cells #[.int .i64 h,.int .i64 m] 45)from fun w0 hb=>Z7 hb (Z7 BB.out R0.out));have LX:=zH (show ∀w0,Below wr.heap.size wr w0->w0.cell? ⟨b,o,none⟩=some (.int .i64 x.1)/\w0.cell? ⟨b,o+1,none⟩=some (.int .i64 x.2)from fun w0 hb=>⟨(hb.cell (World.block_lt_of_cell? wr _ HC.out.1)).trans HC.out.1,(hb.cell (World.block_lt_of_cell? wr _ HC.out.2)).trans HC.out.2⟩);have hC0:Below wr.heap.size wr wr.drew:=(Below.refl _ _).drew;clear hat Hx;go_upto_region 4 with fail;clear t0;try simp only[Act.put,VZ,VY,VX]
   refine zC (fun w':World=>Below wr.heap.size wr w') hC0 ?_
   iterate 2 go_big_quiet_step (fail)
   refine zQ (.pointer (some ⟨b,o,none⟩)) (fun w0 hC=>?_) ?_
   ·have hix:=HIX.out w0;clear hC;go_simp
   refine zQ (.agg #[.int .i64 x.1,.int .i64 x.2]) (fun w0 hC=>?_) ?_
   ·obtain⟨c0,c1⟩:=LX.out w0 hC;clear hC;go_simp
   refine zQ (.agg #[.int .i64 h,.int .i64 m]) (fun w0 hC=>?_) ?_
   ·have c0:=Z6 (LR.out w0 hC) 0 (.int .i64 h) rfl;have c1:=Z6 (LR.out w0 hC) 1 (.int .i64 m) rfl;clear hC;go_simp
   refine zQ (.bool (decide (x.1=h/\x.2=m))) (fun w0 hC=>?_) ?_
   ·clear hC;go_simp;try (by_cases h1:x.1=h <;> by_cases h2:x.2=m <;> simp[h1,h2])
   refine wpQuiet_nil ?_;intro w' hC;have BB2:=zH (BB.out.trans (hC.mono BB.out.size));clear hC LX LR HC BB;cases hq:decide (x.1=h/\x.2=m)
   ·have NE:=zH (of_decide_eq_false hq);clear hq;go_wp2;go_roundw
    case rel=>exact⟨k+1,by go_num,by omega,zH (fun i z hi hz=>by
     rcases Nat.lt_or_ge i k with h' | h'
     ·exact HA.out i z h' hz
     ·have e:i=k:=by omega
      subst e;rw[HX.out]at hz;cases hz;exact fun e=>NE.out ⟨congrArg Prod.fst e,congrArg Prod.snd e⟩),BB2⟩
    case measure=>simp[intOf];omega
   ·have EQ:Hid ((h,m)∈l):=zH (by
     obtain⟨e1,e2⟩:=of_decide_eq_true hq;have e:x=(h,m):=Prod.ext e1 e2;rw[<-e];exact List.mem_of_getElem? HX.out)
    clear hq;go_wp2;go_ret;exact⟨by rw[decide_eq_true EQ.out] <;> rfl,B0.out.trans (BB2.out.mono B0.out.size)⟩
  ·have t0:decide ((k:Int) < (nn:Int))=false:=by simp;omega
   have NI:Hid ((h,m) ∉ l):=zH (fun hm=>by
    obtain⟨i,hi⟩:=List.getElem?_of_mem hm;exact HA.out i _ (by have:=(List.getElem?_eq_some_iff.1 hi).1;rw[HLN.out]at this;omega) hi rfl)
   go_wp2;go_ret;exact⟨by rw[decide_eq_false NI.out] <;> rfl,B0.out.trans (BB.out.mono B0.out.size)⟩
theorem Z9r (l:List NoteV)(a:zA)(nn nc:Nat)(n:NoteV)(ta:zA)(tc:Nat)(w:World)(hr:JM w a nn nc l)(hk:1<=n.kind/\n.kind<=6):
  Calls zq 241 #[.slice a nn nc,.agg (Z5 n ta tc)] w fun e w'=>e = .returned (.bool (Up l n))/\Below w.heap.size w w':=by
 have J19:(zq.info? 47).map (·.size)=some 19:=by kernel_rfl
 have hn63:nn<=9223372036854775807:=by have h1:=hr.2.1;have h2:=hr.2.2.1;unfold maxLen at h2;omega
 obtain⟨xs,hxs,hrl⟩:=hr.choose;have RL:=zH hrl;have HXS:=zH hxs;have LNX:=zH hrl.1;have HLN:=zH hr.1;have CJF:=zH (fun(x:NoteV) (sa:zA) (sc:Nat) (W:World)=>Z2U n x ta tc sa sc W);have CJE:=zH (fun(x:NoteV)=>Z3Q x hk);clear hr hk hxs hrl;have B0:=zH (zB w (.cells (Z5 n ta tc) 47));have R0:=zH (Z9 w (.cells (Z5 n ta tc) 47));go_enter Tryz.func241,Tryz.ntmps241;go_upto_region 1 with fail;obtain⟨p3,hp3⟩:=zX (w.heap.size);rw[hp3.out]at R0 ⊢;generalize w.alloc (.cells (Z5 n ta tc) 47)=W0 at *;go_wp2_with (refine zL p3 R0.out ?_);refine(Z0D n ta tc W0).mono ?_;rintro e W1 ⟨rfl,b1⟩;have R1:=zH (Z7 b1 R0.out);have B1:=zH (B0.out.trans (b1.mono B0.out.size));clear b1 B0 R0;cases hd:Xf n
 case true=>
  have GI:=zH (show Up l n=false by unfold Up;rw[hd];rfl);clear hd;go_wp2;go_ret;exact⟨by rw[GI.out] <;> rfl,B1.out⟩
 have GI:=zH (show ∀b,(l.any (fun r=>Jm r n))=b->Up l n = !b from fun b h=>by unfold Up;rw[hd,h];rfl);clear hd;go_wp2_with fail;go_loopw [5] (fun i wr=>∃k:Nat,i = .int .i64 (k:Int)/\k<=nn/\Hid (∀j y,j < k->l[j]? = some y->Jm y n=false)/\Hid (Below W1.heap.size W1 wr)) (fun i _=>nn - (intOf i).toNat)
 case atStart=>exact⟨0,rfl,Nat.zero_le _,zH (fun j y h=>by omega),zH (Below.refl _ _)⟩
 case round=>
  obtain⟨k,rfl,hk,HA,BB⟩:=hrel;by_cases hlt:k < nn
  ·have t0:decide ((k:Int) < (nn:Int))=true:=by simp;omega
   obtain⟨x,Hx⟩ : ∃x,xs[k]? = some x:=⟨_,List.getElem?_eq_getElem (by rw[LNX.out];exact hlt)⟩;have HLX:=zH (show l[k]? = some x.n by rw[<-HXS.out,List.getElem?_map,Hx];rfl);obtain⟨b,off,rfl,hat⟩:=(RL.out.below (B1.out.trans (BB.out.mono B1.out.size))).at (by omega);have HX:=zH (hat k x Hx).1;obtain⟨o,ho⟩:=zX (off+k * 19);rw[ho.out]at HX;have HIX:=zH (fun W=>ZN (W:=W) (c:=nc) (b:=b) Tryz.underlying24 J19 hlt ho.out);have hk64:(k:Int)+1<=9223372036854775807:=by omega
   have LR:=zH (show ∀w0,Below wr.heap.size wr w0->w0.rangeAt p3 0 (n.cells ta tc)from fun w0 hb=>za (Z7 hb (Z7 BB.out R1.out)));have LX:=zH (show ∀w0,Below wr.heap.size wr w0->w0.rangeAt b o (x.n.cells x.sa x.sc)from fun w0 h=>Zs HX.out h);have hC0:Below wr.heap.size wr wr.drew:=(Below.refl _ _).drew;have CJ:=zH (fun W=>CJF.out x.n x.sa x.sc W);rw[CJE.out x.n]at CJ;clear hat Hx;go_upto_region 6 with fail;clear t0;try simp only[Act.put,VZ,VY,VX]
   refine zC (fun w':World=>Below wr.heap.size wr w') hC0 ?_;refine zQ (.agg (Z5 n ta tc)) (fun w0 hC=>Zx (.tmp 3) rfl p3 0 rfl n ta tc (LR.out w0 hC)) ?_
   iterate 2 go_big_quiet_step (fail)
   refine zQ (.pointer (some ⟨b,o,none⟩)) (fun w0 hC=>?_) ?_
   ·have hix:=HIX.out w0;clear hC;go_simp
   refine zQ (.agg (Z5 x.n x.sa x.sc)) (fun w0 hC=>Zx (.tmp 17) rfl b o rfl x.n x.sa x.sc (LX.out w0 hC)) ?_;refine zQ (.bool (Jm x.n n)) (fun w0 hC=>?_) ?_
   ·go_simp;refine(CJ.out w0).mono ?_;rintro e w1 ⟨rfl,b1⟩;exact⟨rfl,hC.trans (b1.mono hC.size)⟩
   refine wpQuiet_nil ?_;intro w' hC;have BB2:=zH (BB.out.trans (hC.mono BB.out.size));clear hC LX LR HX BB;cases hq:Jm x.n n
   ·have NE:=zH hq;clear hq;go_wp2;go_roundw
    case rel=>exact⟨k+1,by go_num,by omega,zH (fun i z hi hz=>by
     rcases Nat.lt_or_ge i k with h' | h'
     ·exact HA.out i z h' hz
     ·have e:i=k:=by omega
      subst e;rw[HLX.out]at hz;cases hz;exact NE.out),BB2⟩
    case measure=>simp[intOf];omega
   ·have GT:=zH (GI.out true (List.any_eq_true.2 ⟨x.n,List.mem_of_getElem? HLX.out,hq⟩));clear hq;go_wp2;go_ret;exact⟨by rw[GT.out] <;> rfl,B1.out.trans (BB2.out.mono B1.out.size)⟩
  ·have t0:decide ((k:Int) < (nn:Int))=false:=by simp;omega
   have GF:=zH (GI.out false (by
    rw[List.any_eq_false];intro y hy;obtain⟨i,hi⟩:=List.getElem?_of_mem hy;rw[HA.out i y (by have:=(List.getElem?_eq_some_iff.1 hi).1;rw[HLN.out]at this;omega) hi];decide))
   go_wp2;go_ret;exact⟨by rw[GF.out] <;> rfl,B1.out.trans (BB.out.mono B1.out.size)⟩
theorem Z6b {f:Ys}{x:NoteV}(h:Zf f x=true):1<=x.kind/\x.kind<=6:=by
 unfold Zf at h;rw[Bool.and_eq_true]at h;have h:=h.1;have hs:Yi f x.kind x=true:=by
  unfold okB at h;split at h
  ·rw[Bool.and_eq_true]at h;exact h.1
  ·split at h
   ·rw[Bool.and_eq_true]at h;exact h.1
   ·exact h
 unfold Yi at hs;grind
theorem Z84 (f:Ys)(a:zA)(n c:Nat)(l:List NoteV)(w:World)(hr:JM w a n c l):
  Calls zq 214 #[f.val,.slice a n c] w fun e w'=>e = .returned (.bool ((Zv f l).1==0))/\Below w.heap.size w w':=by
 have CS:=zH (fun W hb=>Z4O f a n c l W (hr.below (show Below w.heap.size w W from hb)));have hvl:f.val = .agg #[.int .i64 f.rings,.int .i64 f.sectors,.int .i64 f.wide]:=rfl;rw[hvl]at CS ⊢;clear hvl hr;have B0:=zH (zB w (zF f 23));have F0:=zH (Z9 w (zF f 23));go_enter Tryz.func214,Tryz.ntmps214;go_upto_region 1 with fail;obtain⟨pF,hpF⟩:=zX (w.heap.size);rw[hpF.out]at F0 ⊢;generalize w.alloc (zF f 23)=W0 at *;have c0:=Z6 F0.out 0 (.int .i64 f.rings) rfl;have c1:=Z6 F0.out 1 (.int .i64 f.sectors) rfl;have c2:=Z6 F0.out 2 (.int .i64 f.wide) rfl;go_wp2_with fail;refine(CS.out W0 B0.out).mono ?_;clear c0 c1 c2;rintro e W1 ⟨rfl,b1⟩;have B1:=zH (B0.out.trans (b1.mono B0.out.size));clear b1;go_wp2;go_ret;exact⟨rfl,B1.out⟩
theorem VM {P:Program}{ops:Array Oper}{S:World->Prop}{op:Oper}{a:Act}(hw:Region.wanted op (yielded ops a.tmps)=true)(ty:TypeId)(x:Operand)(ho:op.op = .load ty x)
  (b o:Nat) (hx:a.eval x = .pointer (some ⟨b,o,none⟩)) (cs:List Value) (d:TypeDesc) (hS : ∀w,S w->w.rangeAt b o cs)
  (hu:P.underlying ty=some d) (hd:d.isRow=true) (hi:(P.info? ty).map (·.size)=some cs.length):YieldsIf P ops S op (.agg cs.toArray) a:=
 .inl ⟨hw,fun w hw'=>by
  unfold execOp
  simp only[ho,hx,Instr.loadAt,Instr.sureAddr,Sem.run_bind,Sem.run_pure,Result.andThen_ok,run_loadVar_mid w b o ty cs d (hS w hw') hu hd hi]⟩
theorem UF {P:Program}{ops:Array Oper}{rest:List Oper}{op:Oper}{a:Act}{w:World}{Q:Exit->Act->World->Prop}(hw:Region.wanted op (yielded ops a.tmps)=true)(ty:TypeId)(x:Operand)(ho:op.op = .load ty x)
  (b o:Nat) (hx:a.eval x = .pointer (some ⟨b,o,none⟩)) (cs:List Value) (d:TypeDesc) (hc:w.rangeAt b o cs)
  (hu:P.underlying ty=some d) (hd:d.isRow=true) (hi:(P.info? ty).map (·.size)=some cs.length)
  (h:wpList P ops Q rest (a.put op.dst (.agg cs.toArray)) w):wpList P ops Q (op :: rest) a w:=
 wpList_step fun _ hK=>by rw[if_pos hw];exact wp_load_mid ty x ho b o hx cs d hc hu hd hi (hK _ _ h)
theorem Z6L (day:Int): ∀(l:List Xg) (R:Jn),R.hs.length<=8->(l.foldl (Ye day) R).hs.length<=8
 | [],R,h=>h
 | e :: l,R,h=>by
  rw[List.foldl_cons]
  refine Z6L day l _ ?_
  unfold Ye V7
  split
  ·split
   ·rename_i h1
    split
    ·rename_i h2
     unfold Qs at h1
     rw[if_pos h2]at h1
     have:=of_decide_eq_true h1
     simp only[List.length_append,List.length_singleton]
     omega
    ·exact h
   ·exact h
  ·exact h
theorem Zdl {es:List Xg}(h : ∀e∈es,e.nm=Zk e.x.n):es=(es.map Xg.x).map XC:=by
 rw[List.map_map]
 induction es with
 | nil=>rfl
 | cons e es ih=>
  rw[List.map_cons,<-ih (fun x hx=>h x (List.mem_cons_of_mem _ hx))];have he:=h e (List.mem_cons_self ..);obtain⟨nm,x⟩:=e;simp only at he;subst he;rfl
theorem Z6K {day:Int}{l:List NoteV}{es:List Xg}(he:es.map (fun e=>e.x.n)=Ur l)(hn : ∀e∈es,e.nm=Zk e.x.n):Ux (Yj day es) (Z1d day l):=by
 have h1:=Z3T day (es.map Xg.x);rw[<-Zdl hn,List.map_map]at h1;have h2:es.map (LN.n∘Xg.x)=Ur l:=he;rw[h2]at h1;exact h1
structure Z25 (V W:World)(p:Nat)(ha:zA)(hc:Nat)(ea:zA)(ec:Nat)(R:Jn)(ba:zA)(bc:Nat):Prop where
 reg:Jd V.heap.size W p ha hc ea ec none 0 R.hs R.es []
 same:Za (fun k=>k=p) V W
 bad:W.ownsRow V.heap.size 45 2 (.slice ba R.cs.length bc) R.cs.length (ZH R.cs)
theorem Z25.below {V W W':World}{p:Nat}{ha:zA}{hc:Nat}{ea:zA}{ec:Nat}{R:Jn}{ba:zA}{bc:Nat}(h:Z25 V W p ha hc ea ec R ba bc)(hb:Below W.heap.size W W'):Z25 V W' p ha hc ea ec R ba bc:=
 ⟨h.reg.below hb,h.same.trans (Za.of_below hb),Zb h.bad hb⟩
theorem Z25.addE {V W W':World}{p:Nat}{ha:zA}{hc:Nat}{ea:zA}{ec:Nat}{hs es:List Xg}{cs:List Nm}{ba:zA}{bc:Nat}{e:Xg}{a':zA}{c':Nat}(h:Z25 V W p ha hc ea ec ⟨hs,es,cs⟩ ba bc)(ho:W'.ownsRow V.heap.size 210 21 (.slice a' (es.length+1) c') (es.length+1) (ZU es ++ e.cells))(hg:W.grownBy W' (Value.ownBlock (.slice ea es.length ec)))(hl:a'=ea\/a'=some ⟨W.heap.size,0,none⟩):
  Z25 V (W'.setCell ⟨p,1,none⟩ (.slice a' (es.length+1) c')) p ha hc a' c' ⟨hs,es ++ [e],cs⟩ ba bc:=by
 obtain⟨r1,r2,r3⟩:=h;have h1:=r1.addE ho hg hl;have hb2:=Zc hg r1.blk (Zg r1.eown r1.blk (by intro cur;simp));refine⟨h1.1,r2.reg (h1.2.weaken (fun k hk=>hk.imp id (fun h=>(r1.eown.lt k h).1))),?_⟩;have h3:=r3.kept hg (Xs r3 r1.eown (by decide));exact h3.kept (Zj W' p 1 _) (.inr (Zg h3 hb2 (by intro cur;simp)).symm)
theorem Z25.addH {V W W':World}{p:Nat}{ha:zA}{hc:Nat}{ea:zA}{ec:Nat}{hs es:List Xg}{cs:List Nm}{ba:zA}{bc:Nat}{e:Xg}{a':zA}{c':Nat}(h:Z25 V W p ha hc ea ec ⟨hs,es,cs⟩ ba bc)(ho:W'.ownsRow V.heap.size 210 21 (.slice a' (hs.length+1) c') (hs.length+1) (ZU hs ++ e.cells))(hg:W.grownBy W' (Value.ownBlock (.slice ha hs.length hc)))(hl:a'=ha\/a'=some ⟨W.heap.size,0,none⟩):
  Z25 V (W'.setCell ⟨p,0,none⟩ (.slice a' (hs.length+1) c')) p a' c' ea ec ⟨hs ++ [e],es,cs⟩ ba bc:=by
 obtain⟨r1,r2,r3⟩:=h;have h1:=r1.addH ho hg hl;have hb2:=Zc hg r1.blk (Zg r1.hown r1.blk (by intro cur;simp));refine⟨h1.1,r2.reg (h1.2.weaken (fun k hk=>hk.imp id (fun h=>(r1.hown.lt k h).1))),?_⟩;have h3:=r3.kept hg (Xs r3 r1.hown (by decide));exact h3.kept (Zj W' p 0 _) (.inr (Zg h3 hb2 (by intro cur;simp)).symm)
theorem Z25.addB {V W W':World}{p:Nat}{ha:zA}{hc:Nat}{ea:zA}{ec:Nat}{hs es:List Xg}{cs:List Nm}{ba:zA}{bc:Nat}{a:Nm}{a':zA}{c':Nat}(h:Z25 V W p ha hc ea ec ⟨hs,es,cs⟩ ba bc)(ho:W'.ownsRow V.heap.size 45 2 (.slice a' (cs.length+1) c') (cs.length+1) (ZH cs ++ [.int .i64 a.1,.int .i64 a.2]))(hg:W.grownBy W' (Value.ownBlock (.slice ba cs.length bc))):
  Z25 V W' p ha hc ea ec ⟨hs,es,cs ++ [a]⟩ a' c':=by
 obtain⟨r1,r2,r3⟩:=h;have hb2:=Zc hg r1.blk (Zg r3 r1.blk (by intro cur;simp));exact⟨⟨hb2,r1.hown.kept hg (Xs r1.hown r3 (by decide)),r1.eown.kept hg (Xs r1.eown r3 (by decide)),World.ownsRow_nil _ _ _ _,r1.dis⟩,
  r2.reg (Za.of_grown hg (fun k e=>.inr (r3.lt k e).1)),by rw[Vx,List.length_append];exact ho⟩
structure Z7P (V W:World)(p:Nat)(h0 h1:Value)(ca:zA)(cn cc:Nat)(cs:List Nm):Prop where
 blk:W.heap[p]? = some (.cells #[h0,h1,.slice ca cn cc] 77)
 same:Za (fun k=>k=p) V W
 own:W.ownsRow V.heap.size 45 2 (.slice ca cn cc) cn (ZH cs)
theorem Z7P.below {V W W':World}{p:Nat}{h0 h1:Value}{ca:zA}{cn cc:Nat}{cs:List Nm}(h:Z7P V W p h0 h1 ca cn cc cs)(hb:Below W.heap.size W W'):Z7P V W' p h0 h1 ca cn cc cs:=
 ⟨Z7 hb h.blk,h.same.trans (Za.of_below hb),Zb h.own hb⟩
theorem Z7P.add {V W W':World}{p:Nat}{h0 h1:Value}{ca:zA}{cn cc:Nat}{cs:List Nm}{a:Nm}{a':zA}{c':Nat}(h:Z7P V W p h0 h1 ca cn cc cs)(ho:W'.ownsRow V.heap.size 45 2 (.slice a' (cn+1) c') (cn+1) (ZH cs ++ [.int .i64 a.1,.int .i64 a.2]))(hg:W.grownBy W' (Value.ownBlock (.slice ca cn cc))):
  Z7P V (W'.setCell ⟨p,2,none⟩ (.slice a' (cn+1) c')) p h0 h1 a' (cn+1) c' (cs ++ [a]):=by
 have hb2:=Zc hg h.blk (Zg h.own h.blk (by intro cur;simp));have G:=Zj W' p 2 (.slice a' (cn+1) c');exact⟨by rw[ZW hb2 2 (.slice a' (cn+1) c')];rfl,h.same.reg ((Za.of_grown hg (fun k e=>.inr (h.own.lt k e).1)).trans (Za.of_grown G (fun k e=>by cases e;exact .inl rfl))),by
  rw[Vx];exact ho.kept G (.inr (Zg ho hb2 (by intro cur;simp)).symm)⟩
def Vi (day:Int)(l:List NoteV)(n:NoteV):Bool:=decide (Zk n∈(Z1d day l).cs) || Up l n
theorem Za7 (day:Int)(l:List NoteV){k:Nat}{x:NoteV}(h:l[k]? = some x):((l.take (k+1)).filter (Vi day l)).map Zk=if Vi day l x=true then ((l.take k).filter (Vi day l)).map Zk ++ [Zk x]else ((l.take k).filter (Vi day l)).map Zk:=by
 rw[Zc1 (Vi day l) h];by_cases hq:Vi day l x=true
 ·rw[if_pos hq,if_pos hq,List.map_append];rfl
 ·rw[if_neg hq,if_neg hq]
theorem Zbt (day:Int)(l:List NoteV):(l.filter (Vi day l)).map Zk=csN day l:=rfl
def Z0q (base:Nat)(W:World)(v:Value)(T:Z8O):Prop:=
 ∃(ha:zA) (hn hc:Nat) (ea:zA) (en ec:Nat) (ca:zA) (cn cc:Nat) (hs es:List Xg),v = .agg #[.slice ha hn hc,.slice ea en ec,.slice ca cn cc] /\
  W.ownsRow base 210 21 (.slice ha hn hc) hn (ZU hs)/\W.ownsRow base 210 21 (.slice ea en ec) en (ZU es)/\W.ownsRow base 45 2 (.slice ca cn cc) cn (ZH T.2.2) /\
  (∀e∈hs ++ es,W.ownsRow base 3 1 (.slice e.x.sa e.x.n.strokes.length e.x.sc) e.x.n.strokes.length (e.x.n.strokes.map Yo))/\hs.map evC=T.1.map evP/\es.map evC=T.2.1.map evP
theorem Z0q.out {base:Nat}{W:World}{v:Value}{T:Z8O}(h:Z0q base W v T):Uf W v T:=by
 obtain⟨ha,hn,hc,ea,en,ec,ca,cn,cc,hs,es,rfl,h1,h2,h3,h4,h5,h6⟩:=h;exact⟨ha,hn,hc,ea,en,ec,ca,cn,cc,hs,es,rfl,Vk.of_rd (ZX.of_own h1),Vk.of_rd (ZX.of_own h2),ZX.of_own h3,fun e he=>ZX.of_own (h4 e he),h5,h6⟩
theorem Z0q.kept {base:Nat}{W W':World}{v:Value}{T:Z8O}{p:Nat}{c:Xz}(h:Z0q base W v T)(hg:W.grownBy W' (some p))(hp:W.heap[p]? = some (.cells c 77)):Z0q base W' v T:=by
 obtain⟨ha,hn,hc,ea,en,ec,ca,cn,cc,hs,es,rfl,h1,h2,h3,h4,h5,h6⟩:=h;exact⟨ha,hn,hc,ea,en,ec,ca,cn,cc,hs,es,rfl,h1.kept hg (.inr (Zg h1 hp (by intro cur;simp)).symm),h2.kept hg (.inr (Zg h2 hp (by intro cur;simp)).symm),h3.kept hg (.inr (Zg h3 hp (by intro cur;simp)).symm),
  fun e he=>(h4 e he).kept hg (.inr (Zg (h4 e he) hp (by intro cur;simp)).symm),h5,h6⟩
theorem Z0q.shape {base:Nat}{W:World}{v:Value}{T:Z8O}(h:Z0q base W v T): ∃(ha:zA) (hn hc:Nat) (ea:zA) (en ec:Nat) (ca:zA) (cn cc:Nat),v = .agg #[.slice ha hn hc,.slice ea en ec,.slice ca cn cc]:=by
 obtain⟨ha,hn,hc,ea,en,ec,ca,cn,cc,hs,es,rfl,_⟩:=h;exact⟨ha,hn,hc,ea,en,ec,ca,cn,cc,rfl⟩
def Zcm (w:World)(l:List NoteV)(day:Int)(e:Ending)(W:World):Prop := ∃v,e = .returned v/\Z0q w.heap.size W v ((Z1d day l).hs,(Z1d day l).es,csN day l)
theorem Z6H (l:List NoteV)(a:zA)(nn nc:Nat)(day:Int)(w:World)(hr:JM w a nn nc l)(hk : ∀x∈l,1<=x.kind/\x.kind<=6)(hst : ∀x∈l,x.strokes.length<=1000000)(hlen:nn<=1000):
  Calls zq 215 #[.slice a nn nc,.int .i64 day] w fun e w'=>Zcm w l day e w'/\Below w.heap.size w w':=by
 have I3:=zH (show ∀(x y z:Value),(zq.info? 77).map (·.size)=some (#[x,y,z]:Xz).size from fun x y z=>by kernel_rfl);have J19:(zq.info? 47).map (·.size)=some 19:=by kernel_rfl
 have J21:(zq.info? 210).map (·.size)=some 21:=by kernel_rfl
 have hn63:nn<=9223372036854775807:=by omega
 obtain⟨xs,hxs,hrl⟩:=hr.choose;have RL:=zH hrl;have HXS:=zH hxs;have LNX:=zH hrl.1;have HLN:=zH hr.1;have RN:=zH hr;have HNN:=zH hlen;have HK:=zH hk;clear hn63;have RE:=zH (fun W (hb:Below w.heap.size w W)=>Z6I l a nn nc W (hr.below hb) hk hst hlen);clear hr hk hst hxs hrl;have B0:=zH ((zB w (.cells #[.slice none 0 0,.slice none 0 0,.slice none 0 0] 77)).alloc (by simp) (.cells #[.slice none 0 0,.slice none 0 0,.slice none 0 0] 77));have X0:=zH (Z8 _ (.cells #[.slice none 0 0,.slice none 0 0,.slice none 0 0] 77) _ _ (Z9 w (.cells #[.slice none 0 0,.slice none 0 0,.slice none 0 0] 77)));have Y0:=zH (Zm (w.alloc (.cells #[.slice none 0 0,.slice none 0 0,.slice none 0 0] 77)) (.cells #[.slice none 0 0,.slice none 0 0,.slice none 0 0] 77) (w.heap.size+1) (by simp));go_enter Tryz.func215,Tryz.ntmps215;go_upto_region 2 with fail;obtain⟨p4,hp4⟩:=zX (w.heap.size);obtain⟨p5,hp5⟩:=zX (w.heap.size+1);rw[hp4.out]at X0;rw[hp5.out]at Y0;rw[hp5.out,hp4.out];generalize (w.alloc (.cells #[.slice none 0 0,.slice none 0 0,.slice none 0 0] 77)).alloc (.cells #[.slice none 0 0,.slice none 0 0,.slice none 0 0] 77)=W0 at *;have LT:Hid (w.heap.size<=p4/\p4 < p5/\p5 < W0.heap.size):=zH (by have h1:=hp4.out;have h2:=hp5.out;have h3:=Zq Y0.out;omega);go_wp2_with fail;refine(RE.out W0 B0.out).mono ?_;rintro e V ⟨⟨oa,on,oc,es,rfl,hev⟩,b1⟩;have SV:=zH hev;have X1:=zH (Z7 b1 X0.out);have Y1:=zH (Z7 b1 Y0.out);have B1:=zH (B0.out.trans (b1.mono B0.out.size));have PLT:Hid (p4 < V.heap.size/\p5 < V.heap.size):=zH ⟨Zq X1.out,Zq Y1.out⟩;have LENE:Hid (es.length=on/\on<=1000):=zH (by have h1:=SV.out.len;rw[HLN.out]at h1;have:=HNN.out;omega);have hon:on<=9223372036854775807:=by have:=LENE.out;omega
 have REGL:=zH (Z6K (day:=day) (SV.out.ev.trans (Zbd l)) SV.out.nm);have EROW:Hid (∀W,Za (fun k=>k=p5) V W->ZX W 21 oa on oc (ZU es) /\ ∀e∈es,e.x.ok W):=zH (fun W hs=>
  ⟨ZX.of_own (Zi SV.out.own hs (fun b hb e=>Zg SV.out.own Y1.out (by intro cur;simp) (by rw[hb,e]))),fun x hx=>ZX.of_own (Zi (SV.out.str x hx) hs (fun b hb e=>Zg (SV.out.str x hx) Y1.out (by intro cur;simp) (by rw[hb,e])))⟩)
 have BELW:Hid (∀W,Za (fun k=>k=p5) V W->Below w.heap.size w W):=zH (fun W hs=>hs.below B1.out B1.out.size (fun k hk=>by have:=LT.out;omega));clear hev b1 X0 Y0 B0;have ST:Hid (Z25 V V p5 none 0 none 0 (Yj day (es.take 0)) none 0):=zH ⟨⟨Y1.out,World.ownsRow_nil _ _ _ _,World.ownsRow_nil _ _ _ _,World.ownsRow_nil _ _ _ _,.inl rfl⟩,Za.refl _ _,World.ownsRow_nil _ _ _ _⟩;go_wp2_with fail;go_loopw [6,8] (fun bv i wr=>∃(k:Nat) (ba:zA) (bc:Nat) (ha:zA) (hc:Nat) (ea:zA) (ec:Nat),bv = .slice ba (Yj day (es.take k)).cs.length bc/\i = .int .i64 (k:Int)/\k<=on/\Hid (Z25 V wr p5 ha hc ea ec (Yj day (es.take k)) ba bc)) (fun _ i _=>on - (intOf i).toNat)
 case atStart=>exact⟨0,none,0,none,0,none,0,rfl,rfl,Nat.zero_le _,ST⟩
 case round=>
  clear ST;obtain⟨k,ba,bc,ha,hc,ea,ec,rfl,rfl,hk,ST⟩:=hrel;by_cases hlt:k < on
  ·have t0:decide ((k:Int) < (on:Int))=true:=by simp;omega
   obtain⟨x,Hx⟩ : ∃x,es[k]? = some x:=⟨_,List.getElem?_eq_getElem (by rw[LENE.out.1];exact hlt)⟩;have NXT:Hid (Yj day (es.take (k+1))=Ye day (Yj day (es.take k)) x):=zH (by rw[Y8 Hx,Z3S]);have HB8:=Z6L day (es.take k) ⟨[],[],[]⟩ (by simp);have HBL:=Z2i day (es.take k);rw[List.length_take]at HBL;have RLEN:Hid ((Yj day (es.take k)).hs.length<=8/\(Yj day (es.take k)).hs.length<=1000/\(Yj day (es.take k)).es.length<=1000/\(Yj day (es.take k)).cs.length<=1000):=zH (by have:=LENE.out;refine⟨HB8,?_,?_,?_⟩ <;> omega);clear HB8 HBL;generalize Yj day (es.take k)=R at *;obtain⟨hs,rs,cs⟩:=R;simp only at RLEN ⊢;obtain⟨be,eo,rfl,hat⟩:=(Vk.of_rd (EROW.out V (Za.refl _ _)).1).at (by omega);obtain⟨o,ho⟩:=zX (eo+k * 21);have HXA:Hid (∀W,Za (fun k=>k=p5) V W->W.rangeAt be o x.cells):=zH (fun W hs=>by
    obtain⟨be',eo',e,hat'⟩:=(Vk.of_rd (EROW.out W hs).1).at (by omega);cases e;have:=hat' k x Hx;rwa [ho.out]at this)
   have HIX:=zH (fun W=>ZN (W:=W) (c:=oc) (b:=be) Tryz.underlying74 J21 hlt ho.out);have hk64:(k:Int)+1<=9223372036854775807:=by omega
   have HXN:=zH (Z5w (HXA.out wr ST.out.same));clear hat Hx;have hix:=HIX.out;go_upto_region 8 with (first
    |(refine wpList_load_mid rfl 47 _ rfl be (o+2) rfl (x.x.n.cells x.x.sa x.x.sc) _ HXN.out Tryz.underlying47 rfl (Qh x.x.n x.x.sa x.x.sc) ?_)
    |(refine zP _ _ (Z5 x.x.n x.x.sa x.x.sc) ?_)
    | fail)
   clear hix t0 HXN;try simp only[Act.put,VZ,VY,VX]
   have hbt:Below wr.heap.size wr (wr.alloc (.cells (Z5 x.x.n x.x.sa x.x.sc) 47)):=zB _ _;have P9:=zH (Z9 wr (.cells (Z5 x.x.n x.x.sa x.x.sc) 47));replace ST:=zH (ST.out.below hbt);clear hbt;obtain⟨p9,hp9⟩:=zX (wr.heap.size);rw[hp9.out]at P9 ⊢;generalize wr.alloc (.cells (Z5 x.x.n x.x.sa x.x.sc) 47)=W2 at *;have d3:=Z6 P9.out 3 (.int .i64 x.x.n.day) rfl;have d4:=Z6 P9.out 4 (.int .i64 x.x.n.kind) rfl;have d16:=Z6 P9.out 16 (.int .i64 x.x.n.refH) rfl;have d17:=Z6 P9.out 17 (.int .i64 x.x.n.refN) rfl;by_cases hd:day < x.x.n.day
   ·have hd0:decide (day < x.x.n.day)=true:=decide_eq_true hd;have N2:Hid (Yj day (es.take (k+1))=⟨hs,rs,cs⟩):=zH (by rw[NXT.out];unfold Ye;rw[if_neg (by omega)]);clear hd;go_wp2;go_roundw
    case rel=>exact⟨k+1,ba,bc,ha,hc,ea,ec,by rw[N2.out],by go_num,by omega,by rw[N2.out];exact ST⟩
    case measure=>simp[intOf];omega
   have hd0:decide (day < x.x.n.day)=false:=decide_eq_false hd;have ND:Hid (Yj day (es.take (k+1))=if Qs ⟨hs,rs,cs⟩ x=true then V7 ⟨hs,rs,cs⟩ x else ⟨hs,rs,cs ++ [x.nm]⟩):=zH (by rw[NXT.out];unfold Ye;rw[if_pos (by omega)]);clear hd;by_cases hk1:x.x.n.kind=1
   ·have k1:(x.x.n.kind==1)=true:=by simp[hk1]
    have r0:=Z6 ST.out.reg.blk 0 (.slice ha hs.length hc) rfl;by_cases hl8:hs.length < 8
    ·have k8:decide ((hs.length:Int) < 8)=true:=by simp;omega
     have N2:Hid (Yj day (es.take (k+1))=⟨hs ++ [x],rs,cs⟩):=zH (by
      have he:Qs ⟨hs,rs,cs⟩ x=true:=by unfold Qs;rw[if_pos hk1];simp;omega
      rw[ND.out,if_pos he];unfold V7;rw[if_pos he,if_pos hk1])
     clear hk1 hl8;go_upto_region 11 with fail;clear d3 d4 d16 d17 hd0 k1 r0 k8;try simp only[Act.put,VZ,VY,VX]
     refine zD (fun w'=>Za (fun k=>k=p5) V w') (show Za (fun k=>k=p5) V W2.drew from ST.out.same.trans (Za.of_below (Below.refl _ _).drew)) fun hh=>?_;replace ST:=zH (ST.out.below ((zd W2)));generalize W2.drew=u0 at *;refine zw 0 rfl p5 0 ?_;refine zW 2 rfl (.slice (some ⟨be,eo,none⟩) on oc) ?_;refine zW 3 rfl (.int .i64 (k:Int)) ?_;refine zS 4 rfl (.pointer (some ⟨be,o,none⟩)) (fun W h=>by have hi:=HIX.out W;go_simp) ?_;refine zT 5 rfl (.agg x.cells.toArray) (VM (by kernel_rfl) 210 _ rfl be o rfl x.cells _ (fun W h=>HXA.out W h) Tryz.underlying210 rfl (Z80 x)) ?_;refine zM [1,6] rfl (fun K hK=>?_) ?_
     focus
      have hcl:=Z6 ST.out.reg.blk 0 (.slice ha hs.length hc) rfl;go_simp;clear hcl;refine zK hK ST.out.same fun hh=>?_;clear hK K;refine zR 6 rfl fun K hK=>?_;rw[if_pos (by kernel_rfl)];refine YH _ rfl x rfl ?_;have b9:=zB u0 (.cells (J0 x) 210);have CR:=zH (Vp u0 x);replace ST:=zH (ST.out.below b9);clear b9;generalize u0.alloc (.cells (J0 x) 210)=u1 at *
     rotate_left
     focus
      refine zn fun K hK=>?_;rw[if_pos (by kernel_rfl)];refine YH _ rfl x rfl ?_;have b9:=zB u0 (.cells (J0 x) 210);have CR:=zH (Vp u0 x);replace ST:=zH (ST.out.below b9);clear b9;generalize u0.alloc (.cells (J0 x) 210)=u1 at *;refine zK hK ST.out.same fun hh=>?_;clear hK K;refine zR 1 rfl fun K hK=>?_;have hcl:=Z6 ST.out.reg.blk 0 (.slice ha hs.length hc) rfl;go_simp;clear hcl
     all_goals
      refine zK hK ST.out.same fun hh=>?_;clear hK K;refine zR 7 rfl fun K hK=>?_;obtain⟨a',c',u9,hrun,ho,hg,hl⟩:=XW _ V.heap.size ha hs.length hc _ ST.out.reg.hown _ 1 1 _ CR.out (VB x) (by have:=RLEN.out;omega) ST.out.same.size;have HN:=zH (ST.out.addH ho hg hl);have CL3:=zH (Zc hg ST.out.reg.blk (Zg ST.out.reg.hown ST.out.reg.blk (by intro cur;simp)));have SM:=zH (ST.out.same.reg (Za.of_grown hg (fun k e=>.inr (ST.out.reg.hown.lt k e).1)));clear ho hg hl;rw[if_pos (by kernel_rfl)];refine ZJ _ _ _ rfl _ _ _ rfl rfl hrun ?_;clear hrun;refine zK hK SM.out fun hh=>?_;clear hK K;refine zw 8 rfl p5 0 ?_;refine zR 9 rfl fun K hK=>?_;have hcl:=Z6 CL3.out 0 (.slice ha hs.length hc) rfl;have hfz:=Ze CL3.out 0;go_simp;clear hcl hfz;refine zK hK HN.out.same fun hh=>?_;clear hK K;refine zE ?_;clear CL3 SM ST;generalize u9.setCell ⟨p5,0,none⟩ (.slice a' (hs.length+1) c')=u10 at *;go_wp2;go_roundw
      case rel=>exact⟨k+1,ba,bc,a',c',ea,ec,by rw[N2.out],by go_num,by omega,by rw[N2.out];exact HN⟩
      case measure=>simp[intOf];omega
    ·have k8:decide ((hs.length:Int) < 8)=false:=by simp;omega
     have N2:Hid (Yj day (es.take (k+1))=⟨hs,rs,cs ++ [x.nm]⟩):=zH (by
      have h8:=RLEN.out.1;have he:Qs ⟨hs,rs,cs⟩ x=false:=by unfold Qs;rw[if_pos hk1];simp;omega
      rw[ND.out,if_neg (by rw[he];decide)])
     clear hk1 hl8;go_upto_region 14 with fail;clear d3 d4 d16 d17 hd0 k1 r0 k8;have r9:=HXA.out W2 ST.out.same;have q0:=r9 0 (.int .i64 x.nm.1) rfl;have q1:=r9 1 (.int .i64 x.nm.2) rfl;simp only[Nat.add_zero]at q0;have hix:=HIX.out W2;have bn:=zB W2 (.cells #[.int .i64 x.nm.1,.int .i64 x.nm.2] 45);obtain⟨a',c',u9,hrun,ho,hg⟩:=YZ (W2.alloc (.cells #[.int .i64 x.nm.1,.int .i64 x.nm.2] 45)) V.heap.size ba cs.length bc _ (Zb ST.out.bad bn) _ 1 1 _ (Jo W2 _ _) (fun u hu=>by simp only[List.mem_cons,List.not_mem_nil,or_false]at hu;rcases hu with rfl | rfl <;> rfl) (by have:=RLEN.out;omega) (Nat.le_trans ST.out.same.size bn.size);have HN:=zH ((ST.out.below bn).addB (a:=x.nm) ho hg);clear bn ho hg r9;go_wp2_with (first
      |(refine Zu rfl _ _ _ rfl _ _ _ rfl rfl hrun ?_)
      | fail)
     go_roundw
     case rel=>exact⟨k+1,a',c',ha,hc,ea,ec,by rw[N2.out];simp,by go_num,by omega,by rw[N2.out];exact HN⟩
     case measure=>simp[intOf];omega
   have k1:(x.x.n.kind==1)=false:=by simp[hk1]
   by_cases hk2:x.x.n.kind=2
   ·have k2:(x.x.n.kind==2)=true:=by simp[hk2]
    have r0:=Z6 ST.out.reg.blk 0 (.slice ha hs.length hc) rfl;have RHC:=zH (Z9s hs ha hs.length hc x.x.n.refH x.x.n.refN W2 (Vk.of_rd (ZX.of_own ST.out.reg.hown)));obtain⟨z,hz⟩:=zX (Ui hs (QY x.x.n.refH x.x.n.refN));rw[hz.out]at RHC;have EB:Hid (Qs ⟨hs,rs,cs⟩ x = !decide (z < 0)):=zH (by unfold Qs;rw[if_neg hk1,if_pos hk2,<-hz.out,decide_not]);have HK1:=zH hk1;clear hk1 hk2;by_cases hz0:z < 0
    ·have z0:decide (z < 0)=true:=decide_eq_true hz0;have N2:Hid (Yj day (es.take (k+1))=⟨hs,rs,cs ++ [x.nm]⟩):=zH (by
      have he:=EB.out;rw[z0]at he;rw[ND.out,if_neg (by rw[he];decide)])
     clear hz0;go_upto_region 14 with (first
      |(go_at_call 239
        refine RHC.out.mono ?_;rintro e W3 ⟨rfl,b3⟩;replace ST:=zH (ST.out.below b3);clear b3 r0;dsimp only)
      | fail)
     clear d3 d4 d16 d17 hd0 k1 k2 z0;have r9:=HXA.out W3 ST.out.same;have q0:=r9 0 (.int .i64 x.nm.1) rfl;have q1:=r9 1 (.int .i64 x.nm.2) rfl;simp only[Nat.add_zero]at q0;have hix:=HIX.out W3;have bn:=zB W3 (.cells #[.int .i64 x.nm.1,.int .i64 x.nm.2] 45);obtain⟨a',c',u9,hrun,ho,hg⟩:=YZ (W3.alloc (.cells #[.int .i64 x.nm.1,.int .i64 x.nm.2] 45)) V.heap.size ba cs.length bc _ (Zb ST.out.bad bn) _ 1 1 _ (Jo W3 _ _) (fun u hu=>by simp only[List.mem_cons,List.not_mem_nil,or_false]at hu;rcases hu with rfl | rfl <;> rfl) (by have:=RLEN.out;omega) (Nat.le_trans ST.out.same.size bn.size);have HN:=zH ((ST.out.below bn).addB (a:=x.nm) ho hg);clear bn ho hg r9;go_wp2_with (first
      |(refine Zu rfl _ _ _ rfl _ _ _ rfl rfl hrun ?_)
      | fail)
     go_roundw
     case rel=>exact⟨k+1,a',c',ha,hc,ea,ec,by rw[N2.out];simp,by go_num,by omega,by rw[N2.out];exact HN⟩
     case measure=>simp[intOf];omega
    ·have z0:decide (z < 0)=false:=decide_eq_false hz0;have N2:Hid (Yj day (es.take (k+1))=⟨hs,rs ++ [x],cs⟩):=zH (by
      have he:=EB.out;rw[z0]at he;have he2:Qs ⟨hs,rs,cs⟩ x=true:=he;rw[ND.out,if_pos he2];unfold V7;rw[if_pos he2,if_neg HK1.out])
     clear hz0;go_upto_region 9 with (first
      |(go_at_call 239
        refine RHC.out.mono ?_;rintro e W3 ⟨rfl,b3⟩;replace ST:=zH (ST.out.below b3);clear b3 r0;dsimp only)
      | fail)
     clear d3 d4 d16 d17 hd0 k1 k2 z0;try simp only[Act.put,VZ,VY,VX]
     refine zD (fun w'=>Za (fun k=>k=p5) V w') (show Za (fun k=>k=p5) V W3.drew from ST.out.same.trans (Za.of_below (Below.refl _ _).drew)) fun hh=>?_;replace ST:=zH (ST.out.below ((zd W3)));generalize W3.drew=u0 at *;refine zw 0 rfl p5 1 ?_;refine zW 2 rfl (.slice (some ⟨be,eo,none⟩) on oc) ?_;refine zW 3 rfl (.int .i64 (k:Int)) ?_;refine zS 4 rfl (.pointer (some ⟨be,o,none⟩)) (fun W h=>by have hi:=HIX.out W;go_simp) ?_;refine zT 5 rfl (.agg x.cells.toArray) (VM (by kernel_rfl) 210 _ rfl be o rfl x.cells _ (fun W h=>HXA.out W h) Tryz.underlying210 rfl (Z80 x)) ?_;refine zM [1,6] rfl (fun K hK=>?_) ?_
     focus
      have hcl:=Z6 ST.out.reg.blk 1 (.slice ea rs.length ec) rfl;go_simp;clear hcl;refine zK hK ST.out.same fun hh=>?_;clear hK K;refine zR 6 rfl fun K hK=>?_;rw[if_pos (by kernel_rfl)];refine YH _ rfl x rfl ?_;have b9:=zB u0 (.cells (J0 x) 210);have CR:=zH (Vp u0 x);replace ST:=zH (ST.out.below b9);clear b9;generalize u0.alloc (.cells (J0 x) 210)=u1 at *
     rotate_left
     focus
      refine zn fun K hK=>?_;rw[if_pos (by kernel_rfl)];refine YH _ rfl x rfl ?_;have b9:=zB u0 (.cells (J0 x) 210);have CR:=zH (Vp u0 x);replace ST:=zH (ST.out.below b9);clear b9;generalize u0.alloc (.cells (J0 x) 210)=u1 at *;refine zK hK ST.out.same fun hh=>?_;clear hK K;refine zR 1 rfl fun K hK=>?_;have hcl:=Z6 ST.out.reg.blk 1 (.slice ea rs.length ec) rfl;go_simp;clear hcl
     all_goals
      refine zK hK ST.out.same fun hh=>?_;clear hK K;refine zR 7 rfl fun K hK=>?_;obtain⟨a',c',u9,hrun,ho,hg,hl⟩:=XW _ V.heap.size ea rs.length ec _ ST.out.reg.eown _ 1 1 _ CR.out (VB x) (by have:=RLEN.out;omega) ST.out.same.size;have HN:=zH (ST.out.addE ho hg hl);have CL3:=zH (Zc hg ST.out.reg.blk (Zg ST.out.reg.eown ST.out.reg.blk (by intro cur;simp)));have SM:=zH (ST.out.same.reg (Za.of_grown hg (fun k e=>.inr (ST.out.reg.eown.lt k e).1)));clear ho hg hl;rw[if_pos (by kernel_rfl)];refine ZJ _ _ _ rfl _ _ _ rfl rfl hrun ?_;clear hrun;refine zK hK SM.out fun hh=>?_;clear hK K;refine zw 8 rfl p5 1 ?_;refine zR 9 rfl fun K hK=>?_;have hcl:=Z6 CL3.out 1 (.slice ea rs.length ec) rfl;have hfz:=Ze CL3.out 1;go_simp;clear hcl hfz;refine zK hK HN.out.same fun hh=>?_;clear hK K;refine zE ?_;clear CL3 SM ST;generalize u9.setCell ⟨p5,1,none⟩ (.slice a' (rs.length+1) c')=u10 at *;go_wp2;go_roundw
      case rel=>exact⟨k+1,ba,bc,ha,hc,a',c',by rw[N2.out],by go_num,by omega,by rw[N2.out];exact HN⟩
      case measure=>simp[intOf];omega
   have k2:(x.x.n.kind==2)=false:=by simp[hk2]
   have N2:Hid (Yj day (es.take (k+1))=⟨hs,rs ++ [x],cs⟩):=zH (by
    have he:Qs ⟨hs,rs,cs⟩ x=true:=by unfold Qs;rw[if_neg hk1,if_neg hk2]
    rw[ND.out,if_pos he];unfold V7;rw[if_pos he,if_neg hk1])
   clear hk1 hk2;go_upto_region 9 with fail;clear d3 d4 d16 d17 hd0 k1 k2;try simp only[Act.put,VZ,VY,VX]
   refine zD (fun w'=>Za (fun k=>k=p5) V w') (show Za (fun k=>k=p5) V W2.drew from ST.out.same.trans (Za.of_below (Below.refl _ _).drew)) fun hh=>?_;replace ST:=zH (ST.out.below ((zd W2)));generalize W2.drew=u0 at *;refine zw 0 rfl p5 1 ?_;refine zW 2 rfl (.slice (some ⟨be,eo,none⟩) on oc) ?_;refine zW 3 rfl (.int .i64 (k:Int)) ?_;refine zS 4 rfl (.pointer (some ⟨be,o,none⟩)) (fun W h=>by have hi:=HIX.out W;go_simp) ?_;refine zT 5 rfl (.agg x.cells.toArray) (VM (by kernel_rfl) 210 _ rfl be o rfl x.cells _ (fun W h=>HXA.out W h) Tryz.underlying210 rfl (Z80 x)) ?_;refine zM [1,6] rfl (fun K hK=>?_) ?_
   focus
    have hcl:=Z6 ST.out.reg.blk 1 (.slice ea rs.length ec) rfl;go_simp;clear hcl;refine zK hK ST.out.same fun hh=>?_;clear hK K;refine zR 6 rfl fun K hK=>?_;rw[if_pos (by kernel_rfl)];refine YH _ rfl x rfl ?_;have b9:=zB u0 (.cells (J0 x) 210);have CR:=zH (Vp u0 x);replace ST:=zH (ST.out.below b9);clear b9;generalize u0.alloc (.cells (J0 x) 210)=u1 at *
   rotate_left
   focus
    refine zn fun K hK=>?_;rw[if_pos (by kernel_rfl)];refine YH _ rfl x rfl ?_;have b9:=zB u0 (.cells (J0 x) 210);have CR:=zH (Vp u0 x);replace ST:=zH (ST.out.below b9);clear b9;generalize u0.alloc (.cells (J0 x) 210)=u1 at *;refine zK hK ST.out.same fun hh=>?_;clear hK K;refine zR 1 rfl fun K hK=>?_;have hcl:=Z6 ST.out.reg.blk 1 (.slice ea rs.length ec) rfl;go_simp;clear hcl
   all_goals
    refine zK hK ST.out.same fun hh=>?_;clear hK K;refine zR 7 rfl fun K hK=>?_;obtain⟨a',c',u9,hrun,ho,hg,hl⟩:=XW _ V.heap.size ea rs.length ec _ ST.out.reg.eown _ 1 1 _ CR.out (VB x) (by have:=RLEN.out;omega) ST.out.same.size;have HN:=zH (ST.out.addE ho hg hl);have CL3:=zH (Zc hg ST.out.reg.blk (Zg ST.out.reg.eown ST.out.reg.blk (by intro cur;simp)));have SM:=zH (ST.out.same.reg (Za.of_grown hg (fun k e=>.inr (ST.out.reg.eown.lt k e).1)));clear ho hg hl;rw[if_pos (by kernel_rfl)];refine ZJ _ _ _ rfl _ _ _ rfl rfl hrun ?_;clear hrun;refine zK hK SM.out fun hh=>?_;clear hK K;refine zw 8 rfl p5 1 ?_;refine zR 9 rfl fun K hK=>?_;have hcl:=Z6 CL3.out 1 (.slice ea rs.length ec) rfl;have hfz:=Ze CL3.out 1;go_simp;clear hcl hfz;refine zK hK HN.out.same fun hh=>?_;clear hK K;refine zE ?_;clear CL3 SM ST;generalize u9.setCell ⟨p5,1,none⟩ (.slice a' (rs.length+1) c')=u10 at *;go_wp2;go_roundw
    case rel=>exact⟨k+1,ba,bc,ha,hc,a',c',by rw[N2.out],by go_num,by omega,by rw[N2.out];exact HN⟩
    case measure=>simp[intOf];omega
  ·have t0:decide ((k:Int) < (on:Int))=false:=by simp;omega
   obtain rfl:k=on:=by omega
   rw[List.take_of_length_le (by rw[LENE.out.1];exact Nat.le_refl _)]at ST ⊢;have MEMR:Hid (∀e∈(Yj day es).hs ++ (Yj day es).es,e∈es):=zH (fun e he=>Z5f he);have REGC:=zH REGL.out.cs;generalize Yj day es=R at *;obtain⟨hs,rs,cs⟩:=R;simp only at REGC MEMR ⊢;have SV2:=zH ST.out.same;have BADW:Hid (∀W,Za (fun k=>k=p5) wr W->ZX W 2 ba cs.length bc (ZH cs)):=zH (fun W h=>ZX.of_own (Zi ST.out.bad h (fun b hb e=>Zg ST.out.bad ST.out.reg.blk (by intro cur;simp) (by rw[hb,e]))));have BEL2:Hid (∀W,Za (fun k=>k=p5) wr W->Below w.heap.size w W):=zH (fun W h=>BELW.out W (SV2.out.trans h));have RG:=zH ST.out.reg;have S2:Hid (Z7P wr wr p5 (.slice ha hs.length hc) (.slice ea rs.length ec) none 0 0 (((l.take 0).filter (Vi day l)).map Zk)):=zH ⟨ST.out.reg.blk,Za.refl _ _,World.ownsRow_nil _ _ _ _⟩;clear ST hk;generalize wr=V2 at *;go_wp2_with fail;clear t0 hlt;go_loopw [10] (fun i wr=>∃(k:Nat) (ca:zA) (cn cc:Nat),i = .int .i64 (k:Int)/\k<=nn/\cn<=k/\Hid (Z7P V2 wr p5 (.slice ha hs.length hc) (.slice ea rs.length ec) ca cn cc (((l.take k).filter (Vi day l)).map Zk))) (fun i _=>nn - (intOf i).toNat)
   case atStart=>exact⟨0,none,0,0,rfl,Nat.zero_le _,Nat.le_refl _,S2⟩
   case round=>
    clear S2;obtain⟨k,ca,cn,cc,rfl,hk,hcn,ST⟩:=hrel;by_cases hlt:k < nn
    ·have t0:decide ((k:Int) < (nn:Int))=true:=by simp;omega
     obtain⟨x,Hx⟩ : ∃x,xs[k]? = some x:=⟨_,List.getElem?_eq_getElem (by rw[LNX.out];exact hlt)⟩;have HLX:=zH (show l[k]? = some x.n by rw[<-HXS.out,List.getElem?_map,Hx];rfl);have NXT:=zH (Za7 day l HLX.out);have XK:=zH (HK.out x.n (List.mem_of_getElem? HLX.out));obtain⟨b,off,rfl,hat⟩:=RL.out.at (by omega);obtain⟨o,ho⟩:=zX (off+k * 19);have HXA:=zH (show ∀W,Below w.heap.size w W->W.rangeAt b o (x.n.cells x.sa x.sc)from fun W hb=>by rw[<-ho.out];exact Zs (hat k x Hx).1 hb);have HIX:=zH (fun W=>ZN (W:=W) (c:=nc) (b:=b) Tryz.underlying24 J19 hlt ho.out);have HK64:Hid ((k:Int)+1<=9223372036854775807):=zH (by omega);have HX:=zH (HXA.out wr (BEL2.out wr ST.out.same));clear hat Hx;have hix:=HIX.out;go_wp2_with (refine wpList_load_mid rfl 47 _ rfl b o rfl (x.n.cells x.sa x.sc) _ HX.out Tryz.underlying47 rfl (Qh x.n x.sa x.sc) ?_);refine(ZA x.n x.sa x.sc wr).mono ?_;rintro e W3 ⟨rfl,b3⟩;replace ST:=zH (ST.out.below b3);clear b3 HX t0;go_wp2_with fail;refine(ZaG cs ba cs.length bc x.n.house x.n.num W3 (BADW.out W3 ST.out.same)).mono ?_;rintro e W4 ⟨rfl,b4⟩;replace ST:=zH (ST.out.below b4);clear b4;have CF:Hid (Vi day l x.n=(decide ((x.n.house,x.n.num)∈cs) || Up l x.n)):=zH (by unfold Vi;rw[<-REGC.out];rfl);cases hh:decide ((x.n.house,x.n.num)∈cs)
     ·rw[hh,Bool.false_or]at CF;clear hh;have HX:=zH (HXA.out W4 (BEL2.out W4 ST.out.same));go_wp2_with (refine UF (by kernel_rfl) 47 _ rfl b o rfl (x.n.cells x.sa x.sc) _ HX.out Tryz.underlying47 rfl (Qh x.n x.sa x.sc) ?_);refine(Z9r l (some ⟨b,off,none⟩) nn nc x.n x.sa x.sc W4 (RN.out.below (BEL2.out W4 ST.out.same)) XK.out).mono ?_;rintro e W5 ⟨rfl,b5⟩;replace ST:=zH (ST.out.below b5);clear b5 HX;cases hi:Up l x.n
      ·have N2:Hid (((l.take (k+1)).filter (Vi day l)).map Zk=((l.take k).filter (Vi day l)).map Zk):=zH (by rw[NXT.out,if_neg (by rw[CF.out,hi];decide)]);clear hi;have hk64:=HK64.out;go_wp2;go_roundw
       case rel=>exact⟨k+1,ca,cn,cc,by go_num,by omega,by omega,by rw[N2.out];exact ST⟩
       case measure=>simp[intOf];omega
      ·have N2:Hid (((l.take (k+1)).filter (Vi day l)).map Zk=((l.take k).filter (Vi day l)).map Zk ++ [Zk x.n]):=zH (by rw[NXT.out,if_pos (by rw[CF.out,hi])]);clear hi;clear hix;go_upto_region 19 with fail;try simp only[Act.put,VZ,VY,VX]
       refine zD (fun w'=>Za (fun k=>k=p5) V2 w') (show Za (fun k=>k=p5) V2 W5.drew from ST.out.same.trans (Za.of_below (Below.refl _ _).drew)) fun hh=>?_;replace ST:=zH (ST.out.below ((zd W5)));generalize W5.drew=u0 at *;refine zw 0 rfl p5 2 ?_;refine zW 2 rfl (.slice (some ⟨b,off,none⟩) nn nc) ?_;refine zW 3 rfl (.int .i64 (k:Int)) ?_;refine zS 4 rfl (.pointer (some ⟨b,o,none⟩)) (fun W h=>by have hi:=HIX.out W;go_simp) ?_;refine zT 5 rfl (.agg (Z5 x.n x.sa x.sc)) (VM (by kernel_rfl) 47 _ rfl b o rfl (x.n.cells x.sa x.sc) _ (fun W h=>HXA.out W (BEL2.out W h)) Tryz.underlying47 rfl (Qh x.n x.sa x.sc)) ?_;refine zM [1,6] rfl (fun K hK=>?_) ?_
       focus
        have hcl:=Z6 ST.out.blk 2 (.slice ca cn cc) rfl;go_simp;clear hcl;refine zK hK ST.out.same fun hh=>?_;clear hK K;refine zR 6 rfl fun K hK=>?_;go_simp;refine(ZA x.n x.sa x.sc u0).mono ?_;rintro e u1 ⟨rfl,b1⟩;replace ST:=zH (ST.out.below b1);clear b1;refine zK hK ST.out.same fun hh=>?_;clear hK K;refine zR 7 rfl fun K hK=>?_;have bn:=zB u1 (.cells #[.int .i64 x.n.house,.int .i64 x.n.num] 45);replace ST:=zH (ST.out.below bn);have LR:=zH (Jo u1 (.int .i64 x.n.house) (.int .i64 x.n.num));clear bn;go_simp;generalize u1.alloc (.cells #[.int .i64 x.n.house,.int .i64 x.n.num] 45)=u2 at *
       rotate_left
       focus
        refine zn fun K hK=>?_;go_simp;refine(ZA x.n x.sa x.sc u0).mono ?_;rintro e u1 ⟨rfl,b1⟩;replace ST:=zH (ST.out.below b1);clear b1;refine zK hK ST.out.same fun hh=>?_;clear hK K;refine zM [1,7] rfl (fun K hK=>?_) ?_
        ·have hcl:=Z6 ST.out.blk 2 (.slice ca cn cc) rfl;go_simp;clear hcl;refine zK hK ST.out.same fun hh=>?_;clear hK K;refine zR 7 rfl fun K hK=>?_;have bn:=zB u1 (.cells #[.int .i64 x.n.house,.int .i64 x.n.num] 45);replace ST:=zH (ST.out.below bn);have LR:=zH (Jo u1 (.int .i64 x.n.house) (.int .i64 x.n.num));clear bn;go_simp;generalize u1.alloc (.cells #[.int .i64 x.n.house,.int .i64 x.n.num] 45)=u2 at *;refine zK hK ST.out.same fun hh=>?_;clear hK K;refine zR 8 rfl fun K hK=>?_;obtain⟨a',c',u9,hrun,ho,hg⟩:=YZ u2 V2.heap.size ca cn cc _ ST.out.own _ 1 1 _ LR.out (fun u hu=>by simp only[List.mem_cons,List.not_mem_nil,or_false]at hu;rcases hu with rfl | rfl <;> rfl) (by have:=HNN.out;omega) ST.out.same.size;have HN:=zH (ST.out.add (a:=Zk x.n) ho hg);have CL3:=zH (Zc hg ST.out.blk (Zg ST.out.own ST.out.blk (by intro cur;simp)));have SM:=zH (ST.out.same.reg (Za.of_grown hg (fun k e=>.inr (ST.out.own.lt k e).1)));clear ho hg;rw[if_pos (by kernel_rfl)];refine ZJ _ _ _ rfl _ _ _ rfl rfl hrun ?_;clear hrun;refine zK hK SM.out fun hh=>?_;clear hK K;refine zw 9 rfl p5 2 ?_;refine zR 10 rfl fun K hK=>?_;have hcl:=Z6 CL3.out 2 (.slice ca cn cc) rfl;have hfz:=Ze CL3.out 2;go_simp;clear hcl hfz;refine zK hK HN.out.same fun hh=>?_;clear hK K;refine zE ?_;clear CL3 SM ST;generalize u9.setCell ⟨p5,2,none⟩ (.slice a' (cn+1) c')=u10 at *;have hk64:=HK64.out;go_wp2;go_roundw
         case rel=>exact⟨k+1,a',cn+1,c',by go_num,by omega,by omega,by rw[N2.out];exact HN⟩
         case measure=>simp[intOf];omega
        refine zn fun K hK=>?_;have bn:=zB u1 (.cells #[.int .i64 x.n.house,.int .i64 x.n.num] 45);replace ST:=zH (ST.out.below bn);have LR:=zH (Jo u1 (.int .i64 x.n.house) (.int .i64 x.n.num));clear bn;go_simp;generalize u1.alloc (.cells #[.int .i64 x.n.house,.int .i64 x.n.num] 45)=u2 at *;refine zK hK ST.out.same fun hh=>?_;clear hK K;refine zR 1 rfl fun K hK=>?_;have hcl:=Z6 ST.out.blk 2 (.slice ca cn cc) rfl;go_simp;clear hcl
       all_goals
        refine zK hK ST.out.same fun hh=>?_;clear hK K;refine zR 8 rfl fun K hK=>?_;obtain⟨a',c',u9,hrun,ho,hg⟩:=YZ u2 V2.heap.size ca cn cc _ ST.out.own _ 1 1 _ LR.out (fun u hu=>by simp only[List.mem_cons,List.not_mem_nil,or_false]at hu;rcases hu with rfl | rfl <;> rfl) (by have:=HNN.out;omega) ST.out.same.size;have HN:=zH (ST.out.add (a:=Zk x.n) ho hg);have CL3:=zH (Zc hg ST.out.blk (Zg ST.out.own ST.out.blk (by intro cur;simp)));have SM:=zH (ST.out.same.reg (Za.of_grown hg (fun k e=>.inr (ST.out.own.lt k e).1)));clear ho hg;rw[if_pos (by kernel_rfl)];refine ZJ _ _ _ rfl _ _ _ rfl rfl hrun ?_;clear hrun;refine zK hK SM.out fun hh=>?_;clear hK K;refine zw 9 rfl p5 2 ?_;refine zR 10 rfl fun K hK=>?_;have hcl:=Z6 CL3.out 2 (.slice ca cn cc) rfl;have hfz:=Ze CL3.out 2;go_simp;clear hcl hfz;refine zK hK HN.out.same fun hh=>?_;clear hK K;refine zE ?_;clear CL3 SM ST;generalize u9.setCell ⟨p5,2,none⟩ (.slice a' (cn+1) c')=u10 at *;have hk64:=HK64.out;go_wp2;go_roundw
        case rel=>exact⟨k+1,a',cn+1,c',by go_num,by omega,by omega,by rw[N2.out];exact HN⟩
        case measure=>simp[intOf];omega
     ·rw[hh,Bool.true_or]at CF;clear hh;have N2:Hid (((l.take (k+1)).filter (Vi day l)).map Zk=((l.take k).filter (Vi day l)).map Zk ++ [Zk x.n]):=zH (by rw[NXT.out,if_pos CF.out]);clear hix;go_upto_region 19 with fail;try simp only[Act.put,VZ,VY,VX]
      refine zD (fun w'=>Za (fun k=>k=p5) V2 w') (show Za (fun k=>k=p5) V2 W4.drew from ST.out.same.trans (Za.of_below (Below.refl _ _).drew)) fun hh=>?_;replace ST:=zH (ST.out.below ((zd W4)));generalize W4.drew=u0 at *;refine zw 0 rfl p5 2 ?_;refine zW 2 rfl (.slice (some ⟨b,off,none⟩) nn nc) ?_;refine zW 3 rfl (.int .i64 (k:Int)) ?_;refine zS 4 rfl (.pointer (some ⟨b,o,none⟩)) (fun W h=>by have hi:=HIX.out W;go_simp) ?_;refine zT 5 rfl (.agg (Z5 x.n x.sa x.sc)) (VM (by kernel_rfl) 47 _ rfl b o rfl (x.n.cells x.sa x.sc) _ (fun W h=>HXA.out W (BEL2.out W h)) Tryz.underlying47 rfl (Qh x.n x.sa x.sc)) ?_;refine zM [1,6] rfl (fun K hK=>?_) ?_
      focus
       have hcl:=Z6 ST.out.blk 2 (.slice ca cn cc) rfl;go_simp;clear hcl;refine zK hK ST.out.same fun hh=>?_;clear hK K;refine zR 6 rfl fun K hK=>?_;go_simp;refine(ZA x.n x.sa x.sc u0).mono ?_;rintro e u1 ⟨rfl,b1⟩;replace ST:=zH (ST.out.below b1);clear b1;refine zK hK ST.out.same fun hh=>?_;clear hK K;refine zR 7 rfl fun K hK=>?_;have bn:=zB u1 (.cells #[.int .i64 x.n.house,.int .i64 x.n.num] 45);replace ST:=zH (ST.out.below bn);have LR:=zH (Jo u1 (.int .i64 x.n.house) (.int .i64 x.n.num));clear bn;go_simp;generalize u1.alloc (.cells #[.int .i64 x.n.house,.int .i64 x.n.num] 45)=u2 at *
      rotate_left
      focus
       refine zn fun K hK=>?_;go_simp;refine(ZA x.n x.sa x.sc u0).mono ?_;rintro e u1 ⟨rfl,b1⟩;replace ST:=zH (ST.out.below b1);clear b1;refine zK hK ST.out.same fun hh=>?_;clear hK K;refine zM [1,7] rfl (fun K hK=>?_) ?_
       ·have hcl:=Z6 ST.out.blk 2 (.slice ca cn cc) rfl;go_simp;clear hcl;refine zK hK ST.out.same fun hh=>?_;clear hK K;refine zR 7 rfl fun K hK=>?_;have bn:=zB u1 (.cells #[.int .i64 x.n.house,.int .i64 x.n.num] 45);replace ST:=zH (ST.out.below bn);have LR:=zH (Jo u1 (.int .i64 x.n.house) (.int .i64 x.n.num));clear bn;go_simp;generalize u1.alloc (.cells #[.int .i64 x.n.house,.int .i64 x.n.num] 45)=u2 at *;refine zK hK ST.out.same fun hh=>?_;clear hK K;refine zR 8 rfl fun K hK=>?_;obtain⟨a',c',u9,hrun,ho,hg⟩:=YZ u2 V2.heap.size ca cn cc _ ST.out.own _ 1 1 _ LR.out (fun u hu=>by simp only[List.mem_cons,List.not_mem_nil,or_false]at hu;rcases hu with rfl | rfl <;> rfl) (by have:=HNN.out;omega) ST.out.same.size;have HN:=zH (ST.out.add (a:=Zk x.n) ho hg);have CL3:=zH (Zc hg ST.out.blk (Zg ST.out.own ST.out.blk (by intro cur;simp)));have SM:=zH (ST.out.same.reg (Za.of_grown hg (fun k e=>.inr (ST.out.own.lt k e).1)));clear ho hg;rw[if_pos (by kernel_rfl)];refine ZJ _ _ _ rfl _ _ _ rfl rfl hrun ?_;clear hrun;refine zK hK SM.out fun hh=>?_;clear hK K;refine zw 9 rfl p5 2 ?_;refine zR 10 rfl fun K hK=>?_;have hcl:=Z6 CL3.out 2 (.slice ca cn cc) rfl;have hfz:=Ze CL3.out 2;go_simp;clear hcl hfz;refine zK hK HN.out.same fun hh=>?_;clear hK K;refine zE ?_;clear CL3 SM ST;generalize u9.setCell ⟨p5,2,none⟩ (.slice a' (cn+1) c')=u10 at *;have hk64:=HK64.out;go_wp2;go_roundw
        case rel=>exact⟨k+1,a',cn+1,c',by go_num,by omega,by omega,by rw[N2.out];exact HN⟩
        case measure=>simp[intOf];omega
       refine zn fun K hK=>?_;have bn:=zB u1 (.cells #[.int .i64 x.n.house,.int .i64 x.n.num] 45);replace ST:=zH (ST.out.below bn);have LR:=zH (Jo u1 (.int .i64 x.n.house) (.int .i64 x.n.num));clear bn;go_simp;generalize u1.alloc (.cells #[.int .i64 x.n.house,.int .i64 x.n.num] 45)=u2 at *;refine zK hK ST.out.same fun hh=>?_;clear hK K;refine zR 1 rfl fun K hK=>?_;have hcl:=Z6 ST.out.blk 2 (.slice ca cn cc) rfl;go_simp;clear hcl
      all_goals
       refine zK hK ST.out.same fun hh=>?_;clear hK K;refine zR 8 rfl fun K hK=>?_;obtain⟨a',c',u9,hrun,ho,hg⟩:=YZ u2 V2.heap.size ca cn cc _ ST.out.own _ 1 1 _ LR.out (fun u hu=>by simp only[List.mem_cons,List.not_mem_nil,or_false]at hu;rcases hu with rfl | rfl <;> rfl) (by have:=HNN.out;omega) ST.out.same.size;have HN:=zH (ST.out.add (a:=Zk x.n) ho hg);have CL3:=zH (Zc hg ST.out.blk (Zg ST.out.own ST.out.blk (by intro cur;simp)));have SM:=zH (ST.out.same.reg (Za.of_grown hg (fun k e=>.inr (ST.out.own.lt k e).1)));clear ho hg;rw[if_pos (by kernel_rfl)];refine ZJ _ _ _ rfl _ _ _ rfl rfl hrun ?_;clear hrun;refine zK hK SM.out fun hh=>?_;clear hK K;refine zw 9 rfl p5 2 ?_;refine zR 10 rfl fun K hK=>?_;have hcl:=Z6 CL3.out 2 (.slice ca cn cc) rfl;have hfz:=Ze CL3.out 2;go_simp;clear hcl hfz;refine zK hK HN.out.same fun hh=>?_;clear hK K;refine zE ?_;clear CL3 SM ST;generalize u9.setCell ⟨p5,2,none⟩ (.slice a' (cn+1) c')=u10 at *;have hk64:=HK64.out;go_wp2;go_roundw
       case rel=>exact⟨k+1,a',cn+1,c',by go_num,by omega,by omega,by rw[N2.out];exact HN⟩
       case measure=>simp[intOf];omega
    ·have t0:decide ((k:Int) < (nn:Int))=false:=by simp;omega
     rw[List.take_of_length_le (by rw[HLN.out];omega),Zbt]at ST;have X4:Hid (wr.heap[p4]? = some (.cells #[.slice none 0 0,.slice none 0 0,.slice none 0 0] 77)):=zH (((SV2.out.trans ST.out.same).block p4 PLT.out.1 (fun e=>by have:=LT.out;omega)).trans X1.out);clear hk;go_wp2_with (first
      |(refine wpList_load_row rfl 77 _ rfl p5 rfl 77 #[.slice ha hs.length hc,.slice ea rs.length ec,.slice ca cn cc] (0,0) _ ST.out.blk Tryz.underlying77 rfl (I3.out _ _ _) ?_)
      |(refine YS rfl 77 _ _ rfl p4 #[.slice none 0 0,.slice none 0 0,.slice none 0 0] #[.slice ha hs.length hc,.slice ea rs.length ec,.slice ca cn cc] 77 rfl rfl X4.out (I3.out _ _ _) rfl (by simp[Value.oneCell']) ?_;intro w11 hr1 hr2 hr3)
      | fail)
     have SM:=zH (SV2.out.trans ST.out.same);have HR1:=zH hr1;have HR2:=zH hr2;have HR3:=zH hr3;clear hr1 hr2 hr3 t0 hlt;refine bodyPost_ret (results_cell_row rfl _ _ p4 77 #[.slice ha hs.length hc,.slice ea rs.length ec,.slice ca cn cc] (0,0) _ rfl HR1.out Tryz.underlying77 rfl (I3.out _ _ _)) rfl ?_;have K4 : ∀{b e k n:Nat} {v:Value} {ys:List Value},e≠77->wr.ownsRow b e k v n ys->w11.ownsRow b e k v n ys:=by
      intro b e k n v ys hn1 h;exact h.kept HR2.out (.inr (Zg h X4.out (fun cur hh=>hn1 (by injection hh with _ h4 _;exact h4.symm))).symm)
     have SZ0:w.heap.size<=W0.heap.size:=by have:=LT.out;omega
     have SZ2:w.heap.size<=V2.heap.size:=(BEL2.out V2 (Za.refl _ _)).size;have OKE : ∀e∈es,w11.ownsRow w.heap.size 3 1 (.slice e.x.sa e.x.n.strokes.length e.x.sc) e.x.n.strokes.length (e.x.n.strokes.map Yo):=fun e he=>by
      have h1:=Zi (SV.out.str e he) SM.out (fun b hb e2=>Zg (SV.out.str e he) Y1.out (by intro cur;simp) (by rw[hb,e2]));exact Zp (K4 (by decide) h1) SZ0
     have OHS:=Zp (K4 (by decide) (Zi RG.out.hown ST.out.same (fun b hb e=>Zg RG.out.hown RG.out.blk (by intro cur;simp) (by rw[hb,e])))) B1.out.size;have OES:=Zp (K4 (by decide) (Zi RG.out.eown ST.out.same (fun b hb e=>Zg RG.out.eown RG.out.blk (by intro cur;simp) (by rw[hb,e])))) B1.out.size;have OCS:=Zp (K4 (by decide) ST.out.own) SZ2;exact⟨⟨_,rfl,ha,_,hc,ea,_,ec,ca,cn,cc,hs,rs,rfl,OHS,OES,OCS,fun e he=>OKE e (MEMR.out e he),Z0N REGL.out.hs REGL.out.nh,Z0N REGL.out.es REGL.out.ne⟩,
      (BEL2.out wr ST.out.same).grown HR2.out (BEL2.out wr ST.out.same).size (fun q e=>by cases e;have:=LT.out;omega)⟩
def ZcZ (f:Ys)(l m:List NoteV)(day:Int)(e:Ending)(W:World):Prop := ∃v,e = .returned (.tuple #[v,.int .i64 (Z08 f l)])/\Uf W v (Z07 f l m day)
theorem Z9t (f:Ys)(a:zA)(n c:Nat)(l:List NoteV)(w:World)(hr:JM w a n c l):
  Calls zq 187 #[f.val,.slice a n c] w fun e w'=>ZcZ f l l 99999 e w'/\Below w.heap.size w w':=by
 have I3:=zH (show ∀(x y z:Value),(zq.info? 77).map (·.size)=some (#[x,y,z]:Xz).size from fun x y z=>by kernel_rfl);have J19:(zq.info? 47).map (·.size)=some 19:=by kernel_rfl
 have IS:=zH (fun W hb=>Z84 f a n c l W (hr.below (show Below w.heap.size w W from hb)));have RN:=zH hr;have hvl:f.val = .agg #[.int .i64 f.rings,.int .i64 f.sectors,.int .i64 f.wide]:=rfl;rw[hvl]at IS ⊢;clear hvl hr;have B0:=zH ((zB w (zF f 23)).alloc (by simp) (.cells #[.slice none 0 0,.slice none 0 0,.slice none 0 0] 77));have F0:=zH (Z8 _ (.cells #[.slice none 0 0,.slice none 0 0,.slice none 0 0] 77) _ _ (Z9 w (zF f 23)));have P0:=zH (Zm (w.alloc (zF f 23)) (.cells #[.slice none 0 0,.slice none 0 0,.slice none 0 0] 77) (w.heap.size+1) (by simp));go_enter Tryz.func187,Tryz.ntmps187;go_upto_region 1 with fail;obtain⟨pF,hpF⟩:=zX (w.heap.size);obtain⟨p4,hp4⟩:=zX (w.heap.size+1);rw[hpF.out]at F0;rw[hp4.out]at P0;rw[hp4.out,hpF.out];generalize (w.alloc (zF f 23)).alloc (.cells #[.slice none 0 0,.slice none 0 0,.slice none 0 0] 77)=W0 at *;have c0:=Z6 F0.out 0 (.int .i64 f.rings) rfl;have c1:=Z6 F0.out 1 (.int .i64 f.sectors) rfl;have c2:=Z6 F0.out 2 (.int .i64 f.wide) rfl;go_wp2_with fail;refine(IS.out W0 B0.out).mono ?_;clear c0 c1 c2;rintro e W1 ⟨rfl,b1⟩;have B1:=zH (B0.out.trans (b1.mono B0.out.size));have P1:=zH (Z7 b1 P0.out);have SZ:Hid (w.heap.size<=p4):=zH (by have:=hp4.out;omega);clear b1 B0 F0 P0;by_cases hs:(Zv f l).1=0
 case neg=>
  have t0:((Zv f l).1==0)=false:=by simp[hs]
  rw[t0];have HS:=zH hs;clear hs t0;go_wp2_with (first
   |(refine YS rfl 77 _ _ rfl p4 #[.slice none 0 0,.slice none 0 0,.slice none 0 0] #[.slice none 0 0,.slice none 0 0,.slice none 0 0] 77 rfl rfl P1.out (I3.out _ _ _) rfl (by simp[Value.oneCell']) ?_;intro w5 hr1 hr2 hr3)
   | fail)
  have HR1:=zH hr1;have HR2:=zH hr2;clear hr1 hr2 hr3;refine bodyPost_ret (ZI rfl _ _ p4 77 #[.slice none 0 0,.slice none 0 0,.slice none 0 0] (0,0) _ rfl HR1.out Tryz.underlying77 rfl (I3.out _ _ _)) rfl ?_;exact⟨⟨_,by rw[Z08,if_neg HS.out] <;> rfl,by rw[Z07,if_neg HS.out];exact Uf.empty w5⟩,B1.out.grown HR2.out B1.out.size (fun q e=>by cases e;exact SZ.out)⟩
 have t0:((Zv f l).1==0)=true:=by simp[hs]
 rw[t0];have HS:=zH hs;clear hs t0;have B9:=B1;have P9:=P1;go_wp2_with fail;refine(Z6H l a n c 99999 W1 (RN.out.below B1.out) (fun x hx=>Z6b ((VQ HS.out).2.2.1 x hx)) (fun x hx=>Nat.le_trans (Yg (VQ HS.out).1 ((VQ HS.out).2.2.1 x hx)) (by decide)) (by have:=(VQ HS.out).2.1;rw[RN.out.1]at this;omega)).mono ?_;rintro e W2 ⟨⟨v,rfl,ro⟩,b2⟩;obtain⟨ha,hn,hc,ea,en,ec,ca,cn,cc,rfl⟩:=ro.shape;have RO:=zH ro;have P2:=zH (Z7 b2 P9.out);have B2:=zH (B9.out.trans (b2.mono B9.out.size));clear ro b2;go_wp2_with (first
  |(refine YS rfl 77 _ _ rfl p4 #[.slice none 0 0,.slice none 0 0,.slice none 0 0] #[.slice ha hn hc,.slice ea en ec,.slice ca cn cc] 77 rfl rfl P2.out (I3.out _ _ _) rfl (by simp[Value.oneCell']) ?_;intro w5 hr1 hr2 hr3)
  | fail)
 have HR1:=zH hr1;have HR2:=zH hr2;clear hr1 hr2 hr3;refine bodyPost_ret (ZI rfl _ _ p4 77 #[.slice ha hn hc,.slice ea en ec,.slice ca cn cc] (0,0) _ rfl HR1.out Tryz.underlying77 rfl (I3.out _ _ _)) rfl ?_;exact⟨⟨_,by rw[Z08,if_pos HS.out] <;> rfl,by rw[Z07,if_pos HS.out];exact(RO.out.kept HR2.out P2.out).out⟩,B2.out.grown HR2.out B2.out.size (fun q e=>by cases e;exact SZ.out)⟩
structure VG (w W:World)(p3 p4:Nat)(m:NoteV)(ta:zA)(tc:Nat):Prop where
 bel:Below w.heap.size w W
 n:W.heap[p3]? = some (.cells (Z5 m ta tc) 47)
 z:W.heap[p4]? = some (.cells (Z5 Zd none 0) 47)
 own:W.ownsRow w.heap.size 3 1 (.slice ta m.strokes.length tc) m.strokes.length (m.strokes.map Yo)
 ge:w.heap.size<=p3/\p3 < p4
section
variable {w W W':World}{p3 p4:Nat}{m m':NoteV}{ta:zA}{tc:Nat}
theorem VG.below (h:VG w W p3 p4 m ta tc)(hb:Below W.heap.size W W'):VG w W' p3 p4 m ta tc:=
 ⟨h.bel.trans (hb.mono h.bel.size),Z7 hb h.n,Z7 hb h.z,Zb h.own hb,h.ge⟩
theorem VG.set (h:VG w W p3 p4 m ta tc)(hs:Za (fun k=>k=p3) W W')(hn:W'.heap[p3]? = some (.cells (Z5 m' ta tc) 47))(he:m'.strokes=m.strokes):VG w W' p3 p4 m' ta tc:=
 ⟨hs.below h.bel h.bel.size (fun k hk=>by rw[show k=p3 from hk];exact h.ge.1),hn,(hs.block p4 (Zq h.z) (fun e=>by have:=h.ge;omega)).trans h.z,
  by rw[he];exact Zi h.own hs (fun b hb e=>Zg h.own h.n (by intro cur;simp) (by rw[hb,show b=p3 from e])),h.ge⟩
theorem Z51 {W W':World}(hg:W.grownBy W' none):Below W.heap.size W W':=⟨hg.os,hg.tape,hg.output,hg.size,fun k hk=>hg.block k hk (by simp)⟩
theorem VG.other {r:Nat}{o:Obj}(h:VG w W p3 p4 m ta tc)(hs:Za (fun k=>k=r) W W')(hr:p4 < r)(ho:W.heap[r]? = some o)(hne : ∀cur,o ≠ .cells cur 3):VG w W' p3 p4 m ta tc:=
 ⟨hs.below h.bel h.bel.size (fun k hk=>by rw[show k=r from hk];have:=h.ge;omega),(hs.block p3 (Zq h.n) (fun e=>by have:=h.ge;omega)).trans h.n,(hs.block p4 (Zq h.z) (fun e=>by omega)).trans h.z,
  Zi h.own hs (fun b hb e=>Zg h.own ho hne (by rw[hb,show b=r from e])),h.ge⟩
theorem VG.done (h:VG w W p3 p4 m ta tc)(hs:Za (fun k=>k=p4) W W'):Below w.heap.size w W'/\W'.ownsRow w.heap.size 3 1 (.slice ta m.strokes.length tc) m.strokes.length (m.strokes.map Yo):=
 ⟨hs.below h.bel h.bel.size (fun k hk=>by rw[show k=p4 from hk];have:=h.ge;omega),Zi h.own hs (fun b hb e=>Zg h.own h.z (by intro cur;simp) (by rw[hb,show b=p4 from e]))⟩
end
theorem Jq (W:World)(p:Nat)(c:Xz):Za (fun k=>k=p) W (W.setRow p c):=Za.of_grown (Y6 W p c) (fun k e=>by cases e;rfl)
theorem Z90 (x y:Int):Z3m x y=max x y:=by unfold Z3m;split <;> omega
def doC (S:ZC)(n:NoteV)(c:Int):NoteV := { n with house:=S.id,num:=(S.c S.id:Int)+1,clock:=c }
theorem Zbu {S:ZC}(h:Xr S)(a:Int):S.c a<=400:=by
 by_cases h0:S.c a=0
 ·omega
 ·obtain⟨x,hx,e⟩:=(h.nms a (S.c a:Int)).2 ⟨by omega,Int.le_refl _⟩;have h1:=h.frm x hx;simp only[Zf,Bool.and_eq_true,Zy,Ya]at h1;have h2:x.house=a/\x.num=(S.c a:Int):=by simpa [Zk] using e
  omega
theorem Zbj {S:ZC}{n:NoteV}(h:n.Ok)(hf:Zf S.f (U7 S n)=true):(U7 S n).Ok:=by
 have h1:=Yh hf;have h2:=QH hf;have h3:(U7 S n).num<=400:=by
  simp only[Zf,Bool.and_eq_true,Zy,Ya]at hf;omega
 exact⟨by unfold Qm;omega,by unfold Qm;omega,by unfold Qm;omega,h.day,h.kind,h.stone,h.heap,h.turns,h.hardLo,h.hardHi,h.diffLo,h.diffHi,h.a,h.b,h.ring,h.refH,h.refN,h.fix,h.strokes⟩
theorem ZbW {G:Nm->Option LN}{L:List NoteV}{ks:List Nm}(gs : ∀k x,G k=some x->x.n∈L/\x.nm=k)(gl : ∀n∈L,∃x,G (Zk n)=some x/\x.n=n)(hsr:L.Pairwise ltN)(ha:JS G ks)(hs:ks.Pairwise (fun x y=>Jx x y=true)):(ks.filterMap G).map LN.n=L:=by
 refine Z3F ?_ hsr fun x=>?_
 ·rw[List.pairwise_map];clear ha
  induction ks with
  | nil=>exact List.Pairwise.nil
  | cons k ks ih=>
   rw[List.pairwise_cons]at hs;cases hk:G k with
   | none=>rw[List.filterMap_cons_none hk];exact ih hs.2
   | some x=>
    rw[List.filterMap_cons_some hk];refine List.pairwise_cons.2 ⟨fun y hy=>?_,ih hs.2⟩;obtain⟨k',hk',h'⟩:=List.mem_filterMap.1 hy;unfold ltN;rw[show Zk x.n=k from(gs k x hk).2,show Zk y.n=k' from(gs k' y h').2];exact hs.1 k' hk'
 ·constructor
  ·intro hx;obtain⟨y,hy,rfl⟩:=List.mem_map.1 hx;obtain⟨k,_,hk⟩:=List.mem_filterMap.1 hy;exact(gs k y hk).1
  ·intro hx;obtain⟨y,hy,rfl⟩:=gl x hx;exact List.mem_map_of_mem (List.mem_filterMap.2 ⟨_,ha _ (by rw[hy];rfl),hy⟩)
theorem Zcv {G:Nm->Option LN}{L:List NoteV}{x:LN}(gs : ∀k y,G k=some y->y.n∈L/\y.nm=k): ∀k y,XE G (Zk x.n) x k=some y->y.n∈YI L x.n/\y.nm=k:=fun k y h=>by
 unfold XE at h
 split at h
 ·rename_i e
  cases h
  exact⟨Qb.2 (.inr rfl),e.symm⟩
 ·obtain⟨h1,h2⟩:=gs k y h
  exact⟨Qb.2 (.inl h1),h2⟩
theorem Zcw {G:Nm->Option LN}{L:List NoteV}{x:LN}(gl : ∀n∈L,∃y,G (Zk n)=some y/\y.n=n)(hf : ∀y∈L,Zk y≠Zk x.n): ∀n∈YI L x.n,∃y,XE G (Zk x.n) x (Zk n)=some y/\y.n=n:=fun n hn=>by
 rcases Qb.1 hn with hn | rfl
 ·obtain⟨y,h1,h2⟩:=gl n hn
  exact⟨y,by unfold XE;rw[if_neg (hf n hn)];exact h1,h2⟩
 ·exact⟨x,by unfold XE;rw[if_pos rfl],rfl⟩
theorem Z3p {W W':World}{p k:Nat}{a:zA}{n c:Nat}{l:List Value}{A:Xz}{t:TypeId}{fr:Nat×Nat}(h:ZX W k a n c l)(hs:Za (fun q=>q=p) W W')(hp:W.heap[p]? = some (.cells A t fr))(hl : ∀v∈l,∃x,v = .int .i64 x)(hA : ∀v∈A.toList,∀x,v ≠ .int .i64 x):ZX W' k a n c l:=by
 refine⟨h.1,h.2.1,h.2.2.1,h.2.2.2.imp id ?_⟩;rintro⟨b,off,rfl,h4⟩;refine⟨b,off,rfl,fun i v hv=>?_⟩;have h5:=h4 i v hv;have hb:b≠p:=fun e=>by
  subst e;simp only[World.cell?,hp]at h5;obtain⟨x,hx⟩:=hl v (List.mem_of_getElem? hv);rw[<-Array.getElem?_toList]at h5;exact hA v (List.mem_of_getElem? (by simpa using h5)) x hx
 rw[<-h5];exact World.cell?_of_block (hs.block b (World.block_lt_of_cell? W _ h5) hb)
theorem Zdo {A1 A2 A3 A4 A5 A6:Type}{P T:A1->A2->A3->A4->A5->A6->Prop}{G:Prop}(h1:(∀x1 x2 x3 x4 x5 x6,P x1 x2 x3 x4 x5 x6->T x1 x2 x3 x4 x5 x6)->G)(h2 : ∀x1 x2 x3 x4 x5 x6,P x1 x2 x3 x4 x5 x6->T x1 x2 x3 x4 x5 x6):G:=h1 h2
section
attribute [local go_sem] ZS Xi Jg Jf
end
end Go.Proofs.YtlnhppgfhkkidaaGreat
