/- Parts of the proof, in order. -/
import Derived.Deep.RegionHeld3
import Derived.Deep.AppendLies
import Derived.Deep.DrawnRows
import Derived.Deep.Cut
import Derived.Deep.RegionLaw
import Derived.Defers
import Derived.Recover
import Derived.Laws.Pointers
import Derived.Test.YtlnhppgfhkkidaaGreatRows
import Derived.ProofKit
import Derived.OpenShut
import Derived.Deep.Strs
import Derived.Test.YtlnhppgfhkkidaaGreatKPst6
set_option linter.unusedSimpArgs false
set_option linter.unusedVariables false
set_option maxHeartbeats 32000000
set_option maxRecDepth 100000
namespace Go.Proofs.YtlnhppgfhkkidaaGreat
open Go.Proofs.Tryz renaming prog → zq
open Go.RowKit
theorem Z31 {P:Program}{ops:Array Oper}{S:World->Prop}{op:Oper}{a:Act}(hw:Region.wanted op (yielded ops a.tmps)=true)(ty:TypeId)(x:Operand)(ho:op.op = .load ty x)
  (b o:Nat) (hx:a.eval x = .pointer (some ⟨b,o,none⟩)) (cs:List Value) (d:TypeDesc) (hS : ∀w,S w->w.rangeAt b o cs)
  (hu:P.underlying ty=some d) (hd:d.isRow=true) (hi:(P.info? ty).map (·.size)=some cs.length):YieldsIf P ops S op (.agg cs.toArray) a:=
 .inl ⟨hw,fun w hw'=>by
  unfold execOp
  simp only[ho,hx,Instr.loadAt,Instr.sureAddr,Sem.run_bind,Sem.run_pure,Result.andThen_ok,run_loadVar_mid w b o ty cs d (hS w hw') hu hd hi]⟩
theorem Xl {F F1:Nat->Prop}{a b c:World}(h:Zb F a b)(k:Zb F1 b c)(hF : ∀k,F1 k->F k\/a.heap.size<=k):Zb F a c:=
 ⟨k.os.trans h.os,k.tape.trans h.tape,k.output.trans h.output,Nat.le_trans h.size k.size,fun i hi hs=>(k.block i (Nat.lt_of_lt_of_le hi h.size) (fun h1=>by
  rcases hF i h1 with h2 | h2
  ·exact hs h2
  ·omega)).trans (h.block i hi hs)⟩
theorem ZbZ {W:World}{p mb sp:Nat}{f:Yo}{id:Int}{c:Int->Nat}(h:W.heap[p]? = some (.cells (XE f id mb c sp) 109)):W.rangeAt p 5 [.int .i64 (c 0:Int),.int .i64 (c 1:Int),.int .i64 (c 2:Int),.int .i64 (c 3:Int),.int .i64 (c 4:Int),.int .i64 (c 5:Int),.int .i64 (c 6:Int),.int .i64 (c 7:Int),.int .i64 (c 8:Int)]:=fun j v hv=>by
 have hj:j < 9:=(List.getElem?_eq_some_iff.1 hv).1
 have h1:=Z6 h (5+j) v ?_
 ·exact h1
 ·have:j=0\/j=1\/j=2\/j=3\/j=4\/j=5\/j=6\/j=7\/j=8:=by omega
  rcases this with rfl | rfl | rfl | rfl | rfl | rfl | rfl | rfl | rfl <;> simpa [XE] using hv
def Z2T (c:Int->Nat):Y6 := #[.int .i64 (c 0:Int),.int .i64 (c 1:Int),.int .i64 (c 2:Int),.int .i64 (c 3:Int),.int .i64 (c 4:Int),.int .i64 (c 5:Int),.int .i64 (c 6:Int),.int .i64 (c 7:Int),.int .i64 (c 8:Int)]
theorem Z9x (c:Int->Nat)(k:Nat)(hk:k<=8):(Z2T c)[k]? = some (.int .i64 (c (k:Int):Int)):=by
 have:k=0\/k=1\/k=2\/k=3\/k=4\/k=5\/k=6\/k=7\/k=8:=by omega
 rcases this with rfl | rfl | rfl | rfl | rfl | rfl | rfl | rfl | rfl <;> rfl
theorem ZcB (c:Int->Nat)(k:Nat)(hk:k<=8):(Z2T c).setIfInBounds k (.int .i64 ((c (k:Int):Int)+1))=Z2T (QV c (k:Int)):=by
 have:k=0\/k=1\/k=2\/k=3\/k=4\/k=5\/k=6\/k=7\/k=8:=by omega
 rcases this with rfl | rfl | rfl | rfl | rfl | rfl | rfl | rfl | rfl <;> simp[Z2T,QV]
theorem ZcC (c:Int->Nat):(Z2T c).all (·.oneCell')=true:=by simp[Z2T,Value.oneCell']
theorem Z7O {W:World}{p k:Nat}(hk:k < 9):(Instr.indexAt 107 (.pointer (some ⟨p,0,none⟩)) (.int .i64 (k:Int))).run zq W = .ok (.pointer (some ⟨p,k,none⟩)) W:=by
 have hsz:(zq.info? 3).map (·.size)=some 1:=by kernel_rfl
 cases hq:zq.info? 3 with
 | none=>simp[hq]at hsz
 | some i=>
  simp only[hq,Option.map_some,Option.some.injEq]at hsz;simp[Instr.indexAt,run_underlying Tryz.underlying107,Instr.sureAddr,asIntOf,sizeOf,typeInfo,hq,hsz,Addr.add,hk];try exact fun h=>h.symm
theorem Zfd {P T:Nat->Nat->World->Prop}{G:Prop}(h1:(∀a b W,P a b W->T a b W)->G)(h2 : ∀a b W,P a b W->T a b W):G:=h1 h2
structure Z0P (w W:World)(km pc:Nat)(S:Zf)(l:List Z8)(xs:List LN)(q:Nat)(GK:Nm->Option LN)(fr:List Z8)(c:Int->Nat)(fa:zA)(fc:Nat)(ys:List LN):Prop where
 bel:Below w.heap.size w W
 go:Y9 S.l [] S.c l=Y9 S.l fr c (l.drop q)
 nms:J9 (S.l ++ fr) c
 nd:((S.l ++ fr).map Zi).Nodup
 map:ZZ LN.val W km (S.l.length+fr.length) GK
 gs : ∀k x,GK k=some x->x.n∈S.l ++ fr/\x.nm=k
 ok : ∀k x,GK k=some x -> ∀W',Below w.heap.size w W'->x.ok W'
 gl : ∀n∈S.l ++ fr,∃x,GK (Zi n)=some x/\x.n=n
 cnt:W.heap[pc]? = some (.cells (Z2T c) 107)
 own:W.ownsRow w.heap.size 47 19 (.slice fa fr.length fc) fr.length (ZH ys)
 eq:ys.map LN.n=fr
 mem : ∀y∈ys,y∈xs
 km_ge:w.heap.size<=km
 pc_ge:w.heap.size<=pc
 fl:fr.length<=q
section
variable {w W W':World}{km pc:Nat}{S:Zf}{l:List Z8}{xs:List LN}{q:Nat}{GK:Nm->Option LN}{fr:List Z8}{c:Int->Nat}{fa:zA}{fc:Nat}{ys:List LN}
theorem Z0P.below (h:Z0P w W km pc S l xs q GK fr c fa fc ys)(hb:Below W.heap.size W W'):Z0P w W' km pc S l xs q GK fr c fa fc ys:=
 ⟨h.bel.trans (hb.mono h.bel.size),h.go,h.nms,h.nd,h.map.below hb,h.gs,h.ok,h.gl,Z7 hb h.cnt,Zd h.own hb,h.eq,h.mem,h.km_ge,h.pc_ge,h.fl⟩
theorem Z0P.known (h:Z0P w W km pc S l xs q GK fr c fa fc ys){n:Z8}{x:LN}(hx:GK (Zi n)=some x):YW (S.l ++ fr) n=some x.n:=by
 obtain⟨h1,h2⟩:=h.gs _ x hx;cases hk:YW (S.l ++ fr) n with
 | none=>exact absurd h2 (XC hk x.n h1)
 | some o=>
  obtain⟨h3,h4⟩:=Z1Z hk;rw[QP h.nd h3 h1 (h4.trans h2.symm)]
theorem Z0P.unknown (h:Z0P w W km pc S l xs q GK fr c fa fc ys){n:Z8}(hx:GK (Zi n)=none):YW (S.l ++ fr) n=none:=
 Z05 fun y hy e=>by
  obtain⟨x,h1,_⟩:=h.gl y hy
  rw[e,hx]at h1
  cases h1
theorem Z0P.skip (h:Z0P w W km pc S l xs q GK fr c fa fc ys){n:Z8}(hn:l[q]? = some n)(hk:(∃o,YW (S.l ++ fr) n=some o/\Y7 o n=true)\/(YW (S.l ++ fr) n=none/\(c n.house:Int)+1 < n.num)):Z0P w W km pc S l xs (q+1) GK fr c fa fc ys:=by
 refine⟨h.bel,?_,h.nms,h.nd,h.map,h.gs,h.ok,h.gl,h.cnt,h.own,h.eq,h.mem,h.km_ge,h.pc_ge,Nat.le_succ_of_le h.fl⟩;rw[h.go,Z3H hn,Y9];rcases hk with ⟨o,h1,h2⟩ | ⟨h1,h2⟩
 ·rw[h1];simp only;rw[if_pos h2]
 ·rw[h1];simp only;rw[if_pos h2]
theorem Z0P.fork (h:Z0P w W km pc S l xs q GK fr c fa fc ys){n o:Z8}(hn:l[q]? = some n)(h1:YW (S.l ++ fr) n=some o)(h2:Y7 o n=false):Y9 S.l [] S.c l=none:=by
 rw[h.go,Z3H hn,Y9,h1];simp only;rw[if_neg (by rw[h2];decide)]
theorem Z0P.add {x:LN}{a':zA}{c':Nat}(h:Z0P w W km pc S l xs q GK fr c fa fc ys)(hn:l[q]? = some x.n)(hx:x∈xs)(h1:YW (S.l ++ fr) x.n=none)(h2 : ¬(c x.n.house:Int)+1 < x.n.num)(hnum:1<=x.n.num)(hok : ∀W',Below w.heap.size w W'->x.ok W')
  (hbel:Below w.heap.size w W') (hm:ZZ LN.val W' km (S.l.length+fr.length+1) (YH GK (Zi x.n) x)) (hc:W'.heap[pc]? = some (.cells (Z2T (QV c x.n.house)) 107))
  (ho:W'.ownsRow w.heap.size 47 19 (.slice a' (fr.length+1) c') (fr.length+1) (ZH ys ++ x.n.cells x.sa x.sc)):Z0P w W' km pc S l xs (q+1) (YH GK (Zi x.n) x) (fr ++ [x.n]) (QV c x.n.house) a' c' (ys ++ [x]):=by
 have hfree:=XC h1;have hlt:=h.nms.free hnum hfree;refine⟨hbel,?_,?_,?_,?_,fun k y hy=>?_,fun k y hy=>?_,fun y hy=>?_,hc,?_,?_,fun y hy=>?_,h.km_ge,h.pc_ge,?_⟩
 ·rw[h.go,Z3H hn,Y9,h1];simp only;rw[if_neg h2]
 ·rw[<-List.append_assoc];exact h.nms.add (by omega)
 ·rw[<-List.append_assoc,List.map_append];refine List.nodup_append.2 ⟨h.nd,by simp,fun a ha b hb e=>?_⟩;rw[List.map_singleton,List.mem_singleton]at hb;obtain⟨y,hy,rfl⟩:=List.mem_map.1 ha;exact hfree y hy (e.trans hb)
 ·rw[List.length_append,List.length_singleton,<-Nat.add_assoc];exact hm
 ·rw[<-List.append_assoc];unfold YH at hy;split at hy
  ·rename_i e;cases hy;exact⟨List.mem_append_right _ (by simp),e.symm⟩
  ·obtain⟨h3,h4⟩:=h.gs k y hy;exact⟨List.mem_append_left _ h3,h4⟩
 ·unfold YH at hy;split at hy
  ·cases hy;exact hok
  ·exact h.ok k y hy
 ·rw[<-List.append_assoc]at hy;rcases List.mem_append.1 hy with hy | hy
  ·obtain⟨z,h3,h4⟩:=h.gl y hy;refine⟨z,?_,h4⟩;unfold YH;rw[if_neg (hfree y hy)];exact h3
  ·rw[List.mem_singleton.1 hy];exact⟨x,by unfold YH;rw[if_pos rfl],rfl⟩
 ·rw[VJ,List.length_append,List.length_singleton];exact ho
 ·rw[List.map_append,h.eq];rfl
 ·rcases List.mem_append.1 hy with hy | hy
  ·exact h.mem y hy
  ·rw[List.mem_singleton.1 hy];exact hx
 ·rw[List.length_append,List.length_singleton];have:=h.fl;omega
end
def Zdt (w:World)(p mb sp:Nat)(G:Nm->Option LN)(SF:Nat->Prop)(S:Zf)(l:List Z8)(e:Ending)(W:World):Prop:=
 e = .returned (.tuple #[.int .i64 (ZR S l).2.1,.int .i64 (ZR S l).2.2]) /\ ∃G' SF',Yf W p mb sp G' SF' (ZR S l).1/\Zb (Yl p mb G SF) w W /\ ∀k,Yl p mb G' SF' k->Yl p mb G SF k\/w.heap.size<=k
theorem Z3o {x:Z8}: ∀{fr l:List Z8},x∈l->x∈Qo l fr
 | [],l,h=>h
 | n :: fr,l,h=>Z3o (fr:=fr) (l:=Xw l n) (Xp.2 (.inl h))
def ZcM (w:World)(p mb sp:Nat)(G:Nm->Option LN)(SF:Nat->Prop)(S:Zf)(l:List Z8)(e:Ending)(W:World):Prop:=
 e = .returned (.tuple #[.int .i64 (ZR S l).2.1,.int .i64 (ZR S l).2.2]) /\ ∃G' SF',Yf W p mb sp G' SF' (ZR S l).1/\Zb (Yl p mb G SF) w W/\(∀k,Yl p mb G' SF' k->Yl p mb G SF k\/w.heap.size<=k) /\ ∀k x,G k=some x->G' k=some x
section
attribute [local go_sem] ZY YV
theorem Z4v (p mb sp:Nat)(G:Nm->Option LN)(SF:Nat->Prop)(S:Zf)(a:zA)(nn nc:Nat)(l:List Z8)(xs:List LN)(w:World)(hh:Yf w p mb sp G SF S)(hi:Xh S)(hxs:xs.map LN.n=l)
  (hr : ∀W,Zb (Yl p mb G SF) w W->zk W a nn nc xs) (hok : ∀x∈l,x.Ok) (hlen:S.l.length+nn<=400):
  Calls zq 13 #[.pointer (some ⟨p,0,none⟩),.slice a nn nc] w fun e w'=>ZcM w p mb sp G SF S l e w':=by
 have J19:(zq.info? 47).map (·.size)=some 19:=by kernel_rfl
 have hmf : ∀(fn:Fn) (first cap:Y6) (w:World),(Instr.makeFunc fn first cap).run zq w = .ok (.func fn first cap) w:=fun _ _ _ _=>rfl;have HH:=zH hh;have HI:=zH hi;have HXS:=zH hxs;have HR:=zH hr;have RL:=zH (hr w (Zb.of_below (Below.refl _ _)));have LNX:Hid (xs.length=nn):=zH (hr w (Zb.of_below (Below.refl _ _))).1;have HLN:Hid (l.length=nn):=zH (by rw[<-hxs,List.length_map];exact(hr w (Zb.of_below (Below.refl _ _))).1);have LOK:=zH (show ∀W,Below w.heap.size w W -> ∀x∈xs,x.ok W from fun W hb x hx=>(Z5D (hr w (Zb.of_below (Below.refl _ _))) hx).below hb);have HOK:=zH hok;have HLEN:=zH hlen;have hn4:(nn:Int)<=9223372036854775807:=by omega
 have B0:=zH (zB w (.cells #[.pointer (some ⟨p,0,none⟩)] 27));have P0:=zH (Za w (.cells #[.pointer (some ⟨p,0,none⟩)] 27));have H0:=zH (hh.below B0.out);clear hh hi hxs hr hok hlen;go_enter Tryz.func13,Tryz.ntmps13;go_upto_region 1 with fail;obtain⟨pB,hpB⟩:=zX (w.heap.size);rw[hpB.out]at P0;rw[hpB.out];generalize w.alloc (.cells #[.pointer (some ⟨p,0,none⟩)] 27)=w0 at *;have cB:=Z6 P0.out 0 (.pointer (some ⟨p,0,none⟩)) rfl;go_wp2_with fail;refine(U4 w0 p mb sp S.f S.id S.c H0.out.blk).mono ?_;rintro e w1 ⟨rfl,rfl⟩;go_wp2_with fail;refine(Z5d xs (fun x=>!decide (ZX S.f x.n=0)) 55 (.pointer (some ⟨pB,0,none⟩)) Zc2 a nn nc w1 (RL.out.below B0.out) (fun x hx W hb=>ZaD S.f S.id mb sp p pB S.c x.n x.sa x.sc W (Z7 hb P0.out) (Z7 hb H0.out.blk) (LOK.out W (B0.out.trans (hb.mono B0.out.size)) x hx))).mono ?_;rintro e w2 ⟨rfl,b2⟩;have B2:=zH (B0.out.trans (b2.mono B0.out.size));have P2:=zH (Z7 b2 P0.out);have H2:=zH (HH.out.below B2.out);have ANY:Hid ((xs.any fun x=>!decide (ZX S.f x.n=0))=l.any (fun n=>!decide (ZX S.f n=0))):=zH (by rw[<-HXS.out,List.any_map];rfl);rw[ANY.out];clear b2 cB B0 P0 H0 hmf;have UNCH:=zH (show ∀W,Below w.heap.size w W -> ∃G' SF',Yf W p mb sp G' SF' S/\Zb (Yl p mb G SF) w W/\(∀k,Yl p mb G' SF' k->Yl p mb G SF k\/w.heap.size<=k) /\ ∀k x,G k=some x->G' k=some x from fun W hb=>⟨G,SF,HH.out.below hb,Zb.of_below hb,fun k hk=>.inl hk,fun k x h=>h⟩);have RL2:=zH (RL.out.below B2.out);have LOK2:=zH (show ∀W,Below w2.heap.size w2 W -> ∀x∈xs,x.ok W from fun W hb=>LOK.out W (B2.out.trans (hb.mono B2.out.size)));have UNCH2:=zH (show ∀W,Below w2.heap.size w2 W -> ∃G' SF',Yf W p mb sp G' SF' S/\Zb (Yl p mb G SF) w W/\(∀k,Yl p mb G' SF' k->Yl p mb G SF k\/w.heap.size<=k) /\ ∀k x,G k=some x->G' k=some x from fun W hb=>UNCH.out W (B2.out.trans (hb.mono B2.out.size)));cases hbad:l.any (fun n=>!decide (ZX S.f n=0))
 case true=>
  have HE:=zH (Z0Y hbad);clear hbad;go_wp2_with fail;go_returns;exact⟨by rw[HE.out] <;> rfl,by rw[HE.out];exact UNCH.out _ B2.out⟩
 have GOOD:=zH hbad;have FRM:=zH (Z0d HI.out.v hbad);clear hbad;go_upto_region 5 with fail;apply Zfd (P:=fun km pc W=>Hid (Below w2.heap.size w2 W/\ZZ LN.val W km S.l.length G/\W.heap[pc]? = some (.cells (Z2T S.c) 107)/\w2.heap.size<=km/\w2.heap.size<=pc))
 ·intro REST;refine zb fun hh=>?_;have HB0:=zH (show Below w2.heap.size w2 w2.drew from(Below.refl _ _).drew);generalize w2.drew=V0 at *;refine zS 0 rfl (.pointer (some ⟨p,0,none⟩)) (fun W h=>by have hc:=Z6 (Z7 h P2.out) 0 (.pointer (some ⟨p,0,none⟩)) rfl;go_simp) ?_;refine zw 1 rfl p 0 ?_;refine zw 2 rfl p 4 ?_;refine zS 3 rfl (.map (some mb)) (fun W h=>by have hc:=Z6 (Z7 h H2.out.blk) 4 (.map (some mb)) rfl;go_simp) ?_;refine zS 5 rfl (.pointer (some ⟨p,0,none⟩)) (fun W h=>by have hc:=Z6 (Z7 h P2.out) 0 (.pointer (some ⟨p,0,none⟩)) rfl;go_simp) ?_;refine zw 6 rfl p 0 ?_;refine zw 7 rfl p 5 ?_;refine zT 8 rfl (.agg (Z2T S.c)) (Z31 (by kernel_rfl) 107 _ rfl p 5 rfl [.int .i64 (S.c 0:Int),.int .i64 (S.c 1:Int),.int .i64 (S.c 2:Int),.int .i64 (S.c 3:Int),.int .i64 (S.c 4:Int),.int .i64 (S.c 5:Int),.int .i64 (S.c 6:Int),.int .i64 (S.c 7:Int),.int .i64 (S.c 8:Int)] _ (fun W h=>ZbZ (Z7 h H2.out.blk)) Tryz.underlying107 rfl (by kernel_rfl)) ?_;refine zM [4,9] rfl (fun K hK=>?_) ?_
  focus
   go_simp;go_at_call 57;refine(UG mb S.l.length G V0 (H2.out.map.below HB0.out)).mono ?_;rintro e V1 ⟨rfl,hm,b1⟩;have KGE:Hid (w2.heap.size<=V0.heap.size):=zH HB0.out.size;obtain⟨km,hkm⟩:=zX (V0.heap.size);have HB1:=zH (HB0.out.trans (b1.mono HB0.out.size));clear b1;rw[hkm.out]at hm KGE;rw[hkm.out];have HM1:=zH hm;clear hm;dsimp only;refine zK hK HB1.out fun hh=>?_;clear hK K;refine zR 9 rfl fun K hK=>?_;have bz:Below V1.heap.size V1 (V1.alloc (.cells #[.int .i64 0,.int .i64 0,.int .i64 0,.int .i64 0,.int .i64 0,.int .i64 0,.int .i64 0,.int .i64 0,.int .i64 0] 107)):=zB _ _;have HB2:=zH (HB1.out.trans (bz.mono HB1.out.size));have HP2:=zH (Za V1 (.cells #[.int .i64 0,.int .i64 0,.int .i64 0,.int .i64 0,.int .i64 0,.int .i64 0,.int .i64 0,.int .i64 0,.int .i64 0] 107));have CGE:Hid (w2.heap.size<=V1.heap.size):=zH HB1.out.size;have HM2:=zH (HM1.out.below bz);clear bz;go_simp;obtain⟨pc,hpc⟩:=zX (V1.heap.size);rw[hpc.out]at HP2 CGE;rw[hpc.out];generalize V1.alloc (.cells #[.int .i64 0,.int .i64 0,.int .i64 0,.int .i64 0,.int .i64 0,.int .i64 0,.int .i64 0,.int .i64 0,.int .i64 0] 107)=V2 at *
  rotate_left
  focus
   refine zn fun K hK=>?_;have bz:Below V0.heap.size V0 (V0.alloc (.cells #[.int .i64 0,.int .i64 0,.int .i64 0,.int .i64 0,.int .i64 0,.int .i64 0,.int .i64 0,.int .i64 0,.int .i64 0] 107)):=zB _ _;have HB1:=zH (HB0.out.trans (bz.mono HB0.out.size));have HP1:=zH (Za V0 (.cells #[.int .i64 0,.int .i64 0,.int .i64 0,.int .i64 0,.int .i64 0,.int .i64 0,.int .i64 0,.int .i64 0,.int .i64 0] 107));have CGE:Hid (w2.heap.size<=V0.heap.size):=zH HB0.out.size;clear bz;go_simp;obtain⟨pc,hpc⟩:=zX (V0.heap.size);rw[hpc.out]at HP1 CGE;rw[hpc.out];generalize V0.alloc (.cells #[.int .i64 0,.int .i64 0,.int .i64 0,.int .i64 0,.int .i64 0,.int .i64 0,.int .i64 0,.int .i64 0,.int .i64 0] 107)=V1 at *;refine zK hK HB1.out fun hh=>?_;clear hK K;refine zR 4 rfl fun K hK=>?_;go_simp;go_at_call 57;refine(UG mb S.l.length G V1 (H2.out.map.below HB1.out)).mono ?_;rintro e V2 ⟨rfl,hm,b1⟩;have KGE:Hid (w2.heap.size<=V1.heap.size):=zH HB1.out.size;obtain⟨km,hkm⟩:=zX (V1.heap.size);have HB2:=zH (HB1.out.trans (b1.mono HB1.out.size));have HP2:=zH (Z7 b1 HP1.out);clear b1;rw[hkm.out]at hm KGE;rw[hkm.out];have HM2:=zH hm;clear hm;dsimp only
  all_goals
   refine zK hK HB2.out fun hh=>?_;clear hK K;refine zW 10 rfl (.map (some km)) ?_;refine zR 11 rfl fun K hK=>?_;rw[if_pos (by kernel_rfl)];refine ZT 107 _ _ rfl pc #[.int .i64 0,.int .i64 0,.int .i64 0,.int .i64 0,.int .i64 0,.int .i64 0,.int .i64 0,.int .i64 0,.int .i64 0] (Z2T S.c) 107 rfl rfl HP2.out (by kernel_rfl) rfl (ZcC _) ?_;intro V3 h8 hg8 hs8;have KPC:Hid (km≠pc):=zH (fun e=>by
    obtain⟨es,cl,h9⟩:=HM2.out.blk;rw[e,HP2.out]at h9;cases h9)
   have HB3:=zH (HB2.out.grown hg8 HB2.out.size (fun q hq=>by cases hq;exact CGE.out));have HM3:=zH (HM2.out.kept hg8 (fun e=>absurd (Option.some.inj e) KPC.out));have HP3:=zH h8;clear h8 hg8 hs8;simp only[Act.put,lq0,lq1,lq2];refine zK hK HB3.out fun hh=>?_;clear hK K;refine zE ?_;exact REST km pc V3 (zH ⟨HB3.out,HM3.out,HP3.out,KGE.out,CGE.out⟩)
 intro km pc W5 QQ;have HS0:Hid (Z0P w2 W5 km pc S l xs 0 G [] S.c none 0 []):=zH ⟨QQ.out.1,by rw[List.drop_zero],by rw[List.append_nil];exact HI.out.nms,by rw[List.append_nil];exact Yt HI.out.srt,QQ.out.2.1,by rw[List.append_nil];exact HH.out.gs,
  fun k x hx W' hb=>LN.ok.below (x:=x) (Y3.of_own (H2.out.str k x hx)) hb,by rw[List.append_nil];exact HH.out.gl,QQ.out.2.2.1,World.ownsRow_nil _ _ _ _,rfl,(fun y hy=>by cases hy),QQ.out.2.2.2.1,QQ.out.2.2.2.2,Nat.le_refl _⟩
 clear QQ;go_wp2_with fail;go_loopw [8,32] (fun fv iv wr=>∃(q:Nat) (GK:Nm->Option LN) (fr:List Z8) (c:Int->Nat) (fa:zA) (fc:Nat) (ys:List LN),fv = .slice fa fr.length fc/\iv = .int .i64 (q:Int)/\q<=nn/\Hid (Z0P w2 wr km pc S l xs q GK fr c fa fc ys)) (fun _ iv _=>nn - (intOf iv).toNat)
 case atStart=>exact⟨0,G,[],S.c,none,0,[],rfl,rfl,Nat.zero_le _,HS0⟩
 case round=>
  clear HS0;obtain⟨q,GK,fr,c,fa,fc,ys,rfl,rfl,hq,HS⟩:=hrel;by_cases hlt:q < nn
  ·have t0:decide ((q:Int) < (nn:Int))=true:=by simp;omega
   obtain⟨x,Hx⟩ : ∃x,xs[q]? = some x:=⟨_,List.getElem?_eq_getElem (by rw[LNX.out];exact hlt)⟩;have HLX:=zH (show l[q]? = some x.n by rw[<-HXS.out,List.getElem?_map,Hx];rfl);have XM:=zH (List.mem_of_getElem? Hx);have XF:=zH (FRM.out x.n (List.mem_of_getElem? HLX.out));have XO:=zH (HOK.out x.n (List.mem_of_getElem? HLX.out));have NOK:Hid (VI (x.n.house,x.n.num)):=zH ⟨XO.out.house,XO.out.num⟩;obtain⟨b,off,rfl,hat⟩:=(RL2.out.below HS.out.bel).at (by omega);obtain⟨o,ho⟩:=zX (off+q * 19);have HX:=zH (hat q x Hx).1;rw[ho.out]at HX;have hix:=fun W=>Yi (W:=W) (c:=nc) (b:=b) Tryz.underlying24 J19 hlt ho.out;have HK64:Hid ((q:Int)+1<=9223372036854775807):=zH (by have:=HLEN.out;omega);clear hat Hx;go_upto_region 10 with (first
    |(refine wpList_load_mid rfl 47 _ rfl b o rfl (x.n.cells x.sa x.sc) _ HX.out Tryz.underlying47 rfl (Z0x x.n x.sa x.sc) ?_)
    |(refine zP wr wr.heap.size (Z5 x.n x.sa x.sc) ?_))
   clear hix t0;have bt:Below wr.heap.size wr (wr.alloc (.cells (Z5 x.n x.sa x.sc) 47)):=zB _ _;have HT:=zH (HS.out.below bt);have N10:=zH (Za wr (.cells (Z5 x.n x.sa x.sc) 47));have GE10:Hid (w2.heap.size<=wr.heap.size):=zH HS.out.bel.size;have KM10:Hid (km < wr.heap.size/\pc < wr.heap.size):=zH ⟨HS.out.map.lt,Zk HS.out.cnt⟩;obtain⟨p10,hp10⟩:=zX (wr.heap.size);rw[hp10.out]at N10 GE10 KM10;rw[hp10.out];generalize wr.alloc (.cells (Z5 x.n x.sa x.sc) 47)=wt at *;clear bt HS HX;go_wp2_with (first
    |(refine zL p10 N10.out ?_))
   refine(Vk x.n x.sa x.sc wt).mono ?_;rintro e w6 ⟨rfl,b6⟩;have HT6:=zH (HT.out.below b6);have N6:=zH (Z7 b6 N10.out);clear b6 HT N10;cases hgk:GK (x.n.house,x.n.num)with
   | some y=>
    have hget:(Instr.lookup 106 (.map (some km)) (.agg #[.int .i64 x.n.house,.int .i64 x.n.num]) true).run zq w6 = .ok (.tuple #[.agg (Z5 y.n y.sa y.sc),.bool true]) w6:=by
     have:=XR (t:=106) HT6.out.map Tryz.underlying106 (Xc w6) x.n.house x.n.num NOK.out;rw[hgk]at this;exact this
    have KB:=zH (HT6.out.known (n:=x.n) hgk);have YM:=zH (HT6.out.gs _ y hgk).1;have YK:=zH (HT6.out.ok _ y hgk);have YF:Hid (Zg S.f y.n=true):=zH (by
     rcases List.mem_append.1 YM.out with h | h
     ·exact HI.out.frm _ h
     ·rw[<-HT6.out.eq]at h;obtain⟨z,hz,hz2⟩:=List.mem_map.1 h;rw[<-hz2];exact FRM.out _ (by rw[<-HXS.out];exact List.mem_map_of_mem (HT6.out.mem z hz)))
    clear hgk;go_upto_region 14 with (first
     |(refine zP w6 w6.heap.size (Z5 y.n y.sa y.sc) ?_))
    have bt:Below w6.heap.size w6 (w6.alloc (.cells (Z5 y.n y.sa y.sc) 47)):=zB _ _;have HT7:=zH (HT6.out.below bt);have N7:=zH (Z7 bt N6.out);have M7:=zH (Za w6 (.cells (Z5 y.n y.sa y.sc) 47));obtain⟨p11,hp11⟩:=zX (w6.heap.size);rw[hp11.out]at M7;rw[hp11.out];generalize w6.alloc (.cells (Z5 y.n y.sa y.sc) 47)=w7 at *;clear bt hget HT6 N6;go_wp2_with (first
     |(refine zG p11 M7.out ?_)
     |(refine zG p10 N7.out ?_))
    refine(Za4 S.f HI.out.v y.n x.n y.sa y.sc x.sa x.sc w7 (YK.out w7 HT7.out.bel) (LOK2.out w7 HT7.out.bel x XM.out) YF.out XF.out).mono ?_;rintro e w8 ⟨rfl,b8⟩;have HT8:=zH (HT7.out.below b8);have N8:=zH (Z7 b8 N7.out);clear b8 HT7 N7 M7;cases hsame:Y7 y.n x.n
    case false=>
     have HG:=zH (HT8.out.fork HLX.out KB.out hsame);have HE:=zH (Z07 GOOD.out HG.out);clear hsame;go_wp2_with fail;go_returns;exact⟨by rw[HE.out] <;> rfl,by rw[HE.out];exact UNCH2.out _ HT8.out.bel⟩
    case true=>
     have HN:=zH (HT8.out.skip HLX.out (.inl ⟨_,KB.out,hsame⟩));clear hsame HT8;go_upto_region 16 with fail;have hC0:Below w8.heap.size w8 w8.drew:=(Below.refl _ _).drew;try simp only[Act.put,lq3,lq4,lq5]
     refine zC (fun w':World=>Below w8.heap.size w8 w') hC0 ?_
     iterate 2 go_big_quiet_step (fail)
     iterate 8 go_big_quiet_skip
     refine zV (.bool true) ?_;go_big_quiet_step (fail);refine wpQuiet_nil ?_;intro w' hC;have HN2:=zH (HN.out.below hC);clear hC HN;have hk64:=HK64.out;go_wp2;go_roundw
     case rel=>exact⟨q+1,GK,fr,c,fa,fc,ys,by go_num,by go_num,by omega,HN2⟩
     case measure=>simp[intOf];omega
   | none=>
    have hget:(Instr.lookup 106 (.map (some km)) (.agg #[.int .i64 x.n.house,.int .i64 x.n.num]) true).run zq w6 = .ok (.tuple #[.agg (Z5 Zh none 0),.bool false]) w6:=by
     have:=XR (t:=106) HT6.out.map Tryz.underlying106 (Xc w6) x.n.house x.n.num NOK.out;rw[hgk]at this;exact this
    have KB:=zH (HT6.out.unknown (n:=x.n) hgk);clear hgk;go_upto_region 14 with (first
     |(refine zP w6 w6.heap.size (Z5 Zh none 0) ?_))
    have bt:Below w6.heap.size w6 (w6.alloc (.cells (Z5 Zh none 0) 47)):=zB _ _;have HT7:=zH (HT6.out.below bt);have N7:=zH (Z7 bt N6.out);generalize w6.alloc (.cells (Z5 Zh none 0) 47)=w7 at *;clear bt hget HT6 N6;obtain⟨k,hk,hk8⟩ : ∃k:Nat,x.n.house=(k:Int)/\k<=8:=⟨x.n.house.toNat,by have:=Yd XF.out;omega,by have:=Yd XF.out;omega⟩;have HK:=zH hk;have HK8:=zH hk8;have XP:=zH (show 1<=x.n.num from(Yd XF.out).2.2);have CB:Hid ((c (k:Int):Int)+1<=9223372036854775807):=zH (by
     have hl:=HT7.out.nms.free XP.out (XC KB.out);have h1:=XO.out.num;rw[hk]at hl;unfold J6 at h1;omega)
    have WR:Hid (IntKind.i64.wrap ((c (k:Int):Int)+1)=(c (k:Int):Int)+1):=zH (by have h9:=CB.out;rw[IntKind.wrap_i64];omega);clear hk hk8;go_upto_region 16 with fail;have hC0:Below w7.heap.size w7 w7.drew:=(Below.refl _ _).drew;have LN10:=zH (show ∀w0,Below w7.heap.size w7 w0->w0.heap[p10]? = some (.cells (Z5 x.n x.sa x.sc) 47)from fun w0 h=>Z7 h N7.out);have LC:=zH (show ∀w0,Below w7.heap.size w7 w0->w0.heap[pc]? = some (.cells (Z2T c) 107)from fun w0 h=>Z7 h HT7.out.cnt);try simp only[Act.put,lq3,lq4,lq5]
    refine zC (fun w':World=>Below w7.heap.size w7 w') hC0 ?_
    iterate 2 go_big_quiet_step (fail)
    refine zv p10 1 ?_;refine zQ (.int .i64 x.n.num) (fun w0 hC=>?_) ?_
    ·have c1:=Z6 (LN10.out w0 hC) 1 (.int .i64 x.n.num) rfl;clear hC;go_simp
    refine zv p10 0 ?_;refine zQ (.int .i64 (k:Int)) (fun w0 hC=>?_) ?_
    ·have c0:w0.cell? ⟨p10,0,none⟩=some (.int .i64 (k:Int)):=by rw[<-HK.out];exact Z6 (LN10.out w0 hC) 0 (.int .i64 x.n.house) rfl
     clear hC;go_simp
    refine zQ (.pointer (some ⟨pc,k,none⟩)) (fun w0 hC=>?_) ?_
    ·have c0:=Z7O (W:=w0) (p:=pc) (k:=k) (by have:=HK8.out;omega);clear hC;go_simp
    refine zQ (.int .i64 (c (k:Int):Int)) (fun w0 hC=>?_) ?_
    ·have c0:=Z6 (LC.out w0 hC) k (.int .i64 (c (k:Int):Int)) (Z9x c k HK8.out);clear hC;go_simp
    refine zQ (.int .i64 ((c (k:Int):Int)+1)) (fun w0 hC=>?_) ?_
    ·have c0:=WR.out;clear hC;go_simp
    refine zV (.bool (decide ((c (k:Int):Int)+1 < x.n.num))) ?_;refine zV (.bool (decide ((c (k:Int):Int)+1 < x.n.num))) ?_;go_big_quiet_step (fail);refine wpQuiet_nil ?_;intro w' hC;have H9:=zH (HT7.out.below hC);have N9:=zH (Z7 hC N7.out);clear hC LN10 LC HT7 N7;generalize w'=w9 at *;cases hgr:decide ((c (k:Int):Int)+1 < x.n.num)
    ·have LT:Hid (¬(c (k:Int):Int)+1 < x.n.num):=zH (of_decide_eq_false hgr);clear hgr;go_upto_region 11 with fail;refine zp N9.out fun hh=>?_;refine zW 0 rfl (.map (some km)) ?_;refine zT 1 rfl (.agg (Z5 x.n x.sa x.sc)) (zY p10 fun W h=>h) ?_;refine zT 3 rfl (.agg (Z5 x.n x.sa x.sc)) (zY p10 fun W h=>h) ?_;refine zR 2 rfl fun K hK=>?_;go_simp;go_at_call 58;refine(Vk x.n x.sa x.sc _).mono ?_;rintro e v2 ⟨rfl,b2⟩;have bv:=((zd w9)).trans b2;have HV:=zH (H9.out.below bv);have NV:=zH (Z7 bv N9.out);clear b2 bv;dsimp only;refine zK hK NV.out fun hh=>?_;clear hK K;refine zR 4 rfl fun K hK=>?_;obtain⟨v3,hrun,hm3,ht3⟩:=Ql (t:=106) HV.out.map (by have h1:=HV.out.fl;have h2:=HLEN.out;unfold maxLen;omega) Tryz.underlying106 x.n.house x.n.num NOK.out x;have M3:=zH hm3;have NE1:Hid (pc≠km):=zH (fun e=>by
      obtain⟨es,cl,h9⟩:=HV.out.map.blk;rw[<-e,HV.out.cnt]at h9;cases h9)
     have N3:=zH (Zc ht3.grown NV.out (fun e=>absurd (Option.some.inj e) (by have:=KM10.out;omega)));have C3:=zH (Zc ht3.grown HV.out.cnt (fun e=>absurd (Option.some.inj e) NE1.out));have O3:=zH (HV.out.own.kept ht3.grown (.inr (by
      obtain⟨es,cl,h9⟩:=HV.out.map.blk;exact(Zo HV.out.own h9 (by intro cur;simp)).symm)))
     have B3:=zH (HV.out.bel.grown ht3.grown HV.out.bel.size (fun z hz=>by cases hz;exact HV.out.km_ge));clear hm3 ht3;unfold LN.val at hrun;go_simp;refine zK hK N3.out fun hh=>?_;clear hK K;refine zE ?_;clear hrun;have c0:v3.cell? ⟨p10,0,none⟩=some (.int .i64 (k:Int)):=by rw[<-HK.out];exact Z6 N3.out 0 (.int .i64 x.n.house) rfl
     have c1:=Z7O (W:=v3) (p:=pc) (k:=k) (by have:=HK8.out;omega);have c2:=Z6 C3.out k (.int .i64 (c (k:Int):Int)) (Z9x c k HK8.out);have c3:=Zq C3.out k;have c4:=WR.out;go_upto_region 13 with fail;have G4:=Zn v3 pc k (.int .i64 ((c (k:Int):Int)+1));have C4:=zH (ZM C3.out k (.int .i64 ((c (k:Int):Int)+1)));rw[ZcB c k HK8.out]at C4;have N4:=zH (Zc G4 N3.out (fun e=>absurd (Option.some.inj e) (by have:=KM10.out;omega)));have M4:=zH (M3.out.kept G4 (fun e=>absurd (Option.some.inj e).symm NE1.out));have O4:=zH (O3.out.kept G4 (.inr (Zo O3.out C3.out (by intro cur;simp)).symm));have B4:=zH (B3.out.grown G4 B3.out.size (fun z hz=>by cases hz;exact HV.out.pc_ge));clear c0 c1 c2 c3 c4 G4;generalize v3.setCell ⟨pc,k,none⟩ (.int .i64 ((c (k:Int):Int)+1))=v4 at *;have bn:Below v4.heap.size v4 (v4.alloc (.cells (Z5 x.n x.sa x.sc) 47)):=zB _ _;have O5:=zH (Zd O4.out bn);obtain⟨a',c',v9,hrun,ho9,hg9⟩:=JD (v4.alloc (.cells (Z5 x.n x.sa x.sc) 47)) w2.heap.size fa fr.length fc _ O5.out _ 1 1 _ (Qb v4 x.n x.sa x.sc) (x.n.cells_one _ _) (by have h1:=HV.out.fl;have h2:=HLEN.out;omega) (Nat.le_trans B4.out.size bn.size);have M9:ZZ LN.val v9 km (S.l.length+fr.length+1) (YH GK (Zi x.n) x):=(M4.out.below bn).kept hg9 (by
      obtain⟨es,cl,h9⟩:=(M4.out.below bn).blk;exact(Zo O5.out h9 (by intro cur;simp)))
     have C9:v9.heap[pc]? = some (.cells (Z2T (QV c x.n.house)) 107):=by
      have h9:=Zc hg9 (Z7 bn C4.out) (Zo O5.out (Z7 bn C4.out) (by intro cur;simp));rwa [<-HK.out]at h9
     have B9:=(B4.out.trans (bn.mono B4.out.size)).grown hg9 (Nat.le_trans B4.out.size bn.size) (fun z hz=>(O5.out.lt z hz).1);have HN:=zH (HV.out.add HLX.out XM.out KB.out (by rw[HK.out];exact LT.out) XP.out (fun W' hb=>LOK2.out W' hb x XM.out) B9 M9 C9 ho9);clear bn ho9 hg9 M9 C9 B9 O5 M4 C4 O4 B4 HV NV M3 C3 O3 B3;have FLE:Hid ((fr ++ [x.n]).length=fr.length+1):=zH (by rw[List.length_append];rfl);have hk64:=HK64.out;go_wp2_with (first
      |(refine zL p10 N4.out ?_)
      |(refine Xz rfl _ rfl x.n x.sa x.sc rfl ?_)
      |(refine Ym rfl _ _ _ rfl _ _ _ rfl rfl hrun ?_)
      | fail)
     go_roundw
     case rel=>exact⟨q+1,YH GK (Zi x.n) x,fr ++ [x.n],QV c x.n.house,a',c',ys ++ [x],by rw[FLE.out] <;> rfl,by go_num,by omega,HN⟩
     case measure=>simp[intOf];omega
    ·have HN:=zH (H9.out.skip HLX.out (.inr ⟨KB.out,by rw[HK.out];exact of_decide_eq_true hgr⟩));clear hgr H9;have hk64:=HK64.out;go_wp2;go_roundw
     case rel=>exact⟨q+1,GK,fr,c,fa,fc,ys,by go_num,by go_num,by omega,HN⟩
     case measure=>simp[intOf];omega
  ·have t0:decide ((q:Int) < (nn:Int))=false:=by simp;omega
   have HG:Hid (Y9 S.l [] S.c l=some (fr,c)):=zH (by
    rw[HS.out.go,List.drop_of_length_le (by rw[HLN.out];omega)];rfl)
   have HE:=zH (zf GOOD.out HG.out);have SQ:Hid (Vi S.c fr /\ ∀y∈fr,y∈l):=zH (by
    obtain⟨t,h1,h2,h3⟩:=ze l [] S.c (by rw[List.append_nil];exact HI.out.nms) (fun n hn=>(Yd (FRM.out n hn)).2.2) HG.out;rw[List.nil_append]at h1;subst h1;exact⟨h2,h3⟩)
   have FL:Hid (S.l.length+fr.length<=400):=zH (by have:=HS.out.fl;have:=HLEN.out;omega);have YL:Hid (ys.length=fr.length):=zH (by rw[<-HS.out.eq,List.length_map]);have MP:=zH HS.out.map;have RY:=zH (Y3.of_own HS.out.own);have RG:=zH HS.out.own;have BW:=zH HS.out.bel;have YE:=zH HS.out.eq;have YM:=zH HS.out.mem;have PW:=zH (show wr.heap[pB]? = some (.cells #[.pointer (some ⟨p,0,none⟩)] 27)from Z7 HS.out.bel P2.out);have CA:Hid (∀W,Zb (Yl p mb G SF) wr W -> ∀y∈xs,y.ok W):=zH (fun W hS y hy=>Z5D (HR.out W ((Zb.of_below (B2.out.trans (HS.out.bel.mono B2.out.size))).trans hS)) hy);have H5:=zH (HH.out.below (B2.out.trans (HS.out.bel.mono B2.out.size)));have BT:=zH (B2.out.trans (HS.out.bel.mono B2.out.size));clear HS t0;go_upto_region 18 with fail;go_wp2_with (first
    |(at_len;refine JU rfl _ 106 47 rfl Tryz.underlying106 km (S.l.length+fr.length) rfl MP.out ?_;intro kk hkk;have tkk:decide ((400:Int) < (kk:Int))=false:=(by have:=FL.out;simp;omega))
    | fail)
   clear tkk hkk;obtain⟨fn,hfn⟩:=zX (fr.length);rw[hfn.out]at RY RG YL FL ⊢;have F63:Hid ((fn:Int)<=9223372036854775807):=zH (by have:=FL.out;omega);generalize wr=V at *;go_loopw [83] (fun iv wr=>∃(j:Nat) (G':Nm->Option LN) (SF':Nat->Prop),iv = .int .i64 (j:Int)/\j<=fn/\Hid (Yf wr p mb sp G' SF' (S.adds (fr.take j))/\Zb (Yl p mb G SF) V wr/\(∀k,Yl p mb G' SF' k->Yl p mb G SF k\/V.heap.size<=k) /\ ∀k x,G k=some x->G' k=some x)) (fun iv _=>fn - (intOf iv).toNat)
   case atStart=>exact⟨0,G,SF,rfl,Nat.zero_le _,zH ⟨H5.out,Zb.of_below (Below.refl _ _),fun k hk=>.inl hk,fun k x h=>h⟩⟩
   case round=>
    obtain⟨j,G',SF',rfl,hj,HJ⟩:=hrel;by_cases hjn:j < fn
    ·have t0:decide ((j:Int) < (fn:Int))=true:=by simp;omega
     obtain⟨y,Hy⟩ : ∃y,ys[j]? = some y:=⟨_,List.getElem?_eq_getElem (by rw[YL.out];exact hjn)⟩;have FY:=zH (show fr[j]? = some y.n by rw[<-YE.out,List.getElem?_map,Hy];rfl);have YX:=zH (YM.out y (List.mem_of_getElem? Hy));have RJ:=zH (Y3.of_own (Ze RG.out HJ.out.2.1 (fun b hb hF=>absurd (HH.out.lt b hF) (by have h1:=(RG.out.lt b hb).1;have h2:=B2.out.size;omega))));obtain⟨b,off,rfl,hat⟩:=Z9s RJ.out (by omega);obtain⟨o,ho⟩:=zX (off+j * 19);have HY:=zH (hat j y Hy);rw[ho.out]at HY;have hix:=fun W=>Yi (W:=W) (c:=fc) (b:=b) Tryz.underlying24 J19 hjn ho.out;have HK64:Hid ((j:Int)+1<=9223372036854775807):=zH (by have:=F63.out;omega);have PJ:=zH ((HJ.out.2.1.block pB (Zk PW.out) (fun hF=>absurd (HH.out.lt pB hF) (by have:=hpB.out;omega))).trans PW.out);clear hat Hy;go_upto_region 23 with (first
      |(refine wpList_load_mid rfl 47 _ rfl b o rfl (y.n.cells y.sa y.sc) _ HY.out Tryz.underlying47 rfl (Z0x y.n y.sa y.sc) ?_)
      |(refine zP wr wr.heap.size (Z5 y.n y.sa y.sc) ?_))
     clear t0 hix;have bt:Below wr.heap.size wr (wr.alloc (.cells (Z5 y.n y.sa y.sc) 47)):=zB _ _;have N14:=zH (Za wr (.cells (Z5 y.n y.sa y.sc) 47));have HT:=zH (HJ.out.1.below bt);have ST:=zH (HJ.out.2.1.trans (Zb.of_below bt));have FT:=zH HJ.out.2.2.1;have KG:=zH HJ.out.2.2.2;have PT:=zH (Z7 bt PJ.out);obtain⟨p14,hp14⟩:=zX (wr.heap.size);rw[hp14.out]at N14;rw[hp14.out];generalize wr.alloc (.cells (Z5 y.n y.sa y.sc) 47)=wt at *;clear bt HJ PJ HY RJ;have cB:=Z6 PT.out 0 (.pointer (some ⟨p,0,none⟩)) rfl;go_wp2_with (first
      |(refine zL p14 N14.out ?_))
     clear cB;have FT2:=zH (show ∀k,Yl p mb G' SF' k->Yl p mb G SF k\/V.heap.size<=k from FT.out);have FSUB:Hid (∀x∈fr.take j,Zg S.f x=true/\x.Ok):=zH (fun x hx=>by have h1:=SQ.out.2 x (List.mem_of_mem_take hx);exact⟨FRM.out x h1,HOK.out x h1⟩);have HIJ:=zH (Z0N (fr.take j) S HI.out (Z1s fr S.c j SQ.out.1) FSUB.out);have YF:=zH (show Zg (S.adds (fr.take j)).f y.n=true by rw[Z1D];exact FRM.out y.n (SQ.out.2 y.n (List.mem_of_getElem? FY.out)));have YO:=zH (HOK.out y.n (SQ.out.2 y.n (List.mem_of_getElem? FY.out)));refine(Z4w p mb sp G' SF' (S.adds (fr.take j)) y.n y.sa y.sc wt HT.out HIJ.out (fun W hS=>CA.out W (Xl ST.out hS FT2.out) y YX.out) YF.out YO.out (Z3T fr S j y.n SQ.out.1 FY.out) (by rw[Z8g,List.length_take];have:=FL.out;omega)).mono ?_;rintro e w8 ⟨rfl,ta,tc,SF2,hh8,hs8,hf8⟩;have HN:=zH (show Yf w8 p mb sp (YH G' (Zi y.n) ⟨y.n,ta,tc⟩) SF2 (S.adds (fr.take (j+1)))/\Zb (Yl p mb G SF) V w8/\(∀k,Yl p mb (YH G' (Zi y.n) ⟨y.n,ta,tc⟩) SF2 k->Yl p mb G SF k\/V.heap.size<=k) /\ ∀k x,G k=some x->YH G' (Zi y.n) ⟨y.n,ta,tc⟩ k=some x from⟨by rw[Jp FY.out,ZaV];exact hh8,Xl ST.out hs8 FT2.out,fun k hk=>by
      rcases hf8 k hk with h1 | h1
      ·exact FT2.out k h1
      ·exact .inr (Nat.le_trans ST.out.size h1),fun k x hk=>by
      unfold YH;by_cases e:k=Zi y.n
      ·have h1:=HH.out.gs k x hk;have h2:=HIJ.out.nms.le (show x.n∈(S.adds (fr.take j)).l by rw[Z1C];exact Z3o h1.1);have h3:=Z3T fr S j y.n SQ.out.1 FY.out;have h4:Zi x.n=Zi y.n:=h1.2.trans e;have h5:x.n.house=y.n.house/\x.n.num=y.n.num:=by simpa [Zi] using h4
       rw[h5.1]at h2;omega
      ·rw[if_neg e];exact KG.out k x hk⟩)
     clear hh8 hs8 hf8 HT ST FT FT2 PT N14;have hk64:=HK64.out;go_wp2;go_roundw
     case rel=>exact⟨j+1,YH G' (Zi y.n) ⟨y.n,ta,tc⟩,SF2,by go_num,by omega,HN⟩
     case measure=>simp[intOf];omega
    ·have t0:decide ((j:Int) < (fn:Int))=false:=by simp;omega
     have HF:=zH (show Yf wr p mb sp G' SF' (S.adds fr)by have h1:=HJ.out.1;rwa [List.take_of_length_le (by have:=hfn.out;omega)]at h1);go_wp2_with fail;go_returns;exact⟨by rw[HE.out,hfn.out] <;> rfl,by rw[HE.out];exact⟨G',SF',HF.out,(Zb.of_below BT.out).trans HJ.out.2.1,fun k hk=>(HJ.out.2.2.1 k hk).imp id (fun h=>Nat.le_trans BT.out.size h),HJ.out.2.2.2⟩⟩
end
theorem Z5L (p mb sp:Nat)(G:Nm->Option LN)(SF:Nat->Prop)(S:Zf)(a:zA)(nn nc:Nat)(l:List Z8)(xs:List LN)(w:World)(hh:Yf w p mb sp G SF S)(hi:Xh S)(hxs:xs.map LN.n=l)
  (hr : ∀W,Zb (Yl p mb G SF) w W->zk W a nn nc xs) (hok : ∀x∈l,x.Ok) (hlen:S.l.length+nn<=400):
  Calls zq 13 #[.pointer (some ⟨p,0,none⟩),.slice a nn nc] w fun e w'=>Zdt w p mb sp G SF S l e w':=
 (Z4v p mb sp G SF S a nn nc l xs w hh hi hxs hr hok hlen).mono fun _ _ ⟨h1,G',SF',h2,h3,h4,_⟩=>⟨h1,G',SF',h2,h3,h4⟩
def Z9h (lo hi:Nat)(W:World)(a:zA)(n c:Nat)(zs:List LN):Prop:=hi<=W.heap.size /\ ∀W2,Zb (fun k=>k < lo\/hi<=k) W W2->zk W2 a n c zs
theorem Z9h.rd {lo hi:Nat}{W:World}{a:zA}{n c:Nat}{zs:List LN}(h:Z9h lo hi W a n c zs):zk W a n c zs:=h.2 W (Zb.refl _ _)
theorem Z1O {W:World}{a:zA}{n c:Nat}{xs:List LN}(h:Y3 W 19 a n c (ZH xs))(hs : ∀x∈xs,x.ok W):zk W a n c xs:=by
 have hl:xs.length=n:=by have:=h.len;rw[Uv]at this;omega
 refine⟨hl,h.2.1,h.2.2.1,?_⟩;rcases h.2.2.2 with h0 | ⟨b,off,rfl,h4⟩
 ·exact .inl h0
 ·refine .inr ⟨b,off,rfl,fun i x hx=>?_⟩;have hi:=(List.getElem?_eq_some_iff.1 hx).1;obtain⟨b',off',e,hat⟩:=Z9s h (by omega);cases e;exact⟨hat i x hx,hs x (List.mem_of_getElem? hx)⟩
theorem Vq.kept {V W:World}{a:zA}{c n:Nat}{ys:List LN}(h:Vq V W a c n ys):Z9h V.heap.size W.heap.size W a n c ys:=
 ⟨Nat.le_refl _,fun W2 hs=>Z1O (Y3.of_own (Ze h.own hs (fun b hb hx=>by have:=h.own.lt b hb;omega)))
  (fun y hy=>Y3.of_own (Ze (h.str y hy) hs (fun b hb hx=>by have:=(h.str y hy).lt b hb;omega)))⟩
def zm (f:Yo)(l m:List Z8)(w:World)(e:Ending)(W:World):Prop:=
 (e = .returned (.tuple #[.slice none 0 0,.int .i64 (JS f l m)])/\JS f l m≠0) \/
 ∃(ua:zA) (un uc:Nat) (zs:List LN),e = .returned (.tuple #[.slice ua un uc,.int .i64 0])/\JS f l m=0/\Vq w W ua uc un zs/\IsU l m (zs.map LN.n)
theorem zm.bad {f:Yo}{l m:List Z8}{w W:World}{e:Ending}(he:e = .returned (.tuple #[.slice none 0 0,.int .i64 (JS f l m)]))(h:JS f l m≠0):zm f l m w e W := .inl ⟨he,h⟩
theorem zm.good {f:Yo}{l m:List Z8}{w W:World}{e:Ending}{ua:zA}{un uc:Nat}{zs:List LN}(he:e = .returned (.tuple #[.slice ua un uc,.int .i64 (JS f l m)]))(h:JS f l m=0)(hr:Vq w W ua uc un zs)(hu:IsU l m (zs.map LN.n)):zm f l m w e W:=
 .inr ⟨ua,un,uc,zs,by rw[he,h],h,hr,hu⟩
theorem Z7n (f:Yo)(a:zA)(nn nc:Nat)(l:List Z8)(ma:zA)(mn mc:Nat)(m:List Z8)(w:World)(hr:Qs w a nn nc l)(hok : ∀x∈l,x.Ok)(hm:Qs w ma mn mc m)(hokm : ∀x∈m,x.Ok)
  (hlen:(Zs f l).1=0->(Zs f m).1=0->l.length+m.length<=400):
  Calls zq 15 #[f.val,.slice a nn nc,.slice ma mn mc] w fun e w'=>zm f l m w e w'/\Below w.heap.size w w':=by
 have J2:(zq.info? 45).map (·.size)=some 2:=by kernel_rfl
 have BO:=zH (fun W hb=>ZcG f a nn nc l ma mn mc m W (hr.below (show Below w.heap.size w W from hb)) hok (hm.below hb) hokm);have HOK:=zH hok;have HOKM:=zH hokm;have HLEN:=zH hlen;have hvl:f.val = .agg #[.int .i64 f.rings,.int .i64 f.sectors,.int .i64 f.wide]:=rfl;rw[hvl]at BO ⊢;clear hvl hr hok hm hokm hlen;have B0:=zH (zB w (zF f 23));have F0:=zH (Za w (zF f 23));go_enter Tryz.func15,Tryz.ntmps15;go_upto_region 1 with fail;obtain⟨pF,hpF⟩:=zX (w.heap.size);rw[hpF.out]at F0 ⊢;generalize w.alloc (zF f 23)=W0 at *;have c0:=Z6 F0.out 0 (.int .i64 f.rings) rfl;have c1:=Z6 F0.out 1 (.int .i64 f.sectors) rfl;have c2:=Z6 F0.out 2 (.int .i64 f.wide) rfl;go_wp2_with fail;refine(BO.out W0 B0.out).mono ?_;clear c0 c1 c2;rintro e W1 ⟨h1,b1⟩;have B1:=zH (B0.out.trans (b1.mono B0.out.size));clear b1 F0;rcases h1 with ⟨hbad,o1,o2,rfl⟩ | ⟨hs1,hs2,b,xs,c,ys,rfl,sa,sb,hne⟩
 ·have HE:Hid (JS f l m=1):=zH (by unfold JS;rw[if_neg hbad]);clear hbad;go_wp2_with fail;go_returns;exact⟨.bad (by rw[HE.out] <;> rfl) (by rw[HE.out];decide),B1.out⟩
 have HS:=zH hs1;have HS2:=zH hs2;have SA:=zH sa;have SB:=zH sb;have NE:=zH hne;have HL4:=zH (HLEN.out hs1 hs2);clear hs1 hs2 sa sb hne;have PL:Hid (l.Pairwise UX):=zH (Qk HS.out).2.2.2;have PM:Hid (m.Pairwise UX):=zH (Qk HS2.out).2.2.2;have NDL:Hid (((xs.map LN.n).map Zi).Nodup):=zH (by rw[SA.out.eq];exact Yt PL.out);have NDM:Hid (((ys.map LN.n).map Zi).Nodup):=zH (by rw[SB.out.eq];exact Yt PM.out);go_wp2_with fail;refine(Zcc b c l m xs ys W0 W1 SA.out SB.out PL.out (Yt PM.out) HOK.out (Nat.le_trans (Qk HS.out).2.1 (by decide))).mono ?_;rintro e W2 ⟨rfl,b2⟩;have B2:=zH (B1.out.trans (b2.mono B1.out.size));have SA2:=zH (SA.out.below b2);have SB2:=zH (SB.out.below b2);clear b2 B1 SA SB;cases hfk:Z08 l m with
 | some nm=>
  have HE:Hid (JS f l m=81):=zH (by unfold JS;rw[if_pos ⟨HS.out,HS2.out⟩,hfk]);have e1:Z0G l m=(nm,true):=by unfold Z0G;rw[hfk]
  rw[e1];clear e1 hfk;go_wp2_with fail;go_returns;exact⟨.bad (by rw[HE.out] <;> rfl) (by rw[HE.out];decide),B2.out.alloc B2.out.size _⟩
 | none=>
  have HE:Hid (JS f l m=0):=zH (by unfold JS;rw[if_pos ⟨HS.out,HS2.out⟩,hfk]);have NF:Hid (Z4P (xs.map LN.n) (ys.map LN.n)):=zH (by rw[SA2.out.eq,SB2.out.eq];exact Z3k.1 hfk);have e1:Z0G l m=((0,0),false):=by unfold Z0G;rw[hfk]
  rw[e1];clear e1 hfk;have bt:Below W2.heap.size W2 (W2.alloc (.cells #[.int .i64 0,.int .i64 0] 45)):=zB _ _;have B3:=zH (B2.out.trans (bt.mono B2.out.size));have SA3:=zH (SA2.out.below bt);have SB3:=zH (SB2.out.below bt);go_upto_region 5 with fail;generalize W2.alloc (.cells #[.int .i64 0,.int .i64 0] 45)=W3 at *;clear bt B2 SA2 SB2;go_wp2_with fail;refine(Z6u b l.length c m.length (ZS xs) (ZS ys) W3 SA3.out.map SB3.out.map NE.out (by have:=HL4.out;omega)).mono ?_;rintro e W4 ⟨rfl,hm4,hs4⟩;have M4:=zH hm4;have B4:Hid (Below w.heap.size w W4):=zH (hs4.below B3.out B3.out.size (fun k hk=>by subst hk;exact Nat.le_trans B0.out.size SA3.out.ge));have OKX:Hid (∀x∈xs,x.ok W4):=zH (fun x hx=>Z9o (SA3.out.ok x hx) hs4 (by obtain⟨es,cl,h⟩:=SA3.out.map.blk;exact⟨es,cl,h⟩));have OKY:Hid (∀x∈ys,x.ok W4):=zH (fun x hx=>Z9o (SB3.out.ok x hx) hs4 (by obtain⟨es,cl,h⟩:=SA3.out.map.blk;exact⟨es,cl,h⟩));have HXY:Hid (∀k x,XN (ZS xs) (ZS ys) k=some x->x.ok W4/\VI k/\x.n.strokes.length<=1000000000):=zH (fun k x h=>by
   unfold XN at h;split at h
   ·rename_i y hy;rw[Option.some.inj h]at hy;obtain⟨h1,h2⟩:=ZP hy;have h3:x.n∈m:=by rw[<-SB3.out.eq];exact List.mem_map_of_mem h1
    subst h2;exact⟨OKY.out x h1,⟨(HOKM.out _ h3).house,(HOKM.out _ h3).num⟩,Nat.le_trans (Xq (Qk HS2.out).1 ((Qk HS2.out).2.2.1 _ h3)) (by decide)⟩
   ·obtain⟨h1,h2⟩:=ZP h;have h3:x.n∈l:=by rw[<-SA3.out.eq];exact List.mem_map_of_mem h1
    subst h2;exact⟨OKX.out x h1,⟨(HOK.out _ h3).house,(HOK.out _ h3).num⟩,Nat.le_trans (Xq (Qk HS.out).1 ((Qk HS.out).2.2.1 _ h3)) (by decide)⟩)
  have EX:=zH SA3.out.eq;have EY:=zH SB3.out.eq;clear hm4 hs4 OKX OKY SA3 SB3 B3;go_upto_region 8 with fail;go_wp2_with (first
   |(at_len;refine JU rfl _ 119 47 rfl Tryz.underlying119 b (l.length+m.length) rfl M4.out ?_;intro kk hkk;have tkk:decide ((400:Int) < (kk:Int))=false:=(by have:=HL4.out;simp;omega))
   | fail)
  refine(Z5z b (l.length+m.length) (XN (ZS xs) (ZS ys)) W4 M4.out (by have:=HL4.out;omega)).mono ?_;rintro e W5 ⟨⟨na,nc,ks,rfl,h1,h2,h3,h4,h5⟩,b5⟩;have RN:=zH (Y3.of_own h1);have UU:=zH (show IsU l m ((ks.filterMap (XN (ZS xs) (ZS ys))).map LN.n)by
   have:=Zbi NDL.out NDM.out NF.out h2 h4 h3;rwa [EX.out,EY.out]at this)
  have HIN:=zH h4;have HKN:Hid (ks.length<=400):=zH (Nat.le_trans h5 HL4.out);have B5:=zH (B4.out.trans (b5.mono B4.out.size));have M5:=zH (M4.out.below b5);have HX5:=zH (show ∀k x,XN (ZS xs) (ZS ys) k=some x->x.ok W5/\VI k/\x.n.strokes.length<=1000000000 from fun k x h=>⟨(HXY.out k x h).1.below b5,(HXY.out k x h).2⟩);obtain⟨F,hF⟩:=zX (XN (ZS xs) (ZS ys));rw[hF.out]at UU HIN M5 HX5;obtain⟨kn,hkn⟩:=zX (ks.length);rw[hkn.out]at RN HKN ⊢;clear b5 h1 h2 h3 h4 h5 tkk hkk M4 HXY B4;go_wp2_with fail;go_loopw [13,42] (fun ov iv wr=>∃(q:Nat) (oa:zA) (on oc:Nat) (zs:List LN),ov = .slice oa on oc/\iv = .int .i64 (q:Int)/\q<=kn/\Hid (Vq W5 wr oa oc on zs)/\Hid (zs.map LN.n=((ks.take q).filterMap F).map LN.n)/\on<=q) (fun _ iv _=>kn - (intOf iv).toNat)
  case atStart=>exact⟨0,none,0,0,[],rfl,rfl,Nat.zero_le _,zH (Vq.start _),zH rfl,Nat.le_refl _⟩
  case round=>
   obtain⟨q,oa,on,oc,zs,rfl,rfl,hq,MA,HZ,hon⟩:=hrel;by_cases hlt:q < kn
   ·have t0:decide ((q:Int) < (kn:Int))=true:=by simp;omega
    obtain⟨k,Hk⟩ : ∃k,ks[q]? = some k:=⟨_,List.getElem?_eq_getElem (by rw[hkn.out];exact hlt)⟩;obtain⟨y,hy⟩:=Option.isSome_iff_exists.1 (HIN.out k (List.mem_of_getElem? Hk));have GY:=zH hy;have HY:=zH (HX5.out k y hy);have HZ2:Hid (((ks.take (q+1)).filterMap F).map LN.n=zs.map LN.n ++ [y.n]):=zH (by
     rw[Jp Hk,List.filterMap_append,List.map_append,<-HZ.out,List.filterMap_cons_some hy];rfl)
    obtain⟨kb,koff,rfl,hk1,hk2⟩:=Z01 (RN.out.below MA.out.bel) Hk;obtain⟨o,ho⟩:=zX (koff+q * 2);rw[ho.out]at hk1 hk2;have hix:=fun W=>Yi (W:=W) (c:=nc) (b:=kb) Tryz.underlying75 J2 hlt ho.out;have HK64:Hid ((q:Int)+1<=9223372036854775807):=zH (by have:=HKN.out;omega);obtain⟨kh,km⟩:=k;dsimp only at hk1 hk2;clear Hk hy;go_upto_region 14 with fail;clear t0 hix hk1 hk2;have bt:Below wr.heap.size wr (wr.alloc (.cells #[.int .i64 kh,.int .i64 km] 45)):=zB _ _;have P7:=zH (Za wr (.cells #[.int .i64 kh,.int .i64 km] 45));have MA2:=zH (MA.out.below bt);obtain⟨p7,hp7⟩:=zX (wr.heap.size);rw[hp7.out]at P7 ⊢;generalize wr.alloc (.cells #[.int .i64 kh,.int .i64 km] 45)=wt at *;clear bt MA;have n0:=Z6 P7.out 0 (.int .i64 kh) rfl;have n1:=Z6 P7.out 1 (.int .i64 km) rfl;have hget:(Instr.lookup 119 (.map (some b)) (.agg #[.int .i64 kh,.int .i64 km]) false).run zq wt = .ok (.agg (Z5 y.n y.sa y.sc)) wt:=Z0z (t:=119) (M5.out.below MA2.out.bel) Tryz.underlying119 (Xc wt) kh km HY.out.2.1 GY.out;go_wp2_with fail;refine(QU y.n y.sa y.sc wt (HY.out.1.below MA2.out.bel) HY.out.2.2).mono ?_;rintro e w5 ⟨ta,tc,rfl,hown,b5⟩;have MA5:=zH (MA2.out.below b5);have HO5:=zH (Zx hown MA2.out.bel.size);have bn:Below w5.heap.size w5 (w5.alloc (.cells (Z5 y.n ta tc) 47)):=zB _ _;obtain⟨a',c',v9,hrun,ho9,hg9⟩:=JD (w5.alloc (.cells (Z5 y.n ta tc) 47)) W5.heap.size oa on oc _ (Zd MA5.out.own bn) _ 1 1 _ (Qb w5 y.n ta tc) (y.n.cells_one _ _) (by have:=HKN.out;omega) (Nat.le_trans MA5.out.bel.size bn.size);have MA9:=zH (MA5.out.add (x:=⟨y.n,ta,tc⟩) HO5.out ho9 hg9);have HZ9:Hid ((zs ++ [(⟨y.n,ta,tc⟩:LN)]).map LN.n=((ks.take (q+1)).filterMap F).map LN.n):=zH (by rw[HZ2.out,List.map_append];rfl);clear hown b5 bn ho9 hg9 MA5 HO5 n0 n1 hget MA2;have hk64:=HK64.out;go_wp2_with (first
     |(refine Xz rfl _ rfl y.n ta tc rfl ?_)
     |(refine Ym rfl _ _ _ rfl _ _ _ rfl rfl hrun ?_)
     | fail)
    go_roundw
    case rel=>exact⟨q+1,a',on+1,c',zs ++ [⟨y.n,ta,tc⟩],by go_num,by go_num,by omega,MA9,HZ9,by omega⟩
    case measure=>simp[intOf];omega
   ·have t0:decide ((q:Int) < (kn:Int))=false:=by simp;omega
    have UZ:Hid (IsU l m (zs.map LN.n)):=zH (by rw[HZ.out,List.take_of_length_le (by rw[hkn.out];omega)];exact UU.out);go_wp2_with fail;go_returns;exact⟨.good (by rw[HE.out] <;> rfl) HE.out (MA.out.mono B5.out) UZ.out,B5.out.trans (MA.out.bel.mono B5.out.size)⟩
def SlB (w:World)(v:Value)(l:zU):Prop := ∃a c,v = .slice a l.length c/\w.ownsRow 0 5 1 (.slice a l.length c) l.length (l.map Zr)
structure Zf1 (w:World)(p:Nat)(G:Nat->Prop)(v0 v1 v2 v3:Value)(SD SP FD FP:zU):Prop where
 blk:w.heap[p]? = some (.cells #[v0,v1,v2,v3] 136)
 s0:SlB w v0 SD
 s1:SlB w v1 SP
 s2:SlB w v2 FD
 s3:SlB w v3 FP
 g : ∀k,G k↔(k=p\/v0.ownBlock=some k\/v1.ownBlock=some k\/v2.ownBlock=some k\/v3.ownBlock=some k)
def foot (p:Nat)(v0 v1 v2 v3:Value)(k:Nat):Prop:=k=p\/v0.ownBlock=some k\/v1.ownBlock=some k\/v2.ownBlock=some k\/v3.ownBlock=some k
section
variable {w:World}{p:Nat}{G:Nat->Prop}{v0 v1 v2 v3:Value}{SD SP FD FP:zU}(h:Zf1 w p G v0 v1 v2 v3 SD SP FD FP){v:Value}{l:zU}(hv:SlB w v l)
include h hv
end
section
variable {w:World}{p:Nat}{G:Nat->Prop}{v0 v1 v2 v3:Value}{SD SP FD FP:zU}(h:Zf1 w p G v0 v1 v2 v3 SD SP FD FP){u u':Value}{l l':zU}(hu:SlB w u l)(hu':SlB w u' l')
include h hu hu'
end
theorem Z9t: ∀(zs:List LN) (q:Nat),(ZH zs).take (q * 19)=ZH (zs.take q)
 | [],q=>by simp[ZH]
 | x :: zs,0=>by simp[ZH]
 | x :: zs,q+1=>by
  have h1:ZH (x :: zs)=x.n.cells x.sa x.sc ++ ZH zs:=by simp[ZH]
  have h2:ZH (x :: zs.take q)=x.n.cells x.sa x.sc ++ ZH (zs.take q):=by simp[ZH]
  have h3:(x.n.cells x.sa x.sc).length=19:=rfl
  rw[List.take_succ_cons,h1,h2,<-Z9t zs q,List.take_append,h3,show(q+1) * 19 - 19=q * 19 by omega,List.take_of_length_le (by rw[h3];omega)]
theorem Z9u: ∀(zs:List LN) (q:Nat),(ZH zs).drop (q * 19)=ZH (zs.drop q)
 | [],q=>by simp[ZH]
 | x :: zs,0=>by simp[ZH]
 | x :: zs,q+1=>by
  have h1:ZH (x :: zs)=x.n.cells x.sa x.sc ++ ZH zs:=by simp[ZH]
  have h3:(x.n.cells x.sa x.sc).length=19:=rfl
  rw[List.drop_succ_cons,h1,<-Z9u zs q,List.drop_append,h3,show(q+1) * 19 - 19=q * 19 by omega,List.drop_of_length_le (by rw[h3];omega),List.nil_append]
theorem Zde {w:World}{xa:zA}{n c:Nat}{zs:List LN}(hrd:Y3 w 19 xa n c (ZH zs))(L H:Nat)(lo hi:Option Value)
  (hl:(lo=none/\L=0) \/ ∃kd,lo=some (.int kd (L:Int))) (hh:(hi=none/\H=n) \/ ∃kd,hi=some (.int kd (H:Int))) (h1:L<=H) (h2:H<=n):
  ∃a',(∀W,(Instr.sliceAt 24 (.slice xa n c) lo hi none).run zq W = .ok (.slice a' (H - L) (c - L)) W)/\Y3 w 19 a' (H - L) (c - L) (ZH ((zs.drop L).take (H - L))):=by
 obtain⟨i,hi',_,hz1,_⟩:=info_parts Z7N;obtain⟨a',hs,hr⟩:=Y3.sliced hrd L H h1 h2;have hnc:=hrd.2.1;refine⟨a',fun W=>?_,by rw[Z9u,Z9t]at hr;exact hr⟩;rw[<-hs];have hel:zq.elem 24=47:=by simp[Program.elem,Tryz.underlying24]
 rw[run_sliceAt_slice (P:=zq) W 24 _ _ _ _ (by rw[hel];exact Tryz.underlying24),run_slice_any (P:=zq) W 24 xa n c (by rw[hel];exact Tryz.underlying24)];have hb:(Instr.sliceBounds true n c lo hi none).run zq W = .ok (L,H,c) W:=by
  rcases hl with ⟨rfl,rfl⟩ | ⟨kd,rfl⟩
  ·rcases hh with ⟨rfl,rfl⟩ | ⟨kd',rfl⟩
   ·simp[Instr.sliceBounds]
   ·simp[Instr.sliceBounds,run_sliceBound,Result.andThen,(by omega:H<=c)]
  ·rcases hh with ⟨rfl,rfl⟩ | ⟨kd',rfl⟩
   ·simp[Instr.sliceBounds,run_sliceBound,Result.andThen,h1]
   ·simp[Instr.sliceBounds,run_sliceBound,Result.andThen,(by omega:H<=c),h1]
 rw[hb,hel];simp[Result.andThen,sizeOf,typeInfo,hi',hz1]
def Xi (l:List (zU)):zU:=(l.map ZB).flatten
def Jy (l:List (zU)):zU:=(l.map ZQ).flatten
theorem JQ (x:zU)(l:List (zU)):Xi (x :: l)=ZB x ++ Xi l:=by simp[Xi]
theorem VT (x:zU)(l:List (zU)):Jy (x :: l)=ZQ x ++ Jy l:=by simp[Jy]
theorem Vn (l m:List (zU)):Xi (l ++ m)=Xi l ++ Xi m:=by simp[Xi]
theorem UD (l m:List (zU)):Jy (l ++ m)=Jy l ++ Jy m:=by simp[Jy]
theorem Z8a (l:List (zU)):(Jy l).length=4 * l.length:=by
 induction l with
 | nil=>rfl
 | cons x l ih=>rw[VT,List.length_append,ih,YU,List.length_cons];omega
theorem Zdl (n:Nat)(hn:n < 65536)(S:zU):QJ (two n ++ S) 0=n:=by
 simp only[QJ,two,List.cons_append,List.nil_append,List.getElem?_cons_zero,List.getElem?_cons_succ,Option.getD_some,UInt8.toNat_ofNat',Nat.zero_add];omega
theorem Z15 (x S:zU)(hx:x.length < 65536):QJ (ZB x ++ S) 0=x.length:=by
 rw[ZB,List.append_assoc];exact Zdl _ hx _
theorem Z4L (x S:zU):((ZB x ++ S).drop 2).take x.length=x:=by
 rw[ZB,List.append_assoc,show(two x.length ++ (x ++ S)).drop 2=x ++ S from rfl,List.take_left'];rfl
theorem Z5G (x S F:zU)(hx:x.length<=8192):Zz (ZB x ++ S) (ZQ x ++ F)=x :: Zz S F:=by
 have e1:=Z15 x S (by omega);have e2:=Z4L x S;rw[Z06 (by rw[List.length_append,YY];omega) (by rw[List.length_append,YU];omega) (by rw[e1];exact hx) (by rw[e1,List.length_append,YY];omega) (by
  rw[e1,e2,List.take_left' (YU x)]),e1,e2]
 rw[show x.length+2=(ZB x).length from(YY x).symm,List.drop_left,show 4=(ZQ x).length from rfl,List.drop_left]
theorem Z4n (l:List (zU))(hl : ∀x∈l,x.length<=8192)(S F:zU):Zz (Xi l ++ S) (Jy l ++ F)=l ++ Zz S F:=by
 induction l with
 | nil=>rfl
 | cons x l ih=>
  rw[JQ,VT,List.append_assoc,List.append_assoc,Z5G x _ _ (hl x (List.mem_cons_self ..)),ih (fun y hy=>hl y (List.mem_cons_of_mem _ hy))];rfl
theorem Zav (F:zU):Zz [] F=[]:=QS (by simp)
theorem Z5n (A B:zU)(n:Nat)(h:A.length<=n):(A ++ B).take n=A ++ B.take (n - A.length):=by rw[List.take_append,List.take_of_length_le h]
theorem Z7K: ∀(l:List (zU)) (_ : ∀x∈l,x.length<=8192) (a b:Nat),∃k,k<=l.length/\Zz ((Xi l).take a) ((Jy l).take b)=l.take k
 | [],_,a,b=>⟨0,Nat.le_refl _,by simp[Xi,Zav]⟩
 | x :: l,hl,a,b=>by
  have hx:=hl x (List.mem_cons_self ..)
  by_cases h:x.length+2<=a/\4<=b
  ·obtain⟨k,hk,e⟩:=Z7K l (fun y hy=>hl y (List.mem_cons_of_mem _ hy)) (a - (x.length+2)) (b - 4)
   refine⟨k+1,by simp;omega,?_⟩
   rw[JQ,VT,Z5n _ _ _ (by rw[YY];omega),Z5n _ _ _ (by rw[YU];omega),YY,YU,Z5G x _ _ hx,e]
   rfl
  ·refine⟨0,Nat.zero_le _,?_⟩
   apply QS
   rintro⟨h1,h2,h3,h4,h5⟩
   rw[List.length_take]at h1 h2 h4
   have ha:2<=a:=by omega
   have hb:4<=b:=by omega
   have e1:QJ ((Xi (x :: l)).take a) 0=x.length:=by
    rw[<-Z15 x (Xi l) (by omega),<-JQ];simp only[QJ,List.getElem?_take];rw[if_pos (by omega),if_pos (by omega)]
   rw[e1]at h4;omega
/-! One inverted bit. -/
theorem Z4x (v:UInt8)(b:Nat)(hb:b < 8):(v ^^^ UInt8.ofNat (2 ^ b)).toNat=v.toNat+2 ^ b\/(v ^^^ UInt8.ofNat (2 ^ b)).toNat+2 ^ b=v.toNat:=by
 have h : ∀v:Fin 256,∀b:Fin 8,v.val ^^^ 2 ^ b.val=v.val+2 ^ b.val\/(v.val ^^^ 2 ^ b.val)+2 ^ b.val=v.val:=by decide+kernel
 have h1:=h ⟨v.toNat,v.toNat_lt⟩ ⟨b,hb⟩;have h2:2 ^ b < 256:=by
  have:2 ^ b<=2 ^ 7:=Nat.pow_le_pow_right (by omega) (by omega);omega
 rw[UInt8.toNat_xor,UInt8.toNat_ofNat',Nat.mod_eq_of_lt h2];exact h1
theorem Z3O (b:Nat)(hb:b < 8):1<=2 ^ b/\2 ^ b<=128:=by
 constructor
 ·exact Nat.one_le_two_pow
 ·have:2 ^ b<=2 ^ 7:=Nat.pow_le_pow_right (by omega) (by omega);omega
theorem VS (l:zU)(i b j:Nat):(ZV l i b)[j]?.getD 0=if i=j/\i < l.length then (l[i]?.getD 0) ^^^ UInt8.ofNat (2 ^ b)else l[j]?.getD 0:=by
 unfold ZV;rw[List.getElem?_set];by_cases h:i=j
 ·subst h;by_cases h2:i < l.length
  ·simp[h2]
  ·simp[h2]
 ·simp[h]
theorem Z0H (l m:zU)(i b:Nat)(h:i < l.length):ZV (l ++ m) i b=ZV l i b ++ m:=by
 unfold ZV;rw[List.getElem?_append_left h,List.set_append_left _ _ h]
theorem QC (l m:zU)(i b:Nat)(h:l.length<=i):ZV (l ++ m) i b=l ++ ZV m (i - l.length) b:=by
 unfold ZV;rw[List.getElem?_append_right h,List.set_append_right _ _ h]
theorem Z4G (x y:zU)(j:Nat)(h : ∀k,k < j->x[k]?.getD 0=y[k]?.getD 0): ∀k,k<=j->QM x k=QM y k
 | 0,_=>rfl
 | k+1,hk=>by simp only[QM];rw[Z4G x y j h k (by omega),h k (by omega)]
theorem Z4H (x:zU)(j b:Nat)(hj:j < x.length): ∀m,(QM (ZV x j b) (j+1+m) - QM x (j+1+m) - ((j:Int)+1) * ((((x[j]?.getD 0) ^^^ UInt8.ofNat (2 ^ b)).toNat:Int) - ((x[j]?.getD 0).toNat:Int))) % 65521=0
 | 0=>by
  have e:=Z4G (ZV x j b) x j (fun k hk=>by rw[VS,if_neg (by omega)]) j (Nat.le_refl _)
  have h1:=VS x j b j
  rw[if_pos ⟨rfl,hj⟩]at h1
  simp only[QM]
  rw[e,h1,Int.mul_sub]
  omega
 | m+1=>by
  have ih:=Z4H x j b hj m
  have h1:=VS x j b (j+1+m)
  rw[if_neg (by omega)]at h1
  rw[show j+1+(m+1)=(j+1+m)+1 by omega]
  simp only[QM]
  rw[h1]
  generalize QM (ZV x j b) (j+1+m)=A at *
  generalize QM x (j+1+m)=B at *
  generalize (((j+1+m:Nat):Int)+1) * ((x[j+1+m]?.getD 0).toNat:Int)=C at *
  generalize ((j:Int)+1) * ((((x[j]?.getD 0) ^^^ UInt8.ofNat (2 ^ b)).toNat:Int) - ((x[j]?.getD 0).toNat:Int))=D at *
  omega
theorem Zce {x y:zU}(hx:x.length < 65536)(hy:y.length < 65536)(h:ZQ x=ZQ y):x.length=y.length/\chk x=chk y:=by
 have h1:=(Z24 (fo:=ZQ x) (by rw[YU];omega) hx).1 rfl;have h2:=(Z24 (fo:=ZQ x) (by rw[YU];omega) hy).1 (by rw[<-h];rfl);omega
theorem Z3X (xs:List LN): ∀r∈xs.map U5,r.length=19:=by
 intro r hr;obtain⟨x,_,rfl⟩:=List.mem_map.1 hr;exact Z2K x
theorem Zbw (xs:List LN): ∀r∈xs.map U5,∀v∈r,v.oneCell'=true:=by
 intro r hr;obtain⟨x,_,rfl⟩:=List.mem_map.1 hr;exact x.n.cells_one _ _
theorem VA.of_own {w:World}{base g n c:Nat}{xs:List LN}(h:w.ownsRow base 47 19 (.slice (some ⟨g,0,none⟩) n c) n (ZH xs))(hn:xs.length=n): ∃sz,VA w g 47 19 sz (xs.map U5):=by
 have hrd:=Y3.of_own h;rcases h.2 with ⟨h2,_⟩ | ⟨g',cap,cur,hv,_,hg,hnc,hcm,hs,ht⟩
 ·cases h2
 ·simp only[Value.slice.injEq,Option.some.injEq,Addr.mk.injEq]at hv;obtain⟨⟨rfl,_,_⟩,_,rfl⟩:=hv;refine⟨cur.size,⟨cur,hg,rfl⟩,by rw[List.length_map,hn,hs];exact Nat.mul_le_mul_right _ hnc,fun i r hi j v hj=>?_,Z3X xs,Zbw xs⟩;have h1:(ZH xs)[i * 19+j]? = some v:=(Uz 19 _ (Z3X xs) i r hi j (by rw[<-Z3X xs r (List.mem_of_getElem? hi)];exact(List.getElem?_eq_some_iff.1 hj).1)).trans hj;rw[<-ht,List.getElem?_take]at h1;split at h1
  ·rw[Array.getElem?_toList]at h1;simp[World.cell?,hg,h1]
  ·cases h1
theorem ZaN (w:World)(ty:TypeId)(g o m c:Nat)(hm:0 < m)(ht:w.there g o (m * 19)):
  (Builtin.clear_ #[24] ty #[.slice (some ⟨g,o,none⟩) m c]).run zq w = .ok (.tuple #[]) (w.setCells g o (Builtin.zeroCells (Z5 Zh none 0) m).toList):=by
 have hsz:(Builtin.zeroCells (Z5 Zh none 0) m).toList.length=m * 19:=by
  unfold Builtin.zeroCells;rw[Z1v];simp
 have h1 : ∀v∈(Builtin.zeroCells (Z5 Zh none 0) m).toList,v.oneCell'=true:=by
  intro v hv;unfold Builtin.zeroCells at hv;rw[Z1v]at hv;simp only[Array.toList_map,List.mem_map]at hv;obtain⟨i,_,rfl⟩:=hv;have hi:i % 19 < (Z5 Zh none 0).size:=by rw[Z1v];omega
  rw[getElem!_pos (Z5 Zh none 0) (i % 19) hi];exact(Array.all_eq_true_iff_forall_mem.1 (Zm Zh none 0)) _ (Array.getElem_mem hi)
 generalize hz:Z5 Zh none 0=z at *;have hst:=run_storeCells_cells (P:=zq) g o (Builtin.zeroCells z m).toList 0 w (fun j hj=>(ht j (by omega)).1) (fun j hj=>(ht j (by omega)).2) h1;simp only[Nat.add_zero]at hst;obtain⟨k,rfl⟩ : ∃k,m=k+1:=⟨m - 1,by omega⟩;have hzn : ∀W,(zeroValue 47).run zq W = .ok (.agg z) W:=fun W=>by rw[<-hz];exact Xc W
 simp[Builtin.clear_,run_underlying Tryz.underlying24,hzn,Value.cells,hst]
theorem Z0o {P:Program}{ops:Array Oper}{rest:List Oper}{op:Oper}{a:Act}{w w':World}{Q:Exit->Act->World->Prop}(hgd:op.guard=none)(s:Operand)(t:TypeId)(ho:op.op = .call { callee := .builtin .clear,args := #[s],argTypes := #[t] })(v1 v:Value)
  (hs:a.eval s=v1) (hr:(Builtin.clear_ #[t] op.type #[v1]).run P w = .ok v w') (h:wpList P ops Q rest (a.put op.dst v) w'):wpList P ops Q (op :: rest) a w:=by
 refine wpList_plain hgd fun K hK=>?_;unfold Oper.wp;simp[execOp,ho,resolve,invoke,builtin,hs,hr,Result.andThen];exact hK _ _ h
structure Z2h (xs R:List LN)(q:LN->Bool)(i j:Nat):Prop where
 len:R.length=xs.length
 kept:R.take i=(xs.take j).filter q
 todo:R.drop j=xs.drop j
 lt:i < j
 le:j<=xs.length
theorem Z2h.get {xs R:List LN}{q:LN->Bool}{i j k:Nat}(h:Z2h xs R q i j)(hk:j<=k):R[k]? = xs[k]? := by
 have h1:=congrArg (fun l=>l[k - j]?) h.todo;simp only[List.getElem?_drop]at h1;rwa [show j+(k - j)=k by omega]at h1
theorem Z84 {A:Type}{l m:List A}{j:Nat}(h : ∀k,j<=k->l[k]? = m[k]?):l.drop j=m.drop j:=by
 apply List.ext_getElem?;intro i;rw[List.getElem?_drop,List.getElem?_drop];exact h _ (Nat.le_add_right _ _)
theorem Z2h.keep {xs R:List LN}{q:LN->Bool}{i j:Nat}(h:Z2h xs R q i j){x:LN}(hx:xs[j]? = some x)(hq:q x=true):Z2h xs (R.set i x) q (i+1) (j+1):=by
 have hj:=(List.getElem?_eq_some_iff.1 hx).1;have hi:i < R.length:=by rw[h.len];have:=h.lt;omega
 refine⟨by rw[List.length_set];exact h.len,?_,Z84 fun k hk=>?_,Nat.succ_lt_succ h.lt,hj⟩
 ·rw[Jp (xs:=R.set i x) (by rw[List.getElem?_set_self hi]),Jp hx,List.filter_append,<-h.kept];congr 1
  ·exact List.take_set_of_le (Nat.le_refl _)
  ·simp[hq]
 ·rw[List.getElem?_set_ne (by have:=h.lt;omega)];exact h.get (by omega)
theorem Z2h.skip {xs R:List LN}{q:LN->Bool}{i j:Nat}(h:Z2h xs R q i j){x:LN}(hx:xs[j]? = some x)(hq:q x=false):Z2h xs R q i (j+1):=by
 have hj:=(List.getElem?_eq_some_iff.1 hx).1;refine⟨h.len,?_,Z84 fun k hk=>h.get (by omega),by have:=h.lt;omega,hj⟩;rw[Jp hx,List.filter_append,<-h.kept];simp[hq]
theorem Z2h.start {xs:List LN}{p:LN->Bool}{i:Nat}(h:xs.findIdx? p=some i):Z2h xs xs (fun x=>!p x) i (i+1):=by
 obtain⟨h1,h2,h3⟩:=List.findIdx?_eq_some_iff_getElem.1 h;have hx:xs[i]? = some xs[i]:=List.getElem?_eq_getElem h1;refine⟨rfl,?_,rfl,Nat.lt_succ_self i,h1⟩;rw[Jp hx,List.filter_append,List.filter_eq_self.2 (fun x hx=>?_)]
 ·simp[h2]
 ·obtain⟨j,hj,rfl⟩:=List.mem_take_iff_getElem.1 hx;have:=h3 j (by omega);simpa using this
theorem Z2h.done {xs R:List LN}{q:LN->Bool}{i:Nat}(h:Z2h xs R q i xs.length):R.take i=xs.filter q/\(xs.filter q).length=i:=by
 have h1:=h.kept;rw[List.take_length]at h1;refine⟨h1,?_⟩;rw[<-h1,List.length_take,h.len];have:=h.lt;omega
theorem ZbP {xs:List LN}{p:LN->Bool}(h:xs.findIdx? p=none):xs.filter (fun x=>!p x)=xs:=by
 rw[List.findIdx?_eq_none_iff]at h;exact List.filter_eq_self.2 fun x hx=>by simp[h x hx]
theorem Zbn {w w':World}{B g:Nat}{x:LN}{cur:Y6}(h:w.ownsRow B 3 1 (.slice x.sa x.n.strokes.length x.sc) x.n.strokes.length (x.n.strokes.map Ys))(hg:w.heap[g]? = some (.cells cur 47))(hs:Zb (fun k=>k=g) w w'):
  w'.ownsRow B 3 1 (.slice x.sa x.n.strokes.length x.sc) x.n.strokes.length (x.n.strokes.map Ys):=
 Ze h hs fun b hb e=>Zo h hg (by intro cur;simp) (by rw[hb,show b=g from e])
theorem Zcp (xs:List LN)(pred:LN->Bool)(fn:Nat)(cv:Value)(hfn : ∀(args:Y6) (w:World),(callFunc fn args).run zq w = .ok (.enter fn args) w)
  (a:zA) (n c:Nat) (V w:World) (hm:Vq V w a c n xs)
  (hp : ∀e∈xs,∀W,Zb (fun k=>Value.ownBlock (.slice a n c)=some k) w W->Calls zq fn #[.agg (Z5 e.n e.sa e.sc),cv] W fun r W'=>r = .returned (.bool (pred e))/\Below W.heap.size W W'):
  Calls zq 67 #[.slice a n c,.func (.func fn) #[] #[cv]] w fun e w'=>(∃a' i c',e = .returned (.slice a' i c')/\Z9h V.heap.size w'.heap.size w' a' i c' (xs.filter (fun x=>!pred x))/\i<=n)/\Below V.heap.size w w':=by
 have I43:=zH zI;have I19:(zq.info? 47).map (·.size)=some 19:=by kernel_rfl
 have RL:zk w a n c xs:=Z1O (Y3.of_own hm.own) (fun y hy=>Y3.of_own (hm.str y hy));have IX:=zH (Z4r xs pred fn cv hfn a n c w RL (fun e he W hb=>hp e he W (Zb.of_below hb)));have HM:=zH hm;have HR:=zH RL;have HPD:=zH hp;have HN:=zH hm.len;have hn63:n<=9223372036854775807:=by have h1:=RL.2.1;have h2:=RL.2.2.1;unfold maxLen at h2;omega
 have H63:=zH hn63;clear hm hp RL hn63;go_enter Tryz.func67,Tryz.ntmps67;go_wp2_with fail;refine IX.out.mono ?_;rintro e w1 ⟨rfl,b1⟩;have B1:=zH b1;clear b1;cases hix:xs.findIdx? pred with
 | none=>
  have hv:Z4s xs pred = -1:=by simp[Z4s,hix]
  have RF:=zH (show Z9h V.heap.size w1.heap.size w1 a n c (xs.filter (fun x=>!pred x))by rw[ZbP hix];exact(HM.out.below B1.out).kept);rw[hv];clear hv hix;go_wp2;go_ret;exact⟨⟨a,n,c,rfl,RF.out,Nat.le_refl _⟩,B1.out.mono HM.out.bel.size⟩
 | some i0=>
  have hv:Z4s xs pred=(i0:Int):=by simp[Z4s,hix]
  have D0:=zH (Z2h.start hix);rw[hv];clear hv hix;obtain⟨g,rfl,LG⟩ : ∃g,a=some ⟨g,0,none⟩/\Hid (V.heap.size<=g):=by
   rcases HM.out.own.2 with ⟨h2,h3⟩ | ⟨g,cap,cur,hv,hg,_⟩
   ·have h4:=D0.out.le;rw[HN.out,h3]at h4;omega
   ·cases hv;exact⟨g,rfl,zH hg⟩
  obtain⟨sz,SR⟩:=VA.of_own HM.out.own HN.out;have SR1:=zH (SR.below B1.out);have SM1:Hid (Zb (fun k=>k=g) w w1):=zH (Zb.of_below B1.out);have HPE:=zH (show ∀e∈xs,∀W,Zb (fun k=>k=g) w W->Calls zq fn #[.agg (Z5 e.n e.sa e.sc),cv] W fun r W'=>r = .returned (.bool (pred e))/\Below W.heap.size W W' from fun e he W hs=>HPD.out e he W (hs.weaken fun k hk=>by rw[show k=g from hk];rfl));have J6:Hid ((i0:Int)+1<=9223372036854775807):=zH (by have h1:=D0.out.le;have h2:=HN.out;have h3:=H63.out;omega);clear SR;have q1:((i0:Int) == -1)=false:=by rw[beq_eq_false_iff_ne];omega
  go_upto_region 4 with fail;clear q1;have hk64:=J6.out;go_wp2_with fail;clear hk64;go_loopw [5,6] (fun iv jv wr=>∃(i j:Nat) (R:List LN),iv = .int .i64 (i:Int)/\jv = .int .i64 (j:Int)/\j<=n/\Hid (Z2h xs R (fun x=>!pred x) i j)/\Hid (VA wr g 47 19 sz (R.map U5))/\Hid (Zb (fun k=>k=g) w wr)) (fun _ jv _=>n - (intOf jv).toNat)
  case atStart=>exact⟨i0,i0+1,xs,rfl,by go_num,by have:=D0.out.le;have:=HN.out;omega,D0,SR1,SM1⟩
  case round=>
   obtain⟨i,j,R,rfl,rfl,hj,DS,SR,SM⟩:=hrel;by_cases hlt:j < n
   ·have t0:decide ((j:Int) < (n:Int))=true:=by simp;omega
    obtain⟨x,Hx⟩ : ∃x,xs[j]? = some x:=⟨_,List.getElem?_eq_getElem (by rw[HN.out];exact hlt)⟩;have HX:=zH Hx;have hrx:(R.map U5)[j]? = some (U5 x):=by rw[List.getElem?_map,DS.out.get (Nat.le_refl _),Hx];rfl
    have HRX:=zH (SR.out.rng j _ hrx);obtain⟨o,ho⟩:=zX (0+j * 19);have ho2:j * 19=o:=by have:=ho.out;omega
    rw[ho2]at HRX;have hi:=fun W=>Yi (W:=W) (c:=c) (b:=g) Tryz.underlying24 I19 hlt ho.out;clear Hx hrx ho2;go_upto_region 8 with (first
     |(refine wpList_load_mid rfl 47 _ rfl g o rfl (x.n.cells x.sa x.sc) _ HRX.out Tryz.underlying47 rfl (by exact I19) ?_)
     |(refine zP wr wr.heap.size (Z5 x.n x.sa x.sc) ?_))
    clear t0 hi HRX;have bt:Below wr.heap.size wr (wr.alloc (.cells (Z5 x.n x.sa x.sc) 47)):=zB _ _;have P7:=zH (Za wr (.cells (Z5 x.n x.sa x.sc) 47));have SR2:=zH (SR.out.below bt);have SM2:Hid (Zb (fun k=>k=g) w _):=zH (SM.out.trans (Zb.of_below bt));have LG2:Hid (g < wr.heap.size):=zH (by obtain⟨cur,h1,_⟩:=SR.out.blk;exact Zk h1);obtain⟨p7,hp7⟩:=zX (wr.heap.size);rw[hp7.out]at P7 LG2 ⊢;generalize wr.alloc (.cells (Z5 x.n x.sa x.sc) 47)=wt at *;clear bt SR SM;go_wp2_with (refine zL p7 P7.out ?_);refine(HPE.out x (List.mem_of_getElem? HX.out) _ SM2.out).mono ?_;rintro e w3 ⟨rfl,b3⟩;have SR3:=zH (SR2.out.below b3);have SM3:Hid (Zb (fun k=>k=g) w w3):=zH (SM2.out.trans (Zb.of_below b3));have P73:=zH (Z7 b3 P7.out);have HJ64:Hid ((j:Int)+1<=9223372036854775807):=zH (by have h3:=H63.out;omega);clear b3 SR2 SM2 P7;cases hpx:pred x with
    | true=>
     have DS2:=zH (DS.out.skip HX.out (show(!pred x)=false by rw[hpx];rfl));clear hpx;go_upto_region 6 with fail;have hj64:=HJ64.out;go_wp2;go_roundw
     case rel=>exact⟨i,j+1,R,rfl,by go_num,by omega,DS2,SR3,SM3⟩
     case measure=>simp[intOf];omega
    | false=>
     have DS2:=zH (DS.out.keep HX.out (show(!pred x)=true by rw[hpx];rfl));clear hpx;have hin:i < n:=by have:=DS.out.lt;omega
     have hiR:i < (R.map U5).length:=by rw[List.length_map,DS.out.len,HN.out];exact hin
     have TH:=zH (SR3.out.there hiR);have ST:=zH (SR3.out.set hiR (r:=U5 x) rfl (Z5E x));obtain⟨u,hu⟩:=zX (0+i * 19);have hu2:i * 19=u:=by have:=hu.out;omega
     rw[hu2]at TH ST;have hiu:=fun W=>Yi (W:=W) (c:=c) (b:=g) Tryz.underlying24 I19 hin hu.out;have HI64:Hid ((i:Int)+1<=9223372036854775807):=zH (by have h3:=H63.out;omega);have ST2:=ST;rw[<-List.map_set]at ST2;clear hiR hu2 ST;go_upto_region 10 with (first
      |(refine zL p7 P73.out ?_)
      |(refine wpList_store_mid rfl 47 _ _ rfl g u (Z5 x.n x.sa x.sc) rfl rfl TH.out (I43.out _ _ _) (Zm x.n x.sa x.sc) ?_))
     have SM4:=zH (SM3.out.trans (V8 g u (Z5 x.n x.sa x.sc).toList w3));generalize hw4:w3.setCells g u (Z5 x.n x.sa x.sc).toList=w4 at *;have ST4:Hid (VA w4 g 47 19 sz ((R.set i x).map U5)):=zH (by rw[<-hw4];exact ST2.out);clear hw4 ST2 hiu TH SR3;have hi64:=HI64.out;go_upto_region 6 with fail;clear hi64;have hj64:=HJ64.out;go_wp2;go_roundw
     case rel=>exact⟨i+1,j+1,R.set i x,by go_num,by go_num,by omega,DS2,ST4,SM4⟩
     case measure=>simp[intOf];omega
   ·have t0:decide ((j:Int) < (n:Int))=false:=by simp;omega
    go_upto_region 11 with fail;clear t0;have hjn:j=xs.length:=by have:=HN.out;omega
    have DN:=zH (show R.take i=xs.filter (fun x=>!pred x)/\(xs.filter (fun x=>!pred x)).length=i from by have h:=DS.out;rw[hjn]at h;exact h.done);have hin:i < n:=by have:=DS.out.lt;omega
    have HIN:=zH hin;have hcn:=HR.out.2.1;have hcM:=HR.out.2.2.1;have RC:Hid (i<=n/\n<=c/\c<=maxLen):=zH ⟨by omega,hcn,hcM⟩;clear hcn hcM;obtain⟨inf,hi1,hi2⟩ : ∃t,zq.info? 47=some t/\t.size=19:=by
     cases hq:zq.info? 47 with
     | none=>simp[hq]at I19
     | some t=>exact⟨t,rfl,by simpa [hq] using I19⟩
    have hel:zq.elem 24=47:=by simp[Program.elem,Tryz.underlying24]
    have hcut1 : ∀W,(Instr.sliceAt 24 (.slice (some ⟨g,0,none⟩) n c) (some (.int .i64 (i:Int))) none none).run zq W = .ok (.slice (some ⟨g,i * 19,none⟩) (n - i) (c - i)) W:=fun W=>by
     have h1:=RC.out;rw[run_sliceAt_slice (P:=zq) W _ _ _ _ _ (by rw[hel];exact Tryz.underlying24),run_slice_any (P:=zq) W _ _ n c (by rw[hel];exact Tryz.underlying24)];simp[Instr.sliceBounds,run_sliceBound,Result.andThen,sizeOf,typeInfo,hel,hi1,hi2,sliced,h1.1,show ¬c=i by omega,Addr.add];omega
    have hcut2 : ∀W,(Instr.sliceAt 24 (.slice (some ⟨g,0,none⟩) n c) none (some (.int .i64 (i:Int))) none).run zq W = .ok (.slice (some ⟨g,0,none⟩) i c) W:=fun W=>by
     have h1:=RC.out;rw[run_sliceAt_slice (P:=zq) W _ _ _ _ _ (by rw[hel];exact Tryz.underlying24),run_slice_any (P:=zq) W _ _ n c (by rw[hel];exact Tryz.underlying24)];simp[Instr.sliceBounds,run_sliceBound,Result.andThen,sizeOf,typeInfo,hel,hi1,hi2,sliced,show i<=c by omega,Addr.add]
    have hthere:wr.there g (i * 19) ((n - i) * 19):=by
     intro k hk;obtain⟨cur,h1,h2⟩:=SR.out.blk;have h3:=SR.out.le;rw[List.length_map,DS.out.len,HN.out]at h3;have h4:(n - i) * 19+i * 19=n * 19:=by rw[<-Nat.add_mul];congr 1;omega
     have h5:i * 19+k < cur.size:=by omega
     exact⟨by simp[World.cell?,h1,h5],by simp[World.frozen?,h1]⟩
    have hclr:=fun ty=>ZaN wr ty g (i * 19) (n - i) (c - i) (by omega) hthere;have SMc:=zH (SM.out.trans (V8 g (i * 19) (Builtin.zeroCells (Z5 Zh none 0) (n - i)).toList wr));have RNG:=zH (show ∀q x,(xs.filter (fun x=>!pred x))[q]? = some x->(wr.setCells g (i * 19) (Builtin.zeroCells (Z5 Zh none 0) (n - i)).toList).rangeAt g (0+q * 19) (x.n.cells x.sa x.sc)from fun q x hx=>by
     have hq:=(List.getElem?_eq_some_iff.1 hx).1;rw[DN.out.2]at hq;rw[<-DN.out.1,List.getElem?_take,if_pos hq]at hx;have h1:=SR.out.rng q (U5 x) (by rw[List.getElem?_map,hx];rfl);rw[Nat.zero_add];refine World.rangeAt_setCells_apart h1 _ _ _ (.inr (.inl ?_));have h2:(q+1) * 19<=i * 19:=Nat.mul_le_mul_right _ hq;rw[Nat.add_mul]at h2;rw[Z2K];omega)
    clear hthere hi1 hi2 hel;generalize wr.setCells g (i * 19) (Builtin.zeroCells (Z5 Zh none 0) (n - i)).toList=wc at *;go_wp2_with (refine Z0o rfl _ _ rfl _ _ rfl (hclr _) ?_);go_ret;refine⟨⟨some ⟨g,0,none⟩,i,c,rfl,⟨Nat.le_refl _,fun W2 hs2=>⟨DN.out.2,by have h1:=RC.out;omega,RC.out.2.2,.inr ⟨g,0,rfl,fun q x hx=>⟨?_,?_⟩⟩⟩⟩,Nat.le_of_lt HIN.out⟩,?_⟩
    ·have hgl:g < wc.heap.size:=by
      have h1:=RNG.out q x hx 0 _ rfl;exact World.block_lt_of_cell? wc _ h1
     have hb:=hs2.block g hgl (fun h=>by have:=LG.out;omega);intro j v hj;have h1:=RNG.out q x hx j v hj;rw[<-h1];exact World.cell?_of_block hb
    ·obtain⟨cur,h1⟩ : ∃cur,w.heap[g]? = some (.cells cur 47):=by
      rcases HM.out.own.2 with ⟨h2,h3⟩ | ⟨g',cap,cur,hv,_,hg,_⟩
      ·cases h2
      ·cases hv;exact⟨cur,hg⟩
     have h3:=Zbn (HM.out.str x (List.mem_filter.1 (List.mem_of_getElem? hx)).1) h1 SMc.out;exact Y3.of_own (Ze h3 hs2 (fun b hb hx=>by have:=h3.lt b hb;omega))
    ·exact SMc.out.below (Below.refl _ _) HM.out.bel.size (fun k hk=>by rw[show k=g from hk];exact LG.out)
theorem Vs (r s d:Int)(w:World):Calls zq 52 #[.agg #[.int .i64 r,.int .i64 s,.int .i64 d]] w fun e w'=>e = .returned (.bool (Yo.valid ⟨r,s,d⟩))/\Below w.heap.size w w':=by
 have hb:=zB w (.cells #[.int .i64 r,.int .i64 s,.int .i64 d] 23);have hv:Yo.valid ⟨r,s,d⟩=(decide (1<=r) && (decide (r<=24) && (decide (2<=s) && (decide (s<=96) && (decide (1<=d) && decide (d<=s)))))):=by
  simp only[Yo.valid,Jw];grind
 rw[hv];clear hv;cases h0:decide (1<=r)
 ·go_enter Tryz.func52,Tryz.ntmps52;go_wp2;go_ret;exact⟨rfl,hb⟩
 ·cases h1:decide (r<=24)
  ·go_enter Tryz.func52,Tryz.ntmps52;go_wp2;go_ret;exact⟨rfl,hb⟩
  ·cases h2:decide (2<=s)
   ·go_enter Tryz.func52,Tryz.ntmps52;go_wp2;go_ret;exact⟨rfl,hb⟩
   ·cases h3:decide (s<=96)
    ·go_enter Tryz.func52,Tryz.ntmps52;go_wp2;go_ret;exact⟨rfl,hb⟩
    ·cases h4:decide (1<=d)
     ·go_enter Tryz.func52,Tryz.ntmps52;go_wp2;go_ret;exact⟨rfl,hb⟩
     ·cases h5:decide (d<=s)
      ·go_enter Tryz.func52,Tryz.ntmps52;go_wp2;go_ret;exact⟨rfl,hb⟩
      ·go_enter Tryz.func52,Tryz.ntmps52;go_wp2;go_ret;exact⟨rfl,hb⟩
theorem Zfc {P T:Nat->Nat->Nat->World->Prop}{G:Prop}(h1:(∀a b c W,P a b c W->T a b c W)->G)(h2 : ∀a b c W,P a b c W->T a b c W):G:=h1 h2
theorem Z7R (p mb sp:Nat)(G:Nm->Option LN)(SF:Nat->Prop)(S:Zf)(w:World)(hh:Yf w p mb sp G SF S)(hi:Xh S)(hlen:S.l.length<=400):
  Calls zq 14 #[.pointer (some ⟨p,0,none⟩)] w fun e w'=>(∃a un c zs,e = .returned (.slice a un c)/\Vq w w' a c un zs/\zs.map LN.n=S.l)/\Below w.heap.size w w':=by
 have LI:=zH (Z0B mb S.l.length G w hh.map (by omega) (hh.gok hi));have HH:=zH hh;have HI:=zH hi;have c4:=Z6 hh.blk 4 (.map (some mb)) rfl;have MD:=zH (U4 w p mb sp S.f S.id S.c hh.blk);clear hh hi hlen;go_enter Tryz.func14,Tryz.ntmps14;go_wp2_with fail;refine MD.out.mono ?_;rintro e w1 ⟨rfl,rfl⟩;go_wp2_with fail;refine LI.out.mono ?_;rintro e w2 ⟨⟨a,un,c,zs,ks,rfl,h1,h2,h3,h4,h5,h6⟩,b2⟩;have M:=zH h1;have E:Hid (zs.map LN.n=S.l):=zH (h2.trans (HH.out.list HI.out h3 h4 h5));have B:=zH b2;clear h1 h2 h3 h4 h5 h6 b2 c4;go_wp2;go_ret;exact⟨⟨a,un,c,zs,rfl,M.out,E.out⟩,B.out⟩
def Vp (c:Int->Nat):List Int:=[(c 1:Int),(c 2:Int),(c 3:Int),(c 4:Int),(c 5:Int),(c 6:Int),(c 7:Int),(c 8:Int)]
theorem Z7U (p mb sp:Nat)(G:Nm->Option LN)(SF:Nat->Prop)(S:Zf)(w:World)(hh:Yf w p mb sp G SF S):
  Calls zq 17 #[.pointer (some ⟨p,0,none⟩)] w fun e w'=>(∃a c,e = .returned (.slice a 8 c)/\Xs w' a 8 c (Vp S.c))/\Below w.heap.size w w':=by
 have RC:Xs w (some ⟨p,6,none⟩) 8 8 (Vp S.c):=⟨rfl,Nat.le_refl _,by unfold maxLen;omega,.inr ⟨p,6,rfl,fun j v hv=>by
  have hj:j < 8:=(List.getElem?_eq_some_iff.1 hv).1;refine Z6 hh.blk (6+j) v ?_;have:j=0\/j=1\/j=2\/j=3\/j=4\/j=5\/j=6\/j=7:=by omega
  rcases this with rfl | rfl | rfl | rfl | rfl | rfl | rfl | rfl <;> simpa [XE,Vp,Ys] using hv⟩⟩
 have CL:=zH (Z1A (some ⟨p,6,none⟩) 8 8 (Vp S.c) w (by decide) RC);have MD:=zH (U4 w p mb sp S.f S.id S.c hh.blk);have hsl:(Instr.sliceAt 107 (.pointer (some ⟨p,5,none⟩)) (some (.int .i64 1)) none none).run zq w = .ok (.slice (some ⟨p,6,none⟩) 8 8) w:=by
  have hsz:(zq.info? 3).map (·.size)=some 1:=by kernel_rfl
  cases hq:zq.info? 3 with
  | none=>simp[hq]at hsz
  | some i=>
   simp only[hq,Option.map_some,Option.some.injEq]at hsz;simp[Instr.sliceAt,run_underlying Tryz.underlying107,Instr.sureAddr,sizeOf,typeInfo,hq,hsz,Addr.add,Instr.sliceBounds,Instr.sliceBound,asIntOf,Result.andThen]
 clear hh RC;go_enter Tryz.func17,Tryz.ntmps17;go_wp2_with fail;refine MD.out.mono ?_;rintro e w1 ⟨rfl,rfl⟩;go_wp2_with fail;refine CL.out.mono ?_;rintro e w2 ⟨a,c,rfl,h1,b2⟩;have R:=zH (show Xs w2 a 8 c (Vp S.c)from Y3.of_own h1);have B:=zH b2;clear h1 b2 hsl;go_wp2;go_ret;exact⟨⟨a,c,rfl,R.out⟩,B.out⟩
def Z1i (cs:List Int)(n:Z8):Bool:=match cs[(n.house - 1).toNat]? with | some v=>decide (n.house<=(cs.length:Int)) && decide (n.num<=v) | none=>false
theorem Zai {cs:List Int}{n:Z8}(_h1:1<=n.house)(h:decide (n.house<=(cs.length:Int))=false):Z1i cs n=false:=by
 unfold Z1i;split
 ·rw[h];rfl
 ·rfl
theorem ZbK {cs:List Int}{n:Z8}{k:Nat}{v:Int}(hk:n.house=(k:Int)+1)(h:decide (n.house<=(cs.length:Int))=true)(hv:cs[k]? = some v):Z1i cs n=decide (n.num<=v):=by
 unfold Z1i;rw[show(n.house - 1).toNat=k by omega,hv];simp only[h,Bool.true_and]
theorem Z7B (args:Y6)(w:World):(callFunc 68 args).run zq w = .ok (.enter 68 args) w:=by kernel_rfl
theorem Z6t (cs:List Int)(ca:zA)(cn cc:Nat)(pB:Nat)(n:Z8)(sa:zA)(sc:Nat)(w:World)(hb:w.heap[pB]? = some (.cells #[.slice ca cn cc] 37))
  (hc:Xs w ca cn cc cs) (hn:1<=n.house/\n.house<=1000):
  Calls zq 68 #[.agg (Z5 n sa sc),.pointer (some ⟨pB,0,none⟩)] w fun e w'=>e = .returned (.bool (Z1i cs n))/\Below w.heap.size w w':=by
 have I1:(zq.info? 3).map (·.size)=some 1:=by kernel_rfl
 have HL:Hid (cs.length=cn):=zH (by have:=hc.len;simpa using this);obtain⟨k,hk⟩ : ∃k:Nat,n.house=(k:Int)+1:=⟨(n.house - 1).toNat,by omega⟩;have HK:=zH hk;have HB:=zH hn;have B0:=zH (zB w (.cells (Z5 n sa sc) 47));have N0:=zH (Za w (.cells (Z5 n sa sc) 47));have PB0:=zH (Z7 B0.out hb);have RC0:=zH (hc.below B0.out);clear hb hc hn hk;go_enter Tryz.func68,Tryz.ntmps68;go_upto_region 1 with fail;obtain⟨p2,hp2⟩:=zX (w.heap.size);rw[hp2.out]at N0;rw[hp2.out];generalize w.alloc (.cells (Z5 n sa sc) 47)=wr at *;have hC0:Below wr.heap.size wr wr.drew:=(Below.refl _ _).drew;have LB:=zH (show ∀w0,Below wr.heap.size wr w0->w0.heap[pB]? = some (.cells #[.slice ca cn cc] 37)from fun w0 h=>Z7 h PB0.out);have LN2:=zH (show ∀w0,Below wr.heap.size wr w0->w0.heap[p2]? = some (.cells (Z5 n sa sc) 47)from fun w0 h=>Z7 h N0.out);have BW:=zH (show ∀w0,Below wr.heap.size wr w0->Below w.heap.size w w0 from fun w0 h=>B0.out.trans (h.mono B0.out.size));have RW:=zH (show ∀w0,Below wr.heap.size wr w0->Xs w0 ca cn cc cs from fun w0 h=>RC0.out.below h);try simp only[Act.put,lq3,lq4,lq5]
 cases hq:decide (n.house<=(cn:Int))
 ·have MF:Hid (Z1i cs n=false):=zH (Zai (by have:=HB.out;omega) (by rw[HL.out];exact hq));refine zC (fun w':World=>Below wr.heap.size wr w') hC0 ?_;refine zv p2 0 ?_;refine zQ (.int .i64 n.house) (fun w0 hC=>?_) ?_
  ·have c0:=Z6 (LN2.out w0 hC) 0 (.int .i64 n.house) rfl;clear hC;go_simp
  refine zQ (.slice ca cn cc) (fun w0 hC=>?_) ?_
  ·have c0:=Z6 (LB.out w0 hC) 0 (.slice ca cn cc) rfl;clear hC;go_simp
  refine zV (.int .i64 (cn:Int)) ?_;refine zV (.bool false) ?_;go_big_quiet_step (fail)
  iterate 9 go_big_quiet_skip
  refine zV (.bool false) ?_;go_big_quiet_step (fail);refine wpQuiet_nil ?_;intro w' hC;have B9:=zH (BW.out w' hC);clear hC;go_wp2;go_ret;exact⟨by rw[MF.out] <;> rfl,B9.out⟩
 ·have MT:Hid (∀v,cs[k]? = some v->Z1i cs n=decide (n.num<=v)):=zH (fun v hv=>ZbK HK.out (by rw[HL.out];exact hq) hv);have hkc:k < cn:=by have h1:=HK.out;have h2:=of_decide_eq_true hq;omega
  obtain⟨v,hv⟩ : ∃v,cs[k]? = some v:=⟨_,List.getElem?_eq_getElem (by rw[HL.out];exact hkc)⟩;have MV:=zH (MT.out v hv);obtain⟨cb,coff,rfl,hat⟩:=RC0.out.at (show 0 < cn by omega);obtain⟨o,ho⟩:=zX (coff+k * 1);have hix:=zH (fun W=>Yi (W:=W) (c:=cc) (b:=cb) Tryz.underlying37 I1 hkc ho.out);have VC:=zH (show ∀w0,Below wr.heap.size wr w0->w0.cell? ⟨cb,o,none⟩=some (.int .i64 v)from fun w0 h=>by
   obtain⟨cb',coff',e,hat'⟩:=(RW.out w0 h).at (show 0 < cn by omega);cases e;have h3:=hat' k hkc;rw[hv]at h3;rw[<-ho.out,Nat.mul_one];exact h3)
  clear hat hkc hv MT;refine zC (fun w':World=>Below wr.heap.size wr w') hC0 ?_;refine zv p2 0 ?_;refine zQ (.int .i64 n.house) (fun w0 hC=>?_) ?_
  ·have c0:=Z6 (LN2.out w0 hC) 0 (.int .i64 n.house) rfl;clear hC;go_simp
  refine zQ (.slice (some ⟨cb,coff,none⟩) cn cc) (fun w0 hC=>?_) ?_
  ·have c0:=Z6 (LB.out w0 hC) 0 (.slice (some ⟨cb,coff,none⟩) cn cc) rfl;clear hC;go_simp
  refine zV (.int .i64 (cn:Int)) ?_;refine zV (.bool true) ?_;go_big_quiet_step (fail);refine zv p2 1 ?_;refine zQ (.int .i64 n.num) (fun w0 hC=>?_) ?_
  ·have c1:=Z6 (LN2.out w0 hC) 1 (.int .i64 n.num) rfl;clear hC;go_simp
  refine zQ (.slice (some ⟨cb,coff,none⟩) cn cc) (fun w0 hC=>?_) ?_
  ·have c0:=Z6 (LB.out w0 hC) 0 (.slice (some ⟨cb,coff,none⟩) cn cc) rfl;clear hC;go_simp
  refine zv p2 0 ?_;refine zQ (.int .i64 n.house) (fun w0 hC=>?_) ?_
  ·have c0:=Z6 (LN2.out w0 hC) 0 (.int .i64 n.house) rfl;clear hC;go_simp
  refine zQ (.int .i64 (k:Int)) (fun w0 hC=>?_) ?_
  ·have hk:=HK.out;have hb:=HB.out;clear hC;rw[hk];go_simp;rw[IntKind.wrap_i64];omega
  refine zQ (.pointer (some ⟨cb,o,none⟩)) (fun w0 hC=>?_) ?_
  ·have hi:=hix.out;clear hC;go_simp
  refine zQ (.int .i64 v) (fun w0 hC=>?_) ?_
  ·have hv:=VC.out w0 hC;clear hC;go_simp
  refine zV (.bool (decide (n.num<=v))) ?_;refine zV (.bool (decide (n.num<=v))) ?_;go_big_quiet_step (fail);refine wpQuiet_nil ?_;intro w' hC;have B9:=zH (BW.out w' hC);clear hC;go_wp2;go_ret;exact⟨by rw[MV.out] <;> rfl,B9.out⟩
def Zeb (l:List Z8)(w:World)(e:Ending)(W:World):Prop := ∃a i c zs,e = .returned (.slice a i c)/\Z9h w.heap.size W.heap.size W a i c zs/\zs.map LN.n=l
theorem Z20 (p mb sp:Nat)(G:Nm->Option LN)(SF:Nat->Prop)(S:Zf)(cs:List Int)(ca:zA)(cn cc:Nat)(w:World)(hh:Yf w p mb sp G SF S)(hi:Xh S)(hlen:S.l.length<=400)(hc:Xs w ca cn cc cs):
  Calls zq 16 #[.pointer (some ⟨p,0,none⟩),.slice ca cn cc] w fun e w'=>Zeb (S.l.filter (fun n=>!Z1i cs n)) w e w'/\Below w.heap.size w w':=by
 have B0:=zH (zB w (.cells #[.slice ca cn cc] 37));have P0:=zH (Za w (.cells #[.slice ca cn cc] 37));have HH:=zH (hh.below B0.out);have HI:=zH hi;have HC:=zH (hc.below B0.out);have HL:=zH hlen;clear hh hi hc hlen;go_enter Tryz.func16,Tryz.ntmps16;go_upto_region 1 with fail;obtain⟨pB,hpB⟩:=zX (w.heap.size);rw[hpB.out]at P0;rw[hpB.out];generalize w.alloc (.cells #[.slice ca cn cc] 37)=w1 at *;have c4:=Z6 HH.out.blk 4 (.map (some mb)) rfl;go_wp2_with fail;refine(U4 w1 p mb sp S.f S.id S.c HH.out.blk).mono ?_;rintro e w2 ⟨rfl,hw2⟩;rw[hw2];clear hw2 w2;go_upto_region 3 with fail;go_wp2_with fail;refine(Z0B mb S.l.length G w1 HH.out.map (by have:=HL.out;omega) (HH.out.gok HI.out)).mono ?_;rintro e w2 ⟨⟨a,un,c,zs,ks,rfl,h1,h2,h3,h4,h5,h6⟩,b2⟩;have M:=zH h1;have E:Hid (zs.map LN.n=S.l):=zH (h2.trans (HH.out.list HI.out h3 h4 h5));have B2:=zH (B0.out.trans (b2.mono B0.out.size));have P2:=zH (Z7 b2 P0.out);have C2:=zH (HC.out.below b2);have PL:=zH (Zk P0.out);have CK:Hid (∀W,Zb (fun k=>Value.ownBlock (.slice a un c)=some k) w2 W->Xs W ca cn cc cs/\W.heap[pB]? = some (.cells #[.slice ca cn cc] 37)):=zH (fun W hs=>by
  have hlt : ∀k,Value.ownBlock (.slice a un c)=some k->w1.heap.size<=k:=fun k hk=>(M.out.own.lt k hk).1;have hb:Below w1.heap.size w1 W:=hs.below b2 M.out.bel.size hlt;exact⟨HC.out.below hb,Z7 hb P0.out⟩)
 clear h1 h2 h3 h4 h5 h6 b2 c4;go_wp2_with fail;refine(Zcp zs (fun x=>Z1i cs x.n) 68 (.pointer (some ⟨pB,0,none⟩)) Z7B a un c w1 w2 M.out (fun e he W hs=>Z6t cs ca cn cc pB e.n e.sa e.sc W (CK.out W hs).2 (CK.out W hs).1 (by
  have hm:e.n∈S.l:=by rw[<-E.out];exact List.mem_map_of_mem he
  have h1:=Yd (HI.out.frm _ hm);omega))).mono ?_
 rintro e w3 ⟨⟨a',i,c',rfl,hr,hin⟩,b3⟩;have R3:Hid (Z9h w.heap.size w3.heap.size w3 a' i c' _):=zH ⟨hr.1,fun W2 hs2=>hr.2 W2 (hs2.weaken (fun k hk=>hk.imp (fun h=>Nat.lt_of_lt_of_le h B0.out.size) id))⟩;have B3:=zH (B0.out.trans ((M.out.bel.trans b3).mono B0.out.size));clear hr hin b3;go_wp2;go_ret;exact⟨⟨a',i,c',_,rfl,R3.out,by rw[<-E.out,List.filter_map];rfl⟩,B3.out⟩
theorem ZbI (m:Int)(h:m * 2 % 65521=0):m % 65521=0:=by
 obtain⟨q,hq⟩:=Int.dvd_of_emod_eq_zero h;have h1:q=2 * (m - 32760 * q):=by
  have e:2 * (m - 32760 * q)=m * 2 - 65520 * q:=by rw[Int.mul_sub,<-Int.mul_assoc,Int.mul_comm 2 m];rfl
  rw[e,hq,<-Int.sub_mul];exact(Int.one_mul q).symm
 have h2:m=65521 * (m - 32760 * q):=by
  refine Int.eq_of_mul_eq_mul_right (a:=2) (by decide) ?_;rw[hq,Int.mul_assoc,Int.mul_comm _ 2,<-h1]
 rw[h2];exact Int.mul_emod_right _ _
theorem ZcW (b:Nat): ∀(m:Int),(m * ((2 ^ b:Nat):Int)) % 65521=0->m % 65521=0:=by
 induction b with
 | zero=>intro m h;simpa using h
 | succ b ih=>
  intro m h;have h2:=ih (m * 2) (by rw[Int.mul_assoc];rw[Nat.pow_succ]at h;push_cast at h ⊢;rwa [Int.mul_comm 2 _]);exact ZbI m h2
theorem ZaO (x:zU)(j b:Nat)(hj:j < x.length)(hb:b < 8)(hx:x.length<=8192):chk (ZV x j b)≠chk x:=by
 intro h;have h1:=Z4H x j b hj (x.length - (j+1));rw[show j+1+(x.length - (j+1))=x.length by omega]at h1;have h2:=Z9c (ZV x j b);have h3:=Z9c x;rw[Z09,h,h3]at h2;rw[<-h2,Int.sub_self,Int.zero_sub]at h1;have h4:=Z4x (x[j]?.getD 0) b hb;have h5 : ¬(((j+1:Nat):Int) * ((2 ^ b:Nat):Int)) % 65521=0:=fun h5=>by have:=ZcW b _ h5;omega
 generalize ((x[j]?.getD 0) ^^^ UInt8.ofNat (2 ^ b)).toNat=P at *;generalize (x[j]?.getD 0).toNat=Q at *;generalize 2 ^ b=T at *;rcases h4 with h4 | h4
 ·have e:((j:Int)+1) * ((P:Int) - (Q:Int))=((j+1:Nat):Int) * (T:Int):=by
   rw[show(P:Int) - (Q:Int)=(T:Int)by omega];push_cast;rfl
  rw[e]at h1;omega
 ·have e:((j:Int)+1) * ((P:Int) - (Q:Int)) = -(((j+1:Nat):Int) * (T:Int)):=by
   rw[show(P:Int) - (Q:Int) = -(T:Int)by omega,Int.mul_neg];push_cast;rfl
  rw[e]at h1;omega
theorem Z7I (x S F:zU)(i b:Nat)(hi:i < x.length+2)(hb:b < 8)(hx:x.length<=8192):Zz (ZV (ZB x) i b ++ S) (ZQ x ++ F)=[]:=by
 apply QS;rintro⟨h1,h2,h3,h4,h5⟩;rw[List.take_left' (YU x)]at h5;have hlen:(((ZV (ZB x) i b ++ S).drop 2).take (QJ (ZV (ZB x) i b ++ S) 0)).length=QJ (ZV (ZB x) i b ++ S) 0:=by
  rw[List.length_take,List.length_drop];omega
 obtain⟨h6,h7⟩:=Zce (by omega) (by rw[hlen];omega) h5;rw[hlen]at h6;by_cases h:i < 2
 ·have h0:=Z15 x S (by omega);rw[<-Z0H _ _ _ _ (by rw[YY];exact hi)]at h6;have e0:=VS (ZB x ++ S) i b 0;have e1:=VS (ZB x ++ S) i b 1;have hl:i < (ZB x ++ S).length:=by rw[List.length_append,YY];omega
  obtain⟨b1,b2⟩:=Z3O b hb;have h8:=Z4x ((ZB x ++ S)[i]?.getD 0) b hb;simp only[QJ,Nat.zero_add]at h0 h6;have hc:i=0\/i=1:=by omega
  rcases hc with rfl | rfl
  ·rw[if_pos ⟨rfl,hl⟩]at e0;rw[if_neg (by omega)]at e1;rw[e0,e1]at h6;omega
  ·rw[if_pos ⟨rfl,hl⟩]at e1;rw[if_neg (by omega)]at e0;rw[e0,e1]at h6;omega
 ·have e:ZV (ZB x) i b=two x.length ++ ZV x (i - 2) b:=by
   rw[ZB,QC _ _ _ _ (by rw[Z9j];omega),Z9j]
  have e2:((ZV (ZB x) i b ++ S).drop 2).take (QJ (ZV (ZB x) i b ++ S) 0)=ZV x (i - 2) b:=by
   rw[<-h6,e,List.append_assoc,show(two x.length ++ (ZV x (i - 2) b ++ S)).drop 2=ZV x (i - 2) b ++ S from rfl,List.take_left' (Z09 ..)]
  rw[e2]at h7;exact ZaO x (i - 2) b (by omega) hb hx h7.symm
theorem Z7J (x S F:zU)(i b:Nat)(hi:i < 4)(hb:b < 8)(hx:x.length<=8192):Zz (ZB x ++ S) (ZV (ZQ x) i b ++ F)=[]:=by
 apply QS;rintro⟨h1,h2,h3,h4,h5⟩;rw[Z15 x S (by omega),Z4L,List.take_left' (by rw[Z09,YU])]at h5;have e:=VS (ZQ x) i b i;rw[if_pos ⟨rfl,by rw[YU];exact hi⟩,h5]at e;have h8:=Z4x ((ZQ x)[i]?.getD 0) b hb;rw[<-e]at h8;obtain⟨b1,b2⟩:=Z3O b hb;omega
theorem Z2L (l:List (zU))(hl : ∀x∈l,x.length<=8192)(k i b:Nat)(hb:b < 8)(hk:k < l.length)(h1:(Xi (l.take k)).length<=i)(h2:i < (Xi (l.take (k+1))).length):
  Zz (ZV (Xi l) i b) (Jy l)=l.take k:=by
 have e:l=l.take k ++ (l[k] :: l.drop (k+1)):=by rw[List.getElem_cons_drop,List.take_append_drop]
 have hx:l[k].length<=8192:=hl _ (List.getElem_mem hk);rw[List.take_add_one,List.getElem?_eq_getElem hk,Vn,List.length_append,show Xi (some l[k]).toList=ZB l[k]from by simp[Xi],YY]at h2;have e1:ZV (Xi l) i b=Xi (l.take k) ++ (ZV (ZB l[k]) (i - (Xi (l.take k)).length) b ++ Xi (l.drop (k+1))):=by
  conv=>lhs;rw[e]
  rw[Vn,QC _ _ _ _ h1,JQ,Z0H _ _ _ _ (by rw[YY];omega)]
 have e2:Jy l=Jy (l.take k) ++ (ZQ l[k] ++ Jy (l.drop (k+1))):=by
  conv=>lhs;rw[e]
  rw[UD,VT]
 rw[e1,e2,Z4n _ (fun x hx=>by have:=hl x (List.mem_of_mem_take hx);omega),Z7I _ _ _ _ _ (by omega) hb hx,List.append_nil]
theorem Z3x (l:List (zU))(hl : ∀x∈l,x.length<=8192)(i b:Nat)(hb:b < 8)(hi:i < 4 * l.length):
  Zz (Xi l) (ZV (Jy l) i b)=l.take (i / 4):=by
 have hk:i / 4 < l.length:=by omega
 generalize hK:i / 4=k at *;have e:l=l.take k ++ (l[k] :: l.drop (k+1)):=by rw[List.getElem_cons_drop,List.take_append_drop]
 have hx:l[k].length<=8192:=hl _ (List.getElem_mem hk);have hlen:(Jy (l.take k)).length=4 * k:=by rw[Z8a,List.length_take];omega
 have e1:Xi l=Xi (l.take k) ++ (ZB l[k] ++ Xi (l.drop (k+1))):=by
  conv=>lhs;rw[e]
  rw[Vn,JQ]
 have e2:ZV (Jy l) i b=Jy (l.take k) ++ (ZV (ZQ l[k]) (i - 4 * k) b ++ Jy (l.drop (k+1))):=by
  conv=>lhs;rw[e]
  rw[UD,QC _ _ _ _ (by omega),hlen,VT,Z0H _ _ _ _ (by rw[YU];omega)]
 rw[e1,e2,Z4n _ (fun x hx=>by have:=hl x (List.mem_of_mem_take hx);omega),Z7J _ _ _ _ _ (by omega) hb hx,List.append_nil]
theorem Z1x: ∀(r:Nat) (X Y:zU) (a b:Nat),Y.length<=r -> ∃k,Zz (X.take a) (Y.take b)=(Zz X Y).take k
 | 0,X,Y,a,b,hr=>⟨0,by rw[List.take_zero];exact QS (fun h=>by have:=h.2.1;rw[List.length_take]at this;omega)⟩
 | r+1,X,Y,a,b,hr=>by
  by_cases h:2<=(X.take a).length/\4<=(Y.take b).length/\QJ (X.take a) 0<=8192/\QJ (X.take a) 0+2<=(X.take a).length/\(Y.take b).take 4=ZQ (((X.take a).drop 2).take (QJ (X.take a) 0))
  ·have e:=Z06 h.1 h.2.1 h.2.2.1 h.2.2.2.1 h.2.2.2.2
   obtain⟨h1,h2,h3,h4,h5⟩:=h
   rw[List.length_take]at h1 h2 h4
   have ea:QJ (X.take a) 0=QJ X 0:=by
    simp only[QJ,List.getElem?_take];rw[if_pos (by omega),if_pos (by omega)]
   rw[ea]at e h3 h4 h5;generalize hn:QJ X 0=n at *;have eb:((X.take a).drop 2).take n=(X.drop 2).take n:=by
    rw[List.drop_take,List.take_take,Nat.min_eq_left (by omega)]
   have ey:(Y.take b).take 4=Y.take 4:=by rw[List.take_take,Nat.min_eq_left (by omega)]
   rw[eb]at e h5;rw[ey]at h5;have e2:=Z06 (st:=X) (fo:=Y) (by omega) (by omega) (by rw[hn];exact h3) (by rw[hn];omega) (by rw[hn];exact h5);rw[hn]at e2;obtain⟨k,hk⟩:=Z1x r (X.drop (n+2)) (Y.drop 4) (a - (n+2)) (b - 4) (by rw[List.length_drop];omega);refine⟨k+1,?_⟩;rw[e,e2,List.take_succ_cons,List.drop_take,List.drop_take,hk]
  ·exact⟨0,by rw[List.take_zero];exact QS h⟩
theorem Z70: ∀(l:List (zU)) (i:Nat),i < (Xi l).length -> ∃k,k < l.length/\(Xi (l.take k)).length<=i/\i < (Xi (l.take (k+1))).length
 | [],i,h=>by simp[Xi]at h
 | x :: l,i,h=>by
  by_cases hx:i < (ZB x).length
  ·exact⟨0,by simp,by simp[Xi],by simpa [Xi] using hx⟩
  ·rw[JQ,List.length_append]at h
   obtain⟨k,h1,h2,h3⟩:=Z70 l (i - (ZB x).length) (by omega)
   refine⟨k+1,by simpa using h1,?_,?_⟩
   ·rw[List.take_succ_cons,JQ,List.length_append];omega
   ·rw[List.take_succ_cons,JQ,List.length_append];omega
theorem Z5Q (l:zU)(i b m:Nat)(h:i < m):ZV (l.take m) i b=(ZV l i b).take m:=by
 unfold ZV;rw[List.getElem?_take,if_pos h,List.take_set]
theorem Z98 (l:List (zU))(hl : ∀x∈l,x.length<=8192)(stock foil:Nat)(flip:Int)(h1:stock<=(Xi l).length)(h2:foil<=(Jy l).length)(h3:flip < 8 * ((stock:Int)+foil)):
  ∃k,k<=l.length/\Zz (Jx (Xi l) 0 stock flip) (Jf (Jy l) 0 stock foil flip)=l.take k:=by
 have hfix : ∀k,∃j,j<=l.length/\l.take k=l.take j:=fun k=>by
  by_cases h:k<=l.length
  ·exact⟨k,h,rfl⟩
  ·exact⟨l.length,Nat.le_refl _,by rw[List.take_length,List.take_of_length_le (by omega)]⟩
 unfold Jx Jf;simp only[Nat.zero_add];by_cases hf:0<=flip
 ·obtain⟨z,rfl⟩:=Int.eq_ofNat_of_zero_le hf;simp only[Int.toNat_natCast];have hb:z % 8 < 8:=Nat.mod_lt _ (by decide);by_cases hs:z / 8 < stock
  ·rw[if_pos ⟨hf,hs⟩,if_neg (fun h=>h.2 hs),Z5Q _ _ _ _ hs];obtain⟨k,hk⟩:=Z1x _ (ZV (Xi l) (z / 8) (z % 8)) (Jy l) stock foil (Nat.le_refl _);obtain⟨q,q1,q2,q3⟩:=Z70 l (z / 8) (by omega);rw[Z2L l hl q _ _ hb q1 q2 q3,List.take_take]at hk;obtain⟨j,hj,e⟩:=hfix (min k q);exact⟨j,hj,by rw[hk,e]⟩
  ·have hi:z / 8 - stock < foil:=by omega
   rw[if_neg (fun h=>hs h.2),if_pos ⟨hf,hs⟩,Z5Q _ _ _ _ hi];obtain⟨k,hk⟩:=Z1x _ (Xi l) (ZV (Jy l) (z / 8 - stock) (z % 8)) stock foil (Nat.le_refl _);rw[Z8a]at h2;rw[Z3x l hl _ _ hb (by omega),List.take_take]at hk;obtain⟨j,hj,e⟩:=hfix (min k ((z / 8 - stock) / 4));exact⟨j,hj,by rw[hk,e]⟩
 ·rw[if_neg (fun h=>hf h.1),if_neg (fun h=>hf h.1)];obtain⟨k,hk,e⟩:=Z7K l hl stock foil;exact⟨k,hk,e⟩
theorem Z88 (l1 l2:List (zU))(hl : ∀x∈l1 ++ l2,x.length<=8192)(stock foil:Nat)(flip:Int)(hc:Z0n (Xi (l1 ++ l2)) (Jy (l1 ++ l2)) (Xi l1).length (Jy l1).length stock foil flip):
  ∃k,k<=l2.length/\Zz (Jx (Xi (l1 ++ l2)) (Xi l1).length stock flip) (Jf (Jy (l1 ++ l2)) (Jy l1).length stock foil flip)=l1 ++ l2.take k:=by
 obtain⟨_,c2,_,c4,_,c6⟩:=hc;rw[Vn,UD]at *;rw[List.length_append]at c2 c4;obtain⟨k,hk,e⟩:=Z98 l2 (fun x hx=>hl x (List.mem_append_right _ hx)) stock foil flip (by omega) (by omega) c6;refine⟨k,hk,?_⟩;have eS:Jx (Xi l1 ++ Xi l2) (Xi l1).length stock flip=Xi l1 ++ Jx (Xi l2) 0 stock flip:=by
  unfold Jx;rw[List.take_length_add_append,Nat.zero_add,Nat.zero_add];split
  ·rw[QC _ _ _ _ (Nat.le_add_right _ _),Nat.add_sub_cancel_left]
  ·rfl
 have eF:Jf (Jy l1 ++ Jy l2) (Jy l1).length stock foil flip=Jy l1 ++ Jf (Jy l2) 0 stock foil flip:=by
  unfold Jf;rw[List.take_length_add_append,Nat.zero_add,Nat.zero_add];split
  ·rename_i h;rw[QC _ _ _ _ (by omega)];congr 2;omega
  ·rfl
 rw[eS,eF,Z4n l1 (fun x hx=>hl x (List.mem_append_left _ hx)),e]
def Zdv:PanicEntry := { v := .iface 233 (.agg #[]),recovered:=true }
theorem Z9d (p:Nat)(x:Bool)(w:World)(hh:w.heap[p]? = some (.cells #[.bool x] 4)):
  CallsD zq 179 #[.pointer (some ⟨p,0,none⟩)] (.panicking [Z32]) w fun e u' w'=>
   e = .returned (.tuple #[])/\u' = .panicking [Zdv]/\w'.heap[p]? = some (.cells #[.bool false] 4)/\Zb (fun k=>k=p) w w':=by
 have hc:w.cell? ⟨p,0,none⟩=some (.bool x):=Z6 hh 0 _ rfl;have hz:=Zq hh 0;have hc' : ∀o,(w.alloc o).cell? ⟨p,0,none⟩=some (.bool x):=fun o=>Z6 (Z9 w o _ _ hh) 0 _ rfl;have hz' : ∀o,(w.alloc o).frozen? ⟨p,0,none⟩=false:=fun o=>Zq (Z9 w o _ _ hh) 0;have hta : ∀w,(Instr.typeAssert (.iface 233 (.agg #[])) 20 233 true).run zq w = .ok (.tuple #[.agg #[],.bool true]) w:=fun _=>rfl;refine callsD_of_wpS Tryz.func179 rfl fun c₀ cs hu=>?_;apply wpS_seq;apply wpS_region;simp[wpOpsS,go_sem,recoverD,hu,Tryz.ntmps179,Exit.thenS,Z32];refine wpS_of_wp ?_;change Code.wp _ _ _ { tmps := #[.pointer (some ⟨p,0,none⟩),.iface 233 (.agg #[]),undef,undef,.iface 233 (.agg #[]),undef,undef,undef,undef,undef,undef,undef,undef,undef,undef],defers:=[] } w;go_wp2_with fail;refine⟨rfl,?_⟩;simp[results,Tryz.results179];exact⟨rfl,heap_setCell_same _ p 0 _ _ (.bool false) (Z9 w _ _ _ hh),(Zb.of_below (zB _ _)).trans (VE _ p 0 (.bool false))⟩
theorem Z4K (p:Nat)(w:World):
  CallsD zq 179 #[.pointer (some ⟨p,0,none⟩)] .returning w fun e u' w'=>e = .returned (.tuple #[])/\u' = .returning/\w'=w:=by
 refine callsD_of_wpS Tryz.func179 rfl fun c₀ cs hu=>?_;apply wpS_seq;apply wpS_region;simp[wpOpsS,go_sem,recoverD,hu,Tryz.ntmps179,Exit.thenS];refine wpS_of_wp ?_;go_wp2_with fail;cases c₀;simp_all[bodyPostS,results,Tryz.results179]
section
attribute [local go_sem] ZY
theorem ZcU (rp np:Nat)(l:zU)(a:zA)(n c:Nat)(w:World)(h:RdP w rp l a n c)(hl:l.length<=1000000)(hnp:w.heap[np]? = some (.cells (Z5 Zh none 0) 47))(hne : ¬np=rp):
  Calls zq 130 #[.pointer (some ⟨rp,0,none⟩),.pointer (some ⟨np,0,none⟩)] w fun e w'=>(∃(m:Z8) (t:zU) (sa:zA) (sc:Nat),Qq Xu l=some (m,t)/\e = .returned (.tuple #[])/\w'.heap[np]? = some (.cells (Z5 m sa sc) 47)/\w'.ownsRow w.heap.size 3 1 (.slice sa m.strokes.length sc) m.strokes.length (m.strokes.map Ys)/\Zb (fun k=>k=rp\/k=np) w w') \/
   (Qq Xu l=none/\e = .panicked [Z32]/\Zb (fun k=>k=rp\/k=np) w w'):=by
 go_enter Tryz.func130,Tryz.ntmps130;go_wp2_with fail;refine(ZbE rp l a n c w h hl).mono ?_;rintro e w1 (⟨m,t,sa,sc,a2,n2,c2,h1,rfl,h2,h3,h4⟩ | ⟨h1,rfl,h4⟩)
 ·have g:=zH ((h4.block np (Array.getElem?_eq_some_iff.1 hnp).1 hne).trans hnp);have H1:=zH h1;clear h1;have one1:=Zm m sa sc;go_wp2_with (refine zN np (Z5 m sa sc) g.out ?_);have hSR:Zb (fun k=>k=np) w1 (w1.setRow np (Z5 m sa sc)):=⟨rfl,rfl,rfl,by simp,fun k hk hs=>setRow_other w1 np k _ hs⟩;have hnl:=(Array.getElem?_eq_some_iff.1 hnp).1;have hO:=Q4 h2 hSR (fun b cur fr hb=>.inr (by rw[show b=np from hb];exact hnl));have hg:=setRow_heap w1 np _ (Z5 m sa sc) _ _ g.out;have hS:=(YZ h4 (S':=fun k=>k=rp\/k=np) fun k e=>.inl e).trans (YZ hSR fun k e=>.inr e);have HO:=hO;go_end0
  first
   | exact .inl ⟨m,t,sa,sc,H1.out,rfl,hg,HO,hS⟩
   | exact .inl ⟨m,⟨t,H1.out⟩,rfl,sa,sc,hg,HO,hS⟩
 ·have H1:=zH h1;clear h1;go_wp2_with fail;exact⟨rfl,.inr ⟨H1.out,rfl,YZ h4 fun k e=>.inl e⟩⟩
theorem Z7l (np:Nat)(l:zU)(a:zA)(n c:Nat)(w:World)(h:Ye w a n c l)(hl:l.length<=1000000)(hnp:w.heap[np]? = some (.cells (Z5 Zh none 0) 47)):
  Calls zq 129 #[.slice a n c,.func (.func 130) #[] #[.pointer (some ⟨np,0,none⟩)]] w fun e w'=>(∃(m:Z8) (t:zU) (sa:zA) (sc:Nat),Qq Xu l=some (m,t)/\e = .returned (.bool true)/\w'.heap[np]? = some (.cells (Z5 m sa sc) 47)/\w'.ownsRow w.heap.size 3 1 (.slice sa m.strokes.length sc) m.strokes.length (m.strokes.map Ys)/\Zb (fun k=>k=np) w w') \/
   (Qq Xu l=none/\e = .returned (.bool false)/\Zb (fun k=>k=np) w w'):=by
 have hmf : ∀(fn:Fn) (first cap:Y6) (w:World),(Instr.makeFunc fn first cap).run zq w = .ok (.func fn first cap) w:=fun _ _ _ _=>rfl;have hnl:=(Array.getElem?_eq_some_iff.1 hnp).1;go_enter_defers Tryz.func129,Tryz.ntmps129;go_wp2_with fail;obtain⟨p,hp⟩:=zX (w.heap.size);obtain⟨rp,hrp⟩:=zX (w.heap.size+1);have b2:Below w.heap.size w ((w.alloc (.cells #[.bool false] 4)).alloc (.cells #[.slice a n c] 236)):=(zB _ _).alloc (by simp) _;have g1:((w.alloc (.cells #[.bool false] 4)).alloc (.cells #[.slice a n c] 236)).heap[p]? = some (.cells #[.bool false] 4):=by rw[<-hp.out];exact Z9 _ _ _ _ (Za _ _)
 have g2:((w.alloc (.cells #[.bool false] 4)).alloc (.cells #[.slice a n c] 236)).heap[rp]? = some (.cells #[.slice a n c] 236):=by rw[<-hrp.out];exact Zy _ _ _ (by simp)
 rw[hrp.out,hp.out];generalize (w.alloc (.cells #[.bool false] 4)).alloc (.cells #[.slice a n c] 236)=w2 at *;have hne : ¬np=rp /\ ¬p=rp /\ ¬p=np:=by have h1:=hp.out;have h2:=hrp.out;omega
 have hnp2:=(b2.block np hnl).trans hnp;have hpl:=(Array.getElem?_eq_some_iff.1 g1).1;refine(ZcU rp np l a n c w2 ⟨g2,Ye.below h b2⟩ hl hnp2 hne.1).mono ?_;rintro e w3 (⟨m,t,sa,sc,h1,rfl,h2,h3,h4⟩ | ⟨h1,rfl,h4⟩)
 ·have k1:=(h4.block p hpl (by have h1:=hne.2.1;have h2:=hne.2.2;omega)).trans g1;have c1:w3.cell? ⟨p,0,none⟩=some (.bool false):=Z6 k1 0 _ rfl;have f1:=Zq k1 0;have hS:=VE w3 p 0 (.bool true);have k2:=heap_setCell_same w3 p 0 _ _ (.bool true) k1;have c2:(w3.setCell ⟨p,0,none⟩ (.bool true)).cell? ⟨p,0,none⟩=some (.bool true):=Z6 k2 0 _ rfl;have hn3:=(hS.block np (Array.getElem?_eq_some_iff.1 h2).1 (fun e=>hne.2.2 e.symm)).trans h2;have H1:=zH h1;clear h1;have hFin:Zb (fun k=>k=np) w (w3.setCell ⟨p,0,none⟩ (.bool true)):=by
   have hh:=((YZ (Zb.of_below (S:=fun _=>False) b2) (S':=fun k=>k=rp\/k=np\/k=p) (fun k e=>e.elim)).trans (YZ h4 (S':=fun k=>k=rp\/k=np\/k=p) (fun k e=>e.elim .inl (fun e=>.inr (.inl e))))).trans (YZ hS (S':=fun k=>k=rp\/k=np\/k=p) (fun k e=>.inr (.inr e)));exact⟨hh.os,hh.tape,hh.output,hh.size,fun k hk hs=>hh.block k hk (by have h1:=hp.out;have h2:=hrp.out;have h3 : ¬k=np:=hs;omega)⟩
  have HF:=zH hFin;clear hFin;have HR:=zH (Zx (Q4 h3 hS (fun b cur fr hb=>.inr (by rw[show b=p from hb];exact hpl))) b2.size);clear h3;go_wp2_with fail;refine leaves_cons (f:=179) (args := #[.pointer (some ⟨p,0,none⟩)]) (by simp) (by simp[go_sem]) ?_;refine(Z4K p _).mono ?_;rintro e u' w'' ⟨rfl,rfl,rfl⟩;simp[Leaves,settle,results,Tryz.results129,go_sem];exact⟨.bool true,by rw[c2],.inl ⟨m,⟨t,H1.out⟩,rfl,sa,sc,hn3,HR.out,HF.out⟩⟩
 ·have k1:=(h4.block p hpl (by have h1:=hne.2.1;have h2:=hne.2.2;omega)).trans g1;have H1:=zH h1;clear h1;go_wp2_with fail;refine leaves_cons (f:=179) (args := #[.pointer (some ⟨p,0,none⟩)]) (by simp) (by simp[go_sem]) ?_;refine(Z9d p false _ k1).mono ?_;rintro e u' w'' ⟨rfl,rfl,g3,h5⟩;have c3:w''.cell? ⟨p,0,none⟩=some (.bool false):=Z6 g3 0 _ rfl;simp[Leaves,settle,results,Tryz.results129,go_sem,Zdv];refine⟨.bool false,by rw[c3],.inr ⟨H1.out,rfl,?_⟩⟩;have hh:=((YZ (Zb.of_below (S:=fun _=>False) b2) (S':=fun k=>k=rp\/k=np\/k=p) (fun k e=>e.elim)).trans (YZ h4 (S':=fun k=>k=rp\/k=np\/k=p) (fun k e=>e.elim .inl (fun e=>.inr (.inl e))))).trans (YZ h5 (S':=fun k=>k=rp\/k=np\/k=p) (fun k e=>.inr (.inr e)));exact⟨hh.os,hh.tape,hh.output,hh.size,fun k hk hs=>hh.block k hk (by have h1:=hp.out;have h2:=hrp.out;have h3 : ¬k=np:=hs;omega)⟩
end
theorem Zac {l t:zU}{m:Z8}(h:Qq Xu l=some (m,t)):m.strokes.length<=l.length:=by
 cases e1:J7 Xu 15 l with
 | none=>rw[Z9q e1]at h;cases h
 | some p=>
  obtain⟨x,t0⟩:=p;cases e2:U6 Xu t0 with
  | none=>rw[Z9p e1 e2]at h;cases h
  | some p=>
   obtain⟨k,t1⟩:=p;rw[Z6r e1 e2]at h;have hk:k<=t1.length:=by
    unfold U6 at e2;split at e2
    ·split at e2
     ·simp only[Option.some.injEq,Prod.mk.injEq]at e2;obtain⟨rfl,rfl⟩:=e2;omega
     ·cases e2
    ·cases e2
   have h2:=Z7G e2;have h3:=Z2J _ e1;split at h
   ·rename_i y t2 e3;split at h
    ·simp only[Option.some.injEq,Prod.mk.injEq]at h;have:=U2 _ _ _ _ e3;rw[<-h.1,show(mkN x y _).strokes=y from rfl];omega
    ·cases h
   ·cases h
def QL (f:Yo)(l:zU):Option Z8:=match Qq Xu l with
 | some (m,_)=>if ZX f m=0/\Y5 m=l then some m else none
 | none=>none
structure Z9g (w W:World)(p0 p1 p2:Nat)(f:Yo)(C:Y6):Prop where
 e0:W.heap[p0]? = some (.cells #[.int .i64 f.rings,.int .i64 f.sectors,.int .i64 f.wide] 23)
 e1:W.heap[p1]? = some (.cells (Z5 Zh none 0) 47)
 e2:W.heap[p2]? = some (.cells C 47)
 b:Below p0 w W
 lt:p0 < p1/\p1 < p2
theorem Z9g.below {w W W':World}{p0 p1 p2:Nat}{f:Yo}{C:Y6}(h:Z9g w W p0 p1 p2 f C)(hb:Below W.heap.size W W'):Z9g w W' p0 p1 p2 f C:=by
 have g : ∀{k:Nat} {o:Obj},W.heap[k]? = some o->W'.heap[k]? = some o:=fun {k o} hk=>(hb.block k (Array.getElem?_eq_some_iff.1 hk).1).trans hk;have h0:=(Array.getElem?_eq_some_iff.1 h.e0).1;exact⟨g h.e0,g h.e1,g h.e2,h.b.trans (hb.mono (by omega)),h.lt⟩
theorem Z9g.done {w W:World}{p0 p1 p2:Nat}{f:Yo}{C:Y6}(h:Z9g w W p0 p1 p2 f C)(C':Y6):(W.setRow p1 C').heap[p1]? = some (.cells C' 47)/\Below p0 w (W.setRow p1 C'):=by
 have hl:=h.lt;exact⟨setRow_heap W p1 _ C' _ _ h.e1,h.b.trans ⟨rfl,rfl,rfl,by simp,fun k hk=>setRow_other W p1 k C' (by omega)⟩⟩
section
attribute [local go_sem] ZY
end
section
attribute [local go_sem] ZY
theorem Z3l (f:Yo)(l:zU)(a:zA)(n c:Nat)(w:World)(h:Ye w a n c l)(hl:l.length<=1000000):
  Calls zq 75 #[f.val,.slice a n c] w fun e w'=>(∃(m:Z8) (sa:zA) (sc:Nat),QL f l=some m/\e = .returned (.tuple #[.agg (Z5 m sa sc),.int .i64 0])/\w'.ownsRow w.heap.size 3 1 (.slice sa m.strokes.length sc) m.strokes.length (m.strokes.map Ys)/\Below w.heap.size w w') \/
   (QL f l=none/\e = .returned (.tuple #[.agg (Z5 Zh none 0),.int .i64 90])/\Below w.heap.size w w'):=by
 have I43:=zH zI;have hmf : ∀(fn:Fn) (first cap:Y6) (w:World),(Instr.makeFunc fn first cap).run zq w = .ok (.func fn first cap) w:=fun _ _ _ _=>rfl;unfold Yo.val;go_enter Tryz.func75,Tryz.ntmps75;go_wp2_with fail;rw[<-YS];have oneZ:=Zm Zh none 0;have g0:=Z9 _ (.cells (Z5 Zh none 0) 47) _ _ (Z9 _ (.cells (Z5 Zh none 0) 47) _ _ (Za w (zF f 23)));have g1:=Z9 _ (.cells (Z5 Zh none 0) 47) _ _ (Zy (w.alloc (zF f 23)) (.cells (Z5 Zh none 0) 47) (w.heap.size+1) (by simp));have g2:=Zy ((w.alloc (zF f 23)).alloc (.cells (Z5 Zh none 0) 47)) (.cells (Z5 Zh none 0) 47) (w.heap.size+1+1) (by simp);have bb:Below w.heap.size w (((w.alloc (zF f 23)).alloc (.cells (Z5 Zh none 0) 47)).alloc (.cells (Z5 Zh none 0) 47)):=((zB _ _).alloc (by simp) _).alloc (by simp;omega) _;have L0:Hid (Z9g w (((w.alloc (zF f 23)).alloc (.cells (Z5 Zh none 0) 47)).alloc (.cells (Z5 Zh none 0) 47)) w.heap.size (w.heap.size+1) (w.heap.size+1+1) f (Z5 Zh none 0)):=zH ⟨g0,g1,g2,bb,by omega⟩;clear g0 g1 g2 bb;generalize ((w.alloc (zF f 23)).alloc (.cells (Z5 Zh none 0) 47)).alloc (.cells (Z5 Zh none 0) 47)=W3 at *;generalize hp0:w.heap.size=p0 at *;generalize hp1:p0+1=p1 at *;generalize hp2:p1+1=p2 at *;have RB:=zH (show ∀W',Below p0 w W'->Ye W' a n c l from fun W' hb=>h.below (by rw[hp0];exact hb));have HP0:=zH hp0;clear hp0 hp1 hp2;refine(Z7l p2 l a n c W3 (RB.out _ L0.out.b) hl L0.out.e2).mono ?_;rintro e w4 (⟨m,t,sa,sc,h1,rfl,h2,h3,h4⟩ | ⟨h1,rfl,h4⟩)
 ·have oneM:=Zm m sa sc;have hz2:=(Array.getElem?_eq_some_iff.1 L0.out.e2).1;have P1:Hid (p1 < W3.heap.size):=zH (Nat.lt_trans L0.out.lt.2 hz2);have L1:Hid (Z9g w w4 p0 p1 p2 f (Z5 m sa sc)):=zH ⟨(h4.block p0 (by have:=L0.out.lt;omega) (by have:=L0.out.lt;omega)).trans L0.out.e0,(h4.block p1 (by have:=L0.out.lt;omega) (by have:=L0.out.lt;omega)).trans L0.out.e1,h2,h4.below L0.out.b (by have:=L0.out.lt;omega) (fun k e=>by have:=L0.out.lt;rw[show k=p2 from e];omega),L0.out.lt⟩;have HO:=zH h3;clear h3;have HM:=zH h1;clear h1 h2 h4 hz2;have HLN:=zH (Nat.le_trans (Zac HM.out) hl);have c0:=Z6 L1.out.e0 0 _ rfl;have c1:=Z6 L1.out.e0 1 _ rfl;have c2:=Z6 L1.out.e0 2 _ rfl;go_wp2_with   (first
    |(refine zL p2 L1.out.e2 ?_)
    |(refine zG p2 L1.out.e2 ?_))
  refine(UJ f m sa sc _ (Y3.of_own HO.out)).mono ?_;rintro e w5 ⟨rfl,b5⟩;have L2:=zH (L1.out.below b5);have HO2:=zH (Zd HO.out b5);clear b5 c0 c1 c2;by_cases hc:ZX f m=0
  ·have hq:(ZX f m != 0)=false:=by simp[hc]
   have HC:=zH hc;clear hc;have HSM:=zH (Z74 HC.out);go_wp2_with   (first
     |(refine zL p2 L2.out.e2 ?_)
     |(refine zG p2 L2.out.e2 ?_))
   refine(Vm m sa sc _ (Y3.of_own HO2.out) HSM.out HLN.out).mono ?_;rintro e w6 ⟨a',c',rfl,h6,b6⟩;have L3:=zH (L2.out.below b6);have HO3:=zH (Zd HO2.out b6);have H6:=zH h6;clear h6 b6;go_wp2_with fail;refine(Z2Q _ _ _ (Y5 m) _ _ _ l _ (Ye.of_own H6.out) (RB.out _ L3.out.b)).mono ?_;rintro e w7 ⟨r,rfl,hr,q,rfl⟩;have L4:=zH (L3.out.below (below_drewN (Below.refl _ _) q));have HO4:=zH (Zd HO3.out (below_drewN (Below.refl _ _) q));generalize w6.drewN q=w7 at *;cases r with
   | false=>
    have HR:=zH (show QL f l=none by unfold QL;rw[HM.out];simp only;rw[if_neg (fun e=>by have:=hr.2 e.2;cases this)]);clear hr;go_wp2_with (refine zN p1 (Z5 Zh none 0) L4.out.e1 ?_);refine bodyPost_ret (ZI rfl _ _ p1 47 (Z5 Zh none 0) (0,0) _ rfl (L4.out.done _).1 Tryz.underlying47 rfl (I43.out _ _ _)) rfl ?_;exact .inr ⟨HR.out,rfl,by rw[HP0.out];exact(L4.out.done _).2⟩
   | true=>
    have HR:=zH (show QL f l=some m by unfold QL;rw[HM.out];simp only;rw[if_pos ⟨HC.out,hr.1 rfl⟩]);clear hr;go_wp2_with (first
     |(refine zL p2 L4.out.e2 ?_)
     |(refine zN p1 (Z5 m sa sc) L4.out.e1 ?_))
    refine bodyPost_ret (ZI rfl _ _ p1 47 (Z5 m sa sc) (0,0) _ rfl (L4.out.done _).1 Tryz.underlying47 rfl (I43.out _ _ _)) rfl ?_;have hO:=Q4 (S:=fun k=>k=p1) HO4.out (W':=World.setRow _ p1 (Z5 m sa sc)) ⟨rfl,rfl,rfl,by simp,fun k hk hs=>setRow_other _ p1 k _ hs⟩ (fun b cur fr hb=>.inr (by rw[show b=p1 from hb];exact P1.out));exact .inl ⟨m,sa,sc,HR.out,rfl,Zx hO L0.out.b.size,by rw[HP0.out];exact(L4.out.done _).2⟩
  ·have hq:(ZX f m != 0)=true:=by simp[hc]
   have HR:=zH (show QL f l=none by unfold QL;rw[HM.out];simp only;rw[if_neg (fun e=>hc e.1)]);clear hc;go_wp2_with (refine zN p1 (Z5 Zh none 0) L2.out.e1 ?_);refine bodyPost_ret (ZI rfl _ _ p1 47 (Z5 Zh none 0) (0,0) _ rfl (L2.out.done _).1 Tryz.underlying47 rfl (I43.out _ _ _)) rfl ?_;exact .inr ⟨HR.out,rfl,by rw[HP0.out];exact(L2.out.done _).2⟩
 ·have HR:=zH (show QL f l=none by unfold QL;rw[h1]);have hz2:=(Array.getElem?_eq_some_iff.1 L0.out.e2).1;have k0:=(h4.block p0 (by have:=L0.out.lt;omega) (by have:=L0.out.lt;omega)).trans L0.out.e0;have k1:=zH ((h4.block p1 (by have:=L0.out.lt;omega) (by have:=L0.out.lt;omega)).trans L0.out.e1);have kb:=zH (h4.below L0.out.b (by have:=L0.out.lt;omega) (fun k e=>by have:=L0.out.lt;rw[show k=p2 from e];omega));have kl:=zH L0.out.lt;clear h1 h4 hz2 k0;go_wp2_with (refine zN p1 (Z5 Zh none 0) k1.out ?_);refine zr (setRow_heap w4 p1 _ _ _ _ k1.out) ?_;exact .inr ⟨HR.out,rfl,by rw[HP0.out];exact kb.out.trans ⟨rfl,rfl,rfl,by simp,fun k hk=>setRow_other _ p1 k _ (by have:=kl.out;omega)⟩⟩
end
def Zf.sync (S:Zf):Zf := { S with sd:=S.sb.length,fd:=S.fb.length }
theorem Xh.sync {S:Zf}(h:Xh S):Xh S.sync:=⟨h.v,h.id,h.srt,h.frm,h.ok,h.nms,h.len,h.sbl,h.fbl⟩
def Z8F (A:Zf):Option Z8->Option Zf
 | none=>none
 | some n=>if (ZR A [n]).2.2=0/\(ZR A [n]).2.1=1 then some (ZR A [n]).1 else none
def Vz (A:Zf):List (zU)->Zf
 | []=>A
 | b :: bs=>((Z8F A (QL A.f b)).map (fun A'=>Vz A' bs)).getD A
def CrP (S:Zf)(stock foil flip:Int)(S':Zf)(code:Int):Prop:=
 (¬Z0n S.sb S.fb S.sd S.fd stock foil flip/\S'=S/\code=1) \/
 (Z0n S.sb S.fb S.sd S.fd stock foil flip/\S'=(Vz (Zf.new S.f S.id) (Zz (Jx S.sb S.sd stock.toNat flip) (Jf S.fb S.fd stock.toNat foil.toNat flip))).sync/\code=0)
theorem Z2R {f:Yo}(hv:f.valid=true){n:Z8}(h:Zg f n=true):QL f (Y5 n)=some n:=by
 unfold QL;rw[UI hv n h];simp only;rw[if_pos ⟨by unfold ZX;rw[if_pos hv,if_pos h],trivial⟩]
theorem Zcq {f:Yo}{b:zU}{n:Z8}(h:QL f b=some n):ZX f n=0/\Y5 n=b:=by
 unfold QL at h;split at h
 ·split at h
  ·rename_i h2;cases h;exact h2
  ·cases h
 ·cases h
theorem ZaW (A:Zf)(n:Z8)(ns:List Z8):A.adds (n :: ns)=(A.add n).adds ns:=by unfold Zf.adds;rw[List.foldl_cons]
theorem Z40 {A A':Zf}{n:Z8}{b:zU}{bs:List (zU)}(h1:QL A.f b=some n)(h2:ZR A [n]=(A',1,0)):Vz A (b :: bs)=Vz A' bs:=by
 have e:Z8F A (some n)=some A':=by
  show(if (ZR A [n]).2.2=0/\(ZR A [n]).2.1=1 then some (ZR A [n]).1 else none)=some A';rw[h2];exact if_pos ⟨rfl,rfl⟩
 rw[Vz,h1,e];rfl
theorem Z3Z {A:Zf}{b:zU}{bs:List (zU)}(h:Z8F A (QL A.f b)=none):Vz A (b :: bs)=A:=by
 rw[Vz,h];rfl
theorem Z3I: ∀(l:List Z8) (A:Zf),(A.adds l).ad=A.ad ++ l
 | [],A=>by simp[Zf.adds]
 | n :: ns,A=>by
  show((A.add n).adds ns).ad=_
  rw[Z3I ns (A.add n)]
  show(A.ad ++ [n]) ++ ns=_
  simp
theorem Z3i {K:List Z8}{c:Int->Nat}(h:J9 K c)(hn:(K.map Zi).Nodup)(a:Int):QB K a=c a:=by
 have h1:QB K a=((K.filter (fun x=>decide (x.house=a))).map Z8.num).length:=by
  unfold QB;rw[List.length_map,List.countP_eq_length_filter]
 have h2:((List.range (c a)).map (fun k:Nat=>(k:Int)+1)).length=c a:=by rw[List.length_map,List.length_range]
 rw[h1,<-h2];refine List.Perm.length_eq ((List.perm_ext_iff_of_nodup ?_ ?_).2 fun z=>?_)
 ·have h3:K.Pairwise (fun x y=>Zi x≠Zi y):=List.pairwise_map.1 hn;have h4:=List.Pairwise.filter (fun x=>decide (x.house=a)) h3;refine List.pairwise_map.2 (List.Pairwise.imp_of_mem ?_ h4);intro x y hx hy hxy e;have hx2:=(List.mem_filter.1 hx).2;have hy2:=(List.mem_filter.1 hy).2;simp only[decide_eq_true_eq]at hx2 hy2;exact hxy (by show(x.house,x.num)=(y.house,y.num);rw[hx2,hy2,e])
 ·refine List.pairwise_map.2 (List.Pairwise.imp ?_ (List.nodup_range (n:=c a)));intro x y hxy e;omega
 ·have h5:=h a z;constructor
  ·intro hz;obtain⟨x,hx,rfl⟩:=List.mem_map.1 hz;obtain⟨hx1,hx2⟩:=List.mem_filter.1 hx;simp only[decide_eq_true_eq]at hx2;have h6:=h5.1 ⟨x,hx1,by show(x.house,x.num)=_;rw[hx2]⟩;exact List.mem_map.2 ⟨(x.num - 1).toNat,List.mem_range.2 (by omega),by omega⟩
  ·intro hz;obtain⟨k,hk,rfl⟩:=List.mem_map.1 hz;have hk2:=List.mem_range.1 hk;obtain⟨x,hx,e⟩:=h5.2 ⟨by omega,by omega⟩;have e1:x.house=a:=congrArg Prod.fst e;have e2:x.num=(k:Int)+1:=congrArg Prod.snd e;exact List.mem_map.2 ⟨x,List.mem_filter.2 ⟨hx,by simp[e1]⟩,e2⟩
theorem Xh.nodup {S:Zf}(h:Xh S):(S.l.map Zi).Nodup:=
 List.pairwise_map.2 (h.srt.imp (fun {a b} hab e=>by
  unfold UX at hab
  rw[e]at hab
  have h2:=(XZ _ _).1 hab
  omega))
def Ud (base:Nat)(W:World)(v:Value)(T:Z5h):Prop:=
 ∃(ha:zA) (hn hc:Nat) (ea:zA) (en ec:Nat) (ca:zA) (cn cc:Nat) (hs es:List Xv),v = .agg #[.slice ha hn hc,.slice ea en ec,.slice ca cn cc] /\
  W.ownsRow base 210 21 (.slice ha hn hc) hn (XI hs)/\W.ownsRow base 210 21 (.slice ea en ec) en (XI es)/\W.ownsRow base 45 2 (.slice ca cn cc) cn (ZC T.2.2) /\
  (∀e∈hs ++ es,W.ownsRow base 3 1 (.slice e.x.sa e.x.n.strokes.length e.x.sc) e.x.n.strokes.length (e.x.n.strokes.map Ys))/\hs.map evC=T.1.map evP/\es.map evC=T.2.1.map evP
theorem Ud.out {base:Nat}{W:World}{v:Value}{T:Z5h}(h:Ud base W v T):QW W v T:=by
 obtain⟨ha,hn,hc,ea,en,ec,ca,cn,cc,hs,es,rfl,h1,h2,h3,h4,h5,h6⟩:=h;exact⟨ha,hn,hc,ea,en,ec,ca,cn,cc,hs,es,rfl,Qp.of_rd (Y3.of_own h1),Qp.of_rd (Y3.of_own h2),Y3.of_own h3,fun e he=>Y3.of_own (h4 e he),h5,h6⟩
theorem Ud.kept {base:Nat}{W W':World}{v:Value}{T:Z5h}{p:Nat}{c:Y6}(h:Ud base W v T)(hg:W.grownBy W' (some p))(hp:W.heap[p]? = some (.cells c 77)):Ud base W' v T:=by
 obtain⟨ha,hn,hc,ea,en,ec,ca,cn,cc,hs,es,rfl,h1,h2,h3,h4,h5,h6⟩:=h;exact⟨ha,hn,hc,ea,en,ec,ca,cn,cc,hs,es,rfl,h1.kept hg (.inr (Zo h1 hp (by intro cur;simp)).symm),h2.kept hg (.inr (Zo h2 hp (by intro cur;simp)).symm),h3.kept hg (.inr (Zo h3 hp (by intro cur;simp)).symm),
  fun e he=>(h4 e he).kept hg (.inr (Zo (h4 e he) hp (by intro cur;simp)).symm),h5,h6⟩
theorem Ud.shape {base:Nat}{W:World}{v:Value}{T:Z5h}(h:Ud base W v T): ∃(ha:zA) (hn hc:Nat) (ea:zA) (en ec:Nat) (ca:zA) (cn cc:Nat),v = .agg #[.slice ha hn hc,.slice ea en ec,.slice ca cn cc]:=by
 obtain⟨ha,hn,hc,ea,en,ec,ca,cn,cc,hs,es,rfl,_⟩:=h;exact⟨ha,hn,hc,ea,en,ec,ca,cn,cc,rfl⟩
structure zo (w W:World)(p3 p4:Nat)(m:Z8)(ta:zA)(tc:Nat):Prop where
 bel:Below w.heap.size w W
 n:W.heap[p3]? = some (.cells (Z5 m ta tc) 47)
 z:W.heap[p4]? = some (.cells (Z5 Zh none 0) 47)
 own:W.ownsRow w.heap.size 3 1 (.slice ta m.strokes.length tc) m.strokes.length (m.strokes.map Ys)
 ge:w.heap.size<=p3/\p3 < p4
section
variable {w W W':World}{p3 p4:Nat}{m m':Z8}{ta:zA}{tc:Nat}
theorem zo.below (h:zo w W p3 p4 m ta tc)(hb:Below W.heap.size W W'):zo w W' p3 p4 m ta tc:=
 ⟨h.bel.trans (hb.mono h.bel.size),Z7 hb h.n,Z7 hb h.z,Zd h.own hb,h.ge⟩
theorem zo.set (h:zo w W p3 p4 m ta tc)(hs:Zb (fun k=>k=p3) W W')(hn:W'.heap[p3]? = some (.cells (Z5 m' ta tc) 47))(he:m'.strokes=m.strokes):zo w W' p3 p4 m' ta tc:=
 ⟨hs.below h.bel h.bel.size (fun k hk=>by rw[show k=p3 from hk];exact h.ge.1),hn,(hs.block p4 (Zk h.z) (fun e=>by have:=h.ge;omega)).trans h.z,
  by rw[he];exact Ze h.own hs (fun b hb e=>Zo h.own h.n (by intro cur;simp) (by rw[hb,show b=p3 from e])),h.ge⟩
theorem Z5f {W W':World}(hg:W.grownBy W' none):Below W.heap.size W W':=⟨hg.os,hg.tape,hg.output,hg.size,fun k hk=>hg.block k hk (by simp)⟩
theorem zo.other {r:Nat}{o:Obj}(h:zo w W p3 p4 m ta tc)(hs:Zb (fun k=>k=r) W W')(hr:p4 < r)(ho:W.heap[r]? = some o)(hne : ∀cur,o ≠ .cells cur 3):zo w W' p3 p4 m ta tc:=
 ⟨hs.below h.bel h.bel.size (fun k hk=>by rw[show k=r from hk];have:=h.ge;omega),(hs.block p3 (Zk h.n) (fun e=>by have:=h.ge;omega)).trans h.n,(hs.block p4 (Zk h.z) (fun e=>by omega)).trans h.z,
  Ze h.own hs (fun b hb e=>Zo h.own ho hne (by rw[hb,show b=r from e])),h.ge⟩
theorem zo.done (h:zo w W p3 p4 m ta tc)(hs:Zb (fun k=>k=p4) W W'):Below w.heap.size w W'/\W'.ownsRow w.heap.size 3 1 (.slice ta m.strokes.length tc) m.strokes.length (m.strokes.map Ys):=
 ⟨hs.below h.bel h.bel.size (fun k hk=>by rw[show k=p4 from hk];have:=h.ge;omega),Ze h.own hs (fun b hb e=>Zo h.own h.z (by intro cur;simp) (by rw[hb,show b=p4 from e]))⟩
end
theorem UT (W:World)(p:Nat)(c:Y6):Zb (fun k=>k=p) W (W.setRow p c):=Zb.of_grown (YI W p c) (fun k e=>by cases e;rfl)
theorem ZcX (x y:Int):Z4g x y=max x y:=by unfold Z4g;split <;> omega
def doC (S:Zf)(n:Z8)(c:Int):Z8 := { n with house:=S.id,num:=(S.c S.id:Int)+1,clock:=c }
theorem ZcA {S:Zf}(h:Xh S)(a:Int):S.c a<=400:=by
 by_cases h0:S.c a=0
 ·omega
 ·obtain⟨x,hx,e⟩:=(h.nms a (S.c a:Int)).2 ⟨by omega,Int.le_refl _⟩;have h1:=h.frm x hx;simp only[Zg,Bool.and_eq_true,ZJ,YN]at h1;have h2:x.house=a/\x.num=(S.c a:Int):=by simpa [Zi] using e
  omega
theorem Zco {S:Zf}{n:Z8}(h:n.Ok)(hf:Zg S.f (doN S n)=true):(doN S n).Ok:=by
 have h1:=Yd hf;have h2:=VM hf;have h3:(doN S n).num<=400:=by
  simp only[Zg,Bool.and_eq_true,ZJ,YN]at hf;omega
 exact⟨by unfold J6;omega,by unfold J6;omega,by unfold J6;omega,h.day,h.kind,h.stone,h.heap,h.turns,h.hardLo,h.hardHi,h.diffLo,h.diffHi,h.a,h.b,h.ring,h.refH,h.refN,h.fix,h.strokes⟩
theorem ZcZ {G:Nm->Option LN}{L:List Z8}{ks:List Nm}(gs : ∀k x,G k=some x->x.n∈L/\x.nm=k)(gl : ∀n∈L,∃x,G (Zi n)=some x/\x.n=n)(hsr:L.Pairwise UX)(ha:Xt G ks)(hs:ks.Pairwise (fun x y=>J0 x y=true)):(ks.filterMap G).map LN.n=L:=by
 refine VV ?_ hsr fun x=>?_
 ·rw[List.pairwise_map];clear ha
  induction ks with
  | nil=>exact List.Pairwise.nil
  | cons k ks ih=>
   rw[List.pairwise_cons]at hs;cases hk:G k with
   | none=>rw[List.filterMap_cons_none hk];exact ih hs.2
   | some x=>
    rw[List.filterMap_cons_some hk];refine List.pairwise_cons.2 ⟨fun y hy=>?_,ih hs.2⟩;obtain⟨k',hk',h'⟩:=List.mem_filterMap.1 hy;unfold UX;rw[show Zi x.n=k from(gs k x hk).2,show Zi y.n=k' from(gs k' y h').2];exact hs.1 k' hk'
 ·constructor
  ·intro hx;obtain⟨y,hy,rfl⟩:=List.mem_map.1 hx;obtain⟨k,_,hk⟩:=List.mem_filterMap.1 hy;exact(gs k y hk).1
  ·intro hx;obtain⟨y,hy,rfl⟩:=gl x hx;exact List.mem_map_of_mem (List.mem_filterMap.2 ⟨_,ha _ (by rw[hy];rfl),hy⟩)
theorem ZdE {G:Nm->Option LN}{L:List Z8}{x:LN}(gs : ∀k y,G k=some y->y.n∈L/\y.nm=k): ∀k y,YH G (Zi x.n) x k=some y->y.n∈Xw L x.n/\y.nm=k:=fun k y h=>by
 unfold YH at h
 split at h
 ·rename_i e
  cases h
  exact⟨Xp.2 (.inr rfl),e.symm⟩
 ·obtain⟨h1,h2⟩:=gs k y h
  exact⟨Xp.2 (.inl h1),h2⟩
theorem ZdF {G:Nm->Option LN}{L:List Z8}{x:LN}(gl : ∀n∈L,∃y,G (Zi n)=some y/\y.n=n)(hf : ∀y∈L,Zi y≠Zi x.n): ∀n∈Xw L x.n,∃y,YH G (Zi x.n) x (Zi n)=some y/\y.n=n:=fun n hn=>by
 rcases Xp.1 hn with hn | rfl
 ·obtain⟨y,h1,h2⟩:=gl n hn
  exact⟨y,by unfold YH;rw[if_neg (hf n hn)];exact h1,h2⟩
 ·exact⟨x,by unfold YH;rw[if_pos rfl],rfl⟩
theorem Z9m {W W':World}{p k:Nat}{a:zA}{n c:Nat}{l:List Value}{A:Y6}{t:TypeId}{fr:Nat×Nat}(h:Y3 W k a n c l)(hs:Zb (fun q=>q=p) W W')(hp:W.heap[p]? = some (.cells A t fr))(hl : ∀v∈l,∃x,v = .int .i64 x)(hA : ∀v∈A.toList,∀x,v ≠ .int .i64 x):Y3 W' k a n c l:=by
 refine⟨h.1,h.2.1,h.2.2.1,h.2.2.2.imp id ?_⟩;rintro⟨b,off,rfl,h4⟩;refine⟨b,off,rfl,fun i v hv=>?_⟩;have h5:=h4 i v hv;have hb:b≠p:=fun e=>by
  subst e;simp only[World.cell?,hp]at h5;obtain⟨x,hx⟩:=hl v (List.mem_of_getElem? hv);rw[<-Array.getElem?_toList]at h5;exact hA v (List.mem_of_getElem? (by simpa using h5)) x hx
 rw[<-h5];exact World.cell?_of_block (hs.block b (World.block_lt_of_cell? W _ h5) hb)
theorem Zfb {A1 A2 A3 A4 A5 A6:Type}{P T:A1->A2->A3->A4->A5->A6->Prop}{G:Prop}(h1:(∀x1 x2 x3 x4 x5 x6,P x1 x2 x3 x4 x5 x6->T x1 x2 x3 x4 x5 x6)->G)(h2 : ∀x1 x2 x3 x4 x5 x6,P x1 x2 x3 x4 x5 x6->T x1 x2 x3 x4 x5 x6):G:=h1 h2
section
attribute [local go_sem] ZY YV Jd XU
end
def RS (l:zU)(k:Nat)(xs:List Int)(at_:Nat)(bad:Bool):Prop:=(bad=false/\J7 Zer k l=some (xs,l.drop at_))\/(bad=true/\J7 Zer k l=none)
section
variable {wf W W':World}{rp p1 nb:Nat}{m:Z8}{sa:zA}{sc:Nat}{l:zU}{a:zA}{n c at_ at':Nat}{bad bad':Bool}
end
section
attribute [local go_sem] ZY
end
def Z9C (f:Yo)(id:Int)(w:World)(e:Ending)(W:World):Prop:=
 (¬(f.valid=true/\1<=id/\id<=8)/\e = .returned (.tuple #[.pointer none,.int .i64 1])) \/
 (f.valid=true/\(1<=id/\id<=8) /\ ∃p mb sp,e = .returned (.tuple #[.pointer (some ⟨p,0,none⟩),.int .i64 0])/\Yf W p mb sp (fun _=>none) (fun k=>k=sp) (Zf.new f id) /\ ∀k,Yl p mb (fun _=>none) (fun k=>k=sp) k->w.heap.size<=k)
theorem Z1h (f:Yo)(id:Int)(w:World)(hid:1<=id/\id<=8):
  Calls zq 12 #[f.val,.int .i64 id] w fun e w'=>Z9C f id w e w'/\Below w.heap.size w w':=by
 have VF:=zH (fun W=>Vs f.rings f.sectors f.wide W);have hvl:f.val = .agg #[.int .i64 f.rings,.int .i64 f.sectors,.int .i64 f.wide]:=rfl;have HID:=zH (show 1<=id/\id<=8 by omega);rw[hvl];clear hvl;have B0:=zH (zB w (zF f 23));have F0:=zH (Za w (zF f 23));have q1:decide (id < 1)=false:=by simp;omega
 have q2:decide (8 < id)=false:=by simp;omega
 clear hid;go_enter Tryz.func12,Tryz.ntmps12;go_upto_region 1 with fail;obtain⟨p2,hp2⟩:=zX (w.heap.size);rw[hp2.out]at F0;rw[hp2.out];generalize w.alloc (zF f 23)=w0 at *;have c0:=Z6 F0.out 0 (.int .i64 f.rings) rfl;have c1:=Z6 F0.out 1 (.int .i64 f.sectors) rfl;have c2:=Z6 F0.out 2 (.int .i64 f.wide) rfl;go_wp2_with fail;refine(VF.out w0).mono ?_;rintro e w1 ⟨rfl,b1⟩;have B1:=zH (B0.out.trans (b1.mono B0.out.size));have F1:=zH (Z7 b1 F0.out);clear b1 c0 c1 c2 q1 q2;cases hv:Yo.valid ⟨f.rings,f.sectors,f.wide⟩
 ·have HV:Hid (¬(f.valid=true/\1<=id/\id<=8)):=zH (fun h=>by
   have h1:Yo.valid ⟨f.rings,f.sectors,f.wide⟩=true:=h.1;rw[hv]at h1;cases h1)
  clear hv;go_wp2_with fail;go_returns;exact⟨.inl ⟨HV.out,rfl⟩,B1.out⟩
 have HV:Hid (f.valid=true):=zH hv;clear hv;have hmm := @run_makeMap zq;go_upto_region 3 with fail;apply Zfc (P:=fun mb sp p W=>Hid (Below w1.heap.size w1 W/\Yf W p mb sp (fun _=>none) (fun k=>k=sp) (Zf.new f id)/\w.heap.size<=mb/\w.heap.size<=sp/\w.heap.size<=p))
 ·intro REST;refine zb fun hh=>?_;have HB0:=zH (show Below w1.heap.size w1 w1.drew from(Below.refl _ _).drew);generalize w1.drew=V0 at *;refine zT 0 rfl (.agg #[.int .i64 f.rings,.int .i64 f.sectors,.int .i64 f.wide]) (ZW (by kernel_rfl) 23 _ rfl p2 rfl _ 23 (0,0) _ (fun W h=>Z7 h F1.out) Tryz.underlying23 rfl (by kernel_rfl)) ?_;refine zW 1 rfl (.int .i64 id) ?_;refine zM [2,3] rfl (fun K hK=>?_) ?_
  focus
   have bz:Below V0.heap.size V0 (V0.alloc (.map #[] 0)):=zB _ _;have HB1:=zH (HB0.out.trans (bz.mono HB0.out.size));have HM1:=zH (ZZ.made (enc:=LN.val) V0);have KGE:Hid (w.heap.size<=V0.heap.size):=zH (Nat.le_trans B1.out.size HB0.out.size);clear bz;go_simp;obtain⟨mb,hmb⟩:=zX (V0.heap.size);rw[hmb.out]at HM1 KGE;rw[hmb.out];generalize V0.alloc (.map #[] 0)=V1 at *;refine zK hK HB1.out fun hh=>?_;clear hK K;refine zR 3 rfl fun K hK=>?_;go_simp;go_at_call 48;refine(Z02 V1).mono ?_;rintro e V2 ⟨rfl,hk,b1⟩;have SGE:Hid (w.heap.size<=V1.heap.size):=zH (Nat.le_trans B1.out.size HB1.out.size);obtain⟨sp,hsp⟩:=zX (V1.heap.size);have HB2:=zH (HB1.out.trans (b1.mono HB1.out.size));have HM2:=zH (HM1.out.below b1);clear b1;rw[hsp.out]at hk SGE;rw[hsp.out];have HK2:=zH hk;clear hk;dsimp only
  rotate_left
  focus
   refine zn fun K hK=>?_;go_simp;go_at_call 48;refine(Z02 V0).mono ?_;rintro e V1 ⟨rfl,hk,b1⟩;have SGE:Hid (w.heap.size<=V0.heap.size):=zH (Nat.le_trans B1.out.size HB0.out.size);obtain⟨sp,hsp⟩:=zX (V0.heap.size);have HB1:=zH (HB0.out.trans (b1.mono HB0.out.size));clear b1;rw[hsp.out]at hk SGE;rw[hsp.out];have HK1:=zH hk;clear hk;dsimp only;refine zK hK HB1.out fun hh=>?_;clear hK K;refine zR 2 rfl fun K hK=>?_;have bz:Below V1.heap.size V1 (V1.alloc (.map #[] 0)):=zB _ _;have HB2:=zH (HB1.out.trans (bz.mono HB1.out.size));have HM2:=zH (ZZ.made (enc:=LN.val) V1);have KGE:Hid (w.heap.size<=V1.heap.size):=zH (Nat.le_trans B1.out.size HB1.out.size);have HK2:=zH (HK1.out.same (S:=fun _=>False) (Zb.of_below bz) (fun _ h=>h.elim));clear bz;go_simp;obtain⟨mb,hmb⟩:=zX (V1.heap.size);rw[hmb.out]at HM2 KGE;rw[hmb.out];generalize V1.alloc (.map #[] 0)=V2 at *
  all_goals
   refine zK hK HB2.out fun hh=>?_;clear hK K;refine zS 4 rfl (.agg (XE f id mb (fun _=>0) sp)) (fun W _=>by kernel_rfl) ?_;refine zR 5 rfl fun K hK=>?_;have bz:Below V2.heap.size V2 (V2.alloc (.cells (XE f id mb (fun _=>0) sp) 109)):=zB _ _;have HB3:=zH (HB2.out.trans (bz.mono HB2.out.size));have HM3:=zH (HM2.out.below bz);have HK3:=zH (HK2.out.same (S:=fun _=>False) (Zb.of_below bz) (fun _ h=>h.elim));have HP3:=zH (Za V2 (.cells (XE f id mb (fun _=>0) sp) 109));have PGE:Hid (w.heap.size<=V2.heap.size):=zH (Nat.le_trans B1.out.size HB2.out.size);clear bz;go_simp;obtain⟨p,hp⟩:=zX (V2.heap.size);rw[hp.out]at HP3 PGE;rw[hp.out];generalize V2.alloc (.cells (XE f id mb (fun _=>0) sp) 109)=V3 at *;refine zK hK HB3.out fun hh=>?_;clear hK K;refine zw 6 rfl p 0 ?_;refine zW 7 rfl (.int .i64 0) ?_;refine zE ?_;exact REST mb sp p V3 (zH ⟨HB3.out,⟨HP3.out,HM3.out,(fun k x h=>by cases h),(fun n h=>by cases h),(fun k x h=>by cases h),HK3.out⟩,KGE.out,SGE.out,PGE.out⟩)
 intro mb sp p W QQ;go_wp2_with fail;go_returns;exact⟨.inr ⟨HV.out,HID.out,p,mb,sp,rfl,QQ.out.2.1,fun k hk=>by
  have hp:=QQ.out.2.2;rcases hk with h | h | h | ⟨a,x,h,_⟩
  ·omega
  ·omega
  ·have h2:k=sp:=h;omega
  ·cases h⟩,B1.out.trans (QQ.out.1.mono B1.out.size)⟩
theorem Z57 (f:Yo)(id:Int)(w:World)(hid : ¬(1<=id/\id<=8)):
  Calls zq 12 #[f.val,.int .i64 id] w fun e w'=>e = .returned (.tuple #[.pointer none,.int .i64 1])/\Below w.heap.size w w':=by
 have hvl:f.val = .agg #[.int .i64 f.rings,.int .i64 f.sectors,.int .i64 f.wide]:=rfl;rw[hvl];clear hvl;have B0:=zH (zB w (zF f 23));by_cases h1:id < 1
 focus
  have q1:decide (id < 1)=true:=by simp[h1]
 rotate_left
 focus
  have q1:decide (id < 1)=false:=by simp;omega
  have q2:decide (8 < id)=true:=by simp;omega
 all_goals
  clear h1 hid;go_enter Tryz.func12,Tryz.ntmps12;go_wp2_with fail;go_returns;exact⟨rfl,B0.out⟩
theorem Z56 (f:Yo)(id:Int)(w:World):Calls zq 12 #[f.val,.int .i64 id] w fun e w'=>Z9C f id w e w'/\Below w.heap.size w w':=by
 by_cases hid:1<=id/\id<=8
 ·exact Z1h f id w hid
 ·refine(Z57 f id w hid).mono fun e w' h=>⟨.inl ⟨fun h2=>hid h2.2,h.1⟩,h.2⟩
theorem Jt (p mb sp:Nat)(G:Nm->Option LN)(SF:Nat->Prop)(S:Zf)(w:World)(hh:Yf w p mb sp G SF S):
  Calls zq 20 #[.pointer (some ⟨p,0,none⟩)] w fun e w'=>e = .returned (.tuple #[])/\Yf w' p mb sp G SF S.sync/\Zb (fun k=>k=sp) w w':=by
 have HH:=zH hh;have DIS:=zH hh.dis;have SP:=zH hh.stk.self;have c14:=Z6 hh.blk 14 (.pointer (some ⟨sp,0,none⟩)) rfl;have MD:=zH (U4 w p mb sp S.f S.id S.c hh.blk);have SY:=zH (Z3P w sp SF S.sb S.fb S.sd S.fd hh.stk);clear hh;go_enter Tryz.func20,Tryz.ntmps20;go_wp2_with fail;refine MD.out.mono ?_;rintro e w1 ⟨rfl,rfl⟩;go_wp2_with fail;refine SY.out.mono ?_;rintro e w2 ⟨rfl,hk,hs⟩;have K:=zH hk;have HS:=zH hs;clear hk hs c14;go_wp2;go_end0;have hne : ∀k,SF k->k≠p/\k≠mb:=fun k hk=>⟨fun e=>DIS.out.ps (e ▸ hk),fun e=>DIS.out.ms (e ▸ hk)⟩;exact⟨rfl,⟨(HS.out.block p (Zk HH.out.blk) (fun e=>(hne sp SP.out).1 e.symm)).trans HH.out.blk,HH.out.map.of_block (HS.out.block mb HH.out.map.lt (fun e=>(hne sp SP.out).2 e.symm)),HH.out.gs,HH.out.gl,
  fun k x hk=>Ze (HH.out.str k x hk) HS.out (fun b hb e=>(DIS.out.st k x hk b hb).2.2 (by rw[show b=sp from e];exact SP.out)),K.out⟩,HS.out⟩
theorem Z2p {z:Int}(h:Yk z):J6 z:=by
 unfold Yk far at h;unfold J6;omega
theorem Zbs {n:Z8}(h:Uc n):n.Ok:=by
 obtain⟨h1,h2,h3,_⟩:=h;have a : ∀z∈ZA n,J6 z:=fun z hz=>Z2p (h1 z hz);have b : ∀z∈Zu n,J6 z:=fun z hz=>Z2p (h3 z hz);simp only[ZA,Zu,List.mem_cons,List.not_mem_nil,or_false]at a b;refine⟨a _ ?_,a _ ?_,a _ ?_,a _ ?_,a _ ?_,a _ ?_,a _ ?_,a _ ?_,a _ ?_,a _ ?_,a _ ?_,a _ ?_,a _ ?_,a _ ?_,a _ ?_,b _ ?_,b _ ?_,b _ ?_,fun z hz=>Z2p (h2 z hz)⟩ <;> simp
theorem Z5H: ∀(k:Nat) (st fo:zU),(z7 k st fo).length<=k /\ ∀x∈z7 k st fo,x.length<=8192
 | 0,_,_=>⟨Nat.le_refl _,fun x h=>by simp[z7]at h⟩
 | k+1,st,fo=>by
  unfold z7
  split
  ·rename_i h
   obtain⟨h1,h2⟩:=Z5H k (st.drop (QJ st 0+2)) (fo.drop 4)
   refine⟨by rw[List.length_cons];omega,fun x hx=>?_⟩
   rcases List.mem_cons.1 hx with rfl | hx
   ·rw[List.length_take];have:=h.2.2.1;omega
   ·exact h2 x hx
  ·exact⟨Nat.zero_le _,fun x h=>by simp at h⟩
theorem ZdW (S:Zf)(l:List Z8):(ZR S l).1.f=S.f:=by
 unfold ZR;split
 ·rfl
 ·split
  ·rfl
  ·exact Z1D _ _
theorem ZaB {A:Zf}{n:Z8}(h : ¬((ZR A [n]).2.2=0/\(ZR A [n]).2.1=1)):(ZR A [n]).1=A:=by
 cases hb:[n].any (fun n=>!decide (ZX A.f n=0))with
 | true=>rw[Z0Y hb]
 | false=>
  cases hg:Y9 A.l [] A.c [n]with
  | none=>rw[Z07 hb hg]
  | some r=>
   obtain⟨fr,c'⟩:=r;rw[zf hb hg]at h ⊢;have h2:fr=[]:=by
    rw[Y9]at hg;split at hg
    ·split at hg
     ·simp[Y9]at hg;exact hg.1
     ·cases hg
    ·split at hg
     ·simp[Y9]at hg;exact hg.1
     ·simp[Y9]at hg;obtain⟨rfl,_⟩:=hg;exact absurd ⟨rfl,rfl⟩ h
   rw[h2];rfl
theorem Zcn {α:Type}{l:List α}{i:Nat}{x:α}(h:l[i]? = some x):l.drop i=x :: l.drop (i+1):=by
 obtain⟨h1,h2⟩:=List.getElem?_eq_some_iff.1 h;rw[List.drop_eq_getElem_cons h1,h2]
theorem Z2s (W:World)(p:Nat)(c:Y6):Zb (fun k=>k=p) W (W.setRow p c):=Zb.of_grown (YI W p c) (fun k e=>by cases e;rfl)
def Zf4 (w:World)(p mb:Nat)(G:Nm->Option LN)(SF:Nat->Prop)(S:Zf)(stock foil flip:Int)(e:Ending)(W:World):Prop:=
 ∃S' code,CrP S stock foil flip S' code/\Xh S'/\e = .returned (.int .i64 code) /\ ∃mb' sp' G' SF',Yf W p mb' sp' G' SF' S'/\Zb (Yl p mb G SF) w W /\ ∀k,Yl p mb' G' SF' k->Yl p mb G SF k\/w.heap.size<=k
structure Z8l (w W3 W:World)(p p2 mb2 sp2:Nat)(SF:Nat->Prop)(S:Zf)(mb sp:Nat)(G2:Nm->Option LN)(SF2:Nat->Prop)(A:Zf)(bs:List (zU))(i:Nat):Prop where
 hou:Yf W p2 mb2 sp2 G2 SF2 A
 inv:Xh A
 f:A.f=S.f
 rcv:Vz (Zf.new S.f S.id) bs=Vz A (bs.drop i)
 len:A.l.length<=i
 same:Zb (fun k=>k=p2\/k=mb2\/k=sp2\/W3.heap.size<=k) W3 W
 foot : ∀k,Yl p2 mb2 G2 SF2 k->k=p2\/k=mb2\/k=sp2\/W3.heap.size<=k
 blk:W.heap[p]? = some (.cells (XE S.f S.id mb S.c sp) 109)
 np:p≠p2/\p≠mb2/\p≠sp2/\p < W3.heap.size
section
variable {w W3 W W':World}{p p2 mb2 sp2:Nat}{SF:Nat->Prop}{S:Zf}{mb sp:Nat}{G2 G3:Nm->Option LN}{SF2 SF3:Nat->Prop}{A A':Zf}{bs:List (zU)}{i j:Nat}
theorem Z8l.below (h:Z8l w W3 W p p2 mb2 sp2 SF S mb sp G2 SF2 A bs i)(hb:Below W.heap.size W W'):Z8l w W3 W' p p2 mb2 sp2 SF S mb sp G2 SF2 A bs i:=
 ⟨h.hou.below hb,h.inv,h.f,h.rcv,h.len,h.same.trans (Zb.of_below hb),h.foot,Z7 hb h.blk,h.np⟩
theorem Z8l.step (h:Z8l w W3 W p p2 mb2 sp2 SF S mb sp G2 SF2 A bs i)(hh:Yf W' p2 mb2 sp2 G3 SF3 A')(hi:Xh A')(hf:A'.f=S.f)(hr:Vz (Zf.new S.f S.id) bs=Vz A' (bs.drop j))(hl:A'.l.length<=j)
  (hs:Zb (Yl p2 mb2 G2 SF2) W W') (hn : ∀k,Yl p2 mb2 G3 SF3 k->Yl p2 mb2 G2 SF2 k\/W.heap.size<=k):Z8l w W3 W' p p2 mb2 sp2 SF S mb sp G3 SF3 A' bs j:=
 ⟨hh,hi,hf,hr,hl,h.same.trans (hs.weaken h.foot),fun k hk=>(hn k hk).elim (h.foot k) (fun h2=>.inr (.inr (.inr (Nat.le_trans h.same.size h2)))),
  (hs.block p (Zk h.blk) (fun hk=>by rcases h.foot p hk with h2 | h2 | h2 | h2 <;> have:=h.np <;> omega)).trans h.blk,h.np⟩
end
theorem Z4t (f:Yo)(id:Int)(mb:Nat)(c:Int->Nat)(sp:Nat):(XE f id mb c sp).all (·.oneCell')=true:=by simp[XE,Value.oneCell']
theorem Z8W (p mb sp:Nat)(G:Nm->Option LN)(SF:Nat->Prop)(S:Zf)(stock foil flip:Int)(w:World)(hh:Yf w p mb sp G SF S)(hi:Xh S)(hlen:S.l.length < 400):
  Calls zq 21 #[.pointer (some ⟨p,0,none⟩),.int .i64 stock,.int .i64 foil,.int .i64 flip] w fun e w'=>Zf4 w p mb G SF S stock foil flip e w':=by
 have HH:=zH hh;have HI:=zH hi;have HLEN:=zH hlen;have DIS:=zH hh.dis;have HLT:=zH hh.lt;have MD:=zH (U4 w p mb sp S.f S.id S.c hh.blk);have c14:=Z6 hh.blk 14 (.pointer (some ⟨sp,0,none⟩)) rfl;by_cases hok:Z0n S.sb S.fb S.sd S.fd stock foil flip
 case neg=>
  have HC:=zH hok;have CN:=zH (Zcs w sp SF S.sb S.fb S.sd S.fd stock foil flip hh.stk hok);clear hh hi hok hlen;go_enter Tryz.func21,Tryz.ntmps21;go_wp2_with fail;refine MD.out.mono ?_;rintro e w1 ⟨rfl,rfl⟩;go_wp2_with fail;refine CN.out.mono ?_;rintro e w2 ⟨rfl,q,rfl⟩;clear c14;go_wp2;go_ret;have bq:=below_drewN (Below.refl w1.heap.size w1) q;exact⟨S,1,.inl ⟨HC.out,rfl,rfl⟩,HI.out,rfl,mb,sp,G,SF,HH.out.below bq,Zb.of_below bq,fun k hk=>.inl hk⟩
 have HC:=zH hok;obtain⟨st,rfl⟩:=Int.eq_ofNat_of_zero_le hok.1;obtain⟨fo,rfl⟩:=Int.eq_ofNat_of_zero_le hok.2.2.1;have CY:=zH (Z5T w sp SF S.sb S.fb S.sd S.fd st fo flip hh.stk hok);clear hh hi hok hlen;go_enter Tryz.func21,Tryz.ntmps21;go_wp2_with fail;refine MD.out.mono ?_;rintro e w1 ⟨rfl,rfl⟩;go_wp2_with fail;refine CY.out.mono ?_;rintro e W1 ⟨rfl,F1,h1,h2,h3⟩;clear c14;have K1:=zH h1;have S1:=zH h2;have P1:Hid (W1.heap[p]? = some (.cells (XE S.f S.id mb S.c sp) 109)):=zH ((h2.block p (Zk HH.out.blk) DIS.out.ps).trans HH.out.blk);have PW1:Hid (p < W1.heap.size):=zH (Zk P1.out);clear h1 h2 h3 CY MD;obtain⟨cs,hcs⟩:=zX (Jx S.sb S.sd st flip);obtain⟨cf,hcf⟩:=zX (Jf S.fb S.fd st fo flip);have CFL:Hid (cf.length<=S.fb.length):=zH (by
  rw[<-hcf.out];unfold Jf;split
  ·rw[Z09,List.length_take];omega
  ·rw[List.length_take];omega)
 rw[hcs.out,hcf.out]at K1;go_upto_region 6 with fail;refine zp P1.out fun hh=>?_;have BU:=zH ((zd W1));generalize W1.drew=U at *;refine zw 0 rfl p 0 ?_;refine zw 1 rfl p 0 ?_;refine zw 2 rfl p 0 ?_;refine zS 3 rfl (.agg #[.int .i64 S.f.rings,.int .i64 S.f.sectors,.int .i64 S.f.wide]) (fun W h=>by have h0:=Z6 h 0 (.int .i64 S.f.rings) rfl;have h1:=Z6 h 1 (.int .i64 S.f.sectors) rfl;have h2:=Z6 h 2 (.int .i64 S.f.wide) rfl;go_simp) ?_;refine zw 4 rfl p 0 ?_;refine zw 5 rfl p 0 ?_;refine zw 6 rfl p 3 ?_;refine zS 7 rfl (.int .i64 S.id) (fun W h=>by have hc:=Z6 h 3 (.int .i64 S.id) rfl;go_simp) ?_;refine zR 8 rfl fun K hK=>?_;go_simp;go_at_call 12;refine(Z1h S.f S.id U HI.out.id).mono ?_;rintro e W2 ⟨h1,bb⟩;rcases h1 with ⟨hbad,_⟩ | ⟨_,_,p2,mb2,sp2,rfl,h2,h3⟩
 ·exact absurd ⟨HI.out.v,HI.out.id⟩ hbad
 have B2:=zH (BU.out.trans (bb.mono BU.out.size));have P2:=zH (Z7 bb hh);have H2:=zH h2;have GE2:=zH (show ∀k,Yl p2 mb2 (fun _=>none) (fun k=>k=sp2) k->W1.heap.size<=k from fun k hk=>Nat.le_trans BU.out.size (h3 k hk));clear bb h2 h3 hh;dsimp only;refine zK hK P2.out fun hh=>?_;clear hK K;refine zW 9 rfl (.tuple #[.pointer (some ⟨p2,0,none⟩),.int .i64 0]) ?_;refine zw 10 rfl p2 0 ?_;refine zW 11 rfl (.int .i64 0) ?_;refine zw 12 rfl p2 0 ?_;refine zW 13 rfl (.int .i64 0) ?_;refine zE ?_;clear hh BU P1;have K2:=zH (K1.out.same (S:=fun _=>False) (Zb.of_below B2.out) (fun _ h=>h.elim));have c14:=Z6 P2.out 14 (.pointer (some ⟨sp,0,none⟩)) rfl;go_wp2_with fail;refine(Z1c W2 sp F1 cs cf cs.length cf.length K2.out).mono ?_;rintro e W3 ⟨oa,oc,rfl,h1,b3⟩;have L2:=zH H2.out.lt;have OB:=zH h1;have P3:=zH (Z7 b3 P2.out);have H3:=zH (H2.out.below b3);have B3:=zH (B2.out.trans (b3.mono B2.out.size));have SZ3:=zH b3.size;clear h1 b3 c14 K2 P2 K1;obtain⟨bs,hbs⟩:=zX (Zz cs cf);rw[hbs.out]at OB ⊢;have BL:Hid (bs.length<=S.l.length /\ ∀x∈bs,x.length<=8192):=zH (by
  rw[<-hbs.out];unfold Zz;obtain⟨h1,h2⟩:=Z5H (cf.length / 4) cs cf;refine⟨?_,h2⟩;have h3:=CFL.out;have h4:=HI.out.fbl;have h5:=HI.out.len;omega)
 obtain⟨n,hn⟩:=zX (bs.length);rw[hn.out]at OB BL ⊢;have BBX:Hid (∀W',Zb (fun k=>k=p2\/k=mb2\/k=sp2\/W3.heap.size<=k) W3 W'->Z2Z W' oa n oc bs):=zH (fun W' hs=>by
  obtain⟨vs,o1,o2,o3⟩:=OB.out;have l1:p2 < W2.heap.size:=L2.out p2 (.inl rfl);have l2:mb2 < W2.heap.size:=L2.out mb2 (.inr (.inl rfl));have l3:sp2 < W2.heap.size:=L2.out sp2 (.inr (.inr (.inl H2.out.stk.self)));have:J5 W' W2.heap.size oa n oc bs:=⟨vs,Ze o1 hs (fun b hb h=>by
    have h4:=o1.lt b hb;rcases h with h | h | h | h <;> omega),o2,fun i hi=>by
    obtain⟨ai,ci,q1,q2⟩:=o3 i hi;refine⟨ai,ci,q1,Ze q2 hs (fun b hb h=>?_)⟩;obtain⟨cur,hk⟩:=Z7p q2 b hb;rcases h with rfl | rfl | rfl | h
    ·rw[H3.out.blk]at hk;simp only[Option.some.injEq,Obj.cells.injEq]at hk;exact absurd hk.2.1 (by decide)
    ·obtain⟨es,cl,hm⟩:=H3.out.map.blk;rw[hm]at hk;cases hk
    ·obtain⟨sa,sc,fa,fc,g1,_⟩:=id H3.out.stk;rw[g1]at hk;simp only[Option.some.injEq,Obj.cells.injEq]at hk;exact absurd hk.2.1 (by decide)
    ·have:=(q2.lt b hb).2;omega⟩
  exact this.rd)
 have FT0 : ∀k,Yl p2 mb2 (fun _=>none) (fun k=>k=sp2) k->k=p2\/k=mb2\/k=sp2\/W3.heap.size<=k:=fun k hk=>by
  rcases hk with h | h | h | ⟨a,x,h,_⟩
  ·exact .inl h
  ·exact .inr (.inl h)
  ·exact .inr (.inr (.inl h))
  ·cases h
 have NP0:p≠p2/\p≠mb2/\p≠sp2/\p < W3.heap.size:=by
  have q1:=GE2.out p2 (.inl rfl);have q2:=GE2.out mb2 (.inr (.inl rfl));have q3:=GE2.out sp2 (.inr (.inr (.inl rfl)));have q4:=PW1.out;have q5:=Zk P3.out;omega
 have CA0:Hid (Z8l w1 W3 W3 p p2 mb2 sp2 SF S mb sp (fun _=>none) (fun k=>k=sp2) (Zf.new S.f S.id) bs 0):=zH ⟨H3.out,Xh.new HI.out.v HI.out.id,rfl,by rw[List.drop_zero],Nat.le_refl _,Zb.refl _ _,FT0,P3.out,NP0⟩;clear FT0 NP0 OB H3 P3 H2 L2;have N63:Hid ((n:Int)<=400):=zH (by have h1:=BL.out.1;have h2:=HLEN.out;have h3:=hn.out;omega);go_wp2_with fail;go_loopw [50] (fun iv wr=>∃(i:Nat) (A:Zf) (G2:Nm->Option LN) (SF2:Nat->Prop),iv = .int .i64 (i:Int)/\i<=n/\Hid (Z8l w1 W3 wr p p2 mb2 sp2 SF S mb sp G2 SF2 A bs i)) (fun iv _=>n - (intOf iv).toNat)
 case atStart=>exact⟨0,_,_,_,rfl,Nat.zero_le _,CA0⟩
 case round=>
  clear CA0;obtain⟨i,A,G2,SF2,rfl,hin,CA⟩:=hrel;by_cases hlt:i < n
  ·have t0:decide ((i:Int) < (n:Int))=true:=by simp;omega
   obtain⟨b,off,hoa,hc⟩:=(BBX.out wr CA.out.same).at (show 0 < n by omega);obtain⟨ai,ci,hx,hri⟩:=hc i hlt;obtain⟨x,Hx⟩ : ∃x,bs[i]? = some x:=⟨_,List.getElem?_eq_getElem (by rw[hn.out];exact hlt)⟩;rw[Hx]at hx hri;have RX:=zH (show Ye wr ai x.length ci x from hri);have XL:=zH (BL.out.2 x (List.mem_of_getElem? Hx));have DR:=zH (Zcn Hx);have hk64:(i:Int) < n:=by omega
   simp only[Option.getD_some]at hx;clear hc hri Hx;subst hoa;have c0:=Z6 CA.out.blk 0 (.int .i64 S.f.rings) rfl;have c1:=Z6 CA.out.blk 1 (.int .i64 S.f.sectors) rfl;have c2:=Z6 CA.out.blk 2 (.int .i64 S.f.wide) rfl;go_wp2_with fail;clear t0;have DC:=zH (Z3l S.f x ai x.length ci wr RX.out (Nat.le_trans XL.out (by decide)));have hvl:S.f.val = .agg #[.int .i64 S.f.rings,.int .i64 S.f.sectors,.int .i64 S.f.wide]:=rfl;rw[hvl]at DC;clear hvl;refine DC.out.mono ?_;clear DC;rintro e w5 (⟨m,sa,sc,hdec,rfl,ho,b5⟩ | ⟨hdec,rfl,b5⟩)
   ·have DE:Hid (QL A.f x=some m):=zH (by rw[CA.out.f];exact hdec);have MC:=zH (Zcq hdec);have MOK:Hid m.Ok:=zH (Zbs (Z74 MC.out.1));have O5:=zH ho;have F2L:=zH CA.out.hou.lt;have WRS:=zH b5.size;replace CA:=zH (CA.out.below b5);clear hdec ho b5 c0 c1 c2 hx;go_upto_region 11 with (first
     |(refine zP w5 w5.heap.size (Z5 m sa sc) ?_))
    have bt:Below w5.heap.size w5 (w5.alloc (.cells (Z5 m sa sc) 47)):=zB _ _;have N14:=zH (Za w5 (.cells (Z5 m sa sc) 47));replace CA:=zH (CA.out.below bt);replace O5:=zH (Zd O5.out bt);replace WRS:=zH (Nat.le_trans WRS.out bt.size);obtain⟨p14,hp14⟩:=zX (w5.heap.size);rw[hp14.out]at N14;rw[hp14.out];generalize w5.alloc (.cells (Z5 m sa sc) 47)=w6 at *;clear bt hp14;have b7:Below w6.heap.size w6 (w6.alloc (.cells (Z5 m sa sc) 47)):=zB _ _;have R7:=zH (Za w6 (.cells (Z5 m sa sc) 47));have CA7:=zH (CA.out.below b7);have O7:=zH (Zd O5.out b7);have PB:Hid (wr.heap.size<=w6.heap.size):=zH WRS.out;obtain⟨pb,hpb⟩:=zX (w6.heap.size);go_wp2_with (first
     |(refine zL p14 N14.out ?_)
     |(refine Xz rfl _ rfl m sa sc rfl ?_))
    rw[hpb.out]at R7 PB;rw[hpb.out];generalize w6.alloc (.cells (Z5 m sa sc) 47)=w7 at *;clear b7 hpb;refine(Z5L p2 mb2 sp2 G2 SF2 A (some ⟨pb,0,none⟩) 1 1 [m] [⟨m,sa,sc⟩] w7 CA7.out.hou CA7.out.inv rfl (fun W hs=>⟨rfl,Nat.le_refl _,by decide,.inr ⟨pb,0,rfl,fun j y hy=>by
     have hj:j=0:=by have:=(List.getElem?_eq_some_iff.1 hy).1;simp at this;exact this
     subst hj;simp only[List.getElem?_cons_zero,Option.some.injEq]at hy;subst hy;refine⟨fun q v hv=>?_,Y3.of_own (Ze O7.out hs (fun b hb h=>by have h1:=F2L.out b h;have h2:=(O7.out.lt b hb).1;omega))⟩;have hb2:=hs.block pb (Zk R7.out) (fun h=>by have h1:=F2L.out pb h;have h2:=PB.out;omega);have h3:W.heap[pb]? = some (.cells (Z5 m sa sc) 47):=hb2.trans R7.out;rw[show 0+0 * 19+q=q by omega];exact Z6 h3 q v (by rw[<-Array.getElem?_toList];exact hv)⟩⟩) (fun y hy=>by rw[List.mem_singleton.1 hy];exact MOK.out) (by have h1:=CA7.out.len;have h2:=N63.out;omega)).mono ?_
    rintro e w8 ⟨rfl,G3,SF3,h1,h2,h3⟩;obtain⟨A',J7,code,hap⟩ : ∃A' J7 code,Hid (ZR A [m]=(A',J7,code)):=⟨_,_,_,zH rfl⟩;have HI2:=(Z2O CA7.out.inv (l:=[m]) (fun y hy=>by rw[List.mem_singleton.1 hy];exact MOK.out));have HF2:=ZdW A [m];have HST := @ZaB A m;rw[hap.out]at h1 HI2 HF2 HST ⊢;dsimp only at h1 HI2 HF2 HST ⊢;have H8:=zH h1;have S8:=zH h2;have F8:=zH h3;have I8:=zH HI2;have E8:=zH HF2;have T8:=zH HST;clear h1 h2 h3 HI2 HF2 HST;by_cases hgo:code=0/\J7=1
    ·obtain⟨rfl,rfl⟩:=hgo;have CA8:=zH (CA7.out.step (j:=i+1) H8.out I8.out.1 (E8.out.trans CA7.out.f) (CA7.out.rcv.trans (by rw[DR.out];exact Z40 DE.out hap.out)) (Nat.le_trans I8.out.2 (Nat.add_le_add_right CA7.out.len 1)) S8.out F8.out);clear CA CA7 H8 S8 F8 I8 E8 T8 hap;have hi64:(i:Int)+1<=401:=by have:=N63.out;omega
     go_wp2;go_roundw
     case rel=>exact⟨i+1,A',G3,SF3,by go_num,by omega,CA8⟩
     case measure=>simp[intOf];omega
    have hAA:A'=A:=T8.out hgo;have REC:Hid (Vz (Zf.new S.f S.id) bs=A):=zH (by
     rw[CA7.out.rcv,DR.out];refine Z3Z ?_;rw[DE.out];show(if (ZR A [m]).2.2=0/\(ZR A [m]).2.1=1 then some (ZR A [m]).1 else none)=none;rw[hap.out];exact if_neg hgo)
    rw[hAA]at H8;replace CA:=zH (CA7.out.step (j:=i) H8.out CA7.out.inv CA7.out.f CA7.out.rcv CA7.out.len S8.out F8.out);clear CA7 H8 S8 F8 I8 E8 T8 hap hAA;by_cases hc0:code=0
    focus
     have t1:(J7 != 1)=true:=by
      have:J7≠1:=fun h=>hgo ⟨hc0,h⟩;simp[this]
     subst hc0;clear hgo
    rotate_left
    focus
     have t1:(code != 0)=true:=by simp[hc0]
     clear hgo hc0
    all_goals
     go_upto_region 15 with fail;clear t1 hlt;go_wp2_with fail;refine(Jt p2 mb2 sp2 G3 SF3 A _ CA.out.hou).mono ?_;rintro e X1 ⟨rfl,h1,h2⟩;have HS:=zH h1;have SX:=zH h2;have PX:=zH ((h2.block p (Zk CA.out.blk) CA.out.np.2.2.1).trans CA.out.blk);have P2X:Hid (X1.heap[p2]? = some (.cells (XE A.f A.id mb2 A.c sp2) 109)):=zH h1.blk;have SP2:=zH CA.out.hou.stk.self;have HSZ:Hid ((zq.info? 109).map (·.size)=some (XE A.f A.id mb2 A.c sp2).size):=zH (by kernel_rfl);clear h1 h2;have oneH:=Z4t A.f A.id mb2 A.c sp2;go_wp2_with (first
      |(refine wpList_load_row rfl 109 _ rfl p2 rfl 109 (XE A.f A.id mb2 A.c sp2) (0,0) _ P2X.out Tryz.underlying109 rfl HSZ.out ?_)
      |(refine Xy rfl 109 _ _ rfl p (XE S.f S.id mb S.c sp) (XE A.f A.id mb2 A.c sp2) 109 rfl rfl PX.out HSZ.out rfl oneH ?_))
     go_ret;have S3:=Z2s X1 p (XE A.f A.id mb2 A.c sp2);have g1:=GE2.out p2 (.inl rfl);have g2:=GE2.out mb2 (.inr (.inl rfl));have g3:=GE2.out sp2 (.inr (.inr (.inl rfl)));have g4:=S1.out.size;have g5:=B3.out.size;have g6 : ∀k,k=p2\/k=mb2\/k=sp2\/W3.heap.size<=k->w1.heap.size<=k:=fun k hk=>by omega
     have HS3:=HS.out.same S3 (fun k hk h=>by
      rw[show k=p from hk]at h;have h5:=CA.out.np;rcases CA.out.foot p h with h | h | h | h <;> omega)
     have SW1:Zb (Yl p mb G SF) w1 W3:=(S1.out.weaken (fun k hk=>.inr (.inr (.inl hk)))).trans (Zb.of_below B3.out);have SW2:=Xl SW1 CA.out.same (fun k hk=>.inr (g6 k hk));have SW3:=Xl SW2 SX.out (fun k hk=>.inr (g6 k (.inr (.inr (.inl hk)))));have SW4:=SW3.trans (S3.weaken (fun k hk=>.inl hk));exact⟨A.sync,0,.inr ⟨HC.out,by rw[Int.toNat_natCast,Int.toNat_natCast,hcs.out,hcf.out,hbs.out,REC.out],rfl⟩,CA.out.inv.sync,rfl,mb2,sp2,G3,SF3,
      ⟨Yz X1 p _ (XE A.f A.id mb2 A.c sp2) _ _ PX.out,HS3.map,HS3.gs,HS3.gl,HS3.str,HS3.stk⟩,SW4,fun k hk=>by
       rcases hk with h | h
       ·exact .inl (.inl h)
       ·exact .inr (g6 k (CA.out.foot k (.inr h)))⟩
   ·have REC:Hid (Vz (Zf.new S.f S.id) bs=A):=zH (by
     rw[CA.out.rcv,DR.out];refine Z3Z ?_;rw[CA.out.f,hdec];rfl)
    replace CA:=zH (CA.out.below b5);clear hdec b5 c0 c1 c2 hx;go_upto_region 11 with (first
     |(refine zP w5 w5.heap.size (Z5 Zh none 0) ?_))
    have bt:Below w5.heap.size w5 (w5.alloc (.cells (Z5 Zh none 0) 47)):=zB _ _;replace CA:=zH (CA.out.below bt);clear bt;generalize w5.alloc (.cells (Z5 Zh none 0) 47)=w6 at *;go_upto_region 15 with fail;clear hlt;go_wp2_with fail;refine(Jt p2 mb2 sp2 G2 SF2 A _ CA.out.hou).mono ?_;rintro e X1 ⟨rfl,h1,h2⟩;have HS:=zH h1;have SX:=zH h2;have PX:=zH ((h2.block p (Zk CA.out.blk) CA.out.np.2.2.1).trans CA.out.blk);have P2X:Hid (X1.heap[p2]? = some (.cells (XE A.f A.id mb2 A.c sp2) 109)):=zH h1.blk;have SP2:=zH CA.out.hou.stk.self;have HSZ:Hid ((zq.info? 109).map (·.size)=some (XE A.f A.id mb2 A.c sp2).size):=zH (by kernel_rfl);clear h1 h2;have oneH:=Z4t A.f A.id mb2 A.c sp2;go_wp2_with (first
     |(refine wpList_load_row rfl 109 _ rfl p2 rfl 109 (XE A.f A.id mb2 A.c sp2) (0,0) _ P2X.out Tryz.underlying109 rfl HSZ.out ?_)
     |(refine Xy rfl 109 _ _ rfl p (XE S.f S.id mb S.c sp) (XE A.f A.id mb2 A.c sp2) 109 rfl rfl PX.out HSZ.out rfl oneH ?_))
    go_ret;have S3:=Z2s X1 p (XE A.f A.id mb2 A.c sp2);have g1:=GE2.out p2 (.inl rfl);have g2:=GE2.out mb2 (.inr (.inl rfl));have g3:=GE2.out sp2 (.inr (.inr (.inl rfl)));have g4:=S1.out.size;have g5:=B3.out.size;have g6 : ∀k,k=p2\/k=mb2\/k=sp2\/W3.heap.size<=k->w1.heap.size<=k:=fun k hk=>by omega
    have HS3:=HS.out.same S3 (fun k hk h=>by
     rw[show k=p from hk]at h;have h5:=CA.out.np;rcases CA.out.foot p h with h | h | h | h <;> omega)
    have SW1:Zb (Yl p mb G SF) w1 W3:=(S1.out.weaken (fun k hk=>.inr (.inr (.inl hk)))).trans (Zb.of_below B3.out);have SW2:=Xl SW1 CA.out.same (fun k hk=>.inr (g6 k hk));have SW3:=Xl SW2 SX.out (fun k hk=>.inr (g6 k (.inr (.inr (.inl hk)))));have SW4:=SW3.trans (S3.weaken (fun k hk=>.inl hk));exact⟨A.sync,0,.inr ⟨HC.out,by rw[Int.toNat_natCast,Int.toNat_natCast,hcs.out,hcf.out,hbs.out,REC.out],rfl⟩,CA.out.inv.sync,rfl,mb2,sp2,G2,SF2,
     ⟨Yz X1 p _ (XE A.f A.id mb2 A.c sp2) _ _ PX.out,HS3.map,HS3.gs,HS3.gl,HS3.str,HS3.stk⟩,SW4,fun k hk=>by
      rcases hk with h | h
      ·exact .inl (.inl h)
      ·exact .inr (g6 k (CA.out.foot k (.inr h)))⟩
  ·have t0:decide ((i:Int) < (n:Int))=false:=by simp;omega
   have REC:Hid (Vz (Zf.new S.f S.id) bs=A):=zH (by rw[CA.out.rcv,List.drop_of_length_le (by rw[hn.out];omega)];rfl);go_upto_region 15 with fail;clear t0 hlt;go_wp2_with fail;refine(Jt p2 mb2 sp2 G2 SF2 A _ CA.out.hou).mono ?_;rintro e X1 ⟨rfl,h1,h2⟩;have HS:=zH h1;have SX:=zH h2;have PX:=zH ((h2.block p (Zk CA.out.blk) CA.out.np.2.2.1).trans CA.out.blk);have P2X:Hid (X1.heap[p2]? = some (.cells (XE A.f A.id mb2 A.c sp2) 109)):=zH h1.blk;have SP2:=zH CA.out.hou.stk.self;have HSZ:Hid ((zq.info? 109).map (·.size)=some (XE A.f A.id mb2 A.c sp2).size):=zH (by kernel_rfl);clear h1 h2;have oneH:=Z4t A.f A.id mb2 A.c sp2;go_wp2_with (first
    |(refine wpList_load_row rfl 109 _ rfl p2 rfl 109 (XE A.f A.id mb2 A.c sp2) (0,0) _ P2X.out Tryz.underlying109 rfl HSZ.out ?_)
    |(refine Xy rfl 109 _ _ rfl p (XE S.f S.id mb S.c sp) (XE A.f A.id mb2 A.c sp2) 109 rfl rfl PX.out HSZ.out rfl oneH ?_))
   go_ret;have S3:=Z2s X1 p (XE A.f A.id mb2 A.c sp2);have g1:=GE2.out p2 (.inl rfl);have g2:=GE2.out mb2 (.inr (.inl rfl));have g3:=GE2.out sp2 (.inr (.inr (.inl rfl)));have g4:=S1.out.size;have g5:=B3.out.size;have g6 : ∀k,k=p2\/k=mb2\/k=sp2\/W3.heap.size<=k->w1.heap.size<=k:=fun k hk=>by omega
   have HS3:=HS.out.same S3 (fun k hk h=>by
    rw[show k=p from hk]at h;have h5:=CA.out.np;rcases CA.out.foot p h with h | h | h | h <;> omega)
   have SW1:Zb (Yl p mb G SF) w1 W3:=(S1.out.weaken (fun k hk=>.inr (.inr (.inl hk)))).trans (Zb.of_below B3.out);have SW2:=Xl SW1 CA.out.same (fun k hk=>.inr (g6 k hk));have SW3:=Xl SW2 SX.out (fun k hk=>.inr (g6 k (.inr (.inr (.inl hk)))));have SW4:=SW3.trans (S3.weaken (fun k hk=>.inl hk));exact⟨A.sync,0,.inr ⟨HC.out,by rw[Int.toNat_natCast,Int.toNat_natCast,hcs.out,hcf.out,hbs.out,REC.out],rfl⟩,CA.out.inv.sync,rfl,mb2,sp2,G2,SF2,
    ⟨Yz X1 p _ (XE A.f A.id mb2 A.c sp2) _ _ PX.out,HS3.map,HS3.gs,HS3.gl,HS3.str,HS3.stk⟩,SW4,fun k hk=>by
     rcases hk with h | h
     ·exact .inl (.inl h)
     ·exact .inr (g6 k (CA.out.foot k (.inr h)))⟩
open Go.ChangeShapes Go.WideShapes Go.ChangeAt Go.RowKit
theorem Tryz.own:ownKnob zq.godebug=none:=by kernel_rfl
theorem Tryz.laidOut:laidOutB zq=true:=by kernel_rfl
theorem Z1m {H:Type}{enc:TypeId×Value->H}{P:Program}(hl:laidOutB P=true){W W':World}(hb:Below W.heap.size W W'):
  ∀(ts:List TypeId) {vs:List Value} {ds:List (DataW H)} {ps:List MemPlace},ts.all (fun t=>P.readableRec t && decide (t < P.types.size))=true->(∀x∈ps,x.block < W.heap.size)->
   DataW.TrodAll enc P W 0 (fun _=>true) true ts vs ds ps->DataW.TrodAll enc P W' 0 (fun b=>decide (b < W.heap.size)) true ts vs ds ps
 | [],[],[],_,_,_,h=>h
 | [],_ :: _,_,_,_,_,h=>h.elim
 | [],[],_ :: _,_,_,_,h=>h.elim
 | _ :: _,[],_,_,_,_,h=>h.elim
 | _ :: _,_ :: _,[],_,_,_,h=>h.elim
 | t :: ts,v :: vs,d :: ds,ps,hr,hlt,h=>by
  obtain⟨p,q,h1,h2,rfl⟩:=h
  simp only[List.all_cons,Bool.and_eq_true,decide_eq_true_eq]at hr
  exact⟨p,q,Below.trod hl hr.1.1 hr.1.2 h1 hb (fun x hx=>hlt x (List.mem_append_left _ hx)),Z1m hl hb ts hr.2 (fun x hx=>hlt x (List.mem_append_right _ hx)) h2,rfl⟩
theorem Z7m {H:Type}{enc:TypeId×Value->H}{P:Program}(hl:laidOutB P=true){t:TypeId}(ht:P.underlying t=some .bool){f:Func}{s:ChangeSpec}{W W':World}{args:Y6}{ds:List (DataW H)}{ps:List MemPlace}
  (hv:s.vars=[]) (hf:f.resultTypes = #[t]) (hr:f.params.toList.all (fun t=>P.readableRec t && decide (t < P.types.size))=true)
  (hW:DataW.Whole enc P f.params.toList s.vars false W args.toList ds [] ps) (hA:DataW.TrodAll enc P W 0 (fun _=>true) true f.params.toList args.toList ds ps)
  (hs:s.fn H (ds ++ []) = { results:=[.lit (.bool true)],args:=ds }) (hb:Below W.heap.size W W'):s.post enc P f false true false false W args (.bool true) W':=by
 refine⟨ds,[],ps,[],ps,[],hW,?_,?_,?_,hb.frame _,fun h=>by cases h⟩
 ·rw[hs,hf];exact trodAll_mk1 (shut_bool ht _)
 ·rw[hs];exact Z1m hl hb _ hr hW.lt hA
 ·rw[hs,hv];rfl
theorem YT {x:Int}(h:(Lit.int .i64 x).wf=true):J6 x:=by
 simp[Lit.wf,IntKind.min,IntKind.max,IntKind.signed,IntKind.bits]at h;unfold J6;omega
theorem Tryz.cells3:zq.cellsOf 3=1:=by kernel_rfl
theorem Tryz.cells37:zq.cellsOf 37=1:=by kernel_rfl
theorem Tryz.cells43:zq.cellsOf 43=2:=by kernel_rfl
theorem Tryz.cells45:zq.cellsOf 45=2:=by kernel_rfl
theorem Tryz.cells47:zq.cellsOf 47=19:=by kernel_rfl
section
variable {H:Type}{enc:TypeId×Value->H}{W:World}{fuel:Nat}
theorem ZbC {cs:List Value}{y:DataW H×List MemPlace}(h:DataW.trod enc zq W 0 (fun _=>true) true fuel 37 cs=some y): ∃a c l,cs=[.slice a l.length c]/\Xs W a l.length c l /\ ∀z∈l,J6 z:=by
 rcases open_ints Tryz.underlying37 Tryz.underlying3 Tryz.cells3 h with ⟨hcs,hx⟩ | ⟨a,n,c,zs,hcs,_,hl,hm,hz,hx,hcell,hwz⟩
 ·exact⟨none,0,[],hcs,Y3.nil _ _,fun z hz=>by cases hz⟩
 ·simp only[if_true]at hz;have hlen:(zs.take n).length=n:=by rw[List.length_take];omega
  refine⟨some a,c,zs.take n,by rw[hlen];exact hcs,⟨by simp,by omega,hm,?_⟩,fun z hz=>YT (hwz z (List.mem_of_mem_take hz))⟩;by_cases hc0:c=0
  ·exact .inl hc0
  ·obtain⟨ab,ao,spot⟩:=a;have hspot:spot=none:=by simpa [Addr.add] using World.cell?_spot (hcell 0 (by omega))
   subst hspot;refine .inr ⟨ab,ao,rfl,fun i x hx=>?_⟩;rw[List.getElem?_map,List.getElem?_take]at hx;split at hx
   ·rename_i hi;have hiz:i < zs.length:=by omega
    rw[List.getElem?_eq_getElem hiz,Option.map_some]at hx;simp only[Option.some.injEq]at hx;subst hx;have hc:=hcell i hiz;rw[Addr.add_lit]at hc;rw[hc,List.getD_eq_getElem?_getD,List.getElem?_eq_getElem hiz];rfl
   ·cases hx
theorem Yc {α:Type}{xs:List α}{n i:Nat}(h:xs.length=n)(hi:i < n): ∃y,xs[i]? = some y:=⟨xs[i]'(by omega),List.getElem?_eq_getElem (by omega)⟩
theorem Z41 {t:TypeId}{cs:List Value}{y:DataW H×List MemPlace}{f0 f1:Field}(ht:zq.underlying t=some (.struct #[f0,f1]))(h0:f0.type=3)(h1:f1.type=3)(o0:f0.offset=0)(o1:f1.offset=1)(hc:zq.cellsOf t=2)
  (h:DataW.trod enc zq W 0 (fun _=>true) true fuel t cs=some y) : ∃x z,cs=[.int .i64 x,.int .i64 z]/\J6 x/\J6 z:=by
 obtain⟨y0,y1,n,_,hl,g0,g1⟩:=trod_struct2 ht h;rw[hc]at hl
 match cs,hl with
 | [c0,c1],_=>
  rw[h0,o0,Tryz.cells3]at g0;rw[h1,o1,Tryz.cells3]at g1;obtain⟨x,a0,_,b0⟩:=DataW.trod_int Tryz.underlying3 g0;obtain⟨z,a1,_,b1⟩:=DataW.trod_int Tryz.underlying3 g1;simp at a0 a1;exact⟨x,z,by rw[a0,a1],YT b0,YT b1⟩
theorem Z8J {cs:List Value}{y:DataW H×List MemPlace}(h:DataW.trod enc zq W 0 (fun _=>true) true fuel 47 cs=some y): ∃n:Z8,Zea W cs n:=by
 obtain⟨xs,m,_,_,hl,hlen,hf⟩:=DataW.trod_struct Tryz.underlying47 h;rw[Tryz.cells47]at hl
 match cs,hl with
 | [c0,c1,c2,c3,c4,c5,c6,c7,c8,c9,c10,c11,c12,c13,c14,c15,c16,c17,c18],_=>
  obtain⟨y0,e0⟩:=Yc hlen (i:=0) (by decide);have HG:=fun(K T:Nat) {y} (h:DataW.trod enc zq W 0 (fun _=>true) true m T (([c0,c1,c2,c3,c4,c5,c6,c7,c8,c9,c10,c11,c12,c13,c14,c15,c16,c17,c18].drop K).take (zq.cellsOf T))=some y)=>h;have g0:=HG 0 3 ((hf 0 _ rfl).trans e0);rw[Tryz.cells3]at g0;obtain⟨x0,a0,_,b0⟩:=DataW.trod_int Tryz.underlying3 g0;simp at a0;clear e0 g0;obtain⟨y1,e1⟩:=Yc hlen (i:=1) (by decide);have g1:=HG 1 3 ((hf 1 _ rfl).trans e1);rw[Tryz.cells3]at g1;obtain⟨x1,a1,_,b1⟩:=DataW.trod_int Tryz.underlying3 g1;simp at a1;clear e1 g1;obtain⟨y2,e2⟩:=Yc hlen (i:=2) (by decide);have g2:=HG 2 3 ((hf 2 _ rfl).trans e2);rw[Tryz.cells3]at g2;obtain⟨x2,a2,_,b2⟩:=DataW.trod_int Tryz.underlying3 g2;simp at a2;clear e2 g2;obtain⟨y3,e3⟩:=Yc hlen (i:=3) (by decide);have g3:=HG 3 3 ((hf 3 _ rfl).trans e3);rw[Tryz.cells3]at g3;obtain⟨x3,a3,_,b3⟩:=DataW.trod_int Tryz.underlying3 g3;simp at a3;clear e3 g3;obtain⟨y4,e4⟩:=Yc hlen (i:=4) (by decide);have g4:=HG 4 3 ((hf 4 _ rfl).trans e4);rw[Tryz.cells3]at g4;obtain⟨x4,a4,_,b4⟩:=DataW.trod_int Tryz.underlying3 g4;simp at a4;clear e4 g4;obtain⟨y5,e5⟩:=Yc hlen (i:=5) (by decide);have g5:=HG 5 3 ((hf 5 _ rfl).trans e5);rw[Tryz.cells3]at g5;obtain⟨x5,a5,_,b5⟩:=DataW.trod_int Tryz.underlying3 g5;simp at a5;clear e5 g5;obtain⟨y6,e6⟩:=Yc hlen (i:=6) (by decide);have g6:=HG 6 3 ((hf 6 _ rfl).trans e6);rw[Tryz.cells3]at g6;obtain⟨x6,a6,_,b6⟩:=DataW.trod_int Tryz.underlying3 g6;simp at a6;clear e6 g6;obtain⟨y7,e7⟩:=Yc hlen (i:=7) (by decide);have g7:=HG 7 3 ((hf 7 _ rfl).trans e7);rw[Tryz.cells3]at g7;obtain⟨x7,a7,_,b7⟩:=DataW.trod_int Tryz.underlying3 g7;simp at a7;clear e7 g7;obtain⟨y8,e8⟩:=Yc hlen (i:=8) (by decide);have g8:=HG 8 43 ((hf 8 _ rfl).trans e8);rw[Tryz.cells43]at g8;obtain⟨x8,z8,a8,b8,d8⟩:=Z41 Tryz.underlying43 rfl rfl rfl rfl Tryz.cells43 g8;simp at a8;clear e8 g8;obtain⟨y9,e9⟩:=Yc hlen (i:=9) (by decide);have g9:=HG 10 43 ((hf 9 _ rfl).trans e9);rw[Tryz.cells43]at g9;obtain⟨x9,z9,a9,b9,d9⟩:=Z41 Tryz.underlying43 rfl rfl rfl rfl Tryz.cells43 g9
  simp at a9;clear e9 g9;obtain⟨y10,e10⟩:=Yc hlen (i:=10) (by decide);have g10:=HG 12 3 ((hf 10 _ rfl).trans e10);rw[Tryz.cells3]at g10;obtain⟨x10,a10,_,b10⟩:=DataW.trod_int Tryz.underlying3 g10;simp at a10;clear e10 g10;obtain⟨y11,e11⟩:=Yc hlen (i:=11) (by decide);have g11:=HG 13 3 ((hf 11 _ rfl).trans e11);rw[Tryz.cells3]at g11;obtain⟨x11,a11,_,b11⟩:=DataW.trod_int Tryz.underlying3 g11;simp at a11;clear e11 g11;obtain⟨y12,e12⟩:=Yc hlen (i:=12) (by decide);have g12:=HG 14 3 ((hf 12 _ rfl).trans e12);rw[Tryz.cells3]at g12;obtain⟨x12,a12,_,b12⟩:=DataW.trod_int Tryz.underlying3 g12;simp at a12;clear e12 g12;obtain⟨y13,e13⟩:=Yc hlen (i:=13) (by decide);have g13:=HG 15 37 ((hf 13 _ rfl).trans e13);rw[Tryz.cells37]at g13;obtain⟨sa,sc,l,a13,r13,b13⟩:=ZbC g13;simp at a13;clear e13 g13;obtain⟨y14,e14⟩:=Yc hlen (i:=14) (by decide);have g14:=HG 16 45 ((hf 14 _ rfl).trans e14);rw[Tryz.cells45]at g14;obtain⟨x14,z14,a14,b14,d14⟩:=Z41 Tryz.underlying45 rfl rfl rfl rfl Tryz.cells45 g14;simp at a14;clear e14 g14;obtain⟨y15,e15⟩:=Yc hlen (i:=15) (by decide);have g15:=HG 18 3 ((hf 15 _ rfl).trans e15);rw[Tryz.cells3]at g15;obtain⟨x15,a15,_,b15⟩:=DataW.trod_int Tryz.underlying3 g15;simp at a15;clear e15 g15;exact⟨{ house:=x0,num:=x1,clock:=x2,day:=x3,kind:=x4,stone:=x5,heap:=x6,turns:=x7,hardLo:=x8,hardHi:=z8,diffLo:=x9,diffHi:=z9,a:=x10,b:=x11,ring:=x12,strokes:=l,refH:=x14,refN:=z14,fix:=x15 },sa,sc,by simp only[Z8.cells];rw[a0,a1,a2,a3,a4,a5,a6,a7,a8.1,a8.2,a9.1,a9.2,a10,a11,a12,a13,a14.1,a14.2,a15],r13,{ house:=YT b0,num:=YT b1,clock:=YT b2,day:=YT b3,kind:=YT b4,stone:=YT b5,heap:=YT b6,turns:=YT b7,hardLo:=b8,hardHi:=d8,diffLo:=b9,diffHi:=d9,a:=YT b10,b:=YT b11,ring:=YT b12,strokes:=b13,refH:=b14,refN:=d14,fix:=YT b15 }⟩
end
theorem Tryz.cells23:zq.cellsOf 23=3:=by kernel_rfl
section
variable {H:Type}{enc:TypeId×Value->H}{W:World}
theorem Z7Q {base:Nat}{v:Value}{d:DataW H}{p:List MemPlace}(hval:Value.okWide zq W .any base 23 v)
  (h:DataW.Trod enc zq W 0 (fun _=>true) true 23 v d p) : ∃f:Yo,v=f.val:=by
 obtain⟨cs,rfl,hsz⟩:=okWide_struct Tryz.underlying23 hval;obtain⟨fuel,hf⟩:=h;obtain⟨y0,y1,y2,n,_,hl,g0,g1,g2⟩:=Go.Deep.trod_struct3 Tryz.underlying23 hf;rw[Tryz.cells23]at hsz;obtain⟨l⟩:=cs
 match l,hsz with
 | [c0,c1,c2],_=>
  have g0':DataW.trod enc zq W 0 (fun _=>true) true n 3 (([c0,c1,c2].drop 0).take (zq.cellsOf 3))=some y0:=g0;have g1':DataW.trod enc zq W 0 (fun _=>true) true n 3 (([c0,c1,c2].drop 1).take (zq.cellsOf 3))=some y1:=g1;have g2':DataW.trod enc zq W 0 (fun _=>true) true n 3 (([c0,c1,c2].drop 2).take (zq.cellsOf 3))=some y2:=g2;rw[Tryz.cells3]at g0' g1' g2';obtain⟨x0,a0,_,_⟩:=DataW.trod_int Tryz.underlying3 g0';obtain⟨x1,a1,_,_⟩:=DataW.trod_int Tryz.underlying3 g1';obtain⟨x2,a2,_,_⟩:=DataW.trod_int Tryz.underlying3 g2';simp at a0 a1 a2;exact⟨⟨x0,x1,x2⟩,by rw[a0,a1,a2];rfl⟩
theorem Z4J {a:Addr}{n:Nat}{cs:List Value}(hn:0 < n)(h:W.cells? 0 a n=some cs):a.spot=none:=by
 have h2:=World.cells?_some h;have h3:=h2.2.2 0 (by have:=h2.1;omega);rw[List.getElem?_eq_getElem (by have:=h2.1;omega)]at h3;simpa [Addr.add] using World.cell?_spot h3
theorem Z89 {α:Type}{n:Nat}{P:Nat->α->Prop}(h : ∀i,i < n -> ∃x,P i x): ∃l:List α,l.length=n /\ ∀i x,l[i]? = some x->P i x:=by
 induction n with
 | zero=>exact⟨[],rfl,by simp⟩
 | succ n ih=>
  obtain⟨l,h1,h2⟩:=ih (fun i hi=>h i (by omega));obtain⟨x,hx⟩:=h n (by omega);refine⟨l ++ [x],by simp[h1],fun i y hy=>?_⟩;rcases Nat.lt_or_ge i l.length with hi | hi
  ·rw[List.getElem?_append_left hi]at hy;exact h2 i y hy
  ·rw[List.getElem?_append_right hi]at hy;have:i - l.length=0:=by
    rcases Nat.eq_zero_or_pos (i - l.length)with h0 | h0
    ·exact h0
    ·rw[List.getElem?_eq_none (by simp;omega)]at hy;cases hy
   rw[this]at hy;simp at hy;subst hy;have:i=n:=by omega
   rw[this];exact hx
end
theorem Z7C {f:Yo}{l m:List Z8}(h:(Zs f l).1=0)(h2:(Zs f m).1=0)(h3:Z4P l m):JS f l m=0:=by unfold JS;rw[if_pos ⟨h,h2⟩,Z3k.2 h3]
theorem Z6E {f:Yo}(hv:f.valid=true){l:List Z8}(h : ∀x∈l,Zg f x=true):l.any (fun n=>!decide (ZX f n=0))=false:=by
 rw[List.any_eq_false];intro x hx;have:ZX f x=0:=by unfold ZX;rw[if_pos hv,if_pos (h x hx)]
 simp[this]
end Go.Proofs.YtlnhppgfhkkidaaGreat
