/- Parts of the proof, in order. -/
import Derived.Deep.Cut
import Derived.Sort.MapsRangeIn
import Derived.Lib.AppendZerosOnto
import Derived.Laws.MakeOwn
import Derived.Test.YtlnhppgfhkkidaaGreatKPhs4
set_option linter.unusedSimpArgs false
set_option linter.unusedVariables false
set_option maxHeartbeats 32000000
set_option maxRecDepth 100000
namespace Go.Proofs.YtlnhppgfhkkidaaGreat
open Go.Proofs.Tryz renaming prog → zq
open Go.RowKit
attribute [local go_sem] Oper.semAt_some
theorem Z3G (l m:List Nm):ZH (l ++ m)=ZH l ++ ZH m:=by simp[ZH]
theorem XS.addC {base:Nat}{W W':World}{p:Nat}{ha:zA}{hc:Nat}{ea:zA}{ec:Nat}{ca:zA}{cc:Nat}{hs es:List XV}{cs ns:List Nm}{a':zA}{c':Nat}(h:XS base W p ha hc ea ec ca cc hs es cs)
  (ho:W'.ownsRow base 45 2 (.slice a' (cs.length+ns.length) c') (cs.length+ns.length) (ZH cs ++ ZH ns)) (hg:W.grownBy W' (Value.ownBlock (.slice ca cs.length cc))):
  XS base (W'.setCell ⟨p,2,none⟩ (.slice a' (cs.length+ns.length) c')) p ha hc ea ec a' c' hs es (cs ++ ns)/\Zb (fun k=>k=p\/Value.ownBlock (.slice ca cs.length cc)=some k) W (W'.setCell ⟨p,2,none⟩ (.slice a' (cs.length+ns.length) c')):=by
 have hb2:=Zc hg h.blk (Zq h.cown h.blk (by intro cur;simp));have G:=Zl W' p 2 (.slice a' (cs.length+ns.length) c');refine⟨⟨?_,?_,?_,?_,?_⟩,(Zb.of_grown hg (fun k e=>.inr e)).trans (Zb.of_grown G (fun k e=>by cases e;exact .inl rfl))⟩
 ·rw[ZK hb2 2 (.slice a' (cs.length+ns.length) c'),List.length_append];rfl
 ·have h1:=h.hown.kept hg (Jz h.hown h.cown (by decide));exact h1.kept G (.inr (Zq h1 hb2 (by intro cur;simp)).symm)
 ·have h1:=h.eown.kept hg (Jz h.eown h.cown (by decide));exact h1.kept G (.inr (Zq h1 hb2 (by intro cur;simp)).symm)
 ·rw[Z3G,List.length_append];exact ho.kept G (.inr (Zq ho hb2 (by intro cur;simp)).symm)
 ·exact h.dis
def U9 (x:Nm):List Value:=[.int .i64 x.1,.int .i64 x.2]
theorem Q4 (l:List Nm):ZH l=(l.map U9).flatten:=by
 rw[ZH,List.flatMap_def];rfl
def J5 (x y:Nm):Bool:=decide (YA x.1 x.2 y.1 y.2 < 0)
theorem Xm (x y:Nm):J5 x y=true↔x.1 < y.1\/x.1=y.1/\x.2 < y.2:=by
 rw[J5,decide_eq_true_eq,YA,Z32,UI,Z0B,UI]
theorem Z5E:Ord J5:=by
 refine⟨fun x y h=>?_,fun x y z h1 h2=>?_⟩
 ·rw[Xm]at h;rw[<-Bool.not_eq_true,Xm];omega
 ·rw[<-Bool.not_eq_true,Xm]at *;omega
theorem Z6E (args:ZW)(w:World):(callFunc 124 args).run zq w = .ok (.enter 124 args) w:=by kernel_rfl
theorem ZcF (x y:Nm)(w:World):Calls zq 124 #[.agg (U9 x).toArray,.agg (U9 y).toArray] w fun e w'=>e = .returned (.int .i64 (YA x.1 x.2 y.1 y.2))/\Vj w.heap.size w w':=
 UG x.1 x.2 y.1 y.2 w
theorem Yo.table {Wb W:World}{p bT q:Nat}{R:Je}(h:Yo Wb p R W)(ht:YH Wb bT q)(h1:bT≠p)(h2:q≠p):YH W bT q:=
 ht.of_blocks (h.same.block q ht.lt.1 h2) (h.same.block bT ht.lt.2 h1)
theorem Z83 (args:ZW)(w:World):(callFunc 217 args).run zq w = .ok (.enter 217 args) w:=by kernel_rfl
theorem Z7J (args:ZW)(w:World):(callFunc 218 args).run zq w = .ok (.enter 218 args) w:=by kernel_rfl
theorem JX (l:Nat):Z1a (Fence.wide.inRound l) := .inr ⟨l,rfl⟩
theorem Z7x {e:XV}{base p bT q:Nat}{R:Je}{W:World}{ha:zA}{hc:Nat}{ea:zA}{ec:Nat}{ca:zA}{cc:Nat}(ht:YH W bT q)(h:XS base W p ha hc ea ec ca cc R.hs R.es R.cs)(hbase:base<=W.heap.size)(h1:R.hs.length<=1000000)(h2:R.es.length<=1000000)(hk:1<=e.x.n.kind/\e.x.n.kind<=4):
  ∃g lb,(Instr.lookup 245 (.map (some bT)) (.int .i64 e.x.n.kind) false).run zq W = .ok (.func (.func g) #[] lb) W/\(∀(args:ZW) (w:World),(callFunc g args).run zq w = .ok (.enter g args) w) /\
   Calls zq g (#[.pointer (some ⟨p,0,none⟩),.agg (Jh e)] ++ lb) W (Z4l base W p ha hc ea ec R e):=by
 have hk':e.x.n.kind=1\/e.x.n.kind=2\/e.x.n.kind=3\/e.x.n.kind=4:=by omega
 have h0 : ∀{g:Nat} {r:Ending->World->Prop},Calls zq g #[.pointer (some ⟨p,0,none⟩),.agg (Jh e)] W r->Calls zq g (#[.pointer (some ⟨p,0,none⟩),.agg (Jh e)] ++ #[]) W r:=fun h=>by rw[Array.append_empty];exact h
 rcases hk' with hk | hk | hk | hk
 ·exact⟨217,#[],by rw[hk];exact ht.at1,Z83,h0 (Zch h hbase h1 hk)⟩
 ·exact⟨218,#[.pointer (some ⟨q,0,none⟩)],by rw[hk];exact ht.at2,Z7J,Zcg q h ht.1 hbase h2 hk⟩
 ·exact⟨216,#[],by rw[hk];exact ht.at3,ZbN,h0 (Zbo h hbase h2 (by omega) (by omega))⟩
 ·exact⟨216,#[],by rw[hk];exact ht.at4,ZbN,h0 (Zbo h hbase h2 (by omega) (by omega))⟩
def Z5k:XV:=⟨(0,0),⟨Zg,none,0⟩⟩
theorem Z5x (W:World):(Instr.alloc 210 true (.tuple #[])).run zq W = .ok (.pointer (some ⟨W.heap.size,0,none⟩)) (W.alloc (.cells (Jh Z5k) 210)):=by kernel_rfl
theorem Z4v {op:Oper}{a:Act}{w:World}{K:Act->World->Prop}{Q:Exit->Act->World->Prop}(ho:op.op = .alloc 210)
  (h:K (a.put op.dst (.pointer (some ⟨w.heap.size,0,none⟩))) (w.alloc (.cells (Jh Z5k) 210))):op.wp zq a w K Q:=by
 have e1:=Z5x w;unfold Oper.wp execOp;simp[ho,e1,Result.andThen];exact h
theorem Z2T {ops:Array Oper}{rest:List Oper}{op:Oper}{a:Act}{w:World}{Q:Exit->Act->World->Prop}(hgd:op.guard=none)(ho:op.op = .alloc 210)
  (h:wpList zq ops Q rest (a.put op.dst (.pointer (some ⟨w.heap.size,0,none⟩))) (w.alloc (.cells (Jh Z5k) 210))):wpList zq ops Q (op :: rest) a w:=
 wpList_plain hgd fun _ hK=>Z4v ho (hK _ _ h)
theorem Zcf (e:XV):(Jh e).all (·.oneCell')=true:=by
 rw[Array.all_eq_true];intro i hi;exact Z5R e _ (by simp[Jh])
theorem Ye {P:Program}{ops:Array Oper}{rest:List Oper}{op:Oper}{a:Act}{w w':World}{Q:Exit->Act->World->Prop}(hgd:op.guard=none)(s x:Operand)(t:TypeId)(ho:op.op = .call { callee := .builtin .append,args := #[s,x],argTypes := #[t,t] })(v1 v2 v:Value)
  (hs:a.eval s=v1) (hx:a.eval x=v2) (hr:(Builtin.append_ #[t,t] op.type #[v1,v2]).run P w = .ok v w') (h:wpList P ops Q rest (a.put op.dst v) w'):wpList P ops Q (op :: rest) a w:=
 wpList_plain hgd fun _ hK=>ZU s x t ho v1 v2 v hs hx hr (hK _ _ h)
theorem ZX {P:Program}{ops:Array Oper}{rest:List Oper}{op:Oper}{a:Act}{w:World}{Q:Exit->Act->World->Prop}(hgd:op.guard=none)(ty:TypeId)(x y:Operand)(ho:op.op = .store ty x y)(p:Nat)(c c':ZW)(t:TypeId)(hx:a.eval x = .pointer (some ⟨p,0,none⟩))(hy:a.eval y = .agg c')(hg:w.heap[p]? = some (.cells c t (0,0)))
  (hi:(P.info? ty).map (·.size)=some c'.size) (hc:c.size=c'.size) (h1:c'.all (·.oneCell')=true)
  (h : ∀w',w'.heap[p]? = some (.cells c' t (0,0))->w.grownBy w' (some p)->w'.heap.size=w.heap.size->wpList P ops Q rest (a.put op.dst undef) w'):wpList P ops Q (op :: rest) a w:=
 wpList_plain hgd fun _ hK=>ZV ty x y ho p c c' t hx hy hg hi hc h1 (fun w' h1 h2 h3=>hK _ _ (h w' h1 h2 h3))
theorem Z6F (l:List Nm): ∀u∈ZH l,u.oneCell'=true:=by
 intro u hu;rw[ZH,List.mem_flatMap]at hu;obtain⟨a,_,h⟩:=hu;simp only[List.mem_cons,List.not_mem_nil,or_false]at h;rcases h with rfl | rfl <;> rfl
theorem Z5A {day:Int}{R:Je}{e:XV}(h1:e.x.n.day<=day)(h2:zf R e=true):Yj day R e=VX R e:=by simp[Yj,h1,h2]
theorem Z4u {day:Int}{R:Je}{e:XV}(h1:e.x.n.day<=day)(h2:zf R e=false):Yj day R e = { R with cs:=R.cs ++ [e.nm] } := by simp[Yj,h1,h2]
theorem Z8e {R:Je}{e:XV}(h2:zf R e=false):VX R e=R:=by simp[VX,h2]
theorem Z5C {day:Int}{R:Je}{e:XV}(h1 : ¬e.x.n.day<=day):Yj day R e=R:=by simp[Yj,h1]
def zt (w:World)(day:Int)(f J:Nm->Option LN)(vs:List Nm)(e:Ending)(w':World):Prop:=
 ∃(R:Je) (ha:zA) (hc:Nat) (ea:zA) (ec:Nat) (ca:zA) (cc:Nat) (xs:List LN) (ks:List Nm),e = .returned (.agg #[.slice ha R.hs.length hc,.slice ea R.es.length ec,.slice ca R.cs.length cc]) /\
  w'.ownsRow w.heap.size 210 21 (.slice ha R.hs.length hc) R.hs.length (JU R.hs)/\w'.ownsRow w.heap.size 210 21 (.slice ea R.es.length ec) R.es.length (JU R.es)/\w'.ownsRow w.heap.size 45 2 (.slice ca R.cs.length cc) R.cs.length (ZH R.cs) /\
  Z0o w' w.heap.size xs/\ks.Nodup/\XW f ks/\(xs.map LN.n).Perm (ks.filterMap (evN f J))/\xs.Pairwise (fun x y=>Z1M y x=false) /\
  R.hs=(Xl day (xs.map X8)).hs/\R.es=(Xl day (xs.map X8)).es/\R.cs.Perm ((Xl day (xs.map X8)).cs ++ vs)/\R.cs.Pairwise (fun x y=>J5 y x=false)
theorem Z5z (pB bS bJ n m:Nat)(va:zA)(vc:Nat)(vs:List Nm)(f J:Nm->Option LN)(day:Int)(w:World)
  (hb:JV w pB bS bJ va vs.length vc) (hm:Yd LN.val w bS n f) (hj:Yd LN.val w bJ m J) (hfo:FOk f) (hjf : ∀a x,J a=some x -> ∃k,f k=some x)
  (hrd : ∀a x,f a=some x->x.ok w/\x.n.strokes.length<=1000000) (hn:n<=1000) (hv:Y3 w 2 va vs.length vc (ZH vs)) (hk : ∀k y,evN f J k=some y->1<=y.kind/\y.kind<=4)
  (hcnt : ∀ks:List Nm,ks.Nodup->XW f ks->(ks.filterMap (evN f J)).length+vs.length<=1000):
  Calls zq 152 #[.pointer (some ⟨pB,0,none⟩),.int .i64 day] w fun e w'=>zt w day f J vs e w'/\Below w.heap.size w w':=by
 have HB:=zH hb;clear hb;have HM:=zH hm;clear hm;have HJ:=zH hj;clear hj;have FO:=zH hfo;clear hfo;have JF:=zH hjf;clear hjf;have RD:=zH hrd;clear hrd;have HV:=zH hv;clear hv;have HK:=zH hk;clear hk;have HC:=zH hcnt;clear hcnt;refine(callsIn_wide (n:=4)).1 ?_;refine callsIn_of_wp_marks Tryz.func152 rfl trivial ?_;simp only[Tryz.ntmps152,List.size_toArray,List.length_cons,List.length_nil,Nat.reduceAdd,Nat.reduceSub,Array.replicate_succ,Array.replicate_zero,List.push_toArray,List.append_toArray,List.nil_append,List.cons_append];refine wpIn_wide.2 ?_;go_upto_region 2 with fail;have B0:=zH ((((zB w (.cells #[.int .i64 day] 3)).alloc (by simp) (.cells #[.slice none 0 0,.slice none 0 0,.slice none 0 0] 77)).alloc (by simp;omega) (.cells #[.slice none 0 0,.slice none 0 0,.slice none 0 0] 77)));have D0:=zH (Z9 _ (.cells #[.slice none 0 0,.slice none 0 0,.slice none 0 0] 77) _ _ (Z9 _ (.cells #[.slice none 0 0,.slice none 0 0,.slice none 0 0] 77) _ _ (Za w (.cells #[.int .i64 day] 3))));have P0:=zH (Z9 _ (.cells #[.slice none 0 0,.slice none 0 0,.slice none 0 0] 77) _ _ (Zw (w.alloc (.cells #[.int .i64 day] 3)) (.cells #[.slice none 0 0,.slice none 0 0,.slice none 0 0] 77) (w.heap.size+1) (by simp)));have Q0:=zH (Zw ((w.alloc (.cells #[.int .i64 day] 3)).alloc (.cells #[.slice none 0 0,.slice none 0 0,.slice none 0 0] 77)) (.cells #[.slice none 0 0,.slice none 0 0,.slice none 0 0] 77) (w.heap.size+1+1) (by simp));obtain⟨pD,hpD⟩:=zX (w.heap.size);obtain⟨pR,hpR⟩:=zX (w.heap.size+1);obtain⟨p,hp⟩:=zX (w.heap.size+1+1);rw[hp.out,hpR.out,hpD.out];rw[hpD.out]at D0;rw[hpR.out]at P0;rw[hp.out]at Q0;generalize ((w.alloc (.cells #[.int .i64 day] 3)).alloc (.cells #[.slice none 0 0,.slice none 0 0,.slice none 0 0] 77)).alloc (.cells #[.slice none 0 0,.slice none 0 0,.slice none 0 0] 77)=w0 at *;go_upto_region 3 with (first
  |(go_at_call 192
    refine(Z77 _).mono ?_;rintro e w1 ⟨bT,q,rfl,hT,hb1,hq1,hq2⟩;have HT:=zH hT;have HB1:=zH hb1;have HQ:=zH (And.intro hq1 hq2);clear hT hb1 hq1 hq2;dsimp only)
  | fail)
 have B1:=zH (B0.out.trans (HB1.out.mono B0.out.size));have hal:=zB w1 (.cells #[.map (some bT)] 245);have T2:=zH (Za w1 (.cells #[.map (some bT)] 245));have B2:=zH (B1.out.trans (hal.mono B1.out.size));have HT2:=zH (HT.out.below hal);have D2:=zH (Z7 hal (Z7 HB1.out D0.out));have P2:=zH (Z7 hal (Z7 HB1.out P0.out));have Q2:=zH (Z7 hal (Z7 HB1.out Q0.out));clear hal HT B1 HB1 D0 P0 Q0 B0 HQ;obtain⟨pT,hpT⟩:=zX (w1.heap.size);rw[hpT.out]at T2 ⊢;generalize w1.alloc (.cells #[.map (some bT)] 245)=w2 at *;go_wp2_with (first
  |(go_at_call 193
    refine(Z8c pB bS bJ n m va vs.length vc f J w2 (Z7 B2.out HB.out) (HM.out.below B2.out) (HJ.out.below B2.out) FO.out JF.out (fun a x h=>⟨(RD.out a x h).1.below B2.out,(RD.out a x h).2⟩) hn).mono ?_;rintro e w3 ⟨⟨pL,a,c,xs,ks,rfl,h1,h2,h3,h4,h5,h6,h7,h8⟩,hb3⟩;have HL:=zH h1;have HO:=zH h2;have HE:=zH h3;have HKS:=zH (And.intro h4 (And.intro h5 (And.intro h6 h7)));have HPL:=zH h8;have B3:=zH hb3;clear h1 h2 h3 h4 h5 h6 h7 h8 hb3;dsimp only)
  | fail)
 have T3:=zH (Z7 B3.out T2.out);have D3:=zH (Z7 B3.out D2.out);have P3:=zH (Z7 B3.out P2.out);have Q3:=zH (Z7 B3.out Q2.out);have HT3:=zH (HT2.out.below B3.out);have B4:=zH (B2.out.trans (B3.out.mono B2.out.size));have HW2:Hid (w.heap.size<=w2.heap.size):=zH B2.out.size;have ENV:Hid (Z2R w3 p pL w2.heap.size a c xs):=zH ⟨Q3.out,HL.out,HO.out⟩;have NT:Hid (pT≠p):=zH (fun e=>by have h1:=T3.out;rw[e,Q3.out]at h1;simp at h1);have ND:Hid (pD≠p):=zH (fun e=>by have h1:=D3.out;rw[e,Q3.out]at h1;simp at h1);have NB:Hid (bT≠p):=zH (fun e=>by obtain⟨es,clock,h1,_⟩:=HT3.out.2;rw[e,Q3.out]at h1;simp at h1);have NQ:Hid (q≠p):=zH (fun e=>by have h1:=HT3.out.1;rw[e,Q3.out]at h1;simp at h1);have NR:Hid (pR≠p):=zH (by have:=hpR.out;have:=hp.out;omega);have HKD:Hid (∀x∈xs,1<=x.n.kind/\x.n.kind<=4):=zH (fun x hx=>by
  have h1:=HKS.out.2.2.1.subset (List.mem_map_of_mem (f:=LN.n) hx);obtain⟨k,_,h2⟩:=List.mem_filterMap.1 h1;exact HK.out k x.n h2)
 have HLEN:Hid (xs.length+vs.length<=1000):=zH (by
  have h1:=HC.out ks HKS.out.1 HKS.out.2.1;have h2:=HKS.out.2.2.1.length_eq;rw[List.length_map]at h2;omega)
 clear T2 D2 P2 Q2 HT2 HL HO B3 HK HC;refine(wpIn_wide (n:=4)).1 ?_;refine Ug (n:=3) (σ:=Nat×LN) (w:=w3) (gf:=223) (lb := #[.pointer (some ⟨pL,0,none⟩)]) rfl (enters_of Tryz.func223 (by kernel_rfl) rfl)
  (fun s=>#[.agg (Jh (X8 s.2))]) (fun _=>rfl) (Zee w3 p day xs) (fun s W=>Yo w3 p (Xl day ((xs.take (s.1+1)).map X8)) W)
  (fun s a₁ W=>∃pX,a₁ = { tmps := #[.pointer (some ⟨pB,0,none⟩),.int .i64 day,undef,.pointer (some ⟨pD,0,none⟩),.pointer (some ⟨pR,0,none⟩),.pointer (some ⟨p,0,none⟩),.pointer (some ⟨pT,0,none⟩),.pointer (some ⟨pX,0,none⟩),.map (some bT),.pointer (some ⟨pB,0,none⟩),.func (.func 223) #[] #[.pointer (some ⟨pL,0,none⟩)],.agg (Jh (X8 s.2)),undef,undef,undef,undef,undef,undef,undef,undef,undef,undef,undef,undef,undef,undef,undef,undef,undef,undef,undef,undef,undef,undef,undef,undef,undef,undef,undef,undef,undef,undef,undef,undef,undef,undef],defers:=[] } /\ W.heap[pX]? = some (.cells (Jh (X8 s.2)) 210)/\xs[s.1]? = some s.2/\Vr w3 p (Xl day ((xs.take s.1).map X8)) pX W)
  (fun W=>Yo w3 p (Xl day (xs.map X8)) W) ?hA' ?hB ?hD ?assign ?body ?iter ?done
 case hA'=>
  rintro s a₁ W o ⟨pX,rfl,h1,h3,h4⟩ ⟨r,hr⟩;refine⟨pX,rfl,(World.putObj_heap_other (fun e=>?_)).trans h1,h3,h4.putObj o ⟨r,hr⟩⟩;rw[e,hr]at h1;simp at h1
 case hB=>
  intro s W o h hl;exact h.putObj o hl
 case hD=>
  intro W o h hl;exact h.putObj o hl
 case assign=>
  rintro⟨k,x⟩ W ⟨h1,h2⟩;have I21:=zH (show ∀(x:XV),(zq.info? 210).map (·.size)=some (Jh x).size from fun x=>by kernel_rfl);have H1:=zH h1;have H2:=zH h2;clear h1 h2;dsimp only;have hb5:Below W.heap.size W (W.alloc (.cells (Jh (X8 x)) 210)):=zB W _;have HG:=zH (show KeepsFrom w3.heap.size W (W.alloc (.cells (Jh (X8 x)) 210))/\(W.alloc (.cells (Jh (X8 x)) 210)).heap[W.heap.size]? = some (.cells (Jh (X8 x)) 210)/\xs[k]? = some x/\Vr w3 p (Xl day ((xs.take k).map X8)) W.heap.size (W.alloc (.cells (Jh (X8 x)) 210))from
   ⟨(Jr hb5).from _,Za W _,H1.out,H2.out.bound hb5⟩)
  clear hb5 H1 H2;have hf : ∀t:ZW,(#[11].zip #[Value.agg (Jh (X8 x))]).foldl (fun t (p,v)=>t.setIfInBounds p v) t=t.setIfInBounds 11 (.agg (Jh (X8 x))):=fun t=>by simp
  rw[hf];simp only[List.setIfInBounds_toArray,List.set_cons_succ,List.set_cons_zero];clear hf;refine Yy (JX _) (VD (fun a w h=>h)) ?hnd ?_
  case hnd=>rfl
  refine Z2T rfl rfl ?_;refine Zy W rfl 210 _ _ rfl W.heap.size rfl (Jh Z5k) (Jh (X8 x)) rfl rfl (I21.out _) rfl (Zcf _) ?_;exact⟨HG.out.1,W.heap.size,rfl,HG.out.2⟩
 case body=>
  rintro⟨k,x⟩ a₁ W ⟨pX,rfl,hX,h1,h2⟩;have I21:=zH (show ∀(x:XV),(zq.info? 210).map (·.size)=some (Jh x).size from fun x=>by kernel_rfl);have HX:=zH hX;have H1:=zH (show xs[k]? = some x from h1);have H2:=zH (show Vr w3 p (Xl day ((xs.take k).map X8)) pX W from h2);clear hX h1 h2;have HNX:=zH (Z7G day xs k x H1.out);have HL1:Hid ((Xl day ((xs.take k).map X8)).hs.length+(Xl day ((xs.take k).map X8)).es.length+(Xl day ((xs.take k).map X8)).cs.length<=1000):=zH (by
   have h1:=Z4Q day ((xs.take k).map X8);have h2:=HLEN.out;rw[List.length_map,List.length_take]at h1;omega)
  dsimp only;rw[HNX.out];generalize Xl day ((xs.take k).map X8)=R at *;have hS:=H2.out.same;obtain⟨ha,hc,ea,ec,ca,cc,hRA,htop⟩:=H2.out.reg;have HRA:=zH hRA;have HTOP:=zH htop;clear hRA htop;obtain⟨g,lb,hlk,hfn,hcall⟩:=Z7x (e:=X8 x) (H2.out.st.table HT3.out NB.out NQ.out) HRA.out hS.size (by have:=HL1.out;omega) (by have:=HL1.out;omega) (HKD.out x (List.mem_of_getElem? H1.out));have c5:=Z6 HX.out 5 (.int .i64 x.n.day) rfl;have c6:=Z6 HX.out 6 (.int .i64 x.n.kind) rfl;have cT:=Z6 (H2.out.st.blk T3.out NT.out) 0 (.map (some bT)) rfl;have cD:=Z6 (H2.out.st.blk D3.out ND.out) 0 (.int .i64 day) rfl;have HCL:=zH hcall;have HSm:=zH hS;clear hcall hS;replace hlk:(Instr.lookup 245 (.map (some bT)) (.int .i64 x.n.kind) false).run zq W = .ok (.func (.func g) #[] lb) W:=hlk;apply wpIn_block;apply wpIn_seq_k;intro K1 hK1;refine Yy (JX _) (VD (fun a w h=>h)) ?hnd ?_
  case hnd=>rfl
  by_cases hd:x.n.day<=day
  ·have t0:decide (x.n.day<=day)=true:=by simp[hd]
   have HD:=zH hd;clear hd;go_wp2_with (first
    |(refine Ur ?hw 210 _ rfl pX rfl 210 (Jh (X8 x)) (0,0) _ HX.out Tryz.underlying210 rfl (I21.out _) ?_;case hw=>rfl)
    | fail)
   refine HCL.out.mono ?_;intro r W5 he;have S5:=zH (Yo.eff HSm.out HRA.out he);have KP:=zH he.2.2.2;have HX5:Hid (W5.heap[pX]? = some (.cells (Jh (X8 x)) 210)):=zH ((he.2.2.1.block pX (Array.getElem?_eq_some_iff.1 HX.out).1 (fun e=>absurd (HTOP.out pX e) (Nat.lt_irrefl _))).trans HX.out);obtain⟨rfl,-,-,-⟩:=he;clear HCL hlk hfn c5 c6 cT cD t0;obtain⟨bv,hbv⟩ : ∃bv,zf R (X8 x)=bv:=⟨_,rfl⟩;have HBV:=zH hbv;rw[hbv];clear hbv;dsimp only;cases bv with
   | true=>
    go_wp2_with fail;gi_wp2_with fail;exact⟨KP.out.from _,by show Yo _ _ (Yj day R (X8 x)) _;rw[Z5A HD.out HBV.out];exact S5.out⟩
   | false=>
    have S6:=zH (show Yo w3 p R W5 by have:=S5.out;rwa [Z8e HBV.out]at this);clear S5 HRA HTOP;obtain⟨ha,hc,ea,ec,ca,cc,hRA⟩:=S6.out.reg;have HRA:=zH hRA;clear hRA;go_wp2_with fail;refine wpIn_cond (t:=true) rfl ?_;rw[if_pos rfl];refine Yy (JX _) (VD (fun a w h=>h)) ?hnd ?_
    case hnd=>rfl
    have bn:Below W5.heap.size W5 (W5.alloc (.cells #[.int .i64 x.n.house,.int .i64 x.n.num] 45)):=zB _ _;have hRB:=HRA.out.below bn;obtain⟨a',c',v9,hrun,ho,hg⟩:=XE (W5.alloc (.cells #[.int .i64 x.n.house,.int .i64 x.n.num] 45)) w3.heap.size ca R.cs.length cc _ hRB.cown _ 1 1 _ (Vb W5 (.int .i64 x.n.house) (.int .i64 x.n.num)) (by simp[Value.oneCell']) (by have:=HL1.out;omega) (Nat.le_trans S6.out.size bn.size);have hN:=hRB.addC (ns:=[(X8 x).nm]) ho hg;have CL3:=Zc hg hRB.blk (Zq hRB.cown hRB.blk (by intro cur;simp));have hcl3:=Z6 CL3 2 (.slice ca R.cs.length cc) rfl;have hfz:=Zp CL3 2;have HFIN:Hid (KeepsFrom w3.heap.size W (v9.setCell ⟨p,2,none⟩ (.slice a' (R.cs.length+1) c'))/\Yo w3 p (Yj day R (X8 x)) (v9.setCell ⟨p,2,none⟩ (.slice a' (R.cs.length+1) c'))):=zH (by
     refine⟨((KP.out.trans (Jr bn)).trans (UA hRB.blk hRB.cown hN.2)).from _,?_⟩;rw[Z4u HD.out HBV.out];exact⟨⟨ha,hc,ea,ec,a',c',hN.1⟩,(S6.out.same.trans (Zb.of_below bn)).reg (hN.2.weaken (fun k hk=>hk.imp id (fun h=>(hRB.cown.lt k h).1)))⟩)
    have hcl:=Z6 HRA.out.blk 2 (.slice ca R.cs.length cc) rfl;have e0:=Z6 HX5.out 0 (.int .i64 x.n.house) rfl;have e1:=Z6 HX5.out 1 (.int .i64 x.n.num) rfl;clear bn hRB ho hg hN CL3;go_wp2_with (first
     |(refine Ye rfl _ _ _ rfl _ _ _ rfl rfl hrun ?_)
     | fail)
    exact HFIN.out
  ·have t0:decide (x.n.day<=day)=false:=by simp[hd]
   have HD:=zH hd;clear hd;clear hlk hfn;go_wp2_with fail;gi_wp2_with fail;exact⟨KeepsFrom.refl _ _,by show Yo _ _ (Yj day R (X8 x)) _;rw[Z5C (by have:=HD.out;show ¬x.n.day<=day;omega)];exact H2.out.st⟩
 case iter=>
  intro rec hlr hY;have hbb:=(zB w3 (.deferred (some []))).alloc (by simp) (.loop (rec .ready none));refine Zd7 3 w3 p pL w2.heap.size day a c xs ENV.out rec _ ⟨⟨none,0,none,0,none,0,Z7 hbb Q3.out,World.ownsRow_nil _ _ _ _,World.ownsRow_nil _ _ _ _,World.ownsRow_nil _ _ _ _,.inl rfl⟩,Zb.of_below hbb⟩ hlr hY
 case done=>
  intro W hW hD0;dsimp only;have HW:=zH hW;have HD0:=zH hD0;clear hW hD0;go_upto_region 7 with fail;obtain⟨R,hR⟩:=zX (Xl day (xs.map X8));have HCN:Hid (R.cs.length+vs.length<=1000):=zH (by
   have h1:=Z4Q day (xs.map X8);have h2:=HLEN.out;rw[List.length_map,hR.out]at h1;omega)
  rw[hR.out]at HW;have NPB:Hid (pB≠p):=zH (fun e=>by have h1:=Z7 B4.out HB.out;rw[e,Q3.out]at h1;simp at h1);have HBW:=zH (HW.out.blk (Z7 B4.out HB.out) NPB.out);have HPR:=zH (HW.out.blk P3.out NR.out);have BW:Hid (Below w.heap.size w W):=zH (HW.out.same.below B4.out B4.out.size (fun k hk=>by have:=hp.out;omega));obtain⟨ha,hc,ea,ec,ca,cc,hRA⟩:=HW.out.reg;have HRA:=zH hRA;clear hRA;refine zp HBW.out fun hh=>?_;have bd:=(zd W);have KV:=zH (Jr bd);have SV:=zH (HW.out.same.trans (Zb.of_below bd));have RA:=zH (HRA.out.below bd);have BV:=zH (BW.out.trans (bd.mono BW.out.size));replace HBW:=zH (Z7 bd HBW.out);have PRV:=zH (Z7 bd HPR.out);clear bd HRA HPR;generalize W.drew=V at *;have RV:=zH (HV.out.below BV.out);refine zw 0 rfl p 2 ?_;refine zw 2 rfl pB 0 ?_;refine zw 3 rfl pB 0 ?_;refine zw 4 rfl pB 2 ?_;refine zS 5 rfl (.slice va vs.length vc) (fun W h=>by have hc:=Z6 h 2 (.slice va vs.length vc) rfl;go_simp) ?_;refine zR 1 rfl fun K hK=>?_;have hcl:=Z6 RA.out.blk 2 (.slice ca R.cs.length cc) rfl;go_simp;clear hcl;refine zK hK HBW.out fun hh=>?_;clear hK K;refine zR 6 rfl fun K hK=>?_;obtain⟨a',c',v9,hrun,ho,hg⟩:=XE _ w3.heap.size ca R.cs.length cc _ RA.out.cown va vs.length vc _ RV.out (Z6F vs) (by have:=HCN.out;omega) SV.out.size;have HN:=zH (RA.out.addC (ns:=vs) ho hg);have CL3:=zH (Zc hg RA.out.blk (Zq RA.out.cown RA.out.blk (by intro cur;simp)));replace HBW:Hid (v9.heap[pB]? = some (.cells #[.map (some bS),.map (some bJ),.slice va vs.length vc] 243)):=zH (Zc hg HBW.out (Zq RA.out.cown HBW.out (by intro cur;simp)));clear ho hg;rw[if_pos (by kernel_rfl)];refine ZU _ _ _ rfl _ _ _ rfl rfl hrun ?_;clear hrun;refine zK hK HBW.out fun hh=>?_;clear hK K;refine zw 7 rfl p 2 ?_;refine zR 8 rfl fun K hK=>?_;have hcl:=Z6 CL3.out 2 (.slice ca R.cs.length cc) rfl;have hfz:=Zp CL3.out 2;have h5:some pB≠some p:=fun e2=>by
   have h1:=HBW.out;rw[Option.some.inj e2,CL3.out]at h1;simp at h1
  replace HBW:=zH (Zc (Zl v9 p 2 (.slice a' (R.cs.length+vs.length) c')) HBW.out h5);go_simp;refine zK hK HBW.out fun hh=>?_;clear hK K;refine zE ?_;clear hcl hfz h5 CL3 RV;generalize v9.setCell ⟨p,2,none⟩ (.slice a' (R.cs.length+vs.length) c')=V9 at *;have HP9:Hid (V9.heap[p]? = some (.cells #[.slice ha R.hs.length hc,.slice ea R.es.length ec,.slice a' (R.cs.length+vs.length) c'] 77)):=zH (by have:=HN.out.1.blk;rwa [List.length_append]at this);have HC9:Hid (V9.ownsRow w3.heap.size 45 2 (.slice a' (R.cs.length+vs.length) c') (R.cs.length+vs.length) (((R.cs ++ vs).map U9).flatten)):=zH (by have:=HN.out.1.cown;rwa [List.length_append,Q4]at this);have HPR9:=zH ((HN.out.2.block pR (Zi PRV.out) (fun e=>e.elim (fun e=>NR.out e) (fun e=>Zq RA.out.cown PRV.out (by intro cur;simp) e.symm))).trans PRV.out);have c92:=Z6 HP9.out 2 (.slice a' (R.cs.length+vs.length) c') rfl;go_wp2_with (first
   |(go_at_call 170
     refine(UP (V:=Nm) Z5E U9 (fun _=>rfl) (fun x v hv=>by simp only[U9,List.mem_cons,List.not_mem_nil,or_false]at hv;rcases hv with rfl | rfl <;> rfl) (fun x y=>YA x.1 x.2 y.1 y.2) (fun _ _=>rfl) 124 Z6E ZcF w3.heap.size (R.cs.length+vs.length) c' a' (R.cs ++ vs) _ HC9.out (by simp) (by have:=HCN.out;omega)).mono ?_;rintro e w10 ⟨rfl,zs,hz1,hz2,hz3,hz4⟩;have Z1:=zH hz1;have Z2:=zH hz2;have Z3:=zH hz3;have Z4:=zH hz4;have HP10:Hid (w10.heap[p]? = some (.cells #[.slice ha R.hs.length hc,.slice ea R.es.length ec,.slice a' (R.cs.length+vs.length) c'] 77)):=zH ((hz4.block p (Zi HP9.out) (fun e=>Zq HC9.out HP9.out (by intro cur;simp) e.symm)).trans HP9.out);have HPRX:=zH ((hz4.block pR (Zi HPR9.out) (fun e=>Zq HC9.out HPR9.out (by intro cur;simp) e.symm)).trans HPR9.out);clear hz1 hz2 hz3 hz4 c92;dsimp only)
   |(refine wpList_load_row rfl 77 _ rfl p rfl 77 #[.slice ha R.hs.length hc,.slice ea R.es.length ec,.slice a' (R.cs.length+vs.length) c'] (0,0) _ HP10.out Tryz.underlying77 rfl (by kernel_rfl) ?_)
   |(refine ZX rfl 77 _ _ rfl pR #[.slice none 0 0,.slice none 0 0,.slice none 0 0] #[.slice ha R.hs.length hc,.slice ea R.es.length ec,.slice a' (R.cs.length+vs.length) c'] 77 rfl rfl HPRX.out (by kernel_rfl) rfl (by simp[Value.oneCell']) ?_;intro w11 hr1 hr2 hr3)
   | fail)
  have H11:=zH hr1;have KS:KeepsOthers V9 w10:=⟨Z4.out.size,fun k o hk ho=>(Z4.out.block k (Array.getElem?_eq_some_iff.1 hk).1 (fun e=>by have:=Z0t HC9.out e hk;rw[this]at ho;cases ho)).trans hk⟩;have HD10:=(((KV.out.trans (UA RA.out.blk RA.out.cown HN.out.2)).trans KS).same _ _ HD0.out rfl);have HD11:=zH (Zc hr2 HD10 (fun e=>by rw[Option.some.inj e,HPRX.out]at HD10;simp at HD10));clear KS HD10;have KEEP : ∀{b e k n:Nat} {v:Value} {ys:List Value},e≠45->e≠77->V.ownsRow b e k v n ys->(w11.putObj w3.heap.size (.deferred none)).ownsRow b e k v n ys:=by
   intro b e k n v ys hn1 hn2 h;have h1:=Ze h HN.out.2 (fun j hj hs=>hs.elim (fun e2=>Zq h RA.out.blk (fun cur hh=>hn2 (by injection hh with _ h4 _;exact h4.symm)) (hj.trans (congrArg some e2)).symm) (fun h2=>(Jz h RA.out.cown hn1).elim (fun h3=>by rw[h3]at hj;cases hj) (fun h3=>h3 (hj.trans h2.symm))));have h2:=Ze h1 Z4.out (fun j hj hs=>(Jz h1 HC9.out hn1).elim (fun h3=>by rw[h3]at hj;cases hj) (fun h3=>h3 (hj.trans hs.symm)));have h3:=h2.kept hr2 (.inr (Zq h2 HPRX.out (fun cur hh=>hn2 (by injection hh with _ h4 _;exact h4.symm))).symm);exact ownsRow_putObj h3 _ HD11.out rfl
  have hzl:zs.length=R.cs.length+vs.length:=by rw[Z2.out.length_eq,List.length_append]
  have hcs:(w11.putObj w3.heap.size (.deferred none)).ownsRow w3.heap.size 45 2 (.slice a' zs.length c') zs.length (ZH zs):=by
   rw[hzl,Q4];exact ownsRow_putObj (Z1.out.kept hr2 (.inr (Zq Z1.out HPRX.out (by intro cur;simp)).symm)) _ HD11.out rfl
  have hpD:=hpD.out;have hb9:=HN.out.2.below BV.out BV.out.size (fun k hk=>hk.elim (fun e=>by have:=hp.out;omega) (fun h=>Nat.le_trans B4.out.size (RA.out.cown.lt k h).1));have hb10:=Z4.out.below hb9 hb9.size (fun k hk=>Nat.le_trans B4.out.size (HC9.out.lt k hk).1);have hb11:=hb10.grown hr2 hb10.size (fun k e=>by cases e;have:=hpR.out;omega);have hbz:Below w.heap.size w (w11.putObj w3.heap.size (.deferred none)):=hb11.grown (grownBy_putObj' w11 _ _) hb11.size (fun k e=>by cases e;exact B4.out.size);have hprz:(w11.putObj w3.heap.size (.deferred none)).heap[pR]? = some (.cells #[.slice ha R.hs.length hc,.slice ea R.es.length ec,.slice a' zs.length c'] 77):=by
   rw[hzl];exact(World.putObj_heap_other (fun e=>by have h1:=HD11.out;rw[<-e,H11.out]at h1;simp at h1)).trans H11.out
  have hle:=B4.out.size;have h32:=HW2.out;have FIN:=zH (show zt w day f J vs (.returned (.agg #[.slice ha R.hs.length hc,.slice ea R.es.length ec,.slice a' zs.length c'])) (w11.putObj w3.heap.size (.deferred none))from
   ⟨⟨R.hs,R.es,zs⟩,ha,hc,ea,ec,a',c',xs,ks,rfl,Zv (KEEP (by decide) (by decide) RA.out.hown) hle,Zv (KEEP (by decide) (by decide) RA.out.eown) hle,Zv hcs hle,
    fun x hx=>Zv (KEEP (by decide) (by decide) (Ze (HE.out x hx) SV.out (fun j hj e2=>Zq (HE.out x hx) Q3.out (by intro cur;simp) (hj.trans (congrArg some e2)).symm))) h32,
    HKS.out.1,HKS.out.2.1,HKS.out.2.2.1,HKS.out.2.2.2,by rw[hR.out],by rw[hR.out],by rw[hR.out];exact Z2.out,Z3.out⟩)
  refine⟨by simp,.inl ⟨_,_,rfl,run_takeDeferred HD11.out,?_⟩⟩;refine⟨.agg #[.slice ha R.hs.length hc,.slice ea R.es.length ec,.slice a' zs.length c'],results_cell_row rfl _ _ pR 77 _ (0,0) _ rfl hprz Tryz.underlying77 rfl (by kernel_rfl),FIN.out,hbz⟩
theorem Z2v {k:Nm}{x:LN}: ∀(xs:List LN) (g:Nm->Option LN),(xs.foldl (fun f x=>YZ f x.nm x) g) k=some x->(x∈xs/\x.nm=k)\/g k=some x
 | [],_,h => .inr h
 | y :: xs,g,h=>by
  rcases Z2v xs _ h with ⟨h1,h2⟩ | h1
  ·exact .inl ⟨List.mem_cons_of_mem _ h1,h2⟩
  ·simp only[YZ]at h1
   split at h1
   ·rename_i hk
    cases h1
    exact .inl ⟨List.mem_cons_self ..,hk.symm⟩
   ·exact .inr h1
theorem Yl {xs:List LN}{k:Nm}{x:LN}(h:Yt xs k=some x):x∈xs/\x.nm=k:=by
 rcases Z2v xs _ h with h | h
 ·exact h
 ·cases h
theorem Z6D {α:Type} [DecidableEq α]: ∀(l m:List α),l.Nodup->(∀a∈l,a∈m)->l.length<=m.length
 | [],_,_,_=>Nat.zero_le _
 | a :: l,m,hn,hs=>by
  have ha:=hs a (List.mem_cons_self ..)
  rw[List.nodup_cons]at hn
  have h1:=Z6D l (m.erase a) hn.2 (fun b hb=>(List.mem_erase_of_ne (fun e=>hn.1 (by rw[<-e];exact hb))).2 (hs b (List.mem_cons_of_mem _ hb)))
  have h2:=List.length_erase_of_mem ha
  have h3:0 < m.length:=List.length_pos_of_mem ha
  simp only[List.length_cons]
  omega
theorem Z5b {xs:List LN}{ks:List Nm}(hn:ks.Nodup)(p:Nm->Bool)(hp : ∀k,p k=true->(Yt xs k).isSome=true):(ks.filter p).length<=xs.length:=by
 have h:=Z6D (ks.filter p) (xs.map LN.nm) (hn.sublist List.filter_sublist) (fun a ha=>by
  have h1:=hp a (List.mem_filter.1 ha).2;obtain⟨x,hx⟩:=Option.isSome_iff_exists.1 h1;obtain⟨h2,h3⟩:=Yl hx;rw[<-h3];exact List.mem_map_of_mem h2)
 rwa [List.length_map]at h
theorem ZbV {xs:List LN}{ks:List Nm}(hn:ks.Nodup):(VV (Yt xs) ks).length<=xs.length:=by
 refine Z5b hn _ (fun k hk=>?_);cases h:Yt xs k with
 | none=>simp[h]at hk
 | some x=>rfl
theorem Z0T {α β:Type}(g:α->Option β): ∀l:List α,(l.filterMap g).length=(l.filter (fun a=>(g a).isSome)).length
 | []=>rfl
 | a :: l=>by
  have:=Z0T g l
  cases h:g a <;> simp[List.filterMap_cons,List.filter_cons,h,this]
theorem Zd5 {xs:List LN}{ks:List Nm}{J:Nm->Option LN}(hn:ks.Nodup):(ks.filterMap (evN (Yt xs) J)).length<=xs.length:=by
 rw[Z0T];refine Z5b hn _ (fun k hk=>?_);unfold evN at hk;cases h:Yt xs k with
 | none=>simp[h]at hk
 | some x=>rfl
theorem Zbk {xs:List LN}{ks:List Nm}{J:Nm->Option LN}(hJ:YJ (Yt xs) ks J)(hk : ∀x∈xs,XZ x.n=false->x.n.kind=6\/(1<=x.n.fix/\x.n.fix<=4))(k:Nm)(y:Z8)(h:evN (Yt xs) J k=some y):1<=y.kind/\y.kind<=4:=by
 unfold evN at h;cases h1:Yt xs k with
 | none=>simp[h1]at h
 | some x=>
  simp only[h1]at h;split at h
  ·rename_i hd;cases h2:J k with
   | none=>
    simp only[h2]at h;cases h;simpa [XZ,Ji] using hd
   | some j=>
    simp only[h2]at h;split at h
    ·cases h
    ·rename_i h6;cases h;obtain⟨⟨k',_,h3⟩,h4,_⟩:=(hJ k).2 j h2;have hd:XZ j.n=false:=by simp only[Qo,Bool.and_eq_true]at h4;simpa using h4.1.1
     rcases hk j (Yl h3).1 hd with h5 | h5
     ·exact absurd h5 h6
     ·exact h5
  ·cases h
theorem zt.mono {w w1 w':World}{day:Int}{f J:Nm->Option LN}{vs:List Nm}{e:Ending}(h:zt w1 day f J vs e w')(hw:w.heap.size<=w1.heap.size):zt w day f J vs e w':=by
 obtain⟨R,ha,hc,ea,ec,ca,cc,xs,ks,h1,h2,h3,h4,h5,h6⟩:=h;exact⟨R,ha,hc,ea,ec,ca,cc,xs,ks,h1,Zv h2 hw,Zv h3 hw,Zv h4 hw,fun x hx=>Zv (h5 x hx) hw,h6⟩
theorem zt.kept {w w1 w':World}{day:Int}{f J:Nm->Option LN}{vs:List Nm}{e:Ending}{p:Nat}{A:ZW}(h:zt w day f J vs e w1)(hp:w1.heap[p]? = some (.cells A 77))(hg:w1.grownBy w' (some p)):zt w day f J vs e w':=by
 obtain⟨R,ha,hc,ea,ec,ca,cc,xs,ks,h1,h2,h3,h4,h5,h6⟩:=h;exact⟨R,ha,hc,ea,ec,ca,cc,xs,ks,h1,h2.kept hg (.inr (Zq h2 hp (by intro cur;simp)).symm),h3.kept hg (.inr (Zq h3 hp (by intro cur;simp)).symm),h4.kept hg (.inr (Zq h4 hp (by intro cur;simp)).symm),
  fun x hx=>(h5 x hx).kept hg (.inr (Zq (h5 x hx) hp (by intro cur;simp)).symm),h6⟩
theorem ZaK {W W':World}{x:LN}{b:Nat}{es:Array MapEntry}{clock:Nat}(h:x.ok W)(hg:W.grownBy W' (some b))(hb:W.heap[b]? = some (.map es clock)):x.ok W':=by
 refine⟨h.1,h.2.1,h.2.2.1,h.2.2.2.imp id ?_⟩;rintro⟨b',off,h1,h2⟩;refine⟨b',off,h1,fun i v hv=>?_⟩;have h3:=h2 i v hv;by_cases he:b'=b
 ·subst he;simp[World.cell?,hb]at h3
 ·rw[<-h3];have hlt:b' < W.heap.size:=World.block_lt_of_cell? W _ h3;simp only[World.cell?,hg.block b' hlt (fun e=>he (Option.some.inj e))]
def Z8P (l:List Z8)(day:Int)(w:World)(e:Ending)(w':World):Prop:=
 ∃v xs ks J,e = .returned (.tuple #[v,.int .i64 0])/\xs.map LN.n=l/\ks.Nodup/\XW (Yt xs) ks/\YJ (Yt xs) ks J/\zt w day (Yt xs) J (VV (Yt xs) ks) (.returned v) w'
def Zn (n:Z8):Nm:=(n.house,n.num)
def Z8u (n:Z8):Nm:=(n.refH,n.refN)
theorem Z8A (x:LN):x.nm=Zn x.n:=rfl
def Z01 (r x:Z8):Bool := !XZ x && (decide (Z8u x=Zn r) && (XZ r && Jm x r))
def Jn (r:Z8)(b:Option Z8)(x:Z8):Option Z8:=if Z01 r x=true then (match b with | none=>some x | some y=>if Xn y x < 0 then some x else some y)else b
def Z7U (l:List Z8)(r:Z8):Option Z8:=l.foldl (Jn r) none
def countP (l:List Z8)(r:Z8):Option Z8:=if XZ r=true then (match Z7U l r with | none=>some r | some j=>if j.kind=6 then none else some (J8 r j))else none
def Z3T (n:Z8):List Z8->List Z8
 | []=>[n]
 | y :: ys=>if JD y n < 0 then y :: Z3T n ys else n :: y :: ys
def Zaw (l:List Z8):List Z8:=l.foldl (fun out n=>Z3T n out) []
def Z38 (l:List Z8):List Z8:=Zaw (l.filterMap (countP l))
/-! ### Sets -/
theorem Z6j {f:Yg}{l:List Z8}: ∀(n k:Nat),(QN f l n k).1=0 -> ∀i,k<=i->i < k+n->Vf f l i=none
 | 0,k,_,i,h1,h2=>by omega
 | n+1,k,h,i,h1,h2=>by
  rw[QN]at h
  cases he:Vf f l k with
  | some e=>
   rw[he]at h
   simp only at h
   subst h
   exfalso
   unfold Vf at he
   split at he
   ·cases he
   ·split at he
    ·cases he
    ·split at he
     ·cases he
     ·split at he
      ·cases he
      ·split at he <;> cases he
  | none=>
   rw[he]at h
   rcases Nat.eq_or_lt_of_le h1 with h3 | h3
   ·rw[<-h3];exact he
   ·exact Z6j n (k+1) h i h3 (by omega)
theorem Z63 {l:List Z8}(h : ∀i x y,l[i]? = some x->l[i+1]? = some y->J5 (Zn x) (Zn y)=true):l.Pairwise (fun x y=>J5 (Zn x) (Zn y)=true):=by
 induction l with
 | nil=>exact List.Pairwise.nil
 | cons a l ih=>
  have ih':=ih (fun i x y h1 h2=>h (i+1) x y h1 h2);refine List.pairwise_cons.2 ⟨fun y hy=>?_,ih'⟩;cases l with
  | nil=>cases hy
  | cons b l=>
   have hab:=h 0 a b rfl rfl;rcases List.mem_cons.1 hy with rfl | hy
   ·exact hab
   ·have hby:=(List.pairwise_cons.1 ih').1 y hy;rw[Xm]at *;omega
theorem Uj {f:Yg}{l:List Z8}(h:(Zt f l).1=0):f.valid=true/\l.length<=400/\(∀x∈l,Zf f x=true)/\l.Pairwise (fun x y=>J5 (Zn x) (Zn y)=true):=by
 unfold Zt at h;split at h
 ·cases h
 ·rename_i hv;split at h
  ·cases h
  ·rename_i hl;have hg:=Z6j l.length 0 h;refine⟨by simpa using hv,by omega,fun x hx=>?_,Z63 (fun i x y hx hy=>?_)⟩
   ·obtain⟨i,hi⟩:=List.getElem?_of_mem hx;have h1:=hg i (Nat.zero_le _) (by have:=(List.getElem?_eq_some_iff.1 hi).1;omega);unfold Vf at h1;rw[hi]at h1;simp only at h1;split at h1
    ·cases h1
    ·rename_i h2;simpa using h2
   ·have h1:=hg (i+1) (Nat.zero_le _) (by have:=(List.getElem?_eq_some_iff.1 hy).1;omega);unfold Vf at h1;rw[hy]at h1;simp only[Nat.add_sub_cancel,hx]at h1;split at h1
    ·cases h1
    ·rw[if_neg (by omega)]at h1;simp only at h1;split at h1
     ·cases h1
     ·rename_i h0;split at h1
      ·cases h1
      ·rw[J5,decide_eq_true_eq];show YA x.house x.num y.house y.num < 0;omega
theorem XQ {l:List Z8}(h:l.Pairwise (fun x y=>J5 (Zn x) (Zn y)=true)):(l.map Zn).Nodup:=by
 rw[List.Nodup,List.pairwise_map];refine h.imp (fun {x y} hxy e => ?_);rw[e]at hxy;have:=(Xm (Zn y) (Zn y)).1 hxy;omega
theorem Vt {l:List Z8}(h:(l.map Zn).Nodup){x y:Z8}(hx:x∈l)(hy:y∈l)(e:Zn x=Zn y):x=y:=by
 induction l with
 | nil=>cases hx
 | cons a l ih=>
  rw[List.map_cons,List.nodup_cons]at h;rcases List.mem_cons.1 hx with h1 | h1
  ·rcases List.mem_cons.1 hy with h2 | h2
   ·rw[h1,h2]
   ·exact absurd (by rw[<-h1,e];exact List.mem_map_of_mem h2) h.1
  ·rcases List.mem_cons.1 hy with h2 | h2
   ·exact absurd (by rw[<-h2,<-e];exact List.mem_map_of_mem h1) h.1
   ·exact ih h.2 h1 h2
/-! ### Judges -/
theorem Z1C (r:Z8): ∀(l:List Z8) (b:Option Z8),
  (l.foldl (Jn r) b=none↔b=none /\ ∀x∈l,Z01 r x=false) /\
  ∀y,l.foldl (Jn r) b=some y->(b=some y\/(y∈l/\Z01 r y=true))/\(∀z,b=some z -> ¬Xn y z < 0) /\ ∀x∈l,Z01 r x=true -> ¬Xn y x < 0
 | [],b=>by
  refine⟨by simp,fun y hy=>⟨.inl hy,fun z hz=>?_,fun x hx=>by cases hx⟩⟩
  rw[List.foldl_nil]at hy
  rw[hy]at hz
  cases hz
  exact Z2H y
 | x :: l,b=>by
  have ih:=Z1C r l (Jn r b x)
  rw[List.foldl_cons]
  refine⟨?_,fun y hy=>?_⟩
  ·rw[ih.1]
   constructor
   ·rintro⟨h1,h2⟩
    unfold Jn at h1
    split at h1
    ·split at h1
     ·cases h1
     ·split at h1 <;> cases h1
    ·rename_i hc
     exact⟨h1,fun z hz=>by rcases List.mem_cons.1 hz with rfl | hz;simpa using hc;exact h2 z hz⟩
   ·rintro⟨rfl,h2⟩
    have hc:=h2 x (List.mem_cons_self ..)
    exact⟨by simp[Jn,hc],fun z hz=>h2 z (List.mem_cons_of_mem _ hz)⟩
  ·obtain⟨h1,h2,h3⟩:=ih.2 y hy
   by_cases hc:Z01 r x=true
   ·cases hb:b with
    | none=>
     have e:Jn r b x=some x:=by simp[Jn,hc,hb]
     rw[e]at h1 h2
     refine⟨.inr ?_,(fun z hz=>by cases hz),fun z hz hcz=>?_⟩
     ·rcases h1 with h1 | h1
      ·cases h1;exact⟨List.mem_cons_self ..,hc⟩
      ·exact⟨List.mem_cons_of_mem _ h1.1,h1.2⟩
     ·rcases List.mem_cons.1 hz with rfl | hz
      ·exact h2 _ rfl
      ·exact h3 z hz hcz
    | some u=>
     by_cases hk:Xn u x < 0
     ·have e:Jn r b x=some x:=by simp[Jn,hc,hb,hk]
      rw[e]at h1 h2
      have hyx:=h2 x rfl
      refine⟨.inr ?_,fun z hz=>?_,fun z hz hcz=>?_⟩
      ·rcases h1 with h1 | h1
       ·cases h1;exact⟨List.mem_cons_self ..,hc⟩
       ·exact⟨List.mem_cons_of_mem _ h1.1,h1.2⟩
      ·cases hz
       rw[QA]at *
       omega
      ·rcases List.mem_cons.1 hz with rfl | hz
       ·exact hyx
       ·exact h3 z hz hcz
     ·have e:Jn r b x=some u:=by simp[Jn,hc,hb,hk]
      rw[e]at h1 h2
      have hyu:=h2 u rfl
      refine⟨?_,(fun z hz=>by cases hz;exact hyu),fun z hz hcz=>?_⟩
      ·rcases h1 with h1 | h1
       ·exact .inl h1
       ·exact .inr ⟨List.mem_cons_of_mem _ h1.1,h1.2⟩
      ·rcases List.mem_cons.1 hz with rfl | hz
       ·rw[QA]at *
        omega
       ·exact h3 z hz hcz
   ·have e:Jn r b x=b:=by simp[Jn,hc]
    rw[e]at h1 h2
    refine⟨?_,h2,fun z hz hcz=>?_⟩
    ·rcases h1 with h1 | h1
     ·exact .inl h1
     ·exact .inr ⟨List.mem_cons_of_mem _ h1.1,h1.2⟩
    ·rcases List.mem_cons.1 hz with rfl | hz
     ·exact absurd hcz hc
     ·exact h3 z hz hcz
theorem Ja {xs:List LN}(hd:((xs.map LN.n).map Zn).Nodup){x:LN}(hx:x∈xs):Yt xs x.nm=some x:=by
 have h : ∀(xs:List LN) (g:Nm->Option LN),((xs.map LN.n).map Zn).Nodup->x∈xs->(xs.foldl (fun f x=>YZ f x.nm x) g) x.nm=some x:=by
  intro xs
  induction xs with
  | nil=>intro g _ h;cases h
  | cons a xs ih=>
   intro g hd hx;rw[List.map_cons,List.map_cons,List.nodup_cons]at hd;rw[List.foldl_cons];rcases List.mem_cons.1 hx with rfl | hx
   ·have hk : ∀(ys:List LN) (g:Nm->Option LN),Zn x.n ∉ (ys.map LN.n).map Zn->(ys.foldl (fun f x=>YZ f x.nm x) g) x.nm=g x.nm:=by
     intro ys
     induction ys with
     | nil=>intro g _;rfl
     | cons b ys ihy=>
      intro g hn;rw[List.map_cons,List.map_cons,List.mem_cons,not_or]at hn;rw[List.foldl_cons,ihy _ hn.2];simp[YZ,Z8A,hn.1]
    rw[hk xs _ hd.1];simp[YZ]
   ·exact ih _ hd.2 hx
 exact h xs _ hd hx
theorem Z6k {xs:List LN}(hd:((xs.map LN.n).map Zn).Nodup)(k:Nm)(x:LN):Yt xs k=some x↔x∈xs/\x.nm=k:=by
 constructor
 ·exact Yl
 ·rintro⟨h1,rfl⟩;exact Ja hd h1
theorem Zae {xs:List LN}(hd:((xs.map LN.n).map Zn).Nodup){x y:LN}(hx:x∈xs)(hy:y∈xs)(e:x.nm=y.nm):x=y:=by
 have h1:=Ja hd hx;rw[e,Ja hd hy]at h1;exact(Option.some.inj h1).symm
theorem Zad {xs:List LN}(hd:((xs.map LN.n).map Zn).Nodup):xs.Nodup:=by
 rw[List.map_map]at hd;have h2:(xs.map (Zn∘LN.n)).Pairwise (· ≠ ·):=hd;rw[List.pairwise_map]at h2;exact h2.imp (fun {x y} h e=>h (by rw[e]))
theorem Z9v {xs:List LN}{ks:List Nm}(hd:((xs.map LN.n).map Zn).Nodup)(hk:ks.Nodup)(ha:XW (Yt xs) ks):(ks.filterMap (Yt xs)).Perm xs:=by
 have hn:(ks.filterMap (Yt xs)).Nodup:=by
  clear ha
  induction ks with
  | nil=>exact List.nodup_nil
  | cons k ks ih=>
   rw[List.nodup_cons]at hk;cases h:Yt xs k with
   | none=>rw[List.filterMap_cons_none h];exact ih hk.2
   | some x=>
    rw[List.filterMap_cons_some h,List.nodup_cons];refine⟨fun hx=>?_,ih hk.2⟩;obtain⟨k',hk',h'⟩:=List.mem_filterMap.1 hx;have e1:=(Yl h).2;have e2:=(Yl h').2;exact hk.1 (by rw[<-e1,e2];exact hk')
 rw[List.perm_ext_iff_of_nodup hn (Zad hd)];intro x;rw[List.mem_filterMap];constructor
 ·rintro⟨k,_,h⟩;exact(Yl h).1
 ·intro hx;have h:=Ja hd hx;exact⟨x.nm,ha _ (by rw[h];rfl),h⟩
theorem Z5Y {xs:List LN}(hd:((xs.map LN.n).map Zn).Nodup){r:LN}(hr:r∈xs)(x:LN):Qo (Yt xs) r.nm x=Z01 r.n x.n:=by
 simp only[Qo,Ja hd hr,Z01];rw[show refN x=Z8u x.n from rfl,Z8A,Bool.and_assoc]
theorem ZaW {xs:List LN}{ks:List Nm}{J:Nm->Option LN}(hd:((xs.map LN.n).map Zn).Nodup)(ha:XW (Yt xs) ks)(hJ:YJ (Yt xs) ks J){r:LN}(hr:r∈xs):(J r.nm).map LN.n=Z7U (xs.map LN.n) r.n:=by
 obtain⟨h1,h2⟩:=hJ r.nm;obtain⟨s1,s2⟩:=Z1C r.n (xs.map LN.n) none;have hall : ∀x∈xs,∃k∈ks,Yt xs k=some x:=fun x hx=>⟨x.nm,ha _ (by rw[Ja hd hx];rfl),Ja hd hx⟩;cases hj:J r.nm with
 | none=>
  symm;rw[Option.map_none];refine s1.2 ⟨rfl,fun n hn=>?_⟩;obtain⟨x,hx,rfl⟩:=List.mem_map.1 hn;obtain⟨k,hk,hkx⟩:=hall x hx;rw[<-Z5Y hd hr];exact h1 hj k hk x hkx
 | some y=>
  obtain⟨⟨k,hk,hky⟩,hc,hmax⟩:=h2 y hj;have hy:=(Yl hky).1;have hcy:Z01 r.n y.n=true:=by rw[<-Z5Y hd hr];exact hc
  cases hp:Z7U (xs.map LN.n) r.n with
  | none=>
   have:=(s1.1 hp).2 y.n (List.mem_map_of_mem hy);rw[hcy]at this;cases this
  | some m=>
   obtain⟨t1,_,t3⟩:=s2 m hp;rcases t1 with t1 | ⟨tm,tc⟩
   ·cases t1
   ·obtain⟨z,hz,rfl⟩:=List.mem_map.1 tm;obtain⟨k',hk',hkz⟩:=hall z hz;have u1:=hmax k' hk' z hkz (by rw[Z5Y hd hr];exact tc);have u2:=t3 y.n (List.mem_map_of_mem hy) hcy;have e:y=z:=by
     refine Zae hd hy hz ?_;rw[QA]at u1 u2;show(y.n.house,y.n.num)=(z.n.house,z.n.num);rw[Prod.mk.injEq];omega
    rw[Option.map_some,e]
theorem Z42 {α β:Type}(g:α->Option β){l m:List α}(h:l.Perm m):(l.filterMap g).Perm (m.filterMap g):=h.filterMap g
theorem Zd6 {xs:List LN}{ks ks2:List Nm}{J:Nm->Option LN}(hd:((xs.map LN.n).map Zn).Nodup)(ha:XW (Yt xs) ks)(hJ:YJ (Yt xs) ks J)(hk2:ks2.Nodup)(ha2:XW (Yt xs) ks2):
  (ks2.filterMap (evN (Yt xs) J)).Perm ((xs.map LN.n).filterMap (countP (xs.map LN.n))):=by
 have h1 : ∀k,evN (Yt xs) J k=(Yt xs k).bind (fun x=>countP (xs.map LN.n) x.n):=by
  intro k;unfold evN;cases h:Yt xs k with
  | none=>rfl
  | some x=>
   obtain⟨hx,rfl⟩:=Yl h;have hj:=ZaW hd ha hJ hx;simp only[Option.bind_some,countP];split
   ·cases hJx:J x.nm with
    | none=>rw[hJx]at hj;simp only[Option.map_none]at hj;rw[<-hj]
    | some j=>rw[hJx]at hj;simp only[Option.map_some]at hj;rw[<-hj]
   ·rfl
 have h2:ks2.filterMap (evN (Yt xs) J)=(ks2.filterMap (Yt xs)).filterMap (fun x=>countP (xs.map LN.n) x.n):=by
  rw[List.filterMap_filterMap];exact congrArg (fun g=>ks2.filterMap g) (funext h1)
 rw[h2,List.filterMap_map];exact Z42 _ (Z9v hd hk2 ha2)
theorem Z69 {a b c:Z8}(h1 : ¬JD b a < 0)(h2 : ¬JD c b < 0): ¬JD c a < 0:=by
 rw[Uv]at *;omega
theorem Z6a {a b:Z8}(h1:JD a b < 0): ¬JD b a < 0:=by
 rw[Uv]at *;omega
theorem Zah {a b:Z8}(h1 : ¬JD a b < 0)(h2 : ¬JD b a < 0):Zn a=Zn b:=by
 rw[Uv]at *;show(a.house,a.num)=(b.house,b.num);rw[Prod.mk.injEq];omega
theorem Z2e (n:Z8): ∀l:List Z8,(Z3T n l).Perm (n :: l)
 | []=>List.Perm.refl _
 | y :: ys=>by
  unfold Z3T
  split
  ·exact((Z2e n ys).cons y).trans (List.Perm.swap ..)
  ·exact List.Perm.refl _
theorem Z2J {n:Z8}: ∀{l:List Z8},l.Pairwise (fun x y=>¬JD y x < 0)->(Z3T n l).Pairwise (fun x y=>¬JD y x < 0)
 | [],_=>by simp[Z3T]
 | y :: ys,h=>by
  rw[List.pairwise_cons]at h
  unfold Z3T
  split
  ·rename_i hy
   refine List.pairwise_cons.2 ⟨fun z hz=>?_,Z2J h.2⟩
   rcases List.mem_cons.1 ((Z2e n ys).subset hz)with rfl | hz
   ·exact Z6a hy
   ·exact h.1 z hz
  ·rename_i hy
   refine List.pairwise_cons.2 ⟨fun z hz=>?_,List.pairwise_cons.2 h⟩
   rcases List.mem_cons.1 hz with rfl | hz
   ·exact hy
   ·exact Z69 hy (h.1 z hz)
theorem Zax (l:List Z8): ∀out:List Z8,(l.foldl (fun out n=>Z3T n out) out).Perm (out ++ l)/\(out.Pairwise (fun x y=>¬JD y x < 0)->(l.foldl (fun out n=>Z3T n out) out).Pairwise (fun x y=>¬JD y x < 0)):=by
 induction l with
 | nil=>intro out;exact⟨by simp,fun h=>h⟩
 | cons n l ih=>
  intro out;rw[List.foldl_cons];refine⟨(ih (Z3T n out)).1.trans ?_,fun h=>(ih (Z3T n out)).2 (Z2J h)⟩;refine((Z2e n out).append_right l).trans ?_;rw[List.cons_append];exact List.perm_middle.symm
theorem Z0Y (l:List Z8):(Zaw l).Perm l:=(Zax l []).1
theorem Z5s (l:List Z8):(Zaw l).Pairwise (fun x y=>¬JD y x < 0):=(Zax l []).2 List.Pairwise.nil
theorem Z2k {l:List Z8}{r e:Z8}(h:countP l r=some e):Zn e=Zn r:=by
 unfold countP at h;split at h
 ·split at h
  ·cases h;rfl
  ·split at h
   ·cases h
   ·cases h;rfl
 ·cases h
theorem Ue (l0:List Z8): ∀l:List Z8,(l.map Zn).Nodup->((l.filterMap (countP l0)).map Zn).Nodup
 | [],_=>by simp
 | r :: l,h=>by
  rw[List.map_cons,List.nodup_cons]at h
  cases hc:countP l0 r with
  | none=>rw[List.filterMap_cons_none hc];exact Ue l0 l h.2
  | some e=>
   rw[List.filterMap_cons_some hc,List.map_cons,List.nodup_cons]
   refine⟨fun hm=>?_,Ue l0 l h.2⟩
   obtain⟨e',he',h2⟩:=List.mem_map.1 hm
   obtain⟨r',hr',h3⟩:=List.mem_filterMap.1 he'
   refine h.1 ?_
   rw[<-Z2k hc,<-h2,Z2k h3]
   exact List.mem_map_of_mem hr'
theorem Z9S {l zs:List Z8}(hd:(l.map Zn).Nodup)(hp:zs.Perm (l.filterMap (countP l)))(hs:zs.Pairwise (fun x y=>¬JD y x < 0)):zs=Z38 l:=by
 refine JI (lt:=fun x y=>decide (JD x y < 0)) (fun x hx y hy h1 h2=>?_) (hp.trans (Z0Y _).symm) (hs.imp (by simp)) ((Z5s _).imp (by simp));have hn:=(hp.map Zn).nodup_iff.2 (Ue l l hd);exact Vt hn hx hy (Zah (by simpa using h1) (by simpa using h2))
/-! ### The register -/
structure Z4G where
 hs:List Z8
 es:List Z8
 cs:List Nm
def Zd8 (R:Z4G)(n:Z8):Bool:=if n.kind=1 then decide (R.hs.length≠8)else if n.kind=2 then R.hs.any (fun h=>decide (Zn h=Z8u n))else true
def Z0L (day:Int)(R:Z4G)(n:Z8):Z4G:=if n.day<=day then (if Zd8 R n=true then (if n.kind=1 then { R with hs:=R.hs ++ [n] } else { R with es:=R.es ++ [n] })else { R with cs:=R.cs ++ [Zn n] })else R
def Z3q (day:Int)(l:List Z8):Z4G:=(Z38 l).foldl (Z0L day) ⟨[],[],[]⟩
def Z56 (l:List Z8)(n:Z8):Bool := !XZ n && !l.any (fun r=>Z01 r n)
def csN (day:Int)(l:List Z8):List Nm:=(l.filter (fun n=>decide (Zn n∈(Z3q day l).cs) || Z56 l n)).map Zn
structure zo (R:Je)(N:Z4G):Prop where
 hs:R.hs.map (fun e=>e.x.n)=N.hs
 es:R.es.map (fun e=>e.x.n)=N.es
 cs:R.cs=N.cs
 nh : ∀e∈R.hs,e.nm=Zn e.x.n
 ne : ∀e∈R.es,e.nm=Zn e.x.n
theorem Zb3 (hs:List XV)(p:XV->Bool):Z0a hs p < 0↔hs.any p=false:=by
 rw[Z0a];cases h:hs.findIdx? p with
 | none=>
  rw[List.findIdx?_eq_none_iff]at h;refine⟨fun _=>?_,fun _=>by decide⟩;rw[List.any_eq_false];intro x hx;rw[h x hx];simp
 | some i=>
  obtain⟨h2,h3,_⟩:=List.findIdx?_eq_some_iff_getElem.1 h;refine⟨fun h4=>by simp only at h4;omega,fun h4=>?_⟩;rw[List.any_eq_false]at h4;exact absurd h3 (by simpa using h4 _ (List.getElem_mem h2))
theorem ZbM {hs:List XV}(h : ∀e∈hs,e.nm=Zn e.x.n)(a b:Int):hs.any (Z09 a b)=(hs.map (fun e=>e.x.n)).any (fun n=>decide (Zn n=(a,b))):=by
 rw[List.any_map]
 induction hs with
 | nil=>rfl
 | cons e hs ih=>
  rw[List.any_cons,List.any_cons,ih (fun x hx=>h x (List.mem_cons_of_mem _ hx))];congr 1;have he:=h e (List.mem_cons_self ..);simp only[Z09,Function.comp];rw[<-he,decide_eq_decide,Prod.ext_iff]
theorem Zci {R:Je}{N:Z4G}(h:zo R N)(e:XV):zf R e=Zd8 N e.x.n:=by
 unfold zf Zd8;have hl:R.hs.length=N.hs.length:=by rw[<-h.hs,List.length_map]
 rw[hl];split
 ·rfl
 ·split
  ·rw[<-h.hs,show Z8u e.x.n=(e.x.n.refH,e.x.n.refN)from rfl,<-ZbM h.nh];have:=Zb3 R.hs (Z09 e.x.n.refH e.x.n.refN);cases hq:R.hs.any (Z09 e.x.n.refH e.x.n.refN)with
   | true=>rw[hq]at this;simp at this;simp;exact this
   | false=>rw[hq]at this;simp at this;simp;exact this
  ·rfl
theorem Z5B {day:Int}{R:Je}{N:Z4G}(h:zo R N)(x:LN):zo (Yj day R (X8 x)) (Z0L day N x.n):=by
 have he:=Zci h (X8 x);have e1:(X8 x).x=x:=rfl;rw[e1]at he;unfold Yj Z0L VX;rw[e1,he];split
 ·split
  ·split
   ·exact⟨by rw[List.map_append,h.hs];rfl,h.es,h.cs,fun e hm=>by
     rcases List.mem_append.1 hm with hm | hm
     ·exact h.nh e hm
     ·rw[List.mem_singleton]at hm;subst hm;rfl,h.ne⟩
   ·exact⟨h.hs,by rw[List.map_append,h.es];rfl,h.cs,h.nh,fun e hm=>by
     rcases List.mem_append.1 hm with hm | hm
     ·exact h.ne e hm
     ·rw[List.mem_singleton]at hm;subst hm;rfl⟩
  ·exact⟨h.hs,h.es,by rw[h.cs];rfl,h.nh,h.ne⟩
 ·exact h
theorem Z7H (day:Int)(xs:List LN):zo (Xl day (xs.map X8)) ((xs.map LN.n).foldl (Z0L day) ⟨[],[],[]⟩):=by
 have h : ∀(xs:List LN) (R:Je) (N:Z4G),zo R N->zo ((xs.map X8).foldl (Yj day) R) ((xs.map LN.n).foldl (Z0L day) N):=by
  intro xs
  induction xs with
  | nil=>intro R N h;exact h
  | cons x xs ih=>intro R N h;exact ih _ _ (Z5B h x)
 exact h xs _ _ ⟨rfl,rfl,rfl,fun e h=>(by cases h),fun e h=>(by cases h)⟩
theorem Z9o {day:Int}{l:List XV}{e:XV}(h:e∈(Xl day l).hs ++ (Xl day l).es):e∈l:=by
 have hg : ∀(l:List XV) (R:Je),e∈(l.foldl (Yj day) R).hs ++ (l.foldl (Yj day) R).es->e∈l\/e∈R.hs ++ R.es:=by
  intro l
  induction l with
  | nil=>intro R h;exact .inr h
  | cons x l ih=>
   intro R h;rcases ih _ h with h1 | h1
   ·exact .inl (List.mem_cons_of_mem _ h1)
   ·unfold Yj VX at h1;split at h1
    ·split at h1
     ·split at h1
      ·rw[List.append_assoc,List.mem_append,List.mem_append,List.mem_singleton]at h1;rw[List.mem_cons,List.mem_append];rcases h1 with h1 | rfl | h1
       ·exact .inr (.inl h1)
       ·exact .inl (.inl rfl)
       ·exact .inr (.inr h1)
      ·rw[<-List.append_assoc,List.mem_append,List.mem_singleton]at h1;rcases h1 with h1 | rfl
       ·exact .inr h1
       ·exact .inl (List.mem_cons_self ..)
     ·exact .inr h1
    ·exact .inr h1
 rcases hg l _ h with h | h
 ·exact h
 ·simp at h
/-! ### Conflicts -/
theorem Z2z (day:Int): ∀(l:List Z8) (N:Z4G),∀a∈(l.foldl (Z0L day) N).cs,a∈N.cs\/a∈l.map Zn
 | [],N,a,h => .inl h
 | n :: l,N,a,h=>by
  rw[List.foldl_cons]at h
  rcases Z2z day l _ a h with h | h
  ·unfold Z0L at h
   split at h
   ·split at h
    ·split at h <;> exact .inl h
    ·simp only at h
     rw[List.mem_append,List.mem_singleton]at h
     rcases h with h | rfl
     ·exact .inl h
     ·exact .inr (List.mem_cons_self ..)
   ·exact .inl h
  ·exact .inr (List.mem_cons_of_mem _ h)
theorem Z0N (day:Int): ∀(l:List Z8) (N:Z4G),(l.map Zn).Nodup->N.cs.Nodup->(∀a∈N.cs,a ∉ l.map Zn)->(l.foldl (Z0L day) N).cs.Nodup
 | [],N,_,h,_=>h
 | n :: l,N,hd,h,hx=>by
  rw[List.map_cons,List.nodup_cons]at hd
  rw[List.foldl_cons]
  refine Z0N day l _ hd.2 ?_ ?_
  ·unfold Z0L
   split
   ·split
    ·split <;> exact h
    ·simp only
     rw[List.nodup_append]
     refine⟨h,by simp,fun a ha b hb e=>?_⟩
     rw[List.mem_singleton]at hb
     exact hx a ha (by rw[e,hb];exact List.mem_cons_self ..)
   ·exact h
  ·intro a ha hm
   unfold Z0L at ha
   have h2 : ∀a∈N.cs,a ∉ l.map Zn:=fun a h1 h3=>hx a h1 (List.mem_cons_of_mem _ h3)
   split at ha
   ·split at ha
    ·split at ha <;> exact h2 a ha hm
    ·simp only at ha
     rw[List.mem_append,List.mem_singleton]at ha
     rcases ha with ha | rfl
     ·exact h2 a ha hm
     ·exact hd.1 hm
   ·exact h2 a ha hm
theorem Z9R {l:List Z8}{e:Z8}(h:e∈Z38 l): ∃r∈l,XZ r=true/\Zn e=Zn r:=by
 obtain⟨r,hr,hc⟩:=List.mem_filterMap.1 ((Z0Y _).subset h);refine⟨r,hr,?_,Z2k hc⟩;unfold countP at hc;split at hc
 ·assumption
 ·cases hc
theorem Zal {xs:List LN}(hd:((xs.map LN.n).map Zn).Nodup){x:LN}(hx:x∈xs):VW (Yt xs) x=Z56 (xs.map LN.n) x.n:=by
 unfold VW Z56;cases hdn:XZ x.n with
 | true=>rfl
 | false=>
  simp only[Bool.not_false,Bool.true_and];rw[List.any_map];cases hf:Yt xs (refN x)with
  | none=>
   symm;rw[Bool.not_eq_true',List.any_eq_false];intro r hr hc;simp only[Function.comp,Z01,Bool.and_eq_true,decide_eq_true_eq]at hc;have h1:=Ja hd hr;have h2:refN x=r.nm:=hc.2.1;rw[h2,h1]at hf;cases hf
  | some r=>
   obtain⟨hr,hrn⟩:=Yl hf;simp only;congr 1;cases hq:(XZ r.n && Jm x.n r.n)with
   | true=>
    symm;rw[List.any_eq_true];exact⟨r,hr,by simp only[Function.comp,Z01,hdn,hq];simp;exact hrn.symm⟩
   | false=>
    symm;rw[List.any_eq_false];intro r' hr' hc;simp only[Function.comp,Z01,Bool.and_eq_true,decide_eq_true_eq]at hc;have e:r'=r:=Zae hd hr' hr (by rw[hrn];exact hc.2.1.symm);rw[e]at hc;rw[hc.2.2.1,hc.2.2.2]at hq;cases hq
theorem Zak {xs:List LN}{ks:List Nm}(hd:((xs.map LN.n).map Zn).Nodup)(ha:XW (Yt xs) ks)(a:Nm):a∈VV (Yt xs) ks ↔ ∃n∈xs.map LN.n,Z56 (xs.map LN.n) n=true/\Zn n=a:=by
 unfold VV;rw[List.mem_filter];constructor
 ·rintro⟨_,h⟩;cases hf:Yt xs a with
  | none=>rw[hf]at h;cases h
  | some x=>
   rw[hf]at h;obtain⟨hx,hn⟩:=Yl hf;exact⟨x.n,List.mem_map_of_mem hx,by rw[<-Zal hd hx];exact h,hn⟩
 ·rintro⟨n,hn,hi,rfl⟩;obtain⟨x,hx,rfl⟩:=List.mem_map.1 hn;have hf:=Ja hd hx;exact⟨ha _ (by rw[<-Z8A,hf];rfl),by rw[<-Z8A,hf];simp only;rw[Zal hd hx];exact hi⟩
theorem Z08 {x y:Nm}(h1:J5 x y=false)(h2:J5 y x=false):x=y:=by
 rw[<-Bool.not_eq_true,Xm]at h1 h2;rw[Prod.ext_iff];omega
theorem ZdF {xs:List LN}{ks cs:List Nm}{day:Int}(hp:(xs.map LN.n).Pairwise (fun x y=>J5 (Zn x) (Zn y)=true))(hk:ks.Nodup)(ha:XW (Yt xs) ks)
  (hc:cs.Perm ((Z3q day (xs.map LN.n)).cs ++ VV (Yt xs) ks)) (hs:cs.Pairwise (fun x y=>J5 y x=false)):cs=csN day (xs.map LN.n):=by
 have hd:=XQ hp;generalize hl:xs.map LN.n=l at *;have hcsub : ∀a∈(Z3q day l).cs,∃r∈l,XZ r=true/\Zn r=a:=fun a h=>by
  rcases Z2z day _ _ a h with h | h
  ·cases h
  ·obtain⟨e,he,rfl⟩:=List.mem_map.1 h;obtain⟨r,hr,hd,hn⟩:=Z9R he;exact⟨r,hr,hd,hn.symm⟩
 have hvm : ∀a,a∈VV (Yt xs) ks ↔ ∃n∈l,Z56 l n=true/\Zn n=a:=fun a=>by rw[<-hl];exact Zak (by rw[hl];exact hd) ha a
 have hn1:((Z3q day l).cs ++ VV (Yt xs) ks).Nodup:=by
  rw[List.nodup_append];refine⟨Z0N day _ _ ?_ List.nodup_nil (fun a h=>by cases h),hk.sublist List.filter_sublist,fun a h1 b h2 e=>?_⟩
  ·exact((Z0Y _).map Zn).nodup_iff.2 (Ue l l hd)
  ·subst e;obtain⟨r,hr,hdn,hn⟩:=hcsub a h1;obtain⟨n,hnl,hi,hna⟩:=(hvm a).1 h2;have e:=Vt hd hr hnl (hn.trans hna.symm);rw[e]at hdn;unfold Z56 at hi;rw[hdn]at hi;cases hi
 have hn2:(csN day l).Nodup:=(hd.sublist (List.Sublist.map _ List.filter_sublist));refine JI (lt:=J5) (fun x _ y _ h1 h2=>Z08 h1 h2) (hc.trans ?_) hs ?_
 ·rw[List.perm_ext_iff_of_nodup hn1 hn2];intro a;rw[List.mem_append,hvm];unfold csN;rw[List.mem_map];constructor
  ·rintro(h | ⟨n,hn,hi,rfl⟩)
   ·obtain⟨r,hr,_,rfl⟩:=hcsub a h;exact⟨r,List.mem_filter.2 ⟨hr,by simp[h]⟩,rfl⟩
   ·exact⟨n,List.mem_filter.2 ⟨hn,by simp[hi]⟩,rfl⟩
  ·rintro⟨n,hn,rfl⟩;obtain⟨hnl,h⟩:=List.mem_filter.1 hn;rw[Bool.or_eq_true,decide_eq_true_eq]at h;rcases h with h | h
   ·exact .inl h
   ·exact .inr ⟨n,hnl,h,rfl⟩
 ·unfold csN;rw[List.pairwise_map];refine(hp.sublist List.filter_sublist).imp (fun {x y} h => ?_);exact Z5E.1 _ _ h
def Zdj (w0 w':World)(v:Value)(R:Je):Prop:=
 ∃(ha:zA) (hc:Nat) (ea:zA) (ec:Nat) (ca:zA) (cc:Nat),v = .agg #[.slice ha R.hs.length hc,.slice ea R.es.length ec,.slice ca R.cs.length cc] /\
  w'.ownsRow w0.heap.size 210 21 (.slice ha R.hs.length hc) R.hs.length (JU R.hs)/\w'.ownsRow w0.heap.size 210 21 (.slice ea R.es.length ec) R.es.length (JU R.es)/\w'.ownsRow w0.heap.size 45 2 (.slice ca R.cs.length cc) R.cs.length (ZH R.cs) /\
  ∀e∈R.hs ++ R.es,w'.ownsRow w0.heap.size 3 1 (.slice e.x.sa e.x.n.strokes.length e.x.sc) e.x.n.strokes.length (e.x.n.strokes.map Yh)
theorem Za2 {l:List Z8}{day:Int}{w w':World}{e:Ending}(h:Z8P l day w e w')(hp:l.Pairwise (fun x y=>J5 (Zn x) (Zn y)=true)):
  ∃v R,e = .returned (.tuple #[v,.int .i64 0])/\Zdj w w' v R/\R.hs.map (fun e=>e.x.n)=(Z3q day l).hs/\R.es.map (fun e=>e.x.n)=(Z3q day l).es/\R.cs=csN day l /\ ∀e∈R.hs ++ R.es,e.nm=Zn e.x.n:=by
 obtain⟨v,xs,ks,J,rfl,rfl,hk,ha,hJ,R,hha,hc,ea,ec,ca,cc,ys,ks2,hv,o1,o2,o3,ho,hk2,ha2,hpm,hpw,e1,e2,e3,e4⟩:=h;have hd:=XQ hp;have hys:ys.map LN.n=Z38 (xs.map LN.n):=Z9S hd (hpm.trans (Zd6 hd ha hJ hk2 ha2)) (by
  rw[List.pairwise_map];exact hpw.imp (fun {x y} h=>by simpa [Z1M] using h))
 have hlk:=Z7H day ys;rw[hys]at hlk;have hlk:zo (Xl day (ys.map X8)) (Z3q day (xs.map LN.n)):=hlk;refine⟨v,R,rfl,⟨hha,hc,ea,ec,ca,cc,by injection hv,o1,o2,o3,fun x hx=>?_⟩,by rw[e1];exact hlk.hs,by rw[e2];exact hlk.es,ZdF hp hk ha (by rw[<-hlk.cs];exact e3) e4,fun x hx=>?_⟩
 ·rw[e1,e2]at hx;obtain⟨y,hy,rfl⟩:=List.mem_map.1 (Z9o hx);exact ho y hy
 ·rw[e1,e2]at hx;rcases List.mem_append.1 hx with hx | hx
  ·exact hlk.nh x hx
  ·exact hlk.ne x hx
theorem Z70 {f:Yg}{x:Z8}(h:Zf f x=true)(hd:XZ x=false):x.kind=6\/(1<=x.fix/\x.fix<=4):=by
 unfold Zf at h;rw[Bool.and_eq_true]at h;have h:=h.1;unfold okB at h;have hd : ¬(1<=x.kind/\x.kind<=4):=by
  intro h1;have:XZ x=true:=YB.2 h1;rw[hd]at this;cases this
 split at h
 ·exact absurd ⟨by omega,by omega⟩ hd
 ·split at h
  ·rw[Bool.and_eq_true,Bool.and_eq_true]at h;exact .inr (YB.1 h.2.2)
  ·rename_i h2 h5;left;unfold Y5 at h;grind
theorem Xp {f:Yg}{n:Z8}(hv:f.valid=true)(hf:Zf f n=true):n.strokes.length<=200:=by
 have hst:n.strokes=[]\/XJ (f.sectors - f.wide) n.strokes=true:=by
  rw[Z0c hv]at hf;simp only[U4,QY,Ju,Jd,Xc]at hf;grind
 rcases hst with e | e
 ·rw[e];simp
 ·simp only[XJ,JG,Bool.and_eq_true,decide_eq_true_eq,YB]at e;omega
def Z7t (clock:Int)(l:List Z8):List Z8:=l.filter (fun x=>!decide (clock < x.clock))
theorem Zao (clock:Int)(xs:List LN):(xs.filter (fun x=>!decide (clock < x.n.clock))).map LN.n=Z7t clock (xs.map LN.n):=by
 unfold Z7t;rw[List.filter_map];rfl
theorem Zap {clock:Int}{l:List Z8}(h : ∀x∈l,x.clock<=clock):Z7t clock l=l:=by
 unfold Z7t;rw[List.filter_eq_self];intro x hx;have:=h x hx;simp;omega
theorem Zan (clock:Int)(l:List Z8):(Z7t clock l).Sublist l:=List.filter_sublist
theorem Z6l {xs:List LN}(hd:((xs.map LN.n).map Zn).Nodup)(p:LN->Bool):(fun a=>Option.filter p (Yt xs a))=Yt (xs.filter p):=by
 funext k;have hd2:(((xs.filter p).map LN.n).map Zn).Nodup:=hd.sublist ((List.filter_sublist.map _).map _);refine Option.ext fun x=>?_;rw[Z6k hd2,List.mem_filter,Option.filter_eq_some_iff,Z6k hd];constructor
 ·rintro⟨⟨h1,h2⟩,h3⟩;exact⟨⟨h1,h3⟩,h2⟩
 ·rintro⟨⟨h1,h3⟩,h2⟩;exact⟨⟨h1,h2⟩,h3⟩
def Zef (f:Yg)(l:List Z8)(day clock:Int)(w:World)(e:Ending)(w':World):Prop:=
 ((Zt f l).1≠0/\e = .returned (.tuple #[.agg #[.slice none 0 0,.slice none 0 0,.slice none 0 0],.int .i64 1]))\/((Zt f l).1=0/\Z8P (Z7t clock l) day w e w')
theorem ZbK (f:Yg)(a:zA)(n c:Nat)(l:List Z8)(day clock:Int)(w:World)(hr:Qt w a n c l)(hok : ∀x∈l,x.Ok):
  Calls zq 95 #[f.val,.slice a n c,.int .i64 day,.int .i64 clock] w fun e w'=>Zef f l day clock w e w'/\Below w.heap.size w w':=by
 have HR:=zH hr;clear hr;have HOK:=zH hok;clear hok;have I3 : ∀(x y z:Value),(zq.info? 77).map (·.size)=some (#[x,y,z]:ZW).size:=fun x y z=>by kernel_rfl
 have hmf : ∀(fn:Fn) (first cap:ZW) (w:World),(Instr.makeFunc fn first cap).run zq w = .ok (.func fn first cap) w:=fun _ _ _ _=>rfl;have B0:=zH ((((zB w (zF f 23)).alloc (by simp) (.cells #[.int .i64 clock] 3)).alloc (by simp;omega) (.cells #[.slice none 0 0,.slice none 0 0,.slice none 0 0] 77)));have F0:=zH (Z9 _ (.cells #[.slice none 0 0,.slice none 0 0,.slice none 0 0] 77) _ _ (Z9 _ (.cells #[.int .i64 clock] 3) _ _ (Za w (zF f 23))));have C0:=zH (Z9 _ (.cells #[.slice none 0 0,.slice none 0 0,.slice none 0 0] 77) _ _ (Zw (w.alloc (zF f 23)) (.cells #[.int .i64 clock] 3) (w.heap.size+1) (by simp)));have P0:=zH (Zw ((w.alloc (zF f 23)).alloc (.cells #[.int .i64 clock] 3)) (.cells #[.slice none 0 0,.slice none 0 0,.slice none 0 0] 77) (w.heap.size+1+1) (by simp));unfold Yg.val;go_enter Tryz.func95,Tryz.ntmps95;go_upto_region 1 with fail;obtain⟨pF,hpF⟩:=zX (w.heap.size);obtain⟨pC,hpC⟩:=zX (w.heap.size+1);obtain⟨p,hp⟩:=zX (w.heap.size+1+1);rw[hp.out,hpC.out,hpF.out];rw[hpF.out]at F0;rw[hpC.out]at C0;rw[hp.out]at P0;generalize ((w.alloc (zF f 23)).alloc (.cells #[.int .i64 clock] 3)).alloc (.cells #[.slice none 0 0,.slice none 0 0,.slice none 0 0] 77)=w0 at *;have f0:=Z6 F0.out 0 (.int .i64 f.rings) rfl;have f1:=Z6 F0.out 1 (.int .i64 f.sectors) rfl;have f2:=Z6 F0.out 2 (.int .i64 f.wide) rfl;go_wp2_with fail;refine(Z1R f a n c l w0 (HR.out.below B0.out) HOK.out).mono ?_;rintro e w1 ⟨h1 | h1,hb1⟩
 ·obtain⟨hbad,rfl⟩:=h1;have HBAD:=zH hbad;clear hbad;have P1:=zH (Z7 hb1 P0.out);have B1:=zH (B0.out.trans (hb1.mono B0.out.size));clear hb1;go_wp2_with (first
   |(refine ZX rfl 77 _ _ rfl p #[.slice none 0 0,.slice none 0 0,.slice none 0 0] #[.slice none 0 0,.slice none 0 0,.slice none 0 0] 77 rfl rfl P1.out (by kernel_rfl) rfl (by simp[Value.oneCell']) ?_;intro w5 hr1 hr2 hr3)
   | fail)
  have B5:Hid (Below w.heap.size w w5):=zH (B1.out.grown hr2 B1.out.size (fun k e=>by cases e;have:=hp.out;omega));refine bodyPost_ret (Zz rfl _ w5 p 77 _ (0,0) _ rfl hr1 Tryz.underlying77 rfl (by kernel_rfl)) rfl ?_;exact⟨.inl ⟨HBAD.out,rfl⟩,B5.out⟩
 obtain⟨hset,xs0,b,rfl,h2,h3,h4,h5⟩:=h1;have HSET:=zH hset;clear hset;have HXS0:=zH h2;have HXO:=zH h3;have HM:=zH h4;have HBB:=zH h5;have HB1:=zH hb1;clear h2 h3 h4 h5 hb1;go_wp2_with (first
  |(go_at_call 149
    refine(Z8g b l.length (Yt xs0) pC clock w1 HM.out (Z7 HB1.out C0.out)).mono ?_;rintro e w2 ⟨rfl,h2,h3⟩;have HM2:=zH h2;have HG2:=zH h3;clear h2 h3;dsimp only)
  | fail)
 have ND0:Hid (((xs0.map LN.n).map Zn).Nodup):=zH (by rw[HXS0.out];exact XQ (Uj HSET.out).2.2.2);obtain⟨xs,hxs⟩:=zX (xs0.filter (fun x=>!decide (clock < x.n.clock)));rw[Z6l ND0.out,hxs.out]at HM2;have HXS:Hid (xs.map LN.n=Z7t clock l):=zH (by rw[<-hxs.out,Zao,HXS0.out]);have HSUB:Hid (∀x∈xs,x∈xs0):=zH (fun x hx=>by rw[<-hxs.out]at hx;exact(List.mem_filter.1 hx).1);have HSL:Hid (∀x∈xs,x.n∈l):=zH (fun x hx=>by rw[<-HXS0.out];exact List.mem_map_of_mem (HSUB.out x hx));clear hmf f0 f1 f2;have HLN:Hid (l.length<=400):=zH (Uj HSET.out).2.1;have HXN:Hid (xs.length<=400):=zH (by have h1:=congrArg List.length HXS.out;rw[List.length_map]at h1;rw[h1];exact Nat.le_trans (Zan clock l).length_le HLN.out);have FO:Hid (FOk (Yt xs)):=zH (fun k x h=>⟨HOK.out x.n (HSL.out x (Yl h).1),(Yl h).2⟩);obtain⟨es,ck,hbm⟩:=HM.out.blk;have HXO2:Hid (∀x∈xs,x.ok w2):=zH (fun x hx=>ZaK (HXO.out x (HSUB.out x hx)) HG2.out hbm);have B2:Hid (Below w.heap.size w w2):=zH ((B0.out.trans (HB1.out.mono B0.out.size)).grown HG2.out (Nat.le_trans B0.out.size HB1.out.size) (fun k e=>by cases e;exact Nat.le_trans B0.out.size HBB.out));have P2:Hid (w2.heap[p]? = some (.cells #[.slice none 0 0,.slice none 0 0,.slice none 0 0] 77)):=zH (Zc HG2.out (Z7 HB1.out P0.out) (fun e=>by have h1:=Z7 HB1.out P0.out;rw[Option.some.inj e,hbm]at h1;simp at h1));clear hbm HM HXO HG2 HB1 HBB F0 C0 P0 B0;refine(ZbX b l.length (Yt xs) w2 HM2.out FO.out (by have:=HLN.out;omega)).mono ?_;rintro e w3 ⟨⟨pB,bJ,va,vn,vc,ks,J,rfl,h2,h3,h4,h5,h6,h7,h8,h9,h10⟩,hb3⟩;have hvn:vn=(VV (Yt xs) ks).length:=by have:=h8.1;rw[Xw]at this;omega
 subst hvn;have HBN:=zH h2;have HND:=zH h3;have HAL:=zH h4;have HMJ:=zH h5;have HJO:=zH h7;have HVA:=zH (Y3.of_own h8);have HB3:=zH hb3;clear h2 h3 h4 h5 h6 h7 h8 h9 h10 hb3;have P3:=zH (Z7 HB3.out P2.out);have B3:=zH (B2.out.trans (HB3.out.mono B2.out.size));dsimp only;go_wp2_with (first
  |(go_at_call 152
    refine(Z5z pB b bJ l.length ks.length va vc (VV (Yt xs) ks) (Yt xs) J day w3 HBN.out (HM2.out.below HB3.out) HMJ.out FO.out (fun a x h=>by obtain⟨⟨k,_,h1⟩,_⟩:=(HJO.out a).2 x h;exact⟨k,h1⟩)
     (fun a x h=>⟨(HXO2.out x (Yl h).1).below HB3.out,Nat.le_trans (Xp (Uj HSET.out).1 ((Uj HSET.out).2.2.1 x.n (HSL.out x (Yl h).1))) (by decide)⟩) (by have:=HLN.out;omega) HVA.out
     (Zbk HJO.out (fun x hx=>Z70 ((Uj HSET.out).2.2.1 x.n (HSL.out x hx))))
     (fun ks' hn' _=>by have h1:=Zd5 (xs:=xs) (J:=J) hn';have h2:=ZbV (xs:=xs) HND.out;have h3:=HXN.out;omega)).mono ?_
    rintro e w4 ⟨hE,hb4⟩;have HE:=zH hE;obtain⟨R,ha,hc,ea,ec,ca,cc,ys,ks2,rfl,-⟩:=hE;have P4:=zH (Z7 hb4 P3.out);have B4:=zH (B3.out.trans (hb4.mono B3.out.size));clear hb4;dsimp only)
  |(refine ZX rfl 77 _ _ rfl p #[.slice none 0 0,.slice none 0 0,.slice none 0 0] #[.slice ha R.hs.length hc,.slice ea R.es.length ec,.slice ca R.cs.length cc] 77 rfl rfl P4.out (by kernel_rfl) rfl (by simp[Value.oneCell']) ?_;intro w5 hr1 hr2 hr3)
  | fail)
 have B5:Hid (Below w.heap.size w w5):=zH (B4.out.grown hr2 B4.out.size (fun k e=>by cases e;have:=hp.out;omega));have HE5:=zH ((HE.out.kept P4.out hr2).mono B3.out.size);refine bodyPost_ret (Zz rfl _ w5 p 77 _ (0,0) _ rfl hr1 Tryz.underlying77 rfl (by kernel_rfl)) rfl ?_;exact⟨.inr ⟨HSET.out,_,xs,ks,J,rfl,HXS.out,HND.out,HAL.out,HJO.out,HE5.out⟩,B5.out⟩
theorem Vq {f:Yg}{x:Z8}(h:Zf f x=true):1<=x.clock/\x.clock<=1099511627776:=by
 unfold Zf at h;simp only[Bool.and_eq_true]at h;exact YB.1 h.2.2.1
def ZcA (f:Yg)(l:List Z8)(w:World)(e:Ending)(w':World):Prop:=
 ((Zt f l).1≠0/\e = .returned (.tuple #[.agg #[.slice none 0 0,.slice none 0 0,.slice none 0 0],.int .i64 1]))\/((Zt f l).1=0/\Z8P l 99999 w e w')
theorem Zbh (f:Yg)(a:zA)(n c:Nat)(l:List Z8)(w:World)(hr:Qt w a n c l)(hok : ∀x∈l,x.Ok):
  Calls zq 34 #[f.val,.slice a n c] w fun e w'=>ZcA f l w e w'/\Below w.heap.size w w':=by
 have HR:=zH hr;clear hr;have B0:=zH (((zB w (zF f 23)).alloc (by simp) (.cells #[.slice none 0 0,.slice none 0 0,.slice none 0 0] 77)));have F0:=zH (Z9 _ (.cells #[.slice none 0 0,.slice none 0 0,.slice none 0 0] 77) _ _ (Za w (zF f 23)));have P0:=zH (Zw (w.alloc (zF f 23)) (.cells #[.slice none 0 0,.slice none 0 0,.slice none 0 0] 77) (w.heap.size+1) (by simp));have HA:=zH (fun W hb=>ZbK f a n c l 99999 1099511627776 W (HR.out.below (show Below w.heap.size w W from hb)) hok);clear hok;have hvl:f.val = .agg #[.int .i64 f.rings,.int .i64 f.sectors,.int .i64 f.wide]:=rfl;rw[hvl]at HA ⊢;go_enter Tryz.func34,Tryz.ntmps34;go_upto_region 1 with fail;obtain⟨pF,hpF⟩:=zX (w.heap.size);obtain⟨p,hp⟩:=zX (w.heap.size+1);rw[hp.out,hpF.out];rw[hpF.out]at F0;rw[hp.out]at P0;generalize (w.alloc (zF f 23)).alloc (.cells #[.slice none 0 0,.slice none 0 0,.slice none 0 0] 77)=w0 at *;have f0:=Z6 F0.out 0 (.int .i64 f.rings) rfl;have f1:=Z6 F0.out 1 (.int .i64 f.sectors) rfl;have f2:=Z6 F0.out 2 (.int .i64 f.wide) rfl;go_wp2_with fail;refine(HA.out w0 B0.out).mono ?_;rintro e w4 ⟨h1 | h1,hb4⟩
 ·obtain⟨hbad,rfl⟩:=h1;have HBAD:=zH hbad;clear hbad;have P4:=zH (Z7 hb4 P0.out);have B4:=zH (B0.out.trans (hb4.mono B0.out.size));clear hb4;go_wp2_with (first
   |(refine ZX rfl 77 _ _ rfl p #[.slice none 0 0,.slice none 0 0,.slice none 0 0] #[.slice none 0 0,.slice none 0 0,.slice none 0 0] 77 rfl rfl P4.out (by kernel_rfl) rfl (by simp[Value.oneCell']) ?_;intro w5 hr1 hr2 hr3)
   | fail)
  have B5:Hid (Below w.heap.size w w5):=zH (B4.out.grown hr2 B4.out.size (fun k e=>by cases e;have:=hp.out;omega));refine bodyPost_ret (Zz rfl _ w5 p 77 _ (0,0) _ rfl hr1 Tryz.underlying77 rfl (by kernel_rfl)) rfl ?_;exact⟨.inl ⟨HBAD.out,rfl⟩,B5.out⟩
 obtain⟨hset,hE⟩:=h1;rw[Zap (fun x hx=>(Vq ((Uj hset).2.2.1 x hx)).2)]at hE;have HSET:=zH hset;clear hset;obtain⟨v,xs,ks,J,rfl,hxs,hnd,hal,hjo,hE⟩:=hE;have HE:=zH hE;have HX:=zH (And.intro hxs (And.intro hnd (And.intro hal hjo)));obtain⟨R,ha,hc,ea,ec,ca,cc,ys,ks2,hv,-⟩:=hE;obtain rfl:v=_:=by injection hv
 have P4:=zH (Z7 hb4 P0.out);have B4:=zH (B0.out.trans (hb4.mono B0.out.size));clear hb4 hxs hnd hal hjo;dsimp only;go_wp2_with (first
  |(refine ZX rfl 77 _ _ rfl p #[.slice none 0 0,.slice none 0 0,.slice none 0 0] #[.slice ha R.hs.length hc,.slice ea R.es.length ec,.slice ca R.cs.length cc] 77 rfl rfl P4.out (by kernel_rfl) rfl (by simp[Value.oneCell']) ?_;intro w5 hr1 hr2 hr3)
  | fail)
 have B5:Hid (Below w.heap.size w w5):=zH (B4.out.grown hr2 B4.out.size (fun k e=>by cases e;have:=hp.out;omega));have HE5:=zH ((HE.out.kept P4.out hr2).mono B0.out.size);refine bodyPost_ret (Zz rfl _ w5 p 77 _ (0,0) _ rfl hr1 Tryz.underlying77 rfl (by kernel_rfl)) rfl ?_;exact⟨.inr ⟨HSET.out,_,xs,ks,J,rfl,HX.out.1,HX.out.2.1,HX.out.2.2.1,HX.out.2.2.2,HE5.out⟩,B5.out⟩
theorem Z4O {f:Yg}{l:List Z8}: ∀(n k:Nat),(∀i,k<=i->i < k+n->Vf f l i=none)->QN f l n k=(0,0)
 | 0,_,_=>rfl
 | n+1,k,h=>by
  rw[QN,h k (Nat.le_refl _) (by omega)]
  exact Z4O n (k+1) (fun i h1 h2=>h i (by omega) (by omega))
theorem ZcO {f:Yg}{l:List Z8}(hv:f.valid=true)(h4:l.length<=400)(hf : ∀x∈l,Zf f x=true)(hp:l.Pairwise (fun x y=>J5 (Zn x) (Zn y)=true)):(Zt f l).1=0:=by
 unfold Zt;rw[if_neg (by rw[hv];decide),if_neg (by omega),Z4O];intro i _ hi;rw[Nat.zero_add]at hi;unfold Vf;rw[List.getElem?_eq_getElem hi];simp only;rw[if_neg (by rw[hf _ (List.getElem_mem hi)];decide)];by_cases h0:i=0
 ·rw[if_pos h0]
 ·rw[if_neg h0,List.getElem?_eq_getElem (by omega:i - 1 < l.length)];simp only;have h1:=List.pairwise_iff_getElem.1 hp (i - 1) i (by omega) hi (by omega);rw[J5,decide_eq_true_eq]at h1;have h2:YA l[i - 1].house l[i - 1].num l[i].house l[i].num < 0:=h1;rw[if_neg (by omega),if_neg (by omega)]
theorem ZaC {x y:Z8}: Yx x y=true↔(x.house=y.house/\x.num=y.num)/\(x.clock=y.clock/\x.day=y.day/\x.kind=y.kind/\x.stone=y.stone/\x.heap=y.heap/\x.turns=y.turns) /\
  (x.hardLo=y.hardLo/\x.hardHi=y.hardHi)/\(x.diffLo=y.diffLo/\x.diffHi=y.diffHi)/\(x.a=y.a/\x.b=y.b/\x.ring=y.ring)/\(x.refH=y.refH/\x.refN=y.refN)/\x.fix=y.fix/\x.strokes=y.strokes:=by
 simp only[Yx,Qz];grind
section
attribute [local go_sem] ZT Xa J4 QM XI QL QK QJ Vn Vm Qe Qd JN JM JK XR Jc Jb Jq
end
theorem Jx {x y:Z8}: Yx x y=true↔x=y:=by
 constructor
 ·intro h;obtain⟨⟨h1,h2⟩,⟨h3,h4,h5,h6,h7,h8⟩,⟨h9,h10⟩,⟨h11,h12⟩,⟨h13,h14,h15⟩,⟨h16,h17⟩,h18,h19⟩:=ZaC.1 h;cases x;cases y;simp only[Z8.mk.injEq];exact⟨h1,h2,h3,h4,h5,h6,h7,h8,h9,h10,h11,h12,h13,h14,h15,h16,h17,h18,h19⟩
 ·rintro rfl;simp[Yx]
theorem Z7C (x y:Z8):Yx x y=Yx y x:=by
 rw[Bool.eq_iff_iff,Jx,Jx];exact⟨Eq.symm,Eq.symm⟩
abbrev ltN (x y:Z8):Prop:=J5 (Zn x) (Zn y)=true
theorem Z4Y {x y z:Z8}(h1:ltN x y)(h2:ltN y z):ltN x z:=by
 unfold ltN at *;rw[Xm]at *;omega
theorem Z4Z {x y:Z8}(h:ltN x y):J5 (Zn y) (Zn x)=false:=by
 cases h2:J5 (Zn y) (Zn x)with
 | false=>rfl
 | true=>
  unfold ltN at h;rw[Xm]at h h2;omega
theorem Z14 {x y:Z8}(h:ltN x y)(e:Zn x=Zn y):False:=by
 unfold ltN at h;rw[e,Xm]at h;omega
theorem ZaM {u:List Z8}(h:u.Pairwise ltN):u.Nodup:=by
 rw[List.Nodup];exact h.imp (fun {x y} hxy (e:x=y)=>Z14 hxy (congrArg Zn e))
def Z2o (m:List Z8)(x:Z8):Bool:=m.any (fun y=>decide (Zn y=Zn x) && !Yx x y)
def VJ (l m:List Z8):Option Nm:=(l.find? (Z2o m)).map Zn
theorem Z0C {m:List Z8}{x:Z8}: Z2o m x=true ↔ ∃y∈m,Zn y=Zn x/\x≠y:=by
 unfold Z2o;rw[List.any_eq_true];constructor
 ·rintro⟨y,hy,h⟩;simp only[Bool.and_eq_true,decide_eq_true_eq,Bool.not_eq_true']at h;exact⟨y,hy,h.1,fun e=>by rw[Jx.2 e]at h;cases h.2⟩
 ·rintro⟨y,hy,h1,h2⟩;refine⟨y,hy,?_⟩;simp only[Bool.and_eq_true,decide_eq_true_eq,Bool.not_eq_true'];refine⟨h1,?_⟩;cases h3:Yx x y with
  | false=>rfl
  | true=>exact absurd (Jx.1 h3) h2
theorem Zcp {m:List Z8}{x:Z8}(h : ∀y∈m,Zn y≠Zn x):Z2o m x=false:=by
 cases h2:Z2o m x with
 | false=>rfl
 | true=>obtain⟨y,hy,h3,_⟩:=Z0C.1 h2;exact absurd h3 (h y hy)
theorem Zcq {m:List Z8}{x y:Z8}(hd:(m.map Zn).Nodup)(hy:y∈m)(e:Zn y=Zn x):Z2o m x = !Yx x y:=by
 rw[Bool.eq_iff_iff,Z0C,Bool.not_eq_true'];constructor
 ·rintro⟨z,hz,h1,h2⟩;have:z=y:=Vt hd hz hy (h1.trans e.symm);subst this;cases h3:Yx x z with
  | false=>rfl
  | true=>exact absurd (Jx.1 h3) h2
 ·intro h;exact⟨y,hy,e,fun h2=>by rw[Jx.2 h2]at h;cases h⟩
def Zdl (l m:List Z8):Prop := ∀x∈l,∀y∈m,Zn x=Zn y->x=y
theorem Z71 {l m:List Z8}: VJ l m=none↔Zdl l m:=by
 unfold VJ;rw[Option.map_eq_none_iff,List.find?_eq_none];constructor
 ·intro h x hx y hy e;cases h2:Yx x y with
  | true=>exact Jx.1 h2
  | false=>exact absurd (Z0C.2 ⟨y,hy,e.symm,fun h3=>by rw[Jx.2 h3]at h2;cases h2⟩) (h x hx)
 ·intro h x hx hb;obtain⟨y,hy,h1,h2⟩:=Z0C.1 hb;exact h2 (h x hx y hy h1.symm)
theorem Z5Q {l m:List Z8}{k:Nat}{x:Z8}(hx:l[k]? = some x)(h1 : ∀j y,j < k->l[j]? = some y->Z2o m y=false)(h2:Z2o m x=true):VJ l m=some (Zn x):=by
 unfold VJ;have hk:=(List.getElem?_eq_some_iff.1 hx).1;have e:l=l.take k ++ x :: l.drop (k+1):=by
  rw[<-(List.getElem?_eq_some_iff.1 hx).2,<-List.drop_eq_getElem_cons hk,List.take_append_drop]
 rw[e,List.find?_append];have:(l.take k).find? (Z2o m)=none:=by
  rw[List.find?_eq_none];intro y hy;obtain⟨j,hj,hj2⟩:=List.mem_take_iff_getElem.1 hy;rw[h1 j y (by omega) (by rw[<-hj2];exact List.getElem?_eq_getElem (by omega))];decide
 rw[this,List.find?_cons_of_pos h2];rfl
theorem Z89 {l m:List Z8}(h1 : ∀j y,j < l.length->l[j]? = some y->Z2o m y=false):VJ l m=none:=by
 unfold VJ;rw[Option.map_eq_none_iff,List.find?_eq_none];intro y hy;obtain⟨j,hj⟩:=List.getElem?_of_mem hy;rw[h1 j y (List.getElem?_eq_some_iff.1 hj).1 hj];decide
theorem Z3j {u v:List Z8}(h1:u.Pairwise ltN)(h2:v.Pairwise ltN)(h : ∀x,x∈u↔x∈v):u=v:=by
 have hp:u.Perm v:=(List.perm_ext_iff_of_nodup (ZaM h1) (ZaM h2)).2 h;refine JI (lt:=fun x y=>J5 (Zn x) (Zn y)) (fun x hx y hy h3 h4=>?_) hp (h1.imp Z4Z) (h2.imp Z4Z);exact Vt (XQ h1) hx hy (Z08 h3 h4)
theorem Z5T {l:List Z8}{i:Nat}{x:Z8}(hx:l[i]? = some x):l.drop i=x :: l.drop (i+1):=by
 obtain⟨h1,h2⟩:=List.getElem?_eq_some_iff.1 hx;rw[List.drop_eq_getElem_cons h1,h2]
section
variable {l m out:List Z8}{i k:Nat}{x y:Z8}
end
theorem ZaN {xs:List LN}{ks:List Nm}(hp:(xs.map LN.n).Pairwise ltN)(ha:XW (Yt xs) ks)(hin : ∀k∈ks,(Yt xs k).isSome=true)(hs:ks.Pairwise (fun x y=>J5 x y=true)):ks=(xs.map LN.n).map Zn:=by
 have hd:=XQ hp;have hp2:((xs.map LN.n).map Zn).Pairwise (fun x y=>J5 x y=true):=by rw[List.pairwise_map];exact hp
 have n1:ks.Nodup:=hs.imp (fun {x y} h e=>by rw[e,Xm]at h;omega);have asym : ∀{x y:Nm},J5 x y=true->J5 y x=false:=fun {x y} h=>by
  cases h2:J5 y x with
  | false=>rfl
  | true=>rw[Xm]at h h2;omega
 refine JI (lt:=J5) (fun x _ y _ h1 h2=>Z08 h1 h2) ((List.perm_ext_iff_of_nodup n1 hd).2 fun a=>?_) (hs.imp asym) (hp2.imp asym);constructor
 ·intro h;obtain⟨x,hx⟩:=Option.isSome_iff_exists.1 (hin a h);obtain⟨h1,h2⟩:=Yl hx;rw[List.map_map];exact List.mem_map.2 ⟨x,h1,h2⟩
 ·intro h;rw[List.map_map]at h;obtain⟨x,hx,rfl⟩:=List.mem_map.1 h;exact ha _ (by rw[show(Zn∘LN.n) x=x.nm from rfl,Ja hd hx];rfl)
def Z9A (lt:Z8->Z8->Bool)(n:Z8):List Z8->List Z8
 | []=>[n]
 | y :: ys=>if lt y n=true then y :: Z9A lt n ys else n :: y :: ys
theorem UC (lt:Z8->Z8->Bool)(n:Z8): ∀l:List Z8,(Z9A lt n l).Perm (n :: l)
 | []=>List.Perm.refl _
 | y :: ys=>by
  unfold Z9A
  split
  ·exact((UC lt n ys).cons y).trans (List.Perm.swap ..)
  ·exact List.Perm.refl _
def QW (c:Int->Nat)(h:Int):Int->Nat:=fun a=>if a=h then c a+1 else c a
def Qq (K:List Z8)(c:Int->Nat):Prop := ∀h k:Int,(∃x∈K,Zn x=(h,k))↔1<=k/\k<=(c h:Int)
def Jl (K:List Z8)(n:Z8):Option Z8:=K.find? (fun x=>decide (Zn x=Zn n))
def YI (l:List Z8):List Z8->(Int->Nat)->List Z8->Option (List Z8×(Int->Nat))
 | fr,c,[]=>some (fr,c)
 | fr,c,n :: ns=>match Jl (l ++ fr) n with
  | some o=>if Yx o n=true then YI l fr c ns else none
  | none=>if (c n.house:Int)+1 < n.num then YI l fr c ns else YI l (fr ++ [n]) (QW c n.house) ns
def XY (l:List Z8)(n:Z8):List Z8:=Z9A (fun x y=>J5 (Zn x) (Zn y)) n l
def zk (l fr:List Z8):List Z8:=fr.foldl XY l
theorem Z5M {K:List Z8}{n o:Z8}(h:Jl K n=some o):o∈K/\Zn o=Zn n:=by
 unfold Jl at h;exact⟨List.mem_of_find?_eq_some h,by simpa using List.find?_some h⟩
theorem Qk {K:List Z8}{n:Z8}(h:Jl K n=none): ∀y∈K,Zn y≠Zn n:=by
 unfold Jl at h;rw[List.find?_eq_none]at h;intro y hy e;exact h y hy (by simpa using e)
theorem Z3N {K:List Z8}{n:Z8}(h : ∀y∈K,Zn y≠Zn n):Jl K n=none:=by
 unfold Jl;rw[List.find?_eq_none];intro y hy e;exact h y hy (by simpa using e)
theorem Qq.free {K:List Z8}{c:Int->Nat}(h:Qq K c){n:Z8}(h1:1<=n.num)(hn : ∀y∈K,Zn y≠Zn n):(c n.house:Int) < n.num:=by
 have:=(h n.house n.num).2;by_cases h2:n.num<=(c n.house:Int)
 ·obtain⟨x,hx,e⟩:=this ⟨h1,h2⟩;exact absurd e (hn x hx)
 ·omega
theorem Qq.le {K:List Z8}{c:Int->Nat}(h:Qq K c){n:Z8}(hn:n∈K):1<=n.num/\n.num<=(c n.house:Int):=(h n.house n.num).1 ⟨n,hn,rfl⟩
theorem Qq.add {K:List Z8}{c:Int->Nat}(h:Qq K c){n:Z8}(hk:n.num=(c n.house:Int)+1):Qq (K ++ [n]) (QW c n.house):=fun a k=>by
 have e1:(∃x∈K ++ [n],Zn x=(a,k))↔(∃x∈K,Zn x=(a,k))\/Zn n=(a,k):=by
  constructor
  ·rintro⟨x,hx,e⟩;rcases List.mem_append.1 hx with hx | hx
   ·exact .inl ⟨x,hx,e⟩
   ·rw[List.mem_singleton.1 hx]at e;exact .inr e
  ·rintro(⟨x,hx,e⟩ | e)
   ·exact⟨x,List.mem_append_left _ hx,e⟩
   ·exact⟨n,by simp,e⟩
 rw[e1,h a k];unfold QW;have e2:Zn n=(a,k)↔n.house=a/\n.num=k:=by
  show(n.house,n.num)=(a,k)↔_;rw[Prod.mk.injEq]
 rw[e2];by_cases ha:a=n.house
 ·subst ha;simp;omega
 ·rw[if_neg ha];constructor
  ·rintro(h2 | h2)
   ·exact h2
   ·exact absurd h2.1.symm ha
  ·exact .inl
theorem Qq.perm {K L:List Z8}{c:Int->Nat}(h:Qq K c)(hm : ∀x,x∈L↔x∈K):Qq L c:=fun a k=>by
 rw[<-h a k]
 constructor
 ·rintro⟨x,hx,e⟩;exact⟨x,(hm x).1 hx,e⟩
 ·rintro⟨x,hx,e⟩;exact⟨x,(hm x).2 hx,e⟩
theorem Z1t {l:List Z8}: ∀(ns fr:List Z8) (c:Int->Nat) {fr':List Z8} {c':Int->Nat},Qq (l ++ fr) c->((l ++ fr).map Zn).Nodup->(∀n∈ns,1<=n.num)->YI l fr c ns=some (fr',c')->
  Qq (l ++ fr') c'/\((l ++ fr').map Zn).Nodup/\(∀x∈fr',x∈fr\/x∈ns)/\fr'.length<=fr.length+ns.length
 | [],fr,c,fr',c',h1,h2,_,h=>by
  simp only[YI,Option.some.injEq,Prod.mk.injEq]at h
  obtain⟨rfl,rfl⟩:=h
  exact⟨h1,h2,fun x hx=>.inl hx,by simp⟩
 | n :: ns,fr,c,fr',c',h1,h2,h3,h=>by
  rw[YI]at h
  have h3' : ∀m∈ns,1<=m.num:=fun m hm=>h3 m (List.mem_cons_of_mem _ hm)
  split at h
  ·split at h
   ·obtain⟨a1,a2,a3,a4⟩:=Z1t ns fr c h1 h2 h3' h
    exact⟨a1,a2,fun x hx=>(a3 x hx).imp id (List.mem_cons_of_mem _),by rw[List.length_cons];omega⟩
   ·cases h
  ·rename_i hk
   have hfree:=Qk hk
   split at h
   ·obtain⟨a1,a2,a3,a4⟩:=Z1t ns fr c h1 h2 h3' h
    exact⟨a1,a2,fun x hx=>(a3 x hx).imp id (List.mem_cons_of_mem _),by rw[List.length_cons];omega⟩
   ·rename_i hle
    have hlt:=h1.free (h3 n (List.mem_cons_self ..)) hfree
    have hadd:=h1.add (n:=n) (by omega)
    rw[List.append_assoc]at hadd
    obtain⟨a1,a2,a3,a4⟩:=Z1t ns (fr ++ [n]) (QW c n.house) hadd (by
     rw[<-List.append_assoc,List.map_append]
     refine List.nodup_append.2 ⟨h2,by simp,fun a ha b hb e=>?_⟩
     rw[List.map_singleton,List.mem_singleton]at hb
     obtain⟨x,hx,rfl⟩:=List.mem_map.1 ha
     exact hfree x hx (e.trans hb)) h3' h
    refine⟨a1,a2,fun x hx=>?_,by rw[List.length_append]at a4;rw[List.length_cons];simp at a4;omega⟩
    rcases a3 x hx with h5 | h5
    ·rcases List.mem_append.1 h5 with h5 | h5
     ·exact .inl h5
     ·rw[List.mem_singleton.1 h5];exact .inr (List.mem_cons_self ..)
    ·exact .inr (List.mem_cons_of_mem _ h5)
theorem Xo {l:List Z8}{n x:Z8}: x∈XY l n↔x∈l\/x=n:=by
 unfold XY;rw[(UC _ n l).mem_iff,List.mem_cons];exact Or.comm
theorem Z2K {n:Z8}: ∀{l:List Z8},l.Pairwise ltN->(∀y∈l,Zn y≠Zn n)->(XY l n).Pairwise ltN
 | [],_,_=>by simp[XY,Z9A]
 | y :: ys,h,hf=>by
  rw[List.pairwise_cons]at h
  have hf' : ∀z∈ys,Zn z≠Zn n:=fun z hz=>hf z (List.mem_cons_of_mem _ hz)
  have ih:=Z2K h.2 hf'
  unfold XY at ih ⊢
  unfold Z9A
  split
  ·rename_i hy
   refine List.pairwise_cons.2 ⟨fun z hz=>?_,ih⟩
   rcases(Xo (l:=ys) (n:=n) (x:=z)).1 hz with hz | rfl
   ·exact h.1 z hz
   ·exact hy
  ·rename_i hy
   have hny:ltN n y:=by
    unfold ltN;cases h2:J5 (Zn n) (Zn y)with
    | true=>rfl
    | false=>exact absurd (Z08 (by simpa using hy) h2) (hf y (List.mem_cons_self ..))
   refine List.pairwise_cons.2 ⟨fun z hz=>?_,List.pairwise_cons.2 h⟩;rcases List.mem_cons.1 hz with rfl | hz
   ·exact hny
   ·exact Z4Y hny (h.1 z hz)
theorem Z4i: ∀(fr l:List Z8),(zk l fr).length=l.length+fr.length
 | [],l=>by simp[zk]
 | n :: fr,l=>by
  show(zk (XY l n) fr).length=_
  rw[Z4i fr (XY l n),XY,(UC _ n l).length_eq,List.length_cons,List.length_cons]
  omega
attribute [local go_sem] Oper.semAt_some
section
variable {α:Type}{enc:α->Value}{f:Nm->Option α}{F:Fence}{m:Nat}(w:World){ops:Array Oper}{rest:List Oper}{o:Oper}{a:Act}{Q:Exit->Act->World->Prop}
theorem U2 (hg:o.guard=none)(x:Operand)(t e:TypeId)(hop:o.op=Op.range t x)(ht:zq.underlying t=some (.map 45 e))(b n:Nat)(hm:a.eval x = .map (some b))(hmap:Yd enc w b n f)
  (hK : ∀w' cnt,Y6 enc w' b w.heap.size n f [] cnt->w.grownBy w' none->w'.heap.size=w.heap.size+1->wpListIn F m zq ops Q rest (a.put o.dst (.pointer (some ⟨w.heap.size,0,none⟩))) w'):wpListIn F m zq ops Q (o :: rest) a w:=by
 obtain⟨D,h1,h2⟩:=hmap;exact wpListIn_range_own w hg x t hop 45 e Qf ht Qm b n D hm h1 (fun w' h3 h4 h5=>hK w' _ ⟨D,_,h3,h2,fun k hk=>by rw[h2.has k hk];simp,List.nodup_nil,by have:=h1.size_le;simpa using this⟩ h4 h5)
theorem Ut (hg:o.guard=none)(it:Operand)(hop:o.op=Op.next it false)(b r n cnt:Nat)(ks:List Nm)(hit:a.eval it = .pointer (some ⟨r,0,none⟩))(h:Y6 enc w b r n f ks cnt)
  (hDone:XW f ks->wpListIn F m zq ops Q rest (a.put o.dst (.tuple #[.bool false])) w)
  (hMore : ∀kh km y w' cnt',Hid (Z8L enc w b r n cnt f ks kh km y w' cnt')->
   (Instr.entry (.pointer (some ⟨r,0,none⟩))).run zq w' = .ok (.tuple #[.agg #[.int .i64 kh,.int .i64 km],enc y]) w'->wpListIn F m zq ops Q rest (a.put o.dst (.tuple #[.bool true,.agg #[.int .i64 kh,.int .i64 km],enc y])) w'):wpListIn F m zq ops Q (o :: rest) a w:=by
 obtain⟨D,left,h1,h2,h3,h4,hcn⟩:=h;refine wpListIn_next_ranges (α:=Nm) (β:=Value) w hg it hop 45 Qf Qm nmV id (fun key kl hk=>by obtain⟨a,rfl,_⟩:=Z0v hk;exact⟨a,rfl⟩) (fun v _ _=>⟨v,rfl⟩) b r n D left cnt hit h1 (fun _ hl=>hDone (fun k hk=>?_)) (fun k c kl y w' cnt' hkey hlk hv hat hrg hlt hgr hsz hen => ?_)
 ·have:=hl (nmL k);rw[h3 k (h2.ok k hk),hk]at this;simpa using this
 ·obtain⟨k',e1,hk',rfl⟩:=Z0v hkey;cases Z5G e1;rw[h3 k hk']at hlk;simp only[Bool.and_eq_true,Bool.not_eq_true',decide_eq_false_iff_not]at hlk;obtain⟨x,hx⟩:=Option.isSome_iff_exists.1 hlk.1;have hy:=hat (.lit (.bool true));rw[h2.val k x hx]at hy;simp only[Qm,Option.some.injEq]at hv;rw[<-hv]at hy;simp only[DataW.held.injEq,id_eq]at hy;subst hy;refine hMore k.1 k.2 x w' cnt' (zH ⟨hx,hlk.2,hk',⟨D,_,hrg,h2,fun a ha=>?_,?_,by rw[List.length_append,List.length_singleton];omega⟩,hlt,hgr,hsz⟩) hen
  ·rw[h3 a ha];by_cases e:a=k
   ·subst e;have:(nmL a).sameKey (nmL a)=true:=WideAt.sameKey_self (Z1l _);simp[this]
   ·have:(nmL a).sameKey (nmL k)=false:=Maps.sameKey_ne (fun he=>e (US ha hk' he));simp[this,e]
  ·exact List.nodup_append.2 ⟨h4,by simp,fun a ha b hb e=>hlk.2 (by rw[List.mem_singleton]at hb;rw[<-show b=k from hb,<-e];exact ha)⟩
end
theorem ZG.turn {rec:LoopState->Option Code->Loop}{D:Nat}{st:LoopState}{pe:Option Code}{W W':World}{r:Nat}{o:Obj}(h:ZG rec D st pe W)(hr:W.heap[r]? = some o)(ho1 : ∀l,o ≠ .loop l)(ho2 : ∀l,o ≠ .deferred l)(hg:W.grownBy W' (some r)):ZG rec D st pe W':=
 ⟨Zc hg h.1 (fun e=>by have h1:=h.1;rw[Option.some.inj e,hr]at h1;exact ho1 _ (Option.some.inj h1)),Zc hg h.2 (fun e=>by have h1:=h.2;rw[Option.some.inj e,hr]at h1;exact ho2 _ (Option.some.inj h1))⟩
structure UJ (Wb:World)(p:Nat)(ks:List Nm)(W:World):Prop where
 blk : ∃a c,W.heap[p]? = some (.cells #[.slice a ks.length c] 75)/\W.ownsRow Wb.heap.size 45 2 (.slice a ks.length c) ks.length (ZH ks)
 same:Zb (fun k=>k=p) Wb W
theorem UJ.below {Wb W W':World}{p:Nat}{ks:List Nm}(h:UJ Wb p ks W)(hb:Below W.heap.size W W'):UJ Wb p ks W':=by
 obtain⟨⟨a,c,h1,h2⟩,h3⟩:=h;exact⟨⟨a,c,Z7 hb h1,Zd h2 hb⟩,h3.trans (Zb.of_below hb)⟩
theorem UJ.turn {Wb W W':World}{p r:Nat}{ks:List Nm}{o:Obj}(h:UJ Wb p ks W)(hr:W.heap[r]? = some o)(ho : ∀c t fr,o ≠ .cells c t fr)(hg:W.grownBy W' (some r))(hge:Wb.heap.size<=r):UJ Wb p ks W':=by
 obtain⟨⟨a,c,h1,h2⟩,h3⟩:=h;exact⟨⟨a,c,Zc hg h1 (fun e=>by rw[Option.some.inj e,hr]at h1;exact ho _ _ _ (Option.some.inj h1)),h2.kept hg (.inr (Zq h2 hr (fun cur=>ho _ _ _)).symm)⟩,h3.reg (Zb.of_grown hg (fun k e=>by cases e;exact .inr hge))⟩
theorem UJ.putObj {Wb W:World}{p:Nat}{ks:List Nm}(h:UJ Wb p ks W)(o:Loop)(hl : ∃r,W.heap[Wb.heap.size+1]? = some (.loop r)):UJ Wb p ks (W.putObj (Wb.heap.size+1) (.loop o)):=by
 obtain⟨r,hl⟩:=hl;exact h.turn hl (fun _ _ _=>by simp) (grownBy_putObj' W _ _) (by omega)
theorem UJ.add {Wb W V:World}{p:Nat}{ks:List Nm}{k:Nm}{a a':zA}{c c':Nat}(hs:Zb (fun k=>k=p) Wb W)(hp:W.heap[p]? = some (.cells #[.slice a ks.length c] 75))(how:W.ownsRow Wb.heap.size 45 2 (.slice a ks.length c) ks.length (ZH ks))
  (ho:V.ownsRow Wb.heap.size 45 2 (.slice a' (ks.length+1) c') (ks.length+1) (ZH ks ++ [.int .i64 k.1,.int .i64 k.2])) (hg:W.grownBy V (Value.ownBlock (.slice a ks.length c))):
  UJ Wb p (ks ++ [k]) (V.setCell ⟨p,0,none⟩ (.slice a' (ks.length+1) c'))/\V.heap[p]? = some (.cells #[.slice a ks.length c] 75):=by
 have hb2:=Zc hg hp (Zq how hp (by intro cur;simp));have G:=Zl V p 0 (.slice a' (ks.length+1) c');refine⟨⟨⟨a',c',?_,?_⟩,hs.reg ((Zb.of_grown hg (fun k e=>.inr (how.lt k e).1)).trans (Zb.of_grown G (fun k e=>by cases e;exact .inl rfl)))⟩,hb2⟩
 ·rw[ZK hb2 0 (.slice a' (ks.length+1) c'),List.length_append];rfl
 ·rw[Z1m,List.length_append];exact ho.kept G (.inr (Zq ho hb2 (by intro cur;simp)).symm)
theorem Y6.turn {W W':World}{b r n cnt:Nat}{f:Nm->Option LN}{ks:List Nm}{row:Option Nat}(h:Y6 LN.val W b r n f ks cnt)(hg:W.grownBy W' row)(hrow : ∀q,row=some q -> ∃o,W.heap[q]? = some o/\(∀e c,o ≠ .map e c) /\ ∀a1 a2 a3 a4,o ≠ .mapIter a1 a2 a3 a4):Y6 LN.val W' b r n f ks cnt:=by
 obtain⟨es,clock,hsb⟩:=h.map.blk;obtain⟨bb,since,seen,c0,hr⟩:=h.blk;refine h.of_blocks ((Zc hg hsb (fun e=>?_)).trans hsb.symm) ((Zc hg hr (fun e=>?_)).trans hr.symm)
 ·obtain⟨o,h1,h2,h3⟩:=hrow b e.symm;rw[hsb]at h1;exact h2 _ _ (Option.some.inj h1).symm
 ·obtain⟨o,h1,h2,h3⟩:=hrow r e.symm;rw[hr]at h1;exact h3 _ _ _ _ (Option.some.inj h1).symm
abbrev KSt:=List Nm×Nm×Nat×Nat
def KAt (Wb:World)(p b n:Nat)(f:Nm->Option LN)(ks js:List Nm)(r cnt:Nat)(W:World):Prop:=UJ Wb p js W/\Y6 LN.val W b r n f ks cnt/\Wb.heap.size<=r /\ ∀k∈ks,(f k).isSome=true
theorem ZaU (m:Nat)(Wb:World)(p pB b n:Nat)(f:Nm->Option LN)(hpB:Wb.heap[pB]? = some (.cells #[.map (some b)] 119))(hne:pB≠p)(hmap:Yd LN.val Wb b n f)(hbp:b≠p)
  (rec:LoopState->Option Code->Loop) (W1:World) (h0:UJ Wb p [] W1) (hl:ZG rec Wb.heap.size .ready none W1)
  (hY : ∀(s:KSt) W,KAt Wb p b n f (s.1 ++ [s.2.1]) s.1 s.2.2.1 s.2.2.2 W->ZG rec Wb.heap.size .ready none W->YieldAt Fence.wide (m - 1) zq (Wb.heap.size+1) #[.agg #[.int .i64 s.2.1.1,.int .i64 s.2.1.2]] W fun e W'=>
    e = .returned (.bool true)/\KAt Wb p b n f (s.1 ++ [s.2.1]) (s.1 ++ [s.2.1]) s.2.2.1 s.2.2.2 W'/\ZG rec Wb.heap.size .ready none W'):
  CallsIn Fence.wide m zq 177 #[.func (.yield (Wb.heap.size+1)) #[] #[],.pointer (some ⟨pB,0,none⟩)] W1 fun e W'=>
    (∃v,e = .returned v)/\(∃ks,UJ Wb p ks W'/\XW f ks/\ks.Nodup/\(∀k∈ks,(f k).isSome=true)/\ks.length<=n)/\ZG rec Wb.heap.size .ready none W':=by
 have HY:=zH hY;clear hY;have M1:=zH (hmap.of_block (h0.same.block b hmap.lt hbp));have hlc:=Z6 ((h0.same.block pB (Zi hpB) hne).trans hpB) 0 (.map (some b)) rfl;have R0:=zH h0;clear h0;have L0:=zH hl;clear hl;clear hpB hne hmap hbp;refine callsIn_of_wp Tryz.func177 rfl trivial ?_;simp only[Tryz.ntmps177,List.size_toArray,List.length_cons,List.length_nil,Nat.reduceAdd,Nat.reduceSub,Array.replicate_succ,Array.replicate_zero,List.push_toArray,List.append_toArray,List.nil_append,List.cons_append];gi_wp2_with (first
  |(gi_at_range;refine U2 _ rfl _ 119 47 rfl Tryz.underlying119 b n rfl M1.out ?_;intro w0 cnt0 hrg0 hg0 hs0)
  | gi_in)
 go_frame;obtain⟨r,hr⟩:=zX (W1.heap.size);have b0:Below W1.heap.size W1 w0:=(Below.refl _ _).grown hg0 (Nat.le_refl _) (fun q hq=>by cases hq);have S0:Hid (KAt Wb p b n f [] [] r cnt0 w0):=zH ⟨R0.out.below b0,by rw[<-hr.out];exact hrg0,by rw[<-hr.out];exact R0.out.same.size,fun k hk=>by cases hk⟩;have LL0:=zH (L0.out.of_below b0);rw[hr.out];clear hrg0 hg0 hs0 b0 hlc M1 R0 L0;gi_loopw [3] (fun _ wr=>∃(ks:List Nm) (cnt:Nat),Hid (KAt Wb p b n f ks ks r cnt wr)/\Hid (ZG rec Wb.heap.size .ready none wr)) (fun _ wr=>wr.rangeLeft b r)
 case atStart=>exact⟨[],cnt0,S0,LL0⟩
 case round=>
  obtain⟨ks,cnt,HS,HL⟩:=hrel;gi_wp2_with (first
   |(gi_at_next;refine Ut _ rfl _ rfl b r n cnt ks rfl HS.out.2.1 ?_ ?_)
   | gi_in)
  ·intro hall;have HALL:=zH hall;clear hall;gi_wp2;go_end0;exact⟨⟨_,rfl⟩,⟨ks,HS.out.1,HALL.out,HS.out.2.1.nodup,HS.out.2.2.2,by have:=HS.out.2.1.count;omega⟩,HL.out⟩
  ·intro kh km y w2 cnt2 HN hen;obtain⟨bb,since,seen,c0,hrb⟩:=HS.out.2.1.blk;have np2:=HS.out.1.turn hrb (fun _ _ _=>by simp) HN.out.grown HS.out.2.2.1;have bn:Below w2.heap.size w2 (w2.alloc (.cells #[.int .i64 kh,.int .i64 km] 45)):=zB _ _;have L3:=zH ((HL.out.turn hrb (fun _=>by simp) (fun _=>by simp) HN.out.grown).of_below bn);have K3:Hid (KAt Wb p b n f (ks ++ [(kh,km)]) ks r cnt2 (w2.alloc (.cells #[.int .i64 kh,.int .i64 km] 45))):=zH ⟨np2.below bn,HN.out.range.below bn,HS.out.2.2.1,fun k hk=>by
    rcases List.mem_append.1 hk with hk | hk
    ·exact HS.out.2.2.2 k hk
    ·rw[List.mem_singleton.1 hk,HN.out.at_];rfl⟩
   have HM:=zH (show wr.rangeLeft b r=cnt from HS.out.2.1.left_eq);have HLT:=zH HN.out.lt;clear np2 bn HS HL HN hrb;unfold LN.val at hen;obtain⟨fn,tmps,assign,body,hy,hRo⟩:=HY.out (ks,(kh,km),r,cnt2) _ K3.out L3.out;dsimp only at hy;gi_wp2;refine⟨fun h=>by simp[Fence.wide]at h,?_⟩;refine hRo.mono ?_;rintro e W6 ⟨rfl,hK6,hL6⟩;have HK6:=zH hK6;have HL6:=zH hL6;clear hRo hy hK6 hL6 hen;gi_wp2;go_roundw
   case rel=>exact⟨_,cnt2,HK6,HL6⟩
   case measure=>rw[HK6.out.2.1.left_eq,HM.out];exact HLT.out
theorem Z62 (pB b n:Nat)(f:Nm->Option LN)(w:World)(hpB:w.heap[pB]? = some (.cells #[.map (some b)] 119))(hmap:Yd LN.val w b n f)(hn:n<=1000):
  Calls zq 203 #[.slice none 0 0,.func (.func 177) #[] #[.pointer (some ⟨pB,0,none⟩)]] w fun e w'=>
   (∃a' c' ks,e = .returned (.slice a' ks.length c')/\w'.ownsRow w.heap.size 45 2 (.slice a' ks.length c') ks.length (ZH ks)/\XW f ks/\ks.Nodup/\(∀k∈ks,(f k).isSome=true)/\ks.length<=n)/\Below w.heap.size w w':=by
 have HLEN:=zH hn;clear hn;have B0:=zH (zB w (.cells #[.slice none 0 0] 75));have P0:=zH (Za w (.cells #[.slice none 0 0] 75));have HB:=zH (Z7 B0.out hpB);have HM:=zH (hmap.below B0.out);have NE:Hid (pB≠w.heap.size/\b≠w.heap.size):=zH (by have:=Zi hpB;have:=hmap.lt;omega);clear hpB hmap;refine(callsIn_wide (n:=4)).1 ?_;refine callsIn_of_wp_marks Tryz.func203 rfl trivial ?_;simp only[Tryz.ntmps203,List.size_toArray,List.length_cons,List.length_nil,Nat.reduceAdd,Nat.reduceSub,Array.replicate_succ,Array.replicate_zero,List.push_toArray,List.append_toArray,List.nil_append,List.cons_append];refine wpIn_wide.2 ?_;go_upto_region 1 with fail;obtain⟨p,hp⟩:=zX (w.heap.size);rw[hp.out]at P0 NE ⊢;generalize w.alloc (.cells #[.slice none 0 0] 75)=w3 at *;go_wp2_with fail;refine(wpIn_wide (n:=4)).1 ?_;refine Ug (n:=3) (σ:=KSt) (w:=w3) (gf:=177) (lb := #[.pointer (some ⟨pB,0,none⟩)]) rfl (enters_of Tryz.func177 (by kernel_rfl) rfl)
  (fun s=>#[.agg #[.int .i64 s.2.1.1,.int .i64 s.2.1.2]]) (fun _=>rfl) (fun s W=>KAt w3 p b n f (s.1 ++ [s.2.1]) s.1 s.2.2.1 s.2.2.2 W) (fun s W=>KAt w3 p b n f (s.1 ++ [s.2.1]) (s.1 ++ [s.2.1]) s.2.2.1 s.2.2.2 W)
  (fun s a₁ W=>∃pX,a₁ = { tmps := #[.slice none 0 0,.func (.func 177) #[] #[.pointer (some ⟨pB,0,none⟩)],.pointer (some ⟨p,0,none⟩),undef,.slice none 0 0,.pointer (some ⟨pX,0,none⟩),.func (.func 177) #[] #[.pointer (some ⟨pB,0,none⟩)],.agg #[.int .i64 s.2.1.1,.int .i64 s.2.1.2],undef,undef,undef,undef,undef],defers:=[] } /\ W.heap[pX]? = some (.cells #[.int .i64 s.2.1.1,.int .i64 s.2.1.2] 45)/\KAt w3 p b n f (s.1 ++ [s.2.1]) s.1 s.2.2.1 s.2.2.2 W)
  (fun W=>∃ks,UJ w3 p ks W/\XW f ks/\ks.Nodup/\(∀k∈ks,(f k).isSome=true)/\ks.length<=n) ?hA' ?hB ?hD ?assign ?body ?iter ?done
 case hA'=>
  rintro s a₁ W o ⟨pX,rfl,h1,h2,h3,h4⟩ ⟨r,hr⟩;refine⟨pX,rfl,(World.putObj_heap_other (fun e=>?_)).trans h1,h2.putObj o ⟨r,hr⟩,h3.turn (grownBy_putObj' W _ _) (fun q e=>by cases e;exact⟨_,hr,by simp,by simp⟩),h4⟩;rw[e,hr]at h1;simp at h1
 case hB=>
  rintro s W o ⟨h2,h3,h4⟩ ⟨r,hr⟩;exact⟨h2.putObj o ⟨r,hr⟩,h3.turn (grownBy_putObj' W _ _) (fun q e=>by cases e;exact⟨_,hr,by simp,by simp⟩),h4⟩
 case hD=>
  rintro W o ⟨ks,h,h2⟩ hl;exact⟨ks,h.putObj o hl,h2⟩
 case assign=>
  rintro⟨ks,k,r,cnt⟩ W h1;have H1:=zH h1;clear h1;dsimp only;have hb5:Below W.heap.size W (W.alloc (.cells #[.int .i64 k.1,.int .i64 k.2] 45)):=zB W _;have HG:=zH (show KeepsFrom w3.heap.size W (W.alloc (.cells #[.int .i64 k.1,.int .i64 k.2] 45))/\(W.alloc (.cells #[.int .i64 k.1,.int .i64 k.2] 45)).heap[W.heap.size]? = some (.cells #[.int .i64 k.1,.int .i64 k.2] 45)/\KAt w3 p b n f (ks ++ [k]) ks r cnt (W.alloc (.cells #[.int .i64 k.1,.int .i64 k.2] 45))from
   ⟨(Jr hb5).from _,Za W _,H1.out.1.below hb5,H1.out.2.1.below hb5,H1.out.2.2⟩)
  clear hb5 H1;have hf : ∀t:ZW,(#[7].zip #[Value.agg #[.int .i64 k.1,.int .i64 k.2]]).foldl (fun t (p,v)=>t.setIfInBounds p v) t=t.setIfInBounds 7 (.agg #[.int .i64 k.1,.int .i64 k.2]):=fun t=>by simp
  rw[hf];simp only[List.setIfInBounds_toArray,List.set_cons_succ,List.set_cons_zero];clear hf;refine Yy (JX _) (VD (fun a w h=>h)) ?hnd ?_
  case hnd=>rfl
  go_wp2_with fail;exact⟨HG.out.1,W.heap.size,rfl,HG.out.2⟩
 case body=>
  rintro⟨ks,k,r,cnt⟩ a₁ W ⟨pX,rfl,hX,h1⟩;have HX:=zH hX;have H1:=zH (show KAt w3 p b n f (ks ++ [k]) ks r cnt W from h1);clear hX h1;dsimp only;have HKL:Hid (ks.length<=1000):=zH (by have h1:=H1.out.2.1.count;have:=HLEN.out;rw[List.length_append]at h1;omega);obtain⟨⟨ea,ec,hblk,how⟩,hsm⟩:=H1.out.1;have bn:Below W.heap.size W (W.alloc (.cells #[.int .i64 k.1,.int .i64 k.2] 45)):=zB _ _;obtain⟨a',c',v9,hrun,ho9,hg9⟩:=XE (W.alloc (.cells #[.int .i64 k.1,.int .i64 k.2] 45)) w3.heap.size ea ks.length ec _ (Zd how bn) _ 1 1 _ (Vb W _ _) (fun u hu=>by simp only[List.mem_cons,List.not_mem_nil,or_false]at hu;rcases hu with rfl | rfl <;> rfl) (by have:=HKL.out;omega) (Nat.le_trans hsm.size bn.size);have hadd:=UJ.add (hsm.trans (Zb.of_below bn)) (Z7 bn hblk) (Zd how bn) ho9 hg9;have HK:Hid (KeepsFrom w3.heap.size W (v9.setCell ⟨p,0,none⟩ (.slice a' (ks.length+1) c'))):=zH (by
   refine KeepsOthers.from ⟨?_,fun k o hk ho=>?_⟩ _
   ·exact Nat.le_trans bn.size (Nat.le_trans hg9.size (by simp[World.setCell]))
   ·have hk1:=Z7 bn hk;have hk2:=Zc hg9 hk1 (fun e=>by have:=Z0t (Zd how bn) e.symm hk1;rw[this]at ho;cases ho);exact Zc (Zl v9 p 0 _) hk2 (fun e=>by rw[Option.some.inj e,hadd.2]at hk2;cases hk2;cases ho))
  have RA:Y6 LN.val (v9.setCell ⟨p,0,none⟩ (.slice a' (ks.length+1) c')) b r n f (ks ++ [k]) cnt:=by
   have h2:=H1.out.2.1.below bn;have h3:Y6 LN.val v9 b r n f (ks ++ [k]) cnt:=h2.turn hg9 (fun q e=>by
    rcases(Zd how bn).2 with ⟨h4,_⟩ | ⟨g,cap,cur,h4,_,h5,_⟩
    ·rw[h4]at e;cases e
    ·rw[h4]at e;cases e;exact⟨_,h5,by simp,by simp⟩)
   exact h3.turn (Zl v9 p 0 _) (fun q e=>by cases e;exact⟨_,hadd.2,by simp,by simp⟩)
  have HA:=zH (show KAt w3 p b n f (ks ++ [k]) (ks ++ [k]) r cnt (v9.setCell ⟨p,0,none⟩ (.slice a' (ks.length+1) c'))from⟨hadd.1,RA,H1.out.2.2⟩);have hcl:=Z6 hblk 0 (.slice ea ks.length ec) rfl;have hx0:=Z6 HX.out 0 (.int .i64 k.1) rfl;have hx1:=Z6 HX.out 1 (.int .i64 k.2) rfl;have hcl3:=Z6 hadd.2 0 (.slice ea ks.length ec) rfl;have hfz:=Zp hadd.2 0;clear hadd how hsm bn ho9 hg9 hblk RA;apply wpIn_block;refine Yy (JX _) (VD (fun a w h=>h)) ?hnd ?_
  case hnd=>rfl
  go_wp2_with (first
   |(refine Ye rfl _ _ _ rfl _ _ _ rfl rfl hrun ?_)
   | fail)
  exact⟨HK.out,HA.out⟩
 case iter=>
  intro rec hlr hY;have hbb:=(zB w3 (.deferred (some []))).alloc (by simp) (.loop (rec .ready none));exact ZaU 3 w3 p pB b n f HB.out NE.out.1 HM.out NE.out.2 rec _ ⟨⟨none,0,Z7 hbb P0.out,World.ownsRow_nil _ _ _ _⟩,Zb.of_below hbb⟩ hlr hY
 case done=>
  rintro W ⟨ks,⟨⟨a',c',hblk,how⟩,hsm⟩,hks⟩ hD0;dsimp only;have HD0:=zH hD0;have HOW:=zH how;have HSM:=zH hsm;have HKS:=zH hks;have hcl:=Z6 hblk 0 (.slice a' ks.length c') rfl;clear hD0 how hsm hblk hks;go_wp2_with fail;have hb:Below w.heap.size w W:=HSM.out.below B0.out B0.out.size (fun k hk=>by have:=hp.out;omega);have hbz:Below w.heap.size w (W.putObj w3.heap.size (.deferred none)):=hb.grown (grownBy_putObj' W _ _) hb.size (fun k e=>by cases e;exact B0.out.size);have hoz:=Zv (ownsRow_putObj HOW.out (.deferred none) HD0.out rfl) B0.out.size;refine⟨by simp,.inl ⟨_,_,rfl,run_takeDeferred HD0.out,?_⟩⟩;exact⟨.slice a' ks.length c',by kernel_rfl,⟨a',c',ks,rfl,hoz,HKS.out⟩,hbz⟩
def Z4k (f:Nm->Option LN)(n:Nat)(w:World)(e:Ending)(W:World):Prop:=
 ∃(a:zA) (c:Nat) (ks:List Nm),e = .returned (.slice a ks.length c)/\W.ownsRow w.heap.size 45 2 (.slice a ks.length c) ks.length (ZH ks)/\XW f ks/\ks.Pairwise (fun x y=>J5 x y=true)/\(∀k∈ks,(f k).isSome=true)/\ks.length<=n
theorem Z4W {zs:List Nm}(hn:zs.Nodup)(hs:zs.Pairwise (fun x y=>J5 y x=false)):zs.Pairwise (fun x y=>J5 x y=true):=by
 refine(hs.and hn).imp (fun {x y} h => ?_);cases h2:J5 x y with
 | true=>rfl
 | false=>exact absurd (Z08 h2 h.1) h.2
theorem Z4D (pB b n:Nat)(f:Nm->Option LN)(w:World)(hpB:w.heap[pB]? = some (.cells #[.map (some b)] 119))(hmap:Yd LN.val w b n f)(hn:n<=1000):
  Calls zq 169 #[.func (.func 177) #[] #[.pointer (some ⟨pB,0,none⟩)]] w fun e w'=>
   (∃a' c' ks,e = .returned (.slice a' ks.length c')/\w'.ownsRow w.heap.size 45 2 (.slice a' ks.length c') ks.length (ZH ks)/\XW f ks/\ks.Nodup/\(∀k∈ks,(f k).isSome=true)/\ks.length<=n)/\Below w.heap.size w w':=by
 have HA:=zH (Z62 pB b n f w hpB hmap hn);clear hpB hmap hn;go_enter Tryz.func169,Tryz.ntmps169;go_wp2_with fail;refine HA.out.mono ?_;rintro e w1 ⟨⟨a',c',ks,rfl,h1⟩,h2⟩;have H:=zH (And.intro h1 h2);clear h1 h2;go_wp2;go_ret;exact⟨⟨a',c',ks,rfl,H.out.1⟩,H.out.2⟩
theorem Z5r (pB b n:Nat)(f:Nm->Option LN)(w:World)(hpB:w.heap[pB]? = some (.cells #[.map (some b)] 119))(hmap:Yd LN.val w b n f)(hn:n<=1000):
  Calls zq 118 #[.func (.func 177) #[] #[.pointer (some ⟨pB,0,none⟩)],.func (.func 124) #[] #[]] w fun e w'=>Z4k f n w e w'/\Below w.heap.size w w':=by
 have HA:=zH (Z4D pB b n f w hpB hmap hn);have HN:=zH hn;clear hpB hmap hn;go_enter Tryz.func118,Tryz.ntmps118;go_wp2_with fail;refine HA.out.mono ?_;rintro e w1 ⟨⟨a',c',ks,rfl,h1,h2,h3,h4,h5⟩,hb⟩;have HO:=zH h1;have HAL:=zH h2;have HND:=zH h3;have HIN:=zH h4;have HL:=zH h5;have HB:=zH hb;clear h1 h2 h3 h4 h5 hb;go_wp2_with fail;refine(UP (V:=Nm) Z5E U9 (fun _=>rfl) (fun x v hv=>by simp only[U9,List.mem_cons,List.not_mem_nil,or_false]at hv;rcases hv with rfl | rfl <;> rfl) (fun x y=>YA x.1 x.2 y.1 y.2) (fun _ _=>rfl) 124 Z6E ZcF w.heap.size ks.length c' a' ks _ (by rw[<-Q4];exact HO.out) rfl (by have:=HL.out;have:=HN.out;omega)).mono ?_;rintro e w10 ⟨rfl,zs,hz1,hz2,hz3,hz4⟩;have Z1:=zH hz1;have Z2:=zH hz2;have Z3:=zH hz3;have B2:=zH (hz4.below HB.out HB.out.size (fun k hk=>(HO.out.lt k hk).1));clear hz1 hz2 hz3 hz4;have ZL:Hid (zs.length=ks.length):=zH Z2.out.length_eq;go_wp2;go_ret;exact⟨⟨a',c',zs,by rw[ZL.out] <;> rfl,by rw[Q4,ZL.out];exact Z1.out,fun k hk=>Z2.out.symm.subset (HAL.out k hk),Z4W (Z2.out.nodup_iff.2 HND.out) Z3.out,fun k hk=>HIN.out k (Z2.out.subset hk),by rw[ZL.out];exact HL.out⟩,B2.out⟩
theorem Z9m (b n:Nat)(f:Nm->Option LN)(w:World)(hmap:Yd LN.val w b n f)(hn:n<=1000):
  Calls zq 65 #[.map (some b)] w fun e w'=>Z4k f n w e w'/\Below w.heap.size w w':=by
 have HM:=zH hmap;have HN:=zH hn;clear hmap hn;have hmf : ∀(fn:Fn) (first cap:ZW) (w:World),(Instr.makeFunc fn first cap).run zq w = .ok (.func fn first cap) w:=fun _ _ _ _=>rfl;have KY:Hid (∀W,Calls zq 123 #[.map (some b)] W fun e W'=>e = .returned (.func (.func 177) #[] #[.pointer (some ⟨W.heap.size,0,none⟩)])/\W'=W.alloc (.cells #[.map (some b)] 119)):=zH (fun W=>by
  go_enter Tryz.func123,Tryz.ntmps123;go_wp2;go_ret;exact⟨rfl,rfl⟩)
 clear hmf;go_enter Tryz.func65,Tryz.ntmps65;go_wp2_with fail;refine(KY.out w).mono ?_;rintro e w1 ⟨rfl,rfl⟩;have B1:=zH (zB w (.cells #[.map (some b)] 119));have P1:=zH (Za w (.cells #[.map (some b)] 119));have M1:=zH (HM.out.below B1.out);obtain⟨pB,hpB⟩:=zX (w.heap.size);rw[hpB.out]at P1;rw[hpB.out];generalize w.alloc (.cells #[.map (some b)] 119)=w1 at *;go_wp2_with fail;refine(Z5r pB b n f w1 P1.out M1.out HN.out).mono ?_;rintro e w2 ⟨⟨a,c,ks,rfl,h1,h2⟩,hb⟩;have HO:=zH (Zv h1 B1.out.size);have H2:=zH h2;have B2:=zH (B1.out.trans (hb.mono B1.out.size));clear h1 h2 hb;go_wp2;go_ret;exact⟨⟨a,c,ks,rfl,HO.out,H2.out⟩,B2.out⟩
section
attribute [local go_sem] ZT Xa
theorem QR (n:Z8)(sa:zA)(sc:Nat)(w:World):Calls zq 58 #[.agg (Z5 n sa sc)] w fun e w'=>e = .returned (.agg #[.int .i64 n.house,.int .i64 n.num])/\Below w.heap.size w w':=by
 have hb:=zB w (.cells (Z5 n sa sc) 47);go_enter Tryz.func58,Tryz.ntmps58;go_wp2_with fail;go_returns;exact⟨rfl,hb.alloc hb.size _⟩
end
section
attribute [local go_sem] XR
theorem Z0h (n:Z8)(sa:zA)(sc:Nat)(w:World)(hs:Xi w sa n.strokes.length sc n.strokes)(hl:n.strokes.length<=1000000000):
  Calls zq 71 #[.agg (Z5 n sa sc)] w fun e w' => ∃ta tc,e = .returned (.agg (Z5 n ta tc))/\w'.ownsRow w.heap.size 3 1 (.slice ta n.strokes.length tc) n.strokes.length (n.strokes.map Yh)/\Below w.heap.size w w':=by
 have I43:=zH zI;go_enter Tryz.func71,Tryz.ntmps71;go_upto_region 1 with fail;rw[<-YN];have g0:=Z9 _ (.cells (Z5 Zg none 0) 47) _ _ (Za w (.cells (Z5 n sa sc) 47));have g1:=Zw (w.alloc (.cells (Z5 n sa sc) 47)) (.cells (Z5 Zg none 0) 47) (w.heap.size+1) (by simp);have bb:Below w.heap.size w ((w.alloc (.cells (Z5 n sa sc) 47)).alloc (.cells (Z5 Zg none 0) 47)):=(zB _ _).alloc (by simp) _;have L0:Hid (Z65 w ((w.alloc (.cells (Z5 n sa sc) 47)).alloc (.cells (Z5 Zg none 0) 47)) w.heap.size (w.heap.size+1) (Z5 n sa sc) (Z5 Zg none 0) 47):=zH ⟨g0,g1,bb,by omega⟩;have RI:=zH (hs.below bb);clear g0 g1 bb hs;generalize (w.alloc (.cells (Z5 n sa sc) 47)).alloc (.cells (Z5 Zg none 0) 47)=W2 at *;generalize hp0:w.heap.size=p0 at *;generalize hp1:p0+1=p1 at *;have HP0:=zH hp0;clear hp0 hp1;obtain⟨m,hm⟩:=zX (n.strokes.length);have c15:W2.cell? ⟨p0,15,none⟩=some (.slice sa m sc):=by rw[<-hm.out];exact Z6 L0.out.e1 15 _ rfl
 rw[hm.out]at RI hl;go_wp2_with fail;refine(Z19 sa m sc n.strokes W2 (by omega) RI.out).mono ?_;rintro e W3 ⟨ta,tc,rfl,ho,b3⟩;have L3:=zH (L0.out.below b3);have O3:=zH (Zv ho (show p0<=W2.heap.size by have:=Zi L0.out.e1;omega));clear ho b3 c15;have c15:=Z6 L3.out.e1 15 _ rfl;have f15:=Zp L3.out.e1 15;have T3:=zH (Zq O3.out L3.out.e1 (fun cur h=>by simp at h));have G3:=Zl W3 p0 15 (.slice ta m tc);have E3:Hid ((W3.setCell ⟨p0,15,none⟩ (.slice ta m tc)).heap[p0]? = some (.cells (Z5 n ta tc) 47)):=zH (by
  have:=ZK L3.out.e1 15 (.slice ta m tc);rw[<-hm.out,Z4V]at this;rw[<-hm.out];exact this)
 have E4:Hid ((W3.setCell ⟨p0,15,none⟩ (.slice ta m tc)).heap[p1]? = some (.cells (Z5 Zg none 0) 47)):=zH (Zc G3 L3.out.e2 (fun e=>by have:=L3.out.lt;have e2:=Option.some.inj e;omega));go_upto_region 2 with fail;have B3:Hid (Below p0 w (W3.setCell ⟨p0,15,none⟩ (.slice ta m tc))):=zH (L3.out.b.grown G3 (by have:=Zi L3.out.e1;omega) (fun q hq=>by cases hq;exact Nat.le_refl _));have U3:=zH (Zq O3.out L3.out.e2 (fun cur h=>by simp at h));have O4:=zH (Ze (S:=fun k=>k=p0) O3.out (Zb.of_grown G3 (fun k e=>by cases e;rfl)) (fun b hb e=>T3.out (by rw[hb,e])));have hlt:=L3.out.lt;clear c15 f15 G3;generalize W3.setCell ⟨p0,15,none⟩ (.slice ta m tc)=W4 at *;have oneN:=Zm n ta tc;go_wp2_with (first
  |(refine zL p0 E3.out ?_)
  |(refine zN p1 (Z5 n ta tc) E4.out ?_))
 go_wp2_with fail;have hr:=Ys W4 p1 _ (Z5 n ta tc) _ _ E4.out;refine bodyPost_ret (results_cell_row rfl _ _ p1 47 (Z5 n ta tc) (0,0) _ rfl hr Tryz.underlying47 rfl (I43.out _ _ _)) rfl ?_;have G4:=Yz W4 p1 (Z5 n ta tc);have hp1:p1 < W4.heap.size:=Zi E4.out;refine⟨ta,tc,rfl,?_,?_⟩
 ·rw[HP0.out,hm.out];exact Ze (S:=fun k=>k=p1) O4.out (Zb.of_grown G4 (fun k e=>by cases e;rfl)) (fun b hb e=>U3.out (by rw[hb,e]))
 ·rw[HP0.out];exact B3.out.grown G4 (by omega) (fun q hq=>by cases hq;omega)
end
theorem Z1B (x m y k:Int)(w:World):Calls zq 120 #[.agg #[.int .i64 x,.int .i64 m],.agg #[.int .i64 y,.int .i64 k]] w fun e w'=>e = .returned (.int .i64 (YA x m y k))/\Vj w.heap.size w w':=by
 have g1:=Z9 _ (.cells (#[.int .i64 y,.int .i64 k]) 45) _ _ (Za w (.cells (#[.int .i64 x,.int .i64 m]) 45));have g2:=Zw (w.alloc (.cells (#[.int .i64 x,.int .i64 m]) 45)) (.cells (#[.int .i64 y,.int .i64 k]) 45) (w.heap.size+1) (by simp);have bb:Vj w.heap.size w ((w.alloc (.cells (#[.int .i64 x,.int .i64 m]) 45)).alloc (.cells (#[.int .i64 y,.int .i64 k]) 45)):=((Vj.refl _ _).alloc (Nat.le_refl _) _).alloc (by simp) _;have T0:Hid (Z4j w ((w.alloc (.cells (#[.int .i64 x,.int .i64 m]) 45)).alloc (.cells (#[.int .i64 y,.int .i64 k]) 45)) w.heap.size (w.heap.size+1) (#[.int .i64 x,.int .i64 m]) (#[.int .i64 y,.int .i64 k]) 45):=zH ⟨g1,g2,bb,by omega⟩;clear g1 g2 bb;go_enter Tryz.func120,Tryz.ntmps120;go_upto_region 1 with fail;generalize (w.alloc (.cells (#[.int .i64 x,.int .i64 m]) 45)).alloc (.cells (#[.int .i64 y,.int .i64 k]) 45)=W0 at *;obtain⟨p,hp⟩:=zX (w.heap.size);obtain⟨q,hq⟩:=zX (w.heap.size+1);rw[hq.out,hp.out]at T0;rw[hq.out,hp.out];have T1:=zH (T0.out.below (Vj.refl W0.heap.size W0).drew);refine wp_region_noPanic ?_;refine wp_region_held_drew (S:=fun w'=>Z4j w w' p q (#[.int .i64 x,.int .i64 m]) (#[.int .i64 y,.int .i64 k]) 45) (by kernel_rfl) T1.out (fun hh=>?_);refine zS 0 rfl (.pointer (some ⟨p,0,none⟩)) (fun W _=>by go_simp) ?_;refine zS 1 rfl (.int .i64 x) (fun W h=>by have hc:=Z6 h.e1 0 (.int .i64 x) rfl;go_simp) ?_;refine zS 2 rfl (.pointer (some ⟨q,0,none⟩)) (fun W _=>by go_simp) ?_;refine zS 3 rfl (.int .i64 y) (fun W h=>by have hc:=Z6 h.e2 0 (.int .i64 y) rfl;go_simp) ?_;refine zS 5 rfl (.pointer (some ⟨p,1,none⟩)) (fun W _=>by go_simp) ?_;refine zS 6 rfl (.int .i64 m) (fun W h=>by have hc:=Z6 h.e1 1 (.int .i64 m) rfl;go_simp) ?_;refine zS 7 rfl (.pointer (some ⟨q,1,none⟩)) (fun W _=>by go_simp) ?_;refine zS 8 rfl (.int .i64 k) (fun W h=>by have hc:=Z6 h.e2 1 (.int .i64 k) rfl;go_simp) ?_;refine zR 4 rfl fun K hK=>?_;go_simp;go_at_call 173;refine(Xz x y _).mono ?_;rintro e w1 ⟨rfl,rfl⟩;dsimp only;refine zK hK T1.out fun hh=>?_
 clear hK K;refine zR 9 rfl fun K hK=>?_;go_simp;go_at_call 173;refine(Xz m k _).mono ?_;rintro e w1 ⟨rfl,rfl⟩;dsimp only;refine zK hK T1.out fun hh=>?_;clear hK K;refine zR 10 rfl fun K hK=>?_;go_simp;have TB:=zH (T1.out.below ((Vj.refl W0.drew.heap.size W0.drew).alloc (Nat.le_refl _) (.cells #[.int .i64 (Yn x y),.int .i64 (Yn m k)] 3)));refine zK hK TB.out fun hh=>?_;clear hK K;refine zR 11 rfl fun K hK=>?_;go_simp;go_at_call 172;refine(Z1U W0.drew.heap.size (Yn x y) (Yn m k) _ (Za W0.drew _)).mono ?_;rintro e w1 ⟨rfl,rfl⟩;dsimp only;refine zK hK TB.out fun hh=>?_;clear hK K;refine zS 12 rfl (.int .i64 (orI (Yn x y) (Yn m k))) (fun W _=>by go_simp) ?_;have TE:=TB;refine zE ?_;change Exit.then _ _ Exit.normal { tmps := #[.agg #[.int .i64 x,.int .i64 m],.agg #[.int .i64 y,.int .i64 k],.pointer (some ⟨p,0,none⟩),.pointer (some ⟨q,0,none⟩),.int .i64 (orI (Yn x y) (Yn m k)),.pointer (some ⟨p,0,none⟩),.int .i64 x,.pointer (some ⟨q,0,none⟩),.int .i64 y,.int .i64 (Yn x y),.pointer (some ⟨p,1,none⟩),.int .i64 m,.pointer (some ⟨q,1,none⟩),.int .i64 k,.int .i64 (Yn m k),.slice (some ⟨W0.drew.heap.size,0,none⟩) 2 2,.int .i64 (orI (Yn x y) (Yn m k))],defers:=[] } _;go_wp2;go_ret;exact⟨rfl,by rw[hp.out];exact TE.out.b⟩
theorem Z9k (args:ZW)(w:World):(callFunc 120 args).run zq w = .ok (.enter 120 args) w:=by kernel_rfl
theorem ZcT (x y:Nm)(w:World):Calls zq 120 #[.agg (U9 x).toArray,.agg (U9 y).toArray] w fun e w'=>e = .returned (.int .i64 (YA x.1 x.2 y.1 y.2))/\Vj w.heap.size w w':=
 Z1B x.1 x.2 y.1 y.2 w
section
attribute [local go_sem] Oper.semAt_some
theorem Z9w (m:Nat)(Wb:World)(p pB b n:Nat)(f:Nm->Option LN)(hpB:Wb.heap[pB]? = some (.cells #[.map (some b)] 106))(hne:pB≠p)(hmap:Yd LN.val Wb b n f)(hbp:b≠p)
  (rec:LoopState->Option Code->Loop) (W1:World) (h0:UJ Wb p [] W1) (hl:ZG rec Wb.heap.size .ready none W1)
  (hY : ∀(s:KSt) W,KAt Wb p b n f (s.1 ++ [s.2.1]) s.1 s.2.2.1 s.2.2.2 W->ZG rec Wb.heap.size .ready none W->YieldAt Fence.wide (m - 1) zq (Wb.heap.size+1) #[.agg #[.int .i64 s.2.1.1,.int .i64 s.2.1.2]] W fun e W'=>
    e = .returned (.bool true)/\KAt Wb p b n f (s.1 ++ [s.2.1]) (s.1 ++ [s.2.1]) s.2.2.1 s.2.2.2 W'/\ZG rec Wb.heap.size .ready none W'):
  CallsIn Fence.wide m zq 171 #[.func (.yield (Wb.heap.size+1)) #[] #[],.pointer (some ⟨pB,0,none⟩)] W1 fun e W'=>
    (∃v,e = .returned v)/\(∃ks,UJ Wb p ks W'/\XW f ks/\ks.Nodup/\(∀k∈ks,(f k).isSome=true)/\ks.length<=n)/\ZG rec Wb.heap.size .ready none W':=by
 have HY:=zH hY;clear hY;have M1:=zH (hmap.of_block (h0.same.block b hmap.lt hbp));have hlc:=Z6 ((h0.same.block pB (Zi hpB) hne).trans hpB) 0 (.map (some b)) rfl;have R0:=zH h0;clear h0;have L0:=zH hl;clear hl;clear hpB hne hmap hbp;refine callsIn_of_wp Tryz.func171 rfl trivial ?_;simp only[Tryz.ntmps171,List.size_toArray,List.length_cons,List.length_nil,Nat.reduceAdd,Nat.reduceSub,Array.replicate_succ,Array.replicate_zero,List.push_toArray,List.append_toArray,List.nil_append,List.cons_append];gi_wp2_with (first
  |(gi_at_range;refine U2 _ rfl _ 106 47 rfl Tryz.underlying106 b n rfl M1.out ?_;intro w0 cnt0 hrg0 hg0 hs0)
  | gi_in)
 go_frame;obtain⟨r,hr⟩:=zX (W1.heap.size);have b0:Below W1.heap.size W1 w0:=(Below.refl _ _).grown hg0 (Nat.le_refl _) (fun q hq=>by cases hq);have S0:Hid (KAt Wb p b n f [] [] r cnt0 w0):=zH ⟨R0.out.below b0,by rw[<-hr.out];exact hrg0,by rw[<-hr.out];exact R0.out.same.size,fun k hk=>by cases hk⟩;have LL0:=zH (L0.out.of_below b0);rw[hr.out];clear hrg0 hg0 hs0 b0 hlc M1 R0 L0;gi_loopw [3] (fun _ wr=>∃(ks:List Nm) (cnt:Nat),Hid (KAt Wb p b n f ks ks r cnt wr)/\Hid (ZG rec Wb.heap.size .ready none wr)) (fun _ wr=>wr.rangeLeft b r)
 case atStart=>exact⟨[],cnt0,S0,LL0⟩
 case round=>
  obtain⟨ks,cnt,HS,HL⟩:=hrel;gi_wp2_with (first
   |(gi_at_next;refine Ut _ rfl _ rfl b r n cnt ks rfl HS.out.2.1 ?_ ?_)
   | gi_in)
  ·intro hall;have HALL:=zH hall;clear hall;gi_wp2;go_end0;exact⟨⟨_,rfl⟩,⟨ks,HS.out.1,HALL.out,HS.out.2.1.nodup,HS.out.2.2.2,by have:=HS.out.2.1.count;omega⟩,HL.out⟩
  ·intro kh km y w2 cnt2 HN hen;obtain⟨bb,since,seen,c0,hrb⟩:=HS.out.2.1.blk;have np2:=HS.out.1.turn hrb (fun _ _ _=>by simp) HN.out.grown HS.out.2.2.1;have bn:Below w2.heap.size w2 (w2.alloc (.cells #[.int .i64 kh,.int .i64 km] 45)):=zB _ _;have L3:=zH ((HL.out.turn hrb (fun _=>by simp) (fun _=>by simp) HN.out.grown).of_below bn);have K3:Hid (KAt Wb p b n f (ks ++ [(kh,km)]) ks r cnt2 (w2.alloc (.cells #[.int .i64 kh,.int .i64 km] 45))):=zH ⟨np2.below bn,HN.out.range.below bn,HS.out.2.2.1,fun k hk=>by
    rcases List.mem_append.1 hk with hk | hk
    ·exact HS.out.2.2.2 k hk
    ·rw[List.mem_singleton.1 hk,HN.out.at_];rfl⟩
   have HM:=zH (show wr.rangeLeft b r=cnt from HS.out.2.1.left_eq);have HLT:=zH HN.out.lt;clear np2 bn HS HL HN hrb;unfold LN.val at hen;obtain⟨fn,tmps,assign,body,hy,hRo⟩:=HY.out (ks,(kh,km),r,cnt2) _ K3.out L3.out;dsimp only at hy;gi_wp2;refine⟨fun h=>by simp[Fence.wide]at h,?_⟩;refine hRo.mono ?_;rintro e W6 ⟨rfl,hK6,hL6⟩;have HK6:=zH hK6;have HL6:=zH hL6;clear hRo hy hK6 hL6 hen;gi_wp2;go_roundw
   case rel=>exact⟨_,cnt2,HK6,HL6⟩
   case measure=>rw[HK6.out.2.1.left_eq,HM.out];exact HLT.out
theorem Z4F (pB b n:Nat)(f:Nm->Option LN)(w:World)(hpB:w.heap[pB]? = some (.cells #[.map (some b)] 106))(hmap:Yd LN.val w b n f)(hn:n<=1000):
  Calls zq 203 #[.slice none 0 0,.func (.func 171) #[] #[.pointer (some ⟨pB,0,none⟩)]] w fun e w'=>
   (∃a' c' ks,e = .returned (.slice a' ks.length c')/\w'.ownsRow w.heap.size 45 2 (.slice a' ks.length c') ks.length (ZH ks)/\XW f ks/\ks.Nodup/\(∀k∈ks,(f k).isSome=true)/\ks.length<=n)/\Below w.heap.size w w':=by
 have HLEN:=zH hn;clear hn;have B0:=zH (zB w (.cells #[.slice none 0 0] 75));have P0:=zH (Za w (.cells #[.slice none 0 0] 75));have HB:=zH (Z7 B0.out hpB);have HM:=zH (hmap.below B0.out);have NE:Hid (pB≠w.heap.size/\b≠w.heap.size):=zH (by have:=Zi hpB;have:=hmap.lt;omega);clear hpB hmap;refine(callsIn_wide (n:=4)).1 ?_;refine callsIn_of_wp_marks Tryz.func203 rfl trivial ?_;simp only[Tryz.ntmps203,List.size_toArray,List.length_cons,List.length_nil,Nat.reduceAdd,Nat.reduceSub,Array.replicate_succ,Array.replicate_zero,List.push_toArray,List.append_toArray,List.nil_append,List.cons_append];refine wpIn_wide.2 ?_;go_upto_region 1 with fail;obtain⟨p,hp⟩:=zX (w.heap.size);rw[hp.out]at P0 NE ⊢;generalize w.alloc (.cells #[.slice none 0 0] 75)=w3 at *;go_wp2_with fail;refine(wpIn_wide (n:=4)).1 ?_;refine Ug (n:=3) (σ:=KSt) (w:=w3) (gf:=171) (lb := #[.pointer (some ⟨pB,0,none⟩)]) rfl (enters_of Tryz.func171 (by kernel_rfl) rfl)
  (fun s=>#[.agg #[.int .i64 s.2.1.1,.int .i64 s.2.1.2]]) (fun _=>rfl) (fun s W=>KAt w3 p b n f (s.1 ++ [s.2.1]) s.1 s.2.2.1 s.2.2.2 W) (fun s W=>KAt w3 p b n f (s.1 ++ [s.2.1]) (s.1 ++ [s.2.1]) s.2.2.1 s.2.2.2 W)
  (fun s a₁ W=>∃pX,a₁ = { tmps := #[.slice none 0 0,.func (.func 171) #[] #[.pointer (some ⟨pB,0,none⟩)],.pointer (some ⟨p,0,none⟩),undef,.slice none 0 0,.pointer (some ⟨pX,0,none⟩),.func (.func 171) #[] #[.pointer (some ⟨pB,0,none⟩)],.agg #[.int .i64 s.2.1.1,.int .i64 s.2.1.2],undef,undef,undef,undef,undef],defers:=[] } /\ W.heap[pX]? = some (.cells #[.int .i64 s.2.1.1,.int .i64 s.2.1.2] 45)/\KAt w3 p b n f (s.1 ++ [s.2.1]) s.1 s.2.2.1 s.2.2.2 W)
  (fun W=>∃ks,UJ w3 p ks W/\XW f ks/\ks.Nodup/\(∀k∈ks,(f k).isSome=true)/\ks.length<=n) ?hA' ?hB ?hD ?assign ?body ?iter ?done
 case hA'=>
  rintro s a₁ W o ⟨pX,rfl,h1,h2,h3,h4⟩ ⟨r,hr⟩;refine⟨pX,rfl,(World.putObj_heap_other (fun e=>?_)).trans h1,h2.putObj o ⟨r,hr⟩,h3.turn (grownBy_putObj' W _ _) (fun q e=>by cases e;exact⟨_,hr,by simp,by simp⟩),h4⟩;rw[e,hr]at h1;simp at h1
 case hB=>
  rintro s W o ⟨h2,h3,h4⟩ ⟨r,hr⟩;exact⟨h2.putObj o ⟨r,hr⟩,h3.turn (grownBy_putObj' W _ _) (fun q e=>by cases e;exact⟨_,hr,by simp,by simp⟩),h4⟩
 case hD=>
  rintro W o ⟨ks,h,h2⟩ hl;exact⟨ks,h.putObj o hl,h2⟩
 case assign=>
  rintro⟨ks,k,r,cnt⟩ W h1;have H1:=zH h1;clear h1;dsimp only;have hb5:Below W.heap.size W (W.alloc (.cells #[.int .i64 k.1,.int .i64 k.2] 45)):=zB W _;have HG:=zH (show KeepsFrom w3.heap.size W (W.alloc (.cells #[.int .i64 k.1,.int .i64 k.2] 45))/\(W.alloc (.cells #[.int .i64 k.1,.int .i64 k.2] 45)).heap[W.heap.size]? = some (.cells #[.int .i64 k.1,.int .i64 k.2] 45)/\KAt w3 p b n f (ks ++ [k]) ks r cnt (W.alloc (.cells #[.int .i64 k.1,.int .i64 k.2] 45))from
   ⟨(Jr hb5).from _,Za W _,H1.out.1.below hb5,H1.out.2.1.below hb5,H1.out.2.2⟩)
  clear hb5 H1;have hf : ∀t:ZW,(#[7].zip #[Value.agg #[.int .i64 k.1,.int .i64 k.2]]).foldl (fun t (p,v)=>t.setIfInBounds p v) t=t.setIfInBounds 7 (.agg #[.int .i64 k.1,.int .i64 k.2]):=fun t=>by simp
  rw[hf];simp only[List.setIfInBounds_toArray,List.set_cons_succ,List.set_cons_zero];clear hf;refine Yy (JX _) (VD (fun a w h=>h)) ?hnd ?_
  case hnd=>rfl
  go_wp2_with fail;exact⟨HG.out.1,W.heap.size,rfl,HG.out.2⟩
 case body=>
  rintro⟨ks,k,r,cnt⟩ a₁ W ⟨pX,rfl,hX,h1⟩;have HX:=zH hX;have H1:=zH (show KAt w3 p b n f (ks ++ [k]) ks r cnt W from h1);clear hX h1;dsimp only;have HKL:Hid (ks.length<=1000):=zH (by have h1:=H1.out.2.1.count;have:=HLEN.out;rw[List.length_append]at h1;omega);obtain⟨⟨ea,ec,hblk,how⟩,hsm⟩:=H1.out.1;have bn:Below W.heap.size W (W.alloc (.cells #[.int .i64 k.1,.int .i64 k.2] 45)):=zB _ _;obtain⟨a',c',v9,hrun,ho9,hg9⟩:=XE (W.alloc (.cells #[.int .i64 k.1,.int .i64 k.2] 45)) w3.heap.size ea ks.length ec _ (Zd how bn) _ 1 1 _ (Vb W _ _) (fun u hu=>by simp only[List.mem_cons,List.not_mem_nil,or_false]at hu;rcases hu with rfl | rfl <;> rfl) (by have:=HKL.out;omega) (Nat.le_trans hsm.size bn.size);have hadd:=UJ.add (hsm.trans (Zb.of_below bn)) (Z7 bn hblk) (Zd how bn) ho9 hg9;have HK:Hid (KeepsFrom w3.heap.size W (v9.setCell ⟨p,0,none⟩ (.slice a' (ks.length+1) c'))):=zH (by
   refine KeepsOthers.from ⟨?_,fun k o hk ho=>?_⟩ _
   ·exact Nat.le_trans bn.size (Nat.le_trans hg9.size (by simp[World.setCell]))
   ·have hk1:=Z7 bn hk;have hk2:=Zc hg9 hk1 (fun e=>by have:=Z0t (Zd how bn) e.symm hk1;rw[this]at ho;cases ho);exact Zc (Zl v9 p 0 _) hk2 (fun e=>by rw[Option.some.inj e,hadd.2]at hk2;cases hk2;cases ho))
  have RA:Y6 LN.val (v9.setCell ⟨p,0,none⟩ (.slice a' (ks.length+1) c')) b r n f (ks ++ [k]) cnt:=by
   have h2:=H1.out.2.1.below bn;have h3:Y6 LN.val v9 b r n f (ks ++ [k]) cnt:=h2.turn hg9 (fun q e=>by
    rcases(Zd how bn).2 with ⟨h4,_⟩ | ⟨g,cap,cur,h4,_,h5,_⟩
    ·rw[h4]at e;cases e
    ·rw[h4]at e;cases e;exact⟨_,h5,by simp,by simp⟩)
   exact h3.turn (Zl v9 p 0 _) (fun q e=>by cases e;exact⟨_,hadd.2,by simp,by simp⟩)
  have HA:=zH (show KAt w3 p b n f (ks ++ [k]) (ks ++ [k]) r cnt (v9.setCell ⟨p,0,none⟩ (.slice a' (ks.length+1) c'))from⟨hadd.1,RA,H1.out.2.2⟩);have hcl:=Z6 hblk 0 (.slice ea ks.length ec) rfl;have hx0:=Z6 HX.out 0 (.int .i64 k.1) rfl;have hx1:=Z6 HX.out 1 (.int .i64 k.2) rfl;have hcl3:=Z6 hadd.2 0 (.slice ea ks.length ec) rfl;have hfz:=Zp hadd.2 0;clear hadd how hsm bn ho9 hg9 hblk RA;apply wpIn_block;refine Yy (JX _) (VD (fun a w h=>h)) ?hnd ?_
  case hnd=>rfl
  go_wp2_with (first
   |(refine Ye rfl _ _ _ rfl _ _ _ rfl rfl hrun ?_)
   | fail)
  exact⟨HK.out,HA.out⟩
 case iter=>
  intro rec hlr hY;have hbb:=(zB w3 (.deferred (some []))).alloc (by simp) (.loop (rec .ready none));exact Z9w 3 w3 p pB b n f HB.out NE.out.1 HM.out NE.out.2 rec _ ⟨⟨none,0,Z7 hbb P0.out,World.ownsRow_nil _ _ _ _⟩,Zb.of_below hbb⟩ hlr hY
 case done=>
  rintro W ⟨ks,⟨⟨a',c',hblk,how⟩,hsm⟩,hks⟩ hD0;dsimp only;have HD0:=zH hD0;have HOW:=zH how;have HSM:=zH hsm;have HKS:=zH hks;have hcl:=Z6 hblk 0 (.slice a' ks.length c') rfl;clear hD0 how hsm hblk hks;go_wp2_with fail;have hb:Below w.heap.size w W:=HSM.out.below B0.out B0.out.size (fun k hk=>by have:=hp.out;omega);have hbz:Below w.heap.size w (W.putObj w3.heap.size (.deferred none)):=hb.grown (grownBy_putObj' W _ _) hb.size (fun k e=>by cases e;exact B0.out.size);have hoz:=Zv (ownsRow_putObj HOW.out (.deferred none) HD0.out rfl) B0.out.size;refine⟨by simp,.inl ⟨_,_,rfl,run_takeDeferred HD0.out,?_⟩⟩;exact⟨.slice a' ks.length c',by kernel_rfl,⟨a',c',ks,rfl,hoz,HKS.out⟩,hbz⟩
theorem Z49 (pB b n:Nat)(f:Nm->Option LN)(w:World)(hpB:w.heap[pB]? = some (.cells #[.map (some b)] 106))(hmap:Yd LN.val w b n f)(hn:n<=1000):
  Calls zq 169 #[.func (.func 171) #[] #[.pointer (some ⟨pB,0,none⟩)]] w fun e w'=>
   (∃a' c' ks,e = .returned (.slice a' ks.length c')/\w'.ownsRow w.heap.size 45 2 (.slice a' ks.length c') ks.length (ZH ks)/\XW f ks/\ks.Nodup/\(∀k∈ks,(f k).isSome=true)/\ks.length<=n)/\Below w.heap.size w w':=by
 have HA:=zH (Z4F pB b n f w hpB hmap hn);clear hpB hmap hn;go_enter Tryz.func169,Tryz.ntmps169;go_wp2_with fail;refine HA.out.mono ?_;rintro e w1 ⟨⟨a',c',ks,rfl,h1⟩,h2⟩;have H:=zH (And.intro h1 h2);clear h1 h2;go_wp2;go_ret;exact⟨⟨a',c',ks,rfl,H.out.1⟩,H.out.2⟩
theorem Z4r (pB b n:Nat)(f:Nm->Option LN)(w:World)(hpB:w.heap[pB]? = some (.cells #[.map (some b)] 106))(hmap:Yd LN.val w b n f)(hn:n<=1000):
  Calls zq 118 #[.func (.func 171) #[] #[.pointer (some ⟨pB,0,none⟩)],.func (.func 120) #[] #[]] w fun e w'=>Z4k f n w e w'/\Below w.heap.size w w':=by
 have HA:=zH (Z49 pB b n f w hpB hmap hn);have HN:=zH hn;clear hpB hmap hn;go_enter Tryz.func118,Tryz.ntmps118;go_wp2_with fail;refine HA.out.mono ?_;rintro e w1 ⟨⟨a',c',ks,rfl,h1,h2,h3,h4,h5⟩,hb⟩;have HO:=zH h1;have HAL:=zH h2;have HND:=zH h3;have HIN:=zH h4;have HL:=zH h5;have HB:=zH hb;clear h1 h2 h3 h4 h5 hb;go_wp2_with fail;refine(UP (V:=Nm) Z5E U9 (fun _=>rfl) (fun x v hv=>by simp only[U9,List.mem_cons,List.not_mem_nil,or_false]at hv;rcases hv with rfl | rfl <;> rfl) (fun x y=>YA x.1 x.2 y.1 y.2) (fun _ _=>rfl) 120 Z9k ZcT w.heap.size ks.length c' a' ks _ (by rw[<-Q4];exact HO.out) rfl (by have:=HL.out;have:=HN.out;omega)).mono ?_;rintro e w10 ⟨rfl,zs,hz1,hz2,hz3,hz4⟩;have Z1:=zH hz1;have Z2:=zH hz2;have Z3:=zH hz3;have B2:=zH (hz4.below HB.out HB.out.size (fun k hk=>(HO.out.lt k hk).1));clear hz1 hz2 hz3 hz4;have ZL:Hid (zs.length=ks.length):=zH Z2.out.length_eq;go_wp2;go_ret;exact⟨⟨a',c',zs,by rw[ZL.out] <;> rfl,by rw[Q4,ZL.out];exact Z1.out,fun k hk=>Z2.out.symm.subset (HAL.out k hk),Z4W (Z2.out.nodup_iff.2 HND.out) Z3.out,fun k hk=>HIN.out k (Z2.out.subset hk),by rw[ZL.out];exact HL.out⟩,B2.out⟩
theorem Z9x (b:Nat)(W:World):Calls zq 119 #[.map (some b)] W fun e W'=>e = .returned (.func (.func 171) #[] #[.pointer (some ⟨W.heap.size,0,none⟩)])/\W'=W.alloc (.cells #[.map (some b)] 106):=by
 have hmf : ∀(fn:Fn) (first cap:ZW) (w:World),(Instr.makeFunc fn first cap).run zq w = .ok (.func fn first cap) w:=fun _ _ _ _=>rfl;go_enter Tryz.func119,Tryz.ntmps119;go_wp2;go_ret;exact⟨rfl,rfl⟩
end
theorem Jw (w:World)(p o:Nat)(v:Value):Zb (fun k=>k=p) w (w.setCell ⟨p,o,none⟩ v):=Zb.of_grown (Zl w p o v) (fun k e=>by cases e;rfl)
theorem ZbZ {W:World}{a:zA}{n c:Nat}{l:List Nm}(h:Y3 W 2 a n c (ZH l))(h0:0 < n): ∃b off,a=some ⟨b,off,none⟩ /\ ∀i x,l[i]? = some x->W.cell? ⟨b,off+i * 2,none⟩=some (.int .i64 x.1)/\W.cell? ⟨b,off+i * 2+1,none⟩=some (.int .i64 x.2):=by
 rcases h.2.2.2 with h5 | ⟨b,off,rfl,h4⟩
 ·have:=h.2.1;omega
 ·refine⟨b,off,rfl,fun i x hx=>?_⟩;rw[Q4]at h4;have hf:=fun j hj=>z7 2 (l.map U9) (by intro r hr;obtain⟨y,_,rfl⟩:=List.mem_map.1 hr;rfl) i (U9 x) (by rw[List.getElem?_map,hx];rfl) j hj;have h6:=h4 (i * 2+0) _ ((hf 0 (by omega)).trans rfl);have h7:=h4 (i * 2+1) _ ((hf 1 (by omega)).trans rfl);exact⟨h6,by rwa [<-Nat.add_assoc]at h7⟩
theorem Ua (xs:List LN):(ZF xs).length=xs.length * 19:=by
 rw[ZF,Z1x 19 _ (by intro r hr;obtain⟨e,_,rfl⟩:=List.mem_map.1 hr;rfl),List.length_map]
theorem Z2Z {W:World}{a:zA}{n c:Nat}{xs:List LN}(h:Y3 W 19 a n c (ZF xs))(hs : ∀x∈xs,x.ok W):Qt W a n c (xs.map LN.n):=by
 have hl:xs.length=n:=by have:=h.len;rw[Ua]at this;omega
 refine⟨by rw[List.length_map,hl],h.2.1,h.2.2.1,?_⟩;rcases h.2.2.2 with h0 | ⟨b,off,rfl,h4⟩
 ·exact .inl h0
 ·rcases Nat.eq_zero_or_pos n with hn | hn
  ·refine .inr ⟨b,off,rfl,fun i x hx=>?_⟩;have:xs=[]:=List.eq_nil_of_length_eq_zero (by omega);subst this;simp at hx
  ·obtain⟨b',off',e,hat⟩:=Z6K h hn;cases e;refine .inr ⟨b,off,rfl,fun i x hx=>?_⟩;rw[List.getElem?_map]at hx;cases hy:xs[i]? with
   | none=>simp[hy]at hx
   | some y=>
    simp only[hy,Option.map_some,Option.some.injEq]at hx;subst hx;exact⟨y.sa,y.sc,hat i y hy,hs y (List.mem_of_getElem? hy)⟩
section
variable (s1:zA)(c1:Nat)(s2:zA)(c2:Nat)(s3:zA)(c3:Nat)
end
def Z0S (f:Yg)(l m:List Z8):Nm×Int:=if (Zt f l).1=0/\(Zt f m).1=0 then (match VJ l m with | some a=>(a,0) | none=>((0,0),3))else ((0,0),1)
def Z0F (f:Yg)(l m:List Z8)(e:Ending):Prop:=e = .returned (.tuple #[.agg #[.int .i64 (Z0S f l m).1.1,.int .i64 (Z0S f l m).1.2],.int .i64 (Z0S f l m).2])
theorem Z9P {f:Yg}{l m:List Z8}(h : ¬((Zt f l).1=0/\(Zt f m).1=0)):Z0S f l m=((0,0),1):=by unfold Z0S;rw[if_neg h]
theorem Z40 {f:Yg}{l m:List Z8}(h:(Zt f l).1=0)(h2:(Zt f m).1=0)(h3:VJ l m=none):Z0S f l m=((0,0),3):=by unfold Z0S;rw[if_pos ⟨h,h2⟩,h3]
theorem Z88 {f:Yg}{l m:List Z8}{a:Nm}(h:(Zt f l).1=0)(h2:(Zt f m).1=0)(h3:VJ l m=some a):Z0S f l m=(a,0):=by unfold Z0S;rw[if_pos ⟨h,h2⟩,h3]
structure VZ (V W:World)(a:zA)(c n:Nat)(ys:List LN):Prop where
 bel:Below V.heap.size V W
 own:W.ownsRow V.heap.size 47 19 (.slice a n c) n (ZF ys)
 str:Z0o W V.heap.size ys
 len:ys.length=n
theorem VZ.start (V:World):VZ V V none 0 0 []:=⟨Below.refl _ _,World.ownsRow_nil _ _ _ _,(fun x hx=>by cases hx),rfl⟩
theorem VZ.below {V W W':World}{a:zA}{c n:Nat}{ys:List LN}(h:VZ V W a c n ys)(hb:Below W.heap.size W W'):VZ V W' a c n ys:=⟨h.bel.trans (hb.mono h.bel.size),Zd h.own hb,h.str.below hb,h.len⟩
theorem VZ.add {V W W':World}{a a':zA}{c c' n:Nat}{ys:List LN}{x:LN}(h:VZ V W a c n ys)(hx:W.ownsRow V.heap.size 3 1 (.slice x.sa x.n.strokes.length x.sc) x.n.strokes.length (x.n.strokes.map Yh))
  (ho:W'.ownsRow V.heap.size 47 19 (.slice a' (n+1) c') (n+1) (ZF ys ++ x.n.cells x.sa x.sc)) (hg:(W.alloc (.cells (Z5 x.n x.sa x.sc) 47)).grownBy W' (Value.ownBlock (.slice a n c))):VZ V W' a' c' (n+1) (ys ++ [x]):=by
 have bn:Below W.heap.size W (W.alloc (.cells (Z5 x.n x.sa x.sc) 47)):=zB _ _;have h2:=h.below bn;refine⟨h2.bel.grown hg h2.bel.size (fun k hk=>(h2.own.lt k hk).1),by rw[Qi];exact ho,fun y hy=>?_,by rw[List.length_append,h.len];rfl⟩;have h0:(W.alloc (.cells (Z5 x.n x.sa x.sc) 47)).ownsRow V.heap.size 3 1 (.slice y.sa y.n.strokes.length y.sc) y.n.strokes.length (y.n.strokes.map Yh):=by
  rcases List.mem_append.1 hy with hy | hy
  ·exact h2.str y hy
  ·rw[List.mem_singleton.1 hy];exact Zd hx bn
 exact h0.kept hg (Jz h0 h2.own (by decide))
theorem VZ.rd {V W:World}{a:zA}{c n:Nat}{ys:List LN}(h:VZ V W a c n ys):Qt W a n c (ys.map LN.n):=Z2Z (Y3.of_own h.own) (fun y hy=>Y3.of_own (h.str y hy))
theorem Z2x {α:Type}{enc:α->Value}{f:Nm->Option α}{w:World}{b n:Nat}{t e:TypeId}(hmap:Yd enc w b n f)(ht:zq.underlying t=some (.map 45 e)){z:Value}(hz:(zeroValue e).run zq w = .ok z w)(h m:Int)(hk:Uk (h,m)){y:α}(hy:f (h,m)=some y):
  (Instr.lookup t (.map (some b)) (.agg #[.int .i64 h,.int .i64 m]) false).run zq w = .ok (enc y) w:=by
 obtain⟨D,h1,h2⟩:=hmap;obtain⟨v,ps,h3,h4⟩:=h1.lookup Qf ht hz (zd := .held z) (zp:=[]) rfl (Uz (h,m) hk);rw[h2.val (h,m) y hy]at h4;simp only[Qm,Option.some.injEq,Prod.mk.injEq]at h4;have h5:=h4.1;simp only[DataW.held.injEq]at h5;rw[<-h5];exact h3
theorem Uh {α:Type}{enc:α->Value}{f:Nm->Option α}{w:World}{ops:Array Oper}{rest:List Oper}{o:Oper}{a:Act}{Q:Exit->Act->World->Prop}(hg:o.guard=none)(m:Operand)(t e:TypeId)(hop:o.op=Op.call { callee:=Callee.builtin Builtin.len,args := #[m],argTypes := #[t] })(ht:zq.underlying t=some (.map 45 e))(b n:Nat)
  (hm:a.eval m = .map (some b)) (hmap:Yd enc w b n f) (hK : ∀k:Nat,k<=n->wpList zq ops Q rest (a.put o.dst (.int .i64 (k:Int))) w):wpList zq ops Q (o :: rest) a w:=by
 obtain⟨D,h1,h2⟩:=hmap;exact wpList_len_own w hg m t hop 45 e ht Qm b n D hm h1 (hK _ h1.size_le)
section
variable {w wr W':World}{bd bs r nd n:Nat}{f g:Nm->Option LN}{kr ks:List Nm}{cnt:Nat}
end
structure Z1G (w W:World)(l:List Z8)(b:Nat)(xs:List LN):Prop where
 eq:xs.map LN.n=l
 ok : ∀x∈xs,x.ok W
 map:Yd LN.val W b l.length (Yt xs)
 ge:w.heap.size<=b
theorem Z1G.below {w W W':World}{l:List Z8}{b:Nat}{xs:List LN}(h:Z1G w W l b xs)(hb:Below W.heap.size W W'):Z1G w W' l b xs:=⟨h.eq,fun x hx=>(h.ok x hx).below hb,h.map.below hb,h.ge⟩
def ZcB (f:Yg)(l m:List Z8)(w:World)(e:Ending)(W:World):Prop:=
 (¬((Zt f l).1=0/\(Zt f m).1=0) /\ ∃o1 o2,e = .returned (.tuple #[.map o1,.map o2,.bool false])) \/
 ((Zt f l).1=0/\(Zt f m).1=0 /\ ∃b xs c ys,e = .returned (.tuple #[.map (some b),.map (some c),.bool true])/\Z1G w W l b xs/\Z1G w W m c ys/\b≠c)
theorem ZbJ (f:Yg)(a:zA)(nn nc:Nat)(l:List Z8)(ma:zA)(mn mc:Nat)(m:List Z8)(w:World)(hr:Qt w a nn nc l)(hok : ∀x∈l,x.Ok)(hm:Qt w ma mn mc m)(hokm : ∀x∈m,x.Ok):
  Calls zq 62 #[f.val,.slice a nn nc,.slice ma mn mc] w fun e w'=>ZcB f l m w e w'/\Below w.heap.size w w':=by
 have S1:=zH (fun W hb=>Z1R f a nn nc l W (hr.below (show Below w.heap.size w W from hb)) hok);have S2:=zH (fun W hb=>Z1R f ma mn mc m W (hm.below (show Below w.heap.size w W from hb)) hokm);clear hr hok hm hokm;have hvl:f.val = .agg #[.int .i64 f.rings,.int .i64 f.sectors,.int .i64 f.wide]:=rfl;rw[hvl]at S1 S2 ⊢;clear hvl;have B0:=zH (zB w (zF f 23));have F0:=zH (Za w (zF f 23));go_enter Tryz.func62,Tryz.ntmps62;go_upto_region 1 with fail;obtain⟨pF,hpF⟩:=zX (w.heap.size);rw[hpF.out]at F0 ⊢;generalize w.alloc (zF f 23)=w0 at *;have f0:=Z6 F0.out 0 (.int .i64 f.rings) rfl;have f1:=Z6 F0.out 1 (.int .i64 f.sectors) rfl;have f2:=Z6 F0.out 2 (.int .i64 f.wide) rfl;go_wp2_with fail;refine(S1.out w0 B0.out).mono ?_;clear f0 f1 f2;rintro e w1 ⟨h1,hb1⟩;have B1:=zH (B0.out.trans (hb1.mono B0.out.size));have F1:=zH (Z7 hb1 F0.out);clear hb1 F0;have f0:=Z6 F1.out 0 (.int .i64 f.rings) rfl;have f1:=Z6 F1.out 1 (.int .i64 f.sectors) rfl;have f2:=Z6 F1.out 2 (.int .i64 f.wide) rfl;rcases h1 with ⟨hbad,rfl⟩ | ⟨hset,xs,b,rfl,h2,h3,h4,h5⟩
 ·have BAD:=zH hbad;clear hbad;go_wp2_with fail;refine(S2.out w1 B1.out).mono ?_;clear f0 f1 f2;rintro e w2 ⟨h1,hb2⟩;have B2:=zH (B1.out.trans (hb2.mono B1.out.size));clear hb2;rcases h1 with ⟨_,rfl⟩ | ⟨_,ys,c,rfl,_,_,_,_⟩
  ·go_wp2_with fail;go_returns;exact⟨.inl ⟨fun h=>BAD.out h.1,none,none,rfl⟩,B2.out⟩
  ·go_wp2_with fail;go_returns;exact⟨.inl ⟨fun h=>BAD.out h.1,none,some c,rfl⟩,B2.out⟩
 ·have SA:=zH (show Z1G w w1 l b xs from⟨h2,h3,h4,Nat.le_trans B0.out.size h5⟩);have HS:=zH hset;clear hset h2 h3 h4 h5;go_wp2_with fail;refine(S2.out w1 B1.out).mono ?_;clear f0 f1 f2;rintro e w2 ⟨h1,hb2⟩;have B2:=zH (B1.out.trans (hb2.mono B1.out.size));have SA2:=zH (SA.out.below hb2);clear hb2;rcases h1 with ⟨hbad,rfl⟩ | ⟨hset,ys,c,rfl,h2,h3,h4,h5⟩
  ·have BAD:=zH hbad;clear hbad;go_wp2_with fail;go_returns;exact⟨.inl ⟨fun h=>BAD.out h.2,some b,none,rfl⟩,B2.out⟩
  ·have HS2:=zH hset;have SB:=zH (show Z1G w w2 m c ys from⟨h2,h3,h4,Nat.le_trans B1.out.size h5⟩);have NE:Hid (b≠c):=zH (by have:=SA.out.map.lt;omega);clear hset h2 h3 h4 h5;go_wp2_with fail;go_returns;exact⟨.inr ⟨HS.out,HS2.out,b,xs,c,ys,rfl,SA2.out,SB.out,NE.out⟩,B2.out⟩
def Z0d (l m:List Z8):Nm×Bool:=match VJ l m with | some a=>(a,true) | none=>((0,0),false)
theorem Z12 {W:World}{a:zA}{n c:Nat}{l:List Nm}(h:Y3 W 2 a n c (ZH l)){q:Nat}{k:Nm}(hk:l[q]? = some k): ∃b off,a=some ⟨b,off,none⟩/\W.cell? ⟨b,off+q * 2,none⟩=some (.int .i64 k.1)/\W.cell? ⟨b,off+q * 2+1,none⟩=some (.int .i64 k.2):=by
 have hl:l.length=n:=by have:=h.len;rw[Xw]at this;omega
 have hq:=(List.getElem?_eq_some_iff.1 hk).1;obtain⟨b,off,rfl,hat⟩:=ZbZ h (by omega);exact⟨b,off,rfl,hat q k hk⟩
theorem Zbg (b c:Nat)(l m:List Z8)(xs ys:List LN)(w0 w:World)(ha:Z1G w0 w l b xs)(hb:Z1G w0 w m c ys)(hp:l.Pairwise ltN)(hd:(m.map Zn).Nodup)(hokl : ∀x∈l,x.Ok)(h4:l.length<=1000):
  Calls zq 63 #[.map (some b),.map (some c)] w fun e w'=>e = .returned (.tuple #[.agg #[.int .i64 (Z0d l m).1.1,.int .i64 (Z0d l m).1.2],.bool (Z0d l m).2])/\Below w.heap.size w w':=by
 have I2:=zH (show ∀(x y:Value),(zq.info? 45).map (·.size)=some (#[x,y]:ZW).size from fun x y=>by kernel_rfl);have J2:(zq.info? 45).map (·.size)=some 2:=by kernel_rfl
 have SA:=zH ha;have SB:=zH hb;have HP:=zH hp;have HD:=zH hd;have HOK:=zH hokl;have H4:=zH h4;have NDL:Hid (((xs.map LN.n).map Zn).Nodup):=zH (by rw[SA.out.eq];exact XQ HP.out);have NDM:Hid (((ys.map LN.n).map Zn).Nodup):=zH (by rw[SB.out.eq];exact HD.out);clear ha hb hp hd hokl h4;have B0:=zH (zB w (.cells #[.int .i64 0,.int .i64 0] 45));have P0:=zH (Za w (.cells #[.int .i64 0,.int .i64 0] 45));have SZ:Hid (w.heap.size<=w.heap.size):=zH (Nat.le_refl _);go_enter Tryz.func63,Tryz.ntmps63;go_upto_region 1 with fail;obtain⟨p4,hp4⟩:=zX (w.heap.size);replace SZ:Hid (w.heap.size<=p4):=zH (by rw[hp4.out];exact Nat.le_refl _);rw[hp4.out]at P0;rw[hp4.out];generalize w.alloc (.cells #[.int .i64 0,.int .i64 0] 45)=W0 at *;go_wp2_with fail;refine(Z9m b l.length (Yt xs) W0 (SA.out.map.below B0.out) H4.out).mono ?_;rintro e W1 ⟨⟨na,nc,ks,rfl,h1,h2,h3,h4,h5⟩,b1⟩;have B1:=zH (B0.out.trans (b1.mono B0.out.size));have P1:=zH (Z7 b1 P0.out);have RN:=zH (Y3.of_own h1);have KE:Hid (ks=l.map Zn):=zH (by
  have:=ZaN (xs:=xs) (by rw[SA.out.eq];exact HP.out) h2 h4 h3;rwa [SA.out.eq]at this)
 have KL:Hid (ks.length=l.length):=zH (by rw[KE.out,List.length_map]);obtain⟨kn,hkn⟩:=zX (ks.length);rw[hkn.out]at RN KL ⊢;clear b1 h1 h2 h3 h4 h5 B0 P0;have HK4:Hid (kn<=1000):=zH (by have:=H4.out;have:=KL.out;omega);go_wp2_with fail;go_loopw [13] (fun i wr=>∃(q:Nat),i = .int .i64 (q:Int)/\q<=kn/\Hid (∀j y,j < q->l[j]? = some y->Z2o m y=false)/\Hid (Below W1.heap.size W1 wr)) (fun i _=>kn - (intOf i).toNat)
 case atStart=>exact⟨0,rfl,Nat.zero_le _,zH (fun j y h=>by omega),zH (Below.refl _ _)⟩
 case round=>
  obtain⟨q,rfl,hq,HA,BB⟩:=hrel;have BW:=zH (B1.out.trans (BB.out.mono B1.out.size));by_cases hlt:q < kn
  ·have t0:decide ((q:Int) < (kn:Int))=true:=by simp;omega
   obtain⟨xn,Hx⟩ : ∃xn,l[q]? = some xn:=⟨_,List.getElem?_eq_getElem (by rw[<-KL.out];exact hlt)⟩;obtain⟨x,hxm,hxn⟩ : ∃x∈xs,x.n=xn:=by
    have h1:=List.mem_of_getElem? Hx;rw[<-SA.out.eq]at h1;obtain⟨x,h2,h3⟩:=List.mem_map.1 h1;exact⟨x,h2,h3⟩
   subst hxn;have HLX:=zH Hx;have GX:Hid (Yt xs (x.n.house,x.n.num)=some x):=zH (Ja NDL.out hxm);have XOK:=zH (SA.out.ok x hxm);have NOK:Hid (Uk (x.n.house,x.n.num)):=zH (by have:=HOK.out x.n (List.mem_of_getElem? Hx);exact⟨this.house,this.num⟩);obtain⟨kb,koff,rfl,hk1,hk2⟩:=Z12 (RN.out.below BB.out) (show ks[q]? = some (x.n.house,x.n.num)by rw[KE.out,List.getElem?_map,Hx];rfl);obtain⟨o,ho⟩:=zX (koff+q * 2);rw[ho.out]at hk1 hk2;have hix:=fun W=>Yk (W:=W) (c:=nc) (b:=kb) Tryz.underlying75 J2 hlt ho.out;have HK64:Hid ((q:Int)+1<=9223372036854775807):=zH (by have:=HK4.out;omega);clear Hx hxm;go_upto_region 4 with fail;clear t0 hix hk1 hk2;have bt:Below wr.heap.size wr (wr.alloc (.cells #[.int .i64 x.n.house,.int .i64 x.n.num] 45)):=zB _ _;have P7:=zH (Za wr (.cells #[.int .i64 x.n.house,.int .i64 x.n.num] 45));have BW2:=zH (BW.out.trans (bt.mono BW.out.size));have BB2:=zH (BB.out.trans (bt.mono BB.out.size));obtain⟨p7,hp7⟩:=zX (wr.heap.size);rw[hp7.out]at P7 ⊢;generalize wr.alloc (.cells #[.int .i64 x.n.house,.int .i64 x.n.num] 45)=wt at *;clear bt BW BB;have MY:=zH (SB.out.map.below BW2.out);have MX:=zH (SA.out.map.below BW2.out);have n0:=Z6 P7.out 0 (.int .i64 x.n.house) rfl;have n1:=Z6 P7.out 1 (.int .i64 x.n.num) rfl;cases hfr:Yt ys (x.n.house,x.n.num)with
   | none=>
    have hget:(Instr.lookup 119 (.map (some c)) (.agg #[.int .i64 x.n.house,.int .i64 x.n.num]) true).run zq wt = .ok (.tuple #[.agg (Z5 Zg none 0),.bool false]) wt:=by
     have:=XC (t:=119) MY.out Tryz.underlying119 (Xh wt) x.n.house x.n.num NOK.out;rw[hfr]at this;exact this
    have BAD:Hid (Z2o m x.n=false):=zH (Zcp (fun y hy e=>by
     rw[<-SB.out.eq]at hy;obtain⟨z,hz,rfl⟩:=List.mem_map.1 hy;have h1:=Ja NDM.out hz;rw[show z.nm=(x.n.house,x.n.num)from e,hfr]at h1;cases h1))
    clear hfr;go_upto_region 5 with (first
     |(refine zP wt wt.heap.size (Z5 Zg none 0) ?_))
    have bt:Below wt.heap.size wt (wt.alloc (.cells (Z5 Zg none 0) 47)):=zB _ _;have BB3:=zH (BB2.out.trans (bt.mono BB2.out.size));generalize wt.alloc (.cells (Z5 Zg none 0) 47)=wz at *;clear bt hget n0 n1 MX MY BW2 BB2 P7;have hC0:Below wz.heap.size wz wz.drew:=(Below.refl _ _).drew;try simp only[Act.put,lq3,lq4,lq5]
    refine zC (fun w':World=>Below wz.heap.size wz w') hC0 ?_
    iterate 2 go_big_quiet_step (fail)
    iterate 6 go_big_quiet_skip
    refine zV (.bool false) ?_;refine wpQuiet_nil ?_;intro w' hC;have BB5:=zH (BB3.out.trans (hC.mono BB3.out.size));clear hC;have hk64:=HK64.out;go_wp2;go_roundw
    case rel=>exact⟨q+1,by go_num,by omega,zH (fun i z hi hz=>by
     rcases Nat.lt_or_ge i q with h' | h'
     ·exact HA.out i z h' hz
     ·have e:i=q:=by omega
      subst e;rw[HLX.out]at hz;cases hz;exact BAD.out),BB5⟩
    case measure=>simp[intOf];omega
   | some y=>
    have hget:(Instr.lookup 119 (.map (some c)) (.agg #[.int .i64 x.n.house,.int .i64 x.n.num]) true).run zq wt = .ok (.tuple #[.agg (Z5 y.n y.sa y.sc),.bool true]) wt:=by
     have:=XC (t:=119) MY.out Tryz.underlying119 (Xh wt) x.n.house x.n.num NOK.out;rw[hfr]at this;exact this
    have BAD:Hid (Z2o m x.n = !Yx y.n x.n):=zH (by
     rw[Z7C];exact Zcq HD.out (by rw[<-SB.out.eq];exact List.mem_map_of_mem (Yl hfr).1) (Yl hfr).2)
    have YOK:=zH (SB.out.ok y (Yl hfr).1);clear hfr;go_upto_region 5 with (first
     |(refine zP wt wt.heap.size (Z5 y.n y.sa y.sc) ?_))
    have bt:Below wt.heap.size wt (wt.alloc (.cells (Z5 y.n y.sa y.sc) 47)):=zB _ _;have P8:=zH (Za wt (.cells (Z5 y.n y.sa y.sc) 47));have BB3:=zH (BB2.out.trans (bt.mono BB2.out.size));have BW3:=zH (BW2.out.trans (bt.mono BW2.out.size));have MX3:=zH (MX.out.below bt);have P73:=zH (Z7 bt P7.out);obtain⟨p8,hp8⟩:=zX (wt.heap.size);rw[hp8.out]at P8 ⊢;generalize wt.alloc (.cells (Z5 y.n y.sa y.sc) 47)=wz at *;clear bt hget n0 n1 MX MY BW2 BB2 P7;have hC0:Below wz.heap.size wz wz.drew:=(Below.refl _ _).drew;have L7:=zH (show ∀w0,Below wz.heap.size wz w0->w0.heap[p7]? = some (.cells #[.int .i64 x.n.house,.int .i64 x.n.num] 45)from fun w0 h=>Z7 h P73.out);have L8:=zH (show ∀w0,Below wz.heap.size wz w0->w0.heap[p8]? = some (.cells (Z5 y.n y.sa y.sc) 47)from fun w0 h=>Z7 h P8.out);try simp only[Act.put,lq3,lq4,lq5]
    refine zC (fun w':World=>Below wz.heap.size wz w') hC0 ?_
    iterate 2 go_big_quiet_step (fail)
    refine zQ (.agg (Z5 y.n y.sa y.sc)) (fun w0 hC=>Jy (.tmp 8) rfl p8 rfl y.n y.sa y.sc (L8.out w0 hC)) ?_;go_big_quiet_step (fail);refine zQ (.agg #[.int .i64 x.n.house,.int .i64 x.n.num]) (fun w0 hC=>?_) ?_
    ·have c0:=Z6 (L7.out w0 hC) 0 (.int .i64 x.n.house) rfl;have c1:=Z6 (L7.out w0 hC) 1 (.int .i64 x.n.num) rfl;clear hC;go_simp
    refine zQ (.agg (Z5 x.n x.sa x.sc)) (fun w0 hC=>?_) ?_
    ·have hg:(Instr.lookup 119 (.map (some b)) (.agg #[.int .i64 x.n.house,.int .i64 x.n.num]) false).run zq w0 = .ok (.agg (Z5 x.n x.sa x.sc)) w0:=Z2x (t:=119) (MX3.out.below hC) Tryz.underlying119 (Xh w0) x.n.house x.n.num NOK.out GX.out;clear hC;go_simp
    refine zQ (.bool (Yx y.n x.n)) (fun w0 hC=>?_) ?_
    ·go_simp;refine(Z1g y.n x.n y.sa y.sc x.sa x.sc w0 ((YOK.out.below BW3.out).below hC) ((XOK.out.below BW3.out).below hC)).mono ?_;rintro e w1 ⟨rfl,b1⟩;exact⟨rfl,hC.trans (b1.mono hC.size)⟩
    refine zV (.bool (!Yx y.n x.n)) ?_;refine zV (.bool (!Yx y.n x.n)) ?_;refine wpQuiet_nil ?_;intro w' hC;have BB5:=zH (BB3.out.trans (hC.mono BB3.out.size));have BW5:=zH (BW3.out.trans (hC.mono BW3.out.size));have P75:=zH (L7.out w' hC);clear hC L7 L8 P73 P8 MX3 BB3 BW3 XOK YOK;cases hq2:(!Yx y.n x.n)
    ·replace BAD:=zH (BAD.out.trans hq2);clear hq2;have hk64:=HK64.out;go_wp2;go_roundw
     case rel=>exact⟨q+1,by go_num,by omega,zH (fun i z hi hz=>by
      rcases Nat.lt_or_ge i q with h' | h'
      ·exact HA.out i z h' hz
      ·have e:i=q:=by omega
       subst e;rw[HLX.out]at hz;cases hz;exact BAD.out),BB5⟩
     case measure=>simp[intOf];omega
    ·have CE:Hid (Z0d l m=((x.n.house,x.n.num),true)):=zH (by
      unfold Z0d;rw[Z5Q HLX.out HA.out (BAD.out.trans hq2)];rfl)
     have PW:=zH (Z7 BB5.out P1.out);have n0:=Z6 P75.out 0 (.int .i64 x.n.house) rfl;have n1:=Z6 P75.out 1 (.int .i64 x.n.num) rfl;clear hq2 BAD;go_wp2_with (first
      |(refine ZX rfl 45 _ _ rfl p4 #[.int .i64 0,.int .i64 0] #[.int .i64 x.n.house,.int .i64 x.n.num] 45 rfl rfl PW.out (I2.out _ _) rfl (by simp[Value.oneCell']) ?_;intro w9 hr1 hr2 hr3)
      | fail)
     have HR1:=zH hr1;have HR2:=zH hr2;clear hr1 hr2 hr3;refine bodyPost_ret (Zz rfl _ _ p4 45 #[.int .i64 x.n.house,.int .i64 x.n.num] (0,0) _ rfl HR1.out Tryz.underlying45 rfl (I2.out _ _)) rfl ?_;exact⟨by rw[CE.out] <;> rfl,BW5.out.grown HR2.out BW5.out.size (fun q e=>by cases e;exact SZ.out)⟩
  ·have t0:decide ((q:Int) < (kn:Int))=false:=by simp;omega
   have CE:Hid (Z0d l m=((0,0),false)):=zH (by
    unfold Z0d;rw[Z89 (l:=l) (m:=m) (fun j y hj hy=>HA.out j y (by rw[<-KL.out]at hj;omega) hy)])
   have PW:=zH (Z7 BB.out P1.out);go_wp2_with (first
    |(refine ZX rfl 45 _ _ rfl p4 #[.int .i64 0,.int .i64 0] #[.int .i64 0,.int .i64 0] 45 rfl rfl PW.out (I2.out _ _) rfl (by simp[Value.oneCell']) ?_;intro w9 hr1 hr2 hr3)
    | fail)
   have HR1:=zH hr1;have HR2:=zH hr2;clear hr1 hr2 hr3;refine bodyPost_ret (Zz rfl _ _ p4 45 #[.int .i64 0,.int .i64 0] (0,0) _ rfl HR1.out Tryz.underlying45 rfl (I2.out _ _)) rfl ?_;exact⟨by rw[CE.out] <;> rfl,BW.out.grown HR2.out BW.out.size (fun q e=>by cases e;exact SZ.out)⟩
theorem Z9d (f:Yg)(a:zA)(nn nc:Nat)(l:List Z8)(ma:zA)(mn mc:Nat)(m:List Z8)(w:World)(hr:Qt w a nn nc l)(hok : ∀x∈l,x.Ok)(hm:Qt w ma mn mc m)(hokm : ∀x∈m,x.Ok):
  Calls zq 38 #[f.val,.slice a nn nc,.slice ma mn mc] w fun e w'=>Z0F f l m e/\Below w.heap.size w w':=by
 have I2:=zH (show ∀(x y:Value),(zq.info? 45).map (·.size)=some (#[x,y]:ZW).size from fun x y=>by kernel_rfl);have BO:=zH (fun W hb=>ZbJ f a nn nc l ma mn mc m W (hr.below (show Below w.heap.size w W from hb)) hok (hm.below hb) hokm);have HOK:=zH hok;have hvl:f.val = .agg #[.int .i64 f.rings,.int .i64 f.sectors,.int .i64 f.wide]:=rfl;rw[hvl]at BO ⊢;clear hvl hr hok hm hokm;have B0:=zH ((zB w (zF f 23)).alloc (by simp) (.cells #[.int .i64 0,.int .i64 0] 45));have F0:=zH (Z9 _ (.cells #[.int .i64 0,.int .i64 0] 45) _ _ (Za w (zF f 23)));have P0:=zH (Zw (w.alloc (zF f 23)) (.cells #[.int .i64 0,.int .i64 0] 45) (w.heap.size+1) (by simp));go_enter Tryz.func38,Tryz.ntmps38;go_upto_region 1 with fail;obtain⟨pF,hpF⟩:=zX (w.heap.size);obtain⟨p4,hp4⟩:=zX (w.heap.size+1);have SZ:Hid (w.heap.size<=p4):=zH (by have:=hp4.out;omega);rw[hpF.out]at F0;rw[hp4.out]at P0;rw[hp4.out,hpF.out];generalize (w.alloc (zF f 23)).alloc (.cells #[.int .i64 0,.int .i64 0] 45)=W0 at *;have c0:=Z6 F0.out 0 (.int .i64 f.rings) rfl;have c1:=Z6 F0.out 1 (.int .i64 f.sectors) rfl;have c2:=Z6 F0.out 2 (.int .i64 f.wide) rfl;go_wp2_with fail;refine(BO.out W0 B0.out).mono ?_;clear c0 c1 c2;rintro e W1 ⟨h1,b1⟩;have B1:=zH (B0.out.trans (b1.mono B0.out.size));have P1:=zH (Z7 b1 P0.out);clear b1 B0 F0 P0;rcases h1 with ⟨hbad,o1,o2,rfl⟩ | ⟨hs1,hs2,b,xs,c,ys,rfl,sa,sb,hne⟩
 ·have CE:=zH (Z9P hbad);clear hbad;go_wp2_with (first
   |(refine ZX rfl 45 _ _ rfl p4 #[.int .i64 0,.int .i64 0] #[.int .i64 0,.int .i64 0] 45 rfl rfl P1.out (I2.out _ _) rfl (by simp[Value.oneCell']) ?_;intro w9 hr1 hr2 hr3)
   | fail)
  have HR1:=zH hr1;have HR2:=zH hr2;clear hr1 hr2 hr3;refine bodyPost_ret (Zz rfl _ _ p4 45 #[.int .i64 0,.int .i64 0] (0,0) _ rfl HR1.out Tryz.underlying45 rfl (I2.out _ _)) rfl ?_;exact⟨by unfold Z0F;rw[CE.out] <;> rfl,B1.out.grown HR2.out B1.out.size (fun q e=>by cases e;exact SZ.out)⟩
 ·have HS:=zH hs1;have HS2:=zH hs2;have SA:=zH sa;have SB:=zH sb;clear hs1 hs2 sa sb hne;go_wp2_with fail;refine(Zbg b c l m xs ys W0 W1 SA.out SB.out (Uj HS.out).2.2.2 (XQ (Uj HS2.out).2.2.2) HOK.out (Nat.le_trans (Uj HS.out).2.1 (by decide))).mono ?_;rintro e W2 ⟨rfl,b2⟩;have B2:=zH (B1.out.trans (b2.mono B1.out.size));have P2:=zH (Z7 b2 P1.out);clear b2 B1 P1;cases hfk:VJ l m with
  | none=>
   have CE:=zH (Z40 HS.out HS2.out hfk);have e1:Z0d l m=((0,0),false):=by unfold Z0d;rw[hfk]
   rw[e1];clear e1 hfk;have bt:Below W2.heap.size W2 (W2.alloc (.cells #[.int .i64 0,.int .i64 0] 45)):=zB _ _;have B3:=zH (B2.out.trans (bt.mono B2.out.size));have P3:=zH (Z7 bt P2.out);go_upto_region 5 with fail;generalize W2.alloc (.cells #[.int .i64 0,.int .i64 0] 45)=W3 at *;clear bt B2 P2;go_wp2_with (first
    |(refine ZX rfl 45 _ _ rfl p4 #[.int .i64 0,.int .i64 0] #[.int .i64 0,.int .i64 0] 45 rfl rfl P3.out (I2.out _ _) rfl (by simp[Value.oneCell']) ?_;intro w9 hr1 hr2 hr3)
    | fail)
   have HR1:=zH hr1;have HR2:=zH hr2;clear hr1 hr2 hr3;refine bodyPost_ret (Zz rfl _ _ p4 45 #[.int .i64 0,.int .i64 0] (0,0) _ rfl HR1.out Tryz.underlying45 rfl (I2.out _ _)) rfl ?_;exact⟨by unfold Z0F;rw[CE.out] <;> rfl,B3.out.grown HR2.out B3.out.size (fun q e=>by cases e;exact SZ.out)⟩
  | some nm=>
   have CE:=zH (Z88 HS.out HS2.out hfk);have e1:Z0d l m=(nm,true):=by unfold Z0d;rw[hfk]
   rw[e1];clear e1 hfk;have bt:Below W2.heap.size W2 (W2.alloc (.cells #[.int .i64 nm.1,.int .i64 nm.2] 45)):=zB _ _;have B3:=zH (B2.out.trans (bt.mono B2.out.size));have P3:=zH (Z7 bt P2.out);have Q3:=zH (Za W2 (.cells #[.int .i64 nm.1,.int .i64 nm.2] 45));go_upto_region 5 with fail;obtain⟨p11,hp11⟩:=zX (W2.heap.size);rw[hp11.out]at Q3 ⊢;generalize W2.alloc (.cells #[.int .i64 nm.1,.int .i64 nm.2] 45)=W3 at *;have n0:=Z6 Q3.out 0 (.int .i64 nm.1) rfl;have n1:=Z6 Q3.out 1 (.int .i64 nm.2) rfl;clear bt B2 P2;go_wp2_with (first
    |(refine ZX rfl 45 _ _ rfl p4 #[.int .i64 0,.int .i64 0] #[.int .i64 nm.1,.int .i64 nm.2] 45 rfl rfl P3.out (I2.out _ _) rfl (by simp[Value.oneCell']) ?_;intro w9 hr1 hr2 hr3)
    | fail)
   have HR1:=zH hr1;have HR2:=zH hr2;clear hr1 hr2 hr3;refine bodyPost_ret (Zz rfl _ _ p4 45 #[.int .i64 nm.1,.int .i64 nm.2] (0,0) _ rfl HR1.out Tryz.underlying45 rfl (I2.out _ _)) rfl ?_;exact⟨by unfold Z0F;rw[CE.out] <;> rfl,B3.out.grown HR2.out B3.out.size (fun q e=>by cases e;exact SZ.out)⟩
def evC (e:XV):Nm×Z8:=(e.nm,e.x.n)
abbrev Zdi:=List Z8×List Z8×List Nm
def Z6t (f:Yg)(l m:List Z8)(day:Int):Zdi:=if (Zt f l).1=0 then ((Z3q day m).hs,(Z3q day m).es,csN day m)else ([],[],[])
def Z5S (f:Yg)(l:List Z8):Int:=if (Zt f l).1=0 then 0 else 1
def evP (n:Z8):Nm×Z8:=(Zn n,n)
def Z0k (W:World)(v:Value)(T:Zdi):Prop:=
 ∃(ha:zA) (hn hc:Nat) (ea:zA) (en ec:Nat) (ca:zA) (cn cc:Nat) (hs es:List XV),v = .agg #[.slice ha hn hc,.slice ea en ec,.slice ca cn cc] /\
  Z0m W ha hn hc hs/\Z0m W ea en ec es/\Y3 W 2 ca cn cc (ZH T.2.2)/\(∀e∈hs ++ es,e.x.ok W)/\hs.map evC=T.1.map evP/\es.map evC=T.2.1.map evP
theorem Z0k.below {W W':World}{v:Value}{T:Zdi}(h:Z0k W v T)(hb:Below W.heap.size W W'):Z0k W' v T:=by
 obtain⟨ha,hn,hc,ea,en,ec,ca,cn,cc,hs,es,rfl,h1,h2,h3,h4,h5,h6⟩:=h;exact⟨ha,hn,hc,ea,en,ec,ca,cn,cc,hs,es,rfl,h1.below hb,h2.below hb,h3.below hb,fun e he=>(h4 e he).below hb,h5,h6⟩
theorem Z5c {es:List XV}{N:List Z8}(h:es.map (fun e=>e.x.n)=N)(hn : ∀e∈es,e.nm=Zn e.x.n):es.map evC=N.map evP:=by
 subst h;rw[List.map_map];refine List.map_congr_left fun e he=>?_;unfold evC evP;rw[hn e he];rfl
theorem Z0k.empty (W:World):Z0k W (.agg #[.slice none 0 0,.slice none 0 0,.slice none 0 0]) ([],[],[]):=
 ⟨none,0,0,none,0,0,none,0,0,[],[],rfl,⟨rfl,Nat.le_refl _,Nat.zero_le _,.inl rfl⟩,⟨rfl,Nat.le_refl _,Nat.zero_le _,.inl rfl⟩,Y3.nil _ _,fun e he=>by simp at he,rfl,rfl⟩
theorem Za3 {l:List Z8}{day:Int}{w w':World}{e:Ending}(h:Z8P l day w e w')(hp:l.Pairwise (fun x y=>J5 (Zn x) (Zn y)=true)):
  ∃v,e = .returned (.tuple #[v,.int .i64 0])/\Z0k w' v ((Z3q day l).hs,(Z3q day l).es,csN day l):=by
 obtain⟨v,R,rfl,⟨ha,hc,ea,ec,ca,cc,rfl,o1,o2,o3,o4⟩,q1,q2,q3,q4⟩:=Za2 h hp;refine⟨_,rfl,ha,_,hc,ea,_,ec,ca,_,cc,R.hs,R.es,rfl,Z0m.of_own o1,Z0m.of_own o2,?_,fun e he=>Y3.of_own (o4 e he),Z5c q1 (fun e he=>q4 e (List.mem_append_left _ he)),Z5c q2 (fun e he=>q4 e (List.mem_append_right _ he))⟩;have:=Y3.of_own o3;rw[q3]at this ⊢;exact this
theorem Z72 (f:Yg)(a:zA)(n c:Nat)(l:List Z8)(w:World)(hr:Qt w a n c l)(hok : ∀x∈l,x.Ok):
  Calls zq 34 #[f.val,.slice a n c] w fun e w' => ∃v,e = .returned (.tuple #[v,.int .i64 (Z5S f l)])/\Z0k w' v (Z6t f l l 99999)/\Below w.heap.size w w':=by
 refine(Zbh f a n c l w hr hok).mono ?_;rintro e w' ⟨⟨h0,rfl⟩ | ⟨h0,h1⟩,hb⟩
 ·exact⟨_,by rw[Z5S,if_neg h0],by rw[Z6t,if_neg h0];exact Z0k.empty w',hb⟩
 ·obtain⟨v,rfl,h2⟩:=Za3 h1 (Uj h0).2.2.2;exact⟨v,by rw[Z5S,if_pos h0],by rw[Z6t,if_pos h0];exact h2,hb⟩
theorem Xv {ops:Array Oper}{rest:List Oper}{op:Oper}{a:Act}{w:World}{Q:Exit->Act->World->Prop}(hgd:op.guard=none)(x:Operand)(ho:op.op = .buildSlice 24 1 #[(0,x)])(n:Z8)(sa:zA)(sc:Nat)(hx:a.eval x = .agg (Z5 n sa sc))
  (h:wpList zq ops Q rest (a.put op.dst (.slice (some ⟨w.heap.size,0,none⟩) 1 1)) (w.alloc (.cells (Z5 n sa sc) 47))):wpList zq ops Q (op :: rest) a w:=
 wpList_plain hgd fun _ hK=>Xd x ho n sa sc hx (hK _ _ h)
theorem Z8z {W:World}{a:zA}{n c:Nat}{xs:List LN}(h:zu W a n c xs){x:LN}(hx:x∈xs):x.ok W:=by
 have h0:0 < n:=by have:=List.length_pos_of_mem hx;have:=h.1;omega
 obtain⟨b,off,rfl,hat⟩:=h.at h0;obtain⟨i,hi⟩:=List.getElem?_of_mem hx;exact(hat i x hi).2
theorem ZcQ {W:World}{a:zA}{n c:Nat}{xs:List LN}(h:zu W a n c xs):Y3 W 19 a n c (ZF xs):=by
 obtain⟨h1,h2,h3,h4⟩:=h;refine⟨by rw[Ua,h1],h2,h3,h4.imp id ?_⟩;rintro⟨b,off,rfl,hat⟩;refine⟨b,off,rfl,fun j v hv=>?_⟩;have hl:=(List.getElem?_eq_some_iff.1 hv).1;rw[Ua]at hl;obtain⟨x,hx⟩ : ∃x,xs[j / 19]? = some x:=⟨_,List.getElem?_eq_getElem (by omega)⟩;have h5:=z7 19 (xs.map fun x=>x.n.cells x.sa x.sc) (by intro r hr;obtain⟨y,_,rfl⟩:=List.mem_map.1 hr;rfl) (j / 19) (x.n.cells x.sa x.sc) (by rw[List.getElem?_map,hx];rfl) (j % 19) (by omega);have h6:=(hat (j / 19) x hx).1 (j % 19) v (by rw[<-h5,show j / 19 * 19+j % 19=j by omega];exact hv);rwa [show off+j / 19 * 19+j % 19=off+j by omega]at h6
theorem VZ.mono {V V' W:World}{a:zA}{c n:Nat}{ys:List LN}(h:VZ V W a c n ys)(hb:Below V'.heap.size V' V):VZ V' W a c n ys:=
 ⟨hb.trans (h.bel.mono hb.size),Zv h.own hb.size,fun x hx=>Zv (h.str x hx) hb.size,h.len⟩
def GOk (G:Nm->Option LN)(w:World):Prop := ∀k x,G k=some x->x.ok w/\Uk k/\x.n.strokes.length<=1000000000
theorem GOk.below {G:Nm->Option LN}{w w':World}(h:GOk G w)(hb:Below w.heap.size w w'):GOk G w':=fun k x hx=>⟨(h k x hx).1.below hb,(h k x hx).2⟩
def Zcy (G:Nm->Option LN)(n:Nat)(w:World)(e:Ending)(W:World):Prop:=
 ∃(a:zA) (un c:Nat) (zs:List LN) (ks:List Nm),e = .returned (.slice a un c)/\VZ w W a c un zs/\zs.map LN.n=(ks.filterMap G).map LN.n/\XW G ks/\ks.Pairwise (fun x y=>J5 x y=true)/\(∀k∈ks,(G k).isSome=true)/\un<=n
theorem Z1r (b n:Nat)(G:Nm->Option LN)(w:World)(hm:Yd LN.val w b n G)(hn:n<=1000)(hG:GOk G w):
  Calls zq 61 #[.map (some b)] w fun e w'=>Zcy G n w e w'/\Below w.heap.size w w':=by
 have J2:(zq.info? 45).map (·.size)=some 2:=by kernel_rfl
 have M0:=zH hm;have HN:=zH hn;have HG0:=zH hG;clear hm hn hG;go_enter Tryz.func61,Tryz.ntmps61;go_wp2_with fail;refine(Z9x b w).mono ?_;rintro e w1 ⟨rfl,rfl⟩;have B1:=zH (zB w (.cells #[.map (some b)] 106));have P1:=zH (Za w (.cells #[.map (some b)] 106));have M1:=zH (M0.out.below B1.out);obtain⟨pB,hpB⟩:=zX (w.heap.size);rw[hpB.out]at P1;rw[hpB.out];generalize w.alloc (.cells #[.map (some b)] 106)=w1 at *;go_wp2_with fail;refine(Z4r pB b n G w1 P1.out M1.out HN.out).mono ?_;rintro e W5 ⟨⟨na,nc,ks,rfl,h1,h2,h3,h4,h5⟩,b5⟩;have RN:=zH (Y3.of_own h1);have HAL:=zH h2;have HSO:=zH h3;have HIN:=zH h4;have HKN:=zH h5;have B5:=zH (B1.out.trans (b5.mono B1.out.size));have M5:=zH (M1.out.below b5);have HX5:=zH (HG0.out.below B5.out);obtain⟨kn,hkn⟩:=zX (ks.length);rw[hkn.out]at RN HKN ⊢;clear b5 h1 h2 h3 h4 h5 P1 M1 B1;have H63:Hid ((kn:Int)<=9223372036854775807):=zH (by have:=HKN.out;have:=HN.out;omega);go_wp2_with fail;go_loopw [3,10] (fun ov iv wr=>∃(q:Nat) (oa:zA) (on oc:Nat) (zs:List LN),ov = .slice oa on oc/\iv = .int .i64 (q:Int)/\q<=kn/\Hid (VZ W5 wr oa oc on zs)/\Hid (zs.map LN.n=((ks.take q).filterMap G).map LN.n)/\on<=q) (fun _ iv _=>kn - (intOf iv).toNat)
 case atStart=>exact⟨0,none,0,0,[],rfl,rfl,Nat.zero_le _,zH (VZ.start _),zH rfl,Nat.le_refl _⟩
 case round=>
  obtain⟨q,oa,on,oc,zs,rfl,rfl,hq,MA,HZ,hon⟩:=hrel;by_cases hlt:q < kn
  ·have t0:decide ((q:Int) < (kn:Int))=true:=by simp;omega
   obtain⟨k,Hk⟩ : ∃k,ks[q]? = some k:=⟨_,List.getElem?_eq_getElem (by rw[hkn.out];exact hlt)⟩;obtain⟨y,hy⟩:=Option.isSome_iff_exists.1 (HIN.out k (List.mem_of_getElem? Hk));have GY:=zH hy;have HY:=zH (HX5.out k y hy);have HZ2:Hid (((ks.take (q+1)).filterMap G).map LN.n=zs.map LN.n ++ [y.n]):=zH (by
    rw[Qx Hk,List.filterMap_append,List.map_append,<-HZ.out,List.filterMap_cons_some hy];rfl)
   obtain⟨kb,koff,rfl,hk1,hk2⟩:=Z12 (RN.out.below MA.out.bel) Hk;obtain⟨o,ho⟩:=zX (koff+q * 2);rw[ho.out]at hk1 hk2;have hix:=fun W=>Yk (W:=W) (c:=nc) (b:=kb) Tryz.underlying75 J2 hlt ho.out;have HK64:Hid ((q:Int)+1<=9223372036854775807):=zH (by have:=HKN.out;have:=HN.out;omega);obtain⟨kh,km⟩:=k;dsimp only at hk1 hk2;clear Hk hy;go_upto_region 5 with fail;clear t0 hix hk1 hk2;have bt:Below wr.heap.size wr (wr.alloc (.cells #[.int .i64 kh,.int .i64 km] 45)):=zB _ _;have P7:=zH (Za wr (.cells #[.int .i64 kh,.int .i64 km] 45));have MA2:=zH (MA.out.below bt);obtain⟨p7,hp7⟩:=zX (wr.heap.size);rw[hp7.out]at P7 ⊢;generalize wr.alloc (.cells #[.int .i64 kh,.int .i64 km] 45)=wt at *;clear bt MA;have n0:=Z6 P7.out 0 (.int .i64 kh) rfl;have n1:=Z6 P7.out 1 (.int .i64 km) rfl;have hget:(Instr.lookup 106 (.map (some b)) (.agg #[.int .i64 kh,.int .i64 km]) false).run zq wt = .ok (.agg (Z5 y.n y.sa y.sc)) wt:=Z2x (t:=106) (M5.out.below MA2.out.bel) Tryz.underlying106 (Xh wt) kh km HY.out.2.1 GY.out;go_wp2_with fail;refine(Z0h y.n y.sa y.sc wt (HY.out.1.below MA2.out.bel) HY.out.2.2).mono ?_;rintro e w5 ⟨ta,tc,rfl,hown,b5⟩;have MA5:=zH (MA2.out.below b5);have HO5:=zH (Zv hown MA2.out.bel.size);have bn:Below w5.heap.size w5 (w5.alloc (.cells (Z5 y.n ta tc) 47)):=zB _ _;obtain⟨a',c',v9,hrun,ho9,hg9⟩:=JY (w5.alloc (.cells (Z5 y.n ta tc) 47)) W5.heap.size oa on oc _ (Zd MA5.out.own bn) _ 1 1 _ (JO w5 y.n ta tc) (y.n.cells_one _ _) (by have:=HKN.out;have:=HN.out;omega) (Nat.le_trans MA5.out.bel.size bn.size);have MA9:=zH (MA5.out.add (x:=⟨y.n,ta,tc⟩) HO5.out ho9 hg9);have HZ9:Hid ((zs ++ [(⟨y.n,ta,tc⟩:LN)]).map LN.n=((ks.take (q+1)).filterMap G).map LN.n):=zH (by rw[HZ2.out,List.map_append];rfl);clear hown b5 bn ho9 hg9 MA5 HO5 n0 n1 hget MA2;have hk64:=HK64.out;go_wp2_with (first
    |(refine Xv rfl _ rfl y.n ta tc rfl ?_)
    |(refine Ye rfl _ _ _ rfl _ _ _ rfl rfl hrun ?_)
    | fail)
   go_roundw
   case rel=>exact⟨q+1,a',on+1,c',zs ++ [⟨y.n,ta,tc⟩],by go_num,by go_num,by omega,MA9,HZ9,by omega⟩
   case measure=>simp[intOf];omega
  ·have t0:decide ((q:Int) < (kn:Int))=false:=by simp;omega
   have UZ:Hid (zs.map LN.n=(ks.filterMap G).map LN.n):=zH (by rw[HZ.out,List.take_of_length_le (by rw[hkn.out];omega)]);have ON:Hid (on<=n):=zH (by have:=HKN.out;omega);go_wp2_with fail;go_returns;exact⟨⟨oa,on,oc,zs,ks,rfl,MA.out.mono B5.out,UZ.out,HAL.out,HSO.out,HIN.out,ON.out⟩,B5.out.trans (MA.out.bel.mono B5.out.size)⟩
structure Zj where
 f:Yg
 id:Int
 l:List Z8
 c:Int->Nat
 ad:List Z8
 sb:zU
 fb:zU
 sd:Nat
 fd:Nat
def Zj.new (f:Yg)(id:Int):Zj:=⟨f,id,[],fun _=>0,[],[],[],0,0⟩
def Zj.add (S:Zj)(n:Z8):Zj := { S with l:=XY S.l n,c:=QW S.c n.house,ad:=S.ad ++ [n],sb:=S.sb ++ ZC (ZQ n),fb:=S.fb ++ ZO (ZQ n) }
def Xy (f:Yg)(id:Int)(mb:Nat)(c:Int->Nat)(sp:Nat):ZW:=
 #[.int .i64 f.rings,.int .i64 f.sectors,.int .i64 f.wide,.int .i64 id,.map (some mb),.int .i64 (c 0:Int),.int .i64 (c 1:Int),.int .i64 (c 2:Int),.int .i64 (c 3:Int),.int .i64 (c 4:Int),.int .i64 (c 5:Int),.int .i64 (c 6:Int),.int .i64 (c 7:Int),.int .i64 (c 8:Int),.pointer (some ⟨sp,0,none⟩)]
theorem Z3Y (f:Yg)(id:Int)(mb:Nat)(c:Int->Nat)(sp k:Nat)(hk:k<=8):(Xy f id mb c sp)[5+k]? = some (.int .i64 (c (k:Int):Int)):=by
 have:k=0\/k=1\/k=2\/k=3\/k=4\/k=5\/k=6\/k=7\/k=8:=by omega
 rcases this with rfl | rfl | rfl | rfl | rfl | rfl | rfl | rfl | rfl <;> rfl
theorem Zb5 (f:Yg)(id:Int)(mb:Nat)(c:Int->Nat)(sp k:Nat)(hk:k<=8):(Xy f id mb c sp).setIfInBounds (5+k) (.int .i64 ((c (k:Int):Int)+1))=Xy f id mb (QW c (k:Int)) sp:=by
 have:k=0\/k=1\/k=2\/k=3\/k=4\/k=5\/k=6\/k=7\/k=8:=by omega
 rcases this with rfl | rfl | rfl | rfl | rfl | rfl | rfl | rfl | rfl <;> simp[Xy,QW]
structure Xt (S:Zj):Prop where
 v:S.f.valid=true
 id:1<=S.id/\S.id<=8
 srt:S.l.Pairwise ltN
 frm : ∀x∈S.l,Zf S.f x=true
 ok : ∀x∈S.l,x.Ok
 nms:Qq S.l S.c
 len:S.ad.length=S.l.length
 sbl:S.sb.length<=2200 * S.ad.length
 fbl:S.fb.length=4 * S.ad.length
theorem Yq {f:Yg}{x:Z8}(h:Zf f x=true):1<=x.house/\x.house<=8/\1<=x.num:=by
 simp only[Zf,Bool.and_eq_true,ZI,YB]at h;omega
theorem Q5 {f:Yg}{x:Z8}(hv:f.valid=true)(h:Zf f x=true):(ZQ x).length<=2190:=by
 have h1:=Z45 x (YT hv h);have h2:=Xp hv h;omega
theorem Xt.new {f:Yg}{id:Int}(hv:f.valid=true)(h:1<=id/\id<=8):Xt (Zj.new f id):=
 ⟨hv,h,List.Pairwise.nil,(fun x hx=>by cases hx),(fun x hx=>by cases hx),(fun a k=>by simp[Zj.new];omega),rfl,Nat.zero_le _,rfl⟩
theorem Xt.add {S:Zj}{n:Z8}(h:Xt S)(hf:Zf S.f n=true)(hok:n.Ok)(hk:n.num=(S.c n.house:Int)+1):Xt (S.add n) /\ ∀y∈S.l,Zn y≠Zn n:=by
 have hfree : ∀y∈S.l,Zn y≠Zn n:=fun y hy e=>by
  have h5:=h.nms.le hy;have h6:y.house=n.house/\y.num=n.num:=by simpa [Zn] using e
  rw[h6.1,h6.2]at h5;omega
 refine⟨⟨h.v,h.id,Z2K h.srt hfree,fun x hx=>?_,fun x hx=>?_,(h.nms.add hk).perm fun x=>?_,?_,?_,?_⟩,hfree⟩
 ·rcases Xo.1 hx with hx | rfl
  ·exact h.frm x hx
  ·exact hf
 ·rcases Xo.1 hx with hx | rfl
  ·exact h.ok x hx
  ·exact hok
 ·rw[List.mem_append,List.mem_singleton];exact Xo
 ·show(S.ad ++ [n]).length=(XY S.l n).length;rw[XY,(UC _ n S.l).length_eq,List.length_append,List.length_cons,h.len];rfl
 ·show(S.sb ++ ZC (ZQ n)).length<=2200 * (S.ad ++ [n]).length;have:=h.sbl;have:=Q5 h.v hf;rw[List.length_append,List.length_append,YU,List.length_singleton];omega
 ·show(S.fb ++ ZO (ZQ n)).length=4 * (S.ad ++ [n]).length;have:=h.fbl;rw[List.length_append,List.length_append,YQ,List.length_singleton];omega
def Yw (p mb:Nat)(G:Nm->Option LN)(SF:Nat->Prop):Nat->Prop:=fun b=>b=p\/b=mb\/SF b \/ ∃k x,G k=some x/\Value.ownBlock (.slice x.sa x.n.strokes.length x.sc)=some b
structure Yp (w:World)(p mb sp:Nat)(G:Nm->Option LN)(SF:Nat->Prop)(S:Zj):Prop where
 blk:w.heap[p]? = some (.cells (Xy S.f S.id mb S.c sp) 109)
 map:Yd LN.val w mb S.l.length G
 gs : ∀k x,G k=some x->x.n∈S.l/\x.nm=k
 gl : ∀n∈S.l,∃x,G (Zn n)=some x/\x.n=n
 str : ∀k x,G k=some x->w.ownsRow 0 3 1 (.slice x.sa x.n.strokes.length x.sc) x.n.strokes.length (x.n.strokes.map Yh)
 stk:VP w sp SF S.sb S.fb S.sd S.fd
section
variable {w w':World}{p mb sp:Nat}{G:Nm->Option LN}{SF:Nat->Prop}{S:Zj}
theorem Yp.same {X:Nat->Prop}(h:Yp w p mb sp G SF S)(hs:Zb X w w')(hd : ∀k,X k -> ¬Yw p mb G SF k):Yp w' p mb sp G SF S:=
 ⟨(hs.block p (Zi h.blk) (fun hX=>hd p hX (.inl rfl))).trans h.blk,h.map.of_block (hs.block mb h.map.lt (fun hX=>hd mb hX (.inr (.inl rfl)))),h.gs,h.gl,
  fun k x hk=>Ze (h.str k x hk) hs (fun b hb hX=>hd b hX (.inr (.inr (.inr ⟨k,x,hk,hb⟩)))),h.stk.same hs (fun k hX hF=>hd k hX (.inr (.inr (.inl hF))))⟩
theorem Yp.below (h:Yp w p mb sp G SF S)(hb:Below w.heap.size w w'):Yp w' p mb sp G SF S:=h.same (X:=fun _=>False) (Zb.of_below hb) (fun _ h=>h.elim)
theorem Yp.gok (h:Yp w p mb sp G SF S)(hi:Xt S):GOk G w:=fun k x hk=>by
 obtain⟨h1,h2⟩:=h.gs k x hk
 subst h2
 exact⟨Y3.of_own (h.str _ x hk),⟨(hi.ok _ h1).house,(hi.ok _ h1).num⟩,Nat.le_trans (Xp hi.v (hi.frm _ h1)) (by decide)⟩
theorem Yp.lt (h:Yp w p mb sp G SF S): ∀k,Yw p mb G SF k->k < w.heap.size:=by
 rintro k (rfl | rfl | hk | ⟨a,x,h1,h2⟩)
 ·exact Zi h.blk
 ·exact h.map.lt
 ·exact h.stk.lt k hk
 ·exact((h.str a x h1).lt k h2).2
theorem Yp.list {ks:List Nm}(h:Yp w p mb sp G SF S)(hi:Xt S)(ha:XW G ks)(hs:ks.Pairwise (fun x y=>J5 x y=true))(_hin : ∀k∈ks,(G k).isSome=true):(ks.filterMap G).map LN.n=S.l:=by
 refine Z3j ?_ hi.srt fun x=>?_
 ·rw[List.pairwise_map];clear ha _hin
  induction ks with
  | nil=>exact List.Pairwise.nil
  | cons k ks ih=>
   rw[List.pairwise_cons]at hs;cases hk:G k with
   | none=>rw[List.filterMap_cons_none hk];exact ih hs.2
   | some x=>
    rw[List.filterMap_cons_some hk];refine List.pairwise_cons.2 ⟨fun y hy=>?_,ih hs.2⟩;obtain⟨k',hk',h'⟩:=List.mem_filterMap.1 hy;unfold ltN;rw[show Zn x.n=k from(h.gs k x hk).2,show Zn y.n=k' from(h.gs k' y h').2];exact hs.1 k' hk'
 ·constructor
  ·intro hx;obtain⟨y,hy,rfl⟩:=List.mem_map.1 hx;obtain⟨k,_,hk⟩:=List.mem_filterMap.1 hy;exact(h.gs k y hk).1
  ·intro hx;obtain⟨y,hy,rfl⟩:=h.gl x hx;exact List.mem_map_of_mem (List.mem_filterMap.2 ⟨_,ha _ (by rw[hy];rfl),hy⟩)
end
theorem Z5O {W:World}{p k:Nat}(hk:k < 9):(Instr.indexAt 107 (.pointer (some ⟨p,5,none⟩)) (.int .i64 (k:Int))).run zq W = .ok (.pointer (some ⟨p,5+k,none⟩)) W:=by
 have hsz:(zq.info? 3).map (·.size)=some 1:=by kernel_rfl
 cases hq:zq.info? 3 with
 | none=>simp[hq]at hsz
 | some i=>
  simp only[hq,Option.map_some,Option.some.injEq]at hsz;simp[Instr.indexAt,run_underlying Tryz.underlying107,Instr.sureAddr,asIntOf,sizeOf,typeInfo,hq,hsz,Addr.add,hk]
theorem VG (w:World)(p mb sp:Nat)(f:Yg)(id:Int)(c:Int->Nat)(h:w.heap[p]? = some (.cells (Xy f id mb c sp) 109)):
  Calls zq 53 #[.pointer (some ⟨p,0,none⟩)] w fun e w'=>e = .returned (.bool true)/\w'=w:=by
 have c14:=Z6 h 14 (.pointer (some ⟨sp,0,none⟩)) rfl;go_enter Tryz.func53,Tryz.ntmps53;go_wp2;go_ret;exact⟨rfl,rfl⟩
end Go.Proofs.YtlnhppgfhkkidaaGreat
