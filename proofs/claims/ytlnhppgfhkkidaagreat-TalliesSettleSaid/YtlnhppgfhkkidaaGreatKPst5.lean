/- Parts of the proof, in order. -/
import Derived.Deep.Cut
import Derived.Test.YtlnhppgfhkkidaaGreatKPst4
set_option linter.unusedSimpArgs false
set_option linter.unusedVariables false
set_option maxHeartbeats 32000000
set_option maxRecDepth 100000
namespace Go.Proofs.YtlnhppgfhkkidaaGreat
open Go.Proofs.Tryz renaming prog → zq
open Go.RowKit
attribute [local go_sem] Oper.semAt_some
theorem Z4d (l m:List Nm):ZC (l ++ m)=ZC l ++ ZC m:=by simp[ZC]
theorem J4.addC {base:Nat}{W W':World}{p:Nat}{ha:zA}{hc:Nat}{ea:zA}{ec:Nat}{ca:zA}{cc:Nat}{hs es:List Xv}{cs ns:List Nm}{a':zA}{c':Nat}(h:J4 base W p ha hc ea ec ca cc hs es cs)
  (ho:W'.ownsRow base 45 2 (.slice a' (cs.length+ns.length) c') (cs.length+ns.length) (ZC cs ++ ZC ns)) (hg:W.grownBy W' (Value.ownBlock (.slice ca cs.length cc))):
  J4 base (W'.setCell ⟨p,2,none⟩ (.slice a' (cs.length+ns.length) c')) p ha hc ea ec a' c' hs es (cs ++ ns)/\Zb (fun k=>k=p\/Value.ownBlock (.slice ca cs.length cc)=some k) W (W'.setCell ⟨p,2,none⟩ (.slice a' (cs.length+ns.length) c')):=by
 have hb2:=Zc hg h.blk (Zo h.cown h.blk (by intro cur;simp));have G:=Zn W' p 2 (.slice a' (cs.length+ns.length) c');refine⟨⟨?_,?_,?_,?_,?_⟩,(Zb.of_grown hg (fun k e=>.inr e)).trans (Zb.of_grown G (fun k e=>by cases e;exact .inl rfl))⟩
 ·rw[ZM hb2 2 (.slice a' (cs.length+ns.length) c'),List.length_append];rfl
 ·have h1:=h.hown.kept hg (JO h.hown h.cown (by decide));exact h1.kept G (.inr (Zo h1 hb2 (by intro cur;simp)).symm)
 ·have h1:=h.eown.kept hg (JO h.eown h.cown (by decide));exact h1.kept G (.inr (Zo h1 hb2 (by intro cur;simp)).symm)
 ·rw[Z4d,List.length_append];exact ho.kept G (.inr (Zo ho hb2 (by intro cur;simp)).symm)
 ·exact h.dis
def Uu (x:Nm):List Value:=[.int .i64 x.1,.int .i64 x.2]
theorem Qm (l:List Nm):ZC l=(l.map Uu).flatten:=by
 rw[ZC,List.flatMap_def];rfl
def J0 (x y:Nm):Bool:=decide (YJ x.1 x.2 y.1 y.2 < 0)
theorem XZ (x y:Nm):J0 x y=true↔x.1 < y.1\/x.1=y.1/\x.2 < y.2:=by
 rw[J0,decide_eq_true_eq,YJ,Z3B,zj,Z13,zj]
theorem Z6q:Ord J0:=by
 refine⟨fun x y h=>?_,fun x y z h1 h2=>?_⟩
 ·rw[XZ]at h;rw[<-Bool.not_eq_true,XZ];omega
 ·rw[<-Bool.not_eq_true,XZ]at *;omega
theorem Z7v (args:Y6)(w:World):(callFunc 124 args).run zq w = .ok (.enter 124 args) w:=by kernel_rfl
theorem Zdy (x y:Nm)(w:World):Calls zq 124 #[.agg (Uu x).toArray,.agg (Uu y).toArray] w fun e w'=>e = .returned (.int .i64 (YJ x.1 x.2 y.1 y.2))/\VB w.heap.size w w':=
 zh x.1 x.2 y.1 y.2 w
theorem Yx.table {Wb W:World}{p bT q:Nat}{R:Jn}(h:Yx Wb p R W)(ht:YP Wb bT q)(h1:bT≠p)(h2:q≠p):YP W bT q:=
 ht.of_blocks (h.same.block q ht.lt.1 h2) (h.same.block bT ht.lt.2 h1)
theorem Z8V (args:Y6)(w:World):(callFunc 217 args).run zq w = .ok (.enter 217 args) w:=by kernel_rfl
theorem Z8G (args:Y6)(w:World):(callFunc 218 args).run zq w = .ok (.enter 218 args) w:=by kernel_rfl
theorem Qj (l:Nat):Z1F (Fence.wide.inRound l) := .inr ⟨l,rfl⟩
theorem Z8u {e:Xv}{base p bT q:Nat}{R:Jn}{W:World}{ha:zA}{hc:Nat}{ea:zA}{ec:Nat}{ca:zA}{cc:Nat}(ht:YP W bT q)(h:J4 base W p ha hc ea ec ca cc R.hs R.es R.cs)(hbase:base<=W.heap.size)(h1:R.hs.length<=1000000)(h2:R.es.length<=1000000)(hk:1<=e.x.n.kind/\e.x.n.kind<=4):
  ∃g lb,(Instr.lookup 245 (.map (some bT)) (.int .i64 e.x.n.kind) false).run zq W = .ok (.func (.func g) #[] lb) W/\(∀(args:Y6) (w:World),(callFunc g args).run zq w = .ok (.enter g args) w) /\
   Calls zq g (#[.pointer (some ⟨p,0,none⟩),.agg (Jv e)] ++ lb) W (Z4R base W p ha hc ea ec R e):=by
 have hk':e.x.n.kind=1\/e.x.n.kind=2\/e.x.n.kind=3\/e.x.n.kind=4:=by omega
 have h0 : ∀{g:Nat} {r:Ending->World->Prop},Calls zq g #[.pointer (some ⟨p,0,none⟩),.agg (Jv e)] W r->Calls zq g (#[.pointer (some ⟨p,0,none⟩),.agg (Jv e)] ++ #[]) W r:=fun h=>by rw[Array.append_empty];exact h
 rcases hk' with hk | hk | hk | hk
 ·exact⟨217,#[],by rw[hk];exact ht.at1,Z8V,h0 (Zdb h hbase h1 hk)⟩
 ·exact⟨218,#[.pointer (some ⟨q,0,none⟩)],by rw[hk];exact ht.at2,Z8G,Zda q h ht.1 hbase h2 hk⟩
 ·exact⟨216,#[],by rw[hk];exact ht.at3,ZcL,h0 (Zcl h hbase h2 (by omega) (by omega))⟩
 ·exact⟨216,#[],by rw[hk];exact ht.at4,ZcL,h0 (Zcl h hbase h2 (by omega) (by omega))⟩
def Z63:Xv:=⟨(0,0),⟨Zh,none,0⟩⟩
theorem Z6g (W:World):(Instr.alloc 210 true (.tuple #[])).run zq W = .ok (.pointer (some ⟨W.heap.size,0,none⟩)) (W.alloc (.cells (Jv Z63) 210)):=by kernel_rfl
theorem Z55 {op:Oper}{a:Act}{w:World}{K:Act->World->Prop}{Q:Exit->Act->World->Prop}(ho:op.op = .alloc 210)
  (h:K (a.put op.dst (.pointer (some ⟨w.heap.size,0,none⟩))) (w.alloc (.cells (Jv Z63) 210))):op.wp zq a w K Q:=by
 have e1:=Z6g w;unfold Oper.wp execOp;simp[ho,e1,Result.andThen];exact h
theorem Z3s {ops:Array Oper}{rest:List Oper}{op:Oper}{a:Act}{w:World}{Q:Exit->Act->World->Prop}(hgd:op.guard=none)(ho:op.op = .alloc 210)
  (h:wpList zq ops Q rest (a.put op.dst (.pointer (some ⟨w.heap.size,0,none⟩))) (w.alloc (.cells (Jv Z63) 210))):wpList zq ops Q (op :: rest) a w:=
 wpList_plain hgd fun _ hK=>Z55 ho (hK _ _ h)
theorem Zd9 (e:Xv):(Jv e).all (·.oneCell')=true:=by
 rw[Array.all_eq_true];intro i hi;exact Z6G e _ (by simp[Jv])
theorem Ym {P:Program}{ops:Array Oper}{rest:List Oper}{op:Oper}{a:Act}{w w':World}{Q:Exit->Act->World->Prop}(hgd:op.guard=none)(s x:Operand)(t:TypeId)(ho:op.op = .call { callee := .builtin .append,args := #[s,x],argTypes := #[t,t] })(v1 v2 v:Value)
  (hs:a.eval s=v1) (hx:a.eval x=v2) (hr:(Builtin.append_ #[t,t] op.type #[v1,v2]).run P w = .ok v w') (h:wpList P ops Q rest (a.put op.dst v) w'):wpList P ops Q (op :: rest) a w:=
 wpList_plain hgd fun _ hK=>Y4 s x t ho v1 v2 v hs hx hr (hK _ _ h)
theorem YB {P:Program}{ops:Array Oper}{rest:List Oper}{op:Oper}{a:Act}{w:World}{Q:Exit->Act->World->Prop}(hgd:op.guard=none)(ty:TypeId)(x y:Operand)(ho:op.op = .store ty x y)(p:Nat)(c c':Y6)(t:TypeId)(hx:a.eval x = .pointer (some ⟨p,0,none⟩))(hy:a.eval y = .agg c')(hg:w.heap[p]? = some (.cells c t (0,0)))
  (hi:(P.info? ty).map (·.size)=some c'.size) (hc:c.size=c'.size) (h1:c'.all (·.oneCell')=true)
  (h : ∀w',w'.heap[p]? = some (.cells c' t (0,0))->w.grownBy w' (some p)->w'.heap.size=w.heap.size->wpList P ops Q rest (a.put op.dst undef) w'):wpList P ops Q (op :: rest) a w:=
 wpList_plain hgd fun _ hK=>ZT ty x y ho p c c' t hx hy hg hi hc h1 (fun w' h1 h2 h3=>hK _ _ (h w' h1 h2 h3))
theorem Z7w (l:List Nm): ∀u∈ZC l,u.oneCell'=true:=by
 intro u hu;rw[ZC,List.mem_flatMap]at hu;obtain⟨a,_,h⟩:=hu;simp only[List.mem_cons,List.not_mem_nil,or_false]at h;rcases h with rfl | rfl <;> rfl
theorem Z6j {day:Int}{R:Jn}{e:Xv}(h1:e.x.n.day<=day)(h2:Z0c R e=true):Yq day R e=Uk R e:=by simp[Yq,h1,h2]
theorem Z54 {day:Int}{R:Jn}{e:Xv}(h1:e.x.n.day<=day)(h2:Z0c R e=false):Yq day R e = { R with cs:=R.cs ++ [e.nm] } := by simp[Yq,h1,h2]
theorem Z96 {R:Jn}{e:Xv}(h2:Z0c R e=false):Uk R e=R:=by simp[Uk,h2]
theorem Z6l {day:Int}{R:Jn}{e:Xv}(h1 : ¬e.x.n.day<=day):Yq day R e=R:=by simp[Yq,h1]
def Z0m (w:World)(day:Int)(f J:Nm->Option LN)(vs:List Nm)(e:Ending)(w':World):Prop:=
 ∃(R:Jn) (ha:zA) (hc:Nat) (ea:zA) (ec:Nat) (ca:zA) (cc:Nat) (xs:List LN) (ks:List Nm),e = .returned (.agg #[.slice ha R.hs.length hc,.slice ea R.es.length ec,.slice ca R.cs.length cc]) /\
  w'.ownsRow w.heap.size 210 21 (.slice ha R.hs.length hc) R.hs.length (XI R.hs)/\w'.ownsRow w.heap.size 210 21 (.slice ea R.es.length ec) R.es.length (XI R.es)/\w'.ownsRow w.heap.size 45 2 (.slice ca R.cs.length cc) R.cs.length (ZC R.cs) /\
  Z1n w' w.heap.size xs/\ks.Nodup/\Xt f ks/\(xs.map LN.n).Perm (ks.filterMap (evN f J))/\xs.Pairwise (fun x y=>Z2l y x=false) /\
  R.hs=(Xn day (xs.map Xb)).hs/\R.es=(Xn day (xs.map Xb)).es/\R.cs.Perm ((Xn day (xs.map Xb)).cs ++ vs)/\R.cs.Pairwise (fun x y=>J0 y x=false)
theorem Z6i (pB bS bJ n m:Nat)(va:zA)(vc:Nat)(vs:List Nm)(f J:Nm->Option LN)(day:Int)(w:World)
  (hb:Qh w pB bS bJ va vs.length vc) (hm:ZZ LN.val w bS n f) (hj:ZZ LN.val w bJ m J) (hfo:FOk f) (hjf : ∀a x,J a=some x -> ∃k,f k=some x)
  (hrd : ∀a x,f a=some x->x.ok w/\x.n.strokes.length<=1000000) (hn:n<=1000) (hv:Y3 w 2 va vs.length vc (ZC vs)) (hk : ∀k y,evN f J k=some y->1<=y.kind/\y.kind<=4)
  (hcnt : ∀ks:List Nm,ks.Nodup->Xt f ks->(ks.filterMap (evN f J)).length+vs.length<=1000):
  Calls zq 152 #[.pointer (some ⟨pB,0,none⟩),.int .i64 day] w fun e w'=>Z0m w day f J vs e w'/\Below w.heap.size w w':=by
 have HB:=zH hb;clear hb;have HM:=zH hm;clear hm;have HJ:=zH hj;clear hj;have FO:=zH hfo;clear hfo;have JF:=zH hjf;clear hjf;have RD:=zH hrd;clear hrd;have HV:=zH hv;clear hv;have HK:=zH hk;clear hk;have HC:=zH hcnt;clear hcnt;refine(callsIn_wide (n:=4)).1 ?_;refine callsIn_of_wp_marks Tryz.func152 rfl trivial ?_;simp only[Tryz.ntmps152,List.size_toArray,List.length_cons,List.length_nil,Nat.reduceAdd,Nat.reduceSub,Array.replicate_succ,Array.replicate_zero,List.push_toArray,List.append_toArray,List.nil_append,List.cons_append];refine wpIn_wide.2 ?_;go_upto_region 2 with fail;have B0:=zH ((((zB w (.cells #[.int .i64 day] 3)).alloc (by simp) (.cells #[.slice none 0 0,.slice none 0 0,.slice none 0 0] 77)).alloc (by simp;omega) (.cells #[.slice none 0 0,.slice none 0 0,.slice none 0 0] 77)));have D0:=zH (Z9 _ (.cells #[.slice none 0 0,.slice none 0 0,.slice none 0 0] 77) _ _ (Z9 _ (.cells #[.slice none 0 0,.slice none 0 0,.slice none 0 0] 77) _ _ (Za w (.cells #[.int .i64 day] 3))));have P0:=zH (Z9 _ (.cells #[.slice none 0 0,.slice none 0 0,.slice none 0 0] 77) _ _ (Zy (w.alloc (.cells #[.int .i64 day] 3)) (.cells #[.slice none 0 0,.slice none 0 0,.slice none 0 0] 77) (w.heap.size+1) (by simp)));have Q0:=zH (Zy ((w.alloc (.cells #[.int .i64 day] 3)).alloc (.cells #[.slice none 0 0,.slice none 0 0,.slice none 0 0] 77)) (.cells #[.slice none 0 0,.slice none 0 0,.slice none 0 0] 77) (w.heap.size+1+1) (by simp));obtain⟨pD,hpD⟩:=zX (w.heap.size);obtain⟨pR,hpR⟩:=zX (w.heap.size+1);obtain⟨p,hp⟩:=zX (w.heap.size+1+1);rw[hp.out,hpR.out,hpD.out];rw[hpD.out]at D0;rw[hpR.out]at P0;rw[hp.out]at Q0;generalize ((w.alloc (.cells #[.int .i64 day] 3)).alloc (.cells #[.slice none 0 0,.slice none 0 0,.slice none 0 0] 77)).alloc (.cells #[.slice none 0 0,.slice none 0 0,.slice none 0 0] 77)=w0 at *;go_upto_region 3 with (first
  |(go_at_call 192
    refine(Z83 _).mono ?_;rintro e w1 ⟨bT,q,rfl,hT,hb1,hq1,hq2⟩;have HT:=zH hT;have HB1:=zH hb1;have HQ:=zH (And.intro hq1 hq2);clear hT hb1 hq1 hq2;dsimp only)
  | fail)
 have B1:=zH (B0.out.trans (HB1.out.mono B0.out.size));have hal:=zB w1 (.cells #[.map (some bT)] 245);have T2:=zH (Za w1 (.cells #[.map (some bT)] 245));have B2:=zH (B1.out.trans (hal.mono B1.out.size));have HT2:=zH (HT.out.below hal);have D2:=zH (Z7 hal (Z7 HB1.out D0.out));have P2:=zH (Z7 hal (Z7 HB1.out P0.out));have Q2:=zH (Z7 hal (Z7 HB1.out Q0.out));clear hal HT B1 HB1 D0 P0 Q0 B0 HQ;obtain⟨pT,hpT⟩:=zX (w1.heap.size);rw[hpT.out]at T2 ⊢;generalize w1.alloc (.cells #[.map (some bT)] 245)=w2 at *;go_wp2_with (first
  |(go_at_call 193
    refine(Z93 pB bS bJ n m va vs.length vc f J w2 (Z7 B2.out HB.out) (HM.out.below B2.out) (HJ.out.below B2.out) FO.out JF.out (fun a x h=>⟨(RD.out a x h).1.below B2.out,(RD.out a x h).2⟩) hn).mono ?_;rintro e w3 ⟨⟨pL,a,c,xs,ks,rfl,h1,h2,h3,h4,h5,h6,h7,h8⟩,hb3⟩;have HL:=zH h1;have HO:=zH h2;have HE:=zH h3;have HKS:=zH (And.intro h4 (And.intro h5 (And.intro h6 h7)));have HPL:=zH h8;have B3:=zH hb3;clear h1 h2 h3 h4 h5 h6 h7 h8 hb3;dsimp only)
  | fail)
 have T3:=zH (Z7 B3.out T2.out);have D3:=zH (Z7 B3.out D2.out);have P3:=zH (Z7 B3.out P2.out);have Q3:=zH (Z7 B3.out Q2.out);have HT3:=zH (HT2.out.below B3.out);have B4:=zH (B2.out.trans (B3.out.mono B2.out.size));have HW2:Hid (w.heap.size<=w2.heap.size):=zH B2.out.size;have ENV:Hid (Z3q w3 p pL w2.heap.size a c xs):=zH ⟨Q3.out,HL.out,HO.out⟩;have NT:Hid (pT≠p):=zH (fun e=>by have h1:=T3.out;rw[e,Q3.out]at h1;simp at h1);have ND:Hid (pD≠p):=zH (fun e=>by have h1:=D3.out;rw[e,Q3.out]at h1;simp at h1);have NB:Hid (bT≠p):=zH (fun e=>by obtain⟨es,clock,h1,_⟩:=HT3.out.2;rw[e,Q3.out]at h1;simp at h1);have NQ:Hid (q≠p):=zH (fun e=>by have h1:=HT3.out.1;rw[e,Q3.out]at h1;simp at h1);have NR:Hid (pR≠p):=zH (by have:=hpR.out;have:=hp.out;omega);have HKD:Hid (∀x∈xs,1<=x.n.kind/\x.n.kind<=4):=zH (fun x hx=>by
  have h1:=HKS.out.2.2.1.subset (List.mem_map_of_mem (f:=LN.n) hx);obtain⟨k,_,h2⟩:=List.mem_filterMap.1 h1;exact HK.out k x.n h2)
 have HLEN:Hid (xs.length+vs.length<=1000):=zH (by
  have h1:=HC.out ks HKS.out.1 HKS.out.2.1;have h2:=HKS.out.2.2.1.length_eq;rw[List.length_map]at h2;omega)
 clear T2 D2 P2 Q2 HT2 HL HO B3 HK HC;refine(wpIn_wide (n:=4)).1 ?_;refine UE (n:=3) (σ:=Nat×LN) (w:=w3) (gf:=223) (lb := #[.pointer (some ⟨pL,0,none⟩)]) rfl (enters_of Tryz.func223 (by kernel_rfl) rfl)
  (fun s=>#[.agg (Jv (Xb s.2))]) (fun _=>rfl) (Zf5 w3 p day xs) (fun s W=>Yx w3 p (Xn day ((xs.take (s.1+1)).map Xb)) W)
  (fun s a₁ W=>∃pX,a₁ = { tmps := #[.pointer (some ⟨pB,0,none⟩),.int .i64 day,undef,.pointer (some ⟨pD,0,none⟩),.pointer (some ⟨pR,0,none⟩),.pointer (some ⟨p,0,none⟩),.pointer (some ⟨pT,0,none⟩),.pointer (some ⟨pX,0,none⟩),.map (some bT),.pointer (some ⟨pB,0,none⟩),.func (.func 223) #[] #[.pointer (some ⟨pL,0,none⟩)],.agg (Jv (Xb s.2)),undef,undef,undef,undef,undef,undef,undef,undef,undef,undef,undef,undef,undef,undef,undef,undef,undef,undef,undef,undef,undef,undef,undef,undef,undef,undef,undef,undef,undef,undef,undef,undef,undef,undef],defers:=[] } /\ W.heap[pX]? = some (.cells (Jv (Xb s.2)) 210)/\xs[s.1]? = some s.2/\VN w3 p (Xn day ((xs.take s.1).map Xb)) pX W)
  (fun W=>Yx w3 p (Xn day (xs.map Xb)) W) ?hA' ?hB ?hD ?assign ?body ?iter ?done
 case hA'=>
  rintro s a₁ W o ⟨pX,rfl,h1,h3,h4⟩ ⟨r,hr⟩;refine⟨pX,rfl,(World.putObj_heap_other (fun e=>?_)).trans h1,h3,h4.putObj o ⟨r,hr⟩⟩;rw[e,hr]at h1;simp at h1
 case hB=>
  intro s W o h hl;exact h.putObj o hl
 case hD=>
  intro W o h hl;exact h.putObj o hl
 case assign=>
  rintro⟨k,x⟩ W ⟨h1,h2⟩;have I21:=zH (show ∀(x:Xv),(zq.info? 210).map (·.size)=some (Jv x).size from fun x=>by kernel_rfl);have H1:=zH h1;have H2:=zH h2;clear h1 h2;dsimp only;have hb5:Below W.heap.size W (W.alloc (.cells (Jv (Xb x)) 210)):=zB W _;have HG:=zH (show KeepsFrom w3.heap.size W (W.alloc (.cells (Jv (Xb x)) 210))/\(W.alloc (.cells (Jv (Xb x)) 210)).heap[W.heap.size]? = some (.cells (Jv (Xb x)) 210)/\xs[k]? = some x/\VN w3 p (Xn day ((xs.take k).map Xb)) W.heap.size (W.alloc (.cells (Jv (Xb x)) 210))from
   ⟨(JH hb5).from _,Za W _,H1.out,H2.out.bound hb5⟩)
  clear hb5 H1 H2;have hf : ∀t:Y6,(#[11].zip #[Value.agg (Jv (Xb x))]).foldl (fun t (p,v)=>t.setIfInBounds p v) t=t.setIfInBounds 11 (.agg (Jv (Xb x))):=fun t=>by simp
  rw[hf];simp only[List.setIfInBounds_toArray,List.set_cons_succ,List.set_cons_zero];clear hf;refine YG (Qj _) (U1 (fun a w h=>h)) ?hnd ?_
  case hnd=>rfl
  refine Z3s rfl rfl ?_;refine Zv W rfl 210 _ _ rfl W.heap.size rfl (Jv Z63) (Jv (Xb x)) rfl rfl (I21.out _) rfl (Zd9 _) ?_;exact⟨HG.out.1,W.heap.size,rfl,HG.out.2⟩
 case body=>
  rintro⟨k,x⟩ a₁ W ⟨pX,rfl,hX,h1,h2⟩;have I21:=zH (show ∀(x:Xv),(zq.info? 210).map (·.size)=some (Jv x).size from fun x=>by kernel_rfl);have HX:=zH hX;have H1:=zH (show xs[k]? = some x from h1);have H2:=zH (show VN w3 p (Xn day ((xs.take k).map Xb)) pX W from h2);clear hX h1 h2;have HNX:=zH (Z8D day xs k x H1.out);have HL1:Hid ((Xn day ((xs.take k).map Xb)).hs.length+(Xn day ((xs.take k).map Xb)).es.length+(Xn day ((xs.take k).map Xb)).cs.length<=1000):=zH (by
   have h1:=Z5r day ((xs.take k).map Xb);have h2:=HLEN.out;rw[List.length_map,List.length_take]at h1;omega)
  dsimp only;rw[HNX.out];generalize Xn day ((xs.take k).map Xb)=R at *;have hS:=H2.out.same;obtain⟨ha,hc,ea,ec,ca,cc,hRA,htop⟩:=H2.out.reg;have HRA:=zH hRA;have HTOP:=zH htop;clear hRA htop;obtain⟨g,lb,hlk,hfn,hcall⟩:=Z8u (e:=Xb x) (H2.out.st.table HT3.out NB.out NQ.out) HRA.out hS.size (by have:=HL1.out;omega) (by have:=HL1.out;omega) (HKD.out x (List.mem_of_getElem? H1.out));have c5:=Z6 HX.out 5 (.int .i64 x.n.day) rfl;have c6:=Z6 HX.out 6 (.int .i64 x.n.kind) rfl;have cT:=Z6 (H2.out.st.blk T3.out NT.out) 0 (.map (some bT)) rfl;have cD:=Z6 (H2.out.st.blk D3.out ND.out) 0 (.int .i64 day) rfl;have HCL:=zH hcall;have HSm:=zH hS;clear hcall hS;replace hlk:(Instr.lookup 245 (.map (some bT)) (.int .i64 x.n.kind) false).run zq W = .ok (.func (.func g) #[] lb) W:=hlk;apply wpIn_block;apply wpIn_seq_k;intro K1 hK1;refine YG (Qj _) (U1 (fun a w h=>h)) ?hnd ?_
  case hnd=>rfl
  by_cases hd:x.n.day<=day
  ·have t0:decide (x.n.day<=day)=true:=by simp[hd]
   have HD:=zH hd;clear hd;go_wp2_with (first
    |(refine UP ?hw 210 _ rfl pX rfl 210 (Jv (Xb x)) (0,0) _ HX.out Tryz.underlying210 rfl (I21.out _) ?_;case hw=>rfl)
    | fail)
   refine HCL.out.mono ?_;intro r W5 he;have S5:=zH (Yx.eff HSm.out HRA.out he);have KP:=zH he.2.2.2;have HX5:Hid (W5.heap[pX]? = some (.cells (Jv (Xb x)) 210)):=zH ((he.2.2.1.block pX (Array.getElem?_eq_some_iff.1 HX.out).1 (fun e=>absurd (HTOP.out pX e) (Nat.lt_irrefl _))).trans HX.out);obtain⟨rfl,-,-,-⟩:=he;clear HCL hlk hfn c5 c6 cT cD t0;obtain⟨bv,hbv⟩ : ∃bv,Z0c R (Xb x)=bv:=⟨_,rfl⟩;have HBV:=zH hbv;rw[hbv];clear hbv;dsimp only;cases bv with
   | true=>
    go_wp2_with fail;gi_wp2_with fail;exact⟨KP.out.from _,by show Yx _ _ (Yq day R (Xb x)) _;rw[Z6j HD.out HBV.out];exact S5.out⟩
   | false=>
    have S6:=zH (show Yx w3 p R W5 by have:=S5.out;rwa [Z96 HBV.out]at this);clear S5 HRA HTOP;obtain⟨ha,hc,ea,ec,ca,cc,hRA⟩:=S6.out.reg;have HRA:=zH hRA;clear hRA;go_wp2_with fail;refine wpIn_cond (t:=true) rfl ?_;rw[if_pos rfl];refine YG (Qj _) (U1 (fun a w h=>h)) ?hnd ?_
    case hnd=>rfl
    have bn:Below W5.heap.size W5 (W5.alloc (.cells #[.int .i64 x.n.house,.int .i64 x.n.num] 45)):=zB _ _;have hRB:=HRA.out.below bn;obtain⟨a',c',v9,hrun,ho,hg⟩:=XS (W5.alloc (.cells #[.int .i64 x.n.house,.int .i64 x.n.num] 45)) w3.heap.size ca R.cs.length cc _ hRB.cown _ 1 1 _ (Vu W5 (.int .i64 x.n.house) (.int .i64 x.n.num)) (by simp[Value.oneCell']) (by have:=HL1.out;omega) (Nat.le_trans S6.out.size bn.size);have hN:=hRB.addC (ns:=[(Xb x).nm]) ho hg;have CL3:=Zc hg hRB.blk (Zo hRB.cown hRB.blk (by intro cur;simp));have hcl3:=Z6 CL3 2 (.slice ca R.cs.length cc) rfl;have hfz:=Zq CL3 2;have HFIN:Hid (KeepsFrom w3.heap.size W (v9.setCell ⟨p,2,none⟩ (.slice a' (R.cs.length+1) c'))/\Yx w3 p (Yq day R (Xb x)) (v9.setCell ⟨p,2,none⟩ (.slice a' (R.cs.length+1) c'))):=zH (by
     refine⟨((KP.out.trans (JH bn)).trans (z6 hRB.blk hRB.cown hN.2)).from _,?_⟩;rw[Z54 HD.out HBV.out];exact⟨⟨ha,hc,ea,ec,a',c',hN.1⟩,(S6.out.same.trans (Zb.of_below bn)).reg (hN.2.weaken (fun k hk=>hk.imp id (fun h=>(hRB.cown.lt k h).1)))⟩)
    have hcl:=Z6 HRA.out.blk 2 (.slice ca R.cs.length cc) rfl;have e0:=Z6 HX5.out 0 (.int .i64 x.n.house) rfl;have e1:=Z6 HX5.out 1 (.int .i64 x.n.num) rfl;clear bn hRB ho hg hN CL3;go_wp2_with (first
     |(refine Ym rfl _ _ _ rfl _ _ _ rfl rfl hrun ?_)
     | fail)
    exact HFIN.out
  ·have t0:decide (x.n.day<=day)=false:=by simp[hd]
   have HD:=zH hd;clear hd;clear hlk hfn;go_wp2_with fail;gi_wp2_with fail;exact⟨KeepsFrom.refl _ _,by show Yx _ _ (Yq day R (Xb x)) _;rw[Z6l (by have:=HD.out;show ¬x.n.day<=day;omega)];exact H2.out.st⟩
 case iter=>
  intro rec hlr hY;have hbb:=(zB w3 (.deferred (some []))).alloc (by simp) (.loop (rec .ready none));refine Ze1 3 w3 p pL w2.heap.size day a c xs ENV.out rec _ ⟨⟨none,0,none,0,none,0,Z7 hbb Q3.out,World.ownsRow_nil _ _ _ _,World.ownsRow_nil _ _ _ _,World.ownsRow_nil _ _ _ _,.inl rfl⟩,Zb.of_below hbb⟩ hlr hY
 case done=>
  intro W hW hD0;dsimp only;have HW:=zH hW;have HD0:=zH hD0;clear hW hD0;go_upto_region 7 with fail;obtain⟨R,hR⟩:=zX (Xn day (xs.map Xb));have HCN:Hid (R.cs.length+vs.length<=1000):=zH (by
   have h1:=Z5r day (xs.map Xb);have h2:=HLEN.out;rw[List.length_map,hR.out]at h1;omega)
  rw[hR.out]at HW;have NPB:Hid (pB≠p):=zH (fun e=>by have h1:=Z7 B4.out HB.out;rw[e,Q3.out]at h1;simp at h1);have HBW:=zH (HW.out.blk (Z7 B4.out HB.out) NPB.out);have HPR:=zH (HW.out.blk P3.out NR.out);have BW:Hid (Below w.heap.size w W):=zH (HW.out.same.below B4.out B4.out.size (fun k hk=>by have:=hp.out;omega));obtain⟨ha,hc,ea,ec,ca,cc,hRA⟩:=HW.out.reg;have HRA:=zH hRA;clear hRA;refine zp HBW.out fun hh=>?_;have bd:=(zd W);have KV:=zH (JH bd);have SV:=zH (HW.out.same.trans (Zb.of_below bd));have RA:=zH (HRA.out.below bd);have BV:=zH (BW.out.trans (bd.mono BW.out.size));replace HBW:=zH (Z7 bd HBW.out);have PRV:=zH (Z7 bd HPR.out);clear bd HRA HPR;generalize W.drew=V at *;have RV:=zH (HV.out.below BV.out);refine zw 0 rfl p 2 ?_;refine zw 2 rfl pB 0 ?_;refine zw 3 rfl pB 0 ?_;refine zw 4 rfl pB 2 ?_;refine zS 5 rfl (.slice va vs.length vc) (fun W h=>by have hc:=Z6 h 2 (.slice va vs.length vc) rfl;go_simp) ?_;refine zR 1 rfl fun K hK=>?_;have hcl:=Z6 RA.out.blk 2 (.slice ca R.cs.length cc) rfl;go_simp;clear hcl;refine zK hK HBW.out fun hh=>?_;clear hK K;refine zR 6 rfl fun K hK=>?_;obtain⟨a',c',v9,hrun,ho,hg⟩:=XS _ w3.heap.size ca R.cs.length cc _ RA.out.cown va vs.length vc _ RV.out (Z7w vs) (by have:=HCN.out;omega) SV.out.size;have HN:=zH (RA.out.addC (ns:=vs) ho hg);have CL3:=zH (Zc hg RA.out.blk (Zo RA.out.cown RA.out.blk (by intro cur;simp)));replace HBW:Hid (v9.heap[pB]? = some (.cells #[.map (some bS),.map (some bJ),.slice va vs.length vc] 243)):=zH (Zc hg HBW.out (Zo RA.out.cown HBW.out (by intro cur;simp)));clear ho hg;rw[if_pos (by kernel_rfl)];refine Y4 _ _ _ rfl _ _ _ rfl rfl hrun ?_;clear hrun;refine zK hK HBW.out fun hh=>?_;clear hK K;refine zw 7 rfl p 2 ?_;refine zR 8 rfl fun K hK=>?_;have hcl:=Z6 CL3.out 2 (.slice ca R.cs.length cc) rfl;have hfz:=Zq CL3.out 2;have h5:some pB≠some p:=fun e2=>by
   have h1:=HBW.out;rw[Option.some.inj e2,CL3.out]at h1;simp at h1
  replace HBW:=zH (Zc (Zn v9 p 2 (.slice a' (R.cs.length+vs.length) c')) HBW.out h5);go_simp;refine zK hK HBW.out fun hh=>?_;clear hK K;refine zE ?_;clear hcl hfz h5 CL3 RV;generalize v9.setCell ⟨p,2,none⟩ (.slice a' (R.cs.length+vs.length) c')=V9 at *;have HP9:Hid (V9.heap[p]? = some (.cells #[.slice ha R.hs.length hc,.slice ea R.es.length ec,.slice a' (R.cs.length+vs.length) c'] 77)):=zH (by have:=HN.out.1.blk;rwa [List.length_append]at this);have HC9:Hid (V9.ownsRow w3.heap.size 45 2 (.slice a' (R.cs.length+vs.length) c') (R.cs.length+vs.length) (((R.cs ++ vs).map Uu).flatten)):=zH (by have:=HN.out.1.cown;rwa [List.length_append,Qm]at this);have HPR9:=zH ((HN.out.2.block pR (Zk PRV.out) (fun e=>e.elim (fun e=>NR.out e) (fun e=>Zo RA.out.cown PRV.out (by intro cur;simp) e.symm))).trans PRV.out);have c92:=Z6 HP9.out 2 (.slice a' (R.cs.length+vs.length) c') rfl;go_wp2_with (first
   |(go_at_call 170
     refine(zx (V:=Nm) Z6q Uu (fun _=>rfl) (fun x v hv=>by simp only[Uu,List.mem_cons,List.not_mem_nil,or_false]at hv;rcases hv with rfl | rfl <;> rfl) (fun x y=>YJ x.1 x.2 y.1 y.2) (fun _ _=>rfl) 124 Z7v Zdy w3.heap.size (R.cs.length+vs.length) c' a' (R.cs ++ vs) _ HC9.out (by simp) (by have:=HCN.out;omega)).mono ?_;rintro e w10 ⟨rfl,zs,hz1,hz2,hz3,hz4⟩;have Z1:=zH hz1;have Z2:=zH hz2;have Z3:=zH hz3;have Z4:=zH hz4;have HP10:Hid (w10.heap[p]? = some (.cells #[.slice ha R.hs.length hc,.slice ea R.es.length ec,.slice a' (R.cs.length+vs.length) c'] 77)):=zH ((hz4.block p (Zk HP9.out) (fun e=>Zo HC9.out HP9.out (by intro cur;simp) e.symm)).trans HP9.out);have HPRX:=zH ((hz4.block pR (Zk HPR9.out) (fun e=>Zo HC9.out HPR9.out (by intro cur;simp) e.symm)).trans HPR9.out);clear hz1 hz2 hz3 hz4 c92;dsimp only)
   |(refine wpList_load_row rfl 77 _ rfl p rfl 77 #[.slice ha R.hs.length hc,.slice ea R.es.length ec,.slice a' (R.cs.length+vs.length) c'] (0,0) _ HP10.out Tryz.underlying77 rfl (by kernel_rfl) ?_)
   |(refine YB rfl 77 _ _ rfl pR #[.slice none 0 0,.slice none 0 0,.slice none 0 0] #[.slice ha R.hs.length hc,.slice ea R.es.length ec,.slice a' (R.cs.length+vs.length) c'] 77 rfl rfl HPRX.out (by kernel_rfl) rfl (by simp[Value.oneCell']) ?_;intro w11 hr1 hr2 hr3)
   | fail)
  have H11:=zH hr1;have KS:KeepsOthers V9 w10:=⟨Z4.out.size,fun k o hk ho=>(Z4.out.block k (Array.getElem?_eq_some_iff.1 hk).1 (fun e=>by have:=Z0U HC9.out e hk;rw[this]at ho;cases ho)).trans hk⟩;have HD10:=(((KV.out.trans (z6 RA.out.blk RA.out.cown HN.out.2)).trans KS).same _ _ HD0.out rfl);have HD11:=zH (Zc hr2 HD10 (fun e=>by rw[Option.some.inj e,HPRX.out]at HD10;simp at HD10));clear KS HD10;have KEEP : ∀{b e k n:Nat} {v:Value} {ys:List Value},e≠45->e≠77->V.ownsRow b e k v n ys->(w11.putObj w3.heap.size (.deferred none)).ownsRow b e k v n ys:=by
   intro b e k n v ys hn1 hn2 h;have h1:=Ze h HN.out.2 (fun j hj hs=>hs.elim (fun e2=>Zo h RA.out.blk (fun cur hh=>hn2 (by injection hh with _ h4 _;exact h4.symm)) (hj.trans (congrArg some e2)).symm) (fun h2=>(JO h RA.out.cown hn1).elim (fun h3=>by rw[h3]at hj;cases hj) (fun h3=>h3 (hj.trans h2.symm))));have h2:=Ze h1 Z4.out (fun j hj hs=>(JO h1 HC9.out hn1).elim (fun h3=>by rw[h3]at hj;cases hj) (fun h3=>h3 (hj.trans hs.symm)));have h3:=h2.kept hr2 (.inr (Zo h2 HPRX.out (fun cur hh=>hn2 (by injection hh with _ h4 _;exact h4.symm))).symm);exact ownsRow_putObj h3 _ HD11.out rfl
  have hzl:zs.length=R.cs.length+vs.length:=by rw[Z2.out.length_eq,List.length_append]
  have hcs:(w11.putObj w3.heap.size (.deferred none)).ownsRow w3.heap.size 45 2 (.slice a' zs.length c') zs.length (ZC zs):=by
   rw[hzl,Qm];exact ownsRow_putObj (Z1.out.kept hr2 (.inr (Zo Z1.out HPRX.out (by intro cur;simp)).symm)) _ HD11.out rfl
  have hpD:=hpD.out;have hb9:=HN.out.2.below BV.out BV.out.size (fun k hk=>hk.elim (fun e=>by have:=hp.out;omega) (fun h=>Nat.le_trans B4.out.size (RA.out.cown.lt k h).1));have hb10:=Z4.out.below hb9 hb9.size (fun k hk=>Nat.le_trans B4.out.size (HC9.out.lt k hk).1);have hb11:=hb10.grown hr2 hb10.size (fun k e=>by cases e;have:=hpR.out;omega);have hbz:Below w.heap.size w (w11.putObj w3.heap.size (.deferred none)):=hb11.grown (grownBy_putObj' w11 _ _) hb11.size (fun k e=>by cases e;exact B4.out.size);have hprz:(w11.putObj w3.heap.size (.deferred none)).heap[pR]? = some (.cells #[.slice ha R.hs.length hc,.slice ea R.es.length ec,.slice a' zs.length c'] 77):=by
   rw[hzl];exact(World.putObj_heap_other (fun e=>by have h1:=HD11.out;rw[<-e,H11.out]at h1;simp at h1)).trans H11.out
  have hle:=B4.out.size;have h32:=HW2.out;have FIN:=zH (show Z0m w day f J vs (.returned (.agg #[.slice ha R.hs.length hc,.slice ea R.es.length ec,.slice a' zs.length c'])) (w11.putObj w3.heap.size (.deferred none))from
   ⟨⟨R.hs,R.es,zs⟩,ha,hc,ea,ec,a',c',xs,ks,rfl,Zx (KEEP (by decide) (by decide) RA.out.hown) hle,Zx (KEEP (by decide) (by decide) RA.out.eown) hle,Zx hcs hle,
    fun x hx=>Zx (KEEP (by decide) (by decide) (Ze (HE.out x hx) SV.out (fun j hj e2=>Zo (HE.out x hx) Q3.out (by intro cur;simp) (hj.trans (congrArg some e2)).symm))) h32,
    HKS.out.1,HKS.out.2.1,HKS.out.2.2.1,HKS.out.2.2.2,by rw[hR.out],by rw[hR.out],by rw[hR.out];exact Z2.out,Z3.out⟩)
  refine⟨by simp,.inl ⟨_,_,rfl,run_takeDeferred HD11.out,?_⟩⟩;refine⟨.agg #[.slice ha R.hs.length hc,.slice ea R.es.length ec,.slice a' zs.length c'],results_cell_row rfl _ _ pR 77 _ (0,0) _ rfl hprz Tryz.underlying77 rfl (by kernel_rfl),FIN.out,hbz⟩
theorem Z34 {k:Nm}{x:LN}: ∀(xs:List LN) (g:Nm->Option LN),(xs.foldl (fun f x=>YH f x.nm x) g) k=some x->(x∈xs/\x.nm=k)\/g k=some x
 | [],_,h => .inr h
 | y :: xs,g,h=>by
  rcases Z34 xs _ h with ⟨h1,h2⟩ | h1
  ·exact .inl ⟨List.mem_cons_of_mem _ h1,h2⟩
  ·simp only[YH]at h1
   split at h1
   ·rename_i hk
    cases h1
    exact .inl ⟨List.mem_cons_self ..,hk.symm⟩
   ·exact .inr h1
theorem ZP {xs:List LN}{k:Nm}{x:LN}(h:ZS xs k=some x):x∈xs/\x.nm=k:=by
 rcases Z34 xs _ h with h | h
 ·exact h
 ·cases h
theorem Z7u {α:Type} [DecidableEq α]: ∀(l m:List α),l.Nodup->(∀a∈l,a∈m)->l.length<=m.length
 | [],_,_,_=>Nat.zero_le _
 | a :: l,m,hn,hs=>by
  have ha:=hs a (List.mem_cons_self ..)
  rw[List.nodup_cons]at hn
  have h1:=Z7u l (m.erase a) hn.2 (fun b hb=>(List.mem_erase_of_ne (fun e=>hn.1 (by rw[<-e];exact hb))).2 (hs b (List.mem_cons_of_mem _ hb)))
  have h2:=List.length_erase_of_mem ha
  have h3:0 < m.length:=List.length_pos_of_mem ha
  simp only[List.length_cons]
  omega
theorem Z5R {xs:List LN}{ks:List Nm}(hn:ks.Nodup)(p:Nm->Bool)(hp : ∀k,p k=true->(ZS xs k).isSome=true):(ks.filter p).length<=xs.length:=by
 have h:=Z7u (ks.filter p) (xs.map LN.nm) (hn.sublist List.filter_sublist) (fun a ha=>by
  have h1:=hp a (List.mem_filter.1 ha).2;obtain⟨x,hx⟩:=Option.isSome_iff_exists.1 h1;obtain⟨h2,h3⟩:=ZP hx;rw[<-h3];exact List.mem_map_of_mem h2)
 rwa [List.length_map]at h
theorem ZcR {xs:List LN}{ks:List Nm}(hn:ks.Nodup):(Uh (ZS xs) ks).length<=xs.length:=by
 refine Z5R hn _ (fun k hk=>?_);cases h:ZS xs k with
 | none=>simp[h]at hk
 | some x=>rfl
theorem Z1l {α β:Type}(g:α->Option β): ∀l:List α,(l.filterMap g).length=(l.filter (fun a=>(g a).isSome)).length
 | []=>rfl
 | a :: l=>by
  have:=Z1l g l
  cases h:g a <;> simp[List.filterMap_cons,List.filter_cons,h,this]
theorem ZdZ {xs:List LN}{ks:List Nm}{J:Nm->Option LN}(hn:ks.Nodup):(ks.filterMap (evN (ZS xs) J)).length<=xs.length:=by
 rw[Z1l];refine Z5R hn _ (fun k hk=>?_);unfold evN at hk;cases h:ZS xs k with
 | none=>simp[h]at hk
 | some x=>rfl
theorem Zcg {xs:List LN}{ks:List Nm}{J:Nm->Option LN}(hJ:YR (ZS xs) ks J)(hk : ∀x∈xs,J8 x.n=false->x.n.kind=6\/(1<=x.n.fix/\x.n.fix<=4))(k:Nm)(y:Z8)(h:evN (ZS xs) J k=some y):1<=y.kind/\y.kind<=4:=by
 unfold evN at h;cases h1:ZS xs k with
 | none=>simp[h1]at h
 | some x=>
  simp only[h1]at h;split at h
  ·rename_i hd;cases h2:J k with
   | none=>
    simp only[h2]at h;cases h;simpa [J8,Jw] using hd
   | some j=>
    simp only[h2]at h;split at h
    ·cases h
    ·rename_i h6;cases h;obtain⟨⟨k',_,h3⟩,h4,_⟩:=(hJ k).2 j h2;have hd:J8 j.n=false:=by simp only[QD,Bool.and_eq_true]at h4;simpa using h4.1.1
     rcases hk j (ZP h3).1 hd with h5 | h5
     ·exact absurd h5 h6
     ·exact h5
  ·cases h
theorem Z0m.mono {w w1 w':World}{day:Int}{f J:Nm->Option LN}{vs:List Nm}{e:Ending}(h:Z0m w1 day f J vs e w')(hw:w.heap.size<=w1.heap.size):Z0m w day f J vs e w':=by
 obtain⟨R,ha,hc,ea,ec,ca,cc,xs,ks,h1,h2,h3,h4,h5,h6⟩:=h;exact⟨R,ha,hc,ea,ec,ca,cc,xs,ks,h1,Zx h2 hw,Zx h3 hw,Zx h4 hw,fun x hx=>Zx (h5 x hx) hw,h6⟩
theorem Z0m.kept {w w1 w':World}{day:Int}{f J:Nm->Option LN}{vs:List Nm}{e:Ending}{p:Nat}{A:Y6}(h:Z0m w day f J vs e w1)(hp:w1.heap[p]? = some (.cells A 77))(hg:w1.grownBy w' (some p)):Z0m w day f J vs e w':=by
 obtain⟨R,ha,hc,ea,ec,ca,cc,xs,ks,h1,h2,h3,h4,h5,h6⟩:=h;exact⟨R,ha,hc,ea,ec,ca,cc,xs,ks,h1,h2.kept hg (.inr (Zo h2 hp (by intro cur;simp)).symm),h3.kept hg (.inr (Zo h3 hp (by intro cur;simp)).symm),h4.kept hg (.inr (Zo h4 hp (by intro cur;simp)).symm),
  fun x hx=>(h5 x hx).kept hg (.inr (Zo (h5 x hx) hp (by intro cur;simp)).symm),h6⟩
theorem ZbD {W W':World}{x:LN}{b:Nat}{es:Array MapEntry}{clock:Nat}(h:x.ok W)(hg:W.grownBy W' (some b))(hb:W.heap[b]? = some (.map es clock)):x.ok W':=by
 refine⟨h.1,h.2.1,h.2.2.1,h.2.2.2.imp id ?_⟩;rintro⟨b',off,h1,h2⟩;refine⟨b',off,h1,fun i v hv=>?_⟩;have h3:=h2 i v hv;by_cases he:b'=b
 ·subst he;simp[World.cell?,hb]at h3
 ·rw[<-h3];have hlt:b' < W.heap.size:=World.block_lt_of_cell? W _ h3;simp only[World.cell?,hg.block b' hlt (fun e=>he (Option.some.inj e))]
def Z8m (l:List Z8)(day:Int)(w:World)(e:Ending)(w':World):Prop:=
 ∃v xs ks J,e = .returned (.tuple #[v,.int .i64 0])/\xs.map LN.n=l/\ks.Nodup/\Xt (ZS xs) ks/\YR (ZS xs) ks J/\Z0m w day (ZS xs) J (Uh (ZS xs) ks) (.returned v) w'
def Zi (n:Z8):Nm:=(n.house,n.num)
def Z9l (n:Z8):Nm:=(n.refH,n.refN)
theorem Z9r (x:LN):x.nm=Zi x.n:=rfl
def Z0t (r x:Z8):Bool := !J8 x && (decide (Z9l x=Zi r) && (J8 r && Jz x r))
def JA (r:Z8)(b:Option Z8)(x:Z8):Option Z8:=if Z0t r x=true then (match b with | none=>some x | some y=>if Xo y x < 0 then some x else some y)else b
def Z8N (l:List Z8)(r:Z8):Option Z8:=l.foldl (JA r) none
def countP (l:List Z8)(r:Z8):Option Z8:=if J8 r=true then (match Z8N l r with | none=>some r | some j=>if j.kind=6 then none else some (Jg r j))else none
def Z4q (n:Z8):List Z8->List Z8
 | []=>[n]
 | y :: ys=>if JV y n < 0 then y :: Z4q n ys else n :: y :: ys
def Zbp (l:List Z8):List Z8:=l.foldl (fun out n=>Z4q n out) []
def Z3G (l:List Z8):List Z8:=Zbp (l.filterMap (countP l))
/-! ### Sets -/
theorem Z78 {f:Yo}{l:List Z8}: ∀(n k:Nat),(Vh f l n k).1=0 -> ∀i,k<=i->i < k+n->Vx f l i=none
 | 0,k,_,i,h1,h2=>by omega
 | n+1,k,h,i,h1,h2=>by
  rw[Vh]at h
  cases he:Vx f l k with
  | some e=>
   rw[he]at h
   simp only at h
   subst h
   exfalso
   unfold Vx at he
   split at he
   ·cases he
   ·split at he
    ·cases he
    ·split at he
     ·cases he
     ·split at he
      ·cases he
      ·split at he <;> cases he
  | none=>
   rw[he]at h
   rcases Nat.eq_or_lt_of_le h1 with h3 | h3
   ·rw[<-h3];exact he
   ·exact Z78 n (k+1) h i h3 (by omega)
theorem Z6Q {l:List Z8}(h : ∀i x y,l[i]? = some x->l[i+1]? = some y->J0 (Zi x) (Zi y)=true):l.Pairwise (fun x y=>J0 (Zi x) (Zi y)=true):=by
 induction l with
 | nil=>exact List.Pairwise.nil
 | cons a l ih=>
  have ih':=ih (fun i x y h1 h2=>h (i+1) x y h1 h2);refine List.pairwise_cons.2 ⟨fun y hy=>?_,ih'⟩;cases l with
  | nil=>cases hy
  | cons b l=>
   have hab:=h 0 a b rfl rfl;rcases List.mem_cons.1 hy with rfl | hy
   ·exact hab
   ·have hby:=(List.pairwise_cons.1 ih').1 y hy;rw[XZ]at *;omega
theorem Qk {f:Yo}{l:List Z8}(h:(Zs f l).1=0):f.valid=true/\l.length<=400/\(∀x∈l,Zg f x=true)/\l.Pairwise (fun x y=>J0 (Zi x) (Zi y)=true):=by
 unfold Zs at h;split at h
 ·cases h
 ·rename_i hv;split at h
  ·cases h
  ·rename_i hl;have hg:=Z78 l.length 0 h;refine⟨by simpa using hv,by omega,fun x hx=>?_,Z6Q (fun i x y hx hy=>?_)⟩
   ·obtain⟨i,hi⟩:=List.getElem?_of_mem hx;have h1:=hg i (Nat.zero_le _) (by have:=(List.getElem?_eq_some_iff.1 hi).1;omega);unfold Vx at h1;rw[hi]at h1;simp only at h1;split at h1
    ·cases h1
    ·rename_i h2;simpa using h2
   ·have h1:=hg (i+1) (Nat.zero_le _) (by have:=(List.getElem?_eq_some_iff.1 hy).1;omega);unfold Vx at h1;rw[hy]at h1;simp only[Nat.add_sub_cancel,hx]at h1;split at h1
    ·cases h1
    ·rw[if_neg (by omega)]at h1;simp only at h1;split at h1
     ·cases h1
     ·rename_i h0;split at h1
      ·cases h1
      ·rw[J0,decide_eq_true_eq];show YJ x.house x.num y.house y.num < 0;omega
theorem Yt {l:List Z8}(h:l.Pairwise (fun x y=>J0 (Zi x) (Zi y)=true)):(l.map Zi).Nodup:=by
 rw[List.Nodup,List.pairwise_map];refine h.imp (fun {x y} hxy e => ?_);rw[e]at hxy;have:=(XZ (Zi y) (Zi y)).1 hxy;omega
theorem QP {l:List Z8}(h:(l.map Zi).Nodup){x y:Z8}(hx:x∈l)(hy:y∈l)(e:Zi x=Zi y):x=y:=by
 induction l with
 | nil=>cases hx
 | cons a l ih=>
  rw[List.map_cons,List.nodup_cons]at h;rcases List.mem_cons.1 hx with h1 | h1
  ·rcases List.mem_cons.1 hy with h2 | h2
   ·rw[h1,h2]
   ·exact absurd (by rw[<-h1,e];exact List.mem_map_of_mem h2) h.1
  ·rcases List.mem_cons.1 hy with h2 | h2
   ·exact absurd (by rw[<-h2,<-e];exact List.mem_map_of_mem h1) h.1
   ·exact ih h.2 h1 h2
/-! ### Judges -/
theorem Z29 (r:Z8): ∀(l:List Z8) (b:Option Z8),
  (l.foldl (JA r) b=none↔b=none /\ ∀x∈l,Z0t r x=false) /\
  ∀y,l.foldl (JA r) b=some y->(b=some y\/(y∈l/\Z0t r y=true))/\(∀z,b=some z -> ¬Xo y z < 0) /\ ∀x∈l,Z0t r x=true -> ¬Xo y x < 0
 | [],b=>by
  refine⟨by simp,fun y hy=>⟨.inl hy,fun z hz=>?_,fun x hx=>by cases hx⟩⟩
  rw[List.foldl_nil]at hy
  rw[hy]at hz
  cases hz
  exact Z3f y
 | x :: l,b=>by
  have ih:=Z29 r l (JA r b x)
  rw[List.foldl_cons]
  refine⟨?_,fun y hy=>?_⟩
  ·rw[ih.1]
   constructor
   ·rintro⟨h1,h2⟩
    unfold JA at h1
    split at h1
    ·split at h1
     ·cases h1
     ·split at h1 <;> cases h1
    ·rename_i hc
     exact⟨h1,fun z hz=>by rcases List.mem_cons.1 hz with rfl | hz;simpa using hc;exact h2 z hz⟩
   ·rintro⟨rfl,h2⟩
    have hc:=h2 x (List.mem_cons_self ..)
    exact⟨by simp[JA,hc],fun z hz=>h2 z (List.mem_cons_of_mem _ hz)⟩
  ·obtain⟨h1,h2,h3⟩:=ih.2 y hy
   by_cases hc:Z0t r x=true
   ·cases hb:b with
    | none=>
     have e:JA r b x=some x:=by simp[JA,hc,hb]
     rw[e]at h1 h2
     refine⟨.inr ?_,(fun z hz=>by cases hz),fun z hz hcz=>?_⟩
     ·rcases h1 with h1 | h1
      ·cases h1;exact⟨List.mem_cons_self ..,hc⟩
      ·exact⟨List.mem_cons_of_mem _ h1.1,h1.2⟩
     ·rcases List.mem_cons.1 hz with rfl | hz
      ·exact h2 _ rfl
      ·exact h3 z hz hcz
    | some u=>
     by_cases hk:Xo u x < 0
     ·have e:JA r b x=some x:=by simp[JA,hc,hb,hk]
      rw[e]at h1 h2
      have hyx:=h2 x rfl
      refine⟨.inr ?_,fun z hz=>?_,fun z hz hcz=>?_⟩
      ·rcases h1 with h1 | h1
       ·cases h1;exact⟨List.mem_cons_self ..,hc⟩
       ·exact⟨List.mem_cons_of_mem _ h1.1,h1.2⟩
      ·cases hz
       rw[QR]at *
       omega
      ·rcases List.mem_cons.1 hz with rfl | hz
       ·exact hyx
       ·exact h3 z hz hcz
     ·have e:JA r b x=some u:=by simp[JA,hc,hb,hk]
      rw[e]at h1 h2
      have hyu:=h2 u rfl
      refine⟨?_,(fun z hz=>by cases hz;exact hyu),fun z hz hcz=>?_⟩
      ·rcases h1 with h1 | h1
       ·exact .inl h1
       ·exact .inr ⟨List.mem_cons_of_mem _ h1.1,h1.2⟩
      ·rcases List.mem_cons.1 hz with rfl | hz
       ·rw[QR]at *
        omega
       ·exact h3 z hz hcz
   ·have e:JA r b x=b:=by simp[JA,hc]
    rw[e]at h1 h2
    refine⟨?_,h2,fun z hz hcz=>?_⟩
    ·rcases h1 with h1 | h1
     ·exact .inl h1
     ·exact .inr ⟨List.mem_cons_of_mem _ h1.1,h1.2⟩
    ·rcases List.mem_cons.1 hz with rfl | hz
     ·exact absurd hcz hc
     ·exact h3 z hz hcz
theorem XA {xs:List LN}(hd:((xs.map LN.n).map Zi).Nodup){x:LN}(hx:x∈xs):ZS xs x.nm=some x:=by
 have h : ∀(xs:List LN) (g:Nm->Option LN),((xs.map LN.n).map Zi).Nodup->x∈xs->(xs.foldl (fun f x=>YH f x.nm x) g) x.nm=some x:=by
  intro xs
  induction xs with
  | nil=>intro g _ h;cases h
  | cons a xs ih=>
   intro g hd hx;rw[List.map_cons,List.map_cons,List.nodup_cons]at hd;rw[List.foldl_cons];rcases List.mem_cons.1 hx with rfl | hx
   ·have hk : ∀(ys:List LN) (g:Nm->Option LN),Zi x.n ∉ (ys.map LN.n).map Zi->(ys.foldl (fun f x=>YH f x.nm x) g) x.nm=g x.nm:=by
     intro ys
     induction ys with
     | nil=>intro g _;rfl
     | cons b ys ihy=>
      intro g hn;rw[List.map_cons,List.map_cons,List.mem_cons,not_or]at hn;rw[List.foldl_cons,ihy _ hn.2];simp[YH,Z9r,hn.1]
    rw[hk xs _ hd.1];simp[YH]
   ·exact ih _ hd.2 hx
 exact h xs _ hd hx
theorem Z79 {xs:List LN}(hd:((xs.map LN.n).map Zi).Nodup)(k:Nm)(x:LN):ZS xs k=some x↔x∈xs/\x.nm=k:=by
 constructor
 ·exact ZP
 ·rintro⟨h1,rfl⟩;exact XA hd h1
theorem Zb4 {xs:List LN}(hd:((xs.map LN.n).map Zi).Nodup){x y:LN}(hx:x∈xs)(hy:y∈xs)(e:x.nm=y.nm):x=y:=by
 have h1:=XA hd hx;rw[e,XA hd hy]at h1;exact(Option.some.inj h1).symm
theorem Zb3 {xs:List LN}(hd:((xs.map LN.n).map Zi).Nodup):xs.Nodup:=by
 rw[List.map_map]at hd;have h2:(xs.map (Zi∘LN.n)).Pairwise (· ≠ ·):=hd;rw[List.pairwise_map]at h2;exact h2.imp (fun {x y} h e=>h (by rw[e]))
theorem Zar {xs:List LN}{ks:List Nm}(hd:((xs.map LN.n).map Zi).Nodup)(hk:ks.Nodup)(ha:Xt (ZS xs) ks):(ks.filterMap (ZS xs)).Perm xs:=by
 have hn:(ks.filterMap (ZS xs)).Nodup:=by
  clear ha
  induction ks with
  | nil=>exact List.nodup_nil
  | cons k ks ih=>
   rw[List.nodup_cons]at hk;cases h:ZS xs k with
   | none=>rw[List.filterMap_cons_none h];exact ih hk.2
   | some x=>
    rw[List.filterMap_cons_some h,List.nodup_cons];refine⟨fun hx=>?_,ih hk.2⟩;obtain⟨k',hk',h'⟩:=List.mem_filterMap.1 hx;have e1:=(ZP h).2;have e2:=(ZP h').2;exact hk.1 (by rw[<-e1,e2];exact hk')
 rw[List.perm_ext_iff_of_nodup hn (Zb3 hd)];intro x;rw[List.mem_filterMap];constructor
 ·rintro⟨k,_,h⟩;exact(ZP h).1
 ·intro hx;have h:=XA hd hx;exact⟨x.nm,ha _ (by rw[h];rfl),h⟩
theorem Z6M {xs:List LN}(hd:((xs.map LN.n).map Zi).Nodup){r:LN}(hr:r∈xs)(x:LN):QD (ZS xs) r.nm x=Z0t r.n x.n:=by
 simp only[QD,XA hd hr,Z0t];rw[show refN x=Z9l x.n from rfl,Z9r,Bool.and_assoc]
theorem ZbQ {xs:List LN}{ks:List Nm}{J:Nm->Option LN}(hd:((xs.map LN.n).map Zi).Nodup)(ha:Xt (ZS xs) ks)(hJ:YR (ZS xs) ks J){r:LN}(hr:r∈xs):(J r.nm).map LN.n=Z8N (xs.map LN.n) r.n:=by
 obtain⟨h1,h2⟩:=hJ r.nm;obtain⟨s1,s2⟩:=Z29 r.n (xs.map LN.n) none;have hall : ∀x∈xs,∃k∈ks,ZS xs k=some x:=fun x hx=>⟨x.nm,ha _ (by rw[XA hd hx];rfl),XA hd hx⟩;cases hj:J r.nm with
 | none=>
  symm;rw[Option.map_none];refine s1.2 ⟨rfl,fun n hn=>?_⟩;obtain⟨x,hx,rfl⟩:=List.mem_map.1 hn;obtain⟨k,hk,hkx⟩:=hall x hx;rw[<-Z6M hd hr];exact h1 hj k hk x hkx
 | some y=>
  obtain⟨⟨k,hk,hky⟩,hc,hmax⟩:=h2 y hj;have hy:=(ZP hky).1;have hcy:Z0t r.n y.n=true:=by rw[<-Z6M hd hr];exact hc
  cases hp:Z8N (xs.map LN.n) r.n with
  | none=>
   have:=(s1.1 hp).2 y.n (List.mem_map_of_mem hy);rw[hcy]at this;cases this
  | some m=>
   obtain⟨t1,_,t3⟩:=s2 m hp;rcases t1 with t1 | ⟨tm,tc⟩
   ·cases t1
   ·obtain⟨z,hz,rfl⟩:=List.mem_map.1 tm;obtain⟨k',hk',hkz⟩:=hall z hz;have u1:=hmax k' hk' z hkz (by rw[Z6M hd hr];exact tc);have u2:=t3 y.n (List.mem_map_of_mem hy) hcy;have e:y=z:=by
     refine Zb4 hd hy hz ?_;rw[QR]at u1 u2;show(y.n.house,y.n.num)=(z.n.house,z.n.num);rw[Prod.mk.injEq];omega
    rw[Option.map_some,e]
theorem Z4y {α β:Type}(g:α->Option β){l m:List α}(h:l.Perm m):(l.filterMap g).Perm (m.filterMap g):=h.filterMap g
theorem Ze0 {xs:List LN}{ks ks2:List Nm}{J:Nm->Option LN}(hd:((xs.map LN.n).map Zi).Nodup)(ha:Xt (ZS xs) ks)(hJ:YR (ZS xs) ks J)(hk2:ks2.Nodup)(ha2:Xt (ZS xs) ks2):
  (ks2.filterMap (evN (ZS xs) J)).Perm ((xs.map LN.n).filterMap (countP (xs.map LN.n))):=by
 have h1 : ∀k,evN (ZS xs) J k=(ZS xs k).bind (fun x=>countP (xs.map LN.n) x.n):=by
  intro k;unfold evN;cases h:ZS xs k with
  | none=>rfl
  | some x=>
   obtain⟨hx,rfl⟩:=ZP h;have hj:=ZbQ hd ha hJ hx;simp only[Option.bind_some,countP];split
   ·cases hJx:J x.nm with
    | none=>rw[hJx]at hj;simp only[Option.map_none]at hj;rw[<-hj]
    | some j=>rw[hJx]at hj;simp only[Option.map_some]at hj;rw[<-hj]
   ·rfl
 have h2:ks2.filterMap (evN (ZS xs) J)=(ks2.filterMap (ZS xs)).filterMap (fun x=>countP (xs.map LN.n) x.n):=by
  rw[List.filterMap_filterMap];exact congrArg (fun g=>ks2.filterMap g) (funext h1)
 rw[h2,List.filterMap_map];exact Z4y _ (Zar hd hk2 ha2)
theorem Z6W {a b c:Z8}(h1 : ¬JV b a < 0)(h2 : ¬JV c b < 0): ¬JV c a < 0:=by
 rw[US]at *;omega
theorem Z6X {a b:Z8}(h1:JV a b < 0): ¬JV b a < 0:=by
 rw[US]at *;omega
theorem Zb9 {a b:Z8}(h1 : ¬JV a b < 0)(h2 : ¬JV b a < 0):Zi a=Zi b:=by
 rw[US]at *;show(a.house,a.num)=(b.house,b.num);rw[Prod.mk.injEq];omega
theorem Z2M (n:Z8): ∀l:List Z8,(Z4q n l).Perm (n :: l)
 | []=>List.Perm.refl _
 | y :: ys=>by
  unfold Z4q
  split
  ·exact((Z2M n ys).cons y).trans (List.Perm.swap ..)
  ·exact List.Perm.refl _
theorem Z3h {n:Z8}: ∀{l:List Z8},l.Pairwise (fun x y=>¬JV y x < 0)->(Z4q n l).Pairwise (fun x y=>¬JV y x < 0)
 | [],_=>by simp[Z4q]
 | y :: ys,h=>by
  rw[List.pairwise_cons]at h
  unfold Z4q
  split
  ·rename_i hy
   refine List.pairwise_cons.2 ⟨fun z hz=>?_,Z3h h.2⟩
   rcases List.mem_cons.1 ((Z2M n ys).subset hz)with rfl | hz
   ·exact Z6X hy
   ·exact h.1 z hz
  ·rename_i hy
   refine List.pairwise_cons.2 ⟨fun z hz=>?_,List.pairwise_cons.2 h⟩
   rcases List.mem_cons.1 hz with rfl | hz
   ·exact hy
   ·exact Z6W hy (h.1 z hz)
theorem Zbq (l:List Z8): ∀out:List Z8,(l.foldl (fun out n=>Z4q n out) out).Perm (out ++ l)/\(out.Pairwise (fun x y=>¬JV y x < 0)->(l.foldl (fun out n=>Z4q n out) out).Pairwise (fun x y=>¬JV y x < 0)):=by
 induction l with
 | nil=>intro out;exact⟨by simp,fun h=>h⟩
 | cons n l ih=>
  intro out;rw[List.foldl_cons];refine⟨(ih (Z4q n out)).1.trans ?_,fun h=>(ih (Z4q n out)).2 (Z3h h)⟩;refine((Z2M n out).append_right l).trans ?_;rw[List.cons_append];exact List.perm_middle.symm
theorem Z1r (l:List Z8):(Zbp l).Perm l:=(Zbq l []).1
theorem Z6b (l:List Z8):(Zbp l).Pairwise (fun x y=>¬JV y x < 0):=(Zbq l []).2 List.Pairwise.nil
theorem Z2S {l:List Z8}{r e:Z8}(h:countP l r=some e):Zi e=Zi r:=by
 unfold countP at h;split at h
 ·split at h
  ·cases h;rfl
  ·split at h
   ·cases h
   ·cases h;rfl
 ·cases h
theorem UC (l0:List Z8): ∀l:List Z8,(l.map Zi).Nodup->((l.filterMap (countP l0)).map Zi).Nodup
 | [],_=>by simp
 | r :: l,h=>by
  rw[List.map_cons,List.nodup_cons]at h
  cases hc:countP l0 r with
  | none=>rw[List.filterMap_cons_none hc];exact UC l0 l h.2
  | some e=>
   rw[List.filterMap_cons_some hc,List.map_cons,List.nodup_cons]
   refine⟨fun hm=>?_,UC l0 l h.2⟩
   obtain⟨e',he',h2⟩:=List.mem_map.1 hm
   obtain⟨r',hr',h3⟩:=List.mem_filterMap.1 he'
   refine h.1 ?_
   rw[<-Z2S hc,<-h2,Z2S h3]
   exact List.mem_map_of_mem hr'
theorem ZaI {l zs:List Z8}(hd:(l.map Zi).Nodup)(hp:zs.Perm (l.filterMap (countP l)))(hs:zs.Pairwise (fun x y=>¬JV y x < 0)):zs=Z3G l:=by
 refine JY (lt:=fun x y=>decide (JV x y < 0)) (fun x hx y hy h1 h2=>?_) (hp.trans (Z1r _).symm) (hs.imp (by simp)) ((Z6b _).imp (by simp));have hn:=(hp.map Zi).nodup_iff.2 (UC l l hd);exact QP hn hx hy (Zb9 (by simpa using h1) (by simpa using h2))
/-! ### The register -/
structure Z5i where
 hs:List Z8
 es:List Z8
 cs:List Nm
def Ze2 (R:Z5i)(n:Z8):Bool:=if n.kind=1 then decide (R.hs.length≠8)else if n.kind=2 then R.hs.any (fun h=>decide (Zi h=Z9l n))else true
def Z1d (day:Int)(R:Z5i)(n:Z8):Z5i:=if n.day<=day then (if Ze2 R n=true then (if n.kind=1 then { R with hs:=R.hs ++ [n] } else { R with es:=R.es ++ [n] })else { R with cs:=R.cs ++ [Zi n] })else R
def Z2t (day:Int)(l:List Z8):Z5i:=(Z3G l).foldl (Z1d day) ⟨[],[],[]⟩
def Z5K (l:List Z8)(n:Z8):Bool := !J8 n && !l.any (fun r=>Z0t r n)
def csN (day:Int)(l:List Z8):List Nm:=(l.filter (fun n=>decide (Zi n∈(Z2t day l).cs) || Z5K l n)).map Zi
structure Z0l (R:Jn)(N:Z5i):Prop where
 hs:R.hs.map (fun e=>e.x.n)=N.hs
 es:R.es.map (fun e=>e.x.n)=N.es
 cs:R.cs=N.cs
 nh : ∀e∈R.hs,e.nm=Zi e.x.n
 ne : ∀e∈R.es,e.nm=Zi e.x.n
theorem ZbY (hs:List Xv)(p:Xv->Bool):Z0D hs p < 0↔hs.any p=false:=by
 rw[Z0D];cases h:hs.findIdx? p with
 | none=>
  rw[List.findIdx?_eq_none_iff]at h;refine⟨fun _=>?_,fun _=>by decide⟩;rw[List.any_eq_false];intro x hx;rw[h x hx];simp
 | some i=>
  obtain⟨h2,h3,_⟩:=List.findIdx?_eq_some_iff_getElem.1 h;refine⟨fun h4=>by simp only at h4;omega,fun h4=>?_⟩;rw[List.any_eq_false]at h4;exact absurd h3 (by simpa using h4 _ (List.getElem_mem h2))
theorem ZcK {hs:List Xv}(h : ∀e∈hs,e.nm=Zi e.x.n)(a b:Int):hs.any (Z0C a b)=(hs.map (fun e=>e.x.n)).any (fun n=>decide (Zi n=(a,b))):=by
 rw[List.any_map]
 induction hs with
 | nil=>rfl
 | cons e hs ih=>
  rw[List.any_cons,List.any_cons,ih (fun x hx=>h x (List.mem_cons_of_mem _ hx))];congr 1;have he:=h e (List.mem_cons_self ..);simp only[Z0C,Function.comp];rw[<-he,decide_eq_decide,Prod.ext_iff]
theorem Zdc {R:Jn}{N:Z5i}(h:Z0l R N)(e:Xv):Z0c R e=Ze2 N e.x.n:=by
 unfold Z0c Ze2;have hl:R.hs.length=N.hs.length:=by rw[<-h.hs,List.length_map]
 rw[hl];split
 ·rfl
 ·split
  ·rw[<-h.hs,show Z9l e.x.n=(e.x.n.refH,e.x.n.refN)from rfl,<-ZcK h.nh];have:=ZbY R.hs (Z0C e.x.n.refH e.x.n.refN);cases hq:R.hs.any (Z0C e.x.n.refH e.x.n.refN)with
   | true=>rw[hq]at this;simp at this;simp;exact this
   | false=>rw[hq]at this;simp at this;simp;exact this
  ·rfl
theorem Z6k {day:Int}{R:Jn}{N:Z5i}(h:Z0l R N)(x:LN):Z0l (Yq day R (Xb x)) (Z1d day N x.n):=by
 have he:=Zdc h (Xb x);have e1:(Xb x).x=x:=rfl;rw[e1]at he;unfold Yq Z1d Uk;rw[e1,he];split
 ·split
  ·split
   ·exact⟨by rw[List.map_append,h.hs];rfl,h.es,h.cs,fun e hm=>by
     rcases List.mem_append.1 hm with hm | hm
     ·exact h.nh e hm
     ·rw[List.mem_singleton]at hm;subst hm;rfl,h.ne⟩
   ·exact⟨h.hs,by rw[List.map_append,h.es];rfl,h.cs,h.nh,fun e hm=>by
     rcases List.mem_append.1 hm with hm | hm
     ·exact h.ne e hm
     ·rw[List.mem_singleton]at hm;subst hm;rfl⟩
  ·exact⟨h.hs,h.es,by rw[h.cs];rfl,h.nh,h.ne⟩
 ·exact h
theorem Z8E (day:Int)(xs:List LN):Z0l (Xn day (xs.map Xb)) ((xs.map LN.n).foldl (Z1d day) ⟨[],[],[]⟩):=by
 have h : ∀(xs:List LN) (R:Jn) (N:Z5i),Z0l R N->Z0l ((xs.map Xb).foldl (Yq day) R) ((xs.map LN.n).foldl (Z1d day) N):=by
  intro xs
  induction xs with
  | nil=>intro R N h;exact h
  | cons x xs ih=>intro R N h;exact ih _ _ (Z6k h x)
 exact h xs _ _ ⟨rfl,rfl,rfl,fun e h=>(by cases h),fun e h=>(by cases h)⟩
theorem Zaj {day:Int}{l:List Xv}{e:Xv}(h:e∈(Xn day l).hs ++ (Xn day l).es):e∈l:=by
 have hg : ∀(l:List Xv) (R:Jn),e∈(l.foldl (Yq day) R).hs ++ (l.foldl (Yq day) R).es->e∈l\/e∈R.hs ++ R.es:=by
  intro l
  induction l with
  | nil=>intro R h;exact .inr h
  | cons x l ih=>
   intro R h;rcases ih _ h with h1 | h1
   ·exact .inl (List.mem_cons_of_mem _ h1)
   ·unfold Yq Uk at h1;split at h1
    ·split at h1
     ·split at h1
      ·rw[List.append_assoc,List.mem_append,List.mem_append,List.mem_singleton]at h1;rw[List.mem_cons,List.mem_append];rcases h1 with h1 | rfl | h1
       ·exact .inr (.inl h1)
       ·exact .inl (.inl rfl)
       ·exact .inr (.inr h1)
      ·rw[<-List.append_assoc,List.mem_append,List.mem_singleton]at h1;rcases h1 with h1 | rfl
       ·exact .inr h1
       ·exact .inl (List.mem_cons_self ..)
     ·exact .inr h1
    ·exact .inr h1
 rcases hg l _ h with h | h
 ·exact h
 ·simp at h
/-! ### Conflicts -/
theorem Z37 (day:Int): ∀(l:List Z8) (N:Z5i),∀a∈(l.foldl (Z1d day) N).cs,a∈N.cs\/a∈l.map Zi
 | [],N,a,h => .inl h
 | n :: l,N,a,h=>by
  rw[List.foldl_cons]at h
  rcases Z37 day l _ a h with h | h
  ·unfold Z1d at h
   split at h
   ·split at h
    ·split at h <;> exact .inl h
    ·simp only at h
     rw[List.mem_append,List.mem_singleton]at h
     rcases h with h | rfl
     ·exact .inl h
     ·exact .inr (List.mem_cons_self ..)
   ·exact .inl h
  ·exact .inr (List.mem_cons_of_mem _ h)
theorem Z1g (day:Int): ∀(l:List Z8) (N:Z5i),(l.map Zi).Nodup->N.cs.Nodup->(∀a∈N.cs,a ∉ l.map Zi)->(l.foldl (Z1d day) N).cs.Nodup
 | [],N,_,h,_=>h
 | n :: l,N,hd,h,hx=>by
  rw[List.map_cons,List.nodup_cons]at hd
  rw[List.foldl_cons]
  refine Z1g day l _ hd.2 ?_ ?_
  ·unfold Z1d
   split
   ·split
    ·split <;> exact h
    ·simp only
     rw[List.nodup_append]
     refine⟨h,by simp,fun a ha b hb e=>?_⟩
     rw[List.mem_singleton]at hb
     exact hx a ha (by rw[e,hb];exact List.mem_cons_self ..)
   ·exact h
  ·intro a ha hm
   unfold Z1d at ha
   have h2 : ∀a∈N.cs,a ∉ l.map Zi:=fun a h1 h3=>hx a h1 (List.mem_cons_of_mem _ h3)
   split at ha
   ·split at ha
    ·split at ha <;> exact h2 a ha hm
    ·simp only at ha
     rw[List.mem_append,List.mem_singleton]at ha
     rcases ha with ha | rfl
     ·exact h2 a ha hm
     ·exact hd.1 hm
   ·exact h2 a ha hm
theorem ZaH {l:List Z8}{e:Z8}(h:e∈Z3G l): ∃r∈l,J8 r=true/\Zi e=Zi r:=by
 obtain⟨r,hr,hc⟩:=List.mem_filterMap.1 ((Z1r _).subset h);refine⟨r,hr,?_,Z2S hc⟩;unfold countP at hc;split at hc
 ·assumption
 ·cases hc
theorem Zbd {xs:List LN}(hd:((xs.map LN.n).map Zi).Nodup){x:LN}(hx:x∈xs):Ui (ZS xs) x=Z5K (xs.map LN.n) x.n:=by
 unfold Ui Z5K;cases hdn:J8 x.n with
 | true=>rfl
 | false=>
  simp only[Bool.not_false,Bool.true_and];rw[List.any_map];cases hf:ZS xs (refN x)with
  | none=>
   symm;rw[Bool.not_eq_true',List.any_eq_false];intro r hr hc;simp only[Function.comp,Z0t,Bool.and_eq_true,decide_eq_true_eq]at hc;have h1:=XA hd hr;have h2:refN x=r.nm:=hc.2.1;rw[h2,h1]at hf;cases hf
  | some r=>
   obtain⟨hr,hrn⟩:=ZP hf;simp only;congr 1;cases hq:(J8 r.n && Jz x.n r.n)with
   | true=>
    symm;rw[List.any_eq_true];exact⟨r,hr,by simp only[Function.comp,Z0t,hdn,hq];simp;exact hrn.symm⟩
   | false=>
    symm;rw[List.any_eq_false];intro r' hr' hc;simp only[Function.comp,Z0t,Bool.and_eq_true,decide_eq_true_eq]at hc;have e:r'=r:=Zb4 hd hr' hr (by rw[hrn];exact hc.2.1.symm);rw[e]at hc;rw[hc.2.2.1,hc.2.2.2]at hq;cases hq
theorem Zbc {xs:List LN}{ks:List Nm}(hd:((xs.map LN.n).map Zi).Nodup)(ha:Xt (ZS xs) ks)(a:Nm):a∈Uh (ZS xs) ks ↔ ∃n∈xs.map LN.n,Z5K (xs.map LN.n) n=true/\Zi n=a:=by
 unfold Uh;rw[List.mem_filter];constructor
 ·rintro⟨_,h⟩;cases hf:ZS xs a with
  | none=>rw[hf]at h;cases h
  | some x=>
   rw[hf]at h;obtain⟨hx,hn⟩:=ZP hf;exact⟨x.n,List.mem_map_of_mem hx,by rw[<-Zbd hd hx];exact h,hn⟩
 ·rintro⟨n,hn,hi,rfl⟩;obtain⟨x,hx,rfl⟩:=List.mem_map.1 hn;have hf:=XA hd hx;exact⟨ha _ (by rw[<-Z9r,hf];rfl),by rw[<-Z9r,hf];simp only;rw[Zbd hd hx];exact hi⟩
theorem Z0A {x y:Nm}(h1:J0 x y=false)(h2:J0 y x=false):x=y:=by
 rw[<-Bool.not_eq_true,XZ]at h1 h2;rw[Prod.ext_iff];omega
theorem Zew {xs:List LN}{ks cs:List Nm}{day:Int}(hp:(xs.map LN.n).Pairwise (fun x y=>J0 (Zi x) (Zi y)=true))(hk:ks.Nodup)(ha:Xt (ZS xs) ks)
  (hc:cs.Perm ((Z2t day (xs.map LN.n)).cs ++ Uh (ZS xs) ks)) (hs:cs.Pairwise (fun x y=>J0 y x=false)):cs=csN day (xs.map LN.n):=by
 have hd:=Yt hp;generalize hl:xs.map LN.n=l at *;have hcsub : ∀a∈(Z2t day l).cs,∃r∈l,J8 r=true/\Zi r=a:=fun a h=>by
  rcases Z37 day _ _ a h with h | h
  ·cases h
  ·obtain⟨e,he,rfl⟩:=List.mem_map.1 h;obtain⟨r,hr,hd,hn⟩:=ZaH he;exact⟨r,hr,hd,hn.symm⟩
 have hvm : ∀a,a∈Uh (ZS xs) ks ↔ ∃n∈l,Z5K l n=true/\Zi n=a:=fun a=>by rw[<-hl];exact Zbc (by rw[hl];exact hd) ha a
 have hn1:((Z2t day l).cs ++ Uh (ZS xs) ks).Nodup:=by
  rw[List.nodup_append];refine⟨Z1g day _ _ ?_ List.nodup_nil (fun a h=>by cases h),hk.sublist List.filter_sublist,fun a h1 b h2 e=>?_⟩
  ·exact((Z1r _).map Zi).nodup_iff.2 (UC l l hd)
  ·subst e;obtain⟨r,hr,hdn,hn⟩:=hcsub a h1;obtain⟨n,hnl,hi,hna⟩:=(hvm a).1 h2;have e:=QP hd hr hnl (hn.trans hna.symm);rw[e]at hdn;unfold Z5K at hi;rw[hdn]at hi;cases hi
 have hn2:(csN day l).Nodup:=(hd.sublist (List.Sublist.map _ List.filter_sublist));refine JY (lt:=J0) (fun x _ y _ h1 h2=>Z0A h1 h2) (hc.trans ?_) hs ?_
 ·rw[List.perm_ext_iff_of_nodup hn1 hn2];intro a;rw[List.mem_append,hvm];unfold csN;rw[List.mem_map];constructor
  ·rintro(h | ⟨n,hn,hi,rfl⟩)
   ·obtain⟨r,hr,_,rfl⟩:=hcsub a h;exact⟨r,List.mem_filter.2 ⟨hr,by simp[h]⟩,rfl⟩
   ·exact⟨n,List.mem_filter.2 ⟨hn,by simp[hi]⟩,rfl⟩
  ·rintro⟨n,hn,rfl⟩;obtain⟨hnl,h⟩:=List.mem_filter.1 hn;rw[Bool.or_eq_true,decide_eq_true_eq]at h;rcases h with h | h
   ·exact .inl h
   ·exact .inr ⟨n,hnl,h,rfl⟩
 ·unfold csN;rw[List.pairwise_map];refine(hp.sublist List.filter_sublist).imp (fun {x y} h => ?_);exact Z6q.1 _ _ h
def Ze9 (w0 w':World)(v:Value)(R:Jn):Prop:=
 ∃(ha:zA) (hc:Nat) (ea:zA) (ec:Nat) (ca:zA) (cc:Nat),v = .agg #[.slice ha R.hs.length hc,.slice ea R.es.length ec,.slice ca R.cs.length cc] /\
  w'.ownsRow w0.heap.size 210 21 (.slice ha R.hs.length hc) R.hs.length (XI R.hs)/\w'.ownsRow w0.heap.size 210 21 (.slice ea R.es.length ec) R.es.length (XI R.es)/\w'.ownsRow w0.heap.size 45 2 (.slice ca R.cs.length cc) R.cs.length (ZC R.cs) /\
  ∀e∈R.hs ++ R.es,w'.ownsRow w0.heap.size 3 1 (.slice e.x.sa e.x.n.strokes.length e.x.sc) e.x.n.strokes.length (e.x.n.strokes.map Ys)
theorem Z5X {l:List Z8}{day:Int}{w w':World}{e:Ending}(h:Z8m l day w e w')(hp:l.Pairwise (fun x y=>J0 (Zi x) (Zi y)=true)):
  ∃v R,e = .returned (.tuple #[v,.int .i64 0])/\Ze9 w w' v R/\R.hs.map (fun e=>e.x.n)=(Z2t day l).hs/\R.es.map (fun e=>e.x.n)=(Z2t day l).es/\R.cs=csN day l /\ ∀e∈R.hs ++ R.es,e.nm=Zi e.x.n:=by
 obtain⟨v,xs,ks,J,rfl,rfl,hk,ha,hJ,R,hha,hc,ea,ec,ca,cc,ys,ks2,hv,o1,o2,o3,ho,hk2,ha2,hpm,hpw,e1,e2,e3,e4⟩:=h;have hd:=Yt hp;have hys:ys.map LN.n=Z3G (xs.map LN.n):=ZaI hd (hpm.trans (Ze0 hd ha hJ hk2 ha2)) (by
  rw[List.pairwise_map];exact hpw.imp (fun {x y} h=>by simpa [Z2l] using h))
 have hlk:=Z8E day ys;rw[hys]at hlk;have hlk:Z0l (Xn day (ys.map Xb)) (Z2t day (xs.map LN.n)):=hlk;refine⟨v,R,rfl,⟨hha,hc,ea,ec,ca,cc,by injection hv,o1,o2,o3,fun x hx=>?_⟩,by rw[e1];exact hlk.hs,by rw[e2];exact hlk.es,Zew hp hk ha (by rw[<-hlk.cs];exact e3) e4,fun x hx=>?_⟩
 ·rw[e1,e2]at hx;obtain⟨y,hy,rfl⟩:=List.mem_map.1 (Zaj hx);exact ho y hy
 ·rw[e1,e2]at hx;rcases List.mem_append.1 hx with hx | hx
  ·exact hlk.nh x hx
  ·exact hlk.ne x hx
theorem Z7V {f:Yo}{x:Z8}(h:Zg f x=true)(hd:J8 x=false):x.kind=6\/(1<=x.fix/\x.fix<=4):=by
 unfold Zg at h;rw[Bool.and_eq_true]at h;have h:=h.1;unfold okB at h;have hd : ¬(1<=x.kind/\x.kind<=4):=by
  intro h1;have:J8 x=true:=YN.2 h1;rw[hd]at this;cases this
 split at h
 ·exact absurd ⟨by omega,by omega⟩ hd
 ·split at h
  ·rw[Bool.and_eq_true,Bool.and_eq_true]at h;exact .inr (YN.1 h.2.2)
  ·rename_i h2 h5;left;unfold Ya at h;grind
theorem Xq {f:Yo}{n:Z8}(hv:f.valid=true)(hf:Zg f n=true):n.strokes.length<=200:=by
 have hst:n.strokes=[]\/XX (f.sectors - f.wide) n.strokes=true:=by
  rw[Z0F hv]at hf;simp only[Uq,Vr,JK,Jm,Xf]at hf;grind
 rcases hst with e | e
 ·rw[e];simp
 ·simp only[XX,JX,Bool.and_eq_true,decide_eq_true_eq,YN]at e;omega
def Z8q (clock:Int)(l:List Z8):List Z8:=l.filter (fun x=>!decide (clock < x.clock))
theorem Zbg (clock:Int)(xs:List LN):(xs.filter (fun x=>!decide (clock < x.n.clock))).map LN.n=Z8q clock (xs.map LN.n):=by
 unfold Z8q;rw[List.filter_map];rfl
theorem Zbh {clock:Int}{l:List Z8}(h : ∀x∈l,x.clock<=clock):Z8q clock l=l:=by
 unfold Z8q;rw[List.filter_eq_self];intro x hx;have:=h x hx;simp;omega
theorem Zbf (clock:Int)(l:List Z8):(Z8q clock l).Sublist l:=List.filter_sublist
theorem Z7a {xs:List LN}(hd:((xs.map LN.n).map Zi).Nodup)(p:LN->Bool):(fun a=>Option.filter p (ZS xs a))=ZS (xs.filter p):=by
 funext k;have hd2:(((xs.filter p).map LN.n).map Zi).Nodup:=hd.sublist ((List.filter_sublist.map _).map _);refine Option.ext fun x=>?_;rw[Z79 hd2,List.mem_filter,Option.filter_eq_some_iff,Z79 hd];constructor
 ·rintro⟨⟨h1,h2⟩,h3⟩;exact⟨⟨h1,h3⟩,h2⟩
 ·rintro⟨⟨h1,h3⟩,h2⟩;exact⟨⟨h1,h2⟩,h3⟩
def Zf6 (f:Yo)(l:List Z8)(day clock:Int)(w:World)(e:Ending)(w':World):Prop:=
 ((Zs f l).1≠0/\e = .returned (.tuple #[.agg #[.slice none 0 0,.slice none 0 0,.slice none 0 0],.int .i64 1]))\/((Zs f l).1=0/\Z8m (Z8q clock l) day w e w')
theorem ZcI (f:Yo)(a:zA)(n c:Nat)(l:List Z8)(day clock:Int)(w:World)(hr:Qs w a n c l)(hok : ∀x∈l,x.Ok):
  Calls zq 95 #[f.val,.slice a n c,.int .i64 day,.int .i64 clock] w fun e w'=>Zf6 f l day clock w e w'/\Below w.heap.size w w':=by
 have HR:=zH hr;clear hr;have HOK:=zH hok;clear hok;have I3 : ∀(x y z:Value),(zq.info? 77).map (·.size)=some (#[x,y,z]:Y6).size:=fun x y z=>by kernel_rfl
 have hmf : ∀(fn:Fn) (first cap:Y6) (w:World),(Instr.makeFunc fn first cap).run zq w = .ok (.func fn first cap) w:=fun _ _ _ _=>rfl;have B0:=zH ((((zB w (zF f 23)).alloc (by simp) (.cells #[.int .i64 clock] 3)).alloc (by simp;omega) (.cells #[.slice none 0 0,.slice none 0 0,.slice none 0 0] 77)));have F0:=zH (Z9 _ (.cells #[.slice none 0 0,.slice none 0 0,.slice none 0 0] 77) _ _ (Z9 _ (.cells #[.int .i64 clock] 3) _ _ (Za w (zF f 23))));have C0:=zH (Z9 _ (.cells #[.slice none 0 0,.slice none 0 0,.slice none 0 0] 77) _ _ (Zy (w.alloc (zF f 23)) (.cells #[.int .i64 clock] 3) (w.heap.size+1) (by simp)));have P0:=zH (Zy ((w.alloc (zF f 23)).alloc (.cells #[.int .i64 clock] 3)) (.cells #[.slice none 0 0,.slice none 0 0,.slice none 0 0] 77) (w.heap.size+1+1) (by simp));unfold Yo.val;go_enter Tryz.func95,Tryz.ntmps95;go_upto_region 1 with fail;obtain⟨pF,hpF⟩:=zX (w.heap.size);obtain⟨pC,hpC⟩:=zX (w.heap.size+1);obtain⟨p,hp⟩:=zX (w.heap.size+1+1);rw[hp.out,hpC.out,hpF.out];rw[hpF.out]at F0;rw[hpC.out]at C0;rw[hp.out]at P0;generalize ((w.alloc (zF f 23)).alloc (.cells #[.int .i64 clock] 3)).alloc (.cells #[.slice none 0 0,.slice none 0 0,.slice none 0 0] 77)=w0 at *;have f0:=Z6 F0.out 0 (.int .i64 f.rings) rfl;have f1:=Z6 F0.out 1 (.int .i64 f.sectors) rfl;have f2:=Z6 F0.out 2 (.int .i64 f.wide) rfl;go_wp2_with fail;refine(Z2q f a n c l w0 (HR.out.below B0.out) HOK.out).mono ?_;rintro e w1 ⟨h1 | h1,hb1⟩
 ·obtain⟨hbad,rfl⟩:=h1;have HBAD:=zH hbad;clear hbad;have P1:=zH (Z7 hb1 P0.out);have B1:=zH (B0.out.trans (hb1.mono B0.out.size));clear hb1;go_wp2_with (first
   |(refine YB rfl 77 _ _ rfl p #[.slice none 0 0,.slice none 0 0,.slice none 0 0] #[.slice none 0 0,.slice none 0 0,.slice none 0 0] 77 rfl rfl P1.out (by kernel_rfl) rfl (by simp[Value.oneCell']) ?_;intro w5 hr1 hr2 hr3)
   | fail)
  have B5:Hid (Below w.heap.size w w5):=zH (B1.out.grown hr2 B1.out.size (fun k e=>by cases e;have:=hp.out;omega));refine bodyPost_ret (ZI rfl _ w5 p 77 _ (0,0) _ rfl hr1 Tryz.underlying77 rfl (by kernel_rfl)) rfl ?_;exact⟨.inl ⟨HBAD.out,rfl⟩,B5.out⟩
 obtain⟨hset,xs0,b,rfl,h2,h3,h4,h5⟩:=h1;have HSET:=zH hset;clear hset;have HXS0:=zH h2;have HXO:=zH h3;have HM:=zH h4;have HBB:=zH h5;have HB1:=zH hb1;clear h2 h3 h4 h5 hb1;go_wp2_with (first
  |(go_at_call 149
    refine(Z97 b l.length (ZS xs0) pC clock w1 HM.out (Z7 HB1.out C0.out)).mono ?_;rintro e w2 ⟨rfl,h2,h3⟩;have HM2:=zH h2;have HG2:=zH h3;clear h2 h3;dsimp only)
  | fail)
 have ND0:Hid (((xs0.map LN.n).map Zi).Nodup):=zH (by rw[HXS0.out];exact Yt (Qk HSET.out).2.2.2);obtain⟨xs,hxs⟩:=zX (xs0.filter (fun x=>!decide (clock < x.n.clock)));rw[Z7a ND0.out,hxs.out]at HM2;have HXS:Hid (xs.map LN.n=Z8q clock l):=zH (by rw[<-hxs.out,Zbg,HXS0.out]);have HSUB:Hid (∀x∈xs,x∈xs0):=zH (fun x hx=>by rw[<-hxs.out]at hx;exact(List.mem_filter.1 hx).1);have HSL:Hid (∀x∈xs,x.n∈l):=zH (fun x hx=>by rw[<-HXS0.out];exact List.mem_map_of_mem (HSUB.out x hx));clear hmf f0 f1 f2;have HLN:Hid (l.length<=400):=zH (Qk HSET.out).2.1;have HXN:Hid (xs.length<=400):=zH (by have h1:=congrArg List.length HXS.out;rw[List.length_map]at h1;rw[h1];exact Nat.le_trans (Zbf clock l).length_le HLN.out);have FO:Hid (FOk (ZS xs)):=zH (fun k x h=>⟨HOK.out x.n (HSL.out x (ZP h).1),(ZP h).2⟩);obtain⟨es,ck,hbm⟩:=HM.out.blk;have HXO2:Hid (∀x∈xs,x.ok w2):=zH (fun x hx=>ZbD (HXO.out x (HSUB.out x hx)) HG2.out hbm);have B2:Hid (Below w.heap.size w w2):=zH ((B0.out.trans (HB1.out.mono B0.out.size)).grown HG2.out (Nat.le_trans B0.out.size HB1.out.size) (fun k e=>by cases e;exact Nat.le_trans B0.out.size HBB.out));have P2:Hid (w2.heap[p]? = some (.cells #[.slice none 0 0,.slice none 0 0,.slice none 0 0] 77)):=zH (Zc HG2.out (Z7 HB1.out P0.out) (fun e=>by have h1:=Z7 HB1.out P0.out;rw[Option.some.inj e,hbm]at h1;simp at h1));clear hbm HM HXO HG2 HB1 HBB F0 C0 P0 B0;refine(ZcT b l.length (ZS xs) w2 HM2.out FO.out (by have:=HLN.out;omega)).mono ?_;rintro e w3 ⟨⟨pB,bJ,va,vn,vc,ks,J,rfl,h2,h3,h4,h5,h6,h7,h8,h9,h10⟩,hb3⟩;have hvn:vn=(Uh (ZS xs) ks).length:=by have:=h8.1;rw[X3]at this;omega
 subst hvn;have HBN:=zH h2;have HND:=zH h3;have HAL:=zH h4;have HMJ:=zH h5;have HJO:=zH h7;have HVA:=zH (Y3.of_own h8);have HB3:=zH hb3;clear h2 h3 h4 h5 h6 h7 h8 h9 h10 hb3;have P3:=zH (Z7 HB3.out P2.out);have B3:=zH (B2.out.trans (HB3.out.mono B2.out.size));dsimp only;go_wp2_with (first
  |(go_at_call 152
    refine(Z6i pB b bJ l.length ks.length va vc (Uh (ZS xs) ks) (ZS xs) J day w3 HBN.out (HM2.out.below HB3.out) HMJ.out FO.out (fun a x h=>by obtain⟨⟨k,_,h1⟩,_⟩:=(HJO.out a).2 x h;exact⟨k,h1⟩)
     (fun a x h=>⟨(HXO2.out x (ZP h).1).below HB3.out,Nat.le_trans (Xq (Qk HSET.out).1 ((Qk HSET.out).2.2.1 x.n (HSL.out x (ZP h).1))) (by decide)⟩) (by have:=HLN.out;omega) HVA.out
     (Zcg HJO.out (fun x hx=>Z7V ((Qk HSET.out).2.2.1 x.n (HSL.out x hx))))
     (fun ks' hn' _=>by have h1:=ZdZ (xs:=xs) (J:=J) hn';have h2:=ZcR (xs:=xs) HND.out;have h3:=HXN.out;omega)).mono ?_
    rintro e w4 ⟨hE,hb4⟩;have HE:=zH hE;obtain⟨R,ha,hc,ea,ec,ca,cc,ys,ks2,rfl,-⟩:=hE;have P4:=zH (Z7 hb4 P3.out);have B4:=zH (B3.out.trans (hb4.mono B3.out.size));clear hb4;dsimp only)
  |(refine YB rfl 77 _ _ rfl p #[.slice none 0 0,.slice none 0 0,.slice none 0 0] #[.slice ha R.hs.length hc,.slice ea R.es.length ec,.slice ca R.cs.length cc] 77 rfl rfl P4.out (by kernel_rfl) rfl (by simp[Value.oneCell']) ?_;intro w5 hr1 hr2 hr3)
  | fail)
 have B5:Hid (Below w.heap.size w w5):=zH (B4.out.grown hr2 B4.out.size (fun k e=>by cases e;have:=hp.out;omega));have HE5:=zH ((HE.out.kept P4.out hr2).mono B3.out.size);refine bodyPost_ret (ZI rfl _ w5 p 77 _ (0,0) _ rfl hr1 Tryz.underlying77 rfl (by kernel_rfl)) rfl ?_;exact⟨.inr ⟨HSET.out,_,xs,ks,J,rfl,HXS.out,HND.out,HAL.out,HJO.out,HE5.out⟩,B5.out⟩
theorem VM {f:Yo}{x:Z8}(h:Zg f x=true):1<=x.clock/\x.clock<=1099511627776:=by
 unfold Zg at h;simp only[Bool.and_eq_true]at h;exact YN.1 h.2.2.1
def Z3J (f:Yo)(l:List Z8)(w:World)(e:Ending)(w':World):Prop:=
 ((Zs f l).1≠0/\e = .returned (.tuple #[.agg #[.slice none 0 0,.slice none 0 0,.slice none 0 0],.int .i64 1]))\/((Zs f l).1=0/\Z8m l 99999 w e w')
theorem Z3J.ok {f:Yo}{l:List Z8}{w w':World}{e:Ending}(h:Z3J f l w e w')(hs:(Zs f l).1=0):Z8m l 99999 w e w':=by
 rcases h with ⟨h,_⟩ | ⟨_,h⟩
 ·exact absurd hs h
 ·exact h
theorem Z7X (f:Yo)(a:zA)(n c:Nat)(l:List Z8)(w:World)(hr:Qs w a n c l)(hok : ∀x∈l,x.Ok):
  Calls zq 34 #[f.val,.slice a n c] w fun e w'=>Z3J f l w e w'/\Below w.heap.size w w':=by
 have HR:=zH hr;clear hr;have B0:=zH (((zB w (zF f 23)).alloc (by simp) (.cells #[.slice none 0 0,.slice none 0 0,.slice none 0 0] 77)));have F0:=zH (Z9 _ (.cells #[.slice none 0 0,.slice none 0 0,.slice none 0 0] 77) _ _ (Za w (zF f 23)));have P0:=zH (Zy (w.alloc (zF f 23)) (.cells #[.slice none 0 0,.slice none 0 0,.slice none 0 0] 77) (w.heap.size+1) (by simp));have HA:=zH (fun W hb=>ZcI f a n c l 99999 1099511627776 W (HR.out.below (show Below w.heap.size w W from hb)) hok);clear hok;have hvl:f.val = .agg #[.int .i64 f.rings,.int .i64 f.sectors,.int .i64 f.wide]:=rfl;rw[hvl]at HA ⊢;go_enter Tryz.func34,Tryz.ntmps34;go_upto_region 1 with fail;obtain⟨pF,hpF⟩:=zX (w.heap.size);obtain⟨p,hp⟩:=zX (w.heap.size+1);rw[hp.out,hpF.out];rw[hpF.out]at F0;rw[hp.out]at P0;generalize (w.alloc (zF f 23)).alloc (.cells #[.slice none 0 0,.slice none 0 0,.slice none 0 0] 77)=w0 at *;have f0:=Z6 F0.out 0 (.int .i64 f.rings) rfl;have f1:=Z6 F0.out 1 (.int .i64 f.sectors) rfl;have f2:=Z6 F0.out 2 (.int .i64 f.wide) rfl;go_wp2_with fail;refine(HA.out w0 B0.out).mono ?_;rintro e w4 ⟨h1 | h1,hb4⟩
 ·obtain⟨hbad,rfl⟩:=h1;have HBAD:=zH hbad;clear hbad;have P4:=zH (Z7 hb4 P0.out);have B4:=zH (B0.out.trans (hb4.mono B0.out.size));clear hb4;go_wp2_with (first
   |(refine YB rfl 77 _ _ rfl p #[.slice none 0 0,.slice none 0 0,.slice none 0 0] #[.slice none 0 0,.slice none 0 0,.slice none 0 0] 77 rfl rfl P4.out (by kernel_rfl) rfl (by simp[Value.oneCell']) ?_;intro w5 hr1 hr2 hr3)
   | fail)
  have B5:Hid (Below w.heap.size w w5):=zH (B4.out.grown hr2 B4.out.size (fun k e=>by cases e;have:=hp.out;omega));refine bodyPost_ret (ZI rfl _ w5 p 77 _ (0,0) _ rfl hr1 Tryz.underlying77 rfl (by kernel_rfl)) rfl ?_;exact⟨.inl ⟨HBAD.out,rfl⟩,B5.out⟩
 obtain⟨hset,hE⟩:=h1;rw[Zbh (fun x hx=>(VM ((Qk hset).2.2.1 x hx)).2)]at hE;have HSET:=zH hset;clear hset;obtain⟨v,xs,ks,J,rfl,hxs,hnd,hal,hjo,hE⟩:=hE;have HE:=zH hE;have HX:=zH (And.intro hxs (And.intro hnd (And.intro hal hjo)));obtain⟨R,ha,hc,ea,ec,ca,cc,ys,ks2,hv,-⟩:=hE;obtain rfl:v=_:=by injection hv
 have P4:=zH (Z7 hb4 P0.out);have B4:=zH (B0.out.trans (hb4.mono B0.out.size));clear hb4 hxs hnd hal hjo;dsimp only;go_wp2_with (first
  |(refine YB rfl 77 _ _ rfl p #[.slice none 0 0,.slice none 0 0,.slice none 0 0] #[.slice ha R.hs.length hc,.slice ea R.es.length ec,.slice ca R.cs.length cc] 77 rfl rfl P4.out (by kernel_rfl) rfl (by simp[Value.oneCell']) ?_;intro w5 hr1 hr2 hr3)
  | fail)
 have B5:Hid (Below w.heap.size w w5):=zH (B4.out.grown hr2 B4.out.size (fun k e=>by cases e;have:=hp.out;omega));have HE5:=zH ((HE.out.kept P4.out hr2).mono B0.out.size);refine bodyPost_ret (ZI rfl _ w5 p 77 _ (0,0) _ rfl hr1 Tryz.underlying77 rfl (by kernel_rfl)) rfl ?_;exact⟨.inr ⟨HSET.out,_,xs,ks,J,rfl,HX.out.1,HX.out.2.1,HX.out.2.2.1,HX.out.2.2.2,HE5.out⟩,B5.out⟩
theorem Z5o {f:Yo}{l:List Z8}: ∀(n k:Nat),(∀i,k<=i->i < k+n->Vx f l i=none)->Vh f l n k=(0,0)
 | 0,_,_=>rfl
 | n+1,k,h=>by
  rw[Vh,h k (Nat.le_refl _) (by omega)]
  exact Z5o n (k+1) (fun i h1 h2=>h i (by omega) (by omega))
theorem Zbu {f:Yo}{l:List Z8}(hv:f.valid=true)(h4:l.length<=400)(hf : ∀x∈l,Zg f x=true)(hp:l.Pairwise (fun x y=>J0 (Zi x) (Zi y)=true)):(Zs f l).1=0:=by
 unfold Zs;rw[if_neg (by rw[hv];decide),if_neg (by omega),Z5o];intro i _ hi;rw[Nat.zero_add]at hi;unfold Vx;rw[List.getElem?_eq_getElem hi];simp only;rw[if_neg (by rw[hf _ (List.getElem_mem hi)];decide)];by_cases h0:i=0
 ·rw[if_pos h0]
 ·rw[if_neg h0,List.getElem?_eq_getElem (by omega:i - 1 < l.length)];simp only;have h1:=List.pairwise_iff_getElem.1 hp (i - 1) i (by omega) hi (by omega);rw[J0,decide_eq_true_eq]at h1;have h2:YJ l[i - 1].house l[i - 1].num l[i].house l[i].num < 0:=h1;rw[if_neg (by omega),if_neg (by omega)]
theorem JC {x y:Z8}: Y7 x y=true↔(x.house=y.house/\x.num=y.num)/\(x.clock=y.clock/\x.day=y.day/\x.kind=y.kind/\x.stone=y.stone/\x.heap=y.heap/\x.turns=y.turns) /\
  (x.hardLo=y.hardLo/\x.hardHi=y.hardHi)/\(x.diffLo=y.diffLo/\x.diffHi=y.diffHi)/\(x.a=y.a/\x.b=y.b/\x.ring=y.ring)/\(x.refH=y.refH/\x.refN=y.refN)/\x.fix=y.fix/\x.strokes=y.strokes:=by
 simp only[Y7,QO];grind
theorem Z1B {a b:Int}(h:a=b):(a != b)=false:=by simp[h]
theorem Z0g {a b:Int}(h : ¬a=b):(a != b)=true:=by simp[h]
theorem ZbU {l m:List Int}(hl:l.length=m.length)(h : ∀j,j < l.length->l[j]?.getD 0=m[j]?.getD 0):l=m:=by
 apply List.ext_getElem hl;intro i h1 h2;have:=h i h1;simpa [List.getElem?_eq_getElem h1,List.getElem?_eq_getElem h2] using this
section
attribute [local go_sem] ZY YV Jd Vf XU Ve Vd Vc VH VG Qz Qy Qa Q9 Q8 XY Jl Jk JE
theorem Za5 (x y:Z8)(sa:zA)(sc:Nat)(ta:zA)(tc:Nat)(w:World)(hx:Xs w sa x.strokes.length sc x.strokes)(hy:Xs w ta y.strokes.length tc y.strokes):
  Calls zq 159 #[.agg (Z5 x sa sc),.agg (Z5 y ta tc)] w fun e w'=>e = .returned (.bool (Y7 x y))/\Below w.heap.size w w':=by
 have hlast:=Za w (.cells (Z5 x sa sc) 47);have p0:=Z9 (w.alloc (.cells (Z5 x sa sc) 47)) (.cells (Z5 y ta tc) 47) _ _ hlast;have q0:((w.alloc (.cells (Z5 x sa sc) 47)).alloc (.cells (Z5 y ta tc) 47)).heap[w.heap.size+1]? = some (.cells (Z5 y ta tc) 47):=by
  have:=Za (w.alloc (.cells (Z5 x sa sc) 47)) (.cells (Z5 y ta tc) 47);simpa using this
 have hb:Below w.heap.size w ((w.alloc (.cells (Z5 x sa sc) 47)).alloc (.cells (Z5 y ta tc) 47)):=(zB _ _).alloc (by simp) _;have hp:w.heap.size < ((w.alloc (.cells (Z5 x sa sc) 47)).alloc (.cells (Z5 y ta tc) 47)).heap.size:=by simp;omega
 have hq:w.heap.size+1 < ((w.alloc (.cells (Z5 x sa sc) 47)).alloc (.cells (Z5 y ta tc) 47)).heap.size:=by simp
 clear hlast;have H1:=zH p0;clear p0;have H2:=zH q0;clear q0;have HB:=zH hb;clear hb;have HP:=zH hp;clear hp;have HQ:=zH hq;clear hq;have hbx:=hx.below HB.out;have hby:=hy.below HB.out;have hmx:=hx.maxn;have hmy:=hy.maxn;have hu:=Tryz.underlying47;go_enter Tryz.func159,Tryz.ntmps159;go_upto_region 1 with fail;generalize (w.alloc (.cells (Z5 x sa sc) 47)).alloc (.cells (Z5 y ta tc) 47)=W at *;generalize hpe:w.heap.size=p at *;generalize hqe:p+1=q at *;have HPE:=zH hpe;clear hpe;have HQE:=zH hqe;clear hqe;have HX:=zH (show ∀w0,Below W.heap.size W w0->w0.heap[p]? = some (.cells (Z5 x sa sc) 47)from fun w0 h=>(h.block p HP.out).trans H1.out);have HY:=zH (show ∀w0,Below W.heap.size W w0->w0.heap[q]? = some (.cells (Z5 y ta tc) 47)from fun w0 h=>(h.block q HQ.out).trans H2.out);have hZ:p<=W.heap.size:=Nat.le_of_lt HP.out;have c15:=U0 (HX.out W (Below.refl _ _)) 15 _ rfl;have d15:=U0 (HY.out W (Below.refl _ _)) 15 _ rfl;simp only[Nat.zero_add]at c15 d15;have C15:=zH c15;have D15:=zH d15;by_cases hln:x.strokes.length=y.strokes.length
 ·have hbn:((x.strokes.length:Int) != (y.strokes.length:Int))=false:=by simp[hln]
  generalize hn:x.strokes.length=n at *;have HN:=zH hn;have HM:=zH hln;have hln':y.strokes.length=n:=hln.symm;rw[hln']at hby d15;clear hn hln hmy;have D15':=zH d15;go_wp2_with fail;clear c15 d15;go_loopw [5] (fun i wr=>∃k:Nat,k<=n/\i = .int .i64 k/\Hid (∀j,j < k->x.strokes[j]?.getD 0=y.strokes[j]?.getD 0)/\Hid (Below W.heap.size W wr)) (fun i _=>n - (intOf i).toNat)
  case atStart=>exact⟨0,Nat.zero_le _,rfl,zH (fun j hj=>by omega),zH (Below.refl _ _)⟩
  case round=>
   obtain⟨k,hk,rfl,HRL,HW⟩:=hrel;have c15:=((HW.out.cell (p:=⟨p,15,none⟩) HP.out).trans C15.out);have d15:=((HW.out.cell (p:=⟨q,15,none⟩) HQ.out).trans D15'.out);by_cases hlt:k < n
   ·obtain⟨b,off,rfl,hc⟩:=(hbx.below HW.out).at (by omega);obtain⟨b',off',rfl,hc'⟩:=(hby.below HW.out).at (by omega);have e1:=hc k hlt;have e2:=hc' k hlt;clear hc hc' hbx hby;have hk64:(k:Int)<=9223372036854775807:=by omega
    generalize hX:x.strokes[k]?.getD 0=X at *;generalize hY:y.strokes[k]?.getD 0=Y at *;have HX1:=zH hX;clear hX;have HY1:=zH hY;clear hY;by_cases he:X=Y
    ·have hb:=Z1B he;have HE:=zH he;clear he;go_wp2_with fail;go_quiet (fail);go_wp2;go_roundw
     case rel=>exact⟨k+1,by omega,by go_num,zH fun j hj=>by
      rcases Nat.lt_succ_iff_lt_or_eq.1 hj with h | h
      ·exact HRL.out j h
      ·rw[h,HX1.out,HY1.out];exact HE.out,zH (below_drewN HW.out _)⟩
     case measure=>simp[intOf];omega
    ·have hb:=Z0g he;have HE:=zH he;clear he;have hR:Y7 x y=false:=by
      rw[<-Bool.not_eq_true,JC];intro h;apply HE.out;rw[<-HX1.out,<-HY1.out,h.2.2.2.2.2.2.2]
     have HR:=zH hR;clear hR;go_wp2_with fail;go_quiet (fail);go_wp2;go_ret;rw[HR.out];exact⟨rfl,by rw[HPE.out];exact HB.out.trans ((below_drewN HW.out _).mono hZ)⟩
   ·have hkn:k=n:=by omega
    subst hkn;have hst:x.strokes=y.strokes:=ZbU (by rw[HN.out,hln']) (fun j hj=>HRL.out j (by rw[HN.out]at hj;exact hj));have HST:=zH hst;clear hst hbx hby;have hC0:Below W.heap.size W wr.drew:=HW.out.drew;by_cases h0:x.house=y.house/\x.num=y.num
    ·have HD:=zH h0;clear h0;by_cases h1:x.clock=y.clock
     ·have q1:=Z1B h1;have K1:=zH h1;clear h1;by_cases h2:x.day=y.day
      ·have q2:=Z1B h2;have K2:=zH h2;clear h2;by_cases h3:x.kind=y.kind
       ·have q3:=Z1B h3;have K3:=zH h3;clear h3;by_cases h4:x.stone=y.stone
        ·have q4:=Z1B h4;have K4:=zH h4;clear h4;by_cases h5:x.heap=y.heap
         ·have q5:=Z1B h5;have K5:=zH h5;clear h5;by_cases h6:x.turns=y.turns
          ·have q6:=Z1B h6;have K6:=zH h6;clear h6;go_upto_region 8 with fail;refine zC (fun w':World=>Below W.heap.size W w') hC0 ?_;refine zQ (.agg (Z5 x sa sc)) (fun w0 hC=>ZF (.tmp 2) rfl p rfl x sa sc (HX.out w0 hC)) ?_;refine zQ (.agg #[.int .i64 x.house,.int .i64 x.num]) (fun w0 hC=>?_) ?_
           ·go_simp;refine(Yb x sa sc _).mono ?_;rintro e w1 ⟨rfl,b1⟩;exact⟨rfl,hC.trans (b1.mono hC.size)⟩
           refine zQ (.agg (Z5 y ta tc)) (fun w0 hC=>ZF (.tmp 3) rfl q rfl y ta tc (HY.out w0 hC)) ?_;refine zQ (.agg #[.int .i64 y.house,.int .i64 y.num]) (fun w0 hC=>?_) ?_
           ·go_simp;refine(Yb y ta tc _).mono ?_;rintro e w1 ⟨rfl,b1⟩;exact⟨rfl,hC.trans (b1.mono hC.size)⟩
           refine zQ (.bool false) (fun w0 hC=>?_) ?_
           ·clear hC;go_simp;have h:=HD.out;simp[h.1,h.2]
           refine zV (.bool false) ?_;refine zv p 2 ?_;refine zQ (.int .i64 x.clock) (fun w0 hC=>?_) ?_
           ·have c2:=zc (HX.out w0 hC) 2 _ rfl;clear hC;go_simp
           refine zv q 2 ?_;refine zQ (.int .i64 y.clock) (fun w0 hC=>?_) ?_
           ·have c2:=zc (HY.out w0 hC) 2 _ rfl;clear hC;go_simp
           refine zV (.bool false) ?_;refine zV (.bool false) ?_;refine zV (.bool false) ?_;refine zv p 3 ?_;refine zQ (.int .i64 x.day) (fun w0 hC=>?_) ?_
           ·have c3:=zc (HX.out w0 hC) 3 _ rfl;clear hC;go_simp
           refine zv q 3 ?_;refine zQ (.int .i64 y.day) (fun w0 hC=>?_) ?_
           ·have c3:=zc (HY.out w0 hC) 3 _ rfl;clear hC;go_simp
           refine zV (.bool false) ?_;refine zV (.bool false) ?_;refine zV (.bool false) ?_;refine zv p 4 ?_;refine zQ (.int .i64 x.kind) (fun w0 hC=>?_) ?_
           ·have c4:=zc (HX.out w0 hC) 4 _ rfl;clear hC;go_simp
           refine zv q 4 ?_;refine zQ (.int .i64 y.kind) (fun w0 hC=>?_) ?_
           ·have c4:=zc (HY.out w0 hC) 4 _ rfl;clear hC;go_simp
           refine zV (.bool false) ?_;refine zV (.bool false) ?_;refine zV (.bool false) ?_;refine zv p 5 ?_;refine zQ (.int .i64 x.stone) (fun w0 hC=>?_) ?_
           ·have c5:=zc (HX.out w0 hC) 5 _ rfl;clear hC;go_simp
           refine zv q 5 ?_;refine zQ (.int .i64 y.stone) (fun w0 hC=>?_) ?_
           ·have c5:=zc (HY.out w0 hC) 5 _ rfl;clear hC;go_simp
           refine zV (.bool false) ?_;refine zV (.bool false) ?_;refine zV (.bool false) ?_;refine zv p 6 ?_;refine zQ (.int .i64 x.heap) (fun w0 hC=>?_) ?_
           ·have c6:=zc (HX.out w0 hC) 6 _ rfl;clear hC;go_simp
           refine zv q 6 ?_;refine zQ (.int .i64 y.heap) (fun w0 hC=>?_) ?_
           ·have c6:=zc (HY.out w0 hC) 6 _ rfl;clear hC;go_simp
           refine zV (.bool false) ?_;refine zV (.bool false) ?_;refine zV (.bool false) ?_;refine zv p 7 ?_;refine zQ (.int .i64 x.turns) (fun w0 hC=>?_) ?_
           ·have c7:=zc (HX.out w0 hC) 7 _ rfl;clear hC;go_simp
           refine zv q 7 ?_;refine zQ (.int .i64 y.turns) (fun w0 hC=>?_) ?_
           ·have c7:=zc (HY.out w0 hC) 7 _ rfl;clear hC;go_simp
           refine zV (.bool false) ?_;refine zV (.bool false) ?_;refine wpQuiet_nil ?_;intro w' hC;generalize hw9:wr=w9 at *;have ch0:=U0 (HX.out w' hC);have dh0:=U0 (HY.out w' hC);have CH:=zH ch0;have DH:=zH dh0;clear ch0 dh0;have x8:=CH.out 8 _ rfl;have x9:=CH.out 9 _ rfl;have x10:=CH.out 10 _ rfl;have x11:=CH.out 11 _ rfl;have x12:=CH.out 12 _ rfl;have x13:=CH.out 13 _ rfl;have x14:=CH.out 14 _ rfl;have x16:=CH.out 16 _ rfl;have x17:=CH.out 17 _ rfl;have x18:=CH.out 18 _ rfl;have y8:=DH.out 8 _ rfl;have y9:=DH.out 9 _ rfl;have y10:=DH.out 10 _ rfl;have y11:=DH.out 11 _ rfl;have y12:=DH.out 12 _ rfl;have y13:=DH.out 13 _ rfl;have y14:=DH.out 14 _ rfl;have y16:=DH.out 16 _ rfl;have y17:=DH.out 17 _ rfl;have y18:=DH.out 18 _ rfl;simp only[Nat.zero_add]at x8 x9 x10 x11 x12 x13 x14 x16 x17 x18 y8 y9 y10 y11 y12 y13 y14 y16 y17 y18;have HBC:=zH (HB.out.trans (hC.mono hZ));clear hC;have hS:Y7 x y=(decide (x.hardLo=y.hardLo/\x.hardHi=y.hardHi) && (decide (x.diffLo=y.diffLo/\x.diffHi=y.diffHi) && (decide (x.a=y.a) && (decide (x.b=y.b) && (decide (x.ring=y.ring) && (decide (x.refH=y.refH/\x.refN=y.refN) && decide (x.fix=y.fix))))))):=by
            rw[Bool.eq_iff_iff,JC];simp[HD.out,HST.out,K1.out,K2.out,K3.out,K4.out,K5.out,K6.out];grind
           have HS:=zH hS;clear hS;go_wp2_with fail
           all_goals
            go_ret;rw[HS.out];refine⟨?_,by rw[HPE.out];exact HBC.out⟩
            first|(simp_all only [decide_true,decide_false,Bool.true_and,Bool.false_and,Bool.and_true,Bool.and_false,and_true,true_and,and_false,false_and];done)|(clear hu HX HY H1 H2 CH DH C15 D15 D15' hx hy;simp[*];done)|(clear hu HX HY H1 H2 CH DH C15 D15 D15' hx hy;simp[*];by_cases hh:x.fix=y.fix <;> simp[hh])
          ·have q6:=Z0g h6;have hR:Y7 x y=false:=by rw[<-Bool.not_eq_true,JC];intro h;exact h6 h.2.1.2.2.2.2.2
           have HR:=zH hR;clear hR h6;go_upto_region 8 with fail;refine zC (fun w':World=>Below W.heap.size W w') hC0 ?_;refine zQ (.agg (Z5 x sa sc)) (fun w0 hC=>ZF (.tmp 2) rfl p rfl x sa sc (HX.out w0 hC)) ?_;refine zQ (.agg #[.int .i64 x.house,.int .i64 x.num]) (fun w0 hC=>?_) ?_
           ·go_simp;refine(Yb x sa sc _).mono ?_;rintro e w1 ⟨rfl,b1⟩;exact⟨rfl,hC.trans (b1.mono hC.size)⟩
           refine zQ (.agg (Z5 y ta tc)) (fun w0 hC=>ZF (.tmp 3) rfl q rfl y ta tc (HY.out w0 hC)) ?_;refine zQ (.agg #[.int .i64 y.house,.int .i64 y.num]) (fun w0 hC=>?_) ?_
           ·go_simp;refine(Yb y ta tc _).mono ?_;rintro e w1 ⟨rfl,b1⟩;exact⟨rfl,hC.trans (b1.mono hC.size)⟩
           refine zQ (.bool false) (fun w0 hC=>?_) ?_
           ·clear hC;go_simp;have h:=HD.out;simp[h.1,h.2]
           refine zV (.bool false) ?_;refine zv p 2 ?_;refine zQ (.int .i64 x.clock) (fun w0 hC=>?_) ?_
           ·have c2:=zc (HX.out w0 hC) 2 _ rfl;clear hC;go_simp
           refine zv q 2 ?_;refine zQ (.int .i64 y.clock) (fun w0 hC=>?_) ?_
           ·have c2:=zc (HY.out w0 hC) 2 _ rfl;clear hC;go_simp
           refine zV (.bool false) ?_;refine zV (.bool false) ?_;refine zV (.bool false) ?_;refine zv p 3 ?_;refine zQ (.int .i64 x.day) (fun w0 hC=>?_) ?_
           ·have c3:=zc (HX.out w0 hC) 3 _ rfl;clear hC;go_simp
           refine zv q 3 ?_;refine zQ (.int .i64 y.day) (fun w0 hC=>?_) ?_
           ·have c3:=zc (HY.out w0 hC) 3 _ rfl;clear hC;go_simp
           refine zV (.bool false) ?_;refine zV (.bool false) ?_;refine zV (.bool false) ?_;refine zv p 4 ?_;refine zQ (.int .i64 x.kind) (fun w0 hC=>?_) ?_
           ·have c4:=zc (HX.out w0 hC) 4 _ rfl;clear hC;go_simp
           refine zv q 4 ?_;refine zQ (.int .i64 y.kind) (fun w0 hC=>?_) ?_
           ·have c4:=zc (HY.out w0 hC) 4 _ rfl;clear hC;go_simp
           refine zV (.bool false) ?_;refine zV (.bool false) ?_;refine zV (.bool false) ?_;refine zv p 5 ?_;refine zQ (.int .i64 x.stone) (fun w0 hC=>?_) ?_
           ·have c5:=zc (HX.out w0 hC) 5 _ rfl;clear hC;go_simp
           refine zv q 5 ?_;refine zQ (.int .i64 y.stone) (fun w0 hC=>?_) ?_
           ·have c5:=zc (HY.out w0 hC) 5 _ rfl;clear hC;go_simp
           refine zV (.bool false) ?_;refine zV (.bool false) ?_;refine zV (.bool false) ?_;refine zv p 6 ?_;refine zQ (.int .i64 x.heap) (fun w0 hC=>?_) ?_
           ·have c6:=zc (HX.out w0 hC) 6 _ rfl;clear hC;go_simp
           refine zv q 6 ?_;refine zQ (.int .i64 y.heap) (fun w0 hC=>?_) ?_
           ·have c6:=zc (HY.out w0 hC) 6 _ rfl;clear hC;go_simp
           refine zV (.bool false) ?_;refine zV (.bool false) ?_;refine zV (.bool false) ?_;refine zv p 7 ?_;refine zQ (.int .i64 x.turns) (fun w0 hC=>?_) ?_
           ·have c7:=zc (HX.out w0 hC) 7 _ rfl;clear hC;go_simp
           refine zv q 7 ?_;refine zQ (.int .i64 y.turns) (fun w0 hC=>?_) ?_
           ·have c7:=zc (HY.out w0 hC) 7 _ rfl;clear hC;go_simp
           refine zV (.bool true) ?_;refine zV (.bool true) ?_;refine wpQuiet_nil ?_;intro w' hC;go_wp2;go_ret;rw[HR.out];exact⟨rfl,by rw[HPE.out];exact HB.out.trans (hC.mono hZ)⟩
         ·have q5:=Z0g h5;have hR:Y7 x y=false:=by rw[<-Bool.not_eq_true,JC];intro h;exact h5 h.2.1.2.2.2.2.1
          have HR:=zH hR;clear hR h5;go_upto_region 8 with fail;refine zC (fun w':World=>Below W.heap.size W w') hC0 ?_;refine zQ (.agg (Z5 x sa sc)) (fun w0 hC=>ZF (.tmp 2) rfl p rfl x sa sc (HX.out w0 hC)) ?_;refine zQ (.agg #[.int .i64 x.house,.int .i64 x.num]) (fun w0 hC=>?_) ?_
          ·go_simp;refine(Yb x sa sc _).mono ?_;rintro e w1 ⟨rfl,b1⟩;exact⟨rfl,hC.trans (b1.mono hC.size)⟩
          refine zQ (.agg (Z5 y ta tc)) (fun w0 hC=>ZF (.tmp 3) rfl q rfl y ta tc (HY.out w0 hC)) ?_;refine zQ (.agg #[.int .i64 y.house,.int .i64 y.num]) (fun w0 hC=>?_) ?_
          ·go_simp;refine(Yb y ta tc _).mono ?_;rintro e w1 ⟨rfl,b1⟩;exact⟨rfl,hC.trans (b1.mono hC.size)⟩
          refine zQ (.bool false) (fun w0 hC=>?_) ?_
          ·clear hC;go_simp;have h:=HD.out;simp[h.1,h.2]
          refine zV (.bool false) ?_;refine zv p 2 ?_;refine zQ (.int .i64 x.clock) (fun w0 hC=>?_) ?_
          ·have c2:=zc (HX.out w0 hC) 2 _ rfl;clear hC;go_simp
          refine zv q 2 ?_;refine zQ (.int .i64 y.clock) (fun w0 hC=>?_) ?_
          ·have c2:=zc (HY.out w0 hC) 2 _ rfl;clear hC;go_simp
          refine zV (.bool false) ?_;refine zV (.bool false) ?_;refine zV (.bool false) ?_;refine zv p 3 ?_;refine zQ (.int .i64 x.day) (fun w0 hC=>?_) ?_
          ·have c3:=zc (HX.out w0 hC) 3 _ rfl;clear hC;go_simp
          refine zv q 3 ?_;refine zQ (.int .i64 y.day) (fun w0 hC=>?_) ?_
          ·have c3:=zc (HY.out w0 hC) 3 _ rfl;clear hC;go_simp
          refine zV (.bool false) ?_;refine zV (.bool false) ?_;refine zV (.bool false) ?_;refine zv p 4 ?_;refine zQ (.int .i64 x.kind) (fun w0 hC=>?_) ?_
          ·have c4:=zc (HX.out w0 hC) 4 _ rfl;clear hC;go_simp
          refine zv q 4 ?_;refine zQ (.int .i64 y.kind) (fun w0 hC=>?_) ?_
          ·have c4:=zc (HY.out w0 hC) 4 _ rfl;clear hC;go_simp
          refine zV (.bool false) ?_;refine zV (.bool false) ?_;refine zV (.bool false) ?_;refine zv p 5 ?_;refine zQ (.int .i64 x.stone) (fun w0 hC=>?_) ?_
          ·have c5:=zc (HX.out w0 hC) 5 _ rfl;clear hC;go_simp
          refine zv q 5 ?_;refine zQ (.int .i64 y.stone) (fun w0 hC=>?_) ?_
          ·have c5:=zc (HY.out w0 hC) 5 _ rfl;clear hC;go_simp
          refine zV (.bool false) ?_;refine zV (.bool false) ?_;refine zV (.bool false) ?_;refine zv p 6 ?_;refine zQ (.int .i64 x.heap) (fun w0 hC=>?_) ?_
          ·have c6:=zc (HX.out w0 hC) 6 _ rfl;clear hC;go_simp
          refine zv q 6 ?_;refine zQ (.int .i64 y.heap) (fun w0 hC=>?_) ?_
          ·have c6:=zc (HY.out w0 hC) 6 _ rfl;clear hC;go_simp
          refine zV (.bool true) ?_;refine zV (.bool true) ?_;refine zV (.bool true) ?_
          iterate 5 go_big_quiet_skip
          refine zV (.bool true) ?_;refine wpQuiet_nil ?_;intro w' hC;go_wp2;go_ret;rw[HR.out];exact⟨rfl,by rw[HPE.out];exact HB.out.trans (hC.mono hZ)⟩
        ·have q4:=Z0g h4;have hR:Y7 x y=false:=by rw[<-Bool.not_eq_true,JC];intro h;exact h4 h.2.1.2.2.2.1
         have HR:=zH hR;clear hR h4;go_upto_region 8 with fail;refine zC (fun w':World=>Below W.heap.size W w') hC0 ?_;refine zQ (.agg (Z5 x sa sc)) (fun w0 hC=>ZF (.tmp 2) rfl p rfl x sa sc (HX.out w0 hC)) ?_;refine zQ (.agg #[.int .i64 x.house,.int .i64 x.num]) (fun w0 hC=>?_) ?_
         ·go_simp;refine(Yb x sa sc _).mono ?_;rintro e w1 ⟨rfl,b1⟩;exact⟨rfl,hC.trans (b1.mono hC.size)⟩
         refine zQ (.agg (Z5 y ta tc)) (fun w0 hC=>ZF (.tmp 3) rfl q rfl y ta tc (HY.out w0 hC)) ?_;refine zQ (.agg #[.int .i64 y.house,.int .i64 y.num]) (fun w0 hC=>?_) ?_
         ·go_simp;refine(Yb y ta tc _).mono ?_;rintro e w1 ⟨rfl,b1⟩;exact⟨rfl,hC.trans (b1.mono hC.size)⟩
         refine zQ (.bool false) (fun w0 hC=>?_) ?_
         ·clear hC;go_simp;have h:=HD.out;simp[h.1,h.2]
         refine zV (.bool false) ?_;refine zv p 2 ?_;refine zQ (.int .i64 x.clock) (fun w0 hC=>?_) ?_
         ·have c2:=zc (HX.out w0 hC) 2 _ rfl;clear hC;go_simp
         refine zv q 2 ?_;refine zQ (.int .i64 y.clock) (fun w0 hC=>?_) ?_
         ·have c2:=zc (HY.out w0 hC) 2 _ rfl;clear hC;go_simp
         refine zV (.bool false) ?_;refine zV (.bool false) ?_;refine zV (.bool false) ?_;refine zv p 3 ?_;refine zQ (.int .i64 x.day) (fun w0 hC=>?_) ?_
         ·have c3:=zc (HX.out w0 hC) 3 _ rfl;clear hC;go_simp
         refine zv q 3 ?_;refine zQ (.int .i64 y.day) (fun w0 hC=>?_) ?_
         ·have c3:=zc (HY.out w0 hC) 3 _ rfl;clear hC;go_simp
         refine zV (.bool false) ?_;refine zV (.bool false) ?_;refine zV (.bool false) ?_;refine zv p 4 ?_;refine zQ (.int .i64 x.kind) (fun w0 hC=>?_) ?_
         ·have c4:=zc (HX.out w0 hC) 4 _ rfl;clear hC;go_simp
         refine zv q 4 ?_;refine zQ (.int .i64 y.kind) (fun w0 hC=>?_) ?_
         ·have c4:=zc (HY.out w0 hC) 4 _ rfl;clear hC;go_simp
         refine zV (.bool false) ?_;refine zV (.bool false) ?_;refine zV (.bool false) ?_;refine zv p 5 ?_;refine zQ (.int .i64 x.stone) (fun w0 hC=>?_) ?_
         ·have c5:=zc (HX.out w0 hC) 5 _ rfl;clear hC;go_simp
         refine zv q 5 ?_;refine zQ (.int .i64 y.stone) (fun w0 hC=>?_) ?_
         ·have c5:=zc (HY.out w0 hC) 5 _ rfl;clear hC;go_simp
         refine zV (.bool true) ?_;refine zV (.bool true) ?_;refine zV (.bool true) ?_
         iterate 5 go_big_quiet_skip
         refine zV (.bool true) ?_;refine zV (.bool true) ?_
         iterate 5 go_big_quiet_skip
         refine zV (.bool true) ?_;refine wpQuiet_nil ?_;intro w' hC;go_wp2;go_ret;rw[HR.out];exact⟨rfl,by rw[HPE.out];exact HB.out.trans (hC.mono hZ)⟩
       ·have q3:=Z0g h3;have hR:Y7 x y=false:=by rw[<-Bool.not_eq_true,JC];intro h;exact h3 h.2.1.2.2.1
        have HR:=zH hR;clear hR h3;go_upto_region 8 with fail;refine zC (fun w':World=>Below W.heap.size W w') hC0 ?_;refine zQ (.agg (Z5 x sa sc)) (fun w0 hC=>ZF (.tmp 2) rfl p rfl x sa sc (HX.out w0 hC)) ?_;refine zQ (.agg #[.int .i64 x.house,.int .i64 x.num]) (fun w0 hC=>?_) ?_
        ·go_simp;refine(Yb x sa sc _).mono ?_;rintro e w1 ⟨rfl,b1⟩;exact⟨rfl,hC.trans (b1.mono hC.size)⟩
        refine zQ (.agg (Z5 y ta tc)) (fun w0 hC=>ZF (.tmp 3) rfl q rfl y ta tc (HY.out w0 hC)) ?_;refine zQ (.agg #[.int .i64 y.house,.int .i64 y.num]) (fun w0 hC=>?_) ?_
        ·go_simp;refine(Yb y ta tc _).mono ?_;rintro e w1 ⟨rfl,b1⟩;exact⟨rfl,hC.trans (b1.mono hC.size)⟩
        refine zQ (.bool false) (fun w0 hC=>?_) ?_
        ·clear hC;go_simp;have h:=HD.out;simp[h.1,h.2]
        refine zV (.bool false) ?_;refine zv p 2 ?_;refine zQ (.int .i64 x.clock) (fun w0 hC=>?_) ?_
        ·have c2:=zc (HX.out w0 hC) 2 _ rfl;clear hC;go_simp
        refine zv q 2 ?_;refine zQ (.int .i64 y.clock) (fun w0 hC=>?_) ?_
        ·have c2:=zc (HY.out w0 hC) 2 _ rfl;clear hC;go_simp
        refine zV (.bool false) ?_;refine zV (.bool false) ?_;refine zV (.bool false) ?_;refine zv p 3 ?_;refine zQ (.int .i64 x.day) (fun w0 hC=>?_) ?_
        ·have c3:=zc (HX.out w0 hC) 3 _ rfl;clear hC;go_simp
        refine zv q 3 ?_;refine zQ (.int .i64 y.day) (fun w0 hC=>?_) ?_
        ·have c3:=zc (HY.out w0 hC) 3 _ rfl;clear hC;go_simp
        refine zV (.bool false) ?_;refine zV (.bool false) ?_;refine zV (.bool false) ?_;refine zv p 4 ?_;refine zQ (.int .i64 x.kind) (fun w0 hC=>?_) ?_
        ·have c4:=zc (HX.out w0 hC) 4 _ rfl;clear hC;go_simp
        refine zv q 4 ?_;refine zQ (.int .i64 y.kind) (fun w0 hC=>?_) ?_
        ·have c4:=zc (HY.out w0 hC) 4 _ rfl;clear hC;go_simp
        refine zV (.bool true) ?_;refine zV (.bool true) ?_;refine zV (.bool true) ?_
        iterate 5 go_big_quiet_skip
        refine zV (.bool true) ?_;refine zV (.bool true) ?_
        iterate 5 go_big_quiet_skip
        refine zV (.bool true) ?_;refine zV (.bool true) ?_
        iterate 5 go_big_quiet_skip
        refine zV (.bool true) ?_;refine wpQuiet_nil ?_;intro w' hC;go_wp2;go_ret;rw[HR.out];exact⟨rfl,by rw[HPE.out];exact HB.out.trans (hC.mono hZ)⟩
      ·have q2:=Z0g h2;have hR:Y7 x y=false:=by rw[<-Bool.not_eq_true,JC];intro h;exact h2 h.2.1.2.1
       have HR:=zH hR;clear hR h2;go_upto_region 8 with fail;refine zC (fun w':World=>Below W.heap.size W w') hC0 ?_;refine zQ (.agg (Z5 x sa sc)) (fun w0 hC=>ZF (.tmp 2) rfl p rfl x sa sc (HX.out w0 hC)) ?_;refine zQ (.agg #[.int .i64 x.house,.int .i64 x.num]) (fun w0 hC=>?_) ?_
       ·go_simp;refine(Yb x sa sc _).mono ?_;rintro e w1 ⟨rfl,b1⟩;exact⟨rfl,hC.trans (b1.mono hC.size)⟩
       refine zQ (.agg (Z5 y ta tc)) (fun w0 hC=>ZF (.tmp 3) rfl q rfl y ta tc (HY.out w0 hC)) ?_;refine zQ (.agg #[.int .i64 y.house,.int .i64 y.num]) (fun w0 hC=>?_) ?_
       ·go_simp;refine(Yb y ta tc _).mono ?_;rintro e w1 ⟨rfl,b1⟩;exact⟨rfl,hC.trans (b1.mono hC.size)⟩
       refine zQ (.bool false) (fun w0 hC=>?_) ?_
       ·clear hC;go_simp;have h:=HD.out;simp[h.1,h.2]
       refine zV (.bool false) ?_;refine zv p 2 ?_;refine zQ (.int .i64 x.clock) (fun w0 hC=>?_) ?_
       ·have c2:=zc (HX.out w0 hC) 2 _ rfl;clear hC;go_simp
       refine zv q 2 ?_;refine zQ (.int .i64 y.clock) (fun w0 hC=>?_) ?_
       ·have c2:=zc (HY.out w0 hC) 2 _ rfl;clear hC;go_simp
       refine zV (.bool false) ?_;refine zV (.bool false) ?_;refine zV (.bool false) ?_;refine zv p 3 ?_;refine zQ (.int .i64 x.day) (fun w0 hC=>?_) ?_
       ·have c3:=zc (HX.out w0 hC) 3 _ rfl;clear hC;go_simp
       refine zv q 3 ?_;refine zQ (.int .i64 y.day) (fun w0 hC=>?_) ?_
       ·have c3:=zc (HY.out w0 hC) 3 _ rfl;clear hC;go_simp
       refine zV (.bool true) ?_;refine zV (.bool true) ?_;refine zV (.bool true) ?_
       iterate 5 go_big_quiet_skip
       refine zV (.bool true) ?_;refine zV (.bool true) ?_
       iterate 5 go_big_quiet_skip
       refine zV (.bool true) ?_;refine zV (.bool true) ?_
       iterate 5 go_big_quiet_skip
       refine zV (.bool true) ?_;refine zV (.bool true) ?_
       iterate 5 go_big_quiet_skip
       refine zV (.bool true) ?_;refine wpQuiet_nil ?_;intro w' hC;go_wp2;go_ret;rw[HR.out];exact⟨rfl,by rw[HPE.out];exact HB.out.trans (hC.mono hZ)⟩
     ·have q1:=Z0g h1;have hR:Y7 x y=false:=by rw[<-Bool.not_eq_true,JC];intro h;exact h1 h.2.1.1
      have HR:=zH hR;clear hR h1;go_upto_region 8 with fail;refine zC (fun w':World=>Below W.heap.size W w') hC0 ?_;refine zQ (.agg (Z5 x sa sc)) (fun w0 hC=>ZF (.tmp 2) rfl p rfl x sa sc (HX.out w0 hC)) ?_;refine zQ (.agg #[.int .i64 x.house,.int .i64 x.num]) (fun w0 hC=>?_) ?_
      ·go_simp;refine(Yb x sa sc _).mono ?_;rintro e w1 ⟨rfl,b1⟩;exact⟨rfl,hC.trans (b1.mono hC.size)⟩
      refine zQ (.agg (Z5 y ta tc)) (fun w0 hC=>ZF (.tmp 3) rfl q rfl y ta tc (HY.out w0 hC)) ?_;refine zQ (.agg #[.int .i64 y.house,.int .i64 y.num]) (fun w0 hC=>?_) ?_
      ·go_simp;refine(Yb y ta tc _).mono ?_;rintro e w1 ⟨rfl,b1⟩;exact⟨rfl,hC.trans (b1.mono hC.size)⟩
      refine zQ (.bool false) (fun w0 hC=>?_) ?_
      ·clear hC;go_simp;have h:=HD.out;simp[h.1,h.2]
      refine zV (.bool false) ?_;refine zv p 2 ?_;refine zQ (.int .i64 x.clock) (fun w0 hC=>?_) ?_
      ·have c2:=zc (HX.out w0 hC) 2 _ rfl;clear hC;go_simp
      refine zv q 2 ?_;refine zQ (.int .i64 y.clock) (fun w0 hC=>?_) ?_
      ·have c2:=zc (HY.out w0 hC) 2 _ rfl;clear hC;go_simp
      refine zV (.bool true) ?_;refine zV (.bool true) ?_;refine zV (.bool true) ?_
      iterate 5 go_big_quiet_skip
      refine zV (.bool true) ?_;refine zV (.bool true) ?_
      iterate 5 go_big_quiet_skip
      refine zV (.bool true) ?_;refine zV (.bool true) ?_
      iterate 5 go_big_quiet_skip
      refine zV (.bool true) ?_;refine zV (.bool true) ?_
      iterate 5 go_big_quiet_skip
      refine zV (.bool true) ?_;refine zV (.bool true) ?_
      iterate 5 go_big_quiet_skip
      refine zV (.bool true) ?_;refine wpQuiet_nil ?_;intro w' hC;go_wp2;go_ret;rw[HR.out];exact⟨rfl,by rw[HPE.out];exact HB.out.trans (hC.mono hZ)⟩
    ·have HD:=zH h0;have hR:Y7 x y=false:=by rw[<-Bool.not_eq_true,JC];intro h;exact h0 h.1
     have HR:=zH hR;clear hR h0;go_upto_region 8 with fail;refine zC (fun w':World=>Below W.heap.size W w') hC0 ?_;refine zQ (.agg (Z5 x sa sc)) (fun w0 hC=>ZF (.tmp 2) rfl p rfl x sa sc (HX.out w0 hC)) ?_;refine zQ (.agg #[.int .i64 x.house,.int .i64 x.num]) (fun w0 hC=>?_) ?_
     ·go_simp;refine(Yb x sa sc _).mono ?_;rintro e w1 ⟨rfl,b1⟩;exact⟨rfl,hC.trans (b1.mono hC.size)⟩
     refine zQ (.agg (Z5 y ta tc)) (fun w0 hC=>ZF (.tmp 3) rfl q rfl y ta tc (HY.out w0 hC)) ?_;refine zQ (.agg #[.int .i64 y.house,.int .i64 y.num]) (fun w0 hC=>?_) ?_
     ·go_simp;refine(Yb y ta tc _).mono ?_;rintro e w1 ⟨rfl,b1⟩;exact⟨rfl,hC.trans (b1.mono hC.size)⟩
     refine zQ (.bool true) (fun w0 hC=>?_) ?_
     ·clear hC;go_simp;by_cases h1:x.house=y.house <;> by_cases h2:x.num=y.num <;> simp[h1,h2]
      exact HD.out ⟨h1,h2⟩
     refine zV (.bool true) ?_
     iterate 5 go_big_quiet_skip
     refine zV (.bool true) ?_;refine zV (.bool true) ?_
     iterate 5 go_big_quiet_skip
     refine zV (.bool true) ?_;refine zV (.bool true) ?_
     iterate 5 go_big_quiet_skip
     refine zV (.bool true) ?_;refine zV (.bool true) ?_
     iterate 5 go_big_quiet_skip
     refine zV (.bool true) ?_;refine zV (.bool true) ?_
     iterate 5 go_big_quiet_skip
     refine zV (.bool true) ?_;refine zV (.bool true) ?_
     iterate 5 go_big_quiet_skip
     refine zV (.bool true) ?_;refine wpQuiet_nil ?_;intro w' hC;go_wp2;go_ret;rw[HR.out];exact⟨rfl,by rw[HPE.out];exact HB.out.trans (hC.mono hZ)⟩
 ·have hbn:((x.strokes.length:Int) != (y.strokes.length:Int))=true:=by simp;omega
  have hR:Y7 x y=false:=by rw[<-Bool.not_eq_true,JC];intro h;exact hln (by rw[h.2.2.2.2.2.2.2])
  have HR:=zH hR;clear hR hln;go_wp2;go_ret;rw[HR.out];exact⟨rfl,by rw[HPE.out];exact HB.out⟩
end
theorem Jr {x y:Z8}: Y7 x y=true↔x=y:=by
 constructor
 ·intro h;obtain⟨⟨h1,h2⟩,⟨h3,h4,h5,h6,h7,h8⟩,⟨h9,h10⟩,⟨h11,h12⟩,⟨h13,h14,h15⟩,⟨h16,h17⟩,h18,h19⟩:=JC.1 h;cases x;cases y;simp only[Z8.mk.injEq];exact⟨h1,h2,h3,h4,h5,h6,h7,h8,h9,h10,h11,h12,h13,h14,h15,h16,h17,h18,h19⟩
 ·rintro rfl;simp[Y7]
theorem Z8A (x y:Z8):Y7 x y=Y7 y x:=by
 rw[Bool.eq_iff_iff,Jr,Jr];exact⟨Eq.symm,Eq.symm⟩
abbrev UX (x y:Z8):Prop:=J0 (Zi x) (Zi y)=true
theorem Zam {x y z:Z8}(h1:UX x y)(h2:UX y z):UX x z:=by
 unfold UX at *;rw[XZ]at *;omega
theorem Z5C {x y:Z8}(h:UX x y):J0 (Zi y) (Zi x)=false:=by
 cases h2:J0 (Zi y) (Zi x)with
 | false=>rfl
 | true=>
  unfold UX at h;rw[XZ]at h h2;omega
theorem Z4h {x y:Z8}(h:UX x y)(e:Zi x=Zi y):False:=by
 unfold UX at h;rw[e,XZ]at h;omega
theorem ZbF {u:List Z8}(h:u.Pairwise UX):u.Nodup:=by
 rw[List.Nodup];exact h.imp (fun {x y} hxy (e:x=y)=>Z4h hxy (congrArg Zi e))
def Z2W (m:List Z8)(x:Z8):Bool:=m.any (fun y=>decide (Zi y=Zi x) && !Y7 x y)
def Z08 (l m:List Z8):Option Nm:=(l.find? (Z2W m)).map Zi
theorem Z14 {m:List Z8}{x:Z8}: Z2W m x=true ↔ ∃y∈m,Zi y=Zi x/\x≠y:=by
 unfold Z2W;rw[List.any_eq_true];constructor
 ·rintro⟨y,hy,h⟩;simp only[Bool.and_eq_true,decide_eq_true_eq,Bool.not_eq_true']at h;exact⟨y,hy,h.1,fun e=>by rw[Jr.2 e]at h;cases h.2⟩
 ·rintro⟨y,hy,h1,h2⟩;refine⟨y,hy,?_⟩;simp only[Bool.and_eq_true,decide_eq_true_eq,Bool.not_eq_true'];refine⟨h1,?_⟩;cases h3:Y7 x y with
  | false=>rfl
  | true=>exact absurd (Jr.1 h3) h2
theorem Zdj {m:List Z8}{x:Z8}(h : ∀y∈m,Zi y≠Zi x):Z2W m x=false:=by
 cases h2:Z2W m x with
 | false=>rfl
 | true=>obtain⟨y,hy,h3,_⟩:=Z14.1 h2;exact absurd h3 (h y hy)
theorem Zdk {m:List Z8}{x y:Z8}(hd:(m.map Zi).Nodup)(hy:y∈m)(e:Zi y=Zi x):Z2W m x = !Y7 x y:=by
 rw[Bool.eq_iff_iff,Z14,Bool.not_eq_true'];constructor
 ·rintro⟨z,hz,h1,h2⟩;have:z=y:=QP hd hz hy (h1.trans e.symm);subst this;cases h3:Y7 x z with
  | false=>rfl
  | true=>exact absurd (Jr.1 h3) h2
 ·intro h;exact⟨y,hy,e,fun h2=>by rw[Jr.2 h2]at h;cases h⟩
def Z4P (l m:List Z8):Prop := ∀x∈l,∀y∈m,Zi x=Zi y->x=y
theorem Z3k {l m:List Z8}: Z08 l m=none↔Z4P l m:=by
 unfold Z08;rw[Option.map_eq_none_iff,List.find?_eq_none];constructor
 ·intro h x hx y hy e;cases h2:Y7 x y with
  | true=>exact Jr.1 h2
  | false=>exact absurd (Z14.2 ⟨y,hy,e.symm,fun h3=>by rw[Jr.2 h3]at h2;cases h2⟩) (h x hx)
 ·intro h x hx hb;obtain⟨y,hy,h1,h2⟩:=Z14.1 hb;exact h2 (h x hx y hy h1.symm)
theorem Z6F {l m:List Z8}{k:Nat}{x:Z8}(hx:l[k]? = some x)(h1 : ∀j y,j < k->l[j]? = some y->Z2W m y=false)(h2:Z2W m x=true):Z08 l m=some (Zi x):=by
 unfold Z08;have hk:=(List.getElem?_eq_some_iff.1 hx).1;have e:l=l.take k ++ x :: l.drop (k+1):=by
  rw[<-(List.getElem?_eq_some_iff.1 hx).2,<-List.drop_eq_getElem_cons hk,List.take_append_drop]
 rw[e,List.find?_append];have:(l.take k).find? (Z2W m)=none:=by
  rw[List.find?_eq_none];intro y hy;obtain⟨j,hj,hj2⟩:=List.mem_take_iff_getElem.1 hy;rw[h1 j y (by omega) (by rw[<-hj2];exact List.getElem?_eq_getElem (by omega))];decide
 rw[this,List.find?_cons_of_pos h2];rfl
theorem Z90 {l m:List Z8}(h1 : ∀j y,j < l.length->l[j]? = some y->Z2W m y=false):Z08 l m=none:=by
 unfold Z08;rw[Option.map_eq_none_iff,List.find?_eq_none];intro y hy;obtain⟨j,hj⟩:=List.getElem?_of_mem hy;rw[h1 j y (List.getElem?_eq_some_iff.1 hj).1 hj];decide
def IsU (l m u:List Z8):Prop:=u.Pairwise UX /\ ∀x,x∈u↔x∈l\/x∈m
theorem VV {u v:List Z8}(h1:u.Pairwise UX)(h2:v.Pairwise UX)(h : ∀x,x∈u↔x∈v):u=v:=by
 have hp:u.Perm v:=(List.perm_ext_iff_of_nodup (ZbF h1) (ZbF h2)).2 h;refine JY (lt:=fun x y=>J0 (Zi x) (Zi y)) (fun x hx y hy h3 h4=>?_) hp (h1.imp Z5C) (h2.imp Z5C);exact QP (Yt h1) hx hy (Z0A h3 h4)
theorem Z3H {l:List Z8}{i:Nat}{x:Z8}(hx:l[i]? = some x):l.drop i=x :: l.drop (i+1):=by
 obtain⟨h1,h2⟩:=List.getElem?_eq_some_iff.1 hx;rw[List.drop_eq_getElem_cons h1,h2]
section
variable {l m out:List Z8}{i k:Nat}{x y:Z8}
end
def XN (f g:Nm->Option LN):Nm->Option LN:=fun k=>match g k with | some y=>some y | none=>f k
theorem Zbi {xs ys:List LN}{ks:List Nm}(hd:((xs.map LN.n).map Zi).Nodup)(hd2:((ys.map LN.n).map Zi).Nodup)(hn:Z4P (xs.map LN.n) (ys.map LN.n))(ha:Xt (XN (ZS xs) (ZS ys)) ks)(hin : ∀k∈ks,(XN (ZS xs) (ZS ys) k).isSome=true)
  (hs:ks.Pairwise (fun x y=>J0 x y=true)):IsU (xs.map LN.n) (ys.map LN.n) ((ks.filterMap (XN (ZS xs) (ZS ys))).map LN.n):=by
 have nmk : ∀k x,XN (ZS xs) (ZS ys) k=some x->Zi x.n=k:=fun k x h=>by
  unfold XN at h;split at h
  ·rename_i y hy;cases h;exact(ZP hy).2
  ·exact(ZP h).2
 refine⟨?_,fun x=>?_⟩
 ·rw[List.pairwise_map];clear ha hin
  induction ks with
  | nil=>exact List.Pairwise.nil
  | cons k ks ih=>
   rw[List.pairwise_cons]at hs;cases h:XN (ZS xs) (ZS ys) k with
   | none=>rw[List.filterMap_cons_none h];exact ih hs.2
   | some x=>
    rw[List.filterMap_cons_some h];refine List.pairwise_cons.2 ⟨fun y hy=>?_,ih hs.2⟩;obtain⟨k',hk',h'⟩:=List.mem_filterMap.1 hy;unfold UX;rw[nmk k x h,nmk k' y h'];exact hs.1 k' hk'
 ·constructor
  ·intro hx;obtain⟨y,hy,rfl⟩:=List.mem_map.1 hx;obtain⟨k,hk,h⟩:=List.mem_filterMap.1 hy;unfold XN at h;split at h
   ·rename_i z hz;cases h;exact .inr (List.mem_map_of_mem (ZP hz).1)
   ·exact .inl (List.mem_map_of_mem (ZP h).1)
  ·rintro(hx | hx)
   ·obtain⟨y,hy,rfl⟩:=List.mem_map.1 hx;have h1:=XA hd hy;cases h2:ZS ys y.nm with
    | none=>
     have h3:XN (ZS xs) (ZS ys) y.nm=some y:=by unfold XN;rw[h2];exact h1
     exact List.mem_map_of_mem (List.mem_filterMap.2 ⟨y.nm,ha _ (by rw[h3];rfl),h3⟩)
    | some z=>
     have h3:XN (ZS xs) (ZS ys) y.nm=some z:=by unfold XN;rw[h2]
     have h4:y.n=z.n:=hn y.n (List.mem_map_of_mem hy) z.n (List.mem_map_of_mem (ZP h2).1) ((ZP h2).2).symm;rw[h4];exact List.mem_map_of_mem (List.mem_filterMap.2 ⟨y.nm,ha _ (by rw[h3];rfl),h3⟩)
   ·obtain⟨y,hy,rfl⟩:=List.mem_map.1 hx;have h3:XN (ZS xs) (ZS ys) y.nm=some y:=by unfold XN;rw[XA hd2 hy]
    exact List.mem_map_of_mem (List.mem_filterMap.2 ⟨y.nm,ha _ (by rw[h3];rfl),h3⟩)
theorem ZbG {xs:List LN}{ks:List Nm}(hp:(xs.map LN.n).Pairwise UX)(ha:Xt (ZS xs) ks)(hin : ∀k∈ks,(ZS xs k).isSome=true)(hs:ks.Pairwise (fun x y=>J0 x y=true)):ks=(xs.map LN.n).map Zi:=by
 have hd:=Yt hp;have hp2:((xs.map LN.n).map Zi).Pairwise (fun x y=>J0 x y=true):=by rw[List.pairwise_map];exact hp
 have n1:ks.Nodup:=hs.imp (fun {x y} h e=>by rw[e,XZ]at h;omega);have asym : ∀{x y:Nm},J0 x y=true->J0 y x=false:=fun {x y} h=>by
  cases h2:J0 y x with
  | false=>rfl
  | true=>rw[XZ]at h h2;omega
 refine JY (lt:=J0) (fun x _ y _ h1 h2=>Z0A h1 h2) ((List.perm_ext_iff_of_nodup n1 hd).2 fun a=>?_) (hs.imp asym) (hp2.imp asym);constructor
 ·intro h;obtain⟨x,hx⟩:=Option.isSome_iff_exists.1 (hin a h);obtain⟨h1,h2⟩:=ZP hx;rw[List.map_map];exact List.mem_map.2 ⟨x,h1,h2⟩
 ·intro h;rw[List.map_map]at h;obtain⟨x,hx,rfl⟩:=List.mem_map.1 h;exact ha _ (by rw[show(Zi∘LN.n) x=x.nm from rfl,XA hd hx];rfl)
def Zaw (lt:Z8->Z8->Bool)(n:Z8):List Z8->List Z8
 | []=>[n]
 | y :: ys=>if lt y n=true then y :: Zaw lt n ys else n :: y :: ys
theorem VR (lt:Z8->Z8->Bool)(n:Z8): ∀l:List Z8,(Zaw lt n l).Perm (n :: l)
 | []=>List.Perm.refl _
 | y :: ys=>by
  unfold Zaw
  split
  ·exact((VR lt n ys).cons y).trans (List.Perm.swap ..)
  ·exact List.Perm.refl _
def QV (c:Int->Nat)(h:Int):Int->Nat:=fun a=>if a=h then c a+1 else c a
def J9 (K:List Z8)(c:Int->Nat):Prop := ∀h k:Int,(∃x∈K,Zi x=(h,k))↔1<=k/\k<=(c h:Int)
def YW (K:List Z8)(n:Z8):Option Z8:=K.find? (fun x=>decide (Zi x=Zi n))
def Y9 (l:List Z8):List Z8->(Int->Nat)->List Z8->Option (List Z8×(Int->Nat))
 | fr,c,[]=>some (fr,c)
 | fr,c,n :: ns=>match YW (l ++ fr) n with
  | some o=>if Y7 o n=true then Y9 l fr c ns else none
  | none=>if (c n.house:Int)+1 < n.num then Y9 l fr c ns else Y9 l (fr ++ [n]) (QV c n.house) ns
def Xw (l:List Z8)(n:Z8):List Z8:=Zaw (fun x y=>J0 (Zi x) (Zi y)) n l
def Qo (l fr:List Z8):List Z8:=fr.foldl Xw l
theorem Z1Z {K:List Z8}{n o:Z8}(h:YW K n=some o):o∈K/\Zi o=Zi n:=by
 unfold YW at h;exact⟨List.mem_of_find?_eq_some h,by simpa using List.find?_some h⟩
theorem XC {K:List Z8}{n:Z8}(h:YW K n=none): ∀y∈K,Zi y≠Zi n:=by
 unfold YW at h;rw[List.find?_eq_none]at h;intro y hy e;exact h y hy (by simpa using e)
theorem Z05 {K:List Z8}{n:Z8}(h : ∀y∈K,Zi y≠Zi n):YW K n=none:=by
 unfold YW;rw[List.find?_eq_none];intro y hy e;exact h y hy (by simpa using e)
theorem J9.free {K:List Z8}{c:Int->Nat}(h:J9 K c){n:Z8}(h1:1<=n.num)(hn : ∀y∈K,Zi y≠Zi n):(c n.house:Int) < n.num:=by
 have:=(h n.house n.num).2;by_cases h2:n.num<=(c n.house:Int)
 ·obtain⟨x,hx,e⟩:=this ⟨h1,h2⟩;exact absurd e (hn x hx)
 ·omega
theorem J9.le {K:List Z8}{c:Int->Nat}(h:J9 K c){n:Z8}(hn:n∈K):1<=n.num/\n.num<=(c n.house:Int):=(h n.house n.num).1 ⟨n,hn,rfl⟩
theorem J9.add {K:List Z8}{c:Int->Nat}(h:J9 K c){n:Z8}(hk:n.num=(c n.house:Int)+1):J9 (K ++ [n]) (QV c n.house):=fun a k=>by
 have e1:(∃x∈K ++ [n],Zi x=(a,k))↔(∃x∈K,Zi x=(a,k))\/Zi n=(a,k):=by
  constructor
  ·rintro⟨x,hx,e⟩;rcases List.mem_append.1 hx with hx | hx
   ·exact .inl ⟨x,hx,e⟩
   ·rw[List.mem_singleton.1 hx]at e;exact .inr e
  ·rintro(⟨x,hx,e⟩ | e)
   ·exact⟨x,List.mem_append_left _ hx,e⟩
   ·exact⟨n,by simp,e⟩
 rw[e1,h a k];unfold QV;have e2:Zi n=(a,k)↔n.house=a/\n.num=k:=by
  show(n.house,n.num)=(a,k)↔_;rw[Prod.mk.injEq]
 rw[e2];by_cases ha:a=n.house
 ·subst ha;simp;omega
 ·rw[if_neg ha];constructor
  ·rintro(h2 | h2)
   ·exact h2
   ·exact absurd h2.1.symm ha
  ·exact .inl
theorem J9.perm {K L:List Z8}{c:Int->Nat}(h:J9 K c)(hm : ∀x,x∈L↔x∈K):J9 L c:=fun a k=>by
 rw[<-h a k]
 constructor
 ·rintro⟨x,hx,e⟩;exact⟨x,(hm x).1 hx,e⟩
 ·rintro⟨x,hx,e⟩;exact⟨x,(hm x).2 hx,e⟩
theorem Z21 {l:List Z8}: ∀(ns fr:List Z8) (c:Int->Nat) {fr':List Z8} {c':Int->Nat},J9 (l ++ fr) c->((l ++ fr).map Zi).Nodup->(∀n∈ns,1<=n.num)->Y9 l fr c ns=some (fr',c')->
  J9 (l ++ fr') c'/\((l ++ fr').map Zi).Nodup/\(∀x∈fr',x∈fr\/x∈ns)/\fr'.length<=fr.length+ns.length
 | [],fr,c,fr',c',h1,h2,_,h=>by
  simp only[Y9,Option.some.injEq,Prod.mk.injEq]at h
  obtain⟨rfl,rfl⟩:=h
  exact⟨h1,h2,fun x hx=>.inl hx,by simp⟩
 | n :: ns,fr,c,fr',c',h1,h2,h3,h=>by
  rw[Y9]at h
  have h3' : ∀m∈ns,1<=m.num:=fun m hm=>h3 m (List.mem_cons_of_mem _ hm)
  split at h
  ·split at h
   ·obtain⟨a1,a2,a3,a4⟩:=Z21 ns fr c h1 h2 h3' h
    exact⟨a1,a2,fun x hx=>(a3 x hx).imp id (List.mem_cons_of_mem _),by rw[List.length_cons];omega⟩
   ·cases h
  ·rename_i hk
   have hfree:=XC hk
   split at h
   ·obtain⟨a1,a2,a3,a4⟩:=Z21 ns fr c h1 h2 h3' h
    exact⟨a1,a2,fun x hx=>(a3 x hx).imp id (List.mem_cons_of_mem _),by rw[List.length_cons];omega⟩
   ·rename_i hle
    have hlt:=h1.free (h3 n (List.mem_cons_self ..)) hfree
    have hadd:=h1.add (n:=n) (by omega)
    rw[List.append_assoc]at hadd
    obtain⟨a1,a2,a3,a4⟩:=Z21 ns (fr ++ [n]) (QV c n.house) hadd (by
     rw[<-List.append_assoc,List.map_append]
     refine List.nodup_append.2 ⟨h2,by simp,fun a ha b hb e=>?_⟩
     rw[List.map_singleton,List.mem_singleton]at hb
     obtain⟨x,hx,rfl⟩:=List.mem_map.1 ha
     exact hfree x hx (e.trans hb)) h3' h
    refine⟨a1,a2,fun x hx=>?_,by rw[List.length_append]at a4;rw[List.length_cons];simp at a4;omega⟩
    rcases a3 x hx with h5 | h5
    ·rcases List.mem_append.1 h5 with h5 | h5
     ·exact .inl h5
     ·rw[List.mem_singleton.1 h5];exact .inr (List.mem_cons_self ..)
    ·exact .inr (List.mem_cons_of_mem _ h5)
theorem Xp {l:List Z8}{n x:Z8}: x∈Xw l n↔x∈l\/x=n:=by
 unfold Xw;rw[(VR _ n l).mem_iff,List.mem_cons];exact Or.comm
theorem Uy {n:Z8}: ∀{l:List Z8},l.Pairwise UX->(∀y∈l,Zi y≠Zi n)->(Xw l n).Pairwise UX
 | [],_,_=>by simp[Xw,Zaw]
 | y :: ys,h,hf=>by
  rw[List.pairwise_cons]at h
  have hf' : ∀z∈ys,Zi z≠Zi n:=fun z hz=>hf z (List.mem_cons_of_mem _ hz)
  have ih:=Uy h.2 hf'
  unfold Xw at ih ⊢
  unfold Zaw
  split
  ·rename_i hy
   refine List.pairwise_cons.2 ⟨fun z hz=>?_,ih⟩
   rcases(Xp (l:=ys) (n:=n) (x:=z)).1 hz with hz | rfl
   ·exact h.1 z hz
   ·exact hy
  ·rename_i hy
   have hny:UX n y:=by
    unfold UX;cases h2:J0 (Zi n) (Zi y)with
    | true=>rfl
    | false=>exact absurd (Z0A (by simpa using hy) h2) (hf y (List.mem_cons_self ..))
   refine List.pairwise_cons.2 ⟨fun z hz=>?_,List.pairwise_cons.2 h⟩;rcases List.mem_cons.1 hz with rfl | hz
   ·exact hny
   ·exact Zam hny (h.1 z hz)
theorem Z8i: ∀(fr l:List Z8),l.Pairwise UX->((l ++ fr).map Zi).Nodup->IsU l fr (Qo l fr)
 | [],l,h,_=>⟨h,fun x=>by simp[Qo]⟩
 | n :: fr,l,h,hd=>by
  have hd2:((l.map Zi) ++ Zi n :: fr.map Zi).Nodup:=by simpa [List.map_append] using hd
  have hf : ∀y∈l,Zi y≠Zi n:=fun y hy e=>(List.nodup_append.1 hd2).2.2 _ (List.mem_map_of_mem hy) _ (List.mem_cons_self ..) e
  have h2:=Uy h hf
  have hp:((Xw l n ++ fr).map Zi).Perm ((l ++ n :: fr).map Zi):=by
   refine List.Perm.map _ (((VR _ n l).append_right fr).trans ?_);rw[List.cons_append];exact List.perm_middle.symm
  have ih:=Z8i fr (Xw l n) h2 (hp.nodup_iff.2 hd);refine⟨ih.1,fun x=>?_⟩;show x∈Qo (Xw l n) fr↔_;rw[ih.2 x,Xp,List.mem_cons,or_assoc]
theorem Z1E: ∀(fr l:List Z8),(Qo l fr).length=l.length+fr.length
 | [],l=>by simp[Qo]
 | n :: fr,l=>by
  show(Qo (Xw l n) fr).length=_
  rw[Z1E fr (Xw l n),Xw,(VR _ n l).length_eq,List.length_cons,List.length_cons]
  omega
def YQ (l:List Z8)(c:Int->Nat):List Z8:=l.filter (fun n=>!decide (n.num<=(c n.house:Int)))
theorem Z0E {l:List Z8}{c:Int->Nat}{n:Z8}: n∈YQ l c↔n∈l/\(c n.house:Int) < n.num:=by
 unfold YQ;rw[List.mem_filter];simp
theorem Z5N {l1 l2:List Z8}{c1 c2:Int->Nat}(h1:J9 l1 c1)(h2:J9 l2 c2)(hs:l1.Pairwise UX): ∀(j:Nat),j<=(YQ l1 c2).length -> ∃c',Y9 l2 [] c2 (YQ l1 c2)=Y9 l2 ((YQ l1 c2).take j) c' ((YQ l1 c2).drop j)/\J9 (l2 ++ (YQ l1 c2).take j) c'
 | 0,_=>⟨c2,by simp,by simpa using h2⟩
 | j+1,hj=>by
  obtain⟨c',e,hc⟩:=Z5N h1 h2 hs j (by omega)
  have hg:(YQ l1 c2).Pairwise UX:=hs.sublist List.filter_sublist
  obtain⟨n,hn⟩ : ∃n,(YQ l1 c2)[j]? = some n:=⟨_,List.getElem?_eq_getElem (by omega)⟩
  have hd:=Z3H hn
  have hm:=Z0E.1 (List.mem_of_getElem? hn)
  have hfree : ∀y∈l2 ++ (YQ l1 c2).take j,Zi y≠Zi n:=fun y hy e2=>by
   rcases List.mem_append.1 hy with hy | hy
   ·have h5:=h2.le hy
    have h6:y.house=n.house/\y.num=n.num:=by simpa [Zi] using e2
    rw[h6.1,h6.2]at h5
    omega
   ·obtain⟨i,hi,hi2⟩:=List.mem_take_iff_getElem.1 hy
    have hjl:=(List.getElem?_eq_some_iff.1 hn)
    have h7:=List.pairwise_iff_getElem.1 hg i j (by omega) hjl.1 (by omega)
    rw[hi2,hjl.2]at h7
    exact Z4h h7 e2
  have h1n:=(h1.le hm.1).1
  have hlt:=hc.free h1n hfree
  have hle : ¬(c' n.house:Int)+1 < n.num:=fun hlt2=>by
   obtain⟨y,hy,e2⟩:=(h1 n.house (n.num - 1)).2 ⟨by omega,by have:=(h1.le hm.1).2;omega⟩
   have hyn:y.house=n.house/\y.num=n.num - 1:=by simpa [Zi] using e2
   have hin : ∃x∈l2 ++ (YQ l1 c2).take j,Zi x=(n.house,n.num - 1):=by
    by_cases h8:n.num - 1<=(c2 n.house:Int)
    ·obtain⟨x,hx,e3⟩:=(h2 n.house (n.num - 1)).2 ⟨by omega,h8⟩;exact⟨x,List.mem_append_left _ hx,e3⟩
    ·have hyg:y∈YQ l1 c2:=Z0E.2 ⟨hy,by rw[hyn.1,hyn.2];omega⟩;obtain⟨i,hi⟩:=List.getElem?_of_mem hyg;have hij:i < j:=by
      rcases Nat.lt_trichotomy i j with h9 | h9 | h9
      ·exact h9
      ·subst h9;rw[hn]at hi;cases hi;omega
      ·have hil:=(List.getElem?_eq_some_iff.1 hi);have hjl:=(List.getElem?_eq_some_iff.1 hn);have h7:=List.pairwise_iff_getElem.1 hg j i hjl.1 hil.1 h9;rw[hil.2,hjl.2]at h7;unfold UX at h7;rw[XZ]at h7;have h10:n.house < y.house\/n.house=y.house/\n.num < y.num:=h7;omega
     refine⟨y,List.mem_append_right _ (List.mem_take_iff_getElem.2 ⟨i,?_,?_⟩),e2⟩
     ·have:=(List.getElem?_eq_some_iff.1 hi).1;omega
     ·exact(List.getElem?_eq_some_iff.1 hi).2
   have:=((hc n.house (n.num - 1)).1 hin).2;omega
  refine⟨QV c' n.house,?_,?_⟩
  ·rw[e,hd,Y9,Z05 hfree];simp only;rw[if_neg hle,Jp hn]
  ·rw[Jp hn,<-List.append_assoc];exact hc.add (by omega)
theorem Z5a {l1 l2:List Z8}{c1 c2:Int->Nat}(h1:J9 l1 c1)(h2:J9 l2 c2)(hs:l1.Pairwise UX): ∃c',Y9 l2 [] c2 (YQ l1 c2)=some (YQ l1 c2,c'):=by
 obtain⟨c',e,_⟩:=Z5N h1 h2 hs _ (Nat.le_refl _);refine⟨c',?_⟩;rw[e,List.take_length,List.drop_length,Y9]
theorem Zc8 {l1 l2 u:List Z8}{c2:Int->Nat}(h2:J9 l2 c2)(hu:IsU l1 l2 u)(hs1:l1.Pairwise UX)(hs2:l2.Pairwise UX)(hn:Z4P l1 l2)(h1 : ∀x∈l1,1<=x.num):Qo l2 (YQ l1 c2)=u/\u.length=l2.length+(YQ l1 c2).length:=by
 have hd:((l2 ++ YQ l1 c2).map Zi).Nodup:=by
  rw[List.map_append];refine List.nodup_append.2 ⟨Yt hs2,Yt (hs1.sublist List.filter_sublist),fun a ha b hb e=>?_⟩;obtain⟨x,hx,rfl⟩:=List.mem_map.1 ha;obtain⟨y,hy,rfl⟩:=List.mem_map.1 hb;have h5:=h2.le hx;have h6:x.house=y.house/\x.num=y.num:=by simpa [Zi] using e
  have h7:=(Z0E.1 hy).2;rw[h6.1,h6.2]at h5;omega
 have ha:=Z8i (YQ l1 c2) l2 hs2 hd;have e:Qo l2 (YQ l1 c2)=u:=by
  refine VV ha.1 hu.1 fun x=>?_;rw[ha.2 x,hu.2 x];constructor
  ·rintro(h | h)
   ·exact .inr h
   ·exact .inl (Z0E.1 h).1
  ·rintro(h | h)
   ·by_cases h3:x.num<=(c2 x.house:Int)
    ·obtain⟨y,hy,e⟩:=(h2 x.house x.num).2 ⟨h1 x h,h3⟩;rw[hn x h y hy e.symm];exact .inl hy
    ·exact .inr (Z0E.2 ⟨h,by omega⟩)
   ·exact .inl h
 exact⟨e,by rw[<-e,Z1E]⟩
end Go.Proofs.YtlnhppgfhkkidaaGreat
