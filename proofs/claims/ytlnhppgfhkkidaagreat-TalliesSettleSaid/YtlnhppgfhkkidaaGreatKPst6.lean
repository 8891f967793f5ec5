/- Parts of the proof, in order. -/
import Derived.Sort.MapsRangeIn
import Derived.Lib.AppendZerosOnto
import Derived.Laws.MakeOwn
import Derived.Shelf.SlMaps.Clone
import Derived.Test.YtlnhppgfhkkidaaGreatKPst5
set_option linter.unusedSimpArgs false
set_option linter.unusedVariables false
set_option maxHeartbeats 32000000
set_option maxRecDepth 100000
namespace Go.Proofs.YtlnhppgfhkkidaaGreat
open Go.Proofs.Tryz renaming prog → zq
open Go.RowKit
attribute [local go_sem] Oper.semAt_some
section
variable {α:Type}{enc:α->Value}{f:Nm->Option α}{F:Fence}{m:Nat}(w:World){ops:Array Oper}{rest:List Oper}{o:Oper}{a:Act}{Q:Exit->Act->World->Prop}
theorem Up (hg:o.guard=none)(x:Operand)(t e:TypeId)(hop:o.op=Op.range t x)(ht:zq.underlying t=some (.map 45 e))(b n:Nat)(hm:a.eval x = .map (some b))(hmap:ZZ enc w b n f)
  (hK : ∀w' cnt,Y8 enc w' b w.heap.size n f [] cnt->w.grownBy w' none->w'.heap.size=w.heap.size+1->wpListIn F m zq ops Q rest (a.put o.dst (.pointer (some ⟨w.heap.size,0,none⟩))) w'):wpListIn F m zq ops Q (o :: rest) a w:=by
 obtain⟨D,h1,h2⟩:=hmap;exact wpListIn_range_own w hg x t hop 45 e JG ht Qc b n D hm h1 (fun w' h3 h4 h5=>hK w' _ ⟨D,_,h3,h2,fun k hk=>by rw[h2.has k hk];simp,List.nodup_nil,by have:=h1.size_le;simpa using this⟩ h4 h5)
theorem UR (hg:o.guard=none)(it:Operand)(hop:o.op=Op.next it false)(b r n cnt:Nat)(ks:List Nm)(hit:a.eval it = .pointer (some ⟨r,0,none⟩))(h:Y8 enc w b r n f ks cnt)
  (hDone:Xt f ks->wpListIn F m zq ops Q rest (a.put o.dst (.tuple #[.bool false])) w)
  (hMore : ∀kh km y w' cnt',Hid (Z60 enc w b r n cnt f ks kh km y w' cnt')->
   (Instr.entry (.pointer (some ⟨r,0,none⟩))).run zq w' = .ok (.tuple #[.agg #[.int .i64 kh,.int .i64 km],enc y]) w'->wpListIn F m zq ops Q rest (a.put o.dst (.tuple #[.bool true,.agg #[.int .i64 kh,.int .i64 km],enc y])) w'):wpListIn F m zq ops Q (o :: rest) a w:=by
 obtain⟨D,left,h1,h2,h3,h4,hcn⟩:=h;refine wpListIn_next_ranges (α:=Nm) (β:=Value) w hg it hop 45 JG Qc nmV id (fun key kl hk=>by obtain⟨a,rfl,_⟩:=Z0V hk;exact⟨a,rfl⟩) (fun v _ _=>⟨v,rfl⟩) b r n D left cnt hit h1 (fun _ hl=>hDone (fun k hk=>?_)) (fun k c kl y w' cnt' hkey hlk hv hat hrg hlt hgr hsz hen => ?_)
 ·have:=hl (nmL k);rw[h3 k (h2.ok k hk),hk]at this;simpa using this
 ·obtain⟨k',e1,hk',rfl⟩:=Z0V hkey;cases Z6s e1;rw[h3 k hk']at hlk;simp only[Bool.and_eq_true,Bool.not_eq_true',decide_eq_false_iff_not]at hlk;obtain⟨x,hx⟩:=Option.isSome_iff_exists.1 hlk.1;have hy:=hat (.lit (.bool true));rw[h2.val k x hx]at hy;simp only[Qc,Option.some.injEq]at hv;rw[<-hv]at hy;simp only[DataW.held.injEq,id_eq]at hy;subst hy;refine hMore k.1 k.2 x w' cnt' (zH ⟨hx,hlk.2,hk',⟨D,_,hrg,h2,fun a ha=>?_,?_,by rw[List.length_append,List.length_singleton];omega⟩,hlt,hgr,hsz⟩) hen
  ·rw[h3 a ha];by_cases e:a=k
   ·subst e;have:(nmL a).sameKey (nmL a)=true:=WideAt.sameKey_self (Z1R _);simp[this]
   ·have:(nmL a).sameKey (nmL k)=false:=Maps.sameKey_ne (fun he=>e (Z00 ha hk' he));simp[this,e]
  ·exact List.nodup_append.2 ⟨h4,by simp,fun a ha b hb e=>hlk.2 (by rw[List.mem_singleton]at hb;rw[<-show b=k from hb,<-e];exact ha)⟩
end
theorem ZG.turn {rec:LoopState->Option Code->Loop}{D:Nat}{st:LoopState}{pe:Option Code}{W W':World}{r:Nat}{o:Obj}(h:ZG rec D st pe W)(hr:W.heap[r]? = some o)(ho1 : ∀l,o ≠ .loop l)(ho2 : ∀l,o ≠ .deferred l)(hg:W.grownBy W' (some r)):ZG rec D st pe W':=
 ⟨Zc hg h.1 (fun e=>by have h1:=h.1;rw[Option.some.inj e,hr]at h1;exact ho1 _ (Option.some.inj h1)),Zc hg h.2 (fun e=>by have h1:=h.2;rw[Option.some.inj e,hr]at h1;exact ho2 _ (Option.some.inj h1))⟩
structure zl (Wb:World)(p:Nat)(ks:List Nm)(W:World):Prop where
 blk : ∃a c,W.heap[p]? = some (.cells #[.slice a ks.length c] 75)/\W.ownsRow Wb.heap.size 45 2 (.slice a ks.length c) ks.length (ZC ks)
 same:Zb (fun k=>k=p) Wb W
theorem zl.below {Wb W W':World}{p:Nat}{ks:List Nm}(h:zl Wb p ks W)(hb:Below W.heap.size W W'):zl Wb p ks W':=by
 obtain⟨⟨a,c,h1,h2⟩,h3⟩:=h;exact⟨⟨a,c,Z7 hb h1,Zd h2 hb⟩,h3.trans (Zb.of_below hb)⟩
theorem zl.turn {Wb W W':World}{p r:Nat}{ks:List Nm}{o:Obj}(h:zl Wb p ks W)(hr:W.heap[r]? = some o)(ho : ∀c t fr,o ≠ .cells c t fr)(hg:W.grownBy W' (some r))(hge:Wb.heap.size<=r):zl Wb p ks W':=by
 obtain⟨⟨a,c,h1,h2⟩,h3⟩:=h;exact⟨⟨a,c,Zc hg h1 (fun e=>by rw[Option.some.inj e,hr]at h1;exact ho _ _ _ (Option.some.inj h1)),h2.kept hg (.inr (Zo h2 hr (fun cur=>ho _ _ _)).symm)⟩,h3.reg (Zb.of_grown hg (fun k e=>by cases e;exact .inr hge))⟩
theorem zl.putObj {Wb W:World}{p:Nat}{ks:List Nm}(h:zl Wb p ks W)(o:Loop)(hl : ∃r,W.heap[Wb.heap.size+1]? = some (.loop r)):zl Wb p ks (W.putObj (Wb.heap.size+1) (.loop o)):=by
 obtain⟨r,hl⟩:=hl;exact h.turn hl (fun _ _ _=>by simp) (grownBy_putObj' W _ _) (by omega)
theorem zl.add {Wb W V:World}{p:Nat}{ks:List Nm}{k:Nm}{a a':zA}{c c':Nat}(hs:Zb (fun k=>k=p) Wb W)(hp:W.heap[p]? = some (.cells #[.slice a ks.length c] 75))(how:W.ownsRow Wb.heap.size 45 2 (.slice a ks.length c) ks.length (ZC ks))
  (ho:V.ownsRow Wb.heap.size 45 2 (.slice a' (ks.length+1) c') (ks.length+1) (ZC ks ++ [.int .i64 k.1,.int .i64 k.2])) (hg:W.grownBy V (Value.ownBlock (.slice a ks.length c))):
  zl Wb p (ks ++ [k]) (V.setCell ⟨p,0,none⟩ (.slice a' (ks.length+1) c'))/\V.heap[p]? = some (.cells #[.slice a ks.length c] 75):=by
 have hb2:=Zc hg hp (Zo how hp (by intro cur;simp));have G:=Zn V p 0 (.slice a' (ks.length+1) c');refine⟨⟨⟨a',c',?_,?_⟩,hs.reg ((Zb.of_grown hg (fun k e=>.inr (how.lt k e).1)).trans (Zb.of_grown G (fun k e=>by cases e;exact .inl rfl)))⟩,hb2⟩
 ·rw[ZM hb2 0 (.slice a' (ks.length+1) c'),List.length_append];rfl
 ·rw[Z1S,List.length_append];exact ho.kept G (.inr (Zo ho hb2 (by intro cur;simp)).symm)
theorem Y8.turn {W W':World}{b r n cnt:Nat}{f:Nm->Option LN}{ks:List Nm}{row:Option Nat}(h:Y8 LN.val W b r n f ks cnt)(hg:W.grownBy W' row)(hrow : ∀q,row=some q -> ∃o,W.heap[q]? = some o/\(∀e c,o ≠ .map e c) /\ ∀a1 a2 a3 a4,o ≠ .mapIter a1 a2 a3 a4):Y8 LN.val W' b r n f ks cnt:=by
 obtain⟨es,clock,hsb⟩:=h.map.blk;obtain⟨bb,since,seen,c0,hr⟩:=h.blk;refine h.of_blocks ((Zc hg hsb (fun e=>?_)).trans hsb.symm) ((Zc hg hr (fun e=>?_)).trans hr.symm)
 ·obtain⟨o,h1,h2,h3⟩:=hrow b e.symm;rw[hsb]at h1;exact h2 _ _ (Option.some.inj h1).symm
 ·obtain⟨o,h1,h2,h3⟩:=hrow r e.symm;rw[hr]at h1;exact h3 _ _ _ _ (Option.some.inj h1).symm
abbrev KSt:=List Nm×Nm×Nat×Nat
def KAt (Wb:World)(p b n:Nat)(f:Nm->Option LN)(ks js:List Nm)(r cnt:Nat)(W:World):Prop:=zl Wb p js W/\Y8 LN.val W b r n f ks cnt/\Wb.heap.size<=r /\ ∀k∈ks,(f k).isSome=true
theorem ZbO (m:Nat)(Wb:World)(p pB b n:Nat)(f:Nm->Option LN)(hpB:Wb.heap[pB]? = some (.cells #[.map (some b)] 119))(hne:pB≠p)(hmap:ZZ LN.val Wb b n f)(hbp:b≠p)
  (rec:LoopState->Option Code->Loop) (W1:World) (h0:zl Wb p [] W1) (hl:ZG rec Wb.heap.size .ready none W1)
  (hY : ∀(s:KSt) W,KAt Wb p b n f (s.1 ++ [s.2.1]) s.1 s.2.2.1 s.2.2.2 W->ZG rec Wb.heap.size .ready none W->YieldAt Fence.wide (m - 1) zq (Wb.heap.size+1) #[.agg #[.int .i64 s.2.1.1,.int .i64 s.2.1.2]] W fun e W'=>
    e = .returned (.bool true)/\KAt Wb p b n f (s.1 ++ [s.2.1]) (s.1 ++ [s.2.1]) s.2.2.1 s.2.2.2 W'/\ZG rec Wb.heap.size .ready none W'):
  CallsIn Fence.wide m zq 177 #[.func (.yield (Wb.heap.size+1)) #[] #[],.pointer (some ⟨pB,0,none⟩)] W1 fun e W'=>
    (∃v,e = .returned v)/\(∃ks,zl Wb p ks W'/\Xt f ks/\ks.Nodup/\(∀k∈ks,(f k).isSome=true)/\ks.length<=n)/\ZG rec Wb.heap.size .ready none W':=by
 have HY:=zH hY;clear hY;have M1:=zH (hmap.of_block (h0.same.block b hmap.lt hbp));have hlc:=Z6 ((h0.same.block pB (Zk hpB) hne).trans hpB) 0 (.map (some b)) rfl;have R0:=zH h0;clear h0;have L0:=zH hl;clear hl;clear hpB hne hmap hbp;refine callsIn_of_wp Tryz.func177 rfl trivial ?_;simp only[Tryz.ntmps177,List.size_toArray,List.length_cons,List.length_nil,Nat.reduceAdd,Nat.reduceSub,Array.replicate_succ,Array.replicate_zero,List.push_toArray,List.append_toArray,List.nil_append,List.cons_append];gi_wp2_with (first
  |(gi_at_range;refine Up _ rfl _ 119 47 rfl Tryz.underlying119 b n rfl M1.out ?_;intro w0 cnt0 hrg0 hg0 hs0)
  | gi_in)
 go_frame;obtain⟨r,hr⟩:=zX (W1.heap.size);have b0:Below W1.heap.size W1 w0:=(Below.refl _ _).grown hg0 (Nat.le_refl _) (fun q hq=>by cases hq);have S0:Hid (KAt Wb p b n f [] [] r cnt0 w0):=zH ⟨R0.out.below b0,by rw[<-hr.out];exact hrg0,by rw[<-hr.out];exact R0.out.same.size,fun k hk=>by cases hk⟩;have LL0:=zH (L0.out.of_below b0);rw[hr.out];clear hrg0 hg0 hs0 b0 hlc M1 R0 L0;gi_loopw [3] (fun _ wr=>∃(ks:List Nm) (cnt:Nat),Hid (KAt Wb p b n f ks ks r cnt wr)/\Hid (ZG rec Wb.heap.size .ready none wr)) (fun _ wr=>wr.rangeLeft b r)
 case atStart=>exact⟨[],cnt0,S0,LL0⟩
 case round=>
  obtain⟨ks,cnt,HS,HL⟩:=hrel;gi_wp2_with (first
   |(gi_at_next;refine UR _ rfl _ rfl b r n cnt ks rfl HS.out.2.1 ?_ ?_)
   | gi_in)
  ·intro hall;have HALL:=zH hall;clear hall;gi_wp2;go_end0;exact⟨⟨_,rfl⟩,⟨ks,HS.out.1,HALL.out,HS.out.2.1.nodup,HS.out.2.2.2,by have:=HS.out.2.1.count;omega⟩,HL.out⟩
  ·intro kh km y w2 cnt2 HN hen;obtain⟨bb,since,seen,c0,hrb⟩:=HS.out.2.1.blk;have np2:=HS.out.1.turn hrb (fun _ _ _=>by simp) HN.out.grown HS.out.2.2.1;have bn:Below w2.heap.size w2 (w2.alloc (.cells #[.int .i64 kh,.int .i64 km] 45)):=zB _ _;have L3:=zH ((HL.out.turn hrb (fun _=>by simp) (fun _=>by simp) HN.out.grown).of_below bn);have K3:Hid (KAt Wb p b n f (ks ++ [(kh,km)]) ks r cnt2 (w2.alloc (.cells #[.int .i64 kh,.int .i64 km] 45))):=zH ⟨np2.below bn,HN.out.range.below bn,HS.out.2.2.1,fun k hk=>by
    rcases List.mem_append.1 hk with hk | hk
    ·exact HS.out.2.2.2 k hk
    ·rw[List.mem_singleton.1 hk,HN.out.at_];rfl⟩
   have HM:=zH (show wr.rangeLeft b r=cnt from HS.out.2.1.left_eq);have HLT:=zH HN.out.lt;clear np2 bn HS HL HN hrb;unfold LN.val at hen;obtain⟨fn,tmps,assign,body,hy,hRo⟩:=HY.out (ks,(kh,km),r,cnt2) _ K3.out L3.out;dsimp only at hy;gi_wp2;refine⟨fun h=>by simp[Fence.wide]at h,?_⟩;refine hRo.mono ?_;rintro e W6 ⟨rfl,hK6,hL6⟩;have HK6:=zH hK6;have HL6:=zH hL6;clear hRo hy hK6 hL6 hen;gi_wp2;go_roundw
   case rel=>exact⟨_,cnt2,HK6,HL6⟩
   case measure=>rw[HK6.out.2.1.left_eq,HM.out];exact HLT.out
theorem Z6P (pB b n:Nat)(f:Nm->Option LN)(w:World)(hpB:w.heap[pB]? = some (.cells #[.map (some b)] 119))(hmap:ZZ LN.val w b n f)(hn:n<=1000):
  Calls zq 203 #[.slice none 0 0,.func (.func 177) #[] #[.pointer (some ⟨pB,0,none⟩)]] w fun e w'=>
   (∃a' c' ks,e = .returned (.slice a' ks.length c')/\w'.ownsRow w.heap.size 45 2 (.slice a' ks.length c') ks.length (ZC ks)/\Xt f ks/\ks.Nodup/\(∀k∈ks,(f k).isSome=true)/\ks.length<=n)/\Below w.heap.size w w':=by
 have HLEN:=zH hn;clear hn;have B0:=zH (zB w (.cells #[.slice none 0 0] 75));have P0:=zH (Za w (.cells #[.slice none 0 0] 75));have HB:=zH (Z7 B0.out hpB);have HM:=zH (hmap.below B0.out);have NE:Hid (pB≠w.heap.size/\b≠w.heap.size):=zH (by have:=Zk hpB;have:=hmap.lt;omega);clear hpB hmap;refine(callsIn_wide (n:=4)).1 ?_;refine callsIn_of_wp_marks Tryz.func203 rfl trivial ?_;simp only[Tryz.ntmps203,List.size_toArray,List.length_cons,List.length_nil,Nat.reduceAdd,Nat.reduceSub,Array.replicate_succ,Array.replicate_zero,List.push_toArray,List.append_toArray,List.nil_append,List.cons_append];refine wpIn_wide.2 ?_;go_upto_region 1 with fail;obtain⟨p,hp⟩:=zX (w.heap.size);rw[hp.out]at P0 NE ⊢;generalize w.alloc (.cells #[.slice none 0 0] 75)=w3 at *;go_wp2_with fail;refine(wpIn_wide (n:=4)).1 ?_;refine UE (n:=3) (σ:=KSt) (w:=w3) (gf:=177) (lb := #[.pointer (some ⟨pB,0,none⟩)]) rfl (enters_of Tryz.func177 (by kernel_rfl) rfl)
  (fun s=>#[.agg #[.int .i64 s.2.1.1,.int .i64 s.2.1.2]]) (fun _=>rfl) (fun s W=>KAt w3 p b n f (s.1 ++ [s.2.1]) s.1 s.2.2.1 s.2.2.2 W) (fun s W=>KAt w3 p b n f (s.1 ++ [s.2.1]) (s.1 ++ [s.2.1]) s.2.2.1 s.2.2.2 W)
  (fun s a₁ W=>∃pX,a₁ = { tmps := #[.slice none 0 0,.func (.func 177) #[] #[.pointer (some ⟨pB,0,none⟩)],.pointer (some ⟨p,0,none⟩),undef,.slice none 0 0,.pointer (some ⟨pX,0,none⟩),.func (.func 177) #[] #[.pointer (some ⟨pB,0,none⟩)],.agg #[.int .i64 s.2.1.1,.int .i64 s.2.1.2],undef,undef,undef,undef,undef],defers:=[] } /\ W.heap[pX]? = some (.cells #[.int .i64 s.2.1.1,.int .i64 s.2.1.2] 45)/\KAt w3 p b n f (s.1 ++ [s.2.1]) s.1 s.2.2.1 s.2.2.2 W)
  (fun W=>∃ks,zl w3 p ks W/\Xt f ks/\ks.Nodup/\(∀k∈ks,(f k).isSome=true)/\ks.length<=n) ?hA' ?hB ?hD ?assign ?body ?iter ?done
 case hA'=>
  rintro s a₁ W o ⟨pX,rfl,h1,h2,h3,h4⟩ ⟨r,hr⟩;refine⟨pX,rfl,(World.putObj_heap_other (fun e=>?_)).trans h1,h2.putObj o ⟨r,hr⟩,h3.turn (grownBy_putObj' W _ _) (fun q e=>by cases e;exact⟨_,hr,by simp,by simp⟩),h4⟩;rw[e,hr]at h1;simp at h1
 case hB=>
  rintro s W o ⟨h2,h3,h4⟩ ⟨r,hr⟩;exact⟨h2.putObj o ⟨r,hr⟩,h3.turn (grownBy_putObj' W _ _) (fun q e=>by cases e;exact⟨_,hr,by simp,by simp⟩),h4⟩
 case hD=>
  rintro W o ⟨ks,h,h2⟩ hl;exact⟨ks,h.putObj o hl,h2⟩
 case assign=>
  rintro⟨ks,k,r,cnt⟩ W h1;have H1:=zH h1;clear h1;dsimp only;have hb5:Below W.heap.size W (W.alloc (.cells #[.int .i64 k.1,.int .i64 k.2] 45)):=zB W _;have HG:=zH (show KeepsFrom w3.heap.size W (W.alloc (.cells #[.int .i64 k.1,.int .i64 k.2] 45))/\(W.alloc (.cells #[.int .i64 k.1,.int .i64 k.2] 45)).heap[W.heap.size]? = some (.cells #[.int .i64 k.1,.int .i64 k.2] 45)/\KAt w3 p b n f (ks ++ [k]) ks r cnt (W.alloc (.cells #[.int .i64 k.1,.int .i64 k.2] 45))from
   ⟨(JH hb5).from _,Za W _,H1.out.1.below hb5,H1.out.2.1.below hb5,H1.out.2.2⟩)
  clear hb5 H1;have hf : ∀t:Y6,(#[7].zip #[Value.agg #[.int .i64 k.1,.int .i64 k.2]]).foldl (fun t (p,v)=>t.setIfInBounds p v) t=t.setIfInBounds 7 (.agg #[.int .i64 k.1,.int .i64 k.2]):=fun t=>by simp
  rw[hf];simp only[List.setIfInBounds_toArray,List.set_cons_succ,List.set_cons_zero];clear hf;refine YG (Qj _) (U1 (fun a w h=>h)) ?hnd ?_
  case hnd=>rfl
  go_wp2_with fail;exact⟨HG.out.1,W.heap.size,rfl,HG.out.2⟩
 case body=>
  rintro⟨ks,k,r,cnt⟩ a₁ W ⟨pX,rfl,hX,h1⟩;have HX:=zH hX;have H1:=zH (show KAt w3 p b n f (ks ++ [k]) ks r cnt W from h1);clear hX h1;dsimp only;have HKL:Hid (ks.length<=1000):=zH (by have h1:=H1.out.2.1.count;have:=HLEN.out;rw[List.length_append]at h1;omega);obtain⟨⟨ea,ec,hblk,how⟩,hsm⟩:=H1.out.1;have bn:Below W.heap.size W (W.alloc (.cells #[.int .i64 k.1,.int .i64 k.2] 45)):=zB _ _;obtain⟨a',c',v9,hrun,ho9,hg9⟩:=XS (W.alloc (.cells #[.int .i64 k.1,.int .i64 k.2] 45)) w3.heap.size ea ks.length ec _ (Zd how bn) _ 1 1 _ (Vu W _ _) (fun u hu=>by simp only[List.mem_cons,List.not_mem_nil,or_false]at hu;rcases hu with rfl | rfl <;> rfl) (by have:=HKL.out;omega) (Nat.le_trans hsm.size bn.size);have hadd:=zl.add (hsm.trans (Zb.of_below bn)) (Z7 bn hblk) (Zd how bn) ho9 hg9;have HK:Hid (KeepsFrom w3.heap.size W (v9.setCell ⟨p,0,none⟩ (.slice a' (ks.length+1) c'))):=zH (by
   refine KeepsOthers.from ⟨?_,fun k o hk ho=>?_⟩ _
   ·exact Nat.le_trans bn.size (Nat.le_trans hg9.size (by simp[World.setCell]))
   ·have hk1:=Z7 bn hk;have hk2:=Zc hg9 hk1 (fun e=>by have:=Z0U (Zd how bn) e.symm hk1;rw[this]at ho;cases ho);exact Zc (Zn v9 p 0 _) hk2 (fun e=>by rw[Option.some.inj e,hadd.2]at hk2;cases hk2;cases ho))
  have RA:Y8 LN.val (v9.setCell ⟨p,0,none⟩ (.slice a' (ks.length+1) c')) b r n f (ks ++ [k]) cnt:=by
   have h2:=H1.out.2.1.below bn;have h3:Y8 LN.val v9 b r n f (ks ++ [k]) cnt:=h2.turn hg9 (fun q e=>by
    rcases(Zd how bn).2 with ⟨h4,_⟩ | ⟨g,cap,cur,h4,_,h5,_⟩
    ·rw[h4]at e;cases e
    ·rw[h4]at e;cases e;exact⟨_,h5,by simp,by simp⟩)
   exact h3.turn (Zn v9 p 0 _) (fun q e=>by cases e;exact⟨_,hadd.2,by simp,by simp⟩)
  have HA:=zH (show KAt w3 p b n f (ks ++ [k]) (ks ++ [k]) r cnt (v9.setCell ⟨p,0,none⟩ (.slice a' (ks.length+1) c'))from⟨hadd.1,RA,H1.out.2.2⟩);have hcl:=Z6 hblk 0 (.slice ea ks.length ec) rfl;have hx0:=Z6 HX.out 0 (.int .i64 k.1) rfl;have hx1:=Z6 HX.out 1 (.int .i64 k.2) rfl;have hcl3:=Z6 hadd.2 0 (.slice ea ks.length ec) rfl;have hfz:=Zq hadd.2 0;clear hadd how hsm bn ho9 hg9 hblk RA;apply wpIn_block;refine YG (Qj _) (U1 (fun a w h=>h)) ?hnd ?_
  case hnd=>rfl
  go_wp2_with (first
   |(refine Ym rfl _ _ _ rfl _ _ _ rfl rfl hrun ?_)
   | fail)
  exact⟨HK.out,HA.out⟩
 case iter=>
  intro rec hlr hY;have hbb:=(zB w3 (.deferred (some []))).alloc (by simp) (.loop (rec .ready none));exact ZbO 3 w3 p pB b n f HB.out NE.out.1 HM.out NE.out.2 rec _ ⟨⟨none,0,Z7 hbb P0.out,World.ownsRow_nil _ _ _ _⟩,Zb.of_below hbb⟩ hlr hY
 case done=>
  rintro W ⟨ks,⟨⟨a',c',hblk,how⟩,hsm⟩,hks⟩ hD0;dsimp only;have HD0:=zH hD0;have HOW:=zH how;have HSM:=zH hsm;have HKS:=zH hks;have hcl:=Z6 hblk 0 (.slice a' ks.length c') rfl;clear hD0 how hsm hblk hks;go_wp2_with fail;have hb:Below w.heap.size w W:=HSM.out.below B0.out B0.out.size (fun k hk=>by have:=hp.out;omega);have hbz:Below w.heap.size w (W.putObj w3.heap.size (.deferred none)):=hb.grown (grownBy_putObj' W _ _) hb.size (fun k e=>by cases e;exact B0.out.size);have hoz:=Zx (ownsRow_putObj HOW.out (.deferred none) HD0.out rfl) B0.out.size;refine⟨by simp,.inl ⟨_,_,rfl,run_takeDeferred HD0.out,?_⟩⟩;exact⟨.slice a' ks.length c',by kernel_rfl,⟨a',c',ks,rfl,hoz,HKS.out⟩,hbz⟩
def Z4Q (f:Nm->Option LN)(n:Nat)(w:World)(e:Ending)(W:World):Prop:=
 ∃(a:zA) (c:Nat) (ks:List Nm),e = .returned (.slice a ks.length c)/\W.ownsRow w.heap.size 45 2 (.slice a ks.length c) ks.length (ZC ks)/\Xt f ks/\ks.Pairwise (fun x y=>J0 x y=true)/\(∀k∈ks,(f k).isSome=true)/\ks.length<=n
theorem Z5y {zs:List Nm}(hn:zs.Nodup)(hs:zs.Pairwise (fun x y=>J0 y x=false)):zs.Pairwise (fun x y=>J0 x y=true):=by
 refine(hs.and hn).imp (fun {x y} h => ?_);cases h2:J0 x y with
 | true=>rfl
 | false=>exact absurd (Z0A h2 h.1) h.2
theorem Z5e (pB b n:Nat)(f:Nm->Option LN)(w:World)(hpB:w.heap[pB]? = some (.cells #[.map (some b)] 119))(hmap:ZZ LN.val w b n f)(hn:n<=1000):
  Calls zq 169 #[.func (.func 177) #[] #[.pointer (some ⟨pB,0,none⟩)]] w fun e w'=>
   (∃a' c' ks,e = .returned (.slice a' ks.length c')/\w'.ownsRow w.heap.size 45 2 (.slice a' ks.length c') ks.length (ZC ks)/\Xt f ks/\ks.Nodup/\(∀k∈ks,(f k).isSome=true)/\ks.length<=n)/\Below w.heap.size w w':=by
 have HA:=zH (Z6P pB b n f w hpB hmap hn);clear hpB hmap hn;go_enter Tryz.func169,Tryz.ntmps169;go_wp2_with fail;refine HA.out.mono ?_;rintro e w1 ⟨⟨a',c',ks,rfl,h1⟩,h2⟩;have H:=zH (And.intro h1 h2);clear h1 h2;go_wp2;go_ret;exact⟨⟨a',c',ks,rfl,H.out.1⟩,H.out.2⟩
theorem Z6a (pB b n:Nat)(f:Nm->Option LN)(w:World)(hpB:w.heap[pB]? = some (.cells #[.map (some b)] 119))(hmap:ZZ LN.val w b n f)(hn:n<=1000):
  Calls zq 118 #[.func (.func 177) #[] #[.pointer (some ⟨pB,0,none⟩)],.func (.func 124) #[] #[]] w fun e w'=>Z4Q f n w e w'/\Below w.heap.size w w':=by
 have HA:=zH (Z5e pB b n f w hpB hmap hn);have HN:=zH hn;clear hpB hmap hn;go_enter Tryz.func118,Tryz.ntmps118;go_wp2_with fail;refine HA.out.mono ?_;rintro e w1 ⟨⟨a',c',ks,rfl,h1,h2,h3,h4,h5⟩,hb⟩;have HO:=zH h1;have HAL:=zH h2;have HND:=zH h3;have HIN:=zH h4;have HL:=zH h5;have HB:=zH hb;clear h1 h2 h3 h4 h5 hb;go_wp2_with fail;refine(zx (V:=Nm) Z6q Uu (fun _=>rfl) (fun x v hv=>by simp only[Uu,List.mem_cons,List.not_mem_nil,or_false]at hv;rcases hv with rfl | rfl <;> rfl) (fun x y=>YJ x.1 x.2 y.1 y.2) (fun _ _=>rfl) 124 Z7v Zdy w.heap.size ks.length c' a' ks _ (by rw[<-Qm];exact HO.out) rfl (by have:=HL.out;have:=HN.out;omega)).mono ?_;rintro e w10 ⟨rfl,zs,hz1,hz2,hz3,hz4⟩;have Z1:=zH hz1;have Z2:=zH hz2;have Z3:=zH hz3;have B2:=zH (hz4.below HB.out HB.out.size (fun k hk=>(HO.out.lt k hk).1));clear hz1 hz2 hz3 hz4;have ZL:Hid (zs.length=ks.length):=zH Z2.out.length_eq;go_wp2;go_ret;exact⟨⟨a',c',zs,by rw[ZL.out] <;> rfl,by rw[Qm,ZL.out];exact Z1.out,fun k hk=>Z2.out.symm.subset (HAL.out k hk),Z5y (Z2.out.nodup_iff.2 HND.out) Z3.out,fun k hk=>HIN.out k (Z2.out.subset hk),by rw[ZL.out];exact HL.out⟩,B2.out⟩
theorem Z5z (b n:Nat)(f:Nm->Option LN)(w:World)(hmap:ZZ LN.val w b n f)(hn:n<=1000):
  Calls zq 65 #[.map (some b)] w fun e w'=>Z4Q f n w e w'/\Below w.heap.size w w':=by
 have HM:=zH hmap;have HN:=zH hn;clear hmap hn;have hmf : ∀(fn:Fn) (first cap:Y6) (w:World),(Instr.makeFunc fn first cap).run zq w = .ok (.func fn first cap) w:=fun _ _ _ _=>rfl;have KY:Hid (∀W,Calls zq 123 #[.map (some b)] W fun e W'=>e = .returned (.func (.func 177) #[] #[.pointer (some ⟨W.heap.size,0,none⟩)])/\W'=W.alloc (.cells #[.map (some b)] 119)):=zH (fun W=>by
  go_enter Tryz.func123,Tryz.ntmps123;go_wp2;go_ret;exact⟨rfl,rfl⟩)
 clear hmf;go_enter Tryz.func65,Tryz.ntmps65;go_wp2_with fail;refine(KY.out w).mono ?_;rintro e w1 ⟨rfl,rfl⟩;have B1:=zH (zB w (.cells #[.map (some b)] 119));have P1:=zH (Za w (.cells #[.map (some b)] 119));have M1:=zH (HM.out.below B1.out);obtain⟨pB,hpB⟩:=zX (w.heap.size);rw[hpB.out]at P1;rw[hpB.out];generalize w.alloc (.cells #[.map (some b)] 119)=w1 at *;go_wp2_with fail;refine(Z6a pB b n f w1 P1.out M1.out HN.out).mono ?_;rintro e w2 ⟨⟨a,c,ks,rfl,h1,h2⟩,hb⟩;have HO:=zH (Zx h1 B1.out.size);have H2:=zH h2;have B2:=zH (B1.out.trans (hb.mono B1.out.size));clear h1 h2 hb;go_wp2;go_ret;exact⟨⟨a,c,ks,rfl,HO.out,H2.out⟩,B2.out⟩
section
attribute [local go_sem] ZY YV
theorem Vk (n:Z8)(sa:zA)(sc:Nat)(w:World):Calls zq 58 #[.agg (Z5 n sa sc)] w fun e w'=>e = .returned (.agg #[.int .i64 n.house,.int .i64 n.num])/\Below w.heap.size w w':=by
 have hb:=zB w (.cells (Z5 n sa sc) 47);go_enter Tryz.func58,Tryz.ntmps58;go_wp2_with fail;go_returns;exact⟨rfl,hb.alloc hb.size _⟩
end
section
attribute [local go_sem] XY
theorem Z0L (n:Z8)(sa:zA)(sc:Nat)(w:World)(hs:Xs w sa n.strokes.length sc n.strokes)(hl:n.strokes.length<=1000000000):
  Calls zq 71 #[.agg (Z5 n sa sc)] w fun e w' => ∃ta tc,e = .returned (.agg (Z5 n ta tc))/\w'.ownsRow w.heap.size 3 1 (.slice ta n.strokes.length tc) n.strokes.length (n.strokes.map Ys)/\Below w.heap.size w w':=by
 have I43:=zH zI;go_enter Tryz.func71,Tryz.ntmps71;go_upto_region 1 with fail;rw[<-YS];have g0:=Z9 _ (.cells (Z5 Zh none 0) 47) _ _ (Za w (.cells (Z5 n sa sc) 47));have g1:=Zy (w.alloc (.cells (Z5 n sa sc) 47)) (.cells (Z5 Zh none 0) 47) (w.heap.size+1) (by simp);have bb:Below w.heap.size w ((w.alloc (.cells (Z5 n sa sc) 47)).alloc (.cells (Z5 Zh none 0) 47)):=(zB _ _).alloc (by simp) _;have L0:Hid (Z6R w ((w.alloc (.cells (Z5 n sa sc) 47)).alloc (.cells (Z5 Zh none 0) 47)) w.heap.size (w.heap.size+1) (Z5 n sa sc) (Z5 Zh none 0) 47):=zH ⟨g0,g1,bb,by omega⟩;have RI:=zH (hs.below bb);clear g0 g1 bb hs;generalize (w.alloc (.cells (Z5 n sa sc) 47)).alloc (.cells (Z5 Zh none 0) 47)=W2 at *;generalize hp0:w.heap.size=p0 at *;generalize hp1:p0+1=p1 at *;have HP0:=zH hp0;clear hp0 hp1;obtain⟨m,hm⟩:=zX (n.strokes.length);have c15:W2.cell? ⟨p0,15,none⟩=some (.slice sa m sc):=by rw[<-hm.out];exact Z6 L0.out.e1 15 _ rfl
 rw[hm.out]at RI hl;go_wp2_with fail;refine(Z1A sa m sc n.strokes W2 (by omega) RI.out).mono ?_;rintro e W3 ⟨ta,tc,rfl,ho,b3⟩;have L3:=zH (L0.out.below b3);have O3:=zH (Zx ho (show p0<=W2.heap.size by have:=Zk L0.out.e1;omega));clear ho b3 c15;have c15:=Z6 L3.out.e1 15 _ rfl;have f15:=Zq L3.out.e1 15;have T3:=zH (Zo O3.out L3.out.e1 (fun cur h=>by simp at h));have G3:=Zn W3 p0 15 (.slice ta m tc);have E3:Hid ((W3.setCell ⟨p0,15,none⟩ (.slice ta m tc)).heap[p0]? = some (.cells (Z5 n ta tc) 47)):=zH (by
  have:=ZM L3.out.e1 15 (.slice ta m tc);rw[<-hm.out,Z5x]at this;rw[<-hm.out];exact this)
 have E4:Hid ((W3.setCell ⟨p0,15,none⟩ (.slice ta m tc)).heap[p1]? = some (.cells (Z5 Zh none 0) 47)):=zH (Zc G3 L3.out.e2 (fun e=>by have:=L3.out.lt;have e2:=Option.some.inj e;omega));go_upto_region 2 with fail;have B3:Hid (Below p0 w (W3.setCell ⟨p0,15,none⟩ (.slice ta m tc))):=zH (L3.out.b.grown G3 (by have:=Zk L3.out.e1;omega) (fun q hq=>by cases hq;exact Nat.le_refl _));have U3:=zH (Zo O3.out L3.out.e2 (fun cur h=>by simp at h));have O4:=zH (Ze (S:=fun k=>k=p0) O3.out (Zb.of_grown G3 (fun k e=>by cases e;rfl)) (fun b hb e=>T3.out (by rw[hb,e])));have hlt:=L3.out.lt;clear c15 f15 G3;generalize W3.setCell ⟨p0,15,none⟩ (.slice ta m tc)=W4 at *;have oneN:=Zm n ta tc;go_wp2_with (first
  |(refine zL p0 E3.out ?_)
  |(refine zN p1 (Z5 n ta tc) E4.out ?_))
 go_wp2_with fail;have hr:=Yz W4 p1 _ (Z5 n ta tc) _ _ E4.out;refine bodyPost_ret (results_cell_row rfl _ _ p1 47 (Z5 n ta tc) (0,0) _ rfl hr Tryz.underlying47 rfl (I43.out _ _ _)) rfl ?_;have G4:=YI W4 p1 (Z5 n ta tc);have hp1:p1 < W4.heap.size:=Zk E4.out;refine⟨ta,tc,rfl,?_,?_⟩
 ·rw[HP0.out,hm.out];exact Ze (S:=fun k=>k=p1) O4.out (Zb.of_grown G4 (fun k e=>by cases e;rfl)) (fun b hb e=>U3.out (by rw[hb,e]))
 ·rw[HP0.out];exact B3.out.grown G4 (by omega) (fun q hq=>by cases hq;omega)
end
theorem Z28 (x m y k:Int)(w:World):Calls zq 120 #[.agg #[.int .i64 x,.int .i64 m],.agg #[.int .i64 y,.int .i64 k]] w fun e w'=>e = .returned (.int .i64 (YJ x m y k))/\VB w.heap.size w w':=by
 have g1:=Z9 _ (.cells (#[.int .i64 y,.int .i64 k]) 45) _ _ (Za w (.cells (#[.int .i64 x,.int .i64 m]) 45));have g2:=Zy (w.alloc (.cells (#[.int .i64 x,.int .i64 m]) 45)) (.cells (#[.int .i64 y,.int .i64 k]) 45) (w.heap.size+1) (by simp);have bb:VB w.heap.size w ((w.alloc (.cells (#[.int .i64 x,.int .i64 m]) 45)).alloc (.cells (#[.int .i64 y,.int .i64 k]) 45)):=((VB.refl _ _).alloc (Nat.le_refl _) _).alloc (by simp) _;have T0:Hid (Z4O w ((w.alloc (.cells (#[.int .i64 x,.int .i64 m]) 45)).alloc (.cells (#[.int .i64 y,.int .i64 k]) 45)) w.heap.size (w.heap.size+1) (#[.int .i64 x,.int .i64 m]) (#[.int .i64 y,.int .i64 k]) 45):=zH ⟨g1,g2,bb,by omega⟩;clear g1 g2 bb;go_enter Tryz.func120,Tryz.ntmps120;go_upto_region 1 with fail;generalize (w.alloc (.cells (#[.int .i64 x,.int .i64 m]) 45)).alloc (.cells (#[.int .i64 y,.int .i64 k]) 45)=W0 at *;obtain⟨p,hp⟩:=zX (w.heap.size);obtain⟨q,hq⟩:=zX (w.heap.size+1);rw[hq.out,hp.out]at T0;rw[hq.out,hp.out];have T1:=zH (T0.out.below (VB.refl W0.heap.size W0).drew);refine wp_region_noPanic ?_;refine wp_region_held_drew (S:=fun w'=>Z4O w w' p q (#[.int .i64 x,.int .i64 m]) (#[.int .i64 y,.int .i64 k]) 45) (by kernel_rfl) T1.out (fun hh=>?_);refine zS 0 rfl (.pointer (some ⟨p,0,none⟩)) (fun W _=>by go_simp) ?_;refine zS 1 rfl (.int .i64 x) (fun W h=>by have hc:=Z6 h.e1 0 (.int .i64 x) rfl;go_simp) ?_;refine zS 2 rfl (.pointer (some ⟨q,0,none⟩)) (fun W _=>by go_simp) ?_;refine zS 3 rfl (.int .i64 y) (fun W h=>by have hc:=Z6 h.e2 0 (.int .i64 y) rfl;go_simp) ?_;refine zS 5 rfl (.pointer (some ⟨p,1,none⟩)) (fun W _=>by go_simp) ?_;refine zS 6 rfl (.int .i64 m) (fun W h=>by have hc:=Z6 h.e1 1 (.int .i64 m) rfl;go_simp) ?_;refine zS 7 rfl (.pointer (some ⟨q,1,none⟩)) (fun W _=>by go_simp) ?_;refine zS 8 rfl (.int .i64 k) (fun W h=>by have hc:=Z6 h.e2 1 (.int .i64 k) rfl;go_simp) ?_;refine zR 4 rfl fun K hK=>?_;go_simp;go_at_call 173;refine(XJ x y _).mono ?_;rintro e w1 ⟨rfl,rfl⟩;dsimp only;refine zK hK T1.out fun hh=>?_
 clear hK K;refine zR 9 rfl fun K hK=>?_;go_simp;go_at_call 173;refine(XJ m k _).mono ?_;rintro e w1 ⟨rfl,rfl⟩;dsimp only;refine zK hK T1.out fun hh=>?_;clear hK K;refine zR 10 rfl fun K hK=>?_;go_simp;have TB:=zH (T1.out.below ((VB.refl W0.drew.heap.size W0.drew).alloc (Nat.le_refl _) (.cells #[.int .i64 (Yw x y),.int .i64 (Yw m k)] 3)));refine zK hK TB.out fun hh=>?_;clear hK K;refine zR 11 rfl fun K hK=>?_;go_simp;go_at_call 172;refine(Z2v W0.drew.heap.size (Yw x y) (Yw m k) _ (Za W0.drew _)).mono ?_;rintro e w1 ⟨rfl,rfl⟩;dsimp only;refine zK hK TB.out fun hh=>?_;clear hK K;refine zS 12 rfl (.int .i64 (orI (Yw x y) (Yw m k))) (fun W _=>by go_simp) ?_;have TE:=TB;refine zE ?_;change Exit.then _ _ Exit.normal { tmps := #[.agg #[.int .i64 x,.int .i64 m],.agg #[.int .i64 y,.int .i64 k],.pointer (some ⟨p,0,none⟩),.pointer (some ⟨q,0,none⟩),.int .i64 (orI (Yw x y) (Yw m k)),.pointer (some ⟨p,0,none⟩),.int .i64 x,.pointer (some ⟨q,0,none⟩),.int .i64 y,.int .i64 (Yw x y),.pointer (some ⟨p,1,none⟩),.int .i64 m,.pointer (some ⟨q,1,none⟩),.int .i64 k,.int .i64 (Yw m k),.slice (some ⟨W0.drew.heap.size,0,none⟩) 2 2,.int .i64 (orI (Yw x y) (Yw m k))],defers:=[] } _;go_wp2;go_ret;exact⟨rfl,by rw[hp.out];exact TE.out.b⟩
theorem Zaf (args:Y6)(w:World):(callFunc 120 args).run zq w = .ok (.enter 120 args) w:=by kernel_rfl
theorem ZdN (x y:Nm)(w:World):Calls zq 120 #[.agg (Uu x).toArray,.agg (Uu y).toArray] w fun e w'=>e = .returned (.int .i64 (YJ x.1 x.2 y.1 y.2))/\VB w.heap.size w w':=
 Z28 x.1 x.2 y.1 y.2 w
section
attribute [local go_sem] Oper.semAt_some
theorem Zas (m:Nat)(Wb:World)(p pB b n:Nat)(f:Nm->Option LN)(hpB:Wb.heap[pB]? = some (.cells #[.map (some b)] 106))(hne:pB≠p)(hmap:ZZ LN.val Wb b n f)(hbp:b≠p)
  (rec:LoopState->Option Code->Loop) (W1:World) (h0:zl Wb p [] W1) (hl:ZG rec Wb.heap.size .ready none W1)
  (hY : ∀(s:KSt) W,KAt Wb p b n f (s.1 ++ [s.2.1]) s.1 s.2.2.1 s.2.2.2 W->ZG rec Wb.heap.size .ready none W->YieldAt Fence.wide (m - 1) zq (Wb.heap.size+1) #[.agg #[.int .i64 s.2.1.1,.int .i64 s.2.1.2]] W fun e W'=>
    e = .returned (.bool true)/\KAt Wb p b n f (s.1 ++ [s.2.1]) (s.1 ++ [s.2.1]) s.2.2.1 s.2.2.2 W'/\ZG rec Wb.heap.size .ready none W'):
  CallsIn Fence.wide m zq 171 #[.func (.yield (Wb.heap.size+1)) #[] #[],.pointer (some ⟨pB,0,none⟩)] W1 fun e W'=>
    (∃v,e = .returned v)/\(∃ks,zl Wb p ks W'/\Xt f ks/\ks.Nodup/\(∀k∈ks,(f k).isSome=true)/\ks.length<=n)/\ZG rec Wb.heap.size .ready none W':=by
 have HY:=zH hY;clear hY;have M1:=zH (hmap.of_block (h0.same.block b hmap.lt hbp));have hlc:=Z6 ((h0.same.block pB (Zk hpB) hne).trans hpB) 0 (.map (some b)) rfl;have R0:=zH h0;clear h0;have L0:=zH hl;clear hl;clear hpB hne hmap hbp;refine callsIn_of_wp Tryz.func171 rfl trivial ?_;simp only[Tryz.ntmps171,List.size_toArray,List.length_cons,List.length_nil,Nat.reduceAdd,Nat.reduceSub,Array.replicate_succ,Array.replicate_zero,List.push_toArray,List.append_toArray,List.nil_append,List.cons_append];gi_wp2_with (first
  |(gi_at_range;refine Up _ rfl _ 106 47 rfl Tryz.underlying106 b n rfl M1.out ?_;intro w0 cnt0 hrg0 hg0 hs0)
  | gi_in)
 go_frame;obtain⟨r,hr⟩:=zX (W1.heap.size);have b0:Below W1.heap.size W1 w0:=(Below.refl _ _).grown hg0 (Nat.le_refl _) (fun q hq=>by cases hq);have S0:Hid (KAt Wb p b n f [] [] r cnt0 w0):=zH ⟨R0.out.below b0,by rw[<-hr.out];exact hrg0,by rw[<-hr.out];exact R0.out.same.size,fun k hk=>by cases hk⟩;have LL0:=zH (L0.out.of_below b0);rw[hr.out];clear hrg0 hg0 hs0 b0 hlc M1 R0 L0;gi_loopw [3] (fun _ wr=>∃(ks:List Nm) (cnt:Nat),Hid (KAt Wb p b n f ks ks r cnt wr)/\Hid (ZG rec Wb.heap.size .ready none wr)) (fun _ wr=>wr.rangeLeft b r)
 case atStart=>exact⟨[],cnt0,S0,LL0⟩
 case round=>
  obtain⟨ks,cnt,HS,HL⟩:=hrel;gi_wp2_with (first
   |(gi_at_next;refine UR _ rfl _ rfl b r n cnt ks rfl HS.out.2.1 ?_ ?_)
   | gi_in)
  ·intro hall;have HALL:=zH hall;clear hall;gi_wp2;go_end0;exact⟨⟨_,rfl⟩,⟨ks,HS.out.1,HALL.out,HS.out.2.1.nodup,HS.out.2.2.2,by have:=HS.out.2.1.count;omega⟩,HL.out⟩
  ·intro kh km y w2 cnt2 HN hen;obtain⟨bb,since,seen,c0,hrb⟩:=HS.out.2.1.blk;have np2:=HS.out.1.turn hrb (fun _ _ _=>by simp) HN.out.grown HS.out.2.2.1;have bn:Below w2.heap.size w2 (w2.alloc (.cells #[.int .i64 kh,.int .i64 km] 45)):=zB _ _;have L3:=zH ((HL.out.turn hrb (fun _=>by simp) (fun _=>by simp) HN.out.grown).of_below bn);have K3:Hid (KAt Wb p b n f (ks ++ [(kh,km)]) ks r cnt2 (w2.alloc (.cells #[.int .i64 kh,.int .i64 km] 45))):=zH ⟨np2.below bn,HN.out.range.below bn,HS.out.2.2.1,fun k hk=>by
    rcases List.mem_append.1 hk with hk | hk
    ·exact HS.out.2.2.2 k hk
    ·rw[List.mem_singleton.1 hk,HN.out.at_];rfl⟩
   have HM:=zH (show wr.rangeLeft b r=cnt from HS.out.2.1.left_eq);have HLT:=zH HN.out.lt;clear np2 bn HS HL HN hrb;unfold LN.val at hen;obtain⟨fn,tmps,assign,body,hy,hRo⟩:=HY.out (ks,(kh,km),r,cnt2) _ K3.out L3.out;dsimp only at hy;gi_wp2;refine⟨fun h=>by simp[Fence.wide]at h,?_⟩;refine hRo.mono ?_;rintro e W6 ⟨rfl,hK6,hL6⟩;have HK6:=zH hK6;have HL6:=zH hL6;clear hRo hy hK6 hL6 hen;gi_wp2;go_roundw
   case rel=>exact⟨_,cnt2,HK6,HL6⟩
   case measure=>rw[HK6.out.2.1.left_eq,HM.out];exact HLT.out
theorem Z5g (pB b n:Nat)(f:Nm->Option LN)(w:World)(hpB:w.heap[pB]? = some (.cells #[.map (some b)] 106))(hmap:ZZ LN.val w b n f)(hn:n<=1000):
  Calls zq 203 #[.slice none 0 0,.func (.func 171) #[] #[.pointer (some ⟨pB,0,none⟩)]] w fun e w'=>
   (∃a' c' ks,e = .returned (.slice a' ks.length c')/\w'.ownsRow w.heap.size 45 2 (.slice a' ks.length c') ks.length (ZC ks)/\Xt f ks/\ks.Nodup/\(∀k∈ks,(f k).isSome=true)/\ks.length<=n)/\Below w.heap.size w w':=by
 have HLEN:=zH hn;clear hn;have B0:=zH (zB w (.cells #[.slice none 0 0] 75));have P0:=zH (Za w (.cells #[.slice none 0 0] 75));have HB:=zH (Z7 B0.out hpB);have HM:=zH (hmap.below B0.out);have NE:Hid (pB≠w.heap.size/\b≠w.heap.size):=zH (by have:=Zk hpB;have:=hmap.lt;omega);clear hpB hmap;refine(callsIn_wide (n:=4)).1 ?_;refine callsIn_of_wp_marks Tryz.func203 rfl trivial ?_;simp only[Tryz.ntmps203,List.size_toArray,List.length_cons,List.length_nil,Nat.reduceAdd,Nat.reduceSub,Array.replicate_succ,Array.replicate_zero,List.push_toArray,List.append_toArray,List.nil_append,List.cons_append];refine wpIn_wide.2 ?_;go_upto_region 1 with fail;obtain⟨p,hp⟩:=zX (w.heap.size);rw[hp.out]at P0 NE ⊢;generalize w.alloc (.cells #[.slice none 0 0] 75)=w3 at *;go_wp2_with fail;refine(wpIn_wide (n:=4)).1 ?_;refine UE (n:=3) (σ:=KSt) (w:=w3) (gf:=171) (lb := #[.pointer (some ⟨pB,0,none⟩)]) rfl (enters_of Tryz.func171 (by kernel_rfl) rfl)
  (fun s=>#[.agg #[.int .i64 s.2.1.1,.int .i64 s.2.1.2]]) (fun _=>rfl) (fun s W=>KAt w3 p b n f (s.1 ++ [s.2.1]) s.1 s.2.2.1 s.2.2.2 W) (fun s W=>KAt w3 p b n f (s.1 ++ [s.2.1]) (s.1 ++ [s.2.1]) s.2.2.1 s.2.2.2 W)
  (fun s a₁ W=>∃pX,a₁ = { tmps := #[.slice none 0 0,.func (.func 171) #[] #[.pointer (some ⟨pB,0,none⟩)],.pointer (some ⟨p,0,none⟩),undef,.slice none 0 0,.pointer (some ⟨pX,0,none⟩),.func (.func 171) #[] #[.pointer (some ⟨pB,0,none⟩)],.agg #[.int .i64 s.2.1.1,.int .i64 s.2.1.2],undef,undef,undef,undef,undef],defers:=[] } /\ W.heap[pX]? = some (.cells #[.int .i64 s.2.1.1,.int .i64 s.2.1.2] 45)/\KAt w3 p b n f (s.1 ++ [s.2.1]) s.1 s.2.2.1 s.2.2.2 W)
  (fun W=>∃ks,zl w3 p ks W/\Xt f ks/\ks.Nodup/\(∀k∈ks,(f k).isSome=true)/\ks.length<=n) ?hA' ?hB ?hD ?assign ?body ?iter ?done
 case hA'=>
  rintro s a₁ W o ⟨pX,rfl,h1,h2,h3,h4⟩ ⟨r,hr⟩;refine⟨pX,rfl,(World.putObj_heap_other (fun e=>?_)).trans h1,h2.putObj o ⟨r,hr⟩,h3.turn (grownBy_putObj' W _ _) (fun q e=>by cases e;exact⟨_,hr,by simp,by simp⟩),h4⟩;rw[e,hr]at h1;simp at h1
 case hB=>
  rintro s W o ⟨h2,h3,h4⟩ ⟨r,hr⟩;exact⟨h2.putObj o ⟨r,hr⟩,h3.turn (grownBy_putObj' W _ _) (fun q e=>by cases e;exact⟨_,hr,by simp,by simp⟩),h4⟩
 case hD=>
  rintro W o ⟨ks,h,h2⟩ hl;exact⟨ks,h.putObj o hl,h2⟩
 case assign=>
  rintro⟨ks,k,r,cnt⟩ W h1;have H1:=zH h1;clear h1;dsimp only;have hb5:Below W.heap.size W (W.alloc (.cells #[.int .i64 k.1,.int .i64 k.2] 45)):=zB W _;have HG:=zH (show KeepsFrom w3.heap.size W (W.alloc (.cells #[.int .i64 k.1,.int .i64 k.2] 45))/\(W.alloc (.cells #[.int .i64 k.1,.int .i64 k.2] 45)).heap[W.heap.size]? = some (.cells #[.int .i64 k.1,.int .i64 k.2] 45)/\KAt w3 p b n f (ks ++ [k]) ks r cnt (W.alloc (.cells #[.int .i64 k.1,.int .i64 k.2] 45))from
   ⟨(JH hb5).from _,Za W _,H1.out.1.below hb5,H1.out.2.1.below hb5,H1.out.2.2⟩)
  clear hb5 H1;have hf : ∀t:Y6,(#[7].zip #[Value.agg #[.int .i64 k.1,.int .i64 k.2]]).foldl (fun t (p,v)=>t.setIfInBounds p v) t=t.setIfInBounds 7 (.agg #[.int .i64 k.1,.int .i64 k.2]):=fun t=>by simp
  rw[hf];simp only[List.setIfInBounds_toArray,List.set_cons_succ,List.set_cons_zero];clear hf;refine YG (Qj _) (U1 (fun a w h=>h)) ?hnd ?_
  case hnd=>rfl
  go_wp2_with fail;exact⟨HG.out.1,W.heap.size,rfl,HG.out.2⟩
 case body=>
  rintro⟨ks,k,r,cnt⟩ a₁ W ⟨pX,rfl,hX,h1⟩;have HX:=zH hX;have H1:=zH (show KAt w3 p b n f (ks ++ [k]) ks r cnt W from h1);clear hX h1;dsimp only;have HKL:Hid (ks.length<=1000):=zH (by have h1:=H1.out.2.1.count;have:=HLEN.out;rw[List.length_append]at h1;omega);obtain⟨⟨ea,ec,hblk,how⟩,hsm⟩:=H1.out.1;have bn:Below W.heap.size W (W.alloc (.cells #[.int .i64 k.1,.int .i64 k.2] 45)):=zB _ _;obtain⟨a',c',v9,hrun,ho9,hg9⟩:=XS (W.alloc (.cells #[.int .i64 k.1,.int .i64 k.2] 45)) w3.heap.size ea ks.length ec _ (Zd how bn) _ 1 1 _ (Vu W _ _) (fun u hu=>by simp only[List.mem_cons,List.not_mem_nil,or_false]at hu;rcases hu with rfl | rfl <;> rfl) (by have:=HKL.out;omega) (Nat.le_trans hsm.size bn.size);have hadd:=zl.add (hsm.trans (Zb.of_below bn)) (Z7 bn hblk) (Zd how bn) ho9 hg9;have HK:Hid (KeepsFrom w3.heap.size W (v9.setCell ⟨p,0,none⟩ (.slice a' (ks.length+1) c'))):=zH (by
   refine KeepsOthers.from ⟨?_,fun k o hk ho=>?_⟩ _
   ·exact Nat.le_trans bn.size (Nat.le_trans hg9.size (by simp[World.setCell]))
   ·have hk1:=Z7 bn hk;have hk2:=Zc hg9 hk1 (fun e=>by have:=Z0U (Zd how bn) e.symm hk1;rw[this]at ho;cases ho);exact Zc (Zn v9 p 0 _) hk2 (fun e=>by rw[Option.some.inj e,hadd.2]at hk2;cases hk2;cases ho))
  have RA:Y8 LN.val (v9.setCell ⟨p,0,none⟩ (.slice a' (ks.length+1) c')) b r n f (ks ++ [k]) cnt:=by
   have h2:=H1.out.2.1.below bn;have h3:Y8 LN.val v9 b r n f (ks ++ [k]) cnt:=h2.turn hg9 (fun q e=>by
    rcases(Zd how bn).2 with ⟨h4,_⟩ | ⟨g,cap,cur,h4,_,h5,_⟩
    ·rw[h4]at e;cases e
    ·rw[h4]at e;cases e;exact⟨_,h5,by simp,by simp⟩)
   exact h3.turn (Zn v9 p 0 _) (fun q e=>by cases e;exact⟨_,hadd.2,by simp,by simp⟩)
  have HA:=zH (show KAt w3 p b n f (ks ++ [k]) (ks ++ [k]) r cnt (v9.setCell ⟨p,0,none⟩ (.slice a' (ks.length+1) c'))from⟨hadd.1,RA,H1.out.2.2⟩);have hcl:=Z6 hblk 0 (.slice ea ks.length ec) rfl;have hx0:=Z6 HX.out 0 (.int .i64 k.1) rfl;have hx1:=Z6 HX.out 1 (.int .i64 k.2) rfl;have hcl3:=Z6 hadd.2 0 (.slice ea ks.length ec) rfl;have hfz:=Zq hadd.2 0;clear hadd how hsm bn ho9 hg9 hblk RA;apply wpIn_block;refine YG (Qj _) (U1 (fun a w h=>h)) ?hnd ?_
  case hnd=>rfl
  go_wp2_with (first
   |(refine Ym rfl _ _ _ rfl _ _ _ rfl rfl hrun ?_)
   | fail)
  exact⟨HK.out,HA.out⟩
 case iter=>
  intro rec hlr hY;have hbb:=(zB w3 (.deferred (some []))).alloc (by simp) (.loop (rec .ready none));exact Zas 3 w3 p pB b n f HB.out NE.out.1 HM.out NE.out.2 rec _ ⟨⟨none,0,Z7 hbb P0.out,World.ownsRow_nil _ _ _ _⟩,Zb.of_below hbb⟩ hlr hY
 case done=>
  rintro W ⟨ks,⟨⟨a',c',hblk,how⟩,hsm⟩,hks⟩ hD0;dsimp only;have HD0:=zH hD0;have HOW:=zH how;have HSM:=zH hsm;have HKS:=zH hks;have hcl:=Z6 hblk 0 (.slice a' ks.length c') rfl;clear hD0 how hsm hblk hks;go_wp2_with fail;have hb:Below w.heap.size w W:=HSM.out.below B0.out B0.out.size (fun k hk=>by have:=hp.out;omega);have hbz:Below w.heap.size w (W.putObj w3.heap.size (.deferred none)):=hb.grown (grownBy_putObj' W _ _) hb.size (fun k e=>by cases e;exact B0.out.size);have hoz:=Zx (ownsRow_putObj HOW.out (.deferred none) HD0.out rfl) B0.out.size;refine⟨by simp,.inl ⟨_,_,rfl,run_takeDeferred HD0.out,?_⟩⟩;exact⟨.slice a' ks.length c',by kernel_rfl,⟨a',c',ks,rfl,hoz,HKS.out⟩,hbz⟩
theorem Z4F (pB b n:Nat)(f:Nm->Option LN)(w:World)(hpB:w.heap[pB]? = some (.cells #[.map (some b)] 106))(hmap:ZZ LN.val w b n f)(hn:n<=1000):
  Calls zq 169 #[.func (.func 171) #[] #[.pointer (some ⟨pB,0,none⟩)]] w fun e w'=>
   (∃a' c' ks,e = .returned (.slice a' ks.length c')/\w'.ownsRow w.heap.size 45 2 (.slice a' ks.length c') ks.length (ZC ks)/\Xt f ks/\ks.Nodup/\(∀k∈ks,(f k).isSome=true)/\ks.length<=n)/\Below w.heap.size w w':=by
 have HA:=zH (Z5g pB b n f w hpB hmap hn);clear hpB hmap hn;go_enter Tryz.func169,Tryz.ntmps169;go_wp2_with fail;refine HA.out.mono ?_;rintro e w1 ⟨⟨a',c',ks,rfl,h1⟩,h2⟩;have H:=zH (And.intro h1 h2);clear h1 h2;go_wp2;go_ret;exact⟨⟨a',c',ks,rfl,H.out.1⟩,H.out.2⟩
theorem Z4Y (pB b n:Nat)(f:Nm->Option LN)(w:World)(hpB:w.heap[pB]? = some (.cells #[.map (some b)] 106))(hmap:ZZ LN.val w b n f)(hn:n<=1000):
  Calls zq 118 #[.func (.func 171) #[] #[.pointer (some ⟨pB,0,none⟩)],.func (.func 120) #[] #[]] w fun e w'=>Z4Q f n w e w'/\Below w.heap.size w w':=by
 have HA:=zH (Z4F pB b n f w hpB hmap hn);have HN:=zH hn;clear hpB hmap hn;go_enter Tryz.func118,Tryz.ntmps118;go_wp2_with fail;refine HA.out.mono ?_;rintro e w1 ⟨⟨a',c',ks,rfl,h1,h2,h3,h4,h5⟩,hb⟩;have HO:=zH h1;have HAL:=zH h2;have HND:=zH h3;have HIN:=zH h4;have HL:=zH h5;have HB:=zH hb;clear h1 h2 h3 h4 h5 hb;go_wp2_with fail;refine(zx (V:=Nm) Z6q Uu (fun _=>rfl) (fun x v hv=>by simp only[Uu,List.mem_cons,List.not_mem_nil,or_false]at hv;rcases hv with rfl | rfl <;> rfl) (fun x y=>YJ x.1 x.2 y.1 y.2) (fun _ _=>rfl) 120 Zaf ZdN w.heap.size ks.length c' a' ks _ (by rw[<-Qm];exact HO.out) rfl (by have:=HL.out;have:=HN.out;omega)).mono ?_;rintro e w10 ⟨rfl,zs,hz1,hz2,hz3,hz4⟩;have Z1:=zH hz1;have Z2:=zH hz2;have Z3:=zH hz3;have B2:=zH (hz4.below HB.out HB.out.size (fun k hk=>(HO.out.lt k hk).1));clear hz1 hz2 hz3 hz4;have ZL:Hid (zs.length=ks.length):=zH Z2.out.length_eq;go_wp2;go_ret;exact⟨⟨a',c',zs,by rw[ZL.out] <;> rfl,by rw[Qm,ZL.out];exact Z1.out,fun k hk=>Z2.out.symm.subset (HAL.out k hk),Z5y (Z2.out.nodup_iff.2 HND.out) Z3.out,fun k hk=>HIN.out k (Z2.out.subset hk),by rw[ZL.out];exact HL.out⟩,B2.out⟩
theorem Zat (b:Nat)(W:World):Calls zq 119 #[.map (some b)] W fun e W'=>e = .returned (.func (.func 171) #[] #[.pointer (some ⟨W.heap.size,0,none⟩)])/\W'=W.alloc (.cells #[.map (some b)] 106):=by
 have hmf : ∀(fn:Fn) (first cap:Y6) (w:World),(Instr.makeFunc fn first cap).run zq w = .ok (.func fn first cap) w:=fun _ _ _ _=>rfl;go_enter Tryz.func119,Tryz.ntmps119;go_wp2;go_ret;exact⟨rfl,rfl⟩
end
theorem Z82 (l:List Xv):(XI l).length=l.length * 21:=by
 rw[XI,Z0I 21 _ (by intro r hr;obtain⟨e,_,rfl⟩:=List.mem_map.1 hr;rfl),List.length_map]
theorem Qp.of_rd {W:World}{a:zA}{n c:Nat}{l:List Xv}(h:Y3 W 21 a n c (XI l)):Qp W a n c l:=by
 refine⟨by have:=h.len;rw[Z82]at this;omega,h.le,h.max,h.2.2.2.imp id ?_⟩;rintro⟨b,off,rfl,h4⟩;refine⟨b,off,rfl,fun i x hx j v hv=>?_⟩;have hj:j < 21:=(List.getElem?_eq_some_iff.1 hv).1;have h5:=Uz 21 (l.map Xv.cells) (by intro r hr;obtain⟨y,_,rfl⟩:=List.mem_map.1 hr;rfl) i x.cells (by rw[List.getElem?_map,hx];rfl) j hj;have h6:=h4 (i * 21+j) v (h5.trans hv);rwa [<-Nat.add_assoc]at h6
theorem Qg {C:World->Prop}{w:World}{o:Oper}{a:Act}(x:Operand)(ho:o.op = .load 47 x)(p off:Nat)(hx:a.eval x = .pointer (some ⟨p,off,none⟩))(n:Z8)(sa:zA)(sc:Nat)
  (h:w.rangeAt p off (n.cells sa sc)):o.quietAt zq a C w (.agg (Z5 n sa sc)):=by
 unfold Oper.quietAt execOp;simp only[ho,hx,Instr.loadAt,Instr.sureAddr,Sem.run_bind,Sem.run_pure,Result.andThen_ok,run_loadVar_mid w p off 47 (n.cells sa sc) _ h Tryz.underlying47 rfl (Z0x n sa sc)];exact⟨rfl,rfl⟩
theorem JN (w:World)(p o:Nat)(v:Value):Zb (fun k=>k=p) w (w.setCell ⟨p,o,none⟩ v):=Zb.of_grown (Zn w p o v) (fun k e=>by cases e;rfl)
theorem Z6n {W:World}{a:zA}{n c:Nat}{l:List Nm}(h:Y3 W 2 a n c (ZC l))(h0:0 < n): ∃b off,a=some ⟨b,off,none⟩ /\ ∀i x,l[i]? = some x->W.cell? ⟨b,off+i * 2,none⟩=some (.int .i64 x.1)/\W.cell? ⟨b,off+i * 2+1,none⟩=some (.int .i64 x.2):=by
 rcases h.2.2.2 with h5 | ⟨b,off,rfl,h4⟩
 ·have:=h.2.1;omega
 ·refine⟨b,off,rfl,fun i x hx=>?_⟩;rw[Qm]at h4;have hf:=fun j hj=>Uz 2 (l.map Uu) (by intro r hr;obtain⟨y,_,rfl⟩:=List.mem_map.1 hr;rfl) i (Uu x) (by rw[List.getElem?_map,hx];rfl) j hj;have h6:=h4 (i * 2+0) _ ((hf 0 (by omega)).trans rfl);have h7:=h4 (i * 2+1) _ ((hf 1 (by omega)).trans rfl);exact⟨h6,by rwa [<-Nat.add_assoc]at h7⟩
theorem Zag {l m:List Nm}(h:l.length=m.length)(hj : ∀j,j < l.length->l[j]? = m[j]?):l=m:=by
 apply List.ext_getElem?;intro j;rcases Nat.lt_or_ge j l.length with h1 | h1
 ·exact hj j h1
 ·rw[List.getElem?_eq_none h1,List.getElem?_eq_none (by omega)]
theorem Z51 (a:zA)(n c:Nat)(l:List Nm)(a':zA)(n' c':Nat)(l':List Nm)(w:World)(hr:Y3 w 2 a n c (ZC l))(hr':Y3 w 2 a' n' c' (ZC l')):
  Calls zq 106 #[.slice a n c,.slice a' n' c'] w fun e w'=>e = .returned (.bool (decide (l=l'))) /\ ∃q,w'=w.drewN q:=by
 have hm:=hr.maxn;have I2:(zq.info? 45).map (·.size)=some 2:=by kernel_rfl
 have hl:=zH (show l.length=n by have:=hr.len;rw[X3]at this;omega);have hl':=zH (show l'.length=n' by have:=hr'.len;rw[X3]at this;omega);by_cases hnn:n=n'
 ·subst hnn;have QF:Hid ((∀j,j < n->l[j]? = l'[j]?)->decide (l=l')=true):=zH (fun h=>by rw[decide_eq_true_eq];exact Zag (by rw[hl.out,hl'.out]) (fun j hj=>h j (by rw[hl.out]at hj;omega)));have QG:Hid (∀j:Nat,l[j]? ≠ l'[j]? -> decide (l=l')=false):=zH (fun j h=>by rw[decide_eq_false_iff_not];intro e;rw[e]at h;exact h rfl);generalize decide (l=l')=q at *;go_enter Tryz.func106,Tryz.ntmps106;go_wp2;go_loopw [5] (fun i wr=>∃k:Nat,k<=n/\i = .int .i64 k/\(∀j,j < k->l[j]? = l'[j]?) /\ ∃q,wr=w.drewN q) (fun i _=>n - (intOf i).toNat)
  case atStart=>exact⟨0,Nat.zero_le _,rfl,fun j hj=>by omega,0,rfl⟩
  case round=>
   obtain⟨k,hk,rfl,hrl,q,rfl⟩:=hrel;have HR:=zH hrl;clear hrl;by_cases hlt:k < n
   ·obtain⟨b,off,rfl,hc⟩:=Z6n hr (by omega);obtain⟨b',off',rfl,hc'⟩:=Z6n hr' (by omega);obtain⟨x,Hx⟩ : ∃x,l[k]? = some x:=⟨l[k]'(by rw[hl.out];exact hlt),List.getElem?_eq_getElem (by rw[hl.out];exact hlt)⟩;obtain⟨y,Hy⟩ : ∃y,l'[k]? = some y:=⟨l'[k]'(by rw[hl'.out];exact hlt),List.getElem?_eq_getElem (by rw[hl'.out];exact hlt)⟩;obtain⟨hx0,hx1⟩:=hc k x Hx;obtain⟨hy0,hy1⟩:=hc' k y Hy;have HX:=zH Hx;have HY:=zH Hy;clear hc hc' hr hr' Hx Hy;obtain⟨o,ho⟩:=zX (off+k * 2);obtain⟨o',ho'⟩ : ∃o',Hid (off'+k * 2=o'):=⟨_,zH rfl⟩;rw[ho.out]at hx0 hx1;rw[ho'.out]at hy0 hy1;have hi:=fun W=>Yi (W:=W) (c:=c) (b:=b) Tryz.underlying75 I2 hlt ho.out;have hi':=fun W=>Yi (W:=W) (c:=c') (b:=b') Tryz.underlying75 I2 hlt ho'.out;have hk64:(k:Int)<=9223372036854775807:=by omega
    by_cases he:x=y
    ·have e1:x.1=y.1:=by rw[he]
     have e2:x.2=y.2:=by rw[he]
     have HE:=zH he;clear he;rw[e1]at hx0;rw[e2]at hx1;clear e1 e2;go_wp2;go_quiet (fail);go_wp2;go_roundw
     case rel=>exact⟨k+1,by omega,by go_num,fun j hj=>by
      rcases Nat.lt_succ_iff_lt_or_eq.1 hj with h | h
      ·exact HR.out j h
      ·rw[h,HX.out,HY.out,HE.out],_,rfl⟩
     case measure=>simp[intOf];omega
    ·have HE:=zH (QG.out k (by rw[HX.out,HY.out];simpa using he));have hne : ¬(x.1=y.1/\x.2=y.2):=fun h=>he (Prod.ext h.1 h.2);clear he;by_cases e1:x.1=y.1
     focus
      have e2:(x.2==y.2)=false:=by rw[beq_eq_false_iff_ne];exact fun h=>hne ⟨e1,h⟩
      rw[e1]at hx0
     rotate_left
     focus
      have e2:(x.1==y.1)=false:=by rw[beq_eq_false_iff_ne];exact e1
     all_goals
      clear hne e1;go_wp2;go_quiet (fail);go_wp2;go_ret;exact⟨by rw[HE.out];rfl,_,World.drewN_drewN _ _ _⟩
   ·have HE:=zH (QF.out (fun j hj=>HR.out j (by omega)));go_wp2;go_ret;exact⟨by rw[HE.out];rfl,_,rfl⟩
 ·have hb:(((n:Nat):Int) != ((n':Nat):Int))=true:=by rw[bne_iff_ne];omega
  have hm':=hr'.maxn;have HE:Hid (decide (l=l')=false):=zH (by rw[decide_eq_false_iff_not];intro e;rw[e]at hl;exact hnn (hl.out.symm.trans hl'.out));clear hnn;go_enter Tryz.func106,Tryz.ntmps106;go_wp2;go_ret;exact⟨by rw[HE.out];rfl,0,rfl⟩
theorem Uv (xs:List LN):(ZH xs).length=xs.length * 19:=by
 rw[ZH,Z0I 19 _ (by intro r hr;obtain⟨e,_,rfl⟩:=List.mem_map.1 hr;rfl),List.length_map]
theorem Z6m {W:World}{a:zA}{n c:Nat}{xs:List LN}(h:Y3 W 19 a n c (ZH xs))(hs : ∀x∈xs,x.ok W):Qs W a n c (xs.map LN.n):=by
 have hl:xs.length=n:=by have:=h.len;rw[Uv]at this;omega
 refine⟨by rw[List.length_map,hl],h.2.1,h.2.2.1,?_⟩;rcases h.2.2.2 with h0 | ⟨b,off,rfl,h4⟩
 ·exact .inl h0
 ·rcases Nat.eq_zero_or_pos n with hn | hn
  ·refine .inr ⟨b,off,rfl,fun i x hx=>?_⟩;have:xs=[]:=List.eq_nil_of_length_eq_zero (by omega);subst this;simp at hx
  ·obtain⟨b',off',e,hat⟩:=Z9s h hn;cases e;refine .inr ⟨b,off,rfl,fun i x hx=>?_⟩;rw[List.getElem?_map]at hx;cases hy:xs[i]? with
   | none=>simp[hy]at hx
   | some y=>
    simp only[hy,Option.map_some,Option.some.injEq]at hx;subst hx;exact⟨y.sa,y.sc,hat i y hy,hs y (List.mem_of_getElem? hy)⟩
section
variable (s1:zA)(c1:Nat)(s2:zA)(c2:Nat)(s3:zA)(c3:Nat)
end
def JS (f:Yo)(l m:List Z8):Int:=if (Zs f l).1=0/\(Zs f m).1=0 then (match Z08 l m with | some _=>81 | none=>0)else 1
theorem Zbz (W:World):Qs W none 0 0 []:=⟨rfl,Nat.le_refl _,Nat.zero_le _,.inl rfl⟩
structure Vq (V W:World)(a:zA)(c n:Nat)(ys:List LN):Prop where
 bel:Below V.heap.size V W
 own:W.ownsRow V.heap.size 47 19 (.slice a n c) n (ZH ys)
 str:Z1n W V.heap.size ys
 len:ys.length=n
theorem Vq.start (V:World):Vq V V none 0 0 []:=⟨Below.refl _ _,World.ownsRow_nil _ _ _ _,(fun x hx=>by cases hx),rfl⟩
theorem Vq.below {V W W':World}{a:zA}{c n:Nat}{ys:List LN}(h:Vq V W a c n ys)(hb:Below W.heap.size W W'):Vq V W' a c n ys:=⟨h.bel.trans (hb.mono h.bel.size),Zd h.own hb,h.str.below hb,h.len⟩
theorem Vq.add {V W W':World}{a a':zA}{c c' n:Nat}{ys:List LN}{x:LN}(h:Vq V W a c n ys)(hx:W.ownsRow V.heap.size 3 1 (.slice x.sa x.n.strokes.length x.sc) x.n.strokes.length (x.n.strokes.map Ys))
  (ho:W'.ownsRow V.heap.size 47 19 (.slice a' (n+1) c') (n+1) (ZH ys ++ x.n.cells x.sa x.sc)) (hg:(W.alloc (.cells (Z5 x.n x.sa x.sc) 47)).grownBy W' (Value.ownBlock (.slice a n c))):Vq V W' a' c' (n+1) (ys ++ [x]):=by
 have bn:Below W.heap.size W (W.alloc (.cells (Z5 x.n x.sa x.sc) 47)):=zB _ _;have h2:=h.below bn;refine⟨h2.bel.grown hg h2.bel.size (fun k hk=>(h2.own.lt k hk).1),by rw[VJ];exact ho,fun y hy=>?_,by rw[List.length_append,h.len];rfl⟩;have h0:(W.alloc (.cells (Z5 x.n x.sa x.sc) 47)).ownsRow V.heap.size 3 1 (.slice y.sa y.n.strokes.length y.sc) y.n.strokes.length (y.n.strokes.map Ys):=by
  rcases List.mem_append.1 hy with hy | hy
  ·exact h2.str y hy
  ·rw[List.mem_singleton.1 hy];exact Zd hx bn
 exact h0.kept hg (JO h0 h2.own (by decide))
theorem Vq.rd {V W:World}{a:zA}{c n:Nat}{ys:List LN}(h:Vq V W a c n ys):Qs W a n c (ys.map LN.n):=Z6m (Y3.of_own h.own) (fun y hy=>Y3.of_own (h.str y hy))
theorem Z0z {α:Type}{enc:α->Value}{f:Nm->Option α}{w:World}{b n:Nat}{t e:TypeId}(hmap:ZZ enc w b n f)(ht:zq.underlying t=some (.map 45 e)){z:Value}(hz:(zeroValue e).run zq w = .ok z w)(h m:Int)(hk:VI (h,m)){y:α}(hy:f (h,m)=some y):
  (Instr.lookup t (.map (some b)) (.agg #[.int .i64 h,.int .i64 m]) false).run zq w = .ok (enc y) w:=by
 obtain⟨D,h1,h2⟩:=hmap;obtain⟨v,ps,h3,h4⟩:=h1.lookup JG ht hz (zd := .held z) (zp:=[]) rfl (U7 (h,m) hk);rw[h2.val (h,m) y hy]at h4;simp only[Qc,Option.some.injEq,Prod.mk.injEq]at h4;have h5:=h4.1;simp only[DataW.held.injEq]at h5;rw[<-h5];exact h3
theorem JU {α:Type}{enc:α->Value}{f:Nm->Option α}{w:World}{ops:Array Oper}{rest:List Oper}{o:Oper}{a:Act}{Q:Exit->Act->World->Prop}(hg:o.guard=none)(m:Operand)(t e:TypeId)(hop:o.op=Op.call { callee:=Callee.builtin Builtin.len,args := #[m],argTypes := #[t] })(ht:zq.underlying t=some (.map 45 e))(b n:Nat)
  (hm:a.eval m = .map (some b)) (hmap:ZZ enc w b n f) (hK : ∀k:Nat,k<=n->wpList zq ops Q rest (a.put o.dst (.int .i64 (k:Int))) w):wpList zq ops Q (o :: rest) a w:=by
 obtain⟨D,h1,h2⟩:=hmap;exact wpList_len_own w hg m t hop 45 e ht Qc b n D hm h1 (hK _ h1.size_le)
def Z3w (f g:Nm->Option LN)(ks:List Nm):Nm->Option LN:=fun k=>if k∈ks then g k else f k
theorem Z7z (f g:Nm->Option LN):Z3w f g []=f:=by
 funext a;simp[Z3w]
theorem Z5B {f g:Nm->Option LN}{ks:List Nm}{k:Nm}{y:LN}(h:g k=some y):Z3w f g (ks ++ [k])=YH (Z3w f g ks) k y:=by
 funext a;unfold Z3w YH;by_cases e:a=k
 ·subst e;simp[h]
 ·simp[e]
theorem Z7A {f g:Nm->Option LN}{ks:List Nm}(h:Xt g ks)(h2 : ∀k∈ks,(g k).isSome=true):Z3w f g ks=XN f g:=by
 funext a;unfold Z3w XN;by_cases e:a∈ks
 ·obtain⟨y,hy⟩:=Option.isSome_iff_exists.1 (h2 a e);simp[e,hy]
 ·cases hg:g a with
  | none=>simp[e]
  | some y=>exact absurd (h a (by rw[hg];rfl)) e
structure Z4S (w wr:World)(bd bs r nd n:Nat)(f g:Nm->Option LN)(kr ks:List Nm)(cnt:Nat):Prop where
 rng:Y8 LN.val wr bs r n g kr cnt
 dst:ZZ LN.val wr bd (nd+ks.length) (Z3w f g ks)
 same:Zb (fun k=>k=bd) w wr
 r_ge:w.heap.size<=r
 all : ∀k∈ks,(g k).isSome=true
 bd_lt:bd < w.heap.size
 ne:bd≠bs
section
variable {w wr W':World}{bd bs r nd n:Nat}{f g:Nm->Option LN}{kr ks:List Nm}{cnt:Nat}
theorem Z4S.below (h:Z4S w wr bd bs r nd n f g kr ks cnt)(hb:Below wr.heap.size wr W'):Z4S w W' bd bs r nd n f g kr ks cnt:=
 ⟨h.rng.below hb,h.dst.below hb,h.same.trans (Zb.of_below hb),h.r_ge,h.all,h.bd_lt,h.ne⟩
theorem Z4S.came (h:Z4S w wr bd bs r nd n f g kr ks cnt){kh km:Int}{y:LN}{cnt':Nat}(hN:Z60 LN.val wr bs r n cnt g kr kh km y W' cnt'):Z4S w W' bd bs r nd n f g (kr ++ [(kh,km)]) ks cnt':=
 ⟨hN.range,h.dst.kept hN.grown (fun e=>by have h1:=h.r_ge;have h2:=h.bd_lt;have:=Option.some.inj e;omega),h.same.reg (Zb.of_grown hN.grown (fun k e=>by cases e;exact .inr h.r_ge)),h.r_ge,h.all,h.bd_lt,h.ne⟩
theorem Z4S.put {k:Nm}{y:LN}(h:Z4S w wr bd bs r nd n f g (ks ++ [k]) ks cnt)(hk:g k=some y)(hm:ZZ LN.val W' bd (nd+ks.length+1) (YH (Z3w f g ks) k y))(ht:wr.mapTurned W' bd):Z4S w W' bd bs r nd n f g (ks ++ [k]) (ks ++ [k]) cnt:=by
 have h1:=h.r_ge;have h2:=h.bd_lt;refine⟨h.rng.of_blocks (ht.grown.block _ h.rng.map.lt (fun e=>h.ne (Option.some.inj e).symm)) (ht.grown.block _ h.rng.lt (fun e=>by have:=Option.some.inj e;omega)),?_,h.same.reg (Zb.of_grown ht.grown (fun k e=>by cases e;exact .inl rfl)),h.r_ge,fun a ha=>?_,h.bd_lt,h.ne⟩
 ·rw[Z5B hk,List.length_append];exact hm
 ·rcases List.mem_append.1 ha with ha | ha
  ·exact h.all a ha
  ·rw[List.mem_singleton.1 ha,hk];rfl
end
theorem Z6u (bd nd bs n:Nat)(f g:Nm->Option LN)(w:World)(hd:ZZ LN.val w bd nd f)(hs:ZZ LN.val w bs n g)(hne:bd≠bs)(hlen:nd+n<=1000000):
  Calls zq 64 #[.map (some bd),.map (some bs)] w fun e w'=>e = .returned (.tuple #[])/\ZZ LN.val w' bd (nd+n) (XN f g)/\Zb (fun k=>k=bd) w w':=by
 have I43:=zH zI;have HLEN:=zH hlen;clear hlen;go_enter Tryz.func64,Tryz.ntmps64;go_wp2_with (first
  |(at_range;refine Xx _ rfl _ 119 47 rfl Tryz.underlying119 bs n rfl hs ?_;intro w0 cnt0 hrg0 hg0 hs0)
  | fail)
 go_frame;obtain⟨r,hr⟩:=zX (w.heap.size);have b0:Below w.heap.size w w0:=(Below.refl _ _).grown hg0 (Nat.le_refl _) (fun q hq=>by cases hq);have S0:Hid (Z4S w w0 bd bs r nd n f g [] [] cnt0):=zH ⟨by rw[<-hr.out];exact hrg0,by rw[Z7z];exact hd.below b0,Zb.of_below b0,by rw[<-hr.out];exact Nat.le_refl _,(fun k hk=>by cases hk),hd.lt,hne⟩;rw[hr.out];clear hrg0 hg0 hs0 b0 hd hs hne;go_loopw [10] (fun _ wr=>∃(ks:List Nm) (cnt:Nat),Hid (Z4S w wr bd bs r nd n f g ks ks cnt)) (fun _ wr=>wr.rangeLeft bs r)
 case atStart=>exact⟨_,_,S0⟩
 case round=>
  clear S0;obtain⟨ks,cnt,HS⟩:=hrel;go_upto_region 2 with (first
   |(at_next;refine XV wr rfl _ rfl bs r n cnt ks rfl HS.out.rng ?_ ?_)
   | fail)
  ·intro hall;have HALL:=zH hall;clear hall;go_wp2;go_end0;exact⟨rfl,by have h1:=HS.out.dst.mono (m:=nd+n) (by have:=HS.out.rng.count;omega);rwa [Z7A HALL.out HS.out.all]at h1,HS.out.same⟩
  ·intro kh km y w1 cnt1 HN hen;have HF:=zH HN.out.at_;have HKok:=zH HN.out.ok;have S1:=zH (HS.out.came HN.out);have HKL:Hid (ks.length+1<=n):=zH (by have:=HN.out.range.count;rw[List.length_append]at this;simp at this;omega);have HM:=zH (show wr.rangeLeft bs r=cnt from HS.out.rng.left_eq);have HLT:=zH HN.out.lt;clear HS HN;unfold LN.val at hen;go_upto_region 3 with (first
    |(refine Zv (w1.alloc (.cells #[.int .i64 kh,.int .i64 km] 45)) rfl 47 _ _ rfl (w1.heap.size+1) (by simp) _ (Z5 y.n y.sa y.sc) rfl rfl (I43.out _ _ _) rfl (Zm y.n y.sa y.sc) ?_))
   clear hen;have hbt:Below w1.heap.size w1 ((w1.alloc (.cells #[.int .i64 kh,.int .i64 km] 45)).alloc (.cells (Z5 y.n y.sa y.sc) 47)):=(zB _ _).alloc (by simp) _;have CS:=zH (S1.out.below hbt);have CN:=zH (Z9 _ (.cells (Z5 y.n y.sa y.sc) 47) _ _ (Za w1 (.cells #[.int .i64 kh,.int .i64 km] 45)));have CT:=zH (Zy (w1.alloc (.cells #[.int .i64 kh,.int .i64 km] 45)) (.cells (Z5 y.n y.sa y.sc) 47) (w1.heap.size+1) (by simp));obtain⟨p4,hp4⟩:=zX (w1.heap.size);obtain⟨p5,hp5⟩:=zX (p4+1);rw[hp4.out]at CN CT ⊢;rw[hp5.out]at CT ⊢;generalize (w1.alloc (.cells #[.int .i64 kh,.int .i64 km] 45)).alloc (.cells (Z5 y.n y.sa y.sc) 47)=wt at *;clear hbt S1;have n0:=Z6 CN.out 0 (.int .i64 kh) rfl;have n1:=Z6 CN.out 1 (.int .i64 km) rfl;obtain⟨w5,hrun,hm5,ht5⟩:=Ql (t:=119) CS.out.dst (by have:=HLEN.out;have:=HKL.out;unfold maxLen;omega) Tryz.underlying119 kh km HKok.out y;have S5:=zH (CS.out.put HF.out hm5 ht5);clear hm5 ht5;unfold LN.val at hrun;go_wp2_with (first
    |(refine zL p5 CT.out ?_)
    | fail)
   go_roundw
   case rel=>exact⟨_,_,S5⟩
   case measure=>rw[S5.out.rng.left_eq,HM.out];exact HLT.out
theorem Z9o {W W':World}{x:LN}{b:Nat}(h:x.ok W)(hs:Zb (fun k=>k=b) W W')(hb : ∃es cl,W.heap[b]? = some (.map es cl)):x.ok W':=by
 obtain⟨es,cl,hb⟩:=hb;unfold LN.ok Xs at *;refine⟨h.1,h.2.1,h.2.2.1,h.2.2.2.imp id ?_⟩;rintro⟨g,off,hsa,hat⟩;refine⟨g,off,hsa,fun j v hv=>?_⟩;have h1:=hat j v hv;simp only[World.cell?]at h1 ⊢;have hg:g≠b:=fun e=>by subst e;rw[hb]at h1;simp at h1
 have hlt:g < W.heap.size:=by
  by_cases h2:g < W.heap.size
  ·exact h2
  ·rw[Array.getElem?_eq_none (by omega)]at h1;simp at h1
 rw[hs.block g hlt hg];exact h1
structure Z2c (w W:World)(l:List Z8)(b:Nat)(xs:List LN):Prop where
 eq:xs.map LN.n=l
 ok : ∀x∈xs,x.ok W
 map:ZZ LN.val W b l.length (ZS xs)
 ge:w.heap.size<=b
theorem Z2c.below {w W W':World}{l:List Z8}{b:Nat}{xs:List LN}(h:Z2c w W l b xs)(hb:Below W.heap.size W W'):Z2c w W' l b xs:=⟨h.eq,fun x hx=>(h.ok x hx).below hb,h.map.below hb,h.ge⟩
def Zdu (f:Yo)(l m:List Z8)(w:World)(e:Ending)(W:World):Prop:=
 (¬((Zs f l).1=0/\(Zs f m).1=0) /\ ∃o1 o2,e = .returned (.tuple #[.map o1,.map o2,.bool false])) \/
 ((Zs f l).1=0/\(Zs f m).1=0 /\ ∃b xs c ys,e = .returned (.tuple #[.map (some b),.map (some c),.bool true])/\Z2c w W l b xs/\Z2c w W m c ys/\b≠c)
theorem ZcG (f:Yo)(a:zA)(nn nc:Nat)(l:List Z8)(ma:zA)(mn mc:Nat)(m:List Z8)(w:World)(hr:Qs w a nn nc l)(hok : ∀x∈l,x.Ok)(hm:Qs w ma mn mc m)(hokm : ∀x∈m,x.Ok):
  Calls zq 62 #[f.val,.slice a nn nc,.slice ma mn mc] w fun e w'=>Zdu f l m w e w'/\Below w.heap.size w w':=by
 have S1:=zH (fun W hb=>Z2q f a nn nc l W (hr.below (show Below w.heap.size w W from hb)) hok);have S2:=zH (fun W hb=>Z2q f ma mn mc m W (hm.below (show Below w.heap.size w W from hb)) hokm);clear hr hok hm hokm;have hvl:f.val = .agg #[.int .i64 f.rings,.int .i64 f.sectors,.int .i64 f.wide]:=rfl;rw[hvl]at S1 S2 ⊢;clear hvl;have B0:=zH (zB w (zF f 23));have F0:=zH (Za w (zF f 23));go_enter Tryz.func62,Tryz.ntmps62;go_upto_region 1 with fail;obtain⟨pF,hpF⟩:=zX (w.heap.size);rw[hpF.out]at F0 ⊢;generalize w.alloc (zF f 23)=w0 at *;have f0:=Z6 F0.out 0 (.int .i64 f.rings) rfl;have f1:=Z6 F0.out 1 (.int .i64 f.sectors) rfl;have f2:=Z6 F0.out 2 (.int .i64 f.wide) rfl;go_wp2_with fail;refine(S1.out w0 B0.out).mono ?_;clear f0 f1 f2;rintro e w1 ⟨h1,hb1⟩;have B1:=zH (B0.out.trans (hb1.mono B0.out.size));have F1:=zH (Z7 hb1 F0.out);clear hb1 F0;have f0:=Z6 F1.out 0 (.int .i64 f.rings) rfl;have f1:=Z6 F1.out 1 (.int .i64 f.sectors) rfl;have f2:=Z6 F1.out 2 (.int .i64 f.wide) rfl;rcases h1 with ⟨hbad,rfl⟩ | ⟨hset,xs,b,rfl,h2,h3,h4,h5⟩
 ·have BAD:=zH hbad;clear hbad;go_wp2_with fail;refine(S2.out w1 B1.out).mono ?_;clear f0 f1 f2;rintro e w2 ⟨h1,hb2⟩;have B2:=zH (B1.out.trans (hb2.mono B1.out.size));clear hb2;rcases h1 with ⟨_,rfl⟩ | ⟨_,ys,c,rfl,_,_,_,_⟩
  ·go_wp2_with fail;go_returns;exact⟨.inl ⟨fun h=>BAD.out h.1,none,none,rfl⟩,B2.out⟩
  ·go_wp2_with fail;go_returns;exact⟨.inl ⟨fun h=>BAD.out h.1,none,some c,rfl⟩,B2.out⟩
 ·have SA:=zH (show Z2c w w1 l b xs from⟨h2,h3,h4,Nat.le_trans B0.out.size h5⟩);have HS:=zH hset;clear hset h2 h3 h4 h5;go_wp2_with fail;refine(S2.out w1 B1.out).mono ?_;clear f0 f1 f2;rintro e w2 ⟨h1,hb2⟩;have B2:=zH (B1.out.trans (hb2.mono B1.out.size));have SA2:=zH (SA.out.below hb2);clear hb2;rcases h1 with ⟨hbad,rfl⟩ | ⟨hset,ys,c,rfl,h2,h3,h4,h5⟩
  ·have BAD:=zH hbad;clear hbad;go_wp2_with fail;go_returns;exact⟨.inl ⟨fun h=>BAD.out h.2,some b,none,rfl⟩,B2.out⟩
  ·have HS2:=zH hset;have SB:=zH (show Z2c w w2 m c ys from⟨h2,h3,h4,Nat.le_trans B1.out.size h5⟩);have NE:Hid (b≠c):=zH (by have:=SA.out.map.lt;omega);clear hset h2 h3 h4 h5;go_wp2_with fail;go_returns;exact⟨.inr ⟨HS.out,HS2.out,b,xs,c,ys,rfl,SA2.out,SB.out,NE.out⟩,B2.out⟩
def Z0G (l m:List Z8):Nm×Bool:=match Z08 l m with | some a=>(a,true) | none=>((0,0),false)
theorem Z01 {W:World}{a:zA}{n c:Nat}{l:List Nm}(h:Y3 W 2 a n c (ZC l)){q:Nat}{k:Nm}(hk:l[q]? = some k): ∃b off,a=some ⟨b,off,none⟩/\W.cell? ⟨b,off+q * 2,none⟩=some (.int .i64 k.1)/\W.cell? ⟨b,off+q * 2+1,none⟩=some (.int .i64 k.2):=by
 have hl:l.length=n:=by have:=h.len;rw[X3]at this;omega
 have hq:=(List.getElem?_eq_some_iff.1 hk).1;obtain⟨b,off,rfl,hat⟩:=Z6n h (by omega);exact⟨b,off,rfl,hat q k hk⟩
theorem Zcc (b c:Nat)(l m:List Z8)(xs ys:List LN)(w0 w:World)(ha:Z2c w0 w l b xs)(hb:Z2c w0 w m c ys)(hp:l.Pairwise UX)(hd:(m.map Zi).Nodup)(hokl : ∀x∈l,x.Ok)(h4:l.length<=1000):
  Calls zq 63 #[.map (some b),.map (some c)] w fun e w'=>e = .returned (.tuple #[.agg #[.int .i64 (Z0G l m).1.1,.int .i64 (Z0G l m).1.2],.bool (Z0G l m).2])/\Below w.heap.size w w':=by
 have I2:=zH (show ∀(x y:Value),(zq.info? 45).map (·.size)=some (#[x,y]:Y6).size from fun x y=>by kernel_rfl);have J2:(zq.info? 45).map (·.size)=some 2:=by kernel_rfl
 have SA:=zH ha;have SB:=zH hb;have HP:=zH hp;have HD:=zH hd;have HOK:=zH hokl;have H4:=zH h4;have NDL:Hid (((xs.map LN.n).map Zi).Nodup):=zH (by rw[SA.out.eq];exact Yt HP.out);have NDM:Hid (((ys.map LN.n).map Zi).Nodup):=zH (by rw[SB.out.eq];exact HD.out);clear ha hb hp hd hokl h4;have B0:=zH (zB w (.cells #[.int .i64 0,.int .i64 0] 45));have P0:=zH (Za w (.cells #[.int .i64 0,.int .i64 0] 45));have SZ:Hid (w.heap.size<=w.heap.size):=zH (Nat.le_refl _);go_enter Tryz.func63,Tryz.ntmps63;go_upto_region 1 with fail;obtain⟨p4,hp4⟩:=zX (w.heap.size);replace SZ:Hid (w.heap.size<=p4):=zH (by rw[hp4.out];exact Nat.le_refl _);rw[hp4.out]at P0;rw[hp4.out];generalize w.alloc (.cells #[.int .i64 0,.int .i64 0] 45)=W0 at *;go_wp2_with fail;refine(Z5z b l.length (ZS xs) W0 (SA.out.map.below B0.out) H4.out).mono ?_;rintro e W1 ⟨⟨na,nc,ks,rfl,h1,h2,h3,h4,h5⟩,b1⟩;have B1:=zH (B0.out.trans (b1.mono B0.out.size));have P1:=zH (Z7 b1 P0.out);have RN:=zH (Y3.of_own h1);have KE:Hid (ks=l.map Zi):=zH (by
  have:=ZbG (xs:=xs) (by rw[SA.out.eq];exact HP.out) h2 h4 h3;rwa [SA.out.eq]at this)
 have KL:Hid (ks.length=l.length):=zH (by rw[KE.out,List.length_map]);obtain⟨kn,hkn⟩:=zX (ks.length);rw[hkn.out]at RN KL ⊢;clear b1 h1 h2 h3 h4 h5 B0 P0;have HK4:Hid (kn<=1000):=zH (by have:=H4.out;have:=KL.out;omega);go_wp2_with fail;go_loopw [13] (fun i wr=>∃(q:Nat),i = .int .i64 (q:Int)/\q<=kn/\Hid (∀j y,j < q->l[j]? = some y->Z2W m y=false)/\Hid (Below W1.heap.size W1 wr)) (fun i _=>kn - (intOf i).toNat)
 case atStart=>exact⟨0,rfl,Nat.zero_le _,zH (fun j y h=>by omega),zH (Below.refl _ _)⟩
 case round=>
  obtain⟨q,rfl,hq,HA,BB⟩:=hrel;have BW:=zH (B1.out.trans (BB.out.mono B1.out.size));by_cases hlt:q < kn
  ·have t0:decide ((q:Int) < (kn:Int))=true:=by simp;omega
   obtain⟨xn,Hx⟩ : ∃xn,l[q]? = some xn:=⟨_,List.getElem?_eq_getElem (by rw[<-KL.out];exact hlt)⟩;obtain⟨x,hxm,hxn⟩ : ∃x∈xs,x.n=xn:=by
    have h1:=List.mem_of_getElem? Hx;rw[<-SA.out.eq]at h1;obtain⟨x,h2,h3⟩:=List.mem_map.1 h1;exact⟨x,h2,h3⟩
   subst hxn;have HLX:=zH Hx;have GX:Hid (ZS xs (x.n.house,x.n.num)=some x):=zH (XA NDL.out hxm);have XOK:=zH (SA.out.ok x hxm);have NOK:Hid (VI (x.n.house,x.n.num)):=zH (by have:=HOK.out x.n (List.mem_of_getElem? Hx);exact⟨this.house,this.num⟩);obtain⟨kb,koff,rfl,hk1,hk2⟩:=Z01 (RN.out.below BB.out) (show ks[q]? = some (x.n.house,x.n.num)by rw[KE.out,List.getElem?_map,Hx];rfl);obtain⟨o,ho⟩:=zX (koff+q * 2);rw[ho.out]at hk1 hk2;have hix:=fun W=>Yi (W:=W) (c:=nc) (b:=kb) Tryz.underlying75 J2 hlt ho.out;have HK64:Hid ((q:Int)+1<=9223372036854775807):=zH (by have:=HK4.out;omega);clear Hx hxm;go_upto_region 4 with fail;clear t0 hix hk1 hk2;have bt:Below wr.heap.size wr (wr.alloc (.cells #[.int .i64 x.n.house,.int .i64 x.n.num] 45)):=zB _ _;have P7:=zH (Za wr (.cells #[.int .i64 x.n.house,.int .i64 x.n.num] 45));have BW2:=zH (BW.out.trans (bt.mono BW.out.size));have BB2:=zH (BB.out.trans (bt.mono BB.out.size));obtain⟨p7,hp7⟩:=zX (wr.heap.size);rw[hp7.out]at P7 ⊢;generalize wr.alloc (.cells #[.int .i64 x.n.house,.int .i64 x.n.num] 45)=wt at *;clear bt BW BB;have MY:=zH (SB.out.map.below BW2.out);have MX:=zH (SA.out.map.below BW2.out);have n0:=Z6 P7.out 0 (.int .i64 x.n.house) rfl;have n1:=Z6 P7.out 1 (.int .i64 x.n.num) rfl;cases hfr:ZS ys (x.n.house,x.n.num)with
   | none=>
    have hget:(Instr.lookup 119 (.map (some c)) (.agg #[.int .i64 x.n.house,.int .i64 x.n.num]) true).run zq wt = .ok (.tuple #[.agg (Z5 Zh none 0),.bool false]) wt:=by
     have:=XR (t:=119) MY.out Tryz.underlying119 (Xc wt) x.n.house x.n.num NOK.out;rw[hfr]at this;exact this
    have BAD:Hid (Z2W m x.n=false):=zH (Zdj (fun y hy e=>by
     rw[<-SB.out.eq]at hy;obtain⟨z,hz,rfl⟩:=List.mem_map.1 hy;have h1:=XA NDM.out hz;rw[show z.nm=(x.n.house,x.n.num)from e,hfr]at h1;cases h1))
    clear hfr;go_upto_region 5 with (first
     |(refine zP wt wt.heap.size (Z5 Zh none 0) ?_))
    have bt:Below wt.heap.size wt (wt.alloc (.cells (Z5 Zh none 0) 47)):=zB _ _;have BB3:=zH (BB2.out.trans (bt.mono BB2.out.size));generalize wt.alloc (.cells (Z5 Zh none 0) 47)=wz at *;clear bt hget n0 n1 MX MY BW2 BB2 P7;have hC0:Below wz.heap.size wz wz.drew:=(Below.refl _ _).drew;try simp only[Act.put,lq3,lq4,lq5]
    refine zC (fun w':World=>Below wz.heap.size wz w') hC0 ?_
    iterate 2 go_big_quiet_step (fail)
    iterate 6 go_big_quiet_skip
    refine zV (.bool false) ?_;refine wpQuiet_nil ?_;intro w' hC;have BB5:=zH (BB3.out.trans (hC.mono BB3.out.size));clear hC;have hk64:=HK64.out;go_wp2;go_roundw
    case rel=>exact⟨q+1,by go_num,by omega,zH (fun i z hi hz=>by
     rcases Nat.lt_or_ge i q with h' | h'
     ·exact HA.out i z h' hz
     ·have e:i=q:=by omega
      subst e;rw[HLX.out]at hz;cases hz;exact BAD.out),BB5⟩
    case measure=>simp[intOf];omega
   | some y=>
    have hget:(Instr.lookup 119 (.map (some c)) (.agg #[.int .i64 x.n.house,.int .i64 x.n.num]) true).run zq wt = .ok (.tuple #[.agg (Z5 y.n y.sa y.sc),.bool true]) wt:=by
     have:=XR (t:=119) MY.out Tryz.underlying119 (Xc wt) x.n.house x.n.num NOK.out;rw[hfr]at this;exact this
    have BAD:Hid (Z2W m x.n = !Y7 y.n x.n):=zH (by
     rw[Z8A];exact Zdk HD.out (by rw[<-SB.out.eq];exact List.mem_map_of_mem (ZP hfr).1) (ZP hfr).2)
    have YOK:=zH (SB.out.ok y (ZP hfr).1);clear hfr;go_upto_region 5 with (first
     |(refine zP wt wt.heap.size (Z5 y.n y.sa y.sc) ?_))
    have bt:Below wt.heap.size wt (wt.alloc (.cells (Z5 y.n y.sa y.sc) 47)):=zB _ _;have P8:=zH (Za wt (.cells (Z5 y.n y.sa y.sc) 47));have BB3:=zH (BB2.out.trans (bt.mono BB2.out.size));have BW3:=zH (BW2.out.trans (bt.mono BW2.out.size));have MX3:=zH (MX.out.below bt);have P73:=zH (Z7 bt P7.out);obtain⟨p8,hp8⟩:=zX (wt.heap.size);rw[hp8.out]at P8 ⊢;generalize wt.alloc (.cells (Z5 y.n y.sa y.sc) 47)=wz at *;clear bt hget n0 n1 MX MY BW2 BB2 P7;have hC0:Below wz.heap.size wz wz.drew:=(Below.refl _ _).drew;have L7:=zH (show ∀w0,Below wz.heap.size wz w0->w0.heap[p7]? = some (.cells #[.int .i64 x.n.house,.int .i64 x.n.num] 45)from fun w0 h=>Z7 h P73.out);have L8:=zH (show ∀w0,Below wz.heap.size wz w0->w0.heap[p8]? = some (.cells (Z5 y.n y.sa y.sc) 47)from fun w0 h=>Z7 h P8.out);try simp only[Act.put,lq3,lq4,lq5]
    refine zC (fun w':World=>Below wz.heap.size wz w') hC0 ?_
    iterate 2 go_big_quiet_step (fail)
    refine zQ (.agg (Z5 y.n y.sa y.sc)) (fun w0 hC=>ZF (.tmp 8) rfl p8 rfl y.n y.sa y.sc (L8.out w0 hC)) ?_;go_big_quiet_step (fail);refine zQ (.agg #[.int .i64 x.n.house,.int .i64 x.n.num]) (fun w0 hC=>?_) ?_
    ·have c0:=Z6 (L7.out w0 hC) 0 (.int .i64 x.n.house) rfl;have c1:=Z6 (L7.out w0 hC) 1 (.int .i64 x.n.num) rfl;clear hC;go_simp
    refine zQ (.agg (Z5 x.n x.sa x.sc)) (fun w0 hC=>?_) ?_
    ·have hg:(Instr.lookup 119 (.map (some b)) (.agg #[.int .i64 x.n.house,.int .i64 x.n.num]) false).run zq w0 = .ok (.agg (Z5 x.n x.sa x.sc)) w0:=Z0z (t:=119) (MX3.out.below hC) Tryz.underlying119 (Xc w0) x.n.house x.n.num NOK.out GX.out;clear hC;go_simp
    refine zQ (.bool (Y7 y.n x.n)) (fun w0 hC=>?_) ?_
    ·go_simp;refine(Z1L y.n x.n y.sa y.sc x.sa x.sc w0 ((YOK.out.below BW3.out).below hC) ((XOK.out.below BW3.out).below hC)).mono ?_;rintro e w1 ⟨rfl,b1⟩;exact⟨rfl,hC.trans (b1.mono hC.size)⟩
    refine zV (.bool (!Y7 y.n x.n)) ?_;refine zV (.bool (!Y7 y.n x.n)) ?_;refine wpQuiet_nil ?_;intro w' hC;have BB5:=zH (BB3.out.trans (hC.mono BB3.out.size));have BW5:=zH (BW3.out.trans (hC.mono BW3.out.size));have P75:=zH (L7.out w' hC);clear hC L7 L8 P73 P8 MX3 BB3 BW3 XOK YOK;cases hq2:(!Y7 y.n x.n)
    ·replace BAD:=zH (BAD.out.trans hq2);clear hq2;have hk64:=HK64.out;go_wp2;go_roundw
     case rel=>exact⟨q+1,by go_num,by omega,zH (fun i z hi hz=>by
      rcases Nat.lt_or_ge i q with h' | h'
      ·exact HA.out i z h' hz
      ·have e:i=q:=by omega
       subst e;rw[HLX.out]at hz;cases hz;exact BAD.out),BB5⟩
     case measure=>simp[intOf];omega
    ·have CE:Hid (Z0G l m=((x.n.house,x.n.num),true)):=zH (by
      unfold Z0G;rw[Z6F HLX.out HA.out (BAD.out.trans hq2)];rfl)
     have PW:=zH (Z7 BB5.out P1.out);have n0:=Z6 P75.out 0 (.int .i64 x.n.house) rfl;have n1:=Z6 P75.out 1 (.int .i64 x.n.num) rfl;clear hq2 BAD;go_wp2_with (first
      |(refine YB rfl 45 _ _ rfl p4 #[.int .i64 0,.int .i64 0] #[.int .i64 x.n.house,.int .i64 x.n.num] 45 rfl rfl PW.out (I2.out _ _) rfl (by simp[Value.oneCell']) ?_;intro w9 hr1 hr2 hr3)
      | fail)
     have HR1:=zH hr1;have HR2:=zH hr2;clear hr1 hr2 hr3;refine bodyPost_ret (ZI rfl _ _ p4 45 #[.int .i64 x.n.house,.int .i64 x.n.num] (0,0) _ rfl HR1.out Tryz.underlying45 rfl (I2.out _ _)) rfl ?_;exact⟨by rw[CE.out] <;> rfl,BW5.out.grown HR2.out BW5.out.size (fun q e=>by cases e;exact SZ.out)⟩
  ·have t0:decide ((q:Int) < (kn:Int))=false:=by simp;omega
   have CE:Hid (Z0G l m=((0,0),false)):=zH (by
    unfold Z0G;rw[Z90 (l:=l) (m:=m) (fun j y hj hy=>HA.out j y (by rw[<-KL.out]at hj;omega) hy)])
   have PW:=zH (Z7 BB.out P1.out);go_wp2_with (first
    |(refine YB rfl 45 _ _ rfl p4 #[.int .i64 0,.int .i64 0] #[.int .i64 0,.int .i64 0] 45 rfl rfl PW.out (I2.out _ _) rfl (by simp[Value.oneCell']) ?_;intro w9 hr1 hr2 hr3)
    | fail)
   have HR1:=zH hr1;have HR2:=zH hr2;clear hr1 hr2 hr3;refine bodyPost_ret (ZI rfl _ _ p4 45 #[.int .i64 0,.int .i64 0] (0,0) _ rfl HR1.out Tryz.underlying45 rfl (I2.out _ _)) rfl ?_;exact⟨by rw[CE.out] <;> rfl,BW.out.grown HR2.out BW.out.size (fun q e=>by cases e;exact SZ.out)⟩
def evC (e:Xv):Nm×Z8:=(e.nm,e.x.n)
theorem Z8z (n:Z8):Y7 n n=true:=by simp[Y7]
theorem Z5S {W:World}{b o:Nat}{e:Xv}(h:W.rangeAt b o e.cells):W.rangeAt b (o+2) (e.x.n.cells e.x.sa e.x.sc):=fun j v hv=>by
 have:=h (2+j) v (by rw[Xv.cells,List.getElem?_append_right (by simp)];simpa using hv)
 rwa [<-Nat.add_assoc]at this
theorem Z1f (l m:List Xv)(a:zA)(n c:Nat)(a':zA)(n' c':Nat)(w:World)(hr:Qp w a n c l)(hr':Qp w a' n' c' m)(hl : ∀e∈l,e.x.ok w)(hm : ∀e∈m,e.x.ok w)(he:l.map evC=m.map evC):
  Calls zq 105 #[.slice a n c,.slice a' n' c'] w fun e w'=>e = .returned (.bool true)/\Below w.heap.size w w':=by
 have J21:(zq.info? 210).map (·.size)=some 21:=by kernel_rfl
 have hm1:=hr.maxn;have LN1:=zH hr.1;have hnn:n=n':=by
  have h1:=congrArg List.length he;rw[List.length_map,List.length_map]at h1;rw[<-hr.1,<-hr'.1,h1]
 subst hnn;have R1:=zH hr;have R2:=zH hr';have O1:=zH hl;have O2:=zH hm;have HE:=zH he;clear hr hr' hl hm he;go_enter Tryz.func105,Tryz.ntmps105;go_wp2_with fail;go_loopw [5] (fun i wr=>∃k:Nat,i = .int .i64 k/\k<=n/\Hid (Below w.heap.size w wr)) (fun i _=>n - (intOf i).toNat)
 case atStart=>exact⟨0,rfl,Nat.zero_le _,zH (Below.refl _ _)⟩
 case round=>
  obtain⟨k,rfl,hk,BB⟩:=hrel;by_cases hlt:k < n
  ·have t0:decide ((k:Int) < (n:Int))=true:=by simp;omega
   obtain⟨x,Hx⟩ : ∃x,l[k]? = some x:=⟨_,List.getElem?_eq_getElem (by rw[LN1.out];exact hlt)⟩;obtain⟨y,Hy⟩ : ∃y,m[k]? = some y:=⟨_,List.getElem?_eq_getElem (by rw[R2.out.1];exact hlt)⟩;have hxy:evC x=evC y:=by
    have h1:=congrArg (fun q=>q[k]?) HE.out;simp only[List.getElem?_map,Hx,Hy,Option.map_some,Option.some.injEq]at h1;exact h1
   have OX:=zH (O1.out x (List.mem_of_getElem? Hx));have OY:=zH (O2.out y (List.mem_of_getElem? Hy));obtain⟨b,off,rfl,hat⟩:=(R1.out.below BB.out).at (by omega);obtain⟨b',off',rfl,hat'⟩:=(R2.out.below BB.out).at (by omega);have AX:=zH (hat k x Hx);have AY:=zH (hat' k y Hy);obtain⟨nm,⟨nn,sa,sc⟩⟩:=x;obtain⟨nm',⟨nn',ta,tc⟩⟩:=y;unfold evC at hxy;rw[Prod.mk.injEq]at hxy;obtain⟨rfl,rfl⟩:nm=nm'/\nn=nn':=hxy;clear hat hat' Hx Hy;obtain⟨o,ho⟩:=zX (off+k * 21);obtain⟨o',ho'⟩ : ∃o',Hid (off'+k * 21=o'):=⟨_,zH rfl⟩;rw[ho.out]at AX;rw[ho'.out]at AY;have HIX:=zH (fun W=>Yi (W:=W) (c:=c) (b:=b) Tryz.underlying74 J21 hlt ho.out);have HIY:=zH (fun W=>Yi (W:=W) (c:=c') (b:=b') Tryz.underlying74 J21 hlt ho'.out);have hk64:(k:Int)+1<=9223372036854775807:=by omega
   go_upto_region 6 with fail;clear t0;try simp only[Act.put,lq3,lq4,lq5]
   have hC0:Below wr.heap.size wr wr.drew:=(Below.refl _ _).drew;have LX:=zH (show ∀w0,Below wr.heap.size wr w0->w0.rangeAt b o (Xv.cells ⟨nm,⟨nn,sa,sc⟩⟩)from fun w0 h=>Yv AX.out h);have LY:=zH (show ∀w0,Below wr.heap.size wr w0->w0.rangeAt b' o' (Xv.cells ⟨nm,⟨nn,ta,tc⟩⟩)from fun w0 h=>Yv AY.out h);have RX:=zH (show ∀w0,Below wr.heap.size wr w0->Xs w0 sa nn.strokes.length sc nn.strokes from fun w0 h=>(OX.out.below BB.out).below h);have RY:=zH (show ∀w0,Below wr.heap.size wr w0->Xs w0 ta nn.strokes.length tc nn.strokes from fun w0 h=>(OY.out.below BB.out).below h);have SN:=zH (fun W h1 h2=>Za5 nn nn sa sc ta tc W h1 h2);rw[Z8z]at SN;refine zC (fun w':World=>Below wr.heap.size wr w') hC0 ?_
   iterate 2 go_big_quiet_step (fail)
   refine zQ (.pointer (some ⟨b,o,none⟩)) (fun w0 hC=>?_) ?_
   ·have hix:=HIX.out w0;clear hC;go_simp
   refine zv b o ?_;refine zQ (.agg #[.int .i64 nm.1,.int .i64 nm.2]) (fun w0 hC=>?_) ?_
   ·have c0:=LX.out w0 hC 0 (.int .i64 nm.1) rfl;have c1:=LX.out w0 hC 1 (.int .i64 nm.2) rfl;simp only[Nat.add_zero]at c0;clear hC;go_simp
   iterate 2 go_big_quiet_step (fail)
   refine zQ (.pointer (some ⟨b',o',none⟩)) (fun w0 hC=>?_) ?_
   ·have hix:=HIY.out w0;clear hC;go_simp
   refine zV (.pointer (some ⟨b',o',none⟩)) ?_;refine zQ (.agg #[.int .i64 nm.1,.int .i64 nm.2]) (fun w0 hC=>?_) ?_
   ·have c0:=LY.out w0 hC 0 (.int .i64 nm.1) rfl;have c1:=LY.out w0 hC 1 (.int .i64 nm.2) rfl;simp only[Nat.add_zero]at c0;clear hC;go_simp
   refine zQ (.bool false) (fun w0 hC=>?_) ?_
   ·clear hC;go_simp;try simp
   iterate 3 go_big_quiet_step (fail)
   refine zQ (.pointer (some ⟨b,o,none⟩)) (fun w0 hC=>?_) ?_
   ·have hix:=HIX.out w0;clear hC;go_simp
   refine zv b (o+2) ?_;refine zQ (.agg (Z5 nn sa sc)) (fun w0 hC=>Qg (.tmp 32) rfl b (o+2) rfl nn sa sc (Z5S (LX.out w0 hC))) ?_
   iterate 2 go_big_quiet_step (fail)
   refine zQ (.pointer (some ⟨b',o',none⟩)) (fun w0 hC=>?_) ?_
   ·have hix:=HIY.out w0;clear hC;go_simp
   refine zV (.pointer (some ⟨b',o'+2,none⟩)) ?_;refine zQ (.agg (Z5 nn ta tc)) (fun w0 hC=>Qg (.tmp 37) rfl b' (o'+2) rfl nn ta tc (Z5S (LY.out w0 hC))) ?_;refine zQ (.bool true) (fun w0 hC=>?_) ?_
   ·go_simp;refine(SN.out w0 (RX.out w0 hC) (RY.out w0 hC)).mono ?_;rintro e w1 ⟨rfl,b1⟩;exact⟨rfl,hC.trans (b1.mono hC.size)⟩
   refine zV (.bool false) ?_;refine zV (.bool false) ?_;refine wpQuiet_nil ?_;intro w' hC;have B8:=zH (BB.out.trans (hC.mono BB.out.size));clear hC;go_wp2;go_roundw
   case rel=>exact⟨k+1,by go_num,by omega,B8⟩
   case measure=>simp[intOf];omega
  ·have t0:decide ((k:Int) < (n:Int))=false:=by simp;omega
   go_wp2;go_ret;exact⟨rfl,BB.out⟩
theorem Z8y (hs es hs' es':List Xv)(cs:List Nm)(ha:zA)(hn hc:Nat)(ea:zA)(en ec:Nat)(ca:zA)(cn cc:Nat)(ha':zA)(hn' hc':Nat)(ea':zA)(en' ec':Nat)(ca':zA)(cn' cc':Nat)(w:World)
  (r1:Qp w ha hn hc hs) (r2:Qp w ea en ec es) (r3:Y3 w 2 ca cn cc (ZC cs)) (s1:Qp w ha' hn' hc' hs') (s2:Qp w ea' en' ec' es') (s3:Y3 w 2 ca' cn' cc' (ZC cs))
  (ok : ∀e∈hs ++ es,e.x.ok w) (ok' : ∀e∈hs' ++ es',e.x.ok w) (e1:hs.map evC=hs'.map evC) (e2:es.map evC=es'.map evC):
  Calls zq 45 #[.agg #[.slice ha hn hc,.slice ea en ec,.slice ca cn cc],.agg #[.slice ha' hn' hc',.slice ea' en' ec',.slice ca' cn' cc']] w fun e w'=>e = .returned (.bool true)/\Below w.heap.size w w':=by
 have B0:=zH ((zB w (.cells #[.slice ha hn hc,.slice ea en ec,.slice ca cn cc] 77)).alloc (by simp) (.cells #[.slice ha' hn' hc',.slice ea' en' ec',.slice ca' cn' cc'] 77));have P0:=zH (Z9 _ (.cells #[.slice ha' hn' hc',.slice ea' en' ec',.slice ca' cn' cc'] 77) _ _ (Za w (.cells #[.slice ha hn hc,.slice ea en ec,.slice ca cn cc] 77)));have Q0:=zH (Zy (w.alloc (.cells #[.slice ha hn hc,.slice ea en ec,.slice ca cn cc] 77)) (.cells #[.slice ha' hn' hc',.slice ea' en' ec',.slice ca' cn' cc'] 77) (w.heap.size+1) (by simp));have RR:=zH (show ∀W,Below w.heap.size w W->Qp W ha hn hc hs/\Qp W ea en ec es/\Y3 W 2 ca cn cc (ZC cs)/\Qp W ha' hn' hc' hs'/\Qp W ea' en' ec' es'/\Y3 W 2 ca' cn' cc' (ZC cs)/\(∀e∈hs,e.x.ok W)/\(∀e∈es,e.x.ok W)/\(∀e∈hs',e.x.ok W)/\(∀e∈es',e.x.ok W)from fun W h=>
  ⟨r1.below h,r2.below h,r3.below h,s1.below h,s2.below h,s3.below h,fun e he=>(ok e (List.mem_append_left _ he)).below h,fun e he=>(ok e (List.mem_append_right _ he)).below h,fun e he=>(ok' e (List.mem_append_left _ he)).below h,fun e he=>(ok' e (List.mem_append_right _ he)).below h⟩)
 have E1:=zH e1;have E2:=zH e2;clear r1 r2 r3 s1 s2 s3 ok ok' e1 e2;go_enter Tryz.func45,Tryz.ntmps45;go_upto_region 1 with fail;obtain⟨p,hp⟩:=zX (w.heap.size);obtain⟨q,hq⟩:=zX (w.heap.size+1);rw[hp.out]at P0;rw[hq.out]at Q0;rw[hq.out,hp.out];generalize (w.alloc (.cells #[.slice ha hn hc,.slice ea en ec,.slice ca cn cc] 77)).alloc (.cells #[.slice ha' hn' hc',.slice ea' en' ec',.slice ca' cn' cc'] 77)=W0 at *;have a0:=Z6 P0.out 0 (.slice ha hn hc) rfl;have a1:=Z6 P0.out 1 (.slice ea en ec) rfl;have a2:=Z6 P0.out 2 (.slice ca cn cc) rfl;have b0:=Z6 Q0.out 0 (.slice ha' hn' hc') rfl;have b1:=Z6 Q0.out 1 (.slice ea' en' ec') rfl;have b2:=Z6 Q0.out 2 (.slice ca' cn' cc') rfl;go_wp2_with fail;refine(Z1f hs hs' ha hn hc ha' hn' hc' W0 (RR.out W0 B0.out).1 (RR.out W0 B0.out).2.2.2.1 (RR.out W0 B0.out).2.2.2.2.2.2.1 (RR.out W0 B0.out).2.2.2.2.2.2.2.2.1 E1.out).mono ?_;rintro e W1 ⟨rfl,hb⟩;have P1:=zH (Z7 hb P0.out);have Q1:=zH (Z7 hb Q0.out);have B1:=zH (B0.out.trans (hb.mono B0.out.size));clear hb B0 P0 Q0 a0 a1 a2 b0 b1 b2;have a1:=Z6 P1.out 1 (.slice ea en ec) rfl;have b1:=Z6 Q1.out 1 (.slice ea' en' ec') rfl;go_wp2_with fail;refine(Z1f es es' ea en ec ea' en' ec' W1 (RR.out W1 B1.out).2.1 (RR.out W1 B1.out).2.2.2.2.1 (RR.out W1 B1.out).2.2.2.2.2.2.2.1 (RR.out W1 B1.out).2.2.2.2.2.2.2.2.2 E2.out).mono ?_;rintro e W2 ⟨rfl,hb⟩;have P2:=zH (Z7 hb P1.out);have Q2:=zH (Z7 hb Q1.out);have B2:=zH (B1.out.trans (hb.mono B1.out.size));clear hb B1 P1 Q1 a1 b1;have a2:=Z6 P2.out 2 (.slice ca cn cc) rfl;have b2:=Z6 Q2.out 2 (.slice ca' cn' cc') rfl;go_wp2_with fail;refine(Z51 ca cn cc cs ca' cn' cc' cs W2 (RR.out W2 B2.out).2.2.1 (RR.out W2 B2.out).2.2.2.2.2.1).mono ?_;rintro r W9 ⟨rfl,q9,hw9⟩;have B9:Hid (Below w.heap.size w W9):=zH (by rw[hw9];exact below_drewN B2.out q9);clear hw9;rw[decide_eq_true rfl];go_wp2;go_ret;exact⟨rfl,B9.out⟩
abbrev Z5h:=List Z8×List Z8×List Nm
def Z7j (f:Yo)(l m:List Z8)(day:Int):Z5h:=if (Zs f l).1=0 then ((Z2t day m).hs,(Z2t day m).es,csN day m)else ([],[],[])
def Z6H (f:Yo)(l:List Z8):Int:=if (Zs f l).1=0 then 0 else 1
def evP (n:Z8):Nm×Z8:=(Zi n,n)
def QW (W:World)(v:Value)(T:Z5h):Prop:=
 ∃(ha:zA) (hn hc:Nat) (ea:zA) (en ec:Nat) (ca:zA) (cn cc:Nat) (hs es:List Xv),v = .agg #[.slice ha hn hc,.slice ea en ec,.slice ca cn cc] /\
  Qp W ha hn hc hs/\Qp W ea en ec es/\Y3 W 2 ca cn cc (ZC T.2.2)/\(∀e∈hs ++ es,e.x.ok W)/\hs.map evC=T.1.map evP/\es.map evC=T.2.1.map evP
theorem QW.below {W W':World}{v:Value}{T:Z5h}(h:QW W v T)(hb:Below W.heap.size W W'):QW W' v T:=by
 obtain⟨ha,hn,hc,ea,en,ec,ca,cn,cc,hs,es,rfl,h1,h2,h3,h4,h5,h6⟩:=h;exact⟨ha,hn,hc,ea,en,ec,ca,cn,cc,hs,es,rfl,h1.below hb,h2.below hb,h3.below hb,fun e he=>(h4 e he).below hb,h5,h6⟩
theorem Z0Z {es:List Xv}{N:List Z8}(h:es.map (fun e=>e.x.n)=N)(hn : ∀e∈es,e.nm=Zi e.x.n):es.map evC=N.map evP:=by
 subst h;rw[List.map_map];refine List.map_congr_left fun e he=>?_;unfold evC evP;rw[hn e he];rfl
theorem QW.empty (W:World):QW W (.agg #[.slice none 0 0,.slice none 0 0,.slice none 0 0]) ([],[],[]):=
 ⟨none,0,0,none,0,0,none,0,0,[],[],rfl,⟨rfl,Nat.le_refl _,Nat.zero_le _,.inl rfl⟩,⟨rfl,Nat.le_refl _,Nat.zero_le _,.inl rfl⟩,Y3.nil _ _,fun e he=>by simp at he,rfl,rfl⟩
theorem ZaT {l:List Z8}{day:Int}{w w':World}{e:Ending}(h:Z8m l day w e w')(hp:l.Pairwise (fun x y=>J0 (Zi x) (Zi y)=true)):
  ∃v,e = .returned (.tuple #[v,.int .i64 0])/\QW w' v ((Z2t day l).hs,(Z2t day l).es,csN day l):=by
 obtain⟨v,R,rfl,⟨ha,hc,ea,ec,ca,cc,rfl,o1,o2,o3,o4⟩,q1,q2,q3,q4⟩:=Z5X h hp;refine⟨_,rfl,ha,_,hc,ea,_,ec,ca,_,cc,R.hs,R.es,rfl,Qp.of_own o1,Qp.of_own o2,?_,fun e he=>Y3.of_own (o4 e he),Z0Z q1 (fun e he=>q4 e (List.mem_append_left _ he)),Z0Z q2 (fun e he=>q4 e (List.mem_append_right _ he))⟩;have:=Y3.of_own o3;rw[q3]at this ⊢;exact this
theorem Z7W (f:Yo)(a:zA)(n c:Nat)(l:List Z8)(w:World)(hr:Qs w a n c l)(hok : ∀x∈l,x.Ok):
  Calls zq 34 #[f.val,.slice a n c] w fun e w' => ∃v,e = .returned (.tuple #[v,.int .i64 (Z6H f l)])/\QW w' v (Z7j f l l 99999)/\Below w.heap.size w w':=by
 refine(Z7X f a n c l w hr hok).mono ?_;rintro e w' ⟨⟨h0,rfl⟩ | ⟨h0,h1⟩,hb⟩
 ·exact⟨_,by rw[Z6H,if_neg h0],by rw[Z7j,if_neg h0];exact QW.empty w',hb⟩
 ·obtain⟨v,rfl,h2⟩:=ZaT h1 (Qk h0).2.2.2;exact⟨v,by rw[Z6H,if_pos h0],by rw[Z7j,if_pos h0];exact h2,hb⟩
theorem Z7b {W:World}{v v':Value}{T:Z5h}(h:QW W v T)(h':QW W v' T):Calls zq 45 #[v,v'] W fun e w'=>e = .returned (.bool true)/\Below W.heap.size W w':=by
 obtain⟨ha,hn,hc,ea,en,ec,ca,cn,cc,hs,es,rfl,h1,h2,h3,h4,h5,h6⟩:=h;obtain⟨ha',hn',hc',ea',en',ec',ca',cn',cc',hs',es',rfl,h1',h2',h3',h4',h5',h6'⟩:=h';exact Z8y hs es hs' es' T.2.2 ha hn hc ea en ec ca cn cc ha' hn' hc' ea' en' ec' ca' cn' cc' W h1 h2 h3 h1' h2' h3' h4 h4' (h5.trans h5'.symm) (h6.trans h6'.symm)
theorem Xz {ops:Array Oper}{rest:List Oper}{op:Oper}{a:Act}{w:World}{Q:Exit->Act->World->Prop}(hgd:op.guard=none)(x:Operand)(ho:op.op = .buildSlice 24 1 #[(0,x)])(n:Z8)(sa:zA)(sc:Nat)(hx:a.eval x = .agg (Z5 n sa sc))
  (h:wpList zq ops Q rest (a.put op.dst (.slice (some ⟨w.heap.size,0,none⟩) 1 1)) (w.alloc (.cells (Z5 n sa sc) 47))):wpList zq ops Q (op :: rest) a w:=
 wpList_plain hgd fun _ hK=>Xg x ho n sa sc hx (hK _ _ h)
theorem Z5D {W:World}{a:zA}{n c:Nat}{xs:List LN}(h:zk W a n c xs){x:LN}(hx:x∈xs):x.ok W:=by
 have h0:0 < n:=by have:=List.length_pos_of_mem hx;have:=h.1;omega
 obtain⟨b,off,rfl,hat⟩:=h.at h0;obtain⟨i,hi⟩:=List.getElem?_of_mem hx;exact(hat i x hi).2
theorem ZdK {W:World}{a:zA}{n c:Nat}{xs:List LN}(h:zk W a n c xs):Y3 W 19 a n c (ZH xs):=by
 obtain⟨h1,h2,h3,h4⟩:=h;refine⟨by rw[Uv,h1],h2,h3,h4.imp id ?_⟩;rintro⟨b,off,rfl,hat⟩;refine⟨b,off,rfl,fun j v hv=>?_⟩;have hl:=(List.getElem?_eq_some_iff.1 hv).1;rw[Uv]at hl;obtain⟨x,hx⟩ : ∃x,xs[j / 19]? = some x:=⟨_,List.getElem?_eq_getElem (by omega)⟩;have h5:=Uz 19 (xs.map fun x=>x.n.cells x.sa x.sc) (by intro r hr;obtain⟨y,_,rfl⟩:=List.mem_map.1 hr;rfl) (j / 19) (x.n.cells x.sa x.sc) (by rw[List.getElem?_map,hx];rfl) (j % 19) (by omega);have h6:=(hat (j / 19) x hx).1 (j % 19) v (by rw[<-h5,show j / 19 * 19+j % 19=j by omega];exact hv);rwa [show off+j / 19 * 19+j % 19=off+j by omega]at h6
theorem Z87 {A1 A2 A3 A4 A5 A6 A7 A8 A9 A10 A11:Type}{P T:A1->A2->A3->A4->A5->A6->A7->A8->A9->A10->A11->Prop}{G:Prop}
  (h1:(∀x1 x2 x3 x4 x5 x6 x7 x8 x9 x10 x11,P x1 x2 x3 x4 x5 x6 x7 x8 x9 x10 x11->T x1 x2 x3 x4 x5 x6 x7 x8 x9 x10 x11)->G) (h2 : ∀x1 x2 x3 x4 x5 x6 x7 x8 x9 x10 x11,P x1 x2 x3 x4 x5 x6 x7 x8 x9 x10 x11->T x1 x2 x3 x4 x5 x6 x7 x8 x9 x10 x11):G:=h1 h2
theorem Vq.mono {V V' W:World}{a:zA}{c n:Nat}{ys:List LN}(h:Vq V W a c n ys)(hb:Below V'.heap.size V' V):Vq V' W a c n ys:=
 ⟨hb.trans (h.bel.mono hb.size),Zx h.own hb.size,fun x hx=>Zx (h.str x hx) hb.size,h.len⟩
def GOk (G:Nm->Option LN)(w:World):Prop := ∀k x,G k=some x->x.ok w/\VI k/\x.n.strokes.length<=1000000000
theorem GOk.below {G:Nm->Option LN}{w w':World}(h:GOk G w)(hb:Below w.heap.size w w'):GOk G w':=fun k x hx=>⟨(h k x hx).1.below hb,(h k x hx).2⟩
def Zds (G:Nm->Option LN)(n:Nat)(w:World)(e:Ending)(W:World):Prop:=
 ∃(a:zA) (un c:Nat) (zs:List LN) (ks:List Nm),e = .returned (.slice a un c)/\Vq w W a c un zs/\zs.map LN.n=(ks.filterMap G).map LN.n/\Xt G ks/\ks.Pairwise (fun x y=>J0 x y=true)/\(∀k∈ks,(G k).isSome=true)/\un<=n
theorem Z0B (b n:Nat)(G:Nm->Option LN)(w:World)(hm:ZZ LN.val w b n G)(hn:n<=1000)(hG:GOk G w):
  Calls zq 61 #[.map (some b)] w fun e w'=>Zds G n w e w'/\Below w.heap.size w w':=by
 have J2:(zq.info? 45).map (·.size)=some 2:=by kernel_rfl
 have M0:=zH hm;have HN:=zH hn;have HG0:=zH hG;clear hm hn hG;go_enter Tryz.func61,Tryz.ntmps61;go_wp2_with fail;refine(Zat b w).mono ?_;rintro e w1 ⟨rfl,rfl⟩;have B1:=zH (zB w (.cells #[.map (some b)] 106));have P1:=zH (Za w (.cells #[.map (some b)] 106));have M1:=zH (M0.out.below B1.out);obtain⟨pB,hpB⟩:=zX (w.heap.size);rw[hpB.out]at P1;rw[hpB.out];generalize w.alloc (.cells #[.map (some b)] 106)=w1 at *;go_wp2_with fail;refine(Z4Y pB b n G w1 P1.out M1.out HN.out).mono ?_;rintro e W5 ⟨⟨na,nc,ks,rfl,h1,h2,h3,h4,h5⟩,b5⟩;have RN:=zH (Y3.of_own h1);have HAL:=zH h2;have HSO:=zH h3;have HIN:=zH h4;have HKN:=zH h5;have B5:=zH (B1.out.trans (b5.mono B1.out.size));have M5:=zH (M1.out.below b5);have HX5:=zH (HG0.out.below B5.out);obtain⟨kn,hkn⟩:=zX (ks.length);rw[hkn.out]at RN HKN ⊢;clear b5 h1 h2 h3 h4 h5 P1 M1 B1;have H63:Hid ((kn:Int)<=9223372036854775807):=zH (by have:=HKN.out;have:=HN.out;omega);go_wp2_with fail;go_loopw [3,10] (fun ov iv wr=>∃(q:Nat) (oa:zA) (on oc:Nat) (zs:List LN),ov = .slice oa on oc/\iv = .int .i64 (q:Int)/\q<=kn/\Hid (Vq W5 wr oa oc on zs)/\Hid (zs.map LN.n=((ks.take q).filterMap G).map LN.n)/\on<=q) (fun _ iv _=>kn - (intOf iv).toNat)
 case atStart=>exact⟨0,none,0,0,[],rfl,rfl,Nat.zero_le _,zH (Vq.start _),zH rfl,Nat.le_refl _⟩
 case round=>
  obtain⟨q,oa,on,oc,zs,rfl,rfl,hq,MA,HZ,hon⟩:=hrel;by_cases hlt:q < kn
  ·have t0:decide ((q:Int) < (kn:Int))=true:=by simp;omega
   obtain⟨k,Hk⟩ : ∃k,ks[q]? = some k:=⟨_,List.getElem?_eq_getElem (by rw[hkn.out];exact hlt)⟩;obtain⟨y,hy⟩:=Option.isSome_iff_exists.1 (HIN.out k (List.mem_of_getElem? Hk));have GY:=zH hy;have HY:=zH (HX5.out k y hy);have HZ2:Hid (((ks.take (q+1)).filterMap G).map LN.n=zs.map LN.n ++ [y.n]):=zH (by
    rw[Jp Hk,List.filterMap_append,List.map_append,<-HZ.out,List.filterMap_cons_some hy];rfl)
   obtain⟨kb,koff,rfl,hk1,hk2⟩:=Z01 (RN.out.below MA.out.bel) Hk;obtain⟨o,ho⟩:=zX (koff+q * 2);rw[ho.out]at hk1 hk2;have hix:=fun W=>Yi (W:=W) (c:=nc) (b:=kb) Tryz.underlying75 J2 hlt ho.out;have HK64:Hid ((q:Int)+1<=9223372036854775807):=zH (by have:=HKN.out;have:=HN.out;omega);obtain⟨kh,km⟩:=k;dsimp only at hk1 hk2;clear Hk hy;go_upto_region 5 with fail;clear t0 hix hk1 hk2;have bt:Below wr.heap.size wr (wr.alloc (.cells #[.int .i64 kh,.int .i64 km] 45)):=zB _ _;have P7:=zH (Za wr (.cells #[.int .i64 kh,.int .i64 km] 45));have MA2:=zH (MA.out.below bt);obtain⟨p7,hp7⟩:=zX (wr.heap.size);rw[hp7.out]at P7 ⊢;generalize wr.alloc (.cells #[.int .i64 kh,.int .i64 km] 45)=wt at *;clear bt MA;have n0:=Z6 P7.out 0 (.int .i64 kh) rfl;have n1:=Z6 P7.out 1 (.int .i64 km) rfl;have hget:(Instr.lookup 106 (.map (some b)) (.agg #[.int .i64 kh,.int .i64 km]) false).run zq wt = .ok (.agg (Z5 y.n y.sa y.sc)) wt:=Z0z (t:=106) (M5.out.below MA2.out.bel) Tryz.underlying106 (Xc wt) kh km HY.out.2.1 GY.out;go_wp2_with fail;refine(Z0L y.n y.sa y.sc wt (HY.out.1.below MA2.out.bel) HY.out.2.2).mono ?_;rintro e w5 ⟨ta,tc,rfl,hown,b5⟩;have MA5:=zH (MA2.out.below b5);have HO5:=zH (Zx hown MA2.out.bel.size);have bn:Below w5.heap.size w5 (w5.alloc (.cells (Z5 y.n ta tc) 47)):=zB _ _;obtain⟨a',c',v9,hrun,ho9,hg9⟩:=JD (w5.alloc (.cells (Z5 y.n ta tc) 47)) W5.heap.size oa on oc _ (Zd MA5.out.own bn) _ 1 1 _ (Qb w5 y.n ta tc) (y.n.cells_one _ _) (by have:=HKN.out;have:=HN.out;omega) (Nat.le_trans MA5.out.bel.size bn.size);have MA9:=zH (MA5.out.add (x:=⟨y.n,ta,tc⟩) HO5.out ho9 hg9);have HZ9:Hid ((zs ++ [(⟨y.n,ta,tc⟩:LN)]).map LN.n=((ks.take (q+1)).filterMap G).map LN.n):=zH (by rw[HZ2.out,List.map_append];rfl);clear hown b5 bn ho9 hg9 MA5 HO5 n0 n1 hget MA2;have hk64:=HK64.out;go_wp2_with (first
    |(refine Xz rfl _ rfl y.n ta tc rfl ?_)
    |(refine Ym rfl _ _ _ rfl _ _ _ rfl rfl hrun ?_)
    | fail)
   go_roundw
   case rel=>exact⟨q+1,a',on+1,c',zs ++ [⟨y.n,ta,tc⟩],by go_num,by go_num,by omega,MA9,HZ9,by omega⟩
   case measure=>simp[intOf];omega
  ·have t0:decide ((q:Int) < (kn:Int))=false:=by simp;omega
   have UZ:Hid (zs.map LN.n=(ks.filterMap G).map LN.n):=zH (by rw[HZ.out,List.take_of_length_le (by rw[hkn.out];omega)]);have ON:Hid (on<=n):=zH (by have:=HKN.out;omega);go_wp2_with fail;go_returns;exact⟨⟨oa,on,oc,zs,ks,rfl,MA.out.mono B5.out,UZ.out,HAL.out,HSO.out,HIN.out,ON.out⟩,B5.out.trans (MA.out.bel.mono B5.out.size)⟩
structure Zf where
 f:Yo
 id:Int
 l:List Z8
 c:Int->Nat
 ad:List Z8
 sb:zU
 fb:zU
 sd:Nat
 fd:Nat
def Zf.new (f:Yo)(id:Int):Zf:=⟨f,id,[],fun _=>0,[],[],[],0,0⟩
def Zf.add (S:Zf)(n:Z8):Zf := { S with l:=Xw S.l n,c:=QV S.c n.house,ad:=S.ad ++ [n],sb:=S.sb ++ ZB (Y5 n),fb:=S.fb ++ ZQ (Y5 n) }
def XE (f:Yo)(id:Int)(mb:Nat)(c:Int->Nat)(sp:Nat):Y6:=
 #[.int .i64 f.rings,.int .i64 f.sectors,.int .i64 f.wide,.int .i64 id,.map (some mb),.int .i64 (c 0:Int),.int .i64 (c 1:Int),.int .i64 (c 2:Int),.int .i64 (c 3:Int),.int .i64 (c 4:Int),.int .i64 (c 5:Int),.int .i64 (c 6:Int),.int .i64 (c 7:Int),.int .i64 (c 8:Int),.pointer (some ⟨sp,0,none⟩)]
theorem Z4u (f:Yo)(id:Int)(mb:Nat)(c:Int->Nat)(sp k:Nat)(hk:k<=8):(XE f id mb c sp)[5+k]? = some (.int .i64 (c (k:Int):Int)):=by
 have:k=0\/k=1\/k=2\/k=3\/k=4\/k=5\/k=6\/k=7\/k=8:=by omega
 rcases this with rfl | rfl | rfl | rfl | rfl | rfl | rfl | rfl | rfl <;> rfl
theorem Zc0 (f:Yo)(id:Int)(mb:Nat)(c:Int->Nat)(sp k:Nat)(hk:k<=8):(XE f id mb c sp).setIfInBounds (5+k) (.int .i64 ((c (k:Int):Int)+1))=XE f id mb (QV c (k:Int)) sp:=by
 have:k=0\/k=1\/k=2\/k=3\/k=4\/k=5\/k=6\/k=7\/k=8:=by omega
 rcases this with rfl | rfl | rfl | rfl | rfl | rfl | rfl | rfl | rfl <;> simp[XE,QV]
structure Xh (S:Zf):Prop where
 v:S.f.valid=true
 id:1<=S.id/\S.id<=8
 srt:S.l.Pairwise UX
 frm : ∀x∈S.l,Zg S.f x=true
 ok : ∀x∈S.l,x.Ok
 nms:J9 S.l S.c
 len:S.ad.length=S.l.length
 sbl:S.sb.length<=2200 * S.ad.length
 fbl:S.fb.length=4 * S.ad.length
theorem Yd {f:Yo}{x:Z8}(h:Zg f x=true):1<=x.house/\x.house<=8/\1<=x.num:=by
 simp only[Zg,Bool.and_eq_true,ZJ,YN]at h;omega
theorem Qn {f:Yo}{x:Z8}(hv:f.valid=true)(h:Zg f x=true):(Y5 x).length<=2190:=by
 have h1:=Z4B x (XH hv h);have h2:=Xq hv h;omega
theorem Xh.new {f:Yo}{id:Int}(hv:f.valid=true)(h:1<=id/\id<=8):Xh (Zf.new f id):=
 ⟨hv,h,List.Pairwise.nil,(fun x hx=>by cases hx),(fun x hx=>by cases hx),(fun a k=>by simp[Zf.new];omega),rfl,Nat.zero_le _,rfl⟩
theorem Xh.add {S:Zf}{n:Z8}(h:Xh S)(hf:Zg S.f n=true)(hok:n.Ok)(hk:n.num=(S.c n.house:Int)+1):Xh (S.add n) /\ ∀y∈S.l,Zi y≠Zi n:=by
 have hfree : ∀y∈S.l,Zi y≠Zi n:=fun y hy e=>by
  have h5:=h.nms.le hy;have h6:y.house=n.house/\y.num=n.num:=by simpa [Zi] using e
  rw[h6.1,h6.2]at h5;omega
 refine⟨⟨h.v,h.id,Uy h.srt hfree,fun x hx=>?_,fun x hx=>?_,(h.nms.add hk).perm fun x=>?_,?_,?_,?_⟩,hfree⟩
 ·rcases Xp.1 hx with hx | rfl
  ·exact h.frm x hx
  ·exact hf
 ·rcases Xp.1 hx with hx | rfl
  ·exact h.ok x hx
  ·exact hok
 ·rw[List.mem_append,List.mem_singleton];exact Xp
 ·show(S.ad ++ [n]).length=(Xw S.l n).length;rw[Xw,(VR _ n S.l).length_eq,List.length_append,List.length_cons,h.len];rfl
 ·show(S.sb ++ ZB (Y5 n)).length<=2200 * (S.ad ++ [n]).length;have:=h.sbl;have:=Qn h.v hf;rw[List.length_append,List.length_append,YY,List.length_singleton];omega
 ·show(S.fb ++ ZQ (Y5 n)).length=4 * (S.ad ++ [n]).length;have:=h.fbl;rw[List.length_append,List.length_append,YU,List.length_singleton];omega
def Yl (p mb:Nat)(G:Nm->Option LN)(SF:Nat->Prop):Nat->Prop:=fun b=>b=p\/b=mb\/SF b \/ ∃k x,G k=some x/\Value.ownBlock (.slice x.sa x.n.strokes.length x.sc)=some b
structure Yf (w:World)(p mb sp:Nat)(G:Nm->Option LN)(SF:Nat->Prop)(S:Zf):Prop where
 blk:w.heap[p]? = some (.cells (XE S.f S.id mb S.c sp) 109)
 map:ZZ LN.val w mb S.l.length G
 gs : ∀k x,G k=some x->x.n∈S.l/\x.nm=k
 gl : ∀n∈S.l,∃x,G (Zi n)=some x/\x.n=n
 str : ∀k x,G k=some x->w.ownsRow 0 3 1 (.slice x.sa x.n.strokes.length x.sc) x.n.strokes.length (x.n.strokes.map Ys)
 stk:Ub w sp SF S.sb S.fb S.sd S.fd
section
variable {w w':World}{p mb sp:Nat}{G:Nm->Option LN}{SF:Nat->Prop}{S:Zf}
theorem Yf.same {X:Nat->Prop}(h:Yf w p mb sp G SF S)(hs:Zb X w w')(hd : ∀k,X k -> ¬Yl p mb G SF k):Yf w' p mb sp G SF S:=
 ⟨(hs.block p (Zk h.blk) (fun hX=>hd p hX (.inl rfl))).trans h.blk,h.map.of_block (hs.block mb h.map.lt (fun hX=>hd mb hX (.inr (.inl rfl)))),h.gs,h.gl,
  fun k x hk=>Ze (h.str k x hk) hs (fun b hb hX=>hd b hX (.inr (.inr (.inr ⟨k,x,hk,hb⟩)))),h.stk.same hs (fun k hX hF=>hd k hX (.inr (.inr (.inl hF))))⟩
theorem Yf.below (h:Yf w p mb sp G SF S)(hb:Below w.heap.size w w'):Yf w' p mb sp G SF S:=h.same (X:=fun _=>False) (Zb.of_below hb) (fun _ h=>h.elim)
theorem Yf.gok (h:Yf w p mb sp G SF S)(hi:Xh S):GOk G w:=fun k x hk=>by
 obtain⟨h1,h2⟩:=h.gs k x hk
 subst h2
 exact⟨Y3.of_own (h.str _ x hk),⟨(hi.ok _ h1).house,(hi.ok _ h1).num⟩,Nat.le_trans (Xq hi.v (hi.frm _ h1)) (by decide)⟩
theorem Yf.lt (h:Yf w p mb sp G SF S): ∀k,Yl p mb G SF k->k < w.heap.size:=by
 rintro k (rfl | rfl | hk | ⟨a,x,h1,h2⟩)
 ·exact Zk h.blk
 ·exact h.map.lt
 ·exact h.stk.lt k hk
 ·exact((h.str a x h1).lt k h2).2
theorem Yf.list {ks:List Nm}(h:Yf w p mb sp G SF S)(hi:Xh S)(ha:Xt G ks)(hs:ks.Pairwise (fun x y=>J0 x y=true))(_hin : ∀k∈ks,(G k).isSome=true):(ks.filterMap G).map LN.n=S.l:=by
 refine VV ?_ hi.srt fun x=>?_
 ·rw[List.pairwise_map];clear ha _hin
  induction ks with
  | nil=>exact List.Pairwise.nil
  | cons k ks ih=>
   rw[List.pairwise_cons]at hs;cases hk:G k with
   | none=>rw[List.filterMap_cons_none hk];exact ih hs.2
   | some x=>
    rw[List.filterMap_cons_some hk];refine List.pairwise_cons.2 ⟨fun y hy=>?_,ih hs.2⟩;obtain⟨k',hk',h'⟩:=List.mem_filterMap.1 hy;unfold UX;rw[show Zi x.n=k from(h.gs k x hk).2,show Zi y.n=k' from(h.gs k' y h').2];exact hs.1 k' hk'
 ·constructor
  ·intro hx;obtain⟨y,hy,rfl⟩:=List.mem_map.1 hx;obtain⟨k,_,hk⟩:=List.mem_filterMap.1 hy;exact(h.gs k y hk).1
  ·intro hx;obtain⟨y,hy,rfl⟩:=h.gl x hx;exact List.mem_map_of_mem (List.mem_filterMap.2 ⟨_,ha _ (by rw[hy];rfl),hy⟩)
end
theorem Z6B {W:World}{p k:Nat}(hk:k < 9):(Instr.indexAt 107 (.pointer (some ⟨p,5,none⟩)) (.int .i64 (k:Int))).run zq W = .ok (.pointer (some ⟨p,5+k,none⟩)) W:=by
 have hsz:(zq.info? 3).map (·.size)=some 1:=by kernel_rfl
 cases hq:zq.info? 3 with
 | none=>simp[hq]at hsz
 | some i=>
  simp only[hq,Option.map_some,Option.some.injEq]at hsz;simp[Instr.indexAt,run_underlying Tryz.underlying107,Instr.sureAddr,asIntOf,sizeOf,typeInfo,hq,hsz,Addr.add,hk]
theorem U4 (w:World)(p mb sp:Nat)(f:Yo)(id:Int)(c:Int->Nat)(h:w.heap[p]? = some (.cells (XE f id mb c sp) 109)):
  Calls zq 53 #[.pointer (some ⟨p,0,none⟩)] w fun e w'=>e = .returned (.bool true)/\w'=w:=by
 have c14:=Z6 h 14 (.pointer (some ⟨sp,0,none⟩)) rfl;go_enter Tryz.func53,Tryz.ntmps53;go_wp2;go_ret;exact⟨rfl,rfl⟩
theorem Ub.kind {w:World}{p:Nat}{F:Nat->Prop}{sb fb:zU}{sd fd:Nat}(h:Ub w p F sb fb sd fd): ∀b,F b -> ∃cur t,w.heap[b]? = some (.cells cur t (0,0))/\(t=168\/t=5):=by
 obtain⟨sa,sc,fa,fc,h1,h2,h3,h4,h5,_⟩:=h;intro b hb;rcases(h5 b).1 hb with rfl | hb | hb
 ·exact⟨_,_,h1,.inl rfl⟩
 ·rcases h2.2 with ⟨h6,_⟩ | ⟨g,cap,cur,h6,_,hg,_⟩
  ·rw[h6]at hb;cases hb
  ·rw[h6]at hb;simp only[Value.ownBlock,Option.some.injEq]at hb;subst hb;exact⟨_,_,hg,.inr rfl⟩
 ·rcases h3.2 with ⟨h6,_⟩ | ⟨g,cap,cur,h6,_,hg,_⟩
  ·rw[h6]at hb;cases hb
  ·rw[h6]at hb;simp only[Value.ownBlock,Option.some.injEq]at hb;subst hb;exact⟨_,_,hg,.inr rfl⟩
theorem Z7p {w:World}{base k n:Nat}{e:TypeId}{v:Value}{xs:List Value}(h:w.ownsRow base e k v n xs): ∀b,v.ownBlock=some b -> ∃cur,w.heap[b]? = some (.cells cur e (0,0)):=by
 intro b hb;rcases h.2 with ⟨h6,_⟩ | ⟨g,cap,cur,h6,_,hg,_⟩
 ·rw[h6]at hb;cases hb
 ·rw[h6]at hb;simp only[Value.ownBlock,Option.some.injEq]at hb;subst hb;exact⟨_,hg⟩
section
variable {w W:World}{p mb sp:Nat}{G:Nm->Option LN}{SF:Nat->Prop}{S:Zf}
structure Zff (p mb:Nat)(G:Nm->Option LN)(SF:Nat->Prop):Prop where
 pm:p≠mb
 ps : ¬SF p
 ms : ¬SF mb
 st : ∀k x,G k=some x -> ∀b,Value.ownBlock (.slice x.sa x.n.strokes.length x.sc)=some b->b≠p/\b≠mb /\ ¬SF b
theorem Yf.dis (h:Yf w p mb sp G SF S):Zff p mb G SF:=by
 obtain⟨es,cl,hm⟩:=h.map.blk;refine⟨fun e=>?_,fun e=>?_,fun e=>?_,fun k x hk b hb=>?_⟩
 ·have h1:=h.blk;rw[e,hm]at h1;cases h1
 ·obtain⟨cur,t,h1,h2⟩:=h.stk.kind p e;rw[h.blk]at h1;simp only[Option.some.injEq,Obj.cells.injEq]at h1;rcases h2 with rfl | rfl
  ·exact absurd h1.2.1 (by decide)
  ·exact absurd h1.2.1 (by decide)
 ·obtain⟨cur,t,h1,_⟩:=h.stk.kind mb e;rw[hm]at h1;cases h1
 ·obtain⟨cur,h1⟩:=Z7p (h.str k x hk) b hb;refine⟨fun e=>?_,fun e=>?_,fun e=>?_⟩
  ·subst e;rw[h.blk]at h1;simp only[Option.some.injEq,Obj.cells.injEq]at h1;exact absurd h1.2.1 (by decide)
  ·subst e;rw[hm]at h1;cases h1
  ·obtain⟨cur2,t,h2,h3⟩:=h.stk.kind b e;rw[h1]at h2;simp only[Option.some.injEq,Obj.cells.injEq]at h2;rcases h3 with rfl | rfl
   ·exact absurd h2.2.1 (by decide)
   ·exact absurd h2.2.1 (by decide)
end
def Zef (w:World)(p mb sp:Nat)(G:Nm->Option LN)(SF:Nat->Prop)(S:Zf)(n:Z8)(W:World):Prop:=
 ∃ta tc SF',Yf W p mb sp (YH G (Zi n) ⟨n,ta,tc⟩) SF' (S.add n)/\Zb (Yl p mb G SF) w W /\ ∀k,Yl p mb (YH G (Zi n) ⟨n,ta,tc⟩) SF' k->Yl p mb G SF k\/w.heap.size<=k
section
attribute [local go_sem] ZY
theorem Z4w (p mb sp:Nat)(G:Nm->Option LN)(SF:Nat->Prop)(S:Zf)(n:Z8)(sa:zA)(sc:Nat)(w:World)(hh:Yf w p mb sp G SF S)(hi:Xh S)(hs : ∀W,Zb (Yl p mb G SF) w W->Xs W sa n.strokes.length sc n.strokes)
  (hf:Zg S.f n=true) (hok:n.Ok) (hnum:n.num=(S.c n.house:Int)+1) (hlen:S.l.length<=400):
  Calls zq 60 #[.pointer (some ⟨p,0,none⟩),.agg (Z5 n sa sc)] w fun e w'=>e = .returned (.tuple #[])/\Zef w p mb sp G SF S n w':=by
 have HH:=zH hh;have HI:=zH hi;have HF:=zH hf;have HOK:=zH hok;have HNUM:=zH hnum;have HLEN:=zH hlen;have DIS:=zH hh.dis;have HST:=zH (show n.strokes.length<=200 from Xq hi.v hf);have NOK:Hid (VI (n.house,n.num)):=zH ⟨hok.house,hok.num⟩;have HFREE:=zH (hi.add hf hok hnum).2;have HINV:=zH (hi.add hf hok hnum).1;obtain⟨k,hk,hk8⟩ : ∃k:Nat,n.house=(k:Int)/\k<=8:=⟨n.house.toNat,by have:=Yd hf;omega,by have:=Yd hf;omega⟩;have HK:=zH hk;have HK8:=zH hk8;have CB:Hid ((S.c (k:Int):Int)+1<=9223372036854775807):=zH (by
  have h1:=hok.num;rw[<-hk,<-hnum];unfold J6 at h1;omega)
 have B0:=zH (zB w (.cells (Z5 n sa sc) 47));have N0:=zH (Za w (.cells (Z5 n sa sc) 47));have H0:=zH (hh.below B0.out);have RS:=zH ((hs w (Zb.of_below (Below.refl _ _))).below B0.out);have RSL:=zH (show ∀W,Zb (fun q=>q=p\/q=mb) w W->Xs W sa n.strokes.length sc n.strokes from fun W hS=>hs W (hS.weaken (fun q h=>h.elim .inl (fun h=>.inr (.inl h)))));clear hh hi hs hf hok hnum hlen hk hk8;go_enter Tryz.func60,Tryz.ntmps60;go_upto_region 1 with fail;obtain⟨p3,hp3⟩:=zX (w.heap.size);have NE3:Hid (∀b,b < w.heap.size->b≠p3):=zH (by have:=hp3.out;omega);rw[hp3.out]at N0;rw[hp3.out];generalize w.alloc (.cells (Z5 n sa sc) 47)=w0 at *;refine zD (fun w'=>w'.heap[p3]? = some (.cells (Z5 n sa sc) 47)/\w'.heap[p]? = some (.cells (XE S.f S.id mb S.c sp) 109)) (show w0.drew.heap[p3]? = _/\w0.drew.heap[p]? = _ from⟨N0.out,H0.out.blk⟩) fun hh=>?_;refine zw 0 rfl p 0 ?_;refine zw 1 rfl p 0 ?_;refine zw 2 rfl p 4 ?_;refine zS 3 rfl (.map (some mb)) (fun W h=>by have hc:=Z6 h.2 4 (.map (some mb)) rfl;go_simp) ?_;refine zT 4 rfl (.agg (Z5 n sa sc)) (zY p3 fun W h=>h.1) ?_;refine zT 6 rfl (.agg (Z5 n sa sc)) (zY p3 fun W h=>h.1) ?_;refine zR 5 rfl fun K hK=>?_;go_simp;go_at_call 58;refine(Vk n sa sc _).mono ?_;rintro e v1 ⟨rfl,b1⟩;have B1:=zH (((zd w0)).trans b1);have N1:=zH (Z7 B1.out N0.out);have P1:=zH (Z7 B1.out H0.out.blk);clear b1;dsimp only;refine zK hK ⟨N1.out,P1.out⟩ fun hh=>?_;clear hK K;refine zR 7 rfl fun K hK=>?_;go_simp;go_at_call 71;refine(Z0L n sa sc v1 (RS.out.below B1.out) (Nat.le_trans HST.out (by decide))).mono ?_;rintro e v2 ⟨ta,tc,rfl,hown,b2⟩;have B2:=zH (B1.out.trans (b2.mono B1.out.size));have N2:=zH (Z7 b2 N1.out);have P2:=zH (Z7 b2 P1.out);have O2:=zH hown;have V1S:=zH B1.out.size;clear b2 hown N1 P1;dsimp only;refine zK hK ⟨N2.out,P2.out⟩ fun hh=>?_;clear hK K;refine zR 8 rfl fun K hK=>?_;obtain⟨v3,hrun,hm3,ht3⟩:=Ql (t:=106) (H0.out.map.below B2.out) (by have:=HLEN.out;unfold maxLen;omega) Tryz.underlying106 n.house n.num NOK.out (⟨n,ta,tc⟩:LN)
 have M3:=zH hm3;have G3:=zH ht3.grown;have N3:=zH (Zc ht3.grown N2.out (fun e=>absurd (Option.some.inj e) (NE3.out mb HH.out.map.lt).symm));have P3:=zH (Zc ht3.grown P2.out (fun e=>absurd (Option.some.inj e) DIS.out.pm));clear hm3 ht3;unfold LN.val at hrun;go_simp;refine zK hK ⟨N3.out,P3.out⟩ fun hh=>?_;clear hK K;refine zE ?_;have S3:Hid (Zb (fun q=>q=mb) w v3):=zH (((Zb.of_below B0.out).trans (Zb.of_below B2.out)).trans (Zb.of_grown G3.out (fun q e=>by cases e;rfl)));have O3:=zH (show v3.ownsRow w.heap.size 3 1 (.slice ta n.strokes.length tc) n.strokes.length (n.strokes.map Ys)from(Zx O2.out (Nat.le_trans B0.out.size V1S.out)).kept G3.out (.inr (by
  obtain⟨es,cl,hm⟩:=(H0.out.map.below B2.out).blk;exact(Zo O2.out hm (by intro cur;simp)).symm)))
 clear G3 N2 P2 O2 V1S B2 hrun;go_upto_region 2 with fail;refine zp N3.out fun hh=>?_;refine zw 0 rfl p 0 ?_;refine zw 1 rfl p3 0 ?_;refine zS 2 rfl (.int .i64 (k:Int)) (fun W h=>by have hc:W.cell? ⟨p3,0,none⟩=some (.int .i64 (k:Int)):=(by rw[<-HK.out];exact Z6 h 0 (.int .i64 n.house) rfl);go_simp) ?_;refine zw 3 rfl p 0 ?_;refine zw 4 rfl p 5 ?_;refine zS 5 rfl (.pointer (some ⟨p,5+k,none⟩)) (fun W h=>by have hc:=Z6B (W:=W) (p:=p) (k:=k) (by have:=HK8.out;omega);go_simp) ?_;refine zw 8 rfl p 0 ?_;refine zw 9 rfl p 5 ?_;refine zR 6 rfl fun K hK=>?_;have hc:=Z6 (show v3.drew.heap[p]? = _ from P3.out) (5+k) (.int .i64 (S.c (k:Int):Int)) (Z4u _ _ _ _ _ k HK8.out);go_simp;clear hc;refine zK hK N3.out fun hh=>?_;clear hK K;refine zS 7 rfl (.int .i64 ((S.c (k:Int):Int)+1)) (fun W h=>by have hcb:IntKind.i64.wrap ((S.c (k:Int):Int)+1)=(S.c (k:Int):Int)+1:=(by have h9:=CB.out;rw[IntKind.wrap_i64];omega);go_simp) ?_;refine zS 10 rfl (.pointer (some ⟨p,5+k,none⟩)) (fun W h=>by have hc:=Z6B (W:=W) (p:=p) (k:=k) (by have:=HK8.out;omega);go_simp) ?_;refine zR 11 rfl fun K hK=>?_;have hc:=Z6 (show v3.drew.heap[p]? = _ from P3.out) (5+k) (.int .i64 (S.c (k:Int):Int)) (Z4u _ _ _ _ _ k HK8.out);have hfz:=Zq (show v3.drew.heap[p]? = _ from P3.out) (5+k);have P4:Hid ((v3.drew.setCell ⟨p,5+k,none⟩ (.int .i64 ((S.c (k:Int):Int)+1))).heap[p]? = some (.cells (XE S.f S.id mb (QV S.c (k:Int)) sp) 109 (0,0))):=zH (by
  have h1:=ZM (show v3.drew.heap[p]? = _ from P3.out) (5+k) (.int .i64 ((S.c (k:Int):Int)+1));rwa [Zc0 _ _ _ _ _ k HK8.out]at h1)
 have G4:=zH (Zn v3.drew p (5+k) (.int .i64 ((S.c (k:Int):Int)+1)));have N4:=zH (Zc G4.out (show v3.drew.heap[p3]? = _ from N3.out) (fun e=>absurd (Option.some.inj e) (NE3.out p (Zk HH.out.blk)).symm));go_simp;refine zK hK N4.out fun hh=>?_;clear hK K;refine zE ?_;clear hc hfz;change Exit.then _ _ _ _ (v3.drew.setCell ⟨p,5+k,none⟩ (.int .i64 ((S.c (k:Int):Int)+1)));generalize v3.drew.setCell ⟨p,5+k,none⟩ (.int .i64 ((S.c (k:Int):Int)+1))=v4 at *;have S4:Hid (Zb (fun q=>q=p\/q=mb) w v4):=zH (((S3.out.weaken (fun q h=>.inr h)).trans (Zb.of_below ((zd v3)))).trans (Zb.of_grown G4.out (fun q e=>by cases e;exact .inl rfl)));have M4:=zH (show ZZ LN.val v4 mb (S.l.length+1) (YH G (n.house,n.num) ⟨n,ta,tc⟩)from(M3.out.below ((zd v3))).kept G4.out (fun e=>absurd (Option.some.inj e).symm DIS.out.pm));have O4:=zH (show v4.ownsRow w.heap.size 3 1 (.slice ta n.strokes.length tc) n.strokes.length (n.strokes.map Ys)from(Zd O3.out ((zd v3))).kept G4.out (.inr (Zo (Zd O3.out ((zd v3))) (show v3.drew.heap[p]? = _ from P3.out) (by intro cur;simp)).symm));have K4:=zH (show Ub v4 sp SF S.sb S.fb S.sd S.fd from HH.out.stk.same S4.out (fun q hq hF=>by
  rcases hq with rfl | rfl
  ·exact DIS.out.ps hF
  ·exact DIS.out.ms hF))
 have RS4:=zH (show Xs v4 sa n.strokes.length sc n.strokes from RSL.out v4 S4.out);clear G4 N3 P3 S3 M3 O3;go_upto_region 3 with fail;refine zD (fun w'=>w'.heap[p3]? = some (.cells (Z5 n sa sc) 47)/\w'.heap[p]? = some (.cells (XE S.f S.id mb (QV S.c (k:Int)) sp) 109 (0,0))) (show v4.drew.heap[p3]? = _/\v4.drew.heap[p]? = _ from⟨N4.out,P4.out⟩) fun hh=>?_;refine zw 0 rfl p 0 ?_;refine zw 1 rfl p 0 ?_;refine zw 2 rfl p 14 ?_;refine zS 3 rfl (.pointer (some ⟨sp,0,none⟩)) (fun W h=>by have hc:=Z6 h.2 14 (.pointer (some ⟨sp,0,none⟩)) rfl;go_simp) ?_;refine zT 4 rfl (.agg (Z5 n sa sc)) (zY p3 fun W h=>h.1) ?_;refine zR 5 rfl fun K hK=>?_;go_simp;go_at_call 117;refine(Vm n sa sc v4.drew (RS4.out.below ((zd v4))) (XH HI.out.v HF.out) (Nat.le_trans HST.out (by decide))).mono ?_;rintro e v5 ⟨ba,bc,rfl,hb5,b5⟩;have B5:=zH (((zd v4)).trans b5);have R5:=zH (Ye.of_own hb5);have N5:=zH (Z7 B5.out N4.out);have P5:=zH (Z7 B5.out P4.out);clear hb5 b5;dsimp only;refine zK hK ⟨N5.out,P5.out⟩ fun hh=>?_;clear hK K;refine zR 6 rfl fun K hK=>?_;go_simp;go_at_call 109;have hel:=Qn HI.out.v HF.out;refine(Z9n v5 sp SF S.sb S.fb S.sd S.fd ba (Y5 n).length bc (Y5 n) (K4.out.same (S:=fun _=>False) (Zb.of_below B5.out) (fun _ h=>h.elim)) R5.out (by omega) (by have h1:=HI.out.sbl;have h2:=HI.out.len;have h3:=HLEN.out;omega) (by have h1:=HI.out.fbl;have h2:=HI.out.len;have h3:=HLEN.out;omega)).mono ?_;rintro e v6 ⟨rfl,SF',hk6,hs6,hf6⟩;have P6:=zH ((hs6.block p (Zk P5.out) DIS.out.ps).trans P5.out);have N6:=zH ((hs6.block p3 (Zk N5.out) (fun hF=>absurd rfl (NE3.out p3 (HH.out.stk.lt p3 hF)))).trans N5.out);have K6:=zH hk6;have S6:=zH hs6;have F6:=zH hf6;clear hk6 hs6 hf6 hel;dsimp only;refine zK hK ⟨N6.out,P6.out⟩ fun hh=>?_;clear hK K;refine zE ?_;go_wp2;go_end0;have S46:Hid (Zb (fun q=>q=p\/q=mb\/SF q) w v6):=zH (((S4.out.weaken (fun q h=>h.elim .inl (fun h=>.inr (.inl h)))).trans (Zb.of_below B5.out)).trans (S6.out.weaken (fun q h=>.inr (.inr h))));have O6:Hid (v6.ownsRow w.heap.size 3 1 (.slice ta n.strokes.length tc) n.strokes.length (n.strokes.map Ys)):=zH (Ze (Zd O4.out B5.out) S6.out (fun b hb hF=>absurd (HH.out.stk.lt b hF) (by have:=(O4.out.lt b hb).1;omega)))
 have M6:Hid (ZZ LN.val v6 mb (S.l.length+1) (YH G (n.house,n.num) ⟨n,ta,tc⟩)):=zH ((M4.out.below B5.out).of_block (S6.out.block mb (Nat.lt_of_lt_of_le M4.out.lt B5.out.size) DIS.out.ms));refine⟨rfl,ta,tc,SF',⟨?_,?_,fun a x hx=>?_,fun y hy=>?_,fun a x hx=>?_,K6.out⟩,?_,?_⟩
 ·have:=P6.out;rwa [<-HK.out]at this
 ·have h1:=M6.out;show ZZ LN.val v6 mb (Xw S.l n).length _;rwa [Xw,(VR _ n S.l).length_eq,List.length_cons]
 ·unfold YH at hx;split at hx
  ·rename_i e;cases hx;exact⟨Xp.2 (.inr rfl),e.symm⟩
  ·obtain⟨h1,h2⟩:=HH.out.gs a x hx;exact⟨Xp.2 (.inl h1),h2⟩
 ·rcases Xp.1 hy with hy | rfl
  ·obtain⟨x,h1,h2⟩:=HH.out.gl y hy;refine⟨x,?_,h2⟩;unfold YH;rw[if_neg (HFREE.out y hy)];exact h1
  ·exact⟨⟨y,ta,tc⟩,by unfold YH;rw[if_pos rfl],rfl⟩
 ·unfold YH at hx;split at hx
  ·cases hx;exact Zx O6.out (Nat.zero_le _)
  ·exact Ze (HH.out.str a x hx) S46.out (fun b hb hq=>by
    obtain⟨d1,d2,d3⟩:=DIS.out.st a x hx b hb;rcases hq with hq | hq | hq
    ·exact d1 hq
    ·exact d2 hq
    ·exact d3 hq)
 ·exact S46.out.weaken (fun q h=>by
   rcases h with h | h | h
   ·exact .inl h
   ·exact .inr (.inl h)
   ·exact .inr (.inr (.inl h)))
 ·rintro q (h | h | h | ⟨a,x,h,h2⟩)
  ·exact .inl (.inl h)
  ·exact .inl (.inr (.inl h))
  ·rcases F6.out q h with h3 | h3
   ·exact .inl (.inr (.inr (.inl h3)))
   ·exact .inr (Nat.le_trans S4.out.size (Nat.le_trans B5.out.size h3))
  ·unfold YH at h;split at h
   ·cases h;exact .inr (O6.out.lt q h2).1
   ·exact .inl (.inr (.inr (.inr ⟨a,x,h,h2⟩)))
end
def Vi (c:Int->Nat):List Z8->Prop
 | []=>True
 | n :: ns=>n.num=(c n.house:Int)+1/\Vi (QV c n.house) ns
theorem ze {l:List Z8}: ∀(ns fr:List Z8) (c:Int->Nat) {fr':List Z8} {c':Int->Nat},J9 (l ++ fr) c->(∀n∈ns,1<=n.num)->Y9 l fr c ns=some (fr',c') -> ∃t,fr'=fr ++ t/\Vi c t /\ ∀x∈t,x∈ns
 | [],fr,c,fr',c',_,_,h=>by
  simp only[Y9,Option.some.injEq,Prod.mk.injEq]at h
  exact⟨[],by rw[h.1,List.append_nil],trivial,fun x hx=>by cases hx⟩
 | n :: ns,fr,c,fr',c',h1,h3,h=>by
  rw[Y9]at h
  have h3' : ∀m∈ns,1<=m.num:=fun m hm=>h3 m (List.mem_cons_of_mem _ hm)
  split at h
  ·split at h
   ·obtain⟨t,a1,a2,a3⟩:=ze ns fr c h1 h3' h
    exact⟨t,a1,a2,fun x hx=>List.mem_cons_of_mem _ (a3 x hx)⟩
   ·cases h
  ·rename_i hk
   split at h
   ·obtain⟨t,a1,a2,a3⟩:=ze ns fr c h1 h3' h
    exact⟨t,a1,a2,fun x hx=>List.mem_cons_of_mem _ (a3 x hx)⟩
   ·rename_i hle
    have hlt:=h1.free (h3 n (List.mem_cons_self ..)) (XC hk)
    have hadd:=h1.add (n:=n) (by omega)
    rw[List.append_assoc]at hadd
    obtain⟨t,a1,a2,a3⟩:=ze ns (fr ++ [n]) (QV c n.house) hadd h3' h
    refine⟨n :: t,by rw[a1,List.append_assoc];rfl,⟨by omega,a2⟩,fun x hx=>?_⟩
    rcases List.mem_cons.1 hx with rfl | hx
    ·exact List.mem_cons_self ..
    ·exact List.mem_cons_of_mem _ (a3 x hx)
def Zf.adds (S:Zf)(fr:List Z8):Zf:=fr.foldl Zf.add S
theorem ZaV (S:Zf)(fr:List Z8)(n:Z8):S.adds (fr ++ [n])=(S.adds fr).add n:=by simp[Zf.adds,List.foldl_append]
theorem Z1D: ∀(fr:List Z8) (S:Zf),(S.adds fr).f=S.f
 | [],_=>rfl
 | n :: fr,S=>Z1D fr (S.add n)
theorem Z17: ∀(fr:List Z8) (S:Zf),(S.adds fr).id=S.id
 | [],_=>rfl
 | n :: fr,S=>Z17 fr (S.add n)
theorem Z1C: ∀(fr:List Z8) (S:Zf),(S.adds fr).l=Qo S.l fr
 | [],_=>rfl
 | n :: fr,S=>Z1C fr (S.add n)
theorem Z8g (fr:List Z8)(S:Zf):(S.adds fr).l.length=S.l.length+fr.length:=by rw[Z1C,Z1E]
theorem Z0N: ∀(fr:List Z8) (S:Zf),Xh S->Vi S.c fr->(∀x∈fr,Zg S.f x=true/\x.Ok)->Xh (S.adds fr)
 | [],_,h,_,_=>h
 | n :: fr,S,h,hs,hf=>Z0N fr (S.add n) (h.add (hf n (List.mem_cons_self ..)).1 (hf n (List.mem_cons_self ..)).2 hs.1).1 hs.2 (fun x hx=>hf x (List.mem_cons_of_mem _ hx))
theorem Z3T: ∀(fr:List Z8) (S:Zf) (q:Nat) (n:Z8),Vi S.c fr->fr[q]? = some n->n.num=((S.adds (fr.take q)).c n.house:Int)+1
 | [],_,q,n,_,h=>by simp at h
 | m :: fr,S,0,n,hs,h=>by
  simp at h
  subst h
  exact hs.1
 | m :: fr,S,q+1,n,hs,h=>by
  have:=Z3T fr (S.add m) q n hs.2 (by simpa using h)
  exact this
theorem Z1s: ∀(fr:List Z8) (c:Int->Nat) (q:Nat),Vi c fr->Vi c (fr.take q)
 | [],_,q,_=>by simp[Vi]
 | m :: fr,c,0,_=>trivial
 | m :: fr,c,q+1,h=>⟨h.1,Z1s fr _ q h.2⟩
def ZR (S:Zf)(l:List Z8):Zf×Int×Int:=
 if l.any (fun n=>!decide (ZX S.f n=0))=true then (S,0,80)else match Y9 S.l [] S.c l with | none=>(S,0,81) | some (fr,_)=>(S.adds fr,(fr.length:Int),0)
theorem Z0Y {S:Zf}{l:List Z8}(h:l.any (fun n=>!decide (ZX S.f n=0))=true):ZR S l=(S,0,80):=by unfold ZR;rw[if_pos h]
theorem Z07 {S:Zf}{l:List Z8}(h:l.any (fun n=>!decide (ZX S.f n=0))=false)(h2:Y9 S.l [] S.c l=none):ZR S l=(S,0,81):=by unfold ZR;rw[if_neg (by rw[h];decide),h2]
theorem zf {S:Zf}{l fr:List Z8}{c:Int->Nat}(h:l.any (fun n=>!decide (ZX S.f n=0))=false)(h2:Y9 S.l [] S.c l=some (fr,c)):ZR S l=(S.adds fr,(fr.length:Int),0):=by unfold ZR;rw[if_neg (by rw[h];decide),h2]
theorem Z0d {S:Zf}(hv:S.f.valid=true){l:List Z8}(h:l.any (fun n=>!decide (ZX S.f n=0))=false): ∀n∈l,Zg S.f n=true:=fun n hn=>by
 rw[List.any_eq_false]at h
 have h1:=h n hn
 simp only[Bool.not_eq_true',decide_eq_false_iff_not,Decidable.not_not]at h1
 unfold ZX at h1
 rw[if_pos hv]at h1
 by_cases h2:Zg S.f n=true
 ·exact h2
 ·rw[if_neg h2]at h1
  cases h1
theorem Z2O {S:Zf}{l:List Z8}(h:Xh S)(hok : ∀x∈l,x.Ok):Xh (ZR S l).1/\(ZR S l).1.l.length<=S.l.length+l.length:=by
 cases hb:l.any (fun n=>!decide (ZX S.f n=0))with
 | true=>rw[Z0Y hb];exact⟨h,Nat.le_add_right _ _⟩
 | false=>
  have hf:=Z0d h.v hb;cases hg:Y9 S.l [] S.c l with
  | none=>rw[Z07 hb hg];exact⟨h,Nat.le_add_right _ _⟩
  | some r=>
   obtain⟨fr,c'⟩:=r;rw[zf hb hg];have hn:J9 (S.l ++ []) S.c:=by rw[List.append_nil];exact h.nms
   obtain⟨t,e,hs,hm⟩:=ze l [] S.c hn (fun n hn=>(Yd (hf n hn)).2.2) hg;rw[List.nil_append]at e;subst e;have hl:=(Z21 l [] S.c hn (by rw[List.append_nil];exact Yt h.srt) (fun n hn=>(Yd (hf n hn)).2.2) hg).2.2.2;exact⟨Z0N fr S h hs (fun x hx=>⟨hf x (hm x hx),hok x (hm x hx)⟩),by show(S.adds fr).l.length<=_;rw[Z8g];simp at hl;omega⟩
def Z8Q (es:List Nm)(p:Nm->Bool):Int:=match es.findIdx? p with | some i=>(i:Int) | none => -1
theorem Zd2 {es:List Nm}{p:Nm->Bool}{k:Nat}{x:Nm}(hx:es[k]? = some x)(hp:p x=true)(hb : ∀j y,j < k->es[j]? = some y->p y=false):Z8Q es p=k:=by
 have:es.findIdx? p=some k:=by
  rw[List.findIdx?_eq_some_iff_getElem];obtain⟨h1,rfl⟩:=List.getElem?_eq_some_iff.1 hx;exact⟨h1,hp,fun j hj=>by rw[hb j _ hj (List.getElem?_eq_getElem (by omega))];decide⟩
 simp[Z8Q,this]
theorem Zay {es:List Nm}{p:Nm->Bool}(hb : ∀j y,j < es.length->es[j]? = some y->p y=false):Z8Q es p = -1:=by
 have:es.findIdx? p=none:=by
  rw[List.findIdx?_eq_none_iff];intro x hx;obtain⟨j,h1,h2⟩:=List.getElem_of_mem hx;exact hb j x h1 (by rw[List.getElem?_eq_getElem h1,h2])
 simp[Z8Q,this]
theorem Z8O (es:List Nm)(pred:Nm->Bool)(fn:Nat)(cv:Value)(hfn : ∀(args:Y6) (w:World),(callFunc fn args).run zq w = .ok (.enter fn args) w)
  (a:zA) (n c:Nat) (w:World) (hr:Y3 w 2 a n c (ZC es))
  (hp : ∀e∈es,∀W,Below w.heap.size w W->Calls zq fn #[.agg #[.int .i64 e.1,.int .i64 e.2],cv] W fun r W'=>r = .returned (.bool (pred e))/\Below W.heap.size W W'):
  Calls zq 127 #[.slice a n c,.func (.func fn) #[] #[cv]] w fun e w'=>e = .returned (.int .i64 (Z8Q es pred))/\Below w.heap.size w w':=by
 have I2:(zq.info? 45).map (·.size)=some 2:=by kernel_rfl
 have hn63:=hr.maxn;have HN:Hid (es.length=n):=zH (by have:=hr.len;rw[X3]at this;omega);have RE:=zH (show ∀W,Below w.heap.size w W->Y3 W 2 a n c (ZC es)from fun W h=>hr.below h);have HPD:=zH hp;clear hr hp;go_enter Tryz.func127,Tryz.ntmps127;go_wp2_with fail;go_loopw [5,8] (fun _ i wr=>∃k:Nat,i = .int .i64 k/\k<=n/\Hid (∀j y,j < k->es[j]? = some y->pred y=false)/\Hid (Below w.heap.size w wr)) (fun _ i _=>n - (intOf i).toNat)
 case atStart=>exact⟨0,rfl,Nat.zero_le _,zH (fun j y h=>by omega),zH (Below.refl _ _)⟩
 case round=>
  obtain⟨k,rfl,hk,HB,B1⟩:=hrel;by_cases hkn:k < n
  ·have t0:decide ((k:Int) < (n:Int))=true:=by simp;omega
   obtain⟨x,Hx⟩ : ∃x,es[k]? = some x:=⟨es[k]'(by rw[HN.out];exact hkn),List.getElem?_eq_getElem (by rw[HN.out];exact hkn)⟩;obtain⟨b,off,rfl,hk1,hk2⟩:=Z01 (RE.out _ B1.out) Hx;obtain⟨o,ho⟩:=zX (off+k * 2);rw[ho.out]at hk1 hk2;have hi:=fun W=>Yi (W:=W) (c:=c) (b:=b) Tryz.underlying75 I2 hkn ho.out;have hk64:(k:Int)+1<=9223372036854775807:=by omega
   obtain⟨xh,xm⟩:=x;dsimp only at hk1 hk2;go_wp2_with fail;refine(HPD.out (xh,xm) (List.mem_of_getElem? Hx) _ B1.out).mono ?_;rintro e w2 ⟨rfl,b2⟩;have B2:=zH (B1.out.trans (b2.mono B1.out.size));clear b2 hi t0;cases hpx:pred (xh,xm)with
   | true=>
    go_wp2;go_ret;exact⟨by rw[Zd2 Hx hpx HB.out];rfl,B2.out⟩
   | false=>
    have HPX:=zH hpx;clear hpx;go_wp2;go_roundw
    case rel=>exact⟨k+1,by simp,by omega,zH (fun j y hj hy=>by
     rcases Nat.lt_or_ge j k with h | h
     ·exact HB.out j y h hy
     ·have e:j=k:=by omega
      subst e;rw[Hx]at hy;cases hy;exact HPX.out),B2⟩
    case measure=>simp[intOf];omega
  ·have t0:decide ((k:Int) < (n:Int))=false:=by simp;omega
   go_wp2;go_ret;exact⟨by rw[Zay (fun j y hj hy=>HB.out j y (by have:=HN.out;omega) hy)];rfl,B1.out⟩
theorem ZbW {es:List Nm}{p:Nm->Bool}: decide (0<=Z8Q es p)=es.any p:=by
 unfold Z8Q;cases h:es.findIdx? p with
 | none=>
  rw[List.findIdx?_eq_none_iff]at h;have h2:es.any p=false:=by
   rw[List.any_eq_false];intro x hx;rw[h x hx];decide
  rw[h2];rfl
 | some i=>
  obtain⟨h1,h2,_⟩:=List.findIdx?_eq_some_iff_getElem.1 h;have h3:es.any p=true:=List.any_eq_true.2 ⟨_,List.getElem_mem h1,h2⟩;rw[h3];simp
theorem Z5c (es:List Nm)(pred:Nm->Bool)(fn:Nat)(cv:Value)(hfn : ∀(args:Y6) (w:World),(callFunc fn args).run zq w = .ok (.enter fn args) w)
  (a:zA) (n c:Nat) (w:World) (hr:Y3 w 2 a n c (ZC es))
  (hp : ∀e∈es,∀W,Below w.heap.size w W->Calls zq fn #[.agg #[.int .i64 e.1,.int .i64 e.2],cv] W fun r W'=>r = .returned (.bool (pred e))/\Below W.heap.size W W'):
  Calls zq 72 #[.slice a n c,.func (.func fn) #[] #[cv]] w fun e w'=>e = .returned (.bool (es.any pred))/\Below w.heap.size w w':=by
 have HX:=zH (Z8O es pred fn cv hfn a n c w hr hp);clear hr hp hfn;go_enter Tryz.func72,Tryz.ntmps72;go_wp2_with fail;refine HX.out.mono ?_;rintro e w1 ⟨rfl,b1⟩;have B1:=zH b1;clear b1;have hq := @ZbW es pred;go_wp2;go_ret;exact⟨by first | rfl|(rw[<-hq];rfl),B1.out⟩
theorem ZZ.cloned {α:Type}{enc:α->Value}{w:World}{b n:Nat}{f:Nm->Option α}(h:ZZ enc w b n f): ∃es clock,w.heap[b]? = some (.map es clock)/\ZZ enc (w.alloc (.map es clock)) w.heap.size n f:=by
 obtain⟨D,⟨es,clock,hb,F,hs,hD⟩,hr⟩:=h;exact⟨es,clock,hb,D,⟨es,clock,heap_alloc_new w _,F,hs,hD⟩,hr⟩
theorem UG (b n:Nat)(G:Nm->Option LN)(w:World)(hm:ZZ LN.val w b n G):
  Calls zq 57 #[.map (some b)] w fun e w'=>e = .returned (.map (some w.heap.size))/\ZZ LN.val w' w.heap.size n G/\Below w.heap.size w w':=by
 obtain⟨es,clock,hb,hc⟩:=hm.cloned;have HC:=zH hc;clear hc hm;have hq:=fun w=>run_eql_map_nil_sl (P:=zq) w 106 _ _ (some b) Tryz.underlying106;have hx := @run_callFunc_extern zq 115 Tryz.f115 Extern.MapsClone.clone (by kernel_rfl) (by kernel_rfl) (by kernel_rfl) (by kernel_rfl) (by kernel_rfl);go_enter Tryz.func57,Tryz.ntmps57;go_wp2;rw[run_maps_clone_sl w 106 hb];simp only[Result.andThen];rw[Oper.upon_value];go_wp2;rw[run_typeAssert_map_sl _ 106 _ _ _ _ Tryz.underlying106];simp only[Result.andThen];rw[Oper.upon_value];go_wp2;go_ret;exact⟨rfl,HC.out,zB _ _⟩
def Z4s (es:List LN)(p:LN->Bool):Int:=match es.findIdx? p with | some i=>(i:Int) | none => -1
theorem Zd3 {es:List LN}{p:LN->Bool}{k:Nat}{x:LN}(hx:es[k]? = some x)(hp:p x=true)(hb : ∀j y,j < k->es[j]? = some y->p y=false):Z4s es p=k:=by
 have:es.findIdx? p=some k:=by
  rw[List.findIdx?_eq_some_iff_getElem];obtain⟨h1,rfl⟩:=List.getElem?_eq_some_iff.1 hx;exact⟨h1,hp,fun j hj=>by rw[hb j _ hj (List.getElem?_eq_getElem (by omega))];decide⟩
 simp[Z4s,this]
theorem Zaz {es:List LN}{p:LN->Bool}(hb : ∀j y,j < es.length->es[j]? = some y->p y=false):Z4s es p = -1:=by
 have:es.findIdx? p=none:=by
  rw[List.findIdx?_eq_none_iff];intro x hx;obtain⟨j,h1,h2⟩:=List.getElem_of_mem hx;exact hb j x h1 (by rw[List.getElem?_eq_getElem h1,h2])
 simp[Z4s,this]
theorem Z4r (es:List LN)(pred:LN->Bool)(fn:Nat)(cv:Value)(hfn : ∀(args:Y6) (w:World),(callFunc fn args).run zq w = .ok (.enter fn args) w)
  (a:zA) (n c:Nat) (w:World) (hr:zk w a n c es)
  (hp : ∀e∈es,∀W,Below w.heap.size w W->Calls zq fn #[.agg (Z5 e.n e.sa e.sc),cv] W fun r W'=>r = .returned (.bool (pred e))/\Below W.heap.size W W'):
  Calls zq 112 #[.slice a n c,.func (.func fn) #[] #[cv]] w fun e w'=>e = .returned (.int .i64 (Z4s es pred))/\Below w.heap.size w w':=by
 have I19:(zq.info? 47).map (·.size)=some 19:=by kernel_rfl
 have hn63:n<=9223372036854775807:=by have h1:=hr.2.1;have h2:=hr.2.2.1;unfold maxLen at h2;omega
 have HN:=zH hr.1;have RE:=zH (show ∀W,Below w.heap.size w W->zk W a n c es from fun W h=>hr.below h);have HPD:=zH hp;clear hr hp;go_enter Tryz.func112,Tryz.ntmps112;go_wp2_with fail;go_loopw [5,8] (fun _ i wr=>∃k:Nat,i = .int .i64 k/\k<=n/\Hid (∀j y,j < k->es[j]? = some y->pred y=false)/\Hid (Below w.heap.size w wr)) (fun _ i _=>n - (intOf i).toNat)
 case atStart=>exact⟨0,rfl,Nat.zero_le _,zH (fun j y h=>by omega),zH (Below.refl _ _)⟩
 case round=>
  obtain⟨k,rfl,hk,HB,B1⟩:=hrel;by_cases hkn:k < n
  ·have t0:decide ((k:Int) < (n:Int))=true:=by simp;omega
   obtain⟨b,off,rfl,hat⟩:=(RE.out _ B1.out).at (show 0 < n by omega);obtain⟨x,Hx⟩ : ∃x,es[k]? = some x:=⟨es[k]'(by rw[HN.out];exact hkn),List.getElem?_eq_getElem (by rw[HN.out];exact hkn)⟩;have HR:=zH (hat k x Hx).1;obtain⟨o,ho⟩:=zX (off+k * 19);rw[ho.out]at HR;have hi:=fun W=>Yi (W:=W) (c:=c) (b:=b) Tryz.underlying24 I19 hkn ho.out;have hk64:(k:Int)+1<=9223372036854775807:=by omega
   clear hat;go_wp2_with (refine wpList_load_mid rfl 47 _ rfl b o rfl (x.n.cells x.sa x.sc) _ HR.out Tryz.underlying47 rfl (by exact I19) ?_);refine(HPD.out x (List.mem_of_getElem? Hx) _ B1.out).mono ?_;rintro e w2 ⟨rfl,b2⟩;have B2:=zH (B1.out.trans (b2.mono B1.out.size));clear b2 hi t0;cases hpx:pred x with
   | true=>
    go_wp2;go_ret;exact⟨by rw[Zd3 Hx hpx HB.out];rfl,B2.out⟩
   | false=>
    have HPX:=zH hpx;clear hpx;go_wp2;go_roundw
    case rel=>exact⟨k+1,by simp,by omega,zH (fun j y hj hy=>by
     rcases Nat.lt_or_ge j k with h | h
     ·exact HB.out j y h hy
     ·have e:j=k:=by omega
      subst e;rw[Hx]at hy;cases hy;exact HPX.out),B2⟩
    case measure=>simp[intOf];omega
  ·have t0:decide ((k:Int) < (n:Int))=false:=by simp;omega
   go_wp2;go_ret;exact⟨by rw[Zaz (fun j y hj hy=>HB.out j y (by have:=HN.out;omega) hy)];rfl,B1.out⟩
theorem ZbX {es:List LN}{p:LN->Bool}: decide (0<=Z4s es p)=es.any p:=by
 unfold Z4s;cases h:es.findIdx? p with
 | none=>
  rw[List.findIdx?_eq_none_iff]at h;have h2:es.any p=false:=by
   rw[List.any_eq_false];intro x hx;rw[h x hx];decide
  rw[h2];rfl
 | some i=>
  obtain⟨h1,h2,_⟩:=List.findIdx?_eq_some_iff_getElem.1 h;have h3:es.any p=true:=List.any_eq_true.2 ⟨_,List.getElem_mem h1,h2⟩;rw[h3];simp
theorem Z5d (es:List LN)(pred:LN->Bool)(fn:Nat)(cv:Value)(hfn : ∀(args:Y6) (w:World),(callFunc fn args).run zq w = .ok (.enter fn args) w)
  (a:zA) (n c:Nat) (w:World) (hr:zk w a n c es)
  (hp : ∀e∈es,∀W,Below w.heap.size w W->Calls zq fn #[.agg (Z5 e.n e.sa e.sc),cv] W fun r W'=>r = .returned (.bool (pred e))/\Below W.heap.size W W'):
  Calls zq 54 #[.slice a n c,.func (.func fn) #[] #[cv]] w fun e w'=>e = .returned (.bool (es.any pred))/\Below w.heap.size w w':=by
 have HX:=zH (Z4r es pred fn cv hfn a n c w hr hp);clear hr hp hfn;go_enter Tryz.func54,Tryz.ntmps54;go_wp2_with fail;refine HX.out.mono ?_;rintro e w1 ⟨rfl,b1⟩;have B1:=zH b1;clear b1;have hq := @ZbX es pred;go_wp2;go_ret;exact⟨by first | rfl|(rw[<-hq];rfl),B1.out⟩
section
attribute [local go_sem] ZY YV Jd Vf XU Ve Vd Vc VH VG Qz Qy Qa Q9 Q8 XY Jl Jk JE
variable (f:Yo)(n:Z8)(sa:zA)(sc:Nat)(w:World)
theorem Z74 {f:Yo}{n:Z8}(h:ZX f n=0):Uc n:=by
 unfold ZX at h;split at h
 ·rename_i hv;split at h
  ·rename_i hf;exact XH hv hf
  ·simp at h
 ·simp at h
end
theorem Zc2 (args:Y6)(w:World):(callFunc 55 args).run zq w = .ok (.enter 55 args) w:=by kernel_rfl
theorem ZaD (f:Yo)(id:Int)(mb sp p pB:Nat)(c:Int->Nat)(n:Z8)(sa:zA)(sc:Nat)(w:World)(hb:w.heap[pB]? = some (.cells #[.pointer (some ⟨p,0,none⟩)] 27))
  (hh:w.heap[p]? = some (.cells (XE f id mb c sp) 109)) (hs:Xs w sa n.strokes.length sc n.strokes):
  Calls zq 55 #[.agg (Z5 n sa sc),.pointer (some ⟨pB,0,none⟩)] w fun e w'=>e = .returned (.bool (!decide (ZX f n=0)))/\Below w.heap.size w w':=by
 have CN:=zH (fun W (hb:Below w.heap.size w W)=>UJ f n sa sc W (hs.below hb));have hvl:f.val = .agg #[.int .i64 f.rings,.int .i64 f.sectors,.int .i64 f.wide]:=rfl;rw[hvl]at CN;clear hvl;obtain⟨z,hz⟩:=zX (ZX f n);rw[hz.out]at CN ⊢;have QE:Hid ((z != 0) = !decide (z=0)):=zH (by by_cases h:z=0 <;> simp[h]);have B0:=zH (zB w (.cells (Z5 n sa sc) 47));have N0:=zH (Za w (.cells (Z5 n sa sc) 47));have PB0:=zH (Z7 B0.out hb);have PH0:=zH (Z7 B0.out hh);clear hb hh hs;go_enter Tryz.func55,Tryz.ntmps55;go_upto_region 1 with fail;obtain⟨p2,hp2⟩:=zX (w.heap.size);rw[hp2.out]at N0;rw[hp2.out];generalize w.alloc (.cells (Z5 n sa sc) 47)=wr at *;have hC0:Below wr.heap.size wr wr.drew:=(Below.refl _ _).drew;have LB:=zH (show ∀w0,Below wr.heap.size wr w0->w0.heap[pB]? = some (.cells #[.pointer (some ⟨p,0,none⟩)] 27)from fun w0 h=>Z7 h PB0.out);have LH:=zH (show ∀w0,Below wr.heap.size wr w0->w0.heap[p]? = some (.cells (XE f id mb c sp) 109)from fun w0 h=>Z7 h PH0.out);have LN2:=zH (show ∀w0,Below wr.heap.size wr w0->w0.heap[p2]? = some (.cells (Z5 n sa sc) 47)from fun w0 h=>Z7 h N0.out);have BW:=zH (show ∀w0,Below wr.heap.size wr w0->Below w.heap.size w w0 from fun w0 h=>B0.out.trans (h.mono B0.out.size));try simp only[Act.put,lq3,lq4,lq5]
 refine zC (fun w':World=>Below wr.heap.size wr w') hC0 ?_;refine zQ (.pointer (some ⟨p,0,none⟩)) (fun w0 hC=>?_) ?_
 ·have c0:=Z6 (LB.out w0 hC) 0 (.pointer (some ⟨p,0,none⟩)) rfl;clear hC;go_simp
 refine zv p 0 ?_;refine zv p 0 ?_;refine zQ (.agg #[.int .i64 f.rings,.int .i64 f.sectors,.int .i64 f.wide]) (fun w0 hC=>?_) ?_
 ·have c0:=Z6 (LH.out w0 hC) 0 (.int .i64 f.rings) rfl;have c1:=Z6 (LH.out w0 hC) 1 (.int .i64 f.sectors) rfl;have c2:=Z6 (LH.out w0 hC) 2 (.int .i64 f.wide) rfl;clear hC;go_simp
 refine zQ (.agg (Z5 n sa sc)) (fun w0 hC=>ZF (.tmp 2) rfl p2 rfl n sa sc (LN2.out w0 hC)) ?_;refine zQ (.int .i64 z) (fun w0 hC=>?_) ?_
 ·go_simp;refine(CN.out w0 (BW.out w0 hC)).mono ?_;rintro e w1 ⟨rfl,b1⟩;exact⟨rfl,hC.trans (b1.mono hC.size)⟩
 refine zQ (.bool (!decide (z=0))) (fun w0 hC=>?_) ?_
 ·have qe:=QE.out;clear hC;go_simp
 go_big_quiet_step (fail);refine wpQuiet_nil ?_;intro w' hC;have B9:=zH (BW.out w' hC);clear hC;go_wp2;go_ret;exact⟨rfl,B9.out⟩
theorem Zcj {f:Yo}(hv:f.valid=true){x y:Z8}(hx:Zg f x=true)(hy:Zg f y=true)(h:Y5 x=Y5 y):x=y:=by
 have h1:=UI hv x hx;rw[h,UI hv y hy]at h1;simpa using h1.symm
theorem Za4 (f:Yo)(hv:f.valid=true)(x y:Z8)(sa:zA)(sc:Nat)(ta:zA)(tc:Nat)(w:World)(hx:Xs w sa x.strokes.length sc x.strokes)(hy:Xs w ta y.strokes.length tc y.strokes)(hfx:Zg f x=true)(hfy:Zg f y=true):
  Calls zq 59 #[.agg (Z5 x sa sc),.agg (Z5 y ta tc)] w fun e w'=>e = .returned (.bool (Y7 x y))/\Below w.heap.size w w':=by
 have EQ:Hid (∀b:Bool,(b=true↔Y5 x=Y5 y)->b=Y7 x y):=zH (fun b hb=>by
  rw[Bool.eq_iff_iff,hb,Jr];exact⟨Zcj hv hfx hfy,fun e=>by rw[e]⟩)
 have EX:=zH (fun W (hb:Below w.heap.size w W)=>Vm x sa sc W (hx.below hb) (XH hv hfx) (Nat.le_trans (Xq hv hfx) (by decide)));have EY:=zH (fun W (hb:Below w.heap.size w W)=>Vm y ta tc W (hy.below hb) (XH hv hfy) (Nat.le_trans (Xq hv hfy) (by decide)));have B0:=zH ((zB w (.cells (Z5 x sa sc) 47)).alloc (by simp) (.cells (Z5 y ta tc) 47));have X0:=zH (Z9 _ (.cells (Z5 y ta tc) 47) _ _ (Za w (.cells (Z5 x sa sc) 47)));have Y0:=zH (Zy (w.alloc (.cells (Z5 x sa sc) 47)) (.cells (Z5 y ta tc) 47) (w.heap.size+1) (by simp));clear hx hy hfx hfy;go_enter Tryz.func59,Tryz.ntmps59;go_upto_region 1 with fail;obtain⟨p2,hp2⟩:=zX (w.heap.size);obtain⟨p3,hp3⟩:=zX (w.heap.size+1);rw[hp2.out]at X0;rw[hp3.out]at Y0;rw[hp3.out,hp2.out];generalize (w.alloc (.cells (Z5 x sa sc) 47)).alloc (.cells (Z5 y ta tc) 47)=wr at *;refine zD (fun w'=>w'.heap[p2]? = some (.cells (Z5 x sa sc) 47)/\w'.heap[p3]? = some (.cells (Z5 y ta tc) 47)) (show wr.drew.heap[p2]? = _/\wr.drew.heap[p3]? = _ from⟨X0.out,Y0.out⟩) fun hh=>?_;have XD:=zH (show wr.drew.heap[p2]? = _ from X0.out);have YD:=zH (show wr.drew.heap[p3]? = _ from Y0.out);have BD:=zH (show Below w.heap.size w wr.drew from B0.out.drew);generalize wr.drew=V at *;refine zT 0 rfl (.agg (Z5 x sa sc)) (zY p2 fun W h=>h.1) ?_;refine zT 2 rfl (.agg (Z5 y ta tc)) (zY p3 fun W h=>h.2) ?_;refine zR 1 rfl fun K hK=>?_;go_simp;go_at_call 117;refine(EX.out V BD.out).mono ?_;rintro e v1 ⟨xa,xc,rfl,ho,b1⟩;have B1:=zH (BD.out.trans (b1.mono BD.out.size));have X1:=zH (Z7 b1 XD.out);have Y1:=zH (Z7 b1 YD.out);have R1:=zH (Ye.of_own ho);clear b1 ho;dsimp only;refine zK hK ⟨X1.out,Y1.out⟩ fun hh=>?_;clear hK K;refine zR 3 rfl fun K hK=>?_;go_simp;go_at_call 117;refine(EY.out v1 B1.out).mono ?_;rintro e v2 ⟨ya,yc,rfl,ho,b2⟩;have B2:=zH (B1.out.trans (b2.mono B1.out.size));have X2:=zH (Z7 b2 X1.out);have Y2:=zH (Z7 b2 Y1.out);have R2:=zH (Ye.of_own ho);have R12:=zH (R1.out.below b2)
 clear b2 ho;dsimp only;refine zK hK ⟨X2.out,Y2.out⟩ fun hh=>?_;clear hK K;refine zR 4 rfl fun K hK=>?_;go_simp;go_at_call 116;refine(Z2Q xa _ xc (Y5 x) ya _ yc (Y5 y) v2 R12.out R2.out).mono ?_;rintro e v3 ⟨b,rfl,hb,q3,rfl⟩;have HB:=zH hb;have B3:=zH (below_drewN B2.out q3);clear hb;dsimp only;refine zK hK ⟨X2.out,Y2.out⟩ fun hh=>?_;clear hK K;refine zW 5 rfl (.bool b) ?_;refine zE ?_;go_wp2;go_ret;exact⟨by rw[EQ.out b HB.out] <;> rfl,B3.out⟩
def Z4g (x y:Int):Int:=if y > x then y else x
def QN (l:List Z8)(c:Int):Prop:=1<=c/\(∀x∈l,x.clock+1<=c)/\(c=1 \/ ∃x∈l,c=x.clock+1)
theorem QN.uniq {l:List Z8}{c d:Int}(h:QN l c)(k:QN l d):c=d:=by
 obtain⟨h1,h2,h3⟩:=h;obtain⟨k1,k2,k3⟩:=k;have hcd:c<=d:=by
  rcases h3 with rfl | ⟨x,hx,rfl⟩
  ·exact k1
  ·exact k2 x hx
 have hdc:d<=c:=by
  rcases k3 with rfl | ⟨x,hx,rfl⟩
  ·exact h1
  ·exact h2 x hx
 omega
theorem QN.nil:QN [] 1:=⟨Int.le_refl _,fun x h=>(by cases h),.inl rfl⟩
theorem QN.snoc {l:List Z8}{c:Int}(h:QN l c)(x:Z8):QN (l ++ [x]) (Z4g c (x.clock+1)):=by
 obtain⟨h1,h2,h3⟩:=h;unfold Z4g;refine⟨by split <;> omega,fun y hy=>?_,?_⟩
 ·rcases List.mem_append.1 hy with hy | hy
  ·have:=h2 y hy;split <;> omega
  ·rw[List.mem_singleton.1 hy];split <;> omega
 ·split
  ·exact .inr ⟨x,by simp,rfl⟩
  ·rcases h3 with h3 | ⟨y,hy,h3⟩
   ·exact .inl h3
   ·exact .inr ⟨y,List.mem_append_left _ hy,h3⟩
theorem QN.mem {l m:List Z8}{c:Int}(h:QN l c)(hm : ∀x,x∈m↔x∈l):QN m c:=
 ⟨h.1,fun x hx=>h.2.1 x ((hm x).1 hx),h.2.2.imp id (fun⟨x,hx,e⟩=>⟨x,(hm x).2 hx,e⟩)⟩
def Z6J:List Z8->Int:=fun l=>l.foldl (fun c x=>Z4g c (x.clock+1)) 1
theorem Z9y (l:List Z8):QN l (Z6J l):=by
 have h : ∀(l pre:List Z8) (c:Int),QN pre c->QN (pre ++ l) (l.foldl (fun c x=>Z4g c (x.clock+1)) c):=by
  intro l
  induction l with
  | nil=>intro pre c h;simpa using h
  | cons x l ih=>
   intro pre c h;have h2:=ih (pre ++ [x]) _ (h.snoc x);rw[List.append_assoc]at h2;exact h2
 exact h l [] 1 QN.nil
def doN (S:Zf)(n:Z8):Z8 := { n with house:=S.id,num:=(S.c S.id:Int)+1,clock:=Z6J S.l }
def UH (S:Zf)(n:Z8):Zf×Z8×Int:=
 if 400<=S.l.length\/1099511627776 < Z6J S.l then (S,Zh,2)
 else if ZX S.f (doN S n)≠0 then (S,Zh,80)
 else if (n.kind≠5/\n.kind≠6)/\Zi (doN S n)∈(Z7j S.f (Xw S.l (doN S n)) (Xw S.l (doN S n)) 99999).2.2 then (S,Zh,91)
 else (S.add (doN S n),doN S n,0)
theorem Ze3 (args:Y6)(w:World):(callFunc 73 args).run zq w = .ok (.enter 73 args) w:=by kernel_rfl
theorem Zdd (pB:Nat)(n:Z8)(sa:zA)(sc:Nat)(x:Nm)(w:World)(hb:w.heap[pB]? = some (.cells (Z5 n sa sc) 47)):
  Calls zq 73 #[.agg #[.int .i64 x.1,.int .i64 x.2],.pointer (some ⟨pB,0,none⟩)] w fun e w'=>e = .returned (.bool (decide (x=Zi n)))/\Below w.heap.size w w':=by
 have NM:=zH (fun W=>Vk n sa sc W);obtain⟨xh,xm⟩:=x;obtain⟨q,hq⟩:=zX (decide (((xh,xm):Nm)=Zi n));have HQ:Hid (((xh==n.house) && (xm==n.num))=q):=zH (by rw[<-hq.out];unfold Zi;rw[Bool.eq_iff_iff];simp);rw[hq.out];dsimp only;have B0:=zH (zB w (.cells #[.int .i64 xh,.int .i64 xm] 45));have X0:=zH (Za w (.cells #[.int .i64 xh,.int .i64 xm] 45));have N0:=zH (Z7 B0.out hb);clear hb hq;go_enter Tryz.func73,Tryz.ntmps73;go_upto_region 1 with fail;obtain⟨p2,hp2⟩:=zX (w.heap.size);rw[hp2.out]at X0;rw[hp2.out];generalize w.alloc (.cells #[.int .i64 xh,.int .i64 xm] 45)=wr at *;have hC0:Below wr.heap.size wr wr.drew:=(Below.refl _ _).drew;have LX:=zH (show ∀w0,Below wr.heap.size wr w0->w0.heap[p2]? = some (.cells #[.int .i64 xh,.int .i64 xm] 45)from fun w0 h=>Z7 h X0.out);have LN2:=zH (show ∀w0,Below wr.heap.size wr w0->w0.heap[pB]? = some (.cells (Z5 n sa sc) 47)from fun w0 h=>Z7 h N0.out);have BW:=zH (show ∀w0,Below wr.heap.size wr w0->Below w.heap.size w w0 from fun w0 h=>B0.out.trans (h.mono B0.out.size));try simp only[Act.put,lq3,lq4,lq5]
 refine zC (fun w':World=>Below wr.heap.size wr w') hC0 ?_;refine zQ (.agg #[.int .i64 xh,.int .i64 xm]) (fun w0 hC=>?_) ?_
 ·have c0:=Z6 (LX.out w0 hC) 0 (.int .i64 xh) rfl;have c1:=Z6 (LX.out w0 hC) 1 (.int .i64 xm) rfl;clear hC;go_simp
 refine zQ (.agg (Z5 n sa sc)) (fun w0 hC=>ZF (.tmp 1) rfl pB rfl n sa sc (LN2.out w0 hC)) ?_;refine zQ (.agg #[.int .i64 n.house,.int .i64 n.num]) (fun w0 hC=>?_) ?_
 ·go_simp;refine(NM.out w0).mono ?_;rintro e w1 ⟨rfl,b1⟩;exact⟨rfl,hC.trans (b1.mono hC.size)⟩
 refine zQ (.bool q) (fun w0 hC=>?_) ?_
 ·have hq:=HQ.out;clear hC;rw[<-hq];go_simp;try (cases h1:(xh==n.house) <;> cases h2:(xm==n.num) <;> simp_all)
 go_big_quiet_step (fail);refine wpQuiet_nil ?_;intro w' hC;have B9:=zH (BW.out w' hC);clear hC;go_wp2;go_ret;exact⟨rfl,B9.out⟩
theorem Z7g (w:World)(base:Nat)(sa:zA)(sn sc:Nat)(xs:List Value)(hown:w.ownsRow base 3 1 (.slice sa sn sc) sn xs)(xa:zA)(m xc:Nat)(ys:List Value)(hrd:Y3 w 1 xa m xc ys)(h1 : ∀u∈ys,u.oneCell'=true)
  (hbytes:(sn+m) * 8<=140737488355328) (hbase:base<=w.heap.size):
  ∃a' c' w',(Builtin.append_ #[37,37] 37 #[.slice sa sn sc,.slice xa m xc]).run zq w = .ok (.slice a' (sn+m) c') w'/\w'.ownsRow base 3 1 (.slice a' (sn+m) c') (sn+m) (xs ++ ys)/\w.grownBy w' (Value.ownBlock (.slice sa sn sc)):=by
 obtain⟨i,hi,hz0,hz1,hz2⟩:=info_parts Z6A;exact Yu w base 37 37 3 i _ 1 8 Tryz.underlying37 hi hz0 hz1 hz2 rfl (by decide) sa sn sc xs hown xa m xc ys hrd h1 (by unfold maxLen;omega) hbytes hbase
section
attribute [local go_sem] XY
end
section
attribute [local go_sem] ZY YV
end
def QB (l:List Z8)(h:Int):Nat:=l.countP (fun x=>decide (x.house=h))
section
attribute [local go_sem] XY
end
end Go.Proofs.YtlnhppgfhkkidaaGreat
