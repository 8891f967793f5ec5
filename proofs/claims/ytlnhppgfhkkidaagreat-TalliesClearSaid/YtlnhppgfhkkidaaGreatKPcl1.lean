/- Parts of the proof, in order. -/
import Derived.Deep.RegionHeld3
import Derived.Deep.QuietTactic
import Derived.BigQuiet
import Derived.WalkKit
import Derived.Lib.Hide
import Derived.WalkSpells
import Derived.WalkLawsBesides
import Derived.Laws.AppendOwnNone
import Derived.Deep.MidRow
import Derived.Deep.WholeRow
import Derived.Test.YtlnhppgfhkkidaaGreatProg
import Derived.Laws.Rows
import Derived.Lib.AppendZerosOnto
import Derived.Lib.Walk
import Derived.Handy
import Derived.Laws.ResultCell
import Derived.ChangeKeysEq
import Derived.Deep.Cut
import Derived.StillTailTactics
import Derived.BigRegion
import Derived.RegionTactic
set_option linter.unusedSimpArgs false
set_option linter.unusedVariables false
set_option maxHeartbeats 32000000
set_option maxRecDepth 100000
namespace Go.Proofs.YtlnhppgfhkkidaaGreat
open Go.Proofs.Tryz renaming prog → zq
theorem zX {α:Sort _}(a:α): ∃p,RowKit.Hid (a=p):=⟨_,rfl⟩
theorem lq0:type_of% @List.getElem_toArray := @List.getElem_toArray
theorem lq1:type_of% @List.getElem_cons_succ := @List.getElem_cons_succ
theorem lq2:type_of% @List.getElem_cons_zero := @List.getElem_cons_zero
theorem lq3:type_of% @List.setIfInBounds_toArray := @List.setIfInBounds_toArray
theorem lq4:type_of% @List.set_cons_zero := @List.set_cons_zero
theorem lq5:type_of% @List.set_cons_succ := @List.set_cons_succ
theorem zH {p:Prop}(h:p):RowKit.Hid p:=Lib.hid h
section
variable {P:Program}{ops:Array Oper}{Q:Exit->Act->World->Prop}{md:Region.Mode}{S:World->Prop}{fuel:Nat}{listed:Array Bool}{a a':Act}{w:World}
theorem zT (i:Nat){oi:Oper}(hi:ops[i]? = some oi)(v:Value)(hy:YieldsIf P ops S oi v a)(h:wpAnyH P md ops Q S fuel (listed.setIfInBounds i true) a' w)
  (hs:Region.noSelect ops=true:=by kernel_rfl) (hf:Region.free md ops listed i=true:=by kernel_rfl) (hr:(Region.ready md ops listed).contains i=true:=by kernel_rfl)
  (hQ : ∀c a w,Q (.panic c) (a.put oi.dst v) w->Q (.panic c) a w:=by exact fun _ _ _ h=>h) (hS:S w:=by assumption)
  (ha:a.put oi.dst v=a':=by first|(simp only[Act.put,List.getElem_toArray,List.getElem_cons_succ,List.getElem_cons_zero,List.setIfInBounds_toArray,List.set_cons_zero,List.set_cons_succ];rfl) | rfl):
  wpAnyH P md ops Q S (fuel+1) listed a w:=wpAnyH_take hi hs hf hr hQ hy hS (ha ▸ h)
theorem zW (i:Nat){oi:Oper}(hi:ops[i]? = some oi)(v:Value)(h:wpAnyH P md ops Q S fuel (listed.setIfInBounds i true) a' w)
  (hs:Region.noSelect ops=true:=by kernel_rfl) (hf:Region.free md ops listed i=true:=by kernel_rfl) (hr:(Region.ready md ops listed).contains i=true:=by kernel_rfl)
  (hQ : ∀c a w,Q (.panic c) (a.put oi.dst v) w->Q (.panic c) a w:=by exact fun _ _ _ h=>h) (hS:S w:=by assumption) (hy:YieldsIf P ops S oi v a:=by exact Or.inl ⟨by kernel_rfl,by intro W _;go_simp⟩)
  (ha:a.put oi.dst v=a':=by first|(simp only[Act.put,List.getElem_toArray,List.getElem_cons_succ,List.getElem_cons_zero,List.setIfInBounds_toArray,List.set_cons_zero,List.set_cons_succ];rfl) | rfl):
  wpAnyH P md ops Q S (fuel+1) listed a w:=wpAnyH_take hi hs hf hr hQ hy hS (ha ▸ h)
theorem zw (i:Nat){oi:Oper}(hi:ops[i]? = some oi)(b o:Nat)(h:wpAnyH P md ops Q S fuel (listed.setIfInBounds i true) a' w)
  (hs:Region.noSelect ops=true:=by kernel_rfl) (hf:Region.free md ops listed i=true:=by kernel_rfl) (hr:(Region.ready md ops listed).contains i=true:=by kernel_rfl)
  (hQ : ∀c a w,Q (.panic c) (a.put oi.dst (.pointer (some ⟨b,o,none⟩))) w->Q (.panic c) a w:=by exact fun _ _ _ h=>h) (hS:S w:=by assumption) (hy:YieldsIf P ops S oi (.pointer (some ⟨b,o,none⟩)) a:=by exact Or.inl ⟨by kernel_rfl,by intro W _;go_simp⟩)
  (ha:a.put oi.dst (.pointer (some ⟨b,o,none⟩))=a':=by first|(simp only[Act.put,List.getElem_toArray,List.getElem_cons_succ,List.getElem_cons_zero,List.setIfInBounds_toArray,List.set_cons_zero,List.set_cons_succ];rfl) | rfl):
  wpAnyH P md ops Q S (fuel+1) listed a w:=wpAnyH_take hi hs hf hr hQ hy hS (ha ▸ h)
theorem zS (i:Nat){oi:Oper}(hi:ops[i]? = some oi)(v:Value)(hq : ∀W,S W->(execOp a.eval oi).run P W = .ok (.value v) W)(h:wpAnyH P md ops Q S fuel (listed.setIfInBounds i true) a' w)
  (hs:Region.noSelect ops=true:=by kernel_rfl) (hf:Region.free md ops listed i=true:=by kernel_rfl) (hr:(Region.ready md ops listed).contains i=true:=by kernel_rfl)
  (hQ : ∀c a w,Q (.panic c) (a.put oi.dst v) w->Q (.panic c) a w:=by exact fun _ _ _ h=>h) (hS:S w:=by assumption) (hw:Region.wanted oi (yielded ops a.tmps)=true:=by kernel_rfl)
  (ha:a.put oi.dst v=a':=by first|(simp only[Act.put,List.getElem_toArray,List.getElem_cons_succ,List.getElem_cons_zero,List.setIfInBounds_toArray,List.set_cons_zero,List.set_cons_succ];rfl) | rfl):
  wpAnyH P md ops Q S (fuel+1) listed a w:=wpAnyH_take hi hs hf hr hQ (.inl ⟨hw,hq⟩) hS (ha ▸ h)
theorem zR (i:Nat){o:Oper}(ho:ops[i]? = some o)
  (h : ∀K':Act->World->Prop,Shut (∀a w,S w->(S w->wpAnyH P md ops Q S fuel (listed.setIfInBounds i true) a w)->K' a w)->if Region.wanted o (yielded ops a.tmps)=true then Oper.wp P o a w K' Q else K' (a.put o.dst undef) w)
  (hr:Region.ready md ops listed=[i]:=by kernel_rfl):wpAnyH P md ops Q S (fuel+1) listed a w:=wpAnyH_ready hr (by simp) (AllReadyH.cons ho h AllReadyH.nil)
theorem zn {i:Nat}{o:Oper}(h : ∀K':Act->World->Prop,Shut (∀a w,S w->(S w->wpAnyH P md ops Q S fuel (listed.setIfInBounds i true) a w)->K' a w)->if Region.wanted o (yielded ops a.tmps)=true then Oper.wp P o a w K' Q else K' (a.put o.dst undef) w)
  (ho:ops[i]? = some o:=by exact rfl):AllReadyH P md ops Q S fuel listed a w [i]:=AllReadyH.cons ho h AllReadyH.nil
theorem zM (rs:List Nat){i:Nat}{rt:List Nat}{o:Oper}(ho:ops[i]? = some o)
  (h : ∀K':Act->World->Prop,Shut (∀a w,S w->(S w->wpAnyH P md ops Q S fuel (listed.setIfInBounds i true) a w)->K' a w)->if Region.wanted o (yielded ops a.tmps)=true then Oper.wp P o a w K' Q else K' (a.put o.dst undef) w)
  (hs:AllReadyH P md ops Q S fuel listed a w rt) (hr:Region.ready md ops listed=rs:=by kernel_rfl) (e:rs=i :: rt:=by exact rfl):wpAnyH P md ops Q S (fuel+1) listed a w:=by
 subst e;exact wpAnyH_ready hr (by simp) (AllReadyH.cons ho h hs)
theorem zK {K:Act->World->Prop}(hK:Shut (∀a w,S w->(S w->wpAnyH P md ops Q S fuel listed a w)->K a w))(hS:S w)(h:S w->wpAnyH P md ops Q S fuel listed a' w)
  (ha:a=a':=by first|(simp only[Act.put,List.getElem_toArray,List.getElem_cons_succ,List.getElem_cons_zero,List.setIfInBounds_toArray,List.set_cons_zero,List.set_cons_succ];rfl) | rfl):K a w:=by
 subst ha;exact hK.out _ _ hS h
theorem zD {id:Nat}(S:World->Prop){Q:Exit->Act->World->Prop}(hS:S w.drew)(h:S w.drew->wpAnyH P .any ops (NoPanic Q) S ops.size (Array.replicate ops.size false) a w.drew)(hm:P.follows .mixedOrders=true:=by kernel_rfl):(Code.region id ops true).wp P Q a w:=
 wp_region_noPanic (wp_region_held_drew hm hS h)
theorem zp {id p:Nat}{c:Obj}{Q:Exit->Act->World->Prop}(hS:w.heap[p]? = some c)(h:w.drew.heap[p]? = some c->wpAnyH P .any ops (NoPanic Q) (fun w'=>w'.heap[p]? = some c) ops.size (Array.replicate ops.size false) a w.drew)(hm:P.follows .mixedOrders=true:=by kernel_rfl):(Code.region id ops true).wp P Q a w:=
 wp_region_noPanic (wp_region_held_drew (S:=fun w'=>w'.heap[p]? = some c) hm hS h)
theorem zb {id:Nat}{Q:Exit->Act->World->Prop}(h:RowKit.Below w.heap.size w w.drew->wpAnyH P .any ops (NoPanic Q) (fun w'=>RowKit.Below w.heap.size w w') ops.size (Array.replicate ops.size false) a w.drew)(hm:P.follows .mixedOrders=true:=by kernel_rfl):(Code.region id ops true).wp P Q a w:=
 wp_region_noPanic (wp_region_held_drew (S:=fun w'=>RowKit.Below w.heap.size w w') hm (RowKit.Below.refl _ _).drew h)
theorem zE {Q:Exit->Act->World->Prop}(h:Q .normal a w)(hr:Region.ready md ops listed=[]:=by kernel_rfl):wpAnyH P md ops (NoPanic Q) S fuel listed a w:=wpAnyH_done hr (NoPanic.normal h) _
theorem zC {id:Nat}{Q:Exit->Act->World->Prop}{l:List Oper}(C:World->Prop)(hC:C w.drew)(h:wpQuiet P l.toArray C (fun a' => ∀w',C w'->Q .normal a' w') l a)(hm:P.follows .mixedOrders=true:=by kernel_rfl)(hB:Region.lexB .any l.toArray=true:=by kernel_rfl):
  (Code.region id l.toArray true).wp P Q a w:=wp_region_quiet hm hB hC (by rw[List.toList_toArray];exact h)
theorem zd (w:World):RowKit.Below w.heap.size w w.drew:=(RowKit.Below.refl _ _).drew
theorem zB (w:World)(o:Obj):RowKit.Below w.heap.size w (w.alloc o):=(RowKit.Below.refl _ _).alloc (Nat.le_refl _) _
end
abbrev zJ (w w':World):Prop:=RowKit.Below w.heap.size w w'
abbrev zA:=Option Addr
abbrev zU:=List UInt8
abbrev ZV:=Array Value
section
variable {P:Program}{ops:Array Oper}{C:World->Prop}{Q:Act->Prop}{o:Oper}{rest:List Oper}{a a':Act}
theorem zQ (v:Value)(hq : ∀w,C w->o.quietAt P a C w v)(h:wpQuiet P ops C Q rest a')(hw:Region.wanted o (yielded ops a.tmps)=true:=by kernel_rfl)
  (ha:a.put o.dst v=a':=by first|(simp only[Act.put,List.setIfInBounds_toArray,List.set_cons_zero,List.set_cons_succ];rfl) | rfl):wpQuiet P ops C Q (o :: rest) a:=by
 subst ha;rw[wpQuiet,if_pos hw];exact⟨v,hq,h⟩
theorem zV (v:Value)(h:wpQuiet P ops C Q rest a')(hw:Region.wanted o (yielded ops a.tmps)=true:=by kernel_rfl)(hq : ∀w,C w->o.quietAt P a C w v:=by intro w0 hC;clear hC;go_simp)
  (ha:a.put o.dst v=a':=by first|(simp only[Act.put,List.setIfInBounds_toArray,List.set_cons_zero,List.set_cons_succ];rfl) | rfl):wpQuiet P ops C Q (o :: rest) a:=zQ v hq h hw ha
theorem zv (b k:Nat)(h:wpQuiet P ops C Q rest a')(hw:Region.wanted o (yielded ops a.tmps)=true:=by kernel_rfl)(hq : ∀w,C w->o.quietAt P a C w (.pointer (some ⟨b,k,none⟩)):=by intro w0 hC;clear hC;go_simp)
  (ha:a.put o.dst (.pointer (some ⟨b,k,none⟩))=a':=by first|(simp only[Act.put,List.setIfInBounds_toArray,List.set_cons_zero,List.set_cons_succ];rfl) | rfl):wpQuiet P ops C Q (o :: rest) a:=zQ _ hq h hw ha
end
open Go.RowKit
def ZW (w:World)(k:Nat)(a:zA)(n c:Nat)(xs:List Value):Prop:=
 xs.length=n * k/\n<=c/\c<=maxLen/\(c=0 \/ ∃b off,a=some ⟨b,off,none⟩ /\ ∀i x,xs[i]? = some x->w.cell? ⟨b,off+i,none⟩=some x)
theorem ZW.len {w:World}{k:Nat}{a:zA}{n c:Nat}{xs:List Value}(h:ZW w k a n c xs):xs.length=n * k:=h.1
theorem ZW.le {w:World}{k:Nat}{a:zA}{n c:Nat}{xs:List Value}(h:ZW w k a n c xs):n<=c:=h.2.1
theorem ZW.max {w:World}{k:Nat}{a:zA}{n c:Nat}{xs:List Value}(h:ZW w k a n c xs):c<=maxLen:=h.2.2.1
theorem ZW.maxn {w:World}{k:Nat}{a:zA}{n c:Nat}{xs:List Value}(h:ZW w k a n c xs):n<=9223372036854775807:=by
 have h1:=h.2.1;have h2:=h.2.2.1;unfold maxLen at h2;omega
theorem ZW.nil (w:World)(k:Nat):ZW w k none 0 0 []:=⟨by simp,Nat.le_refl _,Nat.zero_le _,.inl rfl⟩
theorem ZW.at {w:World}{k:Nat}{a:zA}{n c:Nat}{xs:List Value}(h:ZW w k a n c xs)(hn:0 < n):
  ∃b off,a=some ⟨b,off,none⟩ /\ ∀i x,xs[i]? = some x->w.cell? ⟨b,off+i,none⟩=some x:=by
 rcases h.2.2.2 with hc | h4
 ·have:=h.2.1;omega
 ·exact h4
theorem ZW.below {w w':World}{k:Nat}{a:zA}{n c:Nat}{xs:List Value}(h:ZW w k a n c xs)(hb:Below w.heap.size w w'):ZW w' k a n c xs:=by
 refine⟨h.1,h.2.1,h.2.2.1,?_⟩;rcases h.2.2.2 with h4 | ⟨b,off,rfl,h4⟩
 ·exact .inl h4
 ·refine .inr ⟨b,off,rfl,fun i x hx=>?_⟩;have h5:=h4 i x hx;exact(hb.cell (p:=⟨b,off+i,none⟩) (World.block_lt_of_cell? w _ h5)).trans h5
theorem ZW.of_cells {w w':World}{k:Nat}{a:zA}{n c:Nat}{xs:List Value}(h:ZW w k a n c xs)
  (hb : ∀b,(∃off,a=some ⟨b,off,none⟩)->b < w.heap.size->w'.heap[b]? = w.heap[b]?):ZW w' k a n c xs:=by
 refine⟨h.1,h.2.1,h.2.2.1,?_⟩;rcases h.2.2.2 with h4 | ⟨b,off,rfl,h4⟩
 ·exact .inl h4
 ·refine .inr ⟨b,off,rfl,fun i x hx=>?_⟩;have h5:=h4 i x hx;exact(World.cell?_of_block (a:=⟨b,off+i,none⟩) (hb b ⟨off,rfl⟩ (World.block_lt_of_cell? w _ h5))).trans h5
theorem ZW.of_own {w:World}{base:Nat}{e:TypeId}{k:Nat}{a:zA}{n c:Nat}{xs:List Value}(h:w.ownsRow base e k (.slice a n c) n xs):ZW w k a n c xs:=by
 obtain⟨h1,h2⟩:=h;rcases h2 with ⟨h2,rfl⟩ | ⟨g,cap,cur,hv,_,hg,hn,hc,hs,ht⟩
 ·simp only[Value.slice.injEq]at h2;obtain⟨rfl,_,rfl⟩:=h2;exact⟨h1,Nat.le_refl _,Nat.zero_le _,.inl rfl⟩
 ·simp only[Value.slice.injEq]at hv;obtain⟨rfl,_,rfl⟩:=hv;refine⟨h1,hn,hc,.inr ⟨g,0,rfl,fun i x hx=>?_⟩⟩;rw[cell_of_row w g (0+i) cur e (0,0) hg];rw[<-ht,List.getElem?_take]at hx;split at hx
  ·simpa using hx
  ·cases hx
theorem ZW.sliced {w:World}{k:Nat}{a:zA}{n c:Nat}{xs:List Value}(h:ZW w k a n c xs)(lo hi:Nat)(h1:lo<=hi)(h2:hi<=n):
  ∃a',Go.sliced a lo hi c k = .slice a' (hi - lo) (c - lo)/\ZW w k a' (hi - lo) (c - lo) ((xs.drop (lo * k)).take ((hi - lo) * k)):=by
 have hl:=h.1;have hmul:lo * k+(hi - lo) * k<=n * k:=by rw[<-Nat.add_mul];exact Nat.mul_le_mul_right _ (by omega)
 have hlen:((xs.drop (lo * k)).take ((hi - lo) * k)).length=(hi - lo) * k:=by
  simp only[List.length_take,List.length_drop,hl];omega
 refine⟨_,rfl,hlen,by have:=h.2.1;omega,by have:=h.2.2.1;omega,?_⟩;rcases h.2.2.2 with rfl | ⟨b,off,rfl,h4⟩
 ·exact .inl (by omega)
 ·by_cases hc:c=lo
  ·refine .inr ⟨b,off,by rw[if_pos hc],fun i x hx=>?_⟩;have:hi - lo=0:=by have:=h.2.1;omega
   rw[this]at hx;simp at hx
  ·refine .inr ⟨b,off+lo * k,by rw[if_neg hc];simp only[Option.map_some,Addr.add];split <;> simp_all,fun i x hx=>?_⟩;rw[Nat.add_assoc];apply h4;rw[List.getElem?_take]at hx;split at hx
   ·simpa [List.getElem?_drop] using hx
   ·cases hx
section
variable {P:Program}(w:World)
theorem Yk (base:Nat)(t ty e:TypeId)(i:TypeInfo)(z:Value)(size bytes:Nat)(ht:P.underlying t=some (.slice e))(hi:P.info? e=some i)(hz:i.zero=some z)
  (hsize:i.size=size) (hby:i.bytes=bytes) (hzs:z.cells.size=size) (hsz:0 < size)
  (sa:zA) (sn sc:Nat) (xs:List Value) (hown:w.ownsRow base e size (.slice sa sn sc) sn xs)
  (xa:zA) (m xc:Nat) (ys:List Value) (hrd:ZW w size xa m xc ys) (h1 : ∀u∈ys,u.oneCell'=true)
  (h63:sn+m<=maxLen) (hbytes:(sn+m) * bytes<=140737488355328) (hbase:base<=w.heap.size):
  ∃a' c' w',(Builtin.append_ #[t,t] ty #[.slice sa sn sc,.slice xa m xc]).run P w = .ok (.slice a' (sn+m) c') w'/\w'.ownsRow base e size (.slice a' (sn+m) c') (sn+m) (xs ++ ys)/\w.grownBy w' (Value.ownBlock (.slice sa sn sc)):=by
 have hshape : ∀(w':World) (v:Value) (n:Nat) (zs:List Value),w'.ownsRow base e size v n zs -> ∃a c,v = .slice a n c:=by
  intro w' v n zs h;rcases h.2 with ⟨rfl,rfl⟩ | ⟨g,cap,cur,rfl,_⟩
  ·exact⟨_,_,rfl⟩
  ·exact⟨_,_,rfl⟩
 rcases hrd.2.2.2 with rfl | ⟨b,off,rfl,h4⟩
 ·have hm:m=0:=by have:=hrd.2.1;omega
  subst hm;have hy:ys=[]:=List.eq_nil_of_length_eq_zero (by simpa using hrd.1);subst hy;cases xa with
  | none=>
   refine⟨sa,sc,w,?_,by simpa using hown,World.grownBy.refl _ _⟩;simpa using run_append_owned_none (P:=P) (w:=w) base t ty e i size ht hi _ sn xs hown
  | some ad=>
   obtain⟨v',w',hr,ho,hg,_⟩:=run_append_own (P:=P) w base t ty e i z size bytes ht hi hz hsize hby hzs hsz _ sn xs hown ad 0 0 [] (by simp)
    (fun j u hu=>by simp at hu) h1 h63 hbytes hbase
   obtain⟨a',c',rfl⟩:=hshape _ _ _ _ ho;exact⟨a',c',w',hr,ho,hg⟩
 ·obtain⟨v',w',hr,ho,hg,_⟩:=run_append_own (P:=P) w base t ty e i z size bytes ht hi hz hsize hby hzs hsz _ sn xs hown ⟨b,off,none⟩ m xc ys hrd.1
   (fun j u hu=>by rw[Addr.add_lit];exact h4 j u hu) h1 h63 hbytes hbase
  obtain⟨a',c',rfl⟩:=hshape _ _ _ _ ho;exact⟨a',c',w',hr,ho,hg⟩
theorem Ux {ops:Array Oper}{rest:List Oper}{o:Oper}{a:Act}{Q:Exit->Act->World->Prop}(hgd:o.guard=none)(s x:Operand)(t:TypeId)
  (ho:o.op = .call { callee := .builtin .append,args := #[s,x],argTypes := #[t,t] })
  (base:Nat) (e:TypeId) (i:TypeInfo) (z:Value) (size bytes:Nat) (ht:P.underlying t=some (.slice e)) (hi:P.info? e=some i) (hz:i.zero=some z)
  (hsize:i.size=size) (hby:i.bytes=bytes) (hzs:z.cells.size=size) (hsz:0 < size)
  (sa:zA) (sn sc:Nat) (xs:List Value) (hs:a.eval s = .slice sa sn sc) (hown:w.ownsRow base e size (.slice sa sn sc) sn xs)
  (xa:zA) (m xc:Nat) (ys:List Value) (hx:a.eval x = .slice xa m xc) (hrd:ZW w size xa m xc ys) (h1 : ∀u∈ys,u.oneCell'=true)
  (h63:sn+m<=maxLen) (hbytes:(sn+m) * bytes<=140737488355328) (hbase:base<=w.heap.size)
  (h : ∀a' c' w',w'.ownsRow base e size (.slice a' (sn+m) c') (sn+m) (xs ++ ys)->w.grownBy w' (Value.ownBlock (.slice sa sn sc))->wpList P ops Q rest (a.put o.dst (.slice a' (sn+m) c')) w'):wpList P ops Q (o :: rest) a w:=by
 refine wpList_plain hgd fun K hK=>?_;obtain⟨a',c',w',hr,h2,h3⟩:=Yk (P:=P) w base t o.type e i z size bytes ht hi hz hsize hby hzs hsz sa sn sc xs hown xa m xc ys hrd h1 h63 hbytes hbase;unfold Oper.wp;simp[execOp,ho,resolve,invoke,builtin,hs,hx,hr,Result.andThen];exact hK _ _ (h a' c' w' h2 h3)
theorem Z33 {ops:Array Oper}{rest:List Oper}{o:Oper}{a:Act}{Q:Exit->Act->World->Prop}(hgd:o.guard=none)(x:Operand)(lo hi:Option Operand)(t:TypeId)
  (ho:o.op = .slice t x lo hi none) (e:TypeId) (i:TypeInfo) (size:Nat) (ht:P.underlying t=some (.slice e)) (hi':P.info? e=some i) (hsize:i.size=size)
  (xa:zA) (n c:Nat) (xs:List Value) (hx:a.eval x = .slice xa n c) (hrd:ZW w size xa n c xs) (L H:Nat)
  (hl:(lo=none/\L=0) \/ ∃q kd,lo=some q/\a.eval q = .int kd (L:Int)) (hh:(hi=none/\H=n) \/ ∃q kd,hi=some q/\a.eval q = .int kd (H:Int)) (h1:L<=H) (h2:H<=n)
  (h : ∀a',ZW w size a' (H - L) (c - L) ((xs.drop (L * size)).take ((H - L) * size))->wpList P ops Q rest (a.put o.dst (.slice a' (H - L) (c - L))) w):wpList P ops Q (o :: rest) a w:=by
 refine wpList_plain hgd fun K hK=>?_;obtain⟨a',hs,hr⟩:=hrd.sliced L H h1 h2;have hnc:=hrd.2.1;have hrun:(Instr.sliceAt t (a.eval x) (lo.map a.eval) (hi.map a.eval) none).run P w = .ok (.slice a' (H - L) (c - L)) w:=by
  rw[hx,<-hs];have hel:P.elem t=e:=by simp[Program.elem,ht]
  rw[run_sliceAt_slice (P:=P) w t _ _ _ _ (by rw[hel];exact ht),run_slice_any (P:=P) w t xa n c (by rw[hel];exact ht)];have hb:(Instr.sliceBounds true n c (lo.map a.eval) (hi.map a.eval) none).run P w = .ok (L,H,c) w:=by
   rcases hl with ⟨rfl,rfl⟩ | ⟨q,kd,rfl,hq⟩ <;> rcases hh with ⟨rfl,rfl⟩ | ⟨q',kd',rfl,hq'⟩
   ·simp[Instr.sliceBounds]
   ·simp[Instr.sliceBounds,hq',run_sliceBound,Result.andThen,(by omega:H<=c)]
   ·simp[Instr.sliceBounds,hq,run_sliceBound,Result.andThen,h1]
   ·simp[Instr.sliceBounds,hq,hq',run_sliceBound,Result.andThen,(by omega:H<=c),h1]
  rw[hb,hel];simp[Result.andThen,sizeOf,typeInfo,hi',hsize]
 unfold Oper.wp;simp only[execOp,ho];simp[hrun,Result.andThen];exact hK _ _ (h a' hr)
end
def Zs (b:UInt8):Value := .int .u8 b.toNat
theorem Z2w (l:zU): ∀u∈l.map Zs,u.oneCell'=true:=by
 intro u hu;obtain⟨_,_,rfl⟩:=List.mem_map.1 hu;rfl
def Yg (w:World)(a:zA)(n c:Nat)(l:zU):Prop:=ZW w 1 a n c (l.map Zs)
theorem Yg.len {w:World}{a:zA}{n c:Nat}{l:zU}(h:Yg w a n c l):l.length=n:=by simpa using h.1
theorem Yg.below {w w':World}{a:zA}{n c:Nat}{l:zU}(h:Yg w a n c l)(hb:Below w.heap.size w w'):Yg w' a n c l:=ZW.below h hb
theorem Yg.at {w:World}{a:zA}{n c:Nat}{l:zU}(h:Yg w a n c l)(hn:0 < n):
  ∃b off,a=some ⟨b,off,none⟩ /\ ∀i,i < n->w.cell? ⟨b,off+i,none⟩=some (.int .u8 ((l[i]?.getD 0).toNat:Int)):=by
 obtain⟨b,off,rfl,h4⟩:=ZW.at h hn;refine⟨b,off,rfl,fun i hi=>h4 i _ ?_⟩;have:=h.len;simp[Zs,List.getElem?_map,List.getElem?_eq_getElem (show i < l.length by omega)]
theorem Z60 {P:Program}{w:World}{k:Nat}{b off n c:Nat}{xs:List Value}(h:ZW w k (some ⟨b,off,none⟩) n c xs)(m:Nat)(hm:m=xs.length):(loadCells ⟨b,off,none⟩ m).run P w = .ok xs.toArray w:=by
 have h4 : ∀i x,xs[i]? = some x->w.cell? ⟨b,off+i,none⟩=some x:=by
  rcases h.2.2.2 with h5 | ⟨b',off',h5,h4⟩
  ·have hn:n=0:=by have:=h.2.1;omega
   have hx:xs=[]:=List.eq_nil_of_length_eq_zero (by rw[h.1,hn];simp);subst hx;intro i x hx;simp at hx
  ·cases h5;exact h4
 subst hm;have:=run_firstCells_some (P:=P) (w:=w) 1 xs.length ⟨b,off,none⟩ 0 0 xs (by simp) (fun j v hv=>by rw[Addr.add_lit];exact h4 j v hv);simpa [Builtin.firstCells] using this
theorem Z2q (l:zU): ∀(s:ByteArray),(l.map fun b=>((b.toNat:Nat):Int)).foldl (fun r n=>r.push (UInt8.ofNat n.toNat)) s=⟨s.data ++ l.toArray⟩:=by
 induction l with
 | nil=>intro s;simp
 | cons b l ih=>
  intro s;rw[List.map_cons,List.foldl_cons,ih];simp[ByteArray.push]
theorem Z35 {P:Program}{w:World}(src dst e:TypeId)(hs:P.underlying src=some (.slice e))(he:P.underlying e=some (.int .u8))(hd:P.underlying dst=some .string)
  {a:zA} {n c:Nat} {l:zU} (h:Yg w a n c l):(convert src dst (.slice a n c)).run P w = .ok (.string ⟨l.toArray⟩) w:=by
 rw[run_convert_bytes_string w src dst e a n c hs he hd];rcases h.2.2.2 with rfl | ⟨b,off,rfl,h4⟩
 ·have hn:n=0:=by have:=h.2.1;omega
  have hl:l=[]:=List.eq_nil_of_length_eq_zero (by rw[h.len,hn]);subst hl;subst hn;cases a with
  | none=>
   simp[Conv.bytesToString];rfl
  | some ad=>
   rw[run_bytesToString w ad 0 0 [] (by simp[loadCells,loadCellsFrom])];rfl
 ·have hld:=Z60 (P:=P) h n (by simp[h.len]);have hmap:l.map Zs=(l.map fun b=>((b.toNat:Nat):Int)).map (Value.int .u8):=by simp[Zs]
  rw[hmap]at hld;rw[run_bytesToString w ⟨b,off,none⟩ n c _ hld,Z2q];simp
def Yq (z:Int):Value := .int .i64 z
theorem Z7e (l:List Int): ∀u∈l.map Yq,u.oneCell'=true:=by
 intro u hu;obtain⟨_,_,rfl⟩:=List.mem_map.1 hu;rfl
def Jl (z:Int):Prop := -9223372036854775808<=z/\z<=9223372036854775807
def XU (w:World)(a:zA)(n c:Nat)(l:List Int):Prop:=ZW w 1 a n c (l.map Yq)
theorem XU.len {w:World}{a:zA}{n c:Nat}{l:List Int}(h:XU w a n c l):l.length=n:=by simpa using h.1
theorem XU.below {w w':World}{a:zA}{n c:Nat}{l:List Int}(h:XU w a n c l)(hb:Below w.heap.size w w'):XU w' a n c l:=ZW.below h hb
theorem XU.maxn {w:World}{a:zA}{n c:Nat}{l:List Int}(h:XU w a n c l):n<=9223372036854775807:=ZW.maxn h
theorem XU.at {w:World}{a:zA}{n c:Nat}{l:List Int}(h:XU w a n c l)(hn:0 < n):
  ∃b off,a=some ⟨b,off,none⟩ /\ ∀i,i < n->w.cell? ⟨b,off+i,none⟩=some (.int .i64 (l[i]?.getD 0)):=by
 obtain⟨b,off,rfl,h4⟩:=ZW.at h hn;refine⟨b,off,rfl,fun i hi=>h4 i _ ?_⟩;have:=h.len;simp[Yq,List.getElem?_map,List.getElem?_eq_getElem (show i < l.length by omega)]
structure Z8 where
 house:Int
 num:Int
 clock:Int
 day:Int
 kind:Int
 stone:Int
 heap:Int
 turns:Int
 hardLo:Int
 hardHi:Int
 diffLo:Int
 diffHi:Int
 a:Int
 b:Int
 ring:Int
 refH:Int
 refN:Int
 fix:Int
 strokes:List Int
deriving Inhabited
def Z8.cells (n:Z8)(sa:zA)(sc:Nat):List Value:=
 [.int .i64 n.house,.int .i64 n.num,.int .i64 n.clock,.int .i64 n.day,.int .i64 n.kind,.int .i64 n.stone,.int .i64 n.heap,.int .i64 n.turns,.int .i64 n.hardLo,.int .i64 n.hardHi,.int .i64 n.diffLo,.int .i64 n.diffHi,.int .i64 n.a,.int .i64 n.b,.int .i64 n.ring,.slice sa n.strokes.length sc,.int .i64 n.refH,.int .i64 n.refN,.int .i64 n.fix]
theorem Z8.cells_one (n:Z8)(sa:zA)(sc:Nat): ∀v∈n.cells sa sc,v.oneCell'=true:=by
 intro v hv;simp only[Z8.cells,List.mem_cons,List.not_mem_nil,or_false]at hv;rcases hv with rfl | rfl | rfl | rfl | rfl | rfl | rfl | rfl | rfl | rfl | rfl | rfl | rfl | rfl | rfl | rfl | rfl | rfl | rfl <;> rfl
structure Z8.Ok (n:Z8):Prop where
 house:Jl n.house
 num:Jl n.num
 clock:Jl n.clock
 day:Jl n.day
 kind:Jl n.kind
 stone:Jl n.stone
 heap:Jl n.heap
 turns:Jl n.turns
 hardLo:Jl n.hardLo
 hardHi:Jl n.hardHi
 diffLo:Jl n.diffLo
 diffHi:Jl n.diffHi
 a:Jl n.a
 b:Jl n.b
 ring:Jl n.ring
 refH:Jl n.refH
 refN:Jl n.refN
 fix:Jl n.fix
 strokes : ∀z∈n.strokes,Jl z
def ZdL (w:World)(cs:List Value)(n:Z8):Prop := ∃sa sc,cs=n.cells sa sc/\XU w sa n.strokes.length sc n.strokes/\n.Ok
theorem Uv {P:Program}{ops:Array Oper}{rest:List Oper}{op:Oper}{a:Act}{Q:Exit->Act->World->Prop}(w:World)(hgd:op.guard=none)(ty:TypeId)(x y:Operand)(ho:op.op = .store ty x y)
  (c c':ZV) (hx:a.eval x = .pointer (some ⟨w.heap.size,0,none⟩)) (hy:a.eval y = .agg c') (hi:(P.info? ty).map (·.size)=some c'.size) (hc:c.size=c'.size) (h1:c'.all (·.oneCell')=true)
  (h:wpList P ops Q rest (a.put op.dst undef) (w.alloc (.cells c' ty))):wpList P ops Q (op :: rest) a (w.alloc (.cells c ty)):=by
 refine wpList_plain hgd fun K hK=>?_;unfold Oper.wp execOp;simp only[ho,hx,hy,run_storeAt_new w ty c c' hi hc h1,Sem.run_bind,Sem.run_pure,Result.andThen_ok];exact hK _ _ h
def Z5 (n:Z8)(sa:zA)(sc:Nat):ZV:=(n.cells sa sc).toArray
def Zh:Z8:=⟨0,0,0,0,0,0,0,0,0,0,0,0,0,0,0,0,0,0,[]⟩
section
variable (n:Z8)(sa:zA)(sc:Nat)
theorem Z17:(Z5 n sa sc).size=19:=rfl
theorem Zm:(Z5 n sa sc).all (·.oneCell')=true:=all_oneCell_toArray (n.cells_one sa sc)
theorem ZS:(Z5 n sa sc)[0]? = some (.int .i64 n.house):=rfl
theorem X9:(Z5 n sa sc)[1]? = some (.int .i64 n.num):=rfl
theorem XZ:(Z5 n sa sc)[2]? = some (.int .i64 n.clock):=rfl
theorem QP:(Z5 n sa sc)[3]? = some (.int .i64 n.day):=rfl
theorem XJ:(Z5 n sa sc)[4]? = some (.int .i64 n.kind):=rfl
theorem QO:(Z5 n sa sc)[5]? = some (.int .i64 n.stone):=rfl
theorem QN:(Z5 n sa sc)[6]? = some (.int .i64 n.heap):=rfl
theorem QM:(Z5 n sa sc)[7]? = some (.int .i64 n.turns):=rfl
theorem Vp:(Z5 n sa sc)[8]? = some (.int .i64 n.hardLo):=rfl
theorem Vn:(Z5 n sa sc)[9]? = some (.int .i64 n.hardHi):=rfl
theorem Qi:(Z5 n sa sc)[10]? = some (.int .i64 n.diffLo):=rfl
theorem Qh:(Z5 n sa sc)[11]? = some (.int .i64 n.diffHi):=rfl
theorem JS:(Z5 n sa sc)[12]? = some (.int .i64 n.a):=rfl
theorem JR:(Z5 n sa sc)[13]? = some (.int .i64 n.b):=rfl
theorem JQ:(Z5 n sa sc)[14]? = some (.int .i64 n.ring):=rfl
theorem XQ:(Z5 n sa sc)[15]? = some (.slice sa n.strokes.length sc):=rfl
theorem J9:(Z5 n sa sc)[16]? = some (.int .i64 n.refH):=rfl
theorem J8:(Z5 n sa sc)[17]? = some (.int .i64 n.refN):=rfl
theorem Jt:(Z5 n sa sc)[18]? = some (.int .i64 n.fix):=rfl
theorem Z3T (x:Int):(Z5 n sa sc).setIfInBounds 0 (.int .i64 x)=Z5 { n with house:=x } sa sc:=rfl
theorem Z3S (x:Int):(Z5 n sa sc).setIfInBounds 1 (.int .i64 x)=Z5 { n with num:=x } sa sc:=rfl
theorem Z3R (x:Int):(Z5 n sa sc).setIfInBounds 2 (.int .i64 x)=Z5 { n with clock:=x } sa sc:=rfl
theorem Z3Q (x:Int):(Z5 n sa sc).setIfInBounds 3 (.int .i64 x)=Z5 { n with day:=x } sa sc:=rfl
theorem Z3P (x:Int):(Z5 n sa sc).setIfInBounds 4 (.int .i64 x)=Z5 { n with kind:=x } sa sc:=rfl
theorem Z3O (x:Int):(Z5 n sa sc).setIfInBounds 5 (.int .i64 x)=Z5 { n with stone:=x } sa sc:=rfl
theorem Z3N (x:Int):(Z5 n sa sc).setIfInBounds 6 (.int .i64 x)=Z5 { n with heap:=x } sa sc:=rfl
theorem Z3M (x:Int):(Z5 n sa sc).setIfInBounds 7 (.int .i64 x)=Z5 { n with turns:=x } sa sc:=rfl
theorem Z3L (x:Int):(Z5 n sa sc).setIfInBounds 8 (.int .i64 x)=Z5 { n with hardLo:=x } sa sc:=rfl
theorem Z3K (x:Int):(Z5 n sa sc).setIfInBounds 9 (.int .i64 x)=Z5 { n with hardHi:=x } sa sc:=rfl
theorem Z2h (x:Int):(Z5 n sa sc).setIfInBounds 10 (.int .i64 x)=Z5 { n with diffLo:=x } sa sc:=rfl
theorem Z2g (x:Int):(Z5 n sa sc).setIfInBounds 11 (.int .i64 x)=Z5 { n with diffHi:=x } sa sc:=rfl
theorem Z2f (x:Int):(Z5 n sa sc).setIfInBounds 12 (.int .i64 x)=Z5 { n with a:=x } sa sc:=rfl
theorem Z2e (x:Int):(Z5 n sa sc).setIfInBounds 13 (.int .i64 x)=Z5 { n with b:=x } sa sc:=rfl
theorem Z2d (x:Int):(Z5 n sa sc).setIfInBounds 14 (.int .i64 x)=Z5 { n with ring:=x } sa sc:=rfl
theorem Z2c:(Z5 n sa sc).setIfInBounds 15 (.slice none 0 0)=Z5 { n with strokes:=[] } none 0:=rfl
theorem Z2b (x:Int):(Z5 n sa sc).setIfInBounds 16 (.int .i64 x)=Z5 { n with refH:=x } sa sc:=rfl
theorem Z2a (x:Int):(Z5 n sa sc).setIfInBounds 17 (.int .i64 x)=Z5 { n with refN:=x } sa sc:=rfl
theorem Z29 (x:Int):(Z5 n sa sc).setIfInBounds 18 (.int .i64 x)=Z5 { n with fix:=x } sa sc:=rfl
end
theorem YI:Z5 Zh none 0 = #[.int .i64 0,.int .i64 0,.int .i64 0,.int .i64 0,.int .i64 0,.int .i64 0,.int .i64 0,.int .i64 0,.int .i64 0,.int .i64 0,.int .i64 0,.int .i64 0,.int .i64 0,.int .i64 0,.int .i64 0,.slice none 0 0,.int .i64 0,.int .i64 0,.int .i64 0]:=rfl
section
variable {P:Program}{ops:Array Oper}{rest:List Oper}{op:Oper}{a:Act}{Q:Exit->Act->World->Prop}
theorem Zr (w:World)(hgd:op.guard=none)(ty:TypeId)(x y:Operand)(ho:op.op = .store ty x y)(p:Nat)(hp:w.heap.size=p)
  (c c':ZV) (hx:a.eval x = .pointer (some ⟨p,0,none⟩)) (hy:a.eval y = .agg c') (hi:(P.info? ty).map (·.size)=some c'.size) (hc:c.size=c'.size) (h1:c'.all (·.oneCell')=true)
  (h:wpList P ops Q rest (a.put op.dst undef) (w.alloc (.cells c' ty))):wpList P ops Q (op :: rest) a (w.alloc (.cells c ty)):=by
 subst hp;exact Uv w hgd ty x y ho c c' hx hy hi hc h1 h
theorem Zv (w:World)(o:Obj)(p:Nat)(h:w.heap.size=p):(w.alloc o).heap[p]? = some o:=by subst h;exact heap_alloc_last w o
theorem Z9 (w:World)(o:Obj):(w.alloc o).heap[w.heap.size]? = some o:=heap_alloc_last w o
theorem Zb (w:World)(o:Obj)(p:Nat)(x:Obj)(h:w.heap[p]? = some x):(w.alloc o).heap[p]? = some x:=by
 have hp:=(Array.getElem?_eq_some_iff.1 h).1;rw[<-h];simp only[World.alloc,Array.getElem?_push];rw[if_neg (by omega)]
end
theorem zI: ∀(m:Z8) (a:zA) (c:Nat),(zq.info? 47).map (·.size)=some (Z5 m a c).size:=fun m a c=>by kernel_rfl
theorem zc {W:World}{p:Nat}{n:Z8}{sa:zA}{sc:Nat}(h:W.heap[p]? = some (.cells (Z5 n sa sc) 47))(j:Nat)(v:Value)(hv:(n.cells sa sc)[j]? = some v):W.cell? ⟨p,j,none⟩=some v:=by
 simp only[World.cell?,h];simpa [Z5] using hv
theorem zY {ops:Array Oper}{S:World->Prop}{o:Oper}{a:Act}{x:Operand}{n:Z8}{sa:zA}{sc:Nat}(b:Nat)(hS : ∀w,S w->w.heap[b]? = some (.cells (Z5 n sa sc) 47))(hw:Region.wanted o (yielded ops a.tmps)=true:=by kernel_rfl)
  (ho:o.op = .load 47 x:=by exact rfl) (hx:a.eval x = .pointer (some ⟨b,0,none⟩):=by exact rfl):YieldsIf zq ops S o (.agg (Z5 n sa sc)) a:=
 .inl ⟨hw,fun w hw'=>by
  unfold execOp
  simp only[ho,hx,Instr.loadAt,Instr.sureAddr,Sem.run_bind,Sem.run_pure,Result.andThen_ok,run_loadVar_row w b 47 47 (Z5 n sa sc) (0,0) _ (hS w hw') Tryz.underlying47 rfl (zI _ _ _)]⟩
section
variable {ops:Array Oper}{rest:List Oper}{o:Oper}{a:Act}{w:World}{Q:Exit->Act->World->Prop}{n m:Z8}{sa ta:zA}{sc tc:Nat}{x y:Operand}
theorem zL (g:Nat)(hg:w.heap[g]? = some (.cells (Z5 n sa sc) 47))(h:wpList zq ops Q rest (a.put o.dst (.agg (Z5 n sa sc))) w)
  (hgd:o.guard=none:=by exact rfl) (ho:o.op = .load 47 x:=by exact rfl) (hx:a.eval x = .pointer (some ⟨g,0,none⟩):=by exact rfl):wpList zq ops Q (o :: rest) a w:=
 wpList_plain hgd fun _ hK=>wp_load_row 47 x ho g hx 47 (Z5 n sa sc) (0,0) _ hg Tryz.underlying47 rfl (zI _ _ _) (hK _ _ h)
theorem zG (g:Nat)(hg:w.heap[g]? = some (.cells (Z5 n sa sc) 47))(h:wpList zq ops Q rest (a.put o.dst (.agg (Z5 n sa sc))) w)
  (hw:Region.wanted o (yielded ops a.tmps)=true:=by kernel_rfl) (ho:o.op = .load 47 x:=by exact rfl) (hx:a.eval x = .pointer (some ⟨g,0,none⟩):=by exact rfl):wpList zq ops Q (o :: rest) a w:=
 wpList_step fun _ hK=>by rw[if_pos hw];exact wp_load_row 47 x ho g hx 47 (Z5 n sa sc) (0,0) _ hg Tryz.underlying47 rfl (zI _ _ _) (hK _ _ h)
theorem zN (p:Nat)(c':ZV)(hg:w.heap[p]? = some (.cells (Z5 n sa sc) 47))(h:wpList zq ops Q rest (a.put o.dst undef) (w.setRow p c'))
  (hgd:o.guard=none:=by exact rfl) (ho:o.op = .store 47 x y:=by exact rfl) (hx:a.eval x = .pointer (some ⟨p,0,none⟩):=by exact rfl) (hy:a.eval y = .agg c':=by exact rfl)
  (hi:(zq.info? 47).map (·.size)=some c'.size:=by exact zI _ _ _) (hc:(Z5 n sa sc).size=c'.size:=by exact rfl) (h1:c'.all (·.oneCell')=true:=by exact Zm _ _ _):wpList zq ops Q (o :: rest) a w:=by
 refine wpList_plain hgd fun K hK=>?_;unfold Oper.wp execOp;simp only[ho,hx,hy,Instr.storeAt,Instr.sureAddr,Sem.run_bind,Sem.run_pure,Result.andThen_ok,run_storeVar_row w p 47 47 (Z5 n sa sc) c' hg hi hc h1];exact hK _ _ h
theorem zP (w:World)(p:Nat){c:ZV}(c':ZV)(h:wpList zq ops Q rest (a.put o.dst undef) (w.alloc (.cells c' 47)))
  (hgd:o.guard=none:=by exact rfl) (ho:o.op = .store 47 x y:=by exact rfl) (hp:w.heap.size=p:=by exact rfl) (hx:a.eval x = .pointer (some ⟨p,0,none⟩):=by exact rfl) (hy:a.eval y = .agg c':=by exact rfl)
  (hi:(zq.info? 47).map (·.size)=some c'.size:=by exact zI _ _ _) (hc:c.size=c'.size:=by exact rfl) (h1:c'.all (·.oneCell')=true:=by exact Zm _ _ _):wpList zq ops Q (o :: rest) a (w.alloc (.cells c 47)):=by
 subst hp;exact Uv w hgd 47 x y ho c c' hx hy hi hc h1 h
end
theorem UF:(zq.info? 5).map (fun i=>(i.zero,i.size,i.bytes))=some (some (.int .u8 0),1,1):=by kernel_rfl
def Qv (l:zU):Nat->Int
 | 0=>1
 | k+1=>(Qv l k+(k+1) * (l[k]?.getD 0).toNat) % 65521
def chk (l:zU):Nat:=(Qv l l.length).toNat
theorem Z4u (l:zU)(k:Nat):0<=Qv l k/\Qv l k < 65521:=by
 cases k with
 | zero=>simp[Qv]
 | succ k=>simp only[Qv];omega
theorem Z8H (l:zU):(chk l:Int)=Qv l l.length:=by
 have:=Z4u l l.length;unfold chk;omega
theorem Zce (l:zU):chk l < 65521:=by
 have:=Z4u l l.length;unfold chk;omega
def two (n:Nat):zU:=[UInt8.ofNat n,UInt8.ofNat (n / 256)]
theorem zo (l:zU)(k:Nat):((l[k]?.getD 0).toNat:Int) < 256:=by have:=(l[k]?.getD 0).toNat_lt;omega
theorem Zcd {l:zU}{k n:Nat}(hn:n<=140737488355328)(hlt:k < n):0<=((k:Int)+1) * ((l[k]?.getD 0).toNat:Int)/\((k:Int)+1) * ((l[k]?.getD 0).toNat:Int)<=140737488355328 * 256:=by
 have hB:=zo l k;exact⟨Int.mul_nonneg (by omega) (by omega),Int.mul_le_mul (by omega) (by omega) (by omega) (by omega)⟩
theorem Zak (a:zA)(n c:Nat)(l:zU)(w:World)(hn:n<=140737488355328)(hr:Yg w a n c l):
  Calls zq 162 #[.slice a n c] w fun e w'=>e = .returned (.int .i64 (chk l))/\w=w':=by
 have hle:=hr.len;go_enter Tryz.func162,Tryz.ntmps162;go_wp2;go_loop [3,4,5,8] (fun s _ _ i=>∃k:Nat,k<=n/\i = .int .i64 k/\s = .int .i64 (Qv l k)) (fun _ _ _ i=>n - (intOf i).toNat)
 case atStart=>exact⟨0,Nat.zero_le _,rfl,rfl⟩
 case round=>
  obtain⟨k,hk,rfl,rfl⟩:=hrel;by_cases hlt:k < n
  ·obtain⟨b,off,rfl,hc⟩:=hr.at (by omega);have hb:=Z4u l k;have hcell:=hc k hlt;have hB:=zo l k;obtain⟨hM,hM2⟩:=Zcd (l:=l) hn hlt;clear hc hr hle;go_wp2;go_round
   case rel=>exact⟨k+1,by omega,by go_num,by simp[Qv]⟩
   case measure=>simp[intOf];omega
  ·clear hle;go_wp2;go_ret;have:k=l.length:=by rw[hr.len];omega
   subst this;exact⟨by rw[Z8H];rfl,rfl⟩
theorem ZaP (n:Nat):(two n).map Zs=[.int .u8 ((n:Int) % 256),.int .u8 ((n:Int) / 256 % 256)]:=by
 simp only[two,Zs,List.map_cons,List.map_nil,UInt8.toNat_ofNat'];simp
theorem Zcw (n:Nat)(w:World)(hn:n < 65536):(w.alloc (Obj.cells #[Value.int IntKind.u8 ((n:Int) % 256),Value.int IntKind.u8 ((n:Int) / 256)] 5)).ownsRow w.heap.size 5 1 (.slice (some ⟨w.heap.size,0,none⟩) 2 2) 2 ((two n).map Zs):=by
 have h:=World.ownsRow_lit (base:=w.heap.size) (e:=5) (size:=1) w #[Value.int IntKind.u8 ((n:Int) % 256),Value.int IntKind.u8 ((n:Int) / 256)] 2 (Nat.le_refl _) (by unfold maxLen;omega) rfl;rw[ZaP,show(n:Int) / 256 % 256=(n:Int) / 256 by omega];exact h
theorem Z5H (n:Nat)(w:World)(hn:n < 65536):
  Calls zq 161 #[.int .i64 n] w fun e w' => ∃a c,e = .returned (.slice a 2 c)/\w'.ownsRow w.heap.size 5 1 (.slice a 2 c) 2 ((two n).map Zs)/\Below w.heap.size w w':=by
 go_enter Tryz.func161,Tryz.ntmps161;go_wp2;go_ret;exact⟨_,_,rfl,Zcw n w hn,zB _ _⟩
theorem ZbA (n:Nat)(w:World)(hn:n<=140737488355328):
  Calls zq 198 #[.slice none 0 0,.int .i64 n] w fun e w' => ∃a c,e = .returned (.slice a 0 c)/\w'.ownsRow w.heap.size 5 1 (.slice a 0 c) 0 []/\Below w.heap.size w w':=by
 obtain⟨i,hi,hz0,hz1,hz2⟩:=info_parts UF;by_cases h0:n=0
 ·subst h0;go_enter Tryz.func198,Tryz.ntmps198;go_wp2;go_ret;exact⟨_,_,rfl,World.ownsRow_nil _ _ _ _,Below.refl _ _⟩
 ·have hG:n<=grownCap w n 0 5:=grownCap_ge w _ _ _;have hGm:grownCap w n 0 5<=maxLen:=grownCap_le_maxLen w n 0 5 (by unfold maxLen;omega);have hrz : ∀ty,(Builtin.append_ #[41,3] ty #[.slice none 0 0,.int .i64 (n:Int)]).run zq w =
    .ok (.slice (some ⟨w.heap.size,0,none⟩) n (grownCap w n 0 5)) (w.drew.alloc (.cells (Builtin.zeroCells (Value.int .u8 0).cells n ++ Builtin.zeroCells (Value.int .u8 0).cells (grownCap w n 0 5 - n)) 5)):=fun ty=>by
   have h:=Lib.run_append_grow_zeros w 41 3 ty 5 i (.int .u8 0) .i64 .i64 Tryz.underlying41 Tryz.underlying3 hi hz0 none 0 0 [] (run_firstCells_none (P:=zq) (w:=w.drew) i.size 0 0 0) n (by omega) (by omega) (by omega) (by omega) (by rw[hz2];omega)
    (by rw[hz2];exact growslice_fits (by omega) (by omega))
   simpa using h
  have hpos:0 < (n:Int):=by omega
  obtain⟨G,hG'⟩ : ∃G,G=grownCap w n 0 5:=⟨_,rfl⟩;rw[<-hG']at hrz hG hGm;have hsz:(Builtin.zeroCells (Value.int .u8 0).cells n ++ Builtin.zeroCells (Value.int .u8 0).cells (G - n)).size=G * 1:=by
   simp only[Array.size_append,size_zeroCells,Value.cells];simp;omega
  obtain⟨Z,hZ⟩ : ∃Z,Z=Builtin.zeroCells (Value.int .u8 0).cells n ++ Builtin.zeroCells (Value.int .u8 0).cells (G - n):=⟨_,rfl⟩;rw[<-hZ]at hrz hsz;have HG:=zH hG';clear hG';have HZ:=zH hZ;clear hZ;have HS:=zH hsz;clear hsz;clear hi hz0 hz1 hz2;unfold maxLen at hGm;go_enter Tryz.func198,Tryz.ntmps198;go_wp2_with (at_builtin;refine Lib.wpList_append_run _ rfl _ _ _ _ rfl _ _ rfl rfl _ _ (hrz _) ?_);go_ret;exact⟨_,_,rfl,World.ownsRow_made w.drew Z G (Nat.le_refl _) (by unfold maxLen;omega) HS.out,((Below.refl _ _).drew).alloc (Nat.le_refl _) _⟩
theorem ZcX {x y:UInt8}(h:x≠y):(((x.toNat:Nat):Int) != ((y.toNat:Nat):Int))=true:=by
 rw[bne_iff_ne];intro e;exact h (UInt8.toNat_inj.1 (by omega))
theorem ZcY {x y:UInt8}(h:x=y):(((x.toNat:Nat):Int) != ((y.toNat:Nat):Int))=false:=by
 subst h;simp
theorem Z77 {l m:zU}(hl:l.length=m.length)(h : ∀j,j < l.length->l[j]?.getD 0=m[j]?.getD 0):l=m:=by
 apply List.ext_getElem hl;intro i h1 h2;have:=h i h1;simpa [List.getElem?_eq_getElem h1,List.getElem?_eq_getElem h2] using this
theorem Z2r (a:zA)(n c:Nat)(l:zU)(a':zA)(n' c':Nat)(l':zU)(w:World)(hr:Yg w a n c l)(hr':Yg w a' n' c' l'):
  Calls zq 116 #[.slice a n c,.slice a' n' c'] w fun e w' => ∃b:Bool,e = .returned (.bool b)/\(b=true↔l=l') /\ ∃q,w'=w.drewN q:=by
 have hm:=ZW.maxn hr;have hl:=zH hr.len;have hl':=zH hr'.len;by_cases hnn:n=n'
 ·subst hnn;go_enter Tryz.func116,Tryz.ntmps116;go_wp2;go_loopw [5,13] (fun _ i wr=>∃k:Nat,k<=n/\i = .int .i64 k/\(∀j,j < k->l[j]?.getD 0=l'[j]?.getD 0) /\ ∃q,wr=w.drewN q) (fun _ i _=>n - (intOf i).toNat)
  case atStart=>exact⟨0,Nat.zero_le _,rfl,fun j hj=>by omega,0,rfl⟩
  case round=>
   obtain⟨k,hk,rfl,hrl,q,rfl⟩:=hrel;have HR:=zH hrl;clear hrl;by_cases hlt:k < n
   ·obtain⟨b,off,rfl,hc⟩:=hr.at (by omega);obtain⟨b',off',rfl,hc'⟩:=hr'.at (by omega);have hx:=hc k hlt;have hx':=hc' k hlt;clear hc hc' hr hr';have hk64:(k:Int)<=9223372036854775807:=by omega
    by_cases he:l[k]?.getD 0=l'[k]?.getD 0
    ·have hb:=ZcY he;have HE:=zH he;clear he;go_wp2;go_quiet (fail);go_wp2;go_roundw
     case rel=>exact⟨k+1,by omega,by go_num,fun j hj=>by
      rcases Nat.lt_succ_iff_lt_or_eq.1 hj with h | h
      ·exact HR.out j h
      ·rw[h];exact HE.out,_,rfl⟩
     case measure=>simp[intOf];omega
    ·have hb:=ZcX he;have HE:=zH he;clear he;go_wp2;go_quiet (fail);go_wp2;go_ret;exact⟨false,rfl,⟨fun h=>by simp at h,fun h=>absurd (by rw[h]) HE.out⟩,_,World.drewN_drewN _ _ _⟩
   ·go_wp2;go_ret;have hkn:k=n:=by omega
    exact⟨true,rfl,⟨fun _=>Z77 (by rw[hl.out,hl'.out]) (fun j hj=>HR.out j (by rw[hl.out]at hj;omega)),fun _=>rfl⟩,_,rfl⟩
 ·have hb:(((n:Nat):Int) != ((n':Nat):Int))=true:=by rw[bne_iff_ne];omega
  have hm':=ZW.maxn hr';have HN:=zH hnn;clear hnn;go_enter Tryz.func116,Tryz.ntmps116;go_wp2;go_ret;exact⟨false,rfl,⟨fun h=>by simp at h,fun h=>absurd (by rw[<-hl.out,<-hl'.out,h]) HN.out⟩,0,rfl⟩
theorem Z0D (w:World){ops:Array Oper}{rest:List Oper}{o:Oper}{a:Act}{Q:Exit->Act->World->Prop}(hgd:o.guard=none)(s x:Operand)
  (ho:o.op = .call { callee := .builtin .append,args := #[s,x],argTypes := #[41,41] }) (base:Nat)
  (sa:zA) (sn sc:Nat) (xs:zU) (hs:a.eval s = .slice sa sn sc) (hown:w.ownsRow base 5 1 (.slice sa sn sc) sn (xs.map Zs))
  (xa:zA) (m xc:Nat) (ys:zU) (hx:a.eval x = .slice xa m xc) (hrd:Yg w xa m xc ys) (hbytes:sn+m<=140737488355328) (hbase:base<=w.heap.size)
  (h : ∀a' c' w',w'.ownsRow base 5 1 (.slice a' (sn+m) c') (sn+m) ((xs ++ ys).map Zs)->w.grownBy w' (Value.ownBlock (.slice sa sn sc))->wpList zq ops Q rest (a.put o.dst (.slice a' (sn+m) c')) w'):
  wpList zq ops Q (o :: rest) a w:=by
 obtain⟨i,hi,hz0,hz1,hz2⟩:=info_parts UF;exact Ux w hgd s x 41 ho base 5 i (.int .u8 0) 1 1 Tryz.underlying41 hi hz0 hz1 hz2 rfl (by decide) sa sn sc _ hs hown xa m xc _ hx hrd (Z2w _) (by unfold maxLen;omega) (by omega) hbase
  (fun a' c' w' h1 h2=>h a' c' w' (by rw[List.map_append];exact h1) h2)
theorem Z5y (a:zA)(n c:Nat)(l:zU)(w:World)(hn:n<=140737488355328)(hr:Yg w a n c l):
  Calls zq 102 #[.slice a n c] w fun e w' => ∃a' c',e = .returned (.slice a' n c')/\w'.ownsRow w.heap.size 5 1 (.slice a' n c') n (l.map Zs)/\Below w.heap.size w w':=by
 have hnc:=hr.le;by_cases ha:a=none
 ·subst ha;have hc:n=0/\c=0:=by
   rcases hr.2.2.2 with h | ⟨b,off,h,_⟩
   ·omega
   ·cases h
  obtain⟨rfl,rfl⟩:=hc;have hl:l=[]:=List.eq_nil_of_length_eq_zero hr.len;subst hl;clear hr hnc;have heq : ∀w,(binOp .eql 41 (.slice none 0 0) (.slice none 0 0)).run zq w = .ok (.bool true) w:=fun w=>Lib.run_eql_slice_nil (P:=zq) w 41 5 none 0 0 0 0 Tryz.underlying41;go_enter Tryz.func102,Tryz.ntmps102;go_wp2;go_ret;exact⟨_,_,rfl,World.ownsRow_nil _ _ _ _,Below.refl _ _⟩
 ·obtain⟨ad,rfl⟩:=Option.ne_none_iff_exists'.1 ha;clear ha;have heq : ∀w,(binOp .eql 41 (.slice (some ad) n c) (.slice none 0 0)).run zq w = .ok (.bool false) w:=fun w=>Lib.run_eql_slice_nil (P:=zq) w 41 5 (some ad) n c 0 0 Tryz.underlying41;have hown:=World.ownsRow_lit (base:=w.heap.size) (e:=5) (size:=1) w #[] 0 (Nat.le_refl _) (by unfold maxLen;omega) rfl;have hr1:=hr.below (zB w (Obj.cells #[] 5));go_enter Tryz.func102,Tryz.ntmps102;go_wp2_with (at_builtin;refine Z0D _ rfl _ _ rfl w.heap.size _ _ _ [] rfl hown _ _ _ l rfl hr1 (by omega) (by simp) ?_);intro a' c' w' h1 h2;go_wp2;go_ret;exact⟨_,_,rfl,h1,(zB _ _).grown h2 (by simp) (fun k hk=>by simp[Value.ownBlock]at hk;omega)⟩
def JC (x lo hi:Int):Bool:=decide (lo<=x) && decide (x<=hi)
theorem Yt {x lo hi:Int}: JC x lo hi=true↔lo<=x/\x<=hi:=by simp[JC]
theorem Z5o {x lo hi:Int}: JC x lo hi=false ↔ ¬(lo<=x/\x<=hi):=by rw[<-Yt];simp
theorem Yf (x lo hi:Int)(w:World):Calls zq 164 #[.int .i64 x,.int .i64 lo,.int .i64 hi] w fun e w'=>e = .returned (.bool (JC x lo hi))/\w=w':=by
 by_cases h1:lo<=x
 ·have t1:decide (lo<=x)=true:=by simp;omega
  by_cases h2:x<=hi
  focus
   have t2:decide (x<=hi)=true:=by simp;omega
   have t3:JC x lo hi=true:=Yt.2 ⟨h1,h2⟩
  rotate_left
  focus
   have t2:decide (x<=hi)=false:=by simp;omega
   have t3:JC x lo hi=false:=Z5o.2 (fun h=>h2 h.2)
  all_goals
   rw[t3];clear t3;go_enter Tryz.func164,Tryz.ntmps164;go_wp2;go_ret;exact⟨rfl,rfl⟩
 ·have t1:decide (lo<=x)=false:=by simp;omega
  have t3:JC x lo hi=false:=Z5o.2 (fun h=>h1 h.1);rw[t3];clear t3;go_enter Tryz.func164,Tryz.ntmps164;go_wp2;go_ret;exact⟨rfl,rfl⟩
def ZF (h m:Int):Bool:=JC h 1 8 && JC m 1 400
theorem Jg (h m:Int)(w:World):Calls zq 166 #[.agg #[.int .i64 h,.int .i64 m]] w fun e w'=>e = .returned (.bool (ZF h m))/\Below w.heap.size w w':=by
 have hb:=zB w (.cells #[.int .i64 h,.int .i64 m] 45);unfold ZF;cases h1:JC h 1 8
 ·go_enter Tryz.func166,Tryz.ntmps166;go_wp2_with fail;refine(Yf h 1 8 _).mono ?_;rintro e w' ⟨rfl,rfl⟩;rw[h1];go_wp2;go_ret;exact⟨rfl,hb⟩
 ·go_enter Tryz.func166,Tryz.ntmps166;go_wp2_with fail;refine(Yf h 1 8 _).mono ?_;rintro e w' ⟨rfl,rfl⟩;rw[h1];go_wp2_with fail;refine(Yf m 1 400 _).mono ?_;rintro e w' ⟨rfl,rfl⟩;go_wp2;go_ret;exact⟨rfl,hb⟩
structure Yh where
 rings:Int
 sectors:Int
 wide:Int
def Yh.val (f:Yh):Value := .agg #[.int .i64 f.rings,.int .i64 f.sectors,.int .i64 f.wide]
def Yh.valid (f:Yh):Bool:=JC f.rings 1 24 && (JC f.sectors 2 96 && JC f.wide 1 f.sectors)
theorem Z53 (r s d:Int)(w:World):Calls zq 113 #[.agg #[.int .i64 r,.int .i64 s,.int .i64 d]] w fun e w'=>e = .returned (.bool (Yh.valid ⟨r,s,d⟩))/\Below w.heap.size w w':=by
 have hb:=zB w (.cells #[.int .i64 r,.int .i64 s,.int .i64 d] 174);unfold Yh.valid;cases h1:JC r 1 24
 ·go_enter Tryz.func113,Tryz.ntmps113;go_wp2_with fail;refine(Yf r 1 24 _).mono ?_;rintro e w' ⟨rfl,rfl⟩;rw[h1];go_wp2;go_ret;exact⟨rfl,hb⟩
 ·cases h2:JC s 2 96
  ·go_enter Tryz.func113,Tryz.ntmps113;go_wp2_with fail;refine(Yf r 1 24 _).mono ?_;rintro e w' ⟨rfl,rfl⟩;rw[h1];go_wp2_with fail;refine(Yf s 2 96 _).mono ?_;rintro e w' ⟨rfl,rfl⟩;rw[h2];go_wp2;go_ret;exact⟨rfl,hb⟩
  ·go_enter Tryz.func113,Tryz.ntmps113;go_wp2_with fail;refine(Yf r 1 24 _).mono ?_;rintro e w' ⟨rfl,rfl⟩;rw[h1];go_wp2_with fail;refine(Yf s 2 96 _).mono ?_;rintro e w' ⟨rfl,rfl⟩;rw[h2];go_wp2_with fail;refine(Yf d 1 s _).mono ?_;rintro e w' ⟨rfl,rfl⟩;go_wp2;go_ret;exact⟨rfl,hb⟩
def Jr (a b lo hi:Int):Bool:=decide (lo<=a) && (decide (a<=b) && decide (b<=hi))
theorem Z20 (a b lo hi:Int)(w:World):Calls zq 200 #[.agg #[.int .i64 a,.int .i64 b],.int .i64 lo,.int .i64 hi] w fun e w'=>e = .returned (.bool (Jr a b lo hi))/\Below w.heap.size w w':=by
 have hb:=zB w (.cells #[.int .i64 a,.int .i64 b] 43);unfold Jr;cases h1:decide (lo<=a)
 ·go_enter Tryz.func200,Tryz.ntmps200;go_wp2;go_ret;exact⟨rfl,hb⟩
 ·cases h2:decide (a<=b)
  ·go_enter Tryz.func200,Tryz.ntmps200;go_wp2;go_ret;exact⟨rfl,hb⟩
  ·go_enter Tryz.func200,Tryz.ntmps200;go_wp2;go_ret;exact⟨rfl,hb⟩
theorem Z7G (r s d x:Int)(w:World)(hr:1<=r/\r<=24)(hs:2<=s/\s<=96):Calls zq 201 #[.agg #[.int .i64 r,.int .i64 s,.int .i64 d],.int .i64 x] w fun e w'=>e = .returned (.bool (JC x 0 (r * s - 1)))/\Below w.heap.size w w':=by
 have hb:=zB w (.cells #[.int .i64 r,.int .i64 s,.int .i64 d] 174);have h1:0<=r * s:=Int.mul_nonneg (by omega) (by omega);have h2:r * s<=24 * 96:=Int.mul_le_mul hr.2 hs.2 (by omega) (by omega);go_enter Tryz.func201,Tryz.ntmps201;go_wp2_with fail;refine(Yf x 0 (r * s - 1) _).mono ?_;rintro e w' ⟨rfl,rfl⟩;go_wp2;go_ret;exact⟨rfl,hb⟩
section
attribute [local go_sem] ZS X9
theorem Yc (n:Z8)(sa:zA)(sc:Nat)(w:World):Calls zq 167 #[.agg (Z5 n sa sc)] w fun e w'=>e = .returned (.agg #[.int .i64 n.house,.int .i64 n.num])/\Below w.heap.size w w':=by
 have hb:=zB w (.cells (Z5 n sa sc) 47);go_enter Tryz.func167,Tryz.ntmps167;go_wp2_with fail;go_returns;exact⟨rfl,hb.alloc hb.size _⟩
end
abbrev zF (f:Yh)(t:TypeId):Obj := .cells #[.int .i64 f.rings,.int .i64 f.sectors,.int .i64 f.wide] t
theorem zr {fn:Func}{p u:Tmp}{R:Ending->World->Prop}{a:Act}{w:World}{g:Nat}{n:Z8}{sa:zA}{sc:Nat}(hg:w.heap[g]? = some (.cells (Z5 n sa sc) 47))(hR:R (.returned (.tuple #[.agg (Z5 n sa sc),a.tmps.getD u undef])) w)
  (h:fn.results = #[.cell p 47,.tmp u]:=by exact rfl) (hp:a.tmps.getD p undef = .pointer (some ⟨g,0,none⟩):=by exact rfl) (hd:a.defers=[]:=by exact rfl):bodyPost zq fn R .ret a w:=by
 refine bodyPost_ret ?_ hd hR;rw[results_cell_tmp h,hp];simp[asAddr,run_loadVar_row w g 47 47 (Z5 n sa sc) (0,0) _ hg Tryz.underlying47 rfl (zI _ _ _)]
def JN (m:Int)(l:List Int):Prop := ∀i,i < l.length->JC (l[i]?.getD 0) 0 m=true/\(0 < i->l[i-1]?.getD 0<=l[i]?.getD 0)
instance (m:Int) (l:List Int):Decidable (JN m l):=by unfold JN;infer_instance
def XN (m:Int)(l:List Int):Bool:=decide (JN m l) && JC l.length 1 200
theorem Z67 (r s d:Int)(a:zA)(n c:Nat)(l:List Int)(w:World)(hr:XU w a n c l)(hs:2<=s/\s<=96)(hd:1<=d/\d<=s):
  Calls zq 202 #[.agg #[.int .i64 r,.int .i64 s,.int .i64 d],.slice a n c] w fun e w'=>e = .returned (.bool (XN (s - d) l))/\Below w.heap.size w w':=by
 have hb:=zB w (.cells #[.int .i64 r,.int .i64 s,.int .i64 d] 174);have hm:=hr.maxn;have hl:=zH hr.len;have hr1:=hr.below hb;have HB:=zH hb;clear hb hr;have HF:Hid (¬JN (s - d) l->XN (s - d) l=false):=fun h=>by simp[XN,h]
 have HT:Hid (JN (s - d) l->XN (s - d) l=JC n 1 200):=fun h=>by simp[XN,h,hl.out]
 generalize XN (s - d) l=R at *;go_enter Tryz.func202,Tryz.ntmps202;go_wp2_with fail;go_loop [5,6,9] (fun _ _ i=>∃k:Nat,k<=n/\i = .int .i64 k/\Hid (∀i,i < k->JC (l[i]?.getD 0) 0 (s - d)=true/\(0 < i->l[i-1]?.getD 0<=l[i]?.getD 0))) (fun _ _ i=>n - (intOf i).toNat)
 case atStart=>exact⟨0,Nat.zero_le _,rfl,zH (fun j hj=>by omega)⟩
 case round=>
  obtain⟨k,hk,rfl,HR⟩:=hrel;by_cases hlt:k < n
  ·obtain⟨b,off,rfl,hc⟩:=hr1.at (by omega);have e1:=hc k hlt;have e2:0 < k->_:=fun h=>hc (k - 1) (by omega);have E2:=zH e2;clear e2;clear hc hr1;cases hin:JC (l[k]?.getD 0) 0 (s - d)
   ·have hno : ¬JN (s - d) l:=fun h=>by
     have:=(h k (by rw[hl.out];exact hlt)).1;rw[hin]at this;cases this
    have HN:=zH (HF.out hno);clear hno;go_wp2_with fail;refine(Yf _ _ _ _).mono ?_;rintro e w' ⟨rfl,rfl⟩;rw[hin];go_wp2;go_ret;rw[HN.out];exact⟨rfl,HB.out⟩
   ·by_cases h0:0 < k
    ·have q0:decide ((0:Int) < (k:Int))=true:=by simp;exact h0
     have e2:=E2.out h0;have ek:((k:Int) - 1)=((k - 1:Nat):Int):=by omega
     by_cases h1:l[k]?.getD 0 < l[k-1]?.getD 0
     ·have q1:decide (l[k]?.getD 0 < l[k-1]?.getD 0)=true:=by simp;exact h1
      have hno : ¬JN (s - d) l:=fun h=>by
       have:=(h k (by rw[hl.out];exact hlt)).2 h0;omega
      have HN:=zH (HF.out hno);clear hno;generalize l[k]?.getD 0=x at *;generalize l[k-1]?.getD 0=y at *;go_wp2_with fail;refine(Yf _ _ _ _).mono ?_;rintro e w' ⟨rfl,rfl⟩;rw[hin];go_wp2;go_ret;rw[HN.out];exact⟨rfl,HB.out⟩
     ·have q1:decide (l[k]?.getD 0 < l[k-1]?.getD 0)=false:=by simp;omega
      have HG:=zH (show JC (l[k]?.getD 0) 0 (s - d)=true/\(0 < k->l[k-1]?.getD 0<=l[k]?.getD 0)from⟨hin,fun _=>by omega⟩);generalize hx:l[k]?.getD 0=x at *;generalize hy:l[k-1]?.getD 0=y at *;have HX:=zH hx;clear hx;have HY:=zH hy;clear hy;go_wp2_with fail;refine(Yf _ _ _ _).mono ?_;rintro e w' ⟨rfl,rfl⟩;rw[hin];go_wp2;go_round
      case rel=>exact⟨k+1,by omega,by go_num,zH fun j hj=>by
       rcases Nat.lt_succ_iff_lt_or_eq.1 hj with h | h
       ·exact HR.out j h
       ·rw[h,HX.out,HY.out];exact HG.out⟩
      case measure=>simp[intOf];omega
    ·have q0:decide ((0:Int) < (k:Int))=false:=by simp;omega
     have HG:=zH (show JC (l[k]?.getD 0) 0 (s - d)=true/\(0 < k->l[k-1]?.getD 0<=l[k]?.getD 0)from⟨hin,fun h=>absurd h h0⟩);generalize hx:l[k]?.getD 0=x at *;have HX:=zH hx;clear hx;go_wp2_with fail;refine(Yf _ _ _ _).mono ?_;rintro e w' ⟨rfl,rfl⟩;rw[hin];go_wp2;go_round
     case rel=>exact⟨k+1,by omega,by go_num,zH fun j hj=>by
      rcases Nat.lt_succ_iff_lt_or_eq.1 hj with h | h
      ·exact HR.out j h
      ·rw[h,HX.out];exact HG.out⟩
     case measure=>simp[intOf];omega
  ·have hkn:k=n:=by omega
   subst hkn;have hyes:JN (s - d) l:=fun i hi=>HR.out i (by rw[hl.out]at hi;exact hi);have HY:=zH (HT.out hyes);clear hyes hr1;go_wp2_with fail;refine(Yf _ _ _ _).mono ?_;rintro e w' ⟨rfl,rfl⟩;go_wp2;go_ret;rw[HY.out];exact⟨rfl,HB.out⟩
theorem Zds {x y:Int}(h : ¬x=y):(x != y)=true:=by simp[h]
theorem Zdt {x y:Int}(h:x=y):(x != y)=false:=by simp[h]
theorem Z5p {l m:List Int}(hl:l.length=m.length)(h : ∀j,j < l.length->l[j]?.getD 0=m[j]?.getD 0):l=m:=by
 apply List.ext_getElem hl;intro i h1 h2;have:=h i h1;simpa [List.getElem?_eq_getElem h1,List.getElem?_eq_getElem h2] using this
theorem Z8x (a:zA)(n c:Nat)(l:List Int)(a':zA)(n' c':Nat)(l':List Int)(w:World)(hr:XU w a n c l)(hr':XU w a' n' c' l'):
  Calls zq 176 #[.slice a n c,.slice a' n' c'] w fun e w' => ∃b:Bool,e = .returned (.bool b)/\(b=true↔l=l') /\ ∃q,w'=w.drewN q:=by
 have hm:=XU.maxn hr;have hl:=zH hr.len;have hl':=zH hr'.len;by_cases hnn:n=n'
 ·subst hnn;go_enter Tryz.func176,Tryz.ntmps176;go_wp2;go_loopw [5,13] (fun _ i wr=>∃k:Nat,k<=n/\i = .int .i64 k/\(∀j,j < k->l[j]?.getD 0=l'[j]?.getD 0) /\ ∃q,wr=w.drewN q) (fun _ i _=>n - (intOf i).toNat)
  case atStart=>exact⟨0,Nat.zero_le _,rfl,fun j hj=>by omega,0,rfl⟩
  case round=>
   obtain⟨k,hk,rfl,hrl,q,rfl⟩:=hrel;have HR:=zH hrl;clear hrl;by_cases hlt:k < n
   ·obtain⟨b,off,rfl,hc⟩:=hr.at (by omega);obtain⟨b',off',rfl,hc'⟩:=hr'.at (by omega);have hx:=hc k hlt;have hx':=hc' k hlt;clear hc hc' hr hr';have hk64:(k:Int)<=9223372036854775807:=by omega
    by_cases he:l[k]?.getD 0=l'[k]?.getD 0
    ·have hb:=Zdt he;have HE:=zH he;clear he;go_wp2;go_quiet (fail);go_wp2;go_roundw
     case rel=>exact⟨k+1,by omega,by go_num,fun j hj=>by
      rcases Nat.lt_succ_iff_lt_or_eq.1 hj with h | h
      ·exact HR.out j h
      ·rw[h];exact HE.out,_,rfl⟩
     case measure=>simp[intOf];omega
    ·have hb:=Zds he;have HE:=zH he;clear he;go_wp2;go_quiet (fail);go_wp2;go_ret;exact⟨false,rfl,⟨fun h=>by simp at h,fun h=>absurd (by rw[h]) HE.out⟩,_,World.drewN_drewN _ _ _⟩
   ·go_wp2;go_ret;have hkn:k=n:=by omega
    exact⟨true,rfl,⟨fun _=>Z5p (by rw[hl.out,hl'.out]) (fun j hj=>HR.out j (by rw[hl.out]at hj;omega)),fun _=>rfl⟩,_,rfl⟩
 ·have hb:(((n:Nat):Int) != ((n':Nat):Int))=true:=by rw[bne_iff_ne];omega
  have hm':=XU.maxn hr';have HN:=zH hnn;clear hnn;go_enter Tryz.func176,Tryz.ntmps176;go_wp2;go_ret;exact⟨false,rfl,⟨fun h=>by simp at h,fun h=>absurd (by rw[<-hl.out,<-hl'.out,h]) HN.out⟩,0,rfl⟩
theorem Z5c:zq.plainKey 3=true:=by kernel_rfl
theorem UB (w:World)(d:Nat)(l m:List Int): ∀is:List Nat,(∀i∈is,i < l.length/\i < m.length)->
  (Op.eqItems (d+1) 3 (zq.cellsOf 3) (l.map Yq).toArray (m.map Yq).toArray is).run zq w = .ok (decide (∀i∈is,l[i]?.getD 0=m[i]?.getD 0)) w
 | [],_=>by simp[Op.eqItems]
 | i :: is,h=>by
  have hi:=h i (List.mem_cons_self ..)
  have hc:zq.cellsOf 3=1:=by kernel_rfl
  have ih:=UB w d l m is (fun j hj=>h j (List.mem_cons_of_mem _ hj))
  have p1:(part 3 (l.map Yq).toArray (i * 1)).run zq w = .ok (Yq (l[i]?.getD 0)) w:=run_part_plain w Z5c (by simp[List.getElem?_eq_getElem hi.1])
  have p2:(part 3 (m.map Yq).toArray (i * 1)).run zq w = .ok (Yq (m[i]?.getD 0)) w:=run_part_plain w Z5c (by simp[List.getElem?_eq_getElem hi.2])
  have p3:=run_equalIn_int w d 3 .i64 .i64 (l[i]?.getD 0) (m[i]?.getD 0) Tryz.underlying3
  rw[hc]at ih ⊢
  simp only[Op.eqItems,Sem.run_bind,p1,p2,Result.andThen_ok]
  rw[show Op.equalIn (d+1) 3 (Yq (l[i]?.getD 0)) (Yq (m[i]?.getD 0))=Op.equalIn (d+1) 3 (.int .i64 (l[i]?.getD 0)) (.int .i64 (m[i]?.getD 0))from rfl,p3]
  simp only[Result.andThen_ok]
  by_cases he:l[i]?.getD 0=m[i]?.getD 0
  ·simp[he,ih]
  ·simp[he]
theorem Z7J {l m:List Int}(hl:l.length=14)(hm:m.length=14):(∀i∈List.range 14,l[i]?.getD 0=m[i]?.getD 0)↔l=m:=by
 constructor
 ·intro h;refine Z5p (by omega) (fun j hj=>h j (List.mem_range.2 (by omega)))
 ·rintro rfl i _;rfl
theorem Z4I (w:World)(d:Nat)(l m:List Int)(hl:l.length=14)(hm:m.length=14):(Op.equalIn (d+2) 228 (.agg (l.map Yq).toArray) (.agg (m.map Yq).toArray)).run zq w = .ok (decide (l=m)) w:=by
 obtain⟨i,hi,_⟩ : ∃i,zq.info? 3=some i/\True:=by
  cases h:zq.info? 3 with
  | none=>exact absurd h (by
   have:(zq.info? 3).isSome=true:=by kernel_rfl
   intro h';rw[h']at this;cases this)
  | some i=>exact⟨i,rfl,trivial⟩
 rw[run_equalIn_array (P:=zq) w (d+1) (t:=228) (l.map Yq).toArray (m.map Yq).toArray Tryz.underlying228 hi,UB w d l m (List.range 14) (fun i hi=>by have:=List.mem_range.1 hi;omega)];congr 1;exact decide_eq_decide.2 (Z7J hl hm)
def Qy (n:Z8):List Int:=[n.house,n.num,n.clock,n.day,n.kind,n.stone,n.heap,n.turns,n.a,n.b,n.ring,n.refH,n.refN,n.fix]
def Z6V (n:Z8):ZV:=((Qy n).map Yq).toArray
theorem Z3B (x y:Z8)(w:World):(Op.equalIn 10000 228 (.agg (Z6V x)) (.agg (Z6V y))).run zq w = .ok (decide (Qy x=Qy y)) w:=by
 have h:=Z4I w 9998 (Qy x) (Qy y) rfl rfl;simp only[Nat.reduceAdd]at h;exact h
section
attribute [local go_sem] ZS X9 XZ QP XJ QO QN QM JS JR JQ J9 J8 Jt
theorem Z2N (n:Z8)(sa:zA)(sc:Nat)(w:World):Calls zq 175 #[.agg (Z5 n sa sc)] w fun e w'=>e = .returned (.agg (Z6V n))/\Below w.heap.size w w':=by
 have hb:=zB w (.cells (Z5 n sa sc) 47);go_enter Tryz.func175,Tryz.ntmps175;go_wp2_with fail;go_returns;exact⟨rfl,hb.alloc hb.size _⟩
end
def XI (x y:Z8):Bool:=decide (Qy x=Qy y) && (decide (x.hardLo=y.hardLo/\x.hardHi=y.hardHi) && (decide (x.diffLo=y.diffLo/\x.diffHi=y.diffHi) && decide (x.strokes=y.strokes)))
theorem Z8e {W:World}{p:Nat}{x:Z8}{sa:zA}{sc:Nat}(h1:W.heap[p]? = some (.cells (Z5 x sa sc) 47)):W.rangeAt p 0 (x.cells sa sc):=fun j v hv=>by
 simp only[World.cell?,h1]
 simpa [Z5] using hv
theorem Z13 (x:Z8)(sa:zA)(sc:Nat):(zq.info? 47).map (·.size)=some (x.cells sa sc).length:=by kernel_rfl
attribute [local go_sem ↓] Z3B
theorem Qe {C:World->Prop}{w:World}{o:Oper}{a:Act}(x:Operand)(ho:o.op = .load 47 x)(p:Nat)(hx:a.eval x = .pointer (some ⟨p,0,none⟩))(n:Z8)(sa:zA)(sc:Nat)
  (h:w.heap[p]? = some (.cells (Z5 n sa sc) 47)):o.quietAt zq a C w (.agg (Z5 n sa sc)):=by
 unfold Oper.quietAt execOp;simp only[ho,hx,Instr.loadAt,Instr.sureAddr,Sem.run_bind,Sem.run_pure,Result.andThen_ok,run_loadVar_mid w p 0 47 (n.cells sa sc) _ (Z8e h) Tryz.underlying47 rfl (Z13 n sa sc)];exact⟨rfl,rfl⟩
theorem Z3A (x y:Z8)(sa:zA)(sc:Nat)(ta:zA)(tc:Nat)(w:World)(hx:XU w sa x.strokes.length sc x.strokes)(hy:XU w ta y.strokes.length tc y.strokes):
  Calls zq 122 #[.agg (Z5 x sa sc),.agg (Z5 y ta tc)] w fun e w'=>e = .returned (.bool (XI x y))/\Below w.heap.size w w':=by
 have hlast:=Z9 w (.cells (Z5 x sa sc) 47);have p0:=Zb (w.alloc (.cells (Z5 x sa sc) 47)) (.cells (Z5 y ta tc) 47) _ _ hlast;have q0:((w.alloc (.cells (Z5 x sa sc) 47)).alloc (.cells (Z5 y ta tc) 47)).heap[w.heap.size+1]? = some (.cells (Z5 y ta tc) 47):=by
  have:=Z9 (w.alloc (.cells (Z5 x sa sc) 47)) (.cells (Z5 y ta tc) 47);simpa using this
 have hb:Below w.heap.size w ((w.alloc (.cells (Z5 x sa sc) 47)).alloc (.cells (Z5 y ta tc) 47)):=(zB _ _).alloc (by simp) _;have hp:w.heap.size < ((w.alloc (.cells (Z5 x sa sc) 47)).alloc (.cells (Z5 y ta tc) 47)).heap.size:=by simp;omega
 have hq:w.heap.size+1 < ((w.alloc (.cells (Z5 x sa sc) 47)).alloc (.cells (Z5 y ta tc) 47)).heap.size:=by simp
 clear hlast;have H1:=zH p0;clear p0;have H2:=zH q0;clear q0;have HB:=zH hb;clear hb;have HP:=zH hp;clear hp;have HQ:=zH hq;clear hq;have hbx:=hx.below HB.out;have hby:=hy.below HB.out;have hu:=Tryz.underlying47;go_enter Tryz.func122,Tryz.ntmps122;go_upto_region 2 with fail;generalize (w.alloc (.cells (Z5 x sa sc) 47)).alloc (.cells (Z5 y ta tc) 47)=W at *;generalize hpe:w.heap.size=p at *;generalize hqe:p+1=q at *;have HPE:=zH hpe;clear hpe;have HQE:=zH hqe;clear hqe;have hC0:Below W.heap.size W W.drew:=(Below.refl _ _).drew;have HX:=zH (show ∀w0,Below W.heap.size W w0->w0.heap[p]? = some (.cells (Z5 x sa sc) 47)from fun w0 h=>(h.block p HP.out).trans H1.out);have HY:=zH (show ∀w0,Below W.heap.size W w0->w0.heap[q]? = some (.cells (Z5 y ta tc) 47)from fun w0 h=>(h.block q HQ.out).trans H2.out);have hZ:p<=W.heap.size:=Nat.le_of_lt HP.out;refine zC (fun w':World=>Below W.heap.size W w') hC0 ?_;go_big_quiet_step (fail);refine zQ (.agg (Z5 x sa sc)) (fun w0 hC=>Qe (.tmp 2) rfl p rfl x sa sc (HX.out w0 hC)) ?_;refine zQ (.agg (Z6V x)) (fun w0 hC=>?_) ?_
 ·go_simp;refine(Z2N x sa sc _).mono ?_;rintro e w1 ⟨rfl,b1⟩;exact⟨rfl,hC.trans (b1.mono hC.size)⟩
 go_big_quiet_step (fail);refine zQ (.agg (Z5 y ta tc)) (fun w0 hC=>Qe (.tmp 3) rfl q rfl y ta tc (HY.out w0 hC)) ?_;refine zQ (.agg (Z6V y)) (fun w0 hC=>?_) ?_
 ·go_simp;refine(Z2N y ta tc _).mono ?_;rintro e w1 ⟨rfl,b1⟩;exact⟨rfl,hC.trans (b1.mono hC.size)⟩
 refine zV (.bool (decide (Qy x=Qy y))) ?_;cases hn:decide (Qy x=Qy y)
 ·have hR:XI x y=false:=by simp only[XI,hn,Bool.false_and]
  have HR:=zH hR;clear hR;go_big_quiet_step (fail)
  iterate 5 go_big_quiet_skip
  refine zV (.bool false) ?_;go_big_quiet_step (fail)
  iterate 5 go_big_quiet_skip
  refine zV (.bool false) ?_;go_big_quiet_step (fail)
  iterate 5 go_big_quiet_skip
  refine zV (.bool false) ?_;go_big_quiet_step (fail);refine wpQuiet_nil ?_;intro w' hC;go_wp2;go_ret;rw[HR.out];exact⟨rfl,by rw[HPE.out];exact HB.out.trans (hC.mono hZ)⟩
 ·have HN:=zH hn;clear hn;go_big_quiet_step (fail);refine zv p 8 ?_;refine zQ (.agg #[.int .i64 x.hardLo,.int .i64 x.hardHi]) (fun w0 hC=>?_) ?_
  ·have c8:=zc (HX.out w0 hC) 8 _ rfl;have c9:=zc (HX.out w0 hC) 9 _ rfl;clear hC;go_simp
  refine zv q 8 ?_;refine zQ (.agg #[.int .i64 y.hardLo,.int .i64 y.hardHi]) (fun w0 hC=>?_) ?_
  ·have c8:=zc (HY.out w0 hC) 8 _ rfl;have c9:=zc (HY.out w0 hC) 9 _ rfl;clear hC;go_simp
  refine zQ (.bool (decide (x.hardLo=y.hardLo/\x.hardHi=y.hardHi))) (fun w0 hC=>?_) ?_
  ·clear hC;go_simp;by_cases h1:x.hardLo=y.hardLo <;> by_cases h2:x.hardHi=y.hardHi <;> simp[h1,h2]
  cases hh:decide (x.hardLo=y.hardLo/\x.hardHi=y.hardHi)
  ·have hR:XI x y=false:=by simp only[XI,hh,Bool.false_and,Bool.and_false]
   have HR:=zH hR;clear hR hh;refine zV (.bool false) ?_;go_big_quiet_step (fail)
   iterate 5 go_big_quiet_skip
   refine zV (.bool false) ?_;go_big_quiet_step (fail)
   iterate 5 go_big_quiet_skip
   refine zV (.bool false) ?_;go_big_quiet_step (fail);refine wpQuiet_nil ?_;intro w' hC;go_wp2;go_ret;rw[HR.out];exact⟨rfl,by rw[HPE.out];exact HB.out.trans (hC.mono hZ)⟩
  ·have HH:=zH hh;clear hh;refine zV (.bool true) ?_;go_big_quiet_step (fail);refine zv p 10 ?_;refine zQ (.agg #[.int .i64 x.diffLo,.int .i64 x.diffHi]) (fun w0 hC=>?_) ?_
   ·have c10:=zc (HX.out w0 hC) 10 _ rfl;have c11:=zc (HX.out w0 hC) 11 _ rfl;clear hC;go_simp
   refine zv q 10 ?_;refine zQ (.agg #[.int .i64 y.diffLo,.int .i64 y.diffHi]) (fun w0 hC=>?_) ?_
   ·have c10:=zc (HY.out w0 hC) 10 _ rfl;have c11:=zc (HY.out w0 hC) 11 _ rfl;clear hC;go_simp
   refine zQ (.bool (decide (x.diffLo=y.diffLo/\x.diffHi=y.diffHi))) (fun w0 hC=>?_) ?_
   ·clear hC;go_simp;by_cases h1:x.diffLo=y.diffLo <;> by_cases h2:x.diffHi=y.diffHi <;> simp[h1,h2]
   cases hd:decide (x.diffLo=y.diffLo/\x.diffHi=y.diffHi)
   focus
    have hR:XI x y=false:=by simp only[XI,hd,Bool.false_and,Bool.and_false]
    have HR:=zH hR;clear hR hd;refine zV (.bool false) ?_;go_big_quiet_step (fail)
    iterate 5 go_big_quiet_skip
    refine zV (.bool false) ?_
   rotate_left
   focus
    have hR:XI x y=decide (x.strokes=y.strokes):=by simp only[XI,HN.out,HH.out,hd,Bool.true_and]
    have HR:=zH hR;clear hR hd;refine zV (.bool true) ?_;go_big_quiet_step (fail);refine zv p 15 ?_;refine zQ (.slice sa x.strokes.length sc) (fun w0 hC=>?_) ?_
    ·have c15:=zc (HX.out w0 hC) 15 _ rfl;clear hC;go_simp
    refine zv q 15 ?_;refine zQ (.slice ta y.strokes.length tc) (fun w0 hC=>?_) ?_
    ·have c15:=zc (HY.out w0 hC) 15 _ rfl;clear hC;go_simp
    refine zQ (.bool (decide (x.strokes=y.strokes))) (fun w0 hC=>?_) ?_
    ·go_simp;refine(Z8x _ _ _ x.strokes _ _ _ y.strokes w0 (hbx.below hC) (hby.below hC)).mono ?_;rintro e w1 ⟨b,rfl,hb,q1,rfl⟩;exact⟨by rw[show b=decide (x.strokes=y.strokes)from Bool.eq_iff_iff.2 (hb.trans decide_eq_true_iff.symm)],hC.trans (below_drewN (Below.refl _ _) q1)⟩
    refine zV (.bool (decide (x.strokes=y.strokes))) ?_
   all_goals
    go_big_quiet_step (fail);refine wpQuiet_nil ?_;intro w' hC;go_wp2;go_ret;rw[HR.out];exact⟨rfl,by rw[HPE.out];exact HB.out.trans (hC.mono hZ)⟩
section
attribute [local go_sem] ZS X9 XZ QP XJ QO QN QM Vp Vn Qi Qh JS JR JQ XQ J9 J8 Jt
variable (n:Z8)(sa:zA)(sc:Nat)(w:World)
theorem Zc3:Calls zq 199 #[.int .i64 1,.agg (Z5 n sa sc)] w fun e w'=>e = .returned (.iface 258 (.agg #[.int .i64 n.hardLo,.int .i64 n.hardHi]))/\Below w.heap.size w w':=by
 have hb:=zB w (.cells (Z5 n sa sc) 47);go_enter Tryz.func199,Tryz.ntmps199;go_wp2;go_ret;exact⟨rfl,hb⟩
theorem Zc2:Calls zq 199 #[.int .i64 2,.agg (Z5 n sa sc)] w fun e w'=>e = .returned (.iface 261 (.agg #[.int .i64 n.turns]))/\Below w.heap.size w w':=by
 have hb:=zB w (.cells (Z5 n sa sc) 47);go_enter Tryz.func199,Tryz.ntmps199;go_wp2;go_ret;exact⟨rfl,hb⟩
theorem Zc1:Calls zq 199 #[.int .i64 3,.agg (Z5 n sa sc)] w fun e w'=>e = .returned (.iface 263 (.agg #[.int .i64 n.stone,.int .i64 n.a,.int .i64 n.b]))/\Below w.heap.size w w':=by
 have hb:=zB w (.cells (Z5 n sa sc) 47);go_enter Tryz.func199,Tryz.ntmps199;go_wp2;go_ret;exact⟨rfl,hb⟩
theorem Zc0:Calls zq 199 #[.int .i64 4,.agg (Z5 n sa sc)] w fun e w'=>e = .returned (.iface 266 (.agg #[.int .i64 n.stone,.int .i64 n.ring]))/\Below w.heap.size w w':=by
 have hb:=zB w (.cells (Z5 n sa sc) 47);go_enter Tryz.func199,Tryz.ntmps199;go_wp2;go_ret;exact⟨rfl,hb⟩
theorem ZbZ:Calls zq 199 #[.int .i64 5,.agg (Z5 n sa sc)] w fun e w'=>e = .returned (.iface 269 (.agg #[.int .i64 n.refH,.int .i64 n.refN]))/\Below w.heap.size w w':=by
 have hb:=zB w (.cells (Z5 n sa sc) 47);go_enter Tryz.func199,Tryz.ntmps199;go_wp2;go_ret;exact⟨rfl,hb⟩
theorem ZbY:Calls zq 199 #[.int .i64 6,.agg (Z5 n sa sc)] w fun e w'=>e = .returned (.iface 269 (.agg #[.int .i64 n.refH,.int .i64 n.refN]))/\Below w.heap.size w w':=by
 have hb:=zB w (.cells (Z5 n sa sc) 47);go_enter Tryz.func199,Tryz.ntmps199;go_wp2;go_ret;exact⟨rfl,hb⟩
theorem Zc4 (k:Int)(h : ¬(1<=k/\k<=6)):Calls zq 199 #[.int .i64 k,.agg (Z5 n sa sc)] w fun e w'=>e = .returned .nilIface/\Below w.heap.size w w':=by
 have hb:=zB w (.cells (Z5 n sa sc) 47);have q1:(k==1)=false:=by simp;omega
 have r1:decide (k=1)=false:=by simp;omega
 have q2:(k==2)=false:=by simp;omega
 have r2:decide (k=2)=false:=by simp;omega
 have q3:(k==3)=false:=by simp;omega
 have r3:decide (k=3)=false:=by simp;omega
 have q4:(k==4)=false:=by simp;omega
 have r4:decide (k=4)=false:=by simp;omega
 have q5:(k==5)=false:=by simp;omega
 have r5:decide (k=5)=false:=by simp;omega
 have q6:(k==6)=false:=by simp;omega
 have r6:decide (k=6)=false:=by simp;omega
 clear h;go_enter Tryz.func199,Tryz.ntmps199;go_wp2;go_ret;exact⟨rfl,hb⟩
end
def Zo (k:Int)(n:Z8):Z8:=
 if k=1 then { n with hardLo:=0,hardHi:=0 } else if k=2 then { n with turns:=0 } else if k=3 then { n with stone:=0,a:=0,b:=0,diffLo:=0,diffHi:=0 }
 else if k=4 then { n with stone:=0,ring:=0,strokes:=[] } else if k=5\/k=6 then { n with refH:=0,refN:=0 } else n
def Z06 (f:Yh)(x:Int):Bool:=JC x 0 (f.rings * f.sectors - 1)
def ZY (f:Yh)(k:Int)(n:Z8):Bool:=
 if k=1 then Jr n.hardLo n.hardHi 1 255 else if k=2 then JC n.turns 1 10000
 else if k=3 then JC n.stone 0 1 && (Z06 f n.a && ((decide (n.b = -1) || Z06 f n.b) && (decide (n.a≠n.b) && Jr n.diffLo n.diffHi (-1000000000) 1000000000)))
 else if k=4 then JC n.stone 0 1 && (JC n.ring 0 (f.rings - 1) && XN (f.sectors - f.wide) n.strokes)
 else if k=5\/k=6 then ZF n.refH n.refN else false
theorem Xr {P:Program}{ops:Array Oper}{rest:List Oper}{op:Oper}{a:Act}{w:World}{Q:Exit->Act->World->Prop}(hgd:op.guard=none)(ty:TypeId)(x y:Operand)(ho:op.op = .store ty x y)(p:Nat)
  (c c':ZV) (t:TypeId) (hx:a.eval x = .pointer (some ⟨p,0,none⟩)) (hy:a.eval y = .agg c') (hg:w.heap[p]? = some (.cells c t (0,0))) (hi:(P.info? ty).map (·.size)=some c'.size) (hc:c.size=c'.size) (h1:c'.all (·.oneCell')=true)
  (h:wpList P ops Q rest (a.put op.dst undef) (w.setRow p c')):wpList P ops Q (op :: rest) a w:=by
 refine wpList_plain hgd fun K hK=>?_;unfold Oper.wp execOp;simp only[ho,hx,hy,Instr.storeAt,Instr.sureAddr,Sem.run_bind,Sem.run_pure,Result.andThen_ok,run_storeVar_row w p t ty c c' hg hi hc h1];exact hK _ _ h
theorem Jw (w:World)(A B C D:Obj):(((((w.alloc A).alloc B).alloc C).alloc D).heap[w.heap.size]? = some A/\((((w.alloc A).alloc B).alloc C).alloc D).heap[w.heap.size+1]? = some B /\
  ((((w.alloc A).alloc B).alloc C).alloc D).heap[w.heap.size+1+1]? = some C/\((((w.alloc A).alloc B).alloc C).alloc D).heap[w.heap.size+1+1+1]? = some D) /\
  Below w.heap.size w ((((w.alloc A).alloc B).alloc C).alloc D)/\w.heap.size+1+1+1 < ((((w.alloc A).alloc B).alloc C).alloc D).heap.size:=by
 refine⟨⟨?_,?_,?_,?_⟩,?_,?_⟩
 ·exact Zb _ _ _ _ (Zb _ _ _ _ (Zb _ _ _ _ (Zv _ _ _ rfl)))
 ·exact Zb _ _ _ _ (Zb _ _ _ _ (Zv _ _ _ (by simp)))
 ·exact Zb _ _ _ _ (Zv _ _ _ (by simp))
 ·exact Zv _ _ _ (by simp)
 ·exact(((zB _ _).alloc (by simp) _).alloc (by simp;omega) _).alloc (by simp;omega) _
 ·simp
theorem ZeF (v:Value)(w:World):(Instr.typeAssert (.iface 258 v) 255 258 true).run zq w = .ok (.tuple #[v,.bool true]) w:=by kernel_rfl
theorem ZeE (v:Value)(w:World):(Instr.typeAssert (.iface 258 v) 255 261 true).run zq w = .ok (.tuple #[.agg #[.int .i64 0],.bool false]) w:=by kernel_rfl
theorem ZeD (v:Value)(w:World):(Instr.typeAssert (.iface 258 v) 255 263 true).run zq w = .ok (.tuple #[.agg #[.int .i64 0,.int .i64 0,.int .i64 0],.bool false]) w:=by kernel_rfl
theorem ZeC (v:Value)(w:World):(Instr.typeAssert (.iface 258 v) 255 266 true).run zq w = .ok (.tuple #[.agg #[.int .i64 0,.int .i64 0],.bool false]) w:=by kernel_rfl
theorem ZeB (v:Value)(w:World):(Instr.typeAssert (.iface 258 v) 255 269 true).run zq w = .ok (.tuple #[.agg #[.int .i64 0,.int .i64 0],.bool false]) w:=by kernel_rfl
theorem ZeA (v:Value)(w:World):(Instr.typeAssert (.iface 261 v) 255 258 true).run zq w = .ok (.tuple #[.agg #[.int .i64 0,.int .i64 0],.bool false]) w:=by kernel_rfl
theorem Zez (v:Value)(w:World):(Instr.typeAssert (.iface 261 v) 255 261 true).run zq w = .ok (.tuple #[v,.bool true]) w:=by kernel_rfl
theorem Zey (v:Value)(w:World):(Instr.typeAssert (.iface 261 v) 255 263 true).run zq w = .ok (.tuple #[.agg #[.int .i64 0,.int .i64 0,.int .i64 0],.bool false]) w:=by kernel_rfl
theorem Zex (v:Value)(w:World):(Instr.typeAssert (.iface 261 v) 255 266 true).run zq w = .ok (.tuple #[.agg #[.int .i64 0,.int .i64 0],.bool false]) w:=by kernel_rfl
theorem Zew (v:Value)(w:World):(Instr.typeAssert (.iface 261 v) 255 269 true).run zq w = .ok (.tuple #[.agg #[.int .i64 0,.int .i64 0],.bool false]) w:=by kernel_rfl
theorem Zev (v:Value)(w:World):(Instr.typeAssert (.iface 263 v) 255 258 true).run zq w = .ok (.tuple #[.agg #[.int .i64 0,.int .i64 0],.bool false]) w:=by kernel_rfl
theorem Zeu (v:Value)(w:World):(Instr.typeAssert (.iface 263 v) 255 261 true).run zq w = .ok (.tuple #[.agg #[.int .i64 0],.bool false]) w:=by kernel_rfl
theorem Zet (v:Value)(w:World):(Instr.typeAssert (.iface 263 v) 255 263 true).run zq w = .ok (.tuple #[v,.bool true]) w:=by kernel_rfl
theorem Zes (v:Value)(w:World):(Instr.typeAssert (.iface 263 v) 255 266 true).run zq w = .ok (.tuple #[.agg #[.int .i64 0,.int .i64 0],.bool false]) w:=by kernel_rfl
theorem Zer (v:Value)(w:World):(Instr.typeAssert (.iface 263 v) 255 269 true).run zq w = .ok (.tuple #[.agg #[.int .i64 0,.int .i64 0],.bool false]) w:=by kernel_rfl
theorem Zeq (v:Value)(w:World):(Instr.typeAssert (.iface 266 v) 255 258 true).run zq w = .ok (.tuple #[.agg #[.int .i64 0,.int .i64 0],.bool false]) w:=by kernel_rfl
theorem Zep (v:Value)(w:World):(Instr.typeAssert (.iface 266 v) 255 261 true).run zq w = .ok (.tuple #[.agg #[.int .i64 0],.bool false]) w:=by kernel_rfl
theorem Zeo (v:Value)(w:World):(Instr.typeAssert (.iface 266 v) 255 263 true).run zq w = .ok (.tuple #[.agg #[.int .i64 0,.int .i64 0,.int .i64 0],.bool false]) w:=by kernel_rfl
theorem Zen (v:Value)(w:World):(Instr.typeAssert (.iface 266 v) 255 266 true).run zq w = .ok (.tuple #[v,.bool true]) w:=by kernel_rfl
theorem Zem (v:Value)(w:World):(Instr.typeAssert (.iface 266 v) 255 269 true).run zq w = .ok (.tuple #[.agg #[.int .i64 0,.int .i64 0],.bool false]) w:=by kernel_rfl
theorem Zel (v:Value)(w:World):(Instr.typeAssert (.iface 269 v) 255 258 true).run zq w = .ok (.tuple #[.agg #[.int .i64 0,.int .i64 0],.bool false]) w:=by kernel_rfl
theorem Zek (v:Value)(w:World):(Instr.typeAssert (.iface 269 v) 255 261 true).run zq w = .ok (.tuple #[.agg #[.int .i64 0],.bool false]) w:=by kernel_rfl
theorem Zej (v:Value)(w:World):(Instr.typeAssert (.iface 269 v) 255 263 true).run zq w = .ok (.tuple #[.agg #[.int .i64 0,.int .i64 0,.int .i64 0],.bool false]) w:=by kernel_rfl
theorem Zei (v:Value)(w:World):(Instr.typeAssert (.iface 269 v) 255 266 true).run zq w = .ok (.tuple #[.agg #[.int .i64 0,.int .i64 0],.bool false]) w:=by kernel_rfl
theorem Zeh (v:Value)(w:World):(Instr.typeAssert (.iface 269 v) 255 269 true).run zq w = .ok (.tuple #[v,.bool true]) w:=by kernel_rfl
theorem Zeg (w:World):(Instr.typeAssert .nilIface 255 258 true).run zq w = .ok (.tuple #[.agg #[.int .i64 0,.int .i64 0],.bool false]) w:=by kernel_rfl
theorem Zef (w:World):(Instr.typeAssert .nilIface 255 261 true).run zq w = .ok (.tuple #[.agg #[.int .i64 0],.bool false]) w:=by kernel_rfl
theorem Zee (w:World):(Instr.typeAssert .nilIface 255 263 true).run zq w = .ok (.tuple #[.agg #[.int .i64 0,.int .i64 0,.int .i64 0],.bool false]) w:=by kernel_rfl
theorem Zed (w:World):(Instr.typeAssert .nilIface 255 266 true).run zq w = .ok (.tuple #[.agg #[.int .i64 0,.int .i64 0],.bool false]) w:=by kernel_rfl
theorem Zec (w:World):(Instr.typeAssert .nilIface 255 269 true).run zq w = .ok (.tuple #[.agg #[.int .i64 0,.int .i64 0],.bool false]) w:=by kernel_rfl
theorem Zi {W:World}{p:Nat}{A:ZV}{t:TypeId}(h1:W.heap[p]? = some (.cells A t (0,0)))(j:Nat):W.frozen? ⟨p,j,none⟩=false:=by simp[World.frozen?,h1]
theorem ZM {P:Program}{fn:Func}{p u:Tmp}{ty:TypeId}(h:fn.results = #[.cell p ty,.tmp u])(tmps:ZV)(w:World)(g:Nat)(t:TypeId)(cs:ZV)(fr:Nat×Nat)(d:TypeDesc)
  (hp:tmps.getD p undef = .pointer (some ⟨g,0,none⟩)) (hg:w.heap[g]? = some (.cells cs t fr)) (hu:P.underlying ty=some d) (hd:(match d with | .struct _ | .array _ _=>true | _=>false)=true) (hi:(P.info? ty).map (·.size)=some cs.size):
  (results fn tmps).run P w = .ok (.tuple #[.agg cs,tmps.getD u undef]) w:=by
 rw[results_cell_tmp h,hp];simp[asAddr,run_loadVar_row w g t ty cs fr d hg hu hd hi]
structure Loc (w W:World)(p0 p1 p2 p3:Nat)(f:Yh)(n:Z8)(sa:zA)(sc:Nat)(C:ZV):Prop where
 e0:W.heap[p0]? = some (.cells #[.int .i64 f.rings,.int .i64 f.sectors,.int .i64 f.wide] 174)
 e1:W.heap[p1]? = some (.cells (Z5 n sa sc) 47)
 e2:W.heap[p2]? = some (.cells (Z5 Zh none 0) 47)
 e3:W.heap[p3]? = some (.cells C 47)
 b:Below p0 w W
 lt:p0 < p1/\p1 < p2/\p2 < p3
theorem Loc.below {w W W':World}{p0 p1 p2 p3:Nat}{f:Yh}{n:Z8}{sa:zA}{sc:Nat}{C:ZV}(h:Loc w W p0 p1 p2 p3 f n sa sc C)(hb:Below W.heap.size W W'):Loc w W' p0 p1 p2 p3 f n sa sc C:=by
 have g : ∀{k:Nat} {o:Obj},W.heap[k]? = some o->W'.heap[k]? = some o:=fun {k o} hk=>(hb.block k (Array.getElem?_eq_some_iff.1 hk).1).trans hk;have h0:=(Array.getElem?_eq_some_iff.1 h.e0).1;exact⟨g h.e0,g h.e1,g h.e2,g h.e3,h.b.trans (hb.mono (by omega)),h.lt⟩
theorem Loc.alloc {w W:World}{p0 p1 p2 p3:Nat}{f:Yh}{n:Z8}{sa:zA}{sc:Nat}{C:ZV}(h:Loc w W p0 p1 p2 p3 f n sa sc C)(o:Obj):Loc w (W.alloc o) p0 p1 p2 p3 f n sa sc C:=h.below (zB _ _)
theorem Loc.set {w W:World}{p0 p1 p2 p3:Nat}{f:Yh}{n:Z8}{sa:zA}{sc:Nat}{C:ZV}(h:Loc w W p0 p1 p2 p3 f n sa sc C)(j:Nat)(v:Value):Loc w (W.setCell ⟨p3,j,none⟩ v) p0 p1 p2 p3 f n sa sc (C.setIfInBounds j v):=by
 have g : ∀{k:Nat},k≠p3->(W.setCell ⟨p3,j,none⟩ v).heap[k]? = W.heap[k]? := fun {k} hk=>Below.heap_setCell W ⟨p3,j,none⟩ v k hk;have hl:=h.lt;refine⟨(g (by omega)).trans h.e0,(g (by omega)).trans h.e1,(g (by omega)).trans h.e2,heap_setCell_same W p3 j C 47 v h.e3,h.b.trans ⟨rfl,rfl,rfl,by simp[World.setCell],fun k hk=>g (by omega)⟩,h.lt⟩
theorem Loc.done {w W:World}{p0 p1 p2 p3:Nat}{f:Yh}{n:Z8}{sa:zA}{sc:Nat}{C:ZV}(h:Loc w W p0 p1 p2 p3 f n sa sc C)(C':ZV):(W.setRow p2 C').heap[p2]? = some (.cells C' 47)/\Below p0 w (W.setRow p2 C'):=by
 have hl:=h.lt;exact⟨setRow_heap W p2 _ C' _ _ h.e2,h.b.trans ⟨rfl,rfl,rfl,by simp,fun k hk=>setRow_other W p2 k C' (by omega)⟩⟩
section
attribute [local go_sem] ZeF ZeE ZeD ZeC ZeB ZeA Zez Zey Zex Zew Zev Zeu Zet Zes Zer Zeq Zep Zeo Zen Zem Zel Zek Zej Zei Zeh Zeg Zef Zee Zed Zec ZS X9 XZ QP XJ QO QN QM Vp Vn Qi Qh JS JR JQ XQ J9 J8 Jt Z3T Z3S Z3R Z3Q Z3P Z3O Z3N Z3M Z3L Z3K Z2h Z2g Z2f Z2e Z2d Z2c Z2b Z2a Z29
variable (f:Yh)(n:Z8)(sa:zA)(sc:Nat)(w:World)
theorem Ze0:Calls zq 165 #[f.val,.int .i64 1,.agg (Z5 n sa sc)] w fun e w'=>e = .returned (.tuple #[.agg (Z5 (Zo 1 n) sa sc),.bool (ZY f 1 n)])/\Below w.heap.size w w':=by
 have i43:(zq.info? 47).map (·.size)=some (Z5 n sa sc).size:=by kernel_rfl
 have h43:=Zm n sa sc;have I43:=zH i43;clear i43;have s1:(w.alloc (zF f 174)).heap.size=w.heap.size+1:=by simp
 have g5:=fun Z=>Zb ((w.alloc (zF f 174)).alloc (.cells (Z5 n sa sc) 47)) Z _ _ (Zv (w.alloc (zF f 174)) (.cells (Z5 n sa sc) 47) _ s1);have g5':=fun Z Y=>Zb _ Y _ _ (g5 Z);have G5:=zH g5;clear g5 s1;have G5':=zH g5';clear g5';have FB:=zH (Jw w (zF f 174) (.cells (Z5 n sa sc) 47) (.cells (Z5 Zh none 0) 47) (.cells (Z5 n sa sc) 47));unfold Yh.val;go_enter Tryz.func165,Tryz.ntmps165;go_wp2_with (first
  |(refine wpList_load_row rfl 47 _ rfl (w.heap.size+1) rfl 47 (Z5 n sa sc) (0,0) _ ?hg Tryz.underlying47 rfl I43.out ?_;case hg=>(first | exact G5.out _ | exact G5'.out _ _))
  |(refine Zr _ rfl 47 _ _ rfl (w.heap.size+3) ?hp _ (Z5 n sa sc) rfl rfl I43.out rfl h43 ?_;case hp=>simp))
 simp only[<-YI];clear G5 G5';generalize hW:(((w.alloc (zF f 174)).alloc (.cells (Z5 n sa sc) 47)).alloc (.cells (Z5 Zh none 0) 47)).alloc (.cells (Z5 n sa sc) 47)=W0 at *;obtain⟨⟨e0,e1,e2,e3⟩,hb0,hp3⟩:=FB.out;clear hW FB;generalize hp0:w.heap.size=p0 at *;generalize hp1:p0+1=p1 at *;generalize hp2:p1+1=p2 at *;generalize hp3e:p2+1=p3 at *;have OR:=zH (show p0 < p1/\p1 < p2/\p2 < p3/\p3 < W0.heap.size by omega);have HP0:=zH hp0;clear hp0 hp1 hp2 hp3e hp3;refine(Zc3 n sa sc _).mono ?_;rintro e w1 ⟨rfl,b1⟩;have L1:=zH ((Loc.mk e0 e1 e2 e3 hb0 (by have:=OR.out;omega):Loc w W0 p0 p1 p2 p3 f n sa sc (Z5 n sa sc)).below b1);clear OR b1 hb0 e0 e1 e2 e3;have hlt3:p3 < w1.heap.size:=(Array.getElem?_eq_some_iff.1 L1.out.e3).1;have hlt1:p1 < w1.heap.size:=(Array.getElem?_eq_some_iff.1 L1.out.e1).1;have hlt0:p0 < w1.heap.size:=(Array.getElem?_eq_some_iff.1 L1.out.e0).1;have k8:=zc L1.out.e3 8 _ rfl;have f8:=Zi L1.out.e3 8;have k9:=zc L1.out.e3 9 _ rfl;have f9:=Zi L1.out.e3 9;go_wp2_with fail;generalize hWx:(((w1.setCell ⟨p3,8,none⟩ (.int .i64 0)).setCell ⟨p3,9,none⟩ (.int .i64 0)).alloc (.cells #[.int .i64 n.hardLo,.int .i64 n.hardHi] 258))=Wx at *;have L2:=zH (show Loc w Wx p0 p1 p2 p3 f n sa sc (Z5 (Zo 1 n) sa sc)from by rw[<-hWx];exact(((L1.out.set 8 (.int .i64 0)).set 9 (.int .i64 0)).alloc (.cells #[.int .i64 n.hardLo,.int .i64 n.hardHi] 258)));clear hWx L1;refine(Z20 n.hardLo n.hardHi 1 255 _).mono ?_;rintro e w3 ⟨rfl,b3⟩;have L3:=zH (L2.out.below b3);have i43':(zq.info? 47).map (·.size)=some (Z5 (Zo 1 n) sa sc).size:=by kernel_rfl
 have o43':=Zm (Zo 1 n) sa sc;have I43':=zH i43';clear i43';have DN:=zH (L3.out.done (Z5 (Zo 1 n) sa sc));go_wp2_with (first
  |(refine zL p3 L3.out.e3 ?_)
  |(refine zN p2 (Z5 (Zo 1 n) sa sc) L3.out.e2 ?_))
 (try simp only[Exit.inBlock,Exit.then])
 refine zr DN.out.1 ?_;exact⟨rfl,by rw[HP0.out];exact DN.out.2⟩
theorem ZdZ:Calls zq 165 #[f.val,.int .i64 2,.agg (Z5 n sa sc)] w fun e w'=>e = .returned (.tuple #[.agg (Z5 (Zo 2 n) sa sc),.bool (ZY f 2 n)])/\Below w.heap.size w w':=by
 have i43:(zq.info? 47).map (·.size)=some (Z5 n sa sc).size:=by kernel_rfl
 have h43:=Zm n sa sc;have I43:=zH i43;clear i43;have s1:(w.alloc (zF f 174)).heap.size=w.heap.size+1:=by simp
 have g5:=fun Z=>Zb ((w.alloc (zF f 174)).alloc (.cells (Z5 n sa sc) 47)) Z _ _ (Zv (w.alloc (zF f 174)) (.cells (Z5 n sa sc) 47) _ s1);have g5':=fun Z Y=>Zb _ Y _ _ (g5 Z);have G5:=zH g5;clear g5 s1;have G5':=zH g5';clear g5';have FB:=zH (Jw w (zF f 174) (.cells (Z5 n sa sc) 47) (.cells (Z5 Zh none 0) 47) (.cells (Z5 n sa sc) 47));unfold Yh.val;go_enter Tryz.func165,Tryz.ntmps165;go_wp2_with (first
  |(refine wpList_load_row rfl 47 _ rfl (w.heap.size+1) rfl 47 (Z5 n sa sc) (0,0) _ ?hg Tryz.underlying47 rfl I43.out ?_;case hg=>(first | exact G5.out _ | exact G5'.out _ _))
  |(refine Zr _ rfl 47 _ _ rfl (w.heap.size+3) ?hp _ (Z5 n sa sc) rfl rfl I43.out rfl h43 ?_;case hp=>simp))
 simp only[<-YI];clear G5 G5';generalize hW:(((w.alloc (zF f 174)).alloc (.cells (Z5 n sa sc) 47)).alloc (.cells (Z5 Zh none 0) 47)).alloc (.cells (Z5 n sa sc) 47)=W0 at *;obtain⟨⟨e0,e1,e2,e3⟩,hb0,hp3⟩:=FB.out;clear hW FB;generalize hp0:w.heap.size=p0 at *;generalize hp1:p0+1=p1 at *;generalize hp2:p1+1=p2 at *;generalize hp3e:p2+1=p3 at *;have OR:=zH (show p0 < p1/\p1 < p2/\p2 < p3/\p3 < W0.heap.size by omega);have HP0:=zH hp0;clear hp0 hp1 hp2 hp3e hp3;refine(Zc2 n sa sc _).mono ?_;rintro e w1 ⟨rfl,b1⟩;have L1:=zH ((Loc.mk e0 e1 e2 e3 hb0 (by have:=OR.out;omega):Loc w W0 p0 p1 p2 p3 f n sa sc (Z5 n sa sc)).below b1);clear OR b1 hb0 e0 e1 e2 e3;have hlt3:p3 < w1.heap.size:=(Array.getElem?_eq_some_iff.1 L1.out.e3).1;have hlt1:p1 < w1.heap.size:=(Array.getElem?_eq_some_iff.1 L1.out.e1).1;have hlt0:p0 < w1.heap.size:=(Array.getElem?_eq_some_iff.1 L1.out.e0).1;have k7:=zc L1.out.e3 7 _ rfl;have f7:=Zi L1.out.e3 7;go_wp2_with fail;generalize hWx:((w1.setCell ⟨p3,7,none⟩ (.int .i64 0)).alloc (.cells #[.int .i64 n.turns] 261))=Wx at *;have L2:=zH (show Loc w Wx p0 p1 p2 p3 f n sa sc (Z5 (Zo 2 n) sa sc)from by rw[<-hWx];exact((L1.out.set 7 (.int .i64 0)).alloc (.cells #[.int .i64 n.turns] 261)));clear hWx L1;refine(Yf n.turns 1 10000 _).mono ?_;rintro e w3 ⟨rfl,rfl⟩;have i43':(zq.info? 47).map (·.size)=some (Z5 (Zo 2 n) sa sc).size:=by kernel_rfl
 have o43':=Zm (Zo 2 n) sa sc;have I43':=zH i43';clear i43';have DN:=zH (L2.out.done (Z5 (Zo 2 n) sa sc));go_wp2_with (first
  |(refine zL p3 L2.out.e3 ?_)
  |(refine zN p2 (Z5 (Zo 2 n) sa sc) L2.out.e2 ?_))
 (try simp only[Exit.inBlock,Exit.then])
 refine zr DN.out.1 ?_;exact⟨rfl,by rw[HP0.out];exact DN.out.2⟩
theorem ZdW:Calls zq 165 #[f.val,.int .i64 5,.agg (Z5 n sa sc)] w fun e w'=>e = .returned (.tuple #[.agg (Z5 (Zo 5 n) sa sc),.bool (ZY f 5 n)])/\Below w.heap.size w w':=by
 have i43:(zq.info? 47).map (·.size)=some (Z5 n sa sc).size:=by kernel_rfl
 have h43:=Zm n sa sc;have I43:=zH i43;clear i43;have s1:(w.alloc (zF f 174)).heap.size=w.heap.size+1:=by simp
 have g5:=fun Z=>Zb ((w.alloc (zF f 174)).alloc (.cells (Z5 n sa sc) 47)) Z _ _ (Zv (w.alloc (zF f 174)) (.cells (Z5 n sa sc) 47) _ s1);have g5':=fun Z Y=>Zb _ Y _ _ (g5 Z);have G5:=zH g5;clear g5 s1;have G5':=zH g5';clear g5';have FB:=zH (Jw w (zF f 174) (.cells (Z5 n sa sc) 47) (.cells (Z5 Zh none 0) 47) (.cells (Z5 n sa sc) 47));unfold Yh.val;go_enter Tryz.func165,Tryz.ntmps165;go_wp2_with (first
  |(refine wpList_load_row rfl 47 _ rfl (w.heap.size+1) rfl 47 (Z5 n sa sc) (0,0) _ ?hg Tryz.underlying47 rfl I43.out ?_;case hg=>(first | exact G5.out _ | exact G5'.out _ _))
  |(refine Zr _ rfl 47 _ _ rfl (w.heap.size+3) ?hp _ (Z5 n sa sc) rfl rfl I43.out rfl h43 ?_;case hp=>simp))
 simp only[<-YI];clear G5 G5';generalize hW:(((w.alloc (zF f 174)).alloc (.cells (Z5 n sa sc) 47)).alloc (.cells (Z5 Zh none 0) 47)).alloc (.cells (Z5 n sa sc) 47)=W0 at *;obtain⟨⟨e0,e1,e2,e3⟩,hb0,hp3⟩:=FB.out;clear hW FB;generalize hp0:w.heap.size=p0 at *;generalize hp1:p0+1=p1 at *;generalize hp2:p1+1=p2 at *;generalize hp3e:p2+1=p3 at *;have OR:=zH (show p0 < p1/\p1 < p2/\p2 < p3/\p3 < W0.heap.size by omega);have HP0:=zH hp0;clear hp0 hp1 hp2 hp3e hp3;refine(ZbZ n sa sc _).mono ?_;rintro e w1 ⟨rfl,b1⟩;have L1:=zH ((Loc.mk e0 e1 e2 e3 hb0 (by have:=OR.out;omega):Loc w W0 p0 p1 p2 p3 f n sa sc (Z5 n sa sc)).below b1);clear OR b1 hb0 e0 e1 e2 e3;have hlt3:p3 < w1.heap.size:=(Array.getElem?_eq_some_iff.1 L1.out.e3).1;have hlt1:p1 < w1.heap.size:=(Array.getElem?_eq_some_iff.1 L1.out.e1).1;have hlt0:p0 < w1.heap.size:=(Array.getElem?_eq_some_iff.1 L1.out.e0).1;have k16:=zc L1.out.e3 16 _ rfl;have f16:=Zi L1.out.e3 16;have k17:=zc L1.out.e3 17 _ rfl;have f17:=Zi L1.out.e3 17;go_wp2_with fail;generalize hWx:(((w1.setCell ⟨p3,16,none⟩ (.int .i64 0)).setCell ⟨p3,17,none⟩ (.int .i64 0)).alloc (.cells #[.int .i64 n.refH,.int .i64 n.refN] 269))=Wx at *;have L2:=zH (show Loc w Wx p0 p1 p2 p3 f n sa sc (Z5 (Zo 5 n) sa sc)from by rw[<-hWx];exact(((L1.out.set 16 (.int .i64 0)).set 17 (.int .i64 0)).alloc (.cells #[.int .i64 n.refH,.int .i64 n.refN] 269)));clear hWx L1;refine(Jg n.refH n.refN _).mono ?_;rintro e w3 ⟨rfl,b3⟩;have L3:=zH (L2.out.below b3);have i43':(zq.info? 47).map (·.size)=some (Z5 (Zo 5 n) sa sc).size:=by kernel_rfl
 have o43':=Zm (Zo 5 n) sa sc;have I43':=zH i43';clear i43';have DN:=zH (L3.out.done (Z5 (Zo 5 n) sa sc));go_wp2_with (first
  |(refine zL p3 L3.out.e3 ?_)
  |(refine zN p2 (Z5 (Zo 5 n) sa sc) L3.out.e2 ?_))
 (try simp only[Exit.inBlock,Exit.then])
 refine zr DN.out.1 ?_;exact⟨rfl,by rw[HP0.out];exact DN.out.2⟩
theorem ZdV:Calls zq 165 #[f.val,.int .i64 6,.agg (Z5 n sa sc)] w fun e w'=>e = .returned (.tuple #[.agg (Z5 (Zo 6 n) sa sc),.bool (ZY f 6 n)])/\Below w.heap.size w w':=by
 have i43:(zq.info? 47).map (·.size)=some (Z5 n sa sc).size:=by kernel_rfl
 have h43:=Zm n sa sc;have I43:=zH i43;clear i43;have s1:(w.alloc (zF f 174)).heap.size=w.heap.size+1:=by simp
 have g5:=fun Z=>Zb ((w.alloc (zF f 174)).alloc (.cells (Z5 n sa sc) 47)) Z _ _ (Zv (w.alloc (zF f 174)) (.cells (Z5 n sa sc) 47) _ s1);have g5':=fun Z Y=>Zb _ Y _ _ (g5 Z);have G5:=zH g5;clear g5 s1;have G5':=zH g5';clear g5';have FB:=zH (Jw w (zF f 174) (.cells (Z5 n sa sc) 47) (.cells (Z5 Zh none 0) 47) (.cells (Z5 n sa sc) 47));unfold Yh.val;go_enter Tryz.func165,Tryz.ntmps165;go_wp2_with (first
  |(refine wpList_load_row rfl 47 _ rfl (w.heap.size+1) rfl 47 (Z5 n sa sc) (0,0) _ ?hg Tryz.underlying47 rfl I43.out ?_;case hg=>(first | exact G5.out _ | exact G5'.out _ _))
  |(refine Zr _ rfl 47 _ _ rfl (w.heap.size+3) ?hp _ (Z5 n sa sc) rfl rfl I43.out rfl h43 ?_;case hp=>simp))
 simp only[<-YI];clear G5 G5';generalize hW:(((w.alloc (zF f 174)).alloc (.cells (Z5 n sa sc) 47)).alloc (.cells (Z5 Zh none 0) 47)).alloc (.cells (Z5 n sa sc) 47)=W0 at *;obtain⟨⟨e0,e1,e2,e3⟩,hb0,hp3⟩:=FB.out;clear hW FB;generalize hp0:w.heap.size=p0 at *;generalize hp1:p0+1=p1 at *;generalize hp2:p1+1=p2 at *;generalize hp3e:p2+1=p3 at *;have OR:=zH (show p0 < p1/\p1 < p2/\p2 < p3/\p3 < W0.heap.size by omega);have HP0:=zH hp0;clear hp0 hp1 hp2 hp3e hp3;refine(ZbY n sa sc _).mono ?_;rintro e w1 ⟨rfl,b1⟩;have L1:=zH ((Loc.mk e0 e1 e2 e3 hb0 (by have:=OR.out;omega):Loc w W0 p0 p1 p2 p3 f n sa sc (Z5 n sa sc)).below b1);clear OR b1 hb0 e0 e1 e2 e3;have hlt3:p3 < w1.heap.size:=(Array.getElem?_eq_some_iff.1 L1.out.e3).1;have hlt1:p1 < w1.heap.size:=(Array.getElem?_eq_some_iff.1 L1.out.e1).1;have hlt0:p0 < w1.heap.size:=(Array.getElem?_eq_some_iff.1 L1.out.e0).1;have k16:=zc L1.out.e3 16 _ rfl;have f16:=Zi L1.out.e3 16;have k17:=zc L1.out.e3 17 _ rfl;have f17:=Zi L1.out.e3 17;go_wp2_with fail;generalize hWx:(((w1.setCell ⟨p3,16,none⟩ (.int .i64 0)).setCell ⟨p3,17,none⟩ (.int .i64 0)).alloc (.cells #[.int .i64 n.refH,.int .i64 n.refN] 269))=Wx at *;have L2:=zH (show Loc w Wx p0 p1 p2 p3 f n sa sc (Z5 (Zo 6 n) sa sc)from by rw[<-hWx];exact(((L1.out.set 16 (.int .i64 0)).set 17 (.int .i64 0)).alloc (.cells #[.int .i64 n.refH,.int .i64 n.refN] 269)));clear hWx L1;refine(Jg n.refH n.refN _).mono ?_;rintro e w3 ⟨rfl,b3⟩;have L3:=zH (L2.out.below b3);have i43':(zq.info? 47).map (·.size)=some (Z5 (Zo 6 n) sa sc).size:=by kernel_rfl
 have o43':=Zm (Zo 6 n) sa sc;have I43':=zH i43';clear i43';have DN:=zH (L3.out.done (Z5 (Zo 6 n) sa sc));go_wp2_with (first
  |(refine zL p3 L3.out.e3 ?_)
  |(refine zN p2 (Z5 (Zo 6 n) sa sc) L3.out.e2 ?_))
 (try simp only[Exit.inBlock,Exit.then])
 refine zr DN.out.1 ?_;exact⟨rfl,by rw[HP0.out];exact DN.out.2⟩
theorem Z2I {k:Int}(hk : ¬(1<=k/\k<=6))(n:Z8):Zo k n=n:=by
 unfold Zo;rw[if_neg (by omega),if_neg (by omega),if_neg (by omega),if_neg (by omega),if_neg (by omega)]
theorem Z6H {k:Int}(hk : ¬(1<=k/\k<=6))(f:Yh)(n:Z8):ZY f k n=false:=by
 unfold ZY;rw[if_neg (by omega),if_neg (by omega),if_neg (by omega),if_neg (by omega),if_neg (by omega)]
theorem Ze1 (k:Int)(hk : ¬(1<=k/\k<=6)):Calls zq 165 #[f.val,.int .i64 k,.agg (Z5 n sa sc)] w fun e w'=>e = .returned (.tuple #[.agg (Z5 (Zo k n) sa sc),.bool (ZY f k n)])/\Below w.heap.size w w':=by
 rw[Z2I hk,Z6H hk];have i43:(zq.info? 47).map (·.size)=some (Z5 n sa sc).size:=by kernel_rfl
 have h43:=Zm n sa sc;have I43:=zH i43;clear i43;have s1:(w.alloc (zF f 174)).heap.size=w.heap.size+1:=by simp
 have g5:=fun Z=>Zb ((w.alloc (zF f 174)).alloc (.cells (Z5 n sa sc) 47)) Z _ _ (Zv (w.alloc (zF f 174)) (.cells (Z5 n sa sc) 47) _ s1);have g5':=fun Z Y=>Zb _ Y _ _ (g5 Z);have G5:=zH g5;clear g5 s1;have G5':=zH g5';clear g5';have FB:=zH (Jw w (zF f 174) (.cells (Z5 n sa sc) 47) (.cells (Z5 Zh none 0) 47) (.cells (Z5 n sa sc) 47));unfold Yh.val;go_enter Tryz.func165,Tryz.ntmps165;go_wp2_with (first
  |(refine wpList_load_row rfl 47 _ rfl (w.heap.size+1) rfl 47 (Z5 n sa sc) (0,0) _ ?hg Tryz.underlying47 rfl I43.out ?_;case hg=>(first | exact G5.out _ | exact G5'.out _ _))
  |(refine Zr _ rfl 47 _ _ rfl (w.heap.size+3) ?hp _ (Z5 n sa sc) rfl rfl I43.out rfl h43 ?_;case hp=>simp))
 simp only[<-YI];clear G5 G5';generalize hW:(((w.alloc (zF f 174)).alloc (.cells (Z5 n sa sc) 47)).alloc (.cells (Z5 Zh none 0) 47)).alloc (.cells (Z5 n sa sc) 47)=W0 at *;obtain⟨⟨e0,e1,e2,e3⟩,hb0,hp3⟩:=FB.out;clear hW FB;generalize hp0:w.heap.size=p0 at *;generalize hp1:p0+1=p1 at *;generalize hp2:p1+1=p2 at *;generalize hp3e:p2+1=p3 at *;have OR:=zH (show p0 < p1/\p1 < p2/\p2 < p3/\p3 < W0.heap.size by omega);have HP0:=zH hp0;clear hp0 hp1 hp2 hp3e hp3;refine(Zc4 n sa sc _ k hk).mono ?_;rintro e w1 ⟨rfl,b1⟩;have L1:=zH ((Loc.mk e0 e1 e2 e3 hb0 (by have:=OR.out;omega):Loc w W0 p0 p1 p2 p3 f n sa sc (Z5 n sa sc)).below b1);clear OR b1 hb0 e0 e1 e2 e3;have hlt3:p3 < w1.heap.size:=(Array.getElem?_eq_some_iff.1 L1.out.e3).1;have hlt1:p1 < w1.heap.size:=(Array.getElem?_eq_some_iff.1 L1.out.e1).1;have hlt0:p0 < w1.heap.size:=(Array.getElem?_eq_some_iff.1 L1.out.e0).1;have i43':(zq.info? 47).map (·.size)=some (Z5 n sa sc).size:=by kernel_rfl
 have o43':=Zm n sa sc;have I43':=zH i43';clear i43';have DN:=zH (L1.out.done (Z5 n sa sc));go_wp2_with (first
  |(refine zL p3 L1.out.e3 ?_)
  |(refine zN p2 (Z5 n sa sc) L1.out.e2 ?_))
 (try simp only[Exit.inBlock,Exit.then])
 refine zr DN.out.1 ?_;exact⟨rfl,by rw[HP0.out];exact DN.out.2⟩
theorem ZdX (hv:f.valid=true)(hs:XU w sa n.strokes.length sc n.strokes):Calls zq 165 #[f.val,.int .i64 4,.agg (Z5 n sa sc)] w fun e w'=>e = .returned (.tuple #[.agg (Z5 (Zo 4 n) none 0),.bool (ZY f 4 n)])/\Below w.heap.size w w':=by
 have hvf:1<=f.rings/\f.rings<=24/\2<=f.sectors/\f.sectors<=96/\1<=f.wide/\f.wide<=f.sectors:=by
  simp only[Yh.valid,Bool.and_eq_true,Yt]at hv;omega
 have VF:=zH hvf;clear hvf hv;have i43:(zq.info? 47).map (·.size)=some (Z5 n sa sc).size:=by kernel_rfl
 have h43:=Zm n sa sc;have I43:=zH i43;clear i43;have s1:(w.alloc (zF f 174)).heap.size=w.heap.size+1:=by simp
 have g5:=fun Z=>Zb ((w.alloc (zF f 174)).alloc (.cells (Z5 n sa sc) 47)) Z _ _ (Zv (w.alloc (zF f 174)) (.cells (Z5 n sa sc) 47) _ s1);have g5':=fun Z Y=>Zb _ Y _ _ (g5 Z);have G5:=zH g5;clear g5 s1;have G5':=zH g5';clear g5';have FB:=zH (Jw w (zF f 174) (.cells (Z5 n sa sc) 47) (.cells (Z5 Zh none 0) 47) (.cells (Z5 n sa sc) 47));unfold Yh.val;go_enter Tryz.func165,Tryz.ntmps165;go_wp2_with (first
  |(refine wpList_load_row rfl 47 _ rfl (w.heap.size+1) rfl 47 (Z5 n sa sc) (0,0) _ ?hg Tryz.underlying47 rfl I43.out ?_;case hg=>(first | exact G5.out _ | exact G5'.out _ _))
  |(refine Zr _ rfl 47 _ _ rfl (w.heap.size+3) ?hp _ (Z5 n sa sc) rfl rfl I43.out rfl h43 ?_;case hp=>simp))
 simp only[<-YI];clear G5 G5';generalize hW:(((w.alloc (zF f 174)).alloc (.cells (Z5 n sa sc) 47)).alloc (.cells (Z5 Zh none 0) 47)).alloc (.cells (Z5 n sa sc) 47)=W0 at *;obtain⟨⟨e0,e1,e2,e3⟩,hb0,hp3⟩:=FB.out;clear hW FB;generalize hp0:w.heap.size=p0 at *;generalize hp1:p0+1=p1 at *;generalize hp2:p1+1=p2 at *;generalize hp3e:p2+1=p3 at *;have OR:=zH (show p0 < p1/\p1 < p2/\p2 < p3/\p3 < W0.heap.size by omega);have HP0:=zH hp0;clear hp0 hp1 hp2 hp3e hp3;refine(Zc0 n sa sc _).mono ?_;rintro e w1 ⟨rfl,b1⟩;have L1:=zH ((Loc.mk e0 e1 e2 e3 hb0 (by have:=OR.out;omega):Loc w W0 p0 p1 p2 p3 f n sa sc (Z5 n sa sc)).below b1);clear OR b1 hb0 e0 e1 e2 e3;have hlt3:p3 < w1.heap.size:=(Array.getElem?_eq_some_iff.1 L1.out.e3).1;have hlt1:p1 < w1.heap.size:=(Array.getElem?_eq_some_iff.1 L1.out.e1).1;have hlt0:p0 < w1.heap.size:=(Array.getElem?_eq_some_iff.1 L1.out.e0).1;have k5:=zc L1.out.e3 5 _ rfl;have f5:=Zi L1.out.e3 5;have k14:=zc L1.out.e3 14 _ rfl;have f14:=Zi L1.out.e3 14;have k15:=zc L1.out.e3 15 _ rfl;have f15:=Zi L1.out.e3 15;go_wp2_with fail;have e4:((((w1.setCell ⟨p3,5,none⟩ (.int .i64 0)).setCell ⟨p3,14,none⟩ (.int .i64 0)).setCell ⟨p3,15,none⟩ (.slice none 0 0)).alloc (.cells #[.int .i64 n.stone,.int .i64 n.ring] 266)).heap[w1.heap.size]? = some (.cells #[.int .i64 n.stone,.int .i64 n.ring] 266):=Zv _ _ _ (by simp[World.setCell]);generalize hWx:((((w1.setCell ⟨p3,5,none⟩ (.int .i64 0)).setCell ⟨p3,14,none⟩ (.int .i64 0)).setCell ⟨p3,15,none⟩ (.slice none 0 0)).alloc (.cells #[.int .i64 n.stone,.int .i64 n.ring] 266))=Wx at *;have L2:=zH (show Loc w Wx p0 p1 p2 p3 f n sa sc (Z5 (Zo 4 n) none 0)from by rw[<-hWx];exact((((L1.out.set 5 (.int .i64 0)).set 14 (.int .i64 0)).set 15 (.slice none 0 0)).alloc (.cells #[.int .i64 n.stone,.int .i64 n.ring] 266)));clear hWx L1;generalize w1.heap.size=p4 at *;have h4:=(Array.getElem?_eq_some_iff.1 e4).1;have E4:=zH e4;clear e4;clear k5 f5;clear k14 f14;clear k15 f15;clear hlt3 hlt1 hlt0;have c00:Wx.cell? ⟨p0,0,none⟩=some (.int .i64 f.rings):=by simp[World.cell?,L2.out.e0]
 have c01:Wx.cell? ⟨p0,1,none⟩=some (.int .i64 f.sectors):=by simp[World.cell?,L2.out.e0]
 have c02:Wx.cell? ⟨p0,2,none⟩=some (.int .i64 f.wide):=by simp[World.cell?,L2.out.e0]
 have c40:Wx.cell? ⟨p4,0,none⟩=some (.int .i64 n.stone):=by simp[World.cell?,E4.out]
 have c41:Wx.cell? ⟨p4,1,none⟩=some (.int .i64 n.ring):=by simp[World.cell?,E4.out]
 have c110:=zc L2.out.e1 10 _ rfl;have c111:=zc L2.out.e1 11 _ rfl;have c115:=zc L2.out.e1 15 _ rfl;have hr1:f.rings<=24:=VF.out.2.1;have hr0:1<=f.rings:=VF.out.1;refine(Yf n.stone 0 1 _).mono ?_;rintro e w3 ⟨rfl,rfl⟩;cases h1:JC n.stone 0 1
 ·go_upto_region 25 with fail;have hR:ZY f 4 n=false:=by simp only[ZY];simp[h1]
  have HRR:=zH hR;clear hR;have i43':(zq.info? 47).map (·.size)=some (Z5 (Zo 4 n) none 0).size:=by kernel_rfl
  have o43':=Zm (Zo 4 n) none 0;have I43':=zH i43';clear i43';have DN:=zH (L2.out.done (Z5 (Zo 4 n) none 0));go_wp2_with (first
   |(refine zL p3 L2.out.e3 ?_)
   |(refine zN p2 (Z5 (Zo 4 n) none 0) L2.out.e2 ?_))
  (try simp only[Exit.inBlock,Exit.then])
  refine zr DN.out.1 ?_;rw[HRR.out];exact⟨rfl,by rw[HP0.out];exact DN.out.2⟩
 ·have H1:=zH h1;go_wp2_with fail;refine(Yf n.ring 0 (f.rings - 1) _).mono ?_;rintro e w3 ⟨rfl,rfl⟩;cases h2:JC n.ring 0 (f.rings - 1)
  focus
   go_upto_region 25 with fail;have hR:ZY f 4 n=false:=by simp only[ZY];simp[h2]
   have HRR:=zH hR;clear hR;have i43':(zq.info? 47).map (·.size)=some (Z5 (Zo 4 n) none 0).size:=by kernel_rfl
   have o43':=Zm (Zo 4 n) none 0;have I43':=zH i43';clear i43';have DN:=zH (L2.out.done (Z5 (Zo 4 n) none 0));go_wp2_with (first
    |(refine zL p3 L2.out.e3 ?_)
    |(refine zN p2 (Z5 (Zo 4 n) none 0) L2.out.e2 ?_))
  rotate_left
  focus
   have H2:=zH h2;go_wp2_with fail;refine(Z67 f.rings f.sectors f.wide sa _ sc n.strokes _ (hs.below (by rw[HP0.out];exact L2.out.b)) ⟨VF.out.2.2.1,VF.out.2.2.2.1⟩ ⟨VF.out.2.2.2.2.1,VF.out.2.2.2.2.2⟩).mono ?_;rintro e w3 ⟨rfl,b3⟩;have L3:=zH (L2.out.below b3);have hR:ZY f 4 n=XN (f.sectors - f.wide) n.strokes:=by simp only[ZY];simp[h1,h2]
   have HRR:=zH hR;clear hR;have i43':(zq.info? 47).map (·.size)=some (Z5 (Zo 4 n) none 0).size:=by kernel_rfl
   have o43':=Zm (Zo 4 n) none 0;have I43':=zH i43';clear i43';have DN:=zH (L3.out.done (Z5 (Zo 4 n) none 0));go_wp2_with (first
    |(refine zL p3 L3.out.e3 ?_)
    |(refine zN p2 (Z5 (Zo 4 n) none 0) L3.out.e2 ?_))
  all_goals
   (try simp only[Exit.inBlock,Exit.then])
   refine zr DN.out.1 ?_;rw[HRR.out];exact⟨rfl,by rw[HP0.out];exact DN.out.2⟩
theorem ZdY (hv:f.valid=true):Calls zq 165 #[f.val,.int .i64 3,.agg (Z5 n sa sc)] w fun e w'=>e = .returned (.tuple #[.agg (Z5 (Zo 3 n) sa sc),.bool (ZY f 3 n)])/\Below w.heap.size w w':=by
 have hvf:1<=f.rings/\f.rings<=24/\2<=f.sectors/\f.sectors<=96/\1<=f.wide/\f.wide<=f.sectors:=by
  simp only[Yh.valid,Bool.and_eq_true,Yt]at hv;omega
 have VF:=zH hvf;clear hvf hv;have i43:(zq.info? 47).map (·.size)=some (Z5 n sa sc).size:=by kernel_rfl
 have h43:=Zm n sa sc;have I43:=zH i43;clear i43;have s1:(w.alloc (zF f 174)).heap.size=w.heap.size+1:=by simp
 have g5:=fun Z=>Zb ((w.alloc (zF f 174)).alloc (.cells (Z5 n sa sc) 47)) Z _ _ (Zv (w.alloc (zF f 174)) (.cells (Z5 n sa sc) 47) _ s1);have g5':=fun Z Y=>Zb _ Y _ _ (g5 Z);have G5:=zH g5;clear g5 s1;have G5':=zH g5';clear g5';have FB:=zH (Jw w (zF f 174) (.cells (Z5 n sa sc) 47) (.cells (Z5 Zh none 0) 47) (.cells (Z5 n sa sc) 47));unfold Yh.val;go_enter Tryz.func165,Tryz.ntmps165;go_wp2_with (first
  |(refine wpList_load_row rfl 47 _ rfl (w.heap.size+1) rfl 47 (Z5 n sa sc) (0,0) _ ?hg Tryz.underlying47 rfl I43.out ?_;case hg=>(first | exact G5.out _ | exact G5'.out _ _))
  |(refine Zr _ rfl 47 _ _ rfl (w.heap.size+3) ?hp _ (Z5 n sa sc) rfl rfl I43.out rfl h43 ?_;case hp=>simp))
 simp only[<-YI];clear G5 G5';generalize hW:(((w.alloc (zF f 174)).alloc (.cells (Z5 n sa sc) 47)).alloc (.cells (Z5 Zh none 0) 47)).alloc (.cells (Z5 n sa sc) 47)=W0 at *;obtain⟨⟨e0,e1,e2,e3⟩,hb0,hp3⟩:=FB.out;clear hW FB;generalize hp0:w.heap.size=p0 at *;generalize hp1:p0+1=p1 at *;generalize hp2:p1+1=p2 at *;generalize hp3e:p2+1=p3 at *;have OR:=zH (show p0 < p1/\p1 < p2/\p2 < p3/\p3 < W0.heap.size by omega);have HP0:=zH hp0;clear hp0 hp1 hp2 hp3e hp3;refine(Zc1 n sa sc _).mono ?_;rintro e w1 ⟨rfl,b1⟩;have L1:=zH ((Loc.mk e0 e1 e2 e3 hb0 (by have:=OR.out;omega):Loc w W0 p0 p1 p2 p3 f n sa sc (Z5 n sa sc)).below b1);clear OR b1 hb0 e0 e1 e2 e3;have hlt3:p3 < w1.heap.size:=(Array.getElem?_eq_some_iff.1 L1.out.e3).1;have hlt1:p1 < w1.heap.size:=(Array.getElem?_eq_some_iff.1 L1.out.e1).1;have hlt0:p0 < w1.heap.size:=(Array.getElem?_eq_some_iff.1 L1.out.e0).1;have k5:=zc L1.out.e3 5 _ rfl;have f5:=Zi L1.out.e3 5;have k12:=zc L1.out.e3 12 _ rfl;have f12:=Zi L1.out.e3 12;have k13:=zc L1.out.e3 13 _ rfl;have f13:=Zi L1.out.e3 13;have k10:=zc L1.out.e3 10 _ rfl;have f10:=Zi L1.out.e3 10;have k11:=zc L1.out.e3 11 _ rfl;have f11:=Zi L1.out.e3 11;go_wp2_with fail;have e4:((((((w1.setCell ⟨p3,5,none⟩ (.int .i64 0)).setCell ⟨p3,12,none⟩ (.int .i64 0)).setCell ⟨p3,13,none⟩ (.int .i64 0)).setCell ⟨p3,10,none⟩ (.int .i64 0)).setCell ⟨p3,11,none⟩ (.int .i64 0)).alloc (.cells #[.int .i64 n.stone,.int .i64 n.a,.int .i64 n.b] 263)).heap[w1.heap.size]? = some (.cells #[.int .i64 n.stone,.int .i64 n.a,.int .i64 n.b] 263):=Zv _ _ _ (by simp[World.setCell]);generalize hWx:((((((w1.setCell ⟨p3,5,none⟩ (.int .i64 0)).setCell ⟨p3,12,none⟩ (.int .i64 0)).setCell ⟨p3,13,none⟩ (.int .i64 0)).setCell ⟨p3,10,none⟩ (.int .i64 0)).setCell ⟨p3,11,none⟩ (.int .i64 0)).alloc (.cells #[.int .i64 n.stone,.int .i64 n.a,.int .i64 n.b] 263))=Wx at *;have L2:=zH (show Loc w Wx p0 p1 p2 p3 f n sa sc (Z5 (Zo 3 n) sa sc)from by rw[<-hWx];exact((((((L1.out.set 5 (.int .i64 0)).set 12 (.int .i64 0)).set 13 (.int .i64 0)).set 10 (.int .i64 0)).set 11 (.int .i64 0)).alloc (.cells #[.int .i64 n.stone,.int .i64 n.a,.int .i64 n.b] 263)))
 clear hWx L1;generalize w1.heap.size=p4 at *;have h4:=(Array.getElem?_eq_some_iff.1 e4).1;have E4:=zH e4;clear e4;clear k5 f5;clear k12 f12;clear k13 f13;clear k10 f10;clear k11 f11;clear hlt3 hlt1 hlt0;have c00:Wx.cell? ⟨p0,0,none⟩=some (.int .i64 f.rings):=by simp[World.cell?,L2.out.e0]
 have c01:Wx.cell? ⟨p0,1,none⟩=some (.int .i64 f.sectors):=by simp[World.cell?,L2.out.e0]
 have c02:Wx.cell? ⟨p0,2,none⟩=some (.int .i64 f.wide):=by simp[World.cell?,L2.out.e0]
 have c40:Wx.cell? ⟨p4,0,none⟩=some (.int .i64 n.stone):=by simp[World.cell?,E4.out]
 have c41:Wx.cell? ⟨p4,1,none⟩=some (.int .i64 n.a):=by simp[World.cell?,E4.out]
 have c42:Wx.cell? ⟨p4,2,none⟩=some (.int .i64 n.b):=by simp[World.cell?,E4.out]
 have c110:=zc L2.out.e1 10 _ rfl;have c111:=zc L2.out.e1 11 _ rfl;have c115:=zc L2.out.e1 15 _ rfl;refine(Yf n.stone 0 1 _).mono ?_;rintro e w3 ⟨rfl,rfl⟩;cases h1:JC n.stone 0 1
 ·go_upto_region 25 with fail;have hR:ZY f 3 n=false:=by simp only[ZY];simp[Z06,h1]
  have HRR:=zH hR;clear hR;have i43':(zq.info? 47).map (·.size)=some (Z5 (Zo 3 n) sa sc).size:=by kernel_rfl
  have o43':=Zm (Zo 3 n) sa sc;have I43':=zH i43';clear i43';have DN:=zH (L2.out.done (Z5 (Zo 3 n) sa sc));go_wp2_with (first
   |(refine zL p3 L2.out.e3 ?_)
   |(refine zN p2 (Z5 (Zo 3 n) sa sc) L2.out.e2 ?_))
  (try simp only[Exit.inBlock,Exit.then])
  refine zr DN.out.1 ?_;rw[HRR.out];exact⟨rfl,by rw[HP0.out];exact DN.out.2⟩
 ·have H1:=zH h1;go_wp2_with fail;refine(Z7G f.rings f.sectors f.wide n.a _ ⟨VF.out.1,VF.out.2.1⟩ ⟨VF.out.2.2.1,VF.out.2.2.2.1⟩).mono ?_;rintro e wa ⟨rfl,ba⟩;have LA:=zH (L2.out.below ba);have E4A:=zH ((ba.block p4 (Array.getElem?_eq_some_iff.1 E4.out).1).trans E4.out);have c00_wa:wa.cell? ⟨p0,0,none⟩=some (.int .i64 f.rings):=by simp[World.cell?,LA.out.e0]
  have c01_wa:wa.cell? ⟨p0,1,none⟩=some (.int .i64 f.sectors):=by simp[World.cell?,LA.out.e0]
  have c02_wa:wa.cell? ⟨p0,2,none⟩=some (.int .i64 f.wide):=by simp[World.cell?,LA.out.e0]
  have c40_wa:wa.cell? ⟨p4,0,none⟩=some (.int .i64 n.stone):=by simp[World.cell?,E4A.out]
  have c41_wa:wa.cell? ⟨p4,1,none⟩=some (.int .i64 n.a):=by simp[World.cell?,E4A.out]
  have c42_wa:wa.cell? ⟨p4,2,none⟩=some (.int .i64 n.b):=by simp[World.cell?,E4A.out]
  have c110_wa:=zc LA.out.e1 10 _ rfl;have c111_wa:=zc LA.out.e1 11 _ rfl;have c115_wa:=zc LA.out.e1 15 _ rfl;cases h2:JC n.a 0 (f.rings * f.sectors - 1)
  ·go_upto_region 25 with fail;have hR:ZY f 3 n=false:=by simp only[ZY];simp[Z06,h2]
   have HRR:=zH hR;clear hR;have i43':(zq.info? 47).map (·.size)=some (Z5 (Zo 3 n) sa sc).size:=by kernel_rfl
   have o43':=Zm (Zo 3 n) sa sc;have I43':=zH i43';clear i43';have DN:=zH (LA.out.done (Z5 (Zo 3 n) sa sc));go_wp2_with (first
    |(refine zL p3 LA.out.e3 ?_)
    |(refine zN p2 (Z5 (Zo 3 n) sa sc) LA.out.e2 ?_))
   (try simp only[Exit.inBlock,Exit.then])
   refine zr DN.out.1 ?_;rw[HRR.out];exact⟨rfl,by rw[HP0.out];exact DN.out.2⟩
  ·have H2:=zH h2;by_cases hb1:n.b = -1
   ·have q1:(n.b == -1)=true:=by simp[hb1]
    have q1':decide (n.b = -1)=true:=by simp[hb1]
    have HB1:=zH hb1;clear hb1;by_cases hne:n.a=n.b
    focus
     have q2:(n.a != n.b)=false:=by simp[hne]
     have q2':decide (n.a=n.b)=true:=by simp[hne]
     have HNE:=zH hne;clear hne;go_upto_region 25 with fail;have hR:ZY f 3 n=false:=by simp only[ZY];simp[Z06,h1,h2,q1',HNE.out]
     have HRR:=zH hR;clear hR;have i43':(zq.info? 47).map (·.size)=some (Z5 (Zo 3 n) sa sc).size:=by kernel_rfl
     have o43':=Zm (Zo 3 n) sa sc;have I43':=zH i43';clear i43';have DN:=zH (LA.out.done (Z5 (Zo 3 n) sa sc));go_wp2_with (first
      |(refine zL p3 LA.out.e3 ?_)
      |(refine zN p2 (Z5 (Zo 3 n) sa sc) LA.out.e2 ?_))
    rotate_left
    focus
     have q2:(n.a != n.b)=true:=by simp[hne]
     have q2':decide (n.a=n.b)=false:=by simp[hne]
     have HNE:=zH hne;clear hne;go_wp2_with fail;refine(Z20 n.diffLo n.diffHi (-1000000000) 1000000000 _).mono ?_;rintro e w9 ⟨rfl,b9⟩;have L9:=zH (LA.out.below b9);have hR:ZY f 3 n=Jr n.diffLo n.diffHi (-1000000000) 1000000000:=by simp only[ZY];simp[Z06,h1,h2,q1',HNE.out]
     have HRR:=zH hR;clear hR;have i43':(zq.info? 47).map (·.size)=some (Z5 (Zo 3 n) sa sc).size:=by kernel_rfl
     have o43':=Zm (Zo 3 n) sa sc;have I43':=zH i43';clear i43';have DN:=zH (L9.out.done (Z5 (Zo 3 n) sa sc));go_wp2_with (first
      |(refine zL p3 L9.out.e3 ?_)
      |(refine zN p2 (Z5 (Zo 3 n) sa sc) L9.out.e2 ?_))
    all_goals
     (try simp only[Exit.inBlock,Exit.then])
     refine zr DN.out.1 ?_;rw[HRR.out];exact⟨rfl,by rw[HP0.out];exact DN.out.2⟩
   ·have q1:(n.b == -1)=false:=by simp[hb1]
    have q1':decide (n.b = -1)=false:=by simp[hb1]
    have HB1:=zH hb1;clear hb1;go_wp2_with fail;refine(Z7G f.rings f.sectors f.wide n.b _ ⟨VF.out.1,VF.out.2.1⟩ ⟨VF.out.2.2.1,VF.out.2.2.2.1⟩).mono ?_;rintro e wb ⟨rfl,bb⟩;have LB:=zH (LA.out.below bb);have E4B:=zH ((bb.block p4 (Array.getElem?_eq_some_iff.1 E4A.out).1).trans E4A.out);have c00_wb:wb.cell? ⟨p0,0,none⟩=some (.int .i64 f.rings):=by simp[World.cell?,LB.out.e0]
    have c01_wb:wb.cell? ⟨p0,1,none⟩=some (.int .i64 f.sectors):=by simp[World.cell?,LB.out.e0]
    have c02_wb:wb.cell? ⟨p0,2,none⟩=some (.int .i64 f.wide):=by simp[World.cell?,LB.out.e0]
    have c40_wb:wb.cell? ⟨p4,0,none⟩=some (.int .i64 n.stone):=by simp[World.cell?,E4B.out]
    have c41_wb:wb.cell? ⟨p4,1,none⟩=some (.int .i64 n.a):=by simp[World.cell?,E4B.out]
    have c42_wb:wb.cell? ⟨p4,2,none⟩=some (.int .i64 n.b):=by simp[World.cell?,E4B.out]
    have c110_wb:=zc LB.out.e1 10 _ rfl;have c111_wb:=zc LB.out.e1 11 _ rfl;have c115_wb:=zc LB.out.e1 15 _ rfl;cases h3:JC n.b 0 (f.rings * f.sectors - 1)
    ·go_upto_region 25 with fail;have hR:ZY f 3 n=false:=by simp only[ZY];simp[Z06,h1,h2,h3,q1']
     have HRR:=zH hR;clear hR;have i43':(zq.info? 47).map (·.size)=some (Z5 (Zo 3 n) sa sc).size:=by kernel_rfl
     have o43':=Zm (Zo 3 n) sa sc;have I43':=zH i43';clear i43';have DN:=zH (LB.out.done (Z5 (Zo 3 n) sa sc));go_wp2_with (first
      |(refine zL p3 LB.out.e3 ?_)
      |(refine zN p2 (Z5 (Zo 3 n) sa sc) LB.out.e2 ?_))
     (try simp only[Exit.inBlock,Exit.then])
     refine zr DN.out.1 ?_;rw[HRR.out];exact⟨rfl,by rw[HP0.out];exact DN.out.2⟩
    ·have H3:=zH h3;by_cases hne:n.a=n.b
     focus
      have q2:(n.a != n.b)=false:=by simp[hne]
      have q2':decide (n.a=n.b)=true:=by simp[hne]
      have HNE:=zH hne;clear hne;go_upto_region 25 with fail;have hR:ZY f 3 n=false:=by simp only[ZY];simp[Z06,h1,h2,h3,q1',HNE.out]
      have HRR:=zH hR;clear hR;have i43':(zq.info? 47).map (·.size)=some (Z5 (Zo 3 n) sa sc).size:=by kernel_rfl
      have o43':=Zm (Zo 3 n) sa sc;have I43':=zH i43';clear i43';have DN:=zH (LB.out.done (Z5 (Zo 3 n) sa sc));go_wp2_with (first
       |(refine zL p3 LB.out.e3 ?_)
       |(refine zN p2 (Z5 (Zo 3 n) sa sc) LB.out.e2 ?_))
     rotate_left
     focus
      have q2:(n.a != n.b)=true:=by simp[hne]
      have q2':decide (n.a=n.b)=false:=by simp[hne]
      have HNE:=zH hne;clear hne;go_wp2_with fail;refine(Z20 n.diffLo n.diffHi (-1000000000) 1000000000 _).mono ?_;rintro e w9 ⟨rfl,b9⟩;have L9:=zH (LB.out.below b9);have hR:ZY f 3 n=Jr n.diffLo n.diffHi (-1000000000) 1000000000:=by simp only[ZY];simp[Z06,h1,h2,h3,q1',HNE.out]
      have HRR:=zH hR;clear hR;have i43':(zq.info? 47).map (·.size)=some (Z5 (Zo 3 n) sa sc).size:=by kernel_rfl
      have o43':=Zm (Zo 3 n) sa sc;have I43':=zH i43';clear i43';have DN:=zH (L9.out.done (Z5 (Zo 3 n) sa sc));go_wp2_with (first
       |(refine zL p3 L9.out.e3 ?_)
       |(refine zN p2 (Z5 (Zo 3 n) sa sc) L9.out.e2 ?_))
     all_goals
      (try simp only[Exit.inBlock,Exit.then])
      refine zr DN.out.1 ?_;rw[HRR.out];exact⟨rfl,by rw[HP0.out];exact DN.out.2⟩
end
theorem Uw {P:Program}{ops:Array Oper}{rest:List Oper}{o:Oper}{a:Act}{w:World}{Q:Exit->Act->World->Prop}(hw:Region.wanted o (yielded ops a.tmps)=true)(ty:TypeId)(x:Operand)(ho:o.op = .load ty x)
  (g:Nat) (hx:a.eval x = .pointer (some ⟨g,0,none⟩)) (t:TypeId) (cs:ZV) (fr:Nat×Nat) (d:TypeDesc) (hg:w.heap[g]? = some (.cells cs t fr))
  (hu:P.underlying ty=some d) (hd:(match d with | .struct _ | .array _ _=>true | _=>false)=true) (hi:(P.info? ty).map (·.size)=some cs.size)
  (h:wpList P ops Q rest (a.put o.dst (.agg cs)) w):wpList P ops Q (o :: rest) a w:=
 wpList_step fun _ hK=>by rw[if_pos hw];exact wp_load_row ty x ho g hx t cs fr d hg hu hd hi (hK _ _ h)
theorem Z1p (f:Yh)(n:Z8)(sa:zA)(sc:Nat)(w:World)(hv:f.valid=true)(hs:XU w sa n.strokes.length sc n.strokes)(k:Int):
  Calls zq 165 #[f.val,.int .i64 k,.agg (Z5 n sa sc)] w fun e w' => ∃ta tc,e = .returned (.tuple #[.agg (Z5 (Zo k n) ta tc),.bool (ZY f k n)]) /\
   (ta=sa/\tc=sc/\(Zo k n).strokes=n.strokes\/ta=none/\tc=0/\(Zo k n).strokes=[])/\Below w.heap.size w w':=by
 by_cases hk:1<=k/\k<=6
 ·have hk':k=1\/k=2\/k=3\/k=4\/k=5\/k=6:=by omega
  rcases hk' with rfl | rfl | rfl | rfl | rfl | rfl
  ·refine(Ze0 f n sa sc w).mono ?_;rintro e w' ⟨rfl,hb⟩;exact⟨sa,sc,rfl,.inl ⟨rfl,rfl,rfl⟩,hb⟩
  ·refine(ZdZ f n sa sc w).mono ?_;rintro e w' ⟨rfl,hb⟩;exact⟨sa,sc,rfl,.inl ⟨rfl,rfl,rfl⟩,hb⟩
  ·refine(ZdY f n sa sc w hv).mono ?_;rintro e w' ⟨rfl,hb⟩;exact⟨sa,sc,rfl,.inl ⟨rfl,rfl,rfl⟩,hb⟩
  ·refine(ZdX f n sa sc w hv hs).mono ?_;rintro e w' ⟨rfl,hb⟩;exact⟨none,0,rfl,.inr ⟨rfl,rfl,rfl⟩,hb⟩
  ·refine(ZdW f n sa sc w).mono ?_;rintro e w' ⟨rfl,hb⟩;exact⟨sa,sc,rfl,.inl ⟨rfl,rfl,rfl⟩,hb⟩
  ·refine(ZdV f n sa sc w).mono ?_;rintro e w' ⟨rfl,hb⟩;exact⟨sa,sc,rfl,.inl ⟨rfl,rfl,rfl⟩,hb⟩
 ·refine(Ze1 f n sa sc w k hk).mono ?_;rintro e w' ⟨rfl,hb⟩;refine⟨sa,sc,rfl,.inl ⟨rfl,rfl,?_⟩,hb⟩;rw[Z2I hk]
theorem Z3d {k:Int}{n:Z8}{sa ta:zA}{sc tc:Nat}(h:ta=sa/\tc=sc/\(Zo k n).strokes=n.strokes\/ta=none/\tc=0/\(Zo k n).strokes=[]){W:World}(hs:XU W sa n.strokes.length sc n.strokes):
  XU W ta (Zo k n).strokes.length tc (Zo k n).strokes:=by
 rcases h with ⟨rfl,rfl,h⟩ | ⟨rfl,rfl,h⟩
 ·rw[h];exact hs
 ·rw[h];exact ZW.nil W 1
def UC (n:Z8):Z8:=
 if n.kind=2 then { Zo n.kind n with refH:=0,refN:=0 } else if n.kind=5 then { Zo n.fix (Zo n.kind n)with fix:=0 } else Zo n.kind n
def Qq (n:Z8):Z8 := { UC n with house:=0,num:=0,clock:=0,day:=0,kind:=0 }
def okB (f:Yh)(n:Z8):Bool:=
 if n.kind=2 then ZY f n.kind n && ZF n.refH n.refN else if n.kind=5 then ZY f n.kind n && (ZY f n.fix (Zo n.kind n) && JC n.fix 1 4)else ZY f n.kind n
def Zg (f:Yh)(n:Z8):Bool:=okB f n && (ZF n.house n.num && (JC n.clock 1 1099511627776 && (JC n.day 0 99999 && XI (Qq n) Zh)))
structure Vd (w W:World)(p0 p1 p2:Nat)(f:Yh)(n:Z8)(sa:zA)(sc:Nat)(C:ZV):Prop where
 e0:W.heap[p0]? = some (.cells #[.int .i64 f.rings,.int .i64 f.sectors,.int .i64 f.wide] 174)
 e1:W.heap[p1]? = some (.cells (Z5 n sa sc) 47)
 e2:W.heap[p2]? = some (.cells C 47)
 b:Below p0 w W
 lt:p0 < p1/\p1 < p2
section
variable {w W W':World}{p0 p1 p2:Nat}{f:Yh}{n:Z8}{sa:zA}{sc:Nat}{C:ZV}
theorem Vd.below (h:Vd w W p0 p1 p2 f n sa sc C)(hb:Below W.heap.size W W'):Vd w W' p0 p1 p2 f n sa sc C:=by
 have g : ∀{k:Nat} {o:Obj},W.heap[k]? = some o->W'.heap[k]? = some o:=fun {k o} hk=>(hb.block k (Array.getElem?_eq_some_iff.1 hk).1).trans hk;have h0:=(Array.getElem?_eq_some_iff.1 h.e0).1;exact⟨g h.e0,g h.e1,g h.e2,h.b.trans (hb.mono (by omega)),h.lt⟩
theorem Vd.alloc (h:Vd w W p0 p1 p2 f n sa sc C)(o:Obj):Vd w (W.alloc o) p0 p1 p2 f n sa sc C:=h.below (zB _ _)
theorem Vd.set (h:Vd w W p0 p1 p2 f n sa sc C)(j:Nat)(v:Value):Vd w (W.setCell ⟨p2,j,none⟩ v) p0 p1 p2 f n sa sc (C.setIfInBounds j v):=by
 have g : ∀{k:Nat},k≠p2->(W.setCell ⟨p2,j,none⟩ v).heap[k]? = W.heap[k]? := fun {k} hk=>Below.heap_setCell W ⟨p2,j,none⟩ v k hk;have hl:=h.lt;exact⟨(g (by omega)).trans h.e0,(g (by omega)).trans h.e1,heap_setCell_same W p2 j C 47 v h.e2,h.b.trans ⟨rfl,rfl,rfl,by simp[World.setCell],fun k hk=>g (by omega)⟩,h.lt⟩
theorem Vd.setRow (h:Vd w W p0 p1 p2 f n sa sc C)(C':ZV):Vd w (W.setRow p2 C') p0 p1 p2 f n sa sc C':=by
 have hl:=h.lt;exact⟨(setRow_other W p2 p0 C' (by omega)).trans h.e0,(setRow_other W p2 p1 C' (by omega)).trans h.e1,setRow_heap W p2 _ C' _ _ h.e2,h.b.trans ⟨rfl,rfl,rfl,by simp,fun k hk=>setRow_other W p2 k C' (by omega)⟩,h.lt⟩
end
def Ja (n:Z8):Z8 := { n with house:=0,num:=0,clock:=0,day:=0,kind:=0,refH:=0,refN:=0,fix:=0 }
def Jz (k:Int)(n:Z8):Z8:=
 if k=1 then { Ja n with hardLo:=0,hardHi:=0 } else if k=2 then { Ja n with turns:=0 } else if k=3 then { Ja n with stone:=0,a:=0,b:=0,diffLo:=0,diffHi:=0 }
 else if k=4 then { Ja n with stone:=0,ring:=0,strokes:=[] } else Ja n
section
attribute [local go_sem] ZS X9 XZ QP XJ QO QN QM Vp Vn Qi Qh JS JR JQ XQ J9 J8 Jt Z3T Z3S Z3R Z3Q Z3P Z3O Z3N Z3M Z3L Z3K Z2h Z2g Z2f Z2e Z2d Z2c Z2b Z2a Z29
variable (n:Z8)(sa:zA)(sc:Nat)(w:World)
end
def Xc (f:Yh)(k:Int)(n:Z8):Bool:=
 if k=1 then Jr n.hardLo n.hardHi 1 255 else if k=2 then JC n.turns 1 10000
 else if k=3 then JC n.stone 0 1 && (JC n.a 0 (f.rings * f.sectors - 1) && (JC n.b (-1) (f.rings * f.sectors - 1) && (decide (n.a≠n.b) && Jr n.diffLo n.diffHi (-1000000000) 1000000000)))
 else if k=4 then JC n.stone 0 1 && (JC n.ring 0 (f.rings - 1) && XN (f.sectors - f.wide) n.strokes)
 else false
section
attribute [local go_sem] ZS X9 XZ QP XJ QO QN QM Vp Vn Qi Qh JS JR JQ XQ J9 J8 Jt
variable (f:Yh)(n:Z8)(sa:zA)(sc:Nat)(w:World)
end
def X8 (n:Z8):Bool:=decide (n.kind=2) ||(decide (n.kind=5) || decide (n.kind=6))
def J0 (n:Z8):Bool := !decide (n.refH=0/\n.refN=0)
def U9 (f:Yh)(n:Z8):Bool:=
 ZF n.house n.num && (JC n.clock 1 1099511627776 && (JC n.day 0 99999 && (!(X8 n != J0 n) && (!(X8 n && !ZF n.refH n.refN) &&
 (if n.kind=6 then decide (n.fix=0) && XI (Jz 0 n) Zh else if n.kind=5 then Xc f n.fix n && XI (Jz n.fix n) Zh
  else decide (n.fix=0) && (Xc f n.kind n && XI (Jz n.kind n) Zh))))))
theorem ZcW {f:Yh}(hv:f.valid=true)(x:Int):(decide (x = -1) || Z06 f x)=JC x (-1) (f.rings * f.sectors - 1):=by
 have hvf:1<=f.rings/\f.rings<=24/\2<=f.sectors/\f.sectors<=96/\1<=f.wide/\f.wide<=f.sectors:=by
  simp only[Yh.valid,Bool.and_eq_true,Yt]at hv;omega
 have hm1:0 < f.rings * f.sectors:=Int.mul_pos (by omega) (by omega);rw[Bool.eq_iff_iff];simp only[Bool.or_eq_true,decide_eq_true_eq,Z06,Yt];omega
theorem Va (x:Z8):XI x Zh=decide (x.house=0/\x.num=0/\x.clock=0/\x.day=0/\x.kind=0/\x.stone=0/\x.heap=0/\x.turns=0/\x.hardLo=0/\x.hardHi=0/\x.diffLo=0/\x.diffHi=0/\x.a=0/\x.b=0/\x.ring=0/\x.refH=0/\x.refN=0/\x.fix=0/\x.strokes=[]):=by
 obtain⟨x0,x1,x2,x3,x4,x5,x6,x7,x8,x9,x10,x11,x12,x13,x14,x15,x16,x17,l⟩:=x;simp only[XI,Qy,Zh];grind
theorem Z3F {h m:Int}(e:ZF h m=true): ¬(h=0/\m=0):=by
 simp only[ZF,Bool.and_eq_true,Yt]at e;omega
theorem Z0j {f:Yh}(hv:f.valid=true)(n:Z8):Zg f n=U9 f n:=by
 have hc:=ZcW hv;have ha:Z06 f n.a=JC n.a 0 (f.rings * f.sectors - 1):=rfl;simp only[Zg,U9,okB,Va];have hn := @Z3F n.refH n.refN;by_cases h1:n.kind=1
 ·simp[h1,Qq,UC,Zo,Jz,Ja,ZY,Xc,X8,J0];grind
 by_cases h2:n.kind=2
 ·simp[h2,Qq,UC,Zo,Jz,Ja,ZY,Xc,X8,J0];grind
 by_cases h3:n.kind=3
 ·simp[h3,Qq,UC,Zo,Jz,Ja,ZY,Xc,X8,J0,<-hc];grind
 by_cases h4:n.kind=4
 ·simp[h4,Qq,UC,Zo,Jz,Ja,ZY,Xc,X8,J0];grind
 by_cases h6:n.kind=6
 ·simp[h6,Qq,UC,Zo,Jz,Ja,ZY,Xc,X8,J0];grind
 by_cases h5:n.kind=5
 ·by_cases g1:n.fix=1
  ·simp[h5,g1,Qq,UC,Zo,Jz,Ja,ZY,Xc,X8,J0,JC];grind
  by_cases g2:n.fix=2
  ·simp[h5,g2,Qq,UC,Zo,Jz,Ja,ZY,Xc,X8,J0,JC];grind
  by_cases g3:n.fix=3
  ·simp[h5,g3,Qq,UC,Zo,Jz,Ja,ZY,Xc,X8,J0,<-hc,show JC 3 1 4=true from rfl];grind
  by_cases g4:n.fix=4
  ·simp[h5,g4,Qq,UC,Zo,Jz,Ja,ZY,Xc,X8,J0,JC];grind
  have hf:JC n.fix 1 4=false:=by rw[<-Bool.not_eq_true,Yt];omega
  simp[h5,g1,g2,g3,g4,Xc,hf]
 simp[h1,h2,h3,h4,h5,h6,ZY,Xc]
def Z1c (u:Nat):zU:=if u < 128 then [UInt8.ofNat u]else UInt8.ofNat (u % 128+128) :: Z1c (u / 128)
termination_by u
decreasing_by omega
theorem Z3k {u:Nat}(h:u < 128):Z1c u=[UInt8.ofNat u]:=by rw[Z1c,if_pos h]
theorem Z3l {u:Nat}(h:128<=u):Z1c u=UInt8.ofNat (u % 128+128) :: Z1c (u / 128):=by rw[Z1c,if_neg (by omega)]
def zig (z:Int):Nat:=if 0<=z then (2 * z).toNat else (-2 * z - 1).toNat
def zag (u:Nat):Int:=if u % 2=0 then (u / 2:Nat)else -((u / 2:Nat):Int) - 1
theorem Zcr (z:Int):zag (zig z)=z:=by
 unfold zig zag;split <;> split <;> omega
def Zea (i u:Nat):zU->Option (Nat×zU)
 | []=>none
 | c :: t=>if i=9/\1 < c.toNat\/0 < i/\c.toNat=0 then none else if c.toNat < 128 then some (u+c.toNat % 128 * 128 ^ i,t)else Zea (i+1) (u+c.toNat % 128 * 128 ^ i) t
def Z0J (i u:Nat):zU->Option (Nat×zU)
 | []=>none
 | c :: t=>if 9<=i then none else if c.toNat < 128 then some (u+c.toNat % 128 * 128 ^ i,t)else Z0J (i+1) (u+c.toNat % 128 * 128 ^ i) t
theorem Uz {n:Nat}(h:n < 256):(UInt8.ofNat n).toNat=n:=by
 simp only[UInt8.toNat_ofNat'];omega
theorem Z7A (m:Nat): ∀(i u:Nat) (t:zU),i<=8->m * 128 ^ i < 2 ^ 63->Z0J i u (Z1c m ++ t)=some (u+m * 128 ^ i,t):=by
 induction m using Nat.strongRecOn with
 | ind m ih=>
  intro i u t hi hm;by_cases h:m < 128
  ·rw[Z3k h,List.singleton_append,Z0J,Uz (by omega),if_neg (by omega),if_pos h,Nat.mod_eq_of_lt h]
  ·have h8:i≠8:=fun h=>by subst h;omega
   rw[Z3l (by omega),List.cons_append,Z0J,Uz (by omega),if_neg (by omega),if_neg (by omega),show(m % 128+128) % 128=m % 128 by omega];have e:m / 128 * 128 ^ (i+1)+m % 128 * 128 ^ i=m * 128 ^ i:=by
    rw[Nat.pow_succ,<-Nat.mul_assoc,Nat.mul_comm _ 128,<-Nat.mul_assoc,<-Nat.add_mul];congr 1;omega
   rw[ih (m / 128) (by omega) (i+1) _ t (by omega) (by omega),<-e];simp only[Option.some.injEq,Prod.mk.injEq,and_true];omega
def far:Int:=4611686018427387904
def Ym (z:Int):Prop := -far<=z/\z < far
theorem Z9d {z:Int}: zig z < 2 ^ 63↔Ym z:=by
 unfold zig Ym far;split <;> omega
def XE (z:Int):zU:=Z1c (zig z)
def ZA (l:List Int):zU:=l.flatMap XE
def Ze3 (l:zU):Option (Int×zU):=match Zea 0 0 l with
 | some (u,t)=>if u < 2 ^ 63 then some (zag u,t)else none
 | none=>none
def Xo (l:zU):Option (Int×zU):=match Z0J 0 0 l with
 | some (u,t)=>some (zag u,t)
 | none=>none
theorem QT {z:Int}(hz:Ym z)(t:zU):Xo (XE z ++ t)=some (z,t):=by
 have h:=Z9d.2 hz;unfold Xo XE;rw[Z7A (zig z) 0 0 t (by omega) (by omega)];simp only[Nat.pow_zero,Nat.mul_one,Nat.zero_add,Zcr]
def XT (f:zU->Option (Int×zU)):Nat->zU->Option (List Int×zU)
 | 0,l=>some ([],l)
 | k+1,l=>match XT f k l with
  | some (xs,t)=>match f t with
   | some (z,t')=>some (xs ++ [z],t')
   | none=>none
  | none=>none
theorem VK {f:zU->Option (Int×zU)}: ∀(k:Nat) (l:zU) (xs:List Int) (t:zU),XT f k l=some (xs,t)->xs.length=k
 | 0,l,xs,t,h=>by simp only[XT,Option.some.injEq,Prod.mk.injEq]at h;rw[<-h.1];rfl
 | k+1,l,xs,t,h=>by
  rw[XT]at h
  split at h
  ·rename_i ys t1 e
   split at h
   ·simp only[Option.some.injEq,Prod.mk.injEq]at h
    rw[<-h.1,List.length_append,VK k l ys t1 e]
    rfl
   ·cases h
  ·cases h
theorem Z0m (x y:List Int):ZA (x ++ y)=ZA x ++ ZA y:=by simp[ZA]
theorem Jy (z:Int):ZA [z]=XE z:=by simp[ZA]
theorem Z2O {f:zU->Option (Int×zU)}(hf : ∀z,Ym z -> ∀t,f (XE z ++ t)=some (z,t))(xs:List Int): ∀(k:Nat),k<=xs.length->(∀z∈xs,Ym z) -> ∀t,XT f k (ZA (xs.take k) ++ t)=some (xs.take k,t)
 | 0,_,_,t=>by simp[XT,ZA]
 | k+1,hk,hs,t=>by
  have hx:xs.take (k+1)=xs.take k ++ [xs[k]]:=by rw[List.take_append_getElem]
  rw[hx,Z0m,Jy,List.append_assoc,XT,Z2O hf xs k (by omega) hs]
  simp only[hf _ (hs _ (List.getElem_mem _))]
theorem ze {f:zU->Option (Int×zU)}(hf : ∀z,Ym z -> ∀t,f (XE z ++ t)=some (z,t))(xs:List Int)(hs : ∀z∈xs,Ym z)(t:zU):XT f xs.length (ZA xs ++ t)=some (xs,t):=by
 have h:=Z2O hf xs xs.length (Nat.le_refl _) hs t;rwa [List.take_length]at h
theorem Z4n (u:Nat):1<=(Z1c u).length:=by
 unfold Z1c;split <;> simp
theorem Z4o (l:List Int):l.length<=(ZA l).length:=by
 induction l with
 | nil=>simp[ZA]
 | cons z l ih=>
  have h:=Z4n (zig z);rw[show ZA (z :: l)=XE z ++ ZA l from rfl,List.length_append,List.length_cons,XE];omega
def ZX (n:Z8):List Int:=[n.house,n.num,n.clock,n.day,n.kind,n.stone,n.heap,n.turns,n.hardLo,n.hardHi,n.diffLo,n.diffHi,n.a,n.b,n.ring]
def ZQ (n:Z8):List Int:=[n.refH,n.refN,n.fix]
def Y7 (n:Z8):zU:=ZA (ZX n) ++ (XE n.strokes.length ++ (ZA n.strokes ++ ZA (ZQ n)))
def mkN (x y z:List Int):Z8:=⟨x[0]?.getD 0,x[1]?.getD 0,x[2]?.getD 0,x[3]?.getD 0,x[4]?.getD 0,x[5]?.getD 0,x[6]?.getD 0,x[7]?.getD 0,x[8]?.getD 0,x[9]?.getD 0,x[10]?.getD 0,x[11]?.getD 0,x[12]?.getD 0,x[13]?.getD 0,x[14]?.getD 0,z[0]?.getD 0,z[1]?.getD 0,z[2]?.getD 0,y⟩
theorem Zbg (n:Z8):mkN (ZX n) n.strokes (ZQ n)=n:=rfl
def Q9 (f:zU->Option (Int×zU))(l:zU):Option (Z8×zU):=match XT f 15 l with
 | some (x,t)=>match f t with
  | some (c,t1)=>if 0<=c/\c<=t1.length then match XT f c.toNat t1 with
    | some (y,t2)=>match XT f 3 t2 with
     | some (z,t3)=>some (mkN x y z,t3)
     | none=>none
    | none=>none
   else none
  | none=>none
 | none=>none
def Z2A (n:Z8):Prop:=(∀z∈ZX n,Ym z)/\(∀z∈n.strokes,Ym z)/\(∀z∈ZQ n,Ym z)/\Ym n.strokes.length
theorem Z6Y {f:zU->Option (Int×zU)}(hf : ∀z,Ym z -> ∀t,f (XE z ++ t)=some (z,t)){n:Z8}(h:Z2A n)(t:zU):Q9 f (Y7 n ++ t)=some (n,t):=by
 obtain⟨h1,h2,h3,h4⟩:=h;unfold Q9 Y7;simp only[List.append_assoc];have e1:=ze hf (ZX n) h1;rw[show(ZX n).length=15 from rfl]at e1;rw[e1];have hp:=Z4o n.strokes;simp only[hf _ h4,List.length_append];rw[if_pos (by omega),Int.toNat_natCast,ze hf n.strokes h2];have e3:=ze hf (ZQ n) h3;rw[show(ZQ n).length=3 from rfl]at e3;simp only[e3,Zbg]
theorem J4 {f:Yh}(hv:f.valid=true){n:Z8}(h:Zg f n=true):Z2A n:=by
 have hvf:1<=f.rings/\f.rings<=24/\2<=f.sectors/\f.sectors<=96/\1<=f.wide/\f.wide<=f.sectors:=by
  simp only[Yh.valid,Bool.and_eq_true,Yt]at hv;omega
 have hm1:0 < f.rings * f.sectors:=Int.mul_pos (by omega) (by omega);have hm2:f.rings * f.sectors<=24 * 96:=Int.mul_le_mul hvf.2.1 hvf.2.2.2.1 (by omega) (by omega);have hst:n.strokes=[]\/XN (f.sectors - f.wide) n.strokes=true:=by
  rw[Z0j hv]at h;simp only[U9,Va,Jz,Ja,Xc]at h;grind
 have hs:(∀z∈n.strokes,Ym z)/\Ym n.strokes.length:=by
  rcases hst with e | e
  ·rw[e];simp[Ym,far]
  ·simp only[XN,JN,Bool.and_eq_true,decide_eq_true_eq,Yt]at e;refine⟨fun z hz=>?_,by unfold Ym far;omega⟩;obtain⟨i,hi,rfl⟩:=List.getElem_of_mem hz;have:=(e.1 i hi).1;rw[List.getElem?_eq_getElem hi,Option.getD_some]at this;unfold Ym far;omega
 have hk:1<=n.kind/\n.kind<=6:=by
  simp only[Zg,okB,ZY]at h;grind
 rw[Z0j hv]at h;generalize hM:f.rings * f.sectors=M at *;have hall : ∀(x:Int),x∈ZX n ++ ZQ n->Ym x:=by
  simp only[ZX,ZQ,List.cons_append,List.nil_append,List.forall_mem_cons,List.not_mem_nil,false_imp_iff,implies_true,and_true,Ym,far];obtain⟨k1,k2⟩:=hk;have hh:n.kind=1\/n.kind=2\/n.kind=3\/n.kind=4\/n.kind=5\/n.kind=6:=by omega
  clear hs hst k1 k2;rcases hh with e | e | e | e | e | e
  ·simp[e,U9,Va,Jz,Ja,Xc,ZF,X8,J0,Jr,JC]at h;omega
  ·simp[e,U9,Va,Jz,Ja,Xc,ZF,X8,J0,Jr,JC]at h;omega
  ·simp[e,hM,U9,Va,Jz,Ja,Xc,ZF,X8,J0,Jr,JC]at h;omega
  ·simp[e,hM,U9,Va,Jz,Ja,Xc,ZF,X8,J0,Jr,JC]at h;omega
  ·have hx:n.fix=1\/n.fix=2\/n.fix=3\/n.fix=4:=by
    simp[e,U9,Xc]at h;grind
   rcases hx with g | g | g | g
   ·simp[e,g,hM,U9,Va,Jz,Ja,Xc,ZF,X8,J0,Jr,JC]at h;omega
   ·simp[e,g,hM,U9,Va,Jz,Ja,Xc,ZF,X8,J0,Jr,JC]at h;omega
   ·simp[e,g,hM,U9,Va,Jz,Ja,Xc,ZF,X8,J0,Jr,JC]at h;omega
   ·simp[e,g,hM,U9,Va,Jz,Ja,Xc,ZF,X8,J0,Jr,JC]at h;omega
  ·simp[e,hM,U9,Va,Jz,Ja,Xc,ZF,X8,J0,Jr,JC]at h;omega
 exact⟨fun z hz=>hall z (List.mem_append_left _ hz),hs.1,fun z hz=>hall z (List.mem_append_right _ hz),hs.2⟩
theorem Uq {f:Yh}(hv:f.valid=true)(n:Z8)(hf:Zg f n=true):Q9 Xo (Y7 n)=some (n,[]):=by
 have h:=Z6Y (f:=Xo) (fun z hz t=>QT hz t) (J4 hv hf) [];rwa [List.append_nil]at h
def U8 (base:Nat)(w:World)(k:Nat):Prop:=base<=k /\ ∃cur sp,w.heap[k]? = some (.cells cur 5 sp)
structure Jc (base:Nat)(w w':World):Prop where
 os:w'.os=w.os
 tape:w'.tape=w.tape
 output:w'.output=w.output
 size:w.heap.size<=w'.heap.size
 block : ∀k,k < w.heap.size -> ¬U8 base w k->w'.heap[k]? = w.heap[k]?
theorem Jc.refl (base:Nat)(w:World):Jc base w w:=⟨rfl,rfl,rfl,Nat.le_refl _,fun _ _ _=>rfl⟩
theorem Jc.not {base:Nat}{w w':World}(h:Jc base w w'){k:Nat}(hk:k < w.heap.size)(hn : ¬U8 base w k): ¬U8 base w' k:=by
 rintro⟨h1,cur,sp,h2⟩;exact hn ⟨h1,cur,sp,by rw[<-h.block k hk hn];exact h2⟩
theorem Jc.trans {base:Nat}{a b c:World}(h:Jc base a b)(k:Jc base b c):Jc base a c:=
 ⟨k.os.trans h.os,k.tape.trans h.tape,k.output.trans h.output,Nat.le_trans h.size k.size,fun i hi hs=>(k.block i (Nat.lt_of_lt_of_le hi h.size) (h.not hi hs)).trans (h.block i hi hs)⟩
theorem Jc.of_below {base:Nat}{w w':World}(h:Below w.heap.size w w'):Jc base w w':=⟨h.os,h.tape,h.output,h.size,fun k hk _=>h.block k hk⟩
theorem Jc.mono {base base':Nat}{w w':World}(h:Jc base' w w')(hb:base<=base'):Jc base w w':=
 ⟨h.os,h.tape,h.output,h.size,fun k hk hn=>h.block k hk (fun⟨h1,h2⟩=>hn ⟨Nat.le_trans hb h1,h2⟩)⟩
theorem Jc.of_own {base:Nat}{w w':World}{v:Value}{n:Nat}{xs:List Value}(ho:w.ownsRow base 5 1 v n xs)(hg:w.grownBy w' v.ownBlock):Jc base w w':=by
 refine⟨hg.os,hg.tape,hg.output,hg.size,fun k hk hn=>hg.block k hk (fun e=>hn ?_)⟩;rcases ho.2 with ⟨rfl,_⟩ | ⟨g,cap,cur,rfl,h1,h2,_⟩
 ·cases e
 ·simp only[Value.ownBlock,Option.some.injEq]at e;subst e;exact⟨h1,cur,_,h2⟩
theorem Jc.below {base:Nat}{w w':World}(h:Jc base w w')(hb:base<=w.heap.size):Below base w w':=
 ⟨h.os,h.tape,h.output,h.size,fun k hk=>h.block k (by omega) (fun⟨h1,_⟩=>by omega)⟩
theorem Jc.into {base:Nat}{a w w':World}(h:Jc base w w')(hb:Below base a w)(hs:base<=w.heap.size):Below base a w':=hb.trans (h.below hs)
def VY (base:Nat)(w:World)(a:zA):Prop := ∀b off,a=some ⟨b,off,none⟩->b < w.heap.size -> ¬U8 base w b
theorem Jc.rd {base:Nat}{w w':World}(h:Jc base w w'){k:Nat}{a:zA}{n c:Nat}{xs:List Value}(hr:ZW w k a n c xs)(hn:VY base w a):ZW w' k a n c xs:=
 hr.of_cells fun b ⟨off,hb⟩ hlt=>h.block b hlt (hn b off hb hlt)
theorem VY.keep {base:Nat}{w w':World}{a:zA}(hn:VY base w a)(h:Jc base w w')(hl : ∀b off,a=some ⟨b,off,none⟩->b < w.heap.size):VY base w' a:=
 fun b off e _=>h.not (hl b off e) (hn b off e (hl b off e))
theorem VY.keep' {base:Nat}{w w':World}{k:Nat}{a:zA}{n c:Nat}{xs:List Value}(hn:VY base w a)(h:Jc base w w')(hr:ZW w k a n c xs)(h0:0 < n)(hk:0 < k):VY base w' a:=
 hn.keep h fun b off e=>by
  obtain⟨b',off',e',hc⟩:=hr.at h0
  rw[e]at e'
  cases e'
  have hl:0 < xs.length:=by rw[hr.len];exact Nat.mul_pos h0 hk
  exact World.block_lt_of_cell? w _ (hc 0 _ (List.getElem?_eq_getElem hl))
theorem VY.old {base:Nat}{w:World}{a:zA}(h : ∀b off,a=some ⟨b,off,none⟩->b < base):VY base w a:=fun b off e _ ⟨h1,_⟩=>by have:=h b off e;omega
theorem z6 {base:Nat}{w:World}{k:Nat}{cur:ZV}{t:TypeId}{sp:Nat×Nat}(h:w.heap[k]? = some (.cells cur t sp))(ht:t≠5): ¬U8 base w k:=by
 rintro⟨_,cur',sp',h'⟩;rw[h]at h';simp only[Option.some.injEq,Obj.cells.injEq]at h';exact ht h'.2.1
theorem ZbM (u:Nat): ∀k,u < 128 ^ (k+1)->(Z1c u).length<=k+1:=by
 induction u using Nat.strongRecOn with
 | ind u ih=>
  intro k hk;by_cases h:u < 128
  ·rw[Z3k h];simp
  ·cases k with
   | zero=>simp at hk;omega
   | succ k=>
    rw[Z3l (by omega),List.length_cons];have:=ih (u / 128) (by omega) k (by rw[Nat.pow_succ]at hk;omega);omega
theorem Z7T {z:Int}(h:Jl z):zig z < 18446744073709551616:=by
 unfold Jl at h;unfold zig;split <;> omega
theorem Z7w {z:Int}(h:Jl z):(XE z).length<=10:=ZbM _ 9 (by have:=Z7T h;omega)
theorem Qo (l:List Int)(h : ∀z∈l,Jl z):(ZA l).length<=10 * l.length:=by
 induction l with
 | nil=>simp[ZA]
 | cons z l ih=>
  have h1:=Z7w (h z (List.mem_cons_self ..));have h2:=ih (fun x hx=>h x (List.mem_cons_of_mem _ hx));rw[show ZA (z :: l)=XE z ++ ZA l from rfl,List.length_append,List.length_cons];omega
theorem Z0A {l:List Int}{k:Nat}(h:k < l.length):ZA (l.take (k+1))=ZA (l.take k) ++ XE (l[k]?.getD 0):=by
 rw[List.getElem?_eq_getElem h,Option.getD_some,<-Jy,<-Z0m,List.take_append_getElem]
def Z2B (w:World)(a:zA)(n c:Nat)(ls:List (zU)):Prop:=
 ∃vs:List Value,ZW w 1 a n c vs/\ls.length=n /\ ∀i,i < n -> ∃ai ci,vs[i]? = some (.slice ai (ls[i]?.getD []).length ci)/\Yg w ai (ls[i]?.getD []).length ci (ls[i]?.getD [])
theorem Z2B.maxn {w:World}{a:zA}{n c:Nat}{ls:List (zU)}(h:Z2B w a n c ls):n<=9223372036854775807:=by obtain⟨_,h,_⟩:=h;exact h.maxn
theorem Z2B.below {w w':World}{a:zA}{n c:Nat}{ls:List (zU)}(h:Z2B w a n c ls)(hb:Below w.heap.size w w'):Z2B w' a n c ls:=by
 obtain⟨vs,h1,h2,h3⟩:=h;refine⟨vs,h1.below hb,h2,fun i hi=>?_⟩;obtain⟨ai,ci,h4,h5⟩:=h3 i hi;exact⟨ai,ci,h4,h5.below hb⟩
theorem Z2B.at {w:World}{a:zA}{n c:Nat}{ls:List (zU)}(h:Z2B w a n c ls)(hn:0 < n):
  ∃b off,a=some ⟨b,off,none⟩ /\ ∀i,i < n -> ∃ai ci,w.cell? ⟨b,off+i,none⟩=some (.slice ai (ls[i]?.getD []).length ci)/\Yg w ai (ls[i]?.getD []).length ci (ls[i]?.getD []):=by
 obtain⟨vs,h1,h2,h3⟩:=h;obtain⟨b,off,rfl,h4⟩:=h1.at hn;refine⟨b,off,rfl,fun i hi=>?_⟩;obtain⟨ai,ci,h5,h6⟩:=h3 i hi;exact⟨ai,ci,h4 i _ h5,h6⟩
def Ve (ls:List (zU)):Nat->Nat
 | 0=>0
 | k+1=>Ve ls k+(ls[k]?.getD []).length
def Z7H (ls:List (zU)):Nat->zU
 | 0=>[]
 | k+1=>Z7H ls k ++ (ls[k]?.getD [])
theorem Z12 (ls:List (zU)){j k:Nat}(h:j<=k):Ve ls j<=Ve ls k:=by
 induction k with
 | zero=>
  obtain rfl:j=0:=by omega
  exact Nat.le_refl _
 | succ k ih=>
  rcases Nat.lt_or_ge j (k+1)with h1 | h1
  ·exact Nat.le_trans (ih (by omega)) (Nat.le_add_right _ _)
  ·obtain rfl:j=k+1:=by omega
   exact Nat.le_refl _
theorem Z8F (a:zA)(n c:Nat)(ls:List (zU))(w:World)(hr:Z2B w a n c ls)(hn:Ve ls n<=140737488355328):
  Calls zq 160 #[.slice a n c] w fun e w' => ∃a' c',e = .returned (.slice a' (Ve ls n) c')/\w'.ownsRow w.heap.size 5 1 (.slice a' (Ve ls n) c') (Ve ls n) ((Z7H ls n).map Zs)/\Below w.heap.size w w':=by
 have hm:=hr.maxn;go_enter Tryz.func160,Tryz.ntmps160;go_wp2;go_loop [3,5,11] (fun s _ i=>∃k:Nat,k<=n/\i = .int .i64 k/\s = .int .i64 (Ve ls k)) (fun _ _ i=>n - (intOf i).toNat)
 case atStart=>exact⟨0,Nat.zero_le _,rfl,rfl⟩
 case round=>
  obtain⟨k,hk,rfl,rfl⟩:=hrel;have hk1:=Z12 ls hk;by_cases hlt:k < n
  ·obtain⟨b,off,rfl,hc⟩:=hr.at (by omega);obtain⟨ai,ci,hcell,_⟩:=hc k hlt;have hk2:=Z12 ls (show k+1<=n from hlt);simp only[Ve]at hk2;clear hc;go_wp2;go_round
   case rel=>exact⟨k+1,by omega,by go_num,by simp[Ve]⟩
   case measure=>simp[intOf];omega
  ·obtain rfl:k=n:=by omega
   clear hk1;go_wp2_with (go_at_call 198;refine(ZbA _ _ hn).mono ?_;rintro e w1 ⟨ga,gc,rfl,hown,hb⟩);go_loopw [6,8,27] (fun v _ i wr=>∃(j:Nat) (ja:zA) (jc:Nat),j<=k/\i = .int .i64 j/\v = .slice ja (Ve ls j) jc/\wr.ownsRow w.heap.size 5 1 (.slice ja (Ve ls j) jc) (Ve ls j) ((Z7H ls j).map Zs)/\Below w.heap.size w wr) (fun _ _ i _=>k - (intOf i).toNat)
   case atStart=>exact⟨0,ga,gc,Nat.zero_le _,rfl,rfl,hown,hb⟩
   case round=>
    obtain⟨j,ja,jc,hj,rfl,rfl,hownj,hbj⟩:=hrel;by_cases hlt:j < k
    ·obtain⟨b,off,rfl,hc⟩:=(hr.below hbj).at (by omega);obtain⟨ai,ci,hcell,hrd⟩:=hc j hlt;have hk2:=Z12 ls (show j+1<=k from hlt);simp only[Ve]at hk2;have hsz:=hbj.size;clear hc hr hown hb;go_wp2_with (at_builtin;refine Z0D _ rfl _ _ rfl w.heap.size _ _ _ _ rfl hownj _ _ _ _ rfl hrd (by omega) hsz ?_;intro a' c' w' h1 h2);go_roundw
     case rel=>exact⟨j+1,a',c',by omega,by go_num,rfl,h1,hbj.grown h2 hsz (fun q hq=>(hownj.lt q hq).1)⟩
     case measure=>simp[intOf];omega
    ·obtain rfl:j=k:=by omega
     go_wp2;go_ret;exact⟨ja,jc,rfl,hownj,hbj⟩
theorem Z2B.pair {w:World}{a1 a2:zA}{n1 n2 c1 c2:Nat}{l1 l2:zU}(h1:Yg w a1 n1 c1 l1)(h2:Yg w a2 n2 c2 l2):
  Z2B (w.alloc (.cells #[.slice a1 n1 c1,.slice a2 n2 c2] 41)) (some ⟨w.heap.size,0,none⟩) 2 2 [l1,l2]:=by
 have hb:=zB w (.cells #[.slice a1 n1 c1,.slice a2 n2 c2] 41);have hown:=World.ownsRow_lit (base:=w.heap.size) (e:=41) (size:=1) w #[.slice a1 n1 c1,.slice a2 n2 c2] 2 (Nat.le_refl _) (by unfold maxLen;omega) rfl;refine⟨[.slice a1 n1 c1,.slice a2 n2 c2],ZW.of_own hown,rfl,fun i hi=>?_⟩;obtain rfl:=h1.len;obtain rfl:=h2.len;rcases(show i=0\/i=1 by omega)with rfl | rfl
 ·exact⟨a1,c1,rfl,h1.below hb⟩
 ·exact⟨a2,c2,rfl,h2.below hb⟩
theorem Z4q (a1 a2:zA)(n1 n2 c1 c2:Nat)(l1 l2:zU)(w:World)(r:zU)(hr:r=l1 ++ l2)(h1:Yg w a1 n1 c1 l1)(h2:Yg w a2 n2 c2 l2)(hn:n1+n2<=140737488355328):
  Calls zq 160 #[.slice (some ⟨w.heap.size,0,none⟩) 2 2] (w.alloc (.cells #[.slice a1 n1 c1,.slice a2 n2 c2] 41)) fun e w' => ∃a' c',e = .returned (.slice a' r.length c')/\w'.ownsRow w.heap.size 5 1 (.slice a' r.length c') r.length (r.map Zs)/\Below w.heap.size w w':=by
 subst hr;have hl1:=h1.len;have hl2:=h2.len;have e1:Ve [l1,l2] 2=(l1 ++ l2).length:=by simp[Ve]
 have e2:Z7H [l1,l2] 2=l1 ++ l2:=by simp[Z7H]
 refine(Z8F _ 2 2 [l1,l2] _ (Z2B.pair h1 h2) (by rw[e1,List.length_append];omega)).mono ?_;rintro e w' ⟨a',c',rfl,ho,hb⟩;rw[e1,e2]at *;have hb':=(zB w (.cells #[.slice a1 n1 c1,.slice a2 n2 c2] 41)).trans (hb.mono (by simp));refine⟨a',c',rfl,⟨ho.1,?_⟩,hb'⟩;rcases ho.2 with h | ⟨g,cap,cur,h,hg,hr⟩
 ·exact .inl h
 ·exact .inr ⟨g,cap,cur,h,by simp at hg;omega,hr⟩
def Zw (l:zU):zU:=two l.length ++ l
def ZK (l:zU):zU:=two l.length ++ two (chk l)
theorem Z8Q (n:Nat):(two n).length=2:=rfl
theorem YS (l:zU):(Zw l).length=l.length+2:=by simp[Zw,two];
theorem YN (l:zU):(ZK l).length=4:=rfl
theorem Zu {w:World}{B base:Nat}{e:TypeId}{k:Nat}{v:Value}{n:Nat}{xs:List Value}(h:w.ownsRow base e k v n xs)(hB:B<=base):w.ownsRow B e k v n xs:=by
 refine⟨h.1,?_⟩;rcases h.2 with h | ⟨g,cap,cur,h,hg,hr⟩
 ·exact .inl h
 ·exact .inr ⟨g,cap,cur,h,by omega,hr⟩
theorem Zd {w w':World}{base:Nat}{e:TypeId}{k:Nat}{v:Value}{n:Nat}{xs:List Value}(h:w.ownsRow base e k v n xs)(hb:Below w.heap.size w w'):w'.ownsRow base e k v n xs:=by
 refine⟨h.1,?_⟩;rcases h.2 with h | ⟨g,cap,cur,h,hg,hgg,hr⟩
 ·exact .inl h
 ·exact .inr ⟨g,cap,cur,h,hg,(hb.block g (Array.getElem?_eq_some_iff.1 hgg).1).trans hgg,hr⟩
theorem Yg.of_own {w:World}{base:Nat}{e:TypeId}{a:zA}{n c:Nat}{l:zU}(h:w.ownsRow base e 1 (.slice a n c) n (l.map Zs)):Yg w a n c l:=ZW.of_own h
theorem Z1a (a:zA)(n c:Nat)(l:zU)(w:World)(hr:Yg w a n c l)(hn:n < 65536):
  Calls zq 107 #[.slice a n c] w fun e w' => ∃a1 c1 a2 c2,e = .returned (.tuple #[.slice a1 (Zw l).length c1,.slice a2 (ZK l).length c2]) /\
   w'.ownsRow w.heap.size 5 1 (.slice a1 (Zw l).length c1) (Zw l).length ((Zw l).map Zs)/\w'.ownsRow w.heap.size 5 1 (.slice a2 (ZK l).length c2) (ZK l).length ((ZK l).map Zs)/\Below w.heap.size w w':=by
 have hl:=hr.len;have HL:=zH hl;clear hl;have hk:=Zce l;go_enter Tryz.func107,Tryz.ntmps107;go_wp2_with fail;refine(Z5H n _ hn).mono ?_;rintro e w1 ⟨a1,c1,rfl,ho1,hb1⟩;have h1:=Yg.of_own ho1;have hr1:=hr.below hb1;go_wp2_with fail;refine(Z4q _ _ _ _ _ _ _ _ _ (Zw l) (by rw[Zw,HL.out]) h1 hr1 (by omega)).mono ?_;rintro e w2 ⟨a2,c2,rfl,ho2,hb2⟩;have hb12:=hb1.trans (hb2.mono hb1.size);go_wp2_with fail;refine(Z5H n _ hn).mono ?_;rintro e w3 ⟨a3,c3,rfl,ho3,hb3⟩;have h3:=Yg.of_own ho3;have hb13:=hb12.trans (hb3.mono hb12.size);have hr3:=hr.below hb13;go_wp2_with fail;refine(Zak _ n c l _ (by omega) hr3).mono ?_;rintro e w' ⟨rfl,rfl⟩;go_wp2_with fail;refine(Z5H (chk l) _ (by omega)).mono ?_;rintro e w4 ⟨a4,c4,rfl,ho4,hb4⟩;have h4:=Yg.of_own ho4;have h34:=h3.below hb4;have hb14:=hb13.trans (hb4.mono hb13.size);go_wp2_with fail;refine(Z4q _ _ _ _ _ _ _ _ _ (ZK l) (by rw[ZK,HL.out]) h34 h4 (by omega)).mono ?_;rintro e w5 ⟨a5,c5,rfl,ho5,hb5⟩;have hb15:=hb14.trans (hb5.mono hb14.size);have h25:=Zu (Zd (Zd (Zd ho2 hb3) hb4) hb5) hb1.size;have h5:=Zu ho5 hb14.size;clear ho1 ho2 ho3 ho4 ho5 h1 h3 h4 h34 hr1 hr3;go_wp2_with fail;go_ret2;exact⟨a2,c2,a5,c5,rfl,h25,h5,hb15⟩
theorem Z9F (a:zA)(n c:Nat)(l:zU)(w:World)(hr:Yg w a n c l)(hn:n<=8192):
  Calls zq 46 #[.slice a n c] w fun e w' => ∃a1 c1 a2 c2,e = .returned (.tuple #[.slice a1 (Zw l).length c1,.slice a2 (ZK l).length c2,.int .i64 0]) /\
   Yg w' a1 (Zw l).length c1 (Zw l)/\Yg w' a2 (ZK l).length c2 (ZK l)/\Below w.heap.size w w':=by
 go_enter Tryz.func46,Tryz.ntmps46;go_wp2_with fail;refine(Z1a _ _ _ l _ hr (by omega)).mono ?_;rintro e w1 ⟨a1,c1,a2,c2,rfl,h1,h2,hb⟩;go_wp2_with fail;go_ret3;exact⟨a1,c1,a2,c2,rfl,Yg.of_own h1,Yg.of_own h2,hb⟩
theorem Z96 {ops:Array Oper}{rest:List Oper}{o:Oper}{a:Act}{Q:Exit->Act->World->Prop}(w:World)(hgd:o.guard=none)(s x:Operand)
  (ho:o.op = .call { callee := .builtin .append,args := #[s,x],argTypes := #[41,41] }) (base:Nat)
  (sa:zA) (sn sc:Nat) (xs:zU) (hs:a.eval s = .slice sa sn sc) (hown:w.ownsRow base 5 1 (.slice sa sn sc) sn (xs.map Zs))
  (c:UInt8) (v:Int) (hv:v=(c.toNat:Int)) (hx:a.eval x = .slice (some ⟨w.heap.size,0,none⟩) 1 1) (hbytes:sn+1<=140737488355328) (hbase:base<=w.heap.size)
  (h : ∀a' c' w',w'.ownsRow base 5 1 (.slice a' (sn+1) c') (sn+1) ((xs ++ [c]).map Zs)->Jc base w w'->wpList zq ops Q rest (a.put o.dst (.slice a' (sn+1) c')) w'):
  wpList zq ops Q (o :: rest) a (w.alloc (.cells #[.int .u8 v] 5)):=by
 subst hv;have hb:Below w.heap.size w (w.alloc (.cells #[.int .u8 (c.toNat:Int)] 5)):=zB _ _;have hr:(w.alloc (.cells #[.int .u8 (c.toNat:Int)] 5)).ownsRow w.heap.size 5 1 (.slice (some ⟨w.heap.size,0,none⟩) 1 1) 1 ([c].map Zs):=
  World.ownsRow_lit (base:=w.heap.size) (e:=5) (size:=1) w #[.int .u8 (c.toNat:Int)] 1 (Nat.le_refl _) (by unfold maxLen;omega) rfl
 have ho2:=Zd hown hb;exact Z0D _ hgd s x ho base sa sn sc xs hs ho2 _ 1 1 [c] hx (Yg.of_own hr) hbytes (Nat.le_trans hbase hb.size)
  (fun a' c' w' h1 h2=>h a' c' w' h1 ((Jc.of_below hb).trans (Jc.of_own ho2 h2)))
theorem Zcs (m:Nat)(h:m < 18446744073709551616):bits .xor .u64 IntKind.u64.max (m:Int)=((18446744073709551615 - m:Nat):Int):=by
 have h2:(BitVec.ofInt 64 (m:Int)).toNat=m:=by
  rw[BitVec.ofInt_natCast,BitVec.toNat_ofNat];exact Nat.mod_eq_of_lt (by omega)
 show IntKind.u64.wrap ((BitVec.ofInt 64 18446744073709551615 ^^^ BitVec.ofInt 64 (m:Int)).toNat:Int)=_;rw[show BitVec.ofInt 64 18446744073709551615=BitVec.allOnes 64 from rfl,BitVec.allOnes_xor,BitVec.toNat_not,h2,IntKind.wrap_u64];omega
theorem Z8P {z:Int}(h:Jl z)(hn:z < 0):bits .xor .u64 IntKind.u64.max (IntKind.u64.wrap (2 * IntKind.u64.wrap z))=(zig z:Int):=by
 unfold Jl at h;rw[IntKind.wrap_u64,IntKind.wrap_u64,show 2 * (z % 18446744073709551616) % 18446744073709551616=((18446744073709551616+2 * z).toNat:Int)by omega,Zcs _ (by omega)];unfold zig;rw[if_neg (by omega)];omega
theorem Z8O {z:Int}(h:Jl z)(hn:0<=z):IntKind.u64.wrap (2 * IntKind.u64.wrap z)=(zig z:Int):=by
 unfold Jl at h;rw[IntKind.wrap_u64,IntKind.wrap_u64];unfold zig;rw[if_pos hn];omega
theorem Zdd (v:Nat):bits .or .u8 ((v:Int) % 256) 128=((v % 128+128:Nat):Int):=by
 rw[show(v:Int) % 256=((v % 256:Nat):Int)by omega,show(128:Int)=((128:Nat):Int)from rfl,u8_or_nat _ _ (by omega) (by omega)];congr 1;have h1:v % 256=v % 256 / 128 * 128+v % 128:=by omega
 by_cases h:v % 256 < 128
 ·rw[Nat.or_comm,nat_join 7 128 (v % 256) (by omega) (by omega)];omega
 ·have h2:v % 256=128 ||| v % 128:=by rw[nat_join 7 128 (v % 128) (by omega) (by omega)];omega
  rw[h2,Nat.or_comm,<-Nat.or_assoc,Nat.or_self,nat_join 7 128 (v % 128) (by omega) (by omega)];omega
theorem Z3m (zs:List Int)(k:Nat):(ZA (zs.take k)).length<=(ZA zs).length:=by
 have h:=Z0m (zs.take k) (zs.drop k);rw[List.take_append_drop]at h;rw[h,List.length_append];omega
theorem VG (base:Nat)(sa:zA)(sn sc:Nat)(xs:zU)(la:zA)(n lc:Nat)(zs:List Int)(w:World)(hbase:base<=w.heap.size)
  (hown:w.ownsRow base 5 1 (.slice sa sn sc) sn (xs.map Zs)) (hr:XU w la n lc zs) (hap:0 < n->VY base w la) (hz : ∀z∈zs,Jl z) (hlen:(xs ++ ZA zs).length<=140737488355328):
  Calls zq 143 #[.slice sa sn sc,.slice la n lc] w fun e w' => ∃a' c',e = .returned (.slice a' (xs ++ ZA zs).length c') /\
   w'.ownsRow base 5 1 (.slice a' (xs ++ ZA zs).length c') (xs ++ ZA zs).length ((xs ++ ZA zs).map Zs)/\Jc base w w':=by
 have hn:=hr.maxn;have hl:=zH hr.len;have HL:=zH hlen;clear hlen;have HZ:=zH hz;clear hz;have HO:=zH hown;have hsn:sn=xs.length:=by have:=hown.1;simpa using this.symm
 have hsg:IntKind.u64.signed=false:=rfl;clear hown;have HB:=zH hbase;clear hbase;go_enter Tryz.func143,Tryz.ntmps143;go_wp2_with fail;go_loopw [0,6,7,10] (fun b _ _ i wr=>∃(k m:Nat) (a':zA) (c':Nat),b = .slice a' m c'/\k<=n/\i = .int .i64 k/\Hid (wr.ownsRow base 5 1 (.slice a' m c') m ((xs ++ ZA (zs.take k)).map Zs))/\Hid (Jc base w wr)) (fun _ _ _ i _=>n - (intOf i).toNat)
 case atStart=>exact⟨0,sn,sa,sc,rfl,Nat.zero_le _,rfl,zH (by simpa [ZA] using HO.out),zH (Jc.refl _ _)⟩
 case round=>
  obtain⟨k,m,a',c',rfl,hk,rfl,HW,HA⟩:=hrel;by_cases hlt:k < n
  ·have hap1:=(hap (by omega)).keep' HA.out hr (by omega) (by omega);obtain⟨b,off,rfl,hc⟩:=XU.at (HA.out.rd hr (hap (by omega))) (by omega);have e1:=hc k hlt;have hk64:(k:Int)<=9223372036854775807:=by omega
   have hzk:=HZ.out (zs[k]?.getD 0) (by rw[List.getElem?_eq_getElem (by rw[hl.out];exact hlt),Option.getD_some];exact List.getElem_mem _);have HT:=zH (Z0A (l:=zs) (k:=k) (by rw[hl.out];exact hlt));generalize zs[k]?.getD 0=z at *;clear hc;by_cases hneg:z < 0
   focus
    have hu:=Z8P hzk hneg
   rotate_left
   focus
    have hu:=Z8O hzk (by omega)
   all_goals
    go_wp2_with fail;go_loopw [0,7] (fun b u wi=>∃(v m2:Nat) (ys:zU) (a2:zA) (c2:Nat),b = .slice a2 m2 c2/\u = .int .u64 v/\v < 18446744073709551616/\Hid (ys ++ Z1c v=xs ++ ZA (zs.take (k+1)))/\Hid (wi.ownsRow base 5 1 (.slice a2 m2 c2) m2 (ys.map Zs))/\Hid (Jc base w wi)) (fun _ u _=>(intOf u).toNat)
    case atStart=>exact⟨zig z,m,xs ++ ZA (zs.take k),a',c',rfl,rfl,Z7T hzk,zH (by rw[HT.out,List.append_assoc];rfl),HW,HA⟩
    case round=>
     obtain⟨v,m2,ys,a2,c2,rfl,rfl,hv,HY,HW2,HA2⟩:=hrel;have hm2:m2=ys.length:=by have:=HW2.out.1;simpa using this.symm
     have hle:m2+(Z1c v).length<=140737488355328:=by
      have h1:=congrArg List.length HY.out;have h2:=HL.out;have h3:=Z3m zs (k+1);simp only[List.length_append]at h1 h2;omega
     have hps:=Z4n v;subst hm2;obtain⟨cb,hcb⟩ : ∃cb,Hid (cb=UInt8.ofNat (v % 128+128)):=⟨_,zH rfl⟩;obtain⟨cd,hcd⟩ : ∃cd,Hid (cd=UInt8.ofNat v):=⟨_,zH rfl⟩;have hb2:base<=wr.heap.size:=Nat.le_trans HB.out HA2.out.size;clear e1;by_cases hge:(128:Int)<=v
     ·have hor:=Zdd v;have hq:IntKind.u64.wrap ((v:Int) / 128)=((v / 128:Nat):Int):=by rw[IntKind.wrap_u64];omega
      go_wp2_with (at_builtin;refine Z96 _ rfl _ _ rfl base _ _ _ ys rfl HW2.out cb _ (by rw[hcb.out,Uz (by omega)];first | omega | rfl) rfl (by omega) hb2 ?_);intro a3 c3 w3 h1 h2;have H1:=zH h1;clear h1;go_wp2;go_roundw
      case rel=>exact⟨v / 128,ys.length+1,ys ++ [cb],a3,c3,rfl,by go_num,by omega,zH (by rw[List.append_assoc,List.singleton_append,hcb.out,<-Z3l (by omega)];exact HY.out),zH (by rw[List.map_append];exact H1.out),zH (HA2.out.trans h2)⟩
      case measure=>simp[intOf];omega
     ·go_wp2_with (at_builtin;refine Z96 _ rfl _ _ rfl base _ _ _ ys rfl HW2.out cd (v:Int) (by rw[hcd.out,Uz (by omega)]) rfl (by omega) hb2 ?_);intro a3 c3 w3 h1 h2;have H1:=zH h1;clear h1;have HE:=zH (show ys ++ [cd]=xs ++ ZA (zs.take (k+1))by rw[hcd.out,<-Z3k (by omega)];exact HY.out);go_wp2;go_roundw
      case rel=>exact⟨k+1,ys.length+1,a3,c3,rfl,by omega,by go_num,zH (by rw[<-HE.out,List.map_append];exact H1.out),zH (HA2.out.trans h2)⟩
      case measure=>simp[intOf];omega
  ·have hkn:k=n:=by omega
   subst hkn;have hm:m=(xs ++ ZA zs).length:=by
    have:=HW.out.1;rw[List.take_of_length_le (by rw[hl.out];exact Nat.le_refl _)]at this;simpa using this.symm
   have HWW:=zH (show wr.ownsRow base 5 1 (.slice a' m c') m ((xs ++ ZA zs).map Zs)by
    have:=HW.out;rwa [List.take_of_length_le (by rw[hl.out];exact Nat.le_refl _)]at this)
   subst hm;go_wp2;go_ret;exact⟨_,_,rfl,HWW.out,HA.out⟩
def Z9z (p:Nat)(l:List Nat):List Value:=l.map fun k=>.pointer (some ⟨p,k,none⟩)
def Z8J:List Nat:=[0,1,2,3,4,5,6,7,8,9,10,11,12,13,14]
def Z6j:List Nat:=[16,17,18]
section
variable (p:Nat)(w:World)
theorem Z4k:
  Calls zq 168 #[.pointer (some ⟨p,0,none⟩)] w fun e w'=>e = .returned (.tuple #[.slice (some ⟨w.heap.size,0,none⟩) 15 15,.slice (some ⟨w.heap.size+1,0,none⟩) 3 3]) /\
   w'.heap[w.heap.size]? = some (.cells (Z9z p Z8J).toArray 221 (0,0))/\w'.heap[w.heap.size+1]? = some (.cells (Z9z p Z6j).toArray 221 (0,0))/\Below w.heap.size w w':=by
 go_enter Tryz.func168,Tryz.ntmps168;go_wp2_with fail;go_still_tail 49,(by kernel_rfl);change wpList _ _ _ _ _ w.drew;generalize hw2:w.drew=w2;go_wp2_with fail;generalize hw3:World.alloc _ _=w3;go_region;go_wp2_with fail;go_returns;have hs2:w2.heap.size=w.heap.size:=by rw[<-hw2];rfl
 have b2:Below w.heap.size w w2:=by rw[<-hw2];exact⟨rfl,rfl,rfl,Nat.le_refl _,fun _ _=>rfl⟩
 have hs3:w3.heap.size=w.heap.size+1:=by rw[<-hw3];simp[hs2]
 have b3:Below w.heap.size w w3:=by rw[<-hw3];exact b2.alloc (by omega) _
 have e3:w3.heap[w.heap.size]? = some (.cells (Z9z p Z8J).toArray 221 (0,0)):=by rw[<-hw3,<-hs2];exact Z9 _ _
 have l3:w.heap.size < w3.heap.size:=by omega
 clear hw2 hw3;refine⟨by rw[<-hs3,<-hs2];rfl,?_,?_,?_⟩
 ·exact Zb w3 _ _ _ e3
 ·rw[<-hs3];exact Z9 w3 _
 ·have b4:=b3.alloc (by omega) (.cells (Z9z p Z6j).toArray 221);exact⟨b4.os,b4.tape,b4.output,b4.size,b4.block⟩
end
section
attribute [local go_sem] ZS X9 XZ QP XJ QO QN QM Vp Vn Qi Qh JS JR JQ XQ J9 J8 Jt Z3T Z3S Z3R Z3Q Z3P Z3O Z3N Z3M Z3L Z3K Z2h Z2g Z2f Z2e Z2d Z2c Z2b Z2a Z29
variable (f:Yh)(n:Z8)(sa:zA)(sc:Nat)(w:World)
theorem ZbE (hv:f.valid=true)(hs:XU w sa n.strokes.length sc n.strokes)(k2:n.kind≠2)(k5:n.kind≠5):
  Calls zq 114 #[f.val,.agg (Z5 n sa sc)] w fun e w'=>e = .returned (.bool (Zg f n))/\Below w.heap.size w w':=by
 have g1:=Zv (w.alloc (zF f 174)) (.cells (Z5 n sa sc) 47) (w.heap.size+1) (by simp);have g0:=Zb (w.alloc (zF f 174)) (.cells (Z5 n sa sc) 47) _ _ (Zv w (zF f 174) _ rfl);have bb:Below w.heap.size w ((w.alloc (zF f 174)).alloc (.cells (Z5 n sa sc) 47)):=(zB _ _).alloc (by simp) _;have G1:=zH g1;clear g1;have G0:=zH g0;clear g0;have BB:=zH bb;clear bb;go_enter Tryz.func114,Tryz.ntmps114;unfold Yh.val;go_wp2_with (refine zL (w.heap.size+1) G1.out ?_);refine(Z1p f n sa sc _ hv (hs.below BB.out) n.kind).mono ?_;rintro e w1 ⟨ta,tc,rfl,hrd,b1⟩;have SR:=zH hrd;clear hrd;have l1:=(Array.getElem?_eq_some_iff.1 G1.out).1;have z1:=b1.size;have L1:Vd w (w1.alloc (.cells (Z5 (Zo n.kind n) ta tc) 47)) w.heap.size (w.heap.size+1) w1.heap.size f n sa sc (Z5 (Zo n.kind n) ta tc):=
  ⟨Zb _ _ _ _ ((b1.block _ (by omega)).trans G0.out),Zb _ _ _ _ ((b1.block _ (by omega)).trans G1.out),Z9 _ _,(BB.out.trans (b1.mono BB.out.size)).alloc (by omega) _,by omega⟩
 have LL1:=zH L1;clear L1 l1 z1 b1;have one1:=Zm (Zo n.kind n) ta tc;have k4:=zc LL1.out.e1 4 _ rfl;have q2:(n.kind==2)=false:=by simp[k2]
 have q2':decide (n.kind=2)=false:=by simp[k2]
 have q5:(n.kind==5)=false:=by simp[k5]
 have q5':decide (n.kind=5)=false:=by simp[k5]
 have hkind:n.kind≠2/\n.kind≠5:=⟨k2,k5⟩;have HK:=zH hkind;clear hkind k2 k5;go_upto_region 11 with (refine zP w1 w1.heap.size (Z5 (Zo n.kind n) ta tc) ?_);generalize hW2:w1.alloc (.cells (Z5 (Zo n.kind n) ta tc) 47)=W2 at *;generalize hp0:w.heap.size=p0 at *;generalize hp1:p0+1=p1 at *;generalize hp2:w1.heap.size=p2 at *;have RDb:=zH (show ∀W',Below p0 w W'->XU W' ta (Zo n.kind n).strokes.length tc (Zo n.kind n).strokes from fun W' h=>Z3d SR.out (hs.below (by rw[hp0];exact h)));have HP0:=zH hp0;clear hp0 hp1 hp2 hW2 G0 G1 BB SR k4;have j0:=zc LL1.out.e2 0 _ rfl;have z0:=Zi LL1.out.e2 0;have j1:=zc LL1.out.e2 1 _ rfl;have z1:=Zi LL1.out.e2 1;have j2:=zc LL1.out.e2 2 _ rfl;have z2:=Zi LL1.out.e2 2;have j3:=zc LL1.out.e2 3 _ rfl;have z3:=Zi LL1.out.e2 3;have j4:=zc LL1.out.e2 4 _ rfl;have z4:=Zi LL1.out.e2 4;obtain⟨N9,HN9⟩ : ∃N9:Z8,Hid (N9 = { Zo n.kind n with house:=0,num:=0,clock:=0,day:=0,kind:=0 }):=⟨_,zH rfl⟩;go_upto_region 12 with fail;generalize hW:(((((W2.setCell ⟨p2,0,none⟩ (.int .i64 0)).setCell ⟨p2,1,none⟩ (.int .i64 0)).setCell ⟨p2,2,none⟩ (.int .i64 0)).setCell ⟨p2,3,none⟩ (.int .i64 0)).setCell ⟨p2,4,none⟩ (.int .i64 0))=Wf1 at *;have Lf2:=zH (show Vd w Wf1 p0 p1 p2 f n sa sc (Z5 N9 ta tc)from by rw[HN9.out,<-hW];exact(((((LL1.out.set 0 (.int .i64 0)).set 1 (.int .i64 0)).set 2 (.int .i64 0)).set 3 (.int .i64 0)).set 4 (.int .i64 0)));have RDf3:=zH (show XU Wf1 ta N9.strokes.length tc N9.strokes from by rw[HN9.out];exact RDb.out _ Lf2.out.b);clear hW;clear j0 z0 j1 z1 j2 z2 j3 z3 j4 z4;cases hok:ZY f n.kind n
 ·have hR:Zg f n=false:=by simp only[Zg,okB,if_neg HK.out.1,if_neg HK.out.2];simp[HK.out,hok]
  have HRX:=zH hR;clear hR;go_wp2;go_ret;rw[HRX.out];exact⟨rfl,by rw[HP0.out];exact Lf2.out.b⟩
 ·go_wp2_with (first
   |(refine zL p1 Lf2.out.e1 ?_)
   |(refine zG p1 Lf2.out.e1 ?_))
  refine(Yc n sa sc _).mono ?_;rintro e wn4 ⟨rfl,b2⟩;have LN6:=zH (Lf2.out.below b2);have RD3:=zH (RDf3.out.below b2);clear b2;go_wp2_with fail;refine(Jg n.house n.num _).mono ?_;rintro e wr5 ⟨rfl,b2⟩;have LR7:=zH (LN6.out.below b2);have RD4:=zH (RD3.out.below b2);clear b2 RD3;cases hrn:ZF n.house n.num
  ·have hR:Zg f n=false:=by simp only[Zg,okB,if_neg HK.out.1,if_neg HK.out.2];simp[HK.out,hok,hrn]
   have HRX:=zH hR;clear hR;go_wp2;go_ret;rw[HRX.out];exact⟨rfl,by rw[HP0.out];exact LR7.out.b⟩
  ·have HRN:=zH hrn;have k2:=zc LR7.out.e1 2 _ rfl;have k3:=zc LR7.out.e1 3 _ rfl;go_wp2_with fail;refine(Yf n.clock 1 1099511627776 _).mono ?_;rintro e w' ⟨rfl,rfl⟩;cases hcl:JC n.clock 1 1099511627776
   ·have hR:Zg f n=false:=by simp only[Zg,okB,if_neg HK.out.1,if_neg HK.out.2];simp[HK.out,hok,hrn,hcl]
    have HRX:=zH hR;clear hR;go_wp2;go_ret;rw[HRX.out];exact⟨rfl,by rw[HP0.out];exact LR7.out.b⟩
   ·have HCL:=zH hcl;go_wp2_with fail;refine(Yf n.day 0 99999 _).mono ?_;rintro e w' ⟨rfl,rfl⟩;cases hda:JC n.day 0 99999
    ·have hR:Zg f n=false:=by simp only[Zg,okB,if_neg HK.out.1,if_neg HK.out.2];simp[HK.out,hok,hrn,hcl,hda]
     have HRX:=zH hR;clear hR;go_wp2;go_ret;rw[HRX.out];exact⟨rfl,by rw[HP0.out];exact LR7.out.b⟩
    ·have HDA:=zH hda;go_wp2_with (first
      |(refine zL p2 LR7.out.e2 ?_)
      |(refine zG p2 LR7.out.e2 ?_))
     refine(Z3A N9 Zh ta tc none 0 _ RD4.out (ZW.nil _ 1)).mono ?_;rintro e ws ⟨rfl,b2⟩;have hR:Zg f n=XI (Qq n) Zh:=by simp only[Zg,okB,if_neg HK.out.1,if_neg HK.out.2];simp[HK.out,hok,hrn,hcl,hda]
     have hN:Qq n=N9:=by rw[HN9.out];unfold Qq UC;rw[if_neg HK.out.1,if_neg HK.out.2]
     have HRX:=zH hR;clear hR;have HNX:=zH hN;clear hN;go_wp2;go_ret;rw[HRX.out,HNX.out];exact⟨rfl,by rw[HP0.out];exact(LR7.out.below b2).b⟩
theorem ZbG (hv:f.valid=true)(hs:XU w sa n.strokes.length sc n.strokes)(k2:n.kind=2):
  Calls zq 114 #[f.val,.agg (Z5 n sa sc)] w fun e w'=>e = .returned (.bool (Zg f n))/\Below w.heap.size w w':=by
 have HK:=zH k2;clear k2;have g1:=Zv (w.alloc (zF f 174)) (.cells (Z5 n sa sc) 47) (w.heap.size+1) (by simp);have g0:=Zb (w.alloc (zF f 174)) (.cells (Z5 n sa sc) 47) _ _ (Zv w (zF f 174) _ rfl);have bb:Below w.heap.size w ((w.alloc (zF f 174)).alloc (.cells (Z5 n sa sc) 47)):=(zB _ _).alloc (by simp) _;have G1:=zH g1;clear g1;have G0:=zH g0;clear g0;have BB:=zH bb;clear bb;go_enter Tryz.func114,Tryz.ntmps114;unfold Yh.val;go_wp2_with (refine zL (w.heap.size+1) G1.out ?_);refine(Z1p f n sa sc _ hv (hs.below BB.out) n.kind).mono ?_;rintro e w1 ⟨ta,tc,rfl,hrd,b1⟩;have SR:=zH hrd;clear hrd;have l1:=(Array.getElem?_eq_some_iff.1 G1.out).1;have z1:=b1.size;have L1:Vd w (w1.alloc (.cells (Z5 (Zo n.kind n) ta tc) 47)) w.heap.size (w.heap.size+1) w1.heap.size f n sa sc (Z5 (Zo n.kind n) ta tc):=
  ⟨Zb _ _ _ _ ((b1.block _ (by omega)).trans G0.out),Zb _ _ _ _ ((b1.block _ (by omega)).trans G1.out),Z9 _ _,(BB.out.trans (b1.mono BB.out.size)).alloc (by omega) _,by omega⟩
 have LL1:=zH L1;clear L1 l1 z1 b1;have one1:=Zm (Zo n.kind n) ta tc;have k4:(w1.alloc (.cells (Z5 (Zo n.kind n) ta tc) 47)).cell? ⟨w.heap.size+1,4,none⟩=some (.int .i64 2):=by
  have h:=zc LL1.out.e1 4 _ rfl;rw[h];exact congrArg (fun z=>some (Value.int .i64 z)) HK.out
 go_upto_region 4 with (refine zP w1 w1.heap.size (Z5 (Zo n.kind n) ta tc) ?_);generalize hW2:w1.alloc (.cells (Z5 (Zo n.kind n) ta tc) 47)=W2 at *;generalize hp0:w.heap.size=p0 at *;generalize hp1:p0+1=p1 at *;generalize hp2:w1.heap.size=p2 at *;have RDb:=zH (show ∀W',Below p0 w W'->XU W' ta (Zo n.kind n).strokes.length tc (Zo n.kind n).strokes from fun W' h=>Z3d SR.out (hs.below (by rw[hp0];exact h)));have HP0:=zH hp0;clear hp0 hp1 hp2 hW2 G0 G1 BB SR k4;generalize hm:Zo n.kind n=m at *;have HM:=zH hm;clear hm;have j16:=zc LL1.out.e2 16 _ rfl;have z16:=Zi LL1.out.e2 16;have j17:=zc LL1.out.e2 17 _ rfl;have z17:=Zi LL1.out.e2 17;go_upto_region 5 with fail;generalize hW:((W2.setCell ⟨p2,16,none⟩ (.int .i64 0)).setCell ⟨p2,17,none⟩ (.int .i64 0))=W3 at *;have L3:=zH (show Vd w W3 p0 p1 p2 f n sa sc (Z5 { m with refH:=0,refN:=0 } ta tc)from by rw[<-hW];exact((LL1.out.set 16 (.int .i64 0)).set 17 (.int .i64 0)));clear hW j16 z16 j17 z17;cases hok0:ZY f n.kind n
 ·go_upto_region 11 with fail;have j0:=zc L3.out.e2 0 _ rfl;have z0:=Zi L3.out.e2 0;have j1:=zc L3.out.e2 1 _ rfl;have z1:=Zi L3.out.e2 1;have j2:=zc L3.out.e2 2 _ rfl;have z2:=Zi L3.out.e2 2;have j3:=zc L3.out.e2 3 _ rfl;have z3:=Zi L3.out.e2 3;have j4:=zc L3.out.e2 4 _ rfl;have z4:=Zi L3.out.e2 4;obtain⟨N9,HN9⟩ : ∃N9:Z8,Hid (N9 = { { m with refH:=0,refN:=0 } with house:=0,num:=0,clock:=0,day:=0,kind:=0 }):=⟨_,zH rfl⟩;go_upto_region 12 with fail;generalize hW:(((((W3.setCell ⟨p2,0,none⟩ (.int .i64 0)).setCell ⟨p2,1,none⟩ (.int .i64 0)).setCell ⟨p2,2,none⟩ (.int .i64 0)).setCell ⟨p2,3,none⟩ (.int .i64 0)).setCell ⟨p2,4,none⟩ (.int .i64 0))=Wf8 at *;have Lf9:=zH (show Vd w Wf8 p0 p1 p2 f n sa sc (Z5 N9 ta tc)from by rw[HN9.out,<-hW];exact(((((L3.out.set 0 (.int .i64 0)).set 1 (.int .i64 0)).set 2 (.int .i64 0)).set 3 (.int .i64 0)).set 4 (.int .i64 0)));have RDf10:=zH (show XU Wf8 ta N9.strokes.length tc N9.strokes from by rw[HN9.out];exact RDb.out _ Lf9.out.b);clear hW;clear j0 z0 j1 z1 j2 z2 j3 z3 j4 z4;have hR:Zg f n=false:=by simp only[Zg,okB,if_pos HK.out];simp[hok0]
  have HRX:=zH hR;clear hR;go_wp2;go_ret;rw[HRX.out];exact⟨rfl,by rw[HP0.out];exact Lf9.out.b⟩
 ·have HO0:=zH hok0;have k16:=zc L3.out.e1 16 _ rfl;have k17:=zc L3.out.e1 17 _ rfl;go_wp2_with fail;refine(Jg n.refH n.refN _).mono ?_;rintro e W4 ⟨rfl,b2⟩;have L4:=zH (L3.out.below b2);clear b2 k16 k17;go_upto_region 11 with fail;have j0:=zc L4.out.e2 0 _ rfl;have z0:=Zi L4.out.e2 0;have j1:=zc L4.out.e2 1 _ rfl;have z1:=Zi L4.out.e2 1;have j2:=zc L4.out.e2 2 _ rfl;have z2:=Zi L4.out.e2 2;have j3:=zc L4.out.e2 3 _ rfl;have z3:=Zi L4.out.e2 3;have j4:=zc L4.out.e2 4 _ rfl;have z4:=Zi L4.out.e2 4;obtain⟨N9,HN9⟩ : ∃N9:Z8,Hid (N9 = { { m with refH:=0,refN:=0 } with house:=0,num:=0,clock:=0,day:=0,kind:=0 }):=⟨_,zH rfl⟩;go_upto_region 12 with fail;generalize hW:(((((W4.setCell ⟨p2,0,none⟩ (.int .i64 0)).setCell ⟨p2,1,none⟩ (.int .i64 0)).setCell ⟨p2,2,none⟩ (.int .i64 0)).setCell ⟨p2,3,none⟩ (.int .i64 0)).setCell ⟨p2,4,none⟩ (.int .i64 0))=Wf11 at *;have Lf12:=zH (show Vd w Wf11 p0 p1 p2 f n sa sc (Z5 N9 ta tc)from by rw[HN9.out,<-hW];exact(((((L4.out.set 0 (.int .i64 0)).set 1 (.int .i64 0)).set 2 (.int .i64 0)).set 3 (.int .i64 0)).set 4 (.int .i64 0)));have RDf13:=zH (show XU Wf11 ta N9.strokes.length tc N9.strokes from by rw[HN9.out];exact RDb.out _ Lf12.out.b);clear hW;clear j0 z0 j1 z1 j2 z2 j3 z3 j4 z4;cases hok:ZF n.refH n.refN
  ·have hR:Zg f n=false:=by simp only[Zg,okB,if_pos HK.out];simp[hok0,hok]
   have HRX:=zH hR;clear hR;go_wp2;go_ret;rw[HRX.out];exact⟨rfl,by rw[HP0.out];exact Lf12.out.b⟩
  ·go_wp2_with (first
    |(refine zL p1 Lf12.out.e1 ?_)
    |(refine zG p1 Lf12.out.e1 ?_))
   refine(Yc n sa sc _).mono ?_;rintro e wn14 ⟨rfl,b2⟩;have LN16:=zH (Lf12.out.below b2);have RD3:=zH (RDf13.out.below b2);clear b2;go_wp2_with fail;refine(Jg n.house n.num _).mono ?_;rintro e wr15 ⟨rfl,b2⟩;have LR17:=zH (LN16.out.below b2);have RD4:=zH (RD3.out.below b2);clear b2 RD3;cases hrn:ZF n.house n.num
   ·have hR:Zg f n=false:=by simp only[Zg,okB,if_pos HK.out];simp[hok0,hok,hrn]
    have HRX:=zH hR;clear hR;go_wp2;go_ret;rw[HRX.out];exact⟨rfl,by rw[HP0.out];exact LR17.out.b⟩
   ·have HRN:=zH hrn;have k2:=zc LR17.out.e1 2 _ rfl;have k3:=zc LR17.out.e1 3 _ rfl;go_wp2_with fail;refine(Yf n.clock 1 1099511627776 _).mono ?_;rintro e w' ⟨rfl,rfl⟩;cases hcl:JC n.clock 1 1099511627776
    ·have hR:Zg f n=false:=by simp only[Zg,okB,if_pos HK.out];simp[hok0,hok,hrn,hcl]
     have HRX:=zH hR;clear hR;go_wp2;go_ret;rw[HRX.out];exact⟨rfl,by rw[HP0.out];exact LR17.out.b⟩
    ·have HCL:=zH hcl;go_wp2_with fail;refine(Yf n.day 0 99999 _).mono ?_;rintro e w' ⟨rfl,rfl⟩;cases hda:JC n.day 0 99999
     ·have hR:Zg f n=false:=by simp only[Zg,okB,if_pos HK.out];simp[hok0,hok,hrn,hcl,hda]
      have HRX:=zH hR;clear hR;go_wp2;go_ret;rw[HRX.out];exact⟨rfl,by rw[HP0.out];exact LR17.out.b⟩
     ·have HDA:=zH hda;go_wp2_with (first
       |(refine zL p2 LR17.out.e2 ?_)
       |(refine zG p2 LR17.out.e2 ?_))
      refine(Z3A N9 Zh ta tc none 0 _ RD4.out (ZW.nil _ 1)).mono ?_;rintro e ws ⟨rfl,b2⟩;have hR:Zg f n=XI (Qq n) Zh:=by simp only[Zg,okB,if_pos HK.out];simp[hok0,hok,hrn,hcl,hda]
      have hN:Qq n=N9:=by rw[HN9.out];unfold Qq UC;rw[if_pos HK.out,HM.out]
      have HRX:=zH hR;clear hR;have HNX:=zH hN;clear hN;go_wp2;go_ret;rw[HRX.out,HNX.out];exact⟨rfl,by rw[HP0.out];exact(LR17.out.below b2).b⟩
theorem ZbF (hv:f.valid=true)(hs:XU w sa n.strokes.length sc n.strokes)(k2:n.kind=5):
  Calls zq 114 #[f.val,.agg (Z5 n sa sc)] w fun e w'=>e = .returned (.bool (Zg f n))/\Below w.heap.size w w':=by
 have HK:=zH k2;clear k2;have g1:=Zv (w.alloc (zF f 174)) (.cells (Z5 n sa sc) 47) (w.heap.size+1) (by simp);have g0:=Zb (w.alloc (zF f 174)) (.cells (Z5 n sa sc) 47) _ _ (Zv w (zF f 174) _ rfl);have bb:Below w.heap.size w ((w.alloc (zF f 174)).alloc (.cells (Z5 n sa sc) 47)):=(zB _ _).alloc (by simp) _;have G1:=zH g1;clear g1;have G0:=zH g0;clear g0;have BB:=zH bb;clear bb;go_enter Tryz.func114,Tryz.ntmps114;unfold Yh.val;go_wp2_with (refine zL (w.heap.size+1) G1.out ?_);refine(Z1p f n sa sc _ hv (hs.below BB.out) n.kind).mono ?_;rintro e w1 ⟨ta,tc,rfl,hrd,b1⟩;have SR:=zH hrd;clear hrd;have l1:=(Array.getElem?_eq_some_iff.1 G1.out).1;have z1:=b1.size;have L1:Vd w (w1.alloc (.cells (Z5 (Zo n.kind n) ta tc) 47)) w.heap.size (w.heap.size+1) w1.heap.size f n sa sc (Z5 (Zo n.kind n) ta tc):=
  ⟨Zb _ _ _ _ ((b1.block _ (by omega)).trans G0.out),Zb _ _ _ _ ((b1.block _ (by omega)).trans G1.out),Z9 _ _,(BB.out.trans (b1.mono BB.out.size)).alloc (by omega) _,by omega⟩
 have LL1:=zH L1;clear L1 l1 z1 b1;have one1:=Zm (Zo n.kind n) ta tc;have k4:(w1.alloc (.cells (Z5 (Zo n.kind n) ta tc) 47)).cell? ⟨w.heap.size+1,4,none⟩=some (.int .i64 5):=by
  have h:=zc LL1.out.e1 4 _ rfl;rw[h];exact congrArg (fun z=>some (Value.int .i64 z)) HK.out
 go_upto_region 7 with (refine zP w1 w1.heap.size (Z5 (Zo n.kind n) ta tc) ?_);generalize hW2:w1.alloc (.cells (Z5 (Zo n.kind n) ta tc) 47)=W2 at *;generalize hp0:w.heap.size=p0 at *;generalize hp1:p0+1=p1 at *;generalize hp2:w1.heap.size=p2 at *;have RDb:=zH (show ∀W',Below p0 w W'->XU W' ta (Zo n.kind n).strokes.length tc (Zo n.kind n).strokes from fun W' h=>Z3d SR.out (hs.below (by rw[hp0];exact h)));have HP0:=zH hp0;clear hp0 hp1 hp2 hW2 G0 G1 BB SR k4;generalize hm:Zo n.kind n=m at *;have HM:=zH hm;clear hm;have k18:=zc LL1.out.e1 18 _ rfl;have c0:W2.cell? ⟨p0,0,none⟩=some (.int .i64 f.rings):=by simp[World.cell?,LL1.out.e0]
 have c1:W2.cell? ⟨p0,1,none⟩=some (.int .i64 f.sectors):=by simp[World.cell?,LL1.out.e0]
 have c2:W2.cell? ⟨p0,2,none⟩=some (.int .i64 f.wide):=by simp[World.cell?,LL1.out.e0]
 go_wp2_with (refine zL p2 LL1.out.e2 ?_);refine(Z1p f m ta tc _ hv (RDb.out _ LL1.out.b) n.fix).mono ?_;rintro e w3 ⟨ua,uc,rfl,hrd,b3⟩;have RDc:=zH (show ∀W',Below p0 w W'->XU W' ua (Zo n.fix m).strokes.length uc (Zo n.fix m).strokes from fun W' h=>Z3d hrd (RDb.out W' h));clear hrd k18 c0 c1 c2;generalize hm2:Zo n.fix m=m2 at *;have HM2:=zH hm2;clear hm2;have L3:=zH (LL1.out.below b3);clear b3;have one2:=Zm m2 ua uc;have g2:=Zb w3 (.cells (Z5 m2 ua uc) 47) _ _ L3.out.e2;have G2:=zH g2;clear g2;go_upto_region 9 with (first
  |(refine zP w3 w3.heap.size (Z5 m2 ua uc) ?_)
  |(refine zL w3.heap.size (Z9 _ _) ?_)
  |(refine zN p2 (Z5 m2 ua uc) G2.out ?_))
 have L4:=zH ((L3.out.alloc (.cells (Z5 m2 ua uc) 47)).setRow (Z5 m2 ua uc));generalize (w3.alloc (.cells (Z5 m2 ua uc) 47)).setRow p2 (Z5 m2 ua uc)=W4 at *;clear G2;cases hok0:ZY f n.kind n
 ·go_upto_region 10 with fail;have j18:=zc L4.out.e2 18 _ rfl;have z18:=Zi L4.out.e2 18;go_upto_region 11 with fail;generalize hW:(W4.setCell ⟨p2,18,none⟩ (.int .i64 0))=W5 at *;have L5:=zH (show Vd w W5 p0 p1 p2 f n sa sc (Z5 { m2 with fix:=0 } ua uc)from by rw[<-hW];exact(L4.out.set 18 (.int .i64 0)));clear hW j18 z18;have j0:=zc L5.out.e2 0 _ rfl;have z0:=Zi L5.out.e2 0;have j1:=zc L5.out.e2 1 _ rfl;have z1:=Zi L5.out.e2 1;have j2:=zc L5.out.e2 2 _ rfl;have z2:=Zi L5.out.e2 2;have j3:=zc L5.out.e2 3 _ rfl;have z3:=Zi L5.out.e2 3;have j4:=zc L5.out.e2 4 _ rfl;have z4:=Zi L5.out.e2 4;obtain⟨N9,HN9⟩ : ∃N9:Z8,Hid (N9 = { { m2 with fix:=0 } with house:=0,num:=0,clock:=0,day:=0,kind:=0 }):=⟨_,zH rfl⟩;go_upto_region 12 with fail;generalize hW:(((((W5.setCell ⟨p2,0,none⟩ (.int .i64 0)).setCell ⟨p2,1,none⟩ (.int .i64 0)).setCell ⟨p2,2,none⟩ (.int .i64 0)).setCell ⟨p2,3,none⟩ (.int .i64 0)).setCell ⟨p2,4,none⟩ (.int .i64 0))=Wf18 at *;have Lf19:=zH (show Vd w Wf18 p0 p1 p2 f n sa sc (Z5 N9 ua uc)from by rw[HN9.out,<-hW];exact(((((L5.out.set 0 (.int .i64 0)).set 1 (.int .i64 0)).set 2 (.int .i64 0)).set 3 (.int .i64 0)).set 4 (.int .i64 0)));have RDf20:=zH (show XU Wf18 ua N9.strokes.length uc N9.strokes from by rw[HN9.out];exact RDc.out _ Lf19.out.b);clear hW;clear j0 z0 j1 z1 j2 z2 j3 z3 j4 z4;have hR:Zg f n=false:=by simp only[Zg,okB,if_neg (show ¬n.kind=2 by rw[HK.out];decide),if_pos HK.out];simp[hok0]
  have HRX:=zH hR;clear hR;go_wp2;go_ret;rw[HRX.out];exact⟨rfl,by rw[HP0.out];exact Lf19.out.b⟩
 ·have HO0:=zH hok0;cases hfi:ZY f n.fix m
  ·go_upto_region 10 with fail;have j18:=zc L4.out.e2 18 _ rfl;have z18:=Zi L4.out.e2 18;go_upto_region 11 with fail;generalize hW:(W4.setCell ⟨p2,18,none⟩ (.int .i64 0))=W5 at *;have L5:=zH (show Vd w W5 p0 p1 p2 f n sa sc (Z5 { m2 with fix:=0 } ua uc)from by rw[<-hW];exact(L4.out.set 18 (.int .i64 0)));clear hW j18 z18;have j0:=zc L5.out.e2 0 _ rfl;have z0:=Zi L5.out.e2 0;have j1:=zc L5.out.e2 1 _ rfl;have z1:=Zi L5.out.e2 1;have j2:=zc L5.out.e2 2 _ rfl;have z2:=Zi L5.out.e2 2;have j3:=zc L5.out.e2 3 _ rfl;have z3:=Zi L5.out.e2 3;have j4:=zc L5.out.e2 4 _ rfl;have z4:=Zi L5.out.e2 4;obtain⟨N9,HN9⟩ : ∃N9:Z8,Hid (N9 = { { m2 with fix:=0 } with house:=0,num:=0,clock:=0,day:=0,kind:=0 }):=⟨_,zH rfl⟩;go_upto_region 12 with fail;generalize hW:(((((W5.setCell ⟨p2,0,none⟩ (.int .i64 0)).setCell ⟨p2,1,none⟩ (.int .i64 0)).setCell ⟨p2,2,none⟩ (.int .i64 0)).setCell ⟨p2,3,none⟩ (.int .i64 0)).setCell ⟨p2,4,none⟩ (.int .i64 0))=Wf21 at *;have Lf22:=zH (show Vd w Wf21 p0 p1 p2 f n sa sc (Z5 N9 ua uc)from by rw[HN9.out,<-hW];exact(((((L5.out.set 0 (.int .i64 0)).set 1 (.int .i64 0)).set 2 (.int .i64 0)).set 3 (.int .i64 0)).set 4 (.int .i64 0)));have RDf23:=zH (show XU Wf21 ua N9.strokes.length uc N9.strokes from by rw[HN9.out];exact RDc.out _ Lf22.out.b);clear hW;clear j0 z0 j1 z1 j2 z2 j3 z3 j4 z4;have hR:Zg f n=false:=by simp only[Zg,okB,if_neg (show ¬n.kind=2 by rw[HK.out];decide),if_pos HK.out];simp[hok0,HM.out,hfi]
   have HRX:=zH hR;clear hR;go_wp2;go_ret;rw[HRX.out];exact⟨rfl,by rw[HP0.out];exact Lf22.out.b⟩
  ·have HFI:=zH hfi;have k18:=zc L4.out.e1 18 _ rfl;go_wp2_with fail;refine(Yf n.fix 1 4 _).mono ?_;rintro e W6 ⟨rfl,rfl⟩;clear k18;go_upto_region 10 with fail;have j18:=zc L4.out.e2 18 _ rfl;have z18:=Zi L4.out.e2 18;go_upto_region 11 with fail;generalize hW:(W4.setCell ⟨p2,18,none⟩ (.int .i64 0))=W5 at *;have L5:=zH (show Vd w W5 p0 p1 p2 f n sa sc (Z5 { m2 with fix:=0 } ua uc)from by rw[<-hW];exact(L4.out.set 18 (.int .i64 0)));clear hW j18 z18;have j0:=zc L5.out.e2 0 _ rfl;have z0:=Zi L5.out.e2 0;have j1:=zc L5.out.e2 1 _ rfl;have z1:=Zi L5.out.e2 1;have j2:=zc L5.out.e2 2 _ rfl;have z2:=Zi L5.out.e2 2;have j3:=zc L5.out.e2 3 _ rfl;have z3:=Zi L5.out.e2 3;have j4:=zc L5.out.e2 4 _ rfl;have z4:=Zi L5.out.e2 4;obtain⟨N9,HN9⟩ : ∃N9:Z8,Hid (N9 = { { m2 with fix:=0 } with house:=0,num:=0,clock:=0,day:=0,kind:=0 }):=⟨_,zH rfl⟩;go_upto_region 12 with fail;generalize hW:(((((W5.setCell ⟨p2,0,none⟩ (.int .i64 0)).setCell ⟨p2,1,none⟩ (.int .i64 0)).setCell ⟨p2,2,none⟩ (.int .i64 0)).setCell ⟨p2,3,none⟩ (.int .i64 0)).setCell ⟨p2,4,none⟩ (.int .i64 0))=Wf24 at *;have Lf25:=zH (show Vd w Wf24 p0 p1 p2 f n sa sc (Z5 N9 ua uc)from by rw[HN9.out,<-hW];exact(((((L5.out.set 0 (.int .i64 0)).set 1 (.int .i64 0)).set 2 (.int .i64 0)).set 3 (.int .i64 0)).set 4 (.int .i64 0)));have RDf26:=zH (show XU Wf24 ua N9.strokes.length uc N9.strokes from by rw[HN9.out];exact RDc.out _ Lf25.out.b);clear hW;clear j0 z0 j1 z1 j2 z2 j3 z3 j4 z4;cases hok:JC n.fix 1 4
   ·have hR:Zg f n=false:=by simp only[Zg,okB,if_neg (show ¬n.kind=2 by rw[HK.out];decide),if_pos HK.out];simp[hok0,HM.out,hfi,hok]
    have HRX:=zH hR;clear hR;go_wp2;go_ret;rw[HRX.out];exact⟨rfl,by rw[HP0.out];exact Lf25.out.b⟩
   ·go_wp2_with (first
     |(refine zL p1 Lf25.out.e1 ?_)
     |(refine zG p1 Lf25.out.e1 ?_))
    refine(Yc n sa sc _).mono ?_;rintro e wn27 ⟨rfl,b2⟩;have LN29:=zH (Lf25.out.below b2);have RD3:=zH (RDf26.out.below b2);clear b2;go_wp2_with fail;refine(Jg n.house n.num _).mono ?_;rintro e wr28 ⟨rfl,b2⟩;have LR30:=zH (LN29.out.below b2);have RD4:=zH (RD3.out.below b2);clear b2 RD3;cases hrn:ZF n.house n.num
    ·have hR:Zg f n=false:=by simp only[Zg,okB,if_neg (show ¬n.kind=2 by rw[HK.out];decide),if_pos HK.out];simp[hok0,HM.out,hfi,hok,hrn]
     have HRX:=zH hR;clear hR;go_wp2;go_ret;rw[HRX.out];exact⟨rfl,by rw[HP0.out];exact LR30.out.b⟩
    ·have HRN:=zH hrn;have k2:=zc LR30.out.e1 2 _ rfl;have k3:=zc LR30.out.e1 3 _ rfl;go_wp2_with fail;refine(Yf n.clock 1 1099511627776 _).mono ?_;rintro e w' ⟨rfl,rfl⟩;cases hcl:JC n.clock 1 1099511627776
     ·have hR:Zg f n=false:=by simp only[Zg,okB,if_neg (show ¬n.kind=2 by rw[HK.out];decide),if_pos HK.out];simp[hok0,HM.out,hfi,hok,hrn,hcl]
      have HRX:=zH hR;clear hR;go_wp2;go_ret;rw[HRX.out];exact⟨rfl,by rw[HP0.out];exact LR30.out.b⟩
     ·have HCL:=zH hcl;go_wp2_with fail;refine(Yf n.day 0 99999 _).mono ?_;rintro e w' ⟨rfl,rfl⟩;cases hda:JC n.day 0 99999
      ·have hR:Zg f n=false:=by simp only[Zg,okB,if_neg (show ¬n.kind=2 by rw[HK.out];decide),if_pos HK.out];simp[hok0,HM.out,hfi,hok,hrn,hcl,hda]
       have HRX:=zH hR;clear hR;go_wp2;go_ret;rw[HRX.out];exact⟨rfl,by rw[HP0.out];exact LR30.out.b⟩
      ·have HDA:=zH hda;go_wp2_with (first
        |(refine zL p2 LR30.out.e2 ?_)
        |(refine zG p2 LR30.out.e2 ?_))
       refine(Z3A N9 Zh ua uc none 0 _ RD4.out (ZW.nil _ 1)).mono ?_;rintro e ws ⟨rfl,b2⟩;have hR:Zg f n=XI (Qq n) Zh:=by simp only[Zg,okB,if_neg (show ¬n.kind=2 by rw[HK.out];decide),if_pos HK.out];simp[hok0,HM.out,hfi,hok,hrn,hcl,hda]
       have hN:Qq n=N9:=by rw[HN9.out];unfold Qq UC;rw[if_neg (show ¬n.kind=2 by rw[HK.out];decide),if_pos HK.out,HM.out,HM2.out]
       have HRX:=zH hR;clear hR;have HNX:=zH hN;clear hN;go_wp2;go_ret;rw[HRX.out,HNX.out];exact⟨rfl,by rw[HP0.out];exact(LR30.out.below b2).b⟩
end
theorem Z1b (f:Yh)(n:Z8)(sa:zA)(sc:Nat)(w:World)(hv:f.valid=true)(hs:XU w sa n.strokes.length sc n.strokes):
  Calls zq 114 #[f.val,.agg (Z5 n sa sc)] w fun e w'=>e = .returned (.bool (Zg f n))/\Below w.heap.size w w':=by
 by_cases k2:n.kind=2
 ·exact ZbG f n sa sc w hv hs k2
 ·by_cases k5:n.kind=5
  ·exact ZbF f n sa sc w hv hs k5
  ·exact ZbE f n sa sc w hv hs k2 k5
end Go.Proofs.YtlnhppgfhkkidaaGreat
