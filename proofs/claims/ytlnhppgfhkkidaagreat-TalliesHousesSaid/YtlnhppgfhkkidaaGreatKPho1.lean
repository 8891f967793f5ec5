/- Parts of the proof, in order. -/
import Derived.Deep.RegionHeld3
import Derived.Deep.QuietTactic
import Derived.BigQuiet
import Derived.WalkKit
import Derived.Lib.Hide
import Derived.WalkSpells
import Derived.WalkLawsBesides
import Derived.Laws.AppendOwnNone
import Derived.Deep.MidRow
import Derived.Deep.WholeRow
import Derived.Test.YtlnhppgfhkkidaaGreatProg
import Derived.Laws.Rows
import Derived.Lib.AppendZerosOnto
import Derived.Lib.Walk
import Derived.Handy
import Derived.Laws.ResultCell
import Derived.ChangeKeysEq
import Derived.Deep.Cut
set_option linter.unusedSimpArgs false
set_option linter.unusedVariables false
set_option maxHeartbeats 32000000
set_option maxRecDepth 100000
namespace Go.Proofs.YtlnhppgfhkkidaaGreat
open Go.Proofs.Tryz renaming prog → zq
theorem zX {α:Sort _}(a:α): ∃p,RowKit.Hid (a=p):=⟨_,rfl⟩
theorem lq0:type_of% @List.getElem_toArray := @List.getElem_toArray
theorem lq1:type_of% @List.getElem_cons_succ := @List.getElem_cons_succ
theorem lq2:type_of% @List.getElem_cons_zero := @List.getElem_cons_zero
theorem VZ:type_of% @List.setIfInBounds_toArray := @List.setIfInBounds_toArray
theorem VY:type_of% @List.set_cons_zero := @List.set_cons_zero
theorem VX:type_of% @List.set_cons_succ := @List.set_cons_succ
theorem zH {p:Prop}(h:p):RowKit.Hid p:=Lib.hid h
section
variable {P:Program}{ops:Array Oper}{Q:Exit->Act->World->Prop}{md:Region.Mode}{S:World->Prop}{fuel:Nat}{listed:Array Bool}{a a':Act}{w:World}
theorem zT (i:Nat){oi:Oper}(hi:ops[i]? = some oi)(v:Value)(hy:YieldsIf P ops S oi v a)(h:wpAnyH P md ops Q S fuel (listed.setIfInBounds i true) a' w)
  (hs:Region.noSelect ops=true:=by kernel_rfl) (hf:Region.free md ops listed i=true:=by kernel_rfl) (hr:(Region.ready md ops listed).contains i=true:=by kernel_rfl)
  (hQ : ∀c a w,Q (.panic c) (a.put oi.dst v) w->Q (.panic c) a w:=by exact fun _ _ _ h=>h) (hS:S w:=by assumption)
  (ha:a.put oi.dst v=a':=by first|(simp only[Act.put,List.getElem_toArray,List.getElem_cons_succ,List.getElem_cons_zero,List.setIfInBounds_toArray,List.set_cons_zero,List.set_cons_succ];rfl) | rfl):
  wpAnyH P md ops Q S (fuel+1) listed a w:=wpAnyH_take hi hs hf hr hQ hy hS (ha ▸ h)
theorem zW (i:Nat){oi:Oper}(hi:ops[i]? = some oi)(v:Value)(h:wpAnyH P md ops Q S fuel (listed.setIfInBounds i true) a' w)
  (hs:Region.noSelect ops=true:=by kernel_rfl) (hf:Region.free md ops listed i=true:=by kernel_rfl) (hr:(Region.ready md ops listed).contains i=true:=by kernel_rfl)
  (hQ : ∀c a w,Q (.panic c) (a.put oi.dst v) w->Q (.panic c) a w:=by exact fun _ _ _ h=>h) (hS:S w:=by assumption) (hy:YieldsIf P ops S oi v a:=by exact Or.inl ⟨by kernel_rfl,by intro W _;go_simp⟩)
  (ha:a.put oi.dst v=a':=by first|(simp only[Act.put,List.getElem_toArray,List.getElem_cons_succ,List.getElem_cons_zero,List.setIfInBounds_toArray,List.set_cons_zero,List.set_cons_succ];rfl) | rfl):
  wpAnyH P md ops Q S (fuel+1) listed a w:=wpAnyH_take hi hs hf hr hQ hy hS (ha ▸ h)
theorem zw (i:Nat){oi:Oper}(hi:ops[i]? = some oi)(b o:Nat)(h:wpAnyH P md ops Q S fuel (listed.setIfInBounds i true) a' w)
  (hs:Region.noSelect ops=true:=by kernel_rfl) (hf:Region.free md ops listed i=true:=by kernel_rfl) (hr:(Region.ready md ops listed).contains i=true:=by kernel_rfl)
  (hQ : ∀c a w,Q (.panic c) (a.put oi.dst (.pointer (some ⟨b,o,none⟩))) w->Q (.panic c) a w:=by exact fun _ _ _ h=>h) (hS:S w:=by assumption) (hy:YieldsIf P ops S oi (.pointer (some ⟨b,o,none⟩)) a:=by exact Or.inl ⟨by kernel_rfl,by intro W _;go_simp⟩)
  (ha:a.put oi.dst (.pointer (some ⟨b,o,none⟩))=a':=by first|(simp only[Act.put,List.getElem_toArray,List.getElem_cons_succ,List.getElem_cons_zero,List.setIfInBounds_toArray,List.set_cons_zero,List.set_cons_succ];rfl) | rfl):
  wpAnyH P md ops Q S (fuel+1) listed a w:=wpAnyH_take hi hs hf hr hQ hy hS (ha ▸ h)
theorem zS (i:Nat){oi:Oper}(hi:ops[i]? = some oi)(v:Value)(hq : ∀W,S W->(execOp a.eval oi).run P W = .ok (.value v) W)(h:wpAnyH P md ops Q S fuel (listed.setIfInBounds i true) a' w)
  (hs:Region.noSelect ops=true:=by kernel_rfl) (hf:Region.free md ops listed i=true:=by kernel_rfl) (hr:(Region.ready md ops listed).contains i=true:=by kernel_rfl)
  (hQ : ∀c a w,Q (.panic c) (a.put oi.dst v) w->Q (.panic c) a w:=by exact fun _ _ _ h=>h) (hS:S w:=by assumption) (hw:Region.wanted oi (yielded ops a.tmps)=true:=by kernel_rfl)
  (ha:a.put oi.dst v=a':=by first|(simp only[Act.put,List.getElem_toArray,List.getElem_cons_succ,List.getElem_cons_zero,List.setIfInBounds_toArray,List.set_cons_zero,List.set_cons_succ];rfl) | rfl):
  wpAnyH P md ops Q S (fuel+1) listed a w:=wpAnyH_take hi hs hf hr hQ (.inl ⟨hw,hq⟩) hS (ha ▸ h)
theorem zR (i:Nat){o:Oper}(ho:ops[i]? = some o)
  (h : ∀K':Act->World->Prop,Shut (∀a w,S w->(S w->wpAnyH P md ops Q S fuel (listed.setIfInBounds i true) a w)->K' a w)->if Region.wanted o (yielded ops a.tmps)=true then Oper.wp P o a w K' Q else K' (a.put o.dst undef) w)
  (hr:Region.ready md ops listed=[i]:=by kernel_rfl):wpAnyH P md ops Q S (fuel+1) listed a w:=wpAnyH_ready hr (by simp) (AllReadyH.cons ho h AllReadyH.nil)
theorem zn {i:Nat}{o:Oper}(h : ∀K':Act->World->Prop,Shut (∀a w,S w->(S w->wpAnyH P md ops Q S fuel (listed.setIfInBounds i true) a w)->K' a w)->if Region.wanted o (yielded ops a.tmps)=true then Oper.wp P o a w K' Q else K' (a.put o.dst undef) w)
  (ho:ops[i]? = some o:=by exact rfl):AllReadyH P md ops Q S fuel listed a w [i]:=AllReadyH.cons ho h AllReadyH.nil
theorem zM (rs:List Nat){i:Nat}{rt:List Nat}{o:Oper}(ho:ops[i]? = some o)
  (h : ∀K':Act->World->Prop,Shut (∀a w,S w->(S w->wpAnyH P md ops Q S fuel (listed.setIfInBounds i true) a w)->K' a w)->if Region.wanted o (yielded ops a.tmps)=true then Oper.wp P o a w K' Q else K' (a.put o.dst undef) w)
  (hs:AllReadyH P md ops Q S fuel listed a w rt) (hr:Region.ready md ops listed=rs:=by kernel_rfl) (e:rs=i :: rt:=by exact rfl):wpAnyH P md ops Q S (fuel+1) listed a w:=by
 subst e;exact wpAnyH_ready hr (by simp) (AllReadyH.cons ho h hs)
theorem zK {K:Act->World->Prop}(hK:Shut (∀a w,S w->(S w->wpAnyH P md ops Q S fuel listed a w)->K a w))(hS:S w)(h:S w->wpAnyH P md ops Q S fuel listed a' w)
  (ha:a=a':=by first|(simp only[Act.put,List.getElem_toArray,List.getElem_cons_succ,List.getElem_cons_zero,List.setIfInBounds_toArray,List.set_cons_zero,List.set_cons_succ];rfl) | rfl):K a w:=by
 subst ha;exact hK.out _ _ hS h
theorem zD {id:Nat}(S:World->Prop){Q:Exit->Act->World->Prop}(hS:S w.drew)(h:S w.drew->wpAnyH P .any ops (NoPanic Q) S ops.size (Array.replicate ops.size false) a w.drew)(hm:P.follows .mixedOrders=true:=by kernel_rfl):(Code.region id ops true).wp P Q a w:=
 wp_region_noPanic (wp_region_held_drew hm hS h)
theorem zp {id p:Nat}{c:Obj}{Q:Exit->Act->World->Prop}(hS:w.heap[p]? = some c)(h:w.drew.heap[p]? = some c->wpAnyH P .any ops (NoPanic Q) (fun w'=>w'.heap[p]? = some c) ops.size (Array.replicate ops.size false) a w.drew)(hm:P.follows .mixedOrders=true:=by kernel_rfl):(Code.region id ops true).wp P Q a w:=
 wp_region_noPanic (wp_region_held_drew (S:=fun w'=>w'.heap[p]? = some c) hm hS h)
theorem zb {id:Nat}{Q:Exit->Act->World->Prop}(h:RowKit.Below w.heap.size w w.drew->wpAnyH P .any ops (NoPanic Q) (fun w'=>RowKit.Below w.heap.size w w') ops.size (Array.replicate ops.size false) a w.drew)(hm:P.follows .mixedOrders=true:=by kernel_rfl):(Code.region id ops true).wp P Q a w:=
 wp_region_noPanic (wp_region_held_drew (S:=fun w'=>RowKit.Below w.heap.size w w') hm (RowKit.Below.refl _ _).drew h)
theorem zE {Q:Exit->Act->World->Prop}(h:Q .normal a w)(hr:Region.ready md ops listed=[]:=by kernel_rfl):wpAnyH P md ops (NoPanic Q) S fuel listed a w:=wpAnyH_done hr (NoPanic.normal h) _
theorem zC {id:Nat}{Q:Exit->Act->World->Prop}{l:List Oper}(C:World->Prop)(hC:C w.drew)(h:wpQuiet P l.toArray C (fun a' => ∀w',C w'->Q .normal a' w') l a)(hm:P.follows .mixedOrders=true:=by kernel_rfl)(hB:Region.lexB .any l.toArray=true:=by kernel_rfl):
  (Code.region id l.toArray true).wp P Q a w:=wp_region_quiet hm hB hC (by rw[List.toList_toArray];exact h)
theorem zd (w:World):RowKit.Below w.heap.size w w.drew:=(RowKit.Below.refl _ _).drew
theorem zB (w:World)(o:Obj):RowKit.Below w.heap.size w (w.alloc o):=(RowKit.Below.refl _ _).alloc (Nat.le_refl _) _
end
abbrev zJ (w w':World):Prop:=RowKit.Below w.heap.size w w'
abbrev zA:=Option Addr
abbrev zU:=List UInt8
abbrev Xz:=Array Value
section
variable {P:Program}{ops:Array Oper}{C:World->Prop}{Q:Act->Prop}{o:Oper}{rest:List Oper}{a a':Act}
theorem zQ (v:Value)(hq : ∀w,C w->o.quietAt P a C w v)(h:wpQuiet P ops C Q rest a')(hw:Region.wanted o (yielded ops a.tmps)=true:=by kernel_rfl)
  (ha:a.put o.dst v=a':=by first|(simp only[Act.put,List.setIfInBounds_toArray,List.set_cons_zero,List.set_cons_succ];rfl) | rfl):wpQuiet P ops C Q (o :: rest) a:=by
 subst ha;rw[wpQuiet,if_pos hw];exact⟨v,hq,h⟩
theorem zV (v:Value)(h:wpQuiet P ops C Q rest a')(hw:Region.wanted o (yielded ops a.tmps)=true:=by kernel_rfl)(hq : ∀w,C w->o.quietAt P a C w v:=by intro w0 hC;clear hC;go_simp)
  (ha:a.put o.dst v=a':=by first|(simp only[Act.put,List.setIfInBounds_toArray,List.set_cons_zero,List.set_cons_succ];rfl) | rfl):wpQuiet P ops C Q (o :: rest) a:=zQ v hq h hw ha
theorem zv (b k:Nat)(h:wpQuiet P ops C Q rest a')(hw:Region.wanted o (yielded ops a.tmps)=true:=by kernel_rfl)(hq : ∀w,C w->o.quietAt P a C w (.pointer (some ⟨b,k,none⟩)):=by intro w0 hC;clear hC;go_simp)
  (ha:a.put o.dst (.pointer (some ⟨b,k,none⟩))=a':=by first|(simp only[Act.put,List.setIfInBounds_toArray,List.set_cons_zero,List.set_cons_succ];rfl) | rfl):wpQuiet P ops C Q (o :: rest) a:=zQ _ hq h hw ha
end
open Go.RowKit
def ZX (w:World)(k:Nat)(a:zA)(n c:Nat)(xs:List Value):Prop:=
 xs.length=n * k/\n<=c/\c<=maxLen/\(c=0 \/ ∃b off,a=some ⟨b,off,none⟩ /\ ∀i x,xs[i]? = some x->w.cell? ⟨b,off+i,none⟩=some x)
theorem ZX.len {w:World}{k:Nat}{a:zA}{n c:Nat}{xs:List Value}(h:ZX w k a n c xs):xs.length=n * k:=h.1
theorem ZX.le {w:World}{k:Nat}{a:zA}{n c:Nat}{xs:List Value}(h:ZX w k a n c xs):n<=c:=h.2.1
theorem ZX.max {w:World}{k:Nat}{a:zA}{n c:Nat}{xs:List Value}(h:ZX w k a n c xs):c<=maxLen:=h.2.2.1
theorem ZX.maxn {w:World}{k:Nat}{a:zA}{n c:Nat}{xs:List Value}(h:ZX w k a n c xs):n<=9223372036854775807:=by
 have h1:=h.2.1;have h2:=h.2.2.1;unfold maxLen at h2;omega
theorem ZX.nil (w:World)(k:Nat):ZX w k none 0 0 []:=⟨by simp,Nat.le_refl _,Nat.zero_le _,.inl rfl⟩
theorem ZX.at {w:World}{k:Nat}{a:zA}{n c:Nat}{xs:List Value}(h:ZX w k a n c xs)(hn:0 < n):
  ∃b off,a=some ⟨b,off,none⟩ /\ ∀i x,xs[i]? = some x->w.cell? ⟨b,off+i,none⟩=some x:=by
 rcases h.2.2.2 with hc | h4
 ·have:=h.2.1;omega
 ·exact h4
theorem ZX.below {w w':World}{k:Nat}{a:zA}{n c:Nat}{xs:List Value}(h:ZX w k a n c xs)(hb:Below w.heap.size w w'):ZX w' k a n c xs:=by
 refine⟨h.1,h.2.1,h.2.2.1,?_⟩;rcases h.2.2.2 with h4 | ⟨b,off,rfl,h4⟩
 ·exact .inl h4
 ·refine .inr ⟨b,off,rfl,fun i x hx=>?_⟩;have h5:=h4 i x hx;exact(hb.cell (p:=⟨b,off+i,none⟩) (World.block_lt_of_cell? w _ h5)).trans h5
theorem ZX.of_cells {w w':World}{k:Nat}{a:zA}{n c:Nat}{xs:List Value}(h:ZX w k a n c xs)
  (hb : ∀b,(∃off,a=some ⟨b,off,none⟩)->b < w.heap.size->w'.heap[b]? = w.heap[b]?):ZX w' k a n c xs:=by
 refine⟨h.1,h.2.1,h.2.2.1,?_⟩;rcases h.2.2.2 with h4 | ⟨b,off,rfl,h4⟩
 ·exact .inl h4
 ·refine .inr ⟨b,off,rfl,fun i x hx=>?_⟩;have h5:=h4 i x hx;exact(World.cell?_of_block (a:=⟨b,off+i,none⟩) (hb b ⟨off,rfl⟩ (World.block_lt_of_cell? w _ h5))).trans h5
theorem ZX.of_own {w:World}{base:Nat}{e:TypeId}{k:Nat}{a:zA}{n c:Nat}{xs:List Value}(h:w.ownsRow base e k (.slice a n c) n xs):ZX w k a n c xs:=by
 obtain⟨h1,h2⟩:=h;rcases h2 with ⟨h2,rfl⟩ | ⟨g,cap,cur,hv,_,hg,hn,hc,hs,ht⟩
 ·simp only[Value.slice.injEq]at h2;obtain⟨rfl,_,rfl⟩:=h2;exact⟨h1,Nat.le_refl _,Nat.zero_le _,.inl rfl⟩
 ·simp only[Value.slice.injEq]at hv;obtain⟨rfl,_,rfl⟩:=hv;refine⟨h1,hn,hc,.inr ⟨g,0,rfl,fun i x hx=>?_⟩⟩;rw[cell_of_row w g (0+i) cur e (0,0) hg];rw[<-ht,List.getElem?_take]at hx;split at hx
  ·simpa using hx
  ·cases hx
theorem ZX.sliced {w:World}{k:Nat}{a:zA}{n c:Nat}{xs:List Value}(h:ZX w k a n c xs)(lo hi:Nat)(h1:lo<=hi)(h2:hi<=n):
  ∃a',Go.sliced a lo hi c k = .slice a' (hi - lo) (c - lo)/\ZX w k a' (hi - lo) (c - lo) ((xs.drop (lo * k)).take ((hi - lo) * k)):=by
 have hl:=h.1;have hmul:lo * k+(hi - lo) * k<=n * k:=by rw[<-Nat.add_mul];exact Nat.mul_le_mul_right _ (by omega)
 have hlen:((xs.drop (lo * k)).take ((hi - lo) * k)).length=(hi - lo) * k:=by
  simp only[List.length_take,List.length_drop,hl];omega
 refine⟨_,rfl,hlen,by have:=h.2.1;omega,by have:=h.2.2.1;omega,?_⟩;rcases h.2.2.2 with rfl | ⟨b,off,rfl,h4⟩
 ·exact .inl (by omega)
 ·by_cases hc:c=lo
  ·refine .inr ⟨b,off,by rw[if_pos hc],fun i x hx=>?_⟩;have:hi - lo=0:=by have:=h.2.1;omega
   rw[this]at hx;simp at hx
  ·refine .inr ⟨b,off+lo * k,by rw[if_neg hc];simp only[Option.map_some,Addr.add];split <;> simp_all,fun i x hx=>?_⟩;rw[Nat.add_assoc];apply h4;rw[List.getElem?_take]at hx;split at hx
   ·simpa [List.getElem?_drop] using hx
   ·cases hx
section
variable {P:Program}(w:World)
theorem Xh (base:Nat)(t ty e:TypeId)(i:TypeInfo)(z:Value)(size bytes:Nat)(ht:P.underlying t=some (.slice e))(hi:P.info? e=some i)(hz:i.zero=some z)
  (hsize:i.size=size) (hby:i.bytes=bytes) (hzs:z.cells.size=size) (hsz:0 < size)
  (sa:zA) (sn sc:Nat) (xs:List Value) (hown:w.ownsRow base e size (.slice sa sn sc) sn xs)
  (xa:zA) (m xc:Nat) (ys:List Value) (hrd:ZX w size xa m xc ys) (h1 : ∀u∈ys,u.oneCell'=true)
  (h63:sn+m<=maxLen) (hbytes:(sn+m) * bytes<=140737488355328) (hbase:base<=w.heap.size):
  ∃a' c' w',(Builtin.append_ #[t,t] ty #[.slice sa sn sc,.slice xa m xc]).run P w = .ok (.slice a' (sn+m) c') w'/\w'.ownsRow base e size (.slice a' (sn+m) c') (sn+m) (xs ++ ys)/\w.grownBy w' (Value.ownBlock (.slice sa sn sc)):=by
 have hshape : ∀(w':World) (v:Value) (n:Nat) (zs:List Value),w'.ownsRow base e size v n zs -> ∃a c,v = .slice a n c:=by
  intro w' v n zs h;rcases h.2 with ⟨rfl,rfl⟩ | ⟨g,cap,cur,rfl,_⟩
  ·exact⟨_,_,rfl⟩
  ·exact⟨_,_,rfl⟩
 rcases hrd.2.2.2 with rfl | ⟨b,off,rfl,h4⟩
 ·have hm:m=0:=by have:=hrd.2.1;omega
  subst hm;have hy:ys=[]:=List.eq_nil_of_length_eq_zero (by simpa using hrd.1);subst hy;cases xa with
  | none=>
   refine⟨sa,sc,w,?_,by simpa using hown,World.grownBy.refl _ _⟩;simpa using run_append_owned_none (P:=P) (w:=w) base t ty e i size ht hi _ sn xs hown
  | some ad=>
   obtain⟨v',w',hr,ho,hg,_⟩:=run_append_own (P:=P) w base t ty e i z size bytes ht hi hz hsize hby hzs hsz _ sn xs hown ad 0 0 [] (by simp)
    (fun j u hu=>by simp at hu) h1 h63 hbytes hbase
   obtain⟨a',c',rfl⟩:=hshape _ _ _ _ ho;exact⟨a',c',w',hr,ho,hg⟩
 ·obtain⟨v',w',hr,ho,hg,_⟩:=run_append_own (P:=P) w base t ty e i z size bytes ht hi hz hsize hby hzs hsz _ sn xs hown ⟨b,off,none⟩ m xc ys hrd.1
   (fun j u hu=>by rw[Addr.add_lit];exact h4 j u hu) h1 h63 hbytes hbase
  obtain⟨a',c',rfl⟩:=hshape _ _ _ _ ho;exact⟨a',c',w',hr,ho,hg⟩
theorem UG {ops:Array Oper}{rest:List Oper}{o:Oper}{a:Act}{Q:Exit->Act->World->Prop}(hgd:o.guard=none)(s x:Operand)(t:TypeId)
  (ho:o.op = .call { callee := .builtin .append,args := #[s,x],argTypes := #[t,t] })
  (base:Nat) (e:TypeId) (i:TypeInfo) (z:Value) (size bytes:Nat) (ht:P.underlying t=some (.slice e)) (hi:P.info? e=some i) (hz:i.zero=some z)
  (hsize:i.size=size) (hby:i.bytes=bytes) (hzs:z.cells.size=size) (hsz:0 < size)
  (sa:zA) (sn sc:Nat) (xs:List Value) (hs:a.eval s = .slice sa sn sc) (hown:w.ownsRow base e size (.slice sa sn sc) sn xs)
  (xa:zA) (m xc:Nat) (ys:List Value) (hx:a.eval x = .slice xa m xc) (hrd:ZX w size xa m xc ys) (h1 : ∀u∈ys,u.oneCell'=true)
  (h63:sn+m<=maxLen) (hbytes:(sn+m) * bytes<=140737488355328) (hbase:base<=w.heap.size)
  (h : ∀a' c' w',w'.ownsRow base e size (.slice a' (sn+m) c') (sn+m) (xs ++ ys)->w.grownBy w' (Value.ownBlock (.slice sa sn sc))->wpList P ops Q rest (a.put o.dst (.slice a' (sn+m) c')) w'):wpList P ops Q (o :: rest) a w:=by
 refine wpList_plain hgd fun K hK=>?_;obtain⟨a',c',w',hr,h2,h3⟩:=Xh (P:=P) w base t o.type e i z size bytes ht hi hz hsize hby hzs hsz sa sn sc xs hown xa m xc ys hrd h1 h63 hbytes hbase;unfold Oper.wp;simp[execOp,ho,resolve,invoke,builtin,hs,hx,hr,Result.andThen];exact hK _ _ (h a' c' w' h2 h3)
theorem Z3e {ops:Array Oper}{rest:List Oper}{o:Oper}{a:Act}{Q:Exit->Act->World->Prop}(hgd:o.guard=none)(x:Operand)(lo hi:Option Operand)(t:TypeId)
  (ho:o.op = .slice t x lo hi none) (e:TypeId) (i:TypeInfo) (size:Nat) (ht:P.underlying t=some (.slice e)) (hi':P.info? e=some i) (hsize:i.size=size)
  (xa:zA) (n c:Nat) (xs:List Value) (hx:a.eval x = .slice xa n c) (hrd:ZX w size xa n c xs) (L H:Nat)
  (hl:(lo=none/\L=0) \/ ∃q kd,lo=some q/\a.eval q = .int kd (L:Int)) (hh:(hi=none/\H=n) \/ ∃q kd,hi=some q/\a.eval q = .int kd (H:Int)) (h1:L<=H) (h2:H<=n)
  (h : ∀a',ZX w size a' (H - L) (c - L) ((xs.drop (L * size)).take ((H - L) * size))->wpList P ops Q rest (a.put o.dst (.slice a' (H - L) (c - L))) w):wpList P ops Q (o :: rest) a w:=by
 refine wpList_plain hgd fun K hK=>?_;obtain⟨a',hs,hr⟩:=hrd.sliced L H h1 h2;have hnc:=hrd.2.1;have hrun:(Instr.sliceAt t (a.eval x) (lo.map a.eval) (hi.map a.eval) none).run P w = .ok (.slice a' (H - L) (c - L)) w:=by
  rw[hx,<-hs];have hel:P.elem t=e:=by simp[Program.elem,ht]
  rw[run_sliceAt_slice (P:=P) w t _ _ _ _ (by rw[hel];exact ht),run_slice_any (P:=P) w t xa n c (by rw[hel];exact ht)];have hb:(Instr.sliceBounds true n c (lo.map a.eval) (hi.map a.eval) none).run P w = .ok (L,H,c) w:=by
   rcases hl with ⟨rfl,rfl⟩ | ⟨q,kd,rfl,hq⟩ <;> rcases hh with ⟨rfl,rfl⟩ | ⟨q',kd',rfl,hq'⟩
   ·simp[Instr.sliceBounds]
   ·simp[Instr.sliceBounds,hq',run_sliceBound,Result.andThen,(by omega:H<=c)]
   ·simp[Instr.sliceBounds,hq,run_sliceBound,Result.andThen,h1]
   ·simp[Instr.sliceBounds,hq,hq',run_sliceBound,Result.andThen,(by omega:H<=c),h1]
  rw[hb,hel];simp[Result.andThen,sizeOf,typeInfo,hi',hsize]
 unfold Oper.wp;simp only[execOp,ho];simp[hrun,Result.andThen];exact hK _ _ (h a' hr)
end
def Zt (b:UInt8):Value := .int .u8 b.toNat
theorem Z0P (l:zU): ∀u∈l.map Zt,u.oneCell'=true:=by
 intro u hu;obtain⟨_,_,rfl⟩:=List.mem_map.1 hu;rfl
def Yb (w:World)(a:zA)(n c:Nat)(l:zU):Prop:=ZX w 1 a n c (l.map Zt)
theorem Yb.len {w:World}{a:zA}{n c:Nat}{l:zU}(h:Yb w a n c l):l.length=n:=by simpa using h.1
theorem Yb.below {w w':World}{a:zA}{n c:Nat}{l:zU}(h:Yb w a n c l)(hb:Below w.heap.size w w'):Yb w' a n c l:=ZX.below h hb
theorem Yb.at {w:World}{a:zA}{n c:Nat}{l:zU}(h:Yb w a n c l)(hn:0 < n):
  ∃b off,a=some ⟨b,off,none⟩ /\ ∀i,i < n->w.cell? ⟨b,off+i,none⟩=some (.int .u8 ((l[i]?.getD 0).toNat:Int)):=by
 obtain⟨b,off,rfl,h4⟩:=ZX.at h hn;refine⟨b,off,rfl,fun i hi=>h4 i _ ?_⟩;have:=h.len;simp[Zt,List.getElem?_map,List.getElem?_eq_getElem (show i < l.length by omega)]
theorem Z62 {P:Program}{w:World}{k:Nat}{b off n c:Nat}{xs:List Value}(h:ZX w k (some ⟨b,off,none⟩) n c xs)(m:Nat)(hm:m=xs.length):(loadCells ⟨b,off,none⟩ m).run P w = .ok xs.toArray w:=by
 have h4 : ∀i x,xs[i]? = some x->w.cell? ⟨b,off+i,none⟩=some x:=by
  rcases h.2.2.2 with h5 | ⟨b',off',h5,h4⟩
  ·have hn:n=0:=by have:=h.2.1;omega
   have hx:xs=[]:=List.eq_nil_of_length_eq_zero (by rw[h.1,hn];simp);subst hx;intro i x hx;simp at hx
  ·cases h5;exact h4
 subst hm;have:=run_firstCells_some (P:=P) (w:=w) 1 xs.length ⟨b,off,none⟩ 0 0 xs (by simp) (fun j v hv=>by rw[Addr.add_lit];exact h4 j v hv);simpa [Builtin.firstCells] using this
theorem Z2B (l:zU): ∀(s:ByteArray),(l.map fun b=>((b.toNat:Nat):Int)).foldl (fun r n=>r.push (UInt8.ofNat n.toNat)) s=⟨s.data ++ l.toArray⟩:=by
 induction l with
 | nil=>intro s;simp
 | cons b l ih=>
  intro s;rw[List.map_cons,List.foldl_cons,ih];simp[ByteArray.push]
theorem Z3j {P:Program}{w:World}(src dst e:TypeId)(hs:P.underlying src=some (.slice e))(he:P.underlying e=some (.int .u8))(hd:P.underlying dst=some .string)
  {a:zA} {n c:Nat} {l:zU} (h:Yb w a n c l):(convert src dst (.slice a n c)).run P w = .ok (.string ⟨l.toArray⟩) w:=by
 rw[run_convert_bytes_string w src dst e a n c hs he hd];rcases h.2.2.2 with rfl | ⟨b,off,rfl,h4⟩
 ·have hn:n=0:=by have:=h.2.1;omega
  have hl:l=[]:=List.eq_nil_of_length_eq_zero (by rw[h.len,hn]);subst hl;subst hn;cases a with
  | none=>
   simp[Conv.bytesToString];rfl
  | some ad=>
   rw[run_bytesToString w ad 0 0 [] (by simp[loadCells,loadCellsFrom])];rfl
 ·have hld:=Z62 (P:=P) h n (by simp[h.len]);have hmap:l.map Zt=(l.map fun b=>((b.toNat:Nat):Int)).map (Value.int .u8):=by simp[Zt]
  rw[hmap]at hld;rw[run_bytesToString w ⟨b,off,none⟩ n c _ hld,Z2B];simp
def Yo (z:Int):Value := .int .i64 z
theorem Z1K (l:List Int): ∀u∈l.map Yo,u.oneCell'=true:=by
 intro u hu;obtain⟨_,_,rfl⟩:=List.mem_map.1 hu;rfl
def Qm (z:Int):Prop := -9223372036854775808<=z/\z<=9223372036854775807
def Xe (w:World)(a:zA)(n c:Nat)(l:List Int):Prop:=ZX w 1 a n c (l.map Yo)
theorem Xe.len {w:World}{a:zA}{n c:Nat}{l:List Int}(h:Xe w a n c l):l.length=n:=by simpa using h.1
theorem Xe.below {w w':World}{a:zA}{n c:Nat}{l:List Int}(h:Xe w a n c l)(hb:Below w.heap.size w w'):Xe w' a n c l:=ZX.below h hb
theorem Xe.maxn {w:World}{a:zA}{n c:Nat}{l:List Int}(h:Xe w a n c l):n<=9223372036854775807:=ZX.maxn h
theorem Xe.at {w:World}{a:zA}{n c:Nat}{l:List Int}(h:Xe w a n c l)(hn:0 < n):
  ∃b off,a=some ⟨b,off,none⟩ /\ ∀i,i < n->w.cell? ⟨b,off+i,none⟩=some (.int .i64 (l[i]?.getD 0)):=by
 obtain⟨b,off,rfl,h4⟩:=ZX.at h hn;refine⟨b,off,rfl,fun i hi=>h4 i _ ?_⟩;have:=h.len;simp[Yo,List.getElem?_map,List.getElem?_eq_getElem (show i < l.length by omega)]
structure NoteV where
 house:Int
 num:Int
 clock:Int
 day:Int
 kind:Int
 stone:Int
 heap:Int
 turns:Int
 hardLo:Int
 hardHi:Int
 diffLo:Int
 diffHi:Int
 a:Int
 b:Int
 ring:Int
 refH:Int
 refN:Int
 fix:Int
 strokes:List Int
deriving Inhabited
def NoteV.cells (n:NoteV)(sa:zA)(sc:Nat):List Value:=
 [.int .i64 n.house,.int .i64 n.num,.int .i64 n.clock,.int .i64 n.day,.int .i64 n.kind,.int .i64 n.stone,.int .i64 n.heap,.int .i64 n.turns,.int .i64 n.hardLo,.int .i64 n.hardHi,.int .i64 n.diffLo,.int .i64 n.diffHi,.int .i64 n.a,.int .i64 n.b,.int .i64 n.ring,.slice sa n.strokes.length sc,.int .i64 n.refH,.int .i64 n.refN,.int .i64 n.fix]
theorem NoteV.cells_one (n:NoteV)(sa:zA)(sc:Nat): ∀v∈n.cells sa sc,v.oneCell'=true:=by
 intro v hv;simp only[NoteV.cells,List.mem_cons,List.not_mem_nil,or_false]at hv;rcases hv with rfl | rfl | rfl | rfl | rfl | rfl | rfl | rfl | rfl | rfl | rfl | rfl | rfl | rfl | rfl | rfl | rfl | rfl | rfl <;> rfl
structure NoteV.Ok (n:NoteV):Prop where
 house:Qm n.house
 num:Qm n.num
 clock:Qm n.clock
 day:Qm n.day
 kind:Qm n.kind
 stone:Qm n.stone
 heap:Qm n.heap
 turns:Qm n.turns
 hardLo:Qm n.hardLo
 hardHi:Qm n.hardHi
 diffLo:Qm n.diffLo
 diffHi:Qm n.diffHi
 a:Qm n.a
 b:Qm n.b
 ring:Qm n.ring
 refH:Qm n.refH
 refN:Qm n.refN
 fix:Qm n.fix
 strokes : ∀z∈n.strokes,Qm z
def ZbE (w:World)(cs:List Value)(n:NoteV):Prop := ∃sa sc,cs=n.cells sa sc/\Xe w sa n.strokes.length sc n.strokes/\n.Ok
theorem UD {P:Program}{ops:Array Oper}{rest:List Oper}{op:Oper}{a:Act}{Q:Exit->Act->World->Prop}(w:World)(hgd:op.guard=none)(ty:TypeId)(x y:Operand)(ho:op.op = .store ty x y)
  (c c':Xz) (hx:a.eval x = .pointer (some ⟨w.heap.size,0,none⟩)) (hy:a.eval y = .agg c') (hi:(P.info? ty).map (·.size)=some c'.size) (hc:c.size=c'.size) (h1:c'.all (·.oneCell')=true)
  (h:wpList P ops Q rest (a.put op.dst undef) (w.alloc (.cells c' ty))):wpList P ops Q (op :: rest) a (w.alloc (.cells c ty)):=by
 refine wpList_plain hgd fun K hK=>?_;unfold Oper.wp execOp;simp only[ho,hx,hy,run_storeAt_new w ty c c' hi hc h1,Sem.run_bind,Sem.run_pure,Result.andThen_ok];exact hK _ _ h
def Z5 (n:NoteV)(sa:zA)(sc:Nat):Xz:=(n.cells sa sc).toArray
def Zd:NoteV:=⟨0,0,0,0,0,0,0,0,0,0,0,0,0,0,0,0,0,0,[]⟩
section
variable (n:NoteV)(sa:zA)(sc:Nat)
theorem Z1f:(Z5 n sa sc).size=19:=rfl
theorem Zh:(Z5 n sa sc).all (·.oneCell')=true:=all_oneCell_toArray (n.cells_one sa sc)
theorem ZS:(Z5 n sa sc)[0]? = some (.int .i64 n.house):=rfl
theorem Xi:(Z5 n sa sc)[1]? = some (.int .i64 n.num):=rfl
theorem Jg:(Z5 n sa sc)[2]? = some (.int .i64 n.clock):=rfl
theorem Qz:(Z5 n sa sc)[3]? = some (.int .i64 n.day):=rfl
theorem Jf:(Z5 n sa sc)[4]? = some (.int .i64 n.kind):=rfl
theorem Qy:(Z5 n sa sc)[5]? = some (.int .i64 n.stone):=rfl
theorem Qx:(Z5 n sa sc)[6]? = some (.int .i64 n.heap):=rfl
theorem Qw:(Z5 n sa sc)[7]? = some (.int .i64 n.turns):=rfl
theorem Ve:(Z5 n sa sc)[8]? = some (.int .i64 n.hardLo):=rfl
theorem Vd:(Z5 n sa sc)[9]? = some (.int .i64 n.hardHi):=rfl
theorem JY:(Z5 n sa sc)[10]? = some (.int .i64 n.diffLo):=rfl
theorem JX:(Z5 n sa sc)[11]? = some (.int .i64 n.diffHi):=rfl
theorem JG:(Z5 n sa sc)[12]? = some (.int .i64 n.a):=rfl
theorem JE:(Z5 n sa sc)[13]? = some (.int .i64 n.b):=rfl
theorem JD:(Z5 n sa sc)[14]? = some (.int .i64 n.ring):=rfl
theorem J5:(Z5 n sa sc)[15]? = some (.slice sa n.strokes.length sc):=rfl
theorem Jj:(Z5 n sa sc)[16]? = some (.int .i64 n.refH):=rfl
theorem Ji:(Z5 n sa sc)[17]? = some (.int .i64 n.refN):=rfl
theorem Js:(Z5 n sa sc)[18]? = some (.int .i64 n.fix):=rfl
theorem Z4b (x:Int):(Z5 n sa sc).setIfInBounds 0 (.int .i64 x)=Z5 { n with house:=x } sa sc:=rfl
theorem Z4a (x:Int):(Z5 n sa sc).setIfInBounds 1 (.int .i64 x)=Z5 { n with num:=x } sa sc:=rfl
theorem Z49 (x:Int):(Z5 n sa sc).setIfInBounds 2 (.int .i64 x)=Z5 { n with clock:=x } sa sc:=rfl
theorem Z48 (x:Int):(Z5 n sa sc).setIfInBounds 3 (.int .i64 x)=Z5 { n with day:=x } sa sc:=rfl
theorem Z47 (x:Int):(Z5 n sa sc).setIfInBounds 4 (.int .i64 x)=Z5 { n with kind:=x } sa sc:=rfl
theorem Z46 (x:Int):(Z5 n sa sc).setIfInBounds 5 (.int .i64 x)=Z5 { n with stone:=x } sa sc:=rfl
theorem Z45 (x:Int):(Z5 n sa sc).setIfInBounds 6 (.int .i64 x)=Z5 { n with heap:=x } sa sc:=rfl
theorem Z44 (x:Int):(Z5 n sa sc).setIfInBounds 7 (.int .i64 x)=Z5 { n with turns:=x } sa sc:=rfl
theorem Z43 (x:Int):(Z5 n sa sc).setIfInBounds 8 (.int .i64 x)=Z5 { n with hardLo:=x } sa sc:=rfl
theorem Z42 (x:Int):(Z5 n sa sc).setIfInBounds 9 (.int .i64 x)=Z5 { n with hardHi:=x } sa sc:=rfl
theorem Z2v (x:Int):(Z5 n sa sc).setIfInBounds 10 (.int .i64 x)=Z5 { n with diffLo:=x } sa sc:=rfl
theorem Z2u (x:Int):(Z5 n sa sc).setIfInBounds 11 (.int .i64 x)=Z5 { n with diffHi:=x } sa sc:=rfl
theorem Z2t (x:Int):(Z5 n sa sc).setIfInBounds 12 (.int .i64 x)=Z5 { n with a:=x } sa sc:=rfl
theorem Z2s (x:Int):(Z5 n sa sc).setIfInBounds 13 (.int .i64 x)=Z5 { n with b:=x } sa sc:=rfl
theorem Z2r (x:Int):(Z5 n sa sc).setIfInBounds 14 (.int .i64 x)=Z5 { n with ring:=x } sa sc:=rfl
theorem Z2q:(Z5 n sa sc).setIfInBounds 15 (.slice none 0 0)=Z5 { n with strokes:=[] } none 0:=rfl
theorem Z2p (x:Int):(Z5 n sa sc).setIfInBounds 16 (.int .i64 x)=Z5 { n with refH:=x } sa sc:=rfl
theorem Z2o (x:Int):(Z5 n sa sc).setIfInBounds 17 (.int .i64 x)=Z5 { n with refN:=x } sa sc:=rfl
theorem Z2n (x:Int):(Z5 n sa sc).setIfInBounds 18 (.int .i64 x)=Z5 { n with fix:=x } sa sc:=rfl
end
theorem ZZ:Z5 Zd none 0 = #[.int .i64 0,.int .i64 0,.int .i64 0,.int .i64 0,.int .i64 0,.int .i64 0,.int .i64 0,.int .i64 0,.int .i64 0,.int .i64 0,.int .i64 0,.int .i64 0,.int .i64 0,.int .i64 0,.int .i64 0,.slice none 0 0,.int .i64 0,.int .i64 0,.int .i64 0]:=rfl
section
variable {P:Program}{ops:Array Oper}{rest:List Oper}{op:Oper}{a:Act}{Q:Exit->Act->World->Prop}
theorem ZM (w:World)(hgd:op.guard=none)(ty:TypeId)(x y:Operand)(ho:op.op = .store ty x y)(p:Nat)(hp:w.heap.size=p)
  (c c':Xz) (hx:a.eval x = .pointer (some ⟨p,0,none⟩)) (hy:a.eval y = .agg c') (hi:(P.info? ty).map (·.size)=some c'.size) (hc:c.size=c'.size) (h1:c'.all (·.oneCell')=true)
  (h:wpList P ops Q rest (a.put op.dst undef) (w.alloc (.cells c' ty))):wpList P ops Q (op :: rest) a (w.alloc (.cells c ty)):=by
 subst hp;exact UD w hgd ty x y ho c c' hx hy hi hc h1 h
theorem Zm (w:World)(o:Obj)(p:Nat)(h:w.heap.size=p):(w.alloc o).heap[p]? = some o:=by subst h;exact heap_alloc_last w o
theorem Z9 (w:World)(o:Obj):(w.alloc o).heap[w.heap.size]? = some o:=heap_alloc_last w o
theorem Z8 (w:World)(o:Obj)(p:Nat)(x:Obj)(h:w.heap[p]? = some x):(w.alloc o).heap[p]? = some x:=by
 have hp:=(Array.getElem?_eq_some_iff.1 h).1;rw[<-h];simp only[World.alloc,Array.getElem?_push];rw[if_neg (by omega)]
end
theorem zI: ∀(m:NoteV) (a:zA) (c:Nat),(zq.info? 47).map (·.size)=some (Z5 m a c).size:=fun m a c=>by kernel_rfl
theorem zc {W:World}{p:Nat}{n:NoteV}{sa:zA}{sc:Nat}(h:W.heap[p]? = some (.cells (Z5 n sa sc) 47))(j:Nat)(v:Value)(hv:(n.cells sa sc)[j]? = some v):W.cell? ⟨p,j,none⟩=some v:=by
 simp only[World.cell?,h];simpa [Z5] using hv
theorem zY {ops:Array Oper}{S:World->Prop}{o:Oper}{a:Act}{x:Operand}{n:NoteV}{sa:zA}{sc:Nat}(b:Nat)(hS : ∀w,S w->w.heap[b]? = some (.cells (Z5 n sa sc) 47))(hw:Region.wanted o (yielded ops a.tmps)=true:=by kernel_rfl)
  (ho:o.op = .load 47 x:=by exact rfl) (hx:a.eval x = .pointer (some ⟨b,0,none⟩):=by exact rfl):YieldsIf zq ops S o (.agg (Z5 n sa sc)) a:=
 .inl ⟨hw,fun w hw'=>by
  unfold execOp
  simp only[ho,hx,Instr.loadAt,Instr.sureAddr,Sem.run_bind,Sem.run_pure,Result.andThen_ok,run_loadVar_row w b 47 47 (Z5 n sa sc) (0,0) _ (hS w hw') Tryz.underlying47 rfl (zI _ _ _)]⟩
section
variable {ops:Array Oper}{rest:List Oper}{o:Oper}{a:Act}{w:World}{Q:Exit->Act->World->Prop}{n m:NoteV}{sa ta:zA}{sc tc:Nat}{x y:Operand}
theorem zL (g:Nat)(hg:w.heap[g]? = some (.cells (Z5 n sa sc) 47))(h:wpList zq ops Q rest (a.put o.dst (.agg (Z5 n sa sc))) w)
  (hgd:o.guard=none:=by exact rfl) (ho:o.op = .load 47 x:=by exact rfl) (hx:a.eval x = .pointer (some ⟨g,0,none⟩):=by exact rfl):wpList zq ops Q (o :: rest) a w:=
 wpList_plain hgd fun _ hK=>wp_load_row 47 x ho g hx 47 (Z5 n sa sc) (0,0) _ hg Tryz.underlying47 rfl (zI _ _ _) (hK _ _ h)
theorem zG (g:Nat)(hg:w.heap[g]? = some (.cells (Z5 n sa sc) 47))(h:wpList zq ops Q rest (a.put o.dst (.agg (Z5 n sa sc))) w)
  (hw:Region.wanted o (yielded ops a.tmps)=true:=by kernel_rfl) (ho:o.op = .load 47 x:=by exact rfl) (hx:a.eval x = .pointer (some ⟨g,0,none⟩):=by exact rfl):wpList zq ops Q (o :: rest) a w:=
 wpList_step fun _ hK=>by rw[if_pos hw];exact wp_load_row 47 x ho g hx 47 (Z5 n sa sc) (0,0) _ hg Tryz.underlying47 rfl (zI _ _ _) (hK _ _ h)
theorem zN (p:Nat)(c':Xz)(hg:w.heap[p]? = some (.cells (Z5 n sa sc) 47))(h:wpList zq ops Q rest (a.put o.dst undef) (w.setRow p c'))
  (hgd:o.guard=none:=by exact rfl) (ho:o.op = .store 47 x y:=by exact rfl) (hx:a.eval x = .pointer (some ⟨p,0,none⟩):=by exact rfl) (hy:a.eval y = .agg c':=by exact rfl)
  (hi:(zq.info? 47).map (·.size)=some c'.size:=by exact zI _ _ _) (hc:(Z5 n sa sc).size=c'.size:=by exact rfl) (h1:c'.all (·.oneCell')=true:=by exact Zh _ _ _):wpList zq ops Q (o :: rest) a w:=by
 refine wpList_plain hgd fun K hK=>?_;unfold Oper.wp execOp;simp only[ho,hx,hy,Instr.storeAt,Instr.sureAddr,Sem.run_bind,Sem.run_pure,Result.andThen_ok,run_storeVar_row w p 47 47 (Z5 n sa sc) c' hg hi hc h1];exact hK _ _ h
theorem zP (w:World)(p:Nat){c:Xz}(c':Xz)(h:wpList zq ops Q rest (a.put o.dst undef) (w.alloc (.cells c' 47)))
  (hgd:o.guard=none:=by exact rfl) (ho:o.op = .store 47 x y:=by exact rfl) (hp:w.heap.size=p:=by exact rfl) (hx:a.eval x = .pointer (some ⟨p,0,none⟩):=by exact rfl) (hy:a.eval y = .agg c':=by exact rfl)
  (hi:(zq.info? 47).map (·.size)=some c'.size:=by exact zI _ _ _) (hc:c.size=c'.size:=by exact rfl) (h1:c'.all (·.oneCell')=true:=by exact Zh _ _ _):wpList zq ops Q (o :: rest) a (w.alloc (.cells c 47)):=by
 subst hp;exact UD w hgd 47 x y ho c c' hx hy hi hc h1 h
end
theorem U5:(zq.info? 5).map (fun i=>(i.zero,i.size,i.bytes))=some (some (.int .u8 0),1,1):=by kernel_rfl
def Z0o (l:zU):Nat->Int
 | 0=>1
 | k+1=>(Z0o l k+(k+1) * (l[k]?.getD 0).toNat) % 65521
def chk (l:zU):Nat:=(Z0o l l.length).toNat
theorem Z1X (l:zU)(k:Nat):0<=Z0o l k/\Z0o l k < 65521:=by
 cases k with
 | zero=>simp[Z0o]
 | succ k=>simp only[Z0o];omega
theorem Zbx (l:zU):(chk l:Int)=Z0o l l.length:=by
 have:=Z1X l l.length;unfold chk;omega
theorem Z8I (l:zU):chk l < 65521:=by
 have:=Z1X l l.length;unfold chk;omega
def two (n:Nat):zU:=[UInt8.ofNat n,UInt8.ofNat (n / 256)]
theorem Ql (l:zU)(k:Nat):((l[k]?.getD 0).toNat:Int) < 256:=by have:=(l[k]?.getD 0).toNat_lt;omega
theorem Z7E {l:zU}{k n:Nat}(hn:n<=140737488355328)(hlt:k < n):0<=((k:Int)+1) * ((l[k]?.getD 0).toNat:Int)/\((k:Int)+1) * ((l[k]?.getD 0).toNat:Int)<=140737488355328 * 256:=by
 have hB:=Ql l k;exact⟨Int.mul_nonneg (by omega) (by omega),Int.mul_le_mul (by omega) (by omega) (by omega) (by omega)⟩
theorem Zaa (a:zA)(n c:Nat)(l:zU)(w:World)(hn:n<=140737488355328)(hr:Yb w a n c l):
  Calls zq 162 #[.slice a n c] w fun e w'=>e = .returned (.int .i64 (chk l))/\w=w':=by
 have hle:=hr.len;go_enter Tryz.func162,Tryz.ntmps162;go_wp2;go_loop [3,4,5,8] (fun s _ _ i=>∃k:Nat,k<=n/\i = .int .i64 k/\s = .int .i64 (Z0o l k)) (fun _ _ _ i=>n - (intOf i).toNat)
 case atStart=>exact⟨0,Nat.zero_le _,rfl,rfl⟩
 case round=>
  obtain⟨k,hk,rfl,rfl⟩:=hrel;by_cases hlt:k < n
  ·obtain⟨b,off,rfl,hc⟩:=hr.at (by omega);have hb:=Z1X l k;have hcell:=hc k hlt;have hB:=Ql l k;obtain⟨hM,hM2⟩:=Z7E (l:=l) hn hlt;clear hc hr hle;go_wp2;go_round
   case rel=>exact⟨k+1,by omega,by go_num,by simp[Z0o]⟩
   case measure=>simp[intOf];omega
  ·clear hle;go_wp2;go_ret;have:k=l.length:=by rw[hr.len];omega
   subst this;exact⟨by rw[Zbx];rfl,rfl⟩
theorem Z3W (a:zA)(n c:Nat)(l:zU)(w:World)(hn:n<=140737488355328)(hr:Yb w a n c l):
  Calls zq 208 #[.slice a n c] w fun e w'=>e = .returned (.int .i64 (chk l))/\w=w':=by
 have hle:=hr.len;go_enter Tryz.func208,Tryz.ntmps208;go_wp2;go_loop [3,4] (fun s i=>∃k:Nat,k<=n/\i = .int .i64 k/\s = .int .i64 (Z0o l k)) (fun _ i=>n - (intOf i).toNat)
 case atStart=>exact⟨0,Nat.zero_le _,rfl,rfl⟩
 case round=>
  obtain⟨k,hk,rfl,rfl⟩:=hrel;by_cases hlt:k < n
  ·obtain⟨b,off,rfl,hc⟩:=hr.at (by omega);have hb:=Z1X l k;have hcell:=hc k hlt;have hB:=Ql l k;obtain⟨hM,hM2⟩:=Z7E (l:=l) hn hlt;clear hc hr hle;go_wp2;go_round
   case rel=>exact⟨k+1,by omega,by go_num,by simp[Z0o]⟩
   case measure=>simp[intOf];omega
  ·clear hle;go_wp2;go_ret;have:k=l.length:=by rw[hr.len];omega
   subst this;exact⟨by rw[Zbx];rfl,rfl⟩
theorem Zav (n:Nat):(two n).map Zt=[.int .u8 ((n:Int) % 256),.int .u8 ((n:Int) / 256 % 256)]:=by
 simp only[two,Zt,List.map_cons,List.map_nil,UInt8.toNat_ofNat'];simp
theorem Z8W (n:Nat)(w:World)(hn:n < 65536):(w.alloc (Obj.cells #[Value.int IntKind.u8 ((n:Int) % 256),Value.int IntKind.u8 ((n:Int) / 256)] 5)).ownsRow w.heap.size 5 1 (.slice (some ⟨w.heap.size,0,none⟩) 2 2) 2 ((two n).map Zt):=by
 have h:=World.ownsRow_lit (base:=w.heap.size) (e:=5) (size:=1) w #[Value.int IntKind.u8 ((n:Int) % 256),Value.int IntKind.u8 ((n:Int) / 256)] 2 (Nat.le_refl _) (by unfold maxLen;omega) rfl;rw[Zav,show(n:Int) / 256 % 256=(n:Int) / 256 by omega];exact h
theorem Z5H (n:Nat)(w:World)(hn:n < 65536):
  Calls zq 161 #[.int .i64 n] w fun e w' => ∃a c,e = .returned (.slice a 2 c)/\w'.ownsRow w.heap.size 5 1 (.slice a 2 c) 2 ((two n).map Zt)/\Below w.heap.size w w':=by
 go_enter Tryz.func161,Tryz.ntmps161;go_wp2;go_ret;exact⟨_,_,rfl,Z8W n w hn,zB _ _⟩
theorem Z3N (n:Nat)(w:World)(hn:n < 65536):
  Calls zq 209 #[.int .i64 n] w fun e w' => ∃a c,e = .returned (.slice a 2 c)/\w'.ownsRow w.heap.size 5 1 (.slice a 2 c) 2 ((two n).map Zt)/\Below w.heap.size w w':=by
 go_enter Tryz.func209,Tryz.ntmps209;go_wp2;go_ret;exact⟨_,_,rfl,Z8W n w hn,zB _ _⟩
theorem Zb6 (n:Nat)(w:World)(hn:n<=140737488355328):
  Calls zq 198 #[.slice none 0 0,.int .i64 n] w fun e w' => ∃a c,e = .returned (.slice a 0 c)/\w'.ownsRow w.heap.size 5 1 (.slice a 0 c) 0 []/\Below w.heap.size w w':=by
 obtain⟨i,hi,hz0,hz1,hz2⟩:=info_parts U5;by_cases h0:n=0
 ·subst h0;go_enter Tryz.func198,Tryz.ntmps198;go_wp2;go_ret;exact⟨_,_,rfl,World.ownsRow_nil _ _ _ _,Below.refl _ _⟩
 ·have hG:n<=grownCap w n 0 5:=grownCap_ge w _ _ _;have hGm:grownCap w n 0 5<=maxLen:=grownCap_le_maxLen w n 0 5 (by unfold maxLen;omega);have hrz : ∀ty,(Builtin.append_ #[41,3] ty #[.slice none 0 0,.int .i64 (n:Int)]).run zq w =
    .ok (.slice (some ⟨w.heap.size,0,none⟩) n (grownCap w n 0 5)) (w.drew.alloc (.cells (Builtin.zeroCells (Value.int .u8 0).cells n ++ Builtin.zeroCells (Value.int .u8 0).cells (grownCap w n 0 5 - n)) 5)):=fun ty=>by
   have h:=Lib.run_append_grow_zeros w 41 3 ty 5 i (.int .u8 0) .i64 .i64 Tryz.underlying41 Tryz.underlying3 hi hz0 none 0 0 [] (run_firstCells_none (P:=zq) (w:=w.drew) i.size 0 0 0) n (by omega) (by omega) (by omega) (by omega) (by rw[hz2];omega)
    (by rw[hz2];exact growslice_fits (by omega) (by omega))
   simpa using h
  have hpos:0 < (n:Int):=by omega
  obtain⟨G,hG'⟩ : ∃G,G=grownCap w n 0 5:=⟨_,rfl⟩;rw[<-hG']at hrz hG hGm;have hsz:(Builtin.zeroCells (Value.int .u8 0).cells n ++ Builtin.zeroCells (Value.int .u8 0).cells (G - n)).size=G * 1:=by
   simp only[Array.size_append,size_zeroCells,Value.cells];simp;omega
  obtain⟨Z,hZ⟩ : ∃Z,Z=Builtin.zeroCells (Value.int .u8 0).cells n ++ Builtin.zeroCells (Value.int .u8 0).cells (G - n):=⟨_,rfl⟩;rw[<-hZ]at hrz hsz;have HG:=zH hG';clear hG';have HZ:=zH hZ;clear hZ;have HS:=zH hsz;clear hsz;clear hi hz0 hz1 hz2;unfold maxLen at hGm;go_enter Tryz.func198,Tryz.ntmps198;go_wp2_with (at_builtin;refine Lib.wpList_append_run _ rfl _ _ _ _ rfl _ _ rfl rfl _ _ (hrz _) ?_);go_ret;exact⟨_,_,rfl,World.ownsRow_made w.drew Z G (Nat.le_refl _) (by unfold maxLen;omega) HS.out,((Below.refl _ _).drew).alloc (Nat.le_refl _) _⟩
theorem Zcd {x y:UInt8}(h:x≠y):(((x.toNat:Nat):Int) != ((y.toNat:Nat):Int))=true:=by
 rw[bne_iff_ne];intro e;exact h (UInt8.toNat_inj.1 (by omega))
theorem Zce {x y:UInt8}(h:x=y):(((x.toNat:Nat):Int) != ((y.toNat:Nat):Int))=false:=by
 subst h;simp
theorem Z78 {l m:zU}(hl:l.length=m.length)(h : ∀j,j < l.length->l[j]?.getD 0=m[j]?.getD 0):l=m:=by
 apply List.ext_getElem hl;intro i h1 h2;have:=h i h1;simpa [List.getElem?_eq_getElem h1,List.getElem?_eq_getElem h2] using this
theorem Z2E (a:zA)(n c:Nat)(l:zU)(a':zA)(n' c':Nat)(l':zU)(w:World)(hr:Yb w a n c l)(hr':Yb w a' n' c' l'):
  Calls zq 116 #[.slice a n c,.slice a' n' c'] w fun e w' => ∃b:Bool,e = .returned (.bool b)/\(b=true↔l=l') /\ ∃q,w'=w.drewN q:=by
 have hm:=ZX.maxn hr;have hl:=zH hr.len;have hl':=zH hr'.len;by_cases hnn:n=n'
 ·subst hnn;go_enter Tryz.func116,Tryz.ntmps116;go_wp2;go_loopw [5,13] (fun _ i wr=>∃k:Nat,k<=n/\i = .int .i64 k/\(∀j,j < k->l[j]?.getD 0=l'[j]?.getD 0) /\ ∃q,wr=w.drewN q) (fun _ i _=>n - (intOf i).toNat)
  case atStart=>exact⟨0,Nat.zero_le _,rfl,fun j hj=>by omega,0,rfl⟩
  case round=>
   obtain⟨k,hk,rfl,hrl,q,rfl⟩:=hrel;have HR:=zH hrl;clear hrl;by_cases hlt:k < n
   ·obtain⟨b,off,rfl,hc⟩:=hr.at (by omega);obtain⟨b',off',rfl,hc'⟩:=hr'.at (by omega);have hx:=hc k hlt;have hx':=hc' k hlt;clear hc hc' hr hr';have hk64:(k:Int)<=9223372036854775807:=by omega
    by_cases he:l[k]?.getD 0=l'[k]?.getD 0
    ·have hb:=Zce he;have HE:=zH he;clear he;go_wp2;go_quiet (fail);go_wp2;go_roundw
     case rel=>exact⟨k+1,by omega,by go_num,fun j hj=>by
      rcases Nat.lt_succ_iff_lt_or_eq.1 hj with h | h
      ·exact HR.out j h
      ·rw[h];exact HE.out,_,rfl⟩
     case measure=>simp[intOf];omega
    ·have hb:=Zcd he;have HE:=zH he;clear he;go_wp2;go_quiet (fail);go_wp2;go_ret;exact⟨false,rfl,⟨fun h=>by simp at h,fun h=>absurd (by rw[h]) HE.out⟩,_,World.drewN_drewN _ _ _⟩
   ·go_wp2;go_ret;have hkn:k=n:=by omega
    exact⟨true,rfl,⟨fun _=>Z78 (by rw[hl.out,hl'.out]) (fun j hj=>HR.out j (by rw[hl.out]at hj;omega)),fun _=>rfl⟩,_,rfl⟩
 ·have hb:(((n:Nat):Int) != ((n':Nat):Int))=true:=by rw[bne_iff_ne];omega
  have hm':=ZX.maxn hr';have HN:=zH hnn;clear hnn;go_enter Tryz.func116,Tryz.ntmps116;go_wp2;go_ret;exact⟨false,rfl,⟨fun h=>by simp at h,fun h=>absurd (by rw[<-hl.out,<-hl'.out,h]) HN.out⟩,0,rfl⟩
theorem Jw (w:World){ops:Array Oper}{rest:List Oper}{o:Oper}{a:Act}{Q:Exit->Act->World->Prop}(hgd:o.guard=none)(s x:Operand)
  (ho:o.op = .call { callee := .builtin .append,args := #[s,x],argTypes := #[41,41] }) (base:Nat)
  (sa:zA) (sn sc:Nat) (xs:zU) (hs:a.eval s = .slice sa sn sc) (hown:w.ownsRow base 5 1 (.slice sa sn sc) sn (xs.map Zt))
  (xa:zA) (m xc:Nat) (ys:zU) (hx:a.eval x = .slice xa m xc) (hrd:Yb w xa m xc ys) (hbytes:sn+m<=140737488355328) (hbase:base<=w.heap.size)
  (h : ∀a' c' w',w'.ownsRow base 5 1 (.slice a' (sn+m) c') (sn+m) ((xs ++ ys).map Zt)->w.grownBy w' (Value.ownBlock (.slice sa sn sc))->wpList zq ops Q rest (a.put o.dst (.slice a' (sn+m) c')) w'):
  wpList zq ops Q (o :: rest) a w:=by
 obtain⟨i,hi,hz0,hz1,hz2⟩:=info_parts U5;exact UG w hgd s x 41 ho base 5 i (.int .u8 0) 1 1 Tryz.underlying41 hi hz0 hz1 hz2 rfl (by decide) sa sn sc _ hs hown xa m xc _ hx hrd (Z0P _) (by unfold maxLen;omega) (by omega) hbase
  (fun a' c' w' h1 h2=>h a' c' w' (by rw[List.map_append];exact h1) h2)
theorem Z5y (a:zA)(n c:Nat)(l:zU)(w:World)(hn:n<=140737488355328)(hr:Yb w a n c l):
  Calls zq 102 #[.slice a n c] w fun e w' => ∃a' c',e = .returned (.slice a' n c')/\w'.ownsRow w.heap.size 5 1 (.slice a' n c') n (l.map Zt)/\Below w.heap.size w w':=by
 have hnc:=hr.le;by_cases ha:a=none
 ·subst ha;have hc:n=0/\c=0:=by
   rcases hr.2.2.2 with h | ⟨b,off,h,_⟩
   ·omega
   ·cases h
  obtain⟨rfl,rfl⟩:=hc;have hl:l=[]:=List.eq_nil_of_length_eq_zero hr.len;subst hl;clear hr hnc;have heq : ∀w,(binOp .eql 41 (.slice none 0 0) (.slice none 0 0)).run zq w = .ok (.bool true) w:=fun w=>Lib.run_eql_slice_nil (P:=zq) w 41 5 none 0 0 0 0 Tryz.underlying41;go_enter Tryz.func102,Tryz.ntmps102;go_wp2;go_ret;exact⟨_,_,rfl,World.ownsRow_nil _ _ _ _,Below.refl _ _⟩
 ·obtain⟨ad,rfl⟩:=Option.ne_none_iff_exists'.1 ha;clear ha;have heq : ∀w,(binOp .eql 41 (.slice (some ad) n c) (.slice none 0 0)).run zq w = .ok (.bool false) w:=fun w=>Lib.run_eql_slice_nil (P:=zq) w 41 5 (some ad) n c 0 0 Tryz.underlying41;have hown:=World.ownsRow_lit (base:=w.heap.size) (e:=5) (size:=1) w #[] 0 (Nat.le_refl _) (by unfold maxLen;omega) rfl;have hr1:=hr.below (zB w (Obj.cells #[] 5));go_enter Tryz.func102,Tryz.ntmps102;go_wp2_with (at_builtin;refine Jw _ rfl _ _ rfl w.heap.size _ _ _ [] rfl hown _ _ _ l rfl hr1 (by omega) (by simp) ?_);intro a' c' w' h1 h2;go_wp2;go_ret;exact⟨_,_,rfl,h1,(zB _ _).grown h2 (by simp) (fun k hk=>by simp[Value.ownBlock]at hk;omega)⟩
def Xx (x lo hi:Int):Bool:=decide (lo<=x) && decide (x<=hi)
theorem Ya {x lo hi:Int}: Xx x lo hi=true↔lo<=x/\x<=hi:=by simp[Xx]
theorem VK {x lo hi:Int}: Xx x lo hi=false ↔ ¬(lo<=x/\x<=hi):=by rw[<-Ya];simp
theorem YJ (x lo hi:Int)(w:World):Calls zq 164 #[.int .i64 x,.int .i64 lo,.int .i64 hi] w fun e w'=>e = .returned (.bool (Xx x lo hi))/\w=w':=by
 by_cases h1:lo<=x
 ·have t1:decide (lo<=x)=true:=by simp;omega
  by_cases h2:x<=hi
  focus
   have t2:decide (x<=hi)=true:=by simp;omega
   have t3:Xx x lo hi=true:=Ya.2 ⟨h1,h2⟩
  rotate_left
  focus
   have t2:decide (x<=hi)=false:=by simp;omega
   have t3:Xx x lo hi=false:=VK.2 (fun h=>h2 h.2)
  all_goals
   rw[t3];clear t3;go_enter Tryz.func164,Tryz.ntmps164;go_wp2;go_ret;exact⟨rfl,rfl⟩
 ·have t1:decide (lo<=x)=false:=by simp;omega
  have t3:Xx x lo hi=false:=VK.2 (fun h=>h1 h.1);rw[t3];clear t3;go_enter Tryz.func164,Tryz.ntmps164;go_wp2;go_ret;exact⟨rfl,rfl⟩
def Zy (h m:Int):Bool:=Xx h 1 8 && Xx m 1 400
theorem Jv (h m:Int)(w:World):Calls zq 166 #[.agg #[.int .i64 h,.int .i64 m]] w fun e w'=>e = .returned (.bool (Zy h m))/\Below w.heap.size w w':=by
 have hb:=zB w (.cells #[.int .i64 h,.int .i64 m] 45);unfold Zy;cases h1:Xx h 1 8
 ·go_enter Tryz.func166,Tryz.ntmps166;go_wp2_with fail;refine(YJ h 1 8 _).mono ?_;rintro e w' ⟨rfl,rfl⟩;rw[h1];go_wp2;go_ret;exact⟨rfl,hb⟩
 ·go_enter Tryz.func166,Tryz.ntmps166;go_wp2_with fail;refine(YJ h 1 8 _).mono ?_;rintro e w' ⟨rfl,rfl⟩;rw[h1];go_wp2_with fail;refine(YJ m 1 400 _).mono ?_;rintro e w' ⟨rfl,rfl⟩;go_wp2;go_ret;exact⟨rfl,hb⟩
structure Ys where
 rings:Int
 sectors:Int
 wide:Int
def Ys.val (f:Ys):Value := .agg #[.int .i64 f.rings,.int .i64 f.sectors,.int .i64 f.wide]
def Ys.valid (f:Ys):Bool:=Xx f.rings 1 24 && (Xx f.sectors 2 96 && Xx f.wide 1 f.sectors)
theorem Z55 (r s d:Int)(w:World):Calls zq 113 #[.agg #[.int .i64 r,.int .i64 s,.int .i64 d]] w fun e w'=>e = .returned (.bool (Ys.valid ⟨r,s,d⟩))/\Below w.heap.size w w':=by
 have hb:=zB w (.cells #[.int .i64 r,.int .i64 s,.int .i64 d] 174);unfold Ys.valid;cases h1:Xx r 1 24
 ·go_enter Tryz.func113,Tryz.ntmps113;go_wp2_with fail;refine(YJ r 1 24 _).mono ?_;rintro e w' ⟨rfl,rfl⟩;rw[h1];go_wp2;go_ret;exact⟨rfl,hb⟩
 ·cases h2:Xx s 2 96
  ·go_enter Tryz.func113,Tryz.ntmps113;go_wp2_with fail;refine(YJ r 1 24 _).mono ?_;rintro e w' ⟨rfl,rfl⟩;rw[h1];go_wp2_with fail;refine(YJ s 2 96 _).mono ?_;rintro e w' ⟨rfl,rfl⟩;rw[h2];go_wp2;go_ret;exact⟨rfl,hb⟩
  ·go_enter Tryz.func113,Tryz.ntmps113;go_wp2_with fail;refine(YJ r 1 24 _).mono ?_;rintro e w' ⟨rfl,rfl⟩;rw[h1];go_wp2_with fail;refine(YJ s 2 96 _).mono ?_;rintro e w' ⟨rfl,rfl⟩;rw[h2];go_wp2_with fail;refine(YJ d 1 s _).mono ?_;rintro e w' ⟨rfl,rfl⟩;go_wp2;go_ret;exact⟨rfl,hb⟩
def Jh (a b lo hi:Int):Bool:=decide (lo<=a) && (decide (a<=b) && decide (b<=hi))
theorem Z2e (a b lo hi:Int)(w:World):Calls zq 200 #[.agg #[.int .i64 a,.int .i64 b],.int .i64 lo,.int .i64 hi] w fun e w'=>e = .returned (.bool (Jh a b lo hi))/\Below w.heap.size w w':=by
 have hb:=zB w (.cells #[.int .i64 a,.int .i64 b] 43);unfold Jh;cases h1:decide (lo<=a)
 ·go_enter Tryz.func200,Tryz.ntmps200;go_wp2;go_ret;exact⟨rfl,hb⟩
 ·cases h2:decide (a<=b)
  ·go_enter Tryz.func200,Tryz.ntmps200;go_wp2;go_ret;exact⟨rfl,hb⟩
  ·go_enter Tryz.func200,Tryz.ntmps200;go_wp2;go_ret;exact⟨rfl,hb⟩
theorem Z7F (r s d x:Int)(w:World)(hr:1<=r/\r<=24)(hs:2<=s/\s<=96):Calls zq 201 #[.agg #[.int .i64 r,.int .i64 s,.int .i64 d],.int .i64 x] w fun e w'=>e = .returned (.bool (Xx x 0 (r * s - 1)))/\Below w.heap.size w w':=by
 have hb:=zB w (.cells #[.int .i64 r,.int .i64 s,.int .i64 d] 174);have h1:0<=r * s:=Int.mul_nonneg (by omega) (by omega);have h2:r * s<=24 * 96:=Int.mul_le_mul hr.2 hs.2 (by omega) (by omega);go_enter Tryz.func201,Tryz.ntmps201;go_wp2_with fail;refine(YJ x 0 (r * s - 1) _).mono ?_;rintro e w' ⟨rfl,rfl⟩;go_wp2;go_ret;exact⟨rfl,hb⟩
section
attribute [local go_sem] ZS Xi
theorem Yx (n:NoteV)(sa:zA)(sc:Nat)(w:World):Calls zq 167 #[.agg (Z5 n sa sc)] w fun e w'=>e = .returned (.agg #[.int .i64 n.house,.int .i64 n.num])/\Below w.heap.size w w':=by
 have hb:=zB w (.cells (Z5 n sa sc) 47);go_enter Tryz.func167,Tryz.ntmps167;go_wp2_with fail;go_returns;exact⟨rfl,hb.alloc hb.size _⟩
end
abbrev zF (f:Ys)(t:TypeId):Obj := .cells #[.int .i64 f.rings,.int .i64 f.sectors,.int .i64 f.wide] t
theorem zr {fn:Func}{p u:Tmp}{R:Ending->World->Prop}{a:Act}{w:World}{g:Nat}{n:NoteV}{sa:zA}{sc:Nat}(hg:w.heap[g]? = some (.cells (Z5 n sa sc) 47))(hR:R (.returned (.tuple #[.agg (Z5 n sa sc),a.tmps.getD u undef])) w)
  (h:fn.results = #[.cell p 47,.tmp u]:=by exact rfl) (hp:a.tmps.getD p undef = .pointer (some ⟨g,0,none⟩):=by exact rfl) (hd:a.defers=[]:=by exact rfl):bodyPost zq fn R .ret a w:=by
 refine bodyPost_ret ?_ hd hR;rw[results_cell_tmp h,hp];simp[asAddr,run_loadVar_row w g 47 47 (Z5 n sa sc) (0,0) _ hg Tryz.underlying47 rfl (zI _ _ _)]
def XV (m:Int)(l:List Int):Prop := ∀i,i < l.length->Xx (l[i]?.getD 0) 0 m=true/\(0 < i->l[i-1]?.getD 0<=l[i]?.getD 0)
instance (m:Int) (l:List Int):Decidable (XV m l):=by unfold XV;infer_instance
def Xc (m:Int)(l:List Int):Bool:=decide (XV m l) && Xx l.length 1 200
theorem Z66 (r s d:Int)(a:zA)(n c:Nat)(l:List Int)(w:World)(hr:Xe w a n c l)(hs:2<=s/\s<=96)(hd:1<=d/\d<=s):
  Calls zq 202 #[.agg #[.int .i64 r,.int .i64 s,.int .i64 d],.slice a n c] w fun e w'=>e = .returned (.bool (Xc (s - d) l))/\Below w.heap.size w w':=by
 have hb:=zB w (.cells #[.int .i64 r,.int .i64 s,.int .i64 d] 174);have hm:=hr.maxn;have hl:=zH hr.len;have hr1:=hr.below hb;have HB:=zH hb;clear hb hr;have HF:Hid (¬XV (s - d) l->Xc (s - d) l=false):=fun h=>by simp[Xc,h]
 have HT:Hid (XV (s - d) l->Xc (s - d) l=Xx n 1 200):=fun h=>by simp[Xc,h,hl.out]
 generalize Xc (s - d) l=R at *;go_enter Tryz.func202,Tryz.ntmps202;go_wp2_with fail;go_loop [5,6,9] (fun _ _ i=>∃k:Nat,k<=n/\i = .int .i64 k/\Hid (∀i,i < k->Xx (l[i]?.getD 0) 0 (s - d)=true/\(0 < i->l[i-1]?.getD 0<=l[i]?.getD 0))) (fun _ _ i=>n - (intOf i).toNat)
 case atStart=>exact⟨0,Nat.zero_le _,rfl,zH (fun j hj=>by omega)⟩
 case round=>
  obtain⟨k,hk,rfl,HR⟩:=hrel;by_cases hlt:k < n
  ·obtain⟨b,off,rfl,hc⟩:=hr1.at (by omega);have e1:=hc k hlt;have e2:0 < k->_:=fun h=>hc (k - 1) (by omega);have E2:=zH e2;clear e2;clear hc hr1;cases hin:Xx (l[k]?.getD 0) 0 (s - d)
   ·have hno : ¬XV (s - d) l:=fun h=>by
     have:=(h k (by rw[hl.out];exact hlt)).1;rw[hin]at this;cases this
    have HN:=zH (HF.out hno);clear hno;go_wp2_with fail;refine(YJ _ _ _ _).mono ?_;rintro e w' ⟨rfl,rfl⟩;rw[hin];go_wp2;go_ret;rw[HN.out];exact⟨rfl,HB.out⟩
   ·by_cases h0:0 < k
    ·have q0:decide ((0:Int) < (k:Int))=true:=by simp;exact h0
     have e2:=E2.out h0;have ek:((k:Int) - 1)=((k - 1:Nat):Int):=by omega
     by_cases h1:l[k]?.getD 0 < l[k-1]?.getD 0
     ·have q1:decide (l[k]?.getD 0 < l[k-1]?.getD 0)=true:=by simp;exact h1
      have hno : ¬XV (s - d) l:=fun h=>by
       have:=(h k (by rw[hl.out];exact hlt)).2 h0;omega
      have HN:=zH (HF.out hno);clear hno;generalize l[k]?.getD 0=x at *;generalize l[k-1]?.getD 0=y at *;go_wp2_with fail;refine(YJ _ _ _ _).mono ?_;rintro e w' ⟨rfl,rfl⟩;rw[hin];go_wp2;go_ret;rw[HN.out];exact⟨rfl,HB.out⟩
     ·have q1:decide (l[k]?.getD 0 < l[k-1]?.getD 0)=false:=by simp;omega
      have HG:=zH (show Xx (l[k]?.getD 0) 0 (s - d)=true/\(0 < k->l[k-1]?.getD 0<=l[k]?.getD 0)from⟨hin,fun _=>by omega⟩);generalize hx:l[k]?.getD 0=x at *;generalize hy:l[k-1]?.getD 0=y at *;have HX:=zH hx;clear hx;have HY:=zH hy;clear hy;go_wp2_with fail;refine(YJ _ _ _ _).mono ?_;rintro e w' ⟨rfl,rfl⟩;rw[hin];go_wp2;go_round
      case rel=>exact⟨k+1,by omega,by go_num,zH fun j hj=>by
       rcases Nat.lt_succ_iff_lt_or_eq.1 hj with h | h
       ·exact HR.out j h
       ·rw[h,HX.out,HY.out];exact HG.out⟩
      case measure=>simp[intOf];omega
    ·have q0:decide ((0:Int) < (k:Int))=false:=by simp;omega
     have HG:=zH (show Xx (l[k]?.getD 0) 0 (s - d)=true/\(0 < k->l[k-1]?.getD 0<=l[k]?.getD 0)from⟨hin,fun h=>absurd h h0⟩);generalize hx:l[k]?.getD 0=x at *;have HX:=zH hx;clear hx;go_wp2_with fail;refine(YJ _ _ _ _).mono ?_;rintro e w' ⟨rfl,rfl⟩;rw[hin];go_wp2;go_round
     case rel=>exact⟨k+1,by omega,by go_num,zH fun j hj=>by
      rcases Nat.lt_succ_iff_lt_or_eq.1 hj with h | h
      ·exact HR.out j h
      ·rw[h,HX.out];exact HG.out⟩
     case measure=>simp[intOf];omega
  ·have hkn:k=n:=by omega
   subst hkn;have hyes:XV (s - d) l:=fun i hi=>HR.out i (by rw[hl.out]at hi;exact hi);have HY:=zH (HT.out hyes);clear hyes hr1;go_wp2_with fail;refine(YJ _ _ _ _).mono ?_;rintro e w' ⟨rfl,rfl⟩;go_wp2;go_ret;rw[HY.out];exact⟨rfl,HB.out⟩
theorem ZcE {x y:Int}(h : ¬x=y):(x != y)=true:=by simp[h]
theorem ZcF {x y:Int}(h:x=y):(x != y)=false:=by simp[h]
theorem Z5o {l m:List Int}(hl:l.length=m.length)(h : ∀j,j < l.length->l[j]?.getD 0=m[j]?.getD 0):l=m:=by
 apply List.ext_getElem hl;intro i h1 h2;have:=h i h1;simpa [List.getElem?_eq_getElem h1,List.getElem?_eq_getElem h2] using this
theorem Z8B (a:zA)(n c:Nat)(l:List Int)(a':zA)(n' c':Nat)(l':List Int)(w:World)(hr:Xe w a n c l)(hr':Xe w a' n' c' l'):
  Calls zq 176 #[.slice a n c,.slice a' n' c'] w fun e w' => ∃b:Bool,e = .returned (.bool b)/\(b=true↔l=l') /\ ∃q,w'=w.drewN q:=by
 have hm:=Xe.maxn hr;have hl:=zH hr.len;have hl':=zH hr'.len;by_cases hnn:n=n'
 ·subst hnn;go_enter Tryz.func176,Tryz.ntmps176;go_wp2;go_loopw [5,13] (fun _ i wr=>∃k:Nat,k<=n/\i = .int .i64 k/\(∀j,j < k->l[j]?.getD 0=l'[j]?.getD 0) /\ ∃q,wr=w.drewN q) (fun _ i _=>n - (intOf i).toNat)
  case atStart=>exact⟨0,Nat.zero_le _,rfl,fun j hj=>by omega,0,rfl⟩
  case round=>
   obtain⟨k,hk,rfl,hrl,q,rfl⟩:=hrel;have HR:=zH hrl;clear hrl;by_cases hlt:k < n
   ·obtain⟨b,off,rfl,hc⟩:=hr.at (by omega);obtain⟨b',off',rfl,hc'⟩:=hr'.at (by omega);have hx:=hc k hlt;have hx':=hc' k hlt;clear hc hc' hr hr';have hk64:(k:Int)<=9223372036854775807:=by omega
    by_cases he:l[k]?.getD 0=l'[k]?.getD 0
    ·have hb:=ZcF he;have HE:=zH he;clear he;go_wp2;go_quiet (fail);go_wp2;go_roundw
     case rel=>exact⟨k+1,by omega,by go_num,fun j hj=>by
      rcases Nat.lt_succ_iff_lt_or_eq.1 hj with h | h
      ·exact HR.out j h
      ·rw[h];exact HE.out,_,rfl⟩
     case measure=>simp[intOf];omega
    ·have hb:=ZcE he;have HE:=zH he;clear he;go_wp2;go_quiet (fail);go_wp2;go_ret;exact⟨false,rfl,⟨fun h=>by simp at h,fun h=>absurd (by rw[h]) HE.out⟩,_,World.drewN_drewN _ _ _⟩
   ·go_wp2;go_ret;have hkn:k=n:=by omega
    exact⟨true,rfl,⟨fun _=>Z5o (by rw[hl.out,hl'.out]) (fun j hj=>HR.out j (by rw[hl.out]at hj;omega)),fun _=>rfl⟩,_,rfl⟩
 ·have hb:(((n:Nat):Int) != ((n':Nat):Int))=true:=by rw[bne_iff_ne];omega
  have hm':=Xe.maxn hr';have HN:=zH hnn;clear hnn;go_enter Tryz.func176,Tryz.ntmps176;go_wp2;go_ret;exact⟨false,rfl,⟨fun h=>by simp at h,fun h=>absurd (by rw[<-hl.out,<-hl'.out,h]) HN.out⟩,0,rfl⟩
theorem Z58:zq.plainKey 3=true:=by kernel_rfl
theorem UJ (w:World)(d:Nat)(l m:List Int): ∀is:List Nat,(∀i∈is,i < l.length/\i < m.length)->
  (Op.eqItems (d+1) 3 (zq.cellsOf 3) (l.map Yo).toArray (m.map Yo).toArray is).run zq w = .ok (decide (∀i∈is,l[i]?.getD 0=m[i]?.getD 0)) w
 | [],_=>by simp[Op.eqItems]
 | i :: is,h=>by
  have hi:=h i (List.mem_cons_self ..)
  have hc:zq.cellsOf 3=1:=by kernel_rfl
  have ih:=UJ w d l m is (fun j hj=>h j (List.mem_cons_of_mem _ hj))
  have p1:(part 3 (l.map Yo).toArray (i * 1)).run zq w = .ok (Yo (l[i]?.getD 0)) w:=run_part_plain w Z58 (by simp[List.getElem?_eq_getElem hi.1])
  have p2:(part 3 (m.map Yo).toArray (i * 1)).run zq w = .ok (Yo (m[i]?.getD 0)) w:=run_part_plain w Z58 (by simp[List.getElem?_eq_getElem hi.2])
  have p3:=run_equalIn_int w d 3 .i64 .i64 (l[i]?.getD 0) (m[i]?.getD 0) Tryz.underlying3
  rw[hc]at ih ⊢
  simp only[Op.eqItems,Sem.run_bind,p1,p2,Result.andThen_ok]
  rw[show Op.equalIn (d+1) 3 (Yo (l[i]?.getD 0)) (Yo (m[i]?.getD 0))=Op.equalIn (d+1) 3 (.int .i64 (l[i]?.getD 0)) (.int .i64 (m[i]?.getD 0))from rfl,p3]
  simp only[Result.andThen_ok]
  by_cases he:l[i]?.getD 0=m[i]?.getD 0
  ·simp[he,ih]
  ·simp[he]
theorem Z7K {l m:List Int}(hl:l.length=14)(hm:m.length=14):(∀i∈List.range 14,l[i]?.getD 0=m[i]?.getD 0)↔l=m:=by
 constructor
 ·intro h;refine Z5o (by omega) (fun j hj=>h j (List.mem_range.2 (by omega)))
 ·rintro rfl i _;rfl
theorem Z4J (w:World)(d:Nat)(l m:List Int)(hl:l.length=14)(hm:m.length=14):(Op.equalIn (d+2) 228 (.agg (l.map Yo).toArray) (.agg (m.map Yo).toArray)).run zq w = .ok (decide (l=m)) w:=by
 obtain⟨i,hi,_⟩ : ∃i,zq.info? 3=some i/\True:=by
  cases h:zq.info? 3 with
  | none=>exact absurd h (by
   have:(zq.info? 3).isSome=true:=by kernel_rfl
   intro h';rw[h']at this;cases this)
  | some i=>exact⟨i,rfl,trivial⟩
 rw[run_equalIn_array (P:=zq) w (d+1) (t:=228) (l.map Yo).toArray (m.map Yo).toArray Tryz.underlying228 hi,UJ w d l m (List.range 14) (fun i hi=>by have:=List.mem_range.1 hi;omega)];congr 1;exact decide_eq_decide.2 (Z7K hl hm)
def QW (n:NoteV):List Int:=[n.house,n.num,n.clock,n.day,n.kind,n.stone,n.heap,n.turns,n.a,n.b,n.ring,n.refH,n.refN,n.fix]
def Z6V (n:NoteV):Xz:=((QW n).map Yo).toArray
theorem Z3L (x y:NoteV)(w:World):(Op.equalIn 10000 228 (.agg (Z6V x)) (.agg (Z6V y))).run zq w = .ok (decide (QW x=QW y)) w:=by
 have h:=Z4J w 9998 (QW x) (QW y) rfl rfl;simp only[Nat.reduceAdd]at h;exact h
section
attribute [local go_sem] ZS Xi Jg Qz Jf Qy Qx Qw JG JE JD Jj Ji Js
theorem Z30 (n:NoteV)(sa:zA)(sc:Nat)(w:World):Calls zq 175 #[.agg (Z5 n sa sc)] w fun e w'=>e = .returned (.agg (Z6V n))/\Below w.heap.size w w':=by
 have hb:=zB w (.cells (Z5 n sa sc) 47);go_enter Tryz.func175,Tryz.ntmps175;go_wp2_with fail;go_returns;exact⟨rfl,hb.alloc hb.size _⟩
end
def Yv (x y:NoteV):Bool:=decide (QW x=QW y) && (decide (x.hardLo=y.hardLo/\x.hardHi=y.hardHi) && (decide (x.diffLo=y.diffLo/\x.diffHi=y.diffHi) && decide (x.strokes=y.strokes)))
theorem VU {W:World}{p:Nat}{x:NoteV}{sa:zA}{sc:Nat}(h1:W.heap[p]? = some (.cells (Z5 x sa sc) 47)):W.rangeAt p 0 (x.cells sa sc):=fun j v hv=>by
 simp only[World.cell?,h1]
 simpa [Z5] using hv
theorem Qh (x:NoteV)(sa:zA)(sc:Nat):(zq.info? 47).map (·.size)=some (x.cells sa sc).length:=by kernel_rfl
attribute [local go_sem ↓] Z3L
theorem ZG {C:World->Prop}{w:World}{o:Oper}{a:Act}(x:Operand)(ho:o.op = .load 47 x)(p:Nat)(hx:a.eval x = .pointer (some ⟨p,0,none⟩))(n:NoteV)(sa:zA)(sc:Nat)
  (h:w.heap[p]? = some (.cells (Z5 n sa sc) 47)):o.quietAt zq a C w (.agg (Z5 n sa sc)):=by
 unfold Oper.quietAt execOp;simp only[ho,hx,Instr.loadAt,Instr.sureAddr,Sem.run_bind,Sem.run_pure,Result.andThen_ok,run_loadVar_mid w p 0 47 (n.cells sa sc) _ (VU h) Tryz.underlying47 rfl (Qh n sa sc)];exact⟨rfl,rfl⟩
theorem Z3J (x y:NoteV)(sa:zA)(sc:Nat)(ta:zA)(tc:Nat)(w:World)(hx:Xe w sa x.strokes.length sc x.strokes)(hy:Xe w ta y.strokes.length tc y.strokes):
  Calls zq 122 #[.agg (Z5 x sa sc),.agg (Z5 y ta tc)] w fun e w'=>e = .returned (.bool (Yv x y))/\Below w.heap.size w w':=by
 have hlast:=Z9 w (.cells (Z5 x sa sc) 47);have p0:=Z8 (w.alloc (.cells (Z5 x sa sc) 47)) (.cells (Z5 y ta tc) 47) _ _ hlast;have q0:((w.alloc (.cells (Z5 x sa sc) 47)).alloc (.cells (Z5 y ta tc) 47)).heap[w.heap.size+1]? = some (.cells (Z5 y ta tc) 47):=by
  have:=Z9 (w.alloc (.cells (Z5 x sa sc) 47)) (.cells (Z5 y ta tc) 47);simpa using this
 have hb:Below w.heap.size w ((w.alloc (.cells (Z5 x sa sc) 47)).alloc (.cells (Z5 y ta tc) 47)):=(zB _ _).alloc (by simp) _;have hp:w.heap.size < ((w.alloc (.cells (Z5 x sa sc) 47)).alloc (.cells (Z5 y ta tc) 47)).heap.size:=by simp;omega
 have hq:w.heap.size+1 < ((w.alloc (.cells (Z5 x sa sc) 47)).alloc (.cells (Z5 y ta tc) 47)).heap.size:=by simp
 clear hlast;have H1:=zH p0;clear p0;have H2:=zH q0;clear q0;have HB:=zH hb;clear hb;have HP:=zH hp;clear hp;have HQ:=zH hq;clear hq;have hbx:=hx.below HB.out;have hby:=hy.below HB.out;have hu:=Tryz.underlying47;go_enter Tryz.func122,Tryz.ntmps122;go_upto_region 2 with fail;generalize (w.alloc (.cells (Z5 x sa sc) 47)).alloc (.cells (Z5 y ta tc) 47)=W at *;generalize hpe:w.heap.size=p at *;generalize hqe:p+1=q at *;have HPE:=zH hpe;clear hpe;have HQE:=zH hqe;clear hqe;have hC0:Below W.heap.size W W.drew:=(Below.refl _ _).drew;have HX:=zH (show ∀w0,Below W.heap.size W w0->w0.heap[p]? = some (.cells (Z5 x sa sc) 47)from fun w0 h=>(h.block p HP.out).trans H1.out);have HY:=zH (show ∀w0,Below W.heap.size W w0->w0.heap[q]? = some (.cells (Z5 y ta tc) 47)from fun w0 h=>(h.block q HQ.out).trans H2.out);have hZ:p<=W.heap.size:=Nat.le_of_lt HP.out;refine zC (fun w':World=>Below W.heap.size W w') hC0 ?_;go_big_quiet_step (fail);refine zQ (.agg (Z5 x sa sc)) (fun w0 hC=>ZG (.tmp 2) rfl p rfl x sa sc (HX.out w0 hC)) ?_;refine zQ (.agg (Z6V x)) (fun w0 hC=>?_) ?_
 ·go_simp;refine(Z30 x sa sc _).mono ?_;rintro e w1 ⟨rfl,b1⟩;exact⟨rfl,hC.trans (b1.mono hC.size)⟩
 go_big_quiet_step (fail);refine zQ (.agg (Z5 y ta tc)) (fun w0 hC=>ZG (.tmp 3) rfl q rfl y ta tc (HY.out w0 hC)) ?_;refine zQ (.agg (Z6V y)) (fun w0 hC=>?_) ?_
 ·go_simp;refine(Z30 y ta tc _).mono ?_;rintro e w1 ⟨rfl,b1⟩;exact⟨rfl,hC.trans (b1.mono hC.size)⟩
 refine zV (.bool (decide (QW x=QW y))) ?_;cases hn:decide (QW x=QW y)
 ·have hR:Yv x y=false:=by simp only[Yv,hn,Bool.false_and]
  have HR:=zH hR;clear hR;go_big_quiet_step (fail)
  iterate 5 go_big_quiet_skip
  refine zV (.bool false) ?_;go_big_quiet_step (fail)
  iterate 5 go_big_quiet_skip
  refine zV (.bool false) ?_;go_big_quiet_step (fail)
  iterate 5 go_big_quiet_skip
  refine zV (.bool false) ?_;go_big_quiet_step (fail);refine wpQuiet_nil ?_;intro w' hC;go_wp2;go_ret;rw[HR.out];exact⟨rfl,by rw[HPE.out];exact HB.out.trans (hC.mono hZ)⟩
 ·have HN:=zH hn;clear hn;go_big_quiet_step (fail);refine zv p 8 ?_;refine zQ (.agg #[.int .i64 x.hardLo,.int .i64 x.hardHi]) (fun w0 hC=>?_) ?_
  ·have c8:=zc (HX.out w0 hC) 8 _ rfl;have c9:=zc (HX.out w0 hC) 9 _ rfl;clear hC;go_simp
  refine zv q 8 ?_;refine zQ (.agg #[.int .i64 y.hardLo,.int .i64 y.hardHi]) (fun w0 hC=>?_) ?_
  ·have c8:=zc (HY.out w0 hC) 8 _ rfl;have c9:=zc (HY.out w0 hC) 9 _ rfl;clear hC;go_simp
  refine zQ (.bool (decide (x.hardLo=y.hardLo/\x.hardHi=y.hardHi))) (fun w0 hC=>?_) ?_
  ·clear hC;go_simp;by_cases h1:x.hardLo=y.hardLo <;> by_cases h2:x.hardHi=y.hardHi <;> simp[h1,h2]
  cases hh:decide (x.hardLo=y.hardLo/\x.hardHi=y.hardHi)
  ·have hR:Yv x y=false:=by simp only[Yv,hh,Bool.false_and,Bool.and_false]
   have HR:=zH hR;clear hR hh;refine zV (.bool false) ?_;go_big_quiet_step (fail)
   iterate 5 go_big_quiet_skip
   refine zV (.bool false) ?_;go_big_quiet_step (fail)
   iterate 5 go_big_quiet_skip
   refine zV (.bool false) ?_;go_big_quiet_step (fail);refine wpQuiet_nil ?_;intro w' hC;go_wp2;go_ret;rw[HR.out];exact⟨rfl,by rw[HPE.out];exact HB.out.trans (hC.mono hZ)⟩
  ·have HH:=zH hh;clear hh;refine zV (.bool true) ?_;go_big_quiet_step (fail);refine zv p 10 ?_;refine zQ (.agg #[.int .i64 x.diffLo,.int .i64 x.diffHi]) (fun w0 hC=>?_) ?_
   ·have c10:=zc (HX.out w0 hC) 10 _ rfl;have c11:=zc (HX.out w0 hC) 11 _ rfl;clear hC;go_simp
   refine zv q 10 ?_;refine zQ (.agg #[.int .i64 y.diffLo,.int .i64 y.diffHi]) (fun w0 hC=>?_) ?_
   ·have c10:=zc (HY.out w0 hC) 10 _ rfl;have c11:=zc (HY.out w0 hC) 11 _ rfl;clear hC;go_simp
   refine zQ (.bool (decide (x.diffLo=y.diffLo/\x.diffHi=y.diffHi))) (fun w0 hC=>?_) ?_
   ·clear hC;go_simp;by_cases h1:x.diffLo=y.diffLo <;> by_cases h2:x.diffHi=y.diffHi <;> simp[h1,h2]
   cases hd:decide (x.diffLo=y.diffLo/\x.diffHi=y.diffHi)
   focus
    have hR:Yv x y=false:=by simp only[Yv,hd,Bool.false_and,Bool.and_false]
    have HR:=zH hR;clear hR hd;refine zV (.bool false) ?_;go_big_quiet_step (fail)
    iterate 5 go_big_quiet_skip
    refine zV (.bool false) ?_
   rotate_left
   focus
    have hR:Yv x y=decide (x.strokes=y.strokes):=by simp only[Yv,HN.out,HH.out,hd,Bool.true_and]
    have HR:=zH hR;clear hR hd;refine zV (.bool true) ?_;go_big_quiet_step (fail);refine zv p 15 ?_;refine zQ (.slice sa x.strokes.length sc) (fun w0 hC=>?_) ?_
    ·have c15:=zc (HX.out w0 hC) 15 _ rfl;clear hC;go_simp
    refine zv q 15 ?_;refine zQ (.slice ta y.strokes.length tc) (fun w0 hC=>?_) ?_
    ·have c15:=zc (HY.out w0 hC) 15 _ rfl;clear hC;go_simp
    refine zQ (.bool (decide (x.strokes=y.strokes))) (fun w0 hC=>?_) ?_
    ·go_simp;refine(Z8B _ _ _ x.strokes _ _ _ y.strokes w0 (hbx.below hC) (hby.below hC)).mono ?_;rintro e w1 ⟨b,rfl,hb,q1,rfl⟩;exact⟨by rw[show b=decide (x.strokes=y.strokes)from Bool.eq_iff_iff.2 (hb.trans decide_eq_true_iff.symm)],hC.trans (below_drewN (Below.refl _ _) q1)⟩
    refine zV (.bool (decide (x.strokes=y.strokes))) ?_
   all_goals
    go_big_quiet_step (fail);refine wpQuiet_nil ?_;intro w' hC;go_wp2;go_ret;rw[HR.out];exact⟨rfl,by rw[HPE.out];exact HB.out.trans (hC.mono hZ)⟩
section
attribute [local go_sem] ZS Xi Jg Qz Jf Qy Qx Qw Ve Vd JY JX JG JE JD J5 Jj Ji Js
variable (n:NoteV)(sa:zA)(sc:Nat)(w:World)
theorem Zbr:Calls zq 199 #[.int .i64 1,.agg (Z5 n sa sc)] w fun e w'=>e = .returned (.iface 258 (.agg #[.int .i64 n.hardLo,.int .i64 n.hardHi]))/\Below w.heap.size w w':=by
 have hb:=zB w (.cells (Z5 n sa sc) 47);go_enter Tryz.func199,Tryz.ntmps199;go_wp2;go_ret;exact⟨rfl,hb⟩
theorem Zbq:Calls zq 199 #[.int .i64 2,.agg (Z5 n sa sc)] w fun e w'=>e = .returned (.iface 261 (.agg #[.int .i64 n.turns]))/\Below w.heap.size w w':=by
 have hb:=zB w (.cells (Z5 n sa sc) 47);go_enter Tryz.func199,Tryz.ntmps199;go_wp2;go_ret;exact⟨rfl,hb⟩
theorem Zbp:Calls zq 199 #[.int .i64 3,.agg (Z5 n sa sc)] w fun e w'=>e = .returned (.iface 263 (.agg #[.int .i64 n.stone,.int .i64 n.a,.int .i64 n.b]))/\Below w.heap.size w w':=by
 have hb:=zB w (.cells (Z5 n sa sc) 47);go_enter Tryz.func199,Tryz.ntmps199;go_wp2;go_ret;exact⟨rfl,hb⟩
theorem Zbo:Calls zq 199 #[.int .i64 4,.agg (Z5 n sa sc)] w fun e w'=>e = .returned (.iface 266 (.agg #[.int .i64 n.stone,.int .i64 n.ring]))/\Below w.heap.size w w':=by
 have hb:=zB w (.cells (Z5 n sa sc) 47);go_enter Tryz.func199,Tryz.ntmps199;go_wp2;go_ret;exact⟨rfl,hb⟩
theorem Zbn:Calls zq 199 #[.int .i64 5,.agg (Z5 n sa sc)] w fun e w'=>e = .returned (.iface 269 (.agg #[.int .i64 n.refH,.int .i64 n.refN]))/\Below w.heap.size w w':=by
 have hb:=zB w (.cells (Z5 n sa sc) 47);go_enter Tryz.func199,Tryz.ntmps199;go_wp2;go_ret;exact⟨rfl,hb⟩
theorem Zbm:Calls zq 199 #[.int .i64 6,.agg (Z5 n sa sc)] w fun e w'=>e = .returned (.iface 269 (.agg #[.int .i64 n.refH,.int .i64 n.refN]))/\Below w.heap.size w w':=by
 have hb:=zB w (.cells (Z5 n sa sc) 47);go_enter Tryz.func199,Tryz.ntmps199;go_wp2;go_ret;exact⟨rfl,hb⟩
theorem Zbs (k:Int)(h : ¬(1<=k/\k<=6)):Calls zq 199 #[.int .i64 k,.agg (Z5 n sa sc)] w fun e w'=>e = .returned .nilIface/\Below w.heap.size w w':=by
 have hb:=zB w (.cells (Z5 n sa sc) 47);have q1:(k==1)=false:=by simp;omega
 have r1:decide (k=1)=false:=by simp;omega
 have q2:(k==2)=false:=by simp;omega
 have r2:decide (k=2)=false:=by simp;omega
 have q3:(k==3)=false:=by simp;omega
 have r3:decide (k=3)=false:=by simp;omega
 have q4:(k==4)=false:=by simp;omega
 have r4:decide (k=4)=false:=by simp;omega
 have q5:(k==5)=false:=by simp;omega
 have r5:decide (k=5)=false:=by simp;omega
 have q6:(k==6)=false:=by simp;omega
 have r6:decide (k=6)=false:=by simp;omega
 clear h;go_enter Tryz.func199,Tryz.ntmps199;go_wp2;go_ret;exact⟨rfl,hb⟩
end
def Zo (k:Int)(n:NoteV):NoteV:=
 if k=1 then { n with hardLo:=0,hardHi:=0 } else if k=2 then { n with turns:=0 } else if k=3 then { n with stone:=0,a:=0,b:=0,diffLo:=0,diffHi:=0 }
 else if k=4 then { n with stone:=0,ring:=0,strokes:=[] } else if k=5\/k=6 then { n with refH:=0,refN:=0 } else n
def Z05 (f:Ys)(x:Int):Bool:=Xx x 0 (f.rings * f.sectors - 1)
def Yi (f:Ys)(k:Int)(n:NoteV):Bool:=
 if k=1 then Jh n.hardLo n.hardHi 1 255 else if k=2 then Xx n.turns 1 10000
 else if k=3 then Xx n.stone 0 1 && (Z05 f n.a && ((decide (n.b = -1) || Z05 f n.b) && (decide (n.a≠n.b) && Jh n.diffLo n.diffHi (-1000000000) 1000000000)))
 else if k=4 then Xx n.stone 0 1 && (Xx n.ring 0 (f.rings - 1) && Xc (f.sectors - f.wide) n.strokes)
 else if k=5\/k=6 then Zy n.refH n.refN else false
theorem ZY {P:Program}{ops:Array Oper}{rest:List Oper}{op:Oper}{a:Act}{w:World}{Q:Exit->Act->World->Prop}(hgd:op.guard=none)(ty:TypeId)(x y:Operand)(ho:op.op = .store ty x y)(p:Nat)
  (c c':Xz) (t:TypeId) (hx:a.eval x = .pointer (some ⟨p,0,none⟩)) (hy:a.eval y = .agg c') (hg:w.heap[p]? = some (.cells c t (0,0))) (hi:(P.info? ty).map (·.size)=some c'.size) (hc:c.size=c'.size) (h1:c'.all (·.oneCell')=true)
  (h:wpList P ops Q rest (a.put op.dst undef) (w.setRow p c')):wpList P ops Q (op :: rest) a w:=by
 refine wpList_plain hgd fun K hK=>?_;unfold Oper.wp execOp;simp only[ho,hx,hy,Instr.storeAt,Instr.sureAddr,Sem.run_bind,Sem.run_pure,Result.andThen_ok,run_storeVar_row w p t ty c c' hg hi hc h1];exact hK _ _ h
theorem JK (w:World)(A B C D:Obj):(((((w.alloc A).alloc B).alloc C).alloc D).heap[w.heap.size]? = some A/\((((w.alloc A).alloc B).alloc C).alloc D).heap[w.heap.size+1]? = some B /\
  ((((w.alloc A).alloc B).alloc C).alloc D).heap[w.heap.size+1+1]? = some C/\((((w.alloc A).alloc B).alloc C).alloc D).heap[w.heap.size+1+1+1]? = some D) /\
  Below w.heap.size w ((((w.alloc A).alloc B).alloc C).alloc D)/\w.heap.size+1+1+1 < ((((w.alloc A).alloc B).alloc C).alloc D).heap.size:=by
 refine⟨⟨?_,?_,?_,?_⟩,?_,?_⟩
 ·exact Z8 _ _ _ _ (Z8 _ _ _ _ (Z8 _ _ _ _ (Zm _ _ _ rfl)))
 ·exact Z8 _ _ _ _ (Z8 _ _ _ _ (Zm _ _ _ (by simp)))
 ·exact Z8 _ _ _ _ (Zm _ _ _ (by simp))
 ·exact Zm _ _ _ (by simp)
 ·exact(((zB _ _).alloc (by simp) _).alloc (by simp;omega) _).alloc (by simp;omega) _
 ·simp
theorem ZdT (v:Value)(w:World):(Instr.typeAssert (.iface 258 v) 255 258 true).run zq w = .ok (.tuple #[v,.bool true]) w:=by kernel_rfl
theorem ZdS (v:Value)(w:World):(Instr.typeAssert (.iface 258 v) 255 261 true).run zq w = .ok (.tuple #[.agg #[.int .i64 0],.bool false]) w:=by kernel_rfl
theorem ZdR (v:Value)(w:World):(Instr.typeAssert (.iface 258 v) 255 263 true).run zq w = .ok (.tuple #[.agg #[.int .i64 0,.int .i64 0,.int .i64 0],.bool false]) w:=by kernel_rfl
theorem ZdQ (v:Value)(w:World):(Instr.typeAssert (.iface 258 v) 255 266 true).run zq w = .ok (.tuple #[.agg #[.int .i64 0,.int .i64 0],.bool false]) w:=by kernel_rfl
theorem ZdP (v:Value)(w:World):(Instr.typeAssert (.iface 258 v) 255 269 true).run zq w = .ok (.tuple #[.agg #[.int .i64 0,.int .i64 0],.bool false]) w:=by kernel_rfl
theorem ZdO (v:Value)(w:World):(Instr.typeAssert (.iface 261 v) 255 258 true).run zq w = .ok (.tuple #[.agg #[.int .i64 0,.int .i64 0],.bool false]) w:=by kernel_rfl
theorem ZdN (v:Value)(w:World):(Instr.typeAssert (.iface 261 v) 255 261 true).run zq w = .ok (.tuple #[v,.bool true]) w:=by kernel_rfl
theorem ZdM (v:Value)(w:World):(Instr.typeAssert (.iface 261 v) 255 263 true).run zq w = .ok (.tuple #[.agg #[.int .i64 0,.int .i64 0,.int .i64 0],.bool false]) w:=by kernel_rfl
theorem ZdL (v:Value)(w:World):(Instr.typeAssert (.iface 261 v) 255 266 true).run zq w = .ok (.tuple #[.agg #[.int .i64 0,.int .i64 0],.bool false]) w:=by kernel_rfl
theorem ZdK (v:Value)(w:World):(Instr.typeAssert (.iface 261 v) 255 269 true).run zq w = .ok (.tuple #[.agg #[.int .i64 0,.int .i64 0],.bool false]) w:=by kernel_rfl
theorem ZdJ (v:Value)(w:World):(Instr.typeAssert (.iface 263 v) 255 258 true).run zq w = .ok (.tuple #[.agg #[.int .i64 0,.int .i64 0],.bool false]) w:=by kernel_rfl
theorem ZdI (v:Value)(w:World):(Instr.typeAssert (.iface 263 v) 255 261 true).run zq w = .ok (.tuple #[.agg #[.int .i64 0],.bool false]) w:=by kernel_rfl
theorem ZdH (v:Value)(w:World):(Instr.typeAssert (.iface 263 v) 255 263 true).run zq w = .ok (.tuple #[v,.bool true]) w:=by kernel_rfl
theorem ZdG (v:Value)(w:World):(Instr.typeAssert (.iface 263 v) 255 266 true).run zq w = .ok (.tuple #[.agg #[.int .i64 0,.int .i64 0],.bool false]) w:=by kernel_rfl
theorem ZdF (v:Value)(w:World):(Instr.typeAssert (.iface 263 v) 255 269 true).run zq w = .ok (.tuple #[.agg #[.int .i64 0,.int .i64 0],.bool false]) w:=by kernel_rfl
theorem ZdE (v:Value)(w:World):(Instr.typeAssert (.iface 266 v) 255 258 true).run zq w = .ok (.tuple #[.agg #[.int .i64 0,.int .i64 0],.bool false]) w:=by kernel_rfl
theorem ZdD (v:Value)(w:World):(Instr.typeAssert (.iface 266 v) 255 261 true).run zq w = .ok (.tuple #[.agg #[.int .i64 0],.bool false]) w:=by kernel_rfl
theorem ZdC (v:Value)(w:World):(Instr.typeAssert (.iface 266 v) 255 263 true).run zq w = .ok (.tuple #[.agg #[.int .i64 0,.int .i64 0,.int .i64 0],.bool false]) w:=by kernel_rfl
theorem ZdB (v:Value)(w:World):(Instr.typeAssert (.iface 266 v) 255 266 true).run zq w = .ok (.tuple #[v,.bool true]) w:=by kernel_rfl
theorem ZdA (v:Value)(w:World):(Instr.typeAssert (.iface 266 v) 255 269 true).run zq w = .ok (.tuple #[.agg #[.int .i64 0,.int .i64 0],.bool false]) w:=by kernel_rfl
theorem Zdz (v:Value)(w:World):(Instr.typeAssert (.iface 269 v) 255 258 true).run zq w = .ok (.tuple #[.agg #[.int .i64 0,.int .i64 0],.bool false]) w:=by kernel_rfl
theorem Zdy (v:Value)(w:World):(Instr.typeAssert (.iface 269 v) 255 261 true).run zq w = .ok (.tuple #[.agg #[.int .i64 0],.bool false]) w:=by kernel_rfl
theorem Zdx (v:Value)(w:World):(Instr.typeAssert (.iface 269 v) 255 263 true).run zq w = .ok (.tuple #[.agg #[.int .i64 0,.int .i64 0,.int .i64 0],.bool false]) w:=by kernel_rfl
theorem Zdw (v:Value)(w:World):(Instr.typeAssert (.iface 269 v) 255 266 true).run zq w = .ok (.tuple #[.agg #[.int .i64 0,.int .i64 0],.bool false]) w:=by kernel_rfl
theorem Zdv (v:Value)(w:World):(Instr.typeAssert (.iface 269 v) 255 269 true).run zq w = .ok (.tuple #[v,.bool true]) w:=by kernel_rfl
theorem Zdu (w:World):(Instr.typeAssert .nilIface 255 258 true).run zq w = .ok (.tuple #[.agg #[.int .i64 0,.int .i64 0],.bool false]) w:=by kernel_rfl
theorem Zdt (w:World):(Instr.typeAssert .nilIface 255 261 true).run zq w = .ok (.tuple #[.agg #[.int .i64 0],.bool false]) w:=by kernel_rfl
theorem Zds (w:World):(Instr.typeAssert .nilIface 255 263 true).run zq w = .ok (.tuple #[.agg #[.int .i64 0,.int .i64 0,.int .i64 0],.bool false]) w:=by kernel_rfl
theorem Zdr (w:World):(Instr.typeAssert .nilIface 255 266 true).run zq w = .ok (.tuple #[.agg #[.int .i64 0,.int .i64 0],.bool false]) w:=by kernel_rfl
theorem Zdq (w:World):(Instr.typeAssert .nilIface 255 269 true).run zq w = .ok (.tuple #[.agg #[.int .i64 0,.int .i64 0],.bool false]) w:=by kernel_rfl
theorem Zl {W:World}{p:Nat}{A:Xz}{t:TypeId}(h1:W.heap[p]? = some (.cells A t (0,0)))(j:Nat):W.frozen? ⟨p,j,none⟩=false:=by simp[World.frozen?,h1]
theorem ZI {P:Program}{fn:Func}{p u:Tmp}{ty:TypeId}(h:fn.results = #[.cell p ty,.tmp u])(tmps:Xz)(w:World)(g:Nat)(t:TypeId)(cs:Xz)(fr:Nat×Nat)(d:TypeDesc)
  (hp:tmps.getD p undef = .pointer (some ⟨g,0,none⟩)) (hg:w.heap[g]? = some (.cells cs t fr)) (hu:P.underlying ty=some d) (hd:(match d with | .struct _ | .array _ _=>true | _=>false)=true) (hi:(P.info? ty).map (·.size)=some cs.size):
  (results fn tmps).run P w = .ok (.tuple #[.agg cs,tmps.getD u undef]) w:=by
 rw[results_cell_tmp h,hp];simp[asAddr,run_loadVar_row w g t ty cs fr d hg hu hd hi]
structure Loc (w W:World)(p0 p1 p2 p3:Nat)(f:Ys)(n:NoteV)(sa:zA)(sc:Nat)(C:Xz):Prop where
 e0:W.heap[p0]? = some (.cells #[.int .i64 f.rings,.int .i64 f.sectors,.int .i64 f.wide] 174)
 e1:W.heap[p1]? = some (.cells (Z5 n sa sc) 47)
 e2:W.heap[p2]? = some (.cells (Z5 Zd none 0) 47)
 e3:W.heap[p3]? = some (.cells C 47)
 b:Below p0 w W
 lt:p0 < p1/\p1 < p2/\p2 < p3
theorem Loc.below {w W W':World}{p0 p1 p2 p3:Nat}{f:Ys}{n:NoteV}{sa:zA}{sc:Nat}{C:Xz}(h:Loc w W p0 p1 p2 p3 f n sa sc C)(hb:Below W.heap.size W W'):Loc w W' p0 p1 p2 p3 f n sa sc C:=by
 have g : ∀{k:Nat} {o:Obj},W.heap[k]? = some o->W'.heap[k]? = some o:=fun {k o} hk=>(hb.block k (Array.getElem?_eq_some_iff.1 hk).1).trans hk;have h0:=(Array.getElem?_eq_some_iff.1 h.e0).1;exact⟨g h.e0,g h.e1,g h.e2,g h.e3,h.b.trans (hb.mono (by omega)),h.lt⟩
theorem Loc.alloc {w W:World}{p0 p1 p2 p3:Nat}{f:Ys}{n:NoteV}{sa:zA}{sc:Nat}{C:Xz}(h:Loc w W p0 p1 p2 p3 f n sa sc C)(o:Obj):Loc w (W.alloc o) p0 p1 p2 p3 f n sa sc C:=h.below (zB _ _)
theorem Loc.set {w W:World}{p0 p1 p2 p3:Nat}{f:Ys}{n:NoteV}{sa:zA}{sc:Nat}{C:Xz}(h:Loc w W p0 p1 p2 p3 f n sa sc C)(j:Nat)(v:Value):Loc w (W.setCell ⟨p3,j,none⟩ v) p0 p1 p2 p3 f n sa sc (C.setIfInBounds j v):=by
 have g : ∀{k:Nat},k≠p3->(W.setCell ⟨p3,j,none⟩ v).heap[k]? = W.heap[k]? := fun {k} hk=>Below.heap_setCell W ⟨p3,j,none⟩ v k hk;have hl:=h.lt;refine⟨(g (by omega)).trans h.e0,(g (by omega)).trans h.e1,(g (by omega)).trans h.e2,heap_setCell_same W p3 j C 47 v h.e3,h.b.trans ⟨rfl,rfl,rfl,by simp[World.setCell],fun k hk=>g (by omega)⟩,h.lt⟩
theorem Loc.done {w W:World}{p0 p1 p2 p3:Nat}{f:Ys}{n:NoteV}{sa:zA}{sc:Nat}{C:Xz}(h:Loc w W p0 p1 p2 p3 f n sa sc C)(C':Xz):(W.setRow p2 C').heap[p2]? = some (.cells C' 47)/\Below p0 w (W.setRow p2 C'):=by
 have hl:=h.lt;exact⟨setRow_heap W p2 _ C' _ _ h.e2,h.b.trans ⟨rfl,rfl,rfl,by simp,fun k hk=>setRow_other W p2 k C' (by omega)⟩⟩
section
attribute [local go_sem] ZdT ZdS ZdR ZdQ ZdP ZdO ZdN ZdM ZdL ZdK ZdJ ZdI ZdH ZdG ZdF ZdE ZdD ZdC ZdB ZdA Zdz Zdy Zdx Zdw Zdv Zdu Zdt Zds Zdr Zdq ZS Xi Jg Qz Jf Qy Qx Qw Ve Vd JY JX JG JE JD J5 Jj Ji Js Z4b Z4a Z49 Z48 Z47 Z46 Z45 Z44 Z43 Z42 Z2v Z2u Z2t Z2s Z2r Z2q Z2p Z2o Z2n
variable (f:Ys)(n:NoteV)(sa:zA)(sc:Nat)(w:World)
theorem Zdh:Calls zq 165 #[f.val,.int .i64 1,.agg (Z5 n sa sc)] w fun e w'=>e = .returned (.tuple #[.agg (Z5 (Zo 1 n) sa sc),.bool (Yi f 1 n)])/\Below w.heap.size w w':=by
 have i43:(zq.info? 47).map (·.size)=some (Z5 n sa sc).size:=by kernel_rfl
 have h43:=Zh n sa sc;have I43:=zH i43;clear i43;have s1:(w.alloc (zF f 174)).heap.size=w.heap.size+1:=by simp
 have g5:=fun Z=>Z8 ((w.alloc (zF f 174)).alloc (.cells (Z5 n sa sc) 47)) Z _ _ (Zm (w.alloc (zF f 174)) (.cells (Z5 n sa sc) 47) _ s1);have g5':=fun Z Y=>Z8 _ Y _ _ (g5 Z);have G5:=zH g5;clear g5 s1;have G5':=zH g5';clear g5';have FB:=zH (JK w (zF f 174) (.cells (Z5 n sa sc) 47) (.cells (Z5 Zd none 0) 47) (.cells (Z5 n sa sc) 47));unfold Ys.val;go_enter Tryz.func165,Tryz.ntmps165;go_wp2_with (first
  |(refine wpList_load_row rfl 47 _ rfl (w.heap.size+1) rfl 47 (Z5 n sa sc) (0,0) _ ?hg Tryz.underlying47 rfl I43.out ?_;case hg=>(first | exact G5.out _ | exact G5'.out _ _))
  |(refine ZM _ rfl 47 _ _ rfl (w.heap.size+3) ?hp _ (Z5 n sa sc) rfl rfl I43.out rfl h43 ?_;case hp=>simp))
 simp only[<-ZZ];clear G5 G5';generalize hW:(((w.alloc (zF f 174)).alloc (.cells (Z5 n sa sc) 47)).alloc (.cells (Z5 Zd none 0) 47)).alloc (.cells (Z5 n sa sc) 47)=W0 at *;obtain⟨⟨e0,e1,e2,e3⟩,hb0,hp3⟩:=FB.out;clear hW FB;generalize hp0:w.heap.size=p0 at *;generalize hp1:p0+1=p1 at *;generalize hp2:p1+1=p2 at *;generalize hp3e:p2+1=p3 at *;have OR:=zH (show p0 < p1/\p1 < p2/\p2 < p3/\p3 < W0.heap.size by omega);have HP0:=zH hp0;clear hp0 hp1 hp2 hp3e hp3;refine(Zbr n sa sc _).mono ?_;rintro e w1 ⟨rfl,b1⟩;have L1:=zH ((Loc.mk e0 e1 e2 e3 hb0 (by have:=OR.out;omega):Loc w W0 p0 p1 p2 p3 f n sa sc (Z5 n sa sc)).below b1);clear OR b1 hb0 e0 e1 e2 e3;have hlt3:p3 < w1.heap.size:=(Array.getElem?_eq_some_iff.1 L1.out.e3).1;have hlt1:p1 < w1.heap.size:=(Array.getElem?_eq_some_iff.1 L1.out.e1).1;have hlt0:p0 < w1.heap.size:=(Array.getElem?_eq_some_iff.1 L1.out.e0).1;have k8:=zc L1.out.e3 8 _ rfl;have f8:=Zl L1.out.e3 8;have k9:=zc L1.out.e3 9 _ rfl;have f9:=Zl L1.out.e3 9;go_wp2_with fail;generalize hWx:(((w1.setCell ⟨p3,8,none⟩ (.int .i64 0)).setCell ⟨p3,9,none⟩ (.int .i64 0)).alloc (.cells #[.int .i64 n.hardLo,.int .i64 n.hardHi] 258))=Wx at *;have L2:=zH (show Loc w Wx p0 p1 p2 p3 f n sa sc (Z5 (Zo 1 n) sa sc)from by rw[<-hWx];exact(((L1.out.set 8 (.int .i64 0)).set 9 (.int .i64 0)).alloc (.cells #[.int .i64 n.hardLo,.int .i64 n.hardHi] 258)));clear hWx L1;refine(Z2e n.hardLo n.hardHi 1 255 _).mono ?_;rintro e w3 ⟨rfl,b3⟩;have L3:=zH (L2.out.below b3);have i43':(zq.info? 47).map (·.size)=some (Z5 (Zo 1 n) sa sc).size:=by kernel_rfl
 have o43':=Zh (Zo 1 n) sa sc;have I43':=zH i43';clear i43';have DN:=zH (L3.out.done (Z5 (Zo 1 n) sa sc));go_wp2_with (first
  |(refine zL p3 L3.out.e3 ?_)
  |(refine zN p2 (Z5 (Zo 1 n) sa sc) L3.out.e2 ?_))
 (try simp only[Exit.inBlock,Exit.then])
 refine zr DN.out.1 ?_;exact⟨rfl,by rw[HP0.out];exact DN.out.2⟩
theorem Zdg:Calls zq 165 #[f.val,.int .i64 2,.agg (Z5 n sa sc)] w fun e w'=>e = .returned (.tuple #[.agg (Z5 (Zo 2 n) sa sc),.bool (Yi f 2 n)])/\Below w.heap.size w w':=by
 have i43:(zq.info? 47).map (·.size)=some (Z5 n sa sc).size:=by kernel_rfl
 have h43:=Zh n sa sc;have I43:=zH i43;clear i43;have s1:(w.alloc (zF f 174)).heap.size=w.heap.size+1:=by simp
 have g5:=fun Z=>Z8 ((w.alloc (zF f 174)).alloc (.cells (Z5 n sa sc) 47)) Z _ _ (Zm (w.alloc (zF f 174)) (.cells (Z5 n sa sc) 47) _ s1);have g5':=fun Z Y=>Z8 _ Y _ _ (g5 Z);have G5:=zH g5;clear g5 s1;have G5':=zH g5';clear g5';have FB:=zH (JK w (zF f 174) (.cells (Z5 n sa sc) 47) (.cells (Z5 Zd none 0) 47) (.cells (Z5 n sa sc) 47));unfold Ys.val;go_enter Tryz.func165,Tryz.ntmps165;go_wp2_with (first
  |(refine wpList_load_row rfl 47 _ rfl (w.heap.size+1) rfl 47 (Z5 n sa sc) (0,0) _ ?hg Tryz.underlying47 rfl I43.out ?_;case hg=>(first | exact G5.out _ | exact G5'.out _ _))
  |(refine ZM _ rfl 47 _ _ rfl (w.heap.size+3) ?hp _ (Z5 n sa sc) rfl rfl I43.out rfl h43 ?_;case hp=>simp))
 simp only[<-ZZ];clear G5 G5';generalize hW:(((w.alloc (zF f 174)).alloc (.cells (Z5 n sa sc) 47)).alloc (.cells (Z5 Zd none 0) 47)).alloc (.cells (Z5 n sa sc) 47)=W0 at *;obtain⟨⟨e0,e1,e2,e3⟩,hb0,hp3⟩:=FB.out;clear hW FB;generalize hp0:w.heap.size=p0 at *;generalize hp1:p0+1=p1 at *;generalize hp2:p1+1=p2 at *;generalize hp3e:p2+1=p3 at *;have OR:=zH (show p0 < p1/\p1 < p2/\p2 < p3/\p3 < W0.heap.size by omega);have HP0:=zH hp0;clear hp0 hp1 hp2 hp3e hp3;refine(Zbq n sa sc _).mono ?_;rintro e w1 ⟨rfl,b1⟩;have L1:=zH ((Loc.mk e0 e1 e2 e3 hb0 (by have:=OR.out;omega):Loc w W0 p0 p1 p2 p3 f n sa sc (Z5 n sa sc)).below b1);clear OR b1 hb0 e0 e1 e2 e3;have hlt3:p3 < w1.heap.size:=(Array.getElem?_eq_some_iff.1 L1.out.e3).1;have hlt1:p1 < w1.heap.size:=(Array.getElem?_eq_some_iff.1 L1.out.e1).1;have hlt0:p0 < w1.heap.size:=(Array.getElem?_eq_some_iff.1 L1.out.e0).1;have k7:=zc L1.out.e3 7 _ rfl;have f7:=Zl L1.out.e3 7;go_wp2_with fail;generalize hWx:((w1.setCell ⟨p3,7,none⟩ (.int .i64 0)).alloc (.cells #[.int .i64 n.turns] 261))=Wx at *;have L2:=zH (show Loc w Wx p0 p1 p2 p3 f n sa sc (Z5 (Zo 2 n) sa sc)from by rw[<-hWx];exact((L1.out.set 7 (.int .i64 0)).alloc (.cells #[.int .i64 n.turns] 261)));clear hWx L1;refine(YJ n.turns 1 10000 _).mono ?_;rintro e w3 ⟨rfl,rfl⟩;have i43':(zq.info? 47).map (·.size)=some (Z5 (Zo 2 n) sa sc).size:=by kernel_rfl
 have o43':=Zh (Zo 2 n) sa sc;have I43':=zH i43';clear i43';have DN:=zH (L2.out.done (Z5 (Zo 2 n) sa sc));go_wp2_with (first
  |(refine zL p3 L2.out.e3 ?_)
  |(refine zN p2 (Z5 (Zo 2 n) sa sc) L2.out.e2 ?_))
 (try simp only[Exit.inBlock,Exit.then])
 refine zr DN.out.1 ?_;exact⟨rfl,by rw[HP0.out];exact DN.out.2⟩
theorem Zdd:Calls zq 165 #[f.val,.int .i64 5,.agg (Z5 n sa sc)] w fun e w'=>e = .returned (.tuple #[.agg (Z5 (Zo 5 n) sa sc),.bool (Yi f 5 n)])/\Below w.heap.size w w':=by
 have i43:(zq.info? 47).map (·.size)=some (Z5 n sa sc).size:=by kernel_rfl
 have h43:=Zh n sa sc;have I43:=zH i43;clear i43;have s1:(w.alloc (zF f 174)).heap.size=w.heap.size+1:=by simp
 have g5:=fun Z=>Z8 ((w.alloc (zF f 174)).alloc (.cells (Z5 n sa sc) 47)) Z _ _ (Zm (w.alloc (zF f 174)) (.cells (Z5 n sa sc) 47) _ s1);have g5':=fun Z Y=>Z8 _ Y _ _ (g5 Z);have G5:=zH g5;clear g5 s1;have G5':=zH g5';clear g5';have FB:=zH (JK w (zF f 174) (.cells (Z5 n sa sc) 47) (.cells (Z5 Zd none 0) 47) (.cells (Z5 n sa sc) 47));unfold Ys.val;go_enter Tryz.func165,Tryz.ntmps165;go_wp2_with (first
  |(refine wpList_load_row rfl 47 _ rfl (w.heap.size+1) rfl 47 (Z5 n sa sc) (0,0) _ ?hg Tryz.underlying47 rfl I43.out ?_;case hg=>(first | exact G5.out _ | exact G5'.out _ _))
  |(refine ZM _ rfl 47 _ _ rfl (w.heap.size+3) ?hp _ (Z5 n sa sc) rfl rfl I43.out rfl h43 ?_;case hp=>simp))
 simp only[<-ZZ];clear G5 G5';generalize hW:(((w.alloc (zF f 174)).alloc (.cells (Z5 n sa sc) 47)).alloc (.cells (Z5 Zd none 0) 47)).alloc (.cells (Z5 n sa sc) 47)=W0 at *;obtain⟨⟨e0,e1,e2,e3⟩,hb0,hp3⟩:=FB.out;clear hW FB;generalize hp0:w.heap.size=p0 at *;generalize hp1:p0+1=p1 at *;generalize hp2:p1+1=p2 at *;generalize hp3e:p2+1=p3 at *;have OR:=zH (show p0 < p1/\p1 < p2/\p2 < p3/\p3 < W0.heap.size by omega);have HP0:=zH hp0;clear hp0 hp1 hp2 hp3e hp3;refine(Zbn n sa sc _).mono ?_;rintro e w1 ⟨rfl,b1⟩;have L1:=zH ((Loc.mk e0 e1 e2 e3 hb0 (by have:=OR.out;omega):Loc w W0 p0 p1 p2 p3 f n sa sc (Z5 n sa sc)).below b1);clear OR b1 hb0 e0 e1 e2 e3;have hlt3:p3 < w1.heap.size:=(Array.getElem?_eq_some_iff.1 L1.out.e3).1;have hlt1:p1 < w1.heap.size:=(Array.getElem?_eq_some_iff.1 L1.out.e1).1;have hlt0:p0 < w1.heap.size:=(Array.getElem?_eq_some_iff.1 L1.out.e0).1;have k16:=zc L1.out.e3 16 _ rfl;have f16:=Zl L1.out.e3 16;have k17:=zc L1.out.e3 17 _ rfl;have f17:=Zl L1.out.e3 17;go_wp2_with fail;generalize hWx:(((w1.setCell ⟨p3,16,none⟩ (.int .i64 0)).setCell ⟨p3,17,none⟩ (.int .i64 0)).alloc (.cells #[.int .i64 n.refH,.int .i64 n.refN] 269))=Wx at *;have L2:=zH (show Loc w Wx p0 p1 p2 p3 f n sa sc (Z5 (Zo 5 n) sa sc)from by rw[<-hWx];exact(((L1.out.set 16 (.int .i64 0)).set 17 (.int .i64 0)).alloc (.cells #[.int .i64 n.refH,.int .i64 n.refN] 269)));clear hWx L1;refine(Jv n.refH n.refN _).mono ?_;rintro e w3 ⟨rfl,b3⟩;have L3:=zH (L2.out.below b3);have i43':(zq.info? 47).map (·.size)=some (Z5 (Zo 5 n) sa sc).size:=by kernel_rfl
 have o43':=Zh (Zo 5 n) sa sc;have I43':=zH i43';clear i43';have DN:=zH (L3.out.done (Z5 (Zo 5 n) sa sc));go_wp2_with (first
  |(refine zL p3 L3.out.e3 ?_)
  |(refine zN p2 (Z5 (Zo 5 n) sa sc) L3.out.e2 ?_))
 (try simp only[Exit.inBlock,Exit.then])
 refine zr DN.out.1 ?_;exact⟨rfl,by rw[HP0.out];exact DN.out.2⟩
theorem Zdc:Calls zq 165 #[f.val,.int .i64 6,.agg (Z5 n sa sc)] w fun e w'=>e = .returned (.tuple #[.agg (Z5 (Zo 6 n) sa sc),.bool (Yi f 6 n)])/\Below w.heap.size w w':=by
 have i43:(zq.info? 47).map (·.size)=some (Z5 n sa sc).size:=by kernel_rfl
 have h43:=Zh n sa sc;have I43:=zH i43;clear i43;have s1:(w.alloc (zF f 174)).heap.size=w.heap.size+1:=by simp
 have g5:=fun Z=>Z8 ((w.alloc (zF f 174)).alloc (.cells (Z5 n sa sc) 47)) Z _ _ (Zm (w.alloc (zF f 174)) (.cells (Z5 n sa sc) 47) _ s1);have g5':=fun Z Y=>Z8 _ Y _ _ (g5 Z);have G5:=zH g5;clear g5 s1;have G5':=zH g5';clear g5';have FB:=zH (JK w (zF f 174) (.cells (Z5 n sa sc) 47) (.cells (Z5 Zd none 0) 47) (.cells (Z5 n sa sc) 47));unfold Ys.val;go_enter Tryz.func165,Tryz.ntmps165;go_wp2_with (first
  |(refine wpList_load_row rfl 47 _ rfl (w.heap.size+1) rfl 47 (Z5 n sa sc) (0,0) _ ?hg Tryz.underlying47 rfl I43.out ?_;case hg=>(first | exact G5.out _ | exact G5'.out _ _))
  |(refine ZM _ rfl 47 _ _ rfl (w.heap.size+3) ?hp _ (Z5 n sa sc) rfl rfl I43.out rfl h43 ?_;case hp=>simp))
 simp only[<-ZZ];clear G5 G5';generalize hW:(((w.alloc (zF f 174)).alloc (.cells (Z5 n sa sc) 47)).alloc (.cells (Z5 Zd none 0) 47)).alloc (.cells (Z5 n sa sc) 47)=W0 at *;obtain⟨⟨e0,e1,e2,e3⟩,hb0,hp3⟩:=FB.out;clear hW FB;generalize hp0:w.heap.size=p0 at *;generalize hp1:p0+1=p1 at *;generalize hp2:p1+1=p2 at *;generalize hp3e:p2+1=p3 at *;have OR:=zH (show p0 < p1/\p1 < p2/\p2 < p3/\p3 < W0.heap.size by omega);have HP0:=zH hp0;clear hp0 hp1 hp2 hp3e hp3;refine(Zbm n sa sc _).mono ?_;rintro e w1 ⟨rfl,b1⟩;have L1:=zH ((Loc.mk e0 e1 e2 e3 hb0 (by have:=OR.out;omega):Loc w W0 p0 p1 p2 p3 f n sa sc (Z5 n sa sc)).below b1);clear OR b1 hb0 e0 e1 e2 e3;have hlt3:p3 < w1.heap.size:=(Array.getElem?_eq_some_iff.1 L1.out.e3).1;have hlt1:p1 < w1.heap.size:=(Array.getElem?_eq_some_iff.1 L1.out.e1).1;have hlt0:p0 < w1.heap.size:=(Array.getElem?_eq_some_iff.1 L1.out.e0).1;have k16:=zc L1.out.e3 16 _ rfl;have f16:=Zl L1.out.e3 16;have k17:=zc L1.out.e3 17 _ rfl;have f17:=Zl L1.out.e3 17;go_wp2_with fail;generalize hWx:(((w1.setCell ⟨p3,16,none⟩ (.int .i64 0)).setCell ⟨p3,17,none⟩ (.int .i64 0)).alloc (.cells #[.int .i64 n.refH,.int .i64 n.refN] 269))=Wx at *;have L2:=zH (show Loc w Wx p0 p1 p2 p3 f n sa sc (Z5 (Zo 6 n) sa sc)from by rw[<-hWx];exact(((L1.out.set 16 (.int .i64 0)).set 17 (.int .i64 0)).alloc (.cells #[.int .i64 n.refH,.int .i64 n.refN] 269)));clear hWx L1;refine(Jv n.refH n.refN _).mono ?_;rintro e w3 ⟨rfl,b3⟩;have L3:=zH (L2.out.below b3);have i43':(zq.info? 47).map (·.size)=some (Z5 (Zo 6 n) sa sc).size:=by kernel_rfl
 have o43':=Zh (Zo 6 n) sa sc;have I43':=zH i43';clear i43';have DN:=zH (L3.out.done (Z5 (Zo 6 n) sa sc));go_wp2_with (first
  |(refine zL p3 L3.out.e3 ?_)
  |(refine zN p2 (Z5 (Zo 6 n) sa sc) L3.out.e2 ?_))
 (try simp only[Exit.inBlock,Exit.then])
 refine zr DN.out.1 ?_;exact⟨rfl,by rw[HP0.out];exact DN.out.2⟩
theorem Z2S {k:Int}(hk : ¬(1<=k/\k<=6))(n:NoteV):Zo k n=n:=by
 unfold Zo;rw[if_neg (by omega),if_neg (by omega),if_neg (by omega),if_neg (by omega),if_neg (by omega)]
theorem Z6E {k:Int}(hk : ¬(1<=k/\k<=6))(f:Ys)(n:NoteV):Yi f k n=false:=by
 unfold Yi;rw[if_neg (by omega),if_neg (by omega),if_neg (by omega),if_neg (by omega),if_neg (by omega)]
theorem Zdi (k:Int)(hk : ¬(1<=k/\k<=6)):Calls zq 165 #[f.val,.int .i64 k,.agg (Z5 n sa sc)] w fun e w'=>e = .returned (.tuple #[.agg (Z5 (Zo k n) sa sc),.bool (Yi f k n)])/\Below w.heap.size w w':=by
 rw[Z2S hk,Z6E hk];have i43:(zq.info? 47).map (·.size)=some (Z5 n sa sc).size:=by kernel_rfl
 have h43:=Zh n sa sc;have I43:=zH i43;clear i43;have s1:(w.alloc (zF f 174)).heap.size=w.heap.size+1:=by simp
 have g5:=fun Z=>Z8 ((w.alloc (zF f 174)).alloc (.cells (Z5 n sa sc) 47)) Z _ _ (Zm (w.alloc (zF f 174)) (.cells (Z5 n sa sc) 47) _ s1);have g5':=fun Z Y=>Z8 _ Y _ _ (g5 Z);have G5:=zH g5;clear g5 s1;have G5':=zH g5';clear g5';have FB:=zH (JK w (zF f 174) (.cells (Z5 n sa sc) 47) (.cells (Z5 Zd none 0) 47) (.cells (Z5 n sa sc) 47));unfold Ys.val;go_enter Tryz.func165,Tryz.ntmps165;go_wp2_with (first
  |(refine wpList_load_row rfl 47 _ rfl (w.heap.size+1) rfl 47 (Z5 n sa sc) (0,0) _ ?hg Tryz.underlying47 rfl I43.out ?_;case hg=>(first | exact G5.out _ | exact G5'.out _ _))
  |(refine ZM _ rfl 47 _ _ rfl (w.heap.size+3) ?hp _ (Z5 n sa sc) rfl rfl I43.out rfl h43 ?_;case hp=>simp))
 simp only[<-ZZ];clear G5 G5';generalize hW:(((w.alloc (zF f 174)).alloc (.cells (Z5 n sa sc) 47)).alloc (.cells (Z5 Zd none 0) 47)).alloc (.cells (Z5 n sa sc) 47)=W0 at *;obtain⟨⟨e0,e1,e2,e3⟩,hb0,hp3⟩:=FB.out;clear hW FB;generalize hp0:w.heap.size=p0 at *;generalize hp1:p0+1=p1 at *;generalize hp2:p1+1=p2 at *;generalize hp3e:p2+1=p3 at *;have OR:=zH (show p0 < p1/\p1 < p2/\p2 < p3/\p3 < W0.heap.size by omega);have HP0:=zH hp0;clear hp0 hp1 hp2 hp3e hp3;refine(Zbs n sa sc _ k hk).mono ?_;rintro e w1 ⟨rfl,b1⟩;have L1:=zH ((Loc.mk e0 e1 e2 e3 hb0 (by have:=OR.out;omega):Loc w W0 p0 p1 p2 p3 f n sa sc (Z5 n sa sc)).below b1);clear OR b1 hb0 e0 e1 e2 e3;have hlt3:p3 < w1.heap.size:=(Array.getElem?_eq_some_iff.1 L1.out.e3).1;have hlt1:p1 < w1.heap.size:=(Array.getElem?_eq_some_iff.1 L1.out.e1).1;have hlt0:p0 < w1.heap.size:=(Array.getElem?_eq_some_iff.1 L1.out.e0).1;have i43':(zq.info? 47).map (·.size)=some (Z5 n sa sc).size:=by kernel_rfl
 have o43':=Zh n sa sc;have I43':=zH i43';clear i43';have DN:=zH (L1.out.done (Z5 n sa sc));go_wp2_with (first
  |(refine zL p3 L1.out.e3 ?_)
  |(refine zN p2 (Z5 n sa sc) L1.out.e2 ?_))
 (try simp only[Exit.inBlock,Exit.then])
 refine zr DN.out.1 ?_;exact⟨rfl,by rw[HP0.out];exact DN.out.2⟩
theorem Zde (hv:f.valid=true)(hs:Xe w sa n.strokes.length sc n.strokes):Calls zq 165 #[f.val,.int .i64 4,.agg (Z5 n sa sc)] w fun e w'=>e = .returned (.tuple #[.agg (Z5 (Zo 4 n) none 0),.bool (Yi f 4 n)])/\Below w.heap.size w w':=by
 have hvf:1<=f.rings/\f.rings<=24/\2<=f.sectors/\f.sectors<=96/\1<=f.wide/\f.wide<=f.sectors:=by
  simp only[Ys.valid,Bool.and_eq_true,Ya]at hv;omega
 have VF:=zH hvf;clear hvf hv;have i43:(zq.info? 47).map (·.size)=some (Z5 n sa sc).size:=by kernel_rfl
 have h43:=Zh n sa sc;have I43:=zH i43;clear i43;have s1:(w.alloc (zF f 174)).heap.size=w.heap.size+1:=by simp
 have g5:=fun Z=>Z8 ((w.alloc (zF f 174)).alloc (.cells (Z5 n sa sc) 47)) Z _ _ (Zm (w.alloc (zF f 174)) (.cells (Z5 n sa sc) 47) _ s1);have g5':=fun Z Y=>Z8 _ Y _ _ (g5 Z);have G5:=zH g5;clear g5 s1;have G5':=zH g5';clear g5';have FB:=zH (JK w (zF f 174) (.cells (Z5 n sa sc) 47) (.cells (Z5 Zd none 0) 47) (.cells (Z5 n sa sc) 47));unfold Ys.val;go_enter Tryz.func165,Tryz.ntmps165;go_wp2_with (first
  |(refine wpList_load_row rfl 47 _ rfl (w.heap.size+1) rfl 47 (Z5 n sa sc) (0,0) _ ?hg Tryz.underlying47 rfl I43.out ?_;case hg=>(first | exact G5.out _ | exact G5'.out _ _))
  |(refine ZM _ rfl 47 _ _ rfl (w.heap.size+3) ?hp _ (Z5 n sa sc) rfl rfl I43.out rfl h43 ?_;case hp=>simp))
 simp only[<-ZZ];clear G5 G5';generalize hW:(((w.alloc (zF f 174)).alloc (.cells (Z5 n sa sc) 47)).alloc (.cells (Z5 Zd none 0) 47)).alloc (.cells (Z5 n sa sc) 47)=W0 at *;obtain⟨⟨e0,e1,e2,e3⟩,hb0,hp3⟩:=FB.out;clear hW FB;generalize hp0:w.heap.size=p0 at *;generalize hp1:p0+1=p1 at *;generalize hp2:p1+1=p2 at *;generalize hp3e:p2+1=p3 at *;have OR:=zH (show p0 < p1/\p1 < p2/\p2 < p3/\p3 < W0.heap.size by omega);have HP0:=zH hp0;clear hp0 hp1 hp2 hp3e hp3;refine(Zbo n sa sc _).mono ?_;rintro e w1 ⟨rfl,b1⟩;have L1:=zH ((Loc.mk e0 e1 e2 e3 hb0 (by have:=OR.out;omega):Loc w W0 p0 p1 p2 p3 f n sa sc (Z5 n sa sc)).below b1);clear OR b1 hb0 e0 e1 e2 e3;have hlt3:p3 < w1.heap.size:=(Array.getElem?_eq_some_iff.1 L1.out.e3).1;have hlt1:p1 < w1.heap.size:=(Array.getElem?_eq_some_iff.1 L1.out.e1).1;have hlt0:p0 < w1.heap.size:=(Array.getElem?_eq_some_iff.1 L1.out.e0).1;have k5:=zc L1.out.e3 5 _ rfl;have f5:=Zl L1.out.e3 5;have k14:=zc L1.out.e3 14 _ rfl;have f14:=Zl L1.out.e3 14;have k15:=zc L1.out.e3 15 _ rfl;have f15:=Zl L1.out.e3 15;go_wp2_with fail;have e4:((((w1.setCell ⟨p3,5,none⟩ (.int .i64 0)).setCell ⟨p3,14,none⟩ (.int .i64 0)).setCell ⟨p3,15,none⟩ (.slice none 0 0)).alloc (.cells #[.int .i64 n.stone,.int .i64 n.ring] 266)).heap[w1.heap.size]? = some (.cells #[.int .i64 n.stone,.int .i64 n.ring] 266):=Zm _ _ _ (by simp[World.setCell]);generalize hWx:((((w1.setCell ⟨p3,5,none⟩ (.int .i64 0)).setCell ⟨p3,14,none⟩ (.int .i64 0)).setCell ⟨p3,15,none⟩ (.slice none 0 0)).alloc (.cells #[.int .i64 n.stone,.int .i64 n.ring] 266))=Wx at *;have L2:=zH (show Loc w Wx p0 p1 p2 p3 f n sa sc (Z5 (Zo 4 n) none 0)from by rw[<-hWx];exact((((L1.out.set 5 (.int .i64 0)).set 14 (.int .i64 0)).set 15 (.slice none 0 0)).alloc (.cells #[.int .i64 n.stone,.int .i64 n.ring] 266)));clear hWx L1;generalize w1.heap.size=p4 at *;have h4:=(Array.getElem?_eq_some_iff.1 e4).1;have E4:=zH e4;clear e4;clear k5 f5;clear k14 f14;clear k15 f15;clear hlt3 hlt1 hlt0;have c00:Wx.cell? ⟨p0,0,none⟩=some (.int .i64 f.rings):=by simp[World.cell?,L2.out.e0]
 have c01:Wx.cell? ⟨p0,1,none⟩=some (.int .i64 f.sectors):=by simp[World.cell?,L2.out.e0]
 have c02:Wx.cell? ⟨p0,2,none⟩=some (.int .i64 f.wide):=by simp[World.cell?,L2.out.e0]
 have c40:Wx.cell? ⟨p4,0,none⟩=some (.int .i64 n.stone):=by simp[World.cell?,E4.out]
 have c41:Wx.cell? ⟨p4,1,none⟩=some (.int .i64 n.ring):=by simp[World.cell?,E4.out]
 have c110:=zc L2.out.e1 10 _ rfl;have c111:=zc L2.out.e1 11 _ rfl;have c115:=zc L2.out.e1 15 _ rfl;have hr1:f.rings<=24:=VF.out.2.1;have hr0:1<=f.rings:=VF.out.1;refine(YJ n.stone 0 1 _).mono ?_;rintro e w3 ⟨rfl,rfl⟩;cases h1:Xx n.stone 0 1
 ·go_upto_region 25 with fail;have hR:Yi f 4 n=false:=by simp only[Yi];simp[h1]
  have HRR:=zH hR;clear hR;have i43':(zq.info? 47).map (·.size)=some (Z5 (Zo 4 n) none 0).size:=by kernel_rfl
  have o43':=Zh (Zo 4 n) none 0;have I43':=zH i43';clear i43';have DN:=zH (L2.out.done (Z5 (Zo 4 n) none 0));go_wp2_with (first
   |(refine zL p3 L2.out.e3 ?_)
   |(refine zN p2 (Z5 (Zo 4 n) none 0) L2.out.e2 ?_))
  (try simp only[Exit.inBlock,Exit.then])
  refine zr DN.out.1 ?_;rw[HRR.out];exact⟨rfl,by rw[HP0.out];exact DN.out.2⟩
 ·have H1:=zH h1;go_wp2_with fail;refine(YJ n.ring 0 (f.rings - 1) _).mono ?_;rintro e w3 ⟨rfl,rfl⟩;cases h2:Xx n.ring 0 (f.rings - 1)
  focus
   go_upto_region 25 with fail;have hR:Yi f 4 n=false:=by simp only[Yi];simp[h2]
   have HRR:=zH hR;clear hR;have i43':(zq.info? 47).map (·.size)=some (Z5 (Zo 4 n) none 0).size:=by kernel_rfl
   have o43':=Zh (Zo 4 n) none 0;have I43':=zH i43';clear i43';have DN:=zH (L2.out.done (Z5 (Zo 4 n) none 0));go_wp2_with (first
    |(refine zL p3 L2.out.e3 ?_)
    |(refine zN p2 (Z5 (Zo 4 n) none 0) L2.out.e2 ?_))
  rotate_left
  focus
   have H2:=zH h2;go_wp2_with fail;refine(Z66 f.rings f.sectors f.wide sa _ sc n.strokes _ (hs.below (by rw[HP0.out];exact L2.out.b)) ⟨VF.out.2.2.1,VF.out.2.2.2.1⟩ ⟨VF.out.2.2.2.2.1,VF.out.2.2.2.2.2⟩).mono ?_;rintro e w3 ⟨rfl,b3⟩;have L3:=zH (L2.out.below b3);have hR:Yi f 4 n=Xc (f.sectors - f.wide) n.strokes:=by simp only[Yi];simp[h1,h2]
   have HRR:=zH hR;clear hR;have i43':(zq.info? 47).map (·.size)=some (Z5 (Zo 4 n) none 0).size:=by kernel_rfl
   have o43':=Zh (Zo 4 n) none 0;have I43':=zH i43';clear i43';have DN:=zH (L3.out.done (Z5 (Zo 4 n) none 0));go_wp2_with (first
    |(refine zL p3 L3.out.e3 ?_)
    |(refine zN p2 (Z5 (Zo 4 n) none 0) L3.out.e2 ?_))
  all_goals
   (try simp only[Exit.inBlock,Exit.then])
   refine zr DN.out.1 ?_;rw[HRR.out];exact⟨rfl,by rw[HP0.out];exact DN.out.2⟩
theorem Zdf (hv:f.valid=true):Calls zq 165 #[f.val,.int .i64 3,.agg (Z5 n sa sc)] w fun e w'=>e = .returned (.tuple #[.agg (Z5 (Zo 3 n) sa sc),.bool (Yi f 3 n)])/\Below w.heap.size w w':=by
 have hvf:1<=f.rings/\f.rings<=24/\2<=f.sectors/\f.sectors<=96/\1<=f.wide/\f.wide<=f.sectors:=by
  simp only[Ys.valid,Bool.and_eq_true,Ya]at hv;omega
 have VF:=zH hvf;clear hvf hv;have i43:(zq.info? 47).map (·.size)=some (Z5 n sa sc).size:=by kernel_rfl
 have h43:=Zh n sa sc;have I43:=zH i43;clear i43;have s1:(w.alloc (zF f 174)).heap.size=w.heap.size+1:=by simp
 have g5:=fun Z=>Z8 ((w.alloc (zF f 174)).alloc (.cells (Z5 n sa sc) 47)) Z _ _ (Zm (w.alloc (zF f 174)) (.cells (Z5 n sa sc) 47) _ s1);have g5':=fun Z Y=>Z8 _ Y _ _ (g5 Z);have G5:=zH g5;clear g5 s1;have G5':=zH g5';clear g5';have FB:=zH (JK w (zF f 174) (.cells (Z5 n sa sc) 47) (.cells (Z5 Zd none 0) 47) (.cells (Z5 n sa sc) 47));unfold Ys.val;go_enter Tryz.func165,Tryz.ntmps165;go_wp2_with (first
  |(refine wpList_load_row rfl 47 _ rfl (w.heap.size+1) rfl 47 (Z5 n sa sc) (0,0) _ ?hg Tryz.underlying47 rfl I43.out ?_;case hg=>(first | exact G5.out _ | exact G5'.out _ _))
  |(refine ZM _ rfl 47 _ _ rfl (w.heap.size+3) ?hp _ (Z5 n sa sc) rfl rfl I43.out rfl h43 ?_;case hp=>simp))
 simp only[<-ZZ];clear G5 G5';generalize hW:(((w.alloc (zF f 174)).alloc (.cells (Z5 n sa sc) 47)).alloc (.cells (Z5 Zd none 0) 47)).alloc (.cells (Z5 n sa sc) 47)=W0 at *;obtain⟨⟨e0,e1,e2,e3⟩,hb0,hp3⟩:=FB.out;clear hW FB;generalize hp0:w.heap.size=p0 at *;generalize hp1:p0+1=p1 at *;generalize hp2:p1+1=p2 at *;generalize hp3e:p2+1=p3 at *;have OR:=zH (show p0 < p1/\p1 < p2/\p2 < p3/\p3 < W0.heap.size by omega);have HP0:=zH hp0;clear hp0 hp1 hp2 hp3e hp3;refine(Zbp n sa sc _).mono ?_;rintro e w1 ⟨rfl,b1⟩;have L1:=zH ((Loc.mk e0 e1 e2 e3 hb0 (by have:=OR.out;omega):Loc w W0 p0 p1 p2 p3 f n sa sc (Z5 n sa sc)).below b1);clear OR b1 hb0 e0 e1 e2 e3;have hlt3:p3 < w1.heap.size:=(Array.getElem?_eq_some_iff.1 L1.out.e3).1;have hlt1:p1 < w1.heap.size:=(Array.getElem?_eq_some_iff.1 L1.out.e1).1;have hlt0:p0 < w1.heap.size:=(Array.getElem?_eq_some_iff.1 L1.out.e0).1;have k5:=zc L1.out.e3 5 _ rfl;have f5:=Zl L1.out.e3 5;have k12:=zc L1.out.e3 12 _ rfl;have f12:=Zl L1.out.e3 12;have k13:=zc L1.out.e3 13 _ rfl;have f13:=Zl L1.out.e3 13;have k10:=zc L1.out.e3 10 _ rfl;have f10:=Zl L1.out.e3 10;have k11:=zc L1.out.e3 11 _ rfl;have f11:=Zl L1.out.e3 11;go_wp2_with fail;have e4:((((((w1.setCell ⟨p3,5,none⟩ (.int .i64 0)).setCell ⟨p3,12,none⟩ (.int .i64 0)).setCell ⟨p3,13,none⟩ (.int .i64 0)).setCell ⟨p3,10,none⟩ (.int .i64 0)).setCell ⟨p3,11,none⟩ (.int .i64 0)).alloc (.cells #[.int .i64 n.stone,.int .i64 n.a,.int .i64 n.b] 263)).heap[w1.heap.size]? = some (.cells #[.int .i64 n.stone,.int .i64 n.a,.int .i64 n.b] 263):=Zm _ _ _ (by simp[World.setCell]);generalize hWx:((((((w1.setCell ⟨p3,5,none⟩ (.int .i64 0)).setCell ⟨p3,12,none⟩ (.int .i64 0)).setCell ⟨p3,13,none⟩ (.int .i64 0)).setCell ⟨p3,10,none⟩ (.int .i64 0)).setCell ⟨p3,11,none⟩ (.int .i64 0)).alloc (.cells #[.int .i64 n.stone,.int .i64 n.a,.int .i64 n.b] 263))=Wx at *;have L2:=zH (show Loc w Wx p0 p1 p2 p3 f n sa sc (Z5 (Zo 3 n) sa sc)from by rw[<-hWx];exact((((((L1.out.set 5 (.int .i64 0)).set 12 (.int .i64 0)).set 13 (.int .i64 0)).set 10 (.int .i64 0)).set 11 (.int .i64 0)).alloc (.cells #[.int .i64 n.stone,.int .i64 n.a,.int .i64 n.b] 263)))
 clear hWx L1;generalize w1.heap.size=p4 at *;have h4:=(Array.getElem?_eq_some_iff.1 e4).1;have E4:=zH e4;clear e4;clear k5 f5;clear k12 f12;clear k13 f13;clear k10 f10;clear k11 f11;clear hlt3 hlt1 hlt0;have c00:Wx.cell? ⟨p0,0,none⟩=some (.int .i64 f.rings):=by simp[World.cell?,L2.out.e0]
 have c01:Wx.cell? ⟨p0,1,none⟩=some (.int .i64 f.sectors):=by simp[World.cell?,L2.out.e0]
 have c02:Wx.cell? ⟨p0,2,none⟩=some (.int .i64 f.wide):=by simp[World.cell?,L2.out.e0]
 have c40:Wx.cell? ⟨p4,0,none⟩=some (.int .i64 n.stone):=by simp[World.cell?,E4.out]
 have c41:Wx.cell? ⟨p4,1,none⟩=some (.int .i64 n.a):=by simp[World.cell?,E4.out]
 have c42:Wx.cell? ⟨p4,2,none⟩=some (.int .i64 n.b):=by simp[World.cell?,E4.out]
 have c110:=zc L2.out.e1 10 _ rfl;have c111:=zc L2.out.e1 11 _ rfl;have c115:=zc L2.out.e1 15 _ rfl;refine(YJ n.stone 0 1 _).mono ?_;rintro e w3 ⟨rfl,rfl⟩;cases h1:Xx n.stone 0 1
 ·go_upto_region 25 with fail;have hR:Yi f 3 n=false:=by simp only[Yi];simp[Z05,h1]
  have HRR:=zH hR;clear hR;have i43':(zq.info? 47).map (·.size)=some (Z5 (Zo 3 n) sa sc).size:=by kernel_rfl
  have o43':=Zh (Zo 3 n) sa sc;have I43':=zH i43';clear i43';have DN:=zH (L2.out.done (Z5 (Zo 3 n) sa sc));go_wp2_with (first
   |(refine zL p3 L2.out.e3 ?_)
   |(refine zN p2 (Z5 (Zo 3 n) sa sc) L2.out.e2 ?_))
  (try simp only[Exit.inBlock,Exit.then])
  refine zr DN.out.1 ?_;rw[HRR.out];exact⟨rfl,by rw[HP0.out];exact DN.out.2⟩
 ·have H1:=zH h1;go_wp2_with fail;refine(Z7F f.rings f.sectors f.wide n.a _ ⟨VF.out.1,VF.out.2.1⟩ ⟨VF.out.2.2.1,VF.out.2.2.2.1⟩).mono ?_;rintro e wa ⟨rfl,ba⟩;have LA:=zH (L2.out.below ba);have E4A:=zH ((ba.block p4 (Array.getElem?_eq_some_iff.1 E4.out).1).trans E4.out);have c00_wa:wa.cell? ⟨p0,0,none⟩=some (.int .i64 f.rings):=by simp[World.cell?,LA.out.e0]
  have c01_wa:wa.cell? ⟨p0,1,none⟩=some (.int .i64 f.sectors):=by simp[World.cell?,LA.out.e0]
  have c02_wa:wa.cell? ⟨p0,2,none⟩=some (.int .i64 f.wide):=by simp[World.cell?,LA.out.e0]
  have c40_wa:wa.cell? ⟨p4,0,none⟩=some (.int .i64 n.stone):=by simp[World.cell?,E4A.out]
  have c41_wa:wa.cell? ⟨p4,1,none⟩=some (.int .i64 n.a):=by simp[World.cell?,E4A.out]
  have c42_wa:wa.cell? ⟨p4,2,none⟩=some (.int .i64 n.b):=by simp[World.cell?,E4A.out]
  have c110_wa:=zc LA.out.e1 10 _ rfl;have c111_wa:=zc LA.out.e1 11 _ rfl;have c115_wa:=zc LA.out.e1 15 _ rfl;cases h2:Xx n.a 0 (f.rings * f.sectors - 1)
  ·go_upto_region 25 with fail;have hR:Yi f 3 n=false:=by simp only[Yi];simp[Z05,h2]
   have HRR:=zH hR;clear hR;have i43':(zq.info? 47).map (·.size)=some (Z5 (Zo 3 n) sa sc).size:=by kernel_rfl
   have o43':=Zh (Zo 3 n) sa sc;have I43':=zH i43';clear i43';have DN:=zH (LA.out.done (Z5 (Zo 3 n) sa sc));go_wp2_with (first
    |(refine zL p3 LA.out.e3 ?_)
    |(refine zN p2 (Z5 (Zo 3 n) sa sc) LA.out.e2 ?_))
   (try simp only[Exit.inBlock,Exit.then])
   refine zr DN.out.1 ?_;rw[HRR.out];exact⟨rfl,by rw[HP0.out];exact DN.out.2⟩
  ·have H2:=zH h2;by_cases hb1:n.b = -1
   ·have q1:(n.b == -1)=true:=by simp[hb1]
    have q1':decide (n.b = -1)=true:=by simp[hb1]
    have HB1:=zH hb1;clear hb1;by_cases hne:n.a=n.b
    focus
     have q2:(n.a != n.b)=false:=by simp[hne]
     have q2':decide (n.a=n.b)=true:=by simp[hne]
     have HNE:=zH hne;clear hne;go_upto_region 25 with fail;have hR:Yi f 3 n=false:=by simp only[Yi];simp[Z05,h1,h2,q1',HNE.out]
     have HRR:=zH hR;clear hR;have i43':(zq.info? 47).map (·.size)=some (Z5 (Zo 3 n) sa sc).size:=by kernel_rfl
     have o43':=Zh (Zo 3 n) sa sc;have I43':=zH i43';clear i43';have DN:=zH (LA.out.done (Z5 (Zo 3 n) sa sc));go_wp2_with (first
      |(refine zL p3 LA.out.e3 ?_)
      |(refine zN p2 (Z5 (Zo 3 n) sa sc) LA.out.e2 ?_))
    rotate_left
    focus
     have q2:(n.a != n.b)=true:=by simp[hne]
     have q2':decide (n.a=n.b)=false:=by simp[hne]
     have HNE:=zH hne;clear hne;go_wp2_with fail;refine(Z2e n.diffLo n.diffHi (-1000000000) 1000000000 _).mono ?_;rintro e w9 ⟨rfl,b9⟩;have L9:=zH (LA.out.below b9);have hR:Yi f 3 n=Jh n.diffLo n.diffHi (-1000000000) 1000000000:=by simp only[Yi];simp[Z05,h1,h2,q1',HNE.out]
     have HRR:=zH hR;clear hR;have i43':(zq.info? 47).map (·.size)=some (Z5 (Zo 3 n) sa sc).size:=by kernel_rfl
     have o43':=Zh (Zo 3 n) sa sc;have I43':=zH i43';clear i43';have DN:=zH (L9.out.done (Z5 (Zo 3 n) sa sc));go_wp2_with (first
      |(refine zL p3 L9.out.e3 ?_)
      |(refine zN p2 (Z5 (Zo 3 n) sa sc) L9.out.e2 ?_))
    all_goals
     (try simp only[Exit.inBlock,Exit.then])
     refine zr DN.out.1 ?_;rw[HRR.out];exact⟨rfl,by rw[HP0.out];exact DN.out.2⟩
   ·have q1:(n.b == -1)=false:=by simp[hb1]
    have q1':decide (n.b = -1)=false:=by simp[hb1]
    have HB1:=zH hb1;clear hb1;go_wp2_with fail;refine(Z7F f.rings f.sectors f.wide n.b _ ⟨VF.out.1,VF.out.2.1⟩ ⟨VF.out.2.2.1,VF.out.2.2.2.1⟩).mono ?_;rintro e wb ⟨rfl,bb⟩;have LB:=zH (LA.out.below bb);have E4B:=zH ((bb.block p4 (Array.getElem?_eq_some_iff.1 E4A.out).1).trans E4A.out);have c00_wb:wb.cell? ⟨p0,0,none⟩=some (.int .i64 f.rings):=by simp[World.cell?,LB.out.e0]
    have c01_wb:wb.cell? ⟨p0,1,none⟩=some (.int .i64 f.sectors):=by simp[World.cell?,LB.out.e0]
    have c02_wb:wb.cell? ⟨p0,2,none⟩=some (.int .i64 f.wide):=by simp[World.cell?,LB.out.e0]
    have c40_wb:wb.cell? ⟨p4,0,none⟩=some (.int .i64 n.stone):=by simp[World.cell?,E4B.out]
    have c41_wb:wb.cell? ⟨p4,1,none⟩=some (.int .i64 n.a):=by simp[World.cell?,E4B.out]
    have c42_wb:wb.cell? ⟨p4,2,none⟩=some (.int .i64 n.b):=by simp[World.cell?,E4B.out]
    have c110_wb:=zc LB.out.e1 10 _ rfl;have c111_wb:=zc LB.out.e1 11 _ rfl;have c115_wb:=zc LB.out.e1 15 _ rfl;cases h3:Xx n.b 0 (f.rings * f.sectors - 1)
    ·go_upto_region 25 with fail;have hR:Yi f 3 n=false:=by simp only[Yi];simp[Z05,h1,h2,h3,q1']
     have HRR:=zH hR;clear hR;have i43':(zq.info? 47).map (·.size)=some (Z5 (Zo 3 n) sa sc).size:=by kernel_rfl
     have o43':=Zh (Zo 3 n) sa sc;have I43':=zH i43';clear i43';have DN:=zH (LB.out.done (Z5 (Zo 3 n) sa sc));go_wp2_with (first
      |(refine zL p3 LB.out.e3 ?_)
      |(refine zN p2 (Z5 (Zo 3 n) sa sc) LB.out.e2 ?_))
     (try simp only[Exit.inBlock,Exit.then])
     refine zr DN.out.1 ?_;rw[HRR.out];exact⟨rfl,by rw[HP0.out];exact DN.out.2⟩
    ·have H3:=zH h3;by_cases hne:n.a=n.b
     focus
      have q2:(n.a != n.b)=false:=by simp[hne]
      have q2':decide (n.a=n.b)=true:=by simp[hne]
      have HNE:=zH hne;clear hne;go_upto_region 25 with fail;have hR:Yi f 3 n=false:=by simp only[Yi];simp[Z05,h1,h2,h3,q1',HNE.out]
      have HRR:=zH hR;clear hR;have i43':(zq.info? 47).map (·.size)=some (Z5 (Zo 3 n) sa sc).size:=by kernel_rfl
      have o43':=Zh (Zo 3 n) sa sc;have I43':=zH i43';clear i43';have DN:=zH (LB.out.done (Z5 (Zo 3 n) sa sc));go_wp2_with (first
       |(refine zL p3 LB.out.e3 ?_)
       |(refine zN p2 (Z5 (Zo 3 n) sa sc) LB.out.e2 ?_))
     rotate_left
     focus
      have q2:(n.a != n.b)=true:=by simp[hne]
      have q2':decide (n.a=n.b)=false:=by simp[hne]
      have HNE:=zH hne;clear hne;go_wp2_with fail;refine(Z2e n.diffLo n.diffHi (-1000000000) 1000000000 _).mono ?_;rintro e w9 ⟨rfl,b9⟩;have L9:=zH (LB.out.below b9);have hR:Yi f 3 n=Jh n.diffLo n.diffHi (-1000000000) 1000000000:=by simp only[Yi];simp[Z05,h1,h2,h3,q1',HNE.out]
      have HRR:=zH hR;clear hR;have i43':(zq.info? 47).map (·.size)=some (Z5 (Zo 3 n) sa sc).size:=by kernel_rfl
      have o43':=Zh (Zo 3 n) sa sc;have I43':=zH i43';clear i43';have DN:=zH (L9.out.done (Z5 (Zo 3 n) sa sc));go_wp2_with (first
       |(refine zL p3 L9.out.e3 ?_)
       |(refine zN p2 (Z5 (Zo 3 n) sa sc) L9.out.e2 ?_))
     all_goals
      (try simp only[Exit.inBlock,Exit.then])
      refine zr DN.out.1 ?_;rw[HRR.out];exact⟨rfl,by rw[HP0.out];exact DN.out.2⟩
end
theorem UE {P:Program}{ops:Array Oper}{rest:List Oper}{o:Oper}{a:Act}{w:World}{Q:Exit->Act->World->Prop}(hw:Region.wanted o (yielded ops a.tmps)=true)(ty:TypeId)(x:Operand)(ho:o.op = .load ty x)
  (g:Nat) (hx:a.eval x = .pointer (some ⟨g,0,none⟩)) (t:TypeId) (cs:Xz) (fr:Nat×Nat) (d:TypeDesc) (hg:w.heap[g]? = some (.cells cs t fr))
  (hu:P.underlying ty=some d) (hd:(match d with | .struct _ | .array _ _=>true | _=>false)=true) (hi:(P.info? ty).map (·.size)=some cs.size)
  (h:wpList P ops Q rest (a.put o.dst (.agg cs)) w):wpList P ops Q (o :: rest) a w:=
 wpList_step fun _ hK=>by rw[if_pos hw];exact wp_load_row ty x ho g hx t cs fr d hg hu hd hi (hK _ _ h)
theorem Z1z (f:Ys)(n:NoteV)(sa:zA)(sc:Nat)(w:World)(hv:f.valid=true)(hs:Xe w sa n.strokes.length sc n.strokes)(k:Int):
  Calls zq 165 #[f.val,.int .i64 k,.agg (Z5 n sa sc)] w fun e w' => ∃ta tc,e = .returned (.tuple #[.agg (Z5 (Zo k n) ta tc),.bool (Yi f k n)]) /\
   (ta=sa/\tc=sc/\(Zo k n).strokes=n.strokes\/ta=none/\tc=0/\(Zo k n).strokes=[])/\Below w.heap.size w w':=by
 by_cases hk:1<=k/\k<=6
 ·have hk':k=1\/k=2\/k=3\/k=4\/k=5\/k=6:=by omega
  rcases hk' with rfl | rfl | rfl | rfl | rfl | rfl
  ·refine(Zdh f n sa sc w).mono ?_;rintro e w' ⟨rfl,hb⟩;exact⟨sa,sc,rfl,.inl ⟨rfl,rfl,rfl⟩,hb⟩
  ·refine(Zdg f n sa sc w).mono ?_;rintro e w' ⟨rfl,hb⟩;exact⟨sa,sc,rfl,.inl ⟨rfl,rfl,rfl⟩,hb⟩
  ·refine(Zdf f n sa sc w hv).mono ?_;rintro e w' ⟨rfl,hb⟩;exact⟨sa,sc,rfl,.inl ⟨rfl,rfl,rfl⟩,hb⟩
  ·refine(Zde f n sa sc w hv hs).mono ?_;rintro e w' ⟨rfl,hb⟩;exact⟨none,0,rfl,.inr ⟨rfl,rfl,rfl⟩,hb⟩
  ·refine(Zdd f n sa sc w).mono ?_;rintro e w' ⟨rfl,hb⟩;exact⟨sa,sc,rfl,.inl ⟨rfl,rfl,rfl⟩,hb⟩
  ·refine(Zdc f n sa sc w).mono ?_;rintro e w' ⟨rfl,hb⟩;exact⟨sa,sc,rfl,.inl ⟨rfl,rfl,rfl⟩,hb⟩
 ·refine(Zdi f n sa sc w k hk).mono ?_;rintro e w' ⟨rfl,hb⟩;refine⟨sa,sc,rfl,.inl ⟨rfl,rfl,?_⟩,hb⟩;rw[Z2S hk]
theorem Z3o {k:Int}{n:NoteV}{sa ta:zA}{sc tc:Nat}(h:ta=sa/\tc=sc/\(Zo k n).strokes=n.strokes\/ta=none/\tc=0/\(Zo k n).strokes=[]){W:World}(hs:Xe W sa n.strokes.length sc n.strokes):
  Xe W ta (Zo k n).strokes.length tc (Zo k n).strokes:=by
 rcases h with ⟨rfl,rfl,h⟩ | ⟨rfl,rfl,h⟩
 ·rw[h];exact hs
 ·rw[h];exact ZX.nil W 1
def UN (n:NoteV):NoteV:=
 if n.kind=2 then { Zo n.kind n with refH:=0,refN:=0 } else if n.kind=5 then { Zo n.fix (Zo n.kind n)with fix:=0 } else Zo n.kind n
def QM (n:NoteV):NoteV := { UN n with house:=0,num:=0,clock:=0,day:=0,kind:=0 }
def okB (f:Ys)(n:NoteV):Bool:=
 if n.kind=2 then Yi f n.kind n && Zy n.refH n.refN else if n.kind=5 then Yi f n.kind n && (Yi f n.fix (Zo n.kind n) && Xx n.fix 1 4)else Yi f n.kind n
def Zf (f:Ys)(n:NoteV):Bool:=okB f n && (Zy n.house n.num && (Xx n.clock 1 1099511627776 && (Xx n.day 0 99999 && Yv (QM n) Zd)))
structure Vs (w W:World)(p0 p1 p2:Nat)(f:Ys)(n:NoteV)(sa:zA)(sc:Nat)(C:Xz):Prop where
 e0:W.heap[p0]? = some (.cells #[.int .i64 f.rings,.int .i64 f.sectors,.int .i64 f.wide] 174)
 e1:W.heap[p1]? = some (.cells (Z5 n sa sc) 47)
 e2:W.heap[p2]? = some (.cells C 47)
 b:Below p0 w W
 lt:p0 < p1/\p1 < p2
section
variable {w W W':World}{p0 p1 p2:Nat}{f:Ys}{n:NoteV}{sa:zA}{sc:Nat}{C:Xz}
theorem Vs.below (h:Vs w W p0 p1 p2 f n sa sc C)(hb:Below W.heap.size W W'):Vs w W' p0 p1 p2 f n sa sc C:=by
 have g : ∀{k:Nat} {o:Obj},W.heap[k]? = some o->W'.heap[k]? = some o:=fun {k o} hk=>(hb.block k (Array.getElem?_eq_some_iff.1 hk).1).trans hk;have h0:=(Array.getElem?_eq_some_iff.1 h.e0).1;exact⟨g h.e0,g h.e1,g h.e2,h.b.trans (hb.mono (by omega)),h.lt⟩
theorem Vs.alloc (h:Vs w W p0 p1 p2 f n sa sc C)(o:Obj):Vs w (W.alloc o) p0 p1 p2 f n sa sc C:=h.below (zB _ _)
theorem Vs.set (h:Vs w W p0 p1 p2 f n sa sc C)(j:Nat)(v:Value):Vs w (W.setCell ⟨p2,j,none⟩ v) p0 p1 p2 f n sa sc (C.setIfInBounds j v):=by
 have g : ∀{k:Nat},k≠p2->(W.setCell ⟨p2,j,none⟩ v).heap[k]? = W.heap[k]? := fun {k} hk=>Below.heap_setCell W ⟨p2,j,none⟩ v k hk;have hl:=h.lt;exact⟨(g (by omega)).trans h.e0,(g (by omega)).trans h.e1,heap_setCell_same W p2 j C 47 v h.e2,h.b.trans ⟨rfl,rfl,rfl,by simp[World.setCell],fun k hk=>g (by omega)⟩,h.lt⟩
theorem Vs.setRow (h:Vs w W p0 p1 p2 f n sa sc C)(C':Xz):Vs w (W.setRow p2 C') p0 p1 p2 f n sa sc C':=by
 have hl:=h.lt;exact⟨(setRow_other W p2 p0 C' (by omega)).trans h.e0,(setRow_other W p2 p1 C' (by omega)).trans h.e1,setRow_heap W p2 _ C' _ _ h.e2,h.b.trans ⟨rfl,rfl,rfl,by simp,fun k hk=>setRow_other W p2 k C' (by omega)⟩,h.lt⟩
end
theorem Yt (x lo hi:Int)(w:World):Calls zq 210 #[.int .i64 x,.int .i64 lo,.int .i64 hi] w fun e w'=>e = .returned (.bool (Xx x lo hi))/\w=w':=by
 by_cases h1:lo<=x
 ·have t1:decide (lo<=x)=true:=by simp;omega
  by_cases h2:x<=hi
  focus
   have t2:decide (x<=hi)=true:=by simp;omega
   have t3:Xx x lo hi=true:=Ya.2 ⟨h1,h2⟩
  rotate_left
  focus
   have t2:decide (x<=hi)=false:=by simp;omega
   have t3:Xx x lo hi=false:=VK.2 (fun h=>h2 h.2)
  all_goals
   rw[t3];clear t3;go_enter Tryz.func210,Tryz.ntmps210;go_wp2;go_ret;exact⟨rfl,rfl⟩
 ·have t1:decide (lo<=x)=false:=by simp;omega
  have t3:Xx x lo hi=false:=VK.2 (fun h=>h1 h.1);rw[t3];clear t3;go_enter Tryz.func210,Tryz.ntmps210;go_wp2;go_ret;exact⟨rfl,rfl⟩
theorem YU (h m:Int)(w:World):Calls zq 211 #[.agg #[.int .i64 h,.int .i64 m]] w fun e w'=>e = .returned (.bool (Zy h m))/\Below w.heap.size w w':=by
 have hb:=zB w (.cells #[.int .i64 h,.int .i64 m] 45);unfold Zy;cases h1:Xx h 1 8
 ·go_enter Tryz.func211,Tryz.ntmps211;go_wp2_with fail;refine(Yt h 1 8 _).mono ?_;rintro e w' ⟨rfl,rfl⟩;rw[h1];go_wp2;go_ret;exact⟨rfl,hb⟩
 ·go_enter Tryz.func211,Tryz.ntmps211;go_wp2_with fail;refine(Yt h 1 8 _).mono ?_;rintro e w' ⟨rfl,rfl⟩;rw[h1];go_wp2_with fail;refine(Yt m 1 400 _).mono ?_;rintro e w' ⟨rfl,rfl⟩;go_wp2;go_ret;exact⟨rfl,hb⟩
theorem Z0a (r s d:Int)(w:World):Calls zq 185 #[.agg #[.int .i64 r,.int .i64 s,.int .i64 d]] w fun e w'=>e = .returned (.bool (Ys.valid ⟨r,s,d⟩))/\Below w.heap.size w w':=by
 have hb:=zB w (.cells #[.int .i64 r,.int .i64 s,.int .i64 d] 23);unfold Ys.valid;cases h1:Xx r 1 24
 ·go_enter Tryz.func185,Tryz.ntmps185;go_wp2_with fail;refine(Yt r 1 24 _).mono ?_;rintro e w' ⟨rfl,rfl⟩;rw[h1];go_wp2;go_ret;exact⟨rfl,hb⟩
 ·cases h2:Xx s 2 96
  ·go_enter Tryz.func185,Tryz.ntmps185;go_wp2_with fail;refine(Yt r 1 24 _).mono ?_;rintro e w' ⟨rfl,rfl⟩;rw[h1];go_wp2_with fail;refine(Yt s 2 96 _).mono ?_;rintro e w' ⟨rfl,rfl⟩;rw[h2];go_wp2;go_ret;exact⟨rfl,hb⟩
  ·go_enter Tryz.func185,Tryz.ntmps185;go_wp2_with fail;refine(Yt r 1 24 _).mono ?_;rintro e w' ⟨rfl,rfl⟩;rw[h1];go_wp2_with fail;refine(Yt s 2 96 _).mono ?_;rintro e w' ⟨rfl,rfl⟩;rw[h2];go_wp2_with fail;refine(Yt d 1 s _).mono ?_;rintro e w' ⟨rfl,rfl⟩;go_wp2;go_ret;exact⟨rfl,hb⟩
theorem Z2O (a b lo hi:Int)(w:World):Calls zq 235 #[.agg #[.int .i64 a,.int .i64 b],.int .i64 lo,.int .i64 hi] w fun e w'=>e = .returned (.bool (Jh a b lo hi))/\Below w.heap.size w w':=by
 have hb:=zB w (.cells #[.int .i64 a,.int .i64 b] 43);unfold Jh;cases h1:decide (lo<=a)
 ·go_enter Tryz.func235,Tryz.ntmps235;go_wp2;go_ret;exact⟨rfl,hb⟩
 ·cases h2:decide (a<=b)
  ·go_enter Tryz.func235,Tryz.ntmps235;go_wp2;go_ret;exact⟨rfl,hb⟩
  ·go_enter Tryz.func235,Tryz.ntmps235;go_wp2;go_ret;exact⟨rfl,hb⟩
section
attribute [local go_sem] ZS Xi
theorem ZA (n:NoteV)(sa:zA)(sc:Nat)(w:World):Calls zq 197 #[.agg (Z5 n sa sc)] w fun e w'=>e = .returned (.agg #[.int .i64 n.house,.int .i64 n.num])/\Below w.heap.size w w':=by
 have hb:=zB w (.cells (Z5 n sa sc) 47);go_enter Tryz.func197,Tryz.ntmps197;go_wp2_with fail;go_returns;exact⟨rfl,hb.alloc hb.size _⟩
end
theorem Z5N (r s d:Int)(a:zA)(n c:Nat)(l:List Int)(w:World)(hr:Xe w a n c l)(hs:2<=s/\s<=96)(hd:1<=d/\d<=s):
  Calls zq 236 #[.agg #[.int .i64 r,.int .i64 s,.int .i64 d],.slice a n c] w fun e w'=>e = .returned (.bool (Xc (s - d) l))/\Below w.heap.size w w':=by
 have hb:=zB w (.cells #[.int .i64 r,.int .i64 s,.int .i64 d] 23);have hm:=hr.maxn;have hl:=zH hr.len;have hr1:=hr.below hb;have HB:=zH hb;clear hb hr;have HF:Hid (¬XV (s - d) l->Xc (s - d) l=false):=fun h=>by simp[Xc,h]
 have HT:Hid (XV (s - d) l->Xc (s - d) l=Xx n 1 200):=fun h=>by simp[Xc,h,hl.out]
 have HWR:=zH (show IntKind.i64.wrap (s - d)=s - d by rw[IntKind.wrap_i64];omega);generalize Xc (s - d) l=R at *;go_enter Tryz.func236,Tryz.ntmps236;go_wp2_with fail;have hh:=heap_alloc_new w (.cells #[.int .i64 r,.int .i64 s,.int .i64 d] 23);generalize w.alloc (.cells #[.int .i64 r,.int .i64 s,.int .i64 d] 23)=W0 at *;generalize hp:w.heap.size=p0 at *;have HP:=zH hp;clear hp;have c1:W0.cell? ⟨p0,1,none⟩=some (.int .i64 s):=by simp only[World.cell?,hh];rfl
 have c2:W0.cell? ⟨p0,2,none⟩=some (.int .i64 d):=by simp only[World.cell?,hh];rfl
 have hz0:p0<=W0.heap.size:=Nat.le_of_lt (World.block_lt_of_cell? W0 _ c1);have C1:=zH c1;clear c1;have C2:=zH c2;clear c2 hh;go_loopw [5] (fun i wr=>∃(k:Nat),k<=n/\i = .int .i64 k/\Hid (Below W0.heap.size W0 wr)/\Hid (∀i,i < k->Xx (l[i]?.getD 0) 0 (s - d)=true/\(0 < i->l[i-1]?.getD 0<=l[i]?.getD 0))) (fun i _=>n - (intOf i).toNat)
 case atStart=>exact⟨0,Nat.zero_le _,rfl,zH (Below.refl _ _),zH (fun j hj=>by omega)⟩
 case round=>
  obtain⟨k,hk,rfl,hbw,HR⟩:=hrel;have HBw:=zH (HB.out.trans (hbw.out.mono hz0));have HZ:=hbw.out.size;by_cases hlt:k < n
  ·obtain⟨b,off,rfl,hc⟩:=(hr1.below hbw.out).at (by omega);have e1:=hc k hlt;have e2:0 < k->_:=fun h=>hc (k - 1) (by omega);have E2:=zH e2;clear e2;have hb0:b < wr.heap.size:=World.block_lt_of_cell? wr _ e1;have c1:=(hbw.out.cell (p:=⟨p0,1,none⟩) (World.block_lt_of_cell? W0 _ C1.out)).trans C1.out;have c2:=(hbw.out.cell (p:=⟨p0,2,none⟩) (World.block_lt_of_cell? W0 _ C2.out)).trans C2.out;have hp0:p0 < wr.heap.size:=World.block_lt_of_cell? wr _ c1;clear hc hr1;have hk64:(k:Int)<=9223372036854775807:=by omega
   generalize hx:l[k]?.getD 0=x at *;have HX:=zH hx;clear hx;cases hin:Xx x 0 (s - d)
   ·have hno : ¬XV (s - d) l:=fun h=>by
     have:=(h k (by rw[hl.out];exact hlt)).1;rw[HX.out,hin]at this;cases this
    have HN:=zH (HF.out hno);clear hno;have HI:=zH hin;clear hin;go_upto_region 4 with fail;refine wp_region_quiet (C:=fun w':World=>Below wr.heap.size wr w') (by kernel_rfl) (by kernel_rfl) (Below.refl _ _).drew ?_;show wpQuiet _ _ _ _ (_ :: _) _
    iterate 2 go_big_quiet_step (fail)
    refine zv b (off+k) ?_;refine zQ (.int .i64 x) (fun w0 hC=>?_) ?_
    ·have cc:=(hC.cell (p:=⟨b,off+k,none⟩) hb0).trans e1;clear hC;go_simp
    refine zv p0 1 ?_;refine zQ (.int .i64 s) (fun w0 hC=>?_) ?_
    ·have cc:=(hC.cell (p:=⟨p0,1,none⟩) hp0).trans c1;clear hC;go_simp
    refine zv p0 2 ?_;refine zQ (.int .i64 d) (fun w0 hC=>?_) ?_
    ·have cc:=(hC.cell (p:=⟨p0,2,none⟩) hp0).trans c2;clear hC;go_simp
    refine zQ (.int .i64 (s - d)) (fun w0 hC=>?_) ?_
    ·clear hC;have HW:=HWR.out;go_simp
    refine zQ (.bool false) (fun w0 hC=>?_) ?_
    ·go_simp;refine(Yt x 0 (s - d) _).mono ?_;rintro e w' ⟨rfl,rfl⟩;exact⟨by rw[HI.out],hC⟩
    refine zV (.bool true) ?_;go_big_quiet_step (fail)
    iterate 14 go_big_quiet_skip
    refine zV (.bool true) ?_;refine wpQuiet_nil ?_;intro w' hC;go_wp2;go_ret;rw[HN.out];exact⟨rfl,by rw[HP.out];exact HBw.out.trans (hC.mono (Nat.le_trans hz0 HZ))⟩
   ·have HI:=zH hin;clear hin;by_cases h0:0 < k
    ·have q0:decide ((0:Int) < (k:Int))=true:=by simp;exact h0
     have e2:=E2.out h0;have hb1:=hb0;have ek:((k:Int) - 1)=((k - 1:Nat):Int):=by omega
     have HW2:=zH (show IntKind.i64.wrap ((k - 1:Nat):Int)=((k - 1:Nat):Int)by rw[IntKind.wrap_i64];omega);have hk1:((k - 1:Nat):Int) < (n:Int):=by omega
     have hk2:(0:Int)<=((k - 1:Nat):Int):=by omega
     have hk3:k - 1 < n:=by omega
     generalize hy:l[k-1]?.getD 0=y at *;have HY:=zH hy;clear hy;by_cases h1:x < y
     ·have q1:decide (x < y)=true:=by simp;exact h1
      have hno : ¬XV (s - d) l:=fun h=>by
       have:=(h k (by rw[hl.out];exact hlt)).2 h0;rw[HX.out,HY.out]at this;omega
      have HN:=zH (HF.out hno);clear hno;go_upto_region 4 with fail;refine wp_region_quiet (C:=fun w':World=>Below wr.heap.size wr w') (by kernel_rfl) (by kernel_rfl) (Below.refl _ _).drew ?_;show wpQuiet _ _ _ _ (_ :: _) _
      iterate 2 go_big_quiet_step (fail)
      refine zv b (off+k) ?_;refine zQ (.int .i64 x) (fun w0 hC=>?_) ?_
      ·have cc:=(hC.cell (p:=⟨b,off+k,none⟩) hb0).trans e1;clear hC;go_simp
      refine zv p0 1 ?_;refine zQ (.int .i64 s) (fun w0 hC=>?_) ?_
      ·have cc:=(hC.cell (p:=⟨p0,1,none⟩) hp0).trans c1;clear hC;go_simp
      refine zv p0 2 ?_;refine zQ (.int .i64 d) (fun w0 hC=>?_) ?_
      ·have cc:=(hC.cell (p:=⟨p0,2,none⟩) hp0).trans c2;clear hC;go_simp
      refine zQ (.int .i64 (s - d)) (fun w0 hC=>?_) ?_
      ·clear hC;have HW:=HWR.out;go_simp
      refine zQ (.bool true) (fun w0 hC=>?_) ?_
      ·go_simp;refine(Yt x 0 (s - d) _).mono ?_;rintro e w' ⟨rfl,rfl⟩;exact⟨by rw[HI.out],hC⟩
      refine zV (.bool false) ?_
      iterate 2 go_big_quiet_step (fail)
      refine zV (.bool true) ?_
      iterate 3 go_big_quiet_step (fail)
      refine zv b (off+k) ?_;refine zQ (.int .i64 x) (fun w0 hC=>?_) ?_
      ·have cc:=(hC.cell (p:=⟨b,off+k,none⟩) hb0).trans e1;clear hC;go_simp
      iterate 2 go_big_quiet_step (fail)
      refine zQ (.int .i64 ((k - 1:Nat):Int)) (fun w0 hC=>?_) ?_
      ·clear hC;have HV:=HW2.out;go_simp
      refine zV (.pointer (some ⟨b,off+(k - 1),none⟩)) ?_;refine zQ (.int .i64 y) (fun w0 hC=>?_) ?_
      ·have cc:=(hC.cell (p:=⟨b,off+(k - 1),none⟩) hb1).trans e2;clear hC;go_simp
      refine zV (.bool true) ?_;refine zV (.bool true) ?_;refine zV (.bool true) ?_;refine wpQuiet_nil ?_;intro w' hC;go_wp2;go_ret;rw[HN.out];exact⟨rfl,by rw[HP.out];exact HBw.out.trans (hC.mono (Nat.le_trans hz0 HZ))⟩
     ·have q1:decide (x < y)=false:=by simp;omega
      have HG:=zH (show Xx x 0 (s - d)=true/\(0 < k->y<=x)from⟨HI.out,fun _=>by omega⟩);go_upto_region 4 with fail;refine wp_region_quiet (C:=fun w':World=>Below wr.heap.size wr w') (by kernel_rfl) (by kernel_rfl) (Below.refl _ _).drew ?_;show wpQuiet _ _ _ _ (_ :: _) _
      iterate 2 go_big_quiet_step (fail)
      refine zv b (off+k) ?_;refine zQ (.int .i64 x) (fun w0 hC=>?_) ?_
      ·have cc:=(hC.cell (p:=⟨b,off+k,none⟩) hb0).trans e1;clear hC;go_simp
      refine zv p0 1 ?_;refine zQ (.int .i64 s) (fun w0 hC=>?_) ?_
      ·have cc:=(hC.cell (p:=⟨p0,1,none⟩) hp0).trans c1;clear hC;go_simp
      refine zv p0 2 ?_;refine zQ (.int .i64 d) (fun w0 hC=>?_) ?_
      ·have cc:=(hC.cell (p:=⟨p0,2,none⟩) hp0).trans c2;clear hC;go_simp
      refine zQ (.int .i64 (s - d)) (fun w0 hC=>?_) ?_
      ·clear hC;have HW:=HWR.out;go_simp
      refine zQ (.bool true) (fun w0 hC=>?_) ?_
      ·go_simp;refine(Yt x 0 (s - d) _).mono ?_;rintro e w' ⟨rfl,rfl⟩;exact⟨by rw[HI.out],hC⟩
      refine zV (.bool false) ?_
      iterate 2 go_big_quiet_step (fail)
      refine zV (.bool true) ?_
      iterate 3 go_big_quiet_step (fail)
      refine zv b (off+k) ?_;refine zQ (.int .i64 x) (fun w0 hC=>?_) ?_
      ·have cc:=(hC.cell (p:=⟨b,off+k,none⟩) hb0).trans e1;clear hC;go_simp
      iterate 2 go_big_quiet_step (fail)
      refine zQ (.int .i64 ((k - 1:Nat):Int)) (fun w0 hC=>?_) ?_
      ·clear hC;have HV:=HW2.out;go_simp
      refine zV (.pointer (some ⟨b,off+(k - 1),none⟩)) ?_;refine zQ (.int .i64 y) (fun w0 hC=>?_) ?_
      ·have cc:=(hC.cell (p:=⟨b,off+(k - 1),none⟩) hb1).trans e2;clear hC;go_simp
      refine zV (.bool false) ?_;refine zV (.bool false) ?_;refine zV (.bool false) ?_;refine wpQuiet_nil ?_;intro w' hC;have HC:=zH (hbw.out.trans (hC.mono HZ));clear hC;go_wp2;go_roundw
      case rel=>exact⟨k+1,by omega,by go_num,HC,zH fun j hj=>by
       rcases Nat.lt_succ_iff_lt_or_eq.1 hj with h | h
       ·exact HR.out j h
       ·rw[h,HX.out,HY.out];exact HG.out⟩
      case measure=>simp[intOf];omega
    ·have q0:decide ((0:Int) < (k:Int))=false:=by simp;omega
     have HG:=zH (show Xx x 0 (s - d)=true/\(0 < k->l[k-1]?.getD 0<=x)from⟨HI.out,fun h=>absurd h h0⟩);go_upto_region 4 with fail;refine wp_region_quiet (C:=fun w':World=>Below wr.heap.size wr w') (by kernel_rfl) (by kernel_rfl) (Below.refl _ _).drew ?_;show wpQuiet _ _ _ _ (_ :: _) _
     iterate 2 go_big_quiet_step (fail)
     refine zv b (off+k) ?_;refine zQ (.int .i64 x) (fun w0 hC=>?_) ?_
     ·have cc:=(hC.cell (p:=⟨b,off+k,none⟩) hb0).trans e1;clear hC;go_simp
     refine zv p0 1 ?_;refine zQ (.int .i64 s) (fun w0 hC=>?_) ?_
     ·have cc:=(hC.cell (p:=⟨p0,1,none⟩) hp0).trans c1;clear hC;go_simp
     refine zv p0 2 ?_;refine zQ (.int .i64 d) (fun w0 hC=>?_) ?_
     ·have cc:=(hC.cell (p:=⟨p0,2,none⟩) hp0).trans c2;clear hC;go_simp
     refine zQ (.int .i64 (s - d)) (fun w0 hC=>?_) ?_
     ·clear hC;have HW:=HWR.out;go_simp
     refine zQ (.bool true) (fun w0 hC=>?_) ?_
     ·go_simp;refine(Yt x 0 (s - d) _).mono ?_;rintro e w' ⟨rfl,rfl⟩;exact⟨by rw[HI.out],hC⟩
     refine zV (.bool false) ?_
     iterate 2 go_big_quiet_step (fail)
     refine zV (.bool false) ?_;go_big_quiet_step (fail)
     iterate 10 go_big_quiet_skip
     refine zV (.bool false) ?_;refine zV (.bool false) ?_;refine wpQuiet_nil ?_;intro w' hC;have HC:=zH (hbw.out.trans (hC.mono HZ));clear hC;go_wp2;go_roundw
     case rel=>exact⟨k+1,by omega,by go_num,HC,zH fun j hj=>by
      rcases Nat.lt_succ_iff_lt_or_eq.1 hj with h | h
      ·exact HR.out j h
      ·rw[h,HX.out];exact HG.out⟩
     case measure=>simp[intOf];omega
  ·have hkn:k=n:=by omega
   subst hkn;have hyes:XV (s - d) l:=fun i hi=>HR.out i (by rw[hl.out]at hi;exact hi);have HY:=zH (HT.out hyes);clear hyes hr1;go_wp2_with fail;refine(Yt _ _ _ _).mono ?_;rintro e w' ⟨rfl,rfl⟩;go_wp2;go_ret;rw[HY.out];exact⟨rfl,by rw[HP.out];exact HBw.out⟩
def XZ (n:NoteV):NoteV := { n with house:=0,num:=0,clock:=0,day:=0,kind:=0,refH:=0,refN:=0,fix:=0 }
def ZV (k:Int)(n:NoteV):NoteV:=
 if k=1 then { XZ n with hardLo:=0,hardHi:=0 } else if k=2 then { XZ n with turns:=0 } else if k=3 then { XZ n with stone:=0,a:=0,b:=0,diffLo:=0,diffHi:=0 }
 else if k=4 then { XZ n with stone:=0,ring:=0,strokes:=[] } else XZ n
section
attribute [local go_sem] ZS Xi Jg Qz Jf Qy Qx Qw Ve Vd JY JX JG JE JD J5 Jj Ji Js Z4b Z4a Z49 Z48 Z47 Z46 Z45 Z44 Z43 Z42 Z2v Z2u Z2t Z2s Z2r Z2q Z2p Z2o Z2n
variable (n:NoteV)(sa:zA)(sc:Nat)(w:World)
theorem ZcW:Calls zq 212 #[.int .i64 1,.agg (Z5 n sa sc)] w fun e w'=>e = .returned (.agg (Z5 (ZV 1 n) sa sc))/\Below w.heap.size w w':=by
 have I43:=zH zI;have one1:=Zh n sa sc;have g1:=Z8 (w.alloc (.cells (Z5 n sa sc) 47)) (.cells (Z5 Zd none 0) 47) _ _ (Z9 w (.cells (Z5 n sa sc) 47));have G1:=zH g1;clear g1;go_enter Tryz.func212,Tryz.ntmps212;have one2:=Zh (ZV 1 n) sa sc;go_wp2_with (first
  |(refine zL w.heap.size G1.out ?_)
  |(refine ZM _ rfl 47 _ _ rfl (w.heap.size+1+1) ?hp _ (Z5 n sa sc) rfl rfl (I43.out _ _ _) rfl one1 ?_;case hp=>simp)
  |(refine wpList_load_row rfl 47 _ rfl (w.heap.size+1+1) rfl 47 (Z5 (ZV 1 n) sa sc) (0,0) _ ?hg Tryz.underlying47 rfl (I43.out _ _ _) ?_;case hg=>exact Zm _ _ _ (by simp))
  |(refine ZY rfl 47 _ _ rfl (w.heap.size+1) (Z5 Zd none 0) (Z5 (ZV 1 n) sa sc) 47 rfl rfl ?hg (I43.out _ _ _) rfl one2 ?_;case hg=>exact Z8 _ _ _ _ (Zm _ _ _ (by simp))))
 refine bodyPost_ret (results_cell_row rfl _ _ (w.heap.size+1) 47 (Z5 (ZV 1 n) sa sc) (0,0) _ rfl ?hg Tryz.underlying47 rfl (I43.out _ _ _)) rfl ?_
 case hg=>exact setRow_heap _ _ _ _ _ _ (Z8 _ _ _ _ (Zm _ _ _ (by simp)))
 refine⟨rfl,?_⟩;refine((zB w _).alloc (by simp) _).alloc (by simp;omega) _ |>.trans ⟨rfl,rfl,rfl,by simp,fun k hk=>setRow_other _ _ k _ (by omega)⟩
theorem ZcV:Calls zq 212 #[.int .i64 2,.agg (Z5 n sa sc)] w fun e w'=>e = .returned (.agg (Z5 (ZV 2 n) sa sc))/\Below w.heap.size w w':=by
 have I43:=zH zI;have one1:=Zh n sa sc;have g1:=Z8 (w.alloc (.cells (Z5 n sa sc) 47)) (.cells (Z5 Zd none 0) 47) _ _ (Z9 w (.cells (Z5 n sa sc) 47));have G1:=zH g1;clear g1;go_enter Tryz.func212,Tryz.ntmps212;have one2:=Zh (ZV 2 n) sa sc;go_wp2_with (first
  |(refine zL w.heap.size G1.out ?_)
  |(refine ZM _ rfl 47 _ _ rfl (w.heap.size+1+1) ?hp _ (Z5 n sa sc) rfl rfl (I43.out _ _ _) rfl one1 ?_;case hp=>simp)
  |(refine wpList_load_row rfl 47 _ rfl (w.heap.size+1+1) rfl 47 (Z5 (ZV 2 n) sa sc) (0,0) _ ?hg Tryz.underlying47 rfl (I43.out _ _ _) ?_;case hg=>exact Zm _ _ _ (by simp))
  |(refine ZY rfl 47 _ _ rfl (w.heap.size+1) (Z5 Zd none 0) (Z5 (ZV 2 n) sa sc) 47 rfl rfl ?hg (I43.out _ _ _) rfl one2 ?_;case hg=>exact Z8 _ _ _ _ (Zm _ _ _ (by simp))))
 refine bodyPost_ret (results_cell_row rfl _ _ (w.heap.size+1) 47 (Z5 (ZV 2 n) sa sc) (0,0) _ rfl ?hg Tryz.underlying47 rfl (I43.out _ _ _)) rfl ?_
 case hg=>exact setRow_heap _ _ _ _ _ _ (Z8 _ _ _ _ (Zm _ _ _ (by simp)))
 refine⟨rfl,?_⟩;refine((zB w _).alloc (by simp) _).alloc (by simp;omega) _ |>.trans ⟨rfl,rfl,rfl,by simp,fun k hk=>setRow_other _ _ k _ (by omega)⟩
theorem ZcU:Calls zq 212 #[.int .i64 3,.agg (Z5 n sa sc)] w fun e w'=>e = .returned (.agg (Z5 (ZV 3 n) sa sc))/\Below w.heap.size w w':=by
 have I43:=zH zI;have one1:=Zh n sa sc;have g1:=Z8 (w.alloc (.cells (Z5 n sa sc) 47)) (.cells (Z5 Zd none 0) 47) _ _ (Z9 w (.cells (Z5 n sa sc) 47));have G1:=zH g1;clear g1;go_enter Tryz.func212,Tryz.ntmps212;have one2:=Zh (ZV 3 n) sa sc;go_wp2_with (first
  |(refine zL w.heap.size G1.out ?_)
  |(refine ZM _ rfl 47 _ _ rfl (w.heap.size+1+1) ?hp _ (Z5 n sa sc) rfl rfl (I43.out _ _ _) rfl one1 ?_;case hp=>simp)
  |(refine wpList_load_row rfl 47 _ rfl (w.heap.size+1+1) rfl 47 (Z5 (ZV 3 n) sa sc) (0,0) _ ?hg Tryz.underlying47 rfl (I43.out _ _ _) ?_;case hg=>exact Zm _ _ _ (by simp))
  |(refine ZY rfl 47 _ _ rfl (w.heap.size+1) (Z5 Zd none 0) (Z5 (ZV 3 n) sa sc) 47 rfl rfl ?hg (I43.out _ _ _) rfl one2 ?_;case hg=>exact Z8 _ _ _ _ (Zm _ _ _ (by simp))))
 refine bodyPost_ret (results_cell_row rfl _ _ (w.heap.size+1) 47 (Z5 (ZV 3 n) sa sc) (0,0) _ rfl ?hg Tryz.underlying47 rfl (I43.out _ _ _)) rfl ?_
 case hg=>exact setRow_heap _ _ _ _ _ _ (Z8 _ _ _ _ (Zm _ _ _ (by simp)))
 refine⟨rfl,?_⟩;refine((zB w _).alloc (by simp) _).alloc (by simp;omega) _ |>.trans ⟨rfl,rfl,rfl,by simp,fun k hk=>setRow_other _ _ k _ (by omega)⟩
theorem ZcT:Calls zq 212 #[.int .i64 4,.agg (Z5 n sa sc)] w fun e w'=>e = .returned (.agg (Z5 (ZV 4 n) none 0))/\Below w.heap.size w w':=by
 have I43:=zH zI;have one1:=Zh n sa sc;have g1:=Z8 (w.alloc (.cells (Z5 n sa sc) 47)) (.cells (Z5 Zd none 0) 47) _ _ (Z9 w (.cells (Z5 n sa sc) 47));have G1:=zH g1;clear g1;go_enter Tryz.func212,Tryz.ntmps212;have one2:=Zh (ZV 4 n) none 0;go_wp2_with (first
  |(refine zL w.heap.size G1.out ?_)
  |(refine ZM _ rfl 47 _ _ rfl (w.heap.size+1+1) ?hp _ (Z5 n sa sc) rfl rfl (I43.out _ _ _) rfl one1 ?_;case hp=>simp)
  |(refine wpList_load_row rfl 47 _ rfl (w.heap.size+1+1) rfl 47 (Z5 (ZV 4 n) none 0) (0,0) _ ?hg Tryz.underlying47 rfl (I43.out _ _ _) ?_;case hg=>exact Zm _ _ _ (by simp))
  |(refine ZY rfl 47 _ _ rfl (w.heap.size+1) (Z5 Zd none 0) (Z5 (ZV 4 n) none 0) 47 rfl rfl ?hg (I43.out _ _ _) rfl one2 ?_;case hg=>exact Z8 _ _ _ _ (Zm _ _ _ (by simp))))
 refine bodyPost_ret (results_cell_row rfl _ _ (w.heap.size+1) 47 (Z5 (ZV 4 n) none 0) (0,0) _ rfl ?hg Tryz.underlying47 rfl (I43.out _ _ _)) rfl ?_
 case hg=>exact setRow_heap _ _ _ _ _ _ (Z8 _ _ _ _ (Zm _ _ _ (by simp)))
 refine⟨rfl,?_⟩;refine((zB w _).alloc (by simp) _).alloc (by simp;omega) _ |>.trans ⟨rfl,rfl,rfl,by simp,fun k hk=>setRow_other _ _ k _ (by omega)⟩
theorem ZcS (k:Int)(hk : ¬(1<=k/\k<=4)):Calls zq 212 #[.int .i64 k,.agg (Z5 n sa sc)] w fun e w'=>e = .returned (.agg (Z5 (XZ n) sa sc))/\Below w.heap.size w w':=by
 have I43:=zH zI;have q1:(k==1)=false:=by simp;omega
 have r1:decide (k=1)=false:=by simp;omega
 have q2:(k==2)=false:=by simp;omega
 have r2:decide (k=2)=false:=by simp;omega
 have q3:(k==3)=false:=by simp;omega
 have r3:decide (k=3)=false:=by simp;omega
 have q4:(k==4)=false:=by simp;omega
 have r4:decide (k=4)=false:=by simp;omega
 clear hk;have one1:=Zh n sa sc;have g1:=Z8 (w.alloc (.cells (Z5 n sa sc) 47)) (.cells (Z5 Zd none 0) 47) _ _ (Z9 w (.cells (Z5 n sa sc) 47));have G1:=zH g1;clear g1;go_enter Tryz.func212,Tryz.ntmps212;have one2:=Zh (XZ n) sa sc;go_wp2_with (first
  |(refine zL w.heap.size G1.out ?_)
  |(refine ZM _ rfl 47 _ _ rfl (w.heap.size+1+1) ?hp _ (Z5 n sa sc) rfl rfl (I43.out _ _ _) rfl one1 ?_;case hp=>simp)
  |(refine wpList_load_row rfl 47 _ rfl (w.heap.size+1+1) rfl 47 (Z5 (XZ n) sa sc) (0,0) _ ?hg Tryz.underlying47 rfl (I43.out _ _ _) ?_;case hg=>exact Zm _ _ _ (by simp))
  |(refine ZY rfl 47 _ _ rfl (w.heap.size+1) (Z5 Zd none 0) (Z5 (XZ n) sa sc) 47 rfl rfl ?hg (I43.out _ _ _) rfl one2 ?_;case hg=>exact Z8 _ _ _ _ (Zm _ _ _ (by simp))))
 refine bodyPost_ret (results_cell_row rfl _ _ (w.heap.size+1) 47 (Z5 (XZ n) sa sc) (0,0) _ rfl ?hg Tryz.underlying47 rfl (I43.out _ _ _)) rfl ?_
 case hg=>exact setRow_heap _ _ _ _ _ _ (Z8 _ _ _ _ (Zm _ _ _ (by simp)))
 refine⟨rfl,?_⟩;refine((zB w _).alloc (by simp) _).alloc (by simp;omega) _ |>.trans ⟨rfl,rfl,rfl,by simp,fun k hk=>setRow_other _ _ k _ (by omega)⟩
end
def ZO (f:Ys)(k:Int)(n:NoteV):Bool:=
 if k=1 then Jh n.hardLo n.hardHi 1 255 else if k=2 then Xx n.turns 1 10000
 else if k=3 then Xx n.stone 0 1 && (Xx n.a 0 (f.rings * f.sectors - 1) && (Xx n.b (-1) (f.rings * f.sectors - 1) && (decide (n.a≠n.b) && Jh n.diffLo n.diffHi (-1000000000) 1000000000)))
 else if k=4 then Xx n.stone 0 1 && (Xx n.ring 0 (f.rings - 1) && Xc (f.sectors - f.wide) n.strokes)
 else false
section
attribute [local go_sem] ZS Xi Jg Qz Jf Qy Qx Qw Ve Vd JY JX JG JE JD J5 Jj Ji Js
variable (f:Ys)(n:NoteV)(sa:zA)(sc:Nat)(w:World)
theorem ZbU (hv:f.valid=true):Calls zq 213 #[f.val,.int .i64 1,.agg (Z5 n sa sc)] w fun e w'=>e = .returned (.bool (ZO f 1 n))/\Below w.heap.size w w':=by
 have hvf:1<=f.rings/\f.rings<=24/\2<=f.sectors/\f.sectors<=96/\1<=f.wide/\f.wide<=f.sectors:=by
  simp only[Ys.valid,Bool.and_eq_true,Ya]at hv;omega
 have hm1:0<=f.rings * f.sectors:=Int.mul_nonneg (by omega) (by omega);have hm2:f.rings * f.sectors<=24 * 96:=Int.mul_le_mul hvf.2.1 hvf.2.2.2.1 (by omega) (by omega);have VF:=zH hvf;clear hvf hv;have hb:Below w.heap.size w ((w.alloc (zF f 23)).alloc (.cells (Z5 n sa sc) 47)):=(zB _ _).alloc (by simp) _;have HB:=zH hb;clear hb;unfold Ys.val;go_enter Tryz.func213,Tryz.ntmps213;go_wp2_with fail;refine(Z2O n.hardLo n.hardHi 1 255 _).mono ?_;rintro e w3 ⟨rfl,b3⟩;have B3:=zH (HB.out.trans (b3.mono HB.out.size));go_wp2;go_ret;exact⟨rfl,B3.out⟩
theorem ZbT (hv:f.valid=true):Calls zq 213 #[f.val,.int .i64 2,.agg (Z5 n sa sc)] w fun e w'=>e = .returned (.bool (ZO f 2 n))/\Below w.heap.size w w':=by
 have hvf:1<=f.rings/\f.rings<=24/\2<=f.sectors/\f.sectors<=96/\1<=f.wide/\f.wide<=f.sectors:=by
  simp only[Ys.valid,Bool.and_eq_true,Ya]at hv;omega
 have hm1:0<=f.rings * f.sectors:=Int.mul_nonneg (by omega) (by omega);have hm2:f.rings * f.sectors<=24 * 96:=Int.mul_le_mul hvf.2.1 hvf.2.2.2.1 (by omega) (by omega);have VF:=zH hvf;clear hvf hv;have hb:Below w.heap.size w ((w.alloc (zF f 23)).alloc (.cells (Z5 n sa sc) 47)):=(zB _ _).alloc (by simp) _;have HB:=zH hb;clear hb;unfold Ys.val;go_enter Tryz.func213,Tryz.ntmps213;go_wp2_with fail;refine(Yt n.turns 1 10000 _).mono ?_;rintro e w3 ⟨rfl,rfl⟩;go_wp2;go_ret;exact⟨rfl,HB.out⟩
theorem ZbR (hv:f.valid=true)(hs:Xe w sa n.strokes.length sc n.strokes):Calls zq 213 #[f.val,.int .i64 4,.agg (Z5 n sa sc)] w fun e w'=>e = .returned (.bool (ZO f 4 n))/\Below w.heap.size w w':=by
 have hvf:1<=f.rings/\f.rings<=24/\2<=f.sectors/\f.sectors<=96/\1<=f.wide/\f.wide<=f.sectors:=by
  simp only[Ys.valid,Bool.and_eq_true,Ya]at hv;omega
 have hm1:0<=f.rings * f.sectors:=Int.mul_nonneg (by omega) (by omega);have hm2:f.rings * f.sectors<=24 * 96:=Int.mul_le_mul hvf.2.1 hvf.2.2.2.1 (by omega) (by omega);have VF:=zH hvf;clear hvf hv;have v1:f.rings<=24:=VF.out.2.1;have v0:1<=f.rings:=VF.out.1;have hb:Below w.heap.size w ((w.alloc (zF f 23)).alloc (.cells (Z5 n sa sc) 47)):=(zB _ _).alloc (by simp) _;have HB:=zH hb;clear hb;unfold Ys.val;go_enter Tryz.func213,Tryz.ntmps213;go_wp2_with fail;refine(Yt n.stone 0 1 _).mono ?_;rintro e w3 ⟨rfl,rfl⟩;cases h1:Xx n.stone 0 1
 ·have hR:ZO f 4 n=false:=by simp only[ZO];simp[h1]
  have HRX:=zH hR;clear hR;go_wp2;go_ret;rw[HRX.out];exact⟨rfl,HB.out⟩
 ·have Hh1:=zH h1;go_wp2_with fail;refine(Yt n.ring 0 (f.rings - 1) _).mono ?_;rintro e w3 ⟨rfl,rfl⟩;cases h2:Xx n.ring 0 (f.rings - 1)
  ·have hR:ZO f 4 n=false:=by simp only[ZO];simp[h1,h2]
   have HRX:=zH hR;clear hR;go_wp2;go_ret;rw[HRX.out];exact⟨rfl,HB.out⟩
  ·have Hh2:=zH h2;go_wp2_with fail;refine(Z5N f.rings f.sectors f.wide sa _ sc n.strokes _ (hs.below HB.out) ⟨VF.out.2.2.1,VF.out.2.2.2.1⟩ ⟨VF.out.2.2.2.2.1,VF.out.2.2.2.2.2⟩).mono ?_;rintro e w4 ⟨rfl,b3⟩;have B3:=zH (HB.out.trans (b3.mono HB.out.size));have hR:ZO f 4 n=Xc (f.sectors - f.wide) n.strokes:=by simp only[ZO];simp[h1,h2]
   have HRX:=zH hR;clear hR;go_wp2;go_ret;rw[HRX.out];exact⟨rfl,B3.out⟩
theorem ZbS (hv:f.valid=true):Calls zq 213 #[f.val,.int .i64 3,.agg (Z5 n sa sc)] w fun e w'=>e = .returned (.bool (ZO f 3 n))/\Below w.heap.size w w':=by
 have hvf:1<=f.rings/\f.rings<=24/\2<=f.sectors/\f.sectors<=96/\1<=f.wide/\f.wide<=f.sectors:=by
  simp only[Ys.valid,Bool.and_eq_true,Ya]at hv;omega
 have hm1:0<=f.rings * f.sectors:=Int.mul_nonneg (by omega) (by omega);have hm2:f.rings * f.sectors<=24 * 96:=Int.mul_le_mul hvf.2.1 hvf.2.2.2.1 (by omega) (by omega);have VF:=zH hvf;clear hvf hv;have hb:Below w.heap.size w ((w.alloc (zF f 23)).alloc (.cells (Z5 n sa sc) 47)):=(zB _ _).alloc (by simp) _;have HB:=zH hb;clear hb;unfold Ys.val;go_enter Tryz.func213,Tryz.ntmps213;go_wp2_with fail;refine(Yt n.stone 0 1 _).mono ?_;rintro e w3 ⟨rfl,rfl⟩;cases h1:Xx n.stone 0 1
 ·have hR:ZO f 3 n=false:=by simp only[ZO];simp[h1]
  have HRX:=zH hR;clear hR;go_wp2;go_ret;rw[HRX.out];exact⟨rfl,HB.out⟩
 ·have Hh1:=zH h1;go_wp2_with fail;refine(Yt n.a 0 (f.rings * f.sectors - 1) _).mono ?_;rintro e w3 ⟨rfl,rfl⟩;cases h2:Xx n.a 0 (f.rings * f.sectors - 1)
  ·have hR:ZO f 3 n=false:=by simp only[ZO];simp[h1,h2]
   have HRX:=zH hR;clear hR;go_wp2;go_ret;rw[HRX.out];exact⟨rfl,HB.out⟩
  ·have Hh2:=zH h2;go_wp2_with fail;refine(Yt n.b (-1) (f.rings * f.sectors - 1) _).mono ?_;rintro e w3 ⟨rfl,rfl⟩;cases h3:Xx n.b (-1) (f.rings * f.sectors - 1)
   ·have hR:ZO f 3 n=false:=by simp only[ZO];simp[h1,h2,h3]
    have HRX:=zH hR;clear hR;go_wp2;go_ret;rw[HRX.out];exact⟨rfl,HB.out⟩
   ·have Hh3:=zH h3;by_cases hne:n.a=n.b
    ·have q2:(n.a != n.b)=false:=by simp[hne]
     have q2':decide (n.a=n.b)=true:=by simp[hne]
     have HNE:=zH hne;clear hne;have hR:ZO f 3 n=false:=by simp only[ZO];simp[h1,h2,h3,HNE.out]
     have HRX:=zH hR;clear hR;go_wp2;go_ret;rw[HRX.out];exact⟨rfl,HB.out⟩
    ·have q2:(n.a != n.b)=true:=by simp[hne]
     have q2':decide (n.a=n.b)=false:=by simp[hne]
     have HNE:=zH hne;clear hne;go_wp2_with fail;refine(Z2O n.diffLo n.diffHi (-1000000000) 1000000000 _).mono ?_;rintro e w4 ⟨rfl,b3⟩;have B3:=zH (HB.out.trans (b3.mono HB.out.size));have hR:ZO f 3 n=Jh n.diffLo n.diffHi (-1000000000) 1000000000:=by simp only[ZO];simp[h1,h2,h3,HNE.out]
     have HRX:=zH hR;clear hR;go_wp2;go_ret;rw[HRX.out];exact⟨rfl,B3.out⟩
theorem ZbQ (k:Int)(hk : ¬(1<=k/\k<=4))(hv:f.valid=true):Calls zq 213 #[f.val,.int .i64 k,.agg (Z5 n sa sc)] w fun e w'=>e = .returned (.bool (ZO f k n))/\Below w.heap.size w w':=by
 have hvf:1<=f.rings/\f.rings<=24/\2<=f.sectors/\f.sectors<=96/\1<=f.wide/\f.wide<=f.sectors:=by
  simp only[Ys.valid,Bool.and_eq_true,Ya]at hv;omega
 have hm1:0<=f.rings * f.sectors:=Int.mul_nonneg (by omega) (by omega);have hm2:f.rings * f.sectors<=24 * 96:=Int.mul_le_mul hvf.2.1 hvf.2.2.2.1 (by omega) (by omega);have VF:=zH hvf;clear hvf hv;have hb:Below w.heap.size w ((w.alloc (zF f 23)).alloc (.cells (Z5 n sa sc) 47)):=(zB _ _).alloc (by simp) _;have HB:=zH hb;clear hb;have q1:(k==1)=false:=by simp;omega
 have r1:decide (k=1)=false:=by simp;omega
 have q2:(k==2)=false:=by simp;omega
 have r2:decide (k=2)=false:=by simp;omega
 have q3:(k==3)=false:=by simp;omega
 have r3:decide (k=3)=false:=by simp;omega
 have q4:(k==4)=false:=by simp;omega
 have r4:decide (k=4)=false:=by simp;omega
 have hR:ZO f k n=false:=by
  unfold ZO;rw[if_neg (by omega),if_neg (by omega),if_neg (by omega),if_neg (by omega)]
 have HRX:=zH hR;clear hR hk;unfold Ys.val;go_enter Tryz.func213,Tryz.ntmps213;go_wp2;go_ret;rw[HRX.out];exact⟨rfl,HB.out⟩
end
theorem UK (f:Ys)(n:NoteV)(sa:zA)(sc:Nat)(w:World)(hv:f.valid=true)(hs:Xe w sa n.strokes.length sc n.strokes)(k:Int):
  Calls zq 213 #[f.val,.int .i64 k,.agg (Z5 n sa sc)] w fun e w'=>e = .returned (.bool (ZO f k n))/\Below w.heap.size w w':=by
 by_cases hk:1<=k/\k<=4
 ·have hk':k=1\/k=2\/k=3\/k=4:=by omega
  rcases hk' with rfl | rfl | rfl | rfl
  ·exact ZbU f n sa sc w hv
  ·exact ZbT f n sa sc w hv
  ·exact ZbS f n sa sc w hv
  ·exact ZbR f n sa sc w hv hs
 ·exact ZbQ f n sa sc w k hk hv
theorem Z7J {k:Int}(hk : ¬(1<=k/\k<=4))(n:NoteV):ZV k n=XZ n:=by
 unfold ZV;rw[if_neg (by omega),if_neg (by omega),if_neg (by omega),if_neg (by omega)]
theorem Uc (n:NoteV)(sa:zA)(sc:Nat)(w:World)(hs:Xe w sa n.strokes.length sc n.strokes)(k:Int):
  Calls zq 212 #[.int .i64 k,.agg (Z5 n sa sc)] w fun e w' => ∃ta tc,e = .returned (.agg (Z5 (ZV k n) ta tc))/\Xe w' ta (ZV k n).strokes.length tc (ZV k n).strokes/\Below w.heap.size w w':=by
 by_cases hk:1<=k/\k<=4
 ·have hk':k=1\/k=2\/k=3\/k=4:=by omega
  rcases hk' with rfl | rfl | rfl | rfl
  ·refine(ZcW n sa sc w).mono ?_;rintro e w' ⟨rfl,hb⟩;exact⟨sa,sc,rfl,hs.below hb,hb⟩
  ·refine(ZcV n sa sc w).mono ?_;rintro e w' ⟨rfl,hb⟩;exact⟨sa,sc,rfl,hs.below hb,hb⟩
  ·refine(ZcU n sa sc w).mono ?_;rintro e w' ⟨rfl,hb⟩;exact⟨sa,sc,rfl,hs.below hb,hb⟩
  ·refine(ZcT n sa sc w).mono ?_;rintro e w' ⟨rfl,hb⟩;exact⟨none,0,rfl,ZX.nil w' 1,hb⟩
 ·refine(ZcS n sa sc w k hk).mono ?_;rintro e w' ⟨rfl,hb⟩;rw[Z7J hk];exact⟨sa,sc,rfl,hs.below hb,hb⟩
def Yu (n:NoteV):Bool:=decide (n.kind=2) ||(decide (n.kind=5) || decide (n.kind=6))
def Y4 (n:NoteV):Bool := !decide (n.refH=0/\n.refN=0)
def Zz (f:Ys)(n:NoteV):Bool:=
 Zy n.house n.num && (Xx n.clock 1 1099511627776 && (Xx n.day 0 99999 && (!(Yu n != Y4 n) && (!(Yu n && !Zy n.refH n.refN) &&
 (if n.kind=6 then decide (n.fix=0) && Yv (ZV 0 n) Zd else if n.kind=5 then ZO f n.fix n && Yv (ZV n.fix n) Zd
  else decide (n.fix=0) && (ZO f n.kind n && Yv (ZV n.kind n) Zd))))))
theorem Zcc {f:Ys}(hv:f.valid=true)(x:Int):(decide (x = -1) || Z05 f x)=Xx x (-1) (f.rings * f.sectors - 1):=by
 have hvf:1<=f.rings/\f.rings<=24/\2<=f.sectors/\f.sectors<=96/\1<=f.wide/\f.wide<=f.sectors:=by
  simp only[Ys.valid,Bool.and_eq_true,Ya]at hv;omega
 have hm1:0 < f.rings * f.sectors:=Int.mul_pos (by omega) (by omega);rw[Bool.eq_iff_iff];simp only[Bool.or_eq_true,decide_eq_true_eq,Z05,Ya];omega
theorem Vm (x:NoteV):Yv x Zd=decide (x.house=0/\x.num=0/\x.clock=0/\x.day=0/\x.kind=0/\x.stone=0/\x.heap=0/\x.turns=0/\x.hardLo=0/\x.hardHi=0/\x.diffLo=0/\x.diffHi=0/\x.a=0/\x.b=0/\x.ring=0/\x.refH=0/\x.refN=0/\x.fix=0/\x.strokes=[]):=by
 obtain⟨x0,x1,x2,x3,x4,x5,x6,x7,x8,x9,x10,x11,x12,x13,x14,x15,x16,x17,l⟩:=x;simp only[Yv,QW,Zd];grind
theorem Z3R {h m:Int}(e:Zy h m=true): ¬(h=0/\m=0):=by
 simp only[Zy,Bool.and_eq_true,Ya]at e;omega
theorem Vh {f:Ys}(hv:f.valid=true)(n:NoteV):Zf f n=Zz f n:=by
 have hc:=Zcc hv;have ha:Z05 f n.a=Xx n.a 0 (f.rings * f.sectors - 1):=rfl;simp only[Zf,Zz,okB,Vm];have hn := @Z3R n.refH n.refN;by_cases h1:n.kind=1
 ·simp[h1,QM,UN,Zo,ZV,XZ,Yi,ZO,Yu,Y4];grind
 by_cases h2:n.kind=2
 ·simp[h2,QM,UN,Zo,ZV,XZ,Yi,ZO,Yu,Y4];grind
 by_cases h3:n.kind=3
 ·simp[h3,QM,UN,Zo,ZV,XZ,Yi,ZO,Yu,Y4,<-hc];grind
 by_cases h4:n.kind=4
 ·simp[h4,QM,UN,Zo,ZV,XZ,Yi,ZO,Yu,Y4];grind
 by_cases h6:n.kind=6
 ·simp[h6,QM,UN,Zo,ZV,XZ,Yi,ZO,Yu,Y4];grind
 by_cases h5:n.kind=5
 ·by_cases g1:n.fix=1
  ·simp[h5,g1,QM,UN,Zo,ZV,XZ,Yi,ZO,Yu,Y4,Xx];grind
  by_cases g2:n.fix=2
  ·simp[h5,g2,QM,UN,Zo,ZV,XZ,Yi,ZO,Yu,Y4,Xx];grind
  by_cases g3:n.fix=3
  ·simp[h5,g3,QM,UN,Zo,ZV,XZ,Yi,ZO,Yu,Y4,<-hc,show Xx 3 1 4=true from rfl];grind
  by_cases g4:n.fix=4
  ·simp[h5,g4,QM,UN,Zo,ZV,XZ,Yi,ZO,Yu,Y4,Xx];grind
  have hf:Xx n.fix 1 4=false:=by rw[<-Bool.not_eq_true,Ya];omega
  simp[h5,g1,g2,g3,g4,ZO,hf]
 simp[h1,h2,h3,h4,h5,h6,Yi,ZO]
def zZ (u:Nat):zU:=if u < 128 then [UInt8.ofNat u]else UInt8.ofNat (u % 128+128) :: zZ (u / 128)
termination_by u
decreasing_by omega
theorem zy {u:Nat}(h:u < 128):zZ u=[UInt8.ofNat u]:=by rw[zZ,if_pos h]
theorem zO {u:Nat}(h:128<=u):zZ u=UInt8.ofNat (u % 128+128) :: zZ (u / 128):=by rw[zZ,if_neg (by omega)]
def zig (z:Int):Nat:=if 0<=z then (2 * z).toNat else (-2 * z - 1).toNat
def zag (u:Nat):Int:=if u % 2=0 then (u / 2:Nat)else -((u / 2:Nat):Int) - 1
theorem Z8U (z:Int):zag (zig z)=z:=by
 unfold zig zag;split <;> split <;> omega
theorem Z8S (u:Nat):zig (zag u)=u:=by
 unfold zig zag;split <;> split <;> omega
def Vq (i u:Nat):zU->Option (Nat×zU)
 | []=>none
 | c :: t=>if i=9/\1 < c.toNat\/0 < i/\c.toNat=0 then none else if c.toNat < 128 then some (u+c.toNat % 128 * 128 ^ i,t)else Vq (i+1) (u+c.toNat % 128 * 128 ^ i) t
def Z0U (i u:Nat):zU->Option (Nat×zU)
 | []=>none
 | c :: t=>if 9<=i then none else if c.toNat < 128 then some (u+c.toNat % 128 * 128 ^ i,t)else Z0U (i+1) (u+c.toNat % 128 * 128 ^ i) t
theorem Z5A (c:UInt8):UInt8.ofNat c.toNat=c:=by simp
theorem Z7w: ∀(l:zU) (i u v:Nat) (t:zU),i<=9->Vq i u l=some (v,t) -> ∃m,l=zZ m ++ t/\v=u+m * 128 ^ i/\(0 < i->m≠0)
 | [],i,u,v,t,_,h=>by simp[Vq]at h
 | c :: l,i,u,v,t,hi,h=>by
  rw[Vq]at h
  split at h
  ·cases h
  ·rename_i h0
   split at h
   ·rename_i h1
    simp only[Option.some.injEq,Prod.mk.injEq]at h
    obtain⟨h,rfl⟩:=h
    refine⟨c.toNat,?_,?_,fun hh=>by omega⟩
    ·rw[zy h1,Z5A];rfl
    ·rw[<-h,Nat.mod_eq_of_lt h1]
   ·rename_i h1
    have hc:=c.toNat_lt
    by_cases h9:i=9
    ·omega
    obtain⟨m,e1,e2,e3⟩:=Z7w l (i+1) _ v t (by omega) h
    have hm:=e3 (by omega)
    refine⟨c.toNat % 128+128 * m,?_,?_,fun _=>by omega⟩
    ·rw[zO (by omega),show(c.toNat % 128+128 * m) % 128+128=c.toNat by omega,show(c.toNat % 128+128 * m) / 128=m by omega,Z5A,e1]
     rfl
    ·rw[e2,Nat.pow_succ,Nat.add_mul,Nat.add_assoc,Nat.mul_comm 128 m,Nat.mul_assoc,Nat.mul_comm (128 ^ i) 128]
theorem JV {n:Nat}(h:n < 256):(UInt8.ofNat n).toNat=n:=by
 simp only[UInt8.toNat_ofNat'];omega
theorem Z7v (m:Nat): ∀(i u:Nat) (t:zU),i<=9->(0 < i->m≠0)->m * 128 ^ i < 2 ^ 64->Vq i u (zZ m ++ t)=some (u+m * 128 ^ i,t):=by
 induction m using Nat.strongRecOn with
 | ind m ih=>
  intro i u t hi h0 hm;have h9:i=9->m<=1:=fun h=>by subst h;omega
  by_cases h:m < 128
  ·rw[zy h,List.singleton_append,Vq,JV (by omega),if_neg (by omega),if_pos h,Nat.mod_eq_of_lt h]
  ·rw[zO (by omega),List.cons_append,Vq,JV (by omega),if_neg (by omega),if_neg (by omega),show(m % 128+128) % 128=m % 128 by omega];have e:m / 128 * 128 ^ (i+1)+m % 128 * 128 ^ i=m * 128 ^ i:=by
    rw[Nat.pow_succ,<-Nat.mul_assoc,Nat.mul_comm _ 128,<-Nat.mul_assoc,<-Nat.add_mul];congr 1;omega
   rw[ih (m / 128) (by omega) (i+1) _ t (by omega) (fun _=>by omega) (by omega),<-e];simp only[Option.some.injEq,Prod.mk.injEq,and_true];omega
theorem Z7y (m:Nat): ∀(i u:Nat) (t:zU),i<=8->m * 128 ^ i < 2 ^ 63->Z0U i u (zZ m ++ t)=some (u+m * 128 ^ i,t):=by
 induction m using Nat.strongRecOn with
 | ind m ih=>
  intro i u t hi hm;by_cases h:m < 128
  ·rw[zy h,List.singleton_append,Z0U,JV (by omega),if_neg (by omega),if_pos h,Nat.mod_eq_of_lt h]
  ·have h8:i≠8:=fun h=>by subst h;omega
   rw[zO (by omega),List.cons_append,Z0U,JV (by omega),if_neg (by omega),if_neg (by omega),show(m % 128+128) % 128=m % 128 by omega];have e:m / 128 * 128 ^ (i+1)+m % 128 * 128 ^ i=m * 128 ^ i:=by
    rw[Nat.pow_succ,<-Nat.mul_assoc,Nat.mul_comm _ 128,<-Nat.mul_assoc,<-Nat.add_mul];congr 1;omega
   rw[ih (m / 128) (by omega) (i+1) _ t (by omega) (by omega),<-e];simp only[Option.some.injEq,Prod.mk.injEq,and_true];omega
def far:Int:=4611686018427387904
def Xb (z:Int):Prop := -far<=z/\z < far
theorem Z28 {z:Int}: zig z < 2 ^ 63↔Xb z:=by
 unfold zig Xb far;split <;> omega
def XY (z:Int):zU:=zZ (zig z)
def ZK (l:List Int):zU:=l.flatMap XY
def Xt (l:zU):Option (Int×zU):=match Vq 0 0 l with
 | some (u,t)=>if u < 2 ^ 63 then some (zag u,t)else none
 | none=>none
def Je (l:zU):Option (Int×zU):=match Z0U 0 0 l with
 | some (u,t)=>some (zag u,t)
 | none=>none
theorem Z6Z {l t:zU}{z:Int}(h:Xt l=some (z,t)):l=XY z ++ t/\Xb z:=by
 unfold Xt at h;split at h
 ·rename_i u t' e;split at h
  ·rename_i hu;simp only[Option.some.injEq,Prod.mk.injEq]at h;obtain⟨rfl,rfl⟩:=h;obtain⟨m,e1,e2,_⟩:=Z7w l 0 0 u t' (by omega) e;simp only[Nat.pow_zero,Nat.mul_one,Nat.zero_add]at e2;subst e2;exact⟨by rw[XY,Z8S];exact e1,by rw[<-Z28,Z8S];exact hu⟩
  ·cases h
 ·cases h
theorem Z6Y {z:Int}(hz:Xb z)(t:zU):Xt (XY z ++ t)=some (z,t):=by
 have h:=Z28.2 hz;unfold Xt XY;rw[Z7v (zig z) 0 0 t (by omega) (by omega) (by omega)];simp only[Nat.pow_zero,Nat.mul_one,Nat.zero_add,Z8U,if_pos h]
theorem Z31 {z:Int}(hz:Xb z)(t:zU):Je (XY z ++ t)=some (z,t):=by
 have h:=Z28.2 hz;unfold Je XY;rw[Z7y (zig z) 0 0 t (by omega) (by omega)];simp only[Nat.pow_zero,Nat.mul_one,Nat.zero_add,Z8U]
def XI (f:zU->Option (Int×zU)):Nat->zU->Option (List Int×zU)
 | 0,l=>some ([],l)
 | k+1,l=>match XI f k l with
  | some (xs,t)=>match f t with
   | some (z,t')=>some (xs ++ [z],t')
   | none=>none
  | none=>none
theorem Qa {f:zU->Option (Int×zU)}: ∀(k:Nat) (l:zU) (xs:List Int) (t:zU),XI f k l=some (xs,t)->xs.length=k
 | 0,l,xs,t,h=>by simp only[XI,Option.some.injEq,Prod.mk.injEq]at h;rw[<-h.1];rfl
 | k+1,l,xs,t,h=>by
  rw[XI]at h
  split at h
  ·rename_i ys t1 e
   split at h
   ·simp only[Option.some.injEq,Prod.mk.injEq]at h
    rw[<-h.1,List.length_append,Qa k l ys t1 e]
    rfl
   ·cases h
  ·cases h
theorem Uv (x y:List Int):ZK (x ++ y)=ZK x ++ ZK y:=by simp[ZK]
theorem QI (z:Int):ZK [z]=XY z:=by simp[ZK]
theorem Z0I: ∀(k:Nat) (l:zU) (xs:List Int) (t:zU),XI Xt k l=some (xs,t)->l=ZK xs ++ t /\ ∀z∈xs,Xb z
 | 0,l,xs,t,h=>by simp only[XI,Option.some.injEq,Prod.mk.injEq]at h;obtain⟨rfl,rfl⟩:=h;exact⟨rfl,by simp⟩
 | k+1,l,xs,t,h=>by
  rw[XI]at h
  split at h
  ·rename_i ys t1 e
   split at h
   ·rename_i z t2 e2
    simp only[Option.some.injEq,Prod.mk.injEq]at h
    obtain⟨rfl,rfl⟩:=h
    obtain⟨h1,h2⟩:=Z0I k l ys t1 e
    obtain⟨h3,h4⟩:=Z6Z e2
    refine⟨by rw[Uv,QI,List.append_assoc,<-h3];exact h1,fun x hx=>?_⟩
    rcases List.mem_append.1 hx with hx | hx
    ·exact h2 x hx
    ·rw[List.mem_singleton.1 hx];exact h4
   ·cases h
  ·cases h
theorem Z33 {f:zU->Option (Int×zU)}(hf : ∀z,Xb z -> ∀t,f (XY z ++ t)=some (z,t))(xs:List Int): ∀(k:Nat),k<=xs.length->(∀z∈xs,Xb z) -> ∀t,XI f k (ZK (xs.take k) ++ t)=some (xs.take k,t)
 | 0,_,_,t=>by simp[XI,ZK]
 | k+1,hk,hs,t=>by
  have hx:xs.take (k+1)=xs.take k ++ [xs[k]]:=by rw[List.take_append_getElem]
  rw[hx,Uv,QI,List.append_assoc,XI,Z33 hf xs k (by omega) hs]
  simp only[hf _ (hs _ (List.getElem_mem _))]
theorem zm {f:zU->Option (Int×zU)}(hf : ∀z,Xb z -> ∀t,f (XY z ++ t)=some (z,t))(xs:List Int)(hs : ∀z∈xs,Xb z)(t:zU):XI f xs.length (ZK xs ++ t)=some (xs,t):=by
 have h:=Z33 hf xs xs.length (Nat.le_refl _) hs t;rwa [List.take_length]at h
theorem Z1S (u:Nat):1<=(zZ u).length:=by
 unfold zZ;split <;> simp
theorem Z7q (l:List Int):l.length<=(ZK l).length:=by
 induction l with
 | nil=>simp[ZK]
 | cons z l ih=>
  have h:=Z1S (zig z);rw[show ZK (z :: l)=XY z ++ ZK l from rfl,List.length_append,List.length_cons,XY];omega
def Zn (n:NoteV):List Int:=[n.house,n.num,n.clock,n.day,n.kind,n.stone,n.heap,n.turns,n.hardLo,n.hardHi,n.diffLo,n.diffHi,n.a,n.b,n.ring]
def Zr (n:NoteV):List Int:=[n.refH,n.refN,n.fix]
def Yc (n:NoteV):zU:=ZK (Zn n) ++ (XY n.strokes.length ++ (ZK n.strokes ++ ZK (Zr n)))
def Jk (x y z:List Int):NoteV:=⟨x[0]?.getD 0,x[1]?.getD 0,x[2]?.getD 0,x[3]?.getD 0,x[4]?.getD 0,x[5]?.getD 0,x[6]?.getD 0,x[7]?.getD 0,x[8]?.getD 0,x[9]?.getD 0,x[10]?.getD 0,x[11]?.getD 0,x[12]?.getD 0,x[13]?.getD 0,x[14]?.getD 0,z[0]?.getD 0,z[1]?.getD 0,z[2]?.getD 0,y⟩
theorem ZaP (n:NoteV):Jk (Zn n) n.strokes (Zr n)=n:=rfl
theorem Ze3 {x:List Int}(h:x.length=15)(y z:List Int):Zn (Jk x y z)=x:=by
 obtain⟨a0,a1,a2,a3,a4,a5,a6,a7,a8,a9,a10,a11,a12,a13,a14,rfl⟩ : ∃a0 a1 a2 a3 a4 a5 a6 a7 a8 a9 a10 a11 a12 a13 a14,x=[a0,a1,a2,a3,a4,a5,a6,a7,a8,a9,a10,a11,a12,a13,a14]:=by
  match x,h with
  | [a0,a1,a2,a3,a4,a5,a6,a7,a8,a9,a10,a11,a12,a13,a14],_=>exact⟨_,_,_,_,_,_,_,_,_,_,_,_,_,_,_,rfl⟩
 rfl
theorem of3 {z:List Int}(h:z.length=3)(x y:List Int):Zr (Jk x y z)=z:=by
 obtain⟨a0,a1,a2,rfl⟩ : ∃a0 a1 a2,z=[a0,a1,a2]:=by
  match z,h with
  | [a0,a1,a2],_=>exact⟨_,_,_,rfl⟩
 rfl
def Xv (f:zU->Option (Int×zU))(l:zU):Option (NoteV×zU):=match XI f 15 l with
 | some (x,t)=>match f t with
  | some (c,t1)=>if 0<=c/\c<=t1.length then match XI f c.toNat t1 with
    | some (y,t2)=>match XI f 3 t2 with
     | some (z,t3)=>some (Jk x y z,t3)
     | none=>none
    | none=>none
   else none
  | none=>none
 | none=>none
def JU (n:NoteV):Prop:=(∀z∈Zn n,Xb z)/\(∀z∈n.strokes,Xb z)/\(∀z∈Zr n,Xb z)/\Xb n.strokes.length
theorem Z5d {l t:zU}{n:NoteV}(h:Xv Xt l=some (n,t)):l=Yc n ++ t/\JU n:=by
 unfold Xv at h;split at h
 ·rename_i x t0 e0;split at h
  ·rename_i c t1 e1;split at h
   ·rename_i hc;split at h
    ·rename_i y t2 e2;split at h
     ·rename_i z t3 e3;simp only[Option.some.injEq,Prod.mk.injEq]at h;obtain⟨rfl,rfl⟩:=h;have q0:=Z0I _ _ _ _ e0;have q1:=Z6Z e1;have q2:=Z0I _ _ _ _ e2;have q3:=Z0I _ _ _ _ e3;have hl:=Qa _ _ _ _ e2;have hy:(y.length:Int)=c:=by omega
      unfold Yc JU;rw[Ze3 (Qa _ _ _ _ e0),of3 (Qa _ _ _ _ e3)];refine⟨?_,q0.2,q2.2,q3.2,?_⟩
      ·show l=(ZK x ++ (XY y.length ++ (ZK y ++ ZK z))) ++ t3;rw[hy];simp only[List.append_assoc];rw[<-q3.1,<-q2.1,<-q1.1];exact q0.1
      ·show Xb y.length;rw[hy];exact q1.2
     ·cases h
    ·cases h
   ·cases h
  ·cases h
 ·cases h
theorem Z0h {f:zU->Option (Int×zU)}(hf : ∀z,Xb z -> ∀t,f (XY z ++ t)=some (z,t)){n:NoteV}(h:JU n)(t:zU):Xv f (Yc n ++ t)=some (n,t):=by
 obtain⟨h1,h2,h3,h4⟩:=h;unfold Xv Yc;simp only[List.append_assoc];have e1:=zm hf (Zn n) h1;rw[show(Zn n).length=15 from rfl]at e1;rw[e1];have hp:=Z7q n.strokes;simp only[hf _ h4,List.length_append];rw[if_pos (by omega),Int.toNat_natCast,zm hf n.strokes h2];have e3:=zm hf (Zr n) h3;rw[show(Zr n).length=3 from rfl]at e3;simp only[e3,ZaP]
theorem Yf {f:Ys}(hv:f.valid=true){n:NoteV}(h:Zf f n=true):JU n:=by
 have hvf:1<=f.rings/\f.rings<=24/\2<=f.sectors/\f.sectors<=96/\1<=f.wide/\f.wide<=f.sectors:=by
  simp only[Ys.valid,Bool.and_eq_true,Ya]at hv;omega
 have hm1:0 < f.rings * f.sectors:=Int.mul_pos (by omega) (by omega);have hm2:f.rings * f.sectors<=24 * 96:=Int.mul_le_mul hvf.2.1 hvf.2.2.2.1 (by omega) (by omega);have hst:n.strokes=[]\/Xc (f.sectors - f.wide) n.strokes=true:=by
  rw[Vh hv]at h;simp only[Zz,Vm,ZV,XZ,ZO]at h;grind
 have hs:(∀z∈n.strokes,Xb z)/\Xb n.strokes.length:=by
  rcases hst with e | e
  ·rw[e];simp[Xb,far]
  ·simp only[Xc,XV,Bool.and_eq_true,decide_eq_true_eq,Ya]at e;refine⟨fun z hz=>?_,by unfold Xb far;omega⟩;obtain⟨i,hi,rfl⟩:=List.getElem_of_mem hz;have:=(e.1 i hi).1;rw[List.getElem?_eq_getElem hi,Option.getD_some]at this;unfold Xb far;omega
 have hk:1<=n.kind/\n.kind<=6:=by
  simp only[Zf,okB,Yi]at h;grind
 rw[Vh hv]at h;generalize hM:f.rings * f.sectors=M at *;have hall : ∀(x:Int),x∈Zn n ++ Zr n->Xb x:=by
  simp only[Zn,Zr,List.cons_append,List.nil_append,List.forall_mem_cons,List.not_mem_nil,false_imp_iff,implies_true,and_true,Xb,far];obtain⟨k1,k2⟩:=hk;have hh:n.kind=1\/n.kind=2\/n.kind=3\/n.kind=4\/n.kind=5\/n.kind=6:=by omega
  clear hs hst k1 k2;rcases hh with e | e | e | e | e | e
  ·simp[e,Zz,Vm,ZV,XZ,ZO,Zy,Yu,Y4,Jh,Xx]at h;omega
  ·simp[e,Zz,Vm,ZV,XZ,ZO,Zy,Yu,Y4,Jh,Xx]at h;omega
  ·simp[e,hM,Zz,Vm,ZV,XZ,ZO,Zy,Yu,Y4,Jh,Xx]at h;omega
  ·simp[e,hM,Zz,Vm,ZV,XZ,ZO,Zy,Yu,Y4,Jh,Xx]at h;omega
  ·have hx:n.fix=1\/n.fix=2\/n.fix=3\/n.fix=4:=by
    simp[e,Zz,ZO]at h;grind
   rcases hx with g | g | g | g
   ·simp[e,g,hM,Zz,Vm,ZV,XZ,ZO,Zy,Yu,Y4,Jh,Xx]at h;omega
   ·simp[e,g,hM,Zz,Vm,ZV,XZ,ZO,Zy,Yu,Y4,Jh,Xx]at h;omega
   ·simp[e,g,hM,Zz,Vm,ZV,XZ,ZO,Zy,Yu,Y4,Jh,Xx]at h;omega
   ·simp[e,g,hM,Zz,Vm,ZV,XZ,ZO,Zy,Yu,Y4,Jh,Xx]at h;omega
  ·simp[e,hM,Zz,Vm,ZV,XZ,ZO,Zy,Yu,Y4,Jh,Xx]at h;omega
 exact⟨fun z hz=>hall z (List.mem_append_left _ hz),hs.1,fun z hz=>hall z (List.mem_append_right _ hz),hs.2⟩
theorem Z4x {f:Ys}(hv:f.valid=true)(b:zU)(n:NoteV)(hf:Zf f n=true):((∃t,Xv Je b=some (n,t))/\Yc n=b)↔Xv Xt b=some (n,[]):=by
 constructor
 ·rintro⟨_,rfl⟩;have h:=Z0h (f:=Xt) (fun z hz t=>Z6Y hz t) (Yf hv hf) [];rwa [List.append_nil]at h
 ·intro h;obtain⟨e,hs⟩:=Z5d h;rw[List.append_nil]at e;have h:=Z0h (f:=Je) (fun z hz t=>Z31 hz t) (Yf hv hf) [];rw[List.append_nil]at h;exact⟨⟨[],by rw[e];exact h⟩,e.symm⟩
theorem Vf {f:Ys}(hv:f.valid=true)(n:NoteV)(hf:Zf f n=true):Xv Je (Yc n)=some (n,[]):=by
 have h:=Z0h (f:=Je) (fun z hz t=>Z31 hz t) (Yf hv hf) [];rwa [List.append_nil]at h
def U8 (base:Nat)(w:World)(k:Nat):Prop:=base<=k /\ ∃cur sp,w.heap[k]? = some (.cells cur 5 sp)
structure XQ (base:Nat)(w w':World):Prop where
 os:w'.os=w.os
 tape:w'.tape=w.tape
 output:w'.output=w.output
 size:w.heap.size<=w'.heap.size
 block : ∀k,k < w.heap.size -> ¬U8 base w k->w'.heap[k]? = w.heap[k]?
theorem XQ.refl (base:Nat)(w:World):XQ base w w:=⟨rfl,rfl,rfl,Nat.le_refl _,fun _ _ _=>rfl⟩
theorem XQ.not {base:Nat}{w w':World}(h:XQ base w w'){k:Nat}(hk:k < w.heap.size)(hn : ¬U8 base w k): ¬U8 base w' k:=by
 rintro⟨h1,cur,sp,h2⟩;exact hn ⟨h1,cur,sp,by rw[<-h.block k hk hn];exact h2⟩
theorem XQ.trans {base:Nat}{a b c:World}(h:XQ base a b)(k:XQ base b c):XQ base a c:=
 ⟨k.os.trans h.os,k.tape.trans h.tape,k.output.trans h.output,Nat.le_trans h.size k.size,fun i hi hs=>(k.block i (Nat.lt_of_lt_of_le hi h.size) (h.not hi hs)).trans (h.block i hi hs)⟩
theorem XQ.of_below {base:Nat}{w w':World}(h:Below w.heap.size w w'):XQ base w w':=⟨h.os,h.tape,h.output,h.size,fun k hk _=>h.block k hk⟩
theorem XQ.mono {base base':Nat}{w w':World}(h:XQ base' w w')(hb:base<=base'):XQ base w w':=
 ⟨h.os,h.tape,h.output,h.size,fun k hk hn=>h.block k hk (fun⟨h1,h2⟩=>hn ⟨Nat.le_trans hb h1,h2⟩)⟩
theorem XQ.of_own {base:Nat}{w w':World}{v:Value}{n:Nat}{xs:List Value}(ho:w.ownsRow base 5 1 v n xs)(hg:w.grownBy w' v.ownBlock):XQ base w w':=by
 refine⟨hg.os,hg.tape,hg.output,hg.size,fun k hk hn=>hg.block k hk (fun e=>hn ?_)⟩;rcases ho.2 with ⟨rfl,_⟩ | ⟨g,cap,cur,rfl,h1,h2,_⟩
 ·cases e
 ·simp only[Value.ownBlock,Option.some.injEq]at e;subst e;exact⟨h1,cur,_,h2⟩
theorem XQ.below {base:Nat}{w w':World}(h:XQ base w w')(hb:base<=w.heap.size):Below base w w':=
 ⟨h.os,h.tape,h.output,h.size,fun k hk=>h.block k (by omega) (fun⟨h1,_⟩=>by omega)⟩
def ze (base:Nat)(w:World)(a:zA):Prop := ∀b off,a=some ⟨b,off,none⟩->b < w.heap.size -> ¬U8 base w b
theorem XQ.rd {base:Nat}{w w':World}(h:XQ base w w'){k:Nat}{a:zA}{n c:Nat}{xs:List Value}(hr:ZX w k a n c xs)(hn:ze base w a):ZX w' k a n c xs:=
 hr.of_cells fun b ⟨off,hb⟩ hlt=>h.block b hlt (hn b off hb hlt)
theorem ze.keep {base:Nat}{w w':World}{a:zA}(hn:ze base w a)(h:XQ base w w')(hl : ∀b off,a=some ⟨b,off,none⟩->b < w.heap.size):ze base w' a:=
 fun b off e _=>h.not (hl b off e) (hn b off e (hl b off e))
theorem ze.keep' {base:Nat}{w w':World}{k:Nat}{a:zA}{n c:Nat}{xs:List Value}(hn:ze base w a)(h:XQ base w w')(hr:ZX w k a n c xs)(h0:0 < n)(hk:0 < k):ze base w' a:=
 hn.keep h fun b off e=>by
  obtain⟨b',off',e',hc⟩:=hr.at h0
  rw[e]at e'
  cases e'
  have hl:0 < xs.length:=by rw[hr.len];exact Nat.mul_pos h0 hk
  exact World.block_lt_of_cell? w _ (hc 0 _ (List.getElem?_eq_getElem hl))
theorem ze.old {base:Nat}{w:World}{a:zA}(h : ∀b off,a=some ⟨b,off,none⟩->b < base):ze base w a:=fun b off e _ ⟨h1,_⟩=>by have:=h b off e;omega
theorem Z1g {base:Nat}{w:World}{k:Nat}{cur:Xz}{t:TypeId}{sp:Nat×Nat}(h:w.heap[k]? = some (.cells cur t sp))(ht:t≠5): ¬U8 base w k:=by
 rintro⟨_,cur',sp',h'⟩;rw[h]at h';simp only[Option.some.injEq,Obj.cells.injEq]at h';exact ht h'.2.1
theorem Zbf (u:Nat): ∀k,u < 128 ^ (k+1)->(zZ u).length<=k+1:=by
 induction u using Nat.strongRecOn with
 | ind u ih=>
  intro k hk;by_cases h:u < 128
  ·rw[zy h];simp
  ·cases k with
   | zero=>simp at hk;omega
   | succ k=>
    rw[zO (by omega),List.length_cons];have:=ih (u / 128) (by omega) k (by rw[Nat.pow_succ]at hk;omega);omega
theorem Z5D {z:Int}(h:Qm z):zig z < 18446744073709551616:=by
 unfold Qm at h;unfold zig;split <;> omega
theorem Z1R {z:Int}(h:Qm z):(XY z).length<=10:=Zbf _ 9 (by have:=Z5D h;omega)
theorem Z1T (l:List Int)(h : ∀z∈l,Qm z):(ZK l).length<=10 * l.length:=by
 induction l with
 | nil=>simp[ZK]
 | cons z l ih=>
  have h1:=Z1R (h z (List.mem_cons_self ..));have h2:=ih (fun x hx=>h x (List.mem_cons_of_mem _ hx));rw[show ZK (z :: l)=XY z ++ ZK l from rfl,List.length_append,List.length_cons];omega
theorem VL {l:List Int}{k:Nat}(h:k < l.length):ZK (l.take (k+1))=ZK (l.take k) ++ XY (l[k]?.getD 0):=by
 rw[List.getElem?_eq_getElem h,Option.getD_some,<-QI,<-Uv,List.take_append_getElem]
end Go.Proofs.YtlnhppgfhkkidaaGreat
