/- Parts of the proof, in order. -/
import Derived.Shelf.SlSortCmp.NoneTotal
import Derived.Laws.EntriesVeiled
import Derived.Test.YtlnhppgfhkkidaaGreatKPst3
set_option linter.unusedSimpArgs false
set_option linter.unusedVariables false
set_option maxHeartbeats 32000000
set_option maxRecDepth 100000
namespace Go.Proofs.YtlnhppgfhkkidaaGreat
open Go.Proofs.Tryz renaming prog → zq
open Go.RowKit
structure VB (B:Nat)(w w':World):Prop where
 bel:Below B w w'
 drawn:w.drawn<=w'.drawn
theorem VB.refl (B:Nat)(w:World):VB B w w:=⟨Below.refl _ _,Nat.le_refl _⟩
theorem VB.trans {B:Nat}{a b c:World}(h:VB B a b)(k:VB B b c):VB B a c:=⟨h.bel.trans k.bel,Nat.le_trans h.drawn k.drawn⟩
theorem VB.mono {B B':Nat}{w w':World}(h:VB B w w')(hB:B'<=B):VB B' w w':=⟨h.bel.mono hB,h.drawn⟩
theorem VB.drew {B:Nat}{a w:World}(h:VB B a w):VB B a w.drew:=⟨h.bel.drew,by have:=h.drawn;simp only[World.drew];omega⟩
theorem VB.alloc {B:Nat}{a w:World}(h:VB B a w)(hB:B<=w.heap.size)(o:Obj):VB B a (w.alloc o):=⟨h.bel.alloc hB o,h.drawn⟩
theorem VB.size {B:Nat}{w w':World}(h:VB B w w'):w.heap.size<=w'.heap.size:=h.bel.size
theorem VB.block {B:Nat}{w w':World}(h:VB B w w'): ∀k,k < B->w'.heap[k]? = w.heap[k]? := h.bel.block
section
attribute [local go_sem] ZY YV
theorem Z4e (n:Z8)(sa:zA)(sc:Nat)(w:World):Calls zq 167 #[.agg (Z5 n sa sc)] w fun e w'=>e = .returned (.agg #[.int .i64 n.house,.int .i64 n.num])/\VB w.heap.size w w':=by
 have hb:=(VB.refl w.heap.size w).alloc (Nat.le_refl _) (.cells (Z5 n sa sc) 47);go_enter Tryz.func167,Tryz.ntmps167;go_wp2_with fail;go_returns;exact⟨rfl,hb.alloc hb.size _⟩
end
structure Z4O (w W:World)(p q:Nat)(A B:Y6)(t:TypeId):Prop where
 e1:W.heap[p]? = some (.cells A t (0,0))
 e2:W.heap[q]? = some (.cells B t (0,0))
 b:VB p w W
 lt:p < q
theorem Z4O.below {w W W':World}{p q:Nat}{A B:Y6}{t:TypeId}(h:Z4O w W p q A B t)(hb:VB W.heap.size W W'):Z4O w W' p q A B t:=by
 have g : ∀{k:Nat} {o:Obj},W.heap[k]? = some o->W'.heap[k]? = some o:=fun {k o} hk=>(hb.block k (Array.getElem?_eq_some_iff.1 hk).1).trans hk;have h0:=(Array.getElem?_eq_some_iff.1 h.e1).1;exact⟨g h.e1,g h.e2,h.b.trans (hb.mono (by omega)),h.lt⟩
theorem zh (x m y k:Int)(w:World):Calls zq 124 #[.agg #[.int .i64 x,.int .i64 m],.agg #[.int .i64 y,.int .i64 k]] w fun e w'=>e = .returned (.int .i64 (YJ x m y k))/\VB w.heap.size w w':=by
 have g1:=Z9 _ (.cells (#[.int .i64 y,.int .i64 k]) 45) _ _ (Za w (.cells (#[.int .i64 x,.int .i64 m]) 45));have g2:=Zy (w.alloc (.cells (#[.int .i64 x,.int .i64 m]) 45)) (.cells (#[.int .i64 y,.int .i64 k]) 45) (w.heap.size+1) (by simp);have bb:VB w.heap.size w ((w.alloc (.cells (#[.int .i64 x,.int .i64 m]) 45)).alloc (.cells (#[.int .i64 y,.int .i64 k]) 45)):=((VB.refl _ _).alloc (Nat.le_refl _) _).alloc (by simp) _;have T0:Hid (Z4O w ((w.alloc (.cells (#[.int .i64 x,.int .i64 m]) 45)).alloc (.cells (#[.int .i64 y,.int .i64 k]) 45)) w.heap.size (w.heap.size+1) (#[.int .i64 x,.int .i64 m]) (#[.int .i64 y,.int .i64 k]) 45):=zH ⟨g1,g2,bb,by omega⟩;clear g1 g2 bb;go_enter Tryz.func124,Tryz.ntmps124;go_upto_region 1 with fail;generalize (w.alloc (.cells (#[.int .i64 x,.int .i64 m]) 45)).alloc (.cells (#[.int .i64 y,.int .i64 k]) 45)=W0 at *;obtain⟨p,hp⟩:=zX (w.heap.size);obtain⟨q,hq⟩:=zX (w.heap.size+1);rw[hq.out,hp.out]at T0;rw[hq.out,hp.out];have T1:=zH (T0.out.below (VB.refl W0.heap.size W0).drew);refine wp_region_noPanic ?_;refine wp_region_held_drew (S:=fun w'=>Z4O w w' p q (#[.int .i64 x,.int .i64 m]) (#[.int .i64 y,.int .i64 k]) 45) (by kernel_rfl) T1.out (fun hh=>?_);refine zS 0 rfl (.pointer (some ⟨p,0,none⟩)) (fun W _=>by go_simp) ?_;refine zS 1 rfl (.int .i64 x) (fun W h=>by have hc:=Z6 h.e1 0 (.int .i64 x) rfl;go_simp) ?_;refine zS 2 rfl (.pointer (some ⟨q,0,none⟩)) (fun W _=>by go_simp) ?_;refine zS 3 rfl (.int .i64 y) (fun W h=>by have hc:=Z6 h.e2 0 (.int .i64 y) rfl;go_simp) ?_;refine zS 5 rfl (.pointer (some ⟨p,1,none⟩)) (fun W _=>by go_simp) ?_;refine zS 6 rfl (.int .i64 m) (fun W h=>by have hc:=Z6 h.e1 1 (.int .i64 m) rfl;go_simp) ?_;refine zS 7 rfl (.pointer (some ⟨q,1,none⟩)) (fun W _=>by go_simp) ?_;refine zS 8 rfl (.int .i64 k) (fun W h=>by have hc:=Z6 h.e2 1 (.int .i64 k) rfl;go_simp) ?_;refine zR 4 rfl fun K hK=>?_;go_simp;go_at_call 173;refine(XJ x y _).mono ?_;rintro e w1 ⟨rfl,rfl⟩;dsimp only;refine zK hK T1.out fun hh=>?_
 clear hK K;refine zR 9 rfl fun K hK=>?_;go_simp;go_at_call 173;refine(XJ m k _).mono ?_;rintro e w1 ⟨rfl,rfl⟩;dsimp only;refine zK hK T1.out fun hh=>?_;clear hK K;refine zR 10 rfl fun K hK=>?_;go_simp;have TB:=zH (T1.out.below ((VB.refl W0.drew.heap.size W0.drew).alloc (Nat.le_refl _) (.cells #[.int .i64 (Yw x y),.int .i64 (Yw m k)] 3)));refine zK hK TB.out fun hh=>?_;clear hK K;refine zR 11 rfl fun K hK=>?_;go_simp;go_at_call 172;refine(Z2v W0.drew.heap.size (Yw x y) (Yw m k) _ (Za W0.drew _)).mono ?_;rintro e w1 ⟨rfl,rfl⟩;dsimp only;refine zK hK TB.out fun hh=>?_;clear hK K;refine zS 12 rfl (.int .i64 (orI (Yw x y) (Yw m k))) (fun W _=>by go_simp) ?_;have TE:=TB;refine zE ?_;change Exit.then _ _ Exit.normal { tmps := #[.agg #[.int .i64 x,.int .i64 m],.agg #[.int .i64 y,.int .i64 k],.pointer (some ⟨p,0,none⟩),.pointer (some ⟨q,0,none⟩),.int .i64 (orI (Yw x y) (Yw m k)),.pointer (some ⟨p,0,none⟩),.int .i64 x,.pointer (some ⟨q,0,none⟩),.int .i64 y,.int .i64 (Yw x y),.pointer (some ⟨p,1,none⟩),.int .i64 m,.pointer (some ⟨q,1,none⟩),.int .i64 k,.int .i64 (Yw m k),.slice (some ⟨W0.drew.heap.size,0,none⟩) 2 2,.int .i64 (orI (Yw x y) (Yw m k))],defers:=[] } _;go_wp2;go_ret;exact⟨rfl,by rw[hp.out];exact TE.out.b⟩
section
attribute [local go_sem] ZY
theorem Zap (n r:Z8)(sa:zA)(sc:Nat)(ta:zA)(tc:Nat)(w:World):Calls zq 191 #[.agg (Z5 n sa sc),.agg (Z5 r ta tc)] w fun e w'=>e = .returned (.int .i64 (Xo n r))/\VB w.heap.size w w':=by
 have I43:=zH zI;have g1:=Z9 _ (.cells (Z5 r ta tc) 47) _ _ (Za w (.cells (Z5 n sa sc) 47));have g2:=Zy (w.alloc (.cells (Z5 n sa sc) 47)) (.cells (Z5 r ta tc) 47) (w.heap.size+1) (by simp);have bb:VB w.heap.size w ((w.alloc (.cells (Z5 n sa sc) 47)).alloc (.cells (Z5 r ta tc) 47)):=((VB.refl _ _).alloc (Nat.le_refl _) _).alloc (by simp) _;have T0:Hid (Z4O w ((w.alloc (.cells (Z5 n sa sc) 47)).alloc (.cells (Z5 r ta tc) 47)) w.heap.size (w.heap.size+1) (Z5 n sa sc) (Z5 r ta tc) 47):=zH ⟨g1,g2,bb,by omega⟩;clear g1 g2 bb;go_enter Tryz.func191,Tryz.ntmps191;go_upto_region 1 with fail;generalize (w.alloc (.cells (Z5 n sa sc) 47)).alloc (.cells (Z5 r ta tc) 47)=W0 at *;obtain⟨p,hp⟩:=zX (w.heap.size);obtain⟨q,hq⟩:=zX (w.heap.size+1);rw[hq.out,hp.out]at T0;rw[hq.out,hp.out];have T1:=zH (T0.out.below (VB.refl W0.heap.size W0).drew);refine wp_region_noPanic ?_;refine wp_region_held_drew (S:=fun w'=>Z4O w w' p q (Z5 n sa sc) (Z5 r ta tc) 47) (by kernel_rfl) T1.out (fun hh=>?_);refine zS 0 rfl (.pointer (some ⟨p,2,none⟩)) (fun W _=>by go_simp) ?_;refine zS 1 rfl (.int .i64 n.clock) (fun W h=>by have hc:=Z6 h.e1 2 (.int .i64 n.clock) rfl;go_simp) ?_;refine zS 2 rfl (.pointer (some ⟨q,2,none⟩)) (fun W _=>by go_simp) ?_;refine zS 3 rfl (.int .i64 r.clock) (fun W h=>by have hc:=Z6 h.e2 2 (.int .i64 r.clock) rfl;go_simp) ?_;refine zT 5 rfl (.agg (Z5 n sa sc)) (ZW (by rfl) 47 _ rfl p rfl _ 47 (0,0) _ (fun W h=>h.e1) Tryz.underlying47 rfl (I43.out _ _ _)) ?_;refine zT 7 rfl (.agg (Z5 r ta tc)) (ZW (by rfl) 47 _ rfl q rfl _ 47 (0,0) _ (fun W h=>h.e2) Tryz.underlying47 rfl (I43.out _ _ _)) ?_;refine zR 4 rfl fun K hK=>?_;go_simp;go_at_call 173;refine(XJ n.clock r.clock _).mono ?_;rintro e w1 ⟨rfl,rfl⟩;dsimp only;refine zK hK T1.out fun hh=>?_;clear hK K;refine zR 6 rfl fun K hK=>?_;go_simp;go_at_call 167;refine(Z4e n sa sc _).mono ?_;rintro e w1 ⟨rfl,b1⟩;have T2:=zH (T1.out.below b1);clear b1;dsimp only;refine zK hK T2.out fun hh=>?_
 clear hK K;refine zR 8 rfl fun K hK=>?_;go_simp;go_at_call 167;refine(Z4e r ta tc _).mono ?_;rintro e w2 ⟨rfl,b1⟩;have T3:=zH (T2.out.below b1);clear b1;dsimp only;refine zK hK T3.out fun hh=>?_;clear hK K;refine zR 9 rfl fun K hK=>?_;go_simp;go_at_call 124;refine(zh n.house n.num r.house r.num _).mono ?_;rintro e w3 ⟨rfl,b1⟩;have T4:=zH (T3.out.below b1);clear b1;dsimp only;refine zK hK T4.out fun hh=>?_;clear hK K;refine zR 10 rfl fun K hK=>?_;go_simp;have TB:=zH (T4.out.below ((VB.refl w3.heap.size w3).alloc (Nat.le_refl _) (.cells #[.int .i64 (Yw n.clock r.clock),.int .i64 (YJ n.house n.num r.house r.num)] 3)));refine zK hK TB.out fun hh=>?_;clear hK K;refine zR 11 rfl fun K hK=>?_;go_simp;go_at_call 172;refine(Z2v w3.heap.size (Yw n.clock r.clock) (YJ n.house n.num r.house r.num) _ (Za w3 _)).mono ?_;rintro e w4 ⟨rfl,rfl⟩;dsimp only;refine zK hK TB.out fun hh=>?_;clear hK K;refine zS 12 rfl (.int .i64 (orI (Yw n.clock r.clock) (YJ n.house n.num r.house r.num))) (fun W _=>by go_simp) ?_;have TE:=TB;refine zE ?_;change Exit.then _ _ Exit.normal { tmps := #[.agg (Z5 n sa sc),.agg (Z5 r ta tc),.pointer (some ⟨p,0,none⟩),.pointer (some ⟨q,0,none⟩),.int .i64 (orI (Yw n.clock r.clock) (YJ n.house n.num r.house r.num)),.pointer (some ⟨p,2,none⟩),.int .i64 n.clock,.pointer (some ⟨q,2,none⟩),.int .i64 r.clock,.int .i64 (Yw n.clock r.clock),.agg (Z5 n sa sc),.agg #[.int .i64 n.house,.int .i64 n.num],.agg (Z5 r ta tc),.agg #[.int .i64 r.house,.int .i64 r.num],.int .i64 (YJ n.house n.num r.house r.num),.slice (some ⟨w3.heap.size,0,none⟩) 2 2,.int .i64 (orI (Yw n.clock r.clock) (YJ n.house n.num r.house r.num))],defers:=[] } _;go_wp2;go_ret;exact⟨rfl,by rw[hp.out];exact TE.out.b⟩
theorem Zb7 (n r:Z8)(sa:zA)(sc:Nat)(ta:zA)(tc:Nat)(w:World):Calls zq 222 #[.agg (Z5 n sa sc),.agg (Z5 r ta tc)] w fun e w'=>e = .returned (.int .i64 (JV n r))/\VB w.heap.size w w':=by
 have I43:=zH zI;have g1:=Z9 _ (.cells (Z5 r ta tc) 47) _ _ (Za w (.cells (Z5 n sa sc) 47));have g2:=Zy (w.alloc (.cells (Z5 n sa sc) 47)) (.cells (Z5 r ta tc) 47) (w.heap.size+1) (by simp);have bb:VB w.heap.size w ((w.alloc (.cells (Z5 n sa sc) 47)).alloc (.cells (Z5 r ta tc) 47)):=((VB.refl _ _).alloc (Nat.le_refl _) _).alloc (by simp) _;have T0:Hid (Z4O w ((w.alloc (.cells (Z5 n sa sc) 47)).alloc (.cells (Z5 r ta tc) 47)) w.heap.size (w.heap.size+1) (Z5 n sa sc) (Z5 r ta tc) 47):=zH ⟨g1,g2,bb,by omega⟩;clear g1 g2 bb;go_enter Tryz.func222,Tryz.ntmps222;go_upto_region 1 with fail;generalize (w.alloc (.cells (Z5 n sa sc) 47)).alloc (.cells (Z5 r ta tc) 47)=W0 at *;obtain⟨p,hp⟩:=zX (w.heap.size);obtain⟨q,hq⟩:=zX (w.heap.size+1);rw[hq.out,hp.out]at T0;rw[hq.out,hp.out];have T1:=zH (T0.out.below (VB.refl W0.heap.size W0).drew);refine wp_region_noPanic ?_;refine wp_region_held_drew (S:=fun w'=>Z4O w w' p q (Z5 n sa sc) (Z5 r ta tc) 47) (by kernel_rfl) T1.out (fun hh=>?_);refine zS 0 rfl (.pointer (some ⟨p,3,none⟩)) (fun W _=>by go_simp) ?_;refine zS 1 rfl (.int .i64 n.day) (fun W h=>by have hc:=Z6 h.e1 3 (.int .i64 n.day) rfl;go_simp) ?_;refine zS 2 rfl (.pointer (some ⟨q,3,none⟩)) (fun W _=>by go_simp) ?_;refine zS 3 rfl (.int .i64 r.day) (fun W h=>by have hc:=Z6 h.e2 3 (.int .i64 r.day) rfl;go_simp) ?_;refine zT 5 rfl (.agg (Z5 n sa sc)) (ZW (by rfl) 47 _ rfl p rfl _ 47 (0,0) _ (fun W h=>h.e1) Tryz.underlying47 rfl (I43.out _ _ _)) ?_;refine zT 6 rfl (.agg (Z5 r ta tc)) (ZW (by rfl) 47 _ rfl q rfl _ 47 (0,0) _ (fun W h=>h.e2) Tryz.underlying47 rfl (I43.out _ _ _)) ?_;refine zR 4 rfl fun K hK=>?_;go_simp;go_at_call 173;refine(XJ n.day r.day _).mono ?_;rintro e w1 ⟨rfl,rfl⟩;dsimp only;refine zK hK T1.out fun hh=>?_;clear hK K;refine zR 7 rfl fun K hK=>?_;go_simp;go_at_call 191;refine(Zap n r sa sc ta tc _).mono ?_;rintro e w3 ⟨rfl,b1⟩;have T4:=zH (T1.out.below b1);clear b1;dsimp only;refine zK hK T4.out fun hh=>?_
 clear hK K;refine zR 8 rfl fun K hK=>?_;go_simp;have TB:=zH (T4.out.below ((VB.refl w3.heap.size w3).alloc (Nat.le_refl _) (.cells #[.int .i64 (Yw n.day r.day),.int .i64 (Xo n r)] 3)));refine zK hK TB.out fun hh=>?_;clear hK K;refine zR 9 rfl fun K hK=>?_;go_simp;go_at_call 172;refine(Z2v w3.heap.size (Yw n.day r.day) (Xo n r) _ (Za w3 _)).mono ?_;rintro e w4 ⟨rfl,rfl⟩;dsimp only;refine zK hK TB.out fun hh=>?_;clear hK K;refine zS 10 rfl (.int .i64 (orI (Yw n.day r.day) (Xo n r))) (fun W _=>by go_simp) ?_;have TE:=TB;refine zE ?_;change Exit.then _ _ Exit.normal { tmps := #[.agg (Z5 n sa sc),.agg (Z5 r ta tc),.pointer (some ⟨p,0,none⟩),.pointer (some ⟨q,0,none⟩),.int .i64 (orI (Yw n.day r.day) (Xo n r)),.pointer (some ⟨p,3,none⟩),.int .i64 n.day,.pointer (some ⟨q,3,none⟩),.int .i64 r.day,.int .i64 (Yw n.day r.day),.agg (Z5 n sa sc),.agg (Z5 r ta tc),.int .i64 (Xo n r),.slice (some ⟨w3.heap.size,0,none⟩) 2 2,.int .i64 (orI (Yw n.day r.day) (Xo n r))],defers:=[] } _;go_wp2;go_ret;exact⟨rfl,by rw[hp.out];exact TE.out.b⟩
end
open Go.RowKit Go.Sort Go.Shelf
theorem ZdG {V:Type}{lt:V->V->Bool}(ho:Ord lt):SWO lt where
 irrefl x:=by
  cases h:lt x x with
  | false=>rfl
  | true=>have:=ho.1 x x h;rw[h]at this;cases this
 trans x y z h1 h2:=by
  cases h3:lt x z with
  | true=>rfl
  | false=>
   have h4:=ho.1 y z h2;have h5:=ho.2 y z x h4 h3;rw[h1]at h5;cases h5
 ntrans x y z h1 h2:=ho.2 z y x h2 h1
theorem Zc4 {w w':World}(h:VB w.heap.size w w'): ∃q os,w'=grow (w.drewN q) os:=by
 refine⟨w'.drawn - w.drawn,w'.heap.extract w.heap.size w'.heap.size,?_⟩;have hd:=h.drawn;obtain⟨heap',tape',drawn',os',output'⟩:=w';have e1:os'=w.os:=h.bel.os;have e2:tape'=w.tape:=h.bel.tape;have e3:output'=w.output:=h.bel.output;have hs:w.heap.size<=heap'.size:=h.bel.size;have hb : ∀k,k < w.heap.size->heap'[k]? = w.heap[k]? := h.bel.block;subst e1 e2 e3;have eh:heap'=w.heap ++ heap'.extract w.heap.size heap'.size:=by
  apply Array.ext_getElem?;intro k;by_cases hk:k < w.heap.size
  ·rw[Array.getElem?_append_left hk];exact hb k hk
  ·rw[Array.getElem?_append_right (by omega),Array.getElem?_extract];by_cases hk2:k < heap'.size
   ·rw[if_pos (by omega)];congr 1;omega
   ·rw[if_neg (by omega),Array.getElem?_eq_none (by omega)]
 have ed:drawn'=w.drawn+(drawn' - w.drawn):=by simp only at hd;omega
 simp only[grow,World.drewN];congr 1
theorem Z0I (k:Nat): ∀(rows:List (List Value)),(∀r∈rows,r.length=k)->rows.flatten.length=rows.length * k
 | [],_=>by simp
 | r :: rows,h=>by
  rw[List.flatten_cons,List.length_append,Z0I k rows (fun x hx=>h x (List.mem_cons_of_mem _ hx)),h r (List.mem_cons_self ..),List.length_cons,Nat.add_mul]
  omega
theorem Uz (k:Nat): ∀(rows:List (List Value)),(∀r∈rows,r.length=k) -> ∀(i:Nat) (r:List Value),rows[i]? = some r -> ∀(j:Nat),j < k->rows.flatten[i * k+j]? = r[j]?
 | [],_,i,r,hi,_,_=>by simp at hi
 | x :: rows,h,0,r,hi,j,hj=>by
  have:x=r:=by simpa using hi
  subst this
  rw[List.flatten_cons,Nat.zero_mul,Nat.zero_add,List.getElem?_append_left (by rw[h x (List.mem_cons_self ..)];exact hj)]
 | x :: rows,h,i+1,r,hi,j,hj=>by
  have hi':rows[i]? = some r:=by simpa using hi
  rw[List.flatten_cons,List.getElem?_append_right (by rw[h x (List.mem_cons_self ..),Nat.add_mul];omega),h x (List.mem_cons_self ..),
   show(i+1) * k+j - k=i * k+j by rw[Nat.add_mul];omega]
  exact Uz k rows (fun y hy=>h y (List.mem_cons_of_mem _ hy)) i r hi' j hj
theorem Z7Z {V:Type} [Inhabited V](row:V->List Value)(k:Nat)(hlen : ∀x,(row x).length=k)(ys:List V)(t:Nat)(ht:t < ys.length * k):(ys.map row).flatten[t]? = some (flatK row k ys.toArray)[t]! := by
 have hk:0 < k:=Nat.pos_of_ne_zero (fun e=>by subst e;simp at ht);have hi:t / k < ys.length:=by rw[Nat.div_lt_iff_lt_mul hk];exact ht
 have hj:=Nat.mod_lt t hk;have e:t / k * k+t % k=t:=by rw[Nat.mul_comm];exact Nat.div_add_mod t k
 have h1:=Uz k (ys.map row) (by intro r hr;obtain⟨x,_,rfl⟩:=List.mem_map.1 hr;exact hlen x) (t / k) (row ys[t / k]) (by rw[List.getElem?_map,List.getElem?_eq_getElem hi];rfl) (t % k) hj;rw[e]at h1;rw[h1,get_flatK row k ys.toArray t (by simpa using ht)];have h2:(ys.toArray)[t / k]! = ys[t / k]:=by
  rw[getElem!_pos ys.toArray (t / k) (by simpa using hi)];simp
 rw[h2,List.getElem?_eq_getElem (by rw[hlen];exact hj)];rw[getElem!_pos (row ys[t / k]) (t % k) (by rw[hlen];exact hj)]
theorem Z73 {V:Type} [Inhabited V]{lt:V->V->Bool}{ty:TypeId}{ρ:Ren}(L:SlLaysF0.n6 zq ρ)(k:Nat)(aE : ∀w,(isAgg (ρ.t 24)).run zq w = .ok true w)(zE : ∀w,(Go.sizeOf (ρ.t 24)).run zq w = .ok k w)
  (ho:Ord lt) (row:V->List Value) (hlen : ∀x,(row x).length=k) (hone : ∀x,∀v∈row x,v.oneCell'=true) (cf:V->V->Int) (hlt : ∀x y,lt x y=decide (cf x y < 0)) (fn:Nat)
  (hfn : ∀(args:Y6) (w:World),(callFunc fn args).run zq w = .ok (.enter fn args) w)
  (hcmp : ∀(x y:V) (w:World),Calls zq fn #[.agg (row x).toArray,.agg (row y).toArray] w fun e w'=>e = .returned (.int .i64 (cf x y))/\VB w.heap.size w w')
  (base n c:Nat) (a:zA) (ys:List V) (w:World) (hR:w.ownsRow base ty k (.slice a n c) n (ys.map row).flatten) (hn:ys.length=n) (hsm:n<=1000000):
  Calls zq (ρ.f 6) #[.slice a n c,.func (.func fn) #[] #[]] w fun e w'=>
   e = .returned (.tuple #[]) /\ ∃zs:List V,w'.ownsRow base ty k (.slice a n c) n (zs.map row).flatten/\zs.Perm ys/\zs.Pairwise (fun x y=>lt y x=false)/\Zb (fun k=>Value.ownBlock (.slice a n c)=some k) w w':=by
 rcases hR.2 with ⟨h2,h3⟩ | ⟨g,cap,cur,h2,hbg,hg,hnc,hcm,hcs,htake⟩
 ·simp only[Value.slice.injEq]at h2;obtain⟨rfl,rfl,rfl⟩:=h2;have hy:ys=[]:=List.eq_nil_of_length_eq_zero hn;subst hy;refine(AnyF.slices_SortFunc_none L none 0 _ w).mono ?_;rintro e w' ⟨rfl,rfl⟩;exact⟨rfl,[],hR,List.Perm.refl _,List.Pairwise.nil,Zb.refl _ _⟩
 ·simp only[Value.slice.injEq]at h2;obtain⟨rfl,_,rfl⟩:=h2;have hgl:=Zk hg;have hnk:n * k<=c * k:=Nat.mul_le_mul_right _ hnc;have hlt':ltOf cf=lt:=by funext x y;rw[hlt];rfl
  have hH:HoldsK row k w g 0 ys.toArray:=by
   intro t ht;rw[size_flatK]at ht;have ht':t < ys.length * k:=by simpa using ht
   have h5:=Z7Z row k hlen ys t ht';rw[<-htake,List.getElem?_take,if_pos (by rw[<-hn];exact ht')]at h5;refine⟨?_,by simp[World.frozen?,hg]⟩;simp only[World.cell?,hg,Nat.zero_add,id_eq];simpa using h5
  have hcL:CmpLays zq fn #[] row k cf g 0 ys.toArray.size w:=fun m os dk _ x y=>by
   refine(hcmp x y _).mono ?_;rintro e w' ⟨rfl,hgr⟩;exact⟨rfl,Zc4 hgr⟩
  have hsz:ys.toArray.size=n:=by simpa using hn
  have hcon:=AnyQ.slices_SortFunc L k aE zE row hlen hone cf (by rw[hlt'];exact ZdG ho) fn #[] g 0 c ys.toArray w hfn hcL hH hgl (by rw[hsz];omega);rw[hsz]at hcon;refine hcon.mono ?_;rintro e w' ⟨rfl,d',q,os,hp,hs,rfl⟩;have hds:d'.size=n:=by rw[hp.1,hsz]
  have hdl:d'.toList.length=n:=by simpa using hds
  refine⟨rfl,d'.toList,⟨?_,.inr ⟨g,c,putCells id 0 (flatK row k d') cur,rfl,hbg,?_,hnc,hcm,?_,?_⟩⟩,?_,?_,?_⟩
  ·rw[Z0I k _ (by intro r hr;obtain⟨x,_,rfl⟩:=List.mem_map.1 hr;exact hlen x),List.length_map,hdl]
  ·simp only[sortWorldK,grow,putRowK,putRow,mapBlock,Sort.ahead];rw[Array.getElem?_append_left (by simpa using hgl),Array.getElem?_modify,if_pos rfl,hg];rfl
  ·rw[<-hcs];simp[putCells]
  ·apply List.ext_getElem?;intro t;rw[List.getElem?_take];by_cases ht:t < n * k
   ·rw[if_pos ht];have h5:=Z7Z row k hlen d'.toList t (by rw[hdl];exact ht);rw[h5];have htc:t < cur.size:=by rw[hcs];omega
    simp only[putCells,Array.getElem?_toList,Array.getElem?_mapIdx,Array.getElem?_eq_getElem htc,Option.map_some];rw[if_pos ⟨Nat.zero_le _,by rw[size_flatK,hds,Nat.zero_add];exact ht⟩];simp
   ·rw[if_neg ht,List.getElem?_eq_none];rw[Z0I k _ (by intro r hr;obtain⟨x,_,rfl⟩:=List.mem_map.1 hr;exact hlen x),List.length_map,hdl];omega
  ·have h6:=hp.2.2;have h7:d'.extract 0 n=d':=by rw[<-hds];simp
   have h8:ys.toArray.extract 0 n=ys.toArray:=by rw[<-hsz];simp
   rw[h7,h8]at h6;simpa using h6
  ·rw[hlt']at hs;rw[List.pairwise_iff_getElem];intro i j hi hj hij;have h9:=hs i j (Nat.zero_le _) hij (by rw[hdl]at hj;exact hj);rw[getElem!_pos d' j (by simpa using hj),getElem!_pos d' i (by simpa using hi)]at h9;simpa using h9
  ·refine⟨rfl,rfl,rfl,by simp[sortWorldK,grow,putRowK,putRow,mapBlock,Sort.ahead],fun q' hq' hne => ?_⟩;have hqg:g≠q':=fun e=>hne (by rw[<-e];rfl);simp only[sortWorldK,grow,putRowK,putRow,mapBlock,Sort.ahead];rw[Array.getElem?_append_left (by simpa using hq'),Array.getElem?_modify,if_neg hqg]
theorem Z6c {V:Type} [Inhabited V]{lt:V->V->Bool}(ho:Ord lt)(row:V->List Value)(hlen : ∀x,(row x).length=19)(hone : ∀x,∀v∈row x,v.oneCell'=true)(cf:V->V->Int)(hlt : ∀x y,lt x y=decide (cf x y < 0))(fn:Nat)
  (hfn : ∀(args:Y6) (w:World),(callFunc fn args).run zq w = .ok (.enter fn args) w)
  (hcmp : ∀(x y:V) (w:World),Calls zq fn #[.agg (row x).toArray,.agg (row y).toArray] w fun e w'=>e = .returned (.int .i64 (cf x y))/\VB w.heap.size w w')
  (base n c:Nat) (a:zA) (ys:List V) (w:World) (hR:w.ownsRow base 47 19 (.slice a n c) n (ys.map row).flatten) (hn:ys.length=n) (hsm:n<=1000000):
  Calls zq 221 #[.slice a n c,.func (.func fn) #[] #[]] w fun e w'=>
   e = .returned (.tuple #[]) /\ ∃zs:List V,w'.ownsRow base 47 19 (.slice a n c) n (zs.map row).flatten/\zs.Perm ys/\zs.Pairwise (fun x y=>lt y x=false)/\Zb (fun k=>Value.ownBlock (.slice a n c)=some k) w w':=
 Z73 Tryz.sortNote 19 Tryz.isAgg47 Tryz.sizeOf47 ho row hlen hone cf hlt fn hfn hcmp base n c a ys w hR hn hsm
theorem zx {V:Type} [Inhabited V]{lt:V->V->Bool}(ho:Ord lt)(row:V->List Value)(hlen : ∀x,(row x).length=2)(hone : ∀x,∀v∈row x,v.oneCell'=true)(cf:V->V->Int)(hlt : ∀x y,lt x y=decide (cf x y < 0))(fn:Nat)
  (hfn : ∀(args:Y6) (w:World),(callFunc fn args).run zq w = .ok (.enter fn args) w)
  (hcmp : ∀(x y:V) (w:World),Calls zq fn #[.agg (row x).toArray,.agg (row y).toArray] w fun e w'=>e = .returned (.int .i64 (cf x y))/\VB w.heap.size w w')
  (base n c:Nat) (a:zA) (ys:List V) (w:World) (hR:w.ownsRow base 45 2 (.slice a n c) n (ys.map row).flatten) (hn:ys.length=n) (hsm:n<=1000000):
  Calls zq 170 #[.slice a n c,.func (.func fn) #[] #[]] w fun e w'=>
   e = .returned (.tuple #[]) /\ ∃zs:List V,w'.ownsRow base 45 2 (.slice a n c) n (zs.map row).flatten/\zs.Perm ys/\zs.Pairwise (fun x y=>lt y x=false)/\Zb (fun k=>Value.ownBlock (.slice a n c)=some k) w w':=
 Z73 Tryz.sortName 2 Tryz.isAgg45 Tryz.sizeOf45 ho row hlen hone cf hlt fn hfn hcmp base n c a ys w hR hn hsm
structure Xv where
 nm:Nm
 x:LN
def Xv.cells (e:Xv):List Value:=[.int .i64 e.nm.1,.int .i64 e.nm.2] ++ e.x.n.cells e.x.sa e.x.sc
def Jv (e:Xv):Y6:=e.cells.toArray
theorem Z6G (e:Xv): ∀v∈e.cells,v.oneCell'=true:=by
 intro v hv;simp only[Xv.cells,List.cons_append,List.nil_append,List.mem_cons]at hv;rcases hv with rfl | rfl | hv
 ·rfl
 ·rfl
 ·exact e.x.n.cells_one _ _ v hv
def Qp (W:World)(a:zA)(n c:Nat)(es:List Xv):Prop:=
 es.length=n/\n<=c/\c<=maxLen/\(c=0 \/ ∃b off,a=some ⟨b,off,none⟩ /\ ∀i x,es[i]? = some x->W.rangeAt b (off+i * 21) x.cells)
theorem Qp.below {W W':World}{a:zA}{n c:Nat}{l:List Xv}(h:Qp W a n c l)(hb:Below W.heap.size W W'):Qp W' a n c l:=by
 refine⟨h.1,h.2.1,h.2.2.1,h.2.2.2.imp id ?_⟩;rintro⟨b,off,rfl,h4⟩;exact⟨b,off,rfl,fun i x hx=>Yv (h4 i x hx) hb⟩
theorem Qp.at {W:World}{a:zA}{n c:Nat}{l:List Xv}(h:Qp W a n c l)(h0:0 < n): ∃b off,a=some ⟨b,off,none⟩ /\ ∀i x,l[i]? = some x->W.rangeAt b (off+i * 21) x.cells:=by
 rcases h.2.2.2 with h4 | h4
 ·have:=h.2.1;omega
 ·exact h4
theorem Qp.maxn {W:World}{a:zA}{n c:Nat}{l:List Xv}(h:Qp W a n c l):n<=9223372036854775807:=by
 have h1:=h.2.1;have h2:=h.2.2.1;unfold maxLen at h2;omega
theorem Yi {t e:TypeId}{k b off n c j o:Nat}{W:World}(ht:zq.underlying t=some (.slice e))(hk:(zq.info? e).map (·.size)=some k)(hj:j < n)(ho:off+j * k=o):
  (Instr.indexAt t (.slice (some ⟨b,off,none⟩) n c) (.int .i64 (j:Int))).run zq W = .ok (.pointer (some ⟨b,o,none⟩)) W:=by
 subst ho;cases hq:zq.info? e with
 | none=>simp[hq]at hk
 | some i=>
  simp only[hq,Option.map_some,Option.some.injEq]at hk;simp[Instr.indexAt,run_underlying ht,Instr.sureAddr,asIntOf,sizeOf,typeInfo,hq,hk,Addr.add,hj]
def Z0D (es:List Xv)(p:Xv->Bool):Int:=match es.findIdx? p with | some i=>(i:Int) | none => -1
theorem Zd4 {es:List Xv}{p:Xv->Bool}{k:Nat}{x:Xv}(hx:es[k]? = some x)(hp:p x=true)(hb : ∀j y,j < k->es[j]? = some y->p y=false):Z0D es p=k:=by
 have:es.findIdx? p=some k:=by
  rw[List.findIdx?_eq_some_iff_getElem];obtain⟨h1,rfl⟩:=List.getElem?_eq_some_iff.1 hx;exact⟨h1,hp,fun j hj=>by rw[hb j _ hj (List.getElem?_eq_getElem (by omega))];decide⟩
 simp[Z0D,this]
theorem ZaA {es:List Xv}{p:Xv->Bool}(hb : ∀j y,j < es.length->es[j]? = some y->p y=false):Z0D es p = -1:=by
 have:es.findIdx? p=none:=by
  rw[List.findIdx?_eq_none_iff];intro x hx;obtain⟨j,h1,h2⟩:=List.getElem_of_mem hx;exact hb j x h1 (by rw[List.getElem?_eq_getElem h1,h2])
 simp[Z0D,this]
theorem Z8P (es:List Xv)(pred:Xv->Bool)(fn:Nat)(cv:Value)(hfn : ∀(args:Y6) (w:World),(callFunc fn args).run zq w = .ok (.enter fn args) w)
  (a:zA) (n c:Nat) (w:World) (hr:Qp w a n c es)
  (hp : ∀e∈es,∀W,Below w.heap.size w W->Calls zq fn #[.agg (Jv e),cv] W fun r W'=>r = .returned (.bool (pred e))/\Below W.heap.size W W'):
  Calls zq 242 #[.slice a n c,.func (.func fn) #[] #[cv]] w fun e w'=>e = .returned (.int .i64 (Z0D es pred))/\Below w.heap.size w w':=by
 have I21:(zq.info? 210).map (·.size)=some 21:=by kernel_rfl
 have hn63:=hr.maxn;have HN:=zH hr.1;have RE:=zH (show ∀W,Below w.heap.size w W->Qp W a n c es from fun W h=>hr.below h);have HPD:=zH hp;clear hr hp;go_enter Tryz.func242,Tryz.ntmps242;go_wp2_with fail;go_loopw [5,8] (fun _ i wr=>∃k:Nat,i = .int .i64 k/\k<=n/\Hid (∀j y,j < k->es[j]? = some y->pred y=false)/\Hid (Below w.heap.size w wr)) (fun _ i _=>n - (intOf i).toNat)
 case atStart=>exact⟨0,rfl,Nat.zero_le _,zH (fun j y h=>by omega),zH (Below.refl _ _)⟩
 case round=>
  obtain⟨k,rfl,hk,HB,B1⟩:=hrel;by_cases hkn:k < n
  ·have t0:decide ((k:Int) < (n:Int))=true:=by simp;omega
   obtain⟨b,off,rfl,hat⟩:=(RE.out _ B1.out).at (show 0 < n by omega);obtain⟨x,Hx⟩ : ∃x,es[k]? = some x:=⟨es[k]'(by rw[HN.out];exact hkn),List.getElem?_eq_getElem (by rw[HN.out];exact hkn)⟩;have HR:=zH (hat k x Hx);obtain⟨o,ho⟩:=zX (off+k * 21);rw[ho.out]at HR;have hi:=fun W=>Yi (W:=W) (c:=c) (b:=b) Tryz.underlying74 I21 hkn ho.out;have hk64:(k:Int)+1<=9223372036854775807:=by omega
   clear hat;go_wp2_with (refine wpList_load_mid rfl 210 _ rfl b o rfl x.cells _ HR.out Tryz.underlying210 rfl (by exact I21) ?_);refine(HPD.out x (List.mem_of_getElem? Hx) _ B1.out).mono ?_;rintro e w2 ⟨rfl,b2⟩;have B2:=zH (B1.out.trans (b2.mono B1.out.size));clear b2 hi t0;cases hpx:pred x with
   | true=>
    go_wp2;go_ret;exact⟨by rw[Zd4 Hx hpx HB.out];rfl,B2.out⟩
   | false=>
    have HPX:=zH hpx;clear hpx;go_wp2;go_roundw
    case rel=>exact⟨k+1,by simp,by omega,zH (fun j y hj hy=>by
     rcases Nat.lt_or_ge j k with h | h
     ·exact HB.out j y h hy
     ·have e:j=k:=by omega
      subst e;rw[Hx]at hy;cases hy;exact HPX.out),B2⟩
    case measure=>simp[intOf];omega
  ·have t0:decide ((k:Int) < (n:Int))=false:=by simp;omega
   go_wp2;go_ret;exact⟨by rw[ZaA (fun j y hj hy=>HB.out j y (by have:=HN.out;omega) hy)];rfl,B1.out⟩
theorem Zeu (e:Xv):(Jv e)[0]? = some (.int .i64 e.nm.1):=rfl
theorem Zet (e:Xv):(Jv e)[1]? = some (.int .i64 e.nm.2):=rfl
def Z0C (h m:Int)(e:Xv):Bool:=decide (e.nm.1=h/\e.nm.2=m)
theorem Z8U (e:Xv)(h m:Int)(q:Nat)(w:World)(hq:w.heap[q]? = some (.cells #[.int .i64 h,.int .i64 m] 45)):
  Calls zq 243 #[.agg (Jv e),.pointer (some ⟨q,0,none⟩)] w fun r w'=>r = .returned (.bool (Z0C h m e))/\Below w.heap.size w w':=by
 have B:=zH (zB w (.cells (Jv e) 210));have hl:=Za w (.cells (Jv e) 210);have c0:=Z6 hl 0 _ (Zeu e);have c1:=Z6 hl 1 _ (Zet e);have hq':=Z7 B.out hq;have d0:=Z6 hq' 0 (.int .i64 h) rfl;have d1:=Z6 hq' 1 (.int .i64 m) rfl;clear hl hq hq';go_enter Tryz.func243,Tryz.ntmps243;go_wp2_with fail
 all_goals
  go_ret;refine⟨?_,B.out⟩;simp[Z0C, *]
theorem ZaE (args:Y6)(w:World):(callFunc 243 args).run zq w = .ok (.enter 243 args) w:=by kernel_rfl
def Z22 (hs:List Xv)(h m:Int):Y6:=if Z0D hs (Z0C h m) < 0 then #[.int .i64 0,.int .i64 3]else #[.int .i64 (Z0D hs (Z0C h m)),.int .i64 0]
theorem Z8T (hs:List Xv)(ha:zA)(hn hc:Nat)(v1 v2:Value)(h m:Int)(w:World)(hr:Qp w ha hn hc hs):
  Calls zq 219 #[.agg #[.slice ha hn hc,v1,v2],.agg #[.int .i64 h,.int .i64 m]] w fun r w'=>r = .returned (.tuple (Z22 hs h m))/\Below w.heap.size w w':=by
 have hmf : ∀(fn:Fn) (first cap:Y6) (w:World),(Instr.makeFunc fn first cap).run zq w = .ok (.func fn first cap) w:=fun _ _ _ _=>rfl;have B:=zH ((zB w (.cells #[.slice ha hn hc,v1,v2] 77)).alloc (by simp) (.cells #[.int .i64 h,.int .i64 m] 45));have g0:=zH (Z9 _ (.cells #[.int .i64 h,.int .i64 m] 45) _ _ (Za w (.cells #[.slice ha hn hc,v1,v2] 77)));have g1:=zH (Zy (w.alloc (.cells #[.slice ha hn hc,v1,v2] 77)) (.cells #[.int .i64 h,.int .i64 m] 45) (w.heap.size+1) (by simp));have RE:=zH (hr.below B.out);clear hr;go_enter Tryz.func219,Tryz.ntmps219;go_upto_region 1 with fail;obtain⟨p0,hp0⟩:=zX (w.heap.size);obtain⟨p1,hp1⟩:=zX (p0+1);rw[hp0.out]at g0 g1 ⊢;rw[hp1.out]at g1 ⊢;generalize (w.alloc (.cells #[.slice ha hn hc,v1,v2] 77)).alloc (.cells #[.int .i64 h,.int .i64 m] 45)=W0 at *;have c0:=Z6 g0.out 0 (.slice ha hn hc) rfl;go_wp2_with fail;refine(Z8P hs (Z0C h m) 243 (.pointer (some ⟨p1,0,none⟩)) ZaE ha hn hc W0 RE.out (fun e _ W hb=>Z8U e h m p1 W (Z7 hb g1.out))).mono ?_;rintro e W1 ⟨rfl,b1⟩;have B1:=zH (B.out.trans (b1.mono B.out.size));clear b1 c0;obtain⟨k,hk⟩:=zX (Z0D hs (Z0C h m));have HV:=zH (show Z22 hs h m=if k < 0 then #[.int .i64 0,.int .i64 3]else #[.int .i64 k,.int .i64 0]by unfold Z22;rw[hk.out]);rw[hk.out];by_cases hlt:k < 0
 focus
  have t0:decide (k < 0)=true:=by simp[hlt]
  rw[if_pos hlt]at HV
 rotate_left
 focus
  have t0:decide (k < 0)=false:=by simp;omega
  rw[if_neg hlt]at HV
 all_goals
  have hkl:=zH hlt;clear hlt;go_wp2_with fail;go_ret2;exact⟨by rw[HV.out];rfl,B1.out⟩
theorem Z5x (n:Z8)(sa ta:zA)(sc tc:Nat):(Z5 n sa sc).setIfInBounds 15 (.slice ta n.strokes.length tc)=Z5 n ta tc:=rfl
section
attribute [local go_sem] XY
theorem QU (n:Z8)(sa:zA)(sc:Nat)(w:World)(hs:Xs w sa n.strokes.length sc n.strokes)(hl:n.strokes.length<=1000000000):
  Calls zq 66 #[.agg (Z5 n sa sc)] w fun e w' => ∃ta tc,e = .returned (.agg (Z5 n ta tc))/\w'.ownsRow w.heap.size 3 1 (.slice ta n.strokes.length tc) n.strokes.length (n.strokes.map Ys)/\Below w.heap.size w w':=by
 have I43:=zH zI;go_enter Tryz.func66,Tryz.ntmps66;go_upto_region 1 with fail;rw[<-YS];have g0:=Z9 _ (.cells (Z5 Zh none 0) 47) _ _ (Za w (.cells (Z5 n sa sc) 47));have g1:=Zy (w.alloc (.cells (Z5 n sa sc) 47)) (.cells (Z5 Zh none 0) 47) (w.heap.size+1) (by simp);have bb:Below w.heap.size w ((w.alloc (.cells (Z5 n sa sc) 47)).alloc (.cells (Z5 Zh none 0) 47)):=(zB _ _).alloc (by simp) _;have L0:Hid (Z6R w ((w.alloc (.cells (Z5 n sa sc) 47)).alloc (.cells (Z5 Zh none 0) 47)) w.heap.size (w.heap.size+1) (Z5 n sa sc) (Z5 Zh none 0) 47):=zH ⟨g0,g1,bb,by omega⟩;have RI:=zH (hs.below bb);clear g0 g1 bb hs;generalize (w.alloc (.cells (Z5 n sa sc) 47)).alloc (.cells (Z5 Zh none 0) 47)=W2 at *;generalize hp0:w.heap.size=p0 at *;generalize hp1:p0+1=p1 at *;have HP0:=zH hp0;clear hp0 hp1;obtain⟨m,hm⟩:=zX (n.strokes.length);have c15:W2.cell? ⟨p0,15,none⟩=some (.slice sa m sc):=by rw[<-hm.out];exact Z6 L0.out.e1 15 _ rfl
 rw[hm.out]at RI hl;go_wp2_with fail;refine(Z1A sa m sc n.strokes W2 (by omega) RI.out).mono ?_;rintro e W3 ⟨ta,tc,rfl,ho,b3⟩;have L3:=zH (L0.out.below b3);have O3:=zH (Zx ho (show p0<=W2.heap.size by have:=Zk L0.out.e1;omega));clear ho b3 c15;have c15:=Z6 L3.out.e1 15 _ rfl;have f15:=Zq L3.out.e1 15;have T3:=zH (Zo O3.out L3.out.e1 (fun cur h=>by simp at h));have G3:=Zn W3 p0 15 (.slice ta m tc);have E3:Hid ((W3.setCell ⟨p0,15,none⟩ (.slice ta m tc)).heap[p0]? = some (.cells (Z5 n ta tc) 47)):=zH (by
  have:=ZM L3.out.e1 15 (.slice ta m tc);rw[<-hm.out,Z5x]at this;rw[<-hm.out];exact this)
 have E4:Hid ((W3.setCell ⟨p0,15,none⟩ (.slice ta m tc)).heap[p1]? = some (.cells (Z5 Zh none 0) 47)):=zH (Zc G3 L3.out.e2 (fun e=>by have:=L3.out.lt;have e2:=Option.some.inj e;omega));go_upto_region 2 with fail;have B3:Hid (Below p0 w (W3.setCell ⟨p0,15,none⟩ (.slice ta m tc))):=zH (L3.out.b.grown G3 (by have:=Zk L3.out.e1;omega) (fun q hq=>by cases hq;exact Nat.le_refl _));have U3:=zH (Zo O3.out L3.out.e2 (fun cur h=>by simp at h));have O4:=zH (Ze (S:=fun k=>k=p0) O3.out (Zb.of_grown G3 (fun k e=>by cases e;rfl)) (fun b hb e=>T3.out (by rw[hb,e])));have hlt:=L3.out.lt;clear c15 f15 G3;generalize W3.setCell ⟨p0,15,none⟩ (.slice ta m tc)=W4 at *;have oneN:=Zm n ta tc;go_wp2_with (first
  |(refine zL p0 E3.out ?_)
  |(refine zN p1 (Z5 n ta tc) E4.out ?_))
 go_wp2_with fail;have hr:=Yz W4 p1 _ (Z5 n ta tc) _ _ E4.out;refine bodyPost_ret (results_cell_row rfl _ _ p1 47 (Z5 n ta tc) (0,0) _ rfl hr Tryz.underlying47 rfl (I43.out _ _ _)) rfl ?_;have G4:=YI W4 p1 (Z5 n ta tc);have hp1:p1 < W4.heap.size:=Zk E4.out;refine⟨ta,tc,rfl,?_,?_⟩
 ·rw[HP0.out,hm.out];exact Ze (S:=fun k=>k=p1) O4.out (Zb.of_grown G4 (fun k e=>by cases e;rfl)) (fun b hb e=>U3.out (by rw[hb,e]))
 ·rw[HP0.out];exact B3.out.grown G4 (by omega) (fun q hq=>by cases hq;omega)
end
def Jg (r j:Z8):Z8 := { j with house:=r.house,num:=r.num,clock:=r.clock,kind:=j.fix,fix:=0,refH:=if j.fix=2 then r.refH else 0,refN:=if j.fix=2 then r.refN else 0 }
structure Z2e (w W:World)(p0 p1 p2 p3:Nat)(A B C D:Y6):Prop where
 e0:W.heap[p0]? = some (.cells A 47)
 e1:W.heap[p1]? = some (.cells B 47)
 e2:W.heap[p2]? = some (.cells C 47)
 e3:W.heap[p3]? = some (.cells D 47)
 b:Below p0 w W
 lt:p0 < p1/\p1 < p2/\p2 < p3
theorem Z2e.below {w W W':World}{p0 p1 p2 p3:Nat}{A B C D:Y6}(h:Z2e w W p0 p1 p2 p3 A B C D)(hb:Below W.heap.size W W'):Z2e w W' p0 p1 p2 p3 A B C D:=
 ⟨Z7 hb h.e0,Z7 hb h.e1,Z7 hb h.e2,Z7 hb h.e3,h.b.trans (hb.mono (by have:=Zk h.e0;omega)),h.lt⟩
theorem Z2e.put {w W:World}{p0 p1 p2 p3:Nat}{A B C D:Y6}(h:Z2e w W p0 p1 p2 p3 A B C D)(j:Nat)(v:Value):Z2e w (W.setCell ⟨p3,j,none⟩ v) p0 p1 p2 p3 A B C (D.setIfInBounds j v):=by
 have g:=Zn W p3 j v;have hl:=h.lt;have hz:=Zk h.e0;exact⟨Zc g h.e0 (fun e=>by have:=Option.some.inj e;omega),Zc g h.e1 (fun e=>by have:=Option.some.inj e;omega),Zc g h.e2 (fun e=>by have:=Option.some.inj e;omega),ZM h.e3 j v,
  h.b.grown g (by omega) (fun q hq=>by cases hq;omega),h.lt⟩
theorem Qw (p2:Nat)(W:World)(p3 o:Nat)(v:Value):Zb (fun k=>k=p3\/k=p2) W (W.setCell ⟨p3,o,none⟩ v):=Zb.of_grown (Zn W p3 o v) (fun k e=>by cases e;exact .inl rfl)
theorem Z9R {W:World}{p:Nat}{n:Z8}{a:zA}{c:Nat}{t:TypeId}(h:W.heap[p]? = some (.cells (Z5 n a c) t (0,0))):W.there p 16 2:=by
 intro j hj;have e:j=0\/j=1:=by omega
 rcases e with rfl | rfl
 ·exact⟨by rw[Z6 h 16 _ rfl];rfl,Zq h 16⟩
 ·exact⟨by rw[Z6 h 17 _ rfl];rfl,Zq h 17⟩
section
attribute [local go_sem] ZY YV Jd XU Jl Jk JE
theorem Z99 (r j:Z8)(sa:zA)(sc:Nat)(ja:zA)(jc:Nat)(w:World)(hs:Xs w ja j.strokes.length jc j.strokes)(hl:j.strokes.length<=1000000000):
  Calls zq 220 #[.agg (Z5 r sa sc),.agg (Z5 j ja jc)] w fun e w' => ∃ta tc,e = .returned (.agg (Z5 (Jg r j) ta tc))/\w'.ownsRow w.heap.size 3 1 (.slice ta j.strokes.length tc) j.strokes.length (j.strokes.map Ys)/\Below w.heap.size w w':=by
 have I43:=zH zI;go_enter Tryz.func220,Tryz.ntmps220;go_upto_region 1 with fail;rw[<-YS];have hb1:Below w.heap.size w (((w.alloc (.cells (Z5 r sa sc) 47)).alloc (.cells (Z5 j ja jc) 47)).alloc (.cells (Z5 Zh none 0) 47)):=((zB _ _).alloc (by simp) _).alloc (by simp;omega) _;have g0:=Z9 _ (.cells (Z5 Zh none 0) 47) _ _ (Z9 _ (.cells (Z5 j ja jc) 47) _ _ (Za w (.cells (Z5 r sa sc) 47)));have g1:=Z9 _ (.cells (Z5 Zh none 0) 47) _ _ (Zy (w.alloc (.cells (Z5 r sa sc) 47)) (.cells (Z5 j ja jc) 47) (w.heap.size+1) (by simp));have g2:=Zy ((w.alloc (.cells (Z5 r sa sc) 47)).alloc (.cells (Z5 j ja jc) 47)) (.cells (Z5 Zh none 0) 47) (w.heap.size+1+1) (by simp);have RI:=zH (fun W (h:Below w.heap.size w W)=>hs.below h);have E0:=zH g0;have E1:=zH g1;have E2:=zH g2;have B0:=zH hb1;clear g0 g1 g2 hb1 hs;generalize ((w.alloc (.cells (Z5 r sa sc) 47)).alloc (.cells (Z5 j ja jc) 47)).alloc (.cells (Z5 Zh none 0) 47)=W0 at *;generalize hp0:w.heap.size=p0 at *;generalize hp1:p0+1=p1 at *;generalize hp2:p1+1=p2 at *;have HP0:=zH hp0;have HP:=zH (show p0 < p1/\p1 < p2 by omega);clear hp0 hp1 hp2;go_wp2_with (refine zL p1 E1.out ?_);refine(QU j ja jc W0 (RI.out _ B0.out) hl).mono ?_;rintro e W1 ⟨ta,tc,rfl,ho,b1⟩;have hz0:=Zk E2.out;have F0:Hid (W1.heap[p0]? = some (.cells (Z5 r sa sc) 47)):=zH (Z7 b1 E0.out);have F1:Hid (W1.heap[p1]? = some (.cells (Z5 j ja jc) 47)):=zH (Z7 b1 E1.out);have F2:Hid (W1.heap[p2]? = some (.cells (Z5 Zh none 0) 47)):=zH (Z7 b1 E2.out);have B1:=zH (B0.out.trans (b1.mono (by have:=HP.out;omega)));have O1:=zH (Zx ho (show p2+1<=W0.heap.size from hz0));clear ho b1 hz0;go_upto_region 2 with (refine zP W1 W1.heap.size (Z5 j ta tc) ?_);have b2:Below W1.heap.size W1 (W1.alloc (.cells (Z5 j ta tc) 47)):=zB _ _;have O2:=zH (Zd O1.out b2);have L2:Hid (Z2e w (W1.alloc (.cells (Z5 j ta tc) 47)) p0 p1 p2 W1.heap.size (Z5 r sa sc) (Z5 j ja jc) (Z5 Zh none 0) (Z5 j ta tc)):=
  zH ⟨Z7 b2 F0.out,Z7 b2 F1.out,Z7 b2 F2.out,Za _ _,B1.out.trans (b2.mono (by have:=Zk F0.out;omega)),HP.out.1,HP.out.2,Zk F2.out⟩
 have OB:Hid (∀W,Zb (fun k=>k=W1.heap.size\/k=p2) (W1.alloc (.cells (Z5 j ta tc) 47)) W->W.ownsRow (p2+1) 3 1 (.slice ta j.strokes.length tc) j.strokes.length (j.strokes.map Ys)):=zH (fun W h=>Ze O2.out h (fun b hb e=>by
  rcases e with e | e
  ·exact Zo O2.out L2.out.e3 (fun cur h=>by simp at h) (by rw[hb,e])
  ·exact Zo O2.out L2.out.e2 (fun cur h=>by simp at h) (by rw[hb,e])))
 clear b2 O1 O2 F0 F1 F2 B1 E0 E1 E2 B0;obtain⟨p3,hp3⟩:=zX (W1.heap.size);rw[hp3.out]at L2 OB ⊢;generalize W1.alloc (.cells (Z5 j ta tc) 47)=W2 at *;refine zD (fun w'=>w'.heap[p0]? = some (.cells (Z5 r sa sc) 47)/\w'.heap[p1]? = some (.cells (Z5 j ja jc) 47)) (show W2.drew.heap[p0]? = _/\W2.drew.heap[p1]? = _ from⟨L2.out.e0,L2.out.e1⟩) fun hh=>?_;have M0:=zH (L2.out.below (zd W2));clear L2;have OBd:Hid (∀W,Zb (fun k=>k=p3\/k=p2) W2.drew W->W.ownsRow (p2+1) 3 1 (.slice ta j.strokes.length tc) j.strokes.length (j.strokes.map Ys)):=zH (fun W h=>OB.out W ((Zb.of_below (zd W2)).trans h));clear OB;have T0:Hid (Zb (fun k=>k=p3\/k=p2) W2.drew W2.drew):=zH (Zb.refl _ _);generalize W2.drew=V at *;refine zw 0 rfl p0 0 ?_;refine zS 1 rfl (.int .i64 r.house) (fun W h=>by have hc:=Z6 h.1 0 (.int .i64 r.house) rfl;go_simp) ?_;refine zw 2 rfl p0 1 ?_;refine zS 3 rfl (.int .i64 r.num) (fun W h=>by have hc:=Z6 h.1 1 (.int .i64 r.num) rfl;go_simp) ?_;refine zw 4 rfl p0 2 ?_;refine zS 5 rfl (.int .i64 r.clock) (fun W h=>by have hc:=Z6 h.1 2 (.int .i64 r.clock) rfl;go_simp) ?_;refine zw 6 rfl p1 18 ?_;refine zS 7 rfl (.int .i64 j.fix) (fun W h=>by have hc:=Z6 h.2 18 (.int .i64 j.fix) rfl;go_simp) ?_;refine zW 8 rfl (.agg #[.int .i64 0,.int .i64 0]) ?_;refine zw 9 rfl p3 0 ?_;refine zR 10 rfl fun K hK=>?_;have hc:=Z6 M0.out.e3 0 _ rfl;have hf:=Zq M0.out.e3 0;have M1:Hid (Z2e w (V.setCell ⟨p3,0,none⟩ (.int .i64 r.house)) p0 p1 p2 p3 (Z5 r sa sc) (Z5 j ja jc) (Z5 Zh none 0) (Z5 { j with house:=r.house } ta tc)):=zH (M0.out.put 0 (.int .i64 r.house));have T1:=zH (T0.out.trans (Qw p2 V p3 0 (.int .i64 r.house)));go_simp;clear hc hf;generalize V.setCell ⟨p3,0,none⟩ (.int .i64 r.house)=V0 at *;refine zK hK ⟨M1.out.e0,M1.out.e1⟩ fun hh=>?_;clear hK K;refine zw 11 rfl p3 1 ?_;refine zR 12 rfl fun K hK=>?_;have hc:=Z6 M1.out.e3 1 _ rfl;have hf:=Zq M1.out.e3 1;have M2:Hid (Z2e w (V0.setCell ⟨p3,1,none⟩ (.int .i64 r.num)) p0 p1 p2 p3 (Z5 r sa sc) (Z5 j ja jc) (Z5 Zh none 0) (Z5 { j with house:=r.house,num:=r.num } ta tc)):=zH (M1.out.put 1 (.int .i64 r.num))
 have T2:=zH (T1.out.trans (Qw p2 V0 p3 1 (.int .i64 r.num)));go_simp;clear hc hf;generalize V0.setCell ⟨p3,1,none⟩ (.int .i64 r.num)=V1 at *;refine zK hK ⟨M2.out.e0,M2.out.e1⟩ fun hh=>?_;clear hK K;refine zw 13 rfl p3 2 ?_;refine zR 14 rfl fun K hK=>?_;have hc:=Z6 M2.out.e3 2 _ rfl;have hf:=Zq M2.out.e3 2;have M3:Hid (Z2e w (V1.setCell ⟨p3,2,none⟩ (.int .i64 r.clock)) p0 p1 p2 p3 (Z5 r sa sc) (Z5 j ja jc) (Z5 Zh none 0) (Z5 { j with house:=r.house,num:=r.num,clock:=r.clock } ta tc)):=zH (M2.out.put 2 (.int .i64 r.clock));have T3:=zH (T2.out.trans (Qw p2 V1 p3 2 (.int .i64 r.clock)));go_simp;clear hc hf;generalize V1.setCell ⟨p3,2,none⟩ (.int .i64 r.clock)=V2 at *;refine zK hK ⟨M3.out.e0,M3.out.e1⟩ fun hh=>?_;clear hK K;refine zw 15 rfl p3 4 ?_;refine zR 16 rfl fun K hK=>?_;have hc:=Z6 M3.out.e3 4 _ rfl;have hf:=Zq M3.out.e3 4;have M4:Hid (Z2e w (V2.setCell ⟨p3,4,none⟩ (.int .i64 j.fix)) p0 p1 p2 p3 (Z5 r sa sc) (Z5 j ja jc) (Z5 Zh none 0) (Z5 { j with house:=r.house,num:=r.num,clock:=r.clock,kind:=j.fix } ta tc)):=zH (M3.out.put 4 (.int .i64 j.fix));have T4:=zH (T3.out.trans (Qw p2 V2 p3 4 (.int .i64 j.fix)));go_simp;clear hc hf;generalize V2.setCell ⟨p3,4,none⟩ (.int .i64 j.fix)=V3 at *;refine zK hK ⟨M4.out.e0,M4.out.e1⟩ fun hh=>?_;clear hK K;refine zw 17 rfl p3 18 ?_;refine zR 18 rfl fun K hK=>?_;have hc:=Z6 M4.out.e3 18 _ rfl;have hf:=Zq M4.out.e3 18;have M5:Hid (Z2e w (V3.setCell ⟨p3,18,none⟩ (.int .i64 0)) p0 p1 p2 p3 (Z5 r sa sc) (Z5 j ja jc) (Z5 Zh none 0) (Z5 { j with house:=r.house,num:=r.num,clock:=r.clock,kind:=j.fix,fix:=0 } ta tc)):=zH (M4.out.put 18 (.int .i64 0));have T5:=zH (T4.out.trans (Qw p2 V3 p3 18 (.int .i64 0)));go_simp;clear hc hf;generalize V3.setCell ⟨p3,18,none⟩ (.int .i64 0)=V4 at *;refine zK hK ⟨M5.out.e0,M5.out.e1⟩ fun hh=>?_;clear hK K;refine zw 19 rfl p3 16 ?_;refine zR 20 rfl fun K hK=>?_;have hth:World.there _ p3 16 2:=Z9R M5.out.e3;have M6:Hid (Z2e w ((V4.setCell ⟨p3,16,none⟩ (.int .i64 0)).setCell ⟨p3,17,none⟩ (.int .i64 0)) p0 p1 p2 p3 (Z5 r sa sc) (Z5 j ja jc) (Z5 Zh none 0) (Z5 { j with house:=r.house,num:=r.num,clock:=r.clock,kind:=j.fix,fix:=0,refH:=0,refN:=0 } ta tc)):=zH ((M5.out.put 16 (.int .i64 0)).put 17 (.int .i64 0))
 have T6:=zH ((T5.out.trans (Qw p2 V4 p3 16 (.int .i64 0))).trans (Qw p2 _ p3 17 (.int .i64 0)));rw[if_pos (by kernel_rfl)];refine wp_store_mid 45 _ _ rfl p3 16 #[.int .i64 0,.int .i64 0] rfl rfl hth (by kernel_rfl) (all_oneCell_toArray (by simp[Value.oneCell'])) ?_;refine zK hK ⟨M6.out.e0,M6.out.e1⟩ fun hh=>?_;clear hK K;refine zE ?_;have hV5:V4.setCells p3 16 #[.int .i64 0,.int .i64 0].toList=(V4.setCell ⟨p3,16,none⟩ (.int .i64 0)).setCell ⟨p3,17,none⟩ (.int .i64 0):=rfl;rw[hV5];clear hV5 T1 T2 T3 T4 T5 M1 M2 M3 M4 M5;generalize (V4.setCell ⟨p3,16,none⟩ (.int .i64 0)).setCell ⟨p3,17,none⟩ (.int .i64 0)=V5 at *;have c4:=Z6 M6.out.e3 4 (.int .i64 j.fix) rfl;by_cases hk:j.fix=2
 ·have t0:(j.fix==2)=true:=by simp[hk]
  have HK:=zH hk;clear hk;have c16:=Z6 M6.out.e0 16 (.int .i64 r.refH) rfl;have c17:=Z6 M6.out.e0 17 (.int .i64 r.refN) rfl;have d16:=Z6 M6.out.e3 16 (.int .i64 0) rfl;have d17:=Z6 M6.out.e3 17 (.int .i64 0) rfl;have f16:=Zq M6.out.e3 16;have f17:=Zq M6.out.e3 17;go_upto_region 5 with fail;have M7:Hid (Z2e w ((V5.setCell ⟨p3,16,none⟩ (.int .i64 r.refH)).setCell ⟨p3,17,none⟩ (.int .i64 r.refN)) p0 p1 p2 p3 (Z5 r sa sc) (Z5 j ja jc) (Z5 Zh none 0) (Z5 { j with house:=r.house,num:=r.num,clock:=r.clock,kind:=j.fix,fix:=0,refH:=r.refH,refN:=r.refN } ta tc)):=zH ((M6.out.put 16 (.int .i64 r.refH)).put 17 (.int .i64 r.refN));have T7:=zH ((T6.out.trans (Qw p2 V5 p3 16 (.int .i64 r.refH))).trans (Qw p2 _ p3 17 (.int .i64 r.refN)));clear c4 c16 c17 d16 d17 f16 f17;generalize (V5.setCell ⟨p3,16,none⟩ (.int .i64 r.refH)).setCell ⟨p3,17,none⟩ (.int .i64 r.refN)=V6 at *;have hq:({ j with house:=r.house,num:=r.num,clock:=r.clock,kind:=j.fix,fix:=0,refH:=r.refH,refN:=r.refN } : Z8)=Jg r j:=by simp[Jg,HK.out]
  rw[hq]at M7;have oneN:=Zm (Jg r j) ta tc;go_wp2_with (first
   |(refine zL p3 M7.out.e3 ?_)
   |(refine zN p2 (Z5 (Jg r j) ta tc) M7.out.e2 ?_))
  go_wp2_with fail;have hr:=Yz V6 p2 _ (Z5 (Jg r j) ta tc) _ _ M7.out.e2;refine bodyPost_ret (results_cell_row rfl _ _ p2 47 (Z5 (Jg r j) ta tc) (0,0) _ rfl hr Tryz.underlying47 rfl (I43.out _ _ _)) rfl ?_;have G4:=YI V6 p2 (Z5 (Jg r j) ta tc);refine⟨ta,tc,rfl,Zx (OBd.out _ (T7.out.trans (Zb.of_grown G4 (fun k e=>by cases e;exact .inr rfl)))) (by have:=HP.out;have:=HP0.out;omega),?_⟩;rw[HP0.out];exact M7.out.b.grown G4 (by have:=Zk M7.out.e0;omega) (fun q hq=>by cases hq;have:=HP.out;omega)
 ·have t0:(j.fix==2)=false:=by simp[hk]
  have hq:({ j with house:=r.house,num:=r.num,clock:=r.clock,kind:=j.fix,fix:=0,refH:=0,refN:=0 } : Z8)=Jg r j:=by simp[Jg,hk]
  rw[hq]at M6;have oneN:=Zm (Jg r j) ta tc;go_wp2_with (first
   |(refine zL p3 M6.out.e3 ?_)
   |(refine zN p2 (Z5 (Jg r j) ta tc) M6.out.e2 ?_))
  go_wp2_with fail;have hr:=Yz V5 p2 _ (Z5 (Jg r j) ta tc) _ _ M6.out.e2;refine bodyPost_ret (results_cell_row rfl _ _ p2 47 (Z5 (Jg r j) ta tc) (0,0) _ rfl hr Tryz.underlying47 rfl (I43.out _ _ _)) rfl ?_;have G4:=YI V5 p2 (Z5 (Jg r j) ta tc);refine⟨ta,tc,rfl,Zx (OBd.out _ (T6.out.trans (Zb.of_grown G4 (fun k e=>by cases e;exact .inr rfl)))) (by have:=HP.out;have:=HP0.out;omega),?_⟩;rw[HP0.out];exact M6.out.b.grown G4 (by have:=Zk M6.out.e0;omega) (fun q hq=>by cases hq;have:=HP.out;omega)
end
def evN (f J:Nm->Option LN)(k:Nm):Option Z8:=match f k with
 | none=>none
 | some x=>if J8 x.n=true then (match J k with | none=>some x.n | some j=>if j.n.kind=6 then none else some (Jg x.n j.n))else none
def ZH (es:List LN):List Value:=(es.map fun x=>x.n.cells x.sa x.sc).flatten
theorem VJ (es:List LN)(x:LN):ZH (es ++ [x])=ZH es ++ x.n.cells x.sa x.sc:=by simp[ZH]
def Z1n (W:World)(base:Nat)(es:List LN):Prop := ∀x∈es,W.ownsRow base 3 1 (.slice x.sa x.n.strokes.length x.sc) x.n.strokes.length (x.n.strokes.map Ys)
theorem Z1n.below {W W':World}{base:Nat}{es:List LN}(h:Z1n W base es)(hb:Below W.heap.size W W'):Z1n W' base es:=fun x hx=>Zd (h x hx) hb
theorem JO {W:World}{b1 b2 e1 e2 k1 k2 n1 n2:Nat}{v1 v2:Value}{x1 x2:List Value}(h1:W.ownsRow b1 e1 k1 v1 n1 x1)(h2:W.ownsRow b2 e2 k2 v2 n2 x2)(hne:e1≠e2):v1.ownBlock=none\/v1.ownBlock≠v2.ownBlock:=by
 rcases h1.2 with ⟨rfl,_⟩ | ⟨g,cap,cur,rfl,_,hg,_⟩
 ·exact .inl rfl
 ·rcases h2.2 with ⟨rfl,_⟩ | ⟨g',cap',cur',rfl,_,hg',_⟩
  ·exact .inr (by simp[Value.ownBlock])
  ·refine .inr (fun e=>?_);simp only[Value.ownBlock,Option.some.injEq]at e;subst e;rw[hg]at hg';cases hg';exact hne rfl
theorem Z3u (w:World)(a0 a1 a2 a3 a4 a5 a6 a7 a8 a9 a10 a11 a12 a13 a14 a15 a16 a17 a18:Value):
  (Instr.buildSlice 24 1 #[(0,.agg #[a0,a1,a2,a3,a4,a5,a6,a7,a8,a9,a10,a11,a12,a13,a14,a15,a16,a17,a18])]).run zq w = .ok (.slice (some ⟨w.heap.size,0,none⟩) 1 1) (w.alloc (.cells #[a0,a1,a2,a3,a4,a5,a6,a7,a8,a9,a10,a11,a12,a13,a14,a15,a16,a17,a18] 47)):=by
 kernel_rfl
theorem Z3V (w:World)(n:Z8)(sa:zA)(sc:Nat):
  (Instr.buildSlice 24 1 #[(0,.agg (Z5 n sa sc))]).run zq w = .ok (.slice (some ⟨w.heap.size,0,none⟩) 1 1) (w.alloc (.cells (Z5 n sa sc) 47)):=Z3u w ..
theorem Z7N:(zq.info? 47).map (fun i=>(i.zero,i.size,i.bytes))=some (some (.agg (Z5 Zh none 0)),19,168):=by kernel_rfl
theorem JD (w:World)(base:Nat)(sa:zA)(sn sc:Nat)(xs:List Value)(hown:w.ownsRow base 47 19 (.slice sa sn sc) sn xs)(xa:zA)(m xc:Nat)(ys:List Value)(hrd:Y3 w 19 xa m xc ys)(h1 : ∀u∈ys,u.oneCell'=true)
  (hbytes:(sn+m) * 168<=140737488355328) (hbase:base<=w.heap.size):
  ∃a' c' w',(Builtin.append_ #[24,24] 24 #[.slice sa sn sc,.slice xa m xc]).run zq w = .ok (.slice a' (sn+m) c') w'/\w'.ownsRow base 47 19 (.slice a' (sn+m) c') (sn+m) (xs ++ ys)/\w.grownBy w' (Value.ownBlock (.slice sa sn sc)):=by
 obtain⟨i,hi,hz0,hz1,hz2⟩:=info_parts Z7N;exact Yu w base 24 24 47 i _ 19 168 Tryz.underlying24 hi hz0 hz1 hz2 rfl (by decide) sa sn sc xs hown xa m xc ys hrd h1 (by unfold maxLen;omega) hbytes hbase
theorem Qb (W:World)(n:Z8)(sa:zA)(sc:Nat):Y3 (W.alloc (.cells (Z5 n sa sc) 47)) 19 (some ⟨W.heap.size,0,none⟩) 1 1 (n.cells sa sc):=
 Y3.of_own (World.ownsRow_lit (base:=W.heap.size) (e:=47) (size:=19) W (Z5 n sa sc) 1 (Nat.le_refl _) (by unfold maxLen;omega) rfl)
structure Z0Q (w wr:World)(bS pL r n:Nat)(f J:Nm->Option LN)(kr ks:List Nm)(cnt:Nat)(a:zA)(c:Nat)(es:List LN):Prop where
 rng:Y8 LN.val wr bS r n f kr cnt
 bel:Below w.heap.size w wr
 lst:wr.heap[pL]? = some (.cells #[.slice a es.length c] 24)
 own:wr.ownsRow w.heap.size 47 19 (.slice a es.length c) es.length (ZH es)
 str:Z1n wr w.heap.size es
 evs:es.map LN.n=ks.filterMap (evN f J)
 pL_ge:w.heap.size<=pL
 r_ge:w.heap.size<=r
section
variable {w wr W':World}{bS pL r n:Nat}{f J:Nm->Option LN}{kr ks:List Nm}{cnt:Nat}{a:zA}{c:Nat}{es:List LN}
theorem Z0Q.below (h:Z0Q w wr bS pL r n f J kr ks cnt a c es)(hb:Below wr.heap.size wr W'):Z0Q w W' bS pL r n f J kr ks cnt a c es:=
 ⟨h.rng.below hb,h.bel.trans (hb.mono h.bel.size),Z7 hb h.lst,Zd h.own hb,h.str.below hb,h.evs,h.pL_ge,h.r_ge⟩
theorem Z0Q.came (h:Z0Q w wr bS pL r n f J kr ks cnt a c es){kh km:Int}{y:LN}{cnt':Nat}(hN:Z60 LN.val wr bS r n cnt f kr kh km y W' cnt'):Z0Q w W' bS pL r n f J (kr ++ [(kh,km)]) ks cnt' a c es:=by
 obtain⟨bb,since,seen,c0,hr⟩:=h.rng.blk;have hb1:=h.lst;refine⟨hN.range,h.bel.grown hN.grown h.bel.size (fun q hq=>by cases hq;exact h.r_ge),Zc hN.grown hb1 ?_,h.own.kept hN.grown (.inr (Zo h.own hr (by simp)).symm),fun x hx=>(h.str x hx).kept hN.grown (.inr (Zo (h.str x hx) hr (by simp)).symm),h.evs,h.pL_ge,h.r_ge⟩;intro e;have e:=Option.some.inj e;subst e;rw[hr]at hb1;cases hb1
theorem Z0Q.skip {k:Nm}(h:Z0Q w wr bS pL r n f J (ks ++ [k]) ks cnt a c es)(hk:evN f J k=none):Z0Q w wr bS pL r n f J (ks ++ [k]) (ks ++ [k]) cnt a c es:=
 ⟨h.rng,h.bel,h.lst,h.own,h.str,by rw[List.filterMap_append,h.evs];simp[hk],h.pL_ge,h.r_ge⟩
theorem Z0Q.app {k:Nm}{x:LN}{a':zA}{c':Nat}(h:Z0Q w wr bS pL r n f J (ks ++ [k]) ks cnt a c es)(hk:evN f J k=some x.n)
  (hx:wr.ownsRow w.heap.size 3 1 (.slice x.sa x.n.strokes.length x.sc) x.n.strokes.length (x.n.strokes.map Ys))
  (ho:W'.ownsRow w.heap.size 47 19 (.slice a' (es.length+1) c') (es.length+1) (ZH es ++ x.n.cells x.sa x.sc)) (hg:wr.grownBy W' (Value.ownBlock (.slice a es.length c))):
  Z0Q w (W'.setCell ⟨pL,0,none⟩ (.slice a' (es.length+1) c')) bS pL r n f J (ks ++ [k]) (ks ++ [k]) cnt a' c' (es ++ [x]):=by
 obtain⟨es2,clock2,hsb⟩:=h.rng.map.blk;obtain⟨bb,since,seen,c0,hr⟩:=h.rng.blk;have hb1:=h.lst;have hb2:=Zc hg hb1 (Zo h.own hb1 (by intro cur;simp));have hr2:=Zc hg hr (Zo h.own hr (by simp));have hs2:=Zc hg hsb (Zo h.own hsb (by simp));have G:=Zn W' pL 0 (.slice a' (es.length+1) c');have nr:some r≠some pL:=fun e=>by rw[Option.some.inj e,hb2]at hr2;cases hr2
 have ns:some bS≠some pL:=fun e=>by rw[Option.some.inj e,hb2]at hs2;cases hs2
 have B1:=h.bel.grown hg h.bel.size (fun q hq=>(h.own.lt q hq).1);have hst : ∀y∈es ++ [x],(W'.setCell ⟨pL,0,none⟩ (.slice a' (es.length+1) c')).ownsRow w.heap.size 3 1 (.slice y.sa y.n.strokes.length y.sc) y.n.strokes.length (y.n.strokes.map Ys):=fun y hy=>by
  have h0:wr.ownsRow w.heap.size 3 1 (.slice y.sa y.n.strokes.length y.sc) y.n.strokes.length (y.n.strokes.map Ys):=by
   rcases List.mem_append.1 hy with hy | hy
   ·exact h.str y hy
   ·rw[List.mem_singleton.1 hy];exact hx
  have h1:=h0.kept hg (JO h0 h.own (by decide));exact h1.kept G (.inr (Zo h1 hb2 (by intro cur;simp)).symm)
 refine⟨h.rng.of_blocks ((Zc G hs2 ns).trans hsb.symm) ((Zc G hr2 nr).trans hr.symm),B1.grown G B1.size (fun q hq=>by cases hq;exact h.pL_ge),?_,?_,hst,?_,h.pL_ge,h.r_ge⟩
 ·have:=ZM hb2 0 (.slice a' (es.length+1) c');rw[this,List.length_append];rfl
 ·rw[VJ,List.length_append];exact ho.kept G (.inr (Zo ho hb2 (by intro cur;simp)).symm)
 ·rw[List.filterMap_append,List.map_append,h.evs];simp[hk]
end
def Z2l (x y:LN):Bool:=decide (JV x.n y.n < 0)
theorem US (a b:Z8):JV a b < 0↔a.day < b.day\/a.day=b.day/\(a.clock < b.clock\/a.clock=b.clock/\(a.house < b.house\/a.house=b.house/\a.num < b.num)):=by
 rw[JV,Z3B,zj,Z13,QR]
theorem ZbA:Ord Z2l:=by
 refine⟨fun x y h=>?_,fun x y z h1 h2=>?_⟩
 ·simp only[Z2l,decide_eq_true_eq,decide_eq_false_iff_not,US]at *;omega
 ·simp only[Z2l,decide_eq_false_iff_not,US]at *;omega
def U5 (x:LN):List Value:=x.n.cells x.sa x.sc
theorem Z2K (x:LN):(U5 x).length=19:=rfl
theorem Z5E (x:LN): ∀v∈U5 x,v.oneCell'=true:=x.n.cells_one x.sa x.sc
theorem ZcP (args:Y6)(w:World):(callFunc 222 args).run zq w = .ok (.enter 222 args) w:=by kernel_rfl
instance:Inhabited LN:=⟨⟨Zh,none,0⟩⟩
theorem Zb8 (x y:LN)(w:World):Calls zq 222 #[.agg (U5 x).toArray,.agg (U5 y).toArray] w fun e w'=>e = .returned (.int .i64 (JV x.n y.n))/\VB w.heap.size w w':=
 Zb7 x.n y.n x.sa x.sc y.sa y.sc w
def Zf3 (w:World)(f J:Nm->Option LN)(e:Ending)(w':World):Prop:=
 ∃pL a c es ks,e = .returned (.func (.func 223) #[] #[.pointer (some ⟨pL,0,none⟩)])/\w'.heap[pL]? = some (.cells #[.slice a es.length c] 24) /\
  w'.ownsRow w.heap.size 47 19 (.slice a es.length c) es.length (ZH es)/\Z1n w' w.heap.size es/\ks.Nodup/\Xt f ks/\(es.map LN.n).Perm (ks.filterMap (evN f J))/\es.Pairwise (fun x y=>Z2l y x=false)/\w.heap.size<=pL
theorem Xg {op:Oper}{a:Act}{w:World}{K:Act->World->Prop}{Q:Exit->Act->World->Prop}(x:Operand)(ho:op.op = .buildSlice 24 1 #[(0,x)])(n:Z8)(sa:zA)(sc:Nat)(hx:a.eval x = .agg (Z5 n sa sc))
  (h:K (a.put op.dst (.slice (some ⟨w.heap.size,0,none⟩) 1 1)) (w.alloc (.cells (Z5 n sa sc) 47))):op.wp zq a w K Q:=by
 have e:=Z3V w n sa sc;unfold Oper.wp execOp;simp[ho,hx,e,Result.andThen];exact h
theorem Z0Q.note {w W:World}{bS pL r n:Nat}{f J:Nm->Option LN}{kr ks:List Nm}{cnt:Nat}{a:zA}{c:Nat}{es:List LN}(h:Z0Q w W bS pL r n f J kr ks cnt a c es){p5:Nat}{A B:Y6}
  (hp:W.heap[p5]? = some (.cells A 47)) (hne:Value.ownBlock (.slice a es.length c)≠some p5) (hge:w.heap.size<=p5):Z0Q w (W.setRow p5 B) bS pL r n f J kr ks cnt a c es:=by
 obtain⟨es2,clock2,hsb⟩:=h.rng.map.blk;obtain⟨bb,since,seen,c0,hr⟩:=h.rng.blk;have G:=YI W p5 B;have nr:some r≠some p5:=fun e=>by rw[Option.some.inj e,hp]at hr;cases hr
 have ns:some bS≠some p5:=fun e=>by rw[Option.some.inj e,hp]at hsb;cases hsb
 have nl:some pL≠some p5:=fun e=>by have h1:=h.lst;rw[Option.some.inj e,hp]at h1;cases h1
 exact⟨h.rng.of_blocks ((Zc G hsb ns).trans hsb.symm) ((Zc G hr nr).trans hr.symm),h.bel.grown G h.bel.size (fun q hq=>by cases hq;exact hge),Zc G h.lst nl,h.own.kept G (.inr hne),
  fun x hx=>(h.str x hx).kept G (.inr (Zo (h.str x hx) hp (by intro cur;simp)).symm),h.evs,h.pL_ge,h.r_ge⟩
section
attribute [local go_sem] ZY XU
theorem Z93 (pB bS bJ n m:Nat)(va:zA)(vn vc:Nat)(f J:Nm->Option LN)(w:World)
  (hb:Qh w pB bS bJ va vn vc) (hm:ZZ LN.val w bS n f) (hj:ZZ LN.val w bJ m J) (hfo:FOk f) (hjf : ∀a x,J a=some x -> ∃k,f k=some x)
  (hrd : ∀a x,f a=some x->x.ok w/\x.n.strokes.length<=1000000) (hn:n<=1000):
  Calls zq 193 #[.pointer (some ⟨pB,0,none⟩)] w fun e w'=>Zf3 w f J e w'/\Below w.heap.size w w':=by
 have I43:=zH zI;have FO:=zH hfo;clear hfo;have JF:=zH hjf;clear hjf;have RDF:=zH hrd;clear hrd;have HNn:=zH hn;clear hn;have HBN:=zH hb;clear hb;have HMM:=zH hm;clear hm;have HJJ:=zH hj;clear hj;have B1:=zH (zB w (.cells #[.slice none 0 0] 24));have e0:=Za w (.cells #[.slice none 0 0] 24);go_enter Tryz.func193,Tryz.ntmps193;go_upto_region 2 with fail;obtain⟨pL,hpL⟩:=zX (w.heap.size);rw[hpL.out]at e0 ⊢;have hz1:Hid ((w.alloc (.cells #[.slice none 0 0] 24)).heap.size=w.heap.size+1):=zH (by simp);generalize w.alloc (.cells #[.slice none 0 0] 24)=wa at *;have M1:=HMM.out.below B1.out;have cB0:=Z6 (Z7 B1.out HBN.out) 0 (.map (some bS)) rfl;go_wp2_with (first
  |(at_range;refine Xx _ rfl _ 119 47 rfl Tryz.underlying119 bS n rfl M1 ?_;intro w0 cnt0 hrg0 hg0 hs0)
  | fail)
 go_frame;obtain⟨r,hr⟩:=zX (wa.heap.size);have S0:=zH (show Z0Q w w0 bS pL r n f J [] [] cnt0 none 0 []from
  ⟨by rw[<-hr.out];exact hrg0,B1.out.grown hg0 (by rw[hz1.out];omega) (fun q hq=>by cases hq),Zc hg0 e0 (by simp),World.ownsRow_nil _ _ _ _,(fun x hx=>by cases hx),rfl,by rw[hpL.out];exact Nat.le_refl _,by rw[<-hr.out,hz1.out];omega⟩)
 rw[hr.out];clear hrg0 hg0 hs0 e0 M1 cB0;go_loopw [13] (fun _ wr=>∃(ks:List Nm) (cnt:Nat) (a:zA) (c:Nat) (es:List LN),Hid (Z0Q w wr bS pL r n f J ks ks cnt a c es)) (fun _ wr=>wr.rangeLeft bS r)
 case atStart=>exact⟨_,_,_,_,_,S0⟩
 case round=>
  clear S0;obtain⟨ks,cnt,a,c,es,HS⟩:=hrel;go_upto_region 4 with (first
   |(at_next;refine XV wr rfl _ rfl bS r n cnt ks rfl HS.out.rng ?_ ?_)
   | fail)
  ·intro hall;have HALL:=zH hall;clear hall;have hc:=Z6 HS.out.lst 0 (.slice a es.length c) rfl;have hmf : ∀(fn:Fn) (first cap:Y6) (w:World),(Instr.makeFunc fn first cap).run zq w = .ok (.func fn first cap) w:=fun _ _ _ _=>rfl;have hle:Hid (es.length<=1000000):=zH (by
    have h1:=congrArg List.length HS.out.evs;have h2:=HS.out.rng.count;have h3:=HNn.out;have h4:(ks.filterMap (evN f J)).length<=ks.length:=List.length_filterMap_le _ _;rw[List.length_map]at h1;omega)
   go_wp2_with fail;refine(Z6c (V:=LN) ZbA U5 Z2K Z5E (fun x y=>JV x.n y.n) (fun _ _=>rfl) 222 ZcP Zb8 w.heap.size es.length c a es wr HS.out.own rfl hle.out).mono ?_;rintro e w9 ⟨rfl,zs,ho,hp,hs,hsame⟩;have HO:=zH ho;have HP:=zH hp;have HSo:=zH hs;have HSm:=zH hsame;clear ho hp hs hsame hc;go_wp2;go_ret;have hzl:zs.length=es.length:=HP.out.length_eq;refine⟨⟨pL,a,c,zs,ks,rfl,?_,?_,?_,HS.out.rng.nodup,HALL.out,?_,HSo.out,HS.out.pL_ge⟩,?_⟩
   ·rw[hzl];exact(HSm.out.block pL (Zk HS.out.lst) (fun e=>Zo HS.out.own HS.out.lst (by intro cur;simp) e.symm)).trans HS.out.lst
   ·rw[hzl];exact HO.out
   ·intro x hx;have h0:=HS.out.str x (HP.out.subset hx);exact Ze h0 HSm.out (fun b hb e=>by
     rcases JO h0 HS.out.own (by decide)with h | h
     ·rw[h]at hb;cases hb
     ·exact h (by rw[hb,e]))
   ·rw[<-HS.out.evs];exact HP.out.map _
   ·exact HSm.out.below HS.out.bel HS.out.bel.size (fun k hk=>(HS.out.own.lt k hk).1)
  ·intro kh km y w1 cnt1 HN hen;have HF:=zH HN.out.at_;have HOk:=zH (FO.out _ _ HN.out.at_);have HKok:=zH HN.out.ok;have S1:=zH (HS.out.came HN.out);have HM:=zH (show wr.rangeLeft bS r=cnt from HS.out.rng.left_eq);have HLT:=zH HN.out.lt;clear HS HN;unfold LN.val at hen;go_upto_region 5 with (first
    |(refine Zv (w1.alloc (.cells #[.int .i64 kh,.int .i64 km] 45)) rfl 47 _ _ rfl (w1.heap.size+1) (by simp) _ (Z5 y.n y.sa y.sc) rfl rfl (I43.out _ _ _) rfl (Zm y.n y.sa y.sc) ?_))
   clear hen;have hbt:Below w1.heap.size w1 ((w1.alloc (.cells #[.int .i64 kh,.int .i64 km] 45)).alloc (.cells (Z5 y.n y.sa y.sc) 47)):=(zB _ _).alloc (by simp) _;have CS:=zH (S1.out.below hbt);have CN:=zH (Z9 _ (.cells (Z5 y.n y.sa y.sc) 47) _ _ (Za w1 (.cells #[.int .i64 kh,.int .i64 km] 45)));have CT:=zH (Zy (w1.alloc (.cells #[.int .i64 kh,.int .i64 km] 45)) (.cells (Z5 y.n y.sa y.sc) 47) (w1.heap.size+1) (by simp));obtain⟨p4,hp4⟩:=zX (w1.heap.size);obtain⟨p5,hp5⟩:=zX (p4+1);rw[hp4.out]at CN CT ⊢;rw[hp5.out]at CT ⊢;generalize (w1.alloc (.cells #[.int .i64 kh,.int .i64 km] 45)).alloc (.cells (Z5 y.n y.sa y.sc) 47)=wt at *;have HP5:=zH (show Value.ownBlock (.slice a es.length c)≠some p5 from fun e=>by
    have h1:=(S1.out.own.lt p5 e).2;have h2:=hp4.out;have h3:=hp5.out;omega)
   have HG5:=zH (show w.heap.size<=p5 by
    have h1:=S1.out.bel.size;have h2:=hp4.out;have h3:=hp5.out;omega)
   clear hbt S1;have CQ:=zH (show y.ok wt/\y.n.strokes.length<=1000000 from⟨(RDF.out _ _ HF.out).1.below CS.out.bel,(RDF.out _ _ HF.out).2⟩);have JT:=zH (HJJ.out.below CS.out.bel);cases hJ:J (kh,km)with
   | none=>
    have HJ:=zH hJ;clear hJ;refine zb fun hh=>?_;refine zw 0 rfl pB 0 ?_;refine zw 1 rfl pB 0 ?_;refine zw 2 rfl pB 1 ?_;refine zS 3 rfl (.map (some bJ)) (fun W h=>by have hc:=Z6 (Z7 h (Z7 CS.out.bel HBN.out)) 1 (.map (some bJ)) rfl;go_simp) ?_;refine zS 4 rfl (.agg #[.int .i64 kh,.int .i64 km]) (fun W h=>by have h0:=Z6 (Z7 h CN.out) 0 (.int .i64 kh) rfl;have h1:=Z6 (Z7 h CN.out) 1 (.int .i64 km) rfl;go_simp) ?_;refine zS 5 rfl (.tuple #[.agg (Z5 Zh none 0),.bool false]) (fun W h=>by have hg:(Instr.lookup 106 (.map (some bJ)) (.agg #[.int .i64 kh,.int .i64 km]) true).run zq W = .ok (.tuple #[.agg (Z5 Zh none 0),.bool false]) W:=(by have h2:=XR (t:=106) (JT.out.below h) Tryz.underlying106 (Xc W) kh km HKok.out;rw[HJ.out]at h2;exact h2);go_simp) ?_;refine zW 6 rfl (.tuple #[.agg (Z5 Zh none 0),.bool false]) ?_;refine zW 7 rfl (.agg (Z5 Zh none 0)) ?_;refine zW 8 rfl (.bool false) ?_;refine zR 9 rfl fun K hK=>?_;go_simp;refine zK hK ((zd wt).alloc (Nat.le_refl _) _) fun hh=>?_;clear hK K;refine zR 10 rfl fun K hK=>?_;rw[if_pos (by kernel_rfl)];refine ZT 47 _ _ rfl wt.drew.heap.size _ (Z5 Zh none 0) 47 rfl rfl (Za _ _) (I43.out _ _ _) rfl (Zm _ _ _) ?_;intro w5 h8 hg8 hs8;have b8:Below wt.heap.size wt w5:=((zd wt).alloc (Nat.le_refl _) _).grown hg8 (by simp) (fun q hq=>by cases hq;exact Nat.le_refl _);have C6:Hid (w5.heap[wt.heap.size]? = some (.cells (Z5 Zh none 0) 47)):=zH h8;have B8:=zH b8;clear h8 hg8 hs8 b8;simp only[Act.put,lq0,lq1,lq2];refine zK hK B8.out fun hh=>?_;clear hK K;refine zW 11 rfl (.bool false) ?_;refine zE ?_;obtain⟨p6,hp6⟩:=zX (wt.heap.size);rw[hp6.out]at C6 ⊢;replace CS:=zH (CS.out.below B8.out);replace CT:=zH (Z7 B8.out CT.out);replace CQ:=zH (show y.ok w5/\y.n.strokes.length<=1000000 from⟨CQ.out.1.below B8.out,CQ.out.2⟩);clear B8 CN JT hh;go_wp2_with (first
     |(refine zL p5 CT.out ?_))
    refine(Z27 y.n y.sa y.sc _).mono ?_;rintro e w6 ⟨rfl,b6⟩;replace CS:=zH (CS.out.below b6);replace CT:=zH (Z7 b6 CT.out);replace C6:=zH (Z7 b6 C6.out);replace CQ:=zH (show y.ok w6/\y.n.strokes.length<=1000000 from⟨CQ.out.1.below b6,CQ.out.2⟩);clear b6;cases hd:J8 y.n
    ·have HE:=zH (show evN f J (kh,km)=none by simp[evN,HF.out,hd]);clear hd;go_wp2;go_roundw
     case rel=>exact⟨_,_,_,_,_,zH (CS.out.skip HE.out)⟩
     case measure=>rw[CS.out.rng.left_eq,HM.out];exact HLT.out
    ·have HE:=zH (show evN f J (kh,km)=some y.n by simp[evN,HF.out,hd,HJ.out]);clear hd C6;go_upto_region 10 with fail;refine zp CT.out fun hh=>?_;replace CS:=zH (CS.out.below ((zd w6)));replace CT:=zH (show w6.drew.heap[p5]? = _ from CT.out);replace CQ:=zH (show Xs w6.drew y.sa y.n.strokes.length y.sc y.n.strokes/\y.n.strokes.length<=1000000 from⟨Xs.below CQ.out.1 ((zd w6)),CQ.out.2⟩);refine zT 1 rfl (.agg (Z5 y.n y.sa y.sc)) (zY p5 fun W h=>h) ?_;refine zM [0,2] rfl (fun K hK=>?_) ?_
     focus
      have hc:=Z6 CS.out.lst 0 (.slice a es.length c) rfl;go_simp;clear hc;refine zK hK CT.out fun hh=>?_;clear hK K;refine zR 2 rfl fun K hK=>?_;go_simp;go_at_call 66;refine(QU y.n y.sa y.sc _ CQ.out.1 (by have:=CQ.out.2;omega)).mono ?_;rintro e v8 ⟨ta,tc,rfl,ho,b8⟩;have HO:=zH (Zx ho (show w.heap.size<=_ from CS.out.bel.size));replace CS:=zH (CS.out.below b8);replace CT:=zH (Z7 b8 CT.out);clear ho b8 CQ;dsimp only;refine zK hK CT.out fun hh=>?_;clear hK K;refine zR 3 rfl fun K hK=>?_;rw[if_pos (by kernel_rfl)];refine Xg _ rfl (y.n) ta tc rfl ?_;have b9:Below v8.heap.size v8 (v8.alloc (.cells (Z5 y.n ta tc) 47)):=zB _ _;have CR:=zH (Qb v8 (y.n) ta tc);replace HO:=zH (Zd HO.out b9);replace CS:=zH (CS.out.below b9);replace CT:=zH (Z7 b9 CT.out);clear b9
     rotate_left
     focus
      refine zn fun K hK=>?_;go_simp;go_at_call 66;refine(QU y.n y.sa y.sc _ CQ.out.1 (by have:=CQ.out.2;omega)).mono ?_;rintro e v8 ⟨ta,tc,rfl,ho,b8⟩;have HO:=zH (Zx ho (show w.heap.size<=_ from CS.out.bel.size));replace CS:=zH (CS.out.below b8);replace CT:=zH (Z7 b8 CT.out);clear ho b8 CQ;dsimp only;refine zK hK CT.out fun hh=>?_;clear hK K;refine zM [0,3] rfl (fun K hK=>?_) ?_
      ·have hc:=Z6 CS.out.lst 0 (.slice a es.length c) rfl;go_simp;clear hc;refine zK hK CT.out fun hh=>?_;clear hK K;refine zR 3 rfl fun K hK=>?_;rw[if_pos (by kernel_rfl)];refine Xg _ rfl (y.n) ta tc rfl ?_;have b9:Below v8.heap.size v8 (v8.alloc (.cells (Z5 y.n ta tc) 47)):=zB _ _;have CR:=zH (Qb v8 (y.n) ta tc);replace HO:=zH (Zd HO.out b9);replace CS:=zH (CS.out.below b9);replace CT:=zH (Z7 b9 CT.out);clear b9;refine zK hK CT.out fun hh=>?_;clear hK K;refine zR 4 rfl fun K hK=>?_;obtain⟨a',c',v9,hrun,ho,hg⟩:=JD _ w.heap.size a es.length c _ CS.out.own _ 1 1 _ CR.out (Z8.cells_one _ _ _) (by
        have h1:=congrArg List.length CS.out.evs;have h2:=CS.out.rng.count;have h3:=HNn.out;have h4:(ks.filterMap (evN f J)).length<=ks.length:=List.length_filterMap_le _ _;rw[List.length_map]at h1;rw[List.length_append]at h2;omega) CS.out.bel.size
       have HO3:=zH ho;have HG3:=zH hg;have CL3:=zH (Zc hg CS.out.lst (Zo CS.out.own CS.out.lst (by intro cur;simp)));replace CT:=zH (Zc hg CT.out (fun e=>HP5.out e.symm));clear ho hg;rw[if_pos (by kernel_rfl)];refine Y4 _ _ _ rfl _ _ _ rfl rfl hrun ?_;clear hrun;refine zK hK CT.out fun hh=>?_;clear hK K;refine zR 5 rfl fun K hK=>?_;have hc:=Z6 CL3.out 0 (.slice a es.length c) rfl;have hfz:=Zq CL3.out 0;have S9:=zH (CS.out.app (x:=⟨y.n,ta,tc⟩) HE.out HO.out HO3.out HG3.out);have h5:some p5≠some pL:=fun e=>by
        have h1:=CT.out;rw[Option.some.inj e,CL3.out]at h1;cases h1
       replace CT:=zH (Zc (Zn v9 pL 0 (.slice a' (es.length+1) c')) CT.out h5);go_simp;refine zK hK CT.out fun hh=>?_;clear hK K;refine zE ?_;go_wp2;go_roundw
       case rel=>exact⟨_,_,_,_,_,S9⟩
       case measure=>rw[S9.out.rng.left_eq,HM.out];exact HLT.out
      refine zn fun K hK=>?_;rw[if_pos (by kernel_rfl)];refine Xg _ rfl (y.n) ta tc rfl ?_;have b9:Below v8.heap.size v8 (v8.alloc (.cells (Z5 y.n ta tc) 47)):=zB _ _;have CR:=zH (Qb v8 (y.n) ta tc);replace HO:=zH (Zd HO.out b9);replace CS:=zH (CS.out.below b9);replace CT:=zH (Z7 b9 CT.out);clear b9;refine zK hK CT.out fun hh=>?_;clear hK K;refine zR 0 rfl fun K hK=>?_;have hc:=Z6 CS.out.lst 0 (.slice a es.length c) rfl;go_simp;clear hc
     all_goals
      refine zK hK CT.out fun hh=>?_;clear hK K;refine zR 4 rfl fun K hK=>?_;obtain⟨a',c',v9,hrun,ho,hg⟩:=JD _ w.heap.size a es.length c _ CS.out.own _ 1 1 _ CR.out (Z8.cells_one _ _ _) (by
       have h1:=congrArg List.length CS.out.evs;have h2:=CS.out.rng.count;have h3:=HNn.out;have h4:(ks.filterMap (evN f J)).length<=ks.length:=List.length_filterMap_le _ _;rw[List.length_map]at h1;rw[List.length_append]at h2;omega) CS.out.bel.size
      have HO3:=zH ho;have HG3:=zH hg;have CL3:=zH (Zc hg CS.out.lst (Zo CS.out.own CS.out.lst (by intro cur;simp)));replace CT:=zH (Zc hg CT.out (fun e=>HP5.out e.symm));clear ho hg;rw[if_pos (by kernel_rfl)];refine Y4 _ _ _ rfl _ _ _ rfl rfl hrun ?_;clear hrun;refine zK hK CT.out fun hh=>?_;clear hK K;refine zR 5 rfl fun K hK=>?_;have hc:=Z6 CL3.out 0 (.slice a es.length c) rfl;have hfz:=Zq CL3.out 0;have S9:=zH (CS.out.app (x:=⟨y.n,ta,tc⟩) HE.out HO.out HO3.out HG3.out);have h5:some p5≠some pL:=fun e=>by
       have h1:=CT.out;rw[Option.some.inj e,CL3.out]at h1;cases h1
      replace CT:=zH (Zc (Zn v9 pL 0 (.slice a' (es.length+1) c')) CT.out h5);go_simp;refine zK hK CT.out fun hh=>?_;clear hK K;refine zE ?_;go_wp2;go_roundw
      case rel=>exact⟨_,_,_,_,_,S9⟩
      case measure=>rw[S9.out.rng.left_eq,HM.out];exact HLT.out
   | some z=>
    have HJ:=zH hJ;clear hJ;refine zb fun hh=>?_;refine zw 0 rfl pB 0 ?_;refine zw 1 rfl pB 0 ?_;refine zw 2 rfl pB 1 ?_;refine zS 3 rfl (.map (some bJ)) (fun W h=>by have hc:=Z6 (Z7 h (Z7 CS.out.bel HBN.out)) 1 (.map (some bJ)) rfl;go_simp) ?_;refine zS 4 rfl (.agg #[.int .i64 kh,.int .i64 km]) (fun W h=>by have h0:=Z6 (Z7 h CN.out) 0 (.int .i64 kh) rfl;have h1:=Z6 (Z7 h CN.out) 1 (.int .i64 km) rfl;go_simp) ?_;refine zS 5 rfl (.tuple #[.agg (Z5 z.n z.sa z.sc),.bool true]) (fun W h=>by have hg:(Instr.lookup 106 (.map (some bJ)) (.agg #[.int .i64 kh,.int .i64 km]) true).run zq W = .ok (.tuple #[.agg (Z5 z.n z.sa z.sc),.bool true]) W:=(by have h2:=XR (t:=106) (JT.out.below h) Tryz.underlying106 (Xc W) kh km HKok.out;rw[HJ.out]at h2;exact h2);go_simp) ?_;refine zW 6 rfl (.tuple #[.agg (Z5 z.n z.sa z.sc),.bool true]) ?_;refine zW 7 rfl (.agg (Z5 z.n z.sa z.sc)) ?_;refine zW 8 rfl (.bool true) ?_;refine zR 9 rfl fun K hK=>?_;go_simp;refine zK hK ((zd wt).alloc (Nat.le_refl _) _) fun hh=>?_;clear hK K;refine zR 10 rfl fun K hK=>?_;rw[if_pos (by kernel_rfl)];refine ZT 47 _ _ rfl wt.drew.heap.size _ (Z5 z.n z.sa z.sc) 47 rfl rfl (Za _ _) (I43.out _ _ _) rfl (Zm _ _ _) ?_;intro w5 h8 hg8 hs8;have b8:Below wt.heap.size wt w5:=((zd wt).alloc (Nat.le_refl _) _).grown hg8 (by simp) (fun q hq=>by cases hq;exact Nat.le_refl _);have C6:Hid (w5.heap[wt.heap.size]? = some (.cells (Z5 z.n z.sa z.sc) 47)):=zH h8;have B8:=zH b8;clear h8 hg8 hs8 b8;simp only[Act.put,lq0,lq1,lq2];refine zK hK B8.out fun hh=>?_;clear hK K;refine zW 11 rfl (.bool true) ?_;refine zE ?_;obtain⟨p6,hp6⟩:=zX (wt.heap.size);rw[hp6.out]at C6 ⊢;replace CS:=zH (CS.out.below B8.out);replace CT:=zH (Z7 B8.out CT.out);replace CQ:=zH (show y.ok w5/\y.n.strokes.length<=1000000 from⟨CQ.out.1.below B8.out,CQ.out.2⟩);clear B8 CN JT hh;go_wp2_with (first
     |(refine zL p5 CT.out ?_))
    refine(Z27 y.n y.sa y.sc _).mono ?_;rintro e w6 ⟨rfl,b6⟩;replace CS:=zH (CS.out.below b6);replace CT:=zH (Z7 b6 CT.out);replace C6:=zH (Z7 b6 C6.out);replace CQ:=zH (show y.ok w6/\y.n.strokes.length<=1000000 from⟨CQ.out.1.below b6,CQ.out.2⟩);clear b6;cases hd:J8 y.n
    ·have HE:=zH (show evN f J (kh,km)=none by simp[evN,HF.out,hd]);clear hd;go_wp2;go_roundw
     case rel=>exact⟨_,_,_,_,_,zH (CS.out.skip HE.out)⟩
     case measure=>rw[CS.out.rng.left_eq,HM.out];exact HLT.out
    ·have c4:=Z6 C6.out 4 (.int .i64 z.n.kind) rfl;by_cases hk:z.n.kind=6
     ·have t0:(z.n.kind==6)=true:=by simp[hk]
      have HE:=zH (show evN f J (kh,km)=none by simp[evN,HF.out,HJ.out,hk]);clear hd hk;go_wp2;go_roundw
      case rel=>exact⟨_,_,_,_,_,zH (CS.out.skip HE.out)⟩
      case measure=>rw[CS.out.rng.left_eq,HM.out];exact HLT.out
     ·have t0:(z.n.kind==6)=false:=by simp[hk]
      have HE:=zH (show evN f J (kh,km)=some (Jg y.n z.n)by simp[evN,HF.out,HJ.out,hd,hk]);clear hd hk;obtain⟨kz,hkz⟩:=JF.out _ _ HJ.out;have CZ:=zH (show z.ok w6/\z.n.strokes.length<=1000000 from⟨(RDF.out _ _ hkz).1.below CS.out.bel,(RDF.out _ _ hkz).2⟩);clear hkz;go_wp2_with (first
       |(refine zL p5 CT.out ?_)
       |(refine zL p6 C6.out ?_))
      refine(Z99 y.n z.n y.sa y.sc z.sa z.sc _ CZ.out.1 (by have:=CZ.out.2;omega)).mono ?_;rintro e w7 ⟨qa,qc,rfl,hq,b7⟩;replace CS:=zH (CS.out.below b7);replace CT:=zH (Z7 b7 CT.out);obtain⟨q,hqe⟩:=zX (Jg y.n z.n);have hq':w7.ownsRow w6.heap.size 3 1 (.slice qa q.strokes.length qc) q.strokes.length (q.strokes.map Ys):=by rw[<-hqe.out];exact hq
      have HQL:=zH (show q.strokes.length<=1000000 by rw[<-hqe.out];exact CZ.out.2);rw[hqe.out]at HE ⊢;clear b7 c4 CZ C6 CQ hq;have CQ2:=zH hq';clear hq';have oneQ:=Zm q qa qc;go_upto_region 10 with (first
       |(refine zN p5 (Z5 q qa qc) CT.out ?_))
      have CQ:=zH (show Xs (w7.setRow p5 (Z5 q qa qc)) qa q.strokes.length qc q.strokes/\q.strokes.length<=1000000 from⟨Y3.of_own (CQ2.out.kept (YI w7 p5 (Z5 q qa qc)) (.inr (Zo CQ2.out CT.out (by intro cur;simp)).symm)),HQL.out⟩);replace CS:=zH (CS.out.note (B:=Z5 q qa qc) CT.out HP5.out HG5.out);replace CT:=zH (Yz w7 p5 _ (Z5 q qa qc) _ _ CT.out);clear CQ2;generalize w7.setRow p5 (Z5 q qa qc)=wd at *;refine zp CT.out fun hh=>?_;replace CS:=zH (CS.out.below ((zd wd)));replace CT:=zH (show wd.drew.heap[p5]? = _ from CT.out);replace CQ:=zH (show Xs wd.drew qa q.strokes.length qc q.strokes/\q.strokes.length<=1000000 from⟨Xs.below CQ.out.1 ((zd wd)),CQ.out.2⟩);refine zT 1 rfl (.agg (Z5 q qa qc)) (zY p5 fun W h=>h) ?_;refine zM [0,2] rfl (fun K hK=>?_) ?_
      focus
       have hc:=Z6 CS.out.lst 0 (.slice a es.length c) rfl;go_simp;clear hc;refine zK hK CT.out fun hh=>?_;clear hK K;refine zR 2 rfl fun K hK=>?_;go_simp;go_at_call 66;refine(QU q qa qc _ CQ.out.1 (by have:=CQ.out.2;omega)).mono ?_;rintro e v8 ⟨ta,tc,rfl,ho,b8⟩;have HO:=zH (Zx ho (show w.heap.size<=_ from CS.out.bel.size));replace CS:=zH (CS.out.below b8);replace CT:=zH (Z7 b8 CT.out);clear ho b8 CQ;dsimp only;refine zK hK CT.out fun hh=>?_;clear hK K;refine zR 3 rfl fun K hK=>?_;rw[if_pos (by kernel_rfl)];refine Xg _ rfl (q) ta tc rfl ?_;have b9:Below v8.heap.size v8 (v8.alloc (.cells (Z5 q ta tc) 47)):=zB _ _;have CR:=zH (Qb v8 (q) ta tc);replace HO:=zH (Zd HO.out b9);replace CS:=zH (CS.out.below b9);replace CT:=zH (Z7 b9 CT.out);clear b9
      rotate_left
      focus
       refine zn fun K hK=>?_;go_simp;go_at_call 66;refine(QU q qa qc _ CQ.out.1 (by have:=CQ.out.2;omega)).mono ?_;rintro e v8 ⟨ta,tc,rfl,ho,b8⟩;have HO:=zH (Zx ho (show w.heap.size<=_ from CS.out.bel.size));replace CS:=zH (CS.out.below b8);replace CT:=zH (Z7 b8 CT.out);clear ho b8 CQ;dsimp only;refine zK hK CT.out fun hh=>?_;clear hK K;refine zM [0,3] rfl (fun K hK=>?_) ?_
       ·have hc:=Z6 CS.out.lst 0 (.slice a es.length c) rfl;go_simp;clear hc;refine zK hK CT.out fun hh=>?_;clear hK K;refine zR 3 rfl fun K hK=>?_;rw[if_pos (by kernel_rfl)];refine Xg _ rfl (q) ta tc rfl ?_;have b9:Below v8.heap.size v8 (v8.alloc (.cells (Z5 q ta tc) 47)):=zB _ _;have CR:=zH (Qb v8 (q) ta tc);replace HO:=zH (Zd HO.out b9);replace CS:=zH (CS.out.below b9);replace CT:=zH (Z7 b9 CT.out);clear b9;refine zK hK CT.out fun hh=>?_;clear hK K;refine zR 4 rfl fun K hK=>?_;obtain⟨a',c',v9,hrun,ho,hg⟩:=JD _ w.heap.size a es.length c _ CS.out.own _ 1 1 _ CR.out (Z8.cells_one _ _ _) (by
         have h1:=congrArg List.length CS.out.evs;have h2:=CS.out.rng.count;have h3:=HNn.out;have h4:(ks.filterMap (evN f J)).length<=ks.length:=List.length_filterMap_le _ _;rw[List.length_map]at h1;rw[List.length_append]at h2;omega) CS.out.bel.size
        have HO3:=zH ho;have HG3:=zH hg;have CL3:=zH (Zc hg CS.out.lst (Zo CS.out.own CS.out.lst (by intro cur;simp)));replace CT:=zH (Zc hg CT.out (fun e=>HP5.out e.symm));clear ho hg;rw[if_pos (by kernel_rfl)];refine Y4 _ _ _ rfl _ _ _ rfl rfl hrun ?_;clear hrun;refine zK hK CT.out fun hh=>?_;clear hK K;refine zR 5 rfl fun K hK=>?_;have hc:=Z6 CL3.out 0 (.slice a es.length c) rfl;have hfz:=Zq CL3.out 0;have S9:=zH (CS.out.app (x:=⟨q,ta,tc⟩) HE.out HO.out HO3.out HG3.out);have h5:some p5≠some pL:=fun e=>by
         have h1:=CT.out;rw[Option.some.inj e,CL3.out]at h1;cases h1
        replace CT:=zH (Zc (Zn v9 pL 0 (.slice a' (es.length+1) c')) CT.out h5);go_simp;refine zK hK CT.out fun hh=>?_;clear hK K;refine zE ?_;go_wp2;go_roundw
        case rel=>exact⟨_,_,_,_,_,S9⟩
        case measure=>rw[S9.out.rng.left_eq,HM.out];exact HLT.out
       refine zn fun K hK=>?_;rw[if_pos (by kernel_rfl)];refine Xg _ rfl (q) ta tc rfl ?_;have b9:Below v8.heap.size v8 (v8.alloc (.cells (Z5 q ta tc) 47)):=zB _ _;have CR:=zH (Qb v8 (q) ta tc);replace HO:=zH (Zd HO.out b9);replace CS:=zH (CS.out.below b9);replace CT:=zH (Z7 b9 CT.out);clear b9;refine zK hK CT.out fun hh=>?_;clear hK K;refine zR 0 rfl fun K hK=>?_;have hc:=Z6 CS.out.lst 0 (.slice a es.length c) rfl;go_simp;clear hc
      all_goals
       refine zK hK CT.out fun hh=>?_;clear hK K;refine zR 4 rfl fun K hK=>?_;obtain⟨a',c',v9,hrun,ho,hg⟩:=JD _ w.heap.size a es.length c _ CS.out.own _ 1 1 _ CR.out (Z8.cells_one _ _ _) (by
        have h1:=congrArg List.length CS.out.evs;have h2:=CS.out.rng.count;have h3:=HNn.out;have h4:(ks.filterMap (evN f J)).length<=ks.length:=List.length_filterMap_le _ _;rw[List.length_map]at h1;rw[List.length_append]at h2;omega) CS.out.bel.size
       have HO3:=zH ho;have HG3:=zH hg;have CL3:=zH (Zc hg CS.out.lst (Zo CS.out.own CS.out.lst (by intro cur;simp)));replace CT:=zH (Zc hg CT.out (fun e=>HP5.out e.symm));clear ho hg;rw[if_pos (by kernel_rfl)];refine Y4 _ _ _ rfl _ _ _ rfl rfl hrun ?_;clear hrun;refine zK hK CT.out fun hh=>?_;clear hK K;refine zR 5 rfl fun K hK=>?_;have hc:=Z6 CL3.out 0 (.slice a es.length c) rfl;have hfz:=Zq CL3.out 0;have S9:=zH (CS.out.app (x:=⟨q,ta,tc⟩) HE.out HO.out HO3.out HG3.out);have h5:some p5≠some pL:=fun e=>by
        have h1:=CT.out;rw[Option.some.inj e,CL3.out]at h1;cases h1
       replace CT:=zH (Zc (Zn v9 pL 0 (.slice a' (es.length+1) c')) CT.out h5);go_simp;refine zK hK CT.out fun hh=>?_;clear hK K;refine zE ?_;go_wp2;go_roundw
       case rel=>exact⟨_,_,_,_,_,S9⟩
       case measure=>rw[S9.out.rng.left_eq,HM.out];exact HLT.out
end
def XI (l:List Xv):List Value:=(l.map Xv.cells).flatten
theorem Z25 (l:List Xv)(e:Xv):XI (l ++ [e])=XI l ++ e.cells:=by simp[XI]
theorem Z53 (w:World)(b0 b1 a0 a1 a2 a3 a4 a5 a6 a7 a8 a9 a10 a11 a12 a13 a14 a15 a16 a17 a18:Value):
  (Instr.buildSlice 74 1 #[(0,.agg #[b0,b1,a0,a1,a2,a3,a4,a5,a6,a7,a8,a9,a10,a11,a12,a13,a14,a15,a16,a17,a18])]).run zq w = .ok (.slice (some ⟨w.heap.size,0,none⟩) 1 1) (w.alloc (.cells #[b0,b1,a0,a1,a2,a3,a4,a5,a6,a7,a8,a9,a10,a11,a12,a13,a14,a15,a16,a17,a18] 210)):=by
 kernel_rfl
theorem Z6f (w:World)(e:Xv):(Instr.buildSlice 74 1 #[(0,.agg (Jv e))]).run zq w = .ok (.slice (some ⟨w.heap.size,0,none⟩) 1 1) (w.alloc (.cells (Jv e) 210)):=Z53 w ..
theorem Va {op:Oper}{a:Act}{w:World}{K:Act->World->Prop}{Q:Exit->Act->World->Prop}(x:Operand)(ho:op.op = .buildSlice 74 1 #[(0,x)])(e:Xv)(hx:a.eval x = .agg (Jv e))
  (h:K (a.put op.dst (.slice (some ⟨w.heap.size,0,none⟩) 1 1)) (w.alloc (.cells (Jv e) 210))):op.wp zq a w K Q:=by
 have e1:=Z6f w e;unfold Oper.wp execOp;simp[ho,hx,e1,Result.andThen];exact h
theorem ZdV:(zq.info? 210).map (fun i=>(i.zero,i.size,i.bytes))=some (some (.agg (Jv ⟨(0,0),⟨Zh,none,0⟩⟩)),21,184):=by kernel_rfl
theorem Z3W (w:World)(base:Nat)(sa:zA)(sn sc:Nat)(xs:List Value)(hown:w.ownsRow base 210 21 (.slice sa sn sc) sn xs)(xa:zA)(m xc:Nat)(ys:List Value)(hrd:Y3 w 21 xa m xc ys)(h1 : ∀u∈ys,u.oneCell'=true)
  (hbytes:(sn+m) * 184<=140737488355328) (hbase:base<=w.heap.size):
  ∃a' c' w',(Builtin.append_ #[74,74] 74 #[.slice sa sn sc,.slice xa m xc]).run zq w = .ok (.slice a' (sn+m) c') w'/\w'.ownsRow base 210 21 (.slice a' (sn+m) c') (sn+m) (xs ++ ys)/\w.grownBy w' (Value.ownBlock (.slice sa sn sc))/\(a'=sa\/a'=some ⟨w.heap.size,0,none⟩):=by
 obtain⟨i,hi,hz0,hz1,hz2⟩:=info_parts ZdV;obtain⟨a',c',w',h2,h3,h4⟩:=Yu w base 74 74 210 i _ 21 184 Tryz.underlying74 hi hz0 hz1 hz2 rfl (by decide) sa sn sc xs hown xa m xc ys hrd h1 (by unfold maxLen;omega) hbytes hbase;have hloc:=Qv (P:=zq) w base 74 74 210 i _ 21 184 Tryz.underlying74 hi hz0 hz1 hz2 sa sn sc xs hown xa m xc ys hrd h1 (by unfold maxLen;omega) hbytes _ _ h2;refine⟨a',c',w',h2,h3,h4,?_⟩;rcases hloc with ⟨n',c'',h⟩ | ⟨n',c'',h⟩
 ·simp only[Value.slice.injEq]at h;exact .inl h.1
 ·simp only[Value.slice.injEq]at h;exact .inr h.1
theorem Z6x (W:World)(e:Xv):Y3 (W.alloc (.cells (Jv e) 210)) 21 (some ⟨W.heap.size,0,none⟩) 1 1 e.cells:=
 Y3.of_own (World.ownsRow_lit (base:=W.heap.size) (e:=210) (size:=21) W (Jv e) 1 (Nat.le_refl _) (by unfold maxLen;omega) rfl)
structure J4 (base:Nat)(W:World)(p:Nat)(ha:zA)(hc:Nat)(ea:zA)(ec:Nat)(ca:zA)(cc:Nat)(hs es:List Xv)(cs:List Nm):Prop where
 blk:W.heap[p]? = some (.cells #[.slice ha hs.length hc,.slice ea es.length ec,.slice ca cs.length cc] 77)
 hown:W.ownsRow base 210 21 (.slice ha hs.length hc) hs.length (XI hs)
 eown:W.ownsRow base 210 21 (.slice ea es.length ec) es.length (XI es)
 cown:W.ownsRow base 45 2 (.slice ca cs.length cc) cs.length (ZC cs)
 dis:Value.ownBlock (.slice ha hs.length hc)=none\/Value.ownBlock (.slice ha hs.length hc)≠Value.ownBlock (.slice ea es.length ec)
section
variable {base:Nat}{W W':World}{p:Nat}{ha:zA}{hc:Nat}{ea:zA}{ec:Nat}{ca:zA}{cc:Nat}{hs es:List Xv}{cs:List Nm}
theorem J4.below (h:J4 base W p ha hc ea ec ca cc hs es cs)(hb:Below W.heap.size W W'):J4 base W' p ha hc ea ec ca cc hs es cs:=
 ⟨Z7 hb h.blk,Zd h.hown hb,Zd h.eown hb,Zd h.cown hb,h.dis⟩
theorem J4.lt (h:J4 base W p ha hc ea ec ca cc hs es cs):p < W.heap.size:=Zk h.blk
theorem J4.addE {e:Xv}{a':zA}{c':Nat}(h:J4 base W p ha hc ea ec ca cc hs es cs)(ho:W'.ownsRow base 210 21 (.slice a' (es.length+1) c') (es.length+1) (XI es ++ e.cells))(hg:W.grownBy W' (Value.ownBlock (.slice ea es.length ec)))(hl:a'=ea\/a'=some ⟨W.heap.size,0,none⟩):
  J4 base (W'.setCell ⟨p,1,none⟩ (.slice a' (es.length+1) c')) p ha hc a' c' ca cc hs (es ++ [e]) cs/\Zb (fun k=>k=p\/Value.ownBlock (.slice ea es.length ec)=some k) W (W'.setCell ⟨p,1,none⟩ (.slice a' (es.length+1) c')):=by
 have hb2:=Zc hg h.blk (Zo h.eown h.blk (by intro cur;simp));have G:=Zn W' p 1 (.slice a' (es.length+1) c');refine⟨⟨?_,?_,?_,?_,?_⟩,(Zb.of_grown hg (fun k e=>.inr e)).trans (Zb.of_grown G (fun k e=>by cases e;exact .inl rfl))⟩
 ·rw[ZM hb2 1 (.slice a' (es.length+1) c'),List.length_append];rfl
 ·have h1:=h.hown.kept hg h.dis;exact h1.kept G (.inr (Zo h1 hb2 (by intro cur;simp)).symm)
 ·rw[Z25,List.length_append];exact ho.kept G (.inr (Zo ho hb2 (by intro cur;simp)).symm)
 ·have h1:=h.cown.kept hg (JO h.cown h.eown (by decide));exact h1.kept G (.inr (Zo h1 hb2 (by intro cur;simp)).symm)
 ·rw[List.length_append];rcases hl with rfl | rfl
  ·rcases h.dis with hd | hd
   ·exact .inl hd
   ·exact .inr (by cases a' <;> exact hd)
  ·cases hq:Value.ownBlock (.slice ha hs.length hc)with
   | none=>exact .inl rfl
   | some k=>
    have:=(h.hown.lt k hq).2;exact .inr (by simp only[Value.ownBlock,ne_eq,Option.some.injEq];omega)
theorem J4.addH {e:Xv}{a':zA}{c':Nat}(h:J4 base W p ha hc ea ec ca cc hs es cs)(ho:W'.ownsRow base 210 21 (.slice a' (hs.length+1) c') (hs.length+1) (XI hs ++ e.cells))(hg:W.grownBy W' (Value.ownBlock (.slice ha hs.length hc)))(hl:a'=ha\/a'=some ⟨W.heap.size,0,none⟩):
  J4 base (W'.setCell ⟨p,0,none⟩ (.slice a' (hs.length+1) c')) p a' c' ea ec ca cc (hs ++ [e]) es cs/\Zb (fun k=>k=p\/Value.ownBlock (.slice ha hs.length hc)=some k) W (W'.setCell ⟨p,0,none⟩ (.slice a' (hs.length+1) c')):=by
 have hb2:=Zc hg h.blk (Zo h.hown h.blk (by intro cur;simp));have G:=Zn W' p 0 (.slice a' (hs.length+1) c');have hd2:Value.ownBlock (.slice ea es.length ec)=none\/Value.ownBlock (.slice ea es.length ec)≠Value.ownBlock (.slice ha hs.length hc):=by
  rcases h.dis with hd | hd
  ·cases hq:Value.ownBlock (.slice ea es.length ec)with
   | none=>exact .inl rfl
   | some k=>exact .inr (by rw[hd];simp)
  ·exact .inr (fun e=>hd e.symm)
 refine⟨⟨?_,?_,?_,?_,?_⟩,(Zb.of_grown hg (fun k e=>.inr e)).trans (Zb.of_grown G (fun k e=>by cases e;exact .inl rfl))⟩
 ·rw[ZM hb2 0 (.slice a' (hs.length+1) c'),List.length_append];rfl
 ·rw[Z25,List.length_append];exact ho.kept G (.inr (Zo ho hb2 (by intro cur;simp)).symm)
 ·have h1:=h.eown.kept hg hd2;exact h1.kept G (.inr (Zo h1 hb2 (by intro cur;simp)).symm)
 ·have h1:=h.cown.kept hg (JO h.cown h.hown (by decide));exact h1.kept G (.inr (Zo h1 hb2 (by intro cur;simp)).symm)
 ·rw[List.length_append];rcases hl with rfl | rfl
  ·rcases h.dis with hd | hd
   ·exact .inl (by cases a' <;> exact hd)
   ·exact .inr (by cases a' <;> exact hd)
  ·refine .inr (fun e=>?_);have:=(h.eown.lt W.heap.size e.symm).2;omega
end
theorem Z9A (e:Xv)(base:Nat)(p:Nat)(ha:zA)(hc:Nat)(ea:zA)(ec:Nat)(ca:zA)(cc:Nat)(hs es:List Xv)(cs:List Nm)(W:World)(h:J4 base W p ha hc ea ec ca cc hs es cs)(hbase:base<=W.heap.size)(hsz:es.length<=1000000):
  Calls zq 216 #[.pointer (some ⟨p,0,none⟩),.agg (Jv e)] W fun r W'=>r = .returned (.bool true) /\ ∃a' c',J4 base W' p ha hc a' c' ca cc hs (es ++ [e]) cs/\Zb (fun k=>k=p\/Value.ownBlock (.slice ea es.length ec)=some k) W W':=by
 have I21:=zH (show ∀(x:Xv),(zq.info? 210).map (·.size)=some (Jv x).size from fun x=>by kernel_rfl);have B1:=zH (zB W (.cells (Jv e) 210));have CT:=zH (Za W (.cells (Jv e) 210));have R1:=zH (h.below B1.out);have R0:=zH h;have HB1:Hid (base<=(W.alloc (.cells (Jv e) 210)).heap.size):=zH (Nat.le_trans hbase B1.out.size);have HS:=zH hsz;clear h hbase hsz;go_enter Tryz.func216,Tryz.ntmps216;go_upto_region 1 with fail;obtain⟨p3,hp3⟩:=zX (W.heap.size);have HNE:=zH (show Value.ownBlock (.slice ea es.length ec)≠some p3 from fun e2=>by have h1:=(R0.out.eown.lt p3 e2).2;have h2:=hp3.out;omega);rw[hp3.out]at CT ⊢;generalize W.alloc (.cells (Jv e) 210)=W1 at *;refine zp CT.out fun hh=>?_;have B2:=zH (B1.out.trans ((zd W1).mono B1.out.size));have R2:=zH (R1.out.below ((zd W1)));have HB2:Hid (base<=W1.drew.heap.size):=HB1;replace CT:=zH (show W1.drew.heap[p3]? = _ from CT.out);clear R1 B1 HB1;generalize W1.drew=V at *;refine zw 0 rfl p 0 ?_;refine zw 1 rfl p 0 ?_;refine zw 2 rfl p 0 ?_;refine zw 3 rfl p 1 ?_;refine zT 5 rfl (.agg (Jv e)) (ZW (by kernel_rfl) 210 _ rfl p3 rfl _ 210 (0,0) _ (fun W h=>h) Tryz.underlying210 rfl (I21.out _)) ?_;refine zM [4,6] rfl (fun K hK=>?_) ?_
 focus
  have hcl:=Z6 R2.out.blk 1 (.slice ea es.length ec) rfl;go_simp;clear hcl;refine zK hK CT.out fun hh=>?_;clear hK K;refine zR 6 rfl fun K hK=>?_;rw[if_pos (by kernel_rfl)];refine Va _ rfl e rfl ?_;have b9:Below V.heap.size V (V.alloc (.cells (Jv e) 210)):=zB _ _;have CR:=zH (Z6x V e);replace B2:=zH (B2.out.trans (b9.mono B2.out.size));replace R2:=zH (R2.out.below b9);replace HB2:=zH (Nat.le_trans HB2.out b9.size);replace CT:=zH (Z7 b9 CT.out);clear b9;generalize V.alloc (.cells (Jv e) 210)=V2 at *
 rotate_left
 focus
  refine zn fun K hK=>?_;rw[if_pos (by kernel_rfl)];refine Va _ rfl e rfl ?_;have b9:Below V.heap.size V (V.alloc (.cells (Jv e) 210)):=zB _ _;have CR:=zH (Z6x V e);replace B2:=zH (B2.out.trans (b9.mono B2.out.size));replace R2:=zH (R2.out.below b9);replace HB2:=zH (Nat.le_trans HB2.out b9.size);replace CT:=zH (Z7 b9 CT.out);clear b9;generalize V.alloc (.cells (Jv e) 210)=V2 at *;refine zK hK CT.out fun hh=>?_;clear hK K;refine zR 4 rfl fun K hK=>?_;have hcl:=Z6 R2.out.blk 1 (.slice ea es.length ec) rfl;go_simp;clear hcl
 all_goals
  refine zK hK CT.out fun hh=>?_;clear hK K;refine zR 7 rfl fun K hK=>?_;obtain⟨a',c',v9,hrun,ho,hg,hl⟩:=Z3W _ base ea es.length ec _ R2.out.eown _ 1 1 _ CR.out (Z6G e) (by have:=HS.out;omega) HB2.out;have HN:=zH (R2.out.addE ho hg hl);have CL3:=zH (Zc hg R2.out.blk (Zo R2.out.eown R2.out.blk (by intro cur;simp)));replace CT:Hid (v9.heap[p3]? = some (.cells (Jv e) 210)):=zH (Zc hg CT.out (fun e2=>HNE.out e2.symm));clear ho hg hl;rw[if_pos (by kernel_rfl)];refine Y4 _ _ _ rfl _ _ _ rfl rfl hrun ?_;clear hrun;refine zK hK CT.out fun hh=>?_;clear hK K;refine zw 8 rfl p 0 ?_;refine zw 9 rfl p 1 ?_;refine zR 10 rfl fun K hK=>?_;have hcl:=Z6 CL3.out 1 (.slice ea es.length ec) rfl;have hfz:=Zq CL3.out 1;have h5:some p3≠some p:=fun e2=>by
   have h1:=CT.out;rw[Option.some.inj e2,CL3.out]at h1;cases h1
  replace CT:=zH (Zc (Zn v9 p 1 (.slice a' (es.length+1) c')) CT.out h5);go_simp;refine zK hK CT.out fun hh=>?_;clear hK K;refine zE ?_;go_wp2;go_ret;exact⟨rfl,a',c',HN.out.1,(Zb.of_below B2.out).trans HN.out.2⟩
theorem ZcL (args:Y6)(w:World):(callFunc 216 args).run zq w = .ok (.enter 216 args) w:=by kernel_rfl
theorem Z7T (e:Xv)(base:Nat)(p:Nat)(ha:zA)(hc:Nat)(ea:zA)(ec:Nat)(ca:zA)(cc:Nat)(hs es:List Xv)(cs:List Nm)(W:World)(h:J4 base W p ha hc ea ec ca cc hs es cs)(hbase:base<=W.heap.size)(hsz:hs.length<=1000000):
  Calls zq 217 #[.pointer (some ⟨p,0,none⟩),.agg (Jv e)] W fun r W'=>(hs.length=8/\r = .returned (.bool false)/\Below W.heap.size W W')\/(hs.length≠8/\r = .returned (.bool true) /\ ∃a' c',J4 base W' p a' c' ea ec ca cc (hs ++ [e]) es cs/\Zb (fun k=>k=p\/Value.ownBlock (.slice ha hs.length hc)=some k) W W'):=by
 have I21:=zH (show ∀(x:Xv),(zq.info? 210).map (·.size)=some (Jv x).size from fun x=>by kernel_rfl);have B1:=zH (zB W (.cells (Jv e) 210));have CT:=zH (Za W (.cells (Jv e) 210));have R1:=zH (h.below B1.out);have R0:=zH h;have HB1:Hid (base<=(W.alloc (.cells (Jv e) 210)).heap.size):=zH (Nat.le_trans hbase B1.out.size);have HS:=zH hsz;clear h hbase hsz;go_enter Tryz.func217,Tryz.ntmps217;go_upto_region 1 with fail;obtain⟨p3,hp3⟩:=zX (W.heap.size);have HNE:=zH (show Value.ownBlock (.slice ha hs.length hc)≠some p3 from fun e2=>by have h1:=(R0.out.hown.lt p3 e2).2;have h2:=hp3.out;omega);rw[hp3.out]at CT ⊢;generalize W.alloc (.cells (Jv e) 210)=W1 at *;have c0:=Z6 R1.out.blk 0 (.slice ha hs.length hc) rfl;by_cases h8:hs.length=8
 ·have t0:((hs.length:Int)==8)=true:=by simp;omega
  have H8:=zH h8;clear h8;go_wp2;go_ret;exact .inl ⟨H8.out,rfl,B1.out⟩
 ·have t0:((hs.length:Int)==8)=false:=by simp;omega
  have H8:=zH h8;clear h8;go_upto_region 3 with fail;clear c0 t0;refine zp CT.out fun hh=>?_;have B2:=zH (B1.out.trans ((zd W1).mono B1.out.size));have R2:=zH (R1.out.below ((zd W1)));have HB2:Hid (base<=W1.drew.heap.size):=HB1;replace CT:=zH (show W1.drew.heap[p3]? = _ from CT.out);clear R1 B1 HB1;generalize W1.drew=V at *;refine zw 0 rfl p 0 ?_;refine zw 1 rfl p 0 ?_;refine zw 2 rfl p 0 ?_;refine zw 3 rfl p 0 ?_;refine zT 5 rfl (.agg (Jv e)) (ZW (by kernel_rfl) 210 _ rfl p3 rfl _ 210 (0,0) _ (fun W h=>h) Tryz.underlying210 rfl (I21.out _)) ?_;refine zM [4,6] rfl (fun K hK=>?_) ?_
  focus
   have hcl:=Z6 R2.out.blk 0 (.slice ha hs.length hc) rfl;go_simp;clear hcl;refine zK hK CT.out fun hh=>?_;clear hK K;refine zR 6 rfl fun K hK=>?_;rw[if_pos (by kernel_rfl)];refine Va _ rfl e rfl ?_;have b9:Below V.heap.size V (V.alloc (.cells (Jv e) 210)):=zB _ _;have CR:=zH (Z6x V e);replace B2:=zH (B2.out.trans (b9.mono B2.out.size));replace R2:=zH (R2.out.below b9);replace HB2:=zH (Nat.le_trans HB2.out b9.size);replace CT:=zH (Z7 b9 CT.out);clear b9;generalize V.alloc (.cells (Jv e) 210)=V2 at *
  rotate_left
  focus
   refine zn fun K hK=>?_;rw[if_pos (by kernel_rfl)];refine Va _ rfl e rfl ?_;have b9:Below V.heap.size V (V.alloc (.cells (Jv e) 210)):=zB _ _;have CR:=zH (Z6x V e);replace B2:=zH (B2.out.trans (b9.mono B2.out.size));replace R2:=zH (R2.out.below b9);replace HB2:=zH (Nat.le_trans HB2.out b9.size);replace CT:=zH (Z7 b9 CT.out);clear b9;generalize V.alloc (.cells (Jv e) 210)=V2 at *;refine zK hK CT.out fun hh=>?_;clear hK K;refine zR 4 rfl fun K hK=>?_;have hcl:=Z6 R2.out.blk 0 (.slice ha hs.length hc) rfl;go_simp;clear hcl
  all_goals
   refine zK hK CT.out fun hh=>?_;clear hK K;refine zR 7 rfl fun K hK=>?_;obtain⟨a',c',v9,hrun,ho,hg,hl⟩:=Z3W _ base ha hs.length hc _ R2.out.hown _ 1 1 _ CR.out (Z6G e) (by have:=HS.out;omega) HB2.out;have HN:=zH (R2.out.addH ho hg hl);have CL3:=zH (Zc hg R2.out.blk (Zo R2.out.hown R2.out.blk (by intro cur;simp)));replace CT:Hid (v9.heap[p3]? = some (.cells (Jv e) 210)):=zH (Zc hg CT.out (fun e2=>HNE.out e2.symm));clear ho hg hl;rw[if_pos (by kernel_rfl)];refine Y4 _ _ _ rfl _ _ _ rfl rfl hrun ?_;clear hrun;refine zK hK CT.out fun hh=>?_;clear hK K;refine zw 8 rfl p 0 ?_;refine zw 9 rfl p 0 ?_;refine zR 10 rfl fun K hK=>?_;have hcl:=Z6 CL3.out 0 (.slice ha hs.length hc) rfl;have hfz:=Zq CL3.out 0;have h5:some p3≠some p:=fun e2=>by
    have h1:=CT.out;rw[Option.some.inj e2,CL3.out]at h1;cases h1
   replace CT:=zH (Zc (Zn v9 p 0 (.slice a' (hs.length+1) c')) CT.out h5);go_simp;refine zK hK CT.out fun hh=>?_;clear hK K;refine zE ?_;go_wp2;go_ret;exact .inr ⟨H8.out,rfl,a',c',HN.out.1,(Zb.of_below B2.out).trans HN.out.2⟩
open Go.Maps (Keyed)
theorem JP:Keyed zq 3:=Go.Maps.int_keyed Tryz.underlying3
def zg:Value := .func (.func 216) #[] #[]
def Z81:Value := .func (.func 217) #[] #[]
def Z80 (q:Nat):Value := .func (.func 218) #[] #[.pointer (some ⟨q,0,none⟩)]
def Zbm (q:Nat):DataW Value:=((((DataW.map []).put (.int .i64 1) (.held Z81)).put (.int .i64 2) (.held (Z80 q))).put (.int .i64 3) (.held zg)).put (.int .i64 4) (.held zg)
def YP (W:World)(bT q:Nat):Prop:=W.heap[q]? = some (.cells #[zg] 250)/\W.ownsMap zq 3 Qc bT 4 (Zbm q)
theorem YP.of_blocks {W W':World}{bT q:Nat}(h:YP W bT q)(h1:W'.heap[q]? = W.heap[q]?)(h2:W'.heap[bT]? = W.heap[bT]?):YP W' bT q:=by
 obtain⟨h3,es,clock,h4,h5⟩:=h;exact⟨h1.trans h3,es,clock,h2.trans h4,h5⟩
theorem YP.lt {W:World}{bT q:Nat}(h:YP W bT q):q < W.heap.size/\bT < W.heap.size:=⟨Zk h.1,h.2.lt⟩
theorem YP.below {W W':World}{bT q:Nat}(h:YP W bT q)(hb:Below W.heap.size W W'):YP W' bT q:=h.of_blocks (hb.block q h.lt.1) (hb.block bT h.lt.2)
theorem Zb1 (w:World):(zeroValue 250).run zq w = .ok .nilFunc w:=by kernel_rfl
theorem YP.look {W:World}{bT q:Nat}(h:YP W bT q)(k:Int)(v:Value)(hk:keyOf zq 3 (.int .i64 k)=some (.int .i64 k))(hv:(Zbm q).atKey (.int .i64 k) (.held .nilFunc) = .held v):
  (Instr.lookup 245 (.map (some bT)) (.int .i64 k) false).run zq W = .ok v W:=by
 obtain⟨v',ps,h1,h2⟩:=h.2.lookup JP Tryz.underlying245 (Zb1 W) (zd := .held .nilFunc) (zp:=[]) rfl hk;rw[hv]at h2;simp only[Qc,Option.some.injEq,Prod.mk.injEq,DataW.held.injEq]at h2;rw[h1,h2.1]
theorem YP.at1 {W:World}{bT q:Nat}(h:YP W bT q):(Instr.lookup 245 (.map (some bT)) (.int .i64 1) false).run zq W = .ok Z81 W:=h.look 1 _ (by kernel_rfl) (by rfl)
theorem YP.at2 {W:World}{bT q:Nat}(h:YP W bT q):(Instr.lookup 245 (.map (some bT)) (.int .i64 2) false).run zq W = .ok (Z80 q) W:=h.look 2 _ (by kernel_rfl) (by rfl)
theorem YP.at3 {W:World}{bT q:Nat}(h:YP W bT q):(Instr.lookup 245 (.map (some bT)) (.int .i64 3) false).run zq W = .ok zg W:=h.look 3 _ (by kernel_rfl) (by rfl)
theorem YP.at4 {W:World}{bT q:Nat}(h:YP W bT q):(Instr.lookup 245 (.map (some bT)) (.int .i64 4) false).run zq W = .ok zg W:=h.look 4 _ (by kernel_rfl) (by rfl)
theorem Z1U {w w':World}{b p:Nat}{o:Obj}(h:w.mapTurned w' b)(hp:w.heap[p]? = some o)(hne:p≠b):w'.heap[p]? = some o:=Zc h.grown hp (fun e=>hne (Option.some.inj e))
theorem Z83 (w:World):Calls zq 192 #[] w fun e w' => ∃bT q,e = .returned (.map (some bT))/\YP w' bT q/\Below w.heap.size w w'/\w.heap.size<=q/\w.heap.size<=bT:=by
 have hmf : ∀(fn:Fn) (first cap:Y6) (w:World),(Instr.makeFunc fn first cap).run zq w = .ok (.func fn first cap) w:=fun _ _ _ _=>rfl;have hmm := @run_makeMap zq;have ht:zq.underlying 245=some (.map 3 250):=Tryz.underlying245;have q0:=Z9 _ (.map #[] 0) _ _ (Za w (.cells #[zg] 250));have m0:=World.ownsMap_made (w.alloc (.cells #[zg] 250)) zq 3 Qc;have b0:Below w.heap.size w ((w.alloc (.cells #[zg] 250)).alloc (.map #[] 0)):=(zB _ _).alloc (by simp) _;have hz:(w.alloc (.cells #[zg] 250)).heap.size=w.heap.size+1:=by simp
 rw[hz]at m0;obtain⟨w1,r1,m1,t1⟩:=m0.store JP ht (by unfold maxLen;omega) (key := .int .i64 1) (kl := .int .i64 1) (by kernel_rfl) (val:=Z81) (d := .held Z81) (ps:=[]) rfl;have q1:=Z1U t1 q0 (by omega);obtain⟨w2,r2,m2,t2⟩:=m1.store JP ht (by unfold maxLen;omega) (key := .int .i64 2) (kl := .int .i64 2) (by kernel_rfl) (val:=Z80 w.heap.size) (d := .held (Z80 w.heap.size)) (ps:=[]) rfl;have q2:=Z1U t2 q1 (by omega);obtain⟨w3,r3,m3,t3⟩:=m2.store JP ht (by unfold maxLen;omega) (key := .int .i64 3) (kl := .int .i64 3) (by kernel_rfl) (val:=zg) (d := .held zg) (ps:=[]) rfl;have q3:=Z1U t3 q2 (by omega);obtain⟨w4,r4,m4,t4⟩:=m3.store JP ht (by unfold maxLen;omega) (key := .int .i64 4) (kl := .int .i64 4) (by kernel_rfl) (val:=zg) (d := .held zg) (ps:=[]) rfl;have q4:=Z1U t4 q3 (by omega);have hb:Hid (Below w.heap.size w w4):=zH (by
  have g : ∀{a b:World},Below w.heap.size w a->a.mapTurned b (w.heap.size+1)->w.heap.size<=a.heap.size->Below w.heap.size w b:=fun h t hle=>h.grown t.grown hle (fun k e=>by cases e;omega);have h1:=g b0 t1 b0.size;have h2:=g h1 t2 h1.size;have h3:=g h2 t3 h2.size;exact g h3 t4 h3.size)
 have hT:Hid (YP w4 (w.heap.size+1) w.heap.size):=zH ⟨q4,m4⟩;have c2:=Z6 q2 0 zg rfl;have c3:=Z6 q3 0 zg rfl;clear q0 q1 q2 q3 q4 m0 m1 m2 m3 m4 t1 t2 t3 t4 b0 hz ht;unfold zg at *;unfold Z81 Z80 at *;go_enter Tryz.func192,Tryz.ntmps192;go_wp2;go_ret;exact⟨_,_,rfl,hT.out,hb.out,Nat.le_refl _,by omega⟩
structure Jn where
 hs:List Xv
 es:List Xv
 cs:List Nm
def Z0c (R:Jn)(e:Xv):Bool:=if e.x.n.kind=1 then decide (R.hs.length≠8)else if e.x.n.kind=2 then decide (¬Z0D R.hs (Z0C e.x.n.refH e.x.n.refN) < 0)else true
def Uk (R:Jn)(e:Xv):Jn:=if Z0c R e=true then (if e.x.n.kind=1 then { R with hs:=R.hs ++ [e] } else { R with es:=R.es ++ [e] })else R
def Yq (day:Int)(R:Jn)(e:Xv):Jn:=if e.x.n.day<=day then (if Z0c R e=true then Uk R e else { R with cs:=R.cs ++ [e.nm] })else R
def Xn (day:Int)(l:List Xv):Jn:=l.foldl (Yq day) ⟨[],[],[]⟩
theorem Z8C (day:Int)(l:List Xv)(e:Xv):Xn day (l ++ [e])=Yq day (Xn day l) e:=by simp[Xn,List.foldl_append]
theorem Zck (R:Jn)(e:Xv):(Uk R e).hs.length+(Uk R e).es.length+(Uk R e).cs.length<=R.hs.length+R.es.length+R.cs.length+1:=by
 unfold Uk;split <;> (try split) <;> simp <;> omega
theorem Z7k (day:Int)(R:Jn)(e:Xv):(Yq day R e).hs.length+(Yq day R e).es.length+(Yq day R e).cs.length<=R.hs.length+R.es.length+R.cs.length+1:=by
 unfold Yq;split
 ·split
  ·exact Zck R e
  ·simp;omega
 ·omega
theorem Z38 (day:Int): ∀(l:List Xv) (R:Jn),(l.foldl (Yq day) R).hs.length+(l.foldl (Yq day) R).es.length+(l.foldl (Yq day) R).cs.length<=R.hs.length+R.es.length+R.cs.length+l.length
 | [],R=>by simp
 | e :: l,R=>by
  have h1:=Z38 day l (Yq day R e)
  have h2:=Z7k day R e
  simp only[List.foldl_cons,List.length_cons]
  omega
theorem Z5r (day:Int)(l:List Xv):(Xn day l).hs.length+(Xn day l).es.length+(Xn day l).cs.length<=l.length:=by
 have:=Z38 day l ⟨[],[],[]⟩;simpa [Xn] using this
def Z8j (base:Nat)(W:World)(p:Nat)(R:Jn):Prop := ∃ha hc ea ec ca cc,J4 base W p ha hc ea ec ca cc R.hs R.es R.cs
theorem Z8j.below {base p:Nat}{W W':World}{R:Jn}(h:Z8j base W p R)(hb:Below W.heap.size W W'):Z8j base W' p R:=by
 obtain⟨ha,hc,ea,ec,ca,cc,h⟩:=h;exact⟨ha,hc,ea,ec,ca,cc,h.below hb⟩
abbrev Zfe (base p:Nat):Nat->Prop:=fun k=>k=p\/base<=k
theorem Qp.of_own {W:World}{base:Nat}{a:zA}{c:Nat}{l:List Xv}(h:W.ownsRow base 210 21 (.slice a l.length c) l.length (XI l)):Qp W a l.length c l:=by
 have h:=Y3.of_own h;refine⟨rfl,h.le,h.max,h.2.2.2.imp id ?_⟩;rintro⟨b,off,rfl,h4⟩;refine⟨b,off,rfl,fun i x hx j v hv=>?_⟩;have hj:j < 21:=(List.getElem?_eq_some_iff.1 hv).1;have h5:=Uz 21 (l.map Xv.cells) (by intro r hr;obtain⟨y,_,rfl⟩:=List.mem_map.1 hr;rfl) i x.cells (by rw[List.getElem?_map,hx];rfl) j hj;have h6:=h4 (i * 21+j) v (h5.trans hv);rwa [<-Nat.add_assoc]at h6
theorem Z5b (hs:List Xv)(h m:Int): ∃i0 e0:Int,Z22 hs h m = #[.int .i64 i0,.int .i64 e0]/\(Z0D hs (Z0C h m) < 0->e0=3)/\(¬Z0D hs (Z0C h m) < 0->e0=0):=by
 unfold Z22;by_cases hlt:Z0D hs (Z0C h m) < 0
 ·exact⟨0,3,by rw[if_pos hlt],fun _=>rfl,fun h=>absurd hlt h⟩
 ·exact⟨_,0,by rw[if_neg hlt],fun h=>absurd h hlt,fun _=>rfl⟩
theorem Z7o (e:Xv)(base:Nat)(p:Nat)(ha:zA)(hc:Nat)(ea:zA)(ec:Nat)(ca:zA)(cc:Nat)(hs es:List Xv)(cs:List Nm)(q:Nat)(W:World)(h:J4 base W p ha hc ea ec ca cc hs es cs)(hq:W.heap[q]? = some (.cells #[zg] 250))(hbase:base<=W.heap.size)(hsz:es.length<=1000000):
  Calls zq 218 #[.pointer (some ⟨p,0,none⟩),.agg (Jv e),.pointer (some ⟨q,0,none⟩)] W fun r W'=>(Z0D hs (Z0C e.x.n.refH e.x.n.refN) < 0/\r = .returned (.bool false)/\Below W.heap.size W W')\/(¬Z0D hs (Z0C e.x.n.refH e.x.n.refN) < 0/\r = .returned (.bool true) /\ ∃a' c',J4 base W' p ha hc a' c' ca cc hs (es ++ [e]) cs/\Zb (fun k=>k=p\/Value.ownBlock (.slice ea es.length ec)=some k) W W'):=by
 have I21:=zH (show ∀(x:Xv),(zq.info? 210).map (·.size)=some (Jv x).size from fun x=>by kernel_rfl);have B1:=zH (zB W (.cells (Jv e) 210));have CT:=zH (Za W (.cells (Jv e) 210));have R1:=zH (h.below B1.out);have Q1:=zH (Z7 B1.out hq);have R0:=zH h;have HB1:Hid (base<=(W.alloc (.cells (Jv e) 210)).heap.size):=zH (Nat.le_trans hbase B1.out.size);have HS:=zH hsz;clear h hbase hsz hq;obtain⟨i0,e0,hv,hp1,hp2⟩:=Z5b hs e.x.n.refH e.x.n.refN;have HV:=zH hv;have HP1:=zH hp1;have HP2:=zH hp2;clear hv hp1 hp2;go_enter Tryz.func218,Tryz.ntmps218;go_upto_region 1 with fail;obtain⟨p3,hp3⟩:=zX (W.heap.size);rw[hp3.out]at CT ⊢;generalize W.alloc (.cells (Jv e) 210)=W1 at *;refine zD (fun w'=>w'.heap[p3]? = some (.cells (Jv e) 210)/\w'.heap[p]? = some (.cells #[.slice ha hs.length hc,.slice ea es.length ec,.slice ca cs.length cc] 77)) (show W1.drew.heap[p3]? = _/\W1.drew.heap[p]? = _ from⟨CT.out,R1.out.blk⟩) fun hh=>?_;have B2:=zH (B1.out.trans ((zd W1).mono B1.out.size));have R2:=zH (R1.out.below ((zd W1)));have Q2:=zH (Z7 ((zd W1)) Q1.out);have HB2:Hid (base<=W1.drew.heap.size):=HB1;replace CT:=zH (show W1.drew.heap[p3]? = _ from CT.out);clear R1 B1 HB1 Q1;generalize W1.drew=V at *;refine zw 0 rfl p 0 ?_;refine zw 1 rfl p 0 ?_;refine zS 2 rfl (.agg #[.slice ha hs.length hc,.slice ea es.length ec,.slice ca cs.length cc]) (fun W h=>by have h0:=Z6 h.2 0 (.slice ha hs.length hc) rfl;have h1:=Z6 h.2 1 (.slice ea es.length ec) rfl;have h2:=Z6 h.2 2 (.slice ca cs.length cc) rfl;go_simp) ?_;refine zw 3 rfl p3 2 ?_;refine zw 4 rfl p3 18 ?_;refine zS 5 rfl (.agg #[.int .i64 e.x.n.refH,.int .i64 e.x.n.refN]) (fun W h=>by have h0:=Z6 h.1 18 (.int .i64 e.x.n.refH) rfl;have h1:=Z6 h.1 19 (.int .i64 e.x.n.refN) rfl;go_simp) ?_;refine zR 6 rfl fun K hK=>?_;go_simp;go_at_call 219;refine(Z8T hs ha hs.length hc _ _ e.x.n.refH e.x.n.refN _ (Qp.of_own R2.out.hown)).mono ?_;rintro r W3 ⟨rfl,b3⟩;rw[HV.out];replace B2:=zH (B2.out.trans (b3.mono B2.out.size));replace R2:=zH (R2.out.below b3)
 replace Q2:=zH (Z7 b3 Q2.out);replace HB2:=zH (Nat.le_trans HB2.out b3.size);replace CT:=zH (Z7 b3 CT.out);clear b3;dsimp only;refine zK hK ⟨CT.out,R2.out.blk⟩ fun hh=>?_;clear hK K;refine zW 7 rfl (.tuple #[.int .i64 i0,.int .i64 e0]) ?_;refine zW 8 rfl (.int .i64 i0) ?_;refine zW 9 rfl (.int .i64 e0) ?_;refine zW 10 rfl (.int .i64 i0) ?_;refine zW 11 rfl (.int .i64 e0) ?_;refine zE ?_;have cq:=Z6 Q2.out 0 zg rfl;unfold zg at cq;by_cases hlt:Z0D hs (Z0C e.x.n.refH e.x.n.refN) < 0
 ·have h3:e0=3:=HP1.out hlt;subst h3;have HLT:=zH hlt;clear hlt;go_wp2;go_ret;exact .inl ⟨HLT.out,rfl,B2.out⟩
 ·have h3:e0=0:=HP2.out hlt;subst h3;have HLT:=zH hlt;clear hlt;go_wp2_with (first
   |(go_at_call 216
     refine(Z9A e base p ha hc ea ec ca cc hs es cs _ R2.out HB2.out HS.out).mono ?_;rintro r W5 ⟨rfl,a',c',r5,s5⟩;have R5:=zH r5;clear r5;have S5:=zH s5;clear s5;dsimp only)
   |(refine UP ?hw 210 _ rfl p3 rfl 210 (Jv e) (0,0) _ CT.out Tryz.underlying210 rfl (I21.out _) ?_;case hw=>rfl)
   | fail)
  go_ret;exact .inr ⟨HLT.out,rfl,⟨a',c',R5.out⟩,(Zb.of_below B2.out).trans S5.out⟩
def Z1F (F:Fence):Prop:=F=Fence.wide \/ ∃l,F=Fence.wide.inRound l
theorem Z1F.fn {F:Fence}(h:Z1F F)(f:FuncId):F.fn f:=by
 rcases h with rfl | ⟨l,rfl⟩ <;> trivial
theorem Z1F.depth {F:Fence}(h:Z1F F):F.depth.isSome=true -> ∀{p:Prop},p:=by
 rcases h with rfl | ⟨l,rfl⟩ <;> intro h' <;> simp[Fence.wide]at h'
theorem Z1F.calls {F:Fence}(h:Z1F F){n:Nat}{P:Program}{f:FuncId}{args:Y6}{w:World}{R:Ending->World->Prop}(hc:Calls P f args w R):CallsIn F n P f args w R:=by
 rcases h with rfl | ⟨l,rfl⟩
 ·exact callsIn_wide.2 hc
 ·exact CallsIn.inRound l (callsIn_wide.2 hc)
theorem Z1F.rows {F:Fence}(h:Z1F F){n:Nat}{P:Program}{row:String}{args:Y6}{w:World}{R:Value->World->Prop}(hc:Rows P row args w R):RowsIn F n P row args w R:=by
 rcases h with rfl | ⟨l,rfl⟩ <;> exact fun c cs _=>let ⟨v,w',r,s⟩:=hc c cs;⟨v,w',r,stepsIn_wide.2 s⟩
theorem Xm {F:Fence}(hF:Z1F F){n:Nat}{P:Program}{o:Oper}{a:Act}{w:World}{K:Act->World->Prop}{Q:Exit->Act->World->Prop}(hnd : ∀c,o.op ≠ .defer c)(h:o.wp P a w K Q):o.wpIn F n P a w K Q:=by
 refine⟨fun f _=>hF.fn f,?_⟩;rw[Oper.semAt_plain F _ _ hnd];unfold Oper.wp at h;generalize (execOp a.eval o).run P w=r at h;unfold Oper.upon at h;unfold Oper.uponIn;cases r with
 | ok v w'=>
  cases v with
  | enter f args=>exact⟨fun h'=>hF.depth h',hF.calls h⟩
  | row r args=>exact⟨fun h'=>hF.depth h',hF.rows h⟩
  | round _ _ _ _ _=>exact(show False from h).elim
  | _=>exact h
 | halt s w'=>cases s <;> exact h
def Z3C (l:List Oper):Bool:=l.all fun o=>match o.op with | .defer _=>false | _=>true
theorem Z8K {l:List Oper}(h:Z3C l=true){o:Oper}(ho:o∈l): ∀c,o.op ≠ .defer c:=fun c e=>by
 have:=List.all_eq_true.1 h o ho
 rw[e]at this
 cases this
theorem Qi {F:Fence}(hF:Z1F F){n:Nat}{P:Program}{ops:Array Oper}{Q:Exit->Act->World->Prop}(hQ : ¬LetsOut Q): ∀(l:List Oper) (a:Act) (w:World),Z3C l=true->wpList P ops Q l a w->wpListIn F n P ops Q l a w
 | [],a,w,_,h=>h
 | o :: l,a,w,hnd,h=>by
  have h1 : ∀c,o.op ≠ .defer c:=Z8K hnd (List.mem_cons_self ..)
  have h2:Z3C l=true:=(Bool.and_eq_true_iff.1 hnd).2
  unfold wpList at h
  unfold wpListIn
  split at h
  ·rename_i hw
   rw[if_pos hw]
   rcases h with h | h
   ·exact Xm hF h1 (Oper.wp_mono (fun a w hk=>Qi hF hQ l a w h2 hk) h)
   ·exact(hQ h.2).elim
  ·rename_i hw
   rw[if_neg hw]
   exact⟨fun f _=>hF.fn f,Qi hF hQ l _ w h2 h⟩
theorem YG {F:Fence}(hF:Z1F F){n:Nat}{P:Program}{id:Nat}{l:List Oper}{a:Act}{w:World}{Q:Exit->Act->World->Prop}(hQ : ¬LetsOut Q)(hnd:Z3C l=true)(h:wpList P l.toArray Q l a w):(Code.region id l.toArray false).wpIn F n P Q a w:=
 wpIn_region_lit (Qi hF hQ l a w hnd h)
section
variable {P:Program}{σ:Type}{n:Nat}{g:Operand}{ps:Array Tmp}{assign body:Code}{Q:Exit->Act->World->Prop}{a:Act}{w:World}
theorem UE
  {gf:Nat} {lb:Y6} (hg:a.eval g = .func (.func gf) #[] lb) (eg : ∀args w,(callFunc gf args).run P w = .ok (.enter gf args) w)
  (encs:σ->Y6) (hps : ∀x,(encs x).size=ps.size)
  (A B:σ->World->Prop) (A':σ->Act->World->Prop) (Done:World->Prop)
  (hA' : ∀s a W o,A' s a W->(∃r,W.heap[w.heap.size+1]? = some (.loop r))->A' s a (W.putObj (w.heap.size+1) (.loop o)))
  (hB : ∀s W o,B s W->(∃r,W.heap[w.heap.size+1]? = some (.loop r))->B s (W.putObj (w.heap.size+1) (.loop o)))
  (hDone : ∀W o,Done W->(∃r,W.heap[w.heap.size+1]? = some (.loop r))->Done (W.putObj (w.heap.size+1) (.loop o)))
  (hassign : ∀(s:σ) (W:World),A s W->
   assign.wpIn (Fence.wide.inRound (w.heap.size+1)) (n - 1) P (Exit.then (fun a₁ W₁=>KeepsFrom w.heap.size W W₁/\A' s a₁ W₁) (fun _ _ _=>False)) { tmps:=(ps.zip (encs s)).foldl (fun t (p,v)=>t.setIfInBounds p v) a.tmps,defers:=[] } W)
  (hbody : ∀(s:σ) (a₁:Act) (W:World),A' s a₁ W->body.wpIn (Fence.wide.inRound (w.heap.size+1)) (n - 1) P (Z7i w.heap.size (B s) (fun _ _=>False) W) a₁ W)
  (hiter : ∀(rec:LoopState->Option Code->Loop),
   ZG rec w.heap.size .ready none ((w.alloc (.deferred (some []))).alloc (.loop (rec .ready none)))->
   (∀s W,A s W->ZG rec w.heap.size .ready none W->YieldAt Fence.wide (n - 1) P (w.heap.size+1) (encs s) W fun e W'=>
    e = .returned (.bool true)/\B s W'/\ZG rec w.heap.size .ready none W')->
   CallsIn Fence.wide n P gf (#[.func (.yield (w.heap.size+1)) #[] #[]] ++ lb) ((w.alloc (.deferred (some []))).alloc (.loop (rec .ready none))) fun e W'=>
    (∃v,e = .returned v)/\Done W'/\ZG rec w.heap.size .ready none W')
  (hdone : ∀(W:World),Done W->W.heap[w.heap.size]? = some (.deferred (some []))->Q .normal { a with defers := { target := .collected w.heap.size,args := #[] } :: a.defers } W):
  (Code.rangeFunc g ps assign body).wpIn Fence.wide (n+1) P Q a w:=by
 refine wpIn_rangeFunc ?_;intro fn hfn;obtain⟨rec,hrec⟩ : ∃rec:LoopState->Option Code->Loop,rec=fun st pe=>{ state:=st,pending:=pe,fn,tmps:=a.tmps,params:=ps,assign,body,defers:=w.heap.size } := ⟨_,rfl⟩;have hnew:ZG rec w.heap.size .ready none ((w.alloc (.deferred (some []))).alloc (.loop (rec .ready none))):=by
  refine⟨?_,(Below.heap_alloc _ _ _ (by simp)).trans (World.alloc_heap_new w _)⟩;have:=World.alloc_heap_new (w.alloc (.deferred (some []))) (.loop (rec .ready none));rwa [World.size_alloc]at this
 have hput : ∀(W:World) (st st':LoopState) (pe pe':Option Code),ZG rec w.heap.size st pe W->ZG rec w.heap.size st' pe' (W.putObj (w.heap.size+1) (.loop (rec st' pe'))):=
  fun W st st' pe pe' h=>⟨World.putObj_heap_same (Array.getElem?_eq_some_iff.1 h.1).1,(World.putObj_heap_other (by omega)).trans h.2⟩
 refine⟨w.heap.size+1,[{ target := .collected w.heap.size,args := #[] }],(w.alloc (.deferred (some []))).alloc (.loop (rec .ready none)),{ target := .fn (.func gf) lb,args := #[.func (.yield (w.heap.size+1)) #[] #[]] },(w.alloc (.deferred (some []))).alloc (.loop (rec .ready none)),gf,
  #[.func (.yield (w.heap.size+1)) #[] #[]] ++ lb,(w.alloc (.deferred (some []))).alloc (.loop (rec .ready none)),?_,?_,?_,?_,?_,?_⟩
 ·rw[hrec];exact run_enterLoop_outer _ _ _ _ _
 ·simp only[resolve,hg];simp[go_sem]
 ·intro f' _;trivial
 ·simp[invoke,go_sem,eg]
 ·intro h;simp[Fence.wide]at h
 ·rw[Nat.add_sub_cancel];refine(hiter rec hnew ?_).mono ?_
  ·intro s W hs hl;have hy:=run_yield (P:=P) (args:=encs s) hl.1 (by rw[hrec];exact hps s);rw[hrec]at hy;refine⟨fn,_,assign,body,hy,roundIn_of_wpIn hfn (wpIn_mono (hassign s W hs) ?_)⟩;rintro e a₁ W₁ hp;cases e with
   | normal=>
    obtain⟨hk1,hs1⟩:KeepsFrom w.heap.size W W₁/\A' s a₁ W₁:=hp;have hl1:=hl.kept hk1;refine⟨_,run_beginRound hl1.1 (by rw[hrec]),?_⟩;have hbusy:({ rec .ready none with state := .busy } : Loop)=rec .busy none:=by rw[hrec]
    rw[hbusy];have hl2:=hput W₁ .ready .busy none none hl1;refine wpIn_mono (hbody s a₁ _ (hA' s a₁ W₁ _ hs1 ⟨_,hl1.1⟩)) ?_;have fin : ∀(jump:Option Code) (W3:World),KeepsFrom w.heap.size (W₁.putObj (w.heap.size+1) (.loop (rec .busy none))) W3->
      (Instr.endRound (w.heap.size+1) jump).run P W3 = .ok (.bool jump.isNone) (W3.putObj (w.heap.size+1) (.loop (rec (if jump.isNone then .ready else .done) jump))) /\
      ZG rec w.heap.size .busy none W3/\ZG rec w.heap.size (if jump.isNone then .ready else .done) jump (W3.putObj (w.heap.size+1) (.loop (rec (if jump.isNone then .ready else .done) jump))):=fun jump W3 hk=>by
     have h3:=hl2.kept hk;have hr:=run_endRound (P:=P) jump h3.1;rw[hrec]at hr ⊢;exact⟨hr,by rw[hrec]at h3;exact h3,by have:=hput W3 .busy (if jump.isNone then .ready else .done) none jump h3;rw[hrec]at this;exact this⟩
    rintro e a3 W3 hp;cases e with
    | normal=>
     obtain⟨hk,hb⟩:=hp;obtain⟨hr,h3,h4⟩:=fin none W3 hk;exact⟨_,_,hr,rfl,hB s W3 _ hb ⟨_,h3.1⟩,h4⟩
    | ret=>exact hp.2.elim
    | exit id=>exact hp.2.elim
    | goto t=>exact hp.2.elim
    | panic ch=>exact hp.elim
    | outgrown=>exact hp.elim
   | _=>exact hp.elim
  ·rintro e W2 ⟨⟨v,rfl⟩,hd,hl⟩;refine⟨none,_,by have:=run_endLoop (P:=P) hl.1 (by rw[hrec];simp);rw[hrec]at this;exact this,?_⟩;exact hdone _ (hDone W2 _ hd ⟨_,hl.1⟩) ((World.putObj_heap_other (by omega)).trans hl.2)
end
theorem Zb.weaken {S T:Nat->Prop}{W W':World}(h:Zb S W W')(hs : ∀k,S k->T k):Zb T W W':=⟨h.os,h.tape,h.output,h.size,fun k hk ht=>h.block k hk (fun e=>ht (hs k e))⟩
theorem JH {W W':World}(h:Below W.heap.size W W'):KeepsOthers W W':=⟨h.size,fun _ _ hk _=>Z7 h hk⟩
theorem Z0U {W:World}{base:Nat}{e:TypeId}{k:Nat}{v:Value}{n:Nat}{xs:List Value}(h:W.ownsRow base e k v n xs){j:Nat}{o:Obj}(hj:Value.ownBlock v=some j)(ho:W.heap[j]? = some o):o.isCells=true:=by
 rcases h.2 with ⟨h2,_⟩ | ⟨g,cap,cur,h2,_,hg,_⟩
 ·rw[h2]at hj;simp[Value.ownBlock]at hj
 ·rw[h2]at hj;simp only[Value.ownBlock,Option.some.injEq]at hj;subst hj;rw[hg]at ho;cases ho;rfl
theorem z6 {base:Nat}{W W':World}{p:Nat}{v:Value}{A:Y6}{t e:TypeId}{k n:Nat}{xs:List Value}(hp:W.heap[p]? = some (.cells A t (0,0)))(hv:W.ownsRow base e k v n xs)(s:Zb (fun k=>k=p\/Value.ownBlock v=some k) W W'):KeepsOthers W W':=by
 refine⟨s.size,fun j o hj ho=>(s.block j (Array.getElem?_eq_some_iff.1 hj).1 ?_).trans hj⟩;rintro(rfl | h)
 ·rw[hp]at hj;cases hj;cases ho
 ·have:=Z0U hv h hj;rw[this]at ho;cases ho
abbrev ZdJ (p:Nat)(ha:zA)(hn hc:Nat)(ea:zA)(en ec:Nat):Nat->Prop:=fun k=>k=p\/Value.ownBlock (.slice ha hn hc)=some k\/Value.ownBlock (.slice ea en ec)=some k
def Z4R (base:Nat)(W:World)(p:Nat)(ha:zA)(hc:Nat)(ea:zA)(ec:Nat)(R:Jn)(e:Xv)(r:Ending)(W':World):Prop:=
 r = .returned (.bool (Z0c R e))/\Z8j base W' p (Uk R e)/\Zb (ZdJ p ha R.hs.length hc ea R.es.length ec) W W'/\KeepsOthers W W'
section
variable {e:Xv}{base p:Nat}{R:Jn}{W:World}{ha:zA}{hc:Nat}{ea:zA}{ec:Nat}{ca:zA}{cc:Nat}
theorem Zcl (h:J4 base W p ha hc ea ec ca cc R.hs R.es R.cs)(hbase:base<=W.heap.size)(hsz:R.es.length<=1000000)(h1:e.x.n.kind≠1)(h2:e.x.n.kind≠2):
  Calls zq 216 #[.pointer (some ⟨p,0,none⟩),.agg (Jv e)] W (Z4R base W p ha hc ea ec R e):=by
 refine(Z9A e base p ha hc ea ec ca cc R.hs R.es R.cs W h hbase hsz).mono ?_;rintro r W' ⟨rfl,a',c',h3,h4⟩;have hb:Z0c R e=true:=by simp[Z0c,h1,h2]
 have hr:Uk R e = { R with es:=R.es ++ [e] } := by simp[Uk,hb,h1]
 refine⟨by rw[hb],?_,h4.weaken (fun k hk=>hk.imp id .inr),z6 h.blk h.eown h4⟩;rw[hr];exact⟨ha,hc,a',c',ca,cc,h3⟩
theorem Zdb (h:J4 base W p ha hc ea ec ca cc R.hs R.es R.cs)(hbase:base<=W.heap.size)(hsz:R.hs.length<=1000000)(h1:e.x.n.kind=1):
  Calls zq 217 #[.pointer (some ⟨p,0,none⟩),.agg (Jv e)] W (Z4R base W p ha hc ea ec R e):=by
 refine(Z7T e base p ha hc ea ec ca cc R.hs R.es R.cs W h hbase hsz).mono ?_;rintro r W' (⟨h8,rfl,h3⟩ | ⟨h8,rfl,a',c',h3,h4⟩)
 ·have hb:Z0c R e=false:=by simp[Z0c,h1,h8]
  have hr:Uk R e=R:=by simp[Uk,hb]
  refine⟨by rw[hb],?_,Zb.of_below h3,JH h3⟩;rw[hr];exact⟨ha,hc,ea,ec,ca,cc,h.below h3⟩
 ·have hb:Z0c R e=true:=by simp[Z0c,h1,h8]
  have hr:Uk R e = { R with hs:=R.hs ++ [e] } := by simp[Uk,hb,h1]
  refine⟨by rw[hb],?_,h4.weaken (fun k hk=>hk.imp id .inl),z6 h.blk h.hown h4⟩;rw[hr];exact⟨a',c',ea,ec,ca,cc,h3⟩
theorem Zda (q:Nat)(h:J4 base W p ha hc ea ec ca cc R.hs R.es R.cs)(hq:W.heap[q]? = some (.cells #[zg] 250))(hbase:base<=W.heap.size)(hsz:R.es.length<=1000000)(h1:e.x.n.kind=2):
  Calls zq 218 #[.pointer (some ⟨p,0,none⟩),.agg (Jv e),.pointer (some ⟨q,0,none⟩)] W (Z4R base W p ha hc ea ec R e):=by
 refine(Z7o e base p ha hc ea ec ca cc R.hs R.es R.cs q W h hq hbase hsz).mono ?_;rintro r W' (⟨h8,rfl,h3⟩ | ⟨h8,rfl,a',c',h3,h4⟩)
 ·have hb:Z0c R e=false:=by simp[Z0c,h1,h8]
  have hr:Uk R e=R:=by simp[Uk,hb]
  refine⟨by rw[hb],?_,Zb.of_below h3,JH h3⟩;rw[hr];exact⟨ha,hc,ea,ec,ca,cc,h.below h3⟩
 ·have hb:Z0c R e=true:=by simp only[Z0c,h1];simp;omega
  have hr:Uk R e = { R with es:=R.es ++ [e] } := by simp[Uk,hb,h1]
  refine⟨by rw[hb],?_,h4.weaken (fun k hk=>hk.imp id .inr),z6 h.blk h.eown h4⟩;rw[hr];exact⟨ha,hc,a',c',ca,cc,h3⟩
end
structure Yx (Wb:World)(p:Nat)(R:Jn)(W:World):Prop where
 reg:Z8j Wb.heap.size W p R
 same:Zb (fun k=>k=p) Wb W
theorem Yx.below {Wb W W':World}{p:Nat}{R:Jn}(h:Yx Wb p R W)(hb:Below W.heap.size W W'):Yx Wb p R W':=⟨h.reg.below hb,h.same.trans (Zb.of_below hb)⟩
theorem Yx.size {Wb W:World}{p:Nat}{R:Jn}(h:Yx Wb p R W):Wb.heap.size<=W.heap.size:=h.same.size
theorem Zb.reg {Wb W W':World}{p:Nat}(h:Zb (fun k=>k=p) Wb W)(s:Zb (Zfe Wb.heap.size p) W W'):Zb (fun k=>k=p) Wb W':=
 ⟨s.os.trans h.os,s.tape.trans h.tape,s.output.trans h.output,Nat.le_trans h.size s.size,fun k hk hp=>(s.block k (Nat.lt_of_lt_of_le hk h.size) (by rintro(rfl | h2);exact hp rfl;omega)).trans (h.block k hk hp)⟩
theorem Yx.putObj {Wb W:World}{p:Nat}{R:Jn}(h:Yx Wb p R W)(o:Loop)(hl : ∃r,W.heap[Wb.heap.size+1]? = some (.loop r)):Yx Wb p R (W.putObj (Wb.heap.size+1) (.loop o)):=by
 obtain⟨r,hl⟩:=hl;obtain⟨ha,hc,ea,ec,ca,cc,h1,h2,h3,h4,h5⟩:=h.reg;have hne:p≠Wb.heap.size+1:=fun e=>by rw[e,hl]at h1;cases h1
 refine⟨⟨ha,hc,ea,ec,ca,cc,(World.putObj_heap_other hne).trans h1,ownsRow_putObj h2 _ hl rfl,ownsRow_putObj h3 _ hl rfl,ownsRow_putObj h4 _ hl rfl,h5⟩,?_⟩;exact h.same.reg (Zb.of_grown (grownBy_putObj' W _ _) (fun k e=>by cases e;exact .inr (by omega)))
theorem Yx.blk {Wb W:World}{p:Nat}{R:Jn}(h:Yx Wb p R W){k:Nat}{o:Obj}(hk:Wb.heap[k]? = some o)(hne:k≠p):W.heap[k]? = some o:=(h.same.block k (Array.getElem?_eq_some_iff.1 hk).1 hne).trans hk
theorem Yx.eff {Wb W W':World}{p:Nat}{R:Jn}{e:Xv}{r:Ending}{ha:zA}{hc:Nat}{ea:zA}{ec:Nat}{ca:zA}{cc:Nat}(hs:Zb (fun k=>k=p) Wb W)(h:J4 Wb.heap.size W p ha hc ea ec ca cc R.hs R.es R.cs)(he:Z4R Wb.heap.size W p ha hc ea ec R e r W'):Yx Wb p (Uk R e) W':=
 ⟨he.2.1,hs.reg (he.2.2.1.weaken (fun k hk=>by rcases hk with h1 | h1 | h1;exact .inl h1;exact .inr (h.hown.lt k h1).1;exact .inr (h.eown.lt k h1).1))⟩
structure VN (Wb:World)(p:Nat)(R:Jn)(top:Nat)(W:World):Prop where
 reg : ∃ha hc ea ec ca cc,J4 Wb.heap.size W p ha hc ea ec ca cc R.hs R.es R.cs /\ ∀k,k=p\/Value.ownBlock (.slice ha R.hs.length hc)=some k\/Value.ownBlock (.slice ea R.es.length ec)=some k->k < top
 same:Zb (fun k=>k=p) Wb W
theorem Yx.bound {Wb W W':World}{p:Nat}{R:Jn}(h:Yx Wb p R W)(hb:Below W.heap.size W W'):VN Wb p R W.heap.size W':=by
 obtain⟨ha,hc,ea,ec,ca,cc,h1⟩:=h.reg;exact⟨⟨ha,hc,ea,ec,ca,cc,h1.below hb,fun k hk=>by rcases hk with rfl | hk | hk;exact h1.lt;exact(h1.hown.lt k hk).2;exact(h1.eown.lt k hk).2⟩,h.same.trans (Zb.of_below hb)⟩
theorem VN.st {Wb W:World}{p top:Nat}{R:Jn}(h:VN Wb p R top W):Yx Wb p R W:=by
 obtain⟨ha,hc,ea,ec,ca,cc,h1,_⟩:=h.reg;exact⟨⟨ha,hc,ea,ec,ca,cc,h1⟩,h.same⟩
theorem VN.putObj {Wb W:World}{p top:Nat}{R:Jn}(h:VN Wb p R top W)(o:Loop)(hl : ∃r,W.heap[Wb.heap.size+1]? = some (.loop r)):VN Wb p R top (W.putObj (Wb.heap.size+1) (.loop o)):=by
 have h9:=h.st.putObj o hl;obtain⟨ha,hc,ea,ec,ca,cc,h1,h2⟩:=h.reg;obtain⟨r,hl⟩:=hl;obtain⟨k1,k2,k3,k4,k5⟩:=h1;have hne:p≠Wb.heap.size+1:=fun e=>by rw[e,hl]at k1;cases k1
 exact⟨⟨ha,hc,ea,ec,ca,cc,⟨(World.putObj_heap_other hne).trans k1,ownsRow_putObj k2 _ hl rfl,ownsRow_putObj k3 _ hl rfl,ownsRow_putObj k4 _ hl rfl,k5⟩,h2⟩,h9.same⟩
attribute [local go_sem] Oper.semAt_some
def Xb (x:LN):Xv:=⟨x.nm,x⟩
theorem Z9s {W:World}{a:zA}{n c:Nat}{xs:List LN}(h:Y3 W 19 a n c (ZH xs))(h0:0 < n): ∃b off,a=some ⟨b,off,none⟩ /\ ∀i x,xs[i]? = some x->W.rangeAt b (off+i * 19) (x.n.cells x.sa x.sc):=by
 rcases h.2.2.2 with h5 | ⟨b,off,rfl,h4⟩
 ·have:=h.2.1;omega
 ·refine⟨b,off,rfl,fun i x hx j v hv=>?_⟩;have hj:j < 19:=(List.getElem?_eq_some_iff.1 hv).1;have h5:=Uz 19 (xs.map fun x=>x.n.cells x.sa x.sc) (by intro r hr;obtain⟨y,_,rfl⟩:=List.mem_map.1 hr;rfl) i (x.n.cells x.sa x.sc) (by rw[List.getElem?_map,hx];rfl) j hj;have h6:=h4 (i * 19+j) v (h5.trans hv);rwa [<-Nat.add_assoc]at h6
structure Z3q (Wb:World)(p pL:Nat)(base0:Nat)(a:zA)(c:Nat)(xs:List LN):Prop where
 reg:Wb.heap[p]? = some (.cells #[.slice none 0 0,.slice none 0 0,.slice none 0 0] 77)
 lst:Wb.heap[pL]? = some (.cells #[.slice a xs.length c] 24)
 own:Wb.ownsRow base0 47 19 (.slice a xs.length c) xs.length (ZH xs)
theorem Z3q.ne {Wb:World}{p pL base0:Nat}{a:zA}{c:Nat}{xs:List LN}(h:Z3q Wb p pL base0 a c xs):pL≠p:=fun e=>by have h1:=h.lst;rw[e,h.reg]at h1;simp at h1
theorem Z3q.lst_at {Wb W:World}{p pL base0:Nat}{a:zA}{c:Nat}{xs:List LN}{R:Jn}(h:Z3q Wb p pL base0 a c xs)(hr:Yx Wb p R W):W.heap[pL]? = some (.cells #[.slice a xs.length c] 24):=hr.blk h.lst h.ne
theorem Z3q.own_at {Wb W:World}{p pL base0:Nat}{a:zA}{c:Nat}{xs:List LN}{R:Jn}(h:Z3q Wb p pL base0 a c xs)(hr:Yx Wb p R W):W.ownsRow base0 47 19 (.slice a xs.length c) xs.length (ZH xs):=
 Ze h.own hr.same (fun b hb e=>Zo h.own h.reg (by intro cur;simp) (by rw[hb,e]))
def Zf5 (Wb:World)(p:Nat)(day:Int)(xs:List LN)(s:Nat×LN)(W:World):Prop:=xs[s.1]? = some s.2/\Yx Wb p (Xn day ((xs.take s.1).map Xb)) W
theorem Z8D (day:Int)(xs:List LN)(k:Nat)(x:LN)(hx:xs[k]? = some x):Xn day ((xs.take (k+1)).map Xb)=Yq day (Xn day ((xs.take k).map Xb)) (Xb x):=by
 rw[List.take_add_one,hx];simp only[Option.toList,List.map_append,List.map_cons,List.map_nil];exact Z8C _ _ _
theorem ZG.of_below {rec:LoopState->Option Code->Loop}{D:Nat}{st:LoopState}{pe:Option Code}{W W':World}(h:ZG rec D st pe W)(hb:Below W.heap.size W W'):ZG rec D st pe W':=
 ⟨Z7 hb h.1,Z7 hb h.2⟩
theorem Jo:Z1F Fence.wide := .inl rfl
theorem U1 {Q:Exit->Act->World->Prop}(h : ∀a w,¬Q .outgrown a w): ¬LetsOut Q:=fun⟨a,w,hq⟩=>h a w hq
section
variable {F:Fence}{n:Nat}{P:Program}{ops:Array Oper}{rest:List Oper}{op:Oper}{a:Act}{w:World}{Q:Exit->Act->World->Prop}
theorem Z1p (hF:Z1F F)(hgd:op.guard=none)(ty:TypeId)(x:Operand)(ho:op.op = .load ty x)(b o:Nat)(hx:a.eval x = .pointer (some ⟨b,o,none⟩))(cs:List Value)(d:TypeDesc)(hc:w.rangeAt b o cs)
  (hu:P.underlying ty=some d) (hd:d.isRow=true) (hi:(P.info? ty).map (·.size)=some cs.length) (h:wpListIn F n P ops Q rest (a.put op.dst (.agg cs.toArray)) w):wpListIn F n P ops Q (op :: rest) a w:=
 wpListIn_plain hgd fun _ hK=>Xm hF (by rw[ho];intro c e;cases e) (wp_load_mid ty x ho b o hx cs d hc hu hd hi (hK _ _ h))
theorem Z18 (hF:Z1F F)(hgd:op.guard=none)(ty:TypeId)(x y:Operand)(ho:op.op = .store ty x y)(p:Nat)(c c':Y6)(t:TypeId)(hx:a.eval x = .pointer (some ⟨p,0,none⟩))(hy:a.eval y = .agg c')(hg:w.heap[p]? = some (.cells c t (0,0)))
  (hi:(P.info? ty).map (·.size)=some c'.size) (hc:c.size=c'.size) (h1:c'.all (·.oneCell')=true)
  (h : ∀w',w'.heap[p]? = some (.cells c' t (0,0))->w.grownBy w' (some p)->w'.heap.size=w.heap.size->wpListIn F n P ops Q rest (a.put op.dst undef) w'):wpListIn F n P ops Q (op :: rest) a w:=
 wpListIn_plain hgd fun _ hK=>Xm hF (by rw[ho];intro c e;cases e) (ZT ty x y ho p c c' t hx hy hg hi hc h1 (fun w' h1 h2 h3=>hK _ _ (h w' h1 h2 h3)))
end
theorem Ze1 (m:Nat)(Wb:World)(p pL base0:Nat)(day:Int)(a:zA)(c:Nat)(xs:List LN)(henv:Z3q Wb p pL base0 a c xs)(rec:LoopState->Option Code->Loop)(W1:World)(h0:Yx Wb p ⟨[],[],[]⟩ W1)(hl:ZG rec Wb.heap.size .ready none W1)
  (hY : ∀s W,Zf5 Wb p day xs s W->ZG rec Wb.heap.size .ready none W->YieldAt Fence.wide (m - 1) zq (Wb.heap.size+1) #[.agg (Jv (Xb s.2))] W fun e W'=>
    e = .returned (.bool true)/\Yx Wb p (Xn day ((xs.take (s.1+1)).map Xb)) W'/\ZG rec Wb.heap.size .ready none W'):
  CallsIn Fence.wide m zq 223 #[.func (.yield (Wb.heap.size+1)) #[] #[],.pointer (some ⟨pL,0,none⟩)] W1 fun e W'=>
    (∃v,e = .returned v)/\Yx Wb p (Xn day (xs.map Xb)) W'/\ZG rec Wb.heap.size .ready none W':=by
 have I43:=zH zI;have IN:(zq.info? 47).map (·.size)=some 19:=by kernel_rfl
 have HY:=zH hY;clear hY;have EN:=zH henv;clear henv;have hlc:=Z6 (EN.out.lst_at h0) 0 (.slice a xs.length c) rfl;have hn63:xs.length<=9223372036854775807:=(Y3.of_own EN.out.own).maxn;have R0:=zH h0;clear h0;have L0:=zH hl;clear hl;refine callsIn_of_wp Tryz.func223 rfl trivial ?_;simp only[Tryz.ntmps223,List.size_toArray,List.length_cons,List.length_nil,Nat.reduceAdd,Nat.reduceSub,Array.replicate_succ,Array.replicate_zero,List.push_toArray,List.append_toArray,List.nil_append,List.cons_append];gi_wp2;clear hlc;gi_loopw [7] (fun i wr=>∃k:Nat,i = .int .i64 k/\k<=xs.length/\Hid (Yx Wb p (Xn day ((xs.take k).map Xb)) wr)/\Hid (ZG rec Wb.heap.size .ready none wr)) (fun i _=>xs.length - (intOf i).toNat)
 case atStart=>exact⟨0,rfl,Nat.zero_le _,R0,L0⟩
 case round=>
  obtain⟨k,rfl,hk,HR,HL⟩:=hrel;by_cases hkn:k < xs.length
  ·have t0:decide ((k:Int) < (xs.length:Int))=true:=by simp;omega
   obtain⟨b,off,rfl,hat⟩:=Z9s (Y3.of_own (EN.out.own_at HR.out)) (show 0 < xs.length by omega);obtain⟨x,hx⟩ : ∃x,xs[k]? = some x:=⟨xs[k]'hkn,List.getElem?_eq_getElem hkn⟩;have HX:=zH hx;have HRA:=zH (hat k x hx);obtain⟨o,ho⟩:=zX (off+k * 19);rw[ho.out]at HRA;have hi:=fun W=>Yi (W:=W) (c:=c) (b:=b) Tryz.underlying24 IN hkn ho.out;have hk64:(k:Int)+1<=9223372036854775807:=by omega
   clear hat hx;have B1:=zH (zB wr (.cells (Z5 Zh none 0) 47));gi_wp2_with (first
    |(refine Z1p Jo rfl 47 _ rfl b o rfl (x.n.cells x.sa x.sc) _ HRA.out Tryz.underlying47 rfl IN ?_)
    |(refine Z18 Jo rfl 47 _ _ rfl wr.heap.size (Z5 Zh none 0) (Z5 x.n x.sa x.sc) 47 rfl rfl (Za wr _) (I43.out _ _ _) rfl (Zm x.n x.sa x.sc) ?_;intro w2 h21 h22 h23)
    | fail)
   have B2:Hid (Below wr.heap.size wr w2):=zH (B1.out.grown h22 B1.out.size (fun q hq=>by cases hq;exact Nat.le_refl _));have CT:=zH h21;clear h22 h23 h21 B1 hi;obtain⟨pX,hpX⟩:=zX (wr.heap.size);rw[hpX.out]at CT ⊢;replace HR:=zH (HR.out.below B2.out);replace HL:=zH (HL.out.of_below B2.out);have bd:=(zd w2);replace B2:=zH (B2.out.trans (bd.mono B2.out.size));replace HR:=zH (HR.out.below bd);replace HL:=zH (HL.out.of_below bd);replace CT:=zH (Z7 bd CT.out);clear bd;refine wpIn_region_any (by kernel_rfl) ?_;change wpAnyIn _ _ _ _ _ _ _ _ _ w2.drew;generalize w2.drew=V at *;try simp only[Act.put,lq0,lq1,lq2,lq3,lq4,lq5]
   refine wpAnyIn_take (i:=0) (v := .func (.yield (Wb.heap.size+1)) #[] #[]) rfl rfl (by kernel_rfl) (by kernel_rfl) (by kernel_rfl) (fun _ _ _ h=>h) ⟨Or.inl ⟨by rfl,by intro W;go_simp⟩,fun _=>rfl⟩ ?_;try simp only[Act.put,lq0,lq1,lq2,lq3,lq4,lq5]
   refine wpAnyIn_ready (rs:=[1,3]) (by kernel_rfl) (by simp) ?_;refine AllReadyIn.cons rfl (fun K hK=>?_) ?_
   ·rw[if_pos (by kernel_rfl)];refine Xm Jo (by intro c e;cases e) (wp_load_row 47 _ rfl pX rfl 47 (Z5 x.n x.sa x.sc) (0,0) _ CT.out Tryz.underlying47 rfl (I43.out _ _ _) (hK _ _ ?_));clear hK K;try simp only[Act.put,lq0,lq1,lq2,lq3,lq4,lq5]
    refine wpAnyIn_ready (rs:=[2,3]) (by kernel_rfl) (by simp) ?_;refine AllReadyIn.cons rfl (fun K hK=>?_) ?_
    ·rw[if_pos (by kernel_rfl)];refine Xm Jo (by intro c e;cases e) ?_;go_simp;go_at_call 167;refine(Yj x.n x.sa x.sc _).mono ?_;rintro e V2 ⟨rfl,b2⟩;replace B2:=zH (B2.out.trans (b2.mono B2.out.size));replace HR:=zH (HR.out.below b2);replace HL:=zH (HL.out.of_below b2);replace CT:=zH (Z7 b2 CT.out);clear b2;dsimp only;refine hK _ _ ?_;clear hK K;try simp only[Act.put,lq0,lq1,lq2,lq3,lq4,lq5]
     refine wpAnyIn_ready (rs:=[3]) (by kernel_rfl) (by simp) ?_;refine AllReadyIn.cons rfl (fun K hK=>?_) AllReadyIn.nil;rw[if_pos (by kernel_rfl)];refine Xm Jo (by intro c e;cases e) (wp_load_row 47 _ rfl pX rfl 47 (Z5 x.n x.sa x.sc) (0,0) _ CT.out Tryz.underlying47 rfl (I43.out _ _ _) (hK _ _ ?_));clear hK K;try simp only[Act.put,lq0,lq1,lq2,lq3,lq4,lq5]
     refine wpAnyIn_take (i:=4) (v := .agg (Jv (Xb x))) rfl rfl (by kernel_rfl) (by kernel_rfl) (by kernel_rfl) (fun _ _ _ h=>h) ⟨Or.inl ⟨by rfl,by intro W;kernel_rfl⟩,fun _=>rfl⟩ ?_;try simp only[Act.put,lq0,lq1,lq2,lq3,lq4,lq5]
     refine wpAnyIn_ready (rs:=[5]) (by kernel_rfl) (by simp) ?_;refine AllReadyIn.cons rfl (fun K hK=>?_) AllReadyIn.nil;rw[if_pos (by kernel_rfl)];obtain⟨fn,tmps,assign,body,hy,hRo⟩:=HY.out (k,x) _ ⟨HX.out,HR.out⟩ HL.out;refine⟨fun _ _=>trivial,?_⟩;go_simp;refine⟨fun h=>by simp[Fence.wide]at h,?_⟩;refine hRo.mono ?_;rintro e W6 ⟨rfl,hR6,hL6⟩;have HR6:=zH hR6;have HL6:=zH hL6;clear hRo hy hR6 hL6;refine hK _ _ ?_;clear hK K;try simp only[Act.put,lq0,lq1,lq2,lq3,lq4,lq5]
     refine wpAnyIn_take (i:=6) (v := .bool false) rfl rfl (by kernel_rfl) (by kernel_rfl) (by kernel_rfl) (fun _ _ _ h=>h) ⟨Or.inl ⟨by rfl,by intro W;go_simp⟩,fun _=>rfl⟩ ?_;try simp only[Act.put,lq0,lq1,lq2,lq3,lq4,lq5]
     refine wpAnyIn_done (by kernel_rfl) ?_ _;gi_wp2_with fail;go_roundw
     case rel=>exact⟨k+1,by simp,by omega,HR6,HL6⟩
     case measure=>simp[intOf];omega
    refine AllReadyIn.cons rfl (fun K hK=>?_) AllReadyIn.nil
    ·rw[if_pos (by kernel_rfl)];refine Xm Jo (by intro c e;cases e) (wp_load_row 47 _ rfl pX rfl 47 (Z5 x.n x.sa x.sc) (0,0) _ CT.out Tryz.underlying47 rfl (I43.out _ _ _) (hK _ _ ?_));clear hK K;try simp only[Act.put,lq0,lq1,lq2,lq3,lq4,lq5]
     refine wpAnyIn_ready (rs:=[2]) (by kernel_rfl) (by simp) ?_;refine AllReadyIn.cons rfl (fun K hK=>?_) AllReadyIn.nil;rw[if_pos (by kernel_rfl)];refine Xm Jo (by intro c e;cases e) ?_;go_simp;go_at_call 167;refine(Yj x.n x.sa x.sc _).mono ?_;rintro e V2 ⟨rfl,b2⟩;replace B2:=zH (B2.out.trans (b2.mono B2.out.size));replace HR:=zH (HR.out.below b2);replace HL:=zH (HL.out.of_below b2);replace CT:=zH (Z7 b2 CT.out);clear b2;dsimp only;refine hK _ _ ?_;clear hK K;try simp only[Act.put,lq0,lq1,lq2,lq3,lq4,lq5]
     refine wpAnyIn_take (i:=4) (v := .agg (Jv (Xb x))) rfl rfl (by kernel_rfl) (by kernel_rfl) (by kernel_rfl) (fun _ _ _ h=>h) ⟨Or.inl ⟨by rfl,by intro W;kernel_rfl⟩,fun _=>rfl⟩ ?_;try simp only[Act.put,lq0,lq1,lq2,lq3,lq4,lq5]
     refine wpAnyIn_ready (rs:=[5]) (by kernel_rfl) (by simp) ?_;refine AllReadyIn.cons rfl (fun K hK=>?_) AllReadyIn.nil;rw[if_pos (by kernel_rfl)];obtain⟨fn,tmps,assign,body,hy,hRo⟩:=HY.out (k,x) _ ⟨HX.out,HR.out⟩ HL.out;refine⟨fun _ _=>trivial,?_⟩;go_simp;refine⟨fun h=>by simp[Fence.wide]at h,?_⟩;refine hRo.mono ?_;rintro e W6 ⟨rfl,hR6,hL6⟩;have HR6:=zH hR6;have HL6:=zH hL6;clear hRo hy hR6 hL6;refine hK _ _ ?_;clear hK K;try simp only[Act.put,lq0,lq1,lq2,lq3,lq4,lq5]
     refine wpAnyIn_take (i:=6) (v := .bool false) rfl rfl (by kernel_rfl) (by kernel_rfl) (by kernel_rfl) (fun _ _ _ h=>h) ⟨Or.inl ⟨by rfl,by intro W;go_simp⟩,fun _=>rfl⟩ ?_;try simp only[Act.put,lq0,lq1,lq2,lq3,lq4,lq5]
     refine wpAnyIn_done (by kernel_rfl) ?_ _;gi_wp2_with fail;go_roundw
     case rel=>exact⟨k+1,by simp,by omega,HR6,HL6⟩
     case measure=>simp[intOf];omega
   refine AllReadyIn.cons rfl (fun K hK=>?_) AllReadyIn.nil
   ·rw[if_pos (by kernel_rfl)];refine Xm Jo (by intro c e;cases e) (wp_load_row 47 _ rfl pX rfl 47 (Z5 x.n x.sa x.sc) (0,0) _ CT.out Tryz.underlying47 rfl (I43.out _ _ _) (hK _ _ ?_));clear hK K;try simp only[Act.put,lq0,lq1,lq2,lq3,lq4,lq5]
    refine wpAnyIn_ready (rs:=[1]) (by kernel_rfl) (by simp) ?_;refine AllReadyIn.cons rfl (fun K hK=>?_) AllReadyIn.nil;rw[if_pos (by kernel_rfl)];refine Xm Jo (by intro c e;cases e) (wp_load_row 47 _ rfl pX rfl 47 (Z5 x.n x.sa x.sc) (0,0) _ CT.out Tryz.underlying47 rfl (I43.out _ _ _) (hK _ _ ?_));clear hK K;try simp only[Act.put,lq0,lq1,lq2,lq3,lq4,lq5]
    refine wpAnyIn_ready (rs:=[2]) (by kernel_rfl) (by simp) ?_;refine AllReadyIn.cons rfl (fun K hK=>?_) AllReadyIn.nil;rw[if_pos (by kernel_rfl)];refine Xm Jo (by intro c e;cases e) ?_;go_simp;go_at_call 167;refine(Yj x.n x.sa x.sc _).mono ?_;rintro e V2 ⟨rfl,b2⟩;replace B2:=zH (B2.out.trans (b2.mono B2.out.size));replace HR:=zH (HR.out.below b2);replace HL:=zH (HL.out.of_below b2);replace CT:=zH (Z7 b2 CT.out);clear b2;dsimp only;refine hK _ _ ?_;clear hK K;try simp only[Act.put,lq0,lq1,lq2,lq3,lq4,lq5]
    refine wpAnyIn_take (i:=4) (v := .agg (Jv (Xb x))) rfl rfl (by kernel_rfl) (by kernel_rfl) (by kernel_rfl) (fun _ _ _ h=>h) ⟨Or.inl ⟨by rfl,by intro W;kernel_rfl⟩,fun _=>rfl⟩ ?_;try simp only[Act.put,lq0,lq1,lq2,lq3,lq4,lq5]
    refine wpAnyIn_ready (rs:=[5]) (by kernel_rfl) (by simp) ?_;refine AllReadyIn.cons rfl (fun K hK=>?_) AllReadyIn.nil;rw[if_pos (by kernel_rfl)];obtain⟨fn,tmps,assign,body,hy,hRo⟩:=HY.out (k,x) _ ⟨HX.out,HR.out⟩ HL.out;refine⟨fun _ _=>trivial,?_⟩;go_simp;refine⟨fun h=>by simp[Fence.wide]at h,?_⟩;refine hRo.mono ?_;rintro e W6 ⟨rfl,hR6,hL6⟩;have HR6:=zH hR6;have HL6:=zH hL6;clear hRo hy hR6 hL6;refine hK _ _ ?_;clear hK K;try simp only[Act.put,lq0,lq1,lq2,lq3,lq4,lq5]
    refine wpAnyIn_take (i:=6) (v := .bool false) rfl rfl (by kernel_rfl) (by kernel_rfl) (by kernel_rfl) (fun _ _ _ h=>h) ⟨Or.inl ⟨by rfl,by intro W;go_simp⟩,fun _=>rfl⟩ ?_;try simp only[Act.put,lq0,lq1,lq2,lq3,lq4,lq5]
    refine wpAnyIn_done (by kernel_rfl) ?_ _;gi_wp2_with fail;go_roundw
    case rel=>exact⟨k+1,by simp,by omega,HR6,HL6⟩
    case measure=>simp[intOf];omega
  ·have t0:decide ((k:Int) < (xs.length:Int))=false:=by simp;omega
   have hke:k=xs.length:=by omega
   have HR2:Hid (Yx Wb p (Xn day (xs.map Xb)) wr):=zH (by have:=HR.out;rwa [hke,List.take_length]at this);gi_wp2_with fail;go_end0;exact⟨⟨_,rfl⟩,HR2.out,HL.out⟩
end Go.Proofs.YtlnhppgfhkkidaaGreat
