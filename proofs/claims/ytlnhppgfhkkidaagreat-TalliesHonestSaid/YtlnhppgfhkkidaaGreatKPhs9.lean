/- The given row TalliesHonest, proved: whatever the input, true, and the input reads as it did. -/
import Derived.SizedLaws
import Derived.Test.YtlnhppgfhkkidaaGreatKPhs8
set_option linter.unusedSimpArgs false
set_option linter.unusedVariables false
set_option maxHeartbeats 32000000
set_option maxRecDepth 100000
namespace Go.Proofs.YtlnhppgfhkkidaaGreat
open Go.Proofs.Tryz renaming prog → zq
open Go.RowKit
def UK (V:ZM)(x:Z8):Prop := ∃S∈V.hs,x∈S.l
theorem Qj {V:ZM}{k:Nat}{S:Zj}{x:Z8}(h:V.hs[k]? = some S)(hx:x∈S.l):UK V x:=⟨S,List.mem_of_getElem? h,hx⟩
theorem Vv {V:ZM}{h:Int}{S':Zj}{x:Z8}(hx:UK (JC V h S') x):UK V x\/x∈S'.l:=by
 obtain⟨S,hS,hm⟩:=hx;rcases List.mem_or_eq_of_mem_set hS with e | e
 ·exact .inl ⟨S,e,hm⟩
 ·rw[e]at hm;exact .inr hm
theorem Z1S (V:ZM)(h:Int)(S:Zj):(JC V h S).f=V.f/\(JC V h S).hs.length=V.hs.length:=⟨rfl,by unfold JC;simp⟩
def Z66 (V:ZM)(a:XA)(x:Z8):Prop:=a.kind=1 /\ ∃S,Yi V a.house=some S/\(Vc S a.note).2.2=0/\x=VK S a.note
section
variable {V:ZM}{ss:List Nat}{T:Nat}
theorem Zbr (h:YR V ss T){a:XA}{x:Z8}(hk:a.kind=1)(hx:UK (XB V a).1 x):UK V x\/Z66 V a x:=by
 cases e:Yi V a.house with
 | none=>unfold XB at hx;rw[e]at hx;exact .inl hx
 | some S=>
  obtain⟨k,_,_,hkS⟩:=Yu e;unfold XB at hx;rw[e]at hx;dsimp only at hx;rcases Vv hx with h1 | h1
  ·exact .inl h1
  ·have h2:x∈(Vc S a.note).1.l:=by
    split at h1
    ·exact h1
    ·exact h1
   rcases Z2i S (h.st' hkS).1.v a.note with ⟨g1,_⟩ | ⟨g1,g2⟩
   ·rw[g1]at h2;exact .inl (Qj hkS h2)
   ·rw[g1]at h2;rcases Xo.1 h2 with h3 | h3
    ·exact .inl (Qj hkS h3)
    ·exact .inr ⟨hk,S,e,by rw[g1],h3⟩
theorem Z61 (h:YR V ss T){m:MlV}{x:Z8}(hm:m∈V.ms)(i:Int)(hx:UK (J9 (Xq V i) m).1 x):UK V x:=by
 have hok:=h.ml m hm;unfold J9 at hx;cases e:Yi (Xq V i) m.to with
 | none=>rw[e]at hx;exact hx
 | some S=>
  obtain⟨k,_,_,hkS⟩:=Yu e;have hkV:V.hs[k]? = some S:=hkS;rw[e]at hx;dsimp only at hx;cases hc:m.cont with
  | gift l=>
   rw[hc]at hx;dsimp only at hx;have hco:=hok.cont;rw[hc]at hco;rcases Vv hx with h1 | h1
   ·exact h1
   ·rcases Z2M (h.st' hkV).1 l (fun y hy=>(Dur.ok h (hco.2.2 y hy)).2.1)with ⟨g1,_⟩ | ⟨fr,g1,_,g3,_⟩
    ·rw[g1]at h1;exact Qj hkV h1
    ·rw[g1]at h1;have h2:x∈(S.adds fr).l:=h1;rw[Z2p,VN]at h2;rcases h2 with h2 | h2
     ·exact Qj hkV h2
     ·obtain⟨j,R,g4,g5⟩:=Dur.known h (hco.2.2 x (g3 x h2).1);exact Qj g4 g5
  | ask c=>
   rw[hc]at hx;dsimp only at hx;split at hx
   ·rcases Vv hx with h1 | h1
    ·exact h1
    ·exact Qj hkV h1
   ·rcases Vv (V:=Xq V i) (h:=m.to) (S':=S.sync) hx with h1 | h1
    ·exact h1
    ·exact Qj hkV h1
theorem Z3g (h:YR V ss T){a:XA}{x:Z8}(hx:UK (YS V a).1 x):UK V x\/Z66 V a x:=by
 unfold YS at hx;split at hx
 ·rename_i hk;exact Zbr h hk hx
 split at hx
 ·unfold Qb at hx;cases e:Yi V a.house with
  | none=>rw[e]at hx;exact .inl hx
  | some S=>
   obtain⟨k,_,_,hkS⟩:=Yu e;rw[e]at hx;rcases Vv hx with h1 | h1
   ·exact .inl h1
   ·exact .inl (Qj hkS h1)
 split at hx
 ·unfold XH at hx;cases e:Yi V a.house with
  | none=>rw[e]at hx;exact .inl hx
  | some S=>
   rw[e]at hx;dsimp only at hx;split at hx
   ·exact .inl hx
   ·split at hx
    ·exact .inl hx
    ·exact .inl hx
 split at hx
 ·unfold YV at hx;cases e:Va V a.idx with
  | none=>rw[e]at hx;exact .inl hx
  | some m=>
   obtain⟨i,_,_,hmi⟩:=Vu e;rw[e]at hx;exact .inl (Z61 h (List.mem_of_getElem? hmi) a.idx hx)
 split at hx
 ·unfold JH at hx;cases e:Va V a.idx with
  | none=>rw[e]at hx;exact .inl hx
  | some m=>rw[e]at hx;exact .inl hx
 split at hx
 ·unfold Xk at hx;cases e:Va V a.idx with
  | none=>rw[e]at hx;exact .inl hx
  | some m=>
   rw[e]at hx;dsimp only at hx;split at hx
   ·exact .inl hx
   ·exact .inl hx
 split at hx
 ·unfold XN at hx;cases e:Yi V a.house with
  | none=>rw[e]at hx;exact .inl hx
  | some S=>
   obtain⟨k,_,_,hkS⟩:=Yu e;obtain⟨s,_,hst,_,_⟩:=h.st k S hkS;rw[e]at hx;rcases Vv hx with h1 | h1
   ·exact .inl h1
   ·refine .inl (Qj hkS ?_);rcases hst.crash (ZbP S a.keep a.flip a.idx)with ⟨_,g1⟩ | ⟨_,j,_,_,_,g2,g3⟩
    ·rw[g1]at h1;exact h1
    ·have h2:=g3.mem.1 h1;rw[g2]at h2;exact hst.mem.2 (List.mem_of_mem_take h2)
 ·exact .inl hx
theorem ZbL (W:ZM)(m:MlV):(J9 W m).1.f=W.f/\(J9 W m).1.hs.length=W.hs.length:=by
 unfold J9;cases e:Yi W m.to with
 | none=>exact⟨rfl,rfl⟩
 | some S=>
  dsimp only;cases hc:m.cont with
  | gift l=>exact Z1S _ _ _
  | ask c=>
   dsimp only;split
   ·exact Z1S _ _ _
   ·exact Z1S W m.to S.sync
theorem ZcM (V:ZM)(a:XA):(YS V a).1.f=V.f/\(YS V a).1.hs.length=V.hs.length:=by
 unfold YS;split
 ·unfold XB;cases Yi V a.house <;> first | exact⟨rfl,rfl⟩ | exact Z1S _ _ _
 split
 ·unfold Qb;cases Yi V a.house <;> first | exact⟨rfl,rfl⟩ | exact Z1S _ _ _
 split
 ·unfold XH;cases Yi V a.house with
  | none=>exact⟨rfl,rfl⟩
  | some S=>
   dsimp only;split
   ·exact⟨rfl,rfl⟩
   ·split <;> exact⟨rfl,rfl⟩
 split
 ·unfold YV;cases Va V a.idx with
  | none=>exact⟨rfl,rfl⟩
  | some m=>exact ZbL (Xq V a.idx) m
 split
 ·unfold JH;cases Va V a.idx <;> exact⟨rfl,rfl⟩
 split
 ·unfold Xk;cases Va V a.idx with
  | none=>exact⟨rfl,rfl⟩
  | some m=>
   dsimp only;split <;> exact⟨rfl,rfl⟩
 split
 ·unfold XN;cases Yi V a.house <;> first | exact⟨rfl,rfl⟩ | exact Z1S _ _ _
 ·exact⟨rfl,rfl⟩
theorem Z79 (h:YR V ss T){a:XA}(hk:a.kind=1)(hok:a.note.Ok)(hz:(YS V a).2=0):
  ∃S S',Yi V a.house=some S/\Yi (YS V a).1 a.house=some S'/\Z66 V a (VK S a.note)/\Zf S.f (VK S a.note)=true/\(VK S a.note).Ok /\ ∃j,Qg S'.l a.house S'.l.length=some j/\S'.l[j]? = some (VK S a.note):=by
 have e:YS V a=XB V a:=by unfold YS;rw[if_pos hk]
 obtain⟨ss',hI⟩:=h.doStep a hok;rw[e]at hz ⊢;cases eh:Yi V a.house with
 | none=>unfold XB at hz;rw[eh]at hz;cases hz
 | some S=>
  obtain⟨k,e1,e2,hkS⟩:=Yu eh;have hst:=h.st' hkS;have hz2:(Vc S a.note).2.2=0:=by unfold XB at hz;rw[eh]at hz;exact hz
  rcases Z2i S hst.1.v a.note with ⟨_,g2,_⟩ | ⟨g1,g2⟩
  ·exact absurd hz2 g2
  obtain⟨S',hS',hl⟩ : ∃S',Yi (XB V a).1 a.house=some S'/\S'.l=XY S.l (VK S a.note):=by
   have hkl:=(List.getElem?_eq_some_iff.1 hkS).1;have h4:(XB V a).1 = { V with hs:=V.hs.set k (if (Vc S a.note).2.2=0/\((Vc S a.note).2.1.kind=2\/(Vc S a.note).2.1.kind=4)then (Vc S a.note).1.sync else (Vc S a.note).1) } := by
    unfold XB;rw[eh];exact U5 e2
   rw[h4,e1];refine⟨_,Z8E (List.getElem?_set_self hkl),?_⟩;rw[g1];split <;> rfl
  refine⟨S,S',rfl,hS',⟨hk,S,eh,hz2,rfl⟩,g2,Z8f hok g2,?_⟩;obtain⟨k',f1,f2,hk'⟩:=Yu hS';have hst':=hI.st' hk';have hmem:VK S a.note∈S'.l:=by rw[hl,Xo];exact .inr rfl
  have hho:(VK S a.note).house=a.house:=by show S.id=a.house;rw[hst.2.2,e1]
  obtain⟨i,hi⟩:=List.getElem?_of_mem hmem;have hil:=(List.getElem?_eq_some_iff.1 hi).1;have sp:=Z13 S'.l a.house S'.l.length (Nat.le_refl _);cases hg:Qg S'.l a.house S'.l.length with
  | none=>
   rw[hg]at sp;exact absurd hho (sp i _ hil hi)
  | some j=>
   rw[hg]at sp;obtain⟨_,x,hx,hxh,hm⟩:=sp;refine⟨j,rfl,?_⟩;have h5:=hm i _ hil hi hho;have hxm:=List.mem_of_getElem? hx;have h6:x∈S.l\/x=VK S a.note:=by rw[hl,Xo]at hxm;exact hxm
   rcases h6 with h6 | h6
   ·have h7:=(hst.1.nms.le h6).2;have h8:(VK S a.note).num=(S.c S.id:Int)+1:=rfl;have h9:x.house=S.id:=by rw[hxh,<-hho];rfl
    rw[h9]at h7;omega
   ·rw[hx,h6]
theorem Zd3 {S:Zj}(h:Xt S)(hn : ∀a,S.c a<=1000):ZbO S.l:=by
 have hs:=h.srt;have key : ∀(j:Nat) (y:Z8) (z:Z8) (i:Nat),S.l[j]? = some y->S.l[i]? = some z->ltN z y->i < j:=fun j y z i hy hz hlt=>by
  rcases Nat.lt_trichotomy i j with h1 | h1 | h1
  ·exact h1
  ·rw[h1,hy]at hz;cases hz;exact absurd rfl (fun e=>Z14 hlt e)
  ·have hij:S.l[j]? = some y:=hy;have h2:=List.pairwise_iff_getElem.1 hs j i (List.getElem?_eq_some_iff.1 hy).1 (List.getElem?_eq_some_iff.1 hz).1 h1;rw[(List.getElem?_eq_some_iff.1 hy).2,(List.getElem?_eq_some_iff.1 hz).2]at h2;exact absurd rfl (fun e=>Z14 (Z4Y h2 hlt) e)
 have pred : ∀(k:Nat) (x:Z8),S.l[k]? = some x->x.num≠1 -> ∃i z,i < k/\S.l[i]? = some z/\z.house=x.house/\z.num=x.num - 1:=fun k x hx hne=>by
  have h1:=h.nms.le (List.mem_of_getElem? hx);obtain⟨z,hz,e⟩:=(h.nms x.house (x.num - 1)).2 ⟨by omega,by omega⟩;have e2:z.house=x.house/\z.num=x.num - 1:=by simpa [Zn] using e
  obtain⟨i,hi⟩:=List.getElem?_of_mem hz;refine⟨i,z,key k x z i hx hi ?_,hi,e2⟩;show J5 (Zn z) (Zn x)=true;rw[Xm];exact .inr ⟨e2.1,by show z.num < x.num;omega⟩
 refine⟨fun x hx=>?_,fun j y x hy hx=>?_⟩
 ·by_cases hne:x.num=1
  ·exact hne
  ·obtain⟨i,z,hi,_⟩:=pred 0 x hx hne;exact absurd hi (Nat.not_lt_zero i)
 ·have hlt:ltN y x:=by
   have h2:=List.pairwise_iff_getElem.1 hs j (j+1) (List.getElem?_eq_some_iff.1 hy).1 (List.getElem?_eq_some_iff.1 hx).1 (Nat.lt_succ_self j);rw[(List.getElem?_eq_some_iff.1 hy).2,(List.getElem?_eq_some_iff.1 hx).2]at h2;exact h2
  have hlt2:=(Xm _ _).1 hlt;have hy1:=h.nms.le (List.mem_of_getElem? hy);have hyc:=hn y.house;by_cases hne:x.num=1
  ·rcases hlt2 with h3 | ⟨h3,h4⟩
   ·exact .inr ⟨h3,hne⟩
   ·have h5:y.num < x.num:=h4;omega
  ·obtain⟨i,z,hi,hz,g1,g2⟩:=pred (j+1) x hx hne;have hzy:z.house=y.house/\z.num=y.num:=by
    by_cases e:i=j
    ·rw[e,hy]at hz;cases hz;exact⟨rfl,rfl⟩
    ·have h2:=List.pairwise_iff_getElem.1 hs i j (List.getElem?_eq_some_iff.1 hz).1 (List.getElem?_eq_some_iff.1 hy).1 (by omega);rw[(List.getElem?_eq_some_iff.1 hz).2,(List.getElem?_eq_some_iff.1 hy).2]at h2;have h3:=(Xm _ _).1 h2;have a1:(Zn z).1=z.house:=rfl;have a2:(Zn z).2=z.num:=rfl;have a3:(Zn y).1=y.house:=rfl;have a4:(Zn y).2=y.num:=rfl;have a5:(Zn x).1=x.house:=rfl;have a6:(Zn x).2=x.num:=rfl;rw[a1,a2,a3,a4]at h3;rw[a3,a4,a5,a6]at hlt2;omega
   exact .inl ⟨by rw[<-hzy.1];exact g1,by rw[<-hzy.2];omega,by omega,by omega⟩
theorem Zc0 (h:YR V ss T){S R:Zj}(hS:S∈V.hs)(hR:R∈V.hs): ∀x∈S.l,∀y∈R.l,Zn x=Zn y->x=y:=fun x hx y hy e=>by
 obtain⟨i,hi⟩:=List.getElem?_of_mem hS
 obtain⟨k,hk⟩:=List.getElem?_of_mem hR
 exact h.one hi hk hx hy e
end
theorem ZcZ:(zq.info? 24).map (fun i=>(i.zero,i.size,i.bytes))=some (some (.slice none 0 0),1,24):=by kernel_rfl
structure LL where
 zs:List LN
 a:zA
 c:Nat
def LL.val (x:LL):Value := .slice x.a x.zs.length x.c
def LL.ok (W:World)(base:Nat)(x:LL):Prop:=W.ownsRow base 47 19 x.val x.zs.length (ZF x.zs)/\Z0o W base x.zs
def LL.l (x:LL):List Z8:=x.zs.map LN.n
theorem LL.ok.below {W W':World}{base:Nat}{x:LL}(h:x.ok W base)(hb:Below W.heap.size W W'):x.ok W' base:=⟨Zd h.1 hb,h.2.below hb⟩
theorem Z6p (w:World)(base:Nat)(sa:zA)(sn sc:Nat)(xs:List Value)(hown:w.ownsRow base 24 1 (.slice sa sn sc) sn xs)(xa:zA)(m xc:Nat)(ys:List Value)(hrd:Y3 w 1 xa m xc ys)(h1 : ∀u∈ys,u.oneCell'=true)
  (hbytes:(sn+m) * 24<=140737488355328) (hbase:base<=w.heap.size):
  ∃a' c' w',(Builtin.append_ #[71,71] 71 #[.slice sa sn sc,.slice xa m xc]).run zq w = .ok (.slice a' (sn+m) c') w'/\w'.ownsRow base 24 1 (.slice a' (sn+m) c') (sn+m) (xs ++ ys)/\w.grownBy w' (Value.ownBlock (.slice sa sn sc)):=by
 obtain⟨i,hi,hz0,hz1,hz2⟩:=info_parts ZcZ;exact Yc w base 71 71 24 i _ 1 24 Tryz.underlying71 hi hz0 hz1 hz2 rfl (by decide) sa sn sc xs hown xa m xc ys hrd h1 (by unfold maxLen;omega) hbytes hbase
theorem ZcU (W:World)(v:Value):Y3 (W.alloc (.cells #[v] 24)) 1 (some ⟨W.heap.size,0,none⟩) 1 1 [v]:=
 Y3.of_own (World.ownsRow_lit (base:=W.heap.size) (e:=24) (size:=1) W #[v] 1 (Nat.le_refl _) (by unfold maxLen;omega) rfl)
def zm (W:World)(base:Nat)(a:zA)(c:Nat)(xs:List LL)(hs:List Zj):Prop:=W.ownsRow base 24 1 (.slice a xs.length c) xs.length (xs.map LL.val)/\(∀x∈xs,x.ok W base)/\xs.map LL.l=hs.map Zj.l
theorem zm.below {W W':World}{base:Nat}{a:zA}{c:Nat}{xs:List LL}{hs:List Zj}(h:zm W base a c xs hs)(hb:Below W.heap.size W W'):zm W' base a c xs hs:=⟨Zd h.1 hb,fun x hx=>(h.2.1 x hx).below hb,h.2.2⟩
theorem zm.push {W wn V:World}{base:Nat}{a a':zA}{c c':Nat}{xs:List LL}{hs:List Zj}{x:LL}{S:Zj}(h:zm W base a c xs hs)(hx:x.ok W base)(hS:x.l=S.l)(hb:Below W.heap.size W wn)(ho:V.ownsRow base 24 1 (.slice a' (xs.length+1) c') (xs.length+1) (xs.map LL.val ++ [x.val]))(hg:wn.grownBy V (Value.ownBlock (.slice a xs.length c))):
  zm V base a' c' (xs ++ [x]) (hs ++ [S]):=by
 have o1:=Zd h.1 hb;have s1:Zb (fun j=>Value.ownBlock (.slice a xs.length c)=some j) wn V:=Zb.of_grown hg (fun j e=>e);have hk : ∀{y:LL},y.ok W base->y.ok V base:=fun {y} hy=>by
  have h1:=hy.below hb;exact⟨Ze h1.1 s1 (fun b hb2 e=>JS h1.1 o1 (by decide) b hb2 e),fun z hz=>Ze (h1.2 z hz) s1 (fun b hb2 e=>JS (h1.2 z hz) o1 (by decide) b hb2 e)⟩
 refine⟨by rw[List.length_append,List.map_append];exact ho,fun y hy=>?_,by rw[List.map_append,List.map_append,h.2.2];simp[hS]⟩;rcases List.mem_append.1 hy with hy | hy
 ·exact hk (h.2.1 y hy)
 ·rw[List.mem_singleton.1 hy];exact hk hx
def Zcw (w:World)(hs:List Zj)(e:Ending)(W:World):Prop := ∃a c xs,e = .returned (.tuple #[.slice a hs.length c,.bool true])/\zm W w.heap.size a c xs hs
theorem ZaB (p:Nat)(F:Nat->Prop)(V:ZM)(m:Nat)(w:World)(h:VR w p F V)(hm:V.hs.length=m)(h0:1<=m)(h8:m<=8)(hi : ∀S∈V.hs,Xt S/\S.l.length<=400):
  Calls zq 33 #[.pointer (some ⟨p,0,none⟩),.int .i64 (m:Int)] w fun e w'=>Zcw w V.hs e w'/\Below w.heap.size w w':=by
 have HW:=zH h;have HM:=zH hm;have H8:=zH (And.intro h0 h8);have WN:=zH (fun(i:Int) W hb=>Z3c p F V i W (h.below Zk (show Below w.heap.size w W from hb)) (by omega) hi);clear h hm h0 h8 hi;go_enter Tryz.func33,Tryz.ntmps33;go_wp2;go_loopw [6,7] (fun s i wr=>∃(k:Nat) (oa:zA) (oc:Nat) (xs:List LL),s = .slice oa k oc/\i = .int .i64 ((k:Int)+1)/\k<=m/\Hid (xs.length=k/\zm wr w.heap.size oa oc xs (V.hs.take k)/\Below w.heap.size w wr)) (fun _ i _=>m+1 - (intOf i).toNat)
 case atStart=>exact⟨0,none,0,[],by first | rfl | trivial,by first | rfl | trivial,Nat.zero_le _,zH ⟨rfl,⟨World.ownsRow_nil _ _ _ _,fun x hx=>by simp at hx,by simp⟩,Below.refl _ _⟩⟩
 case round=>
  obtain⟨k,oa,oc,xs,rfl,rfl,hk,HS⟩:=hrel;by_cases hlt:k < m
  ·obtain⟨S,hS⟩ : ∃S,V.hs[k]? = some S:=⟨_,List.getElem?_eq_getElem (by rw[HM.out];exact hlt)⟩;have HSK:=zH hS;have t0:decide ((k:Int)+1<=(m:Int))=true:=by simp;omega
   have E1:=zH (show wrap64 ((k:Int)+1+1)=(k:Int)+1+1 by have:=H8.out;unfold wrap64;omega);clear hS;go_wp2_with fail;refine(WN.out ((k:Int)+1) wr HS.out.2.2).mono ?_;rintro e w2 ⟨hw,b2⟩;unfold Z1b at hw;rw[Z8E HSK.out]at hw;obtain⟨la,un,lc,zs,rfl,hmg,hzs⟩:=hw;obtain rfl:=hmg.len;have b3:Below w2.heap.size w2 (w2.alloc (.cells #[.slice la zs.length lc] 24)):=zB _ _;have S2:=zH (HS.out.2.1.below b2);have X2:=zH (show LL.ok w2 w.heap.size ⟨zs,la,lc⟩from⟨Zv hmg.own HS.out.2.2.size,fun y hy=>Zv (hmg.str y hy) HS.out.2.2.size⟩);have B2:=zH (HS.out.2.2.trans (b2.mono HS.out.2.2.size));have LK:=zH HS.out.1;obtain⟨a',c',V9,hrun,ho,hg⟩:=Z6p (w2.alloc (.cells #[.slice la zs.length lc] 24)) w.heap.size oa xs.length oc _ (Zd S2.out.1 b3) (some ⟨w2.heap.size,0,none⟩) 1 1 _ (ZcU w2 (.slice la zs.length lc)) (by intro u hu;simp at hu;subst hu;rfl) (by have:=LK.out;have:=H8.out;omega) (Nat.le_trans B2.out.size b3.size);have SN:=zH (show xs.length+1=k+1/\zm V9 w.heap.size a' c' (xs ++ [⟨zs,la,lc⟩]) (V.hs.take (k+1))/\Below w.heap.size w V9 from⟨by rw[LK.out],by
    rw[List.take_add_one,HSK.out];exact S2.out.push X2.out hzs b3 ho hg,(B2.out.trans (b3.mono B2.out.size)).grown hg (Nat.le_trans B2.out.size b3.size) (fun j hj=>(S2.out.1.lt j hj).1)⟩)
   clear b2 b3 hmg hzs ho hg;rw[LK.out]at hrun;go_wp2_with (first
    |(at_builtin;refine Ye rfl _ _ _ rfl _ _ _ rfl rfl hrun ?_)
    | fail)
   have e1:=E1.out;go_wp2;go_roundw
   case rel=>exact⟨k+1,a',c',xs ++ [⟨zs,la,lc⟩],by first | rfl | trivial,by first | rfl | go_num,by omega,zH ⟨by rw[List.length_append];exact SN.out.1,SN.out.2⟩⟩
   case measure=>clear e1;rw[E1.out];simp[intOf];omega
  ·have t0:decide ((k:Int)+1<=(m:Int))=false:=by simp;omega
   have hkm:k=m:=by omega
   subst hkm;go_wp2_with fail;go_returns;exact⟨⟨oa,oc,xs,by rw[HM.out];rfl,by have h1:=HS.out.2.1;rwa [List.take_of_length_le (by rw[HM.out];exact Nat.le_refl _)]at h1⟩,HS.out.2.2⟩
def Zdh (x y:Z8)(e:Ending):Prop := ∃r:Bool,e = .returned (.bool r)/\(x=y->r=true)
theorem Z7A (f:Yg)(hv:f.valid=true)(x y:Z8)(sa:zA)(sc:Nat)(ta:zA)(tc:Nat)(w:World)(hx:Xi w sa x.strokes.length sc x.strokes)(hy:Xi w ta y.strokes.length tc y.strokes)(fx:Zf f x=true)(fy:Zf f y=true):
  Calls zq 70 #[.agg (Z5 x sa sc),.agg (Z5 y ta tc)] w fun e w'=>Zdh x y e/\Below w.heap.size w w':=by
 by_cases e:ZQ x=ZQ y
 ·have:=Z76 hv fx fy e;subst this;refine(Z96 x sa sc ta tc w hx hy (YT hv fx) (Nat.le_trans (Xp hv fx) (by decide))).mono ?_;rintro e w1 ⟨rfl,b⟩;exact⟨⟨true,rfl,fun _=>rfl⟩,b⟩
 ·refine(Z7z x y sa sc ta tc w hx hy (YT hv fx) (Nat.le_trans (Xp hv fx) (by decide)) (YT hv fy) (Nat.le_trans (Xp hv fy) (by decide)) e).mono ?_;rintro e2 w1 ⟨rfl,b⟩;exact⟨⟨false,rfl,fun h=>absurd (by rw[h]) e⟩,b⟩
theorem Za5 (f:Yg)(hv:f.valid=true)(l d:List Z8)(a:zA)(n c:Nat)(a':zA)(n' c':Nat)(w:World)(hr:Qt w a n c l)(hr':Qt w a' n' c' d)(hn:n<=100000)(hn':n'<=100000)(hfl : ∀x∈l,Zf f x=true)(hfd : ∀x∈d,Zf f x=true)(hin : ∀x∈l,x∈d):
  Calls zq 37 #[.slice a n c,.slice a' n' c'] w fun e w'=>e = .returned (.bool true)/\Below w.heap.size w w':=by
 have J19:(zq.info? 47).map (·.size)=some 19:=by kernel_rfl
 have H:=zH hr;have H':=zH hr';have HN:=zH hn;have HN':=zH hn';have FL:=zH hfl;have FD:=zH hfd;have HI:=zH hin;have SB:=zH (fun x y sa sc ta tc w hx hy fx fy=>Z7A f hv x y sa sc ta tc w hx hy fx fy);clear hr hr' hn hn' hfl hfd hin;go_enter Tryz.func37,Tryz.ntmps37;go_wp2;go_loopw [5,6,7] (fun i _ _ wr=>∃(k:Nat),i = .int .i64 (k:Int)/\k<=n/\Hid (Below w.heap.size w wr)) (fun i _ _ _=>n - (intOf i).toNat)
 case atStart=>exact⟨0,by first | rfl | trivial,Nat.zero_le _,zH (Below.refl _ _)⟩
 case round=>
  obtain⟨k,rfl,hk,HB⟩:=hrel;by_cases hlt:k < n
  ·obtain⟨x,hx⟩ : ∃x,l[k]? = some x:=⟨_,List.getElem?_eq_getElem (by rw[H.out.1];exact hlt)⟩;have XM:=zH (List.mem_of_getElem? hx);have E1:=zH (show wrap64 ((k:Int)+1)=(k:Int)+1 by have:=HN.out;unfold wrap64;omega);have t0:decide ((k:Int) < (n:Int))=true:=by simp;omega
   obtain⟨b,off,rfl,hat⟩:=H.out.at (by omega);obtain⟨sa,sc,hrx,hsx⟩:=hat k x hx;obtain⟨o,ho⟩:=zX (off+k * 19);rw[ho.out]at hrx;have HRX:=zH hrx;have HSX:=zH hsx;have hix:=fun W=>Yk (W:=W) (c:=c) (b:=b) Tryz.underlying24 J19 hlt ho.out;clear hat hx hrx hsx;generalize wr=w1 at *;go_wp2;clear t0;go_loopw [6,7] (fun fo i wr=>∃(q:Nat) (r:Bool),fo = .bool r/\i = .int .i64 (q:Int)/\q<=n'/\Hid (Below w.heap.size w wr)/\Hid (r=false->x ∉ d.take q)) (fun _ i _=>n' - (intOf i).toNat)
   case atStart=>exact⟨0,false,by first | rfl | trivial,by first | rfl | trivial,Nat.zero_le _,HB,zH (fun _=>by simp)⟩
   case round=>
    clear HB;obtain⟨q,r,rfl,rfl,hq,HB,HF⟩:=hrel;by_cases hqn:q < n'
    ·have t1:decide ((q:Int) < (n':Int))=true:=by simp;omega
     cases r with
     | true=>
      go_wp2;have e1:=E1.out;go_wp2;go_roundw
      case rel=>exact⟨k+1,by go_num,by omega,HB⟩
      case measure=>clear e1;rw[E1.out];simp[intOf];omega
     | false=>
      obtain⟨y,hy⟩ : ∃y,d[q]? = some y:=⟨_,List.getElem?_eq_getElem (by rw[H'.out.1];exact hqn)⟩;have HY:=zH hy;have YM:=zH (List.mem_of_getElem? hy);have E2:=zH (show wrap64 ((q:Int)+1)=(q:Int)+1 by have:=HN'.out;unfold wrap64;omega);obtain⟨b',off',rfl,hat'⟩:=H'.out.at (by omega);obtain⟨ta,tc,hry,hsy⟩:=hat' q y hy;obtain⟨o',ho'⟩ : ∃o,Hid (off'+q * 19=o):=⟨_,zH rfl⟩;rw[ho'.out]at hry;have hix':=fun W=>Yk (W:=W) (c:=c') (b:=b') Tryz.underlying24 J19 hqn ho'.out;have bd:Below wr.heap.size wr wr.drew:=(Below.refl _ _).drew;have BD:=zH (HB.out.trans (bd.mono HB.out.size));have HRY:=zH hry;have HSY:=zH hsy;clear hat' hy hry hsy bd;go_wp2;refine zD (fun W=>Below w.heap.size w W) BD.out (fun hh=>?_);generalize wr.drew=V0 at *;refine zW 0 rfl (.slice (some ⟨b,off,none⟩) n c) ?_;refine zW 1 rfl (.int .i64 (k:Int)) ?_;refine zW 2 rfl (.pointer (some ⟨b,o,none⟩)) ?_;refine zT 3 rfl (.agg (Z5 x sa sc)) (U0 (by kernel_rfl) 47 _ rfl b o rfl (x.cells sa sc) _ (fun W hW=>ZY HRX.out hW) Tryz.underlying47 rfl (Ui x sa sc)) ?_;refine zW 4 rfl (.slice (some ⟨b',off',none⟩) n' c') ?_;refine zW 5 rfl (.int .i64 (q:Int)) ?_;refine zW 6 rfl (.pointer (some ⟨b',o',none⟩)) ?_;refine zT 7 rfl (.agg (Z5 y ta tc)) (U0 (by kernel_rfl) 47 _ rfl b' o' rfl (y.cells ta tc) _ (fun W hW=>ZY HRY.out hW) Tryz.underlying47 rfl (Ui y ta tc)) ?_;refine zR 8 rfl (fun K hK=>?_);go_simp;refine(SB.out x y sa sc ta tc _ (HSX.out.below BD.out) (HSY.out.below BD.out) (FL.out x XM.out) (FD.out y YM.out)).mono ?_;rintro e V1 ⟨⟨r,rfl,hr⟩,b1⟩;have B1:=zH (BD.out.trans (b1.mono BD.out.size));have HR:=zH hr;clear b1 hr;dsimp only;refine zK hK B1.out (fun hh=>?_);clear hK K;refine zW 9 rfl (.bool r) ?_;refine zE ?_;have NF:Hid (r=false->x ∉ d.take (q+1)):=zH (fun h0 hm=>by
       rw[List.take_add_one,HY.out]at hm;rcases List.mem_append.1 hm with h1 | h1
       ·exact HF.out (by first | rfl | trivial) h1
       ·have h2:x=y:=by simpa using h1
        rw[HR.out h2]at h0;cases h0)
      have e1:=E2.out;go_wp2;go_roundw
      case rel=>exact⟨q+1,r,by first | rfl | trivial,by go_num,by omega,B1,NF⟩
      case measure=>clear e1;rw[E2.out];simp[intOf];omega
    ·have t1:decide ((q:Int) < (n':Int))=false:=by simp;omega
     have hr:r=true:=by
      cases r with
      | true=>rfl
      | false=>
       have h1:=HF.out (by first | rfl | trivial);rw[List.take_of_length_le (by rw[H'.out.1];omega)]at h1;exact absurd (HI.out x XM.out) h1
     subst hr;go_wp2;have e1:=E1.out;go_wp2;go_roundw
     case rel=>exact⟨k+1,by go_num,by omega,HB⟩
     case measure=>clear e1;rw[E1.out];simp[intOf];omega
  ·have t0:decide ((k:Int) < (n:Int))=false:=by simp;omega
   go_wp2;go_ret;exact⟨rfl,HB.out⟩
structure QX (w wr:World)(pF:Nat)(f:Yg)(p:Nat)(F:Nat->Prop)(V:ZM)(ss:List Nat)(T:Nat)(da:zA)(dc:Nat)(ys:List LN)(m:Nat)(ex:List Z8):Prop where
 bel:Below w.heap.size w wr
 fr:wr.heap[pF]? = some (.cells #[.int .i64 f.rings,.int .i64 f.sectors,.int .i64 f.wide] 23)
 pfl:pF < wr.heap.size
 wld:VR wr p F V
 fge : ∀k,F k->w.heap.size<=k/\k≠pF
 inv:YR V ss T
 vf:V.f=f
 len:V.hs.length=m
 own:wr.ownsRow w.heap.size 47 19 (.slice da ys.length dc) ys.length (ZF ys)
 str:Z0o wr w.heap.size ys
 dis : ∀k,F k->Value.ownBlock (.slice da ys.length dc)≠some k /\ ∀y∈ys,Value.ownBlock (.slice y.sa y.n.strokes.length y.sc)≠some k
 kn : ∀x,UK V x->x∈ys.map LN.n\/x∈ex
 fd : ∀y∈ys,Zf f y.n=true
section
variable {w wr W':World}{pF:Nat}{f:Yg}{p:Nat}{F:Nat->Prop}{V V':ZM}{ss ss':List Nat}{T T':Nat}{da da':zA}{dc dc':Nat}{ys:List LN}{m:Nat}{ex:List Z8}
theorem QX.below (h:QX w wr pF f p F V ss T da dc ys m ex)(hb:Below wr.heap.size wr W'):QX w W' pF f p F V ss T da dc ys m ex:=
 ⟨h.bel.trans (hb.mono h.bel.size),Z7 hb h.fr,Nat.lt_of_lt_of_le h.pfl hb.size,h.wld.below Zk hb,h.fge,h.inv,h.vf,h.len,Zd h.own hb,h.str.below hb,h.dis,h.kn,h.fd⟩
theorem QX.step (h:QX w wr pF f p F V ss T da dc ys m [])(hi:YR V' ss' T')(hf:V'.f=V.f/\V'.hs.length=V.hs.length)(hk : ∀x,UK V' x->UK V x\/x∈ex)(hr:Yv wr p F V' W'): ∃F',QX w W' pF f p F' V' ss' T' da dc ys m ex:=by
 obtain⟨F',h1,h2,h3⟩:=hr;have hl:=h.bel.size;refine⟨F',⟨h2.below h.bel hl (fun k e=>(h.fge k e).1),(h2.block pF h.pfl (fun e=>(h.fge pF e).2 rfl)).trans h.fr,Nat.lt_of_lt_of_le h.pfl h2.size,h1,fun k hk=>?_,hi,hf.1.trans h.vf,hf.2.trans h.len,Ze h.own h2 (fun b hb e=>(h.dis b e).1 hb),fun y hy=>Ze (h.str y hy) h2 (fun b hb e=>(h.dis b e).2 y hy hb),fun k hk=>?_,fun x hx=>?_,h.fd⟩⟩
 ·rcases h3 k hk with e | e
  ·exact h.fge k e
  ·exact⟨Nat.le_trans hl e,fun e2=>by have:=h.pfl;omega⟩
 ·rcases h3 k hk with e | e
  ·exact h.dis k e
  ·exact⟨fun e2=>by have:=(h.own.lt k e2).2;omega,fun y hy e2=>by have:=((h.str y hy).lt k e2).2;omega⟩
 ·rcases hk x hx with e | e
  ·rcases h.kn x e with e2 | e2
   ·exact .inl e2
   ·cases e2
  ·exact .inr e
theorem QX.push {wn V9:World}{x:LN}(h:QX w wr pF f p F V ss T da dc ys m [x.n])(hx:wr.ownsRow w.heap.size 3 1 (.slice x.sa x.n.strokes.length x.sc) x.n.strokes.length (x.n.strokes.map Yh))(hxF : ∀k,F k->Value.ownBlock (.slice x.sa x.n.strokes.length x.sc)≠some k)(hf:Zf f x.n=true)(hb:Below wr.heap.size wr wn)
  (ho:V9.ownsRow w.heap.size 47 19 (.slice da' (ys.length+1) dc') (ys.length+1) (ZF ys ++ x.n.cells x.sa x.sc)) (hg:wn.grownBy V9 (Value.ownBlock (.slice da ys.length dc))) (hl:da'=da\/da'=some ⟨wn.heap.size,0,none⟩):
  QX w V9 pF f p F V ss T da' dc' (ys ++ [x]) m []:=by
 have h1:=h.below hb;have s1:Zb (fun j=>Value.ownBlock (.slice da ys.length dc)=some j) wn V9:=Zb.of_grown hg (fun j e=>e);have hFl:=h.wld.lt Zk;have hk : ∀{z:LN},wn.ownsRow w.heap.size 3 1 (.slice z.sa z.n.strokes.length z.sc) z.n.strokes.length (z.n.strokes.map Yh)->V9.ownsRow w.heap.size 3 1 (.slice z.sa z.n.strokes.length z.sc) z.n.strokes.length (z.n.strokes.map Yh):=fun {z} hz=>Ze hz s1 (fun b h4 e=>JS hz h1.own (by decide) b h4 e);have e1:ys.length+1=(ys ++ [x]).length:=by simp
 rw[e1]at ho;refine⟨s1.below h1.bel h1.bel.size (fun j e=>(h1.own.lt j e).1),(s1.block pF h1.pfl (fun e=>ZJ h1.own h1.fr (by decide) e)).trans h1.fr,Nat.lt_of_lt_of_le h1.pfl s1.size,h1.wld.same Zk s1 (fun k e hF=>(h.dis k hF).1 e),h.fge,h.inv,h.vf,h.len,by rw[Qi];exact ho,fun y hy=>?_,fun k hF=>⟨fun e=>?_,fun y hy=>?_⟩,fun z hz=>?_,fun y hy=>?_⟩
 ·rcases List.mem_append.1 hy with hy | hy
  ·exact hk (h1.str y hy)
  ·rw[List.mem_singleton.1 hy];exact hk (Zd hx hb)
 ·rcases hl with e2 | e2
  ·rw[e2,Z31 da (ys ++ [x]).length ys.length dc',Z0u]at e;refine(h.dis k hF).1 ?_;rw[Z0u];exact e
  ·rw[e2]at e;have h3:wn.heap.size=k:=by simpa [Value.ownBlock] using e
   have:=hFl k hF;have:=hb.size;omega
 ·rcases List.mem_append.1 hy with hy | hy
  ·exact(h.dis k hF).2 y hy
  ·rw[List.mem_singleton.1 hy];exact hxF k hF
 ·rcases h.kn z hz with e | e
  ·exact .inl (by rw[List.map_append];exact List.mem_append_left _ e)
  ·exact .inl (by rw[List.map_append,List.mem_singleton.1 e];simp)
 ·rcases List.mem_append.1 hy with hy | hy
  ·exact h.fd y hy
  ·rw[List.mem_singleton.1 hy];exact hf
theorem QX.hs (h:QX w wr pF f p F V ss T da dc ys m ex)(hT:T<=400): ∀S∈V.hs,Xt S/\S.l.length<=400:=fun S hS=>by
 obtain⟨i,hi⟩:=List.getElem?_of_mem hS
 exact⟨(h.inv.st' hi).1,Nat.le_trans (h.inv.len hi) hT⟩
theorem QX.set (h:QX w wr pF f p F V ss T da dc ys m ex)(hT:T<=400): ∀S∈V.hs,(Zt f S.l).1=0/\(∀x∈S.l,Zf f x=true/\x.Ok)/\ZbO S.l:=fun S hS=>by
 obtain⟨i,hi⟩:=List.getElem?_of_mem hS
 have h1:=h.inv.st' hi
 have hf:S.f=f:=h1.2.1.trans h.vf
 refine⟨ZcO (hf ▸ h1.1.v) (Nat.le_trans (h.inv.len hi) hT) (fun x hx=>hf ▸ h1.1.frm x hx) h1.1.srt,fun x hx=>⟨hf ▸ h1.1.frm x hx,h1.1.ok x hx⟩,Zd3 h1.1 (fun a=>?_)⟩
 by_cases h0:S.c a=0
 ·omega
 ·have h2:=Z2L h1.1.nms (XQ h1.1.srt) a
  have h3:Ql S.l a<=S.l.length:=List.countP_le_length
  have:=h.inv.len hi
  omega
end
open Go.ChangeShapes Go.WideShapes Go.ChangeAt Go.RowKit
theorem Tryz.bytes3:zq.bytesOf 3=8:=by kernel_rfl
theorem zz {H:Type}{P:Program}{e:TypeId}: ∀{ds:List (DataW H)} {d:DataW H},d∈ds -> ∀n∈d.weights P e,n∈DataW.weightsAll P e ds
 | [],_,h,_,_=>by cases h
 | d0 :: ds,d,h,n,hn=>by
  simp only[DataW.weightsAll,List.mem_append]
  rcases List.mem_cons.1 h with rfl | h
  ·exact .inl hn
  ·exact .inr (zz h n hn)
section
variable {H:Type}{enc:TypeId×Value->H}{W:World}
def zl (t:TypeId)(d:DataW H):Prop := ∀q∈d.weights zq t,q<=reachBytes
theorem Z8X {ts:List TypeId}{ds:List (DataW H)}(h:(DataW.weightsEach zq ts ds).all (· <= reachBytes)=true){j:Nat}{t:TypeId}{d:DataW H}(ht:ts[j]? = some t)(hd:ds[j]? = some d):zl t d:=fun q hq=>by
 have:=List.all_eq_true.1 h _ (DataW.weights_mem_each ht hd q hq)
 simpa using this
theorem Z8W {fuel:Nat}{y:DataW H×List MemPlace}{a:zA}{n c:Nat}(h:DataW.trod enc zq W 0 (fun _=>true) true fuel 37 [.slice a n c]=some y)(hs:zl 37 y.1):n<=17592186044416:=by
 rcases DataW.trod_slice Tryz.underlying37 h with ⟨hcs,hx⟩ | ⟨a1,len',cap',elems,rest,m,_,hcs,hx,hb,hl,hm,hlen,hel,hsp,hns⟩
 ·simp at hcs;omega
 ·simp at hcs;obtain⟨rfl,rfl,rfl⟩:=hcs;subst hx;have h1:=hs ((elems.length+rest.length) * zq.bytesOf 3) (by simp[DataW.weights,Tryz.underlying37]);rw[Tryz.bytes3,show reachBytes=140737488351232 by decide]at h1;omega
theorem Z67 {fuel:Nat}{y:DataW H×List MemPlace}{n:Z8}{sa:zA}{sc:Nat}(h:DataW.trod enc zq W 0 (fun _=>true) true fuel 47 (n.cells sa sc)=some y)(hs:zl 47 y.1):n.strokes.length<=17592186044416:=by
 obtain⟨xs,m,_,hx,hl,hlen,hf⟩:=DataW.trod_struct Tryz.underlying47 h;obtain⟨y13,e13⟩:=Y7 hlen (i:=13) (by decide);have g13:DataW.trod enc zq W 0 (fun _=>true) true m 37 (((n.cells sa sc).drop 15).take (zq.cellsOf 37))=some y13:=(hf 13 _ rfl).trans e13;rw[Tryz.cells37]at g13;refine Z8W (y:=y13) g13 fun q hq=>hs q ?_;rw[hx];simp only[DataW.weights,Tryz.underlying47];exact DataW.weights_mem_each (j:=13) (t:=37) rfl (by simp[List.getElem?_map,e13]) q hq
theorem Z7L {fuel:Nat}{cs:List Value}{y:DataW H×List MemPlace}{t e:TypeId}{k:Nat}(ht:zq.underlying t=some (.slice e))(hc:zq.cellsOf e=k)(hk:0 < k)
  (h:DataW.trod enc zq W 0 (fun _=>true) true fuel t cs=some y) (hs:zl t y.1):
  ∃a n c,cs=[.slice a n c]/\n<=c/\c<=maxLen/\(c=0 \/ ∃b off,a=some ⟨b,off,none⟩ /\ ∀i,i < n -> ∃es m z,DataW.trod enc zq W 0 (fun _=>true) true m e es=some z/\W.rangeAt b (off+i * k) es/\zl e z.1):=by
 rcases DataW.trod_slice ht h with ⟨hcs,hx⟩ | ⟨a,len',cap',elems,rest,m,_,hcs,hx,hb,hl,hm,hlen,hel,hsp,hns⟩
 ·exact⟨none,0,0,hcs,Nat.le_refl _,Nat.zero_le _,.inl rfl⟩
 ·rw[hc]at hel hsp;refine⟨some a,len',cap',hcs,hl,hm,?_⟩;rcases Nat.eq_zero_or_pos cap' with h0 | h0
  ·exact .inl h0
  ·have hspot:a.spot=none:=by
    rcases Nat.eq_zero_or_pos len' with h1 | h1
    ·obtain⟨h2,h3⟩:=hsp rfl;have h4:=h3 0 (by omega);rw[List.getElem?_eq_getElem (by omega)]at h4;cases hq:W.cells? 0 (a.add ((len'+0) * k)) k with
     | none=>rw[hq]at h4;cases h4
     | some cs=>rw[show(len'+0) * k=0 by rw[h1];simp]at hq;have:=Z4d hk hq;simpa [Addr.add] using this
    ·have h4:=hel 0 h1;rw[List.getElem?_eq_getElem (by omega)]at h4;cases hq:W.cells? 0 (a.add (0 * k)) k with
     | none=>rw[hq]at h4;cases h4
     | some cs=>rw[Nat.zero_mul]at hq;have:=Z4d hk hq;simpa [Addr.add] using this
   obtain⟨ab,ao,spot⟩:=a;simp only at hspot;subst hspot;refine .inr ⟨ab,ao,rfl,fun i hi=>?_⟩;have h1:=hel i hi;rw[List.getElem?_eq_getElem (by omega)]at h1;cases hcs:W.cells? 0 ((⟨ab,ao,none⟩:Addr).add (i * k)) k with
   | none=>rw[hcs]at h1;cases h1
   | some es=>
    rw[hcs]at h1;have h2:=World.cells?_some hcs;refine⟨es,m,_,h1,fun j v hv=>?_,fun q hq=>hs q ?_⟩
    ·have hj:j < es.length:=(List.getElem?_eq_some_iff.1 hv).1;have h3:=h2.2.2 j (by have:=h2.1;omega);rw[hv]at h3;simpa [Addr.add_lit] using h3
    ·rw[hx];simp only[DataW.weights,ht,List.mem_cons,List.mem_append];refine .inr (.inl (zz ?_ q hq));exact List.mem_map_of_mem (List.getElem_mem _)
end
theorem Tryz.cells67:zq.cellsOf 67=25:=by kernel_rfl
structure LA.Good (W:World)(x:LA):Prop where
 ok:x.ok W
 nok:x.a.note.Ok
 len:x.a.note.strokes.length<=17592186044416
 kind:XU x.a.kind
 house:XU x.a.house
section
variable {H:Type}{enc:TypeId×Value->H}{W:World}
theorem Z9f {fuel:Nat}{cs:List Value}{y:DataW H×List MemPlace}(h:DataW.trod enc zq W 0 (fun _=>true) true fuel 67 cs=some y)(hs:zl 67 y.1): ∃x:LA,cs=x.cells/\x.Good W:=by
 obtain⟨xs,m,_,hyx,hl,hlen,hf⟩:=DataW.trod_struct Tryz.underlying67 h;rw[Tryz.cells67]at hl
 match cs,hl with
 | [c0,c1,c2,c3,c4,c5,c6,c7,c8,c9,c10,c11,c12,c13,c14,c15,c16,c17,c18,c19,c20,c21,c22,c23,c24],_=>
  obtain⟨y0,e0⟩:=Y7 hlen (i:=0) (by decide);have HG:=fun(K T:Nat) {y} (h:DataW.trod enc zq W 0 (fun _=>true) true m T (([c0,c1,c2,c3,c4,c5,c6,c7,c8,c9,c10,c11,c12,c13,c14,c15,c16,c17,c18,c19,c20,c21,c22,c23,c24].drop K).take (zq.cellsOf T))=some y)=>h;have g0:=HG 0 3 ((hf 0 _ rfl).trans e0);rw[Tryz.cells3]at g0;obtain⟨x0,a0,_,b0⟩:=DataW.trod_int Tryz.underlying3 g0;simp at a0;obtain⟨y1,e1⟩:=Y7 hlen (i:=1) (by decide);have g1:=HG 1 3 ((hf 1 _ rfl).trans e1);rw[Tryz.cells3]at g1;obtain⟨x1,a1,_,b1⟩:=DataW.trod_int Tryz.underlying3 g1;simp at a1;obtain⟨y2,e2⟩:=Y7 hlen (i:=2) (by decide);have g2:=HG 2 3 ((hf 2 _ rfl).trans e2);rw[Tryz.cells3]at g2;obtain⟨x2,a2,_,b2⟩:=DataW.trod_int Tryz.underlying3 g2;simp at a2;obtain⟨y3,e3⟩:=Y7 hlen (i:=3) (by decide);have g3:=HG 3 3 ((hf 3 _ rfl).trans e3);rw[Tryz.cells3]at g3;obtain⟨x3,a3,_,b3⟩:=DataW.trod_int Tryz.underlying3 g3;simp at a3;obtain⟨y5,e5⟩:=Y7 hlen (i:=5) (by decide);have g5:=HG 23 3 ((hf 5 _ rfl).trans e5);rw[Tryz.cells3]at g5;obtain⟨x5,a5,_,b5⟩:=DataW.trod_int Tryz.underlying3 g5;simp at a5;obtain⟨y6,e6⟩:=Y7 hlen (i:=6) (by decide);have g6:=HG 24 3 ((hf 6 _ rfl).trans e6);rw[Tryz.cells3]at g6;obtain⟨x6,a6,_,b6⟩:=DataW.trod_int Tryz.underlying3 g6;simp at a6;obtain⟨y4,e4⟩:=Y7 hlen (i:=4) (by decide);have g4:=HG 4 47 ((hf 4 _ rfl).trans e4);rw[Tryz.cells47]at g4;have w4:zl 47 y4.1:=fun q hq=>hs q (by
   rw[hyx];simp only[DataW.weights,Tryz.underlying67];exact DataW.weights_mem_each (j:=4) (t:=47) rfl (by simp[List.getElem?_map,e4]) q hq)
  have g4b:=g4;obtain⟨nv,na,nc,a4,r4,o4⟩:=Z7M g4;rw[a4]at g4b;have l4:=Z67 g4b w4;simp only[Z8.cells]at a4;simp at a4;clear hs hyx hf h;obtain⟨rfl,rfl,rfl,rfl,rfl,rfl,rfl,rfl,rfl,rfl,rfl,rfl,rfl,rfl,rfl,rfl,rfl,rfl,rfl⟩:=a4;subst a0 a1 a2 a3 a5 a6;exact⟨⟨⟨x0,x1,x2,x3,nv,x5,x6⟩,na,nc⟩,rfl,⟨r4,o4,l4,Z7Y b0,Z7Y b1⟩⟩
theorem Z9e {base:Nat}{v:Value}{d:DataW H}{p:List MemPlace}(hval:Value.okWide zq W .any base 61 v)
  (h:DataW.Trod enc zq W 0 (fun _=>true) true 61 v d p) (hs:zl 61 d) : ∃a n c l,v = .slice a n c/\Z7o W a n c l /\ ∀x∈l,x.Good W:=by
 obtain⟨a1,n1,c1,rfl⟩:=okWide_slice Tryz.underlying61 hval;obtain⟨fuel,hf⟩:=h;obtain⟨a,n,c,h0,h1,h2,h3⟩:=Z7L Tryz.underlying61 Tryz.cells67 (by decide) hf hs;simp[Value.cells]at h0;obtain⟨rfl,rfl,rfl⟩:=h0;rcases h3 with h3 | ⟨b,off,rfl,h3⟩
 ·exact⟨_,_,_,[],rfl,⟨by simp;omega,h1,h2,.inl h3⟩,fun x hx=>by cases hx⟩
 ·obtain⟨l,h4,h5⟩:=Z7e (P:=fun i (x:LA)=>W.rangeAt b (off+i * 25) x.cells/\x.Good W) (fun i hi=>by
   obtain⟨es,m,z,h6,h7,h8⟩:=h3 i hi;obtain⟨o,rfl,ho⟩:=Z9f h6 h8;exact⟨o,h7,ho⟩)
  refine⟨_,_,_,l,rfl,⟨h4,h1,h2,.inr ⟨b,off,rfl,fun i x hx=>⟨(h5 i x hx).1,(h5 i x hx).2.ok⟩⟩⟩,fun x hx=>?_⟩;obtain⟨i,hi⟩:=List.getElem?_of_mem hx;exact(h5 i x hi).2
end
theorem Z7Q {f:Yg}{m:Nat}{x:Z8}(h:UK (Z1n f m) x):False:=by
 obtain⟨S,hS,hx⟩:=h;have h1:S∈(List.range m).map fun(i:Nat)=>Zj.new f ((i:Int)+1):=hS;obtain⟨i,_,rfl⟩:=List.mem_map.1 h1;cases hx
theorem Z7a {V:ZM}{a:XA}{x:Z8}(h:Z66 V a x):(YS V a).2=0:=by
 obtain⟨h1,S,h2,h3,_⟩:=h;unfold YS;rw[if_pos h1];unfold XB;rw[h2];exact h3
theorem Z64 {W:World}{b o:Nat}{x:LA}(h:W.rangeAt b o x.cells):W.cell? ⟨b,o,none⟩=some (.int .i64 x.a.kind)/\W.cell? ⟨b,o+1,none⟩=some (.int .i64 x.a.house)/\W.cell? ⟨b,o+4+4,none⟩=some (.int .i64 x.a.note.kind):=
 ⟨h 0 _ rfl,h 1 _ rfl,by rw[Nat.add_assoc];exact h 8 _ rfl⟩
theorem Zda {A1 A2:Type}{P T:A1->A2->Prop}{G:Prop}(h1:(∀x1 x2,P x1 x2->T x1 x2)->G)(h2 : ∀x1 x2,P x1 x2->T x1 x2):G:=h1 h2
theorem Z80 (f:Yg)(nm:Int)(a:zA)(n c:Nat)(xs:List LA)(w:World)(hr:Z7o w a n c xs)(hg : ∀x∈xs,x.Good w):
  Calls zq 7 #[f.val,.int .i64 nm,.slice a n c] w fun e w'=>e = .returned (.bool true)/\Below w.heap.size w w':=by
 have hvl:f.val = .agg #[.int .i64 f.rings,.int .i64 f.sectors,.int .i64 f.wide]:=rfl;have NWO:=zH (fun(m:Nat) W hv h1 h8=>Z6G f m W hv h1 h8);have NWN:=zH (fun W h=>Z6H f nm W h);have FK:=zH (fun a nn nc l ma mn mc m W h1 h2 h3 h4=>Z9d f a nn nc l ma mn mc m W h1 h2 h3 h4);rw[hvl]at NWO NWN FK ⊢;clear hvl;have J25:(zq.info? 67).map (·.size)=some 25:=by kernel_rfl
 have J19:(zq.info? 47).map (·.size)=some 19:=by kernel_rfl
 have JL:(zq.info? 24).map (·.size)=some 1:=by kernel_rfl
 have HR:=zH hr;have HG:=zH hg;have hn63:n<=9223372036854775807:=by have h1:=hr.2.1;have h2:=hr.2.2.1;unfold maxLen at h2;omega
 have X0:=zH (Za w (zF f 23));have B0:=zH (zB w (zF f 23));clear hr hg;go_enter Tryz.func7,Tryz.ntmps7;go_upto_region 1 with fail;obtain⟨pF,hpF⟩:=zX (w.heap.size);rw[hpF.out]at X0 ⊢;generalize w.alloc (zF f 23)=W0 at *;go_wp2_with fail;refine(Za1 _).mono ?_;rintro e W1 ⟨rfl,b1⟩;have X1:=zH (Z7 b1 X0.out);have B1:=zH (B0.out.trans (b1.mono B0.out.size));clear b1 X0 B0;go_upto_region 2 with fail;cases hq:decide ((60:Int) < (n:Int))
 case true=>
  go_wp2;go_ret;exact⟨rfl,B1.out⟩
 have NL:=zH (show n<=60 by simp at hq;omega);go_wp2_with fail;refine(Z4y xs a n c _ (HR.out.below B1.out) (by have:=NL.out;omega) (fun x hx=>(HG.out x hx).len)).mono ?_;rintro e W2 ⟨rfl,rfl⟩;cases hb:decide (Xx (xs.map LA.a)<=600)
 case false=>
  go_wp2;go_ret;exact⟨rfl,B1.out⟩
 have LIT:Hid (∀x∈xs,x.a.note.strokes.length<=1000000000):=zH (fun x hx=>by
  have h1:=of_decide_eq_true hb;obtain⟨i,hi⟩:=List.getElem?_of_mem hx;have h2:=Z0Q hi;have h3:Xx ((xs.take (i+1)).map LA.a)<=Xx (xs.map LA.a):=by
   unfold Xx;have h4:xs=xs.take (i+1) ++ xs.drop (i+1):=(List.take_append_drop _ _).symm;rw[show((xs.map LA.a).map fun a=>a.note.strokes.length)=(((xs.take (i+1) ++ xs.drop (i+1)).map LA.a).map fun a=>a.note.strokes.length)by rw[<-h4]];rw[List.map_append,List.map_append,List.sum_append];omega
  omega)
 clear hb hq;have c0:=Z6 X1.out 0 (.int .i64 f.rings) rfl;have c1:=Z6 X1.out 1 (.int .i64 f.sectors) rfl;have c2:=Z6 X1.out 2 (.int .i64 f.wide) rfl;by_cases hno : ¬(1<=nm/\nm<=8/\f.valid=true)
 ·go_wp2_with fail;refine(NWN.out _ hno).mono ?_;rintro e W3 ⟨rfl,b3⟩;have B3:=zH (B1.out.trans (b3.mono B1.out.size));clear b3 hno c0 c1 c2;go_wp2;go_ret;exact⟨rfl,B3.out⟩
 obtain⟨m,rfl⟩ : ∃m:Nat,nm=(m:Int):=⟨nm.toNat,by omega⟩;have HM:=zH (show 1<=m/\m<=8/\f.valid=true from⟨by omega,by omega,by
  have h9:=Classical.not_not.1 hno;exact h9.2.2⟩)
 clear hno NWN;go_wp2_with fail;refine(NWO.out m _ HM.out.2.2 HM.out.1 HM.out.2.1).mono ?_;rintro e W3 ⟨p,F,rfl,hw,hF,b3⟩;have ST:Hid (QX w W3 pF f p F (Z1n f m) (List.replicate m 0) 0 none 0 [] m []):=zH ⟨B1.out.trans (b3.mono B1.out.size),Z7 b3 X1.out,Zi (Z7 b3 X1.out),hw,fun k hk=>by
   have h1:=hF k hk;have h2:=B1.out.size;have h3:=Zi X1.out;exact⟨by omega,by omega⟩,YR.new HM.out.2.2 ⟨HM.out.1,HM.out.2.1⟩,rfl,by simp[Z1n],World.ownsRow_nil _ _ _ _,(fun y hy=>by cases hy),(fun k hk=>⟨by simp[Value.ownBlock],fun y hy=>by cases hy⟩),(fun x hx=>(Z7Q hx).elim),(fun y hy=>by cases hy)⟩
 clear hw hF b3 c0 c1 c2 NWO X1 B1;go_wp2_with fail;go_loopw [10,11,12,13,14,15] (fun dn iv _ _ _ _ wr=>∃(k dl:Nat) (da:zA) (dc:Nat) (ys:List LN) (F:Nat->Prop) (V:ZM) (ss:List Nat),dn = .slice da dl dc/\iv = .int .i64 (k:Int)/\k<=n/\Hid (dl=ys.length/\dl<=k/\QX w wr pF f p F V ss k da dc ys m [])) (fun _ iv _ _ _ _ _=>n - (intOf iv).toNat)
 case atStart=>exact⟨0,0,none,0,[],F,Z1n f m,List.replicate m 0,by first | rfl | trivial,by first | rfl | trivial,Nat.zero_le _,zH ⟨rfl,Nat.le_refl _,ST.out⟩⟩
 case round=>
  clear ST;obtain⟨k,dl,da,dc,ys,F,V,ss,rfl,rfl,hk,HS⟩:=hrel;by_cases hlt:k < n
  ·have t0:decide ((k:Int) < (n:Int))=true:=by simp;omega
   obtain⟨x,hx⟩ : ∃x,xs[k]? = some x:=⟨_,List.getElem?_eq_getElem (by rw[HR.out.1];exact hlt)⟩;have XM:=zH (List.mem_of_getElem? hx);have XG:=zH (HG.out x XM.out);obtain⟨b,off,rfl,hat⟩:=HR.out.at (by omega);obtain⟨o,ho⟩:=zX (off+k * 25);have hra:=(hat k x hx).1;rw[ho.out]at hra;have HRA:=zH hra;have hix:=fun W=>Yk (W:=W) (c:=c) (b:=b) Tryz.underlying61 J25 hlt ho.out;have E1:=zH (show wrap64 ((k:Int)+1)=(k:Int)+1 by have:=NL.out;unfold wrap64;omega);have HX:=zH (ZY HRA.out HS.out.2.2.bel);clear hat hx hra;go_wp2_with (first
    |(refine wpList_load_mid rfl 67 _ rfl b o rfl (x.a.cells x.sa x.sc) _ HX.out Tryz.underlying67 rfl J25 ?_)
    | fail)
   refine(Z8T p F V ss k x.a x.sa x.sc _ HS.out.2.2.wld HS.out.2.2.inv (by have:=NL.out;omega) XG.out.kind (Xi.below XG.out.ok HS.out.2.2.bel) XG.out.nok (LIT.out x XM.out)).mono ?_;rintro e W5 ⟨rfl,hr5⟩;clear t0 HX;obtain⟨ss',hI⟩:=HS.out.2.2.inv.step x.a XG.out.nok;have SF:=ZcM V x.a;by_cases hd:x.a.kind=1/\(YS V x.a).2=0
   ·obtain⟨S,S',hS,hS',hdb,hfo,hok,j,hj,hlj⟩:=Z79 HS.out.2.2.inv hd.1 XG.out.nok hd.2;obtain⟨F',h5⟩:=HS.out.2.2.step (ex:=[VK S x.a.note]) hI SF (fun y hy=>by
     rcases Z3g HS.out.2.2.inv hy with e | ⟨_,R,hR,_,e⟩
     ·exact .inl e
     ·rw[hS]at hR;cases hR;exact .inr (by rw[e];simp)) hr5
    have hfS:S.f=f:=by
     obtain⟨i,_,_,hi⟩:=Yu hS;exact(HS.out.2.2.inv.st' hi).2.1.trans HS.out.2.2.vf
    have DL:=zH HS.out.1;have DLK:=zH HS.out.2.1;have W5S:Hid (w.heap.size<=W5.heap.size):=zH h5.bel.size;have FO:=zH (show Zf f (VK S x.a.note)=true from hfS ▸ hfo);have H5:=zH h5;have HSS:=zH hS';have HJ:=zH hj;have HLJ:=zH hlj;obtain⟨d0,d1,d2⟩:=Z64 (ZY HRA.out h5.bel);rw[hd.1]at d0;rw[hd.2];generalize (YS V x.a).1=V' at *;clear HS hr5 hI SF hd hS hS' hdb hfo hok hj hlj h5 hfS;go_wp2_with fail;refine(Z3c p F' V' x.a.house W5 H5.out.wld (by rw[H5.out.len];have:=HM.out.1;omega) (H5.out.hs (by have:=NL.out;omega))).mono ?_;rintro e W6 ⟨hw,b6⟩;unfold Z1b at hw;rw[HSS.out]at hw;obtain⟨la,un,lc,zs,rfl,hmg,hzs⟩:=hw;obtain rfl:=hmg.len;have H6:=zH (H5.out.below b6);have MG:=zH hmg;have ZS:=zH hzs;have ZL:Hid (S'.l.length=zs.length):=zH (by rw[<-hzs,List.length_map]);have FLT:=zH (H5.out.wld.lt Zk);have RN:Hid (Qt W6 la zs.length lc S'.l):=zH (by
     have h1:=Z2Z (Y3.of_own hmg.own) (fun y hy=>Y3.of_own (hmg.str y hy));rwa [hzs]at h1)
    have ZB:Hid (zs.length<=400):=zH (by
     obtain⟨i,_,_,hi⟩:=Yu HSS.out;rw[<-ZL.out];exact Nat.le_trans (H6.out.inv.len hi) (by have:=NL.out;omega))
    clear hmg hzs b6 H5 d0 d1 d2;obtain⟨d0,d1,d2⟩:=Z64 (ZY HRA.out H6.out.bel);go_wp2_with fail;refine(Z7P S'.l x.a.house la zs.length lc W6 RN.out (by have:=ZB.out;omega)).mono ?_;rintro e W7 ⟨rfl,q7,rfl⟩;have NJ:Z7R (Qg S'.l x.a.house zs.length)=(j:Int):=by rw[<-ZL.out,HJ.out];rfl
    rw[NJ];clear NJ;have bq:=below_drewN (Below.refl W6.heap.size W6) q7;have H7:=zH (H6.out.below bq);have M7:=zH (MG.out.below bq);have R7:=zH (RN.out.below bq);clear bq H6 MG RN d0 d1 d2;generalize W6.drewN q7=W7 at *;obtain⟨d0,d1,d2⟩:=Z64 (ZY HRA.out H7.out.bel);obtain⟨y,hy⟩ : ∃y,zs[j]? = some y:=by
     have h1:=HLJ.out;rw[<-ZS.out,List.getElem?_map]at h1;cases hz:zs[j]? with
     | none=>rw[hz]at h1;cases h1
     | some y=>exact⟨y,rfl⟩
    have YD:Hid (y.n=VK S x.a.note):=zH (by
     have h1:=HLJ.out;rw[<-ZS.out,List.getElem?_map,hy]at h1;exact Option.some.inj h1)
    have YM:=zH (List.mem_of_getElem? hy);have JLT:=zH (List.getElem?_eq_some_iff.1 hy).1;obtain⟨b2,off2,rfl,hat2⟩:=Z6K (Y3.of_own M7.out.own) (show 0 < zs.length by have:=JLT.out;omega);obtain⟨o2,ho2⟩:=zX (off2+j * 19);have hry:=hat2 j y hy;rw[ho2.out]at hry;have HRY:=zH hry;have hix2:=fun W=>Yk (W:=W) (c:=lc) (b:=b2) Tryz.underlying24 J19 JLT.out ho2.out;have y4:W7.cell? ⟨b2,o2+4,none⟩=some (.int .i64 x.a.note.kind):=by
     have h1:=hry 4 (.int .i64 y.n.kind) rfl;rw[YD.out]at h1;exact h1
    have dj:decide ((j:Int) < 0)=false:=by simp
    have mk:(x.a.note.kind != x.a.note.kind)=false:=by simp
    clear hat2 hy hry;go_wp2_with fail;go_quiet (fail);clear d0 d1 d2 y4 dj mk;obtain⟨W8,hW8⟩ : ∃W8,Hid (W8=W7.drewN nq):=⟨_,zH rfl⟩;have bq:=below_drewN (Below.refl W7.heap.size W7) nq;rw[<-hW8.out]at bq ⊢;have H8:=zH (H7.out.below bq);have M8:=zH (M7.out.below bq);have HR8:=zH (ZY HRY.out bq);clear bq hW8 H7 M7 HRY R7;have bn:Below W8.heap.size W8 (W8.alloc (.cells (Z5 y.n y.sa y.sc) 47)):=zB _ _;obtain⟨a',c',V9,hrun,ho9,hg9,hl9⟩:=Z7D (W8.alloc (.cells (Z5 y.n y.sa y.sc) 47)) w.heap.size da ys.length dc _ (Zd H8.out.own bn) _ 1 1 _ (JO W8 y.n y.sa y.sc) (y.n.cells_one _ _) (by have h1:=DL.out;have h2:=DLK.out;have h3:=NL.out;omega) (Nat.le_trans H8.out.bel.size bn.size);have H9:=zH (QX.push (x:=y) (by rw[YD.out];exact H8.out) (Zv (M8.out.str y YM.out) W5S.out) (fun k hk e=>by
     have h1:=((M8.out.str y YM.out).lt k e).1;have h2:=FLT.out k hk;omega) (by rw[YD.out];exact FO.out) bn ho9 hg9 hl9)
    have DLE:Hid (dl+1=(ys ++ [y]).length):=zH (by rw[List.length_append,DL.out];rfl);rw[<-DL.out]at hrun;clear bn ho9 hg9 hl9;go_wp2_with (first
     |(refine wpList_load_mid rfl 47 _ rfl b2 o2 rfl (y.n.cells y.sa y.sc) _ HR8.out Tryz.underlying47 rfl (Ui y.n y.sa y.sc) ?_)
     |(refine Xv rfl _ rfl y.n y.sa y.sc rfl ?_)
     |(at_builtin;refine Ye rfl _ _ _ rfl _ _ _ rfl rfl hrun ?_)
     | fail)
    have e1:=E1.out;go_wp2;go_roundw
    case rel=>exact⟨k+1,dl+1,a',c',ys ++ [y],F',V',ss',by first | rfl | trivial,by go_num,by omega,zH ⟨DLE.out,by have:=DLK.out;omega,H9.out⟩⟩
    case measure=>clear e1;(try rw[E1.out]);simp[intOf];omega
   ·obtain⟨F',h5⟩:=HS.out.2.2.step (ex:=[]) hI SF (fun y hy=>by
     rcases Z3g HS.out.2.2.inv hy with e | e
     ·exact .inl e
     ·exact absurd ⟨e.1,Z7a e⟩ hd) hr5
    have H5:=zH (show dl=ys.length/\dl<=k+1/\QX w W5 pF f p F' (YS V x.a).1 ss' (k+1) da dc ys m []from⟨HS.out.1,Nat.le_succ_of_le HS.out.2.1,h5⟩);obtain⟨d0,d1,d2⟩:=Z64 (ZY HRA.out h5.bel);obtain⟨z,hz⟩ : ∃z,(YS V x.a).2=z:=⟨_,rfl⟩;rw[hz]at hd ⊢;generalize (YS V x.a).1=V' at *;have e1:=E1.out;by_cases hk1:x.a.kind=1
    focus
     have t1:(z != 0)=true:=by simp;exact fun h=>hd ⟨hk1,h⟩
     rw[hk1]at d0
    rotate_left
    focus
     have t1:(x.a.kind != 1)=true:=by simp[hk1]
    all_goals
     clear HS hr5 hI SF hd h5 hz hk1;go_wp2;go_roundw
     case rel=>exact⟨k+1,dl,da,dc,ys,F',V',ss',by first | rfl | trivial,by go_num,by omega,H5⟩
     case measure=>clear e1;(try rw[E1.out]);simp[intOf];omega
  ·have t0:decide ((k:Int) < (n:Int))=false:=by simp;omega
   have TK:Hid (k<=60):=zH (by have:=NL.out;omega);have H0:=zH HS.out.2.2;have DL:=zH HS.out.1;have DLB:Hid (dl<=60):=zH (by have:=HS.out.2.1;have:=NL.out;omega);have t0':decide (k < n)=false:=by simp;omega
   clear HS;go_wp2_with fail;refine(ZaB p F V m wr H0.out.wld H0.out.len HM.out.1 HM.out.2.1 (H0.out.hs (by have:=TK.out;omega))).mono ?_;rintro e W1 ⟨⟨sa,sc,ls,rfl,hst⟩,b1⟩;rw[H0.out.len];have H1:=zH (H0.out.below b1);have SS:=zH hst;have SL:Hid (ls.length=m):=zH (by
    have h1:=congrArg List.length hst.2.2;rw[List.length_map,List.length_map,H0.out.len]at h1;exact h1)
   have ROW:Hid (∀W,Below W1.heap.size W1 W->Y3 W 1 sa m sc (ls.map LL.val)):=zH (fun W hb=>by
    have h1:=Y3.of_own (Zd hst.1 hb);rwa [SL.out]at h1)
   have ELT:Hid (∀(i:Nat) (x:LL),ls[i]? = some x -> ∃S,S∈V.hs/\x.l=S.l /\ ∀W,Below W1.heap.size W1 W->Qt W x.a x.zs.length x.c S.l):=zH (fun i x hx=>by
    have h1:(ls.map LL.l)[i]? = (V.hs.map Zj.l)[i]? := by rw[hst.2.2]
    rw[List.getElem?_map,List.getElem?_map,hx]at h1;cases hS:V.hs[i]? with
    | none=>rw[hS]at h1;cases h1
    | some S=>
     rw[hS]at h1;have h2:x.l=S.l:=Option.some.inj h1;refine⟨S,List.mem_of_getElem? hS,h2,fun W hb=>?_⟩;have h3:=(hst.2.1 x (List.mem_of_getElem? hx)).below hb;have h4:=Z2Z (Y3.of_own h3.1) (fun y hy=>Y3.of_own (h3.2 y hy));rw[<-h2];exact h4)
   have DN:Hid (∀W,Below W1.heap.size W1 W->Qt W da dl dc (ys.map LN.n)):=zH (fun W hb=>by
    have h3:=H1.out.below hb;rw[DL.out];exact Z2Z (Y3.of_own h3.own) (fun y hy=>Y3.of_own (h3.str y hy)))
   clear hst b1 t0 t0';go_wp2_with fail;go_loopw [18,19,20,21] (fun iv _ _ _ wr=>∃(i:Nat),iv = .int .i64 (i:Int)/\i<=m/\Hid (Below W1.heap.size W1 wr)) (fun iv _ _ _ _=>m - (intOf iv).toNat)
   case atStart=>exact⟨0,by first | rfl | trivial,Nat.zero_le _,zH (Below.refl _ _)⟩
   case round=>
    obtain⟨i,rfl,hi,HB⟩:=hrel;by_cases him:i < m
    ·have t1:decide ((i:Int) < (m:Int))=true:=by simp;omega
     obtain⟨x,hx⟩ : ∃x,ls[i]? = some x:=⟨_,List.getElem?_eq_getElem (by rw[SL.out];exact him)⟩;have HX:=zH hx;obtain⟨S,hSV,hxl,hrd⟩:=ELT.out i x hx;have SV:=zH hSV;have RDX:=zH hrd;have SETS:=zH (H1.out.set (by have:=TK.out;omega) S hSV);have SLL:Hid (S.l.length<=400/\x.zs.length=S.l.length):=zH ⟨(H1.out.hs (by have:=TK.out;omega) S hSV).2,by rw[<-hxl];unfold LL.l;rw[List.length_map]⟩;obtain⟨g,off,rfl,hat⟩:=(ROW.out wr HB.out).at (by omega);obtain⟨o,ho⟩:=zX (off+i);have cx:wr.cell? ⟨g,o,none⟩=some (.slice x.a x.zs.length x.c):=by
      rw[<-ho.out];exact hat i _ (by rw[List.getElem?_map,hx];rfl)
     have hix:=fun W=>Yk (W:=W) (c:=sc) (b:=g) (off:=off) Tryz.underlying71 JL him (show off+i * 1=o by rw[Nat.mul_one];exact ho.out);have E1:=zH (show wrap64 ((i:Int)+1)=(i:Int)+1 by have:=HM.out;unfold wrap64;omega);clear hat hx hSV hxl hrd;go_wp2_with fail;refine(Z6Z S.l x.a x.zs.length x.c wr (RDX.out wr HB.out) (by have:=SLL.out;omega) SETS.out.2.2).mono ?_;rintro e W2 ⟨rfl,q2,rfl⟩;have bq:=below_drewN (Below.refl wr.heap.size wr) q2;have B2:=zH (HB.out.trans (bq.mono HB.out.size));have cx2:=(bq.cell (p:=⟨g,o,none⟩) (World.block_lt_of_cell? wr _ cx)).trans cx;generalize wr.drewN q2=W2 at *;clear bq cx HB t1;go_wp2_with fail;refine(Za5 f HM.out.2.2 S.l (ys.map LN.n) x.a x.zs.length x.c da dl dc W2 (RDX.out W2 B2.out) (DN.out W2 B2.out) (by have:=SLL.out;omega) (by have:=DLB.out;omega) (fun y hy=>(SETS.out.2.1 y hy).1) (fun y hy=>by
      obtain⟨z,hz,rfl⟩:=List.mem_map.1 hy;exact H1.out.fd z hz) (fun y hy=>by
      rcases H1.out.kn y ⟨S,SV.out,hy⟩with e | e
      ·exact e
      ·cases e)).mono ?_
     rintro e W3 ⟨rfl,b3⟩;have B3:=zH (B2.out.trans (b3.mono B2.out.size));clear b3 cx2 B2;go_wp2_with fail;go_loopw [19,20,21] (fun jv _ _ wr=>∃(j:Nat),jv = .int .i64 (j:Int)/\j<=i/\Hid (Below W1.heap.size W1 wr)) (fun jv _ _ _=>i - (intOf jv).toNat)
     case atStart=>exact⟨0,by first | rfl | trivial,Nat.zero_le _,B3⟩
     case round=>
      obtain⟨j,rfl,hj,HB⟩:=hrel;by_cases hji:j < i
      ·have t2:decide ((j:Int) < (i:Int))=true:=by simp;omega
       have hjm:j < m:=by omega
       obtain⟨y,hy⟩ : ∃y,ls[j]? = some y:=⟨_,List.getElem?_eq_getElem (by rw[SL.out];exact hjm)⟩;obtain⟨R,hRV,hyl,hrd⟩:=ELT.out j y hy;have RDY:=zH hrd;have SETR:=zH (H1.out.set (by have:=TK.out;omega) R hRV);have FKN:Hid (Z0S f S.l R.l=((0,0),3)):=zH (Z40 SETS.out.1 SETR.out.1 (Z71.2 (Zc0 H1.out.inv SV.out hRV)));obtain⟨o2,ho2⟩:=zX (off+j);have hixj:=fun W=>Yk (W:=W) (c:=sc) (b:=g) (off:=off) Tryz.underlying71 JL hjm (show off+j * 1=o2 by rw[Nat.mul_one];exact ho2.out);have CELL:Hid (∀W,Below W1.heap.size W1 W->W.cell? ⟨g,o,none⟩=some (.slice x.a x.zs.length x.c)/\W.cell? ⟨g,o2,none⟩=some (.slice y.a y.zs.length y.c)):=zH (fun W hb=>by
        obtain⟨g',off',e,hat⟩:=(ROW.out W hb).at (by omega);cases e;exact⟨by rw[<-ho.out];exact hat i _ (by rw[List.getElem?_map,HX.out];rfl),by rw[<-ho2.out];exact hat j _ (by rw[List.getElem?_map,hy];rfl)⟩)
       have E2:=zH (show wrap64 ((j:Int)+1)=(j:Int)+1 by have:=HM.out;unfold wrap64;omega);have FRC:Hid (∀W,Below W1.heap.size W1 W->W.heap[pF]? = some (.cells #[.int .i64 f.rings,.int .i64 f.sectors,.int .i64 f.wide] 23)):=zH (fun W hb=>Z7 hb H1.out.fr);have JF:=zH (show(zq.info? 23).map (·.size)=some (#[Value.int .i64 f.rings,.int .i64 f.sectors,.int .i64 f.wide]:ZW).size from by kernel_rfl);clear hy hRV hyl hrd;go_upto_region 29 with fail;clear t2;apply Zda (P:=fun(W:World) (p20:Nat)=>Hid (Below W1.heap.size W1 W))
       ·intro REST;have bd:Below wr.heap.size wr wr.drew:=(Below.refl _ _).drew;have BV:=zH (HB.out.trans (bd.mono HB.out.size));clear bd;refine zD (fun W=>Below W1.heap.size W1 W) BV.out (fun hh=>?_);generalize wr.drew=V0 at *;refine zT 0 rfl (.agg #[.int .i64 f.rings,.int .i64 f.sectors,.int .i64 f.wide]) (ZR (by kernel_rfl) 23 _ rfl pF rfl _ 23 (0,0) _ (fun W hW=>FRC.out W hW) Tryz.underlying23 rfl (by exact JF.out)) ?_;refine zW 1 rfl (.slice (some ⟨g,off,none⟩) m sc) ?_;refine zW 2 rfl (.int .i64 (i:Int)) ?_;refine zW 3 rfl (.pointer (some ⟨g,o,none⟩)) ?_;refine zS 4 rfl (.slice x.a x.zs.length x.c) (fun W hW=>by have c:=(CELL.out W hW).1;go_simp) ?_;refine zW 5 rfl (.slice (some ⟨g,off,none⟩) m sc) ?_;refine zW 6 rfl (.int .i64 (j:Int)) ?_;refine zW 7 rfl (.pointer (some ⟨g,o2,none⟩)) ?_;refine zS 8 rfl (.slice y.a y.zs.length y.c) (fun W hW=>by have c:=(CELL.out W hW).2;go_simp) ?_;refine zM [9,13] rfl (fun K hK=>?_) (zn (i:=13) (fun K hK=>?_))
        focus
         skip;go_simp;refine(FK.out x.a x.zs.length x.c S.l y.a y.zs.length y.c R.l V0 (RDX.out V0 BV.out) (fun z hz=>(SETS.out.2.1 z hz).2) (RDY.out V0 BV.out) (fun z hz=>(SETR.out.2.1 z hz).2)).mono ?_;rintro e V1 ⟨hfr,b⟩;unfold Z0F at hfr;rw[FKN.out]at hfr;subst hfr;replace BV:=zH (BV.out.trans (b.mono BV.out.size));clear b;dsimp only;refine zK hK BV.out (fun hh=>?_);clear hK K;refine zW 10 rfl (.tuple #[.agg #[.int .i64 0,.int .i64 0],.int .i64 3]) ?_;refine zW 11 rfl (.agg #[.int .i64 0,.int .i64 0]) ?_;refine zW 12 rfl (.int .i64 3) ?_;refine zR 13 rfl (fun K hK=>?_);rw[if_pos (by kernel_rfl)];refine JZ (w':=V1.alloc (.cells #[.int .i64 0,.int .i64 0] 45)) (.pointer (some ⟨V1.heap.size,0,none⟩)) (by kernel_rfl) ?_;have b:Below V1.heap.size V1 (V1.alloc (.cells #[.int .i64 0,.int .i64 0] 45)):=zB _ _;have NT:=zH (Za V1 (.cells #[.int .i64 0,.int .i64 0] 45));have NP:Hid (W1.heap.size<=V1.heap.size):=zH BV.out.size;replace BV:=zH (BV.out.trans (b.mono BV.out.size));clear b;obtain⟨p20,hp20⟩:=zX (V1.heap.size);rw[hp20.out]at NT NP ⊢;clear hp20;generalize V1.alloc (.cells #[.int .i64 0,.int .i64 0] 45)=V2 at *;refine zK hK BV.out (fun hh=>?_);clear hK K
        rotate_left
        focus
         skip;rw[if_pos (by kernel_rfl)];refine JZ (w':=V0.alloc (.cells #[.int .i64 0,.int .i64 0] 45)) (.pointer (some ⟨V0.heap.size,0,none⟩)) (by kernel_rfl) ?_;have b:Below V0.heap.size V0 (V0.alloc (.cells #[.int .i64 0,.int .i64 0] 45)):=zB _ _;have NT:=zH (Za V0 (.cells #[.int .i64 0,.int .i64 0] 45));have NP:Hid (W1.heap.size<=V0.heap.size):=zH BV.out.size;replace BV:=zH (BV.out.trans (b.mono BV.out.size));clear b;obtain⟨p20,hp20⟩:=zX (V0.heap.size);rw[hp20.out]at NT NP ⊢;clear hp20;generalize V0.alloc (.cells #[.int .i64 0,.int .i64 0] 45)=V1 at *;refine zK hK BV.out (fun hh=>?_);clear hK K;refine zR 9 rfl (fun K hK=>?_);go_simp;refine(FK.out x.a x.zs.length x.c S.l y.a y.zs.length y.c R.l V1 (RDX.out V1 BV.out) (fun z hz=>(SETS.out.2.1 z hz).2) (RDY.out V1 BV.out) (fun z hz=>(SETR.out.2.1 z hz).2)).mono ?_;rintro e V2 ⟨hfr,b⟩;unfold Z0F at hfr;rw[FKN.out]at hfr;subst hfr;replace NT:=zH (Z7 b NT.out);replace BV:=zH (BV.out.trans (b.mono BV.out.size));clear b;dsimp only;refine zK hK BV.out (fun hh=>?_);clear hK K;refine zW 10 rfl (.tuple #[.agg #[.int .i64 0,.int .i64 0],.int .i64 3]) ?_;refine zW 11 rfl (.agg #[.int .i64 0,.int .i64 0]) ?_;refine zW 12 rfl (.int .i64 3) ?_
        all_goals
         refine zR 14 rfl (fun K hK=>?_);rw[if_pos (by kernel_rfl)];refine ZV 45 _ _ rfl p20 #[.int .i64 0,.int .i64 0] #[.int .i64 0,.int .i64 0] 45 rfl rfl NT.out (by kernel_rfl) rfl (by simp[Value.oneCell']) ?_;intro X h8 hg8 hs8;have BX:=zH (BV.out.grown hg8 BV.out.size (fun q hq=>by cases hq;exact NP.out));clear h8 hg8 hs8;refine zK hK BX.out (fun hh=>?_);clear hK K;refine zW 15 rfl (.int .i64 3) ?_;refine zE ?_;exact REST X p20 BX
       intro X p20 BX;have e1:=E2.out;go_wp2;go_roundw
       case rel=>exact⟨j+1,by go_num,by omega,BX⟩
       case measure=>clear e1;(try rw[E2.out]);simp[intOf];omega
      ·have t2:decide ((j:Int) < (i:Int))=false:=by simp;omega
       have e1:=E1.out;go_wp2;go_roundw
       case rel=>exact⟨i+1,by go_num,by omega,HB⟩
       case measure=>clear e1;(try rw[E1.out]);simp[intOf];omega
    ·have t1:decide ((i:Int) < (m:Int))=false:=by simp;omega
     have BF:=zH (H1.out.bel.trans (HB.out.mono H1.out.bel.size));go_wp2;go_ret;exact⟨rfl,BF.out⟩
theorem Z06 (os:Os)(started:os.Started)(H:Type)(enc:TypeId×Value->H):
  ReturnsInHanded {} Tryz.checked os 7 .any (Rows.talliesHonestSpec.pre6 enc zq Tryz.f7 Rows.talliesHonestRow.domain false) (Rows.talliesHonestSpec.post enc zq Tryz.f7 false true false false):=by
 refine returnsInHanded_of_change_sized (C:=Tryz.checked) Tryz.own started (by kernel_rfl) Tryz.func7
  (ChangeSpec.witness6 (enc:=enc) (C:=Tryz.checked) false ⟨#[],#[.agg #[.int .i64 0,.int .i64 0,.int .i64 0],.int .i64 0,.slice none 0 0],[]⟩ 8 (by kernel_rfl) (by kernel_rfl) (by kernel_rfl) (by kernel_rfl)) ?_
 intro W base args ds gs before hval0 hW hcnd hsz _;have hval : ∀(j:Nat) t v,Tryz.f7.params[j]? = some t->args[j]? = some v->Value.okWide zq W .any base t v:=hval0;have hW':=hW;obtain⟨p,q,hA0,hV,rfl,hfz,hnd⟩:=hW;have hA:DataW.TrodAll enc zq W 0 (fun _=>true) true Tryz.f7.params.toList args.toList ds p:=hA0;have hA1:=hA;rw[Tryz.params7]at hA hval;obtain⟨v0,v1,v2,d0,d1,d2,p0,p1,p2,rfl,rfl,rfl,h0,h1,h2⟩:=trodAll_three hA;obtain⟨rfl,rfl⟩:=trodVars_none hV;obtain⟨f,rfl⟩:=Z6V (hval 0 23 v0 rfl rfl) h0;have k2:zl 61 d2:=Z8X hsz (j:=2) (by kernel_rfl) rfl;obtain⟨x1,rfl,rfl,rfl,w1⟩:=open_int Tryz.underlying3 (hval 1 3 v1 rfl rfl) h1;obtain⟨a,n,c,l,rfl,r1,r2⟩:=Z9e (hval 2 61 v2 rfl rfl) h2 k2;clear hA0 hval0;simp only[List.append_nil]at hW' hA1;refine(Z80 f x1 a n c l W r1 r2).mono fun e W' ⟨he,hb⟩ => ?_;subst he;exact⟨_,rfl,Z6w Tryz.laidOut Tryz.underlying4 rfl (by kernel_rfl) (by kernel_rfl) hW' hA1 rfl hb⟩
theorem Z9I:(Rows.talliesHonestRow.inPlace==zq.inPlace 7)=true:=by kernel_rfl
theorem Z9H:(Rows.talliesHonestRow.unfollowed==zq.unfollowed 7)=true:=by kernel_rfl
theorem Z9G:(Rows.talliesHonestRow.recurses==zq.recurses 7)=true:=by kernel_rfl
theorem Z9F:(Rows.talliesHonestRow.named==zq.varsNamed 7)=true:=by kernel_rfl
theorem Z4z:joinedFacts zq 7 Tryz.f7 Rows.talliesHonestSpec Rows.talliesHonestRow=true:=by
 unfold joinedFacts;rw[Z9I,Z9H,Z9G,Z9F];kernel_rfl
theorem talliesHonest_holds:Rows.TalliesHonestSaid:=
 OpenClaim.holds_of_wide 7 Tryz.f7 rfl rfl rfl rfl rfl rfl rfl ⟨rfl,rfl,rfl,rfl,rfl⟩ rfl rfl rfl rfl rfl (by kernel_rfl) Tryz.func7 Z4z
  (of_decide_eq_true (by kernel_rfl)) (by unfold Func.isWrapper;first|(rw[if_pos (by decide+kernel)];kernel_rfl)|(rw[if_neg (by decide+kernel)];exact⟨rfl,rfl⟩))
  (fun os started H enc _=>Z06 os started H enc)
#print axioms talliesHonest_holds
end Go.Proofs.YtlnhppgfhkkidaaGreat
