/- Parts of the proof, in order. -/
import Derived.Deep.RegionLaw
import Derived.Lib.SliceRun
import Derived.OrdersHeld
import Derived.StillTail
import Derived.Deep.RegionHeld3
import Derived.WalkKit
import Derived.Test.YtlnhppgfhkkidaaGreatKPst7
set_option linter.unusedSimpArgs false
set_option linter.unusedVariables false
set_option maxHeartbeats 32000000
set_option maxRecDepth 100000
namespace Go.Proofs.YtlnhppgfhkkidaaGreat
open Go.Proofs.Tryz renaming prog → zq
open Go.RowKit
theorem Z50 (l:List Z8)(a:zA)(nn nc:Nat)(ma:zA)(mn mc:Nat)(w:World)(hr:Qs w a nn nc l)(hm:Qs w ma mn mc l)(hsm : ∀x∈l,Uc x/\x.strokes.length<=1000000):
  Calls zq 18 #[.slice a nn nc,.slice ma mn mc] w fun e w'=>e = .returned (.bool true)/\Below w.heap.size w w':=by
 have J19:(zq.info? 47).map (·.size)=some 19:=by kernel_rfl
 obtain rfl:nn=mn:=hr.1.symm.trans hm.1;obtain⟨xs,hxs,hrl⟩:=hr.choose;have RL:=zH hrl;have HXS:=zH hxs;have LNX:=zH hrl.1;have LOK:=zH (show ∀W,Below w.heap.size w W -> ∀x∈xs,x.ok W from fun W hb x hx=>(Z5D hrl hx).below hb);obtain⟨ys,hys,hml⟩:=hm.choose;have ML:=zH hml;have HYS:=zH hys;have LMY:=zH hml.1;have MOK:=zH (show ∀W,Below w.heap.size w W -> ∀x∈ys,x.ok W from fun W hb x hx=>(Z5D hml hx).below hb);have hn63:nn<=9223372036854775807:=by have h1:=hr.2.1;have h2:=hr.2.2.1;unfold maxLen at h2;omega
 have tne:((nn:Int) != (nn:Int))=false:=by simp
 have HSM:=zH hsm;clear hr hm hxs hrl hys hml hsm;go_enter Tryz.func18,Tryz.ntmps18;go_wp2_with fail;clear tne;go_loopw [5] (fun i wr=>∃(k:Nat),i = .int .i64 (k:Int)/\k<=nn/\Hid (Below w.heap.size w wr)) (fun i _=>nn - (intOf i).toNat)
 case atStart=>exact⟨0,rfl,Nat.zero_le _,zH (Below.refl _ _)⟩
 case round=>
  obtain⟨k,rfl,hk,BB⟩:=hrel;by_cases hlt:k < nn
  ·have t0:decide ((k:Int) < (nn:Int))=true:=by simp;omega
   obtain⟨x,Hx⟩ : ∃x,xs[k]? = some x:=⟨_,List.getElem?_eq_getElem (by rw[LNX.out];exact hlt)⟩;obtain⟨y,Hy⟩ : ∃y,ys[k]? = some y:=⟨_,List.getElem?_eq_getElem (by rw[LMY.out];exact hlt)⟩;have HL1:l[k]? = some x.n:=by rw[<-HXS.out,List.getElem?_map,Hx];rfl
   have EN:y.n=x.n:=by
    have h2:l[k]? = some y.n:=by rw[<-HYS.out,List.getElem?_map,Hy];rfl
    rw[HL1]at h2;exact(Option.some.inj h2).symm
   have SMX:=zH (HSM.out x.n (List.mem_of_getElem? HL1));obtain⟨yn,ysa,ysc⟩:=y;dsimp only at EN;subst EN;clear HL1;obtain⟨b,off,rfl,hat⟩:=(RL.out.below BB.out).at (by omega);have HX:=zH (hat k x Hx).1;obtain⟨o,ho⟩:=zX (off+k * 19);rw[ho.out]at HX;have HIX:=zH (fun W=>Yi (W:=W) (c:=nc) (b:=b) Tryz.underlying24 J19 hlt ho.out);obtain⟨b2,off2,rfl,hat2⟩:=(ML.out.below BB.out).at (by omega);obtain⟨o2,ho2⟩:=zX (off2+k * 19);have HY:=zH (hat2 k _ Hy).1;rw[ho2.out]at HY;have HIY:=zH (fun W=>Yi (W:=W) (c:=mc) (b:=b2) Tryz.underlying24 J19 hlt ho2.out);have XOK:=zH (LOK.out wr BB.out x (List.mem_of_getElem? Hx));have YOK:=zH (MOK.out wr BB.out _ (List.mem_of_getElem? Hy));have HK64:Hid ((k:Int)+1<=9223372036854775807):=zH (by omega);have LX:=zH (show ∀w0,Below wr.heap.size wr w0->w0.rangeAt b o (x.n.cells x.sa x.sc)from fun w0 h=>Yv HX.out h);have LY:=zH (show ∀w0,Below wr.heap.size wr w0->w0.rangeAt b2 o2 (x.n.cells ysa ysc)from fun w0 h=>Yv HY.out h);have hC0:Below wr.heap.size wr wr.drew:=(Below.refl _ _).drew;clear hat Hx hat2 Hy;go_upto_region 6 with fail;clear t0;try simp only[Act.put,lq3,lq4,lq5]
   refine zC (fun w':World=>Below wr.heap.size wr w') hC0 ?_
   iterate 2 go_big_quiet_step (fail)
   refine zQ (.pointer (some ⟨b,o,none⟩)) (fun w0 hC=>?_) ?_
   ·have hix:=HIX.out w0;clear hC;go_simp
   refine zQ (.agg (Z5 x.n x.sa x.sc)) (fun w0 hC=>Qg (.tmp 19) rfl b o rfl x.n x.sa x.sc (LX.out w0 hC)) ?_
   iterate 2 go_big_quiet_step (fail)
   refine zQ (.pointer (some ⟨b2,o2,none⟩)) (fun w0 hC=>?_) ?_
   ·have hix:=HIY.out w0;clear hC;go_simp
   refine zQ (.agg (Z5 x.n ysa ysc)) (fun w0 hC=>Qg (.tmp 23) rfl b2 o2 rfl x.n ysa ysc (LY.out w0 hC)) ?_;refine zQ (.bool true) (fun w0 hC=>?_) ?_
   ·go_simp;refine(Z9W x.n x.sa x.sc ysa ysc w0 (XOK.out.below hC) (YOK.out.below hC) SMX.out.1 SMX.out.2).mono ?_;rintro e w1 ⟨rfl,b1⟩;exact⟨rfl,hC.trans (b1.mono hC.size)⟩
   refine zV (.bool false) ?_;refine wpQuiet_nil ?_;intro w' hC;have BB2:=zH (BB.out.trans (hC.mono BB.out.size));clear hC LX LY XOK YOK HX HY BB;have hk64:=HK64.out;go_wp2;go_roundw
   case rel=>exact⟨k+1,by go_num,by omega,BB2⟩
   case measure=>simp[intOf];omega
  ·have t0:decide ((k:Int) < (nn:Int))=false:=by simp;omega
   go_wp2;go_ret;exact⟨rfl,BB.out⟩
theorem Z0j {x:Z8}: ∀{fr l:List Z8},x∈Qo l fr↔x∈l\/x∈fr
 | [],l=>by simp[Qo]
 | n :: fr,l=>by
  show x∈Qo (Xw l n) fr↔_
  rw[Z0j,Xp,List.mem_cons,or_assoc]
theorem Z5p: ∀{fr gs:List Z8} {S:Zf},Vi S.c fr->Vi (S.adds fr).c gs->Vi S.c (fr ++ gs)
 | [],gs,S,_,h=>h
 | m :: fr,gs,S,h,h2=>⟨h.1,Z5p (S:=S.add m) h.2 h2⟩
theorem Z8h (S:Zf)(a b:List Z8):S.adds (a ++ b)=(S.adds a).adds b:=by unfold Zf.adds;rw[List.foldl_append]
theorem Z9z: ∀(l:List Z8) (A:Zf),(A.adds l).sb=A.sb ++ Xi (l.map Y5)/\(A.adds l).fb=A.fb ++ Jy (l.map Y5)/\(A.adds l).sd=A.sd/\(A.adds l).fd=A.fd
 | [],A=>by simp[Zf.adds,Xi,Jy]
 | n :: l,A=>by
  obtain⟨h1,h2,h3,h4⟩:=Z9z l (A.add n)
  refine⟨?_,?_,h3,h4⟩
  ·show((A.add n).adds l).sb=_
   rw[h1,List.map_cons,JQ]
   show(A.sb ++ ZB (Y5 n)) ++ _=_
   rw[List.append_assoc]
  ·show((A.add n).adds l).fb=_
   rw[h2,List.map_cons,VT]
   show(A.fb ++ ZQ (Y5 n)) ++ _=_
   rw[List.append_assoc]
theorem Zdi (c:Int->Nat)(h a:Int):c a<=QV c h a:=by unfold QV;split <;> omega
theorem Z5Z: ∀(l:List Z8) (A:Zf) (a:Int),A.c a<=(A.adds l).c a
 | [],_,_=>Nat.le_refl _
 | n :: l,A,a=>Nat.le_trans (Zdi A.c n.house a) (Z5Z l (A.add n) a)
theorem Z5Y: ∀(l:List Z8) (A:Zf) (a:Int),(∀x∈l,x.house≠a)->(A.adds l).c a=A.c a
 | [],_,_,_=>rfl
 | n :: l,A,a,h=>by
  show((A.add n).adds l).c a=_
  rw[Z5Y l (A.add n) a (fun x hx=>h x (List.mem_cons_of_mem _ hx))]
  show QV A.c n.house a=_
  unfold QV
  rw[if_neg (fun e=>h n (List.mem_cons_self ..) e.symm)]
theorem ZaK (S:Zf)(hv:S.f.valid=true)(n:Z8):((UH S n).1=S/\(UH S n).2.2≠0/\(UH S n).2.1=Zh)\/(UH S n=(S.add (doN S n),doN S n,0)/\Zg S.f (doN S n)=true):=by
 unfold UH;split
 ·exact .inl ⟨rfl,by show(2:Int)≠0;decide,rfl⟩
 ·split
  ·exact .inl ⟨rfl,by show(80:Int)≠0;decide,rfl⟩
  ·rename_i h2;split
   ·exact .inl ⟨rfl,by show(91:Int)≠0;decide,rfl⟩
   ·refine .inr ⟨rfl,?_⟩;have h3:ZX S.f (doN S n)=0:=by
     by_cases h3:ZX S.f (doN S n)=0
     ·exact h3
     ·exact absurd h3 (by simpa using h2)
    unfold ZX at h3;rw[if_pos hv]at h3;by_cases h4:Zg S.f (doN S n)=true
    ·exact h4
    ·rw[if_neg h4]at h3;cases h3
theorem Z7S {S:Zf}(hi:Xh S)(l:List Z8)(hok : ∀x∈l,x.Ok):((ZR S l).1=S/\(ZR S l).2.2≠0) \/ ∃fr,(ZR S l)=(S.adds fr,(fr.length:Int),0)/\Vi S.c fr/\(∀x∈fr,x∈l/\Zg S.f x=true/\x.Ok)/\((S.l ++ fr).map Zi).Nodup/\J9 (S.l ++ fr) (S.adds fr).c:=by
 cases hb:l.any (fun n=>!decide (ZX S.f n=0))with
 | true=>rw[Z0Y hb];exact .inl ⟨rfl,by show(80:Int)≠0;decide⟩
 | false=>
  have hf:=Z0d hi.v hb;cases hg:Y9 S.l [] S.c l with
  | none=>rw[Z07 hb hg];exact .inl ⟨rfl,by show(81:Int)≠0;decide⟩
  | some r=>
   obtain⟨fr,c'⟩:=r;rw[zf hb hg];have hn:J9 (S.l ++ []) S.c:=by rw[List.append_nil];exact hi.nms
   obtain⟨t,e,hs,hm⟩:=ze l [] S.c hn (fun n hn=>(Yd (hf n hn)).2.2) hg;rw[List.nil_append]at e;subst e;obtain⟨h1,h2,_⟩:=Z21 l [] S.c hn (by rw[List.append_nil];exact Yt hi.srt) (fun n hn=>(Yd (hf n hn)).2.2) hg;have hinv:=Z0N fr S hi hs (fun x hx=>⟨hf x (hm x hx),hok x (hm x hx)⟩);refine .inr ⟨fr,rfl,hs,fun x hx=>⟨hm x hx,hf x (hm x hx),hok x (hm x hx)⟩,h2,hinv.nms.perm fun x=>?_⟩;rw[Z1C,Z0j,List.mem_append]
structure Ue (s:Nat)(S:Zf):Prop where
 inv:Xh S
 lad:S.l=Qo [] S.ad
 sq:Vi (fun _=>0) S.ad
 cc:S.c=((Zf.new S.f S.id).adds S.ad).c
 sb:S.sb=Xi (S.ad.map Y5)
 fb:S.fb=Jy (S.ad.map Y5)
 le:s<=S.ad.length
 sd:S.sd=(Xi ((S.ad.take s).map Y5)).length
 fd:S.fd=(Jy ((S.ad.take s).map Y5)).length
theorem Ue.mem {s:Nat}{S:Zf}(h:Ue s S){x:Z8}: x∈S.l↔x∈S.ad:=by
 rw[h.lad,Z0j];simp
theorem Ue.new {f:Yo}{id:Int}(hv:f.valid=true)(h:1<=id/\id<=8):Ue 0 (Zf.new f id):=
 ⟨Xh.new hv h,rfl,trivial,rfl,rfl,rfl,Nat.le_refl _,rfl,rfl⟩
theorem Ue.sync {s:Nat}{S:Zf}(h:Ue s S):Ue S.ad.length S.sync:=
 ⟨h.inv.sync,h.lad,h.sq,h.cc,h.sb,h.fb,Nat.le_refl _,by
  show S.sb.length=(Xi ((S.ad.take S.ad.length).map Y5)).length
  rw[List.take_length,h.sb],by
  show S.fb.length=(Jy ((S.ad.take S.ad.length).map Y5)).length
  rw[List.take_length,h.fb]⟩
theorem Ue.adds {s:Nat}{S:Zf}{fr:List Z8}(h:Ue s S)(hs:Vi S.c fr)(hf : ∀x∈fr,Zg S.f x=true/\x.Ok):Ue s (S.adds fr):=by
 obtain⟨b1,b2,b3,b4⟩:=Z9z fr S;have ea:=Z3I fr S;have et:(S.adds fr).ad.take s=S.ad.take s:=by rw[ea,List.take_append_of_le_length h.le]
 refine⟨Z0N fr S h.inv hs hf,?_,?_,?_,?_,?_,?_,?_,?_⟩
 ·rw[Z1C,ea,h.lad];unfold Qo;rw[List.foldl_append]
 ·rw[ea];have h1:Vi (Zf.new S.f S.id).c (S.ad ++ fr):=Z5p h.sq (by rw[<-h.cc];exact hs);exact h1
 ·rw[ea,Z1D,Z17,Z8h];have hc : ∀(l:List Z8) (A B:Zf),A.c=B.c->(A.adds l).c=(B.adds l).c:=by
   intro l
   induction l with
   | nil=>intro A B e;exact e
   | cons n l ih=>intro A B e;exact ih (A.add n) (B.add n) (by show QV A.c n.house=QV B.c n.house;rw[e])
  exact hc fr _ _ h.cc
 ·rw[b1,ea,List.map_append,Vn,h.sb]
 ·rw[b2,ea,List.map_append,UD,h.fb]
 ·rw[ea,List.length_append];exact Nat.le_trans h.le (Nat.le_add_right _ _)
 ·rw[b3,et];exact h.sd
 ·rw[b4,et];exact h.fd
theorem Ue.add {s:Nat}{S:Zf}{n:Z8}(h:Ue s S)(hf:Zg S.f n=true)(hok:n.Ok)(hn:n.num=(S.c n.house:Int)+1):Ue s (S.add n):=
 h.adds (fr:=[n]) ⟨hn,trivial⟩ (fun x hx=>by rw[List.mem_singleton.1 hx];exact⟨hf,hok⟩)
theorem ZaC {A:Zf}{n:Z8}(h:Xh A)(hf:Zg A.f n=true)(hok:n.Ok)(hn:n.num=(A.c n.house:Int)+1):ZR A [n]=(A.add n,1,0):=by
 have hb:[n].any (fun n=>!decide (ZX A.f n=0))=false:=by
  have:ZX A.f n=0:=by unfold ZX;rw[if_pos h.v,if_pos hf]
  simp[this]
 have hfree:=(h.add hf hok hn).2;have hg:Y9 A.l [] A.c [n]=some ([n],QV A.c n.house):=by
  rw[Y9,List.append_nil,Z05 hfree];simp only;rw[if_neg (by omega)];rfl
 rw[zf hb hg];rfl
theorem Z39 {f:Yo}: ∀(l:List Z8) (A:Zf),Xh A->A.f=f->Vi A.c l->(∀x∈l,Zg f x=true/\x.Ok)->Vz A (l.map Y5)=A.adds l
 | [],A,h,_,_,_=>rfl
 | n :: ns,A,h,hf,ho,hx=>by
  have h1:Zg A.f n=true:=by rw[hf];exact(hx n (List.mem_cons_self ..)).1
  have h2:=(hx n (List.mem_cons_self ..)).2
  have e:=ZaC h h1 h2 ho.1
  have ih:=Z39 ns (A.add n) (h.add h1 h2 ho.1).1 hf ho.2 (fun x hm=>hx x (List.mem_cons_of_mem _ hm))
  rw[ZaW,List.map_cons,Z40 (Z2R h.v h1) e]
  exact ih
theorem Ue.crash {s:Nat}{S S':Zf}{stock foil flip code:Int}(h:Ue s S)(hc:CrP S stock foil flip S' code):
  (code=1/\S'=S)\/(code=0 /\ ∃k,s<=k/\k<=S.ad.length/\S'=((Zf.new S.f S.id).adds (S.ad.take k)).sync/\S'.ad=S.ad.take k/\Ue S'.ad.length S'):=by
 rcases hc with ⟨_,h1,h2⟩ | ⟨hc,h1,h2⟩
 ·exact .inl ⟨h2,h1⟩
 refine .inr ⟨h2,?_⟩;have e1:S.ad.map Y5=(S.ad.take s).map Y5 ++ (S.ad.drop s).map Y5:=by rw[<-List.map_append,List.take_append_drop]
 have hcs:0<=stock/\0<=foil:=⟨hc.1,hc.2.2.1⟩;obtain⟨st,rfl⟩:=Int.eq_ofNat_of_zero_le hcs.1;obtain⟨fo,rfl⟩:=Int.eq_ofNat_of_zero_le hcs.2;have hfm : ∀x∈S.ad,Zg S.f x=true/\x.Ok:=fun x hx=>by
  have hx2:=h.mem.2 hx;exact⟨h.inv.frm x hx2,h.inv.ok x hx2⟩
 have hl : ∀x∈(S.ad.take s).map Y5 ++ (S.ad.drop s).map Y5,x.length<=8192:=fun x hx=>by
  rw[<-e1]at hx;obtain⟨y,hy,rfl⟩:=List.mem_map.1 hx;have:=Qn h.inv.v (hfm y hy).1;omega
 rw[h.sb,h.fb,h.sd,h.fd,e1]at hc;obtain⟨k,hk,e⟩:=Z88 _ _ hl st fo flip hc;simp only[Int.toNat_natCast]at h1;rw[h.sb,h.fb,h.sd,h.fd,e1,e,<-List.map_take,<-List.map_append]at h1;have e2:S.ad.take s ++ (S.ad.drop s).take k=S.ad.take (s+k):=by rw[List.take_add]
 rw[e2]at h1;have hfk : ∀x∈S.ad.take (s+k),Zg S.f x=true/\x.Ok:=fun x hx=>hfm x (List.mem_of_mem_take hx);have hsq:Vi (Zf.new S.f S.id).c (S.ad.take (s+k)):=Z1s _ _ _ h.sq;have hnew:=Ue.new h.inv.v h.inv.id;rw[Z39 (f:=S.f) (S.ad.take (s+k)) (Zf.new S.f S.id) hnew.inv rfl hsq hfk]at h1;have hsk:s+k<=S.ad.length:=by
  rw[List.length_map,List.length_drop]at hk;have:=h.le;omega
 have e3:((Zf.new S.f S.id).adds (S.ad.take (s+k))).ad=S.ad.take (s+k):=by rw[Z3I];rfl
 refine⟨s+k,Nat.le_add_right _ _,hsk,h1,by rw[h1];exact e3,?_⟩;rw[h1];exact(hnew.adds hsq hfk).sync
inductive Xe where
 | ask (c:List Int)
 | gift (l:List Z8)
def Yy (l:List Z8):zU:=l.flatMap fun n=>Yh ((Y5 n).length:Int) ++ Y5 n
def Xe.body:Xe->zU
 | .ask c=>Yh 1 ++ (Yh (c.length:Int) ++ Zt c)
 | .gift l=>Yh 2 ++ (Yh (l.length:Int) ++ Yy l)
structure MlV where
 frm:Int
 to:Int
 cont:Xe
def MlV.body (m:MlV):zU:=m.cont.body
structure ZO where
 f:Yo
 hs:List Zf
 ms:List MlV
structure Ji where
 kind:Int
 house:Int
 to:Int
 idx:Int
 note:Z8
 keep:Int
 flip:Int
def YA (W:ZO)(h:Int):Option Zf:=if 1<=h then W.hs[(h - 1).toNat]? else none
def JZ (W:ZO)(h:Int)(S:Zf):ZO := { W with hs:=W.hs.set (h - 1).toNat S }
def Uj (W:ZO)(i:Int):Option MlV:=if 0<=i then W.ms[i.toNat]? else none
def XT (W:ZO)(i:Int):ZO := { W with ms:=W.ms.eraseIdx i.toNat }
def Vy (W:ZO)(m:MlV):ZO := { W with ms:=W.ms ++ [m] }
def VU (W:ZO)(a:Ji):ZO×Int:=match YA W a.house with
 | none=>(W,1)
 | some S=>(JZ W a.house (if (UH S a.note).2.2=0/\((UH S a.note).2.1.kind=2\/(UH S a.note).2.1.kind=4)then (UH S a.note).1.sync else (UH S a.note).1),(UH S a.note).2.2)
def Vg (W:ZO)(a:Ji):ZO×Int:=match YA W a.house with
 | none=>(W,1)
 | some S=>(JZ W a.house S.sync,0)
def Ja (W:ZO)(a:Ji):ZO×Int:=match YA W a.house with
 | none=>(W,1)
 | some S=>if (YA W a.to).isNone=true\/a.to=a.house then (W,1)else if 64<=W.ms.length then (W,2)else (Vy W ⟨a.house,a.to,.ask (Vp S.c)⟩,0)
def Z0q (S:Zf)(c:List Int):List Z8:=S.l.filter (fun n=>!Z1i c n)
def JR (W:ZO)(m:MlV):ZO×Int:=match YA W m.to with
 | none=>(W,1)
 | some S=>match m.cont with
  | .gift l=>(JZ W m.to (ZR S l).1,(ZR S l).2.2)
  | .ask c=>if Z0q S c=[]then (JZ W m.to S.sync,0)else (Vy (JZ W m.to S.sync) ⟨m.to,m.frm,.gift ((Z0q S c).take 16)⟩,0)
def Xk (W:ZO)(a:Ji):ZO×Int:=match Uj W a.idx with
 | none=>(W,3)
 | some m=>JR (XT W a.idx) m
def Qu (W:ZO)(a:Ji):ZO×Int:=match Uj W a.idx with
 | none=>(W,3)
 | some _=>(XT W a.idx,0)
def XQ (W:ZO)(a:Ji):ZO×Int:=match Uj W a.idx with
 | none=>(W,3)
 | some m=>if 64<=W.ms.length then (W,2)else (Vy W m,0)
noncomputable def crS (S:Zf) (stock foil flip:Int):Zf×Int:=open Classical in
 if Z0n S.sb S.fb S.sd S.fd stock foil flip then ((Vz (Zf.new S.f S.id) (Zz (Jx S.sb S.sd stock.toNat flip) (Jf S.fb S.fd stock.toNat foil.toNat flip))).sync,0)else (S,1)
theorem Ze5 {S S':Zf}{x y z c:Int}(h:CrP S x y z S' c):crS S x y z=(S',c):=by
 unfold crS;rcases h with ⟨h1,h2,h3⟩ | ⟨h1,h2,h3⟩
 ·rw[if_neg h1,h2,h3]
 ·rw[if_pos h1,h2,h3]
theorem Zed (S:Zf)(x y z:Int):CrP S x y z (crS S x y z).1 (crS S x y z).2:=by
 unfold crS;split
 ·rename_i h;exact .inr ⟨h,rfl,rfl⟩
 ·rename_i h;exact .inl ⟨h,rfl,rfl⟩
noncomputable def Jq (W:ZO) (a:Ji):ZO×Int:=match YA W a.house with
 | none=>(W,1)
 | some S=>(JZ W a.house (crS S a.keep a.flip a.idx).1,(crS S a.keep a.flip a.idx).2)
noncomputable def Jj (W:ZO) (a:Ji):ZO×Int:=
 if a.kind=1 then VU W a else if a.kind=2 then Vg W a else if a.kind=3 then Ja W a else if a.kind=4 then Xk W a
 else if a.kind=5 then Qu W a else if a.kind=6 then XQ W a else if a.kind=7 then Jq W a else (W,1)
def ZO.new (f:Yo)(n:Nat):ZO:=⟨f,(List.range n).map fun(i:Nat)=>Zf.new f ((i:Int)+1),[]⟩
def Dur (hs:List Zf)(ss:List Nat)(x:Z8):Prop := ∃(j:Nat) (S:Zf) (s:Nat),x.house=(j:Int)+1/\hs[j]? = some S/\ss[j]? = some s/\x∈S.ad.take s
def Zee (hs:List Zf)(ss:List Nat):Xe->Prop
 | .ask c=>c.length=8 /\ ∀z∈c,0<=z/\z<=400
 | .gift l=>l≠[]/\l.length<=16 /\ ∀x∈l,Dur hs ss x
structure Zdr (hs:List Zf)(ss:List Nat)(m:MlV):Prop where
 frm:1<=m.frm/\m.frm<=hs.length
 to:1<=m.to/\m.to<=hs.length
 cont:Zee hs ss m.cont
def Z2u (hs:List Zf):Nat:=(hs.map fun S=>S.c S.id).sum
structure Yp (W:ZO)(ss:List Nat)(T:Nat):Prop where
 v:W.f.valid=true
 n:1<=W.hs.length/\W.hs.length<=8
 st : ∀(k:Nat) (S:Zf),W.hs[k]? = some S -> ∃s,ss[k]? = some s/\Ue s S/\S.f=W.f/\S.id=(k:Int)+1
 hou : ∀(k:Nat) (S:Zf) (x:Z8),W.hs[k]? = some S->x∈S.l->x.house=(k:Int)+1\/Dur W.hs ss x
 ml : ∀m∈W.ms,Zdr W.hs ss m
 mn:W.ms.length<=64
 tot:Z2u W.hs<=T
theorem Z9k: ∀{l:List Zf} {k:Nat} {S S':Zf} (f:Zf->Nat),l[k]? = some S->((l.set k S').map f).sum+f S=(l.map f).sum+f S'
 | [],k,S,S',f,h=>by simp at h
 | a :: l,0,S,S',f,h=>by
  simp at h
  subst h
  simp
  omega
 | a :: l,k+1,S,S',f,h=>by
  have:=Z9k (l:=l) (k:=k) (S':=S') f (by simpa using h)
  simp at this ⊢
  omega
theorem Z8H {hs:List Zf}{k:Nat}{S S':Zf}(h:hs[k]? = some S):Z2u (hs.set k S')+S.c S.id=Z2u hs+S'.c S'.id:=Z9k (fun S=>S.c S.id) h
section
variable {W:ZO}{ss:List Nat}{T:Nat}
theorem Dur.elim (h:Yp W ss T){x:Z8}(hx:Dur W.hs ss x): ∃(j:Nat) (S:Zf) (s:Nat),x.house=(j:Int)+1/\W.hs[j]? = some S/\ss[j]? = some s/\x∈S.ad.take s/\Ue s S/\S.f=W.f/\S.id=(j:Int)+1/\x∈S.l:=by
 obtain⟨j,S,s,h1,h2,h3,h4⟩:=hx;obtain⟨s',e1,e2,e3,e4⟩:=h.st j S h2;rw[h3]at e1;cases e1;exact⟨j,S,s,h1,h2,h3,h4,e2,e3,e4,e2.mem.2 (List.mem_of_mem_take h4)⟩
theorem Dur.ok (h:Yp W ss T){x:Z8}(hx:Dur W.hs ss x):Zg W.f x=true/\x.Ok/\1<=x.house/\x.house<=W.hs.length:=by
 obtain⟨j,S,s,h1,h2,_,_,h5,h6,_,h8⟩:=hx.elim h;have h9:=h5.inv.frm x h8;rw[h6]at h9;have:=(List.getElem?_eq_some_iff.1 h2).1;exact⟨h9,h5.inv.ok x h8,by omega,by omega⟩
theorem Yp.st' (h:Yp W ss T){k:Nat}{S:Zf}(hk:W.hs[k]? = some S):Xh S/\S.f=W.f/\S.id=(k:Int)+1:=by
 obtain⟨s,_,h1,h2,h3⟩:=h.st k S hk;exact⟨h1.inv,h2,h3⟩
theorem Yp.named (h:Yp W ss T){k:Nat}{S:Zf}{x:Z8}(hk:W.hs[k]? = some S)(hx:x∈S.l): ∃(j:Nat) (S':Zf),x.house=(j:Int)+1/\W.hs[j]? = some S'/\x∈S'.l:=by
 rcases h.hou k S x hk hx with h1 | h1
 ·exact⟨k,S,h1,hk,hx⟩
 ·obtain⟨j,S',s,h1,h2,_,_,_,_,_,h8⟩:=h1.elim h;exact⟨j,S',h1,h2,h8⟩
theorem Yp.one (h:Yp W ss T){i k:Nat}{S R:Zf}{x y:Z8}(hi:W.hs[i]? = some S)(hk:W.hs[k]? = some R)(hx:x∈S.l)(hy:y∈R.l)(e:Zi x=Zi y):x=y:=by
 obtain⟨j,S',h1,h2,h3⟩:=h.named hi hx;obtain⟨j',R',k1,k2,k3⟩:=h.named hk hy;have eh:x.house=y.house:=congrArg Prod.fst e;have:j=j':=by omega
 subst this;rw[h2]at k2;cases k2;exact QP (h.st' h2).1.nodup h3 k3 e
theorem Yp.set (h:Yp W ss T){k:Nat}{S S':Zf}{s s' T':Nat}(hk:W.hs[k]? = some S)(hs:ss[k]? = some s)(h':Ue s' S')(hf:S'.f=S.f)(hid:S'.id=S.id)
  (hd : ∀x∈S.ad.take s,x∈S'.ad.take s') (hn : ∀x∈S'.l,x∈S.l\/x.house=(k:Int)+1\/Dur W.hs ss x) (ht:S'.c S'.id+T<=S.c S.id+T'):Yp { W with hs:=W.hs.set k S' } (ss.set k s') T':=by
 have hkl:=(List.getElem?_eq_some_iff.1 hk).1;have hsl:=(List.getElem?_eq_some_iff.1 hs).1;have dm : ∀x,Dur W.hs ss x->Dur (W.hs.set k S') (ss.set k s') x:=by
  rintro x ⟨j,R,r,h1,h2,h3,h4⟩;by_cases e:k=j
  ·subst e;rw[hk]at h2;rw[hs]at h3;cases h2;cases h3;exact⟨k,S',s',h1,List.getElem?_set_self hkl,List.getElem?_set_self hsl,hd x h4⟩
  ·exact⟨j,R,r,h1,by rw[List.getElem?_set_ne e];exact h2,by rw[List.getElem?_set_ne e];exact h3,h4⟩
 refine⟨h.v,by simpa using h.n,fun j R hj=>?_,fun j R x hj hx=>?_,fun m hm=>?_,h.mn,?_⟩
 ·have hj:(W.hs.set k S')[j]? = some R:=hj;by_cases e:k=j
  ·subst e;rw[List.getElem?_set_self hkl]at hj;cases hj;obtain⟨_,h2,h3⟩:=h.st' hk;exact⟨s',List.getElem?_set_self hsl,h',hf.trans h2,hid.trans h3⟩
  ·rw[List.getElem?_set_ne e]at hj;obtain⟨r,h1,h2⟩:=h.st j R hj;exact⟨r,by rw[List.getElem?_set_ne e];exact h1,h2⟩
 ·have hj:(W.hs.set k S')[j]? = some R:=hj;by_cases e:k=j
  ·subst e;rw[List.getElem?_set_self hkl]at hj;cases hj;rcases hn x hx with h1 | h1 | h1
   ·exact(h.hou k S x hk h1).imp id (dm x)
   ·exact .inl h1
   ·exact .inr (dm x h1)
  ·rw[List.getElem?_set_ne e]at hj;exact(h.hou j R x hj hx).imp id (dm x)
 ·obtain⟨h1,h2,h3⟩:=h.ml m hm;refine⟨by simpa using h1,by simpa using h2,?_⟩;cases hc:m.cont with
  | ask c=>rw[hc]at h3;exact h3
  | gift l=>rw[hc]at h3;exact⟨h3.1,h3.2.1,fun x hx=>dm x (h3.2.2 x hx)⟩
 ·have:=Z8H (S':=S') hk;have:=h.tot;show Z2u (W.hs.set k S')<=T';omega
theorem Yp.mails (h:Yp W ss T){ms:List MlV}(hm : ∀m∈ms,Zdr W.hs ss m)(hl:ms.length<=64):Yp { W with ms:=ms } ss T:=⟨h.v,h.n,h.st,h.hou,hm,hl,h.tot⟩
theorem Yp.drop (h:Yp W ss T)(i:Int):Yp (XT W i) ss T:=
 h.mails (fun m hm=>h.ml m (List.mem_of_mem_eraseIdx hm)) (by have:=h.mn;have:=List.length_eraseIdx_le W.ms i.toNat;omega)
theorem Yp.send (h:Yp W ss T){m:MlV}(hm:Zdr W.hs ss m)(hl:W.ms.length < 64):Yp (Vy W m) ss T:=
 h.mails (fun x hx=>by
  rcases List.mem_append.1 hx with hx | hx
  ·exact h.ml x hx
  ·rw[List.mem_singleton.1 hx];exact hm) (by rw[List.length_append];simp;omega)
theorem Yp.mono (h:Yp W ss T){T':Nat}(ht:T<=T'):Yp W ss T':=⟨h.v,h.n,h.st,h.hou,h.ml,h.mn,Nat.le_trans h.tot ht⟩
theorem Ju {h:Int}{S:Zf}(e:YA W h=some S): ∃k:Nat,h=(k:Int)+1/\(h - 1).toNat=k/\W.hs[k]? = some S:=by
 unfold YA at e;split at e
 ·exact⟨(h - 1).toNat,by omega,rfl,e⟩
 ·cases e
theorem Z6D {k:Nat}{S:Zf}(e:W.hs[k]? = some S):YA W ((k:Int)+1)=some S:=by
 unfold YA;rw[if_pos (by omega),show((k:Int)+1 - 1).toNat=k by omega];exact e
theorem Zd5 {h:Int}(h1:1<=h)(h2:h<=W.hs.length): ∃S,YA W h=some S:=by
 refine⟨W.hs[(h - 1).toNat]'(by omega),?_⟩;unfold YA;rw[if_pos h1,List.getElem?_eq_getElem]
theorem Z2N {h:Int}(e:YA W h=none):h < 1\/(W.hs.length:Int) < h:=by
 unfold YA at e;split at e
 ·rw[List.getElem?_eq_none_iff]at e;omega
 ·omega
theorem UW {i:Int}{m:MlV}(e:Uj W i=some m): ∃k:Nat,i=(k:Int)/\i.toNat=k/\W.ms[k]? = some m:=by
 unfold Uj at e;split at e
 ·exact⟨i.toNat,by omega,rfl,e⟩
 ·cases e
theorem Z5A {i:Int}(e:Uj W i=none):i < 0\/(W.ms.length:Int)<=i:=by
 unfold Uj at e;split at e
 ·rw[List.getElem?_eq_none_iff]at e;omega
 ·omega
theorem Zc1 (h:Yp W ss T){k:Nat}{S:Zf}{s:Nat}(hk:W.hs[k]? = some S)(hs:ss[k]? = some s)(hst:Ue s S){l:List Z8}(hl : ∀x∈l,Dur W.hs ss x):
  Ue s (ZR S l).1/\(ZR S l).1.f=S.f/\(ZR S l).1.id=S.id/\(∀x∈S.ad.take s,x∈(ZR S l).1.ad.take s)/\(∀x∈(ZR S l).1.l,x∈S.l\/Dur W.hs ss x)/\(ZR S l).1.c S.id=S.c S.id:=by
 rcases Z7S hst.inv l (fun x hx=>((hl x hx).ok h).2.1)with ⟨h1,_⟩ | ⟨fr,h1,h2,h3,h4,h5⟩
 ·rw[h1];exact⟨hst,rfl,rfl,fun x hx=>hx,fun x hx=>.inl hx,rfl⟩
 ·rw[h1];refine⟨hst.adds h2 (fun x hx=>(h3 x hx).2),Z1D _ _,Z17 _ _,fun x hx=>?_,fun x hx=>?_,?_⟩
  ·show x∈(S.adds fr).ad.take s;rw[Z3I,List.take_append_of_le_length hst.le];exact hx
  ·have hx:x∈(S.adds fr).l:=hx;rw[Z1C,Z0j]at hx;exact hx.imp id (fun hx=>hl x (h3 x hx).1)
  ·refine Z5Y fr S S.id fun x hx e=>?_;obtain⟨j,R,r,g1,g2,g3,g4,g5,g6,g7,g8⟩:=(hl x (h3 x hx).1).elim h;have hid:=(h.st' hk).2.2;have:j=k:=by omega
   subst this;rw[hk]at g2;cases g2;rw[List.map_append]at h4;exact(List.nodup_append.1 h4).2.2 _ (List.mem_map_of_mem g8) _ (List.mem_map_of_mem hx) rfl
theorem Z9w {S:Zf}(h:Xh S):(Vp S.c).length=8 /\ ∀z∈Vp S.c,0<=z/\z<=400:=by
 refine⟨rfl,fun z hz=>?_⟩;have hc:=fun a=>ZcA h a;simp only[Vp,List.mem_cons,List.not_mem_nil,or_false]at hz;rcases hz with rfl | rfl | rfl | rfl | rfl | rfl | rfl | rfl <;> exact⟨Int.natCast_nonneg _,Int.ofNat_le.2 (hc _)⟩
theorem Z9U {s:Nat}{l:List Z8}(h:s<=l.length){x:Z8}(hx:x∈l.take s):x∈l.take l.length:=by
 rw[List.take_length];exact List.mem_of_mem_take hx
theorem Yp.syncK (h:Yp W ss T){k:Nat}{S:Zf}(hk:W.hs[k]? = some S):Yp { W with hs:=W.hs.set k S.sync } (ss.set k S.ad.length) T:=by
 obtain⟨s,hs,hst,_,_⟩:=h.st k S hk;exact h.set hk hs hst.sync rfl rfl (fun x hx=>Z9U hst.le hx) (fun x hx=>.inl hx) (Nat.le_refl _)
theorem zy {h:Int}{k:Nat}{S:Zf}(e:(h - 1).toNat=k):JZ W h S = { W with hs:=W.hs.set k S } := by unfold JZ;rw[e]
theorem Yp.doStep (h:Yp W ss T)(a:Ji)(hok:a.note.Ok): ∃ss',Yp (VU W a).1 ss' (T+1):=by
 unfold VU;cases e:YA W a.house with
 | none=>exact⟨ss,h.mono (Nat.le_succ _)⟩
 | some S=>
  obtain⟨k,e1,e2,hk⟩:=Ju e;obtain⟨s,hs,hst,hf,hid⟩:=h.st k S hk;dsimp only;rw[zy e2];have hkl:=(List.getElem?_eq_some_iff.1 hk).1;have hsl:=(List.getElem?_eq_some_iff.1 hs).1;have hd:Yp { W with hs:=W.hs.set k (UH S a.note).1 } (ss.set k s) (T+1):=by
   rcases ZaK S (by rw[hf];exact h.v) a.note with ⟨h1,_⟩ | ⟨h1,h2⟩
   ·rw[h1];exact h.set hk hs hst rfl rfl (fun x hx=>hx) (fun x hx=>.inl hx) (by omega)
   ·rw[h1];have hn:(doN S a.note).num=(S.c (doN S a.note).house:Int)+1:=rfl;refine h.set hk hs (hst.add h2 (Zco hok h2) hn) rfl rfl (fun x hx=>?_) (fun x hx=>?_) ?_
    ·show x∈(S.ad ++ [doN S a.note]).take s;rw[List.take_append_of_le_length hst.le];exact hx
    ·rcases Xp.1 hx with hx | rfl
     ·exact .inl hx
     ·exact .inr (.inl hid)
    ·show QV S.c (doN S a.note).house S.id+T<=_;unfold QV;split <;> omega
  split
  ·have h2:=hd.syncK (k:=k) (S:=(UH S a.note).1) (List.getElem?_set_self hkl);have e3:(W.hs.set k (UH S a.note).1).set k (UH S a.note).1.sync=W.hs.set k (UH S a.note).1.sync:=by rw[List.set_set]
   have h3:Yp { W with hs:=(W.hs.set k (UH S a.note).1).set k (UH S a.note).1.sync } ((ss.set k s).set k (UH S a.note).1.ad.length) (T+1):=h2;rw[e3]at h3;exact⟨_,h3⟩
  ·exact⟨_,hd⟩
theorem Yp.arrive (h:Yp W ss T)(m:MlV)(hm:Zdr W.hs ss m)(hl:W.ms.length < 64): ∃ss',Yp (JR W m).1 ss' T:=by
 unfold JR;cases e:YA W m.to with
 | none=>exact⟨ss,h⟩
 | some S=>
  obtain⟨k,e1,e2,hk⟩:=Ju e;obtain⟨s,hs,hst,hf,hid⟩:=h.st k S hk;have hkl:=(List.getElem?_eq_some_iff.1 hk).1;have hsl:=(List.getElem?_eq_some_iff.1 hs).1;dsimp only;have hc:=hm.cont;cases hmc:m.cont with
  | gift l=>
   rw[hmc]at hc;dsimp only;rw[zy e2];obtain⟨a1,a2,a3,a4,a5,a6⟩:=Zc1 h hk hs hst hc.2.2;refine⟨_,h.set hk hs a1 a2 a3 a4 (fun x hx=>(a5 x hx).imp id .inr) ?_⟩;rw[a3,a6];exact Nat.le_refl _
  | ask c=>
   dsimp only;rw[zy e2];have h2:=h.syncK hk;split
   ·exact⟨_,h2⟩
   ·rename_i hne;refine⟨_,h2.send ⟨?_,?_,?_⟩ (by exact hl)⟩
    ·have:=hm.to;simpa using this
    ·have:=hm.frm;simpa using this
    ·refine⟨fun e0=>hne ?_,by rw[List.length_take];exact Nat.min_le_left _ _,fun x hx=>?_⟩
     ·rcases List.take_eq_nil_iff.1 e0 with h5 | h5
      ·cases h5
      ·exact h5
     ·have hx2:x∈S.l:=(List.mem_filter.1 (List.mem_of_mem_take hx)).1;rcases h2.hou k S.sync x (List.getElem?_set_self hkl) hx2 with h5 | h5
      ·refine⟨k,S.sync,S.ad.length,h5,List.getElem?_set_self hkl,List.getElem?_set_self hsl,?_⟩;show x∈S.ad.take S.ad.length;rw[List.take_length];exact hst.mem.1 hx2
      ·exact h5
theorem Yp.step (h:Yp W ss T)(a:Ji)(hok:a.note.Ok): ∃ss',Yp (Jj W a).1 ss' (T+1):=by
 unfold Jj;split
 ·exact h.doStep a hok
 split
 ·unfold Vg;cases e:YA W a.house with
  | none=>exact⟨ss,h.mono (Nat.le_succ _)⟩
  | some S=>
   obtain⟨k,e1,e2,hk⟩:=Ju e;dsimp only;rw[zy e2];exact⟨_,(h.syncK hk).mono (Nat.le_succ _)⟩
 split
 ·unfold Ja;cases e:YA W a.house with
  | none=>exact⟨ss,h.mono (Nat.le_succ _)⟩
  | some S=>
   obtain⟨k,e1,e2,hk⟩:=Ju e;have hkl:=(List.getElem?_eq_some_iff.1 hk).1;dsimp only;split
   ·exact⟨ss,h.mono (Nat.le_succ _)⟩
   ·rename_i h1;split
    ·exact⟨ss,h.mono (Nat.le_succ _)⟩
    ·rename_i h2;refine⟨ss,(h.send (m:=⟨a.house,a.to,.ask (Vp S.c)⟩) ⟨by show 1<=a.house/\a.house<=_;omega,?_,Z9w (h.st' hk).1⟩ (by omega)).mono (Nat.le_succ _)⟩;cases e5:YA W a.to with
     | none=>exact absurd (.inl (by rw[e5];rfl)) h1
     | some R=>
      obtain⟨j,g1,g2,hj⟩:=Ju e5;have:=(List.getElem?_eq_some_iff.1 hj).1;show 1<=a.to/\a.to<=_;omega
 split
 ·unfold Xk;cases e:Uj W a.idx with
  | none=>exact⟨ss,h.mono (Nat.le_succ _)⟩
  | some m=>
   obtain⟨i,e1,e2,hi⟩:=UW e;have hil:=(List.getElem?_eq_some_iff.1 hi).1;obtain⟨ss',h2⟩:=(h.drop a.idx).arrive m (h.ml m (List.mem_of_getElem? hi)) (by
    show(W.ms.eraseIdx a.idx.toNat).length < 64;rw[List.length_eraseIdx,if_pos (by omega)];have:=h.mn;omega)
   exact⟨ss',h2.mono (Nat.le_succ _)⟩
 split
 ·unfold Qu;cases e:Uj W a.idx with
  | none=>exact⟨ss,h.mono (Nat.le_succ _)⟩
  | some m=>exact⟨ss,(h.drop a.idx).mono (Nat.le_succ _)⟩
 split
 ·unfold XQ;cases e:Uj W a.idx with
  | none=>exact⟨ss,h.mono (Nat.le_succ _)⟩
  | some m=>
   obtain⟨i,e1,e2,hi⟩:=UW e;dsimp only;split
   ·exact⟨ss,h.mono (Nat.le_succ _)⟩
   ·exact⟨ss,(h.send (h.ml m (List.mem_of_getElem? hi)) (by omega)).mono (Nat.le_succ _)⟩
 split
 ·unfold Jq;cases e:YA W a.house with
  | none=>exact⟨ss,h.mono (Nat.le_succ _)⟩
  | some S=>
   obtain⟨k,e1,e2,hk⟩:=Ju e;obtain⟨s,hs,hst,hf,hid⟩:=h.st k S hk;dsimp only;rw[zy e2];rcases hst.crash (Zed S a.keep a.flip a.idx)with ⟨h1,h2⟩ | ⟨h1,q,q1,q2,q3,q4,q5⟩
   ·rw[h2];exact⟨_,h.set hk hs hst rfl rfl (fun x hx=>hx) (fun x hx=>.inl hx) (by omega)⟩
   ·refine⟨_,h.set hk hs q5 ?_ ?_ (fun x hx=>?_) (fun x hx=>.inl ?_) ?_⟩
    ·rw[q3];exact Z1D _ _
    ·rw[q3];exact Z17 _ _
    ·rw[List.take_length,q4];have:S.ad.take s=(S.ad.take q).take s:=by rw[List.take_take,Nat.min_eq_left q1]
     rw[this]at hx;exact List.mem_of_mem_take hx
    ·have:=q5.mem.1 hx;rw[q4]at this;exact hst.mem.2 (List.mem_of_mem_take this)
    ·have e5:(crS S a.keep a.flip a.idx).1.id=S.id:=by rw[q3];exact Z17 _ _
     rw[e5];have e6:(crS S a.keep a.flip a.idx).1.c=((Zf.new S.f S.id).adds (S.ad.take q)).c:=by rw[q3];rfl
     rw[e6];have e7:S.c=((Zf.new S.f S.id).adds (S.ad.take q ++ S.ad.drop q)).c:=by rw[List.take_append_drop];exact hst.cc
     rw[Z8h]at e7;have:=Z5Z (S.ad.drop q) ((Zf.new S.f S.id).adds (S.ad.take q)) S.id;rw[<-e7]at this;omega
 ·exact⟨ss,h.mono (Nat.le_succ _)⟩
end
theorem Yp.new {f:Yo}{n:Nat}(hv:f.valid=true)(hn:1<=n/\n<=8):Yp (ZO.new f n) (List.replicate n 0) 0:=by
 have hg : ∀(k:Nat) (S:Zf),(ZO.new f n).hs[k]? = some S->k < n/\S=Zf.new f ((k:Int)+1):=fun k S h=>by
  unfold ZO.new at h;simp only[List.getElem?_map]at h;rcases Nat.lt_or_ge k n with hk | hk
  ·rw[List.getElem?_range hk]at h;cases h;exact⟨hk,rfl⟩
  ·rw[List.getElem?_eq_none (by rw[List.length_range];exact hk)]at h;cases h
 refine⟨hv,by simpa [ZO.new] using hn,fun k S h=>?_,fun k S x h hx=>?_,fun m hm=>(by cases hm),Nat.zero_le _,?_⟩
 ·obtain⟨hk,rfl⟩:=hg k S h;exact⟨0,by rw[List.getElem?_replicate,if_pos hk],Ue.new hv (by omega),rfl,rfl⟩
 ·obtain⟨hk,rfl⟩:=hg k S h;cases hx
 ·have : ∀(l:List Nat),((l.map fun(i:Nat)=>Zf.new f ((i:Int)+1)).map fun S=>S.c S.id).sum=0:=fun l=>by
   induction l with
   | nil=>rfl
   | cons i l ih=>rw[List.map_cons,List.map_cons,List.sum_cons,ih];rfl
  exact Nat.le_of_eq (this _)
theorem Z6y: ∀(n:Nat) (l:List Z8),(∀x∈l,1<=x.house/\x.house<=n)->l.length<=((List.range n).map fun(j:Nat)=>QB l ((j:Int)+1)).sum
 | 0,l,h=>by
  cases l with
  | nil=>simp
  | cons x l=>have:=h x (List.mem_cons_self ..);omega
 | n+1,l,h=>by
  have ih:=Z6y n (l.filter (fun x=>!decide (x.house=(n:Int)+1))) (fun x hx=>by
   rw[List.mem_filter]at hx
   have h1:=h x hx.1
   have h2:x.house≠(n:Int)+1:=by simpa using hx.2
   omega)
  rw[List.range_succ,List.map_append,List.sum_append]
  have h1:l.length=l.countP (fun x=>decide (x.house=(n:Int)+1))+(l.filter (fun x=>!decide (x.house=(n:Int)+1))).length:=by
   rw[List.length_eq_countP_add_countP (fun x=>decide (x.house=(n:Int)+1)),<-List.countP_eq_length_filter];congr 1;refine List.countP_congr fun x _=>?_;by_cases e:x.house=(n:Int)+1 <;> simp[e]
  have h2:((List.range n).map fun(j:Nat)=>QB (l.filter (fun x=>!decide (x.house=(n:Int)+1))) ((j:Int)+1)).sum<=((List.range n).map fun(j:Nat)=>QB l ((j:Int)+1)).sum:=by
   have hm : ∀j,QB (l.filter (fun x=>!decide (x.house=(n:Int)+1))) ((j:Int)+1)<=QB l ((j:Int)+1):=fun j=>List.filter_sublist.countP_le;generalize List.range n=r
   induction r with
   | nil=>exact Nat.le_refl _
   | cons j r ihr=>rw[List.map_cons,List.map_cons,List.sum_cons,List.sum_cons];have:=hm j;omega
  have h3:QB l ((n:Int)+1)=l.countP (fun x=>decide (x.house=(n:Int)+1)):=rfl;simp only[List.map_cons,List.map_nil,List.sum_cons,List.sum_nil];omega
theorem Z5s {A:Type}(g:Zf->A)(d:A): ∀(l:List Zf),l.map g=(List.range l.length).map fun j=>((l[j]?).map g).getD d:=fun l=>by
 refine List.ext_getElem? fun i=>?_
 rw[List.getElem?_map,List.getElem?_map]
 rcases Nat.lt_or_ge i l.length with hi | hi
 ·rw[List.getElem?_range hi,List.getElem?_eq_getElem hi]
  simp[List.getElem?_eq_getElem hi]
 ·rw[List.getElem?_eq_none hi,List.getElem?_eq_none (by rw[List.length_range];exact hi)]
  rfl
theorem Yp.cle {W:ZO}{ss:List Nat}{T:Nat}(h:Yp W ss T){k j:Nat}{S R:Zf}(hk:W.hs[k]? = some S)(hj:W.hs[j]? = some R):S.c ((j:Int)+1)<=R.c ((j:Int)+1):=by
 by_cases h0:S.c ((j:Int)+1)=0
 ·omega
 ·obtain⟨x,hx,e⟩:=((h.st' hk).1.nms ((j:Int)+1) (S.c ((j:Int)+1):Int)).2 ⟨by omega,Int.le_refl _⟩;obtain⟨i,R',g1,g2,g3⟩:=h.named hk hx;have h2:x.house=(j:Int)+1/\x.num=(S.c ((j:Int)+1):Int):=by simpa [Zi] using e
  have:i=j:=by omega
  subst this;rw[hj]at g2;cases g2;have:=((h.st' hj).1.nms ((i:Int)+1) (S.c ((i:Int)+1):Int)).1 ⟨x,g3,e⟩;omega
theorem Yp.len {W:ZO}{ss:List Nat}{T:Nat}(h:Yp W ss T){k:Nat}{S:Zf}(hk:W.hs[k]? = some S):S.l.length<=T:=by
 have hi:=h.st' hk;refine Nat.le_trans (Z6y W.hs.length S.l (fun x hx=>by
  obtain⟨j,R,g1,g2,g3⟩:=h.named hk hx;have:=(List.getElem?_eq_some_iff.1 g2).1;omega)) (Nat.le_trans ?_ h.tot)
 unfold Z2u;rw[Z5s (fun S=>S.c S.id) 0 W.hs];have hm : ∀j,j < W.hs.length->QB S.l ((j:Int)+1)<=((W.hs[j]?).map (fun S=>S.c S.id)).getD 0:=fun j hj=>by
  rw[List.getElem?_eq_getElem hj];have e:=List.getElem?_eq_getElem hj;rw[Z3i hi.1.nms hi.1.nodup];show _<=W.hs[j].c W.hs[j].id;rw[(h.st' e).2.2];exact h.cle hk e
 have hl : ∀j∈List.range W.hs.length,j < W.hs.length:=fun j hj=>List.mem_range.1 hj;generalize List.range W.hs.length=r at *
 induction r with
 | nil=>exact Nat.le_refl _
 | cons j r ihr=>
  rw[List.map_cons,List.map_cons,List.sum_cons,List.sum_cons];have a1:=hm j (hl j (List.mem_cons_self ..));have a2:=ihr (fun i hi=>hl i (List.mem_cons_of_mem _ hi));omega
def Qt (l:List Z8)(x:Z8):List Z8:=if (YW l x).isNone=true then Xw l x else l
def Zw (hs:List Zf):List Z8:=hs.foldl (fun out S=>S.l.foldl Qt out) []
def Ur (V:ZO):ZO := { V with hs:=V.hs.map fun S=>(ZR S.sync (Zw V.hs)).1.sync }
theorem Zb5 {l:List Z8}{x:Z8}(h : ∀y∈l,Zi y≠Zi x):Qt l x=Xw l x:=by
 unfold Qt;rw[Z05 h];rfl
theorem Z9N {l:List Z8}{x y:Z8}(hy:y∈l)(e:Zi y=Zi x):Qt l x=l:=by
 unfold Qt;cases hk:YW l x with
 | none=>exact absurd e (XC hk y hy)
 | some z=>rfl
theorem Zb6 {l:List Z8}{x:Z8}(hs:l.Pairwise UX)(h1 : ∀y∈l,Zi y=Zi x->y=x):(Qt l x).Pairwise UX /\ ∀y,y∈Qt l x↔y∈l\/y=x:=by
 by_cases h : ∃y∈l,Zi y=Zi x
 ·obtain⟨y,hy,e⟩:=h;rw[Z9N hy e];refine⟨hs,fun z=>⟨.inl,fun hz=>?_⟩⟩;rcases hz with hz | hz
  ·exact hz
  ·rw[hz,<-h1 y hy e];exact hy
 ·have h2 : ∀y∈l,Zi y≠Zi x:=fun y hy e=>h ⟨y,hy,e⟩;rw[Zb5 h2];exact⟨Uy hs h2,fun y=>Xp⟩
theorem Z7Y: ∀(ns l:List Z8),l.Pairwise UX->(∀x y,(x∈l\/x∈ns)->(y∈l\/y∈ns)->Zi x=Zi y->x=y)->(ns.foldl Qt l).Pairwise UX /\ ∀y,y∈ns.foldl Qt l↔y∈l\/y∈ns
 | [],l,hs,_=>⟨hs,fun y=>by simp⟩
 | x :: ns,l,hs,h1=>by
  obtain⟨g1,g2⟩:=Zb6 (x:=x) hs (fun y hy e=>h1 y x (.inl hy) (.inr (List.mem_cons_self ..)) e)
  have hm : ∀z,(z∈Qt l x\/z∈ns)->(z∈l\/z∈x :: ns):=fun z hz=>by
   rcases hz with hz | hz
   ·rcases(g2 z).1 hz with e | e
    ·exact .inl e
    ·rw[e];exact .inr (List.mem_cons_self ..)
   ·exact .inr (List.mem_cons_of_mem _ hz)
  obtain⟨k1,k2⟩:=Z7Y ns (Qt l x) g1 (fun a b ha hb e=>h1 a b (hm a ha) (hm b hb) e)
  refine⟨k1,fun y=>?_⟩
  show y∈ns.foldl Qt (Qt l x)↔_
  rw[k2,g2,List.mem_cons,or_assoc]
def Z6S (hs:List Zf):Prop := ∀S∈hs,∀R∈hs,∀x∈S.l,∀y∈R.l,Zi x=Zi y->x=y
theorem Z3M: ∀(hs:List Zf) (l:List Z8),l.Pairwise UX->(∀x y,(x∈l \/ ∃S∈hs,x∈S.l)->(y∈l \/ ∃S∈hs,y∈S.l)->Zi x=Zi y->x=y)->
  (hs.foldl (fun out S=>S.l.foldl Qt out) l).Pairwise UX /\ ∀y,y∈hs.foldl (fun out S=>S.l.foldl Qt out) l↔y∈l \/ ∃S∈hs,y∈S.l
 | [],l,hs,_=>⟨hs,fun y=>by simp⟩
 | S :: hs,l,hl,h1=>by
  obtain⟨g1,g2⟩:=Z7Y S.l l hl (fun x y hx hy e=>h1 x y (hx.imp id fun h=>⟨S,List.mem_cons_self ..,h⟩) (hy.imp id fun h=>⟨S,List.mem_cons_self ..,h⟩) e)
  have hm : ∀z,(z∈S.l.foldl Qt l \/ ∃R∈hs,z∈R.l)->(z∈l \/ ∃R∈S :: hs,z∈R.l):=fun z hz=>by
   rcases hz with hz | ⟨R,hR,hz⟩
   ·rcases(g2 z).1 hz with e | e
    ·exact .inl e
    ·exact .inr ⟨S,List.mem_cons_self ..,e⟩
   ·exact .inr ⟨R,List.mem_cons_of_mem _ hR,hz⟩
  obtain⟨k1,k2⟩:=Z3M hs (S.l.foldl Qt l) g1 (fun a b ha hb e=>h1 a b (hm a ha) (hm b hb) e)
  refine⟨k1,fun y=>?_⟩
  show y∈hs.foldl (fun out S=>S.l.foldl Qt out) (S.l.foldl Qt l)↔_
  rw[k2,g2]
  constructor
  ·rintro((h | h) | ⟨R,hR,h⟩)
   ·exact .inl h
   ·exact .inr ⟨S,List.mem_cons_self ..,h⟩
   ·exact .inr ⟨R,List.mem_cons_of_mem _ hR,h⟩
  ·rintro(h | ⟨R,hR,h⟩)
   ·exact .inl (.inl h)
   ·rcases List.mem_cons.1 hR with e | hR
    ·rw[e]at h;exact .inl (.inr h)
    ·exact .inr ⟨R,hR,h⟩
theorem XW {hs:List Zf}(h:Z6S hs):(Zw hs).Pairwise UX /\ ∀y,y∈Zw hs ↔ ∃S∈hs,y∈S.l:=by
 obtain⟨h1,h2⟩:=Z3M hs [] List.Pairwise.nil (fun x y hx hy e=>by
  rcases hx with hx | ⟨S,hS,hx⟩
  ·cases hx
  ·rcases hy with hy | ⟨R,hR,hy⟩
   ·cases hy
   ·exact h S hS R hR x hx y hy e)
 exact⟨h1,fun y=>by rw[show y∈Zw hs↔_ from h2 y];simp⟩
section
variable {W:ZO}{ss:List Nat}{T:Nat}
theorem Yp.oneN (h:Yp W ss T):Z6S W.hs:=fun S hS R hR x hx y hy e=>by
 obtain⟨i,hi⟩:=List.getElem?_of_mem hS
 obtain⟨k,hk⟩:=List.getElem?_of_mem hR
 exact h.one hi hk hx hy e
theorem Z6S.take {hs:List Zf}(h:Z6S hs)(k:Nat):Z6S (hs.take k):=fun S hS R hR=>h S (List.mem_of_mem_take hS) R (List.mem_of_mem_take hR)
theorem Yp.unionNms (h:Yp W ss T):J9 (Zw W.hs) (fun a=>match YA W a with | some S=>S.c S.id | none=>0):=fun a k=>by
 obtain⟨u1,u2⟩:=XW h.oneN
 constructor
 ·rintro⟨x,hx,e⟩
  obtain⟨S,hS,hxS⟩:=(u2 x).1 hx
  obtain⟨i,hi⟩:=List.getElem?_of_mem hS
  obtain⟨j,R,g1,g2,g3⟩:=h.named hi hxS
  have e2:x.house=a/\x.num=k:=by simpa [Zi] using e
  have e3:=(h.st' g2).1.nms.le g3
  dsimp only
  rw[<-e2.1,g1,Z6D g2]
  show 1<=k/\k<=(R.c R.id:Int)
  rw[(h.st' g2).2.2,<-g1]
  omega
 ·rintro⟨h1,h2⟩
  dsimp only at h2
  cases ha:YA W a with
  | none=>rw[ha]at h2;simp at h2;omega
  | some S=>
   rw[ha]at h2
   obtain⟨j,g1,g2,g3⟩:=Ju ha
   have h3:k<=(S.c S.id:Int):=h2
   rw[(h.st' g3).2.2]at h3
   obtain⟨x,hx,e⟩:=((h.st' g3).1.nms ((j:Int)+1) k).2 ⟨h1,h3⟩
   exact⟨x,(u2 x).2 ⟨S,List.mem_of_getElem? g3,hx⟩,by rw[g1];exact e⟩
theorem Yp.unionLen (h:Yp W ss T):(Zw W.hs).length<=T:=by
 obtain⟨u1,u2⟩:=XW h.oneN;have hnd:((Zw W.hs).map Zi).Nodup:=Yt u1;have hnm:=h.unionNms;refine Nat.le_trans (Z6y W.hs.length (Zw W.hs) (fun x hx=>by
  obtain⟨S,hS,hxS⟩:=(u2 x).1 hx;obtain⟨i,hi⟩:=List.getElem?_of_mem hS;obtain⟨j,R,g1,g2,g3⟩:=h.named hi hxS;have:=(List.getElem?_eq_some_iff.1 g2).1;omega)) (Nat.le_trans ?_ h.tot)
 unfold Z2u;rw[Z5s (fun S=>S.c S.id) 0 W.hs];have hm : ∀j,j < W.hs.length->QB (Zw W.hs) ((j:Int)+1)<=((W.hs[j]?).map (fun S=>S.c S.id)).getD 0:=fun j hj=>by
  rw[Z3i hnm hnd];have e:=List.getElem?_eq_getElem hj;rw[Z6D e,e];exact Nat.le_refl _
 have hl : ∀j∈List.range W.hs.length,j < W.hs.length:=fun j hj=>List.mem_range.1 hj;generalize List.range W.hs.length=r at *
 induction r with
 | nil=>exact Nat.le_refl _
 | cons j r ihr=>
  rw[List.map_cons,List.map_cons,List.sum_cons,List.sum_cons];have a1:=hm j (hl j (List.mem_cons_self ..));have a2:=ihr (fun i hi=>hl i (List.mem_cons_of_mem _ hi));omega
theorem Yp.unionOk (h:Yp W ss T): ∀x∈Zw W.hs,Zg W.f x=true/\x.Ok:=fun x hx=>by
 obtain⟨S,hS,hxS⟩:=((XW h.oneN).2 x).1 hx
 obtain⟨i,hi⟩:=List.getElem?_of_mem hS
 have:=h.st' hi
 exact⟨this.2.1 ▸ this.1.frm x hxS,this.1.ok x hxS⟩
end
theorem zZ: ∀{l m:List Nm},l.Nodup->(∀x∈l,x∈m)->l.length<=m.length
 | [],m,_,_=>Nat.zero_le _
 | x :: l,m,h,hs=>by
  obtain⟨a,b,e⟩:=List.append_of_mem (hs x (List.mem_cons_self ..))
  rw[List.nodup_cons]at h
  have h2:=zZ (m:=a ++ b) h.2 (fun y hy=>by
   have h3:=hs y (List.mem_cons_of_mem _ hy)
   rw[e,List.mem_append,List.mem_cons]at h3
   rw[List.mem_append]
   rcases h3 with h3 | h3 | h3
   ·exact .inl h3
   ·rw[h3]at hy;exact absurd hy h.1
   ·exact .inr h3)
  rw[e]
  simp only[List.length_append,List.length_cons]at h2 ⊢
  omega
theorem Za8 {w:World}{k:TypeId}{b n m:Nat}{D:DataW Value}(h:w.ownsMap zq k Qc b n D)(hs:Maps.size D<=m):w.ownsMap zq k Qc b m D:=by
 obtain⟨es,clock,hb,F,hn,rfl⟩:=h;refine⟨es,clock,hb,F,?_,rfl⟩;rw[Maps.size_eq,length_read]at hs;exact hs
theorem Z7e {α:Type}{enc:α->Value}{f:Nm->Option α}{w:World}{b n:Nat}{t e:TypeId}(hmap:ZZ enc w b n f)(hn:n < maxLen)(ht:zq.underlying t=some (.map 45 e))(h m:Int)(hk:VI (h,m))(y:α):
  ∃w',(Instr.mapUpdate t (.map (some b)) (.agg #[.int .i64 h,.int .i64 m]) (enc y)).run zq w = .ok () w'/\ZZ enc w' b (n+(if (f (h,m)).isNone=true then 1 else 0)) (YH f (h,m) y)/\w.mapTurned w' b:=by
 obtain⟨D,h1,h2⟩:=hmap;obtain⟨w',h3,h4,h5⟩:=h1.store JG ht hn (U7 (h,m) hk) (val:=enc y) (d := .held (enc y)) (ps:=[]) rfl;refine⟨w',h3,⟨_,Za8 h4 ?_,h2.put h1.isMap hk y⟩,h5⟩;have h6:=h1.size_le;rw[Maps.size_put (h1.tidy JG),h2.has (h,m) hk];cases hf:f (h,m)with
 | none=>simp;omega
 | some z=>simp;omega
theorem ZbH {f g:Nm->Option LN}{ks:List Nm}{k:Nm}(h:k ∉ ks):Z3w f g ks k=f k:=if_neg h
structure Z0R (w wr:World)(bd bs r nd n:Nat)(f g:Nm->Option LN)(kr ks:List Nm)(cnt:Nat):Prop where
 rng:Y8 LN.val wr bs r n g kr cnt
 dst:ZZ LN.val wr bd (nd+(ks.filter fun k=>(f k).isNone).length) (Z3w f g ks)
 nod:ks.Nodup
 same:Zb (fun k=>k=bd) w wr
 r_ge:w.heap.size<=r
 all : ∀k∈ks,(g k).isSome=true
 bd_lt:bd < w.heap.size
 ne:bd≠bs
section
variable {w wr W':World}{bd bs r nd n:Nat}{f g:Nm->Option LN}{kr ks:List Nm}{cnt:Nat}
theorem Z0R.below (h:Z0R w wr bd bs r nd n f g kr ks cnt)(hb:Below wr.heap.size wr W'):Z0R w W' bd bs r nd n f g kr ks cnt:=
 ⟨h.rng.below hb,h.dst.below hb,h.nod,h.same.trans (Zb.of_below hb),h.r_ge,h.all,h.bd_lt,h.ne⟩
theorem Z0R.came (h:Z0R w wr bd bs r nd n f g kr ks cnt){kh km:Int}{y:LN}{cnt':Nat}(hN:Z60 LN.val wr bs r n cnt g kr kh km y W' cnt'):Z0R w W' bd bs r nd n f g (kr ++ [(kh,km)]) ks cnt':=
 ⟨hN.range,h.dst.kept hN.grown (fun e=>by have h1:=h.r_ge;have h2:=h.bd_lt;have:=Option.some.inj e;omega),h.nod,h.same.reg (Zb.of_grown hN.grown (fun k e=>by cases e;exact .inr h.r_ge)),h.r_ge,h.all,h.bd_lt,h.ne⟩
theorem Z0R.put {k:Nm}{y:LN}(h:Z0R w wr bd bs r nd n f g (ks ++ [k]) ks cnt)(hnew:k ∉ ks)(hk:g k=some y)(hm:ZZ LN.val W' bd (nd+(ks.filter fun k=>(f k).isNone).length+(if (f k).isNone=true then 1 else 0)) (YH (Z3w f g ks) k y))(ht:wr.mapTurned W' bd):Z0R w W' bd bs r nd n f g (ks ++ [k]) (ks ++ [k]) cnt:=by
 have h1:=h.r_ge;have h2:=h.bd_lt;refine⟨h.rng.of_blocks (ht.grown.block _ h.rng.map.lt (fun e=>h.ne (Option.some.inj e).symm)) (ht.grown.block _ h.rng.lt (fun e=>by have:=Option.some.inj e;omega)),?_,?_,h.same.reg (Zb.of_grown ht.grown (fun k e=>by cases e;exact .inl rfl)),h.r_ge,fun a ha=>?_,h.bd_lt,h.ne⟩
 ·rw[Z5B hk,List.filter_append,List.length_append];have e:([k].filter fun k=>(f k).isNone).length=if (f k).isNone=true then 1 else 0:=by
   by_cases h3:(f k).isNone=true <;> simp[h3]
  rw[e,<-Nat.add_assoc];exact hm
 ·rw[List.nodup_append];exact⟨h.nod,by simp,fun a ha b hb e=>hnew (by rw[List.mem_singleton.1 hb]at e;exact e ▸ ha)⟩
 ·rcases List.mem_append.1 ha with ha | ha
  ·exact h.all a ha
  ·rw[List.mem_singleton.1 ha,hk];rfl
end
theorem Z58 (bd nd bs n:Nat)(f g:Nm->Option LN)(w:World)(hd:ZZ LN.val w bd nd f)(hs:ZZ LN.val w bs n g)(hne:bd≠bs)(hlen:nd+n<=1000000):
  Calls zq 94 #[.map (some bd),.map (some bs)] w fun e w'=>e = .returned (.tuple #[])/\(∃ks:List Nm,ks.Nodup/\Xt g ks/\(∀k∈ks,(g k).isSome=true)/\ZZ LN.val w' bd (nd+(ks.filter fun k=>(f k).isNone).length) (XN f g))/\Zb (fun k=>k=bd) w w':=by
 have I43:=zH zI;have HLEN:=zH hlen;clear hlen;go_enter Tryz.func94,Tryz.ntmps94;go_wp2_with (first
  |(at_range;refine Xx _ rfl _ 106 47 rfl Tryz.underlying106 bs n rfl hs ?_;intro w0 cnt0 hrg0 hg0 hs0)
  | fail)
 go_frame;obtain⟨r,hr⟩:=zX (w.heap.size);have b0:Below w.heap.size w w0:=(Below.refl _ _).grown hg0 (Nat.le_refl _) (fun q hq=>by cases hq);have S0:Hid (Z0R w w0 bd bs r nd n f g [] [] cnt0):=zH ⟨by rw[<-hr.out];exact hrg0,by rw[Z7z];exact hd.below b0,List.nodup_nil,Zb.of_below b0,by rw[<-hr.out];exact Nat.le_refl _,(fun k hk=>by cases hk),hd.lt,hne⟩;rw[hr.out];clear hrg0 hg0 hs0 b0 hd hs hne;go_loopw [10] (fun _ wr=>∃(ks:List Nm) (cnt:Nat),Hid (Z0R w wr bd bs r nd n f g ks ks cnt)) (fun _ wr=>wr.rangeLeft bs r)
 case atStart=>exact⟨_,_,S0⟩
 case round=>
  clear S0;obtain⟨ks,cnt,HS⟩:=hrel;go_upto_region 2 with (first
   |(at_next;refine XV wr rfl _ rfl bs r n cnt ks rfl HS.out.rng ?_ ?_)
   | fail)
  ·intro hall;have HALL:=zH hall;clear hall;go_wp2;go_end0;exact⟨rfl,⟨ks,HS.out.nod,HALL.out,HS.out.all,by have h1:=HS.out.dst;rwa [Z7A HALL.out HS.out.all]at h1⟩,HS.out.same⟩
  ·intro kh km y w1 cnt1 HN hen;have HF:=zH HN.out.at_;have HKok:=zH HN.out.ok;have S1:=zH (HS.out.came HN.out);have HKL:Hid (ks.length+1<=n):=zH (by have:=HN.out.range.count;rw[List.length_append]at this;simp at this;omega);have HM:=zH (show wr.rangeLeft bs r=cnt from HS.out.rng.left_eq);have HLT:=zH HN.out.lt;have NEW:=zH HN.out.new;clear HS HN;unfold LN.val at hen;go_upto_region 3 with (first
    |(refine Zv (w1.alloc (.cells #[.int .i64 kh,.int .i64 km] 45)) rfl 47 _ _ rfl (w1.heap.size+1) (by simp) _ (Z5 y.n y.sa y.sc) rfl rfl (I43.out _ _ _) rfl (Zm y.n y.sa y.sc) ?_))
   clear hen;have hbt:Below w1.heap.size w1 ((w1.alloc (.cells #[.int .i64 kh,.int .i64 km] 45)).alloc (.cells (Z5 y.n y.sa y.sc) 47)):=(zB _ _).alloc (by simp) _;have CS:=zH (S1.out.below hbt);have CN:=zH (Z9 _ (.cells (Z5 y.n y.sa y.sc) 47) _ _ (Za w1 (.cells #[.int .i64 kh,.int .i64 km] 45)));have CT:=zH (Zy (w1.alloc (.cells #[.int .i64 kh,.int .i64 km] 45)) (.cells (Z5 y.n y.sa y.sc) 47) (w1.heap.size+1) (by simp));obtain⟨p4,hp4⟩:=zX (w1.heap.size);obtain⟨p5,hp5⟩:=zX (p4+1);rw[hp4.out]at CN CT ⊢;rw[hp5.out]at CT ⊢;generalize (w1.alloc (.cells #[.int .i64 kh,.int .i64 km] 45)).alloc (.cells (Z5 y.n y.sa y.sc) 47)=wt at *;clear hbt S1;have n0:=Z6 CN.out 0 (.int .i64 kh) rfl;have n1:=Z6 CN.out 1 (.int .i64 km) rfl;have FL:Hid ((ks.filter fun k=>(f k).isNone).length<=ks.length):=zH (List.length_filter_le _ _);obtain⟨w5,hrun,hm5,ht5⟩:=Z7e (t:=106) CS.out.dst (by have:=HLEN.out;have:=HKL.out;have:=FL.out;unfold maxLen;omega) Tryz.underlying106 kh km HKok.out y;rw[ZbH NEW.out]at hm5;have S5:=zH (CS.out.put NEW.out HF.out hm5 ht5);clear hm5 ht5;unfold LN.val at hrun;go_wp2_with (first
    |(refine zL p5 CT.out ?_)
    | fail)
   go_roundw
   case rel=>exact⟨_,_,S5⟩
   case measure=>rw[S5.out.rng.left_eq,HM.out];exact HLT.out
def UM (w:World)(p:Nat)(F:Nat->Prop)(S:Zf):Prop := ∃mb sp G SF,Yf w p mb sp G SF S /\ ∀k,F k↔Yl p mb G SF k
structure Qf (PH:World->Nat->(Nat->Prop)->Zf->Prop):Prop where
 same : ∀{w w':World} {p:Nat} {F:Nat->Prop} {S:Zf} {X:Nat->Prop},PH w p F S->Zb X w w'->(∀k,X k -> ¬F k)->PH w' p F S
 lt : ∀{w:World} {p:Nat} {F:Nat->Prop} {S:Zf},PH w p F S -> ∀k,F k->k < w.heap.size
theorem Zl:Qf UM:=
 ⟨fun {w w' p F S X} h hs hd=>by
  obtain⟨mb,sp,G,SF,h1,h2⟩:=h
  exact⟨mb,sp,G,SF,h1.same hs (fun k hk hF=>hd k hk ((h2 k).2 hF)),h2⟩,
  fun {w p F S} h k hk=>by
  obtain⟨mb,sp,G,SF,h1,h2⟩:=h
  exact h1.lt k ((h2 k).1 hk)⟩
def Z2g (PH:World->Nat->(Nat->Prop)->Zf->Prop)(w:World)(p:Nat)(F:Nat->Prop)(S':Zf)(W:World):Prop := ∃F',PH W p F' S'/\Zb F w W /\ ∀k,F' k->F k\/w.heap.size<=k
def Z0i (Fs:List (Nat->Prop)):Nat->Prop:=fun k=>∃(i:Nat) (F:Nat->Prop),Fs[i]? = some F/\F k
structure Um (PH:World->Nat->(Nat->Prop)->Zf->Prop)(w:World)(ps:List Nat)(Fs:List (Nat->Prop))(Ss:List Zf):Prop where
 len:Fs.length=ps.length/\Ss.length=ps.length
 hou : ∀(i p:Nat) (F:Nat->Prop) (S:Zf),ps[i]? = some p->Fs[i]? = some F->Ss[i]? = some S->PH w p F S
 dis : ∀(i j:Nat) (F G:Nat->Prop),i≠j->Fs[i]? = some F->Fs[j]? = some G -> ∀k,F k -> ¬G k
section
variable {PH:World->Nat->(Nat->Prop)->Zf->Prop}{w w':World}{ps:List Nat}{Fs:List (Nat->Prop)}{Ss:List Zf}
theorem Um.get (h:Um PH w ps Fs Ss){i:Nat}{S:Zf}(hi:Ss[i]? = some S): ∃p F,ps[i]? = some p/\Fs[i]? = some F/\PH w p F S:=by
 have hl:=(List.getElem?_eq_some_iff.1 hi).1;have h1:=h.len;have e1:=List.getElem?_eq_getElem (l:=ps) (i:=i) (by omega);have e2:=List.getElem?_eq_getElem (l:=Fs) (i:=i) (by omega);exact⟨_,_,e1,e2,h.hou i _ _ S e1 e2 hi⟩
theorem Um.nil (w:World):Um PH w [] [] []:=⟨⟨rfl,rfl⟩,fun i p F S h=>by simp at h,fun i j F G _ h=>by simp at h⟩
theorem Um.lt (hp:Qf PH)(h:Um PH w ps Fs Ss): ∀k,Z0i Fs k->k < w.heap.size:=by
 rintro k ⟨i,F,h1,h2⟩;have hl:=(List.getElem?_eq_some_iff.1 h1).1;have h3:=h.len;exact hp.lt (h.hou i _ F _ (List.getElem?_eq_getElem (by omega)) h1 (List.getElem?_eq_getElem (by omega))) k h2
theorem Um.same (hp:Qf PH){X:Nat->Prop}(h:Um PH w ps Fs Ss)(hs:Zb X w w')(hd : ∀k,X k -> ¬Z0i Fs k):Um PH w' ps Fs Ss:=
 ⟨h.len,fun i p F S h1 h2 h3=>hp.same (h.hou i p F S h1 h2 h3) hs (fun k hk hF=>hd k hk ⟨i,F,h2,hF⟩),h.dis⟩
theorem Um.below (hp:Qf PH)(h:Um PH w ps Fs Ss)(hb:Below w.heap.size w w'):Um PH w' ps Fs Ss:=h.same hp (X:=fun _=>False) (Zb.of_below hb) (fun _ e=>e.elim)
theorem Um.upd (hp:Qf PH)(h:Um PH w ps Fs Ss){i p:Nat}{F F':Nat->Prop}{S':Zf}(h1:ps[i]? = some p)(h2:Fs[i]? = some F)(h':PH w' p F' S')(hs:Zb F w w')(hn : ∀k,F' k->F k\/w.heap.size<=k):
  Um PH w' ps (Fs.set i F') (Ss.set i S') /\ ∀k,Z0i (Fs.set i F') k->Z0i Fs k\/w.heap.size<=k:=by
 have hil:=(List.getElem?_eq_some_iff.1 h2).1;have hlt:=h.lt hp;have hl:=h.len;refine⟨⟨by simpa using h.len,fun j q G R g1 g2 g3=>?_,fun j l G K hjl g1 g2 k hG hK=>?_⟩,?_⟩
 ·by_cases e:i=j
  ·subst e;rw[List.getElem?_set_self hil]at g2;rw[List.getElem?_set_self (by omega)]at g3;rw[h1]at g1;cases g1;cases g2;cases g3;exact h'
  ·rw[List.getElem?_set_ne e]at g2 g3;exact hp.same (h.hou j q G R g1 g2 g3) hs (fun k hk hG=>h.dis i j F G e h2 g2 k hk hG)
 ·by_cases e:i=j
  ·subst e;rw[List.getElem?_set_self hil]at g1;cases g1;rw[List.getElem?_set_ne hjl]at g2;rcases hn k hG with h5 | h5
   ·exact h.dis i l F K hjl h2 g2 k h5 hK
   ·have:=hlt k ⟨l,K,g2,hK⟩;omega
  ·rw[List.getElem?_set_ne e]at g1;by_cases e2:i=l
   ·subst e2;rw[List.getElem?_set_self hil]at g2;cases g2;rcases hn k hK with h5 | h5
    ·exact h.dis j i G F hjl g1 h2 k hG h5
    ·have:=hlt k ⟨j,G,g1,hG⟩;omega
   ·rw[List.getElem?_set_ne e2]at g2;exact h.dis j l G K hjl g1 g2 k hG hK
 ·rintro k ⟨j,G,g1,g2⟩;by_cases e:i=j
  ·subst e;rw[List.getElem?_set_self hil]at g1;cases g1;exact(hn k g2).imp (fun h5=>⟨i,F,h2,h5⟩) id
  ·rw[List.getElem?_set_ne e]at g1;exact .inl ⟨j,G,g1,g2⟩
theorem Um.push (hp:Qf PH)(h:Um PH w ps Fs Ss){p:Nat}{F:Nat->Prop}{S:Zf}(hb:Below w.heap.size w w')(h':PH w' p F S)(hn : ∀k,F k->w.heap.size<=k):Um PH w' (ps ++ [p]) (Fs ++ [F]) (Ss ++ [S]) /\ ∀k,Z0i (Fs ++ [F]) k->Z0i Fs k\/w.heap.size<=k:=by
 have hlt:=h.lt hp;have hk:=h.below hp hb;obtain⟨l1,l2⟩:=h.len;have hg : ∀{A:Type} (l:List A) (x:A) (i:Nat) (y:A),(l ++ [x])[i]? = some y->(i < l.length/\l[i]? = some y)\/(i=l.length/\y=x):=fun {A} l x i y e=>by
  rcases Nat.lt_or_ge i l.length with hi | hi
  ·rw[List.getElem?_append_left hi]at e;exact .inl ⟨hi,e⟩
  ·rw[List.getElem?_append_right hi]at e;have h0:i - l.length=0:=by
    have:=(List.getElem?_eq_some_iff.1 e).1;simp at this;omega
   rw[h0]at e;simp at e;exact .inr ⟨by omega,e.symm⟩
 refine⟨⟨by simp[l1,l2],fun i q G R g1 g2 g3=>?_,fun i j G K hij g1 g2 k hG hK=>?_⟩,?_⟩
 ·rcases hg _ _ _ _ g1 with ⟨a1,b1⟩ | ⟨a1,b1⟩ <;> rcases hg _ _ _ _ g2 with ⟨a2,b2⟩ | ⟨a2,b2⟩ <;> rcases hg _ _ _ _ g3 with ⟨a3,b3⟩ | ⟨a3,b3⟩ <;> first | omega | skip
  ·exact hk.hou i q G R b1 b2 b3
  ·rw[b1,b2,b3];exact h'
 ·rcases hg _ _ _ _ g1 with ⟨a1,b1⟩ | ⟨a1,b1⟩ <;> rcases hg _ _ _ _ g2 with ⟨a2,b2⟩ | ⟨a2,b2⟩
  ·exact h.dis i j G K hij b1 b2 k hG hK
  ·subst b2;have:=hlt k ⟨i,G,b1,hG⟩;have:=hn k hK;omega
  ·subst b1;have:=hlt k ⟨j,K,b2,hK⟩;have:=hn k hG;omega
  ·omega
 ·rintro k ⟨i,G,g1,g2⟩;rcases hg _ _ _ _ g1 with ⟨a1,b1⟩ | ⟨a1,b1⟩
  ·exact .inl ⟨i,G,b1,g2⟩
  ·subst b1;exact .inr (hn k g2)
end
structure LM where
 m:MlV
 a:zA
 c:Nat
def LM.val (x:LM):Value := .slice x.a x.m.body.length x.c
def LM.cells (x:LM):List Value:=[.int .i64 x.m.frm,.int .i64 x.m.to,x.val]
def ZD (l:List LM):List Value:=l.flatMap LM.cells
theorem Vl (l:List LM):(ZD l).length=l.length * 3:=by
 induction l with
 | nil=>rfl
 | cons x l ih=>show(LM.cells x ++ ZD l).length=_;rw[List.length_append,ih,List.length_cons];show 3+_=_;omega
theorem Z3d (l m:List LM):ZD (l ++ m)=ZD l ++ ZD m:=by simp[ZD]
theorem Z7E (x:LM):ZD [x]=x.cells:=by simp[ZD]
theorem Z6w (l:List LM): ∀v∈ZD l,v.oneCell'=true:=by
 intro v hv;obtain⟨x,_,hv⟩:=List.mem_flatMap.1 hv;simp only[LM.cells,LM.val,List.mem_cons,List.not_mem_nil,or_false]at hv;rcases hv with rfl | rfl | rfl <;> rfl
theorem ZbL: ∀(l:List LM) (q:Nat),(ZD l).take (q * 3)=ZD (l.take q)
 | [],q=>by simp[ZD]
 | x :: l,0=>by simp[ZD]
 | x :: l,q+1=>by
  show(x.cells ++ ZD l).take ((q+1) * 3)=x.cells ++ ZD (l.take q)
  rw[List.take_append,show(q+1) * 3 - x.cells.length=q * 3 by show _ - 3=_;omega,ZbL l q,List.take_of_length_le (by show 3<=_;omega)]
theorem ZbM: ∀(l:List LM) (q:Nat),(ZD l).drop (q * 3)=ZD (l.drop q)
 | [],q=>by simp[ZD]
 | x :: l,0=>by simp
 | x :: l,q+1=>by
  show(x.cells ++ ZD l).drop ((q+1) * 3)=ZD (l.drop q)
  rw[List.drop_append,show(q+1) * 3 - x.cells.length=q * 3 by show _ - 3=_;omega,ZbM l q,List.drop_of_length_le (by show 3<=_;omega)]
  rfl
theorem Z1w: ∀{l:List LM} {i:Nat} {x:LM},l[i]? = some x -> ∀(j:Nat) (v:Value),x.cells[j]? = some v->(ZD l)[i * 3+j]? = some v
 | [],i,x,h,_,_,_=>by simp at h
 | y :: l,0,x,h,j,v,hv=>by
  simp at h
  subst h
  have hj:j < 3:=(List.getElem?_eq_some_iff.1 hv).1
  show(y.cells ++ ZD l)[0 * 3+j]? = _
  rw[List.getElem?_append_left (by show _ < 3;omega),Nat.zero_mul,Nat.zero_add]
  exact hv
 | y :: l,i+1,x,h,j,v,hv=>by
  show(y.cells ++ ZD l)[(i+1) * 3+j]? = _
  rw[List.getElem?_append_right (by show 3<=_;omega),show(i+1) * 3+j - y.cells.length=i * 3+j by show _ - 3=_;omega]
  exact Z1w (l:=l) (by simpa using h) j v hv
structure UK (PH:World->Nat->(Nat->Prop)->Zf->Prop)(tW tH:TypeId)(bf:Value->Value->Y6)(w:World)(p:Nat)(ps:List Nat)(Fs:List (Nat->Prop))(ha:zA)(hc:Nat)(xs:List LM)(ma:zA)(mc:Nat)(V:ZO):Prop where
 blk:w.heap[p]? = some (.cells (bf (.slice ha ps.length hc) (.slice ma xs.length mc)) tW (0,0))
 hrow:w.ownsRow 0 tH 1 (.slice ha ps.length hc) ps.length (ps.map fun q=>.pointer (some ⟨q,0,none⟩))
 hs:Um PH w ps Fs V.hs
 mrow:w.ownsRow 0 152 3 (.slice ma xs.length mc) xs.length (ZD xs)
 mls:xs.map LM.m=V.ms
 bod : ∀x∈xs,w.ownsRow 0 5 1 x.val x.m.body.length (x.m.body.map Zr)
 sp : ¬Z0i Fs p
 sh : ∀k,Z0i Fs k->Value.ownBlock (.slice ha ps.length hc)≠some k
 sm : ∀k,Z0i Fs k->Value.ownBlock (.slice ma xs.length mc)≠some k
 sb : ∀k,Z0i Fs k -> ∀x∈xs,x.val.ownBlock≠some k
def wF (p:Nat)(Fs:List (Nat->Prop))(ha:zA)(hn hc:Nat)(xs:List LM)(ma:zA)(mc:Nat):Nat->Prop:=fun k=>k=p\/Value.ownBlock (.slice ha hn hc)=some k\/Z0i Fs k\/Value.ownBlock (.slice ma xs.length mc)=some k \/ ∃x∈xs,x.val.ownBlock=some k
section
variable {PH:World->Nat->(Nat->Prop)->Zf->Prop}{tW tH:TypeId}{bf:Value->Value->Y6}{w w':World}{p:Nat}{ps:List Nat}{Fs:List (Nat->Prop)}{ha:zA}{hc:Nat}{xs:List LM}{ma:zA}{mc:Nat}{V:ZO}
theorem UK.nh (h:UK PH tW tH bf w p ps Fs ha hc xs ma mc V):V.hs.length=ps.length:=h.hs.len.2
theorem UK.nm (h:UK PH tW tH bf w p ps Fs ha hc xs ma mc V):V.ms.length=xs.length:=by rw[<-h.mls,List.length_map]
theorem UK.same (hp:Qf PH){X:Nat->Prop}(h:UK PH tW tH bf w p ps Fs ha hc xs ma mc V)(hs:Zb X w w')(hd : ∀k,X k -> ¬wF p Fs ha ps.length hc xs ma mc k):UK PH tW tH bf w' p ps Fs ha hc xs ma mc V:=
 ⟨(hs.block p (Zk h.blk) (fun hX=>hd p hX (.inl rfl))).trans h.blk,Ze h.hrow hs (fun b hb hX=>hd b hX (.inr (.inl hb))),h.hs.same hp hs (fun k hk hF=>hd k hk (.inr (.inr (.inl hF)))),
  Ze h.mrow hs (fun b hb hX=>hd b hX (.inr (.inr (.inr (.inl hb))))),h.mls,fun x hx=>Ze (h.bod x hx) hs (fun b hb hX=>hd b hX (.inr (.inr (.inr (.inr ⟨x,hx,hb⟩))))),h.sp,h.sh,h.sm,h.sb⟩
theorem UK.below (hp:Qf PH)(h:UK PH tW tH bf w p ps Fs ha hc xs ma mc V)(hb:Below w.heap.size w w'):UK PH tW tH bf w' p ps Fs ha hc xs ma mc V:=h.same hp (X:=fun _=>False) (Zb.of_below hb) (fun _ e=>e.elim)
theorem UK.lt (hp:Qf PH)(h:UK PH tW tH bf w p ps Fs ha hc xs ma mc V): ∀k,wF p Fs ha ps.length hc xs ma mc k->k < w.heap.size:=by
 rintro k (rfl | h1 | h1 | h1 | ⟨x,hx,h1⟩)
 ·exact Zk h.blk
 ·exact(h.hrow.lt k h1).2
 ·exact h.hs.lt hp k h1
 ·exact(h.mrow.lt k h1).2
 ·exact((h.bod x hx).lt k h1).2
theorem UK.house (hp:Qf PH)(h:UK PH tW tH bf w p ps Fs ha hc xs ma mc V){i q:Nat}{F:Nat->Prop}{S':Zf}(h1:ps[i]? = some q)(h2:Fs[i]? = some F)(hr:Z2g PH w q F S' w'):
  ∃Fs',UK PH tW tH bf w' p ps Fs' ha hc xs ma mc { V with hs:=V.hs.set i S' } /\ Zb (Z0i Fs) w w'/\(∀k,wF p Fs' ha ps.length hc xs ma mc k->wF p Fs ha ps.length hc xs ma mc k\/w.heap.size<=k):=by
 obtain⟨F',g1,g2,g3⟩:=hr;obtain⟨u1,u2⟩:=h.hs.upd hp h1 h2 g1 g2 g3;have hS:Zb (Z0i Fs) w w':=g2.weaken (fun k hk=>⟨i,F,h2,hk⟩);refine⟨Fs.set i F',⟨(hS.block p (Zk h.blk) h.sp).trans h.blk,Ze h.hrow hS (fun b hb hX=>h.sh b hX hb),u1,Ze h.mrow hS (fun b hb hX=>h.sm b hX hb),h.mls,
  fun x hx=>Ze (h.bod x hx) hS (fun b hb hX=>h.sb b hX x hx hb),fun hk=>?_,fun k hk hb=>?_,fun k hk hb=>?_,fun k hk x hx hb=>?_⟩,hS,?_⟩
 ·rcases u2 p hk with h5 | h5
  ·exact h.sp h5
  ·have:=Zk h.blk;omega
 ·rcases u2 k hk with h5 | h5
  ·exact h.sh k h5 hb
  ·have:=(h.hrow.lt k hb).2;omega
 ·rcases u2 k hk with h5 | h5
  ·exact h.sm k h5 hb
  ·have:=(h.mrow.lt k hb).2;omega
 ·rcases u2 k hk with h5 | h5
  ·exact h.sb k h5 x hx hb
  ·have:=((h.bod x hx).lt k hb).2;omega
 ·rintro k (e | e | e | e | e)
  ·exact .inl (.inl e)
  ·exact .inl (.inr (.inl e))
  ·exact(u2 k e).imp (fun e=>.inr (.inr (.inl e))) id
  ·exact .inl (.inr (.inr (.inr (.inl e))))
  ·exact .inl (.inr (.inr (.inr (.inr e))))
theorem UK.mail (hp:Qf PH)(h:UK PH tW tH bf w p ps Fs ha hc xs ma mc V){X:Nat->Prop}{xs':List LM}{ma':zA}{mc':Nat}(hs:Zb X w w')(hX : ∀k,X k -> ¬Z0i Fs k/\Value.ownBlock (.slice ha ps.length hc)≠some k)
  (hb:w'.heap[p]? = some (.cells (bf (.slice ha ps.length hc) (.slice ma' xs'.length mc')) tW (0,0))) (hm:w'.ownsRow 0 152 3 (.slice ma' xs'.length mc') xs'.length (ZD xs')) (hB : ∀x∈xs',w'.ownsRow 0 5 1 x.val x.m.body.length (x.m.body.map Zr))
  (hn : ∀k,(Value.ownBlock (.slice ma' xs'.length mc')=some k \/ ∃x∈xs',x.val.ownBlock=some k)->w.heap.size<=k\/Value.ownBlock (.slice ma xs.length mc)=some k \/ ∃x∈xs,x.val.ownBlock=some k):
  UK PH tW tH bf w' p ps Fs ha hc xs' ma' mc' { V with ms:=xs'.map LM.m } /\ (∀k,wF p Fs ha ps.length hc xs' ma' mc' k->wF p Fs ha ps.length hc xs ma mc k\/w.heap.size<=k):=by
 have hL:=h.hs.lt hp;have hno : ∀k,Z0i Fs k -> ¬(Value.ownBlock (.slice ma' xs'.length mc')=some k \/ ∃x∈xs',x.val.ownBlock=some k):=fun k hk e=>by
  rcases hn k e with h5 | h5 | ⟨x,hx,h5⟩
  ·have:=hL k hk;omega
  ·exact h.sm k hk h5
  ·exact h.sb k hk x hx h5
 refine⟨⟨hb,Ze h.hrow hs (fun b hb hk=>(hX b hk).2 hb),h.hs.same hp hs (fun k hk=>(hX k hk).1),hm,rfl,hB,h.sp,h.sh,fun k hk e=>hno k hk (.inl e),fun k hk x hx e=>hno k hk (.inr ⟨x,hx,e⟩)⟩,?_⟩;have ho : ∀k,(Value.ownBlock (.slice ma' xs'.length mc')=some k \/ ∃x∈xs',x.val.ownBlock=some k)->wF p Fs ha ps.length hc xs ma mc k\/w.heap.size<=k:=fun k e=>by
  rcases hn k e with h5 | h5 | h5
  ·exact .inr h5
  ·exact .inl (.inr (.inr (.inr (.inl h5))))
  ·exact .inl (.inr (.inr (.inr (.inr h5))))
 rintro k (e | e | e | e | e)
 ·exact .inl (.inl e)
 ·exact .inl (.inr (.inl e))
 ·exact .inl (.inr (.inr (.inl e)))
 ·exact ho k (.inl e)
 ·exact ho k (.inr e)
end
def Wld (PH:World->Nat->(Nat->Prop)->Zf->Prop)(tW tH:TypeId)(bf:Value->Value->Y6)(w:World)(p:Nat)(F:Nat->Prop)(V:ZO):Prop := ∃ps Fs ha hc xs ma mc,UK PH tW tH bf w p ps Fs ha hc xs ma mc V /\ ∀k,F k↔wF p Fs ha ps.length hc xs ma mc k
def QK (PH:World->Nat->(Nat->Prop)->Zf->Prop)(tW tH:TypeId)(bf:Value->Value->Y6)(w:World)(p:Nat)(F:Nat->Prop)(V':ZO)(W:World):Prop := ∃F',Wld PH tW tH bf W p F' V'/\Zb F w W /\ ∀k,F' k->F k\/w.heap.size<=k
def bfP (h m:Value):Y6 := #[h,m]
abbrev VO:=Wld UM 141 27 bfP
abbrev Yr:=QK UM 141 27 bfP
section
variable {PH:World->Nat->(Nat->Prop)->Zf->Prop}{tW tH:TypeId}{bf:Value->Value->Y6}{w w':World}{p:Nat}{F:Nat->Prop}{V:ZO}
theorem Wld.same (hp:Qf PH){X:Nat->Prop}(h:Wld PH tW tH bf w p F V)(hs:Zb X w w')(hd : ∀k,X k -> ¬F k):Wld PH tW tH bf w' p F V:=by
 obtain⟨ps,Fs,ha,hc,xs,ma,mc,h1,h2⟩:=h;exact⟨ps,Fs,ha,hc,xs,ma,mc,h1.same hp hs (fun k hk hF=>hd k hk ((h2 k).2 hF)),h2⟩
theorem Wld.below (hp:Qf PH)(h:Wld PH tW tH bf w p F V)(hb:Below w.heap.size w w'):Wld PH tW tH bf w' p F V:=h.same hp (X:=fun _=>False) (Zb.of_below hb) (fun _ e=>e.elim)
theorem Wld.lt (hp:Qf PH)(h:Wld PH tW tH bf w p F V): ∀k,F k->k < w.heap.size:=by
 obtain⟨ps,Fs,ha,hc,xs,ma,mc,h1,h2⟩:=h;exact fun k hk=>h1.lt hp k ((h2 k).1 hk)
theorem QK.after {w0:World}{V':ZO}(h:QK PH tW tH bf w p F V' w')(hb:Below w0.heap.size w0 w):QK PH tW tH bf w0 p F V' w':=by
 obtain⟨F',h1,h2,h3⟩:=h;exact⟨F',h1,(Zb.of_below hb).trans h2,fun k hk=>(h3 k hk).imp id (fun e=>Nat.le_trans hb.size e)⟩
theorem QK.then {w2:World}{V':ZO}(hp:Qf PH)(h:QK PH tW tH bf w p F V' w')(hb:Below w'.heap.size w' w2):QK PH tW tH bf w p F V' w2:=by
 obtain⟨F',h1,h2,h3⟩:=h;exact⟨F',h1.below hp hb,h2.trans (Zb.of_below hb),h3⟩
theorem QK.refl (h:Wld PH tW tH bf w p F V):QK PH tW tH bf w p F V w:=⟨F,h,Zb.refl _ _,fun k hk=>.inl hk⟩
end
theorem Zdw {W:World}{k:Nat}{a:zA}{n c:Nat}{xs:List Value}(h:Y3 W k a n c xs)(h0:0 < n): ∃b off,a=some ⟨b,off,none⟩ /\ ∀i x,xs[i]? = some x->W.cell? ⟨b,off+i,none⟩=some x:=h.at h0
theorem UK.at {PH:World->Nat->(Nat->Prop)->Zf->Prop}{tW tH:TypeId}{bf:Value->Value->Y6}{w:World}{p:Nat}{ps:List Nat}{Fs:List (Nat->Prop)}{ha:zA}{hc:Nat}{xs:List LM}{ma:zA}{mc:Nat}{V:ZO}
  (h:UK PH tW tH bf w p ps Fs ha hc xs ma mc V) {i:Int} {S:Zf} (hi:YA V i=some S) : ∃(k q:Nat) (F:Nat->Prop),i=(k:Int)+1/\(i - 1).toNat=k/\ps[k]? = some q/\Fs[k]? = some F/\PH w q F S/\V.hs[k]? = some S:=by
 obtain⟨k,h1,h2,h3⟩:=Ju hi;obtain⟨q,F,g1,g2,g3⟩:=h.hs.get h3;exact⟨k,q,F,h1,h2,g1,g2,g3,h3⟩
theorem UK.ret {PH:World->Nat->(Nat->Prop)->Zf->Prop}{tW tH:TypeId}{bf:Value->Value->Y6}{w w':World}{p:Nat}{ps:List Nat}{Fs:List (Nat->Prop)}{ha:zA}{hc:Nat}{xs:List LM}{ma:zA}{mc:Nat}{V:ZO}(hp:Qf PH)
  (h:UK PH tW tH bf w p ps Fs ha hc xs ma mc V) {i:Int} {k q:Nat} {F:Nat->Prop} {S':Zf} (e:(i - 1).toNat=k) (h1:ps[k]? = some q) (h2:Fs[k]? = some F) (hr:Z2g PH w q F S' w'):
  QK PH tW tH bf w p (wF p Fs ha ps.length hc xs ma mc) (JZ V i S') w':=by
 obtain⟨Fs',g1,g2,g3⟩:=h.house hp h1 h2 hr;rw[zy e];exact⟨_,⟨ps,Fs',ha,hc,xs,ma,mc,g1,fun k=>Iff.rfl⟩,g2.weaken (fun k hk=>.inr (.inr (.inl hk))),g3⟩
theorem Wld.open {PH:World->Nat->(Nat->Prop)->Zf->Prop}{tW tH:TypeId}{bf:Value->Value->Y6}{w:World}{p:Nat}{F:Nat->Prop}{V:ZO}(h:Wld PH tW tH bf w p F V):
  ∃ps Fs ha hc xs ma mc,UK PH tW tH bf w p ps Fs ha hc xs ma mc V/\F=wF p Fs ha ps.length hc xs ma mc:=by
 obtain⟨ps,Fs,ha,hc,xs,ma,mc,h1,h2⟩:=h;exact⟨ps,Fs,ha,hc,xs,ma,mc,h1,funext fun k=>propext (h2 k)⟩
def Ji.cells (a:Ji)(sa:zA)(sc:Nat):List Value:=[.int .i64 a.kind,.int .i64 a.house,.int .i64 a.to,.int .i64 a.idx] ++ (a.note.cells sa sc ++ [.int .i64 a.keep,.int .i64 a.flip])
section
variable {w:World}{p:Nat}{ps:List Nat}{Fs:List (Nat->Prop)}{ha:zA}{hc:Nat}{xs:List LM}{ma:zA}{mc:Nat}{V:ZO}
theorem Xj (h:UK UM 141 27 bfP w p ps Fs ha hc xs ma mc V)(i:Int)(k q:Nat)(hik:i=(k:Int)+1)(hk:ps[k]? = some q):
  Calls zq 86 #[.pointer (some ⟨p,0,none⟩),.int .i64 i] w fun e w'=>e = .returned (.pointer (some ⟨q,0,none⟩))/\w'=w:=by
 have hkl:=(List.getElem?_eq_some_iff.1 hk).1;have hr:=Y3.of_own h.hrow;have hmx:=hr.maxn;have c0:=Z6 h.blk 0 (.slice ha ps.length hc) rfl;have J1:(zq.info? 27).map (·.size)=some 1:=by kernel_rfl
 obtain⟨b,off,rfl,hat⟩:=hr.at (by omega);have hcl:=hat k (.pointer (some ⟨q,0,none⟩)) (by rw[List.getElem?_map,hk];rfl);have hix:=fun W=>Yi (W:=W) (c:=hc) (b:=b) (off:=off) Tryz.underlying139 J1 hkl (by rw[Nat.mul_one]);have t1:decide (i < 1)=false:=by simp;omega
 have t2:decide ((ps.length:Int) < i)=false:=by simp;omega
 have E1:=zH (show wrap64 (i - 1)=(k:Int)by unfold wrap64;omega);clear h hr hat hmx hk hkl hik;go_enter Tryz.func86,Tryz.ntmps86;go_upto_region 3 with fail;have e1:=E1.out;go_wp2;go_ret;exact⟨rfl,rfl⟩
theorem Z0v (h:UK UM 141 27 bfP w p ps Fs ha hc xs ma mc V)(i:Int)(hi:i < 1\/(ps.length:Int) < i):
  Calls zq 86 #[.pointer (some ⟨p,0,none⟩),.int .i64 i] w fun e w'=>e = .returned (.pointer none)/\w'=w:=by
 have c0:=Z6 h.blk 0 (.slice ha ps.length hc) rfl;by_cases h1:i < 1
 focus
  have t1:decide (i < 1)=true:=by simp;omega
 rotate_left
 focus
  have t1:decide (i < 1)=false:=by simp;omega
  have t2:decide ((ps.length:Int) < i)=true:=by simp;omega
 all_goals
  clear h hi h1;go_enter Tryz.func86,Tryz.ntmps86;go_wp2;go_ret;exact⟨rfl,rfl⟩
theorem VQ (h:UK UM 141 27 bfP w p ps Fs ha hc xs ma mc V)(h0:0 < ps.length):
  Calls zq 85 #[.pointer (some ⟨p,0,none⟩)] w fun e w'=>e = .returned (.bool true)/\w'=w:=by
 have c0:=Z6 h.blk 0 (.slice ha ps.length hc) rfl;have T1:=zH (show decide (0 < ps.length)=true by simp;omega);clear h h0;go_enter Tryz.func85,Tryz.ntmps85;go_wp2;go_ret;refine⟨?_,rfl⟩;show Ending.returned (.bool (decide (0 < ps.length)))=_;rw[T1.out]
theorem Z0S (h:UK UM 141 27 bfP w p ps Fs ha hc xs ma mc V):
  Calls zq 142 #[.pointer (some ⟨p,0,none⟩)] w fun e w'=>e = .returned (.bool (decide (64<=V.ms.length)))/\w'=w:=by
 have c0:=Z6 h.blk 1 (.slice ma xs.length mc) rfl;rw[h.nm];have e:decide (64<=xs.length)=decide ((64:Int)<=(xs.length:Int)):=by rw[decide_eq_decide];omega
 rw[e];clear h e;go_enter Tryz.func142,Tryz.ntmps142;go_wp2;go_ret;exact⟨rfl,rfl⟩
end
theorem Z9G (p:Nat)(F:Nat->Prop)(V:ZO)(a:Ji)(sa:zA)(sc:Nat)(S:Zf)(w:World)(h:VO w p F V)(hS:YA V a.house=some S):
  Calls zq 88 #[.pointer (some ⟨p,0,none⟩),.agg (a.cells sa sc).toArray] w fun e w'=>e = .returned (.int .i64 0)/\Yr w p F (JZ V a.house S.sync) w':=by
 have b0:=zB w (.cells (a.cells sa sc).toArray 67);have C1:=zH (show(a.cells sa sc).toArray[1]? = some (.int .i64 a.house)from rfl);obtain⟨OA,hOA⟩:=zX ((a.cells sa sc).toArray);rw[hOA.out]at b0 C1 ⊢;have X0:=zH (Za w (.cells OA 67));have H0:=zH (h.below Zl b0);have B0:=zH b0;clear b0 hOA h;go_enter Tryz.func88,Tryz.ntmps88;go_upto_region 1 with fail;obtain⟨p3,hp3⟩:=zX (w.heap.size);rw[hp3.out]at X0 ⊢;generalize w.alloc (.cells OA 67)=W0 at *;obtain⟨ps,Fs,ha,hc,xs,ma,mc,h1,h2⟩:=H0.out.open;obtain⟨k,q,Fk,e1,e2,g1,g2,g3,g4⟩:=h1.at hS;have c1:=Z6 X0.out 1 (.int .i64 a.house) C1.out;have HH:=zH (Xj h1 a.house k q e1 g1);obtain⟨mb,sp,G,SF,k1,k2⟩:=g3;have HK:=zH k1;have FIN:Hid (∀w',Yf w' q mb sp G SF S.sync->Zb (fun k=>k=sp) W0 w'->Yr w p F (JZ V a.house S.sync) w'):=zH (fun w' j1 j2=>by
  rw[h2];refine QK.after (w:=W0) ?_ B0.out;refine h1.ret Zl e2 g1 g2 ⟨Fk,⟨mb,sp,G,SF,j1,k2⟩,j2.weaken (fun b hb=>(k2 b).2 ?_),fun b hb=>.inl hb⟩;rw[show b=sp from hb];exact .inr (.inr (.inl k1.stk.self)))
 clear h1 h2 k1 k2 g1 g2 g4 H0 hS e1 e2;go_wp2_with fail;refine HH.out.mono ?_;rintro e w1 ⟨rfl,rfl⟩;go_wp2_with fail;refine(Jt q mb sp G SF S _ HK.out).mono ?_;rintro e w2 ⟨rfl,j1,j2⟩;have R:=zH (FIN.out _ j1 j2);clear j1 j2 c1;go_wp2;go_ret;exact⟨rfl,R.out⟩
def mz:List Value:=[.int .i64 0,.int .i64 0,.slice none 0 0]
theorem Z9b (w:World)(ty:TypeId)(g o c:Nat)(ht:w.there g o 3):
  (Builtin.clear_ #[89] ty #[.slice (some ⟨g,o,none⟩) 1 c]).run zq w = .ok (.tuple #[]) (w.setCells g o mz):=by
 have hst:=run_storeCells_cells (P:=zq) g o mz 0 w (fun j hj=>(ht j hj).1) (fun j hj=>(ht j hj).2) (by intro v hv;simp only[mz,List.mem_cons,List.not_mem_nil,or_false]at hv;rcases hv with rfl | rfl | rfl <;> rfl);simp only[Nat.add_zero]at hst;have hzn : ∀W,(zeroValue 152).run zq W = .ok (.agg #[.int .i64 0,.int .i64 0,.slice none 0 0]) W:=fun W=>by kernel_rfl
 have e:(Builtin.zeroCells #[.int .i64 0,.int .i64 0,.slice none 0 0] 1).toList=mz:=by kernel_rfl
 simp[Builtin.clear_,run_underlying Tryz.underlying89,hzn,Value.cells,e,hst]
theorem Z6o {w w':World}{base k n m c:Nat}{e:TypeId}{a:zA}{xs ys:List Value}{g:Nat}(h:w.ownsRow base e k (.slice a n c) n xs)(ha:a=some ⟨g,0,none⟩)(hm:m<=n)(hl:ys.length=m * k)
  (hb : ∀cur,w.heap[g]? = some (.cells cur e (0,0)) -> ∃cur',w'.heap[g]? = some (.cells cur' e (0,0))/\cur'.size=cur.size) (hc : ∀j v,ys[j]? = some v->w'.cell? ⟨g,j,none⟩=some v):w'.ownsRow base e k (.slice a m c) m ys:=by
 subst ha;refine⟨hl,.inr ?_⟩;rcases h.2 with ⟨h1,_⟩ | ⟨g',cap,cur,h1,h2,h3,h4,h5,h6,h7⟩
 ·cases h1
 ·cases h1;obtain⟨cur',e1,e2⟩:=hb cur h3;refine⟨g,c,cur',rfl,h2,e1,Nat.le_trans hm h4,h5,e2.trans h6,?_⟩;refine List.ext_getElem? fun j=>?_;rw[List.getElem?_take];split
  ·rename_i hj;have hj2:j < ys.length:=by omega
   have h8:=hc j _ (List.getElem?_eq_getElem hj2);rw[List.getElem?_eq_getElem hj2,<-h8];have hsz:j < cur'.size:=by
    rw[e2,h6];have:m * k<=c * k:=Nat.mul_le_mul_right _ (Nat.le_trans hm h4);omega
   simp[World.cell?,e1,hsz]
  ·rename_i hj;rw[List.getElem?_eq_none (by omega)]
theorem Z4A (xs:List LM)(i:Nat):ZD (xs.eraseIdx i)=ZD (xs.take i) ++ ZD (xs.drop (i+1)):=by
 rw[List.eraseIdx_eq_take_drop_succ,Z3d]
theorem Zak (xs:List LM)(a:zA)(c i j:Nat)(hj:j=i+1)(w:World)(ho:w.ownsRow 0 152 3 (.slice a xs.length c) xs.length (ZD xs))(hi:i < xs.length):
  Calls zq 188 #[.slice a xs.length c,.int .i64 (i:Int),.int .i64 (j:Int)] w fun e w'=>e = .returned (.slice a (xs.length - 1) c) /\
   w'.ownsRow 0 152 3 (.slice a (xs.length - 1) c) (xs.length - 1) (ZD (xs.eraseIdx i))/\Zb (fun k=>Value.ownBlock (.slice a xs.length c)=some k) w w':=by
 obtain⟨g,rfl⟩ : ∃g,a=some ⟨g,0,none⟩:=by
  rcases ho.2 with ⟨h1,h2⟩ | ⟨g,cap,cur,h1,_⟩
  ·omega
  ·cases h1;exact⟨g,rfl⟩
 have hr:=Y3.of_own ho;have hnc:=hr.le;have hcm:=hr.max;have hmx:=hr.maxn;have I3:(zq.info? 152).map (·.size)=some 3:=by kernel_rfl
 obtain⟨inf,hi1,hi2⟩ : ∃t,zq.info? 152=some t/\t.size=3:=by
  cases hq:zq.info? 152 with
  | none=>simp[hq]at I3
  | some t=>exact⟨t,rfl,by simpa [hq] using I3⟩
 obtain⟨cur,hcur,hcs,hct⟩ : ∃cur,w.heap[g]? = some (.cells cur 152)/\cur.size=c * 3/\cur.toList.take (xs.length * 3)=ZD xs:=by
  rcases ho.2 with ⟨h1,_⟩ | ⟨g',cap,cur,h1,_,h3,_,_,h6,h7⟩
  ·cases h1
  ·cases h1;exact⟨cur,h3,h6,h7⟩
 have hL:(ZD xs).length=xs.length * 3:=Vl xs;have hcell : ∀j v,(ZD xs)[j]? = some v->w.cell? ⟨g,j,none⟩=some v:=fun j v hv=>by
  have hj:=(List.getElem?_eq_some_iff.1 hv).1;rw[<-hct,List.getElem?_take,if_pos (by omega)]at hv;have hs:j < cur.size:=by have:xs.length * 3<=c * 3:=Nat.mul_le_mul_right _ hnc;omega
  have hv2:cur[j]? = some v:=by simpa using hv
  have hv3:cur[j]=v:=by rw[Array.getElem?_eq_getElem hs]at hv2;exact Option.some.inj hv2
  simp[World.cell?,hcur,hs,hv3]
 obtain⟨news,hnews⟩ : ∃news,news=ZD (xs.drop j):=⟨_,rfl⟩;have hnl:news.length=(xs.length - j) * 3:=by rw[hnews,Vl,List.length_drop]
 obtain⟨A,hA,hsrc⟩ : ∃A:Addr,(if c=j then some (⟨g,0,none⟩:Addr)else some ⟨g,j * 3,none⟩)=some A/\Hid (∀t u,news[t]? = some u->w.drew.cell? (A.add t)=some u):=by
  by_cases h:c=j
  ·refine⟨⟨g,0,none⟩,by simp[h],fun t u hu=>?_⟩;have h0:news.length=0:=by rw[hnl];omega
   rw[List.length_eq_zero_iff.1 h0]at hu;simp at hu
  ·refine⟨⟨g,j * 3,none⟩,by simp[h],fun t u hu=>?_⟩;rw[hnews,<-ZbM,List.getElem?_drop]at hu;rw[Addr.add_lit];exact hcell _ _ hu
 have s2:Hid (∀u∈news,u.oneCell'=true):=fun u hu=>by rw[hnews]at hu;exact Z6w _ u hu
 have s3:Hid (∀t,t < news.length->(w.drew.cell? ⟨g,0+i * 3+t,none⟩).isSome=true/\w.drew.frozen? ⟨g,0+i * 3+t,none⟩=false):=fun t ht=>by
  have h5:0+i * 3+t < cur.size:=by
   rw[hnl]at ht;have:xs.length * 3<=c * 3:=Nat.mul_le_mul_right _ hnc;omega
  refine⟨by show(w.cell? _).isSome=true;simp[World.cell?,hcur];omega,by show w.frozen? _=false;simp[World.frozen?,hcur]⟩
 obtain⟨W1,hW1⟩ : ∃W1,W1=w.drew.setCells g (0+i * 3) news:=⟨_,rfl⟩;obtain⟨cur1,hcur1,hcs1⟩ : ∃cur1,W1.heap[g]? = some (.cells cur1 152)/\cur1.size=cur.size:=by
  rw[hW1];exact VD g news _ w.drew cur _ _ hcur
 obtain⟨k,hk⟩ : ∃k,xs.length=k+1:=⟨xs.length - 1,by omega⟩;have hk1:xs.length - 1=k:=by omega
 have hth:W1.there g (k * 3) 3:=fun j hj=>by
  have h5:k * 3+j < cur1.size:=by
   have:xs.length * 3<=c * 3:=Nat.mul_le_mul_right _ hnc;omega
  exact⟨by simp[World.cell?,hcur1,h5],by simp[World.frozen?,hcur1]⟩
 have hclr:=fun ty=>Z9b W1 ty g (k * 3) (c - k) hth;have hS:Zb (fun k=>Value.ownBlock (.slice (some ⟨g,0,none⟩) xs.length c)=some k) w (W1.setCells g (k * 3) mz):=by
  have e1:Zb (fun k=>k=g) w W1:=by rw[hW1];exact(Zb.of_below ((Below.refl _ _).drew)).trans (V8 g _ news w.drew)
  exact(e1.trans (V8 g _ mz W1)).weaken (fun k hk=>by rw[show k=g from hk];rfl)
 have hown:(W1.setCells g (k * 3) mz).ownsRow 0 152 3 (.slice (some ⟨g,0,none⟩) k c) k (ZD (xs.eraseIdx i)):=by
  refine Z6o ho rfl (by omega) (by rw[Vl,List.length_eraseIdx,if_pos hi,hk1]) (fun cur0 h0=>?_) (fun u v hv=>?_)
  ·rw[hcur]at h0;cases h0;obtain⟨cur',g1,g2⟩:=VD g mz (k * 3) W1 cur1 _ _ hcur1;exact⟨cur',g1,g2.trans hcs1⟩
  ·have hu:=(List.getElem?_eq_some_iff.1 hv).1;rw[Vl,List.length_eraseIdx,if_pos hi,hk1]at hu;rw[World.cell?_setCells_out g mz _ _ _ (fun _ _=>.inl hu),hW1];rw[Z4A,<-hj]at hv;have hti:(ZD (xs.take i)).length=i * 3:=by rw[Vl,List.length_take,Nat.min_eq_left (by omega)]
   rcases Nat.lt_or_ge u (i * 3)with h5 | h5
   ·rw[List.getElem?_append_left (by omega),<-ZbL,List.getElem?_take,if_pos h5]at hv;rw[World.cell?_setCells_out g news _ _ _ (fun _ _=>.inl (by show u < 0+i * 3;omega))];exact hcell u v hv
   ·rw[List.getElem?_append_right (by omega),hti,<-hnews]at hv;have h6:=(List.getElem?_eq_some_iff.1 hv).1;have h7:=World.cell?_setCells_in g news (0+i * 3) w.drew (fun t ht=>(s3.out t ht).1) (u - i * 3) h6;rw[show 0+i * 3+(u - i * 3)=u by omega]at h7;rw[h7];exact congrArg some (List.getElem?_eq_some_iff.1 hv).2
 have OWN:=zH hown;have SM:=zH hS;have hW:Hid (W1=w.drew.setCells g (0+i * 3) news):=zH hW1;have HCL:=zH hclr;have HNL:=zH hnl;have HA:=zH hA;have HLT:Hid (j<=xs.length/\xs.length<=c):=zH ⟨by omega,hnc⟩;have HJ:Hid (j=i+1):=zH hj;have t1:((i:Int)==(j:Int))=false:=by rw[beq_eq_false_iff_ne];omega
 have hel:zq.elem 89=152:=by simp[Program.elem,Tryz.underlying89]
 have hcut0 : ∀W,(Instr.sliceAt 89 (.slice (some ⟨g,0,none⟩) xs.length c) (some (.int .i64 (i:Int))) (some (.int .i64 (j:Int))) (some (.int .i64 (xs.length:Int)))).run zq W = .ok (.slice (some ⟨g,i * 3,none⟩) 1 (xs.length - i)) W:=fun W=>by
  rw[run_sliceAt_slice (P:=zq) W _ _ _ _ _ (by rw[hel];exact Tryz.underlying89),run_slice_any (P:=zq) W _ _ xs.length c (by rw[hel];exact Tryz.underlying89)];simp[Instr.sliceBounds,run_sliceBound,Result.andThen,sizeOf,typeInfo,hel,hi1,hi2,sliced,Addr.add,show i<=j by omega,show j<=xs.length by omega,hnc,show j - i=1 by omega,show ¬xs.length=i by omega];intro h;simp[h]
 have hcut1 : ∀W,(Instr.sliceAt 89 (.slice (some ⟨g,0,none⟩) xs.length c) none (some (.int .i64 (i:Int))) none).run zq W = .ok (.slice (some ⟨g,0,none⟩) i c) W:=fun W=>by
  rw[run_sliceAt_slice (P:=zq) W _ _ _ _ _ (by rw[hel];exact Tryz.underlying89),run_slice_any (P:=zq) W _ _ xs.length c (by rw[hel];exact Tryz.underlying89)];simp[Instr.sliceBounds,run_sliceBound,Result.andThen,sizeOf,typeInfo,hel,hi1,hi2,sliced,show i<=c by omega,Addr.add]
 have hcut2 : ∀W,(Instr.sliceAt 89 (.slice (some ⟨g,0,none⟩) xs.length c) (some (.int .i64 (j:Int))) none none).run zq W = .ok (.slice (some A) (xs.length - j) (c - j)) W:=fun W=>by
  rw[run_sliceAt_slice (P:=zq) W _ _ _ _ _ (by rw[hel];exact Tryz.underlying89),run_slice_any (P:=zq) W _ _ xs.length c (by rw[hel];exact Tryz.underlying89)];simp[Instr.sliceBounds,run_sliceBound,Result.andThen,sizeOf,typeInfo,hel,hi1,hi2,sliced,Addr.add,show j<=xs.length by omega,hnc,<-hA,show ¬j * 3=0 by omega]
 have hcut3 : ∀W,(Instr.sliceAt 89 (.slice (some ⟨g,0,none⟩) k c) (some (.int .i64 (k:Int))) (some (.int .i64 (xs.length:Int))) none).run zq W = .ok (.slice (some ⟨g,k * 3,none⟩) 1 (c - k)) W:=fun W=>by
  rw[run_sliceAt_slice (P:=zq) W _ _ _ _ _ (by rw[hel];exact Tryz.underlying89),run_slice_any (P:=zq) W _ _ k c (by rw[hel];exact Tryz.underlying89)];simp[Instr.sliceBounds,run_sliceBound,Result.andThen,sizeOf,typeInfo,hel,hi1,hi2,sliced,Addr.add,hnc,show k<=xs.length by omega,show ¬c=k by omega];refine⟨by intro h;simp[h],by omega⟩
 have HIK:Hid (i+(xs.length - j)=k/\xs.length - 1=k):=zH ⟨by omega,hk1⟩;clear hk hk1 hth hj hown hS hW1 hclr hnl hA hcur hcs hct hcell hnews hcur1 hcs1 ho hr hL hi hnc hel;go_enter Tryz.func188,Tryz.ntmps188;go_wp2_with fail;go_region_law (refine step_append_room (by rfl) (.tmp 22) (.tmp 25) 89 (by rfl) 152 inf 3 Tryz.underlying89 hi1 hi2 g 0 i c (by simp[Act.eval,Act.put]) A (xs.length - j) (c - j) news (by simp[Act.eval,Act.put]) HNL.out hsrc.out s2.out (by have:=HLT.out;have:=HJ.out;omega) s3.out ?_;rw[<-hW.out,HIK.out.1]);go_wp2_with (refine Z0o rfl _ _ rfl _ _ rfl (HCL.out _) ?_);rw[HIK.out.2];go_ret;exact⟨rfl,OWN.out,SM.out⟩
theorem Z7D (xs:List LM)(a:zA)(c i:Nat)(w:World)(ho:w.ownsRow 0 152 3 (.slice a xs.length c) xs.length (ZD xs))(hi:i < xs.length):
  Calls zq 188 #[.slice a xs.length c,.int .i64 (i:Int),.int .i64 ((i:Int)+1)] w fun e w'=>e = .returned (.slice a (xs.length - 1) c) /\
   w'.ownsRow 0 152 3 (.slice a (xs.length - 1) c) (xs.length - 1) (ZD (xs.eraseIdx i))/\Zb (fun k=>Value.ownBlock (.slice a xs.length c)=some k) w w':=Zak xs a c i (i+1) rfl w ho hi
def Z30 (w:World)(p mb sp:Nat)(G:Nm->Option LN)(SF:Nat->Prop)(S:Zf)(n:Z8)(e:Ending)(W:World):Prop:=
 (∃ta tc,e = .returned (.tuple #[.agg (Z5 (UH S n).2.1 ta tc),.int .i64 (UH S n).2.2])/\W.ownsRow w.heap.size 3 1 (.slice ta (UH S n).2.1.strokes.length tc) (UH S n).2.1.strokes.length ((UH S n).2.1.strokes.map Ys)) /\
 ∃G' SF',Yf W p mb sp G' SF' (UH S n).1/\Zb (Yl p mb G SF) w W /\ ∀k,Yl p mb G' SF' k->Yl p mb G SF k\/w.heap.size<=k
theorem Z30.no {w W:World}{p mb sp:Nat}{G:Nm->Option LN}{SF:Nat->Prop}{S:Zf}{n:Z8}{e:Ending}{c:Int}(hd:UH S n=(S,Zh,c))(he:e = .returned (.tuple #[.agg (Z5 Zh none 0),.int .i64 c]))(hh:Yf w p mb sp G SF S)(hb:Below w.heap.size w W):Z30 w p mb sp G SF S n e W:=
 ⟨⟨none,0,by rw[hd];exact he,by rw[hd];exact World.ownsRow_nil _ _ _ _⟩,G,SF,by rw[hd];exact hh.below hb,Zb.of_below hb,fun k hk=>.inl hk⟩
section
attribute [local go_sem] ZY YV Jd XU
theorem Zc3 (p mb sp:Nat)(G:Nm->Option LN)(SF:Nat->Prop)(S:Zf)(n:Z8)(sa:zA)(sc:Nat)(w:World)(hh:Yf w p mb sp G SF S)(hi:Xh S)(hs:Xs w sa n.strokes.length sc n.strokes)(hok:n.Ok)(hst:n.strokes.length<=1000000000)(hlen:S.l.length < 400):
  Calls zq 19 #[.pointer (some ⟨p,0,none⟩),.agg (Z5 n sa sc)] w fun e w'=>Z30 w p mb sp G SF S n e w':=by
 have HH:=zH hh;have HI:=zH hi;have HOK:=zH hok;have HLEN:=zH hlen;have HLT:=zH hh.lt;obtain⟨k,hk,hk8⟩ : ∃k:Nat,S.id=(k:Int)/\k<=8:=⟨S.id.toNat,by have:=hi.id;omega,by have:=hi.id;omega⟩;have HK:=zH hk;have HK8:=zH hk8;have CB:Hid (S.c (k:Int)<=400):=zH (ZcA hi _);have oneZ:=zH (Zm Zh none 0);have B0:Hid (Below w.heap.size w ((w.alloc (.cells (Z5 n sa sc) 47)).alloc (.cells (Z5 Zh none 0) 47))):=zH ((zB _ _).alloc (by simp) _);have N0:=zH (Z9 _ (.cells (Z5 Zh none 0) 47) _ _ (Za w (.cells (Z5 n sa sc) 47)));have Z0:=zH (Zy (w.alloc (.cells (Z5 n sa sc) 47)) (.cells (Z5 Zh none 0) 47) (w.heap.size+1) (by simp));have RS:=zH (hs.below B0.out);clear hh hi hs hok hlen hk hk8;go_enter Tryz.func19,Tryz.ntmps19;go_upto_region 1 with fail;rw[<-YS];obtain⟨p3,hp3⟩:=zX (w.heap.size);obtain⟨p4,hp4⟩:=zX (w.heap.size+1);have GE0:Hid (w.heap.size<=p3/\p3 < p4):=zH (by have:=hp3.out;have:=hp4.out;omega);rw[hp3.out]at N0;rw[hp4.out]at Z0;rw[hp4.out,hp3.out];generalize (w.alloc (.cells (Z5 n sa sc) 47)).alloc (.cells (Z5 Zh none 0) 47)=w0 at *;go_wp2_with fail;refine(U4 w0 p mb sp S.f S.id S.c (HH.out.below B0.out).blk).mono ?_;rintro e w1 ⟨rfl,hw1⟩;rw[hw1];clear hw1 w1;go_upto_region 3 with fail;go_wp2_with (first
  |(refine zL p3 N0.out ?_))
 refine(Z0L n sa sc w0 RS.out hst).mono ?_;rintro e w2 ⟨ta,tc,rfl,ho,b2⟩;have N2:=zH (Z7 b2 N0.out);have Z2:=zH (Z7 b2 Z0.out);have B2:=zH (B0.out.trans (b2.mono B0.out.size));have O2:=zH (Zx ho B0.out.size);clear ho b2 N0 Z0 RS;have oneN:=Zm n ta tc;go_upto_region 4 with (refine zN p3 (Z5 n ta tc) N2.out ?_);clear oneN;have N3:=zH (Yz w2 p3 _ (Z5 n ta tc) _ _ N2.out);have S3:=zH (UT w2 p3 (Z5 n ta tc));generalize w2.setRow p3 (Z5 n ta tc)=w3 at *;have DA:Hid (zo w w3 p3 p4 n ta tc):=zH ⟨S3.out.below B2.out B2.out.size (fun q hq=>by rw[show q=p3 from hq];exact GE0.out.1),N3.out,(S3.out.block p4 (Zk Z2.out) (fun e=>by have:=GE0.out;omega)).trans Z2.out,Ze O2.out S3.out (fun b hb e=>Zo O2.out N2.out (by intro cur;simp) (by rw[hb,show b=p3 from e])),GE0.out⟩;clear N2 Z2 O2 N3 S3 B2 GE0 hst;refine zp ((HH.out.below DA.out.bel).blk) fun hh=>?_;have DB:=zH (DA.out.below ((zd w3)));generalize w3.drew=V0 at *;clear DA;refine zw 0 rfl p 0 ?_;refine zw 1 rfl p 0 ?_;refine zw 2 rfl p 3 ?_;refine zS 3 rfl (.int .i64 (k:Int)) (fun W h=>by have hc:=Z6 h 3 (.int .i64 (k:Int)) (by rw[HK.out];rfl);go_simp) ?_;refine zw 4 rfl p 0 ?_;refine zw 5 rfl p 0 ?_;refine zw 6 rfl p 0 ?_;refine zw 7 rfl p 3 ?_;refine zS 8 rfl (.int .i64 (k:Int)) (fun W h=>by have hc:=Z6 h 3 (.int .i64 (k:Int)) (by rw[HK.out];rfl);go_simp) ?_;refine zw 9 rfl p 0 ?_;refine zw 10 rfl p 5 ?_;refine zS 11 rfl (.pointer (some ⟨p,5+k,none⟩)) (fun W h=>by have hc:=Z6B (W:=W) (p:=p) (k:=k) (by have:=HK8.out;omega);go_simp) ?_;refine zS 12 rfl (.int .i64 (S.c (k:Int):Int)) (fun W h=>by have hc:=Z6 h (5+k) (.int .i64 (S.c (k:Int):Int)) (Z4u _ _ _ _ _ k HK8.out);go_simp) ?_;refine zS 13 rfl (.int .i64 ((S.c (k:Int):Int)+1)) (fun W h=>by have hcb:IntKind.i64.wrap ((S.c (k:Int):Int)+1)=(S.c (k:Int):Int)+1:=(by have h9:=CB.out;rw[IntKind.wrap_i64];omega);go_simp) ?_;refine zw 14 rfl p3 0 ?_;refine zR 15 rfl fun K hK=>?_;have hc:=Z6 DB.out.n 0 _ rfl;have hfz:=Zq DB.out.n 0
 have DE:Hid (zo w (V0.setCell ⟨p3,0,none⟩ (.int .i64 (k:Int))) p3 p4 { n with house:=(k:Int) } ta tc):=zH (DB.out.set (Zb.of_grown (Zn _ p3 0 _) (fun q e=>by cases e;rfl)) (by have h1:=ZM DB.out.n 0 (.int .i64 (k:Int));exact h1) rfl);have HP1:=zH ((HH.out.below DE.out.bel).blk);go_simp;clear hc hfz hh;refine zK hK HP1.out fun hh=>?_;clear hK K;refine zw 16 rfl p3 1 ?_;refine zR 17 rfl fun K hK=>?_;have hc:=Z6 DE.out.n 1 _ rfl;have hfz:=Zq DE.out.n 1;have DF:Hid (zo w ((V0.setCell ⟨p3,0,none⟩ (.int .i64 (k:Int))).setCell ⟨p3,1,none⟩ (.int .i64 ((S.c (k:Int):Int)+1))) p3 p4 { n with house:=(k:Int),num:=(S.c (k:Int):Int)+1 } ta tc):=zH (DE.out.set (Zb.of_grown (Zn _ p3 1 _) (fun q e=>by cases e;rfl)) (by have h1:=ZM DE.out.n 1 (.int .i64 ((S.c (k:Int):Int)+1));exact h1) rfl);have HP2:=zH ((HH.out.below DF.out.bel).blk);go_simp;clear hc hfz hh;refine zK hK HP2.out fun hh=>?_;clear hK K;refine zw 18 rfl p3 2 ?_;refine zR 19 rfl fun K hK=>?_;have hc:=Z6 DF.out.n 2 _ rfl;have hfz:=Zq DF.out.n 2;have DG:Hid (zo w (((V0.setCell ⟨p3,0,none⟩ (.int .i64 (k:Int))).setCell ⟨p3,1,none⟩ (.int .i64 ((S.c (k:Int):Int)+1))).setCell ⟨p3,2,none⟩ (.int .i64 1)) p3 p4 { n with house:=(k:Int),num:=(S.c (k:Int):Int)+1,clock:=1 } ta tc):=zH (DF.out.set (Zb.of_grown (Zn _ p3 2 _) (fun q e=>by cases e;rfl)) (by have h1:=ZM DF.out.n 2 (.int .i64 1);exact h1) rfl);have HP3:=zH ((HH.out.below DG.out.bel).blk);go_simp;clear hc hfz hh;refine zK hK HP3.out fun hh=>?_;clear hK K;refine zE ?_;clear HP1 HP2 HP3 DB DE DF hh;have DA:Hid (zo w (((V0.setCell ⟨p3,0,none⟩ (.int .i64 (k:Int))).setCell ⟨p3,1,none⟩ (.int .i64 ((S.c (k:Int):Int)+1))).setCell ⟨p3,2,none⟩ (.int .i64 1)) p3 p4 (doC S n 1) ta tc):=zH (by
  have h:=DG.out;unfold doC;rw[HK.out];exact h)
 clear DG;generalize ((V0.setCell ⟨p3,0,none⟩ (.int .i64 (k:Int))).setCell ⟨p3,1,none⟩ (.int .i64 ((S.c (k:Int):Int)+1))).setCell ⟨p3,2,none⟩ (.int .i64 1)=w4 at *;have c4:=Z6 (HH.out.below DA.out.bel).blk 4 (.map (some mb)) rfl;go_wp2_with (first
  |(at_range;refine Xx _ rfl _ 106 47 rfl Tryz.underlying106 mb S.l.length rfl (HH.out.below DA.out.bel).map ?_;intro w5 cnt0 hrg0 hg0 hs0)
  | fail)
 go_frame;have DA5:=zH (DA.out.below (Z5f hg0));obtain⟨r,hr⟩:=zX (w4.heap.size);have RNG:=zH hrg0;have RGE:Hid (p4 < r):=zH (by have:=Zk DA.out.z;have:=hr.out;omega);rw[hr.out]at RNG;rw[hr.out];clear hrg0 hg0 hs0 c4;go_loopw [39] (fun _ wr=>∃(ks:List Nm) (cnt:Nat) (c:Int),Hid (Y8 LN.val wr mb r S.l.length G ks cnt)/\Hid (zo w wr p3 p4 (doC S n c) ta tc)/\Hid (QN ((ks.filterMap G).map LN.n) c)) (fun _ wr=>wr.rangeLeft mb r)
 case atStart=>exact⟨[],cnt0,1,RNG,DA5,zH QN.nil⟩
 case round=>
  obtain⟨ks,cnt,c,HR,DR,HC⟩:=hrel;clear RNG DA5 DA;go_upto_region 7 with (first
   |(at_next;refine XV wr rfl _ rfl mb r S.l.length cnt ks rfl HR.out ?_ ?_)
   | fail)
  ·intro hall;have HALL:=zH hall;clear hall;have CK:Hid (c=Z6J S.l):=zH (HC.out.uniq ((Z9y S.l).mem fun x=>by
    constructor
    ·intro hx;obtain⟨y,hy,rfl⟩:=List.mem_map.1 hx;obtain⟨q,_,hq⟩:=List.mem_filterMap.1 hy;exact(HH.out.gs q y hq).1
    ·intro hx;obtain⟨y,hy,rfl⟩:=HH.out.gl x hx;exact List.mem_map_of_mem (List.mem_filterMap.2 ⟨_,HALL.out _ (by rw[hy];rfl),hy⟩)))
   have DA:Hid (zo w wr p3 p4 (doN S n) ta tc):=zH (by have h:=DR.out;rw[CK.out]at h;exact h);have CK2:Hid (Z6J S.l<=1099511627777):=zH (by
    rcases(Z9y S.l).2.2 with h | ⟨x,hx,h⟩
    ·omega
    ·have:=VM (HI.out.frm x hx);omega)
   clear HR DR HC HALL CK;have c4:=Z6 (HH.out.below DA.out.bel).blk 4 (.map (some mb)) rfl;have cn:=Z6 DA.out.n 2 (.int .i64 (Z6J S.l)) rfl;by_cases hck:1099511627776 < Z6J S.l
   ·have HD:=zH (show UH S n=(S,Zh,2)by unfold UH;rw[if_pos (.inr hck)]);have t1:decide (1099511627776 < Z6J S.l)=true:=by simp[hck]
    clear hck;go_wp2_with (first
     |(at_len;refine JU rfl _ 106 47 rfl Tryz.underlying106 mb S.l.length rfl (HH.out.below DA.out.bel).map ?_;intro kk hkk;have tkk:decide ((400:Int)<=(kk:Int))=false:=(by have:=HLEN.out;simp;omega))
     |(refine zN p4 (Z5 Zh none 0) DA.out.z ?_))
    refine zr (Yz _ p4 _ _ _ _ DA.out.z) ?_;exact Z30.no HD.out rfl HH.out (DA.out.done (UT _ p4 _)).1
   ·have t1:decide (1099511627776 < Z6J S.l)=false:=by simp;omega
    have CK3:=zH hck;clear hck;go_upto_region 11 with (first
      |(at_len;refine JU rfl _ 106 47 rfl Tryz.underlying106 mb S.l.length rfl (HH.out.below DA.out.bel).map ?_;intro kk hkk;have tkk:decide ((400:Int)<=(kk:Int))=false:=(by have:=HLEN.out;simp;omega))
      | fail)
    clear t1 tkk hkk c4 cn;have CN:=zH (fun W (hb:Below wr.heap.size wr W)=>UJ S.f (doN S n) ta tc W (Y3.of_own (Zd DA.out.own hb)));have hvl:S.f.val = .agg #[.int .i64 S.f.rings,.int .i64 S.f.sectors,.int .i64 S.f.wide]:=rfl;rw[hvl]at CN;clear hvl;obtain⟨z,hz⟩:=zX (ZX S.f (doN S n));rw[hz.out]at CN;have hC0:Below wr.heap.size wr wr.drew:=(Below.refl _ _).drew;have LH:=zH (show ∀w0,Below wr.heap.size wr w0->w0.heap[p]? = some (.cells (XE S.f S.id mb S.c sp) 109)from fun w0 h=>(HH.out.below (DA.out.below h).bel).blk);have LN3:=zH (show ∀w0,Below wr.heap.size wr w0->w0.heap[p3]? = some (.cells (Z5 (doN S n) ta tc) 47)from fun w0 h=>(DA.out.below h).n);try simp only[Act.put,lq3,lq4,lq5]
    refine zC (fun w':World=>Below wr.heap.size wr w') hC0 ?_;go_big_quiet_step (fail);refine zv p 0 ?_;refine zv p 0 ?_;refine zQ (.agg #[.int .i64 S.f.rings,.int .i64 S.f.sectors,.int .i64 S.f.wide]) (fun w0 hC=>?_) ?_
    ·have c0:=Z6 (LH.out w0 hC) 0 (.int .i64 S.f.rings) rfl;have c1:=Z6 (LH.out w0 hC) 1 (.int .i64 S.f.sectors) rfl;have c2:=Z6 (LH.out w0 hC) 2 (.int .i64 S.f.wide) rfl;clear hC;go_simp
    refine zQ (.agg (Z5 (doN S n) ta tc)) (fun w0 hC=>ZF (.tmp 3) rfl p3 rfl (doN S n) ta tc (LN3.out w0 hC)) ?_;refine zQ (.int .i64 z) (fun w0 hC=>?_) ?_
    ·go_simp;refine(CN.out w0 hC).mono ?_;rintro e w1 ⟨rfl,b1⟩;exact⟨rfl,hC.trans (b1.mono hC.size)⟩
    refine zV (.bool (z != 0)) ?_;refine wpQuiet_nil ?_;intro w' hC;replace DA:=zH (DA.out.below hC);clear hC LH LN3 CN hC0;generalize hwr:wr=wold at *;clear hwr;generalize w'=wr at *;by_cases hz0:z=0
    case neg=>
     have HD:=zH (show UH S n=(S,Zh,80)by unfold UH;rw[if_neg (by have:=HLEN.out;have:=CK3.out;omega),if_pos (by rw[hz.out];exact hz0)]);have t1:(z != 0)=true:=by simp[hz0]
     clear hz0;go_wp2_with (first
      |(refine zN p4 (Z5 Zh none 0) DA.out.z ?_))
     refine zr (Yz _ p4 _ _ _ _ DA.out.z) ?_;exact Z30.no HD.out rfl HH.out (DA.out.done (UT _ p4 _)).1
    rw[hz0];have CZ:Hid (ZX S.f (doN S n)=0):=zH (hz.out.trans hz0);clear hz hz0;have FM:Hid (Zg S.f (doN S n)=true):=zH (by
     have h:=CZ.out;unfold ZX at h;rw[if_pos HI.out.v]at h;by_cases h2:Zg S.f (doN S n)=true
     ·exact h2
     ·rw[if_neg h2]at h;cases h)
    have MOK:=zH (Zco HOK.out FM.out);have HNUM:Hid ((doN S n).num=(S.c (doN S n).house:Int)+1):=zH rfl;have HADD:=zH (HI.out.add FM.out MOK.out HNUM.out);have NOK:Hid (VI ((doN S n).house,(doN S n).num)):=zH ⟨MOK.out.house,MOK.out.num⟩;have KIND:Hid ((doN S n).kind=n.kind):=zH rfl;obtain⟨m,hm⟩:=zX (doN S n);rw[hm.out]at DA FM MOK HNUM HADD NOK KIND;have c4:=Z6 (HH.out.below DA.out.bel).blk 4 (.map (some mb)) rfl;go_wp2_with fail;refine(UG mb S.l.length G wr (HH.out.below DA.out.bel).map).mono ?_;rintro e w14 ⟨rfl,hmk,bk⟩;have MK:=zH hmk;have KGE:Hid (p4 < wr.heap.size):=zH (Zk DA.out.z);replace DA:=zH (DA.out.below bk);clear bk hmk c4;obtain⟨kb,hkb⟩:=zX (wr.heap.size);rw[hkb.out]at MK KGE;rw[hkb.out];go_upto_region 14 with fail;refine zp DA.out.n fun hh=>?_;replace DA:=zH (DA.out.below ((zd w14)));replace MK:=zH (MK.out.below ((zd w14)));generalize w14.drew=V at *;refine zW 0 rfl (.map (some kb)) ?_;refine zT 1 rfl (.agg (Z5 m ta tc)) (zY p3 fun W h=>h) ?_;refine zT 3 rfl (.agg (Z5 m ta tc)) (zY p3 fun W h=>h) ?_;refine zR 2 rfl fun K hK=>?_;go_simp;go_at_call 58;refine(Vk m ta tc V).mono ?_;rintro e V' ⟨rfl,bb⟩;replace DA:=zH (DA.out.below bb);replace MK:=zH (MK.out.below bb);clear bb hh;dsimp only;generalize hVo:V=Vo at *;clear hVo;generalize V'=V at *;refine zK hK DA.out.n fun hh=>?_;clear hK K;refine zR 4 rfl fun K hK=>?_;obtain⟨V',hrun,hm3,ht3⟩:=Ql (t:=106) MK.out (by have:=HLEN.out;unfold maxLen;omega) Tryz.underlying106 m.house m.num NOK.out (⟨m,ta,tc⟩:LN);have DA2:Hid (zo w V' p3 p4 m ta tc):=zH (by
     obtain⟨es,cl,hb⟩:=MK.out.blk;exact DA.out.other (Zb.of_grown (S:=fun q=>q=kb) ht3.grown (fun q e=>by cases e;rfl)) KGE.out hb (by intro cur;simp))
    have MK2:Hid (ZZ LN.val V' kb (S.l.length+1) (YH G (Zi m) ⟨m,ta,tc⟩)):=zH hm3;clear hm3 ht3 hh;unfold LN.val at hrun;go_simp;clear hrun DA MK;generalize hVo:V=Vo at *;clear hVo;generalize V'=V at *;refine zK hK DA2.out.n fun hh=>?_;clear hK K;refine zE ?_;clear hh;have GOK2:Hid (GOk (YH G (Zi m) ⟨m,ta,tc⟩) V):=zH (fun q x hx=>by
     unfold YH at hx;split at hx
     ·rename_i e;cases hx;exact⟨Y3.of_own DA2.out.own,by rw[e];exact NOK.out,Nat.le_trans (Xq HI.out.v FM.out) (by decide)⟩
     ·exact((HH.out.gok HI.out).below DA2.out.bel) q x hx)
    obtain⟨G2,hG2⟩:=zX (YH G (Zi m) ⟨m,ta,tc⟩);rw[hG2.out]at MK2 GOK2;have LST:Hid (∀ks,Xt G2 ks->ks.Pairwise (fun x y=>J0 x y=true)->(ks.filterMap G2).map LN.n=Xw S.l m):=zH (by
     rw[<-hG2.out];exact fun ks h1 h2=>ZcZ (ZdE (x:=⟨m,ta,tc⟩) HH.out.gs) (ZdF (x:=⟨m,ta,tc⟩) HH.out.gl HADD.out.2) HADD.out.1.srt h1 h2)
    have IOK:Hid (∀x∈Xw S.l m,x.Ok):=zH HADD.out.1.ok;go_upto_region 15 with fail;apply Zfb (P:=fun(xa:zA) (xn xc:Nat) (v:Value) (p9:Nat) (W:World)=>Hid (zo w W p3 p4 m ta tc /\ ∃va vb ca cn cc,v = .agg #[va,vb,.slice ca cn cc]/\W.heap[p9]? = some (.cells #[va,vb,.slice ca cn cc] 77)/\Y3 W 2 ca cn cc (ZC (Z7j S.f (Xw S.l m) (Xw S.l m) 99999).2.2)))
    ·intro REST;refine zp ((HH.out.below DA2.out.bel).blk) fun hh=>?_;replace DA2:=zH (DA2.out.below ((zd V)));replace MK2:=zH (MK2.out.below ((zd V)));replace GOK2:=zH (GOK2.out.below ((zd V)));generalize V.drew=U at *;refine zw 0 rfl p 0 ?_;refine zw 1 rfl p 0 ?_;refine zw 2 rfl p 0 ?_;refine zS 3 rfl (.agg #[.int .i64 S.f.rings,.int .i64 S.f.sectors,.int .i64 S.f.wide]) (fun W h=>by have h0:=Z6 h 0 (.int .i64 S.f.rings) rfl;have h1:=Z6 h 1 (.int .i64 S.f.sectors) rfl;have h2:=Z6 h 2 (.int .i64 S.f.wide) rfl;go_simp) ?_;refine zW 4 rfl (.map (some kb)) ?_;refine zM [5,10] rfl (fun K hK=>?_) ?_
     focus
      go_simp;go_at_call 61;refine(Z0B kb (S.l.length+1) G2 U MK2.out (by have:=HLEN.out;omega) GOK2.out).mono ?_;rintro e U' ⟨⟨xa,xn,xc,zs,ks,rfl,h1,h2,h3,h4,h5,h6⟩,bb⟩;have RX:Hid (Qs U' xa xn xc (Xw S.l m)):=zH (by have h7:=h1.rd;rwa [h2,LST.out ks h3 h4]at h7);replace DA2:=zH (DA2.out.below bb);replace MK2:=zH (MK2.out.below bb);replace GOK2:=zH (GOK2.out.below bb);clear h1 h2 h3 h4 h5 h6 bb hh;dsimp only;generalize hVo:U=Uo at *;clear hVo;generalize U'=U at *;refine zK hK (HH.out.below DA2.out.bel).blk fun hh=>?_;clear hK K;refine zM [6,10] rfl (fun K hK=>?_) ?_
      ·go_simp;go_at_call 34;refine(Z7W S.f xa xn xc (Xw S.l m) U RX.out IOK.out).mono ?_;rintro e U' ⟨v,rfl,h1,bb⟩;have RV:=zH h1;replace DA2:=zH (DA2.out.below bb);replace MK2:=zH (MK2.out.below bb);replace GOK2:=zH (GOK2.out.below bb);replace RX:=zH (RX.out.below bb);clear h1 bb hh;dsimp only;generalize hVo:U=Uo at *;clear hVo;generalize U'=U at *;refine zK hK (HH.out.below DA2.out.bel).blk fun hh=>?_;clear hK K;refine zW 7 rfl (.tuple #[v,.int .i64 (Z6H S.f (Xw S.l m))]) ?_;refine zW 8 rfl v ?_;refine zW 9 rfl (.int .i64 (Z6H S.f (Xw S.l m))) ?_;refine zR 10 rfl fun K hK=>?_;have bb:Below U.heap.size U (U.alloc (.cells #[.slice none 0 0,.slice none 0 0,.slice none 0 0] 77)):=zB _ _;have P9:=zH (Za U (.cells #[.slice none 0 0,.slice none 0 0,.slice none 0 0] 77));have GE9:Hid (p4 < U.heap.size):=zH (Zk DA2.out.z);replace DA2:=zH (DA2.out.below bb);replace MK2:=zH (MK2.out.below bb);replace GOK2:=zH (GOK2.out.below bb);replace RV:=zH (RV.out.below bb);clear bb hh;go_simp;obtain⟨p9,hp9⟩:=zX (U.heap.size);rw[hp9.out]at P9 GE9 ⊢;generalize hVo:U.alloc (.cells #[.slice none 0 0,.slice none 0 0,.slice none 0 0] 77)=U' at *;clear hVo hp9;generalize hVo:U=Uo at *;clear hVo;generalize U'=U at *;refine zK hK (HH.out.below DA2.out.bel).blk fun hh=>?_;clear hK K;refine zR 11 rfl fun K hK=>?_;obtain⟨ha,hn,hc,ea,en,ec,ca,cn,cc,hs,es,hv,_,_,h3,_⟩:=id RV.out;refine ZT 77 _ _ rfl p9 #[.slice none 0 0,.slice none 0 0,.slice none 0 0] #[.slice ha hn hc,.slice ea en ec,.slice ca cn cc] 77 rfl hv P9.out (by kernel_rfl) rfl (by simp[Value.oneCell']) ?_;intro U' q1 q2 q3;have S9:Hid (Zb (fun q=>q=p9) U U'):=zH (Zb.of_grown q2 (fun q e=>by cases e;rfl));have RC:Hid (Y3 U' 2 ca cn cc (ZC (Z7j S.f (Xw S.l m) (Xw S.l m) 99999).2.2)):=zH (Z9m h3 S9.out P9.out (fun u hu=>by
        rw[ZC,List.mem_flatMap]at hu;obtain⟨x,_,h⟩:=hu;simp only[List.mem_cons,List.not_mem_nil,or_false]at h;rcases h with rfl | rfl <;> exact⟨_,rfl⟩) (fun u hu x=>by
        simp only[List.mem_cons,List.not_mem_nil,or_false]at hu;rcases hu with rfl | rfl | rfl <;> simp))
       replace DA2:=zH (DA2.out.other S9.out GE9.out P9.out (by intro cur;simp));have HV:=zH hv;have Q1:=zH q1;clear q1 q2 q3 h3 hv P9 RV MK2 GOK2 S9 hh;generalize hVo:U=Uo at *;clear hVo;generalize U'=U at *;refine zK hK (HH.out.below DA2.out.bel).blk fun hh=>?_;clear hK K;refine zW 12 rfl (.int .i64 (Z6H S.f (Xw S.l m))) ?_;refine zE ?_;exact REST xa xn xc v p9 U (zH ⟨DA2.out,_,_,ca,cn,cc,HV.out,Q1.out,RC.out⟩)
      refine zn fun K hK=>?_;have bb:Below U.heap.size U (U.alloc (.cells #[.slice none 0 0,.slice none 0 0,.slice none 0 0] 77)):=zB _ _;have P9:=zH (Za U (.cells #[.slice none 0 0,.slice none 0 0,.slice none 0 0] 77));have GE9:Hid (p4 < U.heap.size):=zH (Zk DA2.out.z);replace DA2:=zH (DA2.out.below bb);replace MK2:=zH (MK2.out.below bb);replace GOK2:=zH (GOK2.out.below bb);replace RX:=zH (RX.out.below bb);clear bb hh;go_simp;obtain⟨p9,hp9⟩:=zX (U.heap.size);rw[hp9.out]at P9 GE9 ⊢;generalize hVo:U.alloc (.cells #[.slice none 0 0,.slice none 0 0,.slice none 0 0] 77)=U' at *;clear hVo hp9
     rotate_left
     focus
      refine zn fun K hK=>?_;have bb:Below U.heap.size U (U.alloc (.cells #[.slice none 0 0,.slice none 0 0,.slice none 0 0] 77)):=zB _ _;have P9:=zH (Za U (.cells #[.slice none 0 0,.slice none 0 0,.slice none 0 0] 77));have GE9:Hid (p4 < U.heap.size):=zH (Zk DA2.out.z);replace DA2:=zH (DA2.out.below bb);replace MK2:=zH (MK2.out.below bb);replace GOK2:=zH (GOK2.out.below bb);clear bb hh;go_simp;obtain⟨p9,hp9⟩:=zX (U.heap.size);rw[hp9.out]at P9 GE9 ⊢;generalize hVo:U.alloc (.cells #[.slice none 0 0,.slice none 0 0,.slice none 0 0] 77)=U' at *;clear hVo hp9;generalize hVo:U=Uo at *;clear hVo;generalize U'=U at *;refine zK hK (HH.out.below DA2.out.bel).blk fun hh=>?_;clear hK K;refine zR 5 rfl fun K hK=>?_;go_simp;go_at_call 61;refine(Z0B kb (S.l.length+1) G2 U MK2.out (by have:=HLEN.out;omega) GOK2.out).mono ?_;rintro e U' ⟨⟨xa,xn,xc,zs,ks,rfl,h1,h2,h3,h4,h5,h6⟩,bb⟩;have RX:Hid (Qs U' xa xn xc (Xw S.l m)):=zH (by have h7:=h1.rd;rwa [h2,LST.out ks h3 h4]at h7);replace DA2:=zH (DA2.out.below bb);replace MK2:=zH (MK2.out.below bb);replace GOK2:=zH (GOK2.out.below bb);replace P9:=zH (Z7 bb P9.out);clear h1 h2 h3 h4 h5 h6 bb hh;dsimp only
     all_goals
      generalize hVo:U=Uo at *;clear hVo;generalize U'=U at *;refine zK hK (HH.out.below DA2.out.bel).blk fun hh=>?_;clear hK K;refine zR 6 rfl fun K hK=>?_;go_simp;go_at_call 34;refine(Z7W S.f xa xn xc (Xw S.l m) U RX.out IOK.out).mono ?_;rintro e U' ⟨v,rfl,h1,bb⟩;have RV:=zH h1;replace DA2:=zH (DA2.out.below bb);replace MK2:=zH (MK2.out.below bb);replace GOK2:=zH (GOK2.out.below bb);replace P9:=zH (Z7 bb P9.out);replace RX:=zH (RX.out.below bb);clear h1 bb hh;dsimp only;generalize hVo:U=Uo at *;clear hVo;generalize U'=U at *;refine zK hK (HH.out.below DA2.out.bel).blk fun hh=>?_;clear hK K;refine zW 7 rfl (.tuple #[v,.int .i64 (Z6H S.f (Xw S.l m))]) ?_;refine zW 8 rfl v ?_;refine zW 9 rfl (.int .i64 (Z6H S.f (Xw S.l m))) ?_;refine zR 11 rfl fun K hK=>?_;obtain⟨ha,hn,hc,ea,en,ec,ca,cn,cc,hs,es,hv,_,_,h3,_⟩:=id RV.out;refine ZT 77 _ _ rfl p9 #[.slice none 0 0,.slice none 0 0,.slice none 0 0] #[.slice ha hn hc,.slice ea en ec,.slice ca cn cc] 77 rfl hv P9.out (by kernel_rfl) rfl (by simp[Value.oneCell']) ?_;intro U' q1 q2 q3;have S9:Hid (Zb (fun q=>q=p9) U U'):=zH (Zb.of_grown q2 (fun q e=>by cases e;rfl));have RC:Hid (Y3 U' 2 ca cn cc (ZC (Z7j S.f (Xw S.l m) (Xw S.l m) 99999).2.2)):=zH (Z9m h3 S9.out P9.out (fun u hu=>by
       rw[ZC,List.mem_flatMap]at hu;obtain⟨x,_,h⟩:=hu;simp only[List.mem_cons,List.not_mem_nil,or_false]at h;rcases h with rfl | rfl <;> exact⟨_,rfl⟩) (fun u hu x=>by
       simp only[List.mem_cons,List.not_mem_nil,or_false]at hu;rcases hu with rfl | rfl | rfl <;> simp))
      replace DA2:=zH (DA2.out.other S9.out GE9.out P9.out (by intro cur;simp));have HV:=zH hv;have Q1:=zH q1;clear q1 q2 q3 h3 hv P9 RV MK2 GOK2 S9 hh;generalize hVo:U=Uo at *;clear hVo;generalize U'=U at *;refine zK hK (HH.out.below DA2.out.bel).blk fun hh=>?_;clear hK K;refine zW 12 rfl (.int .i64 (Z6H S.f (Xw S.l m))) ?_;refine zE ?_;exact REST xa xn xc v p9 U (zH ⟨DA2.out,_,_,ca,cn,cc,HV.out,Q1.out,RC.out⟩)
    intro xa xn xc v p9 W9 QQ;clear DA2 MK2 GOK2 LST IOK hG2;obtain⟨DA,va,vb,ca,cn,cc,hv,hp9,hrc⟩:=QQ.out;replace DA:=zH DA;have P9:=zH hp9;have RC:=zH hrc;clear QQ hp9 hrc hv;obtain⟨cf,hcf⟩:=zX ((Z7j S.f (Xw S.l m) (Xw S.l m) 99999).2.2);rw[hcf.out]at RC;have DP:Hid (UH S n=if (n.kind≠5/\n.kind≠6)/\Zi m∈cf then (S,Zh,91)else (S.add m,m,0)):=zH (by
     unfold UH;rw[if_neg (by have:=HLEN.out;have:=CK3.out;omega),if_neg (by rw[CZ.out];decide),hm.out,hcf.out])
    clear CZ hcf hm CK3;have ck:=Z6 DA.out.n 4 (.int .i64 n.kind) (by rw[<-KIND.out];rfl);have c9:=Z6 P9.out 2 (.slice ca cn cc) rfl;have hmf : ∀(fn:Fn) (first cap:Y6) (w:World),(Instr.makeFunc fn first cap).run zq w = .ok (.func fn first cap) w:=fun _ _ _ _=>rfl;by_cases hk5:n.kind=5
    focus
     have q1:(n.kind != 5)=false:=by simp[hk5]
     have DP2:=zH (show UH S n=(S.add m,m,0)by rw[DP.out,if_neg (fun h=>h.1.1 hk5)]);clear hk5 DP;go_upto_region 18 with fail;clear q1 ck c9 hmf
    rotate_left
    focus
     by_cases hk6:n.kind=6
     ·have q1:(n.kind != 5)=true:=by simp[hk5]
      have q2:(n.kind != 6)=false:=by simp[hk6]
      have DP2:=zH (show UH S n=(S.add m,m,0)by rw[DP.out,if_neg (fun h=>h.1.2 hk6)]);clear hk5 hk6 DP;go_upto_region 18 with fail;clear q1 q2 ck c9 hmf;go_wp2_with (first
       |(refine zL p3 DA.out.n ?_))
      refine(Z4w p mb sp G SF S m ta tc _ (HH.out.below DA.out.bel) HI.out (fun W hs=>Y3.of_own (Ze DA.out.own hs (fun b hb h=>by have h1:=HLT.out b h;have h2:=(DA.out.own.lt b hb).1;omega))) FM.out MOK.out HNUM.out (Nat.le_of_lt HLEN.out)).mono ?_;rintro e Y2 ⟨rfl,ta2,tc2,SF',h1,h2,h3⟩;have GB:=zH DA.out.bel;have GE:=zH DA.out.ge;have ZL:=zH (Zk DA.out.z);have NH:Hid (∀q,w.heap.size<=q -> ¬Yl p mb G SF q):=zH (fun q hq h=>by have:=HLT.out q h;omega);have N2:=zH ((h2.block p3 (Zk DA.out.n) (NH.out p3 GE.out.1)).trans DA.out.n);have Z2:=zH ((h2.block p4 (Zk DA.out.z) (NH.out p4 (by have:=GE.out;omega))).trans DA.out.z);have O2:=zH (Ze DA.out.own h2 (fun b hb h=>NH.out b (DA.out.own.lt b hb).1 h));have H2:=zH h1;have S2:=zH h2;have F2:=zH h3;clear h1 h2 h3;have oneM:=Zm m ta tc;go_wp2_with (first
       |(refine zL p3 N2.out ?_)
       |(refine zN p4 (Z5 m ta tc) Z2.out ?_))
      refine zr (Yz _ p4 _ _ _ _ Z2.out) ?_;have S3:=UT Y2 p4 (Z5 m ta tc);have P4G:w.heap.size<=p4:=by have:=GE.out;omega
      refine⟨⟨ta,tc,by rw[DP2.out] <;> rfl,by rw[DP2.out];exact Ze O2.out S3 (fun b hb e=>Zo O2.out Z2.out (by intro cur;simp) (by rw[hb,show b=p4 from e]))⟩,_,SF',by
       rw[DP2.out];exact H2.out.same S3 (fun q hq h=>by
        rw[show q=p4 from hq]at h;rcases F2.out p4 h with h5 | h5
        ·exact NH.out p4 P4G h5
        ·have:=ZL.out;omega),Xl ((Zb.of_below GB.out).trans S2.out) S3 (fun q hq=>.inr (by rw[show q=p4 from hq];exact P4G)),fun q hq=>(F2.out q hq).imp id (fun h=>Nat.le_trans GB.out.size h)⟩
     have q1:(n.kind != 5)=true:=by simp[hk5]
     have q2:(n.kind != 6)=true:=by simp[hk6]
     go_wp2_with fail;refine(Z5c cf (fun x=>decide (x=Zi m)) 73 (.pointer (some ⟨p3,0,none⟩)) Ze3 ca cn cc W9 RC.out (fun x _ W hb=>Zdd p3 m ta tc x W (DA.out.below hb).n)).mono ?_;rintro e X1 ⟨rfl,bb⟩;replace DA:=zH (DA.out.below bb);clear q1 q2 ck c9 hmf bb P9 RC;cases han:cf.any (fun x=>decide (x=Zi m))
     case true=>
      have HD:=zH (show UH S n=(S,Zh,91)by
       have hmem:Zi m∈cf:=by
        obtain⟨x,hx,h⟩:=List.any_eq_true.1 han;rw[<-of_decide_eq_true h];exact hx
       rw[DP.out,if_pos ⟨⟨hk5,hk6⟩,hmem⟩])
      clear han hk5 hk6 DP;go_wp2_with (first
       |(refine zN p4 (Z5 Zh none 0) DA.out.z ?_))
      refine zr (Yz _ p4 _ _ _ _ DA.out.z) ?_;exact Z30.no HD.out rfl HH.out (DA.out.done (UT _ p4 _)).1
     have DP2:=zH (show UH S n=(S.add m,m,0)by
      rw[DP.out,if_neg (fun h=>by
       have h1:=List.any_eq_false.1 han _ h.2;simp at h1)])
     clear han hk5 hk6 DP;go_upto_region 18 with fail
    all_goals
     go_wp2_with (first
      |(refine zL p3 DA.out.n ?_))
     refine(Z4w p mb sp G SF S m ta tc _ (HH.out.below DA.out.bel) HI.out (fun W hs=>Y3.of_own (Ze DA.out.own hs (fun b hb h=>by have h1:=HLT.out b h;have h2:=(DA.out.own.lt b hb).1;omega))) FM.out MOK.out HNUM.out (Nat.le_of_lt HLEN.out)).mono ?_;rintro e Y2 ⟨rfl,ta2,tc2,SF',h1,h2,h3⟩;have GB:=zH DA.out.bel;have GE:=zH DA.out.ge;have ZL:=zH (Zk DA.out.z);have NH:Hid (∀q,w.heap.size<=q -> ¬Yl p mb G SF q):=zH (fun q hq h=>by have:=HLT.out q h;omega);have N2:=zH ((h2.block p3 (Zk DA.out.n) (NH.out p3 GE.out.1)).trans DA.out.n);have Z2:=zH ((h2.block p4 (Zk DA.out.z) (NH.out p4 (by have:=GE.out;omega))).trans DA.out.z);have O2:=zH (Ze DA.out.own h2 (fun b hb h=>NH.out b (DA.out.own.lt b hb).1 h));have H2:=zH h1;have S2:=zH h2;have F2:=zH h3;clear h1 h2 h3;have oneM:=Zm m ta tc;go_wp2_with (first
      |(refine zL p3 N2.out ?_)
      |(refine zN p4 (Z5 m ta tc) Z2.out ?_))
     refine zr (Yz _ p4 _ _ _ _ Z2.out) ?_;have S3:=UT Y2 p4 (Z5 m ta tc);have P4G:w.heap.size<=p4:=by have:=GE.out;omega
     refine⟨⟨ta,tc,by rw[DP2.out] <;> rfl,by rw[DP2.out];exact Ze O2.out S3 (fun b hb e=>Zo O2.out Z2.out (by intro cur;simp) (by rw[hb,show b=p4 from e]))⟩,_,SF',by
      rw[DP2.out];exact H2.out.same S3 (fun q hq h=>by
       rw[show q=p4 from hq]at h;rcases F2.out p4 h with h5 | h5
       ·exact NH.out p4 P4G h5
       ·have:=ZL.out;omega),Xl ((Zb.of_below GB.out).trans S2.out) S3 (fun q hq=>.inr (by rw[show q=p4 from hq];exact P4G)),fun q hq=>(F2.out q hq).imp id (fun h=>Nat.le_trans GB.out.size h)⟩
  ·intro kh km y w6 cnt1 HN hen;unfold LN.val at hen;have GY:Hid (G (kh,km)=some y):=zH HN.out.at_;have R6:=zH HN.out.range;have D6:=zH (by
    obtain⟨bb,since,seen,cc,hb⟩:=HR.out.blk;exact DR.out.other (Zb.of_grown (S:=fun q=>q=r) HN.out.grown (fun q e=>by cases e;rfl)) RGE.out hb (by intro cur;simp))
   have LT6:=zH HN.out.lt;have HC6:Hid (QN (((ks ++ [(kh,km)]).filterMap G).map LN.n) (Z4g c (y.n.clock+1))):=zH (by
    rw[List.filterMap_append,List.map_append,List.filterMap_cons_some GY.out,List.filterMap_nil];exact HC.out.snoc y.n)
   have YC:Hid (1<=y.n.clock/\y.n.clock<=1099511627776):=zH (VM (HI.out.frm _ (HH.out.gs _ y GY.out).1));clear HC DR;go_upto_region 8 with (first
    |(refine zP w6 w6.heap.size (Z5 y.n y.sa y.sc) ?_))
   have bt:Below w6.heap.size w6 (w6.alloc (.cells (Z5 y.n y.sa y.sc) 47)):=zB _ _;have P7:=zH (Za w6 (.cells (Z5 y.n y.sa y.sc) 47));have R7:=zH (R6.out.below bt);have D7:=zH (D6.out.below bt);obtain⟨p7,hp7⟩:=zX (w6.heap.size);rw[hp7.out]at P7;rw[hp7.out];generalize w6.alloc (.cells (Z5 y.n y.sa y.sc) 47)=w7 at *;clear bt hen R6 D6 HN;have cn:=Z6 D7.out.n 2 (.int .i64 c) rfl;have cfz:=Zq D7.out.n 2;have cy:=Z6 P7.out 2 (.int .i64 y.n.clock) rfl;have hw:wrap64 (y.n.clock+1)=y.n.clock+1:=by have h1:=YC.out;unfold wrap64;omega
   have D8:=zH (D7.out.set (m':=doC S n (Z4g c (y.n.clock+1))) (Zb.of_grown (Zn w7 p3 2 (.int .i64 (Z4g c (y.n.clock+1)))) (fun q e=>by cases e;rfl)) (by have h1:=ZM D7.out.n 2 (.int .i64 (Z4g c (y.n.clock+1)));exact h1) rfl);have R8:=zH (R7.out.of_blocks (w':=w7.setCell ⟨p3,2,none⟩ (.int .i64 (Z4g c (y.n.clock+1)))) (Below.heap_setCell _ _ _ _ (fun e=>by have:=HLT.out mb (.inr (.inl rfl));have:=D7.out.ge.1;have e2:mb=p3:=e;omega)) (Below.heap_setCell _ _ _ _ (fun e=>by have:=RGE.out;have:=D7.out.ge.2;have e2:r=p3:=e;omega)));clear R7 D7 P7;rw[ZcX]at D8 R8 HC6;go_wp2;go_roundw
   case rel=>exact⟨_,_,_,R8,D8,HC6⟩
   case measure=>rw[R8.out.left_eq,HR.out.left_eq];exact LT6.out
end
theorem Z9V {V:ZO}{a:Ji}{S:Zf}(h:YA V a.house=some S):VU V a=(JZ V a.house (if (UH S a.note).2.2=0/\((UH S a.note).2.1.kind=2\/(UH S a.note).2.1.kind=4)then (UH S a.note).1.sync else (UH S a.note).1),(UH S a.note).2.2):=by
 unfold VU;rw[h]
theorem Z23 {w w':World}{p mb sp:Nat}{G G':Nm->Option LN}{F SF SF':Nat->Prop}{S':Zf}(h0 : ∀k,F k↔Yl p mb G SF k)(h1:Yf w' p mb sp G' SF' S')(h2:Zb (Yl p mb G SF) w w')(h3 : ∀k,Yl p mb G' SF' k->Yl p mb G SF k\/w.heap.size<=k):Z2g UM w p F S' w':=
 ⟨Yl p mb G' SF',⟨mb,sp,G',SF',h1,fun k=>Iff.rfl⟩,h2.weaken (fun k hk=>(h0 k).2 hk),fun k hk=>(h3 k hk).imp (fun e=>(h0 k).2 e) id⟩
section
attribute [local go_sem] ZY YV Jd XU
theorem ZcQ (p:Nat)(F:Nat->Prop)(V:ZO)(a:Ji)(sa:zA)(sc:Nat)(S:Zf)(w:World)(h:VO w p F V)(hS:YA V a.house=some S)(hi:Xh S)(hs:Xs w sa a.note.strokes.length sc a.note.strokes)(hok:a.note.Ok)(hst:a.note.strokes.length<=1000000000)(hlen:S.l.length < 400):
  Calls zq 87 #[.pointer (some ⟨p,0,none⟩),.agg (a.cells sa sc).toArray] w fun e w'=>e = .returned (.int .i64 (VU V a).2)/\Yr w p F (VU V a).1 w':=by
 rw[Z9V hS];obtain⟨S',m,z,hD⟩ : ∃S' m z,Hid (UH S a.note=(S',m,z)):=⟨_,_,_,zH rfl⟩;rw[hD.out];dsimp only;obtain⟨Y,hY⟩:=zX ((if z=0/\(m.kind=2\/m.kind=4)then S'.sync else S'));rw[hY.out];have J19:=zH (show(zq.info? 47).map (·.size)=some (a.note.cells sa sc).length from by kernel_rfl);have b0:=zB w (.cells (a.cells sa sc).toArray 67);have C1:=zH (show(a.cells sa sc).toArray[1]? = some (.int .i64 a.house)from rfl);have CN:Hid (∀j v,(a.note.cells sa sc)[j]? = some v->(a.cells sa sc).toArray[4+j]? = some v):=zH (fun j v hv=>by
  rw[List.getElem?_toArray];unfold Ji.cells;rw[List.getElem?_append_right (by show 4<=_;omega),show 4+j - _=j from by show 4+j - 4=j;omega,List.getElem?_append_left (List.getElem?_eq_some_iff.1 hv).1];exact hv)
 obtain⟨OA,hOA⟩:=zX ((a.cells sa sc).toArray);rw[hOA.out]at b0 C1 CN ⊢;have X0:=zH (Za w (.cells OA 67));have H0:=zH (h.below Zl b0);have RS:=zH (hs.below b0);have B0:=zH b0;have HI:=zH hi;have HOK:=zH hok;have HST:=zH hst;have HLEN:=zH hlen;clear b0 hOA h hs hi hok hst hlen;go_enter Tryz.func87,Tryz.ntmps87;go_upto_region 1 with fail;obtain⟨p3,hp3⟩:=zX (w.heap.size);rw[hp3.out]at X0 ⊢;generalize w.alloc (.cells OA 67)=W0 at *;obtain⟨ps,Fs,ha,hc,xs,ma,mc,h1,h2⟩:=H0.out.open;obtain⟨k,q,Fk,e1,e2,g1,g2,g3,g4⟩:=h1.at hS;have c1:=Z6 X0.out 1 (.int .i64 a.house) C1.out;have HH:=zH (Xj h1 a.house k q e1 g1);obtain⟨mb,sp,G,SF,k1,k2⟩:=g3;have HK:=zH k1;have FIN:Hid (∀S' w',Z2g UM W0 q Fk S' w'->Yr w p F (JZ V a.house S') w'):=zH (fun S' w' j=>by
  rw[h2];exact QK.after (w:=W0) (h1.ret Zl e2 g1 g2 j) B0.out)
 have K2:=zH k2;have HX:=zH (show W0.rangeAt p3 4 (a.note.cells sa sc)from fun j v hv=>Z6 X0.out (4+j) v (CN.out j v hv));clear h1 h2 k1 k2 g1 g2 g4 H0 hS e1 e2;go_wp2_with fail;refine HH.out.mono ?_;rintro e w1 ⟨rfl,rfl⟩;go_wp2_with (refine wpList_load_mid rfl 47 _ rfl p3 4 rfl (a.note.cells sa sc) _ HX.out Tryz.underlying47 rfl (by exact J19.out) ?_);refine(Zc3 q mb sp G SF S a.note sa sc _ HK.out HI.out RS.out HOK.out HST.out HLEN.out).mono ?_;rintro e V1 ⟨⟨ta,tc,rfl,hrt⟩,G1,SF1,j1,j2,j3⟩;have J1:=zH j1;have J2:=zH j2;have J3:=zH j3;clear hrt j1 j2 j3 HX c1;rw[hD.out]at J1 ⊢;dsimp only at J1 ⊢;go_upto_region 3 with (refine zP V1 V1.heap.size (Z5 m ta tc) ?_);have b2:Below V1.heap.size V1 (V1.alloc (.cells (Z5 m ta tc) 47)):=zB _ _;have N11:=Za V1 (.cells (Z5 m ta tc) 47);have R:Hid (Yf (V1.alloc (.cells (Z5 m ta tc) 47)) q mb sp G1 SF1 S'/\Zb (Yl q mb G SF) w1 (V1.alloc (.cells (Z5 m ta tc) 47))):=zH ⟨J1.out.below b2,J2.out.trans (Zb.of_below b2)⟩;obtain⟨p11,hp11⟩:=zX (V1.heap.size);rw[hp11.out]at N11 ⊢;generalize V1.alloc (.cells (Z5 m ta tc) 47)=V2 at *;clear b2 hp11;have c4:=Z6 N11 4 (.int .i64 m.kind) (XU m ta tc);clear N11;have END:Hid (Z2g UM w1 q Fk S' V2):=zH (Z23 K2.out R.out.1 R.out.2 J3.out);have SYN:Hid (∀w',Yf w' q mb sp G1 SF1 S'.sync->Zb (fun k=>k=sp) V2 w'->Z2g UM w1 q Fk S'.sync w'):=zH (fun w' j1 j2=>by
  refine Z23 K2.out j1 ?_ J3.out;refine R.out.2.trans2 (F1:=fun k=>Yl q mb G1 SF1 k) (j2.weaken fun b hb=>?_) (fun b hb=>(J3.out b hb));rw[show b=sp from hb];exact .inr (.inr (.inl R.out.1.stk.self)))
 have SY:Hid (Y=S'.sync -> ∀w',Yf w' q mb sp G1 SF1 S'.sync->Zb (fun k=>k=sp) V2 w'->Yr w p F (JZ V a.house Y) w'):=zH (fun e w' j1 j2=>by rw[e];exact FIN.out _ _ (SYN.out w' j1 j2));have EN:Hid (Y=S'->Yr w p F (JZ V a.house Y) V2):=zH (fun e=>by rw[e];exact FIN.out _ _ END.out);clear FIN SYN END J3 K2;by_cases z0:z=0
 ·subst z0;have t1:((0:Int)==0)=true:=rfl;by_cases m2:m.kind=2
  ·have t2:(m.kind==2)=true:=by simp[m2]
   have HY:=zH (show Y=S'.sync from hY.out.symm.trans (if_pos ⟨rfl,.inl m2⟩));clear m2 hY;go_wp2_with fail;refine(Jt q mb sp G1 SF1 S' _ R.out.1).mono ?_;rintro e w2 ⟨rfl,j1,j2⟩;have J:=zH (SY.out HY.out _ j1 j2);clear j1 j2 c4;go_wp2;go_ret;exact⟨rfl,J.out⟩
  ·have t2:(m.kind==2)=false:=by simp[m2]
   by_cases m4:m.kind=4
   focus
    have t3:(m.kind==4)=true:=by simp[m4]
    have HY:=zH (show Y=S'.sync from hY.out.symm.trans (if_pos ⟨rfl,.inr m4⟩));clear m2 m4 hY;go_wp2_with fail;refine(Jt q mb sp G1 SF1 S' _ R.out.1).mono ?_;rintro e w2 ⟨rfl,j1,j2⟩;have J:=zH (SY.out HY.out _ j1 j2);clear j1 j2 c4
   rotate_left
   focus
    have t3:(m.kind==4)=false:=by simp[m4]
    have J:=zH (EN.out (hY.out.symm.trans (if_neg (by rintro⟨_,e | e⟩;exact m2 e;exact m4 e))));clear m2 m4 hY
   all_goals
    go_wp2;go_ret;exact⟨rfl,J.out⟩
 ·have t1:(z==0)=false:=by simp[z0]
  have J:=zH (EN.out (hY.out.symm.trans (if_neg (fun e=>z0 e.1))));clear z0 hY;go_wp2;go_ret;exact⟨rfl,J.out⟩
end
theorem ZbV:(zq.info? 152).map (fun i=>(i.zero,i.size,i.bytes))=some (some (.agg #[.int .i64 0,.int .i64 0,.slice none 0 0]),3,40):=by kernel_rfl
theorem Z1t (w:World)(base:Nat)(sa:zA)(sn sc:Nat)(xs:List Value)(hown:w.ownsRow base 152 3 (.slice sa sn sc) sn xs)(xa:zA)(m xc:Nat)(ys:List Value)(hrd:Y3 w 3 xa m xc ys)(h1 : ∀u∈ys,u.oneCell'=true)
  (hbytes:(sn+m) * 40<=140737488355328) (hbase:base<=w.heap.size):
  ∃a' c' w',(Builtin.append_ #[89,89] 89 #[.slice sa sn sc,.slice xa m xc]).run zq w = .ok (.slice a' (sn+m) c') w'/\w'.ownsRow base 152 3 (.slice a' (sn+m) c') (sn+m) (xs ++ ys)/\w.grownBy w' (Value.ownBlock (.slice sa sn sc))/\(a'=sa\/a'=some ⟨w.heap.size,0,none⟩):=by
 obtain⟨i,hi,hz0,hz1,hz2⟩:=info_parts ZbV;obtain⟨a',c',w',hr,h2,h3⟩:=Yu w base 89 89 152 i _ 3 40 Tryz.underlying89 hi hz0 hz1 hz2 rfl (by decide) sa sn sc xs hown xa m xc ys hrd h1 (by unfold maxLen;omega) hbytes hbase;have hloc:=Qv (P:=zq) w base 89 89 152 i _ 3 40 Tryz.underlying89 hi hz0 hz1 hz2 sa sn sc _ hown xa m xc _ hrd h1 (by unfold maxLen;omega) hbytes _ _ hr;refine⟨a',c',w',hr,h2,h3,?_⟩;rcases hloc with ⟨n',c'',h⟩ | ⟨n',c'',h⟩
 ·simp only[Value.slice.injEq]at h;exact .inl h.1
 ·simp only[Value.slice.injEq]at h;exact .inr h.1
theorem Z6d (w:World)(a0 a1:Int):
  (Instr.buildSlice 37 2 #[(0,.int .i64 a0),(1,.int .i64 a1)]).run zq w = .ok (.slice (some ⟨w.heap.size,0,none⟩) 2 2) (w.alloc (.cells #[.int .i64 a0,.int .i64 a1] 3)):=by
 kernel_rfl
theorem Z6e (w:World)(a0:Int):
  (Instr.buildSlice 37 1 #[(0,.int .i64 a0)]).run zq w = .ok (.slice (some ⟨w.heap.size,0,none⟩) 1 1) (w.alloc (.cells #[.int .i64 a0] 3)):=by
 kernel_rfl
theorem Z4i (W:World)(a0 a1 a2:Value):Y3 (W.alloc (.cells #[a0,a1,a2] 152)) 3 (some ⟨W.heap.size,0,none⟩) 1 1 [a0,a1,a2]:=
 Y3.of_own (World.ownsRow_lit (base:=W.heap.size) (e:=152) (size:=3) W #[a0,a1,a2] 1 (Nat.le_refl _) (by unfold maxLen;omega) rfl)
theorem Z5m (base:Nat)(w:World)(y z:Int):Uf base (w.alloc (.cells #[.int .i64 y,.int .i64 z] 3)) (some ⟨w.heap.size,0,none⟩):=by
 intro b off e _;cases e;exact Vt (Za w _) (by decide)
theorem Qx {w:World}{b1 b2:Nat}{e1 e2:TypeId}{k1 k2:Nat}{v1 v2:Value}{n1 n2:Nat}{l1 l2:List Value}(h1:w.ownsRow b1 e1 k1 v1 n1 l1)(h2:w.ownsRow b2 e2 k2 v2 n2 l2)(hne:e1≠e2): ∀k,v1.ownBlock=some k->v2.ownBlock≠some k:=by
 intro k hk hk2;rcases h2.2 with ⟨rfl,_⟩ | ⟨g,cap,cur,rfl,_,h3,_⟩
 ·simp[Value.ownBlock]at hk2
 ·simp only[Value.ownBlock,Option.some.injEq]at hk2;subst hk2;exact ZK h1 h3 hne hk
theorem Jc {P:Program}{op:Oper}{a:Act}{w w':World}{K:Act->World->Prop}{Q:Exit->Act->World->Prop}(v:Value)(h:(execOp a.eval op).run P w = .ok (.value v) w')(hK:K (a.put op.dst v) w'):op.wp P a w K Q:=by
 unfold Oper.wp;rw[h];exact hK
section
variable {PH:World->Nat->(Nat->Prop)->Zf->Prop}{tW tH:TypeId}{bf:Value->Value->Y6}{w w1 w2 w3:World}{p:Nat}{ps:List Nat}{Fs:List (Nat->Prop)}{ha:zA}{hc:Nat}{xs:List LM}{ma:zA}{mc:Nat}{V:ZO}
theorem UK.sent (hp:Qf PH)(h:UK PH tW tH bf w p ps Fs ha hc xs ma mc V)(x:LM)(hb1:Below w.heap.size w w1)(hx:w1.ownsRow 0 5 1 x.val x.m.body.length (x.m.body.map Zr))(hxb : ∀k,x.val.ownBlock=some k->w.heap.size<=k \/ ∃y∈xs,y.val.ownBlock=some k)
  {ma':zA} {mc':Nat} (hxm : ∀k,x.val.ownBlock=some k->Value.ownBlock (.slice ma xs.length mc)≠some k/\k≠p) (ho:w2.ownsRow 0 152 3 (.slice ma' (xs.length+1) mc') (xs.length+1) (ZD xs ++ x.cells)) (hg:w1.grownBy w2 (Value.ownBlock (.slice ma xs.length mc))) (hl:ma'=ma\/ma'=some ⟨w1.heap.size,0,none⟩)
  (hbd : ∀y∈xs,∀k,y.val.ownBlock=some k->Value.ownBlock (.slice ma xs.length mc)≠some k/\k≠p)
  (hpm : ∀k,Value.ownBlock (.slice ma xs.length mc)=some k\/Value.ownBlock (.slice ha ps.length hc)=some k->k≠p) (hmh : ∀k,Value.ownBlock (.slice ma xs.length mc)=some k->Value.ownBlock (.slice ha ps.length hc)≠some k)
  (hb:w3.heap[p]? = some (.cells (bf (.slice ha ps.length hc) (.slice ma' (xs.length+1) mc')) tW (0,0))) (hs:Zb (fun k=>k=p) w2 w3):
  QK PH tW tH bf w p (wF p Fs ha ps.length hc xs ma mc) (Vy V x.m) w3:=by
 have e1:xs.length+1=(xs ++ [x]).length:=by simp
 have e2:ZD xs ++ x.cells=ZD (xs ++ [x]):=by rw[Z3d,Z7E]
 rw[e2,e1]at ho;rw[e1]at hb;have hlt:=h.lt hp;have hX:Zb (fun k=>k=p\/Value.ownBlock (.slice ma xs.length mc)=some k) w w3:=by
  have g1:Zb (fun k=>k=p\/Value.ownBlock (.slice ma xs.length mc)=some k) w w1:=Zb.of_below hb1;exact(g1.trans (Zb.of_grown hg (fun k hk=>.inr hk))).trans (hs.weaken fun k hk=>.inl hk)
 have hm2 : ∀k,Value.ownBlock (.slice ma' (xs ++ [x]).length mc')=some k->Value.ownBlock (.slice ma xs.length mc)=some k\/w.heap.size<=k:=fun k hk=>by
  rcases Jb (n:=xs.length) (c:=mc) hl hk with h5 | h5
  ·exact .inl h5
  ·exact .inr (h5 ▸ hb1.size)
 have hpw:=Zk h.blk;have q1 : ∀k,(k=p\/Value.ownBlock (.slice ma xs.length mc)=some k) -> ¬Z0i Fs k/\Value.ownBlock (.slice ha ps.length hc)≠some k:=fun k hk=>by
  rcases hk with e | hk
  ·rw[e];exact⟨h.sp,fun e=>hpm _ (.inr e) rfl⟩
  ·exact⟨fun hF=>h.sm k hF hk,hmh k hk⟩
 have q2:w3.ownsRow 0 152 3 (.slice ma' (xs ++ [x]).length mc') (xs ++ [x]).length (ZD (xs ++ [x])):=by
  refine Ze ho hs (fun b hb2 e=>?_);rw[show b=p from e]at hb2;rcases hm2 p hb2 with h5 | h5
  ·exact hpm _ (.inl h5) rfl
  ·omega
 have q3 : ∀y∈xs ++ [x],w3.ownsRow 0 5 1 y.val y.m.body.length (y.m.body.map Zr):=fun y hy=>by
  rcases List.mem_append.1 hy with hy | hy
  ·refine Ze (h.bod y hy) hX (fun b hb2 e=>?_);have h5:=hbd y hy b hb2;rcases e with e | e
   ·exact h5.2 e
   ·exact h5.1 e
  ·rw[List.mem_singleton.1 hy];exact Ze (Ze hx (Zb.of_grown (S:=fun k=>Value.ownBlock (.slice ma xs.length mc)=some k) hg (fun k hk=>hk)) (fun b hb2 e=>(hxm b hb2).1 e)) hs (fun b hb2 e=>(hxm b hb2).2 e)
 have q4 : ∀k,(Value.ownBlock (.slice ma' (xs ++ [x]).length mc')=some k \/ ∃y∈xs ++ [x],y.val.ownBlock=some k)->w.heap.size<=k\/Value.ownBlock (.slice ma xs.length mc)=some k \/ ∃y∈xs,y.val.ownBlock=some k:=fun k hk=>by
  rcases hk with hk | ⟨y,hy,hk⟩
  ·exact(hm2 k hk).symm.imp id .inl
  ·rcases List.mem_append.1 hy with hy | hy
   ·exact .inr (.inr ⟨y,hy,hk⟩)
   ·rw[List.mem_singleton.1 hy]at hk;exact(hxb k hk).imp id .inr
 obtain⟨g1,g2⟩:=h.mail hp hX q1 hb q2 q3 q4;refine⟨_,⟨ps,Fs,ha,hc,xs ++ [x],ma',mc',?_,fun k=>Iff.rfl⟩,hX.weaken (fun k hk=>?_),g2⟩
 ·have e3:Vy V x.m = { V with ms:=(xs ++ [x]).map LM.m } := by unfold Vy;rw[List.map_append,h.mls];rfl
  rw[e3];exact g1
 ·rcases hk with rfl | hk
  ·exact .inl rfl
  ·exact .inr (.inr (.inr (.inl hk)))
theorem UK.send (hp:Qf PH)(h:UK PH tW tH bf w p ps Fs ha hc xs ma mc V)(n1:152≠tH)(n2:152≠tW)(n3:tH≠tW)(n4:5≠152)(n5:5≠tW)(x:LM)(hb1:Below w.heap.size w w1)(hx:w1.ownsRow 0 5 1 x.val x.m.body.length (x.m.body.map Zr))(hxb : ∀k,x.val.ownBlock=some k->w.heap.size<=k \/ ∃y∈xs,y.val.ownBlock=some k)
  {ma':zA} {mc':Nat} (ho:w2.ownsRow 0 152 3 (.slice ma' (xs.length+1) mc') (xs.length+1) (ZD xs ++ x.cells)) (hg:w1.grownBy w2 (Value.ownBlock (.slice ma xs.length mc))) (hl:ma'=ma\/ma'=some ⟨w1.heap.size,0,none⟩)
  (hb:w3.heap[p]? = some (.cells (bf (.slice ha ps.length hc) (.slice ma' (xs.length+1) mc')) tW (0,0))) (hs:Zb (fun k=>k=p) w2 w3):
  QK PH tW tH bf w p (wF p Fs ha ps.length hc xs ma mc) (Vy V x.m) w3:=by
 have m1:=Zd h.mrow hb1;have b1:=Z7 hb1 h.blk;refine h.sent hp x hb1 hx hxb (fun k hk=>⟨Qx hx m1 n4 k hk,fun e=>ZK hx b1 n5 (e ▸ hk)⟩) ho hg hl (fun y hy k hk=>⟨Qx (h.bod y hy) h.mrow n4 k hk,fun e=>ZK (h.bod y hy) h.blk n5 (e ▸ hk)⟩) (fun k hk e=>?_) (Qx h.mrow h.hrow n1) hb hs;rcases hk with hk | hk
 ·exact ZK h.mrow h.blk n2 (e ▸ hk)
 ·exact ZK h.hrow h.blk n3 (e ▸ hk)
end
section
variable {P:Program}{ops:Array Oper}{Q:Exit->Act->World->Prop}{md:Region.Mode}{m:Nat}{S:World->Prop}
def Yg (P:Program)(md:Region.Mode)(ops:Array Oper)(Q:Exit->Act->World->Prop)(m:Nat)(S:World->Prop):Nat->Array Bool->Act->World->Prop
 | 0,l,a,w=>Region.ready md ops l=[]/\Q .normal a w
 | n+1,l,a,w=>(Region.ready md ops l=[]->Q .normal a w) /\ ∀i∈Region.ready md ops l,wpOp P ops Q i (fun a' w'=>(i≠m->S w')/\Yg P md ops Q m S n (l.setIfInBounds i true) a' w') a w
theorem Yg.any: ∀(n:Nat) (l:Array Bool) (a:Act) (w:World),Yg P md ops Q m S n l a w->wpAny P md ops Q n l a w
 | 0,_,_,_,h=>h
 | n+1,_,_,_,h=>⟨h.1,fun i hi=>wpOp_mono (fun a' w' h'=>Yg.any n _ a' w' h'.2) (h.2 i hi)⟩
theorem Yg.done {l:Array Bool}{a:Act}{w:World}(hr:Region.ready md ops l=[])(h:Q .normal a w): ∀n,Yg P md ops Q m S n l a w
 | 0=>⟨hr,h⟩
 | _+1=>⟨fun _=>h,by rw[hr];simp⟩
theorem Zae {i:Nat}{l:Array Bool}(hm:Region.waitsFor md ops m i=true)(hi:l.getD i true=false):m ∉ Region.ready md ops l:=fun hr=>by
 obtain⟨oj,hj,e,he,hb,hon⟩:=Region.waitsFor_spec hm
 obtain⟨_,oj',hj',hall⟩:=mem_ready.1 hr
 have h0:oj'=oj:=Option.some.inj (hj'.symm.trans hj)
 subst h0
 have h1:=hall e he hb
 rw[hon,getD_both hi]at h1
 cases h1
theorem Yg.first {i:Nat}{oi:Oper}{v:Value}(hi:ops[i]? = some oi)(hsel : ∀(j:Nat) (o:Oper) cs b,ops[j]? = some o->o.op ≠ .select cs b)(hm:Region.waitsFor md ops m i=true)(hne:i≠m)
  (hQ : ∀c a w,Q (.panic c) (a.put oi.dst v) w->Q (.panic c) a w) : ∀(n:Nat) (l:Array Bool) (a:Act) (w:World),
   (∀j oj,ops[j]? = some oj->j≠i->l.getD j true=false->(∀e∈oj.after,Region.binds md e=true->e.on≠i)->oi.apart ops oj=true)->
   i∈Region.ready md ops l->YieldsIf P ops S oi v a->S w->Yg P md ops Q m S n (l.setIfInBounds i true) (a.put oi.dst v) w->Yg P md ops Q m S (n+1) l a w:=by
 intro n
 induction n with
 | zero=>
  intro l a w _ hr hy hS H;refine⟨fun h=>(by rw[h]at hr;cases hr),fun j hj=>?_⟩;by_cases e:j=i
  ·rw[e];exact hy.wpOp hi hS ⟨fun _=>hS,H⟩
  ·have h1:=ready_mono hj e;rw[H.1]at h1;cases h1
 | succ n ih=>
  intro l a w hfree hr hy hS H;refine⟨fun h=>(by rw[h]at hr;cases hr),fun j hj=>?_⟩;by_cases e:j=i
  ·rw[e];exact hy.wpOp hi hS ⟨fun _=>hS,H⟩
  ·obtain⟨hjun,oj,hoj,hall⟩:=mem_ready.1 hj;have hiun:=(mem_ready.1 hr).1;have hjm:j≠m:=fun e2=>Zae hm hiun (e2 ▸ hj);have hno : ∀x∈oj.after,Region.binds md x=true->x.on≠i:=fun x hx hb heq=>by
    have h1:=hall x hx hb;rw[heq,getD_both hiun]at h1;cases h1
   have h2:=wpOp_putIf hoj (hfree j oj hoj e hjun hno) (fun cs b=>hsel i oi cs b hi) (fun cs b=>hsel j oj cs b hoj) hQ hy (H.2 j (ready_mono hj e));refine wpOp_mono (fun a' w' h3=>⟨fun _=>h3.2.1 hjm,ih (l.setIfInBounds j true) a' w' (fun k ok hk hki hun hn=>?_) (ready_mono hr (Ne.symm e)) h3.1 (h3.2.1 hjm) ?_⟩) h2
   ·refine hfree k ok hk hki ?_ hn;by_cases e2:j=k
    ·rw[<-e2];exact hjun
    ·rw[getD_set_ne true e2]at hun;exact hun
   ·rw[Array.setIfInBounds_comm _ _ e];exact h3.2.2
theorem Yg.take {i:Nat}{oi:Oper}{v:Value}{n:Nat}{l:Array Bool}{a:Act}{w:World}(hi:ops[i]? = some oi)(hs:Region.noSelect ops=true)(hf:Region.free md ops l i=true)(hr:(Region.ready md ops l).contains i=true)
  (hm:(Region.waitsFor md ops m i && decide (i≠m))=true) (hQ : ∀c a w,Q (.panic c) (a.put oi.dst v) w->Q (.panic c) a w) (hy:YieldsIf P ops S oi v a) (hS:S w)
  (h:Yg P md ops Q m S n (l.setIfInBounds i true) (a.put oi.dst v) w):Yg P md ops Q m S (n+1) l a w:=by
 rw[Bool.and_eq_true,decide_eq_true_eq]at hm;exact Yg.first hi (Region.noSelect_spec hs) hm.1 hm.2 hQ n l a w (Region.free_spec hi hf) (by simpa using hr) hy hS h
def Ug (P:Program)(md:Region.Mode)(ops:Array Oper)(Q:Exit->Act->World->Prop)(m:Nat)(S:World->Prop)(n:Nat)(l:Array Bool)(a:Act)(w:World)(rs:List Nat):Prop:=
 ∀i∈rs,wpOp P ops Q i (fun a' w'=>(i≠m->S w')/\Yg P md ops Q m S n (l.setIfInBounds i true) a' w') a w
theorem Ug.nil {n:Nat}{l:Array Bool}{a:Act}{w:World}: Ug P md ops Q m S n l a w []:=fun _ h=>by cases h
theorem Ug.cons {n:Nat}{l:Array Bool}{a:Act}{w:World}{i:Nat}{o:Oper}{rs:List Nat}(ho:ops[i]? = some o)
  (h : ∀K:Act->World->Prop,Shut (∀a w,S w->(S w->Yg P md ops Q m S n (l.setIfInBounds i true) a w)->K a w)->if Region.wanted o (yielded ops a.tmps)=true then Oper.wp P o a w K Q else K (a.put o.dst undef) w)
  (hs:Ug P md ops Q m S n l a w rs):Ug P md ops Q m S n l a w (i :: rs):=fun j hj=>by
 rcases List.mem_cons.1 hj with e | hj
 ·rw[e]
  exact wpOp_step ho (fun K hK=>h K (fun a w hS hW=>hK a w ⟨fun _=>hS,hW hS⟩))
 ·exact hs j hj
theorem Ug.last {n:Nat}{l:Array Bool}{a:Act}{w:World}{o:Oper}(ho:ops[m]? = some o)
  (h : ∀K:Act->World->Prop,Shut (∀a w,Yg P md ops Q m S n (l.setIfInBounds m true) a w->K a w)->if Region.wanted o (yielded ops a.tmps)=true then Oper.wp P o a w K Q else K (a.put o.dst undef) w):Ug P md ops Q m S n l a w [m]:=fun j hj=>by
 rw[List.mem_singleton.1 hj]
 exact wpOp_step ho (fun K hK=>h K (fun a w hW=>hK a w ⟨fun e=>absurd rfl e,hW⟩))
theorem Yg.ready {rs:List Nat}{n:Nat}{l:Array Bool}{a:Act}{w:World}(hr:Region.ready md ops l=rs)(hne:rs≠[])(h:Ug P md ops Q m S n l a w rs):Yg P md ops Q m S (n+1) l a w:=
 ⟨fun h0=>absurd (hr ▸ h0) hne,hr ▸ h⟩
theorem bW {n:Nat}{l:Array Bool}{a a':Act}{w:World}(i:Nat){oi:Oper}(hi:ops[i]? = some oi)(v:Value)(h:Yg P md ops Q m S n (l.setIfInBounds i true) a' w)
  (hs:Region.noSelect ops=true:=by kernel_rfl) (hf:Region.free md ops l i=true:=by kernel_rfl) (hr:(Region.ready md ops l).contains i=true:=by kernel_rfl) (hm:(Region.waitsFor md ops m i && decide (i≠m))=true:=by kernel_rfl)
  (hQ : ∀c a w,Q (.panic c) (a.put oi.dst v) w->Q (.panic c) a w:=by exact fun _ _ _ h=>h) (hS:S w:=by assumption) (hy:YieldsIf P ops S oi v a:=by exact Or.inl ⟨by kernel_rfl,by intro W _;go_simp⟩)
  (ha:a.put oi.dst v=a':=by first|(simp only[Act.put,List.getElem_toArray,List.getElem_cons_succ,List.getElem_cons_zero,List.setIfInBounds_toArray,List.set_cons_zero,List.set_cons_succ];rfl) | rfl):
  Yg P md ops Q m S (n+1) l a w:=Yg.take hi hs hf hr hm hQ hy hS (ha ▸ h)
theorem bS {n:Nat}{l:Array Bool}{a a':Act}{w:World}(i:Nat){oi:Oper}(hi:ops[i]? = some oi)(v:Value)(hq : ∀W,S W->(execOp a.eval oi).run P W = .ok (.value v) W)(h:Yg P md ops Q m S n (l.setIfInBounds i true) a' w)
  (hs:Region.noSelect ops=true:=by kernel_rfl) (hf:Region.free md ops l i=true:=by kernel_rfl) (hr:(Region.ready md ops l).contains i=true:=by kernel_rfl) (hm:(Region.waitsFor md ops m i && decide (i≠m))=true:=by kernel_rfl)
  (hQ : ∀c a w,Q (.panic c) (a.put oi.dst v) w->Q (.panic c) a w:=by exact fun _ _ _ h=>h) (hS:S w:=by assumption) (hw:Region.wanted oi (yielded ops a.tmps)=true:=by kernel_rfl)
  (ha:a.put oi.dst v=a':=by first|(simp only[Act.put,List.getElem_toArray,List.getElem_cons_succ,List.getElem_cons_zero,List.setIfInBounds_toArray,List.set_cons_zero,List.set_cons_succ];rfl) | rfl):
  Yg P md ops Q m S (n+1) l a w:=Yg.take hi hs hf hr hm hQ (.inl ⟨hw,hq⟩) hS (ha ▸ h)
theorem bR {n:Nat}{l:Array Bool}{a:Act}{w:World}(i:Nat){o:Oper}(ho:ops[i]? = some o)
  (h : ∀K:Act->World->Prop,Shut (∀a w,S w->(S w->Yg P md ops Q m S n (l.setIfInBounds i true) a w)->K a w)->if Region.wanted o (yielded ops a.tmps)=true then Oper.wp P o a w K Q else K (a.put o.dst undef) w)
  (hr:Region.ready md ops l=[i]:=by kernel_rfl):Yg P md ops Q m S (n+1) l a w:=Yg.ready hr (by simp) (Ug.cons ho h Ug.nil)
theorem bL {n:Nat}{l:Array Bool}{a:Act}{w:World}{o:Oper}(ho:ops[m]? = some o)
  (h : ∀K:Act->World->Prop,Shut (∀a w,Yg P md ops Q m S n (l.setIfInBounds m true) a w->K a w)->if Region.wanted o (yielded ops a.tmps)=true then Oper.wp P o a w K Q else K (a.put o.dst undef) w)
  (hr:Region.ready md ops l=[m]:=by kernel_rfl):Yg P md ops Q m S (n+1) l a w:=Yg.ready hr (by simp) (Ug.last ho h)
theorem bK {n:Nat}{l:Array Bool}{a a':Act}{w:World}{K:Act->World->Prop}(hK:Shut (∀a w,S w->(S w->Yg P md ops Q m S n l a w)->K a w))(hS:S w)(h:S w->Yg P md ops Q m S n l a' w)
  (ha:a=a':=by first|(simp only[Act.put,List.getElem_toArray,List.getElem_cons_succ,List.getElem_cons_zero,List.setIfInBounds_toArray,List.set_cons_zero,List.set_cons_succ];rfl) | rfl):K a w:=by
 subst ha;exact hK.out _ _ hS h
theorem bE {n:Nat}{l:Array Bool}{a:Act}{w:World}{Q:Exit->Act->World->Prop}(h:Q .normal a w)(hr:Region.ready md ops l=[]:=by kernel_rfl):Yg P md ops (NoPanic Q) m S n l a w:=Yg.done hr (NoPanic.normal h) _
theorem bD {id:Nat}{a:Act}{w:World}{Q:Exit->Act->World->Prop}(m:Nat)(S:World->Prop)(hS:S w.drew)(h:S w.drew->Yg P .any ops (NoPanic Q) m S ops.size (Array.replicate ops.size false) a w.drew)(hm:P.follows .mixedOrders=true:=by kernel_rfl):
  (Code.region id ops true).wp P Q a w:=wp_region_noPanic (wp_region_any hm (Yg.any _ _ _ _ (h hS)))
end
theorem Z3R {V:ZO}{a:Ji}{S:Zf}(h:YA V a.house=some S)(h2:(YA V a.to).isNone=true\/a.to=a.house):Ja V a=(V,1):=by
 unfold Ja;rw[h];exact if_pos h2
theorem Z69 {V:ZO}{a:Ji}{S:Zf}(h:YA V a.house=some S)(h2 : ¬((YA V a.to).isNone=true\/a.to=a.house))(h3:64<=V.ms.length):Ja V a=(V,2):=by
 unfold Ja;rw[h];show(if _ then _ else _)=_;rw[if_neg h2,if_pos h3]
theorem Z8v {V:ZO}{a:Ji}{S:Zf}(h:YA V a.house=some S)(h2 : ¬((YA V a.to).isNone=true\/a.to=a.house))(h3 : ¬64<=V.ms.length):Ja V a=(Vy V ⟨a.house,a.to,.ask (Vp S.c)⟩,0):=by
 unfold Ja;rw[h];show(if _ then _ else _)=_;rw[if_neg h2,if_neg h3]
theorem Zby {W W':World}{k:Nat}{a:zA}{n c:Nat}{xs:List Value}(h:Y3 W k a n c xs)(hk:0 < n * k):Uf W.heap.size W' a:=by
 obtain⟨h1,h2,h3,h4⟩:=h;intro b off e hb hU;rcases h4 with h4 | ⟨b',o',e',h5⟩
 ·rw[h4]at h2;have h6:n=0:=by omega
  rw[h6]at hk;omega
 ·rw[e]at e';cases e';have hx:=List.getElem?_eq_getElem (l:=xs) (i:=0) (by omega);have:=World.block_lt_of_cell? W _ (h5 0 _ hx);have:=hU.1;show False;simp only at *;omega
theorem Z8S: ∀z∈([1,8]:List Int),J6 z:=by intro z hz;simp at hz;rcases hz with rfl | rfl <;> (unfold J6;omega)
theorem Zbb (p:Nat)(F:Nat->Prop)(V:ZO)(a:Ji)(sa:zA)(sc:Nat)(S:Zf)(w:World)(h:VO w p F V)(hS:YA V a.house=some S)(hi:Xh S):
  Calls zq 89 #[.pointer (some ⟨p,0,none⟩),.agg (a.cells sa sc).toArray] w fun e w'=>e = .returned (.int .i64 (Ja V a).2)/\Yr w p F (Ja V a).1 w':=by
 have b0:=zB w (.cells (a.cells sa sc).toArray 67);have C1:=zH (show(a.cells sa sc).toArray[1]? = some (.int .i64 a.house)from rfl);have C2:=zH (show(a.cells sa sc).toArray[2]? = some (.int .i64 a.to)from rfl);obtain⟨OA,hOA⟩:=zX ((a.cells sa sc).toArray);rw[hOA.out]at b0 C1 C2 ⊢;have X0:=zH (Za w (.cells OA 67));have H0:=zH (h.below Zl b0);have B0:=zH b0;have CO:=zH (Z9w hi);obtain⟨Y,hY⟩:=zX (Ja V a);rw[hY.out];clear b0 hOA h hi;go_enter Tryz.func89,Tryz.ntmps89;go_upto_region 1 with fail;obtain⟨p3,hp3⟩:=zX (w.heap.size);rw[hp3.out]at X0 ⊢;generalize w.alloc (.cells OA 67)=W0 at *;have RF:=zH ((QK.refl H0.out).after B0.out);obtain⟨ps,Fs,ha,hc,xs,ma,mc,h1,h2⟩:=H0.out.open;obtain⟨k,q,Fk,e1,e2,g1,g2,g3,g4⟩:=h1.at hS;have c1:=Z6 X0.out 1 (.int .i64 a.house) C1.out;have c2:=Z6 X0.out 2 (.int .i64 a.to) C2.out;have HH:=zH (Xj h1 a.house k q e1 g1);cases hT:YA V a.to with
 | none=>
  have HT:=zH (Z0v h1 a.to (by have:=Z2N hT;rw[h1.nh]at this;exact this));have R:Hid (Y=(V,1)):=zH (hY.out.symm.trans (Z3R hS (.inl (by rw[hT];rfl))));clear h1 h2 g1 g2 g3 g4 H0 hS e1 e2 hT hY;go_wp2_with fail;refine HT.out.mono ?_;rintro e w1 ⟨rfl,rfl⟩;go_wp2;go_ret;rw[R.out];exact⟨rfl,RF.out⟩
 | some T=>
 obtain⟨j,q2,Fj,u1,u2,u3,u4,u5,u6⟩:=h1.at hT;have HT:=zH (Xj h1 a.to j q2 u1 u3);by_cases hself:a.to=a.house
 ·have t1:(a.to==a.house)=true:=by simp[hself]
  have R:Hid (Y=(V,1)):=zH (hY.out.symm.trans (Z3R hS (.inr hself)));clear h1 h2 g1 g2 g3 g4 H0 hS e1 e2 hT hY u1 u2 u3 u4 u5 u6 hself;go_wp2_with fail;refine HT.out.mono ?_;rintro e w1 ⟨rfl,rfl⟩;go_wp2;go_ret;rw[R.out];exact⟨rfl,RF.out⟩
 have t1:(a.to==a.house)=false:=by simp[hself]
 have hno : ¬((YA V a.to).isNone=true\/a.to=a.house):=by rw[hT];simp[hself]
 by_cases hf:64<=V.ms.length
 ·have hfull:=Z0S h1;rw[show decide (64<=V.ms.length)=true by simp[hf]]at hfull;have HF:=zH hfull;have R:Hid (Y=(V,2)):=zH (hY.out.symm.trans (Z69 hS hno hf));clear h1 h2 g1 g2 g3 g4 H0 hS e1 e2 hT hY u1 u2 u3 u4 u5 u6 hself hno hf hfull;go_wp2_with fail;refine HT.out.mono ?_;rintro e w1 ⟨rfl,rfl⟩;go_wp2_with fail;refine HF.out.mono ?_;rintro e w2 ⟨rfl,rfl⟩;go_wp2;go_ret;rw[R.out];exact⟨rfl,RF.out⟩
 have hfull:=Z0S h1;rw[show decide (64<=V.ms.length)=false by simp[hf]]at hfull;have HF:=zH hfull;have R:Hid (Y=(Vy V ⟨a.house,a.to,.ask (Vp S.c)⟩,0)):=zH (hY.out.symm.trans (Z8v hS hno hf));have LN:=zH (show xs.length < 64 by have:=h1.nm;omega);obtain⟨mb,sp,G,SF,k1,k2⟩:=g3;have HK:=zH k1;have H1:=zH h1;have H2:=zH h2;clear h1 h2 g1 g2 g4 H0 hS e1 e2 hT hY u1 u2 u3 u4 u5 u6 hself hno hf hfull k1 k2;go_wp2_with fail;refine HT.out.mono ?_;rintro e w1 ⟨rfl,rfl⟩;go_wp2_with fail;refine HF.out.mono ?_;rintro e w2 ⟨rfl,rfl⟩;go_wp2_with fail;refine HH.out.mono ?_;rintro e w3 ⟨rfl,rfl⟩;go_wp2_with fail;refine(Z7U q mb sp G SF S _ HK.out).mono ?_;rintro e V1 ⟨⟨ca,cc,rfl,hcr⟩,b1⟩;have CR:=zH hcr;have PB:=zH (show V1.heap[p]? = some (.cells #[.slice ha ps.length hc,.slice ma xs.length mc] 141)from Z7 b1 H1.out.blk);have PX:=zH (Z7 b1 X0.out);have BB:=zH b1;clear hcr b1 c1 c2;go_upto_region 6 with fail;refine bD 20 (fun W'=>W'.heap[p]? = some (.cells #[.slice ha ps.length hc,.slice ma xs.length mc] 141)/\W'.heap[p3]? = some (.cells OA 67)) ⟨PB.out,PX.out⟩ (fun hh=>?_);refine bW 0 rfl (.pointer (some ⟨p,0,none⟩)) ?_;refine bW 1 rfl (.pointer (some ⟨p,0,none⟩)) ?_;refine bW 2 rfl (.pointer (some ⟨p,0,none⟩)) ?_;refine bW 3 rfl (.pointer (some ⟨p,1,none⟩)) ?_;refine bS 4 rfl (.slice ma xs.length mc) (fun W hW=>by have c:=Z6 hW.1 1 (.slice ma xs.length mc) rfl;go_simp) ?_;refine bW 5 rfl (.pointer (some ⟨p3,1,none⟩)) ?_;refine bS 6 rfl (.int .i64 a.house) (fun W hW=>by have c:=Z6 hW.2 1 (.int .i64 a.house) C1.out;go_simp) ?_;refine bW 7 rfl (.pointer (some ⟨p3,2,none⟩)) ?_;refine bS 8 rfl (.int .i64 a.to) (fun W hW=>by have c:=Z6 hW.2 2 (.int .i64 a.to) C2.out;go_simp) ?_;refine bW 9 rfl (.slice ca 8 cc) ?_;refine bW 10 rfl (.int .i64 8) ?_;refine bW 13 rfl (.slice ca 8 cc) ?_;have AP:=zH (fun W':World=>Zby (W':=W') CR.out (by decide));have HCL:=zH (CO.out.1);have b1:Below V1.heap.size V1 V1.drew:=(Below.refl _ _).drew;have BD:=zH b1;have CZ:Hid (∀z∈Vp S.c,J6 z):=zH (fun z hz=>by have:=CO.out.2 z hz;unfold J6;omega)
 clear b1 CO;generalize V1.drew=V2 at *;refine bR 11 rfl (fun K hK=>?_);rw[if_pos (by kernel_rfl)];refine Jc (w':=V2.alloc (.cells #[.int .i64 1,.int .i64 8] 3)) (.slice (some ⟨V2.heap.size,0,none⟩) 2 2) (by kernel_rfl) ?_;have b3:Below V2.heap.size V2 (V2.alloc (.cells #[.int .i64 1,.int .i64 8] 3)):=zB _ _;have R2:=zH (Zbl V2 1 8);have A2:=zH (Z5m V1.heap.size V2 1 8);have B3:Hid (Below V1.heap.size V1 (V2.alloc (.cells #[.int .i64 1,.int .i64 8] 3))):=zH (BD.out.trans (b3.mono BD.out.size));have hS3:=And.intro (Z7 b3 hh.1) (Z7 b3 hh.2);clear b3 hh;obtain⟨p5,hp5⟩:=zX (V2.heap.size);rw[hp5.out]at R2 A2 ⊢;generalize V2.alloc (.cells #[.int .i64 1,.int .i64 8] 3)=V3 at *;refine bK hK hS3 (fun hh=>?_);clear hK K hS3 hp5;refine bR 12 rfl (fun K hK=>?_);go_simp;refine(VY V1.heap.size none 0 0 [] (some ⟨p5,0,none⟩) 2 2 [1,8] V3 B3.out.size (World.ownsRow_nil _ _ _ _) R2.out (fun _=>A2.out) Z8S (by rw[List.nil_append];have:=Qd [1,8] Z8S;simp at this;omega)).mono ?_;rintro e V4 ⟨a4,c4,rfl,o4,ab4⟩;rw[List.nil_append]at o4;have O4:=zH o4;have hS4:=And.intro ((ab4.block p (Zk hh.1) (Vt hh.1 (by decide))).trans hh.1) ((ab4.block p3 (Zk hh.2) (Vt hh.2 (by decide))).trans hh.2);have B4:Hid (Below V1.heap.size V1 V4):=zH (ab4.into B3.out B3.out.size);clear o4 ab4 hh R2 A2;dsimp only;refine bK hK hS4 (fun hh=>?_);clear hK K hS4;refine bR 14 rfl (fun K hK=>?_);go_simp;refine(VY V1.heap.size a4 _ c4 (Zt [1,8]) ca 8 cc (Vp S.c) V4 B4.out.size O4.out (CR.out.below B4.out) (fun _=>AP.out V4) CZ.out (by rw[List.length_append];have h1:=Qd [1,8] Z8S;have h2:=Qd (Vp S.c) CZ.out;rw[HCL.out]at h2;simp at h1;omega)).mono ?_;rintro e V5 ⟨a5,c5,rfl,o5,ab5⟩;have hS5:=And.intro ((ab5.block p (Zk hh.1) (Vt hh.1 (by decide))).trans hh.1) ((ab5.block p3 (Zk hh.2) (Vt hh.2 (by decide))).trans hh.2);have B5:Hid (Below V1.heap.size V1 V5):=zH (ab5.into B4.out B4.out.size);have hbody:Zt [1,8] ++ Zt (Vp S.c)=(Xe.ask (Vp S.c)).body:=by
  show _=Yh 1 ++ (Yh ((Vp S.c).length:Int) ++ Zt (Vp S.c));rw[HCL.out,show Zt [1,8]=Yh 1 ++ Yh 8 by simp[Zt],List.append_assoc];rfl
 rw[hbody]at o5 ⊢;have O5:=zH o5;clear o5 ab5 hh hbody O4;obtain⟨x,hx⟩ : ∃x:LM,Hid (x=⟨⟨a.house,a.to,.ask (Vp S.c)⟩,a5,c5⟩):=⟨_,zH rfl⟩;dsimp only;refine bK hK hS5 (fun hh=>?_);clear hK K hS5;refine bW 15 rfl (.agg #[.int .i64 a.house,.int .i64 a.to,.slice a5 (Xe.ask (Vp S.c)).body.length c5]) ?_;refine bR 16 rfl (fun K hK=>?_);rw[if_pos (by kernel_rfl)];refine Jc (w':=V5.alloc (.cells #[.int .i64 a.house,.int .i64 a.to,.slice a5 (Xe.ask (Vp S.c)).body.length c5] 152)) (.slice (some ⟨V5.heap.size,0,none⟩) 1 1) (by kernel_rfl) ?_;have b6:Below V5.heap.size V5 (V5.alloc (.cells #[.int .i64 a.house,.int .i64 a.to,.slice a5 (Xe.ask (Vp S.c)).body.length c5] 152)):=zB _ _;have R6:=zH (Z4i V5 (.int .i64 a.house) (.int .i64 a.to) (.slice a5 (Xe.ask (Vp S.c)).body.length c5));have O6:=zH (Zd O5.out b6);have B6:Hid (Below w3.heap.size w3 (V5.alloc (.cells #[.int .i64 a.house,.int .i64 a.to,.slice a5 (Xe.ask (Vp S.c)).body.length c5] 152))):=zH (BB.out.trans ((B5.out.trans (b6.mono B5.out.size)).mono BB.out.size));have hS6:=And.intro (Z7 b6 hh.1) (Z7 b6 hh.2);clear b6 hh;obtain⟨p6,hp6⟩:=zX (V5.heap.size);rw[hp6.out]at R6 ⊢;generalize V5.alloc (.cells #[.int .i64 a.house,.int .i64 a.to,.slice a5 (Xe.ask (Vp S.c)).body.length c5] 152)=V6 at *;refine bK hK hS6 (fun hh=>?_);clear hK K hS6;refine bR 17 rfl (fun K hK=>?_);rw[if_pos (by kernel_rfl)];obtain⟨a7,c7,V7,hrun,ho,hg,hl⟩:=Z1t V6 0 ma xs.length mc (ZD xs) (Zd H1.out.mrow B6.out) (some ⟨p6,0,none⟩) 1 1 _ R6.out (by intro u hu;simp at hu;rcases hu with rfl | rfl | rfl <;> rfl) (by have:=LN.out;omega) (Nat.zero_le _);refine Y4 _ _ _ rfl _ _ _ rfl rfl hrun ?_;clear hrun;have HO:=zH ho;have HG:=zH hg;have HL:=zH hl;have hne : ∀{cur:Y6} {t:TypeId} {g:Nat},V6.heap[g]? = some (.cells cur t (0,0))->152≠t->Value.ownBlock (.slice ma xs.length mc)≠some g:=fun hgg ht=>ZK (Zd H1.out.mrow B6.out) hgg ht;have hS7:=And.intro (Zc hg hh.1 (Ne.symm (hne hh.1 (by decide)))) (Zc hg hh.2 (Ne.symm (hne hh.2 (by decide))))
 clear ho hg hl hne hh;refine bK hK hS7 (fun hh=>?_);clear hK K hS7;refine bR 18 rfl (fun K hK=>?_);go_simp;refine bK hK hh (fun hh=>?_);clear hK K;refine bW 19 rfl (.pointer (some ⟨p,1,none⟩)) ?_;refine bL rfl (fun K hK=>?_);have hce:=Z6 hh.1 1 (.slice ma xs.length mc) rfl;have hfz:=Zq hh.1 1;have P8:(V7.setCell ⟨p,1,none⟩ (.slice a7 (xs.length+1) c7)).heap[p]? = some (.cells #[.slice ha ps.length hc,.slice a7 (xs.length+1) c7] 141):=ZM hh.1 1 _;have FIN:Hid (Yr w p F (Vy V x.m) (V7.setCell ⟨p,1,none⟩ (.slice a7 (xs.length+1) c7))):=zH (by
  rw[H2.out];refine QK.after (w:=w3) ?_ B0.out;refine H1.out.send Zl (by decide) (by decide) (by decide) (by decide) (by decide) x B6.out ?_ ?_ (ma':=a7) (mc':=c7) ?_ HG.out HL.out P8 (JN V7 p 1 _)
  ·rw[hx.out];exact Zx O6.out (Nat.zero_le _)
  ·intro k hk;rw[hx.out]at hk;have h1:=(O6.out.lt k hk).1;exact .inl (Nat.le_trans BB.out.size h1)
  ·rw[hx.out];exact HO.out)
 clear P8 hh;go_simp;refine hK.out _ _ ?_;clear hK K hce hfz;refine bE ?_;go_wp2;go_ret;rw[R.out];refine⟨rfl,?_⟩;have h9:=FIN.out;rw[hx.out]at h9;exact h9
theorem Z67 {V:ZO}{a:Ji}{S:Zf}(h:YA V a.house=some S):Jq V a=(JZ V a.house (crS S a.keep a.flip a.idx).1,(crS S a.keep a.flip a.idx).2):=by
 unfold Jq;rw[h]
theorem Z8p (p:Nat)(F:Nat->Prop)(V:ZO)(a:Ji)(sa:zA)(sc:Nat)(S:Zf)(w:World)(h:VO w p F V)(hS:YA V a.house=some S)(hi:Xh S)(hlen:S.l.length < 400):
  Calls zq 93 #[.pointer (some ⟨p,0,none⟩),.agg (a.cells sa sc).toArray] w fun e w'=>e = .returned (.int .i64 (Jq V a).2)/\Yr w p F (Jq V a).1 w':=by
 rw[Z67 hS];have b0:=zB w (.cells (a.cells sa sc).toArray 67);have C1:=zH (show(a.cells sa sc).toArray[1]? = some (.int .i64 a.house)from rfl);have C3:=zH (show(a.cells sa sc).toArray[3]? = some (.int .i64 a.idx)from rfl);have C23:=zH (show(a.cells sa sc).toArray[23]? = some (.int .i64 a.keep)from rfl);have C24:=zH (show(a.cells sa sc).toArray[24]? = some (.int .i64 a.flip)from rfl);obtain⟨OA,hOA⟩:=zX ((a.cells sa sc).toArray);rw[hOA.out]at b0 C1 C3 C23 C24 ⊢;obtain⟨S',z,hC⟩ : ∃S' z,Hid (crS S a.keep a.flip a.idx=(S',z)):=⟨_,_,zH rfl⟩;rw[hC.out];have X0:=zH (Za w (.cells OA 67));have H0:=zH (h.below Zl b0);have B0:=zH b0;have NF:=zH (show ¬F w.heap.size from fun e=>Nat.lt_irrefl _ (h.lt Zl _ e));have HI:=zH hi;have HLEN:=zH hlen;clear b0 hOA h hi hlen;go_enter Tryz.func93,Tryz.ntmps93;go_upto_region 1 with fail;obtain⟨p3,hp3⟩:=zX (w.heap.size);rw[hp3.out]at X0 NF ⊢;generalize w.alloc (.cells OA 67)=W0 at *;refine zp X0.out (fun hh=>?_);have bd:Below W0.heap.size W0 W0.drew:=(Below.refl _ _).drew;replace B0:=zH (B0.out.trans (bd.mono B0.out.size));replace H0:=zH (H0.out.below Zl bd);clear bd;generalize W0.drew=W1 at *;obtain⟨ps,Fs,ha,hc,xs,ma,mc,h1,h2⟩:=H0.out.open;obtain⟨k,q,Fk,e1,e2,g1,g2,g3,g4⟩:=h1.at hS;have HH:=zH (Xj h1 a.house k q e1 g1);obtain⟨mb,sp,G,SF,k1,k2⟩:=g3;have HK:=zH k1;have K2:=zH k2;have FIN:Hid (∀S' w',Z2g UM W1 q Fk S' w'->Yr w p F (JZ V a.house S') w'):=zH (fun S' w' j=>by
  rw[h2];exact QK.after (w:=W1) (h1.ret Zl e2 g1 g2 j) B0.out)
 have NX:=zH (show ¬Yl q mb G SF p3 from fun e=>NF.out (by rw[h2];exact .inr (.inr (.inl ⟨k,Fk,g2,(k2 _).2 e⟩))));clear h1 h2 k1 k2 g1 g2 g4 H0 hS e1 e2;refine zW 0 rfl (.pointer (some ⟨p,0,none⟩)) ?_;refine zW 1 rfl (.pointer (some ⟨p3,1,none⟩)) ?_;refine zS 2 rfl (.int .i64 a.house) (fun W hW=>by have c:=Z6 hW 1 (.int .i64 a.house) C1.out;go_simp) ?_;refine zW 4 rfl (.pointer (some ⟨p3,23,none⟩)) ?_;refine zS 5 rfl (.int .i64 a.keep) (fun W hW=>by have c:=Z6 hW 23 (.int .i64 a.keep) C23.out;go_simp) ?_;refine zW 6 rfl (.pointer (some ⟨p3,24,none⟩)) ?_;refine zS 7 rfl (.int .i64 a.flip) (fun W hW=>by have c:=Z6 hW 24 (.int .i64 a.flip) C24.out;go_simp) ?_;refine zW 8 rfl (.pointer (some ⟨p3,3,none⟩)) ?_;refine zS 9 rfl (.int .i64 a.idx) (fun W hW=>by have c:=Z6 hW 3 (.int .i64 a.idx) C3.out;go_simp) ?_;refine zR 3 rfl (fun K hK=>?_);go_simp;refine HH.out.mono ?_;rintro e w1 ⟨rfl,rfl⟩;dsimp only;refine zK hK hh (fun hh=>?_);clear hK K;refine zR 10 rfl (fun K hK=>?_);go_simp;refine(Z8W q mb sp G SF S a.keep a.flip a.idx _ HK.out HI.out HLEN.out).mono ?_;rintro e w2 ⟨S2,code,cp,hi2,rfl,mb2,sp2,G2,SF2,j1,j2,j3⟩;have e0:=Ze5 cp;rw[hC.out]at e0;cases e0;have J:=zH (FIN.out S' w2 ⟨Yl q mb2 G2 SF2,⟨mb2,sp2,G2,SF2,j1,fun k=>Iff.rfl⟩,j2.weaken (fun b hb=>(K2.out b).2 hb),fun b hb=>(j3 b hb).imp (fun e=>(K2.out b).2 e) id⟩);have hS2:=(j2.block p3 (Zk hh) NX.out).trans hh;clear cp hi2 j1 j2 j3;dsimp only;refine zK hK hS2 (fun hh=>?_);clear hK K;refine zW 11 rfl (.int .i64 z) ?_;refine zE ?_;go_wp2;go_ret;exact⟨rfl,J.out⟩
theorem ZaR {B:Nat}{W:World}{p:Nat}{c:Y6}(h:B<=W.heap.size)(hp:B<=p):Below B W (W.setRow p c):=
 (Zb.of_grown (S:=fun k=>k=p) (YI W p c) (fun k e=>(Option.some.inj e).symm)).below (Below.refl B W) h (fun k e=>by rw[show k=p from e];exact hp)
theorem QA (x y:Int)(v:zA×Nat×Nat):(#[Value.int .i64 x,.int .i64 y,.slice v.1 v.2.1 v.2.2]:Y6).all (·.oneCell')=true:=by simp[Value.oneCell']
def Zei:Value := .agg #[.int .i64 0,.int .i64 0,.slice none 0 0]
theorem Z3L (p:Nat)(F:Nat->Prop)(V:ZO)(i:Int)(w:World)(h:VO w p F V)(hi:Uj V i=none):
  Calls zq 144 #[.pointer (some ⟨p,0,none⟩),.int .i64 i] w fun e w'=>e = .returned (.tuple #[Zei,.int .i64 3])/\Below w.heap.size w w':=by
 obtain⟨ps,Fs,ha,hc,xs,ma,mc,h1,h2⟩:=h.open;have hn:=Z5A hi;rw[h1.nm]at hn;have b0:=zB w (.cells #[.int .i64 0,.int .i64 0,.slice none 0 0] 152);have B0:=zH b0;have P0:=zH (Z7 b0 h1.blk);have X0:=zH (Za w (.cells #[.int .i64 0,.int .i64 0,.slice none 0 0] 152));clear h1 h2 h hi b0;go_enter Tryz.func144,Tryz.ntmps144;go_upto_region 1 with fail;obtain⟨p4,hp4⟩:=zX (w.heap.size);rw[hp4.out]at X0 ⊢;generalize w.alloc (.cells #[.int .i64 0,.int .i64 0,.slice none 0 0] 152)=W0 at *;have c1:=Z6 P0.out 1 (.slice ma xs.length mc) rfl;have I3:=zH (show(zq.info? 152).map (·.size)=some (#[Value.int .i64 0,.int .i64 0,.slice none 0 0]:Y6).size from by kernel_rfl);have FB:Hid (Below w.heap.size w (W0.setRow p4 #[.int .i64 0,.int .i64 0,.slice none 0 0])):=zH (B0.out.trans (ZaR B0.out.size (by rw[hp4.out];exact Nat.le_refl _)));rcases Int.lt_or_le i 0 with hi0 | hi0
 focus
  have t1:decide (i < 0)=true:=by simp[hi0]
 rotate_left
 focus
  have t1:decide (i < 0)=false:=by simp;omega
  have t2:decide ((xs.length:Int)<=i)=true:=by simp;omega
 all_goals
  clear hn hi0;go_wp2_with (refine Xy rfl 152 _ _ rfl p4 #[.int .i64 0,.int .i64 0,.slice none 0 0] #[.int .i64 0,.int .i64 0,.slice none 0 0] 152 rfl rfl X0.out I3.out rfl (QA 0 0 (none,0,0)) ?_);refine bodyPost_ret (ZI rfl _ _ p4 152 #[.int .i64 0,.int .i64 0,.slice none 0 0] (0,0) _ rfl (Yz _ _ _ _ _ _ X0.out) Tryz.underlying152 rfl I3.out) rfl ?_;exact⟨rfl,FB.out⟩
theorem Z6p (ma:zA)(n n' c:Nat):Value.ownBlock (.slice ma n c)=Value.ownBlock (.slice ma n' c):=by cases ma <;> rfl
section
variable {PH:World->Nat->(Nat->Prop)->Zf->Prop}{tW tH:TypeId}{bf:Value->Value->Y6}{w w1 w2 w3:World}{p:Nat}{ps:List Nat}{Fs:List (Nat->Prop)}{ha:zA}{hc:Nat}{xs:List LM}{ma:zA}{mc:Nat}{V:ZO}
theorem UK.drop (hp:Qf PH)(h:UK PH tW tH bf w p ps Fs ha hc xs ma mc V)(n1:152≠tH)(n2:152≠tW)(n3:tH≠tW)(n4:5≠152)(n5:5≠tW){k:Nat}(hk:k < xs.length)(hb1:Below w.heap.size w w1)
  (ho:w2.ownsRow 0 152 3 (.slice ma (xs.length - 1) mc) (xs.length - 1) (ZD (xs.eraseIdx k))) (hg:Zb (fun j=>Value.ownBlock (.slice ma xs.length mc)=some j) w1 w2)
  (hb:w3.heap[p]? = some (.cells (bf (.slice ha ps.length hc) (.slice ma (xs.length - 1) mc)) tW (0,0))) (hs:Zb (fun j=>j=p) w2 w3):
  UK PH tW tH bf w3 p ps Fs ha hc (xs.eraseIdx k) ma mc { V with ms:=V.ms.eraseIdx k } /\ Zb (wF p Fs ha ps.length hc xs ma mc) w w3 /\ ∀j,wF p Fs ha ps.length hc (xs.eraseIdx k) ma mc j->wF p Fs ha ps.length hc xs ma mc j:=by
 have e1:xs.length - 1=(xs.eraseIdx k).length:=by rw[List.length_eraseIdx,if_pos hk]
 rw[e1]at ho hb;have hX:Zb (fun j=>j=p\/Value.ownBlock (.slice ma xs.length mc)=some j) w w3:=by
  have g1:Zb (fun j=>j=p\/Value.ownBlock (.slice ma xs.length mc)=some j) w w1:=Zb.of_below hb1;exact(g1.trans (hg.weaken fun j hj=>.inr hj)).trans (hs.weaken fun j hj=>.inl hj)
 have hmh:=Qx h.mrow h.hrow n1;have q1 : ∀j,(j=p\/Value.ownBlock (.slice ma xs.length mc)=some j) -> ¬Z0i Fs j/\Value.ownBlock (.slice ha ps.length hc)≠some j:=fun j hj=>by
  rcases hj with e | hj
  ·rw[e];exact⟨h.sp,ZK h.hrow h.blk n3⟩
  ·exact⟨fun hF=>h.sm j hF hj,hmh j hj⟩
 have q2:w3.ownsRow 0 152 3 (.slice ma (xs.eraseIdx k).length mc) (xs.eraseIdx k).length (ZD (xs.eraseIdx k)):=by
  refine Ze ho hs (fun b hb2 e=>?_);rw[show b=p from e,Z6p ma _ xs.length mc]at hb2;exact ZK h.mrow h.blk n2 hb2
 have hin : ∀y,y∈xs.eraseIdx k->y∈xs:=fun y hy=>(List.eraseIdx_sublist xs k).mem hy;have q3 : ∀y∈xs.eraseIdx k,w3.ownsRow 0 5 1 y.val y.m.body.length (y.m.body.map Zr):=fun y hy=>by
  refine Ze (h.bod y (hin y hy)) hX (fun b hb2 e=>?_);rcases e with e | e
  ·exact ZK (h.bod y (hin y hy)) h.blk n5 (e ▸ hb2)
  ·exact Qx (h.bod y (hin y hy)) h.mrow n4 b hb2 e
 have q4 : ∀j,(Value.ownBlock (.slice ma (xs.eraseIdx k).length mc)=some j \/ ∃y∈xs.eraseIdx k,y.val.ownBlock=some j)->w.heap.size<=j\/Value.ownBlock (.slice ma xs.length mc)=some j \/ ∃y∈xs,y.val.ownBlock=some j:=fun j hj=>by
  rcases hj with hj | ⟨y,hy,hj⟩
  ·exact .inr (.inl (by rw[Z6p ma xs.length (xs.eraseIdx k).length mc];exact hj))
  ·exact .inr (.inr ⟨y,hin y hy,hj⟩)
 obtain⟨g1,g2⟩:=h.mail hp hX q1 hb q2 q3 q4;have e3:(xs.eraseIdx k).map LM.m=V.ms.eraseIdx k:=by rw[<-h.mls,List.eraseIdx_eq_take_drop_succ,List.eraseIdx_eq_take_drop_succ,List.map_append,List.map_take,List.map_drop]
 rw[e3]at g1;refine⟨g1,hX.weaken (fun j hj=>?_),fun j hj=>?_⟩
 ·rcases hj with e | hj
  ·exact .inl e
  ·exact .inr (.inr (.inr (.inl hj)))
 ·rcases hj with e | e | e | e | ⟨y,hy,e⟩
  ·exact .inl e
  ·exact .inr (.inl e)
  ·exact .inr (.inr (.inl e))
  ·exact .inr (.inr (.inr (.inl (by rw[Z6p ma xs.length (xs.eraseIdx k).length mc];exact e))))
  ·exact .inr (.inr (.inr (.inr ⟨y,hin y hy,e⟩)))
end
theorem zu (p:Nat)(F:Nat->Prop)(V:ZO)(i:Int)(m:MlV)(w:World)(h:VO w p F V)(hi:Uj V i=some m):
  Calls zq 144 #[.pointer (some ⟨p,0,none⟩),.int .i64 i] w fun e w' => ∃ba bc,e = .returned (.tuple #[.agg #[.int .i64 m.frm,.int .i64 m.to,.slice ba m.body.length bc],.int .i64 0])/\Ye w' ba m.body.length bc m.body/\Yr w p F (XT V i) w':=by
 obtain⟨ps,Fs,ha,hc,xs,ma,mc,h1,h2⟩:=h.open;obtain⟨k,rfl,ek,hk⟩:=UW hi;have hkx:k < xs.length:=by rw[<-h1.nm];exact(List.getElem?_eq_some_iff.1 hk).1
 obtain⟨x,hx,hxm⟩ : ∃x,xs[k]? = some x/\x.m=m:=by
  rw[<-h1.mls,List.getElem?_map]at hk;cases hq:xs[k]? with
  | none=>rw[hq]at hk;cases hk
  | some x=>rw[hq]at hk;exact⟨x,rfl,Option.some.inj hk⟩
 subst hxm;have b0:=zB w (.cells #[.int .i64 0,.int .i64 0,.slice none 0 0] 152);have hr:=Y3.of_own (Zd h1.mrow b0);have hmx:=hr.maxn;obtain⟨b,off,rfl,hat⟩:=Zdw hr (by omega);have X0:=zH (Za w (.cells #[.int .i64 0,.int .i64 0,.slice none 0 0] 152));have I3:=zH (show ∀x y z:Value,(zq.info? 152).map (·.size)=some (#[x,y,z]:Y6).size from fun x y z=>by kernel_rfl);have J3:=zH (show(zq.info? 152).map (·.size)=some x.cells.length from by kernel_rfl);have H0:=zH h1;have B0:=zH b0;have HX:Hid ((w.alloc (.cells #[.int .i64 0,.int .i64 0,.slice none 0 0] 152)).rangeAt b (off+k * 3) x.cells):=zH (fun j v hv=>by
  rw[Nat.add_assoc];exact hat _ v (Z1w hx j v hv))
 have P0:=zH (Z7 b0 h1.blk);have hix:=fun W=>Yi (W:=W) (c:=mc) (b:=b) (off:=off) Tryz.underlying89 (show(zq.info? 152).map (·.size)=some 3 by kernel_rfl) hkx (rfl:off+k * 3=off+k * 3);have t1:decide ((k:Int) < 0)=false:=by simp
 have t2:decide (xs.length<=k)=false:=by simp;omega
 have E1:=zH (show wrap64 ((k:Int)+1)=(k:Int)+1 by unfold wrap64;omega);have HK:=zH hkx;have HX1:=zH hx;have H2:=zH h2;clear h1 h2 h hi hk hr hat b0 hx hkx hmx ek;go_enter Tryz.func144,Tryz.ntmps144;go_upto_region 1 with fail;obtain⟨p4,hp4⟩:=zX (w.heap.size);rw[hp4.out]at X0 ⊢;generalize w.alloc (.cells #[.int .i64 0,.int .i64 0,.slice none 0 0] 152)=W0 at *;have c1:=Z6 P0.out 1 (.slice (some ⟨b,off,none⟩) xs.length mc) rfl;go_upto_region 4 with (first
  |(refine wpList_load_mid rfl 152 _ rfl b (off+k * 3) rfl x.cells _ HX.out Tryz.underlying152 rfl (by exact J3.out) ?_)
  |(refine Zv W0 rfl 152 _ _ rfl W0.heap.size rfl _ #[.int .i64 x.m.frm,.int .i64 x.m.to,x.val] rfl rfl (I3.out _ _ _) rfl (QA x.m.frm x.m.to (x.a,x.m.body.length,x.c)) ?_)
  | fail)
 have b1:Below W0.heap.size W0 (W0.alloc (.cells #[.int .i64 x.m.frm,.int .i64 x.m.to,x.val] 152)):=zB _ _;have X6:=zH (Za W0 (.cells #[.int .i64 x.m.frm,.int .i64 x.m.to,x.val] 152));have X4:=zH (Z7 b1 X0.out);have P1:=zH (Z7 b1 P0.out);have B1:=zH (B0.out.trans (b1.mono B0.out.size));have O1:=zH (Zd H0.out.mrow B1.out);have L6:=zH (show p4 < W0.heap.size from Zk X0.out);obtain⟨p6,hp6⟩:=zX (W0.heap.size);rw[hp6.out]at X6 L6 ⊢;generalize W0.alloc (.cells #[.int .i64 x.m.frm,.int .i64 x.m.to,x.val] 152)=W1 at *;clear b1 c1 hix t1 t2 HX P0 X0 B0;have c1:=Z6 P1.out 1 (.slice (some ⟨b,off,none⟩) xs.length mc) rfl;have e1:=E1.out;go_wp2_with fail;refine(Z7D xs (some ⟨b,off,none⟩) mc k W1 O1.out HK.out).mono ?_;rintro e W2 ⟨rfl,o2,s2⟩;have hm4 : ¬(Value.ownBlock (.slice (some ⟨b,off,none⟩) xs.length mc)=some p4):=fun e=>by
  have h5:=(H0.out.mrow.lt p4 e).2;have h6:=hp4.out;omega
 have hm6 : ¬(Value.ownBlock (.slice (some ⟨b,off,none⟩) xs.length mc)=some p6):=fun e=>by
  have h5:=(H0.out.mrow.lt p6 e).2;have h6:=hp4.out;have h7:=L6.out;omega
 have hmp : ¬(Value.ownBlock (.slice (some ⟨b,off,none⟩) xs.length mc)=some p):=ZK H0.out.mrow H0.out.blk (by decide);have P2:=zH ((s2.block p (Zk P1.out) hmp).trans P1.out);have X42:=zH ((s2.block p4 (Zk X4.out) hm4).trans X4.out);have X62:=zH ((s2.block p6 (Zk X6.out) hm6).trans X6.out);have O2:=zH o2;have S2:=zH s2;clear c1 o2 s2 hm4 hm6 hmp;have c1:=Z6 P2.out 1 (.slice (some ⟨b,off,none⟩) xs.length mc) rfl;have f1:=Zq P2.out 1;go_upto_region 5 with fail;have PL:=Zk H0.out.blk;have hp46:=hp4.out;have l6:=L6.out;have s3:=JN W2 p 1 (.slice (some ⟨b,off,none⟩) (xs.length - 1) mc);have P3:(W2.setCell ⟨p,1,none⟩ (.slice (some ⟨b,off,none⟩) (xs.length - 1) mc)).heap[p]? = some (.cells (bfP (.slice ha ps.length hc) (.slice (some ⟨b,off,none⟩) (xs.length - 1) mc)) 141 (0,0)):=ZM P2.out 1 _;have X43:=zH ((s3.block p4 (Zk X42.out) (by omega)).trans X42.out);have X63:=zH ((s3.block p6 (Zk X62.out) (by omega)).trans X62.out);have DR:=zH (H0.out.drop Zl (by decide) (by decide) (by decide) (by decide) (by decide) HK.out B1.out O2.out S2.out P3 s3);have hbx:=H0.out.bod x (List.mem_of_getElem? HX1.out);have ob1:=Ze (Ze (Zd hbx B1.out) S2.out (fun j hj e=>Qx hbx H0.out.mrow (by decide) j hj e)) s3 (fun j hj e=>ZK hbx H0.out.blk (by decide) (show x.val.ownBlock=some p from(show j=p from e) ▸ hj));have OB:=zH ob1;have HB4:=zH (show x.val.ownBlock≠some p4 from fun e=>by have:=(hbx.lt p4 e).2;omega);have N4:Hid (¬wF p Fs ha ps.length hc xs (some ⟨b,off,none⟩) mc p4):=zH (fun e=>by have:=H0.out.lt Zl p4 e;omega);clear s3 P3 hbx ob1 c1 f1 PL hp46 l6 e1;generalize W2.setCell ⟨p,1,none⟩ (.slice (some ⟨b,off,none⟩) (xs.length - 1) mc)=W3 at *;go_wp2_with (first
  |(refine wpList_load_row rfl 152 _ rfl p6 rfl 152 #[.int .i64 x.m.frm,.int .i64 x.m.to,x.val] (0,0) _ X63.out Tryz.underlying152 rfl (I3.out _ _ _) ?_)
  |(refine Xy rfl 152 _ _ rfl p4 #[.int .i64 0,.int .i64 0,.slice none 0 0] #[.int .i64 x.m.frm,.int .i64 x.m.to,x.val] 152 rfl rfl X43.out (I3.out _ _ _) rfl (QA x.m.frm x.m.to (x.a,x.m.body.length,x.c)) ?_)
  | fail)
 refine bodyPost_ret (ZI rfl _ _ p4 152 #[.int .i64 x.m.frm,.int .i64 x.m.to,x.val] (0,0) _ rfl (Yz _ _ _ _ _ _ X43.out) Tryz.underlying152 rfl (I3.out _ _ _)) rfl ?_;have s4:Zb (fun k=>k=p4) W3 (W3.setRow p4 #[.int .i64 x.m.frm,.int .i64 x.m.to,x.val]):=Zb.of_grown (YI W3 p4 _) (fun k e=>(Option.some.inj e).symm);obtain⟨d1,d2,d3⟩:=DR.out;refine⟨x.a,x.c,rfl,Ye.of_own (Ze OB.out s4 (fun j hj e=>HB4.out (by rw[<-show j=p4 from e];exact hj))),?_⟩;rw[H2.out];refine⟨_,⟨ps,Fs,ha,hc,xs.eraseIdx k,some ⟨b,off,none⟩,mc,d1.same Zl s4 (fun j e hF=>N4.out (by rw[<-show j=p4 from e];exact d3 j hF)),fun k=>Iff.rfl⟩,?_,fun j hj=>.inl (d3 j hj)⟩;refine d2.trans2 s4 (fun j e=>.inr ?_);rw[show j=p4 from e,<-hp4.out];exact Nat.le_refl _
theorem Z9K (p:Nat)(F:Nat->Prop)(V:ZO)(a:Ji)(sa:zA)(sc:Nat)(w:World)(h:VO w p F V):
  Calls zq 91 #[.pointer (some ⟨p,0,none⟩),.agg (a.cells sa sc).toArray] w fun e w'=>e = .returned (.int .i64 (Qu V a).2)/\Yr w p F (Qu V a).1 w':=by
 have b0:=zB w (.cells (a.cells sa sc).toArray 67);have C3:=zH (show(a.cells sa sc).toArray[3]? = some (.int .i64 a.idx)from rfl);obtain⟨OA,hOA⟩:=zX ((a.cells sa sc).toArray);rw[hOA.out]at b0 C3 ⊢;have X0:=zH (Za w (.cells OA 67));have H0:=zH (h.below Zl b0);have B0:=zH b0;obtain⟨Y,hY⟩:=zX (Qu V a);rw[hY.out];have I3:=zH (show ∀x y z:Value,(zq.info? 152).map (·.size)=some (#[x,y,z]:Y6).size from fun x y z=>by kernel_rfl);clear b0 hOA h;go_enter Tryz.func91,Tryz.ntmps91;go_upto_region 1 with fail;obtain⟨p3,hp3⟩:=zX (w.heap.size);rw[hp3.out]at X0 ⊢;generalize w.alloc (.cells OA 67)=W0 at *;have c1:=Z6 X0.out 3 (.int .i64 a.idx) C3.out;go_wp2_with fail;cases hm:Uj V a.idx with
 | none=>
  have R:Hid (Y=(V,3)):=zH (hY.out.symm.trans (by unfold Qu;rw[hm]));refine(Z3L p F V a.idx _ H0.out hm).mono ?_;rintro e w1 ⟨rfl,b1⟩;have RR:=zH (((QK.refl H0.out).after B0.out).then Zl (b1.mono (Nat.le_refl _)):Yr w p F V w1);clear b1 c1 hm hY;go_upto_region 2 with (refine Zv w1 rfl 152 _ _ rfl w1.heap.size rfl _ #[.int .i64 0,.int .i64 0,.slice none 0 0] rfl rfl (I3.out _ _ _) rfl (QA 0 0 (none,0,0)) ?_);have RF:=zH (RR.out.then Zl (zB _ (.cells #[.int .i64 0,.int .i64 0,.slice none 0 0] 152)));generalize w1.alloc (.cells #[.int .i64 0,.int .i64 0,.slice none 0 0] 152)=w2 at *;go_wp2;go_ret;rw[R.out];exact⟨rfl,RF.out⟩
 | some m=>
  have R:Hid (Y=(XT V a.idx,0)):=zH (hY.out.symm.trans (by unfold Qu;rw[hm]));refine(zu p F V a.idx m _ H0.out hm).mono ?_;rintro e w1 ⟨ba,bc,rfl,hb,hr⟩;have RR:=zH (hr.after B0.out);clear hb hr c1 hm hY;go_upto_region 2 with (refine Zv w1 rfl 152 _ _ rfl w1.heap.size rfl _ #[.int .i64 m.frm,.int .i64 m.to,.slice ba m.body.length bc] rfl rfl (I3.out _ _ _) rfl (QA m.frm m.to (ba,m.body.length,bc)) ?_);have RF:=zH (RR.out.then Zl (zB _ (.cells #[.int .i64 m.frm,.int .i64 m.to,.slice ba m.body.length bc] 152)));generalize w1.alloc (.cells #[.int .i64 m.frm,.int .i64 m.to,.slice ba m.body.length bc] 152)=w2 at *;go_wp2;go_ret;rw[R.out];exact⟨rfl,RF.out⟩
end Go.Proofs.YtlnhppgfhkkidaaGreat
