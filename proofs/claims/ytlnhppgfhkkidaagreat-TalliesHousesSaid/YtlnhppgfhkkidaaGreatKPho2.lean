/- Parts of the proof, in order. -/
import Derived.StillTailTactics
import Derived.BigRegion
import Derived.RegionTactic
import Derived.Deep.RegionHeld3
import Derived.WalkSmall
import Derived.RangeFuncNested
import Derived.RangeFuncBound
import Derived.RangeFuncCalls
import Derived.RangeFuncLeaves
import Derived.WalkKit
import Derived.OwnWalkIn
import Derived.TacticsInMore
import Derived.LoopNIn
import Derived.LoopIn
import Derived.Shelf.RegionOpen
import Derived.Sort.QuietIn
import Derived.WalkLawsBesides
import Derived.Deep.RegionLaw
import Derived.Test.YtlnhppgfhkkidaaGreatKPho1
set_option linter.unusedSimpArgs false
set_option linter.unusedVariables false
set_option maxHeartbeats 32000000
set_option maxRecDepth 100000
namespace Go.Proofs.YtlnhppgfhkkidaaGreat
open Go.Proofs.Tryz renaming prog → zq
open Go.RowKit
def Z23 (w:World)(a:zA)(n c:Nat)(ls:List (zU)):Prop:=
 ∃vs:List Value,ZX w 1 a n c vs/\ls.length=n /\ ∀i,i < n -> ∃ai ci,vs[i]? = some (.slice ai (ls[i]?.getD []).length ci)/\Yb w ai (ls[i]?.getD []).length ci (ls[i]?.getD [])
theorem Z23.maxn {w:World}{a:zA}{n c:Nat}{ls:List (zU)}(h:Z23 w a n c ls):n<=9223372036854775807:=by obtain⟨_,h,_⟩:=h;exact h.maxn
theorem Z23.below {w w':World}{a:zA}{n c:Nat}{ls:List (zU)}(h:Z23 w a n c ls)(hb:Below w.heap.size w w'):Z23 w' a n c ls:=by
 obtain⟨vs,h1,h2,h3⟩:=h;refine⟨vs,h1.below hb,h2,fun i hi=>?_⟩;obtain⟨ai,ci,h4,h5⟩:=h3 i hi;exact⟨ai,ci,h4,h5.below hb⟩
theorem Z23.at {w:World}{a:zA}{n c:Nat}{ls:List (zU)}(h:Z23 w a n c ls)(hn:0 < n):
  ∃b off,a=some ⟨b,off,none⟩ /\ ∀i,i < n -> ∃ai ci,w.cell? ⟨b,off+i,none⟩=some (.slice ai (ls[i]?.getD []).length ci)/\Yb w ai (ls[i]?.getD []).length ci (ls[i]?.getD []):=by
 obtain⟨vs,h1,h2,h3⟩:=h;obtain⟨b,off,rfl,h4⟩:=h1.at hn;refine⟨b,off,rfl,fun i hi=>?_⟩;obtain⟨ai,ci,h5,h6⟩:=h3 i hi;exact⟨ai,ci,h4 i _ h5,h6⟩
def Vt (ls:List (zU)):Nat->Nat
 | 0=>0
 | k+1=>Vt ls k+(ls[k]?.getD []).length
def Z7G (ls:List (zU)):Nat->zU
 | 0=>[]
 | k+1=>Z7G ls k ++ (ls[k]?.getD [])
theorem Z1a (ls:List (zU)){j k:Nat}(h:j<=k):Vt ls j<=Vt ls k:=by
 induction k with
 | zero=>
  obtain rfl:j=0:=by omega
  exact Nat.le_refl _
 | succ k ih=>
  rcases Nat.lt_or_ge j (k+1)with h1 | h1
  ·exact Nat.le_trans (ih (by omega)) (Nat.le_add_right _ _)
  ·obtain rfl:j=k+1:=by omega
   exact Nat.le_refl _
theorem Z8F (a:zA)(n c:Nat)(ls:List (zU))(w:World)(hr:Z23 w a n c ls)(hn:Vt ls n<=140737488355328):
  Calls zq 160 #[.slice a n c] w fun e w' => ∃a' c',e = .returned (.slice a' (Vt ls n) c')/\w'.ownsRow w.heap.size 5 1 (.slice a' (Vt ls n) c') (Vt ls n) ((Z7G ls n).map Zt)/\Below w.heap.size w w':=by
 have hm:=hr.maxn;go_enter Tryz.func160,Tryz.ntmps160;go_wp2;go_loop [3,5,11] (fun s _ i=>∃k:Nat,k<=n/\i = .int .i64 k/\s = .int .i64 (Vt ls k)) (fun _ _ i=>n - (intOf i).toNat)
 case atStart=>exact⟨0,Nat.zero_le _,rfl,rfl⟩
 case round=>
  obtain⟨k,hk,rfl,rfl⟩:=hrel;have hk1:=Z1a ls hk;by_cases hlt:k < n
  ·obtain⟨b,off,rfl,hc⟩:=hr.at (by omega);obtain⟨ai,ci,hcell,_⟩:=hc k hlt;have hk2:=Z1a ls (show k+1<=n from hlt);simp only[Vt]at hk2;clear hc;go_wp2;go_round
   case rel=>exact⟨k+1,by omega,by go_num,by simp[Vt]⟩
   case measure=>simp[intOf];omega
  ·obtain rfl:k=n:=by omega
   clear hk1;go_wp2_with (go_at_call 198;refine(Zb6 _ _ hn).mono ?_;rintro e w1 ⟨ga,gc,rfl,hown,hb⟩);go_loopw [6,8,27] (fun v _ i wr=>∃(j:Nat) (ja:zA) (jc:Nat),j<=k/\i = .int .i64 j/\v = .slice ja (Vt ls j) jc/\wr.ownsRow w.heap.size 5 1 (.slice ja (Vt ls j) jc) (Vt ls j) ((Z7G ls j).map Zt)/\Below w.heap.size w wr) (fun _ _ i _=>k - (intOf i).toNat)
   case atStart=>exact⟨0,ga,gc,Nat.zero_le _,rfl,rfl,hown,hb⟩
   case round=>
    obtain⟨j,ja,jc,hj,rfl,rfl,hownj,hbj⟩:=hrel;by_cases hlt:j < k
    ·obtain⟨b,off,rfl,hc⟩:=(hr.below hbj).at (by omega);obtain⟨ai,ci,hcell,hrd⟩:=hc j hlt;have hk2:=Z1a ls (show j+1<=k from hlt);simp only[Vt]at hk2;have hsz:=hbj.size;clear hc hr hown hb;go_wp2_with (at_builtin;refine Jw _ rfl _ _ rfl w.heap.size _ _ _ _ rfl hownj _ _ _ _ rfl hrd (by omega) hsz ?_;intro a' c' w' h1 h2);go_roundw
     case rel=>exact⟨j+1,a',c',by omega,by go_num,rfl,h1,hbj.grown h2 hsz (fun q hq=>(hownj.lt q hq).1)⟩
     case measure=>simp[intOf];omega
    ·obtain rfl:j=k:=by omega
     go_wp2;go_ret;exact⟨ja,jc,rfl,hownj,hbj⟩
theorem Z23.pair {w:World}{a1 a2:zA}{n1 n2 c1 c2:Nat}{l1 l2:zU}(h1:Yb w a1 n1 c1 l1)(h2:Yb w a2 n2 c2 l2):
  Z23 (w.alloc (.cells #[.slice a1 n1 c1,.slice a2 n2 c2] 41)) (some ⟨w.heap.size,0,none⟩) 2 2 [l1,l2]:=by
 have hb:=zB w (.cells #[.slice a1 n1 c1,.slice a2 n2 c2] 41);have hown:=World.ownsRow_lit (base:=w.heap.size) (e:=41) (size:=1) w #[.slice a1 n1 c1,.slice a2 n2 c2] 2 (Nat.le_refl _) (by unfold maxLen;omega) rfl;refine⟨[.slice a1 n1 c1,.slice a2 n2 c2],ZX.of_own hown,rfl,fun i hi=>?_⟩;obtain rfl:=h1.len;obtain rfl:=h2.len;rcases(show i=0\/i=1 by omega)with rfl | rfl
 ·exact⟨a1,c1,rfl,h1.below hb⟩
 ·exact⟨a2,c2,rfl,h2.below hb⟩
theorem Z4y (a1 a2:zA)(n1 n2 c1 c2:Nat)(l1 l2:zU)(w:World)(r:zU)(hr:r=l1 ++ l2)(h1:Yb w a1 n1 c1 l1)(h2:Yb w a2 n2 c2 l2)(hn:n1+n2<=140737488355328):
  Calls zq 160 #[.slice (some ⟨w.heap.size,0,none⟩) 2 2] (w.alloc (.cells #[.slice a1 n1 c1,.slice a2 n2 c2] 41)) fun e w' => ∃a' c',e = .returned (.slice a' r.length c')/\w'.ownsRow w.heap.size 5 1 (.slice a' r.length c') r.length (r.map Zt)/\Below w.heap.size w w':=by
 subst hr;have hl1:=h1.len;have hl2:=h2.len;have e1:Vt [l1,l2] 2=(l1 ++ l2).length:=by simp[Vt]
 have e2:Z7G [l1,l2] 2=l1 ++ l2:=by simp[Z7G]
 refine(Z8F _ 2 2 [l1,l2] _ (Z23.pair h1 h2) (by rw[e1,List.length_append];omega)).mono ?_;rintro e w' ⟨a',c',rfl,ho,hb⟩;rw[e1,e2]at *;have hb':=(zB w (.cells #[.slice a1 n1 c1,.slice a2 n2 c2] 41)).trans (hb.mono (by simp));refine⟨a',c',rfl,⟨ho.1,?_⟩,hb'⟩;rcases ho.2 with h | ⟨g,cap,cur,h,hg,hr⟩
 ·exact .inl h
 ·exact .inr ⟨g,cap,cur,h,by simp at hg;omega,hr⟩
def ZT (l:zU):zU:=two l.length ++ l
def Y5 (l:zU):zU:=two l.length ++ two (chk l)
theorem Z0c (l:zU):(ZT l).length=l.length+2:=by simp[ZT,two];
theorem Z1l (l:zU):(Y5 l).length=4:=rfl
theorem Zp {w:World}{B base:Nat}{e:TypeId}{k:Nat}{v:Value}{n:Nat}{xs:List Value}(h:w.ownsRow base e k v n xs)(hB:B<=base):w.ownsRow B e k v n xs:=by
 refine⟨h.1,?_⟩;rcases h.2 with h | ⟨g,cap,cur,h,hg,hr⟩
 ·exact .inl h
 ·exact .inr ⟨g,cap,cur,h,by omega,hr⟩
theorem Zb {w w':World}{base:Nat}{e:TypeId}{k:Nat}{v:Value}{n:Nat}{xs:List Value}(h:w.ownsRow base e k v n xs)(hb:Below w.heap.size w w'):w'.ownsRow base e k v n xs:=by
 refine⟨h.1,?_⟩;rcases h.2 with h | ⟨g,cap,cur,h,hg,hgg,hr⟩
 ·exact .inl h
 ·exact .inr ⟨g,cap,cur,h,hg,(hb.block g (Array.getElem?_eq_some_iff.1 hgg).1).trans hgg,hr⟩
theorem Yb.of_own {w:World}{base:Nat}{e:TypeId}{a:zA}{n c:Nat}{l:zU}(h:w.ownsRow base e 1 (.slice a n c) n (l.map Zt)):Yb w a n c l:=ZX.of_own h
theorem Z1j (a:zA)(n c:Nat)(l:zU)(w:World)(hr:Yb w a n c l)(hn:n < 65536):
  Calls zq 107 #[.slice a n c] w fun e w' => ∃a1 c1 a2 c2,e = .returned (.tuple #[.slice a1 (ZT l).length c1,.slice a2 (Y5 l).length c2]) /\
   w'.ownsRow w.heap.size 5 1 (.slice a1 (ZT l).length c1) (ZT l).length ((ZT l).map Zt)/\w'.ownsRow w.heap.size 5 1 (.slice a2 (Y5 l).length c2) (Y5 l).length ((Y5 l).map Zt)/\Below w.heap.size w w':=by
 have hl:=hr.len;have HL:=zH hl;clear hl;have hk:=Z8I l;go_enter Tryz.func107,Tryz.ntmps107;go_wp2_with fail;refine(Z5H n _ hn).mono ?_;rintro e w1 ⟨a1,c1,rfl,ho1,hb1⟩;have h1:=Yb.of_own ho1;have hr1:=hr.below hb1;go_wp2_with fail;refine(Z4y _ _ _ _ _ _ _ _ _ (ZT l) (by rw[ZT,HL.out]) h1 hr1 (by omega)).mono ?_;rintro e w2 ⟨a2,c2,rfl,ho2,hb2⟩;have hb12:=hb1.trans (hb2.mono hb1.size);go_wp2_with fail;refine(Z5H n _ hn).mono ?_;rintro e w3 ⟨a3,c3,rfl,ho3,hb3⟩;have h3:=Yb.of_own ho3;have hb13:=hb12.trans (hb3.mono hb12.size);have hr3:=hr.below hb13;go_wp2_with fail;refine(Zaa _ n c l _ (by omega) hr3).mono ?_;rintro e w' ⟨rfl,rfl⟩;go_wp2_with fail;refine(Z5H (chk l) _ (by omega)).mono ?_;rintro e w4 ⟨a4,c4,rfl,ho4,hb4⟩;have h4:=Yb.of_own ho4;have h34:=h3.below hb4;have hb14:=hb13.trans (hb4.mono hb13.size);go_wp2_with fail;refine(Z4y _ _ _ _ _ _ _ _ _ (Y5 l) (by rw[Y5,HL.out]) h34 h4 (by omega)).mono ?_;rintro e w5 ⟨a5,c5,rfl,ho5,hb5⟩;have hb15:=hb14.trans (hb5.mono hb14.size);have h25:=Zp (Zb (Zb (Zb ho2 hb3) hb4) hb5) hb1.size;have h5:=Zp ho5 hb14.size;clear ho1 ho2 ho3 ho4 ho5 h1 h3 h4 h34 hr1 hr3;go_wp2_with fail;go_ret2;exact⟨a2,c2,a5,c5,rfl,h25,h5,hb15⟩
theorem Z9C (a:zA)(n c:Nat)(l:zU)(w:World)(hr:Yb w a n c l)(hn:n<=8192):
  Calls zq 46 #[.slice a n c] w fun e w' => ∃a1 c1 a2 c2,e = .returned (.tuple #[.slice a1 (ZT l).length c1,.slice a2 (Y5 l).length c2,.int .i64 0]) /\
   Yb w' a1 (ZT l).length c1 (ZT l)/\Yb w' a2 (Y5 l).length c2 (Y5 l)/\Below w.heap.size w w':=by
 go_enter Tryz.func46,Tryz.ntmps46;go_wp2_with fail;refine(Z1j _ _ _ l _ hr (by omega)).mono ?_;rintro e w1 ⟨a1,c1,a2,c2,rfl,h1,h2,hb⟩;go_wp2_with fail;go_ret3;exact⟨a1,c1,a2,c2,rfl,Yb.of_own h1,Yb.of_own h2,hb⟩
theorem Z83 (a:zA)(n c:Nat)(l:zU)(w:World)(hr:Yb w a n c l)(hn:n<=8192):
  Calls zq 183 #[.slice a n c] w fun e w' => ∃a1 c1 a2 c2,e = .returned (.tuple #[.slice a1 (ZT l).length c1,.slice a2 (Y5 l).length c2,.int .i64 0]) /\
   Yb w' a1 (ZT l).length c1 (ZT l)/\Yb w' a2 (Y5 l).length c2 (Y5 l)/\Below w.heap.size w w':=by
 have hl:=hr.len;have HL:=zH hl;clear hl;have hk:=Z8I l;go_enter Tryz.func183,Tryz.ntmps183;go_wp2_with fail;refine(Z3N n _ (by omega)).mono ?_;rintro e w1 ⟨a1,c1,rfl,ho1,hb1⟩;have hr1:=hr.below hb1;go_wp2_with (at_builtin;refine Jw _ rfl _ _ rfl w.heap.size _ _ _ _ rfl ho1 _ _ _ _ rfl hr1 (by omega) hb1.size ?_;intro a2 c2 w2 ho2 hg2);have hb2:=hb1.grown hg2 hb1.size (fun q hq=>(ho1.lt q hq).1);have hr2:=hr.below hb2;have h2:Yb w2 a2 (2+n) c2 (ZT l):=by have:=Yb.of_own ho2;rwa [show two n ++ l=ZT l by rw[ZT,HL.out]]at this
 have hlen:(ZT l).length=2+n:=h2.len;have HN:=zH hlen;clear hlen;clear ho1 hr1 ho2;refine(Z3N n _ (by omega)).mono ?_;rintro e w3 ⟨a3,c3,rfl,ho3,hb3⟩;have h23:=h2.below hb3;have hb13:=hb2.trans (hb3.mono hb2.size);have hr3:=hr.below hb13;go_wp2_with fail;refine(Z3W _ n c l _ (by omega) hr3).mono ?_;rintro e w' ⟨rfl,rfl⟩;go_wp2_with fail;refine(Z3N (chk l) _ (by omega)).mono ?_;rintro e w4 ⟨a4,c4,rfl,ho4,hb4⟩;have h24:=h23.below hb4;have hb14:=hb13.trans (hb4.mono hb13.size);have ho34:=Zb ho3 hb4;have h4:=Yb.of_own ho4;have hsz:=hb4.size;have hsz3:=hb3.size;clear ho3 ho4 hr3;go_wp2_with (at_builtin;refine Jw _ rfl _ _ rfl w2.heap.size _ _ _ _ rfl ho34 _ _ _ _ rfl h4 (by omega) (by omega) ?_;intro a5 c5 w5 ho5 hg5);have hb5:=hb14.grown hg5 hb14.size (fun q hq=>by have:=(ho34.lt q hq).1;have:=hb2.size;omega);have h25:=h2.below ((hb3.trans (hb4.mono hb3.size)).grown hg5 (by omega) (fun q hq=>(ho34.lt q hq).1));have h5:Yb w5 a5 (2+2) c5 (Y5 l):=by have:=Yb.of_own ho5;rwa [show two n ++ two (chk l)=Y5 l by rw[Y5,HL.out]]at this
 go_wp2_with fail;go_ret3;rw[HN.out];exact⟨a2,c2,a5,c5,rfl,h25,h5,hb5⟩
theorem Z0Q {ops:Array Oper}{rest:List Oper}{o:Oper}{a:Act}{Q:Exit->Act->World->Prop}(w:World)(hgd:o.guard=none)(s x:Operand)
  (ho:o.op = .call { callee := .builtin .append,args := #[s,x],argTypes := #[41,41] }) (base:Nat)
  (sa:zA) (sn sc:Nat) (xs:zU) (hs:a.eval s = .slice sa sn sc) (hown:w.ownsRow base 5 1 (.slice sa sn sc) sn (xs.map Zt))
  (c:UInt8) (v:Int) (hv:v=(c.toNat:Int)) (hx:a.eval x = .slice (some ⟨w.heap.size,0,none⟩) 1 1) (hbytes:sn+1<=140737488355328) (hbase:base<=w.heap.size)
  (h : ∀a' c' w',w'.ownsRow base 5 1 (.slice a' (sn+1) c') (sn+1) ((xs ++ [c]).map Zt)->XQ base w w'->wpList zq ops Q rest (a.put o.dst (.slice a' (sn+1) c')) w'):
  wpList zq ops Q (o :: rest) a (w.alloc (.cells #[.int .u8 v] 5)):=by
 subst hv;have hb:Below w.heap.size w (w.alloc (.cells #[.int .u8 (c.toNat:Int)] 5)):=zB _ _;have hr:(w.alloc (.cells #[.int .u8 (c.toNat:Int)] 5)).ownsRow w.heap.size 5 1 (.slice (some ⟨w.heap.size,0,none⟩) 1 1) 1 ([c].map Zt):=
  World.ownsRow_lit (base:=w.heap.size) (e:=5) (size:=1) w #[.int .u8 (c.toNat:Int)] 1 (Nat.le_refl _) (by unfold maxLen;omega) rfl
 have ho2:=Zb hown hb;exact Jw _ hgd s x ho base sa sn sc xs hs ho2 _ 1 1 [c] hx (Yb.of_own hr) hbytes (Nat.le_trans hbase hb.size)
  (fun a' c' w' h1 h2=>h a' c' w' h1 ((XQ.of_below hb).trans (XQ.of_own ho2 h2)))
theorem ZbK (m:Nat)(h:m < 18446744073709551616):bits .xor .u64 IntKind.u64.max (m:Int)=((18446744073709551615 - m:Nat):Int):=by
 have h2:(BitVec.ofInt 64 (m:Int)).toNat=m:=by
  rw[BitVec.ofInt_natCast,BitVec.toNat_ofNat];exact Nat.mod_eq_of_lt (by omega)
 show IntKind.u64.wrap ((BitVec.ofInt 64 18446744073709551615 ^^^ BitVec.ofInt 64 (m:Int)).toNat:Int)=_;rw[show BitVec.ofInt 64 18446744073709551615=BitVec.allOnes 64 from rfl,BitVec.allOnes_xor,BitVec.toNat_not,h2,IntKind.wrap_u64];omega
theorem ZbJ {z:Int}(h:Qm z)(hn:z < 0):bits .xor .u64 IntKind.u64.max (IntKind.u64.wrap (2 * IntKind.u64.wrap z))=(zig z:Int):=by
 unfold Qm at h;rw[IntKind.wrap_u64,IntKind.wrap_u64,show 2 * (z % 18446744073709551616) % 18446744073709551616=((18446744073709551616+2 * z).toNat:Int)by omega,ZbK _ (by omega)];unfold zig;rw[if_neg (by omega)];omega
theorem Z8T {z:Int}(h:Qm z)(hn:0<=z):IntKind.u64.wrap (2 * IntKind.u64.wrap z)=(zig z:Int):=by
 unfold Qm at h;rw[IntKind.wrap_u64,IntKind.wrap_u64];unfold zig;rw[if_pos hn];omega
theorem Zdj (v:Nat):bits .or .u8 ((v:Int) % 256) 128=((v % 128+128:Nat):Int):=by
 rw[show(v:Int) % 256=((v % 256:Nat):Int)by omega,show(128:Int)=((128:Nat):Int)from rfl,u8_or_nat _ _ (by omega) (by omega)];congr 1;have h1:v % 256=v % 256 / 128 * 128+v % 128:=by omega
 by_cases h:v % 256 < 128
 ·rw[Nat.or_comm,nat_join 7 128 (v % 256) (by omega) (by omega)];omega
 ·have h2:v % 256=128 ||| v % 128:=by rw[nat_join 7 128 (v % 128) (by omega) (by omega)];omega
  rw[h2,Nat.or_comm,<-Nat.or_assoc,Nat.or_self,nat_join 7 128 (v % 128) (by omega) (by omega)];omega
theorem Z0O (zs:List Int)(k:Nat):(ZK (zs.take k)).length<=(ZK zs).length:=by
 have h:=Uv (zs.take k) (zs.drop k);rw[List.take_append_drop]at h;rw[h,List.length_append];omega
theorem Z1B (base:Nat)(sa:zA)(sn sc:Nat)(xs:zU)(la:zA)(n lc:Nat)(zs:List Int)(w:World)(hbase:base<=w.heap.size)
  (hown:w.ownsRow base 5 1 (.slice sa sn sc) sn (xs.map Zt)) (hr:Xe w la n lc zs) (hap:0 < n->ze base w la) (hz : ∀z∈zs,Qm z) (hlen:(xs ++ ZK zs).length<=140737488355328):
  Calls zq 143 #[.slice sa sn sc,.slice la n lc] w fun e w' => ∃a' c',e = .returned (.slice a' (xs ++ ZK zs).length c') /\
   w'.ownsRow base 5 1 (.slice a' (xs ++ ZK zs).length c') (xs ++ ZK zs).length ((xs ++ ZK zs).map Zt)/\XQ base w w':=by
 have hn:=hr.maxn;have hl:=zH hr.len;have HL:=zH hlen;clear hlen;have HZ:=zH hz;clear hz;have HO:=zH hown;have hsn:sn=xs.length:=by have:=hown.1;simpa using this.symm
 have hsg:IntKind.u64.signed=false:=rfl;clear hown;have HB:=zH hbase;clear hbase;go_enter Tryz.func143,Tryz.ntmps143;go_wp2_with fail;go_loopw [0,6,7,10] (fun b _ _ i wr=>∃(k m:Nat) (a':zA) (c':Nat),b = .slice a' m c'/\k<=n/\i = .int .i64 k/\Hid (wr.ownsRow base 5 1 (.slice a' m c') m ((xs ++ ZK (zs.take k)).map Zt))/\Hid (XQ base w wr)) (fun _ _ _ i _=>n - (intOf i).toNat)
 case atStart=>exact⟨0,sn,sa,sc,rfl,Nat.zero_le _,rfl,zH (by simpa [ZK] using HO.out),zH (XQ.refl _ _)⟩
 case round=>
  obtain⟨k,m,a',c',rfl,hk,rfl,HW,HA⟩:=hrel;by_cases hlt:k < n
  ·have hap1:=(hap (by omega)).keep' HA.out hr (by omega) (by omega);obtain⟨b,off,rfl,hc⟩:=Xe.at (HA.out.rd hr (hap (by omega))) (by omega);have e1:=hc k hlt;have hk64:(k:Int)<=9223372036854775807:=by omega
   have hzk:=HZ.out (zs[k]?.getD 0) (by rw[List.getElem?_eq_getElem (by rw[hl.out];exact hlt),Option.getD_some];exact List.getElem_mem _);have HT:=zH (VL (l:=zs) (k:=k) (by rw[hl.out];exact hlt));generalize zs[k]?.getD 0=z at *;clear hc;by_cases hneg:z < 0
   focus
    have hu:=ZbJ hzk hneg
   rotate_left
   focus
    have hu:=Z8T hzk (by omega)
   all_goals
    go_wp2_with fail;go_loopw [0,7] (fun b u wi=>∃(v m2:Nat) (ys:zU) (a2:zA) (c2:Nat),b = .slice a2 m2 c2/\u = .int .u64 v/\v < 18446744073709551616/\Hid (ys ++ zZ v=xs ++ ZK (zs.take (k+1)))/\Hid (wi.ownsRow base 5 1 (.slice a2 m2 c2) m2 (ys.map Zt))/\Hid (XQ base w wi)) (fun _ u _=>(intOf u).toNat)
    case atStart=>exact⟨zig z,m,xs ++ ZK (zs.take k),a',c',rfl,rfl,Z5D hzk,zH (by rw[HT.out,List.append_assoc];rfl),HW,HA⟩
    case round=>
     obtain⟨v,m2,ys,a2,c2,rfl,rfl,hv,HY,HW2,HA2⟩:=hrel;have hm2:m2=ys.length:=by have:=HW2.out.1;simpa using this.symm
     have hle:m2+(zZ v).length<=140737488355328:=by
      have h1:=congrArg List.length HY.out;have h2:=HL.out;have h3:=Z0O zs (k+1);simp only[List.length_append]at h1 h2;omega
     have hps:=Z1S v;subst hm2;obtain⟨cb,hcb⟩ : ∃cb,Hid (cb=UInt8.ofNat (v % 128+128)):=⟨_,zH rfl⟩;obtain⟨cd,hcd⟩ : ∃cd,Hid (cd=UInt8.ofNat v):=⟨_,zH rfl⟩;have hb2:base<=wr.heap.size:=Nat.le_trans HB.out HA2.out.size;clear e1;by_cases hge:(128:Int)<=v
     ·have hor:=Zdj v;have hq:IntKind.u64.wrap ((v:Int) / 128)=((v / 128:Nat):Int):=by rw[IntKind.wrap_u64];omega
      go_wp2_with (at_builtin;refine Z0Q _ rfl _ _ rfl base _ _ _ ys rfl HW2.out cb _ (by rw[hcb.out,JV (by omega)];first | omega | rfl) rfl (by omega) hb2 ?_);intro a3 c3 w3 h1 h2;have H1:=zH h1;clear h1;go_wp2;go_roundw
      case rel=>exact⟨v / 128,ys.length+1,ys ++ [cb],a3,c3,rfl,by go_num,by omega,zH (by rw[List.append_assoc,List.singleton_append,hcb.out,<-zO (by omega)];exact HY.out),zH (by rw[List.map_append];exact H1.out),zH (HA2.out.trans h2)⟩
      case measure=>simp[intOf];omega
     ·go_wp2_with (at_builtin;refine Z0Q _ rfl _ _ rfl base _ _ _ ys rfl HW2.out cd (v:Int) (by rw[hcd.out,JV (by omega)]) rfl (by omega) hb2 ?_);intro a3 c3 w3 h1 h2;have H1:=zH h1;clear h1;have HE:=zH (show ys ++ [cd]=xs ++ ZK (zs.take (k+1))by rw[hcd.out,<-zy (by omega)];exact HY.out);go_wp2;go_roundw
      case rel=>exact⟨k+1,ys.length+1,a3,c3,rfl,by omega,by go_num,zH (by rw[<-HE.out,List.map_append];exact H1.out),zH (HA2.out.trans h2)⟩
      case measure=>simp[intOf];omega
  ·have hkn:k=n:=by omega
   subst hkn;have hm:m=(xs ++ ZK zs).length:=by
    have:=HW.out.1;rw[List.take_of_length_le (by rw[hl.out];exact Nat.le_refl _)]at this;simpa using this.symm
   have HWW:=zH (show wr.ownsRow base 5 1 (.slice a' m c') m ((xs ++ ZK zs).map Zt)by
    have:=HW.out;rwa [List.take_of_length_le (by rw[hl.out];exact Nat.le_refl _)]at this)
   subst hm;go_wp2;go_ret;exact⟨_,_,rfl,HWW.out,HA.out⟩
def Z9v (p:Nat)(l:List Nat):List Value:=l.map fun k=>.pointer (some ⟨p,k,none⟩)
def Z8M:List Nat:=[0,1,2,3,4,5,6,7,8,9,10,11,12,13,14]
def Z6j:List Nat:=[16,17,18]
section
variable (p:Nat)(w:World)
theorem Z4v:
  Calls zq 168 #[.pointer (some ⟨p,0,none⟩)] w fun e w'=>e = .returned (.tuple #[.slice (some ⟨w.heap.size,0,none⟩) 15 15,.slice (some ⟨w.heap.size+1,0,none⟩) 3 3]) /\
   w'.heap[w.heap.size]? = some (.cells (Z9v p Z8M).toArray 221 (0,0))/\w'.heap[w.heap.size+1]? = some (.cells (Z9v p Z6j).toArray 221 (0,0))/\Below w.heap.size w w':=by
 go_enter Tryz.func168,Tryz.ntmps168;go_wp2_with fail;go_still_tail 49,(by kernel_rfl);change wpList _ _ _ _ _ w.drew;generalize hw2:w.drew=w2;go_wp2_with fail;generalize hw3:World.alloc _ _=w3;go_region;go_wp2_with fail;go_returns;have hs2:w2.heap.size=w.heap.size:=by rw[<-hw2];rfl
 have b2:Below w.heap.size w w2:=by rw[<-hw2];exact⟨rfl,rfl,rfl,Nat.le_refl _,fun _ _=>rfl⟩
 have hs3:w3.heap.size=w.heap.size+1:=by rw[<-hw3];simp[hs2]
 have b3:Below w.heap.size w w3:=by rw[<-hw3];exact b2.alloc (by omega) _
 have e3:w3.heap[w.heap.size]? = some (.cells (Z9v p Z8M).toArray 221 (0,0)):=by rw[<-hw3,<-hs2];exact Z9 _ _
 have l3:w.heap.size < w3.heap.size:=by omega
 clear hw2 hw3;refine⟨by rw[<-hs3,<-hs2];rfl,?_,?_,?_⟩
 ·exact Z8 w3 _ _ _ e3
 ·rw[<-hs3];exact Z9 w3 _
 ·have b4:=b3.alloc (by omega) (.cells (Z9v p Z6j).toArray 221);exact⟨b4.os,b4.tape,b4.output,b4.size,b4.block⟩
end
section
attribute [local go_sem] ZS Xi Jg Qz Jf Qy Qx Qw Ve Vd JY JX JG JE JD J5 Jj Ji Js Z4b Z4a Z49 Z48 Z47 Z46 Z45 Z44 Z43 Z42 Z2v Z2u Z2t Z2s Z2r Z2q Z2p Z2o Z2n
variable (f:Ys)(n:NoteV)(sa:zA)(sc:Nat)(w:World)
theorem Zb7 (hv:f.valid=true)(hs:Xe w sa n.strokes.length sc n.strokes)(k2:n.kind≠2)(k5:n.kind≠5):
  Calls zq 114 #[f.val,.agg (Z5 n sa sc)] w fun e w'=>e = .returned (.bool (Zf f n))/\Below w.heap.size w w':=by
 have g1:=Zm (w.alloc (zF f 174)) (.cells (Z5 n sa sc) 47) (w.heap.size+1) (by simp);have g0:=Z8 (w.alloc (zF f 174)) (.cells (Z5 n sa sc) 47) _ _ (Zm w (zF f 174) _ rfl);have bb:Below w.heap.size w ((w.alloc (zF f 174)).alloc (.cells (Z5 n sa sc) 47)):=(zB _ _).alloc (by simp) _;have G1:=zH g1;clear g1;have G0:=zH g0;clear g0;have BB:=zH bb;clear bb;go_enter Tryz.func114,Tryz.ntmps114;unfold Ys.val;go_wp2_with (refine zL (w.heap.size+1) G1.out ?_);refine(Z1z f n sa sc _ hv (hs.below BB.out) n.kind).mono ?_;rintro e w1 ⟨ta,tc,rfl,hrd,b1⟩;have SR:=zH hrd;clear hrd;have l1:=(Array.getElem?_eq_some_iff.1 G1.out).1;have z1:=b1.size;have L1:Vs w (w1.alloc (.cells (Z5 (Zo n.kind n) ta tc) 47)) w.heap.size (w.heap.size+1) w1.heap.size f n sa sc (Z5 (Zo n.kind n) ta tc):=
  ⟨Z8 _ _ _ _ ((b1.block _ (by omega)).trans G0.out),Z8 _ _ _ _ ((b1.block _ (by omega)).trans G1.out),Z9 _ _,(BB.out.trans (b1.mono BB.out.size)).alloc (by omega) _,by omega⟩
 have LL1:=zH L1;clear L1 l1 z1 b1;have one1:=Zh (Zo n.kind n) ta tc;have k4:=zc LL1.out.e1 4 _ rfl;have q2:(n.kind==2)=false:=by simp[k2]
 have q2':decide (n.kind=2)=false:=by simp[k2]
 have q5:(n.kind==5)=false:=by simp[k5]
 have q5':decide (n.kind=5)=false:=by simp[k5]
 have hkind:n.kind≠2/\n.kind≠5:=⟨k2,k5⟩;have HK:=zH hkind;clear hkind k2 k5;go_upto_region 11 with (refine zP w1 w1.heap.size (Z5 (Zo n.kind n) ta tc) ?_);generalize hW2:w1.alloc (.cells (Z5 (Zo n.kind n) ta tc) 47)=W2 at *;generalize hp0:w.heap.size=p0 at *;generalize hp1:p0+1=p1 at *;generalize hp2:w1.heap.size=p2 at *;have RDb:=zH (show ∀W',Below p0 w W'->Xe W' ta (Zo n.kind n).strokes.length tc (Zo n.kind n).strokes from fun W' h=>Z3o SR.out (hs.below (by rw[hp0];exact h)));have HP0:=zH hp0;clear hp0 hp1 hp2 hW2 G0 G1 BB SR k4;have j0:=zc LL1.out.e2 0 _ rfl;have z0:=Zl LL1.out.e2 0;have j1:=zc LL1.out.e2 1 _ rfl;have z1:=Zl LL1.out.e2 1;have j2:=zc LL1.out.e2 2 _ rfl;have z2:=Zl LL1.out.e2 2;have j3:=zc LL1.out.e2 3 _ rfl;have z3:=Zl LL1.out.e2 3;have j4:=zc LL1.out.e2 4 _ rfl;have z4:=Zl LL1.out.e2 4;obtain⟨N9,HN9⟩ : ∃N9:NoteV,Hid (N9 = { Zo n.kind n with house:=0,num:=0,clock:=0,day:=0,kind:=0 }):=⟨_,zH rfl⟩;go_upto_region 12 with fail;generalize hW:(((((W2.setCell ⟨p2,0,none⟩ (.int .i64 0)).setCell ⟨p2,1,none⟩ (.int .i64 0)).setCell ⟨p2,2,none⟩ (.int .i64 0)).setCell ⟨p2,3,none⟩ (.int .i64 0)).setCell ⟨p2,4,none⟩ (.int .i64 0))=Wf1 at *;have Lf2:=zH (show Vs w Wf1 p0 p1 p2 f n sa sc (Z5 N9 ta tc)from by rw[HN9.out,<-hW];exact(((((LL1.out.set 0 (.int .i64 0)).set 1 (.int .i64 0)).set 2 (.int .i64 0)).set 3 (.int .i64 0)).set 4 (.int .i64 0)));have RDf3:=zH (show Xe Wf1 ta N9.strokes.length tc N9.strokes from by rw[HN9.out];exact RDb.out _ Lf2.out.b);clear hW;clear j0 z0 j1 z1 j2 z2 j3 z3 j4 z4;cases hok:Yi f n.kind n
 ·have hR:Zf f n=false:=by simp only[Zf,okB,if_neg HK.out.1,if_neg HK.out.2];simp[HK.out,hok]
  have HRX:=zH hR;clear hR;go_wp2;go_ret;rw[HRX.out];exact⟨rfl,by rw[HP0.out];exact Lf2.out.b⟩
 ·go_wp2_with (first
   |(refine zL p1 Lf2.out.e1 ?_)
   |(refine zG p1 Lf2.out.e1 ?_))
  refine(Yx n sa sc _).mono ?_;rintro e wn4 ⟨rfl,b2⟩;have LN6:=zH (Lf2.out.below b2);have RD3:=zH (RDf3.out.below b2);clear b2;go_wp2_with fail;refine(Jv n.house n.num _).mono ?_;rintro e wr5 ⟨rfl,b2⟩;have LR7:=zH (LN6.out.below b2);have RD4:=zH (RD3.out.below b2);clear b2 RD3;cases hrn:Zy n.house n.num
  ·have hR:Zf f n=false:=by simp only[Zf,okB,if_neg HK.out.1,if_neg HK.out.2];simp[HK.out,hok,hrn]
   have HRX:=zH hR;clear hR;go_wp2;go_ret;rw[HRX.out];exact⟨rfl,by rw[HP0.out];exact LR7.out.b⟩
  ·have HRN:=zH hrn;have k2:=zc LR7.out.e1 2 _ rfl;have k3:=zc LR7.out.e1 3 _ rfl;go_wp2_with fail;refine(YJ n.clock 1 1099511627776 _).mono ?_;rintro e w' ⟨rfl,rfl⟩;cases hcl:Xx n.clock 1 1099511627776
   ·have hR:Zf f n=false:=by simp only[Zf,okB,if_neg HK.out.1,if_neg HK.out.2];simp[HK.out,hok,hrn,hcl]
    have HRX:=zH hR;clear hR;go_wp2;go_ret;rw[HRX.out];exact⟨rfl,by rw[HP0.out];exact LR7.out.b⟩
   ·have HCL:=zH hcl;go_wp2_with fail;refine(YJ n.day 0 99999 _).mono ?_;rintro e w' ⟨rfl,rfl⟩;cases hda:Xx n.day 0 99999
    ·have hR:Zf f n=false:=by simp only[Zf,okB,if_neg HK.out.1,if_neg HK.out.2];simp[HK.out,hok,hrn,hcl,hda]
     have HRX:=zH hR;clear hR;go_wp2;go_ret;rw[HRX.out];exact⟨rfl,by rw[HP0.out];exact LR7.out.b⟩
    ·have HDA:=zH hda;go_wp2_with (first
      |(refine zL p2 LR7.out.e2 ?_)
      |(refine zG p2 LR7.out.e2 ?_))
     refine(Z3J N9 Zd ta tc none 0 _ RD4.out (ZX.nil _ 1)).mono ?_;rintro e ws ⟨rfl,b2⟩;have hR:Zf f n=Yv (QM n) Zd:=by simp only[Zf,okB,if_neg HK.out.1,if_neg HK.out.2];simp[HK.out,hok,hrn,hcl,hda]
     have hN:QM n=N9:=by rw[HN9.out];unfold QM UN;rw[if_neg HK.out.1,if_neg HK.out.2]
     have HRX:=zH hR;clear hR;have HNX:=zH hN;clear hN;go_wp2;go_ret;rw[HRX.out,HNX.out];exact⟨rfl,by rw[HP0.out];exact(LR7.out.below b2).b⟩
theorem Zb9 (hv:f.valid=true)(hs:Xe w sa n.strokes.length sc n.strokes)(k2:n.kind=2):
  Calls zq 114 #[f.val,.agg (Z5 n sa sc)] w fun e w'=>e = .returned (.bool (Zf f n))/\Below w.heap.size w w':=by
 have HK:=zH k2;clear k2;have g1:=Zm (w.alloc (zF f 174)) (.cells (Z5 n sa sc) 47) (w.heap.size+1) (by simp);have g0:=Z8 (w.alloc (zF f 174)) (.cells (Z5 n sa sc) 47) _ _ (Zm w (zF f 174) _ rfl);have bb:Below w.heap.size w ((w.alloc (zF f 174)).alloc (.cells (Z5 n sa sc) 47)):=(zB _ _).alloc (by simp) _;have G1:=zH g1;clear g1;have G0:=zH g0;clear g0;have BB:=zH bb;clear bb;go_enter Tryz.func114,Tryz.ntmps114;unfold Ys.val;go_wp2_with (refine zL (w.heap.size+1) G1.out ?_);refine(Z1z f n sa sc _ hv (hs.below BB.out) n.kind).mono ?_;rintro e w1 ⟨ta,tc,rfl,hrd,b1⟩;have SR:=zH hrd;clear hrd;have l1:=(Array.getElem?_eq_some_iff.1 G1.out).1;have z1:=b1.size;have L1:Vs w (w1.alloc (.cells (Z5 (Zo n.kind n) ta tc) 47)) w.heap.size (w.heap.size+1) w1.heap.size f n sa sc (Z5 (Zo n.kind n) ta tc):=
  ⟨Z8 _ _ _ _ ((b1.block _ (by omega)).trans G0.out),Z8 _ _ _ _ ((b1.block _ (by omega)).trans G1.out),Z9 _ _,(BB.out.trans (b1.mono BB.out.size)).alloc (by omega) _,by omega⟩
 have LL1:=zH L1;clear L1 l1 z1 b1;have one1:=Zh (Zo n.kind n) ta tc;have k4:(w1.alloc (.cells (Z5 (Zo n.kind n) ta tc) 47)).cell? ⟨w.heap.size+1,4,none⟩=some (.int .i64 2):=by
  have h:=zc LL1.out.e1 4 _ rfl;rw[h];exact congrArg (fun z=>some (Value.int .i64 z)) HK.out
 go_upto_region 4 with (refine zP w1 w1.heap.size (Z5 (Zo n.kind n) ta tc) ?_);generalize hW2:w1.alloc (.cells (Z5 (Zo n.kind n) ta tc) 47)=W2 at *;generalize hp0:w.heap.size=p0 at *;generalize hp1:p0+1=p1 at *;generalize hp2:w1.heap.size=p2 at *;have RDb:=zH (show ∀W',Below p0 w W'->Xe W' ta (Zo n.kind n).strokes.length tc (Zo n.kind n).strokes from fun W' h=>Z3o SR.out (hs.below (by rw[hp0];exact h)));have HP0:=zH hp0;clear hp0 hp1 hp2 hW2 G0 G1 BB SR k4;generalize hm:Zo n.kind n=m at *;have HM:=zH hm;clear hm;have j16:=zc LL1.out.e2 16 _ rfl;have z16:=Zl LL1.out.e2 16;have j17:=zc LL1.out.e2 17 _ rfl;have z17:=Zl LL1.out.e2 17;go_upto_region 5 with fail;generalize hW:((W2.setCell ⟨p2,16,none⟩ (.int .i64 0)).setCell ⟨p2,17,none⟩ (.int .i64 0))=W3 at *;have L3:=zH (show Vs w W3 p0 p1 p2 f n sa sc (Z5 { m with refH:=0,refN:=0 } ta tc)from by rw[<-hW];exact((LL1.out.set 16 (.int .i64 0)).set 17 (.int .i64 0)));clear hW j16 z16 j17 z17;cases hok0:Yi f n.kind n
 ·go_upto_region 11 with fail;have j0:=zc L3.out.e2 0 _ rfl;have z0:=Zl L3.out.e2 0;have j1:=zc L3.out.e2 1 _ rfl;have z1:=Zl L3.out.e2 1;have j2:=zc L3.out.e2 2 _ rfl;have z2:=Zl L3.out.e2 2;have j3:=zc L3.out.e2 3 _ rfl;have z3:=Zl L3.out.e2 3;have j4:=zc L3.out.e2 4 _ rfl;have z4:=Zl L3.out.e2 4;obtain⟨N9,HN9⟩ : ∃N9:NoteV,Hid (N9 = { { m with refH:=0,refN:=0 } with house:=0,num:=0,clock:=0,day:=0,kind:=0 }):=⟨_,zH rfl⟩;go_upto_region 12 with fail;generalize hW:(((((W3.setCell ⟨p2,0,none⟩ (.int .i64 0)).setCell ⟨p2,1,none⟩ (.int .i64 0)).setCell ⟨p2,2,none⟩ (.int .i64 0)).setCell ⟨p2,3,none⟩ (.int .i64 0)).setCell ⟨p2,4,none⟩ (.int .i64 0))=Wf8 at *;have Lf9:=zH (show Vs w Wf8 p0 p1 p2 f n sa sc (Z5 N9 ta tc)from by rw[HN9.out,<-hW];exact(((((L3.out.set 0 (.int .i64 0)).set 1 (.int .i64 0)).set 2 (.int .i64 0)).set 3 (.int .i64 0)).set 4 (.int .i64 0)));have RDf10:=zH (show Xe Wf8 ta N9.strokes.length tc N9.strokes from by rw[HN9.out];exact RDb.out _ Lf9.out.b);clear hW;clear j0 z0 j1 z1 j2 z2 j3 z3 j4 z4;have hR:Zf f n=false:=by simp only[Zf,okB,if_pos HK.out];simp[hok0]
  have HRX:=zH hR;clear hR;go_wp2;go_ret;rw[HRX.out];exact⟨rfl,by rw[HP0.out];exact Lf9.out.b⟩
 ·have HO0:=zH hok0;have k16:=zc L3.out.e1 16 _ rfl;have k17:=zc L3.out.e1 17 _ rfl;go_wp2_with fail;refine(Jv n.refH n.refN _).mono ?_;rintro e W4 ⟨rfl,b2⟩;have L4:=zH (L3.out.below b2);clear b2 k16 k17;go_upto_region 11 with fail;have j0:=zc L4.out.e2 0 _ rfl;have z0:=Zl L4.out.e2 0;have j1:=zc L4.out.e2 1 _ rfl;have z1:=Zl L4.out.e2 1;have j2:=zc L4.out.e2 2 _ rfl;have z2:=Zl L4.out.e2 2;have j3:=zc L4.out.e2 3 _ rfl;have z3:=Zl L4.out.e2 3;have j4:=zc L4.out.e2 4 _ rfl;have z4:=Zl L4.out.e2 4;obtain⟨N9,HN9⟩ : ∃N9:NoteV,Hid (N9 = { { m with refH:=0,refN:=0 } with house:=0,num:=0,clock:=0,day:=0,kind:=0 }):=⟨_,zH rfl⟩;go_upto_region 12 with fail;generalize hW:(((((W4.setCell ⟨p2,0,none⟩ (.int .i64 0)).setCell ⟨p2,1,none⟩ (.int .i64 0)).setCell ⟨p2,2,none⟩ (.int .i64 0)).setCell ⟨p2,3,none⟩ (.int .i64 0)).setCell ⟨p2,4,none⟩ (.int .i64 0))=Wf11 at *;have Lf12:=zH (show Vs w Wf11 p0 p1 p2 f n sa sc (Z5 N9 ta tc)from by rw[HN9.out,<-hW];exact(((((L4.out.set 0 (.int .i64 0)).set 1 (.int .i64 0)).set 2 (.int .i64 0)).set 3 (.int .i64 0)).set 4 (.int .i64 0)));have RDf13:=zH (show Xe Wf11 ta N9.strokes.length tc N9.strokes from by rw[HN9.out];exact RDb.out _ Lf12.out.b);clear hW;clear j0 z0 j1 z1 j2 z2 j3 z3 j4 z4;cases hok:Zy n.refH n.refN
  ·have hR:Zf f n=false:=by simp only[Zf,okB,if_pos HK.out];simp[hok0,hok]
   have HRX:=zH hR;clear hR;go_wp2;go_ret;rw[HRX.out];exact⟨rfl,by rw[HP0.out];exact Lf12.out.b⟩
  ·go_wp2_with (first
    |(refine zL p1 Lf12.out.e1 ?_)
    |(refine zG p1 Lf12.out.e1 ?_))
   refine(Yx n sa sc _).mono ?_;rintro e wn14 ⟨rfl,b2⟩;have LN16:=zH (Lf12.out.below b2);have RD3:=zH (RDf13.out.below b2);clear b2;go_wp2_with fail;refine(Jv n.house n.num _).mono ?_;rintro e wr15 ⟨rfl,b2⟩;have LR17:=zH (LN16.out.below b2);have RD4:=zH (RD3.out.below b2);clear b2 RD3;cases hrn:Zy n.house n.num
   ·have hR:Zf f n=false:=by simp only[Zf,okB,if_pos HK.out];simp[hok0,hok,hrn]
    have HRX:=zH hR;clear hR;go_wp2;go_ret;rw[HRX.out];exact⟨rfl,by rw[HP0.out];exact LR17.out.b⟩
   ·have HRN:=zH hrn;have k2:=zc LR17.out.e1 2 _ rfl;have k3:=zc LR17.out.e1 3 _ rfl;go_wp2_with fail;refine(YJ n.clock 1 1099511627776 _).mono ?_;rintro e w' ⟨rfl,rfl⟩;cases hcl:Xx n.clock 1 1099511627776
    ·have hR:Zf f n=false:=by simp only[Zf,okB,if_pos HK.out];simp[hok0,hok,hrn,hcl]
     have HRX:=zH hR;clear hR;go_wp2;go_ret;rw[HRX.out];exact⟨rfl,by rw[HP0.out];exact LR17.out.b⟩
    ·have HCL:=zH hcl;go_wp2_with fail;refine(YJ n.day 0 99999 _).mono ?_;rintro e w' ⟨rfl,rfl⟩;cases hda:Xx n.day 0 99999
     ·have hR:Zf f n=false:=by simp only[Zf,okB,if_pos HK.out];simp[hok0,hok,hrn,hcl,hda]
      have HRX:=zH hR;clear hR;go_wp2;go_ret;rw[HRX.out];exact⟨rfl,by rw[HP0.out];exact LR17.out.b⟩
     ·have HDA:=zH hda;go_wp2_with (first
       |(refine zL p2 LR17.out.e2 ?_)
       |(refine zG p2 LR17.out.e2 ?_))
      refine(Z3J N9 Zd ta tc none 0 _ RD4.out (ZX.nil _ 1)).mono ?_;rintro e ws ⟨rfl,b2⟩;have hR:Zf f n=Yv (QM n) Zd:=by simp only[Zf,okB,if_pos HK.out];simp[hok0,hok,hrn,hcl,hda]
      have hN:QM n=N9:=by rw[HN9.out];unfold QM UN;rw[if_pos HK.out,HM.out]
      have HRX:=zH hR;clear hR;have HNX:=zH hN;clear hN;go_wp2;go_ret;rw[HRX.out,HNX.out];exact⟨rfl,by rw[HP0.out];exact(LR17.out.below b2).b⟩
theorem Zb8 (hv:f.valid=true)(hs:Xe w sa n.strokes.length sc n.strokes)(k2:n.kind=5):
  Calls zq 114 #[f.val,.agg (Z5 n sa sc)] w fun e w'=>e = .returned (.bool (Zf f n))/\Below w.heap.size w w':=by
 have HK:=zH k2;clear k2;have g1:=Zm (w.alloc (zF f 174)) (.cells (Z5 n sa sc) 47) (w.heap.size+1) (by simp);have g0:=Z8 (w.alloc (zF f 174)) (.cells (Z5 n sa sc) 47) _ _ (Zm w (zF f 174) _ rfl);have bb:Below w.heap.size w ((w.alloc (zF f 174)).alloc (.cells (Z5 n sa sc) 47)):=(zB _ _).alloc (by simp) _;have G1:=zH g1;clear g1;have G0:=zH g0;clear g0;have BB:=zH bb;clear bb;go_enter Tryz.func114,Tryz.ntmps114;unfold Ys.val;go_wp2_with (refine zL (w.heap.size+1) G1.out ?_);refine(Z1z f n sa sc _ hv (hs.below BB.out) n.kind).mono ?_;rintro e w1 ⟨ta,tc,rfl,hrd,b1⟩;have SR:=zH hrd;clear hrd;have l1:=(Array.getElem?_eq_some_iff.1 G1.out).1;have z1:=b1.size;have L1:Vs w (w1.alloc (.cells (Z5 (Zo n.kind n) ta tc) 47)) w.heap.size (w.heap.size+1) w1.heap.size f n sa sc (Z5 (Zo n.kind n) ta tc):=
  ⟨Z8 _ _ _ _ ((b1.block _ (by omega)).trans G0.out),Z8 _ _ _ _ ((b1.block _ (by omega)).trans G1.out),Z9 _ _,(BB.out.trans (b1.mono BB.out.size)).alloc (by omega) _,by omega⟩
 have LL1:=zH L1;clear L1 l1 z1 b1;have one1:=Zh (Zo n.kind n) ta tc;have k4:(w1.alloc (.cells (Z5 (Zo n.kind n) ta tc) 47)).cell? ⟨w.heap.size+1,4,none⟩=some (.int .i64 5):=by
  have h:=zc LL1.out.e1 4 _ rfl;rw[h];exact congrArg (fun z=>some (Value.int .i64 z)) HK.out
 go_upto_region 7 with (refine zP w1 w1.heap.size (Z5 (Zo n.kind n) ta tc) ?_);generalize hW2:w1.alloc (.cells (Z5 (Zo n.kind n) ta tc) 47)=W2 at *;generalize hp0:w.heap.size=p0 at *;generalize hp1:p0+1=p1 at *;generalize hp2:w1.heap.size=p2 at *;have RDb:=zH (show ∀W',Below p0 w W'->Xe W' ta (Zo n.kind n).strokes.length tc (Zo n.kind n).strokes from fun W' h=>Z3o SR.out (hs.below (by rw[hp0];exact h)));have HP0:=zH hp0;clear hp0 hp1 hp2 hW2 G0 G1 BB SR k4;generalize hm:Zo n.kind n=m at *;have HM:=zH hm;clear hm;have k18:=zc LL1.out.e1 18 _ rfl;have c0:W2.cell? ⟨p0,0,none⟩=some (.int .i64 f.rings):=by simp[World.cell?,LL1.out.e0]
 have c1:W2.cell? ⟨p0,1,none⟩=some (.int .i64 f.sectors):=by simp[World.cell?,LL1.out.e0]
 have c2:W2.cell? ⟨p0,2,none⟩=some (.int .i64 f.wide):=by simp[World.cell?,LL1.out.e0]
 go_wp2_with (refine zL p2 LL1.out.e2 ?_);refine(Z1z f m ta tc _ hv (RDb.out _ LL1.out.b) n.fix).mono ?_;rintro e w3 ⟨ua,uc,rfl,hrd,b3⟩;have RDc:=zH (show ∀W',Below p0 w W'->Xe W' ua (Zo n.fix m).strokes.length uc (Zo n.fix m).strokes from fun W' h=>Z3o hrd (RDb.out W' h));clear hrd k18 c0 c1 c2;generalize hm2:Zo n.fix m=m2 at *;have HM2:=zH hm2;clear hm2;have L3:=zH (LL1.out.below b3);clear b3;have one2:=Zh m2 ua uc;have g2:=Z8 w3 (.cells (Z5 m2 ua uc) 47) _ _ L3.out.e2;have G2:=zH g2;clear g2;go_upto_region 9 with (first
  |(refine zP w3 w3.heap.size (Z5 m2 ua uc) ?_)
  |(refine zL w3.heap.size (Z9 _ _) ?_)
  |(refine zN p2 (Z5 m2 ua uc) G2.out ?_))
 have L4:=zH ((L3.out.alloc (.cells (Z5 m2 ua uc) 47)).setRow (Z5 m2 ua uc));generalize (w3.alloc (.cells (Z5 m2 ua uc) 47)).setRow p2 (Z5 m2 ua uc)=W4 at *;clear G2;cases hok0:Yi f n.kind n
 ·go_upto_region 10 with fail;have j18:=zc L4.out.e2 18 _ rfl;have z18:=Zl L4.out.e2 18;go_upto_region 11 with fail;generalize hW:(W4.setCell ⟨p2,18,none⟩ (.int .i64 0))=W5 at *;have L5:=zH (show Vs w W5 p0 p1 p2 f n sa sc (Z5 { m2 with fix:=0 } ua uc)from by rw[<-hW];exact(L4.out.set 18 (.int .i64 0)));clear hW j18 z18;have j0:=zc L5.out.e2 0 _ rfl;have z0:=Zl L5.out.e2 0;have j1:=zc L5.out.e2 1 _ rfl;have z1:=Zl L5.out.e2 1;have j2:=zc L5.out.e2 2 _ rfl;have z2:=Zl L5.out.e2 2;have j3:=zc L5.out.e2 3 _ rfl;have z3:=Zl L5.out.e2 3;have j4:=zc L5.out.e2 4 _ rfl;have z4:=Zl L5.out.e2 4;obtain⟨N9,HN9⟩ : ∃N9:NoteV,Hid (N9 = { { m2 with fix:=0 } with house:=0,num:=0,clock:=0,day:=0,kind:=0 }):=⟨_,zH rfl⟩;go_upto_region 12 with fail;generalize hW:(((((W5.setCell ⟨p2,0,none⟩ (.int .i64 0)).setCell ⟨p2,1,none⟩ (.int .i64 0)).setCell ⟨p2,2,none⟩ (.int .i64 0)).setCell ⟨p2,3,none⟩ (.int .i64 0)).setCell ⟨p2,4,none⟩ (.int .i64 0))=Wf18 at *;have Lf19:=zH (show Vs w Wf18 p0 p1 p2 f n sa sc (Z5 N9 ua uc)from by rw[HN9.out,<-hW];exact(((((L5.out.set 0 (.int .i64 0)).set 1 (.int .i64 0)).set 2 (.int .i64 0)).set 3 (.int .i64 0)).set 4 (.int .i64 0)));have RDf20:=zH (show Xe Wf18 ua N9.strokes.length uc N9.strokes from by rw[HN9.out];exact RDc.out _ Lf19.out.b);clear hW;clear j0 z0 j1 z1 j2 z2 j3 z3 j4 z4;have hR:Zf f n=false:=by simp only[Zf,okB,if_neg (show ¬n.kind=2 by rw[HK.out];decide),if_pos HK.out];simp[hok0]
  have HRX:=zH hR;clear hR;go_wp2;go_ret;rw[HRX.out];exact⟨rfl,by rw[HP0.out];exact Lf19.out.b⟩
 ·have HO0:=zH hok0;cases hfi:Yi f n.fix m
  ·go_upto_region 10 with fail;have j18:=zc L4.out.e2 18 _ rfl;have z18:=Zl L4.out.e2 18;go_upto_region 11 with fail;generalize hW:(W4.setCell ⟨p2,18,none⟩ (.int .i64 0))=W5 at *;have L5:=zH (show Vs w W5 p0 p1 p2 f n sa sc (Z5 { m2 with fix:=0 } ua uc)from by rw[<-hW];exact(L4.out.set 18 (.int .i64 0)));clear hW j18 z18;have j0:=zc L5.out.e2 0 _ rfl;have z0:=Zl L5.out.e2 0;have j1:=zc L5.out.e2 1 _ rfl;have z1:=Zl L5.out.e2 1;have j2:=zc L5.out.e2 2 _ rfl;have z2:=Zl L5.out.e2 2;have j3:=zc L5.out.e2 3 _ rfl;have z3:=Zl L5.out.e2 3;have j4:=zc L5.out.e2 4 _ rfl;have z4:=Zl L5.out.e2 4;obtain⟨N9,HN9⟩ : ∃N9:NoteV,Hid (N9 = { { m2 with fix:=0 } with house:=0,num:=0,clock:=0,day:=0,kind:=0 }):=⟨_,zH rfl⟩;go_upto_region 12 with fail;generalize hW:(((((W5.setCell ⟨p2,0,none⟩ (.int .i64 0)).setCell ⟨p2,1,none⟩ (.int .i64 0)).setCell ⟨p2,2,none⟩ (.int .i64 0)).setCell ⟨p2,3,none⟩ (.int .i64 0)).setCell ⟨p2,4,none⟩ (.int .i64 0))=Wf21 at *;have Lf22:=zH (show Vs w Wf21 p0 p1 p2 f n sa sc (Z5 N9 ua uc)from by rw[HN9.out,<-hW];exact(((((L5.out.set 0 (.int .i64 0)).set 1 (.int .i64 0)).set 2 (.int .i64 0)).set 3 (.int .i64 0)).set 4 (.int .i64 0)));have RDf23:=zH (show Xe Wf21 ua N9.strokes.length uc N9.strokes from by rw[HN9.out];exact RDc.out _ Lf22.out.b);clear hW;clear j0 z0 j1 z1 j2 z2 j3 z3 j4 z4;have hR:Zf f n=false:=by simp only[Zf,okB,if_neg (show ¬n.kind=2 by rw[HK.out];decide),if_pos HK.out];simp[hok0,HM.out,hfi]
   have HRX:=zH hR;clear hR;go_wp2;go_ret;rw[HRX.out];exact⟨rfl,by rw[HP0.out];exact Lf22.out.b⟩
  ·have HFI:=zH hfi;have k18:=zc L4.out.e1 18 _ rfl;go_wp2_with fail;refine(YJ n.fix 1 4 _).mono ?_;rintro e W6 ⟨rfl,rfl⟩;clear k18;go_upto_region 10 with fail;have j18:=zc L4.out.e2 18 _ rfl;have z18:=Zl L4.out.e2 18;go_upto_region 11 with fail;generalize hW:(W4.setCell ⟨p2,18,none⟩ (.int .i64 0))=W5 at *;have L5:=zH (show Vs w W5 p0 p1 p2 f n sa sc (Z5 { m2 with fix:=0 } ua uc)from by rw[<-hW];exact(L4.out.set 18 (.int .i64 0)));clear hW j18 z18;have j0:=zc L5.out.e2 0 _ rfl;have z0:=Zl L5.out.e2 0;have j1:=zc L5.out.e2 1 _ rfl;have z1:=Zl L5.out.e2 1;have j2:=zc L5.out.e2 2 _ rfl;have z2:=Zl L5.out.e2 2;have j3:=zc L5.out.e2 3 _ rfl;have z3:=Zl L5.out.e2 3;have j4:=zc L5.out.e2 4 _ rfl;have z4:=Zl L5.out.e2 4;obtain⟨N9,HN9⟩ : ∃N9:NoteV,Hid (N9 = { { m2 with fix:=0 } with house:=0,num:=0,clock:=0,day:=0,kind:=0 }):=⟨_,zH rfl⟩;go_upto_region 12 with fail;generalize hW:(((((W5.setCell ⟨p2,0,none⟩ (.int .i64 0)).setCell ⟨p2,1,none⟩ (.int .i64 0)).setCell ⟨p2,2,none⟩ (.int .i64 0)).setCell ⟨p2,3,none⟩ (.int .i64 0)).setCell ⟨p2,4,none⟩ (.int .i64 0))=Wf24 at *;have Lf25:=zH (show Vs w Wf24 p0 p1 p2 f n sa sc (Z5 N9 ua uc)from by rw[HN9.out,<-hW];exact(((((L5.out.set 0 (.int .i64 0)).set 1 (.int .i64 0)).set 2 (.int .i64 0)).set 3 (.int .i64 0)).set 4 (.int .i64 0)));have RDf26:=zH (show Xe Wf24 ua N9.strokes.length uc N9.strokes from by rw[HN9.out];exact RDc.out _ Lf25.out.b);clear hW;clear j0 z0 j1 z1 j2 z2 j3 z3 j4 z4;cases hok:Xx n.fix 1 4
   ·have hR:Zf f n=false:=by simp only[Zf,okB,if_neg (show ¬n.kind=2 by rw[HK.out];decide),if_pos HK.out];simp[hok0,HM.out,hfi,hok]
    have HRX:=zH hR;clear hR;go_wp2;go_ret;rw[HRX.out];exact⟨rfl,by rw[HP0.out];exact Lf25.out.b⟩
   ·go_wp2_with (first
     |(refine zL p1 Lf25.out.e1 ?_)
     |(refine zG p1 Lf25.out.e1 ?_))
    refine(Yx n sa sc _).mono ?_;rintro e wn27 ⟨rfl,b2⟩;have LN29:=zH (Lf25.out.below b2);have RD3:=zH (RDf26.out.below b2);clear b2;go_wp2_with fail;refine(Jv n.house n.num _).mono ?_;rintro e wr28 ⟨rfl,b2⟩;have LR30:=zH (LN29.out.below b2);have RD4:=zH (RD3.out.below b2);clear b2 RD3;cases hrn:Zy n.house n.num
    ·have hR:Zf f n=false:=by simp only[Zf,okB,if_neg (show ¬n.kind=2 by rw[HK.out];decide),if_pos HK.out];simp[hok0,HM.out,hfi,hok,hrn]
     have HRX:=zH hR;clear hR;go_wp2;go_ret;rw[HRX.out];exact⟨rfl,by rw[HP0.out];exact LR30.out.b⟩
    ·have HRN:=zH hrn;have k2:=zc LR30.out.e1 2 _ rfl;have k3:=zc LR30.out.e1 3 _ rfl;go_wp2_with fail;refine(YJ n.clock 1 1099511627776 _).mono ?_;rintro e w' ⟨rfl,rfl⟩;cases hcl:Xx n.clock 1 1099511627776
     ·have hR:Zf f n=false:=by simp only[Zf,okB,if_neg (show ¬n.kind=2 by rw[HK.out];decide),if_pos HK.out];simp[hok0,HM.out,hfi,hok,hrn,hcl]
      have HRX:=zH hR;clear hR;go_wp2;go_ret;rw[HRX.out];exact⟨rfl,by rw[HP0.out];exact LR30.out.b⟩
     ·have HCL:=zH hcl;go_wp2_with fail;refine(YJ n.day 0 99999 _).mono ?_;rintro e w' ⟨rfl,rfl⟩;cases hda:Xx n.day 0 99999
      ·have hR:Zf f n=false:=by simp only[Zf,okB,if_neg (show ¬n.kind=2 by rw[HK.out];decide),if_pos HK.out];simp[hok0,HM.out,hfi,hok,hrn,hcl,hda]
       have HRX:=zH hR;clear hR;go_wp2;go_ret;rw[HRX.out];exact⟨rfl,by rw[HP0.out];exact LR30.out.b⟩
      ·have HDA:=zH hda;go_wp2_with (first
        |(refine zL p2 LR30.out.e2 ?_)
        |(refine zG p2 LR30.out.e2 ?_))
       refine(Z3J N9 Zd ua uc none 0 _ RD4.out (ZX.nil _ 1)).mono ?_;rintro e ws ⟨rfl,b2⟩;have hR:Zf f n=Yv (QM n) Zd:=by simp only[Zf,okB,if_neg (show ¬n.kind=2 by rw[HK.out];decide),if_pos HK.out];simp[hok0,HM.out,hfi,hok,hrn,hcl,hda]
       have hN:QM n=N9:=by rw[HN9.out];unfold QM UN;rw[if_neg (show ¬n.kind=2 by rw[HK.out];decide),if_pos HK.out,HM.out,HM2.out]
       have HRX:=zH hR;clear hR;have HNX:=zH hN;clear hN;go_wp2;go_ret;rw[HRX.out,HNX.out];exact⟨rfl,by rw[HP0.out];exact(LR30.out.below b2).b⟩
end
theorem Z1k (f:Ys)(n:NoteV)(sa:zA)(sc:Nat)(w:World)(hv:f.valid=true)(hs:Xe w sa n.strokes.length sc n.strokes):
  Calls zq 114 #[f.val,.agg (Z5 n sa sc)] w fun e w'=>e = .returned (.bool (Zf f n))/\Below w.heap.size w w':=by
 by_cases k2:n.kind=2
 ·exact Zb9 f n sa sc w hv hs k2
 ·by_cases k5:n.kind=5
  ·exact Zb8 f n sa sc w hv hs k5
  ·exact Zb7 f n sa sc w hv hs k2 k5
def ZD (f:Ys)(n:NoteV):Int:=if f.valid then if Zf f n then 0 else 80 else 1
section
attribute [local go_sem] ZS
variable (f:Ys)(n:NoteV)(sa:zA)(sc:Nat)(w:World)
theorem UB (hs:Xe w sa n.strokes.length sc n.strokes):
  Calls zq 56 #[f.val,.agg (Z5 n sa sc)] w fun e w'=>e = .returned (.int .i64 (ZD f n))/\Below w.heap.size w w':=by
 have I43:=zH (show(zq.info? 47).map (·.size)=some (Z5 n sa sc).size by kernel_rfl);have g1:=Zm (w.alloc (zF f 23)) (.cells (Z5 n sa sc) 47) (w.heap.size+1) (by simp);have g2:=Z8 _ (zF f 174) _ _ g1;have b0:Below w.heap.size w (((w.alloc (zF f 23)).alloc (.cells (Z5 n sa sc) 47)).alloc (zF f 174)):=
  ((zB _ _).alloc (by simp) _).alloc (by simp;omega) _
 have g3:=Zm ((w.alloc (zF f 23)).alloc (.cells (Z5 n sa sc) 47)) (zF f 174) (w.heap.size+1+1) (by simp);have G2:=zH g2;clear g1 g2;have G3:=zH g3;clear g3;have B0:=zH b0;clear b0;unfold Ys.val;go_enter Tryz.func56,Tryz.ntmps56;go_wp2_with fail;generalize ((w.alloc (zF f 23)).alloc (.cells (Z5 n sa sc) 47)).alloc (zF f 174)=W0 at *;refine(Z55 f.rings f.sectors f.wide _).mono ?_;rintro e w1 ⟨rfl,b1⟩;have hz:=(Array.getElem?_eq_some_iff.1 G3.out).1;have h1:=(b1.block _ (by omega)).trans G2.out;have h2:=(b1.block _ hz).trans G3.out;have B1:=zH (B0.out.trans (b1.mono B0.out.size));clear b1;cases hv:f.valid
 ·have hR:ZD f n=1:=by unfold ZD;rw[hv];rfl
  have HR:=zH hR;clear hR hv;go_wp2;go_ret;rw[HR.out];exact⟨rfl,B1.out⟩
 ·have c0:w1.cell? ⟨w.heap.size+1+1,0,none⟩=some (.int .i64 f.rings):=by simp[World.cell?,h2]
  have c1:w1.cell? ⟨w.heap.size+1+1,1,none⟩=some (.int .i64 f.sectors):=by simp[World.cell?,h2]
  have c2:w1.cell? ⟨w.heap.size+1+1,2,none⟩=some (.int .i64 f.wide):=by simp[World.cell?,h2]
  have HV:=zH hv;clear hv;have H1:=zH h1;clear h1 h2;go_wp2_with (refine zL (w.heap.size+1) H1.out ?_);refine(Z1k f n sa sc _ HV.out (hs.below B1.out)).mono ?_;rintro e w2 ⟨rfl,b2⟩;have B2:=zH (B1.out.trans (b2.mono B1.out.size));clear b2;cases hf:Zf f n
  focus
   have hR:ZD f n=80:=by unfold ZD;rw[HV.out,hf];rfl
  rotate_left
  focus
   have hR:ZD f n=0:=by unfold ZD;rw[HV.out,hf];rfl
  all_goals
   have HR:=zH hR;clear hR hf;go_wp2;go_ret;rw[HR.out];exact⟨rfl,B2.out⟩
end
theorem Z6 {W:World}{p:Nat}{A:Xz}{t:TypeId}{sp:Nat×Nat}(h:W.heap[p]? = some (.cells A t sp))(j:Nat)(v:Value)(hv:A[j]? = some v):W.cell? ⟨p,j,none⟩=some v:=by
 simp[World.cell?,h,hv]
theorem YA (n:NoteV)(sa:zA)(sc:Nat): ∀k,k < 15->(Z5 n sa sc)[k]? = some (.int .i64 ((Zn n)[k]?.getD 0))
 | 0,_=>rfl
 | 1,_=>rfl
 | 2,_=>rfl
 | 3,_=>rfl
 | 4,_=>rfl
 | 5,_=>rfl
 | 6,_=>rfl
 | 7,_=>rfl
 | 8,_=>rfl
 | 9,_=>rfl
 | 10,_=>rfl
 | 11,_=>rfl
 | 12,_=>rfl
 | 13,_=>rfl
 | 14,_=>rfl
 | k+15,h=>absurd h (by omega)
theorem Vj (n:NoteV)(sa:zA)(sc:Nat): ∀k,k < 3->(Z5 n sa sc)[16+k]? = some (.int .i64 ((Zr n)[k]?.getD 0))
 | 0,_=>rfl
 | 1,_=>rfl
 | 2,_=>rfl
 | k+3,h=>absurd h (by omega)
theorem Z3c (p:Nat): ∀k,k < 15->(Z9v p Z8M).toArray[k]? = some (.pointer (some ⟨p,k,none⟩))
 | 0,_=>rfl
 | 1,_=>rfl
 | 2,_=>rfl
 | 3,_=>rfl
 | 4,_=>rfl
 | 5,_=>rfl
 | 6,_=>rfl
 | 7,_=>rfl
 | 8,_=>rfl
 | 9,_=>rfl
 | 10,_=>rfl
 | 11,_=>rfl
 | 12,_=>rfl
 | 13,_=>rfl
 | 14,_=>rfl
 | k+15,h=>absurd h (by omega)
theorem Z1Z (p:Nat): ∀k,k < 3->(Z9v p Z6j).toArray[k]? = some (.pointer (some ⟨p,16+k,none⟩))
 | 0,_=>rfl
 | 1,_=>rfl
 | 2,_=>rfl
 | k+3,h=>absurd h (by omega)
theorem VP {z:Int}(h:Xb z):Qm z:=by
 unfold Xb far at h;unfold Qm;omega
theorem Z40 (w:World)(z:Int):Xe (w.alloc (.cells #[.int .i64 z] 3)) (some ⟨w.heap.size,0,none⟩) 1 1 [z]:=
 ZX.of_own (World.ownsRow_lit (base:=w.heap.size) (e:=3) (size:=1) w #[.int .i64 z] 1 (Nat.le_refl _) (by unfold maxLen;omega) rfl)
theorem Z2l (base:Nat)(w:World)(z:Int):ze base (w.alloc (.cells #[.int .i64 z] 3)) (some ⟨w.heap.size,0,none⟩):=by
 intro b off e _;cases e;exact Z1g (Z9 w _) (by decide)
theorem Z4w (n:NoteV)(h:JU n):(Yc n).length<=190+10 * n.strokes.length:=by
 obtain⟨h1,h2,h3,h4⟩:=h;have g1:=Z1T (Zn n) (fun z hz=>VP (h1 z hz));have g2:=Z1T n.strokes (fun z hz=>VP (h2 z hz));have g3:=Z1T (Zr n) (fun z hz=>VP (h3 z hz));have g4:=Z1R (VP h4);have e1:(Zn n).length=15:=rfl;have e3:(Zr n).length=3:=rfl;unfold Yc;simp only[List.length_append];omega
section
variable (n:NoteV)(sa:zA)(sc:Nat)(w:World)
theorem Uu (hs:Xe w sa n.strokes.length sc n.strokes)(hsm:JU n)(hlen:n.strokes.length<=1000000):
  Calls zq 117 #[.agg (Z5 n sa sc)] w fun e w' => ∃a' c',e = .returned (.slice a' (Yc n).length c') /\
   w'.ownsRow w.heap.size 5 1 (.slice a' (Yc n).length c') (Yc n).length ((Yc n).map Zt)/\Below w.heap.size w w':=by
 obtain⟨xs,hxs⟩ : ∃xs:zU,Hid (xs=[]):=⟨_,zH rfl⟩;have hN:=Z4w n hsm;have hT:Yc n=xs ++ ZK (Zn n) ++ ZK [(n.strokes.length:Int)] ++ ZK n.strokes ++ ZK (Zr n):=by
  rw[hxs.out,QI];unfold Yc;simp only[List.nil_append,List.append_assoc]
 rw[hT]at hN;have HLP:Hid ((xs ++ ZK (Zn n)).length<=140737488355328):=zH (by simp only[List.length_append]at hN ⊢;omega);have HL1:Hid ((xs ++ ZK (Zn n) ++ ZK [(n.strokes.length:Int)]).length<=140737488355328):=zH (by simp only[List.length_append]at hN ⊢;omega);have HL2:Hid ((xs ++ ZK (Zn n) ++ ZK [(n.strokes.length:Int)] ++ ZK n.strokes).length<=140737488355328):=zH (by simp only[List.length_append]at hN ⊢;omega);have HL3:Hid ((xs ++ ZK (Zn n) ++ ZK [(n.strokes.length:Int)] ++ ZK n.strokes ++ ZK (Zr n)).length<=140737488355328):=zH (by omega);clear hN hT;have hlast:=Z9 w (.cells (Z5 n sa sc) 47);have bb:Below w.heap.size w (w.alloc (.cells (Z5 n sa sc) 47)):=zB _ _;have hlt:w.heap.size < (w.alloc (.cells (Z5 n sa sc) 47)).heap.size:=by simp
 have AP:=zH (show ∀W:World,0 < n.strokes.length->ze w.heap.size W sa from fun W h0=>ze.old fun b off e=>by
  obtain⟨b',off',e',hc⟩:=ZX.at hs h0;rw[e]at e';cases e';exact World.block_lt_of_cell? w _ (hc 0 _ (List.getElem?_eq_getElem (by have:=hs.1;omega))))
 have H0:=zH (And.intro hlast (And.intro bb hlt));clear hlast bb hlt;go_enter Tryz.func117,Tryz.ntmps117;go_wp2_with fail;generalize w.alloc (.cells (Z5 n sa sc) 47)=w0 at *;refine(Z4v w.heap.size w0).mono ?_;rintro e wf ⟨rfl,g1,g2,b1⟩;obtain⟨base,hbase⟩:=zX (w.heap.size);obtain⟨P,hP⟩:=zX (w0.heap.size);obtain⟨Q,hQ⟩:=zX (w0.heap.size+1);rw[hbase.out,hP.out]at g1;rw[hbase.out,hQ.out]at g2;have AW:Hid (XQ base w wf):=zH ⟨(b1.mono (Nat.le_of_lt H0.out.2.2)).os.trans H0.out.2.1.os,(b1.mono (Nat.le_of_lt H0.out.2.2)).tape.trans H0.out.2.1.tape,(b1.mono (Nat.le_of_lt H0.out.2.2)).output.trans H0.out.2.1.output,Nat.le_trans H0.out.2.1.size b1.size,fun k hk _=>(b1.block k (Nat.lt_trans hk H0.out.2.2)).trans (H0.out.2.1.block k hk)⟩;have hn1:=(b1.block _ H0.out.2.2).trans H0.out.1;rw[hbase.out]at hn1;have LN:=zH (And.intro (show base < wf.heap.size from(Array.getElem?_eq_some_iff.1 hn1).1) (And.intro (show ¬U8 base wf base from Z1g hn1 (by decide)) hn1));have LP:=zH (And.intro (show P < wf.heap.size from(Array.getElem?_eq_some_iff.1 g1).1) (And.intro (show ¬U8 base wf P from Z1g g1 (by decide)) g1));have LQ:=zH (And.intro (show Q < wf.heap.size from(Array.getElem?_eq_some_iff.1 g2).1) (And.intro (show ¬U8 base wf Q from Z1g g2 (by decide)) g2));have HB:Hid (base<=wf.heap.size):=zH (Nat.le_of_lt LN.out.1);have hbw:Hid (base<=w.heap.size):=zH (by rw[hbase.out];exact Nat.le_refl _);rw[hbase.out]at AP;rw[hQ.out,hP.out,hbase.out];clear g1 g2 hn1 b1 H0;go_wp2_with fail;go_loopw [5,7,16] (fun b _ i wr=>∃(k m:Nat) (a':zA) (c':Nat),b = .slice a' m c'/\k<=15/\i = .int .i64 k/\Hid (wr.ownsRow base 5 1 (.slice a' m c') m ((xs ++ ZK ((Zn n).take k)).map Zt))/\Hid (XQ base wf wr)) (fun _ _ i _=>15 - (intOf i).toNat)
 case atStart=>exact⟨0,0,none,0,rfl,Nat.zero_le _,rfl,zH (by rw[hxs.out];exact World.ownsRow_nil _ _ _ _),zH (XQ.refl _ _)⟩
 case round=>
  obtain⟨k,m,a',c',rfl,hk,rfl,HW,HA⟩:=hrel;by_cases hlt:k < 15
  ·have e1:wr.cell? ⟨P,k,none⟩=some (.pointer (some ⟨base,k,none⟩)):=Z6 ((HA.out.block _ LP.out.1 LP.out.2.1).trans LP.out.2.2) _ _ (Z3c base k hlt);have e2:wr.cell? ⟨base,k,none⟩=some (.int .i64 ((Zn n)[k]?.getD 0)):=Z6 ((HA.out.block _ LN.out.1 LN.out.2.1).trans LN.out.2.2) _ _ (YA n sa sc k hlt);have hzk:Qm ((Zn n)[k]?.getD 0):=VP (hsm.1 _ (by rw[List.getElem?_eq_getElem (show k < (Zn n).length from hlt),Option.getD_some];exact List.getElem_mem _));have HT:=zH (VL (l:=Zn n) (k:=k) hlt);have hz63:(k:Int)<=9223372036854775807:=by omega
   have hln:((xs ++ ZK ((Zn n).take k)) ++ ZK [(Zn n)[k]?.getD 0]).length<=140737488355328:=by
    have h1:=HLP.out;have h2:=Z0O (Zn n) (k+1);rw[QI,List.append_assoc,<-HT.out];simp only[List.length_append]at h1 ⊢;omega
   have HLN:=zH hln;clear hln;have HZK:=zH hzk;clear hzk;have HSB:=zH (Nat.le_trans HB.out HA.out.size);generalize (Zn n)[k]?.getD 0=z at *;go_wp2_with fail;refine(Z1B base _ _ _ (xs ++ ZK ((Zn n).take k)) _ 1 1 [z] _ ?_ (Zb HW.out (zB _ _)) (Z40 wr z) (fun _=>Z2l base wr z) (by simpa using HZK.out) HLN.out).mono ?_
   ·simp;exact Nat.le_succ_of_le HSB.out
   rintro e w3 ⟨a3,c3,rfl,h1,h2⟩;have HE:Hid (xs ++ ZK ((Zn n).take k) ++ ZK [z]=xs ++ ZK ((Zn n).take (k+1))):=zH (by rw[QI,List.append_assoc,<-HT.out]);rw[HE.out]at h1;rw[HE.out];obtain⟨m3,HM3⟩ : ∃m3,Hid (m3=(xs ++ ZK ((Zn n).take (k+1))).length):=⟨_,zH rfl⟩;rw[<-HM3.out]at h1 ⊢;have H1:=zH h1;clear h1;have H2:=zH (HA.out.trans ((XQ.of_below (zB _ _)).trans h2));clear h2;go_wp2;go_roundw
   case rel=>exact⟨k+1,_,a3,c3,rfl,by omega,by go_num,H1,H2⟩
   case measure=>simp[intOf];omega
  ·have hkn:k=15:=by omega
   subst hkn;have HX:Hid ((Zn n).take 15=Zn n):=zH rfl;rw[HX.out]at HW;have hm:m=(xs ++ ZK (Zn n)).length:=by
    have:=HW.out.1;simpa using this.symm
   have e15:wr.cell? ⟨base,15,none⟩=some (.slice sa n.strokes.length sc):=Z6 ((HA.out.block _ LN.out.1 LN.out.2.1).trans LN.out.2.2) _ _ rfl;have HSB:=zH (Nat.le_trans HB.out HA.out.size);have HM:=zH hm;clear hm;go_wp2_with fail;refine(Z1B base _ _ _ (xs ++ ZK (Zn n)) _ 1 1 [(n.strokes.length:Int)] _ ?_ (Zb HW.out (zB _ _)) (Z40 wr _) (fun _=>Z2l base wr _) (by simpa using VP hsm.2.2.2) HL1.out).mono ?_
   ·simp;exact Nat.le_succ_of_le HSB.out
   rintro e w2 ⟨a2,c2,rfl,h1,h2⟩;obtain⟨m2,HM2⟩ : ∃m2,Hid (m2=(xs ++ ZK (Zn n) ++ ZK [(n.strokes.length:Int)]).length):=⟨_,zH rfl⟩;rw[<-HM2.out]at h1 ⊢;have H2:=zH h1;clear h1;have A2:=zH (HA.out.trans ((XQ.of_below (zB _ _)).trans h2));clear h2 e15;have e15:w2.cell? ⟨base,15,none⟩=some (.slice sa n.strokes.length sc):=Z6 ((A2.out.block _ LN.out.1 LN.out.2.1).trans LN.out.2.2) _ _ rfl;go_wp2_with fail;refine(Z1B base _ _ _ (xs ++ ZK (Zn n) ++ ZK [(n.strokes.length:Int)]) _ _ _ n.strokes _ (Nat.le_trans HB.out A2.out.size) H2.out (hs.below (by rw[hbase.out];exact(AW.out.below hbw.out).trans (A2.out.below HB.out))) (fun h0=>AP.out _ h0) (fun z hz=>VP (hsm.2.1 z hz)) HL2.out).mono ?_;rintro e w3 ⟨a3,c3,rfl,h1,h2⟩;have H3:=zH h1;clear h1;have A3:=zH (A2.out.trans h2);clear h2 e15;obtain⟨X,HXX⟩ : ∃X,Hid (X=xs ++ ZK (Zn n) ++ ZK [(n.strokes.length:Int)] ++ ZK n.strokes):=⟨_,zH rfl⟩;rw[<-HXX.out]at H3 ⊢;obtain⟨m3,HM3⟩ : ∃m3,Hid (m3=X.length):=⟨_,zH rfl⟩;rw[<-HM3.out]at H3 ⊢;have HLQ:Hid ((X ++ ZK (Zr n)).length<=140737488355328):=zH (by rw[HXX.out];exact HL3.out);go_wp2_with fail;go_loopw [5,9,39] (fun b _ i wr=>∃(k m:Nat) (a':zA) (c':Nat),b = .slice a' m c'/\k<=3/\i = .int .i64 k/\Hid (wr.ownsRow base 5 1 (.slice a' m c') m ((X ++ ZK ((Zr n).take k)).map Zt))/\Hid (XQ base wf wr)) (fun _ _ i _=>3 - (intOf i).toNat)
   case atStart=>exact⟨0,_,a3,c3,rfl,Nat.zero_le _,rfl,zH (by simpa [ZK] using H3.out),A3⟩
   case round=>
    obtain⟨k,m,a',c',rfl,hk,rfl,HW,HA⟩:=hrel;by_cases hlt:k < 3
    ·have e1:wr.cell? ⟨Q,k,none⟩=some (.pointer (some ⟨base,16+k,none⟩)):=Z6 ((HA.out.block _ LQ.out.1 LQ.out.2.1).trans LQ.out.2.2) _ _ (Z1Z base k hlt);have e2:wr.cell? ⟨base,16+k,none⟩=some (.int .i64 ((Zr n)[k]?.getD 0)):=Z6 ((HA.out.block _ LN.out.1 LN.out.2.1).trans LN.out.2.2) _ _ (Vj n sa sc k hlt);have hzk:Qm ((Zr n)[k]?.getD 0):=VP (hsm.2.2.1 _ (by rw[List.getElem?_eq_getElem (show k < (Zr n).length from hlt),Option.getD_some];exact List.getElem_mem _));have HT:=zH (VL (l:=Zr n) (k:=k) hlt);have hz63:(k:Int)<=9223372036854775807:=by omega
     have hln:((X ++ ZK ((Zr n).take k)) ++ ZK [(Zr n)[k]?.getD 0]).length<=140737488355328:=by
      have h1:=HLQ.out;have h2:=Z0O (Zr n) (k+1);rw[QI,List.append_assoc,<-HT.out];simp only[List.length_append]at h1 ⊢;omega
     have HLN:=zH hln;clear hln;have HZK:=zH hzk;clear hzk;have HSB:=zH (Nat.le_trans HB.out HA.out.size);generalize (Zr n)[k]?.getD 0=z at *;go_wp2_with fail;refine(Z1B base _ _ _ (X ++ ZK ((Zr n).take k)) _ 1 1 [z] _ ?_ (Zb HW.out (zB _ _)) (Z40 wr z) (fun _=>Z2l base wr z) (by simpa using HZK.out) HLN.out).mono ?_
     ·simp;exact Nat.le_succ_of_le HSB.out
     rintro e w3 ⟨a3,c3,rfl,h1,h2⟩;have HE:Hid (X ++ ZK ((Zr n).take k) ++ ZK [z]=X ++ ZK ((Zr n).take (k+1))):=zH (by rw[QI,List.append_assoc,<-HT.out]);rw[HE.out]at h1;rw[HE.out];obtain⟨m3,HM3⟩ : ∃m3,Hid (m3=(X ++ ZK ((Zr n).take (k+1))).length):=⟨_,zH rfl⟩;rw[<-HM3.out]at h1 ⊢;have H1:=zH h1;clear h1;have H2:=zH (HA.out.trans ((XQ.of_below (zB _ _)).trans h2));clear h2;go_wp2;go_roundw
     case rel=>exact⟨k+1,_,a3,c3,rfl,by omega,by go_num,H1,H2⟩
     case measure=>simp[intOf];omega
    ·have hkn:k=3:=by omega
     subst hkn;have HX:Hid ((Zr n).take 3=Zr n):=zH rfl;rw[HX.out]at HW;have hm:m=(X ++ ZK (Zr n)).length:=by
      have:=HW.out.1;simpa using this.symm
     have hX:X ++ ZK (Zr n)=Yc n:=by
      rw[HXX.out,hxs.out,QI];unfold Yc;simp only[List.nil_append,List.append_assoc]
     rw[hX]at hm HW;subst hm;go_wp2;go_ret;exact⟨_,_,rfl,by rw[hbase.out];exact HW.out,by rw[hbase.out];exact(AW.out.below hbw.out).trans (HA.out.below HB.out)⟩
end
theorem ZaE {z:Int}(h:Qm z)(hn:z < 0):IntKind.u64.wrap (IntKind.u64.wrap (2 * IntKind.u64.wrap (wrap64 (-wrap64 (z+1))))+1)=(zig z:Int):=by
 unfold Qm at h;rw[show wrap64 (z+1)=z+1 by unfold wrap64;omega,show wrap64 (-(z+1)) = -(z+1)by unfold wrap64;omega];simp only[IntKind.wrap_u64];unfold zig;rw[if_neg (by omega)];omega
theorem Ul (z:Int)(hz:Qm z)(w:World):
  Calls zq 98 #[.int .i64 z] w fun e w' => ∃a' c',e = .returned (.slice a' (XY z).length c') /\
   w'.ownsRow w.heap.size 5 1 (.slice a' (XY z).length c') (XY z).length ((XY z).map Zt)/\Below w.heap.size w w':=by
 have HZ:=zH hz;obtain⟨base,hbase⟩:=zX (w.heap.size);rw[hbase.out];have hsg:IntKind.u64.signed=false:=rfl;have hL:=Z1R hz;by_cases hneg:z < 0
 ·have hu:Hid (IntKind.u64.wrap (IntKind.u64.wrap (2 * IntKind.u64.wrap (wrap64 (-wrap64 (z+1))))+1)=(zig z:Int)):=zH (ZaE hz hneg);go_enter Tryz.func98,Tryz.ntmps98;go_wp2_with fail;go_loopw [3,4] (fun u b wi=>∃(v m2:Nat) (ys:zU) (a2:zA) (c2:Nat),u = .int .u64 v/\b = .slice a2 m2 c2/\v < 18446744073709551616/\Hid (ys ++ zZ v=XY z)/\Hid (wi.ownsRow base 5 1 (.slice a2 m2 c2) m2 (ys.map Zt))/\Hid (XQ base w wi)) (fun u _ _=>(intOf u).toNat)
  case atStart=>exact⟨zig z,0,[],none,0,congrArg (Value.int .u64) hu.out,rfl,Z5D HZ.out,zH rfl,zH (World.ownsRow_nil _ _ _ _),zH (XQ.refl _ _)⟩
  case round=>
   obtain⟨v,m2,ys,a2,c2,rfl,rfl,hv,HY,HW2,HA2⟩:=hrel;have hm2:m2=ys.length:=by have:=HW2.out.1;simpa using this.symm
   have hle:m2+(zZ v).length<=10:=by
    have h1:=congrArg List.length HY.out;simp only[List.length_append]at h1;omega
   have hps:=Z1S v;subst hm2;obtain⟨cb,hcb⟩ : ∃cb,Hid (cb=UInt8.ofNat (v % 128+128)):=⟨_,zH rfl⟩;obtain⟨cd,hcd⟩ : ∃cd,Hid (cd=UInt8.ofNat v):=⟨_,zH rfl⟩;have hb2:base<=wr.heap.size:=by rw[<-hbase.out];exact HA2.out.size
   by_cases hge:(128:Int)<=v
   ·have hq:IntKind.u64.wrap ((v:Int) / 128)=((v / 128:Nat):Int):=by rw[IntKind.wrap_u64];omega
    go_wp2_with (at_builtin;refine Z0Q _ rfl _ _ rfl base _ _ _ ys rfl HW2.out cb _ (by rw[hcb.out,JV (by omega)];first | omega | rfl) rfl (by omega) hb2 ?_);intro a3 c3 w3 h1 h2;have H1:=zH h1;clear h1;go_wp2;go_roundw
    case rel=>exact⟨v / 128,ys.length+1,ys ++ [cb],a3,c3,by go_num,rfl,by omega,zH (by rw[List.append_assoc,List.singleton_append,hcb.out,<-zO (by omega)];exact HY.out),zH (by rw[List.map_append];exact H1.out),zH (HA2.out.trans h2)⟩
    case measure=>simp[intOf];omega
   ·go_wp2_with (at_builtin;refine Z0Q _ rfl _ _ rfl base _ _ _ ys rfl HW2.out cd (v:Int) (by rw[hcd.out,JV (by omega)]) rfl (by omega) hb2 ?_);intro a3 c3 w3 h1 h2;have H1:=zH h1;clear h1;have HE:ys ++ [cd]=XY z:=by rw[hcd.out,<-zy (by omega)];exact HY.out
    have hl:ys.length+1=(XY z).length:=by rw[<-HE];simp
    have hm:(XY z).map Zt=ys.map Zt ++ [Zt cd]:=by rw[<-HE,List.map_append];rfl
    rw[<-hm,hl]at H1;have HH:=zH HE;clear HE;rw[hl];go_wp2;go_ret;exact⟨_,_,rfl,H1.out,(HA2.out.trans h2).below (by rw[<-hbase.out];exact Nat.le_refl _)⟩
 ·have hu:Hid (IntKind.u64.wrap (2 * IntKind.u64.wrap z)=(zig z:Int)):=zH (Z8T hz (by omega));go_enter Tryz.func98,Tryz.ntmps98;go_wp2_with fail;go_loopw [3,4] (fun u b wi=>∃(v m2:Nat) (ys:zU) (a2:zA) (c2:Nat),u = .int .u64 v/\b = .slice a2 m2 c2/\v < 18446744073709551616/\Hid (ys ++ zZ v=XY z)/\Hid (wi.ownsRow base 5 1 (.slice a2 m2 c2) m2 (ys.map Zt))/\Hid (XQ base w wi)) (fun u _ _=>(intOf u).toNat)
  case atStart=>exact⟨zig z,0,[],none,0,congrArg (Value.int .u64) hu.out,rfl,Z5D HZ.out,zH rfl,zH (World.ownsRow_nil _ _ _ _),zH (XQ.refl _ _)⟩
  case round=>
   obtain⟨v,m2,ys,a2,c2,rfl,rfl,hv,HY,HW2,HA2⟩:=hrel;have hm2:m2=ys.length:=by have:=HW2.out.1;simpa using this.symm
   have hle:m2+(zZ v).length<=10:=by
    have h1:=congrArg List.length HY.out;simp only[List.length_append]at h1;omega
   have hps:=Z1S v;subst hm2;obtain⟨cb,hcb⟩ : ∃cb,Hid (cb=UInt8.ofNat (v % 128+128)):=⟨_,zH rfl⟩;obtain⟨cd,hcd⟩ : ∃cd,Hid (cd=UInt8.ofNat v):=⟨_,zH rfl⟩;have hb2:base<=wr.heap.size:=by rw[<-hbase.out];exact HA2.out.size
   by_cases hge:(128:Int)<=v
   ·have hq:IntKind.u64.wrap ((v:Int) / 128)=((v / 128:Nat):Int):=by rw[IntKind.wrap_u64];omega
    go_wp2_with (at_builtin;refine Z0Q _ rfl _ _ rfl base _ _ _ ys rfl HW2.out cb _ (by rw[hcb.out,JV (by omega)];first | omega | rfl) rfl (by omega) hb2 ?_);intro a3 c3 w3 h1 h2;have H1:=zH h1;clear h1;go_wp2;go_roundw
    case rel=>exact⟨v / 128,ys.length+1,ys ++ [cb],a3,c3,by go_num,rfl,by omega,zH (by rw[List.append_assoc,List.singleton_append,hcb.out,<-zO (by omega)];exact HY.out),zH (by rw[List.map_append];exact H1.out),zH (HA2.out.trans h2)⟩
    case measure=>simp[intOf];omega
   ·go_wp2_with (at_builtin;refine Z0Q _ rfl _ _ rfl base _ _ _ ys rfl HW2.out cd (v:Int) (by rw[hcd.out,JV (by omega)]) rfl (by omega) hb2 ?_);intro a3 c3 w3 h1 h2;have H1:=zH h1;clear h1;have HE:ys ++ [cd]=XY z:=by rw[hcd.out,<-zy (by omega)];exact HY.out
    have hl:ys.length+1=(XY z).length:=by rw[<-HE];simp
    have hm:(XY z).map Zt=ys.map Zt ++ [Zt cd]:=by rw[<-HE,List.map_append];rfl
    rw[<-hm,hl]at H1;have HH:=zH HE;clear HE;rw[hl];go_wp2;go_ret;exact⟨_,_,rfl,H1.out,(HA2.out.trans h2).below (by rw[<-hbase.out];exact Nat.le_refl _)⟩
theorem ZaI {w:World}{k:Nat}{a:zA}{n c:Nat}{xs:List Value}(hr:ZX w k a n c xs)(h0:0 < n)(hk:0 < k): ∀b off,a=some ⟨b,off,none⟩->b < w.heap.size:=by
 intro b off e;obtain⟨b',off',e',hc⟩:=hr.at h0;rw[e]at e';cases e';have hl:0 < xs.length:=by rw[hr.len];exact Nat.mul_pos h0 hk
 exact World.block_lt_of_cell? w _ (hc 0 _ (List.getElem?_eq_getElem hl))
theorem Z5O (la:zA)(n lc:Nat)(zs:List Int)(w:World)(hr:Xe w la n lc zs)(hz : ∀z∈zs,Qm z)(hn:n<=1000000):
  Calls zq 99 #[.slice la n lc] w fun e w' => ∃a' c',e = .returned (.slice a' (XY n ++ ZK zs).length c') /\
   w'.ownsRow w.heap.size 5 1 (.slice a' (XY n ++ ZK zs).length c') (XY n ++ ZK zs).length ((XY n ++ ZK zs).map Zt)/\Below w.heap.size w w':=by
 have hl:=zH hr.len;have HZ:=zH hz;clear hz;obtain⟨base,hbase⟩:=zX (w.heap.size);have hlen:(XY n ++ ZK zs).length<=10000010:=by
  have h1:=Z1T zs HZ.out;have h2:=Z1R (z:=(n:Int)) (by unfold Qm;omega);have h3:=hl.out;rw[List.length_append];omega
 have HL:=zH hlen;clear hlen;have HR:=zH hr;rw[hbase.out];obtain⟨X,HX⟩ : ∃X,Hid (X=XY (n:Int)):=⟨_,zH rfl⟩;go_enter Tryz.func99,Tryz.ntmps99;go_wp2_with fail;refine(Ul n (by unfold Qm;omega) w).mono ?_;rintro e w1 ⟨a1,c1,rfl,h1,b1⟩;rw[hbase.out]at h1 b1;rw[<-HX.out]at h1 HL ⊢;have H1:=zH h1;clear h1;have B1:=zH b1;clear b1;obtain⟨m1,HM1⟩:=zX (X.length);rw[HM1.out]at H1 ⊢;go_wp2_with fail;go_loopw [3,4] (fun b i wr=>∃(k m:Nat) (a':zA) (c':Nat),b = .slice a' m c'/\k<=n/\i = .int .i64 k/\Hid (wr.ownsRow base 5 1 (.slice a' m c') m ((X ++ ZK (zs.take k)).map Zt))/\Hid (Below base w wr)) (fun _ i _=>n - (intOf i).toNat)
 case atStart=>exact⟨0,m1,a1,c1,rfl,Nat.zero_le _,rfl,zH (by simpa [ZK] using H1.out),B1⟩
 case round=>
  obtain⟨k,m,a',c',rfl,hk,rfl,HW,HB⟩:=hrel;by_cases hlt:k < n
  ·obtain⟨b,off,rfl,hc⟩:=Xe.at (hr.below (by rw[hbase.out];exact HB.out)) (by omega);have e1:=hc k hlt;have hk64:(k:Int)<=9223372036854775807:=by omega
   have HZK:=zH (HZ.out (zs[k]?.getD 0) (by rw[List.getElem?_eq_getElem (by rw[hl.out];exact hlt),Option.getD_some];exact List.getElem_mem _));have HT:=zH (VL (l:=zs) (k:=k) (by rw[hl.out];exact hlt));have HLE:=zH (Z0O zs (k+1));have hbs:base<=wr.heap.size:=by rw[<-hbase.out];exact HB.out.size
   generalize zs[k]?.getD 0=z at *;clear hc;go_wp2_with fail;refine(Ul z HZK.out wr).mono ?_;rintro e w2 ⟨a2,c2,rfl,h2,b2⟩;have H2:=zH h2;clear h2;have O2:=zH (Zb HW.out b2);have hm:m=(X ++ ZK (zs.take k)).length:=by have:=O2.out.1;simpa using this.symm
   have hb2:base<=w2.heap.size:=Nat.le_trans hbs b2.size;have B2:=zH (HB.out.trans (b2.mono hbs));clear b2;obtain⟨m2,HM2⟩:=zX ((XY z).length);rw[HM2.out]at H2 ⊢;have hml:m+m2<=140737488355328:=by
    have h1:=HL.out;have h2:=HLE.out;rw[HT.out]at h2;simp only[List.length_append]at h1 h2 hm;have h3:=HM2.out;omega
   clear hm;go_wp2_with (at_builtin;refine Jw _ rfl _ _ rfl base _ _ _ (X ++ ZK (zs.take k)) rfl O2.out _ _ _ (XY z) rfl (Yb.of_own H2.out) hml hb2 ?_);intro a3 c3 w3 h3 h4;have H3:=zH (show w3.ownsRow base 5 1 (.slice a3 (m+m2) c3) (m+m2) ((X ++ ZK (zs.take (k+1))).map Zt)by rw[HT.out,<-List.append_assoc];simpa using h3);clear h3;have B3:=zH (B2.out.trans ((XQ.of_own O2.out h4).below hb2));clear h4;go_wp2;go_roundw
   case rel=>exact⟨k+1,m+m2,a3,c3,by first | rfl | simp,by omega,by go_num,H3,B3⟩
   case measure=>simp[intOf];omega
  ·have hkn:k=n:=by omega
   subst hkn;have hm:m=(X ++ ZK zs).length:=by
    have:=HW.out.1;rw[List.take_of_length_le (by rw[hl.out];exact Nat.le_refl _)]at this;simpa using this.symm
   have HWW:=zH (show wr.ownsRow base 5 1 (.slice a' m c') m ((X ++ ZK zs).map Zt)by
    have:=HW.out;rwa [List.take_of_length_le (by rw[hl.out];exact Nat.le_refl _)]at this)
   have HM:=zH hm;clear hm;go_wp2;go_ret;rw[<-HX.out,<-HM.out];exact⟨_,_,rfl,HWW.out,HB.out⟩
theorem Z0y {w W:World}{A B:Xz}{s t:TypeId}(hb:Below w.heap.size w W):((W.alloc (.cells A s)).alloc (.cells B t)).drew.heap[W.heap.size]? = some (.cells A s (0,0))/\((W.alloc (.cells A s)).alloc (.cells B t)).drew.heap[W.heap.size+1]? = some (.cells B t (0,0))/\Below w.heap.size w ((W.alloc (.cells A s)).alloc (.cells B t)).drew:=by
 refine⟨Z8 _ _ _ _ (Z9 _ _),?_,?_⟩
 ·have:=Z9 (W.alloc (.cells A s)) (.cells B t);have e:(W.alloc (.cells A s)).heap.size=W.heap.size+1:=by simp
  rw[e]at this;exact this
 ·have b:=(hb.alloc hb.size (.cells A s)).alloc (Nat.le_trans hb.size (by simp)) (.cells B t);exact⟨b.os,b.tape,b.output,b.size,b.block⟩
theorem Z2V (n:NoteV)(sa:zA)(sc:Nat)(w:World):
  Calls zq 178 #[.agg (Z5 n sa sc)] w fun e w' => ∃P Q,e = .returned (.tuple #[.slice (some ⟨P,0,none⟩) 15 15,.slice (some ⟨Q,0,none⟩) 3 3]) /\
   w'.heap[P]? = some (.cells ((Zn n).map Yo).toArray 3 (0,0))/\w'.heap[Q]? = some (.cells ((Zr n).map Yo).toArray 3 (0,0))/\w.heap.size<=P/\w.heap.size<=Q/\Below w.heap.size w w':=by
 have hlast:=Z9 w (.cells (Z5 n sa sc) 47);have bb:Below w.heap.size w (w.alloc (.cells (Z5 n sa sc) 47)):=zB _ _;have hz:w.heap.size < (w.alloc (.cells (Z5 n sa sc) 47)).heap.size:=by simp
 have k0:=Z6 hlast 0 (.int .i64 n.house) rfl;have k1:=Z6 hlast 1 (.int .i64 n.num) rfl;have k2:=Z6 hlast 2 (.int .i64 n.clock) rfl;have k3:=Z6 hlast 3 (.int .i64 n.day) rfl;have k4:=Z6 hlast 4 (.int .i64 n.kind) rfl;have k5:=Z6 hlast 5 (.int .i64 n.stone) rfl;have k6:=Z6 hlast 6 (.int .i64 n.heap) rfl;have k7:=Z6 hlast 7 (.int .i64 n.turns) rfl;have k8:=Z6 hlast 8 (.int .i64 n.hardLo) rfl;have k9:=Z6 hlast 9 (.int .i64 n.hardHi) rfl;have k10:=Z6 hlast 10 (.int .i64 n.diffLo) rfl;have k11:=Z6 hlast 11 (.int .i64 n.diffHi) rfl;have k12:=Z6 hlast 12 (.int .i64 n.a) rfl;have k13:=Z6 hlast 13 (.int .i64 n.b) rfl;have k14:=Z6 hlast 14 (.int .i64 n.ring) rfl;have k16:=Z6 hlast 16 (.int .i64 n.refH) rfl;have k17:=Z6 hlast 17 (.int .i64 n.refN) rfl;have k18:=Z6 hlast 18 (.int .i64 n.fix) rfl;have BB:=zH bb;clear bb;have HZ:=zH hz;clear hz;have HL:=zH hlast;clear hlast;go_enter Tryz.func178,Tryz.ntmps178;go_upto_region 1 with fail;generalize w.alloc (.cells (Z5 n sa sc) 47)=W at *;generalize hp:w.heap.size=p at *;have HP:=zH hp;clear hp;have hk0:(fun w':World=>w'.cell? ⟨p,0,none⟩=some (.int .i64 n.house)/\w'.cell? ⟨p,1,none⟩=some (.int .i64 n.num)/\w'.cell? ⟨p,2,none⟩=some (.int .i64 n.clock)/\w'.cell? ⟨p,3,none⟩=some (.int .i64 n.day)/\w'.cell? ⟨p,4,none⟩=some (.int .i64 n.kind)/\w'.cell? ⟨p,5,none⟩=some (.int .i64 n.stone)/\w'.cell? ⟨p,6,none⟩=some (.int .i64 n.heap)/\w'.cell? ⟨p,7,none⟩=some (.int .i64 n.turns)/\w'.cell? ⟨p,8,none⟩=some (.int .i64 n.hardLo)/\w'.cell? ⟨p,9,none⟩=some (.int .i64 n.hardHi)/\w'.cell? ⟨p,10,none⟩=some (.int .i64 n.diffLo)/\w'.cell? ⟨p,11,none⟩=some (.int .i64 n.diffHi)/\w'.cell? ⟨p,12,none⟩=some (.int .i64 n.a)/\w'.cell? ⟨p,13,none⟩=some (.int .i64 n.b)/\w'.cell? ⟨p,14,none⟩=some (.int .i64 n.ring)/\w'.cell? ⟨p,16,none⟩=some (.int .i64 n.refH)/\w'.cell? ⟨p,17,none⟩=some (.int .i64 n.refN)/\w'.cell? ⟨p,18,none⟩=some (.int .i64 n.fix)) W:=⟨Z6 (HL.out) 0 _ rfl,Z6 (HL.out) 1 _ rfl,Z6 (HL.out) 2 _ rfl,Z6 (HL.out) 3 _ rfl,Z6 (HL.out) 4 _ rfl,Z6 (HL.out) 5 _ rfl,Z6 (HL.out) 6 _ rfl,Z6 (HL.out) 7 _ rfl,Z6 (HL.out) 8 _ rfl,Z6 (HL.out) 9 _ rfl,Z6 (HL.out) 10 _ rfl,Z6 (HL.out) 11 _ rfl,Z6 (HL.out) 12 _ rfl,Z6 (HL.out) 13 _ rfl,Z6 (HL.out) 14 _ rfl,Z6 (HL.out) 16 _ rfl,Z6 (HL.out) 17 _ rfl,Z6 (HL.out) 18 _ rfl⟩
 have hk1 : ∀o,(fun w':World=>w'.cell? ⟨p,0,none⟩=some (.int .i64 n.house)/\w'.cell? ⟨p,1,none⟩=some (.int .i64 n.num)/\w'.cell? ⟨p,2,none⟩=some (.int .i64 n.clock)/\w'.cell? ⟨p,3,none⟩=some (.int .i64 n.day)/\w'.cell? ⟨p,4,none⟩=some (.int .i64 n.kind)/\w'.cell? ⟨p,5,none⟩=some (.int .i64 n.stone)/\w'.cell? ⟨p,6,none⟩=some (.int .i64 n.heap)/\w'.cell? ⟨p,7,none⟩=some (.int .i64 n.turns)/\w'.cell? ⟨p,8,none⟩=some (.int .i64 n.hardLo)/\w'.cell? ⟨p,9,none⟩=some (.int .i64 n.hardHi)/\w'.cell? ⟨p,10,none⟩=some (.int .i64 n.diffLo)/\w'.cell? ⟨p,11,none⟩=some (.int .i64 n.diffHi)/\w'.cell? ⟨p,12,none⟩=some (.int .i64 n.a)/\w'.cell? ⟨p,13,none⟩=some (.int .i64 n.b)/\w'.cell? ⟨p,14,none⟩=some (.int .i64 n.ring)/\w'.cell? ⟨p,16,none⟩=some (.int .i64 n.refH)/\w'.cell? ⟨p,17,none⟩=some (.int .i64 n.refN)/\w'.cell? ⟨p,18,none⟩=some (.int .i64 n.fix)) (W.alloc o):=fun o=>⟨Z6 (Z8 W o _ _ HL.out) 0 _ rfl,Z6 (Z8 W o _ _ HL.out) 1 _ rfl,Z6 (Z8 W o _ _ HL.out) 2 _ rfl,Z6 (Z8 W o _ _ HL.out) 3 _ rfl,Z6 (Z8 W o _ _ HL.out) 4 _ rfl,Z6 (Z8 W o _ _ HL.out) 5 _ rfl,Z6 (Z8 W o _ _ HL.out) 6 _ rfl,Z6 (Z8 W o _ _ HL.out) 7 _ rfl,Z6 (Z8 W o _ _ HL.out) 8 _ rfl,Z6 (Z8 W o _ _ HL.out) 9 _ rfl,Z6 (Z8 W o _ _ HL.out) 10 _ rfl,Z6 (Z8 W o _ _ HL.out) 11 _ rfl,Z6 (Z8 W o _ _ HL.out) 12 _ rfl,Z6 (Z8 W o _ _ HL.out) 13 _ rfl,Z6 (Z8 W o _ _ HL.out) 14 _ rfl,Z6 (Z8 W o _ _ HL.out) 16 _ rfl,Z6 (Z8 W o _ _ HL.out) 17 _ rfl,Z6 (Z8 W o _ _ HL.out) 18 _ rfl⟩;have hk2 : ∀o o',(fun w':World=>w'.cell? ⟨p,0,none⟩=some (.int .i64 n.house)/\w'.cell? ⟨p,1,none⟩=some (.int .i64 n.num)/\w'.cell? ⟨p,2,none⟩=some (.int .i64 n.clock)/\w'.cell? ⟨p,3,none⟩=some (.int .i64 n.day)/\w'.cell? ⟨p,4,none⟩=some (.int .i64 n.kind)/\w'.cell? ⟨p,5,none⟩=some (.int .i64 n.stone)/\w'.cell? ⟨p,6,none⟩=some (.int .i64 n.heap)/\w'.cell? ⟨p,7,none⟩=some (.int .i64 n.turns)/\w'.cell? ⟨p,8,none⟩=some (.int .i64 n.hardLo)/\w'.cell? ⟨p,9,none⟩=some (.int .i64 n.hardHi)/\w'.cell? ⟨p,10,none⟩=some (.int .i64 n.diffLo)/\w'.cell? ⟨p,11,none⟩=some (.int .i64 n.diffHi)/\w'.cell? ⟨p,12,none⟩=some (.int .i64 n.a)/\w'.cell? ⟨p,13,none⟩=some (.int .i64 n.b)/\w'.cell? ⟨p,14,none⟩=some (.int .i64 n.ring)/\w'.cell? ⟨p,16,none⟩=some (.int .i64 n.refH)/\w'.cell? ⟨p,17,none⟩=some (.int .i64 n.refN)/\w'.cell? ⟨p,18,none⟩=some (.int .i64 n.fix)) ((W.alloc o).alloc o'):=fun o o'=>⟨Z6 (Z8 _ o' _ _ (Z8 W o _ _ HL.out)) 0 _ rfl,Z6 (Z8 _ o' _ _ (Z8 W o _ _ HL.out)) 1 _ rfl,Z6 (Z8 _ o' _ _ (Z8 W o _ _ HL.out)) 2 _ rfl,Z6 (Z8 _ o' _ _ (Z8 W o _ _ HL.out)) 3 _ rfl,Z6 (Z8 _ o' _ _ (Z8 W o _ _ HL.out)) 4 _ rfl,Z6 (Z8 _ o' _ _ (Z8 W o _ _ HL.out)) 5 _ rfl,Z6 (Z8 _ o' _ _ (Z8 W o _ _ HL.out)) 6 _ rfl,Z6 (Z8 _ o' _ _ (Z8 W o _ _ HL.out)) 7 _ rfl,Z6 (Z8 _ o' _ _ (Z8 W o _ _ HL.out)) 8 _ rfl,Z6 (Z8 _ o' _ _ (Z8 W o _ _ HL.out)) 9 _ rfl,Z6 (Z8 _ o' _ _ (Z8 W o _ _ HL.out)) 10 _ rfl,Z6 (Z8 _ o' _ _ (Z8 W o _ _ HL.out)) 11 _ rfl,Z6 (Z8 _ o' _ _ (Z8 W o _ _ HL.out)) 12 _ rfl,Z6 (Z8 _ o' _ _ (Z8 W o _ _ HL.out)) 13 _ rfl,Z6 (Z8 _ o' _ _ (Z8 W o _ _ HL.out)) 14 _ rfl,Z6 (Z8 _ o' _ _ (Z8 W o _ _ HL.out)) 16 _ rfl,Z6 (Z8 _ o' _ _ (Z8 W o _ _ HL.out)) 17 _ rfl,Z6 (Z8 _ o' _ _ (Z8 W o _ _ HL.out)) 18 _ rfl⟩
 go_region_held3 (fun w'=>w'.cell? ⟨p,0,none⟩=some (.int .i64 n.house)/\w'.cell? ⟨p,1,none⟩=some (.int .i64 n.num)/\w'.cell? ⟨p,2,none⟩=some (.int .i64 n.clock)/\w'.cell? ⟨p,3,none⟩=some (.int .i64 n.day)/\w'.cell? ⟨p,4,none⟩=some (.int .i64 n.kind)/\w'.cell? ⟨p,5,none⟩=some (.int .i64 n.stone)/\w'.cell? ⟨p,6,none⟩=some (.int .i64 n.heap)/\w'.cell? ⟨p,7,none⟩=some (.int .i64 n.turns)/\w'.cell? ⟨p,8,none⟩=some (.int .i64 n.hardLo)/\w'.cell? ⟨p,9,none⟩=some (.int .i64 n.hardHi)/\w'.cell? ⟨p,10,none⟩=some (.int .i64 n.diffLo)/\w'.cell? ⟨p,11,none⟩=some (.int .i64 n.diffHi)/\w'.cell? ⟨p,12,none⟩=some (.int .i64 n.a)/\w'.cell? ⟨p,13,none⟩=some (.int .i64 n.b)/\w'.cell? ⟨p,14,none⟩=some (.int .i64 n.ring)/\w'.cell? ⟨p,16,none⟩=some (.int .i64 n.refH)/\w'.cell? ⟨p,17,none⟩=some (.int .i64 n.refN)/\w'.cell? ⟨p,18,none⟩=some (.int .i64 n.fix)) (first | exact hk0 | exact hk1 _ | exact hk2 _ _) (fail)
 all_goals clear hk0 hk1 hk2 k0 k1 k2 k3 k4 k5 k6 k7 k8 k9 k10 k11 k12 k13 k14 k16 k17 k18
 all_goals go_wp2_with fail
 all_goals go_returns
 all_goals have hb:Below w.heap.size w W:=by rw[HP.out];exact BB.out
 all_goals have hs:=hb.size
 ·exact⟨W.heap.size,W.heap.size+1,rfl,(Z0y hb).1,(Z0y hb).2.1,hs,Nat.le_succ_of_le hs,(Z0y hb).2.2⟩
 ·exact⟨W.heap.size+1,W.heap.size,rfl,(Z0y hb).2.1,(Z0y hb).1,Nat.le_succ_of_le hs,hs,(Z0y hb).2.2⟩
theorem Z7L (n:NoteV): ∀k,k < 15->((Zn n).map Yo).toArray[k]? = some (.int .i64 ((Zn n)[k]?.getD 0))
 | 0,_=>rfl
 | 1,_=>rfl
 | 2,_=>rfl
 | 3,_=>rfl
 | 4,_=>rfl
 | 5,_=>rfl
 | 6,_=>rfl
 | 7,_=>rfl
 | 8,_=>rfl
 | 9,_=>rfl
 | 10,_=>rfl
 | 11,_=>rfl
 | 12,_=>rfl
 | 13,_=>rfl
 | 14,_=>rfl
 | k+15,h=>absurd h (by omega)
theorem Z6k (n:NoteV): ∀k,k < 3->((Zr n).map Yo).toArray[k]? = some (.int .i64 ((Zr n)[k]?.getD 0))
 | 0,_=>rfl
 | 1,_=>rfl
 | 2,_=>rfl
 | k+3,h=>absurd h (by omega)
section
variable (n:NoteV)(sa:zA)(sc:Nat)(w:World)
theorem UL (hs:Xe w sa n.strokes.length sc n.strokes)(hsm:JU n)(hlen:n.strokes.length<=1000000):
  Calls zq 125 #[.agg (Z5 n sa sc)] w fun e w' => ∃a' c',e = .returned (.slice a' (Yc n).length c') /\
   w'.ownsRow w.heap.size 5 1 (.slice a' (Yc n).length c') (Yc n).length ((Yc n).map Zt)/\Below w.heap.size w w':=by
 obtain⟨xs,hxs⟩ : ∃xs:zU,Hid (xs=[]):=⟨_,zH rfl⟩;have hN:=Z4w n hsm;have hT:Yc n=xs ++ ZK (Zn n) ++ (XY (n.strokes.length:Int) ++ ZK n.strokes) ++ ZK (Zr n):=by
  rw[hxs.out];unfold Yc;simp only[List.nil_append,List.append_assoc]
 rw[hT]at hN;have HLP:Hid ((xs ++ ZK (Zn n)).length<=140737488355328):=zH (by simp only[List.length_append]at hN ⊢;omega);have HL3:Hid ((xs ++ ZK (Zn n) ++ (XY (n.strokes.length:Int) ++ ZK n.strokes) ++ ZK (Zr n)).length<=140737488355328):=zH (by omega);clear hN hT;have hlast:=Z9 w (.cells (Z5 n sa sc) 47);have bb:Below w.heap.size w (w.alloc (.cells (Z5 n sa sc) 47)):=zB _ _;have hlt:w.heap.size < (w.alloc (.cells (Z5 n sa sc) 47)).heap.size:=by simp
 have H0:=zH (And.intro hlast (And.intro bb hlt));clear hlast bb hlt;obtain⟨base,hbase⟩:=zX (w.heap.size);go_enter Tryz.func125,Tryz.ntmps125;go_upto_region 1 with fail;generalize w.alloc (.cells (Z5 n sa sc) 47)=w0 at *;rw[hbase.out];rw[hbase.out]at H0;have hbw:Hid (base<=w.heap.size):=zH (by rw[hbase.out];exact Nat.le_refl _);go_wp2_with (refine zL base H0.out.1 ?_);refine(Z2V n sa sc w0).mono ?_;rintro e wf ⟨P,Q,rfl,g1,g2,_,_,b1⟩;have hlb:=Nat.le_of_lt H0.out.2.2;have AW:Hid (XQ base w wf):=zH ⟨(b1.mono hlb).os.trans H0.out.2.1.os,(b1.mono hlb).tape.trans H0.out.2.1.tape,(b1.mono hlb).output.trans H0.out.2.1.output,Nat.le_trans H0.out.2.1.size b1.size,fun k hk _=>by rw[hbase.out]at hk;exact(b1.block k (Nat.lt_trans hk H0.out.2.2)).trans (H0.out.2.1.block k hk)⟩;have hn1:=(b1.block _ H0.out.2.2).trans H0.out.1;have LN:=zH (And.intro (show base < wf.heap.size from(Array.getElem?_eq_some_iff.1 hn1).1) (And.intro (show ¬U8 base wf base from Z1g hn1 (by decide)) hn1));have LP:=zH (And.intro (show P < wf.heap.size from(Array.getElem?_eq_some_iff.1 g1).1) (And.intro (show ¬U8 base wf P from Z1g g1 (by decide)) g1));have LQ:=zH (And.intro (show Q < wf.heap.size from(Array.getElem?_eq_some_iff.1 g2).1) (And.intro (show ¬U8 base wf Q from Z1g g2 (by decide)) g2));have HB:Hid (base<=wf.heap.size):=zH (Nat.le_of_lt LN.out.1);clear g1 g2 hn1 b1 H0 hlb;go_wp2_with fail;go_loopw [5,6] (fun b i wr=>∃(k m:Nat) (a':zA) (c':Nat),b = .slice a' m c'/\k<=15/\i = .int .i64 k/\Hid (wr.ownsRow base 5 1 (.slice a' m c') m ((xs ++ ZK ((Zn n).take k)).map Zt))/\Hid (XQ base wf wr)) (fun _ i _=>15 - (intOf i).toNat)
 case atStart=>exact⟨0,0,none,0,rfl,Nat.zero_le _,rfl,zH (by rw[hxs.out];exact World.ownsRow_nil _ _ _ _),zH (XQ.refl _ _)⟩
 case round=>
  obtain⟨k,m,a',c',rfl,hk,rfl,HW,HA⟩:=hrel;by_cases hlt:k < 15
  ·have e1:wr.cell? ⟨P,k,none⟩=some (.int .i64 ((Zn n)[k]?.getD 0)):=Z6 ((HA.out.block _ LP.out.1 LP.out.2.1).trans LP.out.2.2) _ _ (Z7L n k hlt);have HZK:=zH (show Qm ((Zn n)[k]?.getD 0)from VP (hsm.1 _ (by rw[List.getElem?_eq_getElem (show k < (Zn n).length from hlt),Option.getD_some];exact List.getElem_mem _)));have HT:=zH (VL (l:=Zn n) (k:=k) hlt);have HLE:=zH (Z0O (Zn n) (k+1));have hz63:(k:Int)<=9223372036854775807:=by omega
   have hbs:base<=wr.heap.size:=Nat.le_trans HB.out HA.out.size;generalize (Zn n)[k]?.getD 0=z at *;go_wp2_with fail;refine(Ul z HZK.out wr).mono ?_;rintro e w2 ⟨a2,c2,rfl,h2,b2⟩;have H2:=zH h2;clear h2;have O2:=zH (Zb HW.out b2);have hm:m=(xs ++ ZK ((Zn n).take k)).length:=by have:=O2.out.1;simpa using this.symm
   have hb2:base<=w2.heap.size:=Nat.le_trans hbs b2.size;have B2:=zH (HA.out.trans (XQ.of_below b2));clear b2;obtain⟨m2,HM2⟩:=zX ((XY z).length);rw[HM2.out]at H2 ⊢;have hml:m+m2<=140737488355328:=by
    have h1:=HLP.out;have h2:=HLE.out;rw[HT.out]at h2;simp only[List.length_append]at h1 h2 hm;have h3:=HM2.out;omega
   clear hm;go_wp2_with (at_builtin;refine Jw _ rfl _ _ rfl base _ _ _ (xs ++ ZK ((Zn n).take k)) rfl O2.out _ _ _ (XY z) rfl (Yb.of_own H2.out) hml hb2 ?_);intro a3 c3 w3 h3 h4;have H3:=zH (show w3.ownsRow base 5 1 (.slice a3 (m+m2) c3) (m+m2) ((xs ++ ZK ((Zn n).take (k+1))).map Zt)by rw[HT.out,<-List.append_assoc];simpa using h3);clear h3;have B3:=zH (B2.out.trans (XQ.of_own O2.out h4));clear h4;go_wp2;go_roundw
   case rel=>exact⟨k+1,m+m2,a3,c3,by first | rfl | simp,by omega,by go_num,H3,B3⟩
   case measure=>simp[intOf];omega
  ·have hkn:k=15:=by omega
   subst hkn;have HX:Hid ((Zn n).take 15=Zn n):=zH rfl;rw[HX.out]at HW;have hm:m=(xs ++ ZK (Zn n)).length:=by
    have:=HW.out.1;simpa using this.symm
   have e15:wr.cell? ⟨base,15,none⟩=some (.slice sa n.strokes.length sc):=Z6 ((HA.out.block _ LN.out.1 LN.out.2.1).trans LN.out.2.2) _ _ rfl;have HSB:=zH (Nat.le_trans HB.out HA.out.size);have HM:=zH hm;clear hm;go_wp2_with fail;refine(Z5O _ _ _ n.strokes _ (hs.below (by rw[hbase.out];exact(AW.out.below hbw.out).trans (HA.out.below HB.out))) (fun z hz=>VP (hsm.2.1 z hz)) hlen).mono ?_;rintro e w2 ⟨a2,c2,rfl,h2,b2⟩;have H2:=zH h2;clear h2;have O2:=zH (Zb HW.out b2);have hb2:base<=w2.heap.size:=Nat.le_trans HSB.out b2.size;have B2:=zH (HA.out.trans (XQ.of_below b2));clear b2 e15;obtain⟨m2,HM2⟩:=zX ((XY (n.strokes.length:Int) ++ ZK n.strokes).length);rw[HM2.out]at H2 ⊢;have hml:m+m2<=140737488355328:=by
    have h1:=HL3.out;rw[HM.out,<-HM2.out];simp only[List.length_append]at h1 ⊢;omega
   go_wp2_with (at_builtin;refine Jw _ rfl _ _ rfl base _ _ _ (xs ++ ZK (Zn n)) rfl O2.out _ _ _ (XY (n.strokes.length:Int) ++ ZK n.strokes) rfl (Yb.of_own H2.out) hml hb2 ?_);intro a3 c3 w3 h3 h4;obtain⟨X,HXX⟩ : ∃X,Hid (X=xs ++ ZK (Zn n) ++ (XY (n.strokes.length:Int) ++ ZK n.strokes)):=⟨_,zH rfl⟩;obtain⟨m3,HM3⟩ : ∃m3,Hid (m3=m+m2):=⟨_,zH rfl⟩;rw[<-HM3.out]at h3 ⊢;have H3:=zH (show w3.ownsRow base 5 1 (.slice a3 m3 c3) m3 (X.map Zt)by rw[HXX.out];simpa using h3);clear h3;have A3:=zH (B2.out.trans (XQ.of_own O2.out h4));clear h4;have HLQ:Hid ((X ++ ZK (Zr n)).length<=140737488355328):=zH (by rw[HXX.out];exact HL3.out);go_wp2_with fail;go_loopw [5,7] (fun b i wr=>∃(k m:Nat) (a':zA) (c':Nat),b = .slice a' m c'/\k<=3/\i = .int .i64 k/\Hid (wr.ownsRow base 5 1 (.slice a' m c') m ((X ++ ZK ((Zr n).take k)).map Zt))/\Hid (XQ base wf wr)) (fun _ i _=>3 - (intOf i).toNat)
   case atStart=>exact⟨0,_,a3,c3,rfl,Nat.zero_le _,rfl,zH (by simpa [ZK] using H3.out),A3⟩
   case round=>
    obtain⟨k,m,a',c',rfl,hk,rfl,HW,HA⟩:=hrel;by_cases hlt:k < 3
    ·have e1:wr.cell? ⟨Q,k,none⟩=some (.int .i64 ((Zr n)[k]?.getD 0)):=Z6 ((HA.out.block _ LQ.out.1 LQ.out.2.1).trans LQ.out.2.2) _ _ (Z6k n k hlt);have HZK:=zH (show Qm ((Zr n)[k]?.getD 0)from VP (hsm.2.2.1 _ (by rw[List.getElem?_eq_getElem (show k < (Zr n).length from hlt),Option.getD_some];exact List.getElem_mem _)));have HT:=zH (VL (l:=Zr n) (k:=k) hlt);have HLE:=zH (Z0O (Zr n) (k+1));have hz63:(k:Int)<=9223372036854775807:=by omega
     have hbs:base<=wr.heap.size:=Nat.le_trans HB.out HA.out.size;generalize (Zr n)[k]?.getD 0=z at *;go_wp2_with fail;refine(Ul z HZK.out wr).mono ?_;rintro e w2 ⟨a2,c2,rfl,h2,b2⟩;have H2:=zH h2;clear h2;have O2:=zH (Zb HW.out b2);have hm:m=(X ++ ZK ((Zr n).take k)).length:=by have:=O2.out.1;simpa using this.symm
     have hb2:base<=w2.heap.size:=Nat.le_trans hbs b2.size;have B2:=zH (HA.out.trans (XQ.of_below b2));clear b2;obtain⟨m2,HM2⟩:=zX ((XY z).length);rw[HM2.out]at H2 ⊢;have hml:m+m2<=140737488355328:=by
      have h1:=HLQ.out;have h2:=HLE.out;rw[HT.out]at h2;simp only[List.length_append]at h1 h2 hm;have h3:=HM2.out;omega
     clear hm;go_wp2_with (at_builtin;refine Jw _ rfl _ _ rfl base _ _ _ (X ++ ZK ((Zr n).take k)) rfl O2.out _ _ _ (XY z) rfl (Yb.of_own H2.out) hml hb2 ?_);intro a3 c3 w3 h3 h4;have H3:=zH (show w3.ownsRow base 5 1 (.slice a3 (m+m2) c3) (m+m2) ((X ++ ZK ((Zr n).take (k+1))).map Zt)by rw[HT.out,<-List.append_assoc];simpa using h3);clear h3;have B3:=zH (B2.out.trans (XQ.of_own O2.out h4));clear h4;go_wp2;go_roundw
     case rel=>exact⟨k+1,m+m2,a3,c3,by first | rfl | simp,by omega,by go_num,H3,B3⟩
     case measure=>simp[intOf];omega
    ·have hkn:k=3:=by omega
     subst hkn;have HX:Hid ((Zr n).take 3=Zr n):=zH rfl;rw[HX.out]at HW;have hm:m=(X ++ ZK (Zr n)).length:=by
      have:=HW.out.1;simpa using this.symm
     have hX:X ++ ZK (Zr n)=Yc n:=by
      rw[HXX.out,hxs.out];unfold Yc;simp only[List.nil_append,List.append_assoc]
     rw[hX]at hm HW;subst hm;go_wp2;go_ret;exact⟨_,_,rfl,by rw[hbase.out];exact HW.out,by rw[hbase.out];exact(AW.out.below hbw.out).trans (HA.out.below HB.out)⟩
end
def atN (l:zU)(i:Nat):Nat:=(l[i]?.getD 0).toNat+256 * (l[i+1]?.getD 0).toNat
theorem Zbz (l:zU)(i:Nat):atN l i < 65536:=by
 have h1:=(l[i]?.getD 0).toNat_lt;have h2:=(l[i+1]?.getD 0).toNat_lt;unfold atN;omega
theorem Z8L (a:zA)(n c:Nat)(l:zU)(i:Int)(j:Nat)(hij:i=(j:Int))(w:World)(hr:Yb w a n c l)(hj:j+1 < n):
  Calls zq 207 #[.slice a n c,.int .i64 i] w fun e w'=>e = .returned (.int .i64 (atN l j)) /\ ∃q,w'=w.drewN q:=by
 subst hij;have hm:=ZX.maxn hr;obtain⟨b,off,rfl,hc⟩:=hr.at (by omega);have h1:=hc j (by omega);have h2:=hc (j+1) (by omega);have hB1:=Ql l j;have hB2:=Ql l (j+1);have g1:((j:Int)) < n:=by omega
 have g2:((j:Int)+1) < n:=by omega
 clear hc hr;go_enter Tryz.func207,Tryz.ntmps207;go_wp2;go_quiet (fail);go_wp2;go_ret;exact⟨by simp[atN],_,rfl⟩
def UQ:Nat->zU->zU->List (zU)
 | 0,_,_=>[]
 | k+1,st,fo=>
  if 2<=st.length/\4<=fo.length/\atN st 0<=8192/\atN st 0+2<=st.length/\fo.take 4=Y5 ((st.drop 2).take (atN st 0))then
   ((st.drop 2).take (atN st 0)) :: UQ k (st.drop (atN st 0+2)) (fo.drop 4)
  else []
def ZB (st fo:zU):List (zU):=UQ (fo.length / 4) st fo
def sOf (ls:List (zU)):Nat:=(ls.map fun b=>b.length+2).sum
theorem Z4j: ∀(k m:Nat) (st fo:zU),fo.length / 4<=k->fo.length / 4<=m->UQ k st fo=UQ m st fo
 | 0,0,_,_,_,_=>rfl
 | 0,m+1,st,fo,h,_=>by
  simp only[UQ]
  rw[if_neg (by omega)]
 | k+1,0,st,fo,_,h=>by
  simp only[UQ]
  rw[if_neg (by omega)]
 | k+1,m+1,st,fo,h1,h2=>by
  simp only[UQ]
  split
  ·rename_i h
   rw[Z4j k m]
   ·simp only[List.length_drop];omega
   ·simp only[List.length_drop];omega
  ·rfl
theorem Z8p {st fo:zU}(h1:2<=st.length)(h2:4<=fo.length)(h3:atN st 0<=8192)(h4:atN st 0+2<=st.length)(h5:fo.take 4=Y5 ((st.drop 2).take (atN st 0))):
  ZB st fo=((st.drop 2).take (atN st 0)) :: ZB (st.drop (atN st 0+2)) (fo.drop 4):=by
 unfold ZB;obtain⟨k,hk⟩ : ∃k,fo.length / 4=k+1:=⟨fo.length / 4 - 1,by omega⟩;rw[hk,UQ,if_pos ⟨h1,h2,h3,h4,h5⟩];congr 1;apply Z4j
 ·simp only[List.length_drop];omega
 ·simp
theorem Z9O {st fo:zU}(h : ¬(2<=st.length/\4<=fo.length/\atN st 0<=8192/\atN st 0+2<=st.length/\fo.take 4=Y5 ((st.drop 2).take (atN st 0)))):ZB st fo=[]:=by
 unfold ZB;cases hk:fo.length / 4 with
 | zero=>rfl
 | succ k=>rw[UQ,if_neg h]
theorem Ud (l:zU)(i j:Nat):atN (l.drop i) j=atN l (i+j):=by
 simp[atN,List.getElem?_drop,Nat.add_assoc]
theorem Z7l {fo b:zU}(h:4<=fo.length)(hb:b.length < 65536):fo.take 4=Y5 b↔atN fo 0=b.length/\atN fo 2=chk b:=by
 obtain⟨x,y,z,u,r,rfl⟩ : ∃x y z u r,fo=x :: y :: z :: u :: r:=by
  match fo,h with
  | x :: y :: z :: u :: r,_=>exact⟨x,y,z,u,r,rfl⟩
 have hc:=Z8I b;have tw : ∀(x y:UInt8) (n:Nat),n < 65536->([x,y]=two n↔x.toNat+256 * y.toNat=n):=by
  intro x y n hn;have hx:=x.toNat_lt;have hy:=y.toNat_lt;simp only[two,List.cons.injEq,and_true,<-UInt8.toNat_inj,UInt8.toNat_ofNat'];omega
 have e1:(x :: y :: z :: u :: r).take 4=[x,y] ++ [z,u]:=rfl;rw[e1,Y5,show atN (x :: y :: z :: u :: r) 0=x.toNat+256 * y.toNat from rfl,show atN (x :: y :: z :: u :: r) 2=z.toNat+256 * u.toNat from rfl,<-tw x y _ hb,<-tw z u _ (by omega)];constructor
 ·intro h;exact List.append_inj h rfl
 ·rintro⟨h1,h2⟩;rw[h1,h2]
def Xq (w:World)(base:Nat)(a:zA)(n c:Nat)(ls:List (zU)):Prop:=
 ∃vs:List Value,w.ownsRow base 41 1 (.slice a n c) n vs/\ls.length=n /\ ∀i,i < n -> ∃ai ci,vs[i]? = some (.slice ai (ls[i]?.getD []).length ci)/\w.ownsRow 0 5 1 (.slice ai (ls[i]?.getD []).length ci) (ls[i]?.getD []).length ((ls[i]?.getD []).map Zt)
theorem Xq.rd {w:World}{base:Nat}{a:zA}{n c:Nat}{ls:List (zU)}(h:Xq w base a n c ls):Z23 w a n c ls:=by
 obtain⟨vs,h1,h2,h3⟩:=h;refine⟨vs,ZX.of_own h1,h2,fun i hi=>?_⟩;obtain⟨ai,ci,h4,h5⟩:=h3 i hi;exact⟨ai,ci,h4,Yb.of_own h5⟩
theorem Xq.nil (w:World)(base:Nat):Xq w base none 0 0 []:=⟨[],World.ownsRow_nil _ _ _ _,rfl,fun i hi=>by omega⟩
theorem Xq.below {w w':World}{base:Nat}{a:zA}{n c:Nat}{ls:List (zU)}(h:Xq w base a n c ls)(hb:Below w.heap.size w w'):Xq w' base a n c ls:=by
 obtain⟨vs,h1,h2,h3⟩:=h;refine⟨vs,Zb h1 hb,h2,fun i hi=>?_⟩;obtain⟨ai,ci,h4,h5⟩:=h3 i hi;exact⟨ai,ci,h4,Zb h5 hb⟩
theorem Xq.lt {w:World}{base:Nat}{a:zA}{n c:Nat}{ls:List (zU)}(h:Xq w base a n c ls): ∀k,Value.ownBlock (.slice a n c)=some k->base<=k/\k < w.heap.size:=by
 obtain⟨vs,h1,_⟩:=h;exact h1.lt
theorem Z59 {w w':World}{base base':Nat}{e e':TypeId}(hne:e≠e'){k k':Nat}{v v':Value}{n n':Nat}{xs xs':List Value}(h:w.ownsRow base e k v n xs)(h':w.ownsRow base' e' k' v' n' xs')(hg:w.grownBy w' v'.ownBlock):w'.ownsRow base e k v n xs:=by
 refine h.kept hg ?_;rcases h.2 with ⟨rfl,_⟩ | ⟨g,cap,cur,rfl,_,hgg,_⟩
 ·exact .inl rfl
 ·right;rcases h'.2 with ⟨rfl,_⟩ | ⟨g',cap',cur',rfl,_,hgg',_⟩
  ·simp[Value.ownBlock]
  ·simp only[Value.ownBlock,ne_eq,Option.some.injEq];intro e;subst e;rw[hgg]at hgg';simp only[Option.some.injEq,Obj.cells.injEq]at hgg';exact hne hgg'.2.1
theorem Z9P:(zq.info? 41).map (fun i=>(i.zero,i.size,i.bytes))=some (some (.slice none 0 0),1,24):=by kernel_rfl
theorem Z2T (w:World)(ty:TypeId)(base:Nat)(sa:zA)(sn sc:Nat)(xs:List (zU))(hown:Xq w base sa sn sc xs)
  (g:Nat) (ya:zA) (m yc:Nat) (l:zU) (hc:w.cell? ⟨g,0,none⟩=some (.slice ya m yc))
  (hy:w.ownsRow 0 5 1 (.slice ya m yc) m (l.map Zt)) (hbytes:sn+1<=16777216) (hbase:base<=w.heap.size):
  ∃a' c' w',(Builtin.append_ #[98,98] ty #[.slice sa sn sc,.slice (some ⟨g,0,none⟩) 1 1]).run zq w = .ok (.slice a' (sn+1) c') w'/\Xq w' base a' (sn+1) c' (xs ++ [l])/\w.grownBy w' (Value.ownBlock (.slice sa sn sc)):=by
 obtain⟨i,hi,hz0,hz1,hz2⟩:=info_parts Z9P;obtain⟨vs,h1,h2,h3⟩:=hown;have hlen:l.length=m:=by simpa using hy.1
 subst hlen;have hrd:ZX w 1 (some ⟨g,0,none⟩) 1 1 [.slice ya l.length yc]:=by
  refine⟨rfl,Nat.le_refl _,by unfold maxLen;omega,.inr ⟨g,0,rfl,fun i x hx=>?_⟩⟩
  match i,hx with
  | 0,hx=>simp at hx;subst hx;exact hc
 obtain⟨a',c',w',hr,ho',hg'⟩:=Xh (P:=zq) w base 98 ty 41 i (.slice none 0 0) 1 24 Tryz.underlying98 hi hz0 hz1 hz2 rfl (by decide) sa sn sc vs h1 _ 1 1 _ hrd (by intro u hu;simp at hu;subst hu;rfl) (by unfold maxLen;omega) (by omega) hbase;refine⟨a',c',w',hr,⟨_,ho',by simp[h2],fun i hi=>?_⟩,hg'⟩;have hvl:vs.length=sn:=by simpa using h1.1
 by_cases hin:i < sn
 ·obtain⟨ai,ci,h4,h5⟩:=h3 i hin;have e1:(xs ++ [l])[i]? = xs[i]? := List.getElem?_append_left (by omega);have e2:(vs ++ [.slice ya l.length yc])[i]? = vs[i]? := List.getElem?_append_left (by omega);rw[e1,e2];exact⟨ai,ci,h4,Z59 (by decide) h5 h1 hg'⟩
 ·have hi':i=sn:=by omega
  have e1:(xs ++ [l])[i]? = some l:=by rw[List.getElem?_append_right (by omega)];simp[hi',h2]
  have e2:(vs ++ [.slice ya l.length yc])[i]? = some (.slice ya l.length yc):=by rw[List.getElem?_append_right (by omega)];simp[hi',hvl]
  rw[e1,e2];exact⟨ya,yc,rfl,Z59 (by decide) hy h1 hg'⟩
theorem Zcf (w:World){ops:Array Oper}{rest:List Oper}{o:Oper}{a:Act}{Q:Exit->Act->World->Prop}(hgd:o.guard=none)(s x:Operand)
  (ho:o.op = .call { callee := .builtin .append,args := #[s,x],argTypes := #[98,98] }) (base:Nat)
  (sa:zA) (sn sc:Nat) (xs:List (zU)) (hs:a.eval s = .slice sa sn sc) (hown:Xq w base sa sn sc xs)
  (g:Nat) (ya:zA) (m yc:Nat) (l:zU) (hx:a.eval x = .slice (some ⟨g,0,none⟩) 1 1) (hc:w.cell? ⟨g,0,none⟩=some (.slice ya m yc))
  (hy:w.ownsRow 0 5 1 (.slice ya m yc) m (l.map Zt)) (hbytes:sn+1<=16777216) (hbase:base<=w.heap.size)
  (h : ∀a' c' w',Xq w' base a' (sn+1) c' (xs ++ [l])->w.grownBy w' (Value.ownBlock (.slice sa sn sc))->wpList zq ops Q rest (a.put o.dst (.slice a' (sn+1) c')) w'):
  wpList zq ops Q (o :: rest) a w:=by
 obtain⟨a',c',w',hr,h2,h3⟩:=Z2T w o.type base sa sn sc xs hown g ya m yc l hc hy hbytes hbase;refine wpList_plain hgd fun K hK=>?_;unfold Oper.wp;simp[execOp,ho,resolve,invoke,builtin,hs,hx,hr,Result.andThen];exact hK _ _ (h a' c' w' h2 h3)
theorem Z2P (w:World){ops:Array Oper}{rest:List Oper}{o:Oper}{a:Act}{Q:Exit->Act->World->Prop}(hgd:o.guard=none)(x:Operand)(lo hi:Option Operand)
  (ho:o.op = .slice 41 x lo hi none) (xa:zA) (n c:Nat) (l:zU) (hx:a.eval x = .slice xa n c) (hrd:Yb w xa n c l) (L H:Nat)
  (hl:(lo=none/\L=0) \/ ∃q kd,lo=some q/\a.eval q = .int kd (L:Int)) (hh:(hi=none/\H=n) \/ ∃q kd,hi=some q/\a.eval q = .int kd (H:Int)) (h1:L<=H) (h2:H<=n)
  (h : ∀a',Yb w a' (H - L) (c - L) ((l.drop L).take (H - L))->wpList zq ops Q rest (a.put o.dst (.slice a' (H - L) (c - L))) w):wpList zq ops Q (o :: rest) a w:=by
 obtain⟨i,hi',hz0,hz1,hz2⟩:=info_parts U5;refine Z3e w hgd x lo hi 41 ho 5 i 1 Tryz.underlying41 hi' hz1 xa n c _ hx hrd L H hl hh h1 h2 (fun a' hr=>h a' ?_);unfold Yb;rw[List.map_take,List.map_drop];simpa using hr
theorem Z3K (d:List (zU))(b:zU):sOf (d ++ [b])=sOf d+(b.length+2):=by simp[sOf]
def YV (st:zU)(S:Nat):zU:=(st.drop (S+2)).take (atN st S)
def Z0R (st fo:zU)(S F:Nat):Prop:=
 S+2<=st.length/\F+4<=fo.length/\atN st S<=8192/\S+2+atN st S<=st.length/\atN fo F=atN st S/\atN fo (F+2)=chk (YV st S)
theorem Ub {st:zU}{S:Nat}(h:S+2+atN st S<=st.length):(YV st S).length=atN st S:=by
 simp only[YV,List.length_take,List.length_drop];omega
theorem Z0p (st fo:zU)(S F:Nat):Z0R st fo S F ↔
  (2<=(st.drop S).length/\4<=(fo.drop F).length/\atN (st.drop S) 0<=8192/\atN (st.drop S) 0+2<=(st.drop S).length/\(fo.drop F).take 4=Y5 (((st.drop S).drop 2).take (atN (st.drop S) 0))):=by
 have hb:((st.drop S).drop 2).take (atN (st.drop S) 0)=YV st S:=by rw[List.drop_drop,Ud,YV,Nat.add_zero]
 rw[hb,Ud,Nat.add_zero];simp only[List.length_drop];constructor
 ·rintro⟨h1,h2,h3,h4,h5,h6⟩;refine⟨by omega,by omega,h3,by omega,?_⟩;rw[Z7l (by simp only[List.length_drop];omega) (by rw[Ub h4];omega),Ub h4,Ud,Ud];exact⟨h5,h6⟩
 ·rintro⟨h1,h2,h3,h4,h5⟩;have h4':S+2+atN st S<=st.length:=by omega
  rw[Z7l (by simp only[List.length_drop];omega) (by rw[Ub h4'];omega),Ub h4',Ud,Ud]at h5;exact⟨by omega,by omega,h3,h4',h5.1,h5.2⟩
theorem Z5l {st fo:zU}{S F:Nat}(h : ¬Z0R st fo S F):ZB (st.drop S) (fo.drop F)=[]:=Z9O (fun h'=>h ((Z0p st fo S F).2 h'))
theorem Z95 {st fo:zU}{S F:Nat}(h:Z0R st fo S F):ZB (st.drop S) (fo.drop F)=YV st S :: ZB (st.drop (S+(2+atN st S))) (fo.drop (F+4)):=by
 obtain⟨h1,h2,h3,h4,h5⟩:=(Z0p st fo S F).1 h;rw[Z8p h1 h2 h3 h4 h5];simp only[List.drop_drop,Ud,Nat.add_zero,YV];rw[show S+(atN st S+2)=S+(2+atN st S)by omega]
theorem Z9q (a:zA)(n c:Nat)(st:zU)(a':zA)(n' c':Nat)(fo:zU)(w:World)(hr:Yb w a n c st)(hr':Yb w a' n' c' fo)(hn:n<=16777216)(hn':n'<=16777216):
  Calls zq 181 #[.slice a n c,.slice a' n' c'] w fun e w' => ∃oa oc,e = .returned (.tuple #[.slice oa (ZB st fo).length oc,.int .i64 (sOf (ZB st fo)),.int .i64 (4 * ((ZB st fo).length:Int))]) /\
   Xq w' w.heap.size oa (ZB st fo).length oc (ZB st fo)/\Below w.heap.size w w':=by
 have hl:=zH hr.len;have hl':=zH hr'.len;go_enter Tryz.func181,Tryz.ntmps181;go_wp2;go_loopw [7,8,9,10,11] (fun o s f _ _ wr=>∃(d:List (zU)) (oa:zA) (oc S D:Nat),o = .slice oa D oc/\s = .int .i64 S/\f = .int .i64 (4 * (D:Int))/\Xq wr w.heap.size oa D oc d/\S<=n/\4 * D<=n'/\Hid (S=sOf d)/\Hid (D=d.length)/\Hid (ZB st fo=d ++ ZB (st.drop S) (fo.drop (4 * D)))/\Below w.heap.size w wr) (fun _ _ f _ _ _=>n' - (intOf f).toNat)
 case atStart=>exact⟨[],none,0,0,0,rfl,rfl,rfl,Xq.nil _ _,Nat.zero_le _,Nat.zero_le _,rfl,rfl,by simp[Hid],Below.refl _ _⟩
 case round=>
  obtain⟨d,oa,oc,S,D,rfl,rfl,rfl,hown,hs,hf,HS,HD,HJ,hb⟩:=hrel;have HF:Hid (∀(e:Ending) (W:World),¬Z0R st fo S (4 * D)->Xq W w.heap.size oa D oc d->Below w.heap.size w W->e = .returned (.tuple #[.slice oa D oc,.int .i64 S,.int .i64 (4 * (D:Int))]) -> ∃oa oc,e = .returned (.tuple #[.slice oa (ZB st fo).length oc,.int .i64 (sOf (ZB st fo)),.int .i64 (4 * ((ZB st fo).length:Int))]) /\
   Xq W w.heap.size oa (ZB st fo).length oc (ZB st fo)/\Below w.heap.size w W):=by
   intro e W h1 h2 h3 h4;have h0:ZB st fo=d:=by rw[HJ.out,Z5l h1,List.append_nil]
   rw[h0,<-HD.out,<-HS.out];exact⟨oa,oc,h4,h2,h3⟩
  have hmax:sOf d<=16777216:=by rw[<-HS.out];omega
  by_cases h1:S+2<=n
  ·by_cases h2:4 * D+4<=n'
   ·have hrw:=hr.below hb;go_wp2_with fail;refine(Z8L _ _ _ st _ S rfl _ hrw (by omega)).mono ?_;rintro e w1 ⟨rfl,q1,rfl⟩;have hN:=Zbz st S;have hbq:=below_drewN hb q1;by_cases h3:atN st S<=8192
    ·have g3:decide ((8192:Int) < (atN st S:Int))=false:=by simp;omega
     by_cases h4:S+2+atN st S<=n
     ·have g4:decide ((n:Int) < (S:Int)+2+(atN st S:Int))=false:=by simp;omega
      have hrq':=hr'.below hbq;go_wp2_with fail;refine(Z8L _ _ _ fo _ (4 * D) (by omega) _ hrq' (by omega)).mono ?_;rintro e w1 ⟨rfl,q2,rfl⟩;rw[World.drewN_drewN];have hbr:=below_drewN hb (q1+q2);by_cases h5:atN fo (4 * D)=atN st S
      ·have g5:((atN fo (4 * D):Int) != (atN st S:Int))=false:=by rw[h5];simp
       have H5:=zH h5;clear h5;have hrr:=hr.below hbr;have hrr':=hr'.below hbr;clear hrw hrq';go_wp2_with (refine Z2P _ rfl _ _ _ rfl _ _ _ _ rfl hrr (S+2) (S+2+atN st S) (.inr ⟨_,.i64,rfl,by go_num⟩) (.inr ⟨_,.i64,rfl,by go_num⟩) (by omega) (by omega) ?_;intro sa hsl);have hB:Yb (wr.drewN (q1+q2)) sa (atN st S) (c - (S+2)) (YV st S):=by
        rw[show S+2+atN st S - (S+2)=atN st S by omega]at hsl;exact hsl
       clear hsl;refine(Z8L _ _ _ fo _ (4 * D+2) (by omega) _ hrr' (by omega)).mono ?_;rintro e w1 ⟨rfl,q3,rfl⟩;rw[World.drewN_drewN];have hbs:=below_drewN hb (q1+q2+q3);have hBs:Yb (wr.drewN (q1+q2+q3)) sa (atN st S) (c - (S+2)) (YV st S):=hB;clear hrr' hB;go_wp2_with fail;refine(Z3W _ _ _ (YV st S) _ (by omega) hBs).mono ?_;rintro e w1 ⟨rfl,hw1⟩;subst hw1;by_cases h6:atN fo (4 * D+2)=chk (YV st S)
       ·have g6:((atN fo (4 * D+2):Int) != (chk (YV st S):Int))=false:=by rw[h6];simp
        have H6:=zH h6;clear h6;have HC:=zH (Z95 (st:=st) (fo:=fo) (S:=S) (F:=4 * D) ⟨by rw[hl.out];exact h1,by rw[hl'.out];exact h2,h3,by rw[hl.out];exact h4,H5.out,H6.out⟩);have HL:=zH (Ub (st:=st) (S:=S) (by rw[hl.out];exact h4));have hownW:Xq (wr.drewN (q1+q2+q3)) w.heap.size oa D oc d:=hown.below (below_drewN (Below.refl _ _) (q1+q2+q3));clear hown hbr hbq hrr HF;generalize wr.drewN (q1+q2+q3)=W2 at *;have ho0:=World.ownsRow_lit (base:=W2.heap.size) (e:=5) (size:=1) W2 #[] 0 (Nat.le_refl _) (by unfold maxLen;omega) rfl;have hba:=zB W2 (Obj.cells #[] 5);have hB1:=hBs.below hba;go_wp2_with (at_builtin;refine Jw _ rfl _ _ rfl W2.heap.size _ _ _ [] rfl ho0 _ _ _ (YV st S) rfl hB1 (by omega) (by simp) ?_;intro a1 c1 w3 ho3 hg3;refine Hid.out ?_);refine zH ?_;rw[Nat.zero_add,List.nil_append]at ho3;have hb23:=hba.grown hg3 (by simp) (fun k hk=>by simp[Value.ownBlock]at hk;omega);have hown3:=hownW.below hb23;have hbw3:=hbs.trans (hb23.mono hbs.size);have hsz3:=hbw3.size;clear hownW hbs hBs hB1 ho0 hba hg3 hb23;have hal:=zB w3 (Obj.cells #[Value.slice a1 (atN st S) c1] 41);have hown4:=hown3.below hal;have hy:=Zp (Zb ho3 hal) (Nat.zero_le _);have hDm:D<=16777216:=by omega
        go_wp2_with (at_builtin;refine Zcf _ rfl _ _ rfl w.heap.size _ _ _ d rfl hown4 w3.heap.size _ _ _ (YV st S) rfl (cell_of_one (heap_alloc_new w3 _)) hy (by omega) (by simp;omega) ?_;intro a5 c5 w5 ho5 hg5;refine Hid.out ?_);refine zH ?_;have hb5:=(hbw3.trans (hal.mono hsz3)).grown hg5 (by simp;omega) (fun k hk=>(hown3.lt k hk).1);clear hown3 hown4 hy hal hg5 ho3 hbw3;go_wp2;go_roundw
        case rel=>exact⟨d ++ [YV st S],a5,c5,S+(2+atN st S),D+1,rfl,by go_num,by go_num,ho5,by omega,by omega,show _=_ by rw[Z3K,<-HS.out,HL.out];omega,show _=_ by rw[List.length_append,<-HD.out];rfl,show _=_ by rw[HJ.out,HC.out,List.append_assoc];rfl,hb5⟩
        case measure=>simp[intOf];omega
       ·have g6:((atN fo (4 * D+2):Int) != (chk (YV st S):Int))=true:=by rw[bne_iff_ne];omega
        have H6:=zH h6;clear h6;go_wp2_with fail;go_ret3;exact HF.out _ _ (fun h=>H6.out h.2.2.2.2.2) (hown.below (below_drewN (Below.refl _ _) (q1+q2+q3))) hbs rfl
      ·have g5:((atN fo (4 * D):Int) != (atN st S:Int))=true:=by rw[bne_iff_ne];omega
       have H5:=zH h5;clear h5;go_wp2_with fail;go_ret3;exact HF.out _ _ (fun h=>H5.out h.2.2.2.2.1) (hown.below (below_drewN (Below.refl _ _) (q1+q2))) hbr rfl
     ·have g4:decide ((n:Int) < (S:Int)+2+(atN st S:Int))=true:=by simp;omega
      go_wp2_with fail;go_ret3;exact HF.out _ _ (fun h=>h4 (by rw[<-hl.out];exact h.2.2.2.1)) (hown.below (below_drewN (Below.refl _ _) q1)) hbq rfl
    ·have g3:decide ((8192:Int) < (atN st S:Int))=true:=by simp;omega
     go_wp2_with fail;go_ret3;exact HF.out _ _ (fun h=>h3 h.2.2.1) (hown.below (below_drewN (Below.refl _ _) q1)) hbq rfl
   ·go_wp2_with fail;go_ret3;exact HF.out _ _ (fun h=>h2 (by rw[<-hl'.out];exact h.2.1)) hown hb rfl
  ·go_wp2_with fail;go_ret3;exact HF.out _ _ (fun h=>h1 (by rw[<-hl.out];exact h.1)) hown hb rfl
def ZR (rec:LoopState->Option Code->Loop)(D:Nat)(st:LoopState)(pe:Option Code)(W:World):Prop:=
 W.heap[D+1]? = some (.loop (rec st pe))/\W.heap[D]? = some (.deferred (some []))
theorem ZR.kept {rec:LoopState->Option Code->Loop}{D:Nat}{st:LoopState}{pe:Option Code}{W W':World}(h:ZR rec D st pe W)(hk:KeepsFrom D W W'):ZR rec D st pe W':=
 ⟨hk.same _ _ (by omega) h.1 rfl,hk.same _ _ (Nat.le_refl _) h.2 rfl⟩
def Z6G (D:Nat)(B:World->Prop)(X:Code->World->Prop)(W:World):Exit->Act->World->Prop
 | .normal,_,W'=>KeepsFrom D W W'/\B W'
 | .ret,_,W'=>KeepsFrom D W W'/\X .ret W'
 | .exit id,_,W'=>KeepsFrom D W W'/\X (.exit id) W'
 | .goto t,_,W'=>KeepsFrom D W W'/\X (.goto t) W'
 | .panic _,_,_=>False
 | .outgrown,_,_=>False
theorem Z5F {P:Program}{σ:Type}{n:Nat}{g:Operand}{ps:Array Tmp}{assign body:Code}{Q:Exit->Act->World->Prop}{a:Act}{w:World}
  {gf:Nat} {lb:Xz} (hg:a.eval g = .func (.func gf) #[] lb) (eg : ∀args w,(callFunc gf args).run P w = .ok (.enter gf args) w)
  (encs:σ->Xz) (hps : ∀x,(encs x).size=ps.size)
  (A B:σ->World->Prop) (X:Code->σ->World->Prop) (Done:World->Prop) (Stop:Code->World->Prop)
  (hA : ∀s W o,A s W->(∃r,W.heap[w.heap.size+1]? = some (.loop r))->A s (W.putObj (w.heap.size+1) (.loop o)))
  (hB : ∀s W o,B s W->(∃r,W.heap[w.heap.size+1]? = some (.loop r))->B s (W.putObj (w.heap.size+1) (.loop o)))
  (hX : ∀c s W o,X c s W->(∃r,W.heap[w.heap.size+1]? = some (.loop r))->X c s (W.putObj (w.heap.size+1) (.loop o)))
  (hDone : ∀W o,Done W->(∃r,W.heap[w.heap.size+1]? = some (.loop r))->Done (W.putObj (w.heap.size+1) (.loop o)))
  (hStop : ∀c W o,Stop c W->(∃r,W.heap[w.heap.size+1]? = some (.loop r))->Stop c (W.putObj (w.heap.size+1) (.loop o)))
  (a₁:σ->Act)
  (hassign : ∀(s:σ) (W:World) (K:Act->World->Prop),A s W->K (a₁ s) W->
   assign.wpIn (Fence.wide.inRound (w.heap.size+1)) (n - 1) P (Exit.then K (fun _ _ _=>False)) { tmps:=(ps.zip (encs s)).foldl (fun t (p,v)=>t.setIfInBounds p v) a.tmps,defers:=[] } W)
  (hbody : ∀(s:σ) (W:World),A s W->(∃r,W.heap[w.heap.size+1]? = some (.loop r))->W.heap[w.heap.size]? = some (.deferred (some []))->body.wpIn (Fence.wide.inRound (w.heap.size+1)) (n - 1) P (Z6G w.heap.size (B s) (fun c=>X c s) W) (a₁ s) W)
  (hiter : ∀(rec:LoopState->Option Code->Loop),
   ZR rec w.heap.size .ready none ((w.alloc (.deferred (some []))).alloc (.loop (rec .ready none)))->
   (∀s W,A s W->ZR rec w.heap.size .ready none W->YieldAt Fence.wide (n - 1) P (w.heap.size+1) (encs s) W fun e W'=>
    (e = .returned (.bool true)/\B s W'/\ZR rec w.heap.size .ready none W')\/(∃c,e = .returned (.bool false)/\X c s W'/\ZR rec w.heap.size .done (some c) W'))->
   CallsIn Fence.wide n P gf (#[.func (.yield (w.heap.size+1)) #[] #[]] ++ lb) ((w.alloc (.deferred (some []))).alloc (.loop (rec .ready none))) fun e W'=>
    (∃v,e = .returned v)/\((Done W'/\ZR rec w.heap.size .ready none W')\/(∃c,Stop c W'/\ZR rec w.heap.size .done (some c) W')))
  (hdone : ∀(W:World),Done W->W.heap[w.heap.size]? = some (.deferred (some []))->Q .normal { a with defers := { target := .collected w.heap.size,args := #[] } :: a.defers } W)
  (hstop : ∀(c:Code) (W:World),Stop c W->W.heap[w.heap.size]? = some (.deferred (some []))->c.wpIn Fence.wide (n+1) P Q { a with defers := { target := .collected w.heap.size,args := #[] } :: a.defers } W):
  (Code.rangeFunc g ps assign body).wpIn Fence.wide (n+1) P Q a w:=by
 refine wpIn_rangeFunc ?_;intro fn hfn;obtain⟨rec,hrec⟩ : ∃rec:LoopState->Option Code->Loop,rec=fun st pe=>{ state:=st,pending:=pe,fn,tmps:=a.tmps,params:=ps,assign,body,defers:=w.heap.size } := ⟨_,rfl⟩;have hnew:ZR rec w.heap.size .ready none ((w.alloc (.deferred (some []))).alloc (.loop (rec .ready none))):=by
  refine⟨?_,(Below.heap_alloc _ _ _ (by simp)).trans (World.alloc_heap_new w _)⟩;have:=World.alloc_heap_new (w.alloc (.deferred (some []))) (.loop (rec .ready none));rwa [World.size_alloc]at this
 have hput : ∀(W:World) (st st':LoopState) (pe pe':Option Code),ZR rec w.heap.size st pe W->ZR rec w.heap.size st' pe' (W.putObj (w.heap.size+1) (.loop (rec st' pe'))):=
  fun W st st' pe pe' h=>⟨World.putObj_heap_same (Array.getElem?_eq_some_iff.1 h.1).1,(World.putObj_heap_other (by omega)).trans h.2⟩
 refine⟨w.heap.size+1,[{ target := .collected w.heap.size,args := #[] }],(w.alloc (.deferred (some []))).alloc (.loop (rec .ready none)),{ target := .fn (.func gf) lb,args := #[.func (.yield (w.heap.size+1)) #[] #[]] },(w.alloc (.deferred (some []))).alloc (.loop (rec .ready none)),gf,
  #[.func (.yield (w.heap.size+1)) #[] #[]] ++ lb,(w.alloc (.deferred (some []))).alloc (.loop (rec .ready none)),?_,?_,?_,?_,?_,?_⟩
 ·rw[hrec];exact run_enterLoop_outer _ _ _ _ _
 ·simp only[resolve,hg];simp[go_sem]
 ·intro f' _;trivial
 ·simp[invoke,go_sem,eg]
 ·intro h;simp[Fence.wide]at h
 ·rw[Nat.add_sub_cancel];refine(hiter rec hnew ?_).mono ?_
  ·intro s W hs hl;have hy:=run_yield (P:=P) (args:=encs s) hl.1 (by rw[hrec];exact hps s);rw[hrec]at hy;refine⟨fn,_,assign,body,hy,roundIn_of_wpIn hfn (hassign s W _ hs ⟨_,run_beginRound hl.1 (by rw[hrec]),?_⟩)⟩;have hbusy:({ rec .ready none with state := .busy } : Loop)=rec .busy none:=by rw[hrec]
   rw[hbusy];have hl2:=hput W .ready .busy none none hl;refine wpIn_mono (hbody s _ (hA s W _ hs ⟨_,hl.1⟩) ⟨_,hl2.1⟩ hl2.2) ?_;have fin : ∀(jump:Option Code) (W3:World),KeepsFrom w.heap.size (W.putObj (w.heap.size+1) (.loop (rec .busy none))) W3->
     (Instr.endRound (w.heap.size+1) jump).run P W3 = .ok (.bool jump.isNone) (W3.putObj (w.heap.size+1) (.loop (rec (if jump.isNone then .ready else .done) jump))) /\
     ZR rec w.heap.size .busy none W3/\ZR rec w.heap.size (if jump.isNone then .ready else .done) jump (W3.putObj (w.heap.size+1) (.loop (rec (if jump.isNone then .ready else .done) jump))):=fun jump W3 hk=>by
    have h3:=hl2.kept hk;have hr:=run_endRound (P:=P) jump h3.1;rw[hrec]at hr ⊢;exact⟨hr,by rw[hrec]at h3;exact h3,by have:=hput W3 .busy (if jump.isNone then .ready else .done) none jump h3;rw[hrec]at this;exact this⟩
   rintro e a3 W3 hp;cases e with
   | normal=>
    obtain⟨hk,hb⟩:=hp;obtain⟨hr,h3,h4⟩:=fin none W3 hk;exact⟨_,_,hr,.inl ⟨rfl,hB s W3 _ hb ⟨_,h3.1⟩,h4⟩⟩
   | ret=>
    obtain⟨hk,hb⟩:=hp;obtain⟨hr,h3,h4⟩:=fin (some .ret) W3 hk;exact⟨_,_,hr,.inr ⟨.ret,rfl,hX _ s W3 _ hb ⟨_,h3.1⟩,h4⟩⟩
   | exit id=>
    obtain⟨hk,hb⟩:=hp;obtain⟨hr,h3,h4⟩:=fin (some (.exit id)) W3 hk;exact⟨_,_,hr,.inr ⟨.exit id,rfl,hX _ s W3 _ hb ⟨_,h3.1⟩,h4⟩⟩
   | goto t=>
    obtain⟨hk,hb⟩:=hp;obtain⟨hr,h3,h4⟩:=fin (some (.goto t)) W3 hk;exact⟨_,_,hr,.inr ⟨.goto t,rfl,hX _ s W3 _ hb ⟨_,h3.1⟩,h4⟩⟩
   | panic ch=>exact hp.elim
   | outgrown=>exact hp.elim
  ·rintro e W2 ⟨⟨v,rfl⟩,(⟨hd,hl⟩ | ⟨c,hs,hl⟩)⟩
   ·refine⟨none,_,by have:=run_endLoop (P:=P) hl.1 (by rw[hrec];simp);rw[hrec]at this;exact this,?_⟩;exact hdone _ (hDone W2 _ hd ⟨_,hl.1⟩) ((World.putObj_heap_other (by omega)).trans hl.2)
   ·refine⟨some c,_,by have:=run_endLoop (P:=P) hl.1 (by rw[hrec];simp);rw[hrec]at this;exact this,?_⟩;exact hstop c _ (hStop c W2 _ hs ⟨_,hl.1⟩) ((World.putObj_heap_other (by omega)).trans hl.2)
attribute [local go_sem] Oper.semAt_some
theorem Zaf {F:Fence}{n:Nat}(w:World){ops:Array Oper}{rest:List Oper}{o:Oper}{a:Act}{Q:Exit->Act->World->Prop}(hgd:o.guard=none)(s x:Operand)
  (ho:o.op = .call { callee := .builtin .append,args := #[s,x],argTypes := #[98,98] }) (base:Nat)
  (sa:zA) (sn sc:Nat) (xs:List (zU)) (hs:a.eval s = .slice sa sn sc) (hown:Xq w base sa sn sc xs)
  (g:Nat) (ya:zA) (m yc:Nat) (l:zU) (hx:a.eval x = .slice (some ⟨g,0,none⟩) 1 1) (hc:w.cell? ⟨g,0,none⟩=some (.slice ya m yc))
  (hy:w.ownsRow 0 5 1 (.slice ya m yc) m (l.map Zt)) (hbytes:sn+1<=16777216) (hbase:base<=w.heap.size)
  (h : ∀a' c' w',Xq w' base a' (sn+1) c' (xs ++ [l])->w.grownBy w' (Value.ownBlock (.slice sa sn sc))->wpListIn F n zq ops Q rest (a.put o.dst (.slice a' (sn+1) c')) w'):
  wpListIn F n zq ops Q (o :: rest) a w:=by
 obtain⟨a',c',w',hr,h2,h3⟩:=Z2T w o.type base sa sn sc xs hown g ya m yc l hc hy hbytes hbase;refine wpListIn_plain hgd fun K hK=>?_;unfold Oper.wpIn;refine⟨?_,?_⟩
 ·simp[Oper.about,ho,resolve,Target.leads,Sem.run_pure]
 ·rw[Oper.semAt_plain F _ _ (by rw[ho];intro c hc';cases hc')];simp[execOp,ho,resolve,invoke,builtin,hs,hx,hr,Result.andThen];exact hK _ _ (h a' c' w' h2 h3)
structure Za (S:Nat->Prop)(W W':World):Prop where
 os:W'.os=W.os
 tape:W'.tape=W.tape
 output:W'.output=W.output
 size:W.heap.size<=W'.heap.size
 block : ∀k,k < W.heap.size -> ¬S k->W'.heap[k]? = W.heap[k]?
theorem Za.of_below {S:Nat->Prop}{W W':World}(h:Below W.heap.size W W'):Za S W W':=⟨h.os,h.tape,h.output,h.size,fun k hk _=>h.block k hk⟩
theorem Za.of_grown {S:Nat->Prop}{W W':World}{row:Option Nat}(h:W.grownBy W' row)(hr : ∀k,row=some k->S k):Za S W W':=
 ⟨h.os,h.tape,h.output,h.size,fun k hk hs=>h.block k hk (fun e=>hs (hr k e.symm))⟩
theorem Za.trans {S:Nat->Prop}{A B C:World}(h:Za S A B)(k:Za S B C):Za S A C:=
 ⟨k.os.trans h.os,k.tape.trans h.tape,k.output.trans h.output,Nat.le_trans h.size k.size,fun i hi hs=>(k.block i (Nat.lt_of_lt_of_le hi h.size) hs).trans (h.block i hi hs)⟩
theorem Za.below {S:Nat->Prop}{B:Nat}{A W W':World}(h:Za S W W')(hb:Below B A W)(hB:B<=W.heap.size)(hs : ∀k,S k->B<=k):Below B A W':=
 hb.trans ⟨h.os,h.tape,h.output,h.size,fun k hk=>h.block k (by omega) (fun e=>by have:=hs k e;omega)⟩
theorem Xd {S:Nat->Prop}{W W':World}{base:Nat}{e:TypeId}{k:Nat}{v:Value}{n:Nat}{xs:List Value}(h:W.ownsRow base e k v n xs)(hs:Za S W W')
  (hd : ∀b cur fr,S b->W.heap[b]? ≠ some (.cells cur e fr)\/b < base):W'.ownsRow base e k v n xs:=by
 refine⟨h.1,?_⟩;rcases h.2 with h | ⟨g,cap,cur,h,hg,hgg,hr⟩
 ·exact .inl h
 ·refine .inr ⟨g,cap,cur,h,hg,(hs.block g (Array.getElem?_eq_some_iff.1 hgg).1 (fun hsg=>?_)).trans hgg,hr⟩;rcases hd g cur (0,0) hsg with h' | h'
  ·exact h' hgg
  ·omega
theorem Xq.same {S:Nat->Prop}{W W':World}{base:Nat}{a:zA}{n c:Nat}{ls:List (zU)}(h:Xq W base a n c ls)(hs:Za S W W')
  (h1 : ∀b cur fr,S b->W.heap[b]? ≠ some (.cells cur 41 fr)\/b < base) (h2 : ∀b cur fr,S b->W.heap[b]? ≠ some (.cells cur 5 fr)):Xq W' base a n c ls:=by
 obtain⟨vs,k1,k2,k3⟩:=h;refine⟨vs,Xd k1 hs h1,k2,fun i hi=>?_⟩;obtain⟨ai,ci,k4,k5⟩:=k3 i hi;exact⟨ai,ci,k4,Xd k5 hs (fun b cur fr hb=>.inl (h2 b cur fr hb))⟩
theorem Z6w (v v':Value)(hv : ∃a n c,v = .slice a n c)(hv' : ∃a n c,v' = .slice a n c)(w:World):
  Calls zq 108 #[v,v'] w fun e w'=>e = .returned (.func (.func 163) #[] #[.pointer (some ⟨w.heap.size,0,none⟩),.pointer (some ⟨w.heap.size+1,0,none⟩)]) /\
   (w.alloc (.cells #[v] 41)).alloc (.cells #[v'] 41)=w':=by
 obtain⟨a,n,c,rfl⟩:=hv;obtain⟨a',n',c',rfl⟩:=hv';go_enter Tryz.func108,Tryz.ntmps108;go_wp2;go_ret;exact⟨rfl,rfl⟩
def Box (W:World)(b:Nat)(t:TypeId)(v:Value):Prop:=W.heap[b]? = some (.cells #[v] t (0,0))
theorem Box.cell {W:World}{b:Nat}{t:TypeId}{v:Value}(h:Box W b t v):W.cell? ⟨b,0,none⟩=some v:=cell_of_one h
theorem Box.free {W:World}{b:Nat}{t:TypeId}{v:Value}(h:Box W b t v):W.frozen? ⟨b,0,none⟩=false:=free_of_one h
theorem Box.same {S:Nat->Prop}{W W':World}{b:Nat}{t:TypeId}{v:Value}(h:Box W b t v)(hs:Za S W W')(hn : ¬S b):Box W' b t v:=
 (hs.block b (Array.getElem?_eq_some_iff.1 h).1 hn).trans h
theorem Box.new (W:World)(t:TypeId)(v:Value){b:Nat}(hb:b=W.heap.size):Box (W.alloc (.cells #[v] t)) b t v:=by subst hb;exact heap_alloc_new W _
theorem Box.alloc {W:World}{b:Nat}{t:TypeId}{v:Value}(h:Box W b t v)(o:Obj):Box (W.alloc o) b t v:=h.same (Za.of_below (S:=fun _=>False) (zB _ o)) id
theorem Box.set {W:World}{b:Nat}{t:TypeId}{v:Value}(h:Box W b t v)(u:Value):Box (W.setCell ⟨b,0,none⟩ u) b t u:=one_setCell h
theorem Box.set_other {W:World}{b b':Nat}{t:TypeId}{v:Value}(h:Box W b t v)(u:Value)(hne:b≠b'):Box (W.setCell ⟨b',0,none⟩ u) b t v:=
 (Below.heap_setCell W ⟨b',0,none⟩ u b hne).trans h
theorem Za.setCell {S:Nat->Prop}{W:World}{b:Nat}(u:Value)(h:S b):Za S W (W.setCell ⟨b,0,none⟩ u):=Za.of_grown (grownBy_setCell' W b u) (fun k e=>by cases e;exact h)
def Uk (w:World)(W:World)(d:List (zU)):Prop:=
 ∃oa oc,Box W w.heap.size 98 (.slice oa d.length oc)/\Xq W (w.heap.size+5) oa d.length oc d/\Box W (w.heap.size+1) 3 (.int .i64 (sOf d))/\Box W (w.heap.size+2) 3 (.int .i64 (4 * (d.length:Int)))/\Below w.heap.size w W/\w.heap.size+5<=W.heap.size
def VE (w:World)(W:World)(l1 l2:zU):Prop:=
 ∃sa sc fa fc,Box W (w.heap.size+3) 41 (.slice sa l1.length sc)/\Yb w sa l1.length sc l1/\Box W (w.heap.size+4) 41 (.slice fa l2.length fc)/\Yb w fa l2.length fc l2
theorem Uk.same {w W W':World}{d:List (zU)}(h:Uk w W d){S:Nat->Prop}(hs:Za S W W')(hS : ∀k,S k->w.heap.size+3<=k)
  (hd : ∀b cur fr,S b->(W.heap[b]? ≠ some (.cells cur 41 fr)\/b < w.heap.size+5)/\W.heap[b]? ≠ some (.cells cur 5 fr)):Uk w W' d:=by
 obtain⟨oa,oc,h1,h2,h3,h4,h5,h6⟩:=h;exact⟨oa,oc,h1.same hs (fun e=>by have:=hS _ e;omega),h2.same hs (fun b cur fr hb=>(hd b cur fr hb).1) (fun b cur fr hb=>(hd b cur fr hb).2),
  h3.same hs (fun e=>by have:=hS _ e;omega),h4.same hs (fun e=>by have:=hS _ e;omega),hs.below h5 h5.size (fun k e=>by have:=hS k e;omega),Nat.le_trans h6 hs.size⟩
theorem VE.same {w W W':World}{l1 l2:zU}(h:VE w W l1 l2){S:Nat->Prop}(hs:Za S W W')(h3 : ¬S (w.heap.size+3))(h4 : ¬S (w.heap.size+4)):VE w W' l1 l2:=by
 obtain⟨sa,sc,fa,fc,k1,k2,k3,k4⟩:=h;exact⟨sa,sc,fa,fc,k1.same hs h3,k2,k3.same hs h4,k4⟩
theorem Uk.putObj {w W:World}{d:List (zU)}(h:Uk w W d)(o:Loop)(hl : ∃r,W.heap[w.heap.size+5+1]? = some (.loop r)):Uk w (W.putObj (w.heap.size+5+1) (.loop o)) d:=by
 obtain⟨r,hl⟩:=hl;refine h.same (S:=fun k=>k=w.heap.size+5+1) (Za.of_grown (grownBy_putObj' W _ _) (fun k e=>by cases e;rfl)) (fun k e=>by omega) (fun b cur fr hb=>?_);subst hb;rw[hl];exact⟨.inl (by simp),by simp⟩
theorem VE.putObj {w W:World}{l1 l2:zU}(h:VE w W l1 l2)(o:Loop):VE w (W.putObj (w.heap.size+5+1) (.loop o)) l1 l2:=
 h.same (S:=fun k=>k=w.heap.size+5+1) (Za.of_grown (grownBy_putObj' W _ _) (fun k e=>by cases e;rfl)) (by omega) (by omega)
theorem Uk.below {w W W':World}{d:List (zU)}(h:Uk w W d)(hb:Below W.heap.size W W'):Uk w W' d:=
 h.same (S:=fun _=>False) (Za.of_below hb) (fun _ e=>e.elim) (fun _ _ _ e=>e.elim)
theorem VE.below {w W W':World}{l1 l2:zU}(h:VE w W l1 l2)(hb:Below W.heap.size W W'):VE w W' l1 l2:=
 h.same (S:=fun _=>False) (Za.of_below hb) id id
theorem Uk.step {w W W3:World}{d:List (zU)}{b:zU}{oa a':zA}{oc c':Nat}(h1:Box W w.heap.size 98 (.slice oa d.length oc))(h3:Box W (w.heap.size+1) 3 (.int .i64 (sOf d)))
  (h4:Box W (w.heap.size+2) 3 (.int .i64 (4 * (d.length:Int)))) (h5:Below w.heap.size w W) (h6:w.heap.size+5<=W.heap.size) (hs:Za (fun k=>w.heap.size+5<=k) W W3)
  (ho:Xq W3 (w.heap.size+5) a' (d.length+1) c' (d ++ [b])):
  Uk w (((W3.setCell ⟨w.heap.size,0,none⟩ (.slice a' (d.length+1) c')).setCell ⟨w.heap.size+1,0,none⟩ (.int .i64 ((sOf d:Int)+((b.length:Int)+2)))).setCell ⟨w.heap.size+1+1,0,none⟩ (.int .i64 (4 * (d.length:Int)+4))) (d ++ [b]):=by
 have k1:=h1.same hs (by omega);have k3:=h3.same hs (by omega);have k4:=h4.same hs (by omega);have hA:=Za.setCell (S:=fun k=>k=w.heap.size\/k=w.heap.size+1\/k=w.heap.size+2) (W:=W3) (b:=w.heap.size) (.slice a' (d.length+1) c') (.inl rfl);have hB:=Za.setCell (S:=fun k=>k=w.heap.size\/k=w.heap.size+1\/k=w.heap.size+2) (W:=W3.setCell ⟨w.heap.size,0,none⟩ (.slice a' (d.length+1) c')) (b:=w.heap.size+1) (.int .i64 ((sOf d:Int)+((b.length:Int)+2))) (.inr (.inl rfl));have hC:=Za.setCell (S:=fun k=>k=w.heap.size\/k=w.heap.size+1\/k=w.heap.size+2) (W:=(W3.setCell ⟨w.heap.size,0,none⟩ (.slice a' (d.length+1) c')).setCell ⟨w.heap.size+1,0,none⟩ (.int .i64 ((sOf d:Int)+((b.length:Int)+2)))) (b:=w.heap.size+1+1) (.int .i64 (4 * (d.length:Int)+4)) (.inr (.inr rfl));have hall:=(hA.trans hB).trans hC;have hlen:(d ++ [b]).length=d.length+1:=by simp
 refine⟨a',c',?_,?_,?_,?_,?_,?_⟩
 ·rw[hlen];exact((k1.set _).set_other _ (by omega)).set_other _ (by omega)
 ·rw[hlen];refine ho.same hall (fun q cur fr hq=>.inr (by omega)) (fun q cur fr hq=>?_);rcases hq with rfl | rfl | rfl
  ·rw[show W3.heap[w.heap.size]? = _ from k1];simp
  ·rw[show W3.heap[w.heap.size+1]? = _ from k3];simp
  ·rw[show W3.heap[w.heap.size+2]? = _ from k4];simp
 ·have e:((sOf (d ++ [b]):Nat):Int)=(sOf d:Int)+((b.length:Int)+2):=by rw[Z3K];omega
  rw[e];exact((k3.set_other _ (by omega)).set _).set_other _ (by omega)
 ·have e:(4 * ((d ++ [b]).length:Int))=4 * (d.length:Int)+4:=by rw[hlen];omega
  rw[e];exact((k4.set_other _ (by omega)).set_other _ (by omega)).set _
 ·exact hall.below (hs.below h5 h5.size (fun k e=>by omega)) (Nat.le_trans h5.size hs.size) (fun k e=>by omega)
 ·exact Nat.le_trans h6 (Nat.le_trans hs.size hall.size)
def boxLen (W:World)(b:Nat):Nat:=match W.cell? ⟨b,0,none⟩with | some (.slice _ n _)=>n | _=>0
theorem VE.boxLen {w W:World}{l1 l2:zU}(h:VE w W l1 l2):boxLen W (w.heap.size+4)=l2.length:=by
 obtain⟨sa,sc,fa,fc,k1,k2,k3,k4⟩:=h;simp[Go.Proofs.YtlnhppgfhkkidaaGreat.boxLen,k3.cell]
theorem ZaK (x y:Nat)(hx:x < 256)(hy:y < 256):bits .or .i64 (x:Int) ((y:Int) * 256)=((x+256 * y:Nat):Int):=by
 have h:=(bits_nat .i64 16 (by decide) (fun n h0 h1=>by rw[IntKind.wrap_i64];omega) x (256 * y) (by omega) (by omega)).2;have e:(256 * y:Nat)=2 ^ 8 * y:=by omega
 rw[show((y:Int) * 256)=((256 * y:Nat):Int)by omega,h,Nat.or_comm,e,<-Nat.two_pow_add_eq_or_of_lt (by omega) y];omega
theorem U9 {w:World}{xa:zA}{n c:Nat}{l:zU}(hrd:Yb w xa n c l)(L H:Nat)(lo hi:Option Value)
  (hl:(lo=none/\L=0) \/ ∃kd,lo=some (.int kd (L:Int))) (hh:(hi=none/\H=n) \/ ∃kd,hi=some (.int kd (H:Int))) (h1:L<=H) (h2:H<=n):
  ∃a',(∀W,(Instr.sliceAt 41 (.slice xa n c) lo hi none).run zq W = .ok (.slice a' (H - L) (c - L)) W)/\Yb w a' (H - L) (c - L) ((l.drop L).take (H - L)):=by
 obtain⟨i,hi',hz0,hz1,hz2⟩:=info_parts U5;obtain⟨a',hs,hr⟩:=ZX.sliced hrd L H h1 h2;have hnc:=hrd.2.1;refine⟨a',fun W=>?_,?_⟩
 ·rw[<-hs];have hel:zq.elem 41=5:=by simp[Program.elem,Tryz.underlying41]
  rw[run_sliceAt_slice (P:=zq) W 41 _ _ _ _ (by rw[hel];exact Tryz.underlying41),run_slice_any (P:=zq) W 41 xa n c (by rw[hel];exact Tryz.underlying41)];have hb:(Instr.sliceBounds true n c lo hi none).run zq W = .ok (L,H,c) W:=by
   rcases hl with ⟨rfl,rfl⟩ | ⟨kd,rfl⟩ <;> rcases hh with ⟨rfl,rfl⟩ | ⟨kd',rfl⟩
   ·simp[Instr.sliceBounds]
   ·simp[Instr.sliceBounds,run_sliceBound,Result.andThen,(by omega:H<=c)]
   ·simp[Instr.sliceBounds,run_sliceBound,Result.andThen,h1]
   ·simp[Instr.sliceBounds,run_sliceBound,Result.andThen,(by omega:H<=c),h1]
  rw[hb,hel];simp[Result.andThen,sizeOf,typeInfo,hi',hz1]
 ·unfold Yb;rw[List.map_take,List.map_drop];simpa using hr
theorem VE.step {w W:World}{d:List (zU)}{m1 m2:zU}{v1 v2:Value}(hT:Uk w W d)(j1:Box W (w.heap.size+3) 41 v1)(j3:Box W (w.heap.size+4) 41 v2)
  {na ma:zA} {nn mn nc mc:Nat} (h1:Yb w na nn nc m1) (h2:Yb w ma mn mc m2) {rec:LoopState->Option Code->Loop} (hl:ZR rec (w.heap.size+5) .ready none W):
  Uk w ((W.setCell ⟨w.heap.size+3,0,none⟩ (.slice na nn nc)).setCell ⟨w.heap.size+4,0,none⟩ (.slice ma mn mc)).drew d /\
  VE w ((W.setCell ⟨w.heap.size+3,0,none⟩ (.slice na nn nc)).setCell ⟨w.heap.size+4,0,none⟩ (.slice ma mn mc)).drew m1 m2 /\
  ZR rec (w.heap.size+5) .ready none ((W.setCell ⟨w.heap.size+3,0,none⟩ (.slice na nn nc)).setCell ⟨w.heap.size+4,0,none⟩ (.slice ma mn mc)).drew:=by
 have hA:=Za.setCell (S:=fun k=>k=w.heap.size+3\/k=w.heap.size+4) (W:=W) (b:=w.heap.size+3) (.slice na nn nc) (.inl rfl);have hB:=Za.setCell (S:=fun k=>k=w.heap.size+3\/k=w.heap.size+4) (W:=W.setCell ⟨w.heap.size+3,0,none⟩ (.slice na nn nc)) (b:=w.heap.size+4) (.slice ma mn mc) (.inr rfl);have hC:=(hA.trans hB);have hall:Za (fun k=>k=w.heap.size+3\/k=w.heap.size+4) W ((W.setCell ⟨w.heap.size+3,0,none⟩ (.slice na nn nc)).setCell ⟨w.heap.size+4,0,none⟩ (.slice ma mn mc)).drew:=⟨hC.os,hC.tape,hC.output,hC.size,hC.block⟩;refine⟨hT.same hall (fun k e=>by omega) (fun b cur fr hb=>?_),?_,?_⟩
 ·rcases hb with rfl | rfl
  ·rw[show W.heap[w.heap.size+3]? = _ from j1];exact⟨.inr (by omega),by simp⟩
  ·rw[show W.heap[w.heap.size+4]? = _ from j3];exact⟨.inr (by omega),by simp⟩
 ·obtain rfl:=h1.len;obtain rfl:=h2.len;exact⟨na,nc,ma,mc,(j1.set _).set_other _ (by omega),h1,(j3.set_other _ (by omega)).set _,h2⟩
 ·exact⟨(hall.block _ (Array.getElem?_eq_some_iff.1 hl.1).1 (by omega)).trans hl.1,(hall.block _ (Array.getElem?_eq_some_iff.1 hl.2).1 (by omega)).trans hl.2⟩
theorem Xq.cells {W:World}{base:Nat}{a:zA}{n c:Nat}{ls:List (zU)}(h:Xq W base a n c ls): ∀(j:Nat) (o:Obj),Value.ownBlock (.slice a n c)=some j->W.heap[j]? = some o->o.isCells=true:=by
 obtain⟨vs,h1,_⟩:=h;intro j o hj ho;rcases h1.2 with ⟨h2,_⟩ | ⟨g,cap,cur,h2,_,hg,_⟩
 ·rw[h2]at hj;simp[Value.ownBlock]at hj
 ·rw[h2]at hj;simp only[Value.ownBlock,Option.some.injEq]at hj;subst hj;rw[hg]at ho;cases ho;rfl
theorem Xq.mono {W:World}{base B:Nat}{a:zA}{n c:Nat}{ls:List (zU)}(h:Xq W base a n c ls)(hB:B<=base):Xq W B a n c ls:=by
 obtain⟨vs,h1,h2,h3⟩:=h;exact⟨vs,Zp h1 hB,h2,h3⟩
theorem VE.step3 {w W W3:World}{l1 l2:zU}(h:VE w W l1 l2)(hs:Za (fun k=>w.heap.size+5<=k) W W3)(v0 v1 v2:Value):
  VE w (((W3.setCell ⟨w.heap.size,0,none⟩ v0).setCell ⟨w.heap.size+1,0,none⟩ v1).setCell ⟨w.heap.size+1+1,0,none⟩ v2) l1 l2:=by
 obtain⟨sa,sc,fa,fc,k1,k2,k3,k4⟩:=h;have j1:=k1.same hs (by omega);have j3:=k3.same hs (by omega);exact⟨sa,sc,fa,fc,((j1.set_other _ (by omega)).set_other _ (by omega)).set_other _ (by omega),k2,((j3.set_other _ (by omega)).set_other _ (by omega)).set_other _ (by omega),k4⟩
structure Z9b where
 d:List (zU)
 l1:zU
 l2:zU
 b:zU
 xa:zA
 xc:Nat
def Z9e (w:World)(s:Z9b)(W:World):Prop:=
 Uk w W s.d/\VE w W s.l1 s.l2/\W.ownsRow 0 5 1 (.slice s.xa s.b.length s.xc) s.b.length (s.b.map Zt)/\s.d.length+1<=4194304/\sOf s.d<=16777216/\s.b.length<=16777216
theorem ZR.below {rec:LoopState->Option Code->Loop}{D:Nat}{st:LoopState}{pe:Option Code}{W W':World}(h:ZR rec D st pe W)(hb:Below W.heap.size W W'):ZR rec D st pe W':=
 ⟨(hb.block _ (Array.getElem?_eq_some_iff.1 h.1).1).trans h.1,(hb.block _ (Array.getElem?_eq_some_iff.1 h.2).1).trans h.2⟩
theorem ZaV (k:Nat)(w:World)(st fo:zU)(hst:st.length<=16777216)(hfo:fo.length<=16777216)(rec:LoopState->Option Code->Loop)(W1:World)(h0:Uk w W1 [])(hL:VE w W1 st fo)(hl:ZR rec (w.heap.size+5) .ready none W1)
  (hY : ∀s W,Z9e w s W->ZR rec (w.heap.size+5) .ready none W->YieldAt Fence.wide (k - 1) zq (w.heap.size+5+1) #[.slice s.xa s.b.length s.xc] W fun e W'=>
    (e = .returned (.bool true)/\(Uk w W' (s.d ++ [s.b])/\VE w W' s.l1 s.l2)/\ZR rec (w.heap.size+5) .ready none W')\/(∃c,e = .returned (.bool false)/\False/\ZR rec (w.heap.size+5) .done (some c) W')):
  CallsIn Fence.wide k zq 163 #[.func (.yield (w.heap.size+5+1)) #[] #[],.pointer (some ⟨w.heap.size+3,0,none⟩),.pointer (some ⟨w.heap.size+4,0,none⟩)] W1 fun e W'=>
    (∃v,e = .returned v)/\((Uk w W' (ZB st fo)/\ZR rec (w.heap.size+5) .ready none W')\/(∃c:Code,False/\ZR rec (w.heap.size+5) .done (some c) W')):=by
 refine callsIn_of_wp Tryz.func163 rfl trivial ?_;simp only[Tryz.ntmps163,List.size_toArray,List.length_cons,List.length_nil,Nat.reduceAdd,Nat.reduceSub,Array.replicate_succ,Array.replicate_zero,List.push_toArray,List.append_toArray,List.nil_append,List.cons_append];gi_wp2;gi_loopw [4,5,6,7] (fun _ _ _ _ wr=>∃(d:List (zU)) (l1 l2:zU),Uk w wr d/\VE w wr l1 l2/\ZR rec (w.heap.size+5) .ready none wr/\Hid (ZB st fo=d ++ ZB l1 l2)/\Hid (sOf d+l1.length=st.length)/\Hid (4 * d.length+l2.length=fo.length)) (fun _ _ _ _ wr=>boxLen wr (w.heap.size+4))
 case atStart=>exact⟨[],st,fo,h0,hL,hl,show _=_ by simp,show _=_ by simp[sOf],show _=_ by simp⟩
 case round=>
  obtain⟨d,l1,l2,hT,hLf,hla,HJ,HS,HD⟩:=hrel;have hbl:=zH hLf.boxLen;obtain⟨sa,sc,fa,fc,k1,k2,k3,k4⟩:=hLf;have c1:=k1.cell;have c2:=k3.cell;have m1:=ZX.maxn k2;have m2:=ZX.maxn k4;have hbw:Below w.heap.size w wr:=by obtain⟨_,_,_,_,_,_,h,_⟩:=hT;exact h
  have HE:Hid (¬Z0R l1 l2 0 0->ZB st fo=d):=by
   intro h;have:=Z5l h;rw[List.drop_zero,List.drop_zero]at this;rw[HJ.out,this,List.append_nil]
  by_cases h1:2<=l1.length
  ·by_cases h2:4<=l2.length
   ·have g1:decide ((2:Int)<=(l1.length:Int))=true:=by simp;omega
    have g2:decide ((4:Int)<=(l2.length:Int))=true:=by simp;omega
    have k2w:=k2.below hbw;have k4w:=k4.below hbw;obtain⟨b,off,rfl,hc⟩:=k2w.at (by omega);have hc0:=hc 0 (by omega);have hc1:=hc 1 (by omega);rw[Nat.add_zero]at hc0;clear hc;have q1:(0:Int) < (l1.length:Int):=by omega
    have q2:(1:Int) < (l1.length:Int):=by omega
    have q3:=Ql l1 0;have q4:=Ql l1 1;gi_wp2;gi_quiet (fail);have hor:=ZaK (l1[0]?.getD 0).toNat (l1[1]?.getD 0).toNat (by omega) (by omega);have hN:=Zbz l1 0;have hat:(l1[0]?.getD 0).toNat+256 * (l1[1]?.getD 0).toNat=atN l1 0:=rfl;rw[hat]at hor;rw[hor];clear hor hat hc0 hc1 q3 q4;generalize hNe:atN l1 0=N at *;have HN:=zH hNe;clear hNe;have hT1:=hT.below (below_drewN (Below.refl _ _) nq);have hla1:=hla.below (below_drewN (Below.refl _ _) nq);have k1':Box (wr.drewN nq) (w.heap.size+3) 41 _:=k1;have k3':Box (wr.drewN nq) (w.heap.size+4) 41 _:=k3;by_cases h3:N<=8192
    ·have g3:decide ((8192:Int) < (N:Int))=false:=by simp;omega
     by_cases h4:N+2<=l1.length
     ·have g4:decide ((l1.length:Int) < (N:Int)+2)=false:=by simp;omega
      obtain⟨ba,hcut,hbr⟩:=U9 k2 2 (N+2) (some (.int .i64 2)) (some (.int .i64 ((N:Int)+2))) (.inr ⟨_,rfl⟩) (.inr ⟨_,by go_num⟩) (by omega) h4;have hBe:(l1.drop 2).take (N+2 - 2)=YV l1 0:=by rw[YV,HN.out,Nat.zero_add,Nat.add_sub_cancel]
      have hkb:Yb w ba N (sc - 2) (YV l1 0):=by rw[hBe,Nat.add_sub_cancel]at hbr;exact hbr
      have hBl:(YV l1 0).length=N:=hkb.len;have HB:=zH hBl;clear hBl;have hbw2:Below w.heap.size w (wr.drewN nq):=below_drewN hbw nq;obtain⟨fa4,hcutf,hbf⟩:=U9 k4 0 4 none (some (.int .i64 4)) (.inl ⟨rfl,rfl⟩) (.inr ⟨_,rfl⟩) (by omega) h2;clear hbr hBe k1 k3 hla hT k2w k4w;gi_wp2_with fail;clear c1 c2;generalize wr.drewN nq=W2 at *;refine⟨trivial,fun h=>by simp[Fence.wide]at h,?_⟩;refine(callsIn_wide.2 (Z1j _ _ _ (YV l1 0) _ (hkb.below hbw2) (by omega))).mono ?_;rintro e W3 ⟨a1,c1,a2,c2,rfl,hw1,hw2',hb3⟩;have hw2:=Yb.of_own hw2';clear hw2';have hT3:=hT1.below hb3;have hla3:=hla1.below hb3;have k13:=k1'.same (Za.of_below (S:=fun _=>False) hb3) id;have k33:=k3'.same (Za.of_below (S:=fun _=>False) hb3) id;have hbw3:=hbw2.trans (hb3.mono hbw2.size);have d1:=k13.cell;have d2:=k33.cell;clear hT1 hla1 k1' k3' hw1;gi_wp2_with fail;refine⟨trivial,fun h=>by simp[Fence.wide]at h,?_⟩;refine(callsIn_wide.2 (Z2E _ _ _ _ _ _ _ _ _ hw2 (hbf.below hbw3))).mono ?_;rintro e W4 ⟨bq,rfl,hiff,q,rfl⟩;have hiff':bq=true↔Z0R l1 l2 0 0:=by
       rw[hiff,Z0p];simp only[List.drop_zero,Nat.sub_zero];constructor
       ·intro h;exact⟨h1,h2,by rw[HN.out];exact h3,by rw[HN.out];exact h4,by rw[<-h,HN.out];simp only[YV,HN.out,Nat.zero_add]⟩
       ·intro h;rw[h.2.2.2.2,HN.out];simp only[YV,HN.out,Nat.zero_add]
      have HI:=zH hiff';clear hiff hiff' hw2;have hbq:Below W3.heap.size W3 (W3.drewN q):=below_drewN (Below.refl _ _) q;have hT4:=hT3.below hbq;have hla4:=hla3.below hbq;have hbw4:=hbw3.trans (hbq.mono hbw3.size);have k14:=k13.same (Za.of_below (S:=fun _=>False) hbq) id;have k34:=k33.same (Za.of_below (S:=fun _=>False) hbq) id;clear hT3 hla3 k13 k33 hbf hb3;cases bq with
      | false=>
       gi_wp2;refine⟨trivial,?_⟩;gi_wp2;refine⟨fun _ h=>(by cases h),?_⟩;gi_wp2;refine bodyPost_ret (results_none rfl _ _ _) rfl ?_;exact⟨⟨_,rfl⟩,.inl ⟨by rw[HE.out (fun h=>by have:=HI.out.2 h;cases this)];exact hT4,hla4⟩⟩
      | true=>
       gi_wp2_with fail;generalize W3.drewN q=W4 at *;refine⟨trivial,fun h=>by simp[Fence.wide]at h,?_⟩;refine(callsIn_wide.2 (Z5y _ _ _ _ _ (by omega) (hkb.below hbw4))).mono ?_;rintro e W5 ⟨xa,xc,rfl,hox,hb5⟩;have hT5:=hT4.below hb5;have hla5:=hla4.below hb5;have k15:=k14.same (Za.of_below (S:=fun _=>False) hb5) id;have k35:=k34.same (Za.of_below (S:=fun _=>False) hb5) id;have hL5:VE w W5 l1 l2:=⟨_,_,_,_,k15,k2,k35,k4⟩;have hox5:W5.ownsRow 0 5 1 (.slice xa (YV l1 0).length xc) (YV l1 0).length ((YV l1 0).map Zt):=by
        rw[HB.out];exact Zp hox (Nat.zero_le _)
       obtain⟨fn,tmps,assign,body,hy,hR⟩:=hY ⟨d,l1,l2,YV l1 0,xa,xc⟩ W5 ⟨hT5,hL5,hox5,by have:=HD.out;show d.length+1<=_;omega,by have:=HS.out;show sOf d<=_;omega,by show(YV l1 0).length<=_;rw[HB.out];omega⟩ hla5;dsimp only at hy;rw[HB.out]at hy;clear hox hox5 hL5 hT5 hT4 hla4 hla5 k14 k34 k15 k35 hb5 d1 d2;gi_wp2_with fail;refine⟨fun h=>by simp[Fence.wide]at h,?_⟩;refine hR.mono ?_;rintro e W6 (⟨rfl,⟨hT6,hL6⟩,hla6⟩ | ⟨c,_,hf,_⟩)
       ·clear hR hy;obtain⟨sa',sc',fa',fc',j1,j2,j3,j4⟩:=hL6;obtain⟨na,hcn,hrn⟩:=U9 j2 (N+2) l1.length (some (.int .i64 ((N:Int)+2))) none (.inr ⟨_,by go_num⟩) (.inl ⟨rfl,rfl⟩) h4 (Nat.le_refl _);obtain⟨ma,hcm,hrm⟩:=U9 j4 4 l2.length (some (.int .i64 4)) none (.inr ⟨_,rfl⟩) (.inl ⟨rfl,rfl⟩) h2 (Nat.le_refl _);have d1:=j1.cell;have d2:=j3.cell;have f1:=j1.free;have f2:=j3.free;gi_wp2;gi_region;have hrn':Yb w na (l1.length - (N+2)) (sc' - (N+2)) (l1.drop (N+2)):=by
         rw[List.take_of_length_le (by simp)]at hrn;exact hrn
        have hrm':Yb w ma (l2.length - 4) (fc' - 4) (l2.drop 4):=by
         rw[List.take_of_length_le (by simp)]at hrm;exact hrm
        obtain⟨hT7,hL7,hla7⟩:=VE.step hT6 j1 j3 hrn' hrm' hla6;have hgo:=Z95 (HI.out.1 trivial);rw[List.drop_zero,List.drop_zero,HN.out,Nat.zero_add,Nat.zero_add,Nat.add_comm 2 N]at hgo;have HG:=zH hgo;have HB7:=zH hL7.boxLen;clear hgo j1 j2 j3 j4 hcn hrn hcm hrm d1 d2 f1 f2 hrn' hrm' hT6 hla6;have E1:Hid (ZB st fo=(d ++ [YV l1 0]) ++ ZB (l1.drop (N+2)) (l2.drop 4)):=by
         show _=_;rw[HJ.out,HG.out,List.append_assoc];rfl
        have E2:Hid (sOf (d ++ [YV l1 0])+(l1.drop (N+2)).length=st.length):=by
         show _=_;rw[Z3K,HB.out,List.length_drop,<-HS.out];omega
        have E3:Hid (4 * (d ++ [YV l1 0]).length+(l2.drop 4).length=fo.length):=by
         show _=_;rw[List.length_append,List.length_drop,<-HD.out];simp;omega
        go_roundw
        case rel=>
         (repeat apply Exists.intro)
         exact⟨⟨d ++ [YV l1 0],l1.drop (N+2),l2.drop 4,hT7,hL7,hla7,E1,E2,E3⟩,rfl⟩
        case measure=>rw[HB7.out,hbl.out,List.length_drop];omega
       ·exact hf.elim
     ·have g4:decide ((l1.length:Int) < (N:Int)+2)=true:=by simp;omega
      gi_wp2;refine bodyPost_ret (results_none rfl _ _ _) rfl ?_;exact⟨⟨_,rfl⟩,.inl ⟨by rw[HE.out (fun h=>h4 (by have:=h.2.2.2.1;rw[HN.out]at this;omega))];exact hT1,hla1⟩⟩
    ·have g3:decide ((8192:Int) < (N:Int))=true:=by simp;omega
     gi_wp2;refine bodyPost_ret (results_none rfl _ _ _) rfl ?_;exact⟨⟨_,rfl⟩,.inl ⟨by rw[HE.out (fun h=>h3 (by have:=h.2.2.1;rw[HN.out]at this;omega))];exact hT1,hla1⟩⟩
   ·have g1:decide ((2:Int)<=(l1.length:Int))=true:=by simp;omega
    have g2:decide ((4:Int)<=(l2.length:Int))=false:=by simp;omega
    gi_wp2;go_end0;exact⟨⟨_,rfl⟩,.inl ⟨by rw[HE.out (fun h=>h2 (by have:=h.2.1;omega))];exact hT,hla⟩⟩
  ·have g1:decide ((2:Int)<=(l1.length:Int))=false:=by simp;omega
   gi_wp2;go_end0;exact⟨⟨_,rfl⟩,.inl ⟨by rw[HE.out (fun h=>h1 (by have:=h.1;omega))];exact hT,hla⟩⟩
theorem Z7c (a:zA)(n c:Nat)(st:zU)(a':zA)(n' c':Nat)(fo:zU)(w:World)(hr:Yb w a n c st)(hr':Yb w a' n' c' fo)(hn:n<=16777216)(hn':n'<=16777216):
  Calls zq 47 #[.slice a n c,.slice a' n' c'] w fun e w' => ∃oa oc,e = .returned (.tuple #[.slice oa (ZB st fo).length oc,.int .i64 (sOf (ZB st fo)),.int .i64 (4 * ((ZB st fo).length:Int))]) /\
   Xq w' w.heap.size oa (ZB st fo).length oc (ZB st fo)/\Below w.heap.size w w':=by
 have hl:=hr.len;have hl':=hr'.len;have hst:st.length<=16777216:=by omega
 have hfo:fo.length<=16777216:=by omega
 subst hl;subst hl';refine(callsIn_wide (n:=4)).1 ?_;refine callsIn_of_wp_marks Tryz.func47 rfl trivial ?_;simp only[Tryz.ntmps47,List.size_toArray,List.length_cons,List.length_nil,Nat.reduceAdd,Nat.reduceSub,Array.replicate_succ,Array.replicate_zero,List.push_toArray,List.append_toArray,List.nil_append,List.cons_append];gi_wp2_with (refine⟨trivial,?_⟩;gi_at_call 108;refine(callsIn_wide.2 (Z6w _ _ ⟨_,_,_,rfl⟩ ⟨_,_,_,rfl⟩ _)).mono ?_;rintro e w' ⟨rfl,rfl⟩);have hsz:(((((w.alloc (.cells #[.slice none 0 0] 98)).alloc (.cells #[.int .i64 0] 3)).alloc (.cells #[.int .i64 0] 3)).alloc (.cells #[.slice a st.length c] 41)).alloc (.cells #[.slice a' fo.length c'] 41)).heap.size=w.heap.size+5:=by simp
 have hbl:Below w.heap.size w (((((w.alloc (.cells #[.slice none 0 0] 98)).alloc (.cells #[.int .i64 0] 3)).alloc (.cells #[.int .i64 0] 3)).alloc (.cells #[.slice a st.length c] 41)).alloc (.cells #[.slice a' fo.length c'] 41)):=
  ((((zB _ _).alloc (by simp) _).alloc (by simp;omega) _).alloc (by simp;omega) _).alloc (by simp;omega) _
 have hT:Uk w (((((w.alloc (.cells #[.slice none 0 0] 98)).alloc (.cells #[.int .i64 0] 3)).alloc (.cells #[.int .i64 0] 3)).alloc (.cells #[.slice a st.length c] 41)).alloc (.cells #[.slice a' fo.length c'] 41)) []:=by
  exact⟨none,0,((((Box.new w _ _ rfl).alloc _).alloc _).alloc _).alloc _,Xq.nil _ _,(((Box.new _ _ _ (by simp)).alloc _).alloc _).alloc _,((Box.new _ _ _ (by simp)).alloc _).alloc _,hbl,by rw[hsz];omega⟩
 have hL:VE w (((((w.alloc (.cells #[.slice none 0 0] 98)).alloc (.cells #[.int .i64 0] 3)).alloc (.cells #[.int .i64 0] 3)).alloc (.cells #[.slice a st.length c] 41)).alloc (.cells #[.slice a' fo.length c'] 41)) st fo:=by
  exact⟨a,c,a',c',(Box.new _ _ _ (by simp)).alloc _,hr,Box.new _ _ _ (by simp),hr'⟩
 generalize (((((w.alloc (.cells #[.slice none 0 0] 98)).alloc (.cells #[.int .i64 0] 3)).alloc (.cells #[.int .i64 0] 3)).alloc (.cells #[.slice a st.length c] 41)).alloc (.cells #[.slice a' fo.length c'] 41))=W5 at *;refine Z5F (n:=3) (σ:=Z9b) (w:=W5) (gf:=163) (lb := #[.pointer (some ⟨w.heap.size+3,0,none⟩),.pointer (some ⟨w.heap.size+4,0,none⟩)]) rfl (enters_of Tryz.func163 (by kernel_rfl) rfl)
  (fun s=>#[.slice s.xa s.b.length s.xc]) (fun _=>rfl) (fun s W=>Z9e w s W) (fun s W=>Uk w W (s.d ++ [s.b])/\VE w W s.l1 s.l2) (fun _ _ _=>False) (fun W=>Uk w W (ZB st fo)) (fun _ _=>False) ?hA ?hB ?hX ?hD ?hS
  (fun s=>{ tmps := #[.slice a st.length c,.slice a' fo.length c',undef,undef,.pointer (some ⟨w.heap.size,0,none⟩),.pointer (some ⟨w.heap.size+1,0,none⟩),.pointer (some ⟨w.heap.size+1+1,0,none⟩),.slice s.xa s.b.length s.xc,.slice a st.length c,.slice a' fo.length c',.func (.func 163) #[] #[.pointer (some ⟨w.heap.size+3,0,none⟩),.pointer (some ⟨w.heap.size+4,0,none⟩)],.slice s.xa s.b.length s.xc,undef,undef,undef,undef,undef,undef,undef,undef,undef,undef,undef,undef,undef,undef],defers:=[] })
  ?assign ?body ?iter ?done ?stop
 case hA=>
  rw[hsz];rintro s W o ⟨h1,h2,h3,h4⟩ hlp;obtain⟨r,hr⟩:=hlp;exact⟨h1.putObj o ⟨r,hr⟩,h2.putObj o,ownsRow_putObj h3 _ hr rfl,h4⟩
 case hB=>
  rw[hsz];rintro s W o ⟨h1,h2⟩ hlp;exact⟨h1.putObj o hlp,h2.putObj o⟩
 case hX=>intro _ _ _ _ h _;exact h.elim
 case hD=>
  rw[hsz];intro W o h hlp;exact h.putObj o hlp
 case hS=>intro _ _ _ h _;exact h.elim
 case assign=>
  intro s W K hs hK;gi_wp2;exact hK
 case body=>
  rw[hsz];rintro s W ⟨⟨oa,oc,t1,t2,t3,t4,t5,t6⟩,hLf,hox,hb1,hb2,hb3⟩ hlp hdp;have b1:=t1.cell;have b2:=t3.cell;have b3:=t4.cell;have e1:=t1.free;have e2:=t3.free;have e3:=t4.free;have hal:=zB W (Obj.cells #[Value.slice s.xa s.b.length s.xc] 41);have t2':=t2.below hal;have hy':=Zb hox hal;gi_wp2_with (gi_at_builtin;refine Zaf _ rfl _ _ rfl (w.heap.size+5) _ _ _ s.d rfl t2' W.heap.size _ _ _ s.b rfl (cell_of_one (heap_alloc_new W _)) hy' (by omega) (by simp;omega) ?_;intro a5 c5 w5 ho5 hg5;refine Hid.out ?_);refine zH ?_;have hW5:Za (fun k=>w.heap.size+5<=k) W w5:=(Za.of_below hal).trans (Za.of_grown hg5 (fun k hk=>(t2.lt k hk).1));have hko:KeepsOthers W w5:=(KeepsOthers.alloc W _).trans (KeepsOthers.of_grownBy hg5 t2'.cells);have u1:=t1.same hW5 (by omega);have u2:=t3.same hW5 (by omega);have u3:=t4.same hW5 (by omega);have b1:=u1.cell;have b2:=u2.cell;have b3:=u3.cell;have e1:=u1.free;have e2:=u2.free;have e3:=u3.free;have hst:=Uk.step t1 t3 t4 t5 t6 hW5 ho5;have hlf:=hLf.step3 hW5 (.slice a5 (s.d.length+1) c5) (.int .i64 ((sOf s.d:Int)+((s.b.length:Int)+2))) (.int .i64 (4 * (s.d.length:Int)+4));clear hal t2' hy' hg5 ho5 u1 u2 u3 hW5 hox t1 t2 t3 t4;gi_wp2;exact⟨((hko.trans (KeepsOthers.setCell _ _ _)).trans (KeepsOthers.setCell _ _ _)).trans (KeepsOthers.setCell _ _ _) |>.from _,hst,hlf⟩
 case iter=>
  intro rec hlr hY;rw[hsz]at hlr hY ⊢;have hbb:=(zB W5 (.deferred (some []))).alloc (by simp) (.loop (rec .ready none));exact ZaV 3 w st fo hst hfo rec _ (hT.below hbb) (hL.below hbb) hlr hY
 case done=>
  rw[hsz];rintro W ⟨oa,oc,t1,t2,t3,t4,t5,t6⟩ hK;have b1:=t1.cell;have b2:=t3.cell;have b3:=t4.cell;have e1:=t1.free;have e2:=t3.free;have e3:=t4.free;gi_wp2;gi_region;have hS:Za (fun k=>k=w.heap.size\/k=w.heap.size+1\/k=w.heap.size+2) W (((W.setCell ⟨w.heap.size,0,none⟩ (.slice oa (ZB st fo).length oc)).setCell ⟨w.heap.size+1,0,none⟩ (.int .i64 (sOf (ZB st fo)))).setCell ⟨w.heap.size+1+1,0,none⟩ (.int .i64 (4 * ((ZB st fo).length:Int)))).drew:=by
   have h:=((Za.setCell (S:=fun k=>k=w.heap.size\/k=w.heap.size+1\/k=w.heap.size+2) (W:=W) (.slice oa (ZB st fo).length oc) (.inl rfl)).trans (Za.setCell (.int .i64 (sOf (ZB st fo))) (.inr (.inl rfl)))).trans (Za.setCell (.int .i64 (4 * ((ZB st fo).length:Int))) (.inr (.inr rfl)));exact⟨h.os,h.tape,h.output,h.size,h.block⟩
  have r1:Box (((W.setCell ⟨w.heap.size,0,none⟩ (.slice oa (ZB st fo).length oc)).setCell ⟨w.heap.size+1,0,none⟩ (.int .i64 (sOf (ZB st fo)))).setCell ⟨w.heap.size+1+1,0,none⟩ (.int .i64 (4 * ((ZB st fo).length:Int)))).drew w.heap.size 98 _:=((t1.set _).set_other _ (by omega)).set_other _ (by omega);have r2:Box (((W.setCell ⟨w.heap.size,0,none⟩ (.slice oa (ZB st fo).length oc)).setCell ⟨w.heap.size+1,0,none⟩ (.int .i64 (sOf (ZB st fo)))).setCell ⟨w.heap.size+1+1,0,none⟩ (.int .i64 (4 * ((ZB st fo).length:Int)))).drew (w.heap.size+1) 3 _:=((t3.set_other _ (by omega)).set _).set_other _ (by omega);have r3:Box (((W.setCell ⟨w.heap.size,0,none⟩ (.slice oa (ZB st fo).length oc)).setCell ⟨w.heap.size+1,0,none⟩ (.int .i64 (sOf (ZB st fo)))).setCell ⟨w.heap.size+1+1,0,none⟩ (.int .i64 (4 * ((ZB st fo).length:Int)))).drew (w.heap.size+1+1) 3 _:=((t4.set_other _ (by omega)).set_other _ (by omega)).set _;have hK':=(hS.block _ (Array.getElem?_eq_some_iff.1 hK).1 (by omega)).trans hK;have ho':=t2.same hS (fun b cur fr hb=>.inr (by omega)) (fun b cur fr hb=>by
   rcases hb with rfl | rfl | rfl
   ·rw[show W.heap[w.heap.size]? = _ from t1];simp
   ·rw[show W.heap[w.heap.size+1]? = _ from t3];simp
   ·rw[show W.heap[w.heap.size+2]? = _ from t4];simp)
  have hb':=hS.below t5 t5.size (fun k e=>by omega);generalize (((W.setCell ⟨w.heap.size,0,none⟩ (.slice oa (ZB st fo).length oc)).setCell ⟨w.heap.size+1,0,none⟩ (.int .i64 (sOf (ZB st fo)))).setCell ⟨w.heap.size+1+1,0,none⟩ (.int .i64 (4 * ((ZB st fo).length:Int)))).drew=W7 at *;gi_wp2;refine⟨by simp,.inl ⟨_,_,rfl,run_takeDeferred hK',?_⟩⟩;have hp:Za (fun k=>k=w.heap.size+5) W7 (W7.putObj (w.heap.size+5) (.deferred none)):=Za.of_grown (grownBy_putObj' W7 _ _) (fun k e=>by cases e;rfl);have s1:=(r1.same hp (by omega)).cell;have s2:=(r2.same hp (by omega)).cell;have s3:=(r3.same hp (by omega)).cell;have hb'':=hp.below hb' hb'.size (fun k e=>by omega);have ho'':=ho'.same hp (fun b cur fr hb=>.inl (by subst hb;rw[hK'];simp)) (fun b cur fr hb=>by subst hb;rw[hK'];simp);generalize W7.putObj (w.heap.size+5) (.deferred none)=W8 at *;clear hS r1 r2 r3 hp;refine⟨.tuple #[.slice oa (ZB st fo).length oc,.int .i64 (sOf (ZB st fo)),.int .i64 (4 * ((ZB st fo).length:Int))],?_,oa,oc,rfl,ho''.mono (by omega),hb''⟩;simp[results,Tryz.results47,go_sem,s1,s2,s3]
 case stop=>intro c W h;exact h.elim
theorem Ze {W:World}{p:Nat}{A:Xz}{t:TypeId}(h:W.heap[p]? = some (.cells A t (0,0)))(j:Nat):W.frozen? ⟨p,j,none⟩=false:=by
 simp[World.frozen?,h]
theorem Xw (w:World)(p o:Nat)(v:Value):Za (fun k=>k=p) w (w.setCell ⟨p,o,none⟩ v):=
 Za.of_grown (row:=some p) ⟨rfl,rfl,rfl,by simp[World.setCell],fun k _ hk=>Below.heap_setCell w ⟨p,o,none⟩ _ k (fun e=>hk (by rw[e]))⟩ (fun k e=>by cases e;rfl)
structure RdP (W:World)(rp:Nat)(l:zU)(a:zA)(n c:Nat):Prop where
 e:W.heap[rp]? = some (.cells #[.slice a n c] 236)
 r:Yb W a n c l
theorem Z3V {W:World}{rp:Nat}{A:Xz}{t:TypeId}{sp:Nat×Nat}{a:zA}{n c:Nat}{l:zU}(e:W.heap[rp]? = some (.cells A t sp))(hA : ∀v∈A,∀x,v≠Zt x)(hr:Yb W a n c l)(h0:0 < n):
  ∀b off,a=some ⟨b,off,none⟩->b≠rp:=by
 intro b off ha hb;subst hb;obtain⟨b',off',e',hc⟩:=ZX.at hr h0;rw[ha]at e';cases e';have hl:=hr.1;have h1:(l.map Zt)[0]? = some ((l.map Zt)[0]'(by rw[hl];omega)):=List.getElem?_eq_getElem _;have h2:=hc 0 _ h1;simp only[World.cell?,e]at h2;have h3:=Array.mem_of_getElem? h2;rw[List.getElem_map]at h3;exact hA _ h3 _ rfl
theorem Z0A {W W':World}{a:zA}{n c:Nat}{l:zU}{S:Nat->Prop}(hr:Yb W a n c l)(hs:Za S W W')(hn:0 < n -> ∀b off,a=some ⟨b,off,none⟩ -> ¬S b):Yb W' a n c l:=by
 by_cases h0:0 < n
 ·exact ZX.of_cells hr fun b ⟨off,hb⟩ hlt=>hs.block b hlt (hn h0 b off hb)
 ·have hz:n=0:=by omega
  subst hz;obtain⟨h1,h2,h3,h4⟩:=hr;have hl:l.map Zt=[]:=List.eq_nil_of_length_eq_zero (by omega);refine⟨h1,h2,h3,?_⟩;rcases h4 with h | ⟨b,off,h,_⟩
  ·exact .inl h
  ·exact .inr ⟨b,off,h,fun i x hx=>by rw[hl]at hx;simp at hx⟩
theorem RdP.same {W W':World}{rp:Nat}{l:zU}{a:zA}{n c:Nat}{S:Nat->Prop}(h:RdP W rp l a n c)(hs:Za S W W')(h1 : ¬S rp)(h2:0 < n -> ∀b off,a=some ⟨b,off,none⟩ -> ¬S b):RdP W' rp l a n c:=
 ⟨(hs.block _ (Array.getElem?_eq_some_iff.1 h.e).1 h1).trans h.e,Z0A h.r hs h2⟩
theorem Z2a {P:Program}(w:World){ops:Array Oper}{rest:List Oper}{o:Oper}{a:Act}{Q:Exit->Act->World->Prop}(hgd:o.guard=none)(x:Operand)(lo hi:Option Operand)(t:TypeId)
  (ho:o.op = .slice t x lo hi none) (e:TypeId) (i:TypeInfo) (size:Nat) (ht:P.underlying t=some (.slice e)) (hi':P.info? e=some i) (hsize:i.size=size)
  (xa:zA) (n c:Nat) (xs:List Value) (hx:a.eval x = .slice xa n c) (hrd:ZX w size xa n c xs) (L H:Nat)
  (hl:(lo=none/\L=0) \/ ∃q kd,lo=some q/\a.eval q = .int kd (L:Int)) (hh:(hi=none/\H=n) \/ ∃q kd,hi=some q/\a.eval q = .int kd (H:Int)) (h1:L<=H) (h2:H<=n)
  (a':zA) (hs:Go.sliced xa L H c size = .slice a' (H - L) (c - L))
  (h:wpList P ops Q rest (a.put o.dst (.slice a' (H - L) (c - L))) w):wpList P ops Q (o :: rest) a w:=by
 refine wpList_plain hgd fun K hK=>?_;have hnc:=hrd.2.1;have hrun:(Instr.sliceAt t (a.eval x) (lo.map a.eval) (hi.map a.eval) none).run P w = .ok (.slice a' (H - L) (c - L)) w:=by
  rw[hx,<-hs];have hel:P.elem t=e:=by simp[Program.elem,ht]
  rw[run_sliceAt_slice (P:=P) w t _ _ _ _ (by rw[hel];exact ht),run_slice_any (P:=P) w t xa n c (by rw[hel];exact ht)];have hb:(Instr.sliceBounds true n c (lo.map a.eval) (hi.map a.eval) none).run P w = .ok (L,H,c) w:=by
   rcases hl with ⟨rfl,rfl⟩ | ⟨q,kd,rfl,hq⟩ <;> rcases hh with ⟨rfl,rfl⟩ | ⟨q',kd',rfl,hq'⟩
   ·simp[Instr.sliceBounds]
   ·simp[Instr.sliceBounds,hq',run_sliceBound,Result.andThen,(by omega:H<=c)]
   ·simp[Instr.sliceBounds,hq,run_sliceBound,Result.andThen,h1]
   ·simp[Instr.sliceBounds,hq,hq',run_sliceBound,Result.andThen,(by omega:H<=c),h1]
  rw[hb,hel];simp[Result.andThen,sizeOf,typeInfo,hi',hsize]
 unfold Oper.wp;simp only[execOp,ho];simp[hrun,Result.andThen];exact hK _ _ h
theorem Z5K (w:World){ops:Array Oper}{rest:List Oper}{o:Oper}{a:Act}{Q:Exit->Act->World->Prop}(hgd:o.guard=none)(x:Operand)(lo hi:Option Operand)
  (ho:o.op = .slice 41 x lo hi none) (xa:zA) (n c:Nat) (l:zU) (hx:a.eval x = .slice xa n c) (hrd:Yb w xa n c l) (L H:Nat)
  (hl:(lo=none/\L=0) \/ ∃q kd,lo=some q/\a.eval q = .int kd (L:Int)) (hh:(hi=none/\H=n) \/ ∃q kd,hi=some q/\a.eval q = .int kd (H:Int)) (h1:L<=H) (h2:H<=n)
  (h : ∀a',(∀W,Yb W xa n c l->Yb W a' (H - L) (c - L) ((l.drop L).take (H - L)))->wpList zq ops Q rest (a.put o.dst (.slice a' (H - L) (c - L))) w):wpList zq ops Q (o :: rest) a w:=by
 obtain⟨i,hi',hz0,hz1,hz2⟩:=info_parts U5;obtain⟨a1,hs1,hr1⟩:=ZX.sliced hrd L H h1 h2;have key : ∀W,Yb W xa n c l->Yb W a1 (H - L) (c - L) ((l.drop L).take (H - L)):=fun W hW=>by
  obtain⟨a2,hs2,hr2⟩:=ZX.sliced hW L H h1 h2;rw[hs1]at hs2;cases hs2;unfold Yb;rw[List.map_take,List.map_drop];simpa using hr2
 have hg:=h a1 key;refine Z2a w hgd x lo hi 41 ho 5 i 1 Tryz.underlying41 hi' hz1 xa n c _ hx hrd L H hl hh h1 h2 a1 hs1 hg
def Z2N:PanicEntry := { v := .iface 233 (.agg #[]),recovered:=false }
theorem Z9k (rp:Nat)(a:zA)(n c:Nat)(w:World)(h:RdP w rp [] a n c):
  Calls zq 148 #[.pointer (some ⟨rp,0,none⟩),.int .i64 1] w fun e w'=>e = .panicked [Z2N]/\w'=w:=by
 have hn:n=0:=by have:=h.r.1;simpa using this.symm
 subst hn;have c0:w.cell? ⟨rp,0,none⟩=some (.slice a 0 c):=Z6 h.e 0 _ rfl;go_enter Tryz.func148,Tryz.ntmps148;go_wp2_with fail;exact⟨rfl,rfl,rfl⟩
theorem Z9j (rp:Nat)(x:UInt8)(t:zU)(a:zA)(n c:Nat)(w:World)(h:RdP w rp (x :: t) a n c):
  Calls zq 148 #[.pointer (some ⟨rp,0,none⟩),.int .i64 1] w fun e w' => ∃a1 c1 a2 n2 c2,e = .returned (.slice a1 1 c1)/\Yb w' a1 1 c1 [x]/\RdP w' rp t a2 n2 c2/\Za (fun k=>k=rp) w w'/\(∀W,Yb W a n c (x :: t)->Yb W a2 n2 c2 t):=by
 have hn:n=t.length+1:=by have:=h.r.1;simpa using this.symm
 subst hn;obtain⟨m,hm⟩ : ∃m,Hid (m=t.length+1):=⟨_,zH rfl⟩;rw[<-hm.out]at h;have h1m:1<=m:=by have:=hm.out;omega
 have c0:w.cell? ⟨rp,0,none⟩=some (.slice a m c):=Z6 h.e 0 _ rfl;have f0:=Ze h.e 0;have hr:=zH h.r;have HH:=zH h;clear h;have hgt:decide ((m:Int) < 1)=false:=by simp;omega
 go_enter Tryz.func148,Tryz.ntmps148;go_wp2_with (first
  |(refine Z5K _ rfl _ _ none rfl _ _ _ _ rfl hr.out 1 m (.inr ⟨_,.i64,rfl,by go_num⟩) (.inl ⟨rfl,rfl⟩) h1m (Nat.le_refl _) ?_;intro sb hsb;have HSB:=zH hsb;clear hsb)
  |(refine Z2P _ rfl _ none _ rfl _ _ _ _ rfl hr.out 0 1 (.inl ⟨rfl,rfl⟩) (.inr ⟨_,.i64,rfl,by go_num⟩) (by omega) h1m ?_;intro sa hsl;have HSL:=zH hsl;clear hsl))
 go_ret;have hS:=Xw w rp 0 (.slice sb (m - 1) (c - 1));have he:=heap_setCell_same w rp 0 _ _ (.slice sb (m - 1) (c - 1)) HH.out.e;have hcell : ∀v ∈ #[Value.slice a m c],∀x,v≠Zt x:=by intro v hv x;simp at hv;subst hv;intro hh;cases hh
 have h1:Yb (w.setCell ⟨rp,0,none⟩ (.slice sb (m - 1) (c - 1))) sa 1 c [x]:=Z0A (by simpa using HSL.out) hS (fun h0=>Z3V HH.out.e hcell (by simpa using HSL.out) h0);have h4 : ∀W,Yb W a m c (x :: t)->Yb W sb (m - 1) (c - 1) t:=fun W hW=>by have:=HSB.out W hW;rw[hm.out]at this ⊢;simpa using this
 have h2:=h4 w HH.out.r;have h3:RdP (w.setCell ⟨rp,0,none⟩ (.slice sb (m - 1) (c - 1))) rp t sb (m - 1) (c - 1):=⟨he,Z0A h2 hS (fun h0=>Z3V HH.out.e hcell h2 h0)⟩
 first
  | exact⟨sa,c,sb,m - 1,c - 1,rfl,h1,h3,hS,by rw[<-hm.out];exact h4⟩
theorem Z7U (x:Nat)(h:x < 18446744073709551616):bits .and .u64 (x:Int) 127=((x % 128:Nat):Int):=by
 show IntKind.u64.wrap ((BitVec.ofInt 64 (x:Int) &&& BitVec.ofInt 64 127).toNat:Int)=_;have h1:(BitVec.ofInt 64 (x:Int)).toNat=x:=by rw[BitVec.ofInt_natCast,BitVec.toNat_ofNat];exact Nat.mod_eq_of_lt (by omega)
 rw[BitVec.toNat_and,h1,show(BitVec.ofInt 64 127).toNat=2 ^ 7 - 1 from rfl,Nat.and_two_pow_sub_one_eq_mod,IntKind.wrap_u64];omega
theorem Zau (x:Nat)(h:x < 18446744073709551616):bits .and .u64 (x:Int) 1=((x % 2:Nat):Int):=by
 show IntKind.u64.wrap ((BitVec.ofInt 64 (x:Int) &&& BitVec.ofInt 64 1).toNat:Int)=_;have h1:(BitVec.ofInt 64 (x:Int)).toNat=x:=by rw[BitVec.ofInt_natCast,BitVec.toNat_ofNat];exact Nat.mod_eq_of_lt (by omega)
 rw[BitVec.toNat_and,h1,show(BitVec.ofInt 64 1).toNat=2 ^ 1 - 1 from rfl,Nat.and_two_pow_sub_one_eq_mod,IntKind.wrap_u64];omega
theorem Z7T (i v y:Nat)(hi:i<=8)(hv:v < 128 ^ i)(hy:y < 128):bits .or .u64 (v:Int) ((y * 128 ^ i:Nat):Int)=((v+y * 128 ^ i:Nat):Int):=by
 have hp:128 ^ i<=128 ^ 8:=Nat.pow_le_pow_right (by omega) hi;have hp8:128 ^ 8=72057594037927936:=by decide
 have hm:y * 128 ^ i<=127 * 128 ^ i:=Nat.mul_le_mul_right _ (by omega);show IntKind.u64.wrap ((BitVec.ofInt 64 (v:Int) ||| BitVec.ofInt 64 ((y * 128 ^ i:Nat):Int)).toNat:Int)=_;have h1 : ∀z:Nat,z < 18446744073709551616->(BitVec.ofInt 64 (z:Int)).toNat=z:=fun z hz=>by rw[BitVec.ofInt_natCast,BitVec.toNat_ofNat];exact Nat.mod_eq_of_lt (by omega)
 rw[BitVec.toNat_or,h1 v (by omega),h1 _ (by omega),Nat.or_comm];have e:128 ^ i=2 ^ (7 * i):=by rw[Nat.pow_mul]
 have h2:=Nat.two_pow_add_eq_or_of_lt (i:=7 * i) (b:=v) (by rw[<-e];exact hv) y;rw[<-e]at h2;rw[Nat.mul_comm y,<-h2,IntKind.wrap_u64,Nat.mul_comm]at *;omega
theorem Zcy (y i:Nat)(hi:i<=8)(hy:y < 128):IntKind.u64.wrap ((y:Int) * 2 ^ (7 * i))=((y * 128 ^ i:Nat):Int):=by
 have e:128 ^ i=2 ^ (7 * i):=by rw[Nat.pow_mul]
 have hp:128 ^ i<=128 ^ 8:=Nat.pow_le_pow_right (by omega) hi;have hp8:128 ^ 8=72057594037927936:=by decide
 have hm:y * 128 ^ i<=127 * 128 ^ i:=Nat.mul_le_mul_right _ (by omega);have e2:(y:Int) * 2 ^ (7 * i)=((y * 128 ^ i:Nat):Int):=by
  rw[e];push_cast;rfl
 rw[e2,IntKind.wrap_u64];omega
theorem Z2F (i v y:Nat)(hv:v < 128 ^ i)(hy:y < 128):v+y * 128 ^ i < 128 ^ (i+1):=by
 have hm:y * 128 ^ i<=127 * 128 ^ i:=Nat.mul_le_mul_right _ (by omega);rw[Nat.pow_succ];omega
theorem v63 (i v:Nat)(hi:i<=8)(hv:v < 128 ^ (i+1)):v < 9223372036854775808:=by
 have h2:128 ^ (i+1)<=128 ^ 9:=Nat.pow_le_pow_right (by omega) (by omega);have h3:128 ^ 9=9223372036854775808:=by decide
 exact Nat.lt_of_lt_of_le hv (h3 ▸ h2)
theorem Za0 {v:Nat}(h:v < 9223372036854775808):wrap64 ((v:Int) / 2)=((v / 2:Nat):Int):=by unfold wrap64;omega
theorem Zc0 {v:Nat}(h:v < 9223372036854775808):v / 2 < 4611686018427387904:=by omega
theorem Z5c {l:zU}(h:Z0U 0 0 l=none):Je l=none:=by unfold Je;rw[h]
theorem Z5b {l t:zU}{u:Nat}(h:Z0U 0 0 l=some (u,t)):Je l=some (zag u,t):=by unfold Je;rw[h]
theorem VT (rp:Nat)(l:zU)(a:zA)(n c:Nat)(w:World)(h:RdP w rp l a n c):
  Calls zq 146 #[.pointer (some ⟨rp,0,none⟩)] w fun e w'=>(∃z t a2 n2 c2,Je l=some (z,t)/\e = .returned (.int .i64 z)/\RdP w' rp t a2 n2 c2/\Za (fun k=>k=rp) w w'/\(∀W,Yb W a n c l->Yb W a2 n2 c2 t)) \/
   (Je l=none/\e = .panicked [Z2N]/\Za (fun k=>k=rp) w w'):=by
 have HH:=zH h;clear h;have hsg:IntKind.u64.signed=false:=rfl;go_enter Tryz.func146,Tryz.ntmps146;go_wp2_with fail;go_loopw [3,4,5] (fun u s _ wr=>∃(i v:Nat) (k:zU) (a':zA) (n' c':Nat),u = .int .u64 v/\s = .int .i64 (7 * i:Nat)/\i<=9/\v < 128 ^ i/\Hid (Z0U i v k=Z0U 0 0 l)/\Hid (RdP wr rp k a' n' c')/\Hid (Za (fun k=>k=rp) w wr /\ ∀W,Yb W a n c l->Yb W a' n' c' k)) (fun _ s _ _=>100 - (intOf s).toNat)
 case atStart=>exact⟨0,0,l,a,n,c,rfl,rfl,by omega,by simp,zH rfl,HH,zH ⟨⟨rfl,rfl,rfl,Nat.le_refl _,fun _ _ _=>rfl⟩,fun _ h=>h⟩⟩
 case round=>
  obtain⟨i,v,k,a',n',c',rfl,rfl,hi,hv,HD,HR,HS⟩:=hrel;have HV:=zH hv;clear hv;cases k with
  | nil=>
   go_wp2_with fail;refine(Z9k rp a' n' c' wr HR.out).mono ?_;rintro e w1 ⟨rfl,rfl⟩;go_wp2_with fail;exact⟨rfl,.inr ⟨Z5c (by rw[<-HD.out];rfl),rfl,HS.out.1⟩⟩
  | cons x t=>
   go_wp2_with fail;refine(Z9j rp x t a' n' c' wr HR.out).mono ?_;rintro e w1 ⟨a1,c1,a2,n2,c2,rfl,h1,h2,h3,h4⟩;obtain⟨b,off,rfl,hc⟩:=ZX.at h1 (by omega);have e1:w1.cell? ⟨b,off,none⟩=some (.int .u8 (x.toNat:Int)):=by have:=hc 0 (Zt x) rfl;simpa [Zt] using this
   have hx:=x.toNat_lt;have H2:=zH h2;have H3:=zH (show Za (fun k=>k=rp) w w1 /\ ∀W,Yb W a n c l->Yb W a2 n2 c2 t from⟨HS.out.1.trans h3,fun W hW=>h4 W (HS.out.2 W hW)⟩);clear hc h1 h2 h3 h4;by_cases h9:9<=i
   ·have h56:decide ((56:Int) < 7 * (i:Int))=true:=by simp;omega
    go_wp2_with fail;exact⟨rfl,.inr ⟨Z5c (by rw[<-HD.out,Z0U,if_pos h9]),rfl,H3.out.1⟩⟩
   ·have h56:decide ((56:Int) < 7 * (i:Int))=false:=by simp;omega
    have hand:=Z7U x.toNat (by omega);have hor:=Z7T i v (x.toNat % 128) (by omega) HV.out (by omega);have hshl:=Zcy (x.toNat % 128) i (by omega) (by omega);have hw:=Z2F i v (x.toNat % 128) HV.out (by omega);have HDD:=zH (show Z0U i v (x :: t)=if x.toNat < 128 then some (v+x.toNat % 128 * 128 ^ i,t)else Z0U (i+1) (v+x.toNat % 128 * 128 ^ i) t by rw[Z0U,if_neg h9]);have HW:=zH hw;clear hw;obtain⟨p,hp⟩ : ∃p,Hid (p=x.toNat % 128 * 128 ^ i):=⟨_,zH rfl⟩;rw[<-hp.out]at hor hshl HDD HW;obtain⟨y,hy⟩ : ∃y,Hid (y=x.toNat % 128):=⟨_,zH rfl⟩;rw[<-hy.out]at hand hshl;obtain⟨v2,hv2⟩ : ∃v2,Hid (v2=v+p):=⟨_,zH rfl⟩;rw[<-hv2.out]at hor HDD HW;have hv63:=v63 i v2 (by omega) HW.out;have hand1:=Zau v2 (Nat.lt_trans hv63 (by decide));have hw2:=Za0 hv63;have hlt:=Zc0 hv63;obtain⟨q,hq⟩ : ∃q,Hid (q=v2 / 2):=⟨_,zH rfl⟩;rw[<-hq.out]at hw2 hlt;have HV63:=zH hv63;clear hv63;by_cases h128:(x.toNat:Int) < 128
    ·have HDE:=zH (HD.out.symm.trans (HDD.out.trans (if_pos (by omega))));rcases Nat.mod_two_eq_zero_or_one v2 with hm | hm
     ·have hb1:(((v2 % 2:Nat):Int)==1)=false:=by rw[hm];rfl
      have HM:=zH hm;clear hm;obtain⟨r,hr⟩ : ∃r,Hid (r=v2 % 2):=⟨_,zH rfl⟩;rw[<-hr.out]at hb1 hand1;go_wp2;go_ret;refine .inl ⟨_,_,_,_,_,Z5b HDE.out,?_,H2.out,H3.out⟩;rw[zag,if_pos HM.out,<-hq.out];show Ending.returned (Value.int .i64 (wrap64 ((v2:Int) / 2)))=_;rw[hw2]
     ·have hb1:(((v2 % 2:Nat):Int)==1)=true:=by rw[hm];rfl
      have HM:=zH hm;clear hm;obtain⟨r,hr⟩ : ∃r,Hid (r=v2 % 2):=⟨_,zH rfl⟩;rw[<-hr.out]at hb1 hand1;go_wp2;go_ret;refine .inl ⟨_,_,_,_,_,Z5b HDE.out,?_,H2.out,H3.out⟩;rw[zag,if_neg (by rw[HM.out];decide),<-hq.out];rfl
    ·have HDE:=zH (HD.out.symm.trans (HDD.out.trans (if_neg (by omega))));go_wp2;go_roundw
     case rel=>exact⟨i+1,v2,t,a2,n2,c2,rfl,by go_num,by omega,HW.out,zH HDE.out.symm,H2,H3⟩
     case measure=>simp[intOf];omega
theorem Xm: ∀(xs:List Int) (z:Int),xs.length < 15->(Z5 (Jk xs [] []) none 0).setIfInBounds xs.length (.int .i64 z)=Z5 (Jk (xs ++ [z]) [] []) none 0
 | [],_,_=>rfl
 | [_],_,_=>rfl
 | [_,_],_,_=>rfl
 | [_,_,_],_,_=>rfl
 | [_,_,_,_],_,_=>rfl
 | [_,_,_,_,_],_,_=>rfl
 | [_,_,_,_,_,_],_,_=>rfl
 | [_,_,_,_,_,_,_],_,_=>rfl
 | [_,_,_,_,_,_,_,_],_,_=>rfl
 | [_,_,_,_,_,_,_,_,_],_,_=>rfl
 | [_,_,_,_,_,_,_,_,_,_],_,_=>rfl
 | [_,_,_,_,_,_,_,_,_,_,_],_,_=>rfl
 | [_,_,_,_,_,_,_,_,_,_,_,_],_,_=>rfl
 | [_,_,_,_,_,_,_,_,_,_,_,_,_],_,_=>rfl
 | [_,_,_,_,_,_,_,_,_,_,_,_,_,_],_,_=>rfl
 | _ :: _ :: _ :: _ :: _ :: _ :: _ :: _ :: _ :: _ :: _ :: _ :: _ :: _ :: _ :: _,_,h=>absurd h (by simp only[List.length_cons];omega)
theorem zh (xs ys:List Int)(sa:zA)(sc:Nat): ∀(zs:List Int) (z:Int),zs.length < 3->(Z5 (Jk xs ys zs) sa sc).setIfInBounds (16+zs.length) (.int .i64 z)=Z5 (Jk xs ys (zs ++ [z])) sa sc
 | [],_,_=>rfl
 | [_],_,_=>rfl
 | [_,_],_,_=>rfl
 | _ :: _ :: _ :: _,_,h=>absurd h (by simp only[List.length_cons];omega)
theorem Z2Q (xs ys ys':List Int)(sa sa':zA)(sc sc' m:Nat)(h:m=ys'.length):(Z5 (Jk xs ys []) sa sc).setIfInBounds 15 (.slice sa' m sc')=Z5 (Jk xs ys' []) sa' sc':=by
 subst h;rfl
theorem VI {f:zU->Option (Int×zU)}{k:Nat}{l t t':zU}{xs:List Int}{z:Int}(h:XI f k l=some (xs,t))(h2:f t=some (z,t')):XI f (k+1) l=some (xs ++ [z],t'):=by
 rw[XI,h];simp only[h2]
theorem Z5g {f:zU->Option (Int×zU)}{l:zU}{k:Nat}(h:XI f k l=none): ∀j,k<=j->XI f j l=none:=by
 intro j hj
 induction j with
 | zero=>rw[show(0:Nat)=k by omega];exact h
 | succ j ih=>
  by_cases hk:k=j+1
  ·rw[<-hk];exact h
  ·rw[XI,ih (by omega)]
theorem VJ {f:zU->Option (Int×zU)}{k:Nat}{l t:zU}{xs:List Int}(h:XI f k l=some (xs,t))(h2:f t=none)(j:Nat)(hj:k < j):XI f j l=none:=by
 refine Z5g (k:=k+1) ?_ j hj;rw[XI,h];simp only[h2]
def Jy (f:zU->Option (Int×zU))(l:zU):Option (Nat×zU):=match f l with
 | some (c,t)=>if 0<=c/\c<=t.length then some (c.toNat,t)else none
 | none=>none
theorem Z5Y {f:zU->Option (Int×zU)}{l:zU}(h:XI f 15 l=none):Xv f l=none:=by
 unfold Xv;rw[h]
theorem Z5X {f:zU->Option (Int×zU)}{l t:zU}{x:List Int}(h:XI f 15 l=some (x,t))(h2:Jy f t=none):Xv f l=none:=by
 unfold Xv Jy at *;rw[h];cases e:f t with
 | none=>simp only[e]
 | some p=>
  obtain⟨c,t1⟩:=p;rw[e]at h2;simp only at h2;simp only[e];split at h2
  ·cases h2
  ·rename_i h3;rw[if_neg h3]
theorem Z0E {f:zU->Option (Int×zU)}{l t t1:zU}{x:List Int}{k:Nat}(h:XI f 15 l=some (x,t))(h2:Jy f t=some (k,t1)):Xv f l=match XI f k t1 with
  | some (y,t2)=>match XI f 3 t2 with
   | some (z,t3)=>some (Jk x y z,t3)
   | none=>none
  | none=>none:=by
 unfold Xv Jy at *;rw[h];cases e:f t with
 | none=>rw[e]at h2;cases h2
 | some p=>
  obtain⟨c,t1'⟩:=p;rw[e]at h2;simp only at h2;split at h2
  ·rename_i h3;simp only[Option.some.injEq,Prod.mk.injEq]at h2;obtain⟨rfl,rfl⟩:=h2;simp only[e,if_pos h3];rfl
  ·cases h2
theorem Z8k (rp:Nat)(l:zU)(a:zA)(n c:Nat)(w:World)(h:RdP w rp l a n c):
  Calls zq 147 #[.pointer (some ⟨rp,0,none⟩)] w fun e w'=>(∃(k:Nat) (t:zU) (a2:zA) (n2 c2:Nat),Jy Je l=some (k,t)/\k<=t.length/\e = .returned (.int .i64 k)/\RdP w' rp t a2 n2 c2/\Za (fun k=>k=rp) w w'/\(∀W,Yb W a n c l->Yb W a2 n2 c2 t)) \/
   (Jy Je l=none/\e = .panicked [Z2N]/\Za (fun k=>k=rp) w w'):=by
 go_enter Tryz.func147,Tryz.ntmps147;go_wp2_with fail;refine(VT rp l a n c w h).mono ?_;rintro e w1 (⟨z,t,a2,n2,c2,h1,rfl,h2,h3⟩ | ⟨h1,rfl,h3⟩)
 ·obtain⟨h3,h4⟩:=h3;have c0:w1.cell? ⟨rp,0,none⟩=some (.slice a2 n2 c2):=Z6 h2.e 0 _ rfl;have hn:t.length=n2:=by have:=h2.r.1;simpa using this
  have H1:=zH h1;clear h1;have H2:=zH h2;clear h2;have H3:=zH h3;clear h3;have H4:=zH h4;clear h4;have HN:=zH hn;clear hn;by_cases hz:z < 0
  ·have HF:=zH (show Jy Je l=none by unfold Jy;rw[H1.out];simp only;rw[if_neg (by omega)]);have hz1:decide (z < 0)=true:=by simp[hz]
   go_wp2_with fail;exact⟨rfl,.inr ⟨HF.out,rfl,H3.out⟩⟩
  ·have hz1:decide (z < 0)=false:=by simp;omega
   by_cases hc:(n2:Int) < z
   ·have HF:=zH (show Jy Je l=none by unfold Jy;rw[H1.out];simp only;rw[if_neg (by rw[HN.out];omega)]);have hc1:decide ((n2:Int) < z)=true:=by simp[hc]
    go_wp2_with fail;exact⟨rfl,.inr ⟨HF.out,rfl,H3.out⟩⟩
   ·have HF:=zH (show Jy Je l=some (z.toNat,t)by unfold Jy;rw[H1.out];simp only;rw[if_pos (by rw[HN.out];omega)]);have hc1:decide ((n2:Int) < z)=false:=by simp;omega
    obtain⟨k,rfl⟩ : ∃k:Nat,z=(k:Int):=⟨z.toNat,by omega⟩;go_wp2;go_ret;exact .inl ⟨k,t,a2,n2,c2,HF.out,by rw[HN.out];omega,rfl,H2.out,H3.out,H4.out⟩
 ·have H1:=zH h1;clear h1;have H3:=zH h3;clear h3;go_wp2_with fail;exact⟨rfl,.inr ⟨by unfold Jy;rw[H1.out],rfl,H3.out⟩⟩
theorem YP {W W':World}{S S':Nat->Prop}(h:Za S W W')(hi : ∀k,S k->S' k):Za S' W W':=
 ⟨h.os,h.tape,h.output,h.size,fun k hk hs=>h.block k hk (fun e=>hs (hi k e))⟩
theorem Z1D (m:NoteV)(sa:zA)(sc:Nat): ∀v∈Z5 m sa sc,∀x,v≠Zt x:=by
 intro v hv x;simp only[Z5,NoteV.cells,List.mem_toArray,List.mem_cons,List.not_mem_nil,or_false]at hv;rcases hv with rfl | rfl | rfl | rfl | rfl | rfl | rfl | rfl | rfl | rfl | rfl | rfl | rfl | rfl | rfl | rfl | rfl | rfl | rfl <;> (intro h;cases h)
theorem Z7z: ∀(l:zU) (i u v:Nat) (t:zU),Z0U i u l=some (v,t)->t.length<=l.length
 | [],i,u,v,t,h=>by simp[Z0U]at h
 | c :: l,i,u,v,t,h=>by
  rw[Z0U]at h
  split at h
  ·cases h
  ·split at h
   ·simp only[Option.some.injEq,Prod.mk.injEq]at h
    rw[<-h.2,List.length_cons];omega
   ·have:=Z7z l _ _ v t h
    rw[List.length_cons];omega
theorem Z71 {l t:zU}{z:Int}(h:Je l=some (z,t)):t.length<=l.length:=by
 unfold Je at h;split at h
 ·rename_i e;simp only[Option.some.injEq,Prod.mk.injEq]at h;rw[<-h.2];exact Z7z _ _ _ _ _ e
 ·cases h
theorem Z2w {l:zU}: ∀(k:Nat) {t:zU} {xs:List Int},XI Je k l=some (xs,t)->t.length<=l.length
 | 0,t,xs,h=>by simp only[XI,Option.some.injEq,Prod.mk.injEq]at h;rw[h.2];exact Nat.le_refl _
 | k+1,t,xs,h=>by
  rw[XI]at h
  split at h
  ·rename_i e
   split at h
   ·rename_i e2
    simp only[Option.some.injEq,Prod.mk.injEq]at h
    rw[<-h.2]
    exact Nat.le_trans (Z71 e2) (Z2w k e)
   ·cases h
  ·cases h
theorem Z7a {l t:zU}{k:Nat}(h:Jy Je l=some (k,t)):t.length<=l.length:=by
 unfold Jy at h;split at h
 ·rename_i e;split at h
  ·simp only[Option.some.injEq,Prod.mk.injEq]at h;rw[<-h.2];exact Z71 e
  ·cases h
 ·cases h
structure Z0W (wf W:World)(rp nb B:Nat)(m:NoteV)(sa:zA)(sc:Nat)(t:zU)(a:zA)(n c:Nat):Prop where
 e:W.heap[nb]? = some (.cells (Z5 m sa sc) 47)
 r:RdP W rp t a n c
 s:Za (fun k=>k=rp\/k=nb\/B<=k) wf W
 o:Yb wf a n c t
section
variable {wf W W':World}{rp nb B:Nat}{m:NoteV}{sa:zA}{sc:Nat}{t:zU}{a:zA}{n c:Nat}
theorem Z0W.number (h:Z0W wf W rp nb B m sa sc t a n c){t':zU}{a2:zA}{n2 c2:Nat}(hr:RdP W' rp t' a2 n2 c2)(hs:Za (fun k=>k=rp) W W')(hq : ∀W,Yb W a n c t->Yb W a2 n2 c2 t')(hne : ¬nb=rp):Z0W wf W' rp nb B m sa sc t' a2 n2 c2:=
 ⟨(hs.block _ (Array.getElem?_eq_some_iff.1 h.e).1 hne).trans h.e,hr,h.s.trans (YP hs fun k e=>.inl e),hq wf h.o⟩
theorem Z0W.set (h:Z0W wf W rp nb B m sa sc t a n c)(j:Nat)(v:Value){m':NoteV}{sa':zA}{sc':Nat}(hv:(Z5 m sa sc).setIfInBounds j v=Z5 m' sa' sc')(hne : ¬rp=nb):Z0W wf (W.setCell ⟨nb,j,none⟩ v) rp nb B m' sa' sc' t a n c:=
 ⟨by rw[<-hv];exact heap_setCell_same W nb j _ _ v h.e,h.r.same (Xw W nb j v) hne (fun h0 b off e=>Z3V h.e (Z1D m sa sc) h.r.r h0 b off e),h.s.trans (YP (Xw W nb j v) fun k e=>.inr (.inl e)),h.o⟩
theorem Z0W.below (h:Z0W wf W rp nb B m sa sc t a n c)(hb:Below W.heap.size W W'):Z0W wf W' rp nb B m sa sc t a n c:=
 ⟨(hb.block _ (Array.getElem?_eq_some_iff.1 h.e).1).trans h.e,h.r.same (S:=fun _=>False) (Za.of_below hb) id (fun _ _ _ _=>id),h.s.trans (Za.of_below hb),h.o⟩
theorem Z0W.grown (h:Z0W wf W rp nb B m sa sc t a n c){v:Value}{q k:Nat}{xs:List Value}{e:TypeId}(hg:W.grownBy W' v.ownBlock)(ho:W.ownsRow B e k v q xs)(hB:wf.heap.size=B)(hnb:nb < B)(hrp:rp < B):Z0W wf W' rp nb B m sa sc t a n c:=by
 have hlt:=fun b hb=>(ho.lt b hb).1;have hs:Za (fun k=>v.ownBlock=some k) W W':=Za.of_grown hg (fun k e=>e);have h1 : ¬v.ownBlock=some nb:=fun e=>by have:=hlt _ e;omega
 have h2 : ¬v.ownBlock=some rp:=fun e=>by have:=hlt _ e;omega
 refine⟨(hs.block _ (Array.getElem?_eq_some_iff.1 h.e).1 h1).trans h.e,h.r.same hs h2 (fun h0 b off e hb=>?_),h.s.trans (YP hs fun k e=>.inr (.inr (hlt k e))),h.o⟩;have h3:=ZaI h.o h0 (by omega) b off e;have h4:=hlt b hb;omega
end
theorem Z3w:(zq.info? 3).map (fun i=>(i.zero,i.size,i.bytes))=some (some (.int .i64 0),1,8):=by kernel_rfl
theorem Z4G {w:World}{ops:Array Oper}{o:Oper}{a:Act}{K:Act->World->Prop}{Q:Exit->Act->World->Prop}{E:Prop}(hgd:o.guard=none)(s x:Operand)
  (ho:o.op = .call { callee := .builtin .append,args := #[s,x],argTypes := #[37,37] }) (base:Nat)
  (sa:zA) (sn sc:Nat) (xs:List Int) (hs:a.eval s = .slice sa sn sc) (hown:w.ownsRow base 3 1 (.slice sa sn sc) sn (xs.map Yo))
  (xa:zA) (m xc:Nat) (ys:List Int) (hx:a.eval x = .slice xa m xc) (hrd:Xe w xa m xc ys) (hbytes:(sn+m) * 8<=140737488355328) (hbase:base<=w.heap.size)
  (h : ∀a' c' w',w'.ownsRow base 3 1 (.slice a' (sn+m) c') (sn+m) ((xs ++ ys).map Yo)->w.grownBy w' (Value.ownBlock (.slice sa sn sc))->K (a.put o.dst (.slice a' (sn+m) c')) w'):
  if Region.wanted o (yielded ops a.tmps)=true then Oper.wp zq o a w K Q else E:=by
 have hw:Region.wanted o (yielded ops a.tmps)=true:=by simp[Region.wanted,hgd]
 rw[if_pos hw];obtain⟨i,hi,hz0,hz1,hz2⟩:=info_parts Z3w;obtain⟨a',c',w',hr,h2,h3⟩:=Xh (P:=zq) w base 37 o.type 3 i (.int .i64 0) 1 8 Tryz.underlying37 hi hz0 hz1 hz2 rfl (by decide) sa sn sc _ hown xa m xc _ hrd (Z1K _) (by unfold maxLen;omega) (by omega) hbase;unfold Oper.wp;simp[execOp,ho,resolve,invoke,builtin,hs,hx,hr,Result.andThen];exact h a' c' w' (by rw[List.map_append];exact h2) h3
theorem Z6W (rp:Nat)(l t:zU)(z:Int)(a:zA)(n c:Nat)(w:World)(h:RdP w rp l a n c)(hn:Je l=some (z,t)):
  Calls zq 146 #[.pointer (some ⟨rp,0,none⟩)] w fun e w' => ∃a2 n2 c2,e = .returned (.int .i64 z)/\RdP w' rp t a2 n2 c2/\Za (fun k=>k=rp) w w'/\(∀W,Yb W a n c l->Yb W a2 n2 c2 t):=by
 refine(VT rp l a n c w h).mono ?_;rintro e w1 (⟨z',t',a2,n2,c2,h1,rfl,h2,h3⟩ | ⟨h1,rfl,h3⟩)
 ·rw[hn]at h1;cases h1;exact⟨a2,n2,c2,rfl,h2,h3⟩
 ·rw[hn]at h1;cases h1
theorem Z6X (rp:Nat)(l:zU)(a:zA)(n c:Nat)(w:World)(h:RdP w rp l a n c)(hn:Je l=none):
  Calls zq 146 #[.pointer (some ⟨rp,0,none⟩)] w fun e w'=>e = .panicked [Z2N]/\Za (fun k=>k=rp) w w':=by
 refine(VT rp l a n c w h).mono ?_;rintro e w1 (⟨z',t',a2,n2,c2,h1,rfl,h2,h3⟩ | ⟨h1,rfl,h3⟩)
 ·rw[hn]at h1;cases h1
 ·exact⟨rfl,h3⟩
section
attribute [local go_sem] ZS Xi Jg Qz Jf Qy Qx Qw Ve Vd JY JX JG JE JD J5 Jj Ji Js
theorem ZaM (rp:Nat)(l:zU)(a:zA)(n c:Nat)(w:World)(h:RdP w rp l a n c)(hl:l.length<=1000000):
  Calls zq 131 #[.pointer (some ⟨rp,0,none⟩)] w fun e w'=>(∃(m:NoteV) (t:zU) (sa:zA) (sc:Nat) (a2:zA) (n2 c2:Nat),Xv Je l=some (m,t)/\e = .returned (.agg (Z5 m sa sc))/\w'.ownsRow w.heap.size 3 1 (.slice sa m.strokes.length sc) m.strokes.length (m.strokes.map Yo)/\RdP w' rp t a2 n2 c2/\Za (fun k=>k=rp) w w') \/
   (Xv Je l=none/\e = .panicked [Z2N]/\Za (fun k=>k=rp) w w'):=by
 have I43:=zH zI;have hrp:rp < w.heap.size:=(Array.getElem?_eq_some_iff.1 h.e).1;have hlast:(w.alloc (.cells (Z5 Zd none 0) 47)).heap[w.heap.size]? = some (.cells (Z5 (Jk [] [] []) none 0) 47):=Z9 w (.cells (Z5 Zd none 0) 47);have bb:Below w.heap.size w (w.alloc (.cells (Z5 Zd none 0) 47)):=zB _ _;have hz0:w.heap.size < (w.alloc (.cells (Z5 Zd none 0) 47)).heap.size:=by simp
 obtain⟨nb,hnb⟩:=zX (w.heap.size);rw[hnb.out]at hrp hlast hz0;have HRP:=zH hrp;clear hrp;have HH:=zH h;clear h;have H0:=zH (And.intro hlast (And.intro bb hz0));clear hlast bb hz0;have HL:=zH hl;clear hl;go_enter Tryz.func131,Tryz.ntmps131;go_wp2_with fail;rw[<-ZZ,hnb.out];generalize w.alloc (.cells (Z5 Zd none 0) 47)=w0 at *;refine(Z4v nb w0).mono ?_;rintro e wf ⟨rfl,g1,g2,b1⟩;have HW:Hid (Below w.heap.size w wf):=zH (H0.out.2.1.trans (b1.mono (by rw[hnb.out];exact Nat.le_of_lt H0.out.2.2)));have hn1:=(b1.block _ H0.out.2.2).trans H0.out.1;obtain⟨P,hP⟩:=zX (w0.heap.size);obtain⟨Q,hQ⟩:=zX (w0.heap.size+1);obtain⟨B,hB⟩:=zX (wf.heap.size);rw[hQ.out,hP.out];rw[hP.out]at g1;rw[hQ.out]at g2;have hPn:nb < P:=by rw[<-hP.out];exact H0.out.2.2
 have hQn:nb < Q:=by rw[<-hQ.out];exact Nat.lt_succ_of_lt H0.out.2.2
 have hPB:P < B:=by rw[<-hB.out];exact(Array.getElem?_eq_some_iff.1 g1).1
 have hQB:Q < B:=by rw[<-hB.out];exact(Array.getElem?_eq_some_iff.1 g2).1
 have LP:=zH (And.intro hPn (And.intro hPB g1));clear hPn hPB g1;have LQ:=zH (And.intro hQn (And.intro hQB g2));clear hQn hQB g2;have LB:Hid (nb < B/\rp < B):=zH ⟨Nat.lt_trans LP.out.1 LP.out.2.1,Nat.lt_trans HRP.out (Nat.lt_trans LP.out.1 LP.out.2.1)⟩;have hI:Z0W wf wf rp nb B (Jk [] [] []) none 0 l a n c:=⟨hn1,HH.out.same (S:=fun _=>False) (Za.of_below HW.out) id (fun _ _ _ _=>id),⟨rfl,rfl,rfl,Nat.le_refl _,fun _ _ _=>rfl⟩,Yb.below HH.out.r HW.out⟩;have HI:=zH hI;clear hI hn1 H0 b1 HH;have FR:Hid (∀W,Za (fun k=>k=rp\/k=nb\/B<=k) wf W->Za (fun k=>k=rp) w W):=zH fun W hS=>
  ⟨hS.os.trans HW.out.os,hS.tape.trans HW.out.tape,hS.output.trans HW.out.output,Nat.le_trans HW.out.size hS.size,fun k hk hr=>by
   have hkn:k < nb:=by rw[<-hnb.out];exact hk
   have:=LB.out.1;exact(hS.block k (Nat.lt_of_lt_of_le hk HW.out.size) (by omega)).trans (HW.out.block k hk)⟩
 have NR:Hid (¬nb=rp /\ ¬rp=nb):=zH (by have:=HRP.out;omega);go_wp2_with fail;go_loopw [6,15] (fun _ i wr=>∃(k:Nat) (xs:List Int) (t:zU) (a:zA) (n c:Nat),i = .int .i64 k/\k<=15/\Hid (XI Je k l=some (xs,t))/\Hid (Z0W wf wr rp nb B (Jk xs [] []) none 0 t a n c)) (fun _ i _=>15 - (intOf i).toNat)
 case atStart=>exact⟨0,[],l,a,n,c,rfl,by omega,zH rfl,HI⟩
 case round=>
  obtain⟨k,xs,t,a,n,c,rfl,hk,HM,HN⟩:=hrel;by_cases hlt:k < 15
  ·have hxl:=Qa _ _ _ _ HM.out;have e1:wr.cell? ⟨P,k,none⟩=some (.pointer (some ⟨nb,k,none⟩)):=Z6 ((HN.out.s.block P (by rw[hB.out];exact LP.out.2.1) (by have h1:=LP.out.1;have h2:=LP.out.2.1;have h3:=HRP.out;omega)).trans LP.out.2.2) _ _ (Z3c nb k hlt);have hz63:(k:Int)<=9223372036854775807:=by omega
   have HXL:=zH hxl;clear hxl;go_wp2_with fail;refine(VT rp t a n c wr HN.out.r).mono ?_;rintro e w1 (⟨z,t',a2,n2,c2,h1,rfl,h2,h3⟩ | ⟨h1,rfl,h3⟩)
   ·have HN1:=zH (HN.out.number h2 h3.1 h3.2 NR.out.1);have H1:=zH (VI HM.out h1);clear h1 h2 h3 e1;have e2:w1.cell? ⟨nb,k,none⟩=some (.int .i64 ((Zn (Jk xs [] []))[k]?.getD 0)):=Z6 HN1.out.e _ _ (YA (Jk xs [] []) none 0 k hlt);have f2:=Ze HN1.out.e k;generalize (Zn (Jk xs [] []))[k]?.getD 0=y at *;have HN2:=zH (HN1.out.set k (.int .i64 z) (by rw[<-HXL.out];exact Xm xs z (by rw[HXL.out];exact hlt)) NR.out.2);go_wp2;go_roundw
    case rel=>exact⟨k+1,xs ++ [z],t',a2,n2,c2,by go_num,by omega,H1,HN2⟩
    case measure=>simp[intOf];omega
   ·have HF:=zH (Z5Y (VJ HM.out h1 15 hlt));have HS:=zH (FR.out _ (HN.out.s.trans (YP h3 fun k e=>.inl e)));clear h1 h3 e1;go_wp2_with fail;exact⟨rfl,.inr ⟨HF.out,rfl,HS.out⟩⟩
  ·have hkn:k=15:=by omega
   subst hkn;go_wp2_with fail;refine(Z8k rp t a n c wr HN.out.r).mono ?_;rintro e w1 (⟨cnt,t1,a2,n2,c2,h1,hcnt,rfl,h2,h3⟩ | ⟨h1,rfl,h3⟩)
   ·have HN1:=zH (HN.out.number h2 h3.1 h3.2 NR.out.1);have hc2:cnt<=1000000:=Nat.le_trans hcnt (Nat.le_trans (Z7a h1) (Nat.le_trans (Z2w _ HM.out) HL.out));have H1:=zH h1;clear h1 h2 h3 hcnt;go_wp2_with fail;go_loopw [26] (fun i wr=>∃(k:Nat) (ys:List Int) (t:zU) (a:zA) (n c:Nat) (sa:zA) (sc:Nat),i = .int .i64 k/\k<=cnt/\Hid (XI Je k t1=some (ys,t))/\Hid (Z0W wf wr rp nb B (Jk xs ys []) sa sc t a n c)/\Hid (wr.ownsRow B 3 1 (.slice sa k sc) k (ys.map Yo))) (fun i _=>cnt - (intOf i).toNat)
    case atStart=>exact⟨0,[],t1,a2,n2,c2,none,0,rfl,Nat.zero_le _,zH rfl,HN1,zH (World.ownsRow_nil _ _ _ _)⟩
    case round=>
     obtain⟨k,ys,t,a,n,c,sa,sc,rfl,hk,HM2,HN2,HO⟩:=hrel;by_cases hlt:k < cnt
     ·cases hnum:Je t with
      | none=>
       go_wp2_with fail;have hyl:ys.length=k:=Qa _ _ _ _ HM2.out;have HND:=zH (HN2.out.below (zd wr));have e15:wr.drew.cell? ⟨nb,15,none⟩=some (.slice sa k sc):=Z6 HND.out.e 15 _ (by rw[<-hyl];rfl);have HF:=zH (show Xv Je l=none by rw[Z0E HM.out H1.out,VJ HM2.out hnum cnt hlt]);refine wp_region_any (by kernel_rfl) ?_;change wpAny _ _ _ _ _ _ _ (World.drew _);refine wpAny_take (i:=0) (v := ?_) rfl (by kernel_rfl) (by kernel_rfl) (by kernel_rfl) (fun _ _ _ h=>h) (Or.inl ⟨by rfl,?_⟩) ?_;rotate_left
       ·intro w;go_simp
        first | done | with_reducible rfl
       refine wpAny_take (i:=2) (v := ?_) rfl (by kernel_rfl) (by kernel_rfl) (by kernel_rfl) (fun _ _ _ h=>h) (Or.inl ⟨by rfl,?_⟩) ?_;rotate_left
       ·intro w;go_simp
        first | done | with_reducible rfl
       refine wpAny_ready (rs:=[1,3]) (by kernel_rfl) (by simp) ?_;refine AllReady.cons rfl (fun K hK=>?_) ?_
       focus
        go_simp;refine hK _ _ ?_;clear hK K;refine wpAny_ready (rs:=[3]) (by kernel_rfl) (by simp) ?_;refine AllReady.cons rfl (fun K hK=>?_) AllReady.nil
       rotate_left
       focus
        refine AllReady.cons rfl (fun K hK=>?_) AllReady.nil
       all_goals
        go_simp;go_at_call 146;refine(Z6X rp t a n c _ HND.out.r hnum).mono ?_;rintro e w1 ⟨rfl,h3⟩;exact⟨rfl,.inr ⟨HF.out,rfl,FR.out _ (HND.out.s.trans (YP h3 fun k e=>.inl e))⟩⟩
      | some p=>
       obtain⟨z,t'⟩:=p;go_wp2_with fail;have hyl:ys.length=k:=Qa _ _ _ _ HM2.out;have HYL:=zH hyl;clear hyl;have HND:=zH (HN2.out.below (zd wr));have OD:=zH (Zb HO.out (zd wr));have e15:wr.drew.cell? ⟨nb,15,none⟩=some (.slice sa k sc):=Z6 HND.out.e 15 _ (by rw[<-HYL.out];rfl);go_region_law (first
        |(refine Z4G rfl _ _ rfl B _ _ _ ys rfl O3.out _ _ _ [z] rfl (Z40 w1 z) (by omega) hBs ?_;intro sa' sc' w3 h5 h6;have HN4:=zH ((HN3.out.below (zB w1 (.cells #[.int .i64 z] 3))).grown h6 O3.out hB.out LB.out.1 LB.out.2);have e18:w3.cell? ⟨nb,15,none⟩=some (.slice sa k sc):=Z6 HN4.out.e 15 _ (by rw[<-HYL.out];try rfl);have f18:=Ze HN4.out.e 15;have H5:=zH h5;clear h5 h6)
        |(go_simp;go_at_call 146;refine(Z6W rp t t' z a n c _ HND.out.r hnum).mono ?_;rintro e w1 ⟨a3,n3,c3,rfl,h2,h3⟩;have HN3:=zH (HND.out.number h2 h3.1 h3.2 NR.out.1);have e16:w1.cell? ⟨nb,15,none⟩=some (.slice sa k sc):=Z6 HN3.out.e 15 _ (by rw[<-HYL.out];try rfl);have e17 : ∀o,(w1.alloc o).cell? ⟨nb,15,none⟩=some (.slice sa k sc):=fun o=>Z6 (Z8 w1 o _ _ HN3.out.e) 15 _ (by rw[<-HYL.out];try rfl);have O3:=zH (Zb (Xd OD.out h3.1 (fun b cur fr hb=>.inr ((show b=rp from hb).symm ▸ LB.out.2))) (zB w1 (.cells #[.int .i64 z] 3)));have hBs:B<=(w1.alloc (.cells #[.int .i64 z] 3)).heap.size:=Nat.le_trans (Nat.le_of_eq hB.out.symm) (Nat.le_trans HN3.out.s.size (by simp));clear h2 h3))
       all_goals
        have HN5:=zH (HN4.out.set 15 (.slice sa' (k+1) sc') (Z2Q xs ys (ys ++ [z]) sa sa' sc sc' (k+1) (by simp[HYL.out])) NR.out.2);have HO5:=zH (Xd H5.out (Xw w3 nb 15 (.slice sa' (k+1) sc')) (fun b cur fr hb=>.inr ((show b=nb from hb).symm ▸ LB.out.1)));clear e15 e16 e17 e18 f18;go_wp2;go_roundw
        case rel=>exact⟨k+1,ys ++ [z],t',a3,n3,c3,sa',sc',by go_num,by omega,zH (VI HM2.out hnum),HN5,HO5⟩
        case measure=>simp[intOf];omega
     ·have hkn:k=cnt:=by omega
      subst hkn;have HF3:=zH (Z0E HM.out H1.out);go_wp2_with fail;go_loopw [8,38] (fun _ i wr=>∃(j:Nat) (zs:List Int) (t':zU) (a:zA) (n c:Nat),i = .int .i64 j/\j<=3/\Hid (XI Je j t=some (zs,t'))/\Hid (Z0W wf wr rp nb B (Jk xs ys zs) sa sc t' a n c)/\Hid (wr.ownsRow B 3 1 (.slice sa k sc) k (ys.map Yo))) (fun _ i _=>3 - (intOf i).toNat)
      case atStart=>exact⟨0,[],t,a,n,c,rfl,by omega,zH rfl,HN2,HO⟩
      case round=>
       obtain⟨j,zs,t',a,n,c,rfl,hj,HM3,HN3,HO3⟩:=hrel;by_cases hlt:j < 3
       ·have hxl:=Qa _ _ _ _ HM3.out;have e1:wr.cell? ⟨Q,j,none⟩=some (.pointer (some ⟨nb,16+j,none⟩)):=Z6 ((HN3.out.s.block Q (by rw[hB.out];exact LQ.out.2.1) (by have h1:=LQ.out.1;have h2:=LQ.out.2.1;have h3:=HRP.out;omega)).trans LQ.out.2.2) _ _ (Z1Z nb j hlt);have hz63:(j:Int)<=9223372036854775807:=by omega
        have HXL:=zH hxl;clear hxl;go_wp2_with fail;refine(VT rp t' a n c wr HN3.out.r).mono ?_;rintro e w1 (⟨z,t2,a2,n2,c2,h1,rfl,h2,h3⟩ | ⟨h1,rfl,h3⟩)
        ·have HN4:=zH (HN3.out.number h2 h3.1 h3.2 NR.out.1);have HO4:=zH (Xd HO3.out h3.1 (fun b cur fr hb=>.inr ((show b=rp from hb).symm ▸ LB.out.2)));have H1':=zH (VI HM3.out h1);clear h1 h2 h3 e1;have e2:w1.cell? ⟨nb,16+j,none⟩=some (.int .i64 ((Zr (Jk xs ys zs))[j]?.getD 0)):=Z6 HN4.out.e _ _ (Vj (Jk xs ys zs) sa sc j hlt);have f2:=Ze HN4.out.e (16+j);generalize (Zr (Jk xs ys zs))[j]?.getD 0=y at *;have HN5:=zH (HN4.out.set (16+j) (.int .i64 z) (by rw[<-HXL.out];exact zh xs ys sa sc zs z (by rw[HXL.out];exact hlt)) NR.out.2);have HO5:=zH (Xd HO4.out (Xw w1 nb (16+j) (.int .i64 z)) (fun b cur fr hb=>.inr ((show b=nb from hb).symm ▸ LB.out.1)));go_wp2;go_roundw
         case rel=>exact⟨j+1,zs ++ [z],t2,a2,n2,c2,by go_num,by omega,H1',HN5,HO5⟩
         case measure=>simp[intOf];omega
        ·have HF:=zH (show Xv Je l=none by rw[HF3.out,HM2.out];simp only;rw[VJ HM3.out h1 3 hlt]);have HS:=zH (FR.out _ (HN3.out.s.trans (YP h3 fun k e=>.inl e)));clear h1 h3 e1;go_wp2_with fail;exact⟨rfl,.inr ⟨HF.out,rfl,HS.out⟩⟩
       ·have hjn:j=3:=by omega
        subst hjn;have HF:=zH (show Xv Je l=some (Jk xs ys zs,t')by rw[HF3.out,HM2.out];simp only;rw[HM3.out]);have hyl:ys.length=k:=Qa _ _ _ _ HM2.out;obtain⟨N,hN⟩:=zX (Jk xs ys zs);have hNs:N.strokes=ys:=by rw[<-hN.out];rfl
        rw[hN.out]at HN3 HF;have one1:=Zh N sa sc;have HY:=zH (And.intro hNs hyl);clear hyl hNs;go_wp2_with (first
         |(refine zL nb HN3.out.e ?_)
         |(refine zN nb (Z5 N sa sc) HN3.out.e ?_))
        refine bodyPost_ret (results_cell_row rfl _ _ nb 47 (Z5 N sa sc) (0,0) _ rfl ?hg Tryz.underlying47 rfl (I43.out _ _ _)) rfl ?_
        case hg=>exact setRow_heap wr nb _ _ _ _ HN3.out.e
        have hSR:Za (fun k=>k=nb) wr (wr.setRow nb (Z5 N sa sc)):=⟨rfl,rfl,rfl,by simp,fun k hk hs=>setRow_other wr nb k _ hs⟩;have hO:=Xd HO3.out hSR (fun b cur fr hb=>.inr ((show b=nb from hb).symm ▸ LB.out.1));refine .inl ⟨N,t',sa,sc,a,n,c,HF.out,rfl,?_,?_,?_⟩
        ·rw[HY.out.1,HY.out.2];exact Zp hO (by rw[hnb.out];exact Nat.le_of_lt LB.out.1)
        ·exact HN3.out.r.same hSR NR.out.2 (fun h0 b off e=>Z3V HN3.out.e (Z1D N sa sc) HN3.out.r.r h0 b off e)
        ·exact FR.out _ (HN3.out.s.trans (YP hSR fun k e=>.inr (.inl e)))
   ·have HF:=zH (Z5X HM.out h1);have HS:=zH (FR.out _ (HN.out.s.trans (YP h3 fun k e=>.inl e)));clear h1 h3;go_wp2_with fail;exact⟨rfl,.inr ⟨HF.out,rfl,HS.out⟩⟩
end
end Go.Proofs.YtlnhppgfhkkidaaGreat
