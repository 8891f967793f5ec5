/- The given row HistoryKnown, proved: whatever the input, true, and the input reads as it did. -/
import Derived.Test.YtpjiakgfegnmcaaRows
import Derived.ProofKit
import Derived.OpenShut
import Derived.Deep.Strs
import Derived.Test.YtpjiakgfegnmcaaKPhk10
set_option linter.unusedSimpArgs false
set_option linter.unusedVariables false
namespace Go.Proofs.Ytpjiakgfegnmcaa
set_option linter.unusedSimpArgs false
open Go.RowKit

/-- What an event says, without its place in memory. -/
def evC (e : EvV) : Nm × NoteV := (e.nm, e.x.n)
theorem sameB_self (n : NoteV) : sameB n n = true := by simp [sameB]
theorem ev_rangeN {W : World} {b o : Nat} {e : EvV} (h : W.rangeAt b o e.cells) : W.rangeAt b (o + 2) (e.x.n.cells e.x.sa e.x.sc) := fun j v hv => by
  have := h (2 + j) v (by rw [EvV.cells, List.getElem?_append_right (by simp)]; simpa using hv)
  rwa [← Nat.add_assoc] at this

set_option maxHeartbeats 16000000 in
set_option maxRecDepth 100000 in
theorem sameEvents_eq (l m : List EvV) (a : Option Addr) (n c : Nat) (a' : Option Addr) (n' c' : Nat) (w : World) (hr : RdEs w a n c l) (hr' : RdEs w a' n' c' m) (hl : ∀ e ∈ l, e.x.ok w) (hm : ∀ e ∈ m, e.x.ok w) (he : l.map evC = m.map evC) :
    Calls Try.prog 72 #[.slice a n c, .slice a' n' c'] w fun e w' => e = .returned (.bool true) ∧ Below w.heap.size w w' := by
  have I43 := Lib.hid (show ∀ (m : NoteV) (a : Option Addr) (c : Nat), (Try.prog.info? 43).map (·.size) = some (noteA m a c).size from fun m a c => by kernel_rfl)
  have J21 : (Try.prog.info? 158).map (·.size) = some 21 := by kernel_rfl
  have hm1 := hr.maxn
  have LN1 := Lib.hid hr.1
  have hnn : n = n' := by
    have h1 := congrArg List.length he
    rw [List.length_map, List.length_map] at h1
    rw [← hr.1, ← hr'.1, h1]
  subst hnn
  have R1 := Lib.hid hr
  have R2 := Lib.hid hr'
  have O1 := Lib.hid hl
  have O2 := Lib.hid hm
  have HE := Lib.hid he
  clear hr hr' hl hm he
  go_enter Try.func72, Try.ntmps72
  go_wp2_with fail
  go_loopw [5] (fun i wr => ∃ k : Nat, i = .int .i64 k ∧ k ≤ n ∧ Hid (Below w.heap.size w wr)) (fun i _ => n - (intOf i).toNat)
  case atStart => exact ⟨0, rfl, Nat.zero_le _, Lib.hid (Below.refl _ _)⟩
  case round =>
    obtain ⟨k, rfl, hk, BB⟩ := hrel
    by_cases hlt : k < n
    · have t0 : decide ((k : Int) < (n : Int)) = true := by simp; omega
      obtain ⟨x, Hx⟩ : ∃ x, l[k]? = some x := ⟨_, List.getElem?_eq_getElem (by rw [LN1.out]; exact hlt)⟩
      obtain ⟨y, Hy⟩ : ∃ y, m[k]? = some y := ⟨_, List.getElem?_eq_getElem (by rw [R2.out.1]; exact hlt)⟩
      have hxy : evC x = evC y := by
        have h1 := congrArg (fun q => q[k]?) HE.out
        simp only [List.getElem?_map, Hx, Hy, Option.map_some, Option.some.injEq] at h1
        exact h1
      have OX := Lib.hid (O1.out x (List.mem_of_getElem? Hx))
      have OY := Lib.hid (O2.out y (List.mem_of_getElem? Hy))
      obtain ⟨b, off, rfl, hat⟩ := (R1.out.below BB.out).at (by omega)
      obtain ⟨b', off', rfl, hat'⟩ := (R2.out.below BB.out).at (by omega)
      have AX := Lib.hid (hat k x Hx)
      have AY := Lib.hid (hat' k y Hy)
      obtain ⟨nm, ⟨nn, sa, sc⟩⟩ := x
      obtain ⟨nm', ⟨nn', ta, tc⟩⟩ := y
      unfold evC at hxy
      rw [Prod.mk.injEq] at hxy
      obtain ⟨rfl, rfl⟩ : nm = nm' ∧ nn = nn' := hxy
      clear hat hat' Hx Hy
      obtain ⟨o, ho⟩ : ∃ o, Hid (off + k * 21 = o) := ⟨_, Lib.hid rfl⟩
      obtain ⟨o', ho'⟩ : ∃ o', Hid (off' + k * 21 = o') := ⟨_, Lib.hid rfl⟩
      rw [ho.out] at AX
      rw [ho'.out] at AY
      have HIX := Lib.hid (fun W => idx_off (W := W) (c := c) (b := b) Try.underlying72 J21 hlt ho.out)
      have HIY := Lib.hid (fun W => idx_off (W := W) (c := c') (b := b') Try.underlying72 J21 hlt ho'.out)
      have hk64 : (k : Int) + 1 ≤ 9223372036854775807 := by omega
      go_upto_region 6 with fail
      clear t0
      try simp only [Act.put, List.setIfInBounds_toArray, List.set_cons_zero, List.set_cons_succ]
      have hC0 : Below wr.heap.size wr wr.drew := (Below.refl _ _).drew
      have LX := Lib.hid (show ∀ w0, Below wr.heap.size wr w0 → w0.rangeAt b o (EvV.cells ⟨nm, ⟨nn, sa, sc⟩⟩) from fun w0 h => rangeAt_below AX.out h)
      have LY := Lib.hid (show ∀ w0, Below wr.heap.size wr w0 → w0.rangeAt b' o' (EvV.cells ⟨nm, ⟨nn, ta, tc⟩⟩) from fun w0 h => rangeAt_below AY.out h)
      have RX := Lib.hid (show ∀ w0, Below wr.heap.size wr w0 → RdI w0 sa nn.strokes.length sc nn.strokes from fun w0 h => (OX.out.below BB.out).below h)
      have RY := Lib.hid (show ∀ w0, Below wr.heap.size wr w0 → RdI w0 ta nn.strokes.length tc nn.strokes from fun w0 h => (OY.out.below BB.out).below h)
      have SN := Lib.hid (fun W h1 h2 => rsame_any nn nn sa sc ta tc W h1 h2)
      rw [sameB_self] at SN
      refine wp_region_quiet (C := fun w' : World => Below wr.heap.size wr w') (by kernel_rfl) (by kernel_rfl) hC0 ?_
      show wpQuiet _ _ _ _ (_ :: _) _
      go_big_quiet_want
      go_big_quiet_op
      go_big_quiet_on
      go_big_quiet_want
      go_big_quiet_op
      go_big_quiet_on
      go_big_quiet_want
      refine ⟨.pointer (some ⟨b, o, none⟩), fun w0 hC => ?_, ?_⟩
      · have hix := HIX.out w0
        clear hC
        go_simp
      simp only [Act.put, List.setIfInBounds_toArray, List.set_cons_zero, List.set_cons_succ]
      go_big_quiet_on
      go_big_quiet_want
      refine ⟨.pointer (some ⟨b, o, none⟩), fun w0 hC => ?_, ?_⟩
      · clear hC
        go_simp
      simp only [Act.put, List.setIfInBounds_toArray, List.set_cons_zero, List.set_cons_succ]
      go_big_quiet_on
      go_big_quiet_want
      refine ⟨.agg #[.int .i64 nm.1, .int .i64 nm.2], fun w0 hC => ?_, ?_⟩
      · have c0 := LX.out w0 hC 0 (.int .i64 nm.1) rfl
        have c1 := LX.out w0 hC 1 (.int .i64 nm.2) rfl
        simp only [Nat.add_zero] at c0
        clear hC
        go_simp
      simp only [Act.put, List.setIfInBounds_toArray, List.set_cons_zero, List.set_cons_succ]
      go_big_quiet_on
      go_big_quiet_want
      go_big_quiet_op
      go_big_quiet_on
      go_big_quiet_want
      go_big_quiet_op
      go_big_quiet_on
      go_big_quiet_want
      refine ⟨.pointer (some ⟨b', o', none⟩), fun w0 hC => ?_, ?_⟩
      · have hix := HIY.out w0
        clear hC
        go_simp
      simp only [Act.put, List.setIfInBounds_toArray, List.set_cons_zero, List.set_cons_succ]
      go_big_quiet_on
      go_big_quiet_want
      refine ⟨.pointer (some ⟨b', o', none⟩), fun w0 hC => ?_, ?_⟩
      · clear hC
        go_simp
      simp only [Act.put, List.setIfInBounds_toArray, List.set_cons_zero, List.set_cons_succ]
      go_big_quiet_on
      go_big_quiet_want
      refine ⟨.agg #[.int .i64 nm.1, .int .i64 nm.2], fun w0 hC => ?_, ?_⟩
      · have c0 := LY.out w0 hC 0 (.int .i64 nm.1) rfl
        have c1 := LY.out w0 hC 1 (.int .i64 nm.2) rfl
        simp only [Nat.add_zero] at c0
        clear hC
        go_simp
      simp only [Act.put, List.setIfInBounds_toArray, List.set_cons_zero, List.set_cons_succ]
      go_big_quiet_on
      go_big_quiet_want
      refine ⟨.bool false, fun w0 hC => ?_, ?_⟩
      · clear hC
        go_simp
        try simp
      simp only [Act.put, List.setIfInBounds_toArray, List.set_cons_zero, List.set_cons_succ]
      go_big_quiet_on
      go_big_quiet_want
      go_big_quiet_op
      go_big_quiet_on
      go_big_quiet_want
      go_big_quiet_op
      go_big_quiet_on
      go_big_quiet_want
      go_big_quiet_op
      go_big_quiet_on
      go_big_quiet_want
      refine ⟨.pointer (some ⟨b, o, none⟩), fun w0 hC => ?_, ?_⟩
      · have hix := HIX.out w0
        clear hC
        go_simp
      simp only [Act.put, List.setIfInBounds_toArray, List.set_cons_zero, List.set_cons_succ]
      go_big_quiet_on
      go_big_quiet_want
      refine ⟨.pointer (some ⟨b, o + 2, none⟩), fun w0 hC => ?_, ?_⟩
      · clear hC
        go_simp
      simp only [Act.put, List.setIfInBounds_toArray, List.set_cons_zero, List.set_cons_succ]
      go_big_quiet_on
      go_big_quiet_want
      refine ⟨.agg (noteA nn sa sc), fun w0 hC => quiet_load_note (.tmp 32) rfl b (o + 2) rfl nn sa sc (ev_rangeN (LX.out w0 hC)), ?_⟩
      simp only [Act.put, List.setIfInBounds_toArray, List.set_cons_zero, List.set_cons_succ]
      go_big_quiet_on
      go_big_quiet_want
      go_big_quiet_op
      go_big_quiet_on
      go_big_quiet_want
      go_big_quiet_op
      go_big_quiet_on
      go_big_quiet_want
      refine ⟨.pointer (some ⟨b', o', none⟩), fun w0 hC => ?_, ?_⟩
      · have hix := HIY.out w0
        clear hC
        go_simp
      simp only [Act.put, List.setIfInBounds_toArray, List.set_cons_zero, List.set_cons_succ]
      go_big_quiet_on
      go_big_quiet_want
      refine ⟨.pointer (some ⟨b', o' + 2, none⟩), fun w0 hC => ?_, ?_⟩
      · clear hC
        go_simp
      simp only [Act.put, List.setIfInBounds_toArray, List.set_cons_zero, List.set_cons_succ]
      go_big_quiet_on
      go_big_quiet_want
      refine ⟨.agg (noteA nn ta tc), fun w0 hC => quiet_load_note (.tmp 37) rfl b' (o' + 2) rfl nn ta tc (ev_rangeN (LY.out w0 hC)), ?_⟩
      simp only [Act.put, List.setIfInBounds_toArray, List.set_cons_zero, List.set_cons_succ]
      go_big_quiet_on
      go_big_quiet_want
      refine ⟨.bool true, fun w0 hC => ?_, ?_⟩
      · go_simp
        refine (SN.out w0 (RX.out w0 hC) (RY.out w0 hC)).mono ?_
        rintro e w1 ⟨rfl, b1⟩
        exact ⟨rfl, hC.trans (b1.mono hC.size)⟩
      simp only [Act.put, List.setIfInBounds_toArray, List.set_cons_zero, List.set_cons_succ]
      go_big_quiet_on
      go_big_quiet_want
      refine ⟨.bool false, fun w0 hC => ?_, ?_⟩
      · clear hC
        go_simp
      simp only [Act.put, List.setIfInBounds_toArray, List.set_cons_zero, List.set_cons_succ]
      go_big_quiet_on
      go_big_quiet_want
      refine ⟨.bool false, fun w0 hC => ?_, ?_⟩
      · clear hC
        go_simp
      simp only [Act.put, List.setIfInBounds_toArray, List.set_cons_zero, List.set_cons_succ]
      go_big_quiet_on
      refine wpQuiet_nil ?_
      intro w' hC
      have B8 := Lib.hid (BB.out.trans (hC.mono BB.out.size))
      clear hC
      go_wp2_with fail
      go_roundw
      case rel => exact ⟨k + 1, by go_num, by omega, B8⟩
      case measure => simp [intOf]; omega
    · have t0 : decide ((k : Int) < (n : Int)) = false := by simp; omega
      go_wp2_with fail
      go_ret
      exact ⟨rfl, BB.out⟩

set_option maxHeartbeats 8000000 in
set_option maxRecDepth 100000 in
theorem sameReg_eq (hs es hs' es' : List EvV) (cs : List Nm) (ha : Option Addr) (hn hc : Nat) (ea : Option Addr) (en ec : Nat) (ca : Option Addr) (cn cc : Nat) (ha' : Option Addr) (hn' hc' : Nat) (ea' : Option Addr) (en' ec' : Nat) (ca' : Option Addr) (cn' cc' : Nat) (w : World)
    (r1 : RdEs w ha hn hc hs) (r2 : RdEs w ea en ec es) (r3 : RdA w 2 ca cn cc (nmCells cs)) (s1 : RdEs w ha' hn' hc' hs') (s2 : RdEs w ea' en' ec' es') (s3 : RdA w 2 ca' cn' cc' (nmCells cs))
    (ok : ∀ e ∈ hs ++ es, e.x.ok w) (ok' : ∀ e ∈ hs' ++ es', e.x.ok w) (e1 : hs.map evC = hs'.map evC) (e2 : es.map evC = es'.map evC) :
    Calls Try.prog 37 #[.agg #[.slice ha hn hc, .slice ea en ec, .slice ca cn cc], .agg #[.slice ha' hn' hc', .slice ea' en' ec', .slice ca' cn' cc']] w fun e w' => e = .returned (.bool true) ∧ Below w.heap.size w w' := by
  have B0 := Lib.hid (((Below.refl w.heap.size w).alloc (Nat.le_refl _) (.cells #[.slice ha hn hc, .slice ea en ec, .slice ca cn cc] 75)).alloc (by simp) (.cells #[.slice ha' hn' hc', .slice ea' en' ec', .slice ca' cn' cc'] 75))
  have P0 := Lib.hid (heap_before _ (.cells #[.slice ha' hn' hc', .slice ea' en' ec', .slice ca' cn' cc'] 75) _ _ (heap_last w (.cells #[.slice ha hn hc, .slice ea en ec, .slice ca cn cc] 75)))
  have Q0 := Lib.hid (heap_at (w.alloc (.cells #[.slice ha hn hc, .slice ea en ec, .slice ca cn cc] 75)) (.cells #[.slice ha' hn' hc', .slice ea' en' ec', .slice ca' cn' cc'] 75) (w.heap.size + 1) (by simp))
  have RR := Lib.hid (show ∀ W, Below w.heap.size w W → RdEs W ha hn hc hs ∧ RdEs W ea en ec es ∧ RdA W 2 ca cn cc (nmCells cs) ∧ RdEs W ha' hn' hc' hs' ∧ RdEs W ea' en' ec' es' ∧ RdA W 2 ca' cn' cc' (nmCells cs) ∧ (∀ e ∈ hs, e.x.ok W) ∧ (∀ e ∈ es, e.x.ok W) ∧ (∀ e ∈ hs', e.x.ok W) ∧ (∀ e ∈ es', e.x.ok W) from fun W h =>
    ⟨r1.below h, r2.below h, r3.below h, s1.below h, s2.below h, s3.below h, fun e he => (ok e (List.mem_append_left _ he)).below h, fun e he => (ok e (List.mem_append_right _ he)).below h, fun e he => (ok' e (List.mem_append_left _ he)).below h, fun e he => (ok' e (List.mem_append_right _ he)).below h⟩)
  have E1 := Lib.hid e1
  have E2 := Lib.hid e2
  clear r1 r2 r3 s1 s2 s3 ok ok' e1 e2
  go_enter Try.func37, Try.ntmps37
  go_upto_region 1 with fail
  obtain ⟨p, hp⟩ : ∃ p, Hid (w.heap.size = p) := ⟨_, Lib.hid rfl⟩
  obtain ⟨q, hq⟩ : ∃ p, Hid (w.heap.size + 1 = p) := ⟨_, Lib.hid rfl⟩
  rw [hp.out] at P0
  rw [hq.out] at Q0
  rw [hq.out, hp.out]
  generalize (w.alloc (.cells #[.slice ha hn hc, .slice ea en ec, .slice ca cn cc] 75)).alloc (.cells #[.slice ha' hn' hc', .slice ea' en' ec', .slice ca' cn' cc'] 75) = W0 at *
  have a0 := cell_of P0.out 0 (.slice ha hn hc) rfl
  have a1 := cell_of P0.out 1 (.slice ea en ec) rfl
  have a2 := cell_of P0.out 2 (.slice ca cn cc) rfl
  have b0 := cell_of Q0.out 0 (.slice ha' hn' hc') rfl
  have b1 := cell_of Q0.out 1 (.slice ea' en' ec') rfl
  have b2 := cell_of Q0.out 2 (.slice ca' cn' cc') rfl
  go_wp2_with fail
  refine (sameEvents_eq hs hs' ha hn hc ha' hn' hc' W0 (RR.out W0 B0.out).1 (RR.out W0 B0.out).2.2.2.1 (RR.out W0 B0.out).2.2.2.2.2.2.1 (RR.out W0 B0.out).2.2.2.2.2.2.2.2.1 E1.out).mono ?_
  rintro e W1 ⟨rfl, hb⟩
  have P1 := Lib.hid (below_blk hb P0.out)
  have Q1 := Lib.hid (below_blk hb Q0.out)
  have B1 := Lib.hid (B0.out.trans (hb.mono B0.out.size))
  clear hb B0 P0 Q0 a0 a1 a2 b0 b1 b2
  have a1 := cell_of P1.out 1 (.slice ea en ec) rfl
  have b1 := cell_of Q1.out 1 (.slice ea' en' ec') rfl
  go_wp2_with fail
  refine (sameEvents_eq es es' ea en ec ea' en' ec' W1 (RR.out W1 B1.out).2.1 (RR.out W1 B1.out).2.2.2.2.1 (RR.out W1 B1.out).2.2.2.2.2.2.2.1 (RR.out W1 B1.out).2.2.2.2.2.2.2.2.2 E2.out).mono ?_
  rintro e W2 ⟨rfl, hb⟩
  have P2 := Lib.hid (below_blk hb P1.out)
  have Q2 := Lib.hid (below_blk hb Q1.out)
  have B2 := Lib.hid (B1.out.trans (hb.mono B1.out.size))
  clear hb B1 P1 Q1 a1 b1
  have a2 := cell_of P2.out 2 (.slice ca cn cc) rfl
  have b2 := cell_of Q2.out 2 (.slice ca' cn' cc') rfl
  go_wp2_with fail
  refine (sameNames_any ca cn cc cs ca' cn' cc' cs W2 (RR.out W2 B2.out).2.2.1 (RR.out W2 B2.out).2.2.2.2.2.1).mono ?_
  rintro r W9 ⟨rfl, q9, hw9⟩
  have B9 : Hid (Below w.heap.size w W9) := Lib.hid (by rw [hw9]; exact below_drewN B2.out q9)
  clear hw9
  rw [decide_eq_true rfl]
  go_wp2_with fail
  go_ret
  exact ⟨rfl, B9.out⟩
end Go.Proofs.Ytpjiakgfegnmcaa
namespace Go.Proofs.Ytpjiakgfegnmcaa
set_option linter.unusedSimpArgs false

theorem setGo_all {f : FrV} {l : List NoteV} : ∀ (n k : Nat), (∀ i, k ≤ i → i < k + n → setAt f l i = none) → setGo f l n k = (0, 0)
  | 0, _, _ => rfl
  | n + 1, k, h => by
    rw [setGo, h k (Nat.le_refl _) (by omega)]
    exact setGo_all n (k + 1) (fun i h1 h2 => h i (by omega) (by omega))
theorem set_mk {f : FrV} {l : List NoteV} (hv : f.valid = true) (h4 : l.length ≤ 400) (hf : ∀ x ∈ l, formedB f x = true) (hp : l.Pairwise (fun x y => nmLt (nmOf x) (nmOf y) = true)) : (checkSetP f l).1 = 0 := by
  unfold checkSetP
  rw [if_neg (by rw [hv]; decide), if_neg (by omega), setGo_all]
  intro i _ hi
  rw [Nat.zero_add] at hi
  unfold setAt
  rw [List.getElem?_eq_getElem hi]
  simp only
  rw [if_neg (by rw [hf _ (List.getElem_mem hi)]; decide)]
  by_cases h0 : i = 0
  · rw [if_pos h0]
  · rw [if_neg h0, List.getElem?_eq_getElem (by omega : i - 1 < l.length)]
    simp only
    have h1 := List.pairwise_iff_getElem.1 hp (i - 1) i (by omega) hi (by omega)
    rw [nmLt, decide_eq_true_eq] at h1
    have h2 : namesC l[i - 1].house l[i - 1].num l[i].house l[i].num < 0 := h1
    rw [if_neg (by omega), if_neg (by omega)]
theorem set_sub {f : FrV} {l m : List NoteV} (h : (checkSetP f l).1 = 0) (hs : m.Sublist l) : (checkSetP f m).1 = 0 := by
  obtain ⟨h1, h2, h3, h4⟩ := set_ok h
  exact set_mk h1 (Nat.le_trans hs.length_le h2) (fun x hx => h3 x (hs.subset hx)) (h4.sublist hs)
theorem upTo_upTo (clock : Int) (l : List NoteV) : upTo clock (upTo clock l) = upTo clock l := by
  unfold upTo
  rw [List.filter_filter]
  simp
end Go.Proofs.Ytpjiakgfegnmcaa
namespace Go.Proofs.Ytpjiakgfegnmcaa
set_option linter.unusedSimpArgs false
open Go.RowKit

abbrev RegT := List NoteV × List NoteV × List Nm
/-- The register of a list, as values: empty where the list is no set. -/
def regV (f : FrV) (l m : List NoteV) (day : Int) : RegT := if (checkSetP f l).1 = 0 then ((regN day m).hs, (regN day m).es, csN day m) else ([], [], [])
def errV (f : FrV) (l : List NoteV) : Int := if (checkSetP f l).1 = 0 then 0 else 1
def evP (n : NoteV) : Nm × NoteV := (nmOf n, n)
/-- A register in memory that has a value. -/
def RegOut (W : World) (v : Value) (T : RegT) : Prop :=
  ∃ (ha : Option Addr) (hn hc : Nat) (ea : Option Addr) (en ec : Nat) (ca : Option Addr) (cn cc : Nat) (hs es : List EvV), v = .agg #[.slice ha hn hc, .slice ea en ec, .slice ca cn cc] ∧
    RdEs W ha hn hc hs ∧ RdEs W ea en ec es ∧ RdA W 2 ca cn cc (nmCells T.2.2) ∧ (∀ e ∈ hs ++ es, e.x.ok W) ∧ hs.map evC = T.1.map evP ∧ es.map evC = T.2.1.map evP
theorem RegOut.below {W W' : World} {v : Value} {T : RegT} (h : RegOut W v T) (hb : Below W.heap.size W W') : RegOut W' v T := by
  obtain ⟨ha, hn, hc, ea, en, ec, ca, cn, cc, hs, es, rfl, h1, h2, h3, h4, h5, h6⟩ := h
  exact ⟨ha, hn, hc, ea, en, ec, ca, cn, cc, hs, es, rfl, h1.below hb, h2.below hb, h3.below hb, fun e he => (h4 e he).below hb, h5, h6⟩
theorem evC_notes {es : List EvV} {N : List NoteV} (h : es.map (fun e => e.x.n) = N) (hn : ∀ e ∈ es, e.nm = nmOf e.x.n) : es.map evC = N.map evP := by
  subst h
  rw [List.map_map]
  refine List.map_congr_left fun e he => ?_
  unfold evC evP
  rw [hn e he]; rfl
theorem RegOut.empty (W : World) : RegOut W (.agg #[.slice none 0 0, .slice none 0 0, .slice none 0 0]) ([], [], []) :=
  ⟨none, 0, 0, none, 0, 0, none, 0, 0, [], [], rfl, ⟨rfl, Nat.le_refl _, Nat.zero_le _, .inl rfl⟩, ⟨rfl, Nat.le_refl _, Nat.zero_le _, .inl rfl⟩, RdA.nil _ _, fun e he => by simp at he, rfl, rfl⟩
theorem asEnd_out {l : List NoteV} {day : Int} {w w' : World} {e : Ending} (h : AsEnd l day w e w') (hp : l.Pairwise (fun x y => nmLt (nmOf x) (nmOf y) = true)) :
    ∃ v, e = .returned (.tuple #[v, .int .i64 0]) ∧ RegOut w' v ((regN day l).hs, (regN day l).es, csN day l) := by
  obtain ⟨v, R, rfl, ⟨ha, hc, ea, ec, ca, cc, rfl, o1, o2, o3, o4⟩, q1, q2, q3, q4⟩ := asEnd_reg h hp
  refine ⟨_, rfl, ha, _, hc, ea, _, ec, ca, _, cc, R.hs, R.es, rfl, RdEs.of_own o1, RdEs.of_own o2, ?_, fun e he => RdA.of_own (o4 e he), evC_notes q1 (fun e he => q4 e (List.mem_append_left _ he)), evC_notes q2 (fun e he => q4 e (List.mem_append_right _ he))⟩
  have := RdA.of_own o3
  rw [q3] at this ⊢
  exact this
theorem asOf_out (f : FrV) (a : Option Addr) (n c : Nat) (l : List NoteV) (day clock : Int) (w : World) (hr : RdNs w a n c l) (hok : ∀ x ∈ l, x.Ok) :
    Calls Try.prog 36 #[f.val, .slice a n c, .int .i64 day, .int .i64 clock] w fun e w' => ∃ v, e = .returned (.tuple #[v, .int .i64 (errV f l)]) ∧ RegOut w' v (regV f l (upTo clock l) day) ∧ Below w.heap.size w w' := by
  refine (asOf_any f a n c l day clock w hr hok).mono ?_
  rintro e w' ⟨⟨h0, rfl⟩ | ⟨h0, h1⟩, hb⟩
  · exact ⟨_, by rw [errV, if_neg h0], by rw [regV, if_neg h0]; exact RegOut.empty w', hb⟩
  · obtain ⟨v, rfl, h2⟩ := asEnd_out h1 ((set_ok h0).2.2.2.sublist (upTo_sub _ _))
    exact ⟨v, by rw [errV, if_pos h0], by rw [regV, if_pos h0]; exact h2, hb⟩
theorem fold_out (f : FrV) (a : Option Addr) (n c : Nat) (l : List NoteV) (w : World) (hr : RdNs w a n c l) (hok : ∀ x ∈ l, x.Ok) :
    Calls Try.prog 35 #[f.val, .slice a n c] w fun e w' => ∃ v, e = .returned (.tuple #[v, .int .i64 (errV f l)]) ∧ RegOut w' v (regV f l l 99999) ∧ Below w.heap.size w w' := by
  refine (fold_any f a n c l w hr hok).mono ?_
  rintro e w' ⟨⟨h0, rfl⟩ | ⟨h0, h1⟩, hb⟩
  · exact ⟨_, by rw [errV, if_neg h0], by rw [regV, if_neg h0]; exact RegOut.empty w', hb⟩
  · obtain ⟨v, rfl, h2⟩ := asEnd_out h1 (set_ok h0).2.2.2
    exact ⟨v, by rw [errV, if_pos h0], by rw [regV, if_pos h0]; exact h2, hb⟩
theorem sameReg_out {W : World} {v v' : Value} {T : RegT} (h : RegOut W v T) (h' : RegOut W v' T) : Calls Try.prog 37 #[v, v'] W fun e w' => e = .returned (.bool true) ∧ Below W.heap.size W w' := by
  obtain ⟨ha, hn, hc, ea, en, ec, ca, cn, cc, hs, es, rfl, h1, h2, h3, h4, h5, h6⟩ := h
  obtain ⟨ha', hn', hc', ea', en', ec', ca', cn', cc', hs', es', rfl, h1', h2', h3', h4', h5', h6'⟩ := h'
  exact sameReg_eq hs es hs' es' T.2.2 ha hn hc ea en ec ca cn cc ha' hn' hc' ea' en' ec' ca' cn' cc' W h1 h2 h3 h1' h2' h3' h4 h4' (h5.trans h5'.symm) (h6.trans h6'.symm)
theorem regV_all (f : FrV) (l : List NoteV) (day : Int) : regV f l (upTo 1099511627776 l) day = regV f l l day := by
  unfold regV
  by_cases h : (checkSetP f l).1 = 0
  · rw [if_pos h, if_pos h, upTo_all (fun x hx => (formed_clock ((set_ok h).2.2.1 x hx)).2)]
  · rw [if_neg h, if_neg h]
theorem regV_upTo {f : FrV} {l : List NoteV} (clock day : Int) (h : (checkSetP f l).1 = 0) : regV f (upTo clock l) (upTo clock (upTo clock l)) day = regV f l (upTo clock l) day := by
  unfold regV
  rw [if_pos h, if_pos (set_sub h (upTo_sub _ _)), upTo_upTo]
/-- A list of notes in memory of its own. -/
structure NlAt (V W : World) (a : Option Addr) (c n : Nat) (ys : List LN) : Prop where
  bel : Below V.heap.size V W
  own : W.ownsRow V.heap.size 43 19 (.slice a n c) n (lnCells ys)
theorem NlAt.start (V : World) : NlAt V V none 0 0 [] := ⟨Below.refl _ _, World.ownsRow_nil _ _ _ _⟩
theorem NlAt.below {V W W' : World} {a : Option Addr} {c n : Nat} {ys : List LN} (h : NlAt V W a c n ys) (hb : Below W.heap.size W W') : NlAt V W' a c n ys := ⟨h.bel.trans (hb.mono h.bel.size), own_below h.own hb⟩
theorem NlAt.add {V W W' : World} {a a' : Option Addr} {c c' n : Nat} {ys : List LN} {x : LN} (h : NlAt V W a c n ys) (ho : W'.ownsRow V.heap.size 43 19 (.slice a' (n + 1) c') (n + 1) (lnCells ys ++ x.n.cells x.sa x.sc)) (hg : (W.alloc (.cells (noteA x.n x.sa x.sc) 43)).grownBy W' (Value.ownBlock (.slice a n c))) : NlAt V W' a' c' (n + 1) (ys ++ [x]) := by
  have bn : Below W.heap.size W (W.alloc (.cells (noteA x.n x.sa x.sc) 43)) := (Below.refl _ _).alloc (Nat.le_refl _) _
  have h2 := h.below bn
  exact ⟨h2.bel.grown hg h2.bel.size (fun k hk => (h2.own.lt k hk).1), by rw [lnCells_snoc]; exact ho⟩
theorem wpList_build_note {ops : Array Oper} {rest : List Oper} {op : Oper} {a : Act} {w : World} {Q : Exit → Act → World → Prop} (hgd : op.guard = none) (x : Operand) (ho : op.op = .buildSlice 44 1 #[(0, x)]) (n : NoteV) (sa : Option Addr) (sc : Nat) (hx : a.eval x = .agg (noteA n sa sc))
    (h : wpList Try.prog ops Q rest (a.put op.dst (.slice (some ⟨w.heap.size, 0, none⟩) 1 1)) (w.alloc (.cells (noteA n sa sc) 43))) : wpList Try.prog ops Q (op :: rest) a w :=
  wpList_plain hgd fun _ hK => oper_build_note x ho n sa sc hx (hK _ _ h)
theorem filt_nx {α : Type} (p : α → Bool) {es : List α} {k : Nat} {x : α} (h : es[k]? = some x) : (es.take (k + 1)).filter p = if p x = true then (es.take k).filter p ++ [x] else (es.take k).filter p := by
  rw [take_snoc h, List.filter_append]
  by_cases hq : p x = true
  · rw [if_pos hq, List.filter_cons_of_pos hq]; rfl
  · rw [if_neg hq, List.filter_cons_of_neg hq]; simp
theorem ls_ok {W : World} {a : Option Addr} {n c : Nat} {xs : List LN} (h : RdLs W a n c xs) {x : LN} (hx : x ∈ xs) : x.ok W := by
  have h0 : 0 < n := by have := List.length_pos_of_mem hx; have := h.1; omega
  obtain ⟨b, off, rfl, hat⟩ := h.at h0
  obtain ⟨i, hi⟩ := List.getElem?_of_mem hx
  exact (hat i x hi).2
end Go.Proofs.Ytpjiakgfegnmcaa
namespace Go.Proofs.Ytpjiakgfegnmcaa
open Go.ChangeShapes Go.WideShapes Go.ChangeAt Go.RowKit

theorem Try.own : ownKnob Try.prog.godebug = none := by kernel_rfl
theorem Try.laidOut : laidOutB Try.prog = true := by kernel_rfl

/-- All arguments read behind the call as before. -/
theorem below_trodAll {H : Type} {enc : TypeId × Value → H} {P : Program} (hl : laidOutB P = true) {W W' : World} (hb : Below W.heap.size W W') :
    ∀ (ts : List TypeId) {vs : List Value} {ds : List (DataW H)} {ps : List MemPlace}, ts.all (fun t => P.readableRec t && decide (t < P.types.size)) = true → (∀ x ∈ ps, x.block < W.heap.size) →
      DataW.TrodAll enc P W 0 (fun _ => true) true ts vs ds ps → DataW.TrodAll enc P W' 0 (fun b => decide (b < W.heap.size)) true ts vs ds ps
  | [], [], [], _, _, _, h => h
  | [], _ :: _, _, _, _, _, h => h.elim
  | [], [], _ :: _, _, _, _, h => h.elim
  | _ :: _, [], _, _, _, _, h => h.elim
  | _ :: _, _ :: _, [], _, _, _, h => h.elim
  | t :: ts, v :: vs, d :: ds, ps, hr, hlt, h => by
    obtain ⟨p, q, h1, h2, rfl⟩ := h
    simp only [List.all_cons, Bool.and_eq_true, decide_eq_true_eq] at hr
    exact ⟨p, q, Below.trod hl hr.1.1 hr.1.2 h1 hb (fun x hx => hlt x (List.mem_append_left _ hx)), below_trodAll hl hb ts hr.2 (fun x hx => hlt x (List.mem_append_right _ hx)) h2, rfl⟩

/-- The row's end: the value true; the arguments as they were. -/
theorem post_of_law {H : Type} {enc : TypeId × Value → H} {P : Program} (hl : laidOutB P = true) {t : TypeId} (ht : P.underlying t = some .bool) {f : Func} {s : ChangeSpec} {W W' : World} {args : Array Value} {ds : List (DataW H)} {ps : List MemPlace}
    (hv : s.vars = []) (hf : f.resultTypes = #[t]) (hr : f.params.toList.all (fun t => P.readableRec t && decide (t < P.types.size)) = true)
    (hW : DataW.Whole enc P f.params.toList s.vars false W args.toList ds [] ps) (hA : DataW.TrodAll enc P W 0 (fun _ => true) true f.params.toList args.toList ds ps)
    (hs : s.fn H (ds ++ []) = { results := [.lit (.bool true)], args := ds }) (hb : Below W.heap.size W W') : s.post enc P f false true false false W args (.bool true) W' := by
  refine ⟨ds, [], ps, [], ps, [], hW, ?_, ?_, ?_, hb.frame _, fun h => by cases h⟩
  · rw [hs, hf]
    exact trodAll_mk1 (shut_bool ht _)
  · rw [hs]
    exact below_trodAll hl hb _ hr hW.lt hA
  · rw [hs, hv]
    rfl

end Go.Proofs.Ytpjiakgfegnmcaa
namespace Go.Proofs.Ytpjiakgfegnmcaa
open Go.ChangeShapes Go.WideShapes Go.ChangeAt Go.RowKit

theorem i64_of_wf {x : Int} (h : (Lit.int .i64 x).wf = true) : I64 x := by
  simp [Lit.wf, IntKind.min, IntKind.max, IntKind.signed, IntKind.bits] at h
  unfold I64
  omega
theorem Try.cells3 : Try.prog.cellsOf 3 = 1 := by kernel_rfl
theorem Try.cells33 : Try.prog.cellsOf 33 = 1 := by kernel_rfl
theorem Try.cells39 : Try.prog.cellsOf 39 = 2 := by kernel_rfl
theorem Try.cells41 : Try.prog.cellsOf 41 = 2 := by kernel_rfl
theorem Try.cells43 : Try.prog.cellsOf 43 = 19 := by kernel_rfl

section
variable {H : Type} {enc : TypeId × Value → H} {W : World} {fuel : Nat}

/-- One slice of ints, as a reading finds it. -/
theorem open_ri1 {cs : List Value} {y : DataW H × List MemPlace} (h : DataW.trod enc Try.prog W 0 (fun _ => true) true fuel 33 cs = some y) : ∃ a c l, cs = [.slice a l.length c] ∧ RdI W a l.length c l ∧ ∀ z ∈ l, I64 z := by
  rcases open_ints Try.underlying33 Try.underlying3 Try.cells3 h with ⟨hcs, hx⟩ | ⟨a, n, c, zs, hcs, _, hl, hm, hz, hx, hcell, hwz⟩
  · exact ⟨none, 0, [], hcs, RdA.nil _ _, fun z hz => by cases hz⟩
  · simp only [if_true] at hz
    have hlen : (zs.take n).length = n := by rw [List.length_take]; omega
    refine ⟨some a, c, zs.take n, by rw [hlen]; exact hcs, ⟨by simp, by omega, hm, ?_⟩, fun z hz => i64_of_wf (hwz z (List.mem_of_mem_take hz))⟩
    by_cases hc0 : c = 0
    · exact .inl hc0
    · obtain ⟨ab, ao, spot⟩ := a
      have hspot : spot = none := by simpa [Addr.add] using World.cell?_spot (hcell 0 (by omega))
      subst hspot
      refine .inr ⟨ab, ao, rfl, fun i x hx => ?_⟩
      rw [List.getElem?_map, List.getElem?_take] at hx
      split at hx
      · rename_i hi
        have hiz : i < zs.length := by omega
        rw [List.getElem?_eq_getElem hiz, Option.map_some] at hx
        simp only [Option.some.injEq] at hx
        subst hx
        have hc := hcell i hiz
        rw [Addr.add_lit] at hc
        rw [hc, List.getD_eq_getElem?_getD, List.getElem?_eq_getElem hiz]
        rfl
      · cases hx
theorem get_some {α : Type} {xs : List α} {n i : Nat} (h : xs.length = n) (hi : i < n) : ∃ y, xs[i]? = some y := ⟨xs[i]'(by omega), List.getElem?_eq_getElem (by omega)⟩
set_option maxRecDepth 100000 in
/-- Two ints. -/
theorem open_two {t : TypeId} {cs : List Value} {y : DataW H × List MemPlace} {f0 f1 : Field} (ht : Try.prog.underlying t = some (.struct #[f0, f1])) (h0 : f0.type = 3) (h1 : f1.type = 3) (o0 : f0.offset = 0) (o1 : f1.offset = 1) (hc : Try.prog.cellsOf t = 2)
    (h : DataW.trod enc Try.prog W 0 (fun _ => true) true fuel t cs = some y) : ∃ x z, cs = [.int .i64 x, .int .i64 z] ∧ I64 x ∧ I64 z := by
  obtain ⟨y0, y1, n, _, hl, g0, g1⟩ := trod_struct2 ht h
  rw [hc] at hl
  match cs, hl with
  | [c0, c1], _ =>
    rw [h0, o0, Try.cells3] at g0
    rw [h1, o1, Try.cells3] at g1
    obtain ⟨x, a0, _, b0⟩ := DataW.trod_int Try.underlying3 g0
    obtain ⟨z, a1, _, b1⟩ := DataW.trod_int Try.underlying3 g1
    simp at a0 a1
    exact ⟨x, z, by rw [a0, a1], i64_of_wf b0, i64_of_wf b1⟩

set_option maxHeartbeats 1000000 in
set_option maxRecDepth 100000 in
theorem open_note1 {cs : List Value} {y : DataW H × List MemPlace} (h : DataW.trod enc Try.prog W 0 (fun _ => true) true fuel 43 cs = some y) : ∃ n : NoteV, RdNote W cs n := by
  obtain ⟨xs, m, _, _, hl, hlen, hf⟩ := DataW.trod_struct Try.underlying43 h
  rw [Try.cells43] at hl
  match cs, hl with
  | [c0, c1, c2, c3, c4, c5, c6, c7, c8, c9, c10, c11, c12, c13, c14, c15, c16, c17, c18], _ =>
    obtain ⟨y0, e0⟩ := get_some hlen (i := 0) (by decide)
    have g0 : DataW.trod enc Try.prog W 0 (fun _ => true) true m 3 (([c0, c1, c2, c3, c4, c5, c6, c7, c8, c9, c10, c11, c12, c13, c14, c15, c16, c17, c18].drop 0).take (Try.prog.cellsOf 3)) = some y0 := (hf 0 _ rfl).trans e0
    rw [Try.cells3] at g0
    obtain ⟨x0, a0, _, b0⟩ := DataW.trod_int Try.underlying3 g0
    simp at a0
    clear e0 g0
    obtain ⟨y1, e1⟩ := get_some hlen (i := 1) (by decide)
    have g1 : DataW.trod enc Try.prog W 0 (fun _ => true) true m 3 (([c0, c1, c2, c3, c4, c5, c6, c7, c8, c9, c10, c11, c12, c13, c14, c15, c16, c17, c18].drop 1).take (Try.prog.cellsOf 3)) = some y1 := (hf 1 _ rfl).trans e1
    rw [Try.cells3] at g1
    obtain ⟨x1, a1, _, b1⟩ := DataW.trod_int Try.underlying3 g1
    simp at a1
    clear e1 g1
    obtain ⟨y2, e2⟩ := get_some hlen (i := 2) (by decide)
    have g2 : DataW.trod enc Try.prog W 0 (fun _ => true) true m 3 (([c0, c1, c2, c3, c4, c5, c6, c7, c8, c9, c10, c11, c12, c13, c14, c15, c16, c17, c18].drop 2).take (Try.prog.cellsOf 3)) = some y2 := (hf 2 _ rfl).trans e2
    rw [Try.cells3] at g2
    obtain ⟨x2, a2, _, b2⟩ := DataW.trod_int Try.underlying3 g2
    simp at a2
    clear e2 g2
    obtain ⟨y3, e3⟩ := get_some hlen (i := 3) (by decide)
    have g3 : DataW.trod enc Try.prog W 0 (fun _ => true) true m 3 (([c0, c1, c2, c3, c4, c5, c6, c7, c8, c9, c10, c11, c12, c13, c14, c15, c16, c17, c18].drop 3).take (Try.prog.cellsOf 3)) = some y3 := (hf 3 _ rfl).trans e3
    rw [Try.cells3] at g3
    obtain ⟨x3, a3, _, b3⟩ := DataW.trod_int Try.underlying3 g3
    simp at a3
    clear e3 g3
    obtain ⟨y4, e4⟩ := get_some hlen (i := 4) (by decide)
    have g4 : DataW.trod enc Try.prog W 0 (fun _ => true) true m 3 (([c0, c1, c2, c3, c4, c5, c6, c7, c8, c9, c10, c11, c12, c13, c14, c15, c16, c17, c18].drop 4).take (Try.prog.cellsOf 3)) = some y4 := (hf 4 _ rfl).trans e4
    rw [Try.cells3] at g4
    obtain ⟨x4, a4, _, b4⟩ := DataW.trod_int Try.underlying3 g4
    simp at a4
    clear e4 g4
    obtain ⟨y5, e5⟩ := get_some hlen (i := 5) (by decide)
    have g5 : DataW.trod enc Try.prog W 0 (fun _ => true) true m 3 (([c0, c1, c2, c3, c4, c5, c6, c7, c8, c9, c10, c11, c12, c13, c14, c15, c16, c17, c18].drop 5).take (Try.prog.cellsOf 3)) = some y5 := (hf 5 _ rfl).trans e5
    rw [Try.cells3] at g5
    obtain ⟨x5, a5, _, b5⟩ := DataW.trod_int Try.underlying3 g5
    simp at a5
    clear e5 g5
    obtain ⟨y6, e6⟩ := get_some hlen (i := 6) (by decide)
    have g6 : DataW.trod enc Try.prog W 0 (fun _ => true) true m 3 (([c0, c1, c2, c3, c4, c5, c6, c7, c8, c9, c10, c11, c12, c13, c14, c15, c16, c17, c18].drop 6).take (Try.prog.cellsOf 3)) = some y6 := (hf 6 _ rfl).trans e6
    rw [Try.cells3] at g6
    obtain ⟨x6, a6, _, b6⟩ := DataW.trod_int Try.underlying3 g6
    simp at a6
    clear e6 g6
    obtain ⟨y7, e7⟩ := get_some hlen (i := 7) (by decide)
    have g7 : DataW.trod enc Try.prog W 0 (fun _ => true) true m 3 (([c0, c1, c2, c3, c4, c5, c6, c7, c8, c9, c10, c11, c12, c13, c14, c15, c16, c17, c18].drop 7).take (Try.prog.cellsOf 3)) = some y7 := (hf 7 _ rfl).trans e7
    rw [Try.cells3] at g7
    obtain ⟨x7, a7, _, b7⟩ := DataW.trod_int Try.underlying3 g7
    simp at a7
    clear e7 g7
    obtain ⟨y8, e8⟩ := get_some hlen (i := 8) (by decide)
    have g8 : DataW.trod enc Try.prog W 0 (fun _ => true) true m 39 (([c0, c1, c2, c3, c4, c5, c6, c7, c8, c9, c10, c11, c12, c13, c14, c15, c16, c17, c18].drop 8).take (Try.prog.cellsOf 39)) = some y8 := (hf 8 _ rfl).trans e8
    rw [Try.cells39] at g8
    obtain ⟨x8, z8, a8, b8, d8⟩ := open_two Try.underlying39 rfl rfl rfl rfl Try.cells39 g8
    simp at a8
    clear e8 g8
    obtain ⟨y9, e9⟩ := get_some hlen (i := 9) (by decide)
    have g9 : DataW.trod enc Try.prog W 0 (fun _ => true) true m 39 (([c0, c1, c2, c3, c4, c5, c6, c7, c8, c9, c10, c11, c12, c13, c14, c15, c16, c17, c18].drop 10).take (Try.prog.cellsOf 39)) = some y9 := (hf 9 _ rfl).trans e9
    rw [Try.cells39] at g9
    obtain ⟨x9, z9, a9, b9, d9⟩ := open_two Try.underlying39 rfl rfl rfl rfl Try.cells39 g9
    simp at a9
    clear e9 g9
    obtain ⟨y10, e10⟩ := get_some hlen (i := 10) (by decide)
    have g10 : DataW.trod enc Try.prog W 0 (fun _ => true) true m 3 (([c0, c1, c2, c3, c4, c5, c6, c7, c8, c9, c10, c11, c12, c13, c14, c15, c16, c17, c18].drop 12).take (Try.prog.cellsOf 3)) = some y10 := (hf 10 _ rfl).trans e10
    rw [Try.cells3] at g10
    obtain ⟨x10, a10, _, b10⟩ := DataW.trod_int Try.underlying3 g10
    simp at a10
    clear e10 g10
    obtain ⟨y11, e11⟩ := get_some hlen (i := 11) (by decide)
    have g11 : DataW.trod enc Try.prog W 0 (fun _ => true) true m 3 (([c0, c1, c2, c3, c4, c5, c6, c7, c8, c9, c10, c11, c12, c13, c14, c15, c16, c17, c18].drop 13).take (Try.prog.cellsOf 3)) = some y11 := (hf 11 _ rfl).trans e11
    rw [Try.cells3] at g11
    obtain ⟨x11, a11, _, b11⟩ := DataW.trod_int Try.underlying3 g11
    simp at a11
    clear e11 g11
    obtain ⟨y12, e12⟩ := get_some hlen (i := 12) (by decide)
    have g12 : DataW.trod enc Try.prog W 0 (fun _ => true) true m 3 (([c0, c1, c2, c3, c4, c5, c6, c7, c8, c9, c10, c11, c12, c13, c14, c15, c16, c17, c18].drop 14).take (Try.prog.cellsOf 3)) = some y12 := (hf 12 _ rfl).trans e12
    rw [Try.cells3] at g12
    obtain ⟨x12, a12, _, b12⟩ := DataW.trod_int Try.underlying3 g12
    simp at a12
    clear e12 g12
    obtain ⟨y13, e13⟩ := get_some hlen (i := 13) (by decide)
    have g13 : DataW.trod enc Try.prog W 0 (fun _ => true) true m 33 (([c0, c1, c2, c3, c4, c5, c6, c7, c8, c9, c10, c11, c12, c13, c14, c15, c16, c17, c18].drop 15).take (Try.prog.cellsOf 33)) = some y13 := (hf 13 _ rfl).trans e13
    rw [Try.cells33] at g13
    obtain ⟨sa, sc, l, a13, r13, b13⟩ := open_ri1 g13
    simp at a13
    clear e13 g13
    obtain ⟨y14, e14⟩ := get_some hlen (i := 14) (by decide)
    have g14 : DataW.trod enc Try.prog W 0 (fun _ => true) true m 41 (([c0, c1, c2, c3, c4, c5, c6, c7, c8, c9, c10, c11, c12, c13, c14, c15, c16, c17, c18].drop 16).take (Try.prog.cellsOf 41)) = some y14 := (hf 14 _ rfl).trans e14
    rw [Try.cells41] at g14
    obtain ⟨x14, z14, a14, b14, d14⟩ := open_two Try.underlying41 rfl rfl rfl rfl Try.cells41 g14
    simp at a14
    clear e14 g14
    obtain ⟨y15, e15⟩ := get_some hlen (i := 15) (by decide)
    have g15 : DataW.trod enc Try.prog W 0 (fun _ => true) true m 3 (([c0, c1, c2, c3, c4, c5, c6, c7, c8, c9, c10, c11, c12, c13, c14, c15, c16, c17, c18].drop 18).take (Try.prog.cellsOf 3)) = some y15 := (hf 15 _ rfl).trans e15
    rw [Try.cells3] at g15
    obtain ⟨x15, a15, _, b15⟩ := DataW.trod_int Try.underlying3 g15
    simp at a15
    clear e15 g15
    exact ⟨{ house := x0, num := x1, clock := x2, day := x3, kind := x4, stone := x5, heap := x6, turns := x7, hardLo := x8, hardHi := z8, diffLo := x9, diffHi := z9, a := x10, b := x11, ring := x12, strokes := l, refH := x14, refN := z14, fix := x15 }, sa, sc, by simp only [NoteV.cells]; rw [a0, a1, a2, a3, a4, a5, a6, a7, a8.1, a8.2, a9.1, a9.2, a10, a11, a12, a13, a14.1, a14.2, a15], r13, { house := i64_of_wf b0, num := i64_of_wf b1, clock := i64_of_wf b2, day := i64_of_wf b3, kind := i64_of_wf b4, stone := i64_of_wf b5, heap := i64_of_wf b6, turns := i64_of_wf b7, hardLo := b8, hardHi := d8, diffLo := b9, diffHi := d9, a := i64_of_wf b10, b := i64_of_wf b11, ring := i64_of_wf b12, strokes := b13, refH := b14, refN := d14, fix := i64_of_wf b15 }⟩
end
end Go.Proofs.Ytpjiakgfegnmcaa
namespace Go.Proofs.Ytpjiakgfegnmcaa
open Go.ChangeShapes Go.WideShapes Go.ChangeAt Go.RowKit

theorem Try.cells61 : Try.prog.cellsOf 61 = 3 := by kernel_rfl
section
variable {H : Type} {enc : TypeId × Value → H} {W : World}
set_option maxRecDepth 100000 in
theorem hopen_frame {base : Nat} {v : Value} {d : DataW H} {p : List MemPlace} (hval : Value.okWide Try.prog W .any base 61 v)
    (h : DataW.Trod enc Try.prog W 0 (fun _ => true) true 61 v d p) : ∃ f : FrV, v = f.val := by
  obtain ⟨cs, rfl, hsz⟩ := okWide_struct Try.underlying61 hval
  obtain ⟨fuel, hf⟩ := h
  obtain ⟨y0, y1, y2, n, _, hl, g0, g1, g2⟩ := Go.Deep.trod_struct3 Try.underlying61 hf
  rw [Try.cells61] at hsz
  obtain ⟨l⟩ := cs
  match l, hsz with
  | [c0, c1, c2], _ =>
    have g0' : DataW.trod enc Try.prog W 0 (fun _ => true) true n 3 (([c0, c1, c2].drop 0).take (Try.prog.cellsOf 3)) = some y0 := g0
    have g1' : DataW.trod enc Try.prog W 0 (fun _ => true) true n 3 (([c0, c1, c2].drop 1).take (Try.prog.cellsOf 3)) = some y1 := g1
    have g2' : DataW.trod enc Try.prog W 0 (fun _ => true) true n 3 (([c0, c1, c2].drop 2).take (Try.prog.cellsOf 3)) = some y2 := g2
    rw [Try.cells3] at g0' g1' g2'
    obtain ⟨x0, a0, _, _⟩ := DataW.trod_int Try.underlying3 g0'
    obtain ⟨x1, a1, _, _⟩ := DataW.trod_int Try.underlying3 g1'
    obtain ⟨x2, a2, _, _⟩ := DataW.trod_int Try.underlying3 g2'
    simp at a0 a1 a2
    exact ⟨⟨x0, x1, x2⟩, by rw [a0, a1, a2]; rfl⟩
theorem cells_spot {a : Addr} {n : Nat} {cs : List Value} (hn : 0 < n) (h : W.cells? 0 a n = some cs) : a.spot = none := by
  have h2 := World.cells?_some h
  have h3 := h2.2.2 0 (by have := h2.1; omega)
  rw [List.getElem?_eq_getElem (by have := h2.1; omega)] at h3
  simpa [Addr.add] using World.cell?_spot h3
/-- A slice as a reading finds it: each element is read. -/
theorem open_rows {fuel : Nat} {cs : List Value} {y : DataW H × List MemPlace} {t e : TypeId} {k : Nat} (ht : Try.prog.underlying t = some (.slice e)) (hc : Try.prog.cellsOf e = k) (hk : 0 < k)
    (h : DataW.trod enc Try.prog W 0 (fun _ => true) true fuel t cs = some y) :
    ∃ a n c, cs = [.slice a n c] ∧ n ≤ c ∧ c ≤ maxLen ∧ (c = 0 ∨ ∃ b off, a = some ⟨b, off, none⟩ ∧ ∀ i, i < n → ∃ es m z, DataW.trod enc Try.prog W 0 (fun _ => true) true m e es = some z ∧ W.rangeAt b (off + i * k) es) := by
  rcases DataW.trod_slice ht h with ⟨hcs, hx⟩ | ⟨a, len', cap', elems, rest, m, _, hcs, hx, hb, hl, hm, hlen, hel, hsp, hns⟩
  · exact ⟨none, 0, 0, hcs, Nat.le_refl _, Nat.zero_le _, .inl rfl⟩
  · rw [hc] at hel hsp
    refine ⟨some a, len', cap', hcs, hl, hm, ?_⟩
    rcases Nat.eq_zero_or_pos cap' with h0 | h0
    · exact .inl h0
    · have hspot : a.spot = none := by
        rcases Nat.eq_zero_or_pos len' with h1 | h1
        · obtain ⟨h2, h3⟩ := hsp rfl
          have h4 := h3 0 (by omega)
          rw [List.getElem?_eq_getElem (by omega)] at h4
          cases hq : W.cells? 0 (a.add ((len' + 0) * k)) k with
          | none => rw [hq] at h4; cases h4
          | some cs => rw [show (len' + 0) * k = 0 by rw [h1]; simp] at hq; have := cells_spot hk hq; simpa [Addr.add] using this
        · have h4 := hel 0 h1
          rw [List.getElem?_eq_getElem (by omega)] at h4
          cases hq : W.cells? 0 (a.add (0 * k)) k with
          | none => rw [hq] at h4; cases h4
          | some cs => rw [Nat.zero_mul] at hq; have := cells_spot hk hq; simpa [Addr.add] using this
      obtain ⟨ab, ao, spot⟩ := a
      simp only at hspot
      subst hspot
      refine .inr ⟨ab, ao, rfl, fun i hi => ?_⟩
      have h1 := hel i hi
      rw [List.getElem?_eq_getElem (by omega)] at h1
      cases hcs : W.cells? 0 ((⟨ab, ao, none⟩ : Addr).add (i * k)) k with
      | none => rw [hcs] at h1; cases h1
      | some es =>
        rw [hcs] at h1
        have h2 := World.cells?_some hcs
        refine ⟨es, m, _, h1, fun j v hv => ?_⟩
        have hj : j < es.length := (List.getElem?_eq_some_iff.1 hv).1
        have h3 := h2.2.2 j (by have := h2.1; omega)
        rw [hv] at h3
        simpa [Addr.add_lit] using h3
theorem choose_list {α : Type} {n : Nat} {P : Nat → α → Prop} (h : ∀ i, i < n → ∃ x, P i x) : ∃ l : List α, l.length = n ∧ ∀ i x, l[i]? = some x → P i x := by
  induction n with
  | zero => exact ⟨[], rfl, by simp⟩
  | succ n ih =>
    obtain ⟨l, h1, h2⟩ := ih (fun i hi => h i (by omega))
    obtain ⟨x, hx⟩ := h n (by omega)
    refine ⟨l ++ [x], by simp [h1], fun i y hy => ?_⟩
    rcases Nat.lt_or_ge i l.length with hi | hi
    · rw [List.getElem?_append_left hi] at hy; exact h2 i y hy
    · rw [List.getElem?_append_right hi] at hy
      have : i - l.length = 0 := by
        rcases Nat.eq_zero_or_pos (i - l.length) with h0 | h0
        · exact h0
        · rw [List.getElem?_eq_none (by simp; omega)] at hy; cases hy
      rw [this] at hy
      simp at hy
      subst hy
      have : i = n := by omega
      rw [this]; exact hx
set_option maxRecDepth 100000 in
theorem open_notes1 {fuel : Nat} {cs : List Value} {y : DataW H × List MemPlace} (h : DataW.trod enc Try.prog W 0 (fun _ => true) true fuel 44 cs = some y) : ∃ a n c l, cs = [.slice a n c] ∧ RdNs W a n c l ∧ ∀ x ∈ l, x.Ok := by
  obtain ⟨a, n, c, rfl, h1, h2, h3⟩ := open_rows Try.underlying44 Try.cells43 (by decide) h
  rcases h3 with h3 | ⟨b, off, rfl, h3⟩
  · exact ⟨a, n, c, [], rfl, ⟨by simp; omega, h1, h2, .inl h3⟩, fun x hx => by cases hx⟩
  · obtain ⟨l, h4, h5⟩ := choose_list (P := fun i (x : NoteV) => ∃ es, W.rangeAt b (off + i * 19) es ∧ RdNote W es x) (fun i hi => by
      obtain ⟨es, m, z, h6, h7⟩ := h3 i hi
      obtain ⟨x, hx⟩ := open_note1 h6
      exact ⟨x, es, h7, hx⟩)
    refine ⟨_, n, c, l, rfl, ⟨h4, h1, h2, .inr ⟨b, off, rfl, fun i x hx => ?_⟩⟩, fun x hx => ?_⟩
    · obtain ⟨es, h6, sa, sc, rfl, h7, _⟩ := h5 i x hx
      exact ⟨sa, sc, h6, h7⟩
    · obtain ⟨i, hi⟩ := List.getElem?_of_mem hx
      obtain ⟨es, h6, sa, sc, rfl, _, h7⟩ := h5 i x hi
      exact h7
set_option maxRecDepth 100000 in
theorem open_notes {base : Nat} {v : Value} {d : DataW H} {p : List MemPlace} (hval : Value.okWide Try.prog W .any base 44 v)
    (h : DataW.Trod enc Try.prog W 0 (fun _ => true) true 44 v d p) : ∃ a n c l, v = .slice a n c ∧ RdNs W a n c l ∧ ∀ x ∈ l, x.Ok := by
  obtain ⟨a1, n1, c1, rfl⟩ := okWide_slice Try.underlying44 hval
  obtain ⟨fuel, hf⟩ := h
  obtain ⟨a, n, c, l, h1, h2⟩ := open_notes1 hf
  simp [Value.cells] at h1
  obtain ⟨rfl, rfl, rfl⟩ := h1
  exact ⟨_, _, _, l, rfl, h2⟩
end
end Go.Proofs.Ytpjiakgfegnmcaa
namespace Go.Proofs.Ytpjiakgfegnmcaa
open Go.ChangeShapes Go.WideShapes Go.ChangeAt Go.RowKit

/-- What is asked. -/
structure AskV where
  day : Int
  clock : Int
  stone : Int
  ring : Int
  heap : Int
  rh : Int
  rn : Int
def AskV.cells (x : AskV) : Array Value := #[.int .i64 x.day, .int .i64 x.clock, .int .i64 x.stone, .int .i64 x.ring, .int .i64 x.heap, .int .i64 x.rh, .int .i64 x.rn]
structure AskV.Ok (x : AskV) : Prop where
  day : I64 x.day
  clock : I64 x.clock
  ref : nmOk (x.rh, x.rn)
theorem Try.cells70 : Try.prog.cellsOf 70 = 7 := by kernel_rfl
section
variable {H : Type} {enc : TypeId × Value → H} {W : World}
set_option maxHeartbeats 1000000 in
set_option maxRecDepth 100000 in
theorem open_ask {base : Nat} {v : Value} {d : DataW H} {p : List MemPlace} (hval : Value.okWide Try.prog W .any base 70 v)
    (h : DataW.Trod enc Try.prog W 0 (fun _ => true) true 70 v d p) : ∃ x : AskV, v = .agg x.cells ∧ x.Ok := by
  obtain ⟨cs, rfl, hsz⟩ := okWide_struct Try.underlying70 hval
  obtain ⟨fuel, hf0⟩ := h
  obtain ⟨xs, m, _, _, hl, hlen, hf⟩ := DataW.trod_struct Try.underlying70 hf0
  rw [Try.cells70] at hsz
  obtain ⟨l⟩ := cs
  match l, hsz with
  | [c0, c1, c2, c3, c4, c5, c6], _ =>
    obtain ⟨y0, e0⟩ := get_some hlen (i := 0) (by decide)
    have g0 : DataW.trod enc Try.prog W 0 (fun _ => true) true m 3 (([c0, c1, c2, c3, c4, c5, c6].drop 0).take (Try.prog.cellsOf 3)) = some y0 := (hf 0 _ rfl).trans e0
    rw [Try.cells3] at g0
    obtain ⟨x0, a0, _, b0⟩ := DataW.trod_int Try.underlying3 g0
    simp at a0
    clear e0 g0
    obtain ⟨y1, e1⟩ := get_some hlen (i := 1) (by decide)
    have g1 : DataW.trod enc Try.prog W 0 (fun _ => true) true m 3 (([c0, c1, c2, c3, c4, c5, c6].drop 1).take (Try.prog.cellsOf 3)) = some y1 := (hf 1 _ rfl).trans e1
    rw [Try.cells3] at g1
    obtain ⟨x1, a1, _, b1⟩ := DataW.trod_int Try.underlying3 g1
    simp at a1
    clear e1 g1
    obtain ⟨y2, e2⟩ := get_some hlen (i := 2) (by decide)
    have g2 : DataW.trod enc Try.prog W 0 (fun _ => true) true m 3 (([c0, c1, c2, c3, c4, c5, c6].drop 2).take (Try.prog.cellsOf 3)) = some y2 := (hf 2 _ rfl).trans e2
    rw [Try.cells3] at g2
    obtain ⟨x2, a2, _, b2⟩ := DataW.trod_int Try.underlying3 g2
    simp at a2
    clear e2 g2
    obtain ⟨y3, e3⟩ := get_some hlen (i := 3) (by decide)
    have g3 : DataW.trod enc Try.prog W 0 (fun _ => true) true m 3 (([c0, c1, c2, c3, c4, c5, c6].drop 3).take (Try.prog.cellsOf 3)) = some y3 := (hf 3 _ rfl).trans e3
    rw [Try.cells3] at g3
    obtain ⟨x3, a3, _, b3⟩ := DataW.trod_int Try.underlying3 g3
    simp at a3
    clear e3 g3
    obtain ⟨y4, e4⟩ := get_some hlen (i := 4) (by decide)
    have g4 : DataW.trod enc Try.prog W 0 (fun _ => true) true m 3 (([c0, c1, c2, c3, c4, c5, c6].drop 4).take (Try.prog.cellsOf 3)) = some y4 := (hf 4 _ rfl).trans e4
    rw [Try.cells3] at g4
    obtain ⟨x4, a4, _, b4⟩ := DataW.trod_int Try.underlying3 g4
    simp at a4
    clear e4 g4
    obtain ⟨y5, e5⟩ := get_some hlen (i := 5) (by decide)
    have g5 : DataW.trod enc Try.prog W 0 (fun _ => true) true m 41 (([c0, c1, c2, c3, c4, c5, c6].drop 5).take (Try.prog.cellsOf 41)) = some y5 := (hf 5 _ rfl).trans e5
    rw [Try.cells41] at g5
    obtain ⟨x5, z5, a5, b5, d5⟩ := open_two Try.underlying41 rfl rfl rfl rfl Try.cells41 g5
    simp at a5
    exact ⟨⟨x0, x1, x2, x3, x4, x5, z5⟩, by rw [a0, a1, a2, a3, a4, a5.1, a5.2]; rfl, ⟨i64_of_wf b0, i64_of_wf b1, ⟨b5, d5⟩⟩⟩
end
end Go.Proofs.Ytpjiakgfegnmcaa
namespace Go.Proofs.Ytpjiakgfegnmcaa
set_option linter.unusedSimpArgs false
open Go.RowKit

theorem RegOut.shape {W : World} {v : Value} {T : RegT} (h : RegOut W v T) : ∃ (ha : Option Addr) (hn hc : Nat) (ea : Option Addr) (en ec : Nat) (ca : Option Addr) (cn cc : Nat), v = .agg #[.slice ha hn hc, .slice ea en ec, .slice ca cn cc] := by
  obtain ⟨ha, hn, hc, ea, en, ec, ca, cn, cc, hs, es, rfl, _⟩ := h
  exact ⟨ha, hn, hc, ea, en, ec, ca, cn, cc, rfl⟩
theorem few_len {l : List NoteV} (h : fewB l = true) : l.length ≤ 800 := by
  unfold fewB fewN at h
  simp at h
  omega
/-- What stands through HistoryKnown. -/
structure HkAt (w W : World) (pF pA : Nat) (f : FrV) (x : AskV) : Prop where
  bel : Below w.heap.size w W
  fr : W.heap[pF]? = some (.cells #[.int .i64 f.rings, .int .i64 f.sectors, .int .i64 f.wide] 61 (0, 0))
  ak : W.heap[pA]? = some (.cells #[.int .i64 x.day, .int .i64 x.clock, .int .i64 x.stone, .int .i64 x.ring, .int .i64 x.heap, .int .i64 x.rh, .int .i64 x.rn] 70 (0, 0))
theorem HkAt.below {w W W' : World} {pF pA : Nat} {f : FrV} {x : AskV} (h : HkAt w W pF pA f x) (hb : Below W.heap.size W W') : HkAt w W' pF pA f x :=
  ⟨h.bel.trans (hb.mono h.bel.size), below_blk hb h.fr, below_blk hb h.ak⟩

set_option maxHeartbeats 16000000 in
set_option maxRecDepth 100000 in
theorem hknown_any (f : FrV) (a : Option Addr) (nn nc : Nat) (l : List NoteV) (x : AskV) (w : World) (hr : RdNs w a nn nc l) (hok : ∀ y ∈ l, y.Ok) :
    Calls Try.prog 7 #[f.val, .slice a nn nc, .agg x.cells] w fun e w' => e = .returned (.bool true) ∧ Below w.heap.size w w' := by
  have hvl : f.val = .agg #[.int .i64 f.rings, .int .i64 f.sectors, .int .i64 f.wide] := rfl
  have hxl : x.cells = #[.int .i64 x.day, .int .i64 x.clock, .int .i64 x.stone, .int .i64 x.ring, .int .i64 x.heap, .int .i64 x.rh, .int .i64 x.rn] := rfl
  have AO := Lib.hid (fun (W : World) (a : Option Addr) (nn nc : Nat) (l : List NoteV) (day clock : Int) (hr : RdNs W a nn nc l) (hok : ∀ y ∈ l, y.Ok) => asOf_out f a nn nc l day clock W hr hok)
  have FO := Lib.hid (fun (W : World) (a : Option Addr) (nn nc : Nat) (l : List NoteV) (hr : RdNs W a nn nc l) (hok : ∀ y ∈ l, y.Ok) => fold_out f a nn nc l W hr hok)
  rw [hvl] at AO FO ⊢; rw [hxl]; clear hvl hxl
  have J19 : (Try.prog.info? 43).map (·.size) = some 19 := by kernel_rfl
  have HOK := Lib.hid hok
  have R := Lib.hid hr
  have hn63 : nn ≤ 9223372036854775807 := by have h1 := hr.2.1; have h2 := hr.2.2.1; unfold maxLen at h2; omega
  obtain ⟨xs, hxs, hrl⟩ := hr.choose
  have RL := Lib.hid hrl
  have HXS := Lib.hid hxs
  have LNX := Lib.hid hrl.1
  have LOK := Lib.hid (show ∀ W, Below w.heap.size w W → ∀ x ∈ xs, x.ok W from fun W hb x hx => (ls_ok hrl hx).below hb)
  clear hr hok hxs hrl
  have B0 := Lib.hid (((Below.refl w.heap.size w).alloc (Nat.le_refl _) (.cells #[.int .i64 f.rings, .int .i64 f.sectors, .int .i64 f.wide] 61)).alloc (by simp) (.cells #[.int .i64 x.day, .int .i64 x.clock, .int .i64 x.stone, .int .i64 x.ring, .int .i64 x.heap, .int .i64 x.rh, .int .i64 x.rn] 70))
  have F0 := Lib.hid (heap_before _ (.cells #[.int .i64 x.day, .int .i64 x.clock, .int .i64 x.stone, .int .i64 x.ring, .int .i64 x.heap, .int .i64 x.rh, .int .i64 x.rn] 70) _ _ (heap_last w (.cells #[.int .i64 f.rings, .int .i64 f.sectors, .int .i64 f.wide] 61)))
  have A0 := Lib.hid (heap_at (w.alloc (.cells #[.int .i64 f.rings, .int .i64 f.sectors, .int .i64 f.wide] 61)) (.cells #[.int .i64 x.day, .int .i64 x.clock, .int .i64 x.stone, .int .i64 x.ring, .int .i64 x.heap, .int .i64 x.rh, .int .i64 x.rn] 70) (w.heap.size + 1) (by simp))
  go_enter Try.func7, Try.ntmps7
  go_upto_region 1 with fail
  obtain ⟨pF, hpF⟩ : ∃ p, Hid (w.heap.size = p) := ⟨_, Lib.hid rfl⟩
  obtain ⟨pA, hpA⟩ : ∃ p, Hid (w.heap.size + 1 = p) := ⟨_, Lib.hid rfl⟩
  rw [hpF.out] at F0
  rw [hpA.out] at A0
  rw [hpA.out, hpF.out]
  generalize (w.alloc (.cells #[.int .i64 f.rings, .int .i64 f.sectors, .int .i64 f.wide] 61)).alloc (.cells #[.int .i64 x.day, .int .i64 x.clock, .int .i64 x.stone, .int .i64 x.ring, .int .i64 x.heap, .int .i64 x.rh, .int .i64 x.rn] 70) = W0 at *
  have ST : Hid (HkAt w W0 pF pA f x) := Lib.hid ⟨B0.out, F0.out, A0.out⟩
  clear B0 F0 A0
  go_wp2_with fail
  refine (hawake_any _).mono ?_
  rintro e W1 ⟨rfl, b1⟩
  replace ST := Lib.hid (ST.out.below b1)
  clear b1
  go_wp2_with fail
  refine (few_any a nn nc l _ (R.out.below ST.out.bel)).mono ?_
  rintro e W2 ⟨rfl, rfl⟩
  cases hq : fewB l
  · clear hq
    go_wp2_with fail
    go_ret
    exact ⟨rfl, ST.out.bel⟩
  have HFL := Lib.hid (show nn ≤ 800 by have := few_len hq; rw [R.out.1] at this; exact this)
  clear hq
  have hn8 := HFL.out
  have c0 := cell_of ST.out.fr 0 (.int .i64 f.rings) rfl
  have c1 := cell_of ST.out.fr 1 (.int .i64 f.sectors) rfl
  have c2 := cell_of ST.out.fr 2 (.int .i64 f.wide) rfl
  go_wp2_with fail
  refine (FO.out W1 a nn nc l (R.out.below ST.out.bel) HOK.out).mono ?_
  rintro e W2 ⟨v, rfl, ro, bb⟩
  obtain ⟨ha1, hn1, hc1, ea1, en1, ec1, ca1, cn1, cc1, rfl⟩ := ro.shape
  have Q1 := Lib.hid ro
  replace ST := Lib.hid (ST.out.below bb)
  clear ro bb c0 c1 c2
  go_upto_region 5 with fail
  have bb : Below W2.heap.size W2 (W2.alloc (.cells #[.slice ha1 hn1 hc1, .slice ea1 en1 ec1, .slice ca1 cn1 cc1] 75)) := (Below.refl _ _).alloc (Nat.le_refl _) _
  replace ST := Lib.hid (ST.out.below bb)
  replace Q1 := Lib.hid (Q1.out.below bb)
  have P1 := Lib.hid (heap_last W2 (.cells #[.slice ha1 hn1 hc1, .slice ea1 en1 ec1, .slice ca1 cn1 cc1] 75))
  clear bb
  obtain ⟨p1, hp1⟩ : ∃ p, Hid (W2.heap.size = p) := ⟨_, Lib.hid rfl⟩
  rw [hp1.out] at P1 ⊢
  generalize W2.alloc (.cells #[.slice ha1 hn1 hc1, .slice ea1 en1 ec1, .slice ca1 cn1 cc1] 75) = W3 at *
  have c0 := cell_of ST.out.fr 0 (.int .i64 f.rings) rfl
  have c1 := cell_of ST.out.fr 1 (.int .i64 f.sectors) rfl
  have c2 := cell_of ST.out.fr 2 (.int .i64 f.wide) rfl
  go_wp2_with fail
  refine (AO.out W3 a nn nc l 99999 1099511627776 (R.out.below ST.out.bel) HOK.out).mono ?_
  rintro e W4 ⟨v, rfl, ro, bb⟩
  obtain ⟨ha2, hn2, hc2, ea2, en2, ec2, ca2, cn2, cc2, rfl⟩ := ro.shape
  have Q2 := Lib.hid ro
  replace ST := Lib.hid (ST.out.below bb)
  replace Q1 := Lib.hid (Q1.out.below bb)
  replace P1 := Lib.hid (below_blk bb P1.out)
  clear ro bb c0 c1 c2
  go_upto_region 6 with fail
  have bb : Below W4.heap.size W4 (W4.alloc (.cells #[.slice ha2 hn2 hc2, .slice ea2 en2 ec2, .slice ca2 cn2 cc2] 75)) := (Below.refl _ _).alloc (Nat.le_refl _) _
  replace ST := Lib.hid (ST.out.below bb)
  replace Q2 := Lib.hid (Q2.out.below bb)
  have P2 := Lib.hid (heap_last W4 (.cells #[.slice ha2 hn2 hc2, .slice ea2 en2 ec2, .slice ca2 cn2 cc2] 75))
  replace Q1 := Lib.hid (Q1.out.below bb)
  replace P1 := Lib.hid (below_blk bb P1.out)
  clear bb
  obtain ⟨p2, hp2⟩ : ∃ p, Hid (W4.heap.size = p) := ⟨_, Lib.hid rfl⟩
  rw [hp2.out] at P2 ⊢
  generalize W4.alloc (.cells #[.slice ha2 hn2 hc2, .slice ea2 en2 ec2, .slice ca2 cn2 cc2] 75) = W5 at *
  rw [regV_all] at Q2
  have gg : (errV f l != errV f l) = false := by simp
  have u1 := cell_of P1.out 0 (.slice ha1 hn1 hc1) rfl
  have v1 := cell_of P1.out 1 (.slice ea1 en1 ec1) rfl
  have t1 := cell_of P1.out 2 (.slice ca1 cn1 cc1) rfl
  have u2 := cell_of P2.out 0 (.slice ha2 hn2 hc2) rfl
  have v2 := cell_of P2.out 1 (.slice ea2 en2 ec2) rfl
  have t2 := cell_of P2.out 2 (.slice ca2 cn2 cc2) rfl
  go_wp2_with fail
  refine (sameReg_out Q1.out Q2.out).mono ?_
  rintro e W6 ⟨rfl, bb⟩
  replace ST := Lib.hid (ST.out.below bb)
  clear bb Q1 Q2 P1 P2 u1 v1 t1 u2 v2 t2 gg
  go_wp2_with fail
  go_loopw [12, 13] (fun yv i wr => ∃ (k : Nat) (xa : Option Addr) (xn xc : Nat), yv = .slice xa xn xc ∧ i = .int .i64 (k : Int) ∧ k ≤ nn ∧ xn ≤ k ∧ Hid (NlAt W6 wr xa xc xn ((xs.take k).filter (fun y => !decide (x.clock < y.n.clock))))) (fun _ i _ => nn - (intOf i).toNat)
  case atStart => exact ⟨0, none, 0, 0, rfl, rfl, Nat.zero_le _, Nat.le_refl _, Lib.hid (NlAt.start W6)⟩
  case round =>
    obtain ⟨k, xa, xn, xc, rfl, rfl, hk, hxn, SL⟩ := hrel
    by_cases hlt : k < nn
    · have t0 : decide ((k : Int) < (nn : Int)) = true := by simp; omega
      obtain ⟨y, Hy⟩ : ∃ y, xs[k]? = some y := ⟨_, List.getElem?_eq_getElem (by rw [LNX.out]; exact hlt)⟩
      have NXT := Lib.hid (filt_nx (fun y => !decide (x.clock < y.n.clock)) Hy)
      have BW := Lib.hid (ST.out.bel.trans (SL.out.bel.mono ST.out.bel.size))
      obtain ⟨b, off, rfl, hat⟩ := (RL.out.below BW.out).at (by omega)
      obtain ⟨o, ho⟩ : ∃ o, Hid (off + k * 19 = o) := ⟨_, Lib.hid rfl⟩
      have HY := Lib.hid (hat k y Hy).1
      rw [ho.out] at HY
      have HIX := Lib.hid (fun W => idx_off (W := W) (c := nc) (b := b) Try.underlying44 J19 hlt ho.out)
      have hk64 : (k : Int) + 1 ≤ 9223372036854775807 := by omega
      have AR := Lib.hid (below_blk SL.out.bel ST.out.ak)
      clear hat Hy
      go_upto_region 12 with fail
      clear t0
      try simp only [Act.put, List.setIfInBounds_toArray, List.set_cons_zero, List.set_cons_succ]
      have hC0 : Below wr.heap.size wr wr.drew := (Below.refl _ _).drew
      have LY := Lib.hid (show ∀ w0, Below wr.heap.size wr w0 → w0.rangeAt b o (y.n.cells y.sa y.sc) from fun w0 h => rangeAt_below HY.out h)
      have LA := Lib.hid (show ∀ w0, Below wr.heap.size wr w0 → w0.heap[pA]? = some (.cells #[.int .i64 x.day, .int .i64 x.clock, .int .i64 x.stone, .int .i64 x.ring, .int .i64 x.heap, .int .i64 x.rh, .int .i64 x.rn] 70 (0, 0)) from fun w0 h => below_blk h AR.out)
      have HLE := Lib.hid (show decide (y.n.clock ≤ x.clock) = !decide (x.clock < y.n.clock) by rw [Bool.eq_iff_iff]; simp)
      refine wp_region_quiet (C := fun w' : World => Below wr.heap.size wr w') (by kernel_rfl) (by kernel_rfl) hC0 ?_
      show wpQuiet _ _ _ _ (_ :: _) _
      go_big_quiet_want
      go_big_quiet_op
      go_big_quiet_on
      go_big_quiet_want
      go_big_quiet_op
      go_big_quiet_on
      go_big_quiet_want
      refine ⟨.pointer (some ⟨b, o, none⟩), fun w0 hC => ?_, ?_⟩
      · have hix := HIX.out w0
        clear hC
        go_simp
      simp only [Act.put, List.setIfInBounds_toArray, List.set_cons_zero, List.set_cons_succ]
      go_big_quiet_on
      go_big_quiet_want
      refine ⟨.pointer (some ⟨b, o + 2, none⟩), fun w0 hC => ?_, ?_⟩
      · clear hC
        go_simp
      simp only [Act.put, List.setIfInBounds_toArray, List.set_cons_zero, List.set_cons_succ]
      go_big_quiet_on
      go_big_quiet_want
      refine ⟨.int .i64 y.n.clock, fun w0 hC => ?_, ?_⟩
      · have c0 := LY.out w0 hC 2 (.int .i64 y.n.clock) rfl
        clear hC
        go_simp
      simp only [Act.put, List.setIfInBounds_toArray, List.set_cons_zero, List.set_cons_succ]
      go_big_quiet_on
      go_big_quiet_want
      refine ⟨.pointer (some ⟨pA, 1, none⟩), fun w0 hC => ?_, ?_⟩
      · clear hC
        go_simp
      simp only [Act.put, List.setIfInBounds_toArray, List.set_cons_zero, List.set_cons_succ]
      go_big_quiet_on
      go_big_quiet_want
      refine ⟨.int .i64 x.clock, fun w0 hC => ?_, ?_⟩
      · have c1 := cell_of (LA.out w0 hC) 1 (.int .i64 x.clock) rfl
        clear hC
        go_simp
      simp only [Act.put, List.setIfInBounds_toArray, List.set_cons_zero, List.set_cons_succ]
      go_big_quiet_on
      go_big_quiet_want
      refine ⟨.bool (!decide (x.clock < y.n.clock)), fun w0 hC => ?_, ?_⟩
      · have hle := HLE.out
        clear hC
        go_simp
      simp only [Act.put, List.setIfInBounds_toArray, List.set_cons_zero, List.set_cons_succ]
      go_big_quiet_on
      refine wpQuiet_nil ?_
      intro w' hC
      have SL2 := Lib.hid (SL.out.below hC)
      have HY2 := Lib.hid (LY.out w' hC)
      clear hC LY LA SL HY HLE AR BW
      cases hr : (!decide (x.clock < y.n.clock))
      · have N2 := Lib.hid (show (xs.take (k + 1)).filter (fun y => !decide (x.clock < y.n.clock)) = (xs.take k).filter (fun y => !decide (x.clock < y.n.clock)) from by rw [NXT.out, if_neg (by rw [hr]; decide)])
        clear hr NXT
        go_wp2_with fail
        go_roundw
        case rel => exact ⟨k + 1, xa, xn, xc, by go_num, by go_num, by omega, by omega, by rw [N2.out]; exact SL2⟩
        case measure => simp [intOf]; omega
      · have N2 := Lib.hid (show (xs.take (k + 1)).filter (fun y => !decide (x.clock < y.n.clock)) = (xs.take k).filter (fun y => !decide (x.clock < y.n.clock)) ++ [y] from by rw [NXT.out, if_pos (by rw [hr])])
        clear hr NXT
        have bn : Below w'.heap.size w' (w'.alloc (.cells (noteA y.n y.sa y.sc) 43)) := (Below.refl _ _).alloc (Nat.le_refl _) _
        obtain ⟨a', c', v9, hrun, ho9, hg9⟩ := run_app_nt (w'.alloc (.cells (noteA y.n y.sa y.sc) 43)) W6.heap.size xa xn xc _ (own_below SL2.out.own bn) _ 1 1 _ (lit_note w' y.n y.sa y.sc) (y.n.cells_one _ _) (by omega) (Nat.le_trans SL2.out.bel.size bn.size)
        have SL3 := Lib.hid (SL2.out.add ho9 hg9)
        rw [← N2.out] at SL3
        clear bn ho9 hg9 SL2
        have hix := HIX.out w'
        go_wp2_with (first
          | (refine wpList_load_mid rfl 43 _ rfl b o rfl (y.n.cells y.sa y.sc) _ HY2.out Try.underlying43 rfl (size43 y.n y.sa y.sc) ?_)
          | (refine wpList_build_note rfl _ rfl y.n y.sa y.sc rfl ?_)
          | (refine wpList_append_eq rfl _ _ _ rfl _ _ _ rfl rfl hrun ?_)
          | fail)
        go_roundw
        case rel => exact ⟨k + 1, a', xn + 1, c', by go_num, by go_num, by omega, by omega, SL3⟩
        case measure => simp [intOf]; omega
    · have t0 : decide ((k : Int) < (nn : Int)) = false := by simp; omega
      rw [List.take_of_length_le (by rw [LNX.out]; omega)] at SL
      have ME : Hid ((xs.filter (fun y => !decide (x.clock < y.n.clock))).map LN.n = upTo x.clock l) := Lib.hid (by rw [upTo_map, HXS.out])
      replace ST := Lib.hid (ST.out.below SL.out.bel)
      have RE := Lib.hid (show RdNs wr xa xn xc (upTo x.clock l) by
        have h1 := rdNs_of (RdA.of_own SL.out.own) (fun y hy => LOK.out wr ST.out.bel y (List.mem_filter.1 hy).1)
        rwa [ME.out] at h1)
      have OKE := Lib.hid (show ∀ y ∈ upTo x.clock l, y.Ok from fun y hy => HOK.out y ((upTo_sub _ _).subset hy))
      clear SL hk hxn
      have c0 := cell_of ST.out.fr 0 (.int .i64 f.rings) rfl
      have c1 := cell_of ST.out.fr 1 (.int .i64 f.sectors) rfl
      have c2 := cell_of ST.out.fr 2 (.int .i64 f.wide) rfl
      have a0 := cell_of ST.out.ak 0 (.int .i64 x.day) rfl
      have a1 := cell_of ST.out.ak 1 (.int .i64 x.clock) rfl
      go_wp2_with fail
      refine (AO.out wr a nn nc l x.day x.clock (R.out.below ST.out.bel) HOK.out).mono ?_
      rintro e W7 ⟨v, rfl, ro, bb⟩
      obtain ⟨ha3, hn3, hc3, ea3, en3, ec3, ca3, cn3, cc3, rfl⟩ := ro.shape
      have Q3 := Lib.hid ro
      replace ST := Lib.hid (ST.out.below bb)
      replace RE := Lib.hid (RE.out.below bb)
      clear ro bb c0 c1 c2 a0 a1 t0 hlt
      go_upto_region 15 with fail
      have bb : Below W7.heap.size W7 (W7.alloc (.cells #[.slice ha3 hn3 hc3, .slice ea3 en3 ec3, .slice ca3 cn3 cc3] 75)) := (Below.refl _ _).alloc (Nat.le_refl _) _
      replace ST := Lib.hid (ST.out.below bb)
      replace Q3 := Lib.hid (Q3.out.below bb)
      have P3 := Lib.hid (heap_last W7 (.cells #[.slice ha3 hn3 hc3, .slice ea3 en3 ec3, .slice ca3 cn3 cc3] 75))
      replace RE := Lib.hid (RE.out.below bb)
      clear bb
      obtain ⟨p3, hp3⟩ : ∃ p, Hid (W7.heap.size = p) := ⟨_, Lib.hid rfl⟩
      rw [hp3.out] at P3 ⊢
      generalize W7.alloc (.cells #[.slice ha3 hn3 hc3, .slice ea3 en3 ec3, .slice ca3 cn3 cc3] 75) = W8 at *
      have c0 := cell_of ST.out.fr 0 (.int .i64 f.rings) rfl
      have c1 := cell_of ST.out.fr 1 (.int .i64 f.sectors) rfl
      have c2 := cell_of ST.out.fr 2 (.int .i64 f.wide) rfl
      have a0 := cell_of ST.out.ak 0 (.int .i64 x.day) rfl
      have a1 := cell_of ST.out.ak 1 (.int .i64 x.clock) rfl
      go_wp2_with fail
      refine (AO.out W8 xa xn xc (upTo x.clock l) x.day x.clock RE.out OKE.out).mono ?_
      rintro e W9 ⟨v, rfl, ro, bb⟩
      obtain ⟨ha4, hn4, hc4, ea4, en4, ec4, ca4, cn4, cc4, rfl⟩ := ro.shape
      have Q4 := Lib.hid ro
      replace ST := Lib.hid (ST.out.below bb)
      replace Q3 := Lib.hid (Q3.out.below bb)
      replace P3 := Lib.hid (below_blk bb P3.out)
      clear ro bb c0 c1 c2 a0 a1
      go_upto_region 16 with fail
      have bb : Below W9.heap.size W9 (W9.alloc (.cells #[.slice ha4 hn4 hc4, .slice ea4 en4 ec4, .slice ca4 cn4 cc4] 75)) := (Below.refl _ _).alloc (Nat.le_refl _) _
      replace ST := Lib.hid (ST.out.below bb)
      replace Q4 := Lib.hid (Q4.out.below bb)
      have P4 := Lib.hid (heap_last W9 (.cells #[.slice ha4 hn4 hc4, .slice ea4 en4 ec4, .slice ca4 cn4 cc4] 75))
      replace Q3 := Lib.hid (Q3.out.below bb)
      replace P3 := Lib.hid (below_blk bb P3.out)
      clear bb
      obtain ⟨p4, hp4⟩ : ∃ p, Hid (W9.heap.size = p) := ⟨_, Lib.hid rfl⟩
      rw [hp4.out] at P4 ⊢
      generalize W9.alloc (.cells #[.slice ha4 hn4 hc4, .slice ea4 en4 ec4, .slice ca4 cn4 cc4] 75) = X1 at *
      by_cases hset : (checkSetP f l).1 = 0
      · have e1 : errV f l = 0 := by rw [errV, if_pos hset]
        have e2 : errV f (upTo x.clock l) = 0 := by rw [errV, if_pos (set_sub hset (upTo_sub _ _))]
        rw [regV_upTo _ _ hset] at Q4
        clear hset
        rw [e1, e2]
        clear e1 e2
        have u3 := cell_of P3.out 0 (.slice ha3 hn3 hc3) rfl
        have v3 := cell_of P3.out 1 (.slice ea3 en3 ec3) rfl
        have t3 := cell_of P3.out 2 (.slice ca3 cn3 cc3) rfl
        have u4 := cell_of P4.out 0 (.slice ha4 hn4 hc4) rfl
        have v4 := cell_of P4.out 1 (.slice ea4 en4 ec4) rfl
        have t4 := cell_of P4.out 2 (.slice ca4 cn4 cc4) rfl
        go_wp2_with fail
        refine (sameReg_out Q3.out Q4.out).mono ?_
        rintro e X2 ⟨rfl, bb⟩
        replace ST := Lib.hid (ST.out.below bb)
        clear bb Q3 Q4 P3 P4 u3 v3 t3 u4 v4 t4
        go_wp2_with fail
        go_ret
        exact ⟨rfl, ST.out.bel⟩
      · have e1 : errV f l = 1 := by rw [errV, if_neg hset]
        rw [e1]
        clear e1 hset
        go_wp2_with fail
        go_ret
        exact ⟨rfl, ST.out.bel⟩
end Go.Proofs.Ytpjiakgfegnmcaa
namespace Go.Proofs.Ytpjiakgfegnmcaa
open Go.ChangeShapes Go.WideShapes Go.ChangeAt Go.RowKit

set_option maxRecDepth 100000 in
theorem historyKnown_lifted (os : Os) (started : os.Started) (H : Type) (enc : TypeId × Value → H) :
    ReturnsInHanded {} Try.checked os 7 .any (Rows.historyKnownSpec.pre6 enc Try.prog Try.f7 Rows.historyKnownRow.domain false) (Rows.historyKnownSpec.post enc Try.prog Try.f7 false true false false) := by
  refine returnsInHanded_of_change (C := Try.checked) Try.own started (by kernel_rfl) Try.func7
    (ChangeSpec.witness6 (enc := enc) (C := Try.checked) false ⟨#[], #[.agg #[.int .i64 0, .int .i64 0, .int .i64 0], .slice none 0 0, .agg #[.int .i64 0, .int .i64 0, .int .i64 0, .int .i64 0, .int .i64 0, .int .i64 0, .int .i64 0]], []⟩ 8 (by kernel_rfl) (by kernel_rfl) (by kernel_rfl) (by kernel_rfl)) ?_
  intro W base args ds gs before hval0 hW hcnd _
  have hval : ∀ (j : Nat) t v, Try.f7.params[j]? = some t → args[j]? = some v → Value.okWide Try.prog W .any base t v := hval0
  have hW' := hW
  obtain ⟨p, q, hA0, hV, rfl, hfz, hnd⟩ := hW
  have hA : DataW.TrodAll enc Try.prog W 0 (fun _ => true) true Try.f7.params.toList args.toList ds p := hA0
  have hA1 := hA
  rw [Try.params7] at hA hval
  obtain ⟨v0, v1, v2, d0, d1, d2, p0, p1, p2, rfl, rfl, rfl, h0, h1, h2⟩ := trodAll_three hA
  obtain ⟨rfl, rfl⟩ := trodVars_none hV
  obtain ⟨f, rfl⟩ := hopen_frame (hval 0 61 v0 rfl rfl) h0
  obtain ⟨a, n, c, l, rfl, r1, r2⟩ := open_notes (hval 1 44 v1 rfl rfl) h1
  obtain ⟨x, rfl, _⟩ := open_ask (hval 2 70 v2 rfl rfl) h2
  clear hA0 hval0
  simp only [List.append_nil] at hW'
  refine (hknown_any f a n c l x W r1 r2).mono fun e W' ⟨he, hb⟩ => ?_
  subst he
  exact ⟨_, rfl, post_of_law Try.laidOut Try.underlying4 rfl (by kernel_rfl) (by kernel_rfl) hW' hA1 rfl hb⟩

theorem historyKnown_holds : Rows.HistoryKnownSaid :=
  OpenClaim.holds_of_wide 7 Try.f7 rfl rfl rfl rfl rfl rfl rfl ⟨rfl, rfl, rfl, rfl, rfl⟩ rfl rfl rfl rfl rfl (by kernel_rfl) Try.func7 (by kernel_rfl)
    (of_decide_eq_true (by kernel_rfl)) (by unfold Func.isWrapper; first | (rw [if_pos (by decide +kernel)]; kernel_rfl) | (rw [if_neg (by decide +kernel)]; exact ⟨rfl, rfl⟩))
    (fun os started H enc _ => historyKnown_lifted os started H enc)
#print axioms historyKnown_holds
end Go.Proofs.Ytpjiakgfegnmcaa
