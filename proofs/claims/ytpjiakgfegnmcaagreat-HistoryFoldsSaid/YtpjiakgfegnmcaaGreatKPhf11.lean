/- Parts of the proof, in this order: The reference's SameEvents and SameRegister say true of equal values; What Fold and AsOf give back, as one predicate; registers of one value are the same; What every row of this work shares: a law of the template 'true whatever the input' holds where its call gives true and leaves all old memory; []byte arguments opened; A note, a list of ints, out of a reading; Frames, lists of notes, registers, questions: out of a reading; What is asked, out of a reading; HistoryKnown gives true; The plain law of the reference's fold: judges, what counts, and the insertion of an event; The reference's Copy; HeapOf of the reference; The reference's wellFormed and CheckNote; Which registers are right, in the reference: rightRegister, RightRegister. -/
import Derived.Test.YtpjiakgfegnmcaaGreatRows
import Derived.ProofKit
import Derived.OpenShut
import Derived.Deep.Strs
import Derived.Test.YtpjiakgfegnmcaaGreatKPhf10
set_option linter.unusedSimpArgs false
set_option linter.unusedVariables false
open List renaming getElem_toArray → lq0, getElem_cons_succ → lq1, getElem_cons_zero → lq2, setIfInBounds_toArray → lq3, set_cons_zero → lq4, set_cons_succ → lq5
namespace Go.Proofs.YtpjiakgfegnmcaaGreat
set_option linter.unusedSimpArgs false
open Go.RowKit

def evC (e : EvV) : Nm × NoteV := (e.nm, e.x.n)
theorem sameB_self (n : NoteV) : sameB n n = true := by simp [sameB]
theorem ev_rangeN {W : World} {b o : Nat} {e : EvV} (h : W.rangeAt b o e.cells) : W.rangeAt b (o + 2) (e.x.n.cells e.x.sa e.x.sc) := fun j v hv => by
  have := h (2 + j) v (by rw [EvV.cells, List.getElem?_append_right (by simp)]; simpa using hv)
  rwa [← Nat.add_assoc] at this

set_option maxHeartbeats 16000000 in
set_option maxRecDepth 100000 in
theorem sameEvents_eq (l m : List EvV) (a : Option Addr) (n c : Nat) (a' : Option Addr) (n' c' : Nat) (w : World) (hr : RdEs w a n c l) (hr' : RdEs w a' n' c' m) (hl : ∀ e ∈ l, e.x.ok w) (hm : ∀ e ∈ m, e.x.ok w) (he : l.map evC = m.map evC) :
    Calls Tryz.prog 29 #[.slice a n c, .slice a' n' c'] w fun e w' => e = .returned (.bool true) ∧ Below w.heap.size w w' := by
  have I43 := Lib.hid (show ∀ (m : NoteV) (a : Option Addr) (c : Nat), (Tryz.prog.info? 51).map (·.size) = some (noteA m a c).size from fun m a c => by kernel_rfl)
  have J21 : (Tryz.prog.info? 53).map (·.size) = some 21 := by kernel_rfl
  have hm1 := hr.maxn
  have LN1 := Lib.hid hr.1
  have hnn : n = n' := by
    have h1 := congrArg List.length he
    rw [List.length_map, List.length_map] at h1
    rw [← hr.1, ← hr'.1, h1]
  subst hnn
  have R1 := Lib.hid hr
  have R2 := Lib.hid hr'
  have O1 := Lib.hid hl
  have O2 := Lib.hid hm
  have HE := Lib.hid he
  clear hr hr' hl hm he
  go_enter Tryz.func29, Tryz.ntmps29
  go_wp2_with fail
  go_loopw [5] (fun i wr => ∃ k : Nat, i = .int .i64 k ∧ k ≤ n ∧ Hid (Below w.heap.size w wr)) (fun i _ => n - (intOf i).toNat)
  case atStart => exact ⟨0, rfl, Nat.zero_le _, Lib.hid (Below.refl _ _)⟩
  case round =>
    obtain ⟨k, rfl, hk, BB⟩ := hrel
    by_cases hlt : k < n
    · have t0 : decide ((k : Int) < (n : Int)) = true := by simp; omega
      obtain ⟨x, Hx⟩ : ∃ x, l[k]? = some x := ⟨_, List.getElem?_eq_getElem (by rw [LN1.out]; exact hlt)⟩
      obtain ⟨y, Hy⟩ : ∃ y, m[k]? = some y := ⟨_, List.getElem?_eq_getElem (by rw [R2.out.1]; exact hlt)⟩
      have hxy : evC x = evC y := by
        have h1 := congrArg (fun q => q[k]?) HE.out
        simp only [List.getElem?_map, Hx, Hy, Option.map_some, Option.some.injEq] at h1
        exact h1
      have OX := Lib.hid (O1.out x (List.mem_of_getElem? Hx))
      have OY := Lib.hid (O2.out y (List.mem_of_getElem? Hy))
      obtain ⟨b, off, rfl, hat⟩ := (R1.out.below BB.out).at (by omega)
      obtain ⟨b', off', rfl, hat'⟩ := (R2.out.below BB.out).at (by omega)
      have AX := Lib.hid (hat k x Hx)
      have AY := Lib.hid (hat' k y Hy)
      obtain ⟨nm, ⟨nn, sa, sc⟩⟩ := x
      obtain ⟨nm', ⟨nn', ta, tc⟩⟩ := y
      unfold evC at hxy
      rw [Prod.mk.injEq] at hxy
      obtain ⟨rfl, rfl⟩ : nm = nm' ∧ nn = nn' := hxy
      clear hat hat' Hx Hy
      obtain ⟨o, ho⟩ : ∃ o, Hid (off + k * 21 = o) := ⟨_, Lib.hid rfl⟩
      obtain ⟨o', ho'⟩ : ∃ o', Hid (off' + k * 21 = o') := ⟨_, Lib.hid rfl⟩
      rw [ho.out] at AX
      rw [ho'.out] at AY
      have HIX := Lib.hid (fun W => idx_off (W := W) (c := c) (b := b) Tryz.underlying24 J21 hlt ho.out)
      have HIY := Lib.hid (fun W => idx_off (W := W) (c := c') (b := b') Tryz.underlying24 J21 hlt ho'.out)
      have hk64 : (k : Int) + 1 ≤ 9223372036854775807 := by omega
      go_upto_region 6 with fail
      clear t0
      try simp only [Act.put, lq3, lq4, lq5]
      have hC0 : Below wr.heap.size wr wr.drew := (Below.refl _ _).drew
      have LX := Lib.hid (show ∀ w0, Below wr.heap.size wr w0 → w0.rangeAt b o (EvV.cells ⟨nm, ⟨nn, sa, sc⟩⟩) from fun w0 h => rangeAt_below AX.out h)
      have LY := Lib.hid (show ∀ w0, Below wr.heap.size wr w0 → w0.rangeAt b' o' (EvV.cells ⟨nm, ⟨nn, ta, tc⟩⟩) from fun w0 h => rangeAt_below AY.out h)
      have RX := Lib.hid (show ∀ w0, Below wr.heap.size wr w0 → RdI w0 sa nn.strokes.length sc nn.strokes from fun w0 h => (OX.out.below BB.out).below h)
      have RY := Lib.hid (show ∀ w0, Below wr.heap.size wr w0 → RdI w0 ta nn.strokes.length tc nn.strokes from fun w0 h => (OY.out.below BB.out).below h)
      have SN := Lib.hid (fun W h1 h2 => rsame_any nn nn sa sc ta tc W h1 h2)
      rw [sameB_self] at SN
      refine wp_region_quiet (C := fun w' : World => Below wr.heap.size wr w') (by kernel_rfl) (by kernel_rfl) hC0 ?_
      show wpQuiet _ _ _ _ (_ :: _) _
      go_big_quiet_want
      go_big_quiet_op
      go_big_quiet_on
      go_big_quiet_want
      go_big_quiet_op
      go_big_quiet_on
      go_big_quiet_want
      refine ⟨.pointer (some ⟨b, o, none⟩), fun w0 hC => ?_, ?_⟩
      · have hix := HIX.out w0
        clear hC
        go_simp
      simp only [Act.put, lq3, lq4, lq5]
      go_big_quiet_on
      go_big_quiet_want
      refine ⟨.pointer (some ⟨b, o, none⟩), fun w0 hC => ?_, ?_⟩
      · clear hC
        go_simp
      simp only [Act.put, lq3, lq4, lq5]
      go_big_quiet_on
      go_big_quiet_want
      refine ⟨.agg #[.int .i64 nm.1, .int .i64 nm.2], fun w0 hC => ?_, ?_⟩
      · have c0 := LX.out w0 hC 0 (.int .i64 nm.1) rfl
        have c1 := LX.out w0 hC 1 (.int .i64 nm.2) rfl
        simp only [Nat.add_zero] at c0
        clear hC
        go_simp
      simp only [Act.put, lq3, lq4, lq5]
      go_big_quiet_on
      go_big_quiet_want
      go_big_quiet_op
      go_big_quiet_on
      go_big_quiet_want
      go_big_quiet_op
      go_big_quiet_on
      go_big_quiet_want
      refine ⟨.pointer (some ⟨b', o', none⟩), fun w0 hC => ?_, ?_⟩
      · have hix := HIY.out w0
        clear hC
        go_simp
      simp only [Act.put, lq3, lq4, lq5]
      go_big_quiet_on
      go_big_quiet_want
      refine ⟨.pointer (some ⟨b', o', none⟩), fun w0 hC => ?_, ?_⟩
      · clear hC
        go_simp
      simp only [Act.put, lq3, lq4, lq5]
      go_big_quiet_on
      go_big_quiet_want
      refine ⟨.agg #[.int .i64 nm.1, .int .i64 nm.2], fun w0 hC => ?_, ?_⟩
      · have c0 := LY.out w0 hC 0 (.int .i64 nm.1) rfl
        have c1 := LY.out w0 hC 1 (.int .i64 nm.2) rfl
        simp only [Nat.add_zero] at c0
        clear hC
        go_simp
      simp only [Act.put, lq3, lq4, lq5]
      go_big_quiet_on
      go_big_quiet_want
      refine ⟨.bool false, fun w0 hC => ?_, ?_⟩
      · clear hC
        go_simp
        try simp
      simp only [Act.put, lq3, lq4, lq5]
      go_big_quiet_on
      go_big_quiet_want
      go_big_quiet_op
      go_big_quiet_on
      go_big_quiet_want
      go_big_quiet_op
      go_big_quiet_on
      go_big_quiet_want
      go_big_quiet_op
      go_big_quiet_on
      go_big_quiet_want
      refine ⟨.pointer (some ⟨b, o, none⟩), fun w0 hC => ?_, ?_⟩
      · have hix := HIX.out w0
        clear hC
        go_simp
      simp only [Act.put, lq3, lq4, lq5]
      go_big_quiet_on
      go_big_quiet_want
      refine ⟨.pointer (some ⟨b, o + 2, none⟩), fun w0 hC => ?_, ?_⟩
      · clear hC
        go_simp
      simp only [Act.put, lq3, lq4, lq5]
      go_big_quiet_on
      go_big_quiet_want
      refine ⟨.agg (noteA nn sa sc), fun w0 hC => quiet_load_note (.tmp 32) rfl b (o + 2) rfl nn sa sc (ev_rangeN (LX.out w0 hC)), ?_⟩
      simp only [Act.put, lq3, lq4, lq5]
      go_big_quiet_on
      go_big_quiet_want
      go_big_quiet_op
      go_big_quiet_on
      go_big_quiet_want
      go_big_quiet_op
      go_big_quiet_on
      go_big_quiet_want
      refine ⟨.pointer (some ⟨b', o', none⟩), fun w0 hC => ?_, ?_⟩
      · have hix := HIY.out w0
        clear hC
        go_simp
      simp only [Act.put, lq3, lq4, lq5]
      go_big_quiet_on
      go_big_quiet_want
      refine ⟨.pointer (some ⟨b', o' + 2, none⟩), fun w0 hC => ?_, ?_⟩
      · clear hC
        go_simp
      simp only [Act.put, lq3, lq4, lq5]
      go_big_quiet_on
      go_big_quiet_want
      refine ⟨.agg (noteA nn ta tc), fun w0 hC => quiet_load_note (.tmp 37) rfl b' (o' + 2) rfl nn ta tc (ev_rangeN (LY.out w0 hC)), ?_⟩
      simp only [Act.put, lq3, lq4, lq5]
      go_big_quiet_on
      go_big_quiet_want
      refine ⟨.bool true, fun w0 hC => ?_, ?_⟩
      · go_simp
        refine (SN.out w0 (RX.out w0 hC) (RY.out w0 hC)).mono ?_
        rintro e w1 ⟨rfl, b1⟩
        exact ⟨rfl, hC.trans (b1.mono hC.size)⟩
      simp only [Act.put, lq3, lq4, lq5]
      go_big_quiet_on
      go_big_quiet_want
      refine ⟨.bool false, fun w0 hC => ?_, ?_⟩
      · clear hC
        go_simp
      simp only [Act.put, lq3, lq4, lq5]
      go_big_quiet_on
      go_big_quiet_want
      refine ⟨.bool false, fun w0 hC => ?_, ?_⟩
      · clear hC
        go_simp
      simp only [Act.put, lq3, lq4, lq5]
      go_big_quiet_on
      refine wpQuiet_nil ?_
      intro w' hC
      have B8 := Lib.hid (BB.out.trans (hC.mono BB.out.size))
      clear hC
      go_wp2_with fail
      go_roundw
      case rel => exact ⟨k + 1, by go_num, by omega, B8⟩
      case measure => simp [intOf]; omega
    · have t0 : decide ((k : Int) < (n : Int)) = false := by simp; omega
      go_wp2_with fail
      go_ret
      exact ⟨rfl, BB.out⟩

set_option maxHeartbeats 8000000 in
set_option maxRecDepth 100000 in
theorem sameReg_eq (hs es hs' es' : List EvV) (cs : List Nm) (ha : Option Addr) (hn hc : Nat) (ea : Option Addr) (en ec : Nat) (ca : Option Addr) (cn cc : Nat) (ha' : Option Addr) (hn' hc' : Nat) (ea' : Option Addr) (en' ec' : Nat) (ca' : Option Addr) (cn' cc' : Nat) (w : World)
    (r1 : RdEs w ha hn hc hs) (r2 : RdEs w ea en ec es) (r3 : RdA w 2 ca cn cc (nmCells cs)) (s1 : RdEs w ha' hn' hc' hs') (s2 : RdEs w ea' en' ec' es') (s3 : RdA w 2 ca' cn' cc' (nmCells cs))
    (ok : ∀ e ∈ hs ++ es, e.x.ok w) (ok' : ∀ e ∈ hs' ++ es', e.x.ok w) (e1 : hs.map evC = hs'.map evC) (e2 : es.map evC = es'.map evC) :
    Calls Tryz.prog 36 #[.agg #[.slice ha hn hc, .slice ea en ec, .slice ca cn cc], .agg #[.slice ha' hn' hc', .slice ea' en' ec', .slice ca' cn' cc']] w fun e w' => e = .returned (.bool true) ∧ Below w.heap.size w w' := by
  have B0 := Lib.hid (((Below.refl w.heap.size w).alloc (Nat.le_refl _) (.cells #[.slice ha hn hc, .slice ea en ec, .slice ca cn cc] 27)).alloc (by simp) (.cells #[.slice ha' hn' hc', .slice ea' en' ec', .slice ca' cn' cc'] 27))
  have P0 := Lib.hid (heap_before _ (.cells #[.slice ha' hn' hc', .slice ea' en' ec', .slice ca' cn' cc'] 27) _ _ (heap_last w (.cells #[.slice ha hn hc, .slice ea en ec, .slice ca cn cc] 27)))
  have Q0 := Lib.hid (heap_at (w.alloc (.cells #[.slice ha hn hc, .slice ea en ec, .slice ca cn cc] 27)) (.cells #[.slice ha' hn' hc', .slice ea' en' ec', .slice ca' cn' cc'] 27) (w.heap.size + 1) (by simp))
  have RR := Lib.hid (show ∀ W, Below w.heap.size w W → RdEs W ha hn hc hs ∧ RdEs W ea en ec es ∧ RdA W 2 ca cn cc (nmCells cs) ∧ RdEs W ha' hn' hc' hs' ∧ RdEs W ea' en' ec' es' ∧ RdA W 2 ca' cn' cc' (nmCells cs) ∧ (∀ e ∈ hs, e.x.ok W) ∧ (∀ e ∈ es, e.x.ok W) ∧ (∀ e ∈ hs', e.x.ok W) ∧ (∀ e ∈ es', e.x.ok W) from fun W h =>
    ⟨r1.below h, r2.below h, r3.below h, s1.below h, s2.below h, s3.below h, fun e he => (ok e (List.mem_append_left _ he)).below h, fun e he => (ok e (List.mem_append_right _ he)).below h, fun e he => (ok' e (List.mem_append_left _ he)).below h, fun e he => (ok' e (List.mem_append_right _ he)).below h⟩)
  have E1 := Lib.hid e1
  have E2 := Lib.hid e2
  clear r1 r2 r3 s1 s2 s3 ok ok' e1 e2
  go_enter Tryz.func36, Tryz.ntmps36
  go_upto_region 1 with fail
  obtain ⟨p, hp⟩ : ∃ p, Hid (w.heap.size = p) := ⟨_, Lib.hid rfl⟩
  obtain ⟨q, hq⟩ : ∃ p, Hid (w.heap.size + 1 = p) := ⟨_, Lib.hid rfl⟩
  rw [hp.out] at P0
  rw [hq.out] at Q0
  rw [hq.out, hp.out]
  generalize (w.alloc (.cells #[.slice ha hn hc, .slice ea en ec, .slice ca cn cc] 27)).alloc (.cells #[.slice ha' hn' hc', .slice ea' en' ec', .slice ca' cn' cc'] 27) = W0 at *
  have a0 := cell_of P0.out 0 (.slice ha hn hc) rfl
  have a1 := cell_of P0.out 1 (.slice ea en ec) rfl
  have a2 := cell_of P0.out 2 (.slice ca cn cc) rfl
  have b0 := cell_of Q0.out 0 (.slice ha' hn' hc') rfl
  have b1 := cell_of Q0.out 1 (.slice ea' en' ec') rfl
  have b2 := cell_of Q0.out 2 (.slice ca' cn' cc') rfl
  go_wp2_with fail
  refine (sameEvents_eq hs hs' ha hn hc ha' hn' hc' W0 (RR.out W0 B0.out).1 (RR.out W0 B0.out).2.2.2.1 (RR.out W0 B0.out).2.2.2.2.2.2.1 (RR.out W0 B0.out).2.2.2.2.2.2.2.2.1 E1.out).mono ?_
  rintro e W1 ⟨rfl, hb⟩
  have P1 := Lib.hid (below_blk hb P0.out)
  have Q1 := Lib.hid (below_blk hb Q0.out)
  have B1 := Lib.hid (B0.out.trans (hb.mono B0.out.size))
  clear hb B0 P0 Q0 a0 a1 a2 b0 b1 b2
  have a1 := cell_of P1.out 1 (.slice ea en ec) rfl
  have b1 := cell_of Q1.out 1 (.slice ea' en' ec') rfl
  go_wp2_with fail
  refine (sameEvents_eq es es' ea en ec ea' en' ec' W1 (RR.out W1 B1.out).2.1 (RR.out W1 B1.out).2.2.2.2.1 (RR.out W1 B1.out).2.2.2.2.2.2.2.1 (RR.out W1 B1.out).2.2.2.2.2.2.2.2.2 E2.out).mono ?_
  rintro e W2 ⟨rfl, hb⟩
  have P2 := Lib.hid (below_blk hb P1.out)
  have Q2 := Lib.hid (below_blk hb Q1.out)
  have B2 := Lib.hid (B1.out.trans (hb.mono B1.out.size))
  clear hb B1 P1 Q1 a1 b1
  have a2 := cell_of P2.out 2 (.slice ca cn cc) rfl
  have b2 := cell_of Q2.out 2 (.slice ca' cn' cc') rfl
  go_wp2_with fail
  refine (sameNames_any ca cn cc cs ca' cn' cc' cs W2 (RR.out W2 B2.out).2.2.1 (RR.out W2 B2.out).2.2.2.2.2.1).mono ?_
  rintro r W9 ⟨rfl, q9, hw9⟩
  have B9 : Hid (Below w.heap.size w W9) := Lib.hid (by rw [hw9]; exact below_drewN B2.out q9)
  clear hw9
  rw [decide_eq_true rfl]
  go_wp2_with fail
  go_ret
  exact ⟨rfl, B9.out⟩
end Go.Proofs.YtpjiakgfegnmcaaGreat
namespace Go.Proofs.YtpjiakgfegnmcaaGreat
set_option linter.unusedSimpArgs false
open Go.RowKit

abbrev RegT := List NoteV × List NoteV × List Nm
def regV (f : FrV) (l m : List NoteV) (day : Int) : RegT := if (checkSetP f l).1 = 0 then ((regN day m).hs, (regN day m).es, csN day m) else ([], [], [])
def errV (f : FrV) (l : List NoteV) : Int := if (checkSetP f l).1 = 0 then 0 else 1
def evP (n : NoteV) : Nm × NoteV := (nmOf n, n)
def RegOut (W : World) (v : Value) (T : RegT) : Prop :=
  ∃ (ha : Option Addr) (hn hc : Nat) (ea : Option Addr) (en ec : Nat) (ca : Option Addr) (cn cc : Nat) (hs es : List EvV), v = .agg #[.slice ha hn hc, .slice ea en ec, .slice ca cn cc] ∧
    RdEs W ha hn hc hs ∧ RdEs W ea en ec es ∧ RdA W 2 ca cn cc (nmCells T.2.2) ∧ (∀ e ∈ hs ++ es, e.x.ok W) ∧ hs.map evC = T.1.map evP ∧ es.map evC = T.2.1.map evP
theorem RegOut.below {W W' : World} {v : Value} {T : RegT} (h : RegOut W v T) (hb : Below W.heap.size W W') : RegOut W' v T := by
  obtain ⟨ha, hn, hc, ea, en, ec, ca, cn, cc, hs, es, rfl, h1, h2, h3, h4, h5, h6⟩ := h
  exact ⟨ha, hn, hc, ea, en, ec, ca, cn, cc, hs, es, rfl, h1.below hb, h2.below hb, h3.below hb, fun e he => (h4 e he).below hb, h5, h6⟩
theorem evC_notes {es : List EvV} {N : List NoteV} (h : es.map (fun e => e.x.n) = N) (hn : ∀ e ∈ es, e.nm = nmOf e.x.n) : es.map evC = N.map evP := by
  subst h
  rw [List.map_map]
  refine List.map_congr_left fun e he => ?_
  unfold evC evP
  rw [hn e he]; rfl
theorem RegOut.empty (W : World) : RegOut W (.agg #[.slice none 0 0, .slice none 0 0, .slice none 0 0]) ([], [], []) :=
  ⟨none, 0, 0, none, 0, 0, none, 0, 0, [], [], rfl, ⟨rfl, Nat.le_refl _, Nat.zero_le _, .inl rfl⟩, ⟨rfl, Nat.le_refl _, Nat.zero_le _, .inl rfl⟩, RdA.nil _ _, fun e he => by simp at he, rfl, rfl⟩
theorem asEnd_out {l : List NoteV} {day : Int} {w w' : World} {e : Ending} (h : AsEnd l day w e w') (hp : l.Pairwise (fun x y => nmLt (nmOf x) (nmOf y) = true)) :
    ∃ v, e = .returned (.tuple #[v, .int .i64 0]) ∧ RegOut w' v ((regN day l).hs, (regN day l).es, csN day l) := by
  obtain ⟨v, R, rfl, ⟨ha, hc, ea, ec, ca, cc, rfl, o1, o2, o3, o4⟩, q1, q2, q3, q4⟩ := asEnd_reg h hp
  refine ⟨_, rfl, ha, _, hc, ea, _, ec, ca, _, cc, R.hs, R.es, rfl, RdEs.of_own o1, RdEs.of_own o2, ?_, fun e he => RdA.of_own (o4 e he), evC_notes q1 (fun e he => q4 e (List.mem_append_left _ he)), evC_notes q2 (fun e he => q4 e (List.mem_append_right _ he))⟩
  have := RdA.of_own o3
  rw [q3] at this ⊢
  exact this
theorem asOf_out (f : FrV) (a : Option Addr) (n c : Nat) (l : List NoteV) (day clock : Int) (w : World) (hr : RdNs w a n c l) (hok : ∀ x ∈ l, x.Ok) :
    Calls Tryz.prog 20 #[f.val, .slice a n c, .int .i64 day, .int .i64 clock] w fun e w' => ∃ v, e = .returned (.tuple #[v, .int .i64 (errV f l)]) ∧ RegOut w' v (regV f l (upTo clock l) day) ∧ Below w.heap.size w w' := by
  refine (asOf_any f a n c l day clock w hr hok).mono ?_
  rintro e w' ⟨⟨h0, rfl⟩ | ⟨h0, h1⟩, hb⟩
  · exact ⟨_, by rw [errV, if_neg h0], by rw [regV, if_neg h0]; exact RegOut.empty w', hb⟩
  · obtain ⟨v, rfl, h2⟩ := asEnd_out h1 ((set_ok h0).2.2.2.sublist (upTo_sub _ _))
    exact ⟨v, by rw [errV, if_pos h0], by rw [regV, if_pos h0]; exact h2, hb⟩
theorem fold_out (f : FrV) (a : Option Addr) (n c : Nat) (l : List NoteV) (w : World) (hr : RdNs w a n c l) (hok : ∀ x ∈ l, x.Ok) :
    Calls Tryz.prog 31 #[f.val, .slice a n c] w fun e w' => ∃ v, e = .returned (.tuple #[v, .int .i64 (errV f l)]) ∧ RegOut w' v (regV f l l 99999) ∧ Below w.heap.size w w' := by
  refine (fold_any f a n c l w hr hok).mono ?_
  rintro e w' ⟨⟨h0, rfl⟩ | ⟨h0, h1⟩, hb⟩
  · exact ⟨_, by rw [errV, if_neg h0], by rw [regV, if_neg h0]; exact RegOut.empty w', hb⟩
  · obtain ⟨v, rfl, h2⟩ := asEnd_out h1 (set_ok h0).2.2.2
    exact ⟨v, by rw [errV, if_pos h0], by rw [regV, if_pos h0]; exact h2, hb⟩
theorem sameReg_out {W : World} {v v' : Value} {T : RegT} (h : RegOut W v T) (h' : RegOut W v' T) : Calls Tryz.prog 36 #[v, v'] W fun e w' => e = .returned (.bool true) ∧ Below W.heap.size W w' := by
  obtain ⟨ha, hn, hc, ea, en, ec, ca, cn, cc, hs, es, rfl, h1, h2, h3, h4, h5, h6⟩ := h
  obtain ⟨ha', hn', hc', ea', en', ec', ca', cn', cc', hs', es', rfl, h1', h2', h3', h4', h5', h6'⟩ := h'
  exact sameReg_eq hs es hs' es' T.2.2 ha hn hc ea en ec ca cn cc ha' hn' hc' ea' en' ec' ca' cn' cc' W h1 h2 h3 h1' h2' h3' h4 h4' (h5.trans h5'.symm) (h6.trans h6'.symm)
structure NlAt (V W : World) (a : Option Addr) (c n : Nat) (ys : List LN) : Prop where
  bel : Below V.heap.size V W
  own : W.ownsRow V.heap.size 51 19 (.slice a n c) n (lnCells ys)
theorem NlAt.start (V : World) : NlAt V V none 0 0 [] := ⟨Below.refl _ _, World.ownsRow_nil _ _ _ _⟩
theorem NlAt.below {V W W' : World} {a : Option Addr} {c n : Nat} {ys : List LN} (h : NlAt V W a c n ys) (hb : Below W.heap.size W W') : NlAt V W' a c n ys := ⟨h.bel.trans (hb.mono h.bel.size), own_below h.own hb⟩
theorem NlAt.add {V W W' : World} {a a' : Option Addr} {c c' n : Nat} {ys : List LN} {x : LN} (h : NlAt V W a c n ys) (ho : W'.ownsRow V.heap.size 51 19 (.slice a' (n + 1) c') (n + 1) (lnCells ys ++ x.n.cells x.sa x.sc)) (hg : (W.alloc (.cells (noteA x.n x.sa x.sc) 51)).grownBy W' (Value.ownBlock (.slice a n c))) : NlAt V W' a' c' (n + 1) (ys ++ [x]) := by
  have bn : Below W.heap.size W (W.alloc (.cells (noteA x.n x.sa x.sc) 51)) := (Below.refl _ _).alloc (Nat.le_refl _) _
  have h2 := h.below bn
  exact ⟨h2.bel.grown hg h2.bel.size (fun k hk => (h2.own.lt k hk).1), by rw [lnCells_snoc]; exact ho⟩
theorem wpList_build_note {ops : Array Oper} {rest : List Oper} {op : Oper} {a : Act} {w : World} {Q : Exit → Act → World → Prop} (hgd : op.guard = none) (x : Operand) (ho : op.op = .buildSlice 43 1 #[(0, x)]) (n : NoteV) (sa : Option Addr) (sc : Nat) (hx : a.eval x = .agg (noteA n sa sc))
    (h : wpList Tryz.prog ops Q rest (a.put op.dst (.slice (some ⟨w.heap.size, 0, none⟩) 1 1)) (w.alloc (.cells (noteA n sa sc) 51))) : wpList Tryz.prog ops Q (op :: rest) a w :=
  wpList_plain hgd fun _ hK => oper_build_note x ho n sa sc hx (hK _ _ h)
theorem filt_nx {α : Type} (p : α → Bool) {es : List α} {k : Nat} {x : α} (h : es[k]? = some x) : (es.take (k + 1)).filter p = if p x = true then (es.take k).filter p ++ [x] else (es.take k).filter p := by
  rw [take_snoc h, List.filter_append]
  by_cases hq : p x = true
  · rw [if_pos hq, List.filter_cons_of_pos hq]; rfl
  · rw [if_neg hq, List.filter_cons_of_neg hq]; simp
theorem ls_ok {W : World} {a : Option Addr} {n c : Nat} {xs : List LN} (h : RdLs W a n c xs) {x : LN} (hx : x ∈ xs) : x.ok W := by
  have h0 : 0 < n := by have := List.length_pos_of_mem hx; have := h.1; omega
  obtain ⟨b, off, rfl, hat⟩ := h.at h0
  obtain ⟨i, hi⟩ := List.getElem?_of_mem hx
  exact (hat i x hi).2
theorem lnCells_one (xs : List LN) : ∀ u ∈ lnCells xs, u.oneCell' = true := by
  intro u hu
  rw [lnCells, List.mem_flatten] at hu
  obtain ⟨r, hr, h⟩ := hu
  obtain ⟨e, _, rfl⟩ := List.mem_map.1 hr
  exact e.n.cells_one _ _ u h
theorem size21 (x : EvV) : (Tryz.prog.info? 53).map (·.size) = some x.cells.length := by kernel_rfl
end Go.Proofs.YtpjiakgfegnmcaaGreat
namespace Go.Proofs.YtpjiakgfegnmcaaGreat
open Go.ChangeShapes Go.WideShapes Go.ChangeAt Go.RowKit

theorem Tryz.own : ownKnob Tryz.prog.godebug = none := by kernel_rfl
theorem Tryz.laidOut : laidOutB Tryz.prog = true := by kernel_rfl

theorem below_trodAll {H : Type} {enc : TypeId × Value → H} {P : Program} (hl : laidOutB P = true) {W W' : World} (hb : Below W.heap.size W W') :
    ∀ (ts : List TypeId) {vs : List Value} {ds : List (DataW H)} {ps : List MemPlace}, ts.all (fun t => P.readableRec t && decide (t < P.types.size)) = true → (∀ x ∈ ps, x.block < W.heap.size) →
      DataW.TrodAll enc P W 0 (fun _ => true) true ts vs ds ps → DataW.TrodAll enc P W' 0 (fun b => decide (b < W.heap.size)) true ts vs ds ps
  | [], [], [], _, _, _, h => h
  | [], _ :: _, _, _, _, _, h => h.elim
  | [], [], _ :: _, _, _, _, h => h.elim
  | _ :: _, [], _, _, _, _, h => h.elim
  | _ :: _, _ :: _, [], _, _, _, h => h.elim
  | t :: ts, v :: vs, d :: ds, ps, hr, hlt, h => by
    obtain ⟨p, q, h1, h2, rfl⟩ := h
    simp only [List.all_cons, Bool.and_eq_true, decide_eq_true_eq] at hr
    exact ⟨p, q, Below.trod hl hr.1.1 hr.1.2 h1 hb (fun x hx => hlt x (List.mem_append_left _ hx)), below_trodAll hl hb ts hr.2 (fun x hx => hlt x (List.mem_append_right _ hx)) h2, rfl⟩

theorem post_of_law {H : Type} {enc : TypeId × Value → H} {P : Program} (hl : laidOutB P = true) {t : TypeId} (ht : P.underlying t = some .bool) {f : Func} {s : ChangeSpec} {W W' : World} {args : Array Value} {ds : List (DataW H)} {ps : List MemPlace}
    (hv : s.vars = []) (hf : f.resultTypes = #[t]) (hr : f.params.toList.all (fun t => P.readableRec t && decide (t < P.types.size)) = true)
    (hW : DataW.Whole enc P f.params.toList s.vars false W args.toList ds [] ps) (hA : DataW.TrodAll enc P W 0 (fun _ => true) true f.params.toList args.toList ds ps)
    (hs : s.fn H (ds ++ []) = { results := [.lit (.bool true)], args := ds }) (hb : Below W.heap.size W W') : s.post enc P f false true false false W args (.bool true) W' := by
  refine ⟨ds, [], ps, [], ps, [], hW, ?_, ?_, ?_, hb.frame _, fun h => by cases h⟩
  · rw [hs, hf]
    exact trodAll_mk1 (shut_bool ht _)
  · rw [hs]
    exact below_trodAll hl hb _ hr hW.lt hA
  · rw [hs, hv]
    rfl

end Go.Proofs.YtpjiakgfegnmcaaGreat
namespace Go.Proofs.YtpjiakgfegnmcaaGreat
open Go.ChangeShapes Go.WideShapes Go.ChangeAt Go.RowKit

theorem i64_of_wf {x : Int} (h : (Lit.int .i64 x).wf = true) : I64 x := by
  simp [Lit.wf, IntKind.min, IntKind.max, IntKind.signed, IntKind.bits] at h
  unfold I64
  omega
theorem Tryz.cells3 : Tryz.prog.cellsOf 3 = 1 := by kernel_rfl
theorem Tryz.cells38 : Tryz.prog.cellsOf 38 = 1 := by kernel_rfl
theorem Tryz.cells49 : Tryz.prog.cellsOf 49 = 2 := by kernel_rfl
theorem Tryz.cells29 : Tryz.prog.cellsOf 29 = 2 := by kernel_rfl
theorem Tryz.cells51 : Tryz.prog.cellsOf 51 = 19 := by kernel_rfl

section
variable {H : Type} {enc : TypeId × Value → H} {W : World} {fuel : Nat}

theorem open_ri1 {cs : List Value} {y : DataW H × List MemPlace} (h : DataW.trod enc Tryz.prog W 0 (fun _ => true) true fuel 38 cs = some y) : ∃ a c l, cs = [.slice a l.length c] ∧ RdI W a l.length c l ∧ ∀ z ∈ l, I64 z := by
  rcases open_ints Tryz.underlying38 Tryz.underlying3 Tryz.cells3 h with ⟨hcs, hx⟩ | ⟨a, n, c, zs, hcs, _, hl, hm, hz, hx, hcell, hwz⟩
  · exact ⟨none, 0, [], hcs, RdA.nil _ _, fun z hz => by cases hz⟩
  · simp only [if_true] at hz
    have hlen : (zs.take n).length = n := by rw [List.length_take]; omega
    refine ⟨some a, c, zs.take n, by rw [hlen]; exact hcs, ⟨by simp, by omega, hm, ?_⟩, fun z hz => i64_of_wf (hwz z (List.mem_of_mem_take hz))⟩
    by_cases hc0 : c = 0
    · exact .inl hc0
    · obtain ⟨ab, ao, spot⟩ := a
      have hspot : spot = none := by simpa [Addr.add] using World.cell?_spot (hcell 0 (by omega))
      subst hspot
      refine .inr ⟨ab, ao, rfl, fun i x hx => ?_⟩
      rw [List.getElem?_map, List.getElem?_take] at hx
      split at hx
      · rename_i hi
        have hiz : i < zs.length := by omega
        rw [List.getElem?_eq_getElem hiz, Option.map_some] at hx
        simp only [Option.some.injEq] at hx
        subst hx
        have hc := hcell i hiz
        rw [Addr.add_lit] at hc
        rw [hc, List.getD_eq_getElem?_getD, List.getElem?_eq_getElem hiz]
        rfl
      · cases hx
theorem get_some {α : Type} {xs : List α} {n i : Nat} (h : xs.length = n) (hi : i < n) : ∃ y, xs[i]? = some y := ⟨xs[i]'(by omega), List.getElem?_eq_getElem (by omega)⟩
set_option maxRecDepth 100000 in
theorem open_two {t : TypeId} {cs : List Value} {y : DataW H × List MemPlace} {f0 f1 : Field} (ht : Tryz.prog.underlying t = some (.struct #[f0, f1])) (h0 : f0.type = 3) (h1 : f1.type = 3) (o0 : f0.offset = 0) (o1 : f1.offset = 1) (hc : Tryz.prog.cellsOf t = 2)
    (h : DataW.trod enc Tryz.prog W 0 (fun _ => true) true fuel t cs = some y) : ∃ x z, cs = [.int .i64 x, .int .i64 z] ∧ I64 x ∧ I64 z := by
  obtain ⟨y0, y1, n, _, hl, g0, g1⟩ := trod_struct2 ht h
  rw [hc] at hl
  match cs, hl with
  | [c0, c1], _ =>
    rw [h0, o0, Tryz.cells3] at g0
    rw [h1, o1, Tryz.cells3] at g1
    obtain ⟨x, a0, _, b0⟩ := DataW.trod_int Tryz.underlying3 g0
    obtain ⟨z, a1, _, b1⟩ := DataW.trod_int Tryz.underlying3 g1
    simp at a0 a1
    exact ⟨x, z, by rw [a0, a1], i64_of_wf b0, i64_of_wf b1⟩

set_option maxHeartbeats 1000000 in
set_option maxRecDepth 100000 in
theorem open_note1 {cs : List Value} {y : DataW H × List MemPlace} (h : DataW.trod enc Tryz.prog W 0 (fun _ => true) true fuel 51 cs = some y) : ∃ n : NoteV, RdNote W cs n := by
  obtain ⟨xs, m, _, _, hl, hlen, hf⟩ := DataW.trod_struct Tryz.underlying51 h
  rw [Tryz.cells51] at hl
  match cs, hl with
  | [c0, c1, c2, c3, c4, c5, c6, c7, c8, c9, c10, c11, c12, c13, c14, c15, c16, c17, c18], _ =>
    obtain ⟨y0, e0⟩ := get_some hlen (i := 0) (by decide)
    have g0 : DataW.trod enc Tryz.prog W 0 (fun _ => true) true m 3 (([c0, c1, c2, c3, c4, c5, c6, c7, c8, c9, c10, c11, c12, c13, c14, c15, c16, c17, c18].drop 0).take (Tryz.prog.cellsOf 3)) = some y0 := (hf 0 _ rfl).trans e0
    rw [Tryz.cells3] at g0
    obtain ⟨x0, a0, _, b0⟩ := DataW.trod_int Tryz.underlying3 g0
    simp at a0
    clear e0 g0
    obtain ⟨y1, e1⟩ := get_some hlen (i := 1) (by decide)
    have g1 : DataW.trod enc Tryz.prog W 0 (fun _ => true) true m 3 (([c0, c1, c2, c3, c4, c5, c6, c7, c8, c9, c10, c11, c12, c13, c14, c15, c16, c17, c18].drop 1).take (Tryz.prog.cellsOf 3)) = some y1 := (hf 1 _ rfl).trans e1
    rw [Tryz.cells3] at g1
    obtain ⟨x1, a1, _, b1⟩ := DataW.trod_int Tryz.underlying3 g1
    simp at a1
    clear e1 g1
    obtain ⟨y2, e2⟩ := get_some hlen (i := 2) (by decide)
    have g2 : DataW.trod enc Tryz.prog W 0 (fun _ => true) true m 3 (([c0, c1, c2, c3, c4, c5, c6, c7, c8, c9, c10, c11, c12, c13, c14, c15, c16, c17, c18].drop 2).take (Tryz.prog.cellsOf 3)) = some y2 := (hf 2 _ rfl).trans e2
    rw [Tryz.cells3] at g2
    obtain ⟨x2, a2, _, b2⟩ := DataW.trod_int Tryz.underlying3 g2
    simp at a2
    clear e2 g2
    obtain ⟨y3, e3⟩ := get_some hlen (i := 3) (by decide)
    have g3 : DataW.trod enc Tryz.prog W 0 (fun _ => true) true m 3 (([c0, c1, c2, c3, c4, c5, c6, c7, c8, c9, c10, c11, c12, c13, c14, c15, c16, c17, c18].drop 3).take (Tryz.prog.cellsOf 3)) = some y3 := (hf 3 _ rfl).trans e3
    rw [Tryz.cells3] at g3
    obtain ⟨x3, a3, _, b3⟩ := DataW.trod_int Tryz.underlying3 g3
    simp at a3
    clear e3 g3
    obtain ⟨y4, e4⟩ := get_some hlen (i := 4) (by decide)
    have g4 : DataW.trod enc Tryz.prog W 0 (fun _ => true) true m 3 (([c0, c1, c2, c3, c4, c5, c6, c7, c8, c9, c10, c11, c12, c13, c14, c15, c16, c17, c18].drop 4).take (Tryz.prog.cellsOf 3)) = some y4 := (hf 4 _ rfl).trans e4
    rw [Tryz.cells3] at g4
    obtain ⟨x4, a4, _, b4⟩ := DataW.trod_int Tryz.underlying3 g4
    simp at a4
    clear e4 g4
    obtain ⟨y5, e5⟩ := get_some hlen (i := 5) (by decide)
    have g5 : DataW.trod enc Tryz.prog W 0 (fun _ => true) true m 3 (([c0, c1, c2, c3, c4, c5, c6, c7, c8, c9, c10, c11, c12, c13, c14, c15, c16, c17, c18].drop 5).take (Tryz.prog.cellsOf 3)) = some y5 := (hf 5 _ rfl).trans e5
    rw [Tryz.cells3] at g5
    obtain ⟨x5, a5, _, b5⟩ := DataW.trod_int Tryz.underlying3 g5
    simp at a5
    clear e5 g5
    obtain ⟨y6, e6⟩ := get_some hlen (i := 6) (by decide)
    have g6 : DataW.trod enc Tryz.prog W 0 (fun _ => true) true m 3 (([c0, c1, c2, c3, c4, c5, c6, c7, c8, c9, c10, c11, c12, c13, c14, c15, c16, c17, c18].drop 6).take (Tryz.prog.cellsOf 3)) = some y6 := (hf 6 _ rfl).trans e6
    rw [Tryz.cells3] at g6
    obtain ⟨x6, a6, _, b6⟩ := DataW.trod_int Tryz.underlying3 g6
    simp at a6
    clear e6 g6
    obtain ⟨y7, e7⟩ := get_some hlen (i := 7) (by decide)
    have g7 : DataW.trod enc Tryz.prog W 0 (fun _ => true) true m 3 (([c0, c1, c2, c3, c4, c5, c6, c7, c8, c9, c10, c11, c12, c13, c14, c15, c16, c17, c18].drop 7).take (Tryz.prog.cellsOf 3)) = some y7 := (hf 7 _ rfl).trans e7
    rw [Tryz.cells3] at g7
    obtain ⟨x7, a7, _, b7⟩ := DataW.trod_int Tryz.underlying3 g7
    simp at a7
    clear e7 g7
    obtain ⟨y8, e8⟩ := get_some hlen (i := 8) (by decide)
    have g8 : DataW.trod enc Tryz.prog W 0 (fun _ => true) true m 49 (([c0, c1, c2, c3, c4, c5, c6, c7, c8, c9, c10, c11, c12, c13, c14, c15, c16, c17, c18].drop 8).take (Tryz.prog.cellsOf 49)) = some y8 := (hf 8 _ rfl).trans e8
    rw [Tryz.cells49] at g8
    obtain ⟨x8, z8, a8, b8, d8⟩ := open_two Tryz.underlying49 rfl rfl rfl rfl Tryz.cells49 g8
    simp at a8
    clear e8 g8
    obtain ⟨y9, e9⟩ := get_some hlen (i := 9) (by decide)
    have g9 : DataW.trod enc Tryz.prog W 0 (fun _ => true) true m 49 (([c0, c1, c2, c3, c4, c5, c6, c7, c8, c9, c10, c11, c12, c13, c14, c15, c16, c17, c18].drop 10).take (Tryz.prog.cellsOf 49)) = some y9 := (hf 9 _ rfl).trans e9
    rw [Tryz.cells49] at g9
    obtain ⟨x9, z9, a9, b9, d9⟩ := open_two Tryz.underlying49 rfl rfl rfl rfl Tryz.cells49 g9
    simp at a9
    clear e9 g9
    obtain ⟨y10, e10⟩ := get_some hlen (i := 10) (by decide)
    have g10 : DataW.trod enc Tryz.prog W 0 (fun _ => true) true m 3 (([c0, c1, c2, c3, c4, c5, c6, c7, c8, c9, c10, c11, c12, c13, c14, c15, c16, c17, c18].drop 12).take (Tryz.prog.cellsOf 3)) = some y10 := (hf 10 _ rfl).trans e10
    rw [Tryz.cells3] at g10
    obtain ⟨x10, a10, _, b10⟩ := DataW.trod_int Tryz.underlying3 g10
    simp at a10
    clear e10 g10
    obtain ⟨y11, e11⟩ := get_some hlen (i := 11) (by decide)
    have g11 : DataW.trod enc Tryz.prog W 0 (fun _ => true) true m 3 (([c0, c1, c2, c3, c4, c5, c6, c7, c8, c9, c10, c11, c12, c13, c14, c15, c16, c17, c18].drop 13).take (Tryz.prog.cellsOf 3)) = some y11 := (hf 11 _ rfl).trans e11
    rw [Tryz.cells3] at g11
    obtain ⟨x11, a11, _, b11⟩ := DataW.trod_int Tryz.underlying3 g11
    simp at a11
    clear e11 g11
    obtain ⟨y12, e12⟩ := get_some hlen (i := 12) (by decide)
    have g12 : DataW.trod enc Tryz.prog W 0 (fun _ => true) true m 3 (([c0, c1, c2, c3, c4, c5, c6, c7, c8, c9, c10, c11, c12, c13, c14, c15, c16, c17, c18].drop 14).take (Tryz.prog.cellsOf 3)) = some y12 := (hf 12 _ rfl).trans e12
    rw [Tryz.cells3] at g12
    obtain ⟨x12, a12, _, b12⟩ := DataW.trod_int Tryz.underlying3 g12
    simp at a12
    clear e12 g12
    obtain ⟨y13, e13⟩ := get_some hlen (i := 13) (by decide)
    have g13 : DataW.trod enc Tryz.prog W 0 (fun _ => true) true m 38 (([c0, c1, c2, c3, c4, c5, c6, c7, c8, c9, c10, c11, c12, c13, c14, c15, c16, c17, c18].drop 15).take (Tryz.prog.cellsOf 38)) = some y13 := (hf 13 _ rfl).trans e13
    rw [Tryz.cells38] at g13
    obtain ⟨sa, sc, l, a13, r13, b13⟩ := open_ri1 g13
    simp at a13
    clear e13 g13
    obtain ⟨y14, e14⟩ := get_some hlen (i := 14) (by decide)
    have g14 : DataW.trod enc Tryz.prog W 0 (fun _ => true) true m 29 (([c0, c1, c2, c3, c4, c5, c6, c7, c8, c9, c10, c11, c12, c13, c14, c15, c16, c17, c18].drop 16).take (Tryz.prog.cellsOf 29)) = some y14 := (hf 14 _ rfl).trans e14
    rw [Tryz.cells29] at g14
    obtain ⟨x14, z14, a14, b14, d14⟩ := open_two Tryz.underlying29 rfl rfl rfl rfl Tryz.cells29 g14
    simp at a14
    clear e14 g14
    obtain ⟨y15, e15⟩ := get_some hlen (i := 15) (by decide)
    have g15 : DataW.trod enc Tryz.prog W 0 (fun _ => true) true m 3 (([c0, c1, c2, c3, c4, c5, c6, c7, c8, c9, c10, c11, c12, c13, c14, c15, c16, c17, c18].drop 18).take (Tryz.prog.cellsOf 3)) = some y15 := (hf 15 _ rfl).trans e15
    rw [Tryz.cells3] at g15
    obtain ⟨x15, a15, _, b15⟩ := DataW.trod_int Tryz.underlying3 g15
    simp at a15
    clear e15 g15
    exact ⟨{ house := x0, num := x1, clock := x2, day := x3, kind := x4, stone := x5, heap := x6, turns := x7, hardLo := x8, hardHi := z8, diffLo := x9, diffHi := z9, a := x10, b := x11, ring := x12, strokes := l, refH := x14, refN := z14, fix := x15 }, sa, sc, by simp only [NoteV.cells]; rw [a0, a1, a2, a3, a4, a5, a6, a7, a8.1, a8.2, a9.1, a9.2, a10, a11, a12, a13, a14.1, a14.2, a15], r13, { house := i64_of_wf b0, num := i64_of_wf b1, clock := i64_of_wf b2, day := i64_of_wf b3, kind := i64_of_wf b4, stone := i64_of_wf b5, heap := i64_of_wf b6, turns := i64_of_wf b7, hardLo := b8, hardHi := d8, diffLo := b9, diffHi := d9, a := i64_of_wf b10, b := i64_of_wf b11, ring := i64_of_wf b12, strokes := b13, refH := b14, refN := d14, fix := i64_of_wf b15 }⟩
end
end Go.Proofs.YtpjiakgfegnmcaaGreat
namespace Go.Proofs.YtpjiakgfegnmcaaGreat
open Go.ChangeShapes Go.WideShapes Go.ChangeAt Go.RowKit

theorem Tryz.cells23 : Tryz.prog.cellsOf 23 = 3 := by kernel_rfl
section
variable {H : Type} {enc : TypeId × Value → H} {W : World}
set_option maxRecDepth 100000 in
theorem hopen_frame {base : Nat} {v : Value} {d : DataW H} {p : List MemPlace} (hval : Value.okWide Tryz.prog W .any base 23 v)
    (h : DataW.Trod enc Tryz.prog W 0 (fun _ => true) true 23 v d p) : ∃ f : FrV, v = f.val := by
  obtain ⟨cs, rfl, hsz⟩ := okWide_struct Tryz.underlying23 hval
  obtain ⟨fuel, hf⟩ := h
  obtain ⟨y0, y1, y2, n, _, hl, g0, g1, g2⟩ := Go.Deep.trod_struct3 Tryz.underlying23 hf
  rw [Tryz.cells23] at hsz
  obtain ⟨l⟩ := cs
  match l, hsz with
  | [c0, c1, c2], _ =>
    have g0' : DataW.trod enc Tryz.prog W 0 (fun _ => true) true n 3 (([c0, c1, c2].drop 0).take (Tryz.prog.cellsOf 3)) = some y0 := g0
    have g1' : DataW.trod enc Tryz.prog W 0 (fun _ => true) true n 3 (([c0, c1, c2].drop 1).take (Tryz.prog.cellsOf 3)) = some y1 := g1
    have g2' : DataW.trod enc Tryz.prog W 0 (fun _ => true) true n 3 (([c0, c1, c2].drop 2).take (Tryz.prog.cellsOf 3)) = some y2 := g2
    rw [Tryz.cells3] at g0' g1' g2'
    obtain ⟨x0, a0, _, _⟩ := DataW.trod_int Tryz.underlying3 g0'
    obtain ⟨x1, a1, _, _⟩ := DataW.trod_int Tryz.underlying3 g1'
    obtain ⟨x2, a2, _, _⟩ := DataW.trod_int Tryz.underlying3 g2'
    simp at a0 a1 a2
    exact ⟨⟨x0, x1, x2⟩, by rw [a0, a1, a2]; rfl⟩
theorem cells_spot {a : Addr} {n : Nat} {cs : List Value} (hn : 0 < n) (h : W.cells? 0 a n = some cs) : a.spot = none := by
  have h2 := World.cells?_some h
  have h3 := h2.2.2 0 (by have := h2.1; omega)
  rw [List.getElem?_eq_getElem (by have := h2.1; omega)] at h3
  simpa [Addr.add] using World.cell?_spot h3
theorem open_rows {fuel : Nat} {cs : List Value} {y : DataW H × List MemPlace} {t e : TypeId} {k : Nat} (ht : Tryz.prog.underlying t = some (.slice e)) (hc : Tryz.prog.cellsOf e = k) (hk : 0 < k)
    (h : DataW.trod enc Tryz.prog W 0 (fun _ => true) true fuel t cs = some y) :
    ∃ a n c, cs = [.slice a n c] ∧ n ≤ c ∧ c ≤ maxLen ∧ (c = 0 ∨ ∃ b off, a = some ⟨b, off, none⟩ ∧ ∀ i, i < n → ∃ es m z, DataW.trod enc Tryz.prog W 0 (fun _ => true) true m e es = some z ∧ W.rangeAt b (off + i * k) es) := by
  rcases DataW.trod_slice ht h with ⟨hcs, hx⟩ | ⟨a, len', cap', elems, rest, m, _, hcs, hx, hb, hl, hm, hlen, hel, hsp, hns⟩
  · exact ⟨none, 0, 0, hcs, Nat.le_refl _, Nat.zero_le _, .inl rfl⟩
  · rw [hc] at hel hsp
    refine ⟨some a, len', cap', hcs, hl, hm, ?_⟩
    rcases Nat.eq_zero_or_pos cap' with h0 | h0
    · exact .inl h0
    · have hspot : a.spot = none := by
        rcases Nat.eq_zero_or_pos len' with h1 | h1
        · obtain ⟨h2, h3⟩ := hsp rfl
          have h4 := h3 0 (by omega)
          rw [List.getElem?_eq_getElem (by omega)] at h4
          cases hq : W.cells? 0 (a.add ((len' + 0) * k)) k with
          | none => rw [hq] at h4; cases h4
          | some cs => rw [show (len' + 0) * k = 0 by rw [h1]; simp] at hq; have := cells_spot hk hq; simpa [Addr.add] using this
        · have h4 := hel 0 h1
          rw [List.getElem?_eq_getElem (by omega)] at h4
          cases hq : W.cells? 0 (a.add (0 * k)) k with
          | none => rw [hq] at h4; cases h4
          | some cs => rw [Nat.zero_mul] at hq; have := cells_spot hk hq; simpa [Addr.add] using this
      obtain ⟨ab, ao, spot⟩ := a
      simp only at hspot
      subst hspot
      refine .inr ⟨ab, ao, rfl, fun i hi => ?_⟩
      have h1 := hel i hi
      rw [List.getElem?_eq_getElem (by omega)] at h1
      cases hcs : W.cells? 0 ((⟨ab, ao, none⟩ : Addr).add (i * k)) k with
      | none => rw [hcs] at h1; cases h1
      | some es =>
        rw [hcs] at h1
        have h2 := World.cells?_some hcs
        refine ⟨es, m, _, h1, fun j v hv => ?_⟩
        have hj : j < es.length := (List.getElem?_eq_some_iff.1 hv).1
        have h3 := h2.2.2 j (by have := h2.1; omega)
        rw [hv] at h3
        simpa [Addr.add_lit] using h3
theorem choose_list {α : Type} {n : Nat} {P : Nat → α → Prop} (h : ∀ i, i < n → ∃ x, P i x) : ∃ l : List α, l.length = n ∧ ∀ i x, l[i]? = some x → P i x := by
  induction n with
  | zero => exact ⟨[], rfl, by simp⟩
  | succ n ih =>
    obtain ⟨l, h1, h2⟩ := ih (fun i hi => h i (by omega))
    obtain ⟨x, hx⟩ := h n (by omega)
    refine ⟨l ++ [x], by simp [h1], fun i y hy => ?_⟩
    rcases Nat.lt_or_ge i l.length with hi | hi
    · rw [List.getElem?_append_left hi] at hy; exact h2 i y hy
    · rw [List.getElem?_append_right hi] at hy
      have : i - l.length = 0 := by
        rcases Nat.eq_zero_or_pos (i - l.length) with h0 | h0
        · exact h0
        · rw [List.getElem?_eq_none (by simp; omega)] at hy; cases hy
      rw [this] at hy
      simp at hy
      subst hy
      have : i = n := by omega
      rw [this]; exact hx
set_option maxRecDepth 100000 in
theorem open_notes1 {fuel : Nat} {cs : List Value} {y : DataW H × List MemPlace} (h : DataW.trod enc Tryz.prog W 0 (fun _ => true) true fuel 43 cs = some y) : ∃ a n c l, cs = [.slice a n c] ∧ RdNs W a n c l ∧ ∀ x ∈ l, x.Ok := by
  obtain ⟨a, n, c, rfl, h1, h2, h3⟩ := open_rows Tryz.underlying43 Tryz.cells51 (by decide) h
  rcases h3 with h3 | ⟨b, off, rfl, h3⟩
  · exact ⟨a, n, c, [], rfl, ⟨by simp; omega, h1, h2, .inl h3⟩, fun x hx => by cases hx⟩
  · obtain ⟨l, h4, h5⟩ := choose_list (P := fun i (x : NoteV) => ∃ es, W.rangeAt b (off + i * 19) es ∧ RdNote W es x) (fun i hi => by
      obtain ⟨es, m, z, h6, h7⟩ := h3 i hi
      obtain ⟨x, hx⟩ := open_note1 h6
      exact ⟨x, es, h7, hx⟩)
    refine ⟨_, n, c, l, rfl, ⟨h4, h1, h2, .inr ⟨b, off, rfl, fun i x hx => ?_⟩⟩, fun x hx => ?_⟩
    · obtain ⟨es, h6, sa, sc, rfl, h7, _⟩ := h5 i x hx
      exact ⟨sa, sc, h6, h7⟩
    · obtain ⟨i, hi⟩ := List.getElem?_of_mem hx
      obtain ⟨es, h6, sa, sc, rfl, _, h7⟩ := h5 i x hi
      exact h7
set_option maxRecDepth 100000 in
theorem open_notes {base : Nat} {v : Value} {d : DataW H} {p : List MemPlace} (hval : Value.okWide Tryz.prog W .any base 43 v)
    (h : DataW.Trod enc Tryz.prog W 0 (fun _ => true) true 43 v d p) : ∃ a n c l, v = .slice a n c ∧ RdNs W a n c l ∧ ∀ x ∈ l, x.Ok := by
  obtain ⟨a1, n1, c1, rfl⟩ := okWide_slice Tryz.underlying43 hval
  obtain ⟨fuel, hf⟩ := h
  obtain ⟨a, n, c, l, h1, h2⟩ := open_notes1 hf
  simp [Value.cells] at h1
  obtain ⟨rfl, rfl, rfl⟩ := h1
  exact ⟨_, _, _, l, rfl, h2⟩
end
end Go.Proofs.YtpjiakgfegnmcaaGreat
namespace Go.Proofs.YtpjiakgfegnmcaaGreat
open Go.ChangeShapes Go.WideShapes Go.ChangeAt Go.RowKit

structure AskV where
  day : Int
  clock : Int
  stone : Int
  ring : Int
  heap : Int
  rh : Int
  rn : Int
def AskV.cells (x : AskV) : Array Value := #[.int .i64 x.day, .int .i64 x.clock, .int .i64 x.stone, .int .i64 x.ring, .int .i64 x.heap, .int .i64 x.rh, .int .i64 x.rn]
structure AskV.Ok (x : AskV) : Prop where
  day : I64 x.day
  clock : I64 x.clock
  ref : nmOk (x.rh, x.rn)
theorem Tryz.cells31 : Tryz.prog.cellsOf 31 = 7 := by kernel_rfl
section
variable {H : Type} {enc : TypeId × Value → H} {W : World}
set_option maxHeartbeats 1000000 in
set_option maxRecDepth 100000 in
theorem open_ask {base : Nat} {v : Value} {d : DataW H} {p : List MemPlace} (hval : Value.okWide Tryz.prog W .any base 31 v)
    (h : DataW.Trod enc Tryz.prog W 0 (fun _ => true) true 31 v d p) : ∃ x : AskV, v = .agg x.cells ∧ x.Ok := by
  obtain ⟨cs, rfl, hsz⟩ := okWide_struct Tryz.underlying31 hval
  obtain ⟨fuel, hf0⟩ := h
  obtain ⟨xs, m, _, _, hl, hlen, hf⟩ := DataW.trod_struct Tryz.underlying31 hf0
  rw [Tryz.cells31] at hsz
  obtain ⟨l⟩ := cs
  match l, hsz with
  | [c0, c1, c2, c3, c4, c5, c6], _ =>
    obtain ⟨y0, e0⟩ := get_some hlen (i := 0) (by decide)
    have g0 : DataW.trod enc Tryz.prog W 0 (fun _ => true) true m 3 (([c0, c1, c2, c3, c4, c5, c6].drop 0).take (Tryz.prog.cellsOf 3)) = some y0 := (hf 0 _ rfl).trans e0
    rw [Tryz.cells3] at g0
    obtain ⟨x0, a0, _, b0⟩ := DataW.trod_int Tryz.underlying3 g0
    simp at a0
    clear e0 g0
    obtain ⟨y1, e1⟩ := get_some hlen (i := 1) (by decide)
    have g1 : DataW.trod enc Tryz.prog W 0 (fun _ => true) true m 3 (([c0, c1, c2, c3, c4, c5, c6].drop 1).take (Tryz.prog.cellsOf 3)) = some y1 := (hf 1 _ rfl).trans e1
    rw [Tryz.cells3] at g1
    obtain ⟨x1, a1, _, b1⟩ := DataW.trod_int Tryz.underlying3 g1
    simp at a1
    clear e1 g1
    obtain ⟨y2, e2⟩ := get_some hlen (i := 2) (by decide)
    have g2 : DataW.trod enc Tryz.prog W 0 (fun _ => true) true m 3 (([c0, c1, c2, c3, c4, c5, c6].drop 2).take (Tryz.prog.cellsOf 3)) = some y2 := (hf 2 _ rfl).trans e2
    rw [Tryz.cells3] at g2
    obtain ⟨x2, a2, _, b2⟩ := DataW.trod_int Tryz.underlying3 g2
    simp at a2
    clear e2 g2
    obtain ⟨y3, e3⟩ := get_some hlen (i := 3) (by decide)
    have g3 : DataW.trod enc Tryz.prog W 0 (fun _ => true) true m 3 (([c0, c1, c2, c3, c4, c5, c6].drop 3).take (Tryz.prog.cellsOf 3)) = some y3 := (hf 3 _ rfl).trans e3
    rw [Tryz.cells3] at g3
    obtain ⟨x3, a3, _, b3⟩ := DataW.trod_int Tryz.underlying3 g3
    simp at a3
    clear e3 g3
    obtain ⟨y4, e4⟩ := get_some hlen (i := 4) (by decide)
    have g4 : DataW.trod enc Tryz.prog W 0 (fun _ => true) true m 3 (([c0, c1, c2, c3, c4, c5, c6].drop 4).take (Tryz.prog.cellsOf 3)) = some y4 := (hf 4 _ rfl).trans e4
    rw [Tryz.cells3] at g4
    obtain ⟨x4, a4, _, b4⟩ := DataW.trod_int Tryz.underlying3 g4
    simp at a4
    clear e4 g4
    obtain ⟨y5, e5⟩ := get_some hlen (i := 5) (by decide)
    have g5 : DataW.trod enc Tryz.prog W 0 (fun _ => true) true m 29 (([c0, c1, c2, c3, c4, c5, c6].drop 5).take (Tryz.prog.cellsOf 29)) = some y5 := (hf 5 _ rfl).trans e5
    rw [Tryz.cells29] at g5
    obtain ⟨x5, z5, a5, b5, d5⟩ := open_two Tryz.underlying29 rfl rfl rfl rfl Tryz.cells29 g5
    simp at a5
    exact ⟨⟨x0, x1, x2, x3, x4, x5, z5⟩, by rw [a0, a1, a2, a3, a4, a5.1, a5.2]; rfl, ⟨i64_of_wf b0, i64_of_wf b1, ⟨b5, d5⟩⟩⟩
end
end Go.Proofs.YtpjiakgfegnmcaaGreat
namespace Go.Proofs.YtpjiakgfegnmcaaGreat
set_option linter.unusedSimpArgs false
open Go.RowKit

theorem RegOut.shape {W : World} {v : Value} {T : RegT} (h : RegOut W v T) : ∃ (ha : Option Addr) (hn hc : Nat) (ea : Option Addr) (en ec : Nat) (ca : Option Addr) (cn cc : Nat), v = .agg #[.slice ha hn hc, .slice ea en ec, .slice ca cn cc] := by
  obtain ⟨ha, hn, hc, ea, en, ec, ca, cn, cc, hs, es, rfl, _⟩ := h
  exact ⟨ha, hn, hc, ea, en, ec, ca, cn, cc, rfl⟩
structure HkAt (w W : World) (pF pA : Nat) (f : FrV) (x : AskV) : Prop where
  bel : Below w.heap.size w W
  fr : W.heap[pF]? = some (.cells #[.int .i64 f.rings, .int .i64 f.sectors, .int .i64 f.wide] 23 (0, 0))
  ak : W.heap[pA]? = some (.cells #[.int .i64 x.day, .int .i64 x.clock, .int .i64 x.stone, .int .i64 x.ring, .int .i64 x.heap, .int .i64 x.rh, .int .i64 x.rn] 31 (0, 0))
theorem HkAt.below {w W W' : World} {pF pA : Nat} {f : FrV} {x : AskV} (h : HkAt w W pF pA f x) (hb : Below W.heap.size W W') : HkAt w W' pF pA f x :=
  ⟨h.bel.trans (hb.mono h.bel.size), below_blk hb h.fr, below_blk hb h.ak⟩

end Go.Proofs.YtpjiakgfegnmcaaGreat
namespace Go.Proofs.YtpjiakgfegnmcaaGreat
set_option linter.unusedSimpArgs false
set_option linter.unusedVariables false

theorem insP_at (n : NoteV) : ∀ (l : List NoteV) (k : Nat), k ≤ l.length → (∀ j y, j < k → l[j]? = some y → whenC y n < 0) → (∀ y, l[k]? = some y → ¬ whenC y n < 0) → insP n l = l.take k ++ n :: l.drop k
  | [], k, hk, _, _ => by
    obtain rfl : k = 0 := by simpa using hk
    rfl
  | a :: l, 0, _, _, h2 => by
    rw [insP, if_neg (h2 a rfl)]
    rfl
  | a :: l, k + 1, hk, h1, h2 => by
    rw [insP, if_pos (h1 0 a (by omega) rfl), insP_at n l k (by simpa using hk) (fun j y hj hy => h1 (j + 1) y (by omega) hy) (fun y hy => h2 y hy)]
    rfl
def insG (lt : NoteV → NoteV → Bool) (n : NoteV) : List NoteV → List NoteV
  | [] => [n]
  | y :: ys => if lt y n = true then y :: insG lt n ys else n :: y :: ys
theorem insG_at (lt : NoteV → NoteV → Bool) (n : NoteV) : ∀ (l : List NoteV) (k : Nat), k ≤ l.length → (∀ j y, j < k → l[j]? = some y → lt y n = true) → (∀ y, l[k]? = some y → lt y n = false) → insG lt n l = l.take k ++ n :: l.drop k
  | [], k, hk, _, _ => by
    obtain rfl : k = 0 := by simpa using hk
    rfl
  | a :: l, 0, _, _, h2 => by
    rw [insG, if_neg (by rw [h2 a rfl]; decide)]
    rfl
  | a :: l, k + 1, hk, h1, h2 => by
    rw [insG, if_pos (h1 0 a (by omega) rfl), insG_at lt n l k (by simpa using hk) (fun j y hj hy => h1 (j + 1) y (by omega) hy) (fun y hy => h2 y hy)]
    rfl
def rjudgesB (x r : NoteV) : Bool := !doneB x && (doneB r && (decide (refOf x = nmOf r) && (decide (x.kind = 6) || (!decide (x.fix = 2) || decide (r.kind = 2)))))
theorem rjudges_eq {x : NoteV} (r : NoteV) (hx : 1 ≤ x.kind ∧ x.kind ≤ 6) : rjudgesB x r = candP r x := by
  unfold rjudgesB candP judgesB doneB
  rw [show inB x.kind 1 4 = decide (1 ≤ x.kind ∧ x.kind ≤ 4) from by unfold inB; simp]
  by_cases h : 1 ≤ x.kind ∧ x.kind ≤ 4
  · simp [h]
  · have h5 : x.kind = 5 ∨ x.kind = 6 := by omega
    rcases h5 with h5 | h5 <;> simp [h5] <;> cases inB r.kind 1 4 <;> simp
theorem judge_step (l : List NoteV) (r : NoteV) {k : Nat} {x : NoteV} (h : l[k]? = some x) : judgeP (l.take (k + 1)) r = betterP r (judgeP (l.take k) r) x := by
  unfold judgeP
  rw [take_snoc h, List.foldl_append]
  rfl
theorem better_skip {r x : NoteV} {b : Option NoteV} (hc : candP r x = false) : betterP r b x = b := by
  unfold betterP
  rw [if_neg (by rw [hc]; decide)]
theorem better_first {r x : NoteV} (hc : candP r x = true) : betterP r none x = some x := by
  unfold betterP
  rw [if_pos hc]
theorem better_some {r x y : NoteV} (hc : candP r x = true) : betterP r (some y) x = if knownC y x < 0 then some x else some y := by
  unfold betterP
  rw [if_pos hc]
def JdgAt (l : List NoteV) (r : NoteV) (k : Nat) (i : Int) : Prop := (i = -1 ∧ judgeP (l.take k) r = none) ∨ ∃ (j : Nat) (x : NoteV), i = (j : Int) ∧ l[j]? = some x ∧ judgeP (l.take k) r = some x
theorem JdgAt.start (l : List NoteV) (r : NoteV) : JdgAt l r 0 (-1) := .inl ⟨rfl, rfl⟩
theorem JdgAt.skip {l : List NoteV} {r x : NoteV} {k : Nat} {i : Int} (h : JdgAt l r k i) (hx : l[k]? = some x) (hc : candP r x = false) : JdgAt l r (k + 1) i := by
  have e : judgeP (l.take (k + 1)) r = judgeP (l.take k) r := by rw [judge_step l r hx, better_skip hc]
  unfold JdgAt
  rw [e]
  exact h
theorem JdgAt.first {l : List NoteV} {r x : NoteV} {k : Nat} {i : Int} (h : JdgAt l r k i) (hi : i < 0) (hx : l[k]? = some x) (hc : candP r x = true) : JdgAt l r (k + 1) (k : Int) := by
  rcases h with ⟨_, h⟩ | ⟨j, y, rfl, _⟩
  · exact .inr ⟨k, x, rfl, hx, by rw [judge_step l r hx, h, better_first hc]⟩
  · omega
theorem JdgAt.better {l : List NoteV} {r x y : NoteV} {k j : Nat} (h : JdgAt l r k (j : Int)) (hx : l[k]? = some x) (hy : l[j]? = some y) (hc : candP r x = true) (hk : knownC y x < 0) : JdgAt l r (k + 1) (k : Int) := by
  rcases h with ⟨h, _⟩ | ⟨j', y', e, hy', h⟩
  · omega
  · obtain rfl : j = j' := by omega
    rw [hy] at hy'
    cases hy'
    exact .inr ⟨k, x, rfl, hx, by rw [judge_step l r hx, h, better_some hc, if_pos hk]⟩
theorem JdgAt.worse {l : List NoteV} {r x y : NoteV} {k j : Nat} (h : JdgAt l r k (j : Int)) (hx : l[k]? = some x) (hy : l[j]? = some y) (hc : candP r x = true) (hk : ¬ knownC y x < 0) : JdgAt l r (k + 1) (j : Int) := by
  rcases h with ⟨h, _⟩ | ⟨j', y', e, hy', h⟩
  · omega
  · obtain rfl : j = j' := by omega
    rw [hy] at hy'
    cases hy'
    exact .inr ⟨j, y, rfl, hy, by rw [judge_step l r hx, h, better_some hc, if_neg hk]⟩
def evTo (l : List NoteV) (k : Nat) : List NoteV := sortP ((l.take k).filterMap (countP l))
theorem sortP_snoc (l : List NoteV) (n : NoteV) : sortP (l ++ [n]) = insP n (sortP l) := by simp [sortP, List.foldl_append]
theorem evTo_none {l : List NoteV} {k : Nat} {x : NoteV} (h : l[k]? = some x) (hc : countP l x = none) : evTo l (k + 1) = evTo l k := by
  unfold evTo
  rw [take_snoc h, List.filterMap_append, List.filterMap_cons_none hc, List.filterMap_nil, List.append_nil]
theorem evTo_some {l : List NoteV} {k : Nat} {x n : NoteV} (h : l[k]? = some x) (hc : countP l x = some n) : evTo l (k + 1) = insP n (evTo l k) := by
  unfold evTo
  rw [take_snoc h, List.filterMap_append, List.filterMap_cons_some hc, List.filterMap_nil, sortP_snoc]
theorem evTo_all (l : List NoteV) : evTo l l.length = eventsP l := by
  unfold evTo eventsP
  rw [List.take_length]
theorem evTo_len (l : List NoteV) (k : Nat) : (evTo l k).length ≤ k := by
  unfold evTo
  rw [(sortP_perm _).length_eq]
  refine Nat.le_trans (List.length_filterMap_le _ _) ?_
  rw [List.length_take]
  omega
end Go.Proofs.YtpjiakgfegnmcaaGreat
namespace Go.Proofs.YtpjiakgfegnmcaaGreat
set_option linter.unusedSimpArgs false
open Go.RowKit

theorem run_app_int (w : World) (base : Nat) (sa : Option Addr) (sn sc : Nat) (xs : List Value) (hown : w.ownsRow base 3 1 (.slice sa sn sc) sn xs) (xa : Option Addr) (m xc : Nat) (ys : List Value) (hrd : RdA w 1 xa m xc ys) (h1 : ∀ u ∈ ys, u.oneCell' = true)
    (hbytes : (sn + m) * 8 ≤ 140737488355328) (hbase : base ≤ w.heap.size) :
    ∃ a' c' w', (Builtin.append_ #[38, 38] 38 #[.slice sa sn sc, .slice xa m xc]).run Tryz.prog w = .ok (.slice a' (sn + m) c') w' ∧ w'.ownsRow base 3 1 (.slice a' (sn + m) c') (sn + m) (xs ++ ys) ∧ w.grownBy w' (Value.ownBlock (.slice sa sn sc)) := by
  obtain ⟨i, hi, hz0, hz1, hz2⟩ := info_parts infoInt
  exact run_append_rd w base 38 38 3 i _ 1 8 Tryz.underlying38 hi hz0 hz1 hz2 rfl (by decide) sa sn sc xs hown xa m xc ys hrd h1 (by unfold maxLen; omega) hbytes hbase
section
attribute [local go_sem] noteA_15
set_option maxHeartbeats 4000000 in
set_option maxRecDepth 100000 in
theorem rcopy_any (n : NoteV) (sa : Option Addr) (sc : Nat) (w : World) (hs : RdI w sa n.strokes.length sc n.strokes) (hl : n.strokes.length ≤ 1000000000) :
    Calls Tryz.prog 86 #[.agg (noteA n sa sc)] w fun e w' => ∃ ta tc, e = .returned (.agg (noteA n ta tc)) ∧ w'.ownsRow w.heap.size 3 1 (.slice ta n.strokes.length tc) n.strokes.length (n.strokes.map intV) ∧ Below w.heap.size w w' := by
  have I43 := Lib.hid (show ∀ (m : NoteV) (a : Option Addr) (c : Nat), (Tryz.prog.info? 51).map (·.size) = some (noteA m a c).size from fun m a c => by kernel_rfl)
  go_enter Tryz.func86, Tryz.ntmps86
  go_upto_region 1 with fail
  rw [← noteA_zero]
  have g0 := heap_before _ (.cells (noteA zeroN none 0) 51) _ _ (heap_last w (.cells (noteA n sa sc) 51))
  have g1 := heap_at (w.alloc (.cells (noteA n sa sc) 51)) (.cells (noteA zeroN none 0) 51) (w.heap.size + 1) (by simp)
  have bb : Below w.heap.size w ((w.alloc (.cells (noteA n sa sc) 51)).alloc (.cells (noteA zeroN none 0) 51)) := ((Below.refl _ _).alloc (Nat.le_refl _) _).alloc (by simp) _
  have E0 := Lib.hid g0
  have E1 := Lib.hid g1
  have B0 := Lib.hid bb
  have RI := Lib.hid (hs.below bb)
  clear g0 g1 bb hs
  generalize (w.alloc (.cells (noteA n sa sc) 51)).alloc (.cells (noteA zeroN none 0) 51) = W2 at *
  generalize hp0 : w.heap.size = p0 at *
  generalize hp1 : p0 + 1 = p1 at *
  have HP0 := Lib.hid hp0
  have HP1 := Lib.hid hp1
  clear hp0 hp1
  go_upto_region 2 with (first
    | (refine wpList_load_row rfl 51 _ rfl p0 rfl 51 (noteA n sa sc) (0, 0) _ E0.out Tryz.underlying51 rfl (I43.out _ _ _) ?_)
    | (refine wpList_store_newp W2 rfl 51 _ _ rfl W2.heap.size rfl _ (noteA n sa sc) rfl rfl (I43.out _ _ _) rfl (noteA_one n sa sc) ?_))
  have b2 : Below W2.heap.size W2 (W2.alloc (.cells (noteA n sa sc) 51)) := (Below.refl _ _).alloc (Nat.le_refl _) _
  have E2 := Lib.hid (heap_last W2 (.cells (noteA n sa sc) 51))
  have F1 := Lib.hid (below_blk b2 E1.out)
  have D0 := Lib.hid (below_blk b2 E0.out)
  have B2 := Lib.hid (B0.out.trans (b2.mono (by have := B0.out.size; have := HP0.out; omega)))
  have R2 := Lib.hid (RI.out.below b2)
  have N12 : Hid (p1 < W2.heap.size) := Lib.hid (blk_lt E1.out)
  clear b2 E0 E1 B0 RI
  obtain ⟨p2, hp2⟩ : ∃ p, Hid (W2.heap.size = p) := ⟨_, Lib.hid rfl⟩
  rw [hp2.out] at E2 N12 ⊢
  generalize W2.alloc (.cells (noteA n sa sc) 51) = W3 at *
  obtain ⟨m, hm⟩ : ∃ m, Hid (n.strokes.length = m) := ⟨_, Lib.hid rfl⟩
  rw [hm.out] at R2 hl
  have hb3 : Below W3.heap.size W3 (W3.alloc (.cells #[] 3)) := (Below.refl _ _).alloc (Nat.le_refl _) _
  have c15 : (W3.alloc (.cells #[] 3)).cell? ⟨p0, 15, none⟩ = some (.slice sa m sc) := by rw [← hm.out]; exact cell_of (below_blk hb3 D0.out) 15 _ rfl
  have o0 := World.ownsRow_lit (base := W3.heap.size) (e := 3) (size := 1) W3 #[] 0 (Nat.le_refl _) (by unfold maxLen; omega) rfl
  obtain ⟨a', c', v5, hrun, ho, hg⟩ := run_app_int (W3.alloc (.cells #[] 3)) W3.heap.size _ 0 0 _ o0 sa m sc _ (R2.out.below hb3) (intV_one _) (by omega) hb3.size
  have hb5 : Below W3.heap.size W3 v5 := hb3.grown hg hb3.size (fun k hk => (o0.lt k hk).1)
  rw [Nat.zero_add] at hrun ho
  have O5 : Hid (v5.ownsRow W3.heap.size 3 1 (.slice a' m c') m (n.strokes.map intV)) := Lib.hid (by simpa using ho)
  have G2 := Lib.hid (below_blk hb5 E2.out)
  have G1 := Lib.hid (below_blk hb5 F1.out)
  have B5 := Lib.hid (B2.out.trans (hb5.mono (by have := B2.out.size; have := HP0.out; omega)))
  have NX : Hid (p2 < W3.heap.size) := Lib.hid (blk_lt E2.out)
  have B02 : Hid (p0 ≤ W3.heap.size) := Lib.hid (by have := B2.out.size; have := HP0.out; omega)
  clear hb3 o0 ho hg hb5 E2 F1 B2 R2
  have z15 := cell_of G2.out 15 (.slice sa n.strokes.length sc) rfl
  have f15 := frozen_of G2.out 15
  go_upto_region 3 with (first
    | (refine wpList_append_eq rfl _ _ _ rfl _ _ _ rfl rfl hrun ?_)
    | fail)
  clear c15 z15 f15 hrun
  have g5 := setCell_grown v5 p2 15 (.slice a' m c')
  have E3 : Hid ((v5.setCell ⟨p2, 15, none⟩ (.slice a' m c')).heap[p2]? = some (.cells (noteA n a' c') 51 (0, 0))) := Lib.hid (by
    have := setCell_at G2.out 15 (.slice a' m c')
    rw [← hm.out, noteA_15s] at this
    rw [← hm.out]; exact this)
  have E4 : Hid ((v5.setCell ⟨p2, 15, none⟩ (.slice a' m c')).heap[p1]? = some (.cells (noteA zeroN none 0) 51 (0, 0))) := Lib.hid (grown_blk g5 G1.out (fun e => by have := N12.out; have e2 := Option.some.inj e; omega))
  have O6 := Lib.hid (O5.out.kept g5 (.inr (own_no O5.out G2.out (fun cur h => by simp at h)).symm))
  have B6 := Lib.hid (B5.out.grown g5 (by have := B5.out.size; have := HP0.out; omega) (fun q hq => by cases hq; have := N12.out; have := HP1.out; omega))
  clear g5 O5 G1 G2 B5
  generalize v5.setCell ⟨p2, 15, none⟩ (.slice a' m c') = W4 at *
  have oneN := noteA_one n a' c'
  go_wp2_with (first
    | (refine wpList_load_row rfl 51 _ rfl p2 rfl 51 (noteA n a' c') (0, 0) _ E3.out Tryz.underlying51 rfl (I43.out _ _ _) ?_)
    | (refine wpList_store_rowN rfl 51 _ _ rfl p1 (noteA zeroN none 0) (noteA n a' c') 51 rfl rfl E4.out (I43.out _ _ _) rfl oneN ?_))
  go_wp2_with fail
  have hr := setRow_at W4 p1 _ (noteA n a' c') _ _ E4.out
  refine bodyPost_ret (results_cell_row rfl _ _ p1 51 (noteA n a' c') (0, 0) _ rfl hr Tryz.underlying51 rfl (I43.out _ _ _)) rfl ?_
  have G4 := setRow_grown W4 p1 (noteA n a' c')
  refine ⟨a', c', rfl, ?_, ?_⟩
  · rw [hm.out]
    exact own_mono (O6.out.kept G4 (.inr (own_no O6.out E4.out (fun cur h => by simp at h)).symm)) (by have := B02.out; have := HP0.out; omega)
  · rw [HP0.out]
    exact B6.out.grown G4 (by have := B6.out.size; have := HP0.out; omega) (fun q hq => by cases hq; have := HP1.out; omega)
end
end Go.Proofs.YtpjiakgfegnmcaaGreat
namespace Go.Proofs.YtpjiakgfegnmcaaGreat
set_option linter.unusedSimpArgs false
open Go.RowKit

set_option maxHeartbeats 4000000 in
set_option maxRecDepth 100000 in
theorem rheap_any (hs : List EvV) (a : Option Addr) (n c : Nat) (h m : Int) (w : World) (hr : RdEs w a n c hs) :
    Calls Tryz.prog 47 #[.slice a n c, .agg #[.int .i64 h, .int .i64 m]] w fun e w' => e = .returned (.int .i64 (idxI hs (isNm h m))) ∧ Below w.heap.size w w' := by
  have I21 : (Tryz.prog.info? 53).map (·.size) = some 21 := by kernel_rfl
  have hn63 := hr.maxn
  have HN := Lib.hid hr.1
  have B0 := Lib.hid ((Below.refl w.heap.size w).alloc (Nat.le_refl _) (.cells #[.int .i64 h, .int .i64 m] 29))
  have N0 := Lib.hid (heap_last w (.cells #[.int .i64 h, .int .i64 m] 29))
  have RE := Lib.hid (hr.below B0.out)
  clear hr
  have QA : Hid (∀ (k : Nat) x, hs[k]? = some x → isNm h m x = true → (∀ j y, j < k → hs[j]? = some y → isNm h m y = false) → idxI hs (isNm h m) = k) := Lib.hid (fun k x hx hp hb => idxI_at hx hp hb)
  have QN : Hid ((∀ j y, j < n → hs[j]? = some y → isNm h m y = false) → idxI hs (isNm h m) = -1) := Lib.hid (fun hb => idxI_none (fun j y hj hy => hb j y (by rw [← HN.out]; exact hj) hy))
  generalize idxI hs (isNm h m) = q at *
  go_enter Tryz.func47, Tryz.ntmps47
  go_upto_region 1 with fail
  obtain ⟨p, hp⟩ : ∃ p, Hid (w.heap.size = p) := ⟨_, Lib.hid rfl⟩
  rw [hp.out] at N0 ⊢
  generalize w.alloc (.cells #[.int .i64 h, .int .i64 m] 29) = W0 at *
  have n0 := cell_of N0.out 0 (.int .i64 h) rfl
  have n1 := cell_of N0.out 1 (.int .i64 m) rfl
  go_wp2_with fail
  go_loopw [5] (fun i wr => ∃ k : Nat, i = .int .i64 k ∧ k ≤ n ∧ Hid (∀ j y, j < k → hs[j]? = some y → isNm h m y = false) ∧ ∃ q, wr = W0.drewN q) (fun i _ => n - (intOf i).toNat)
  case atStart => exact ⟨0, rfl, Nat.zero_le _, Lib.hid (fun j y h => by omega), 0, rfl⟩
  case round =>
    obtain ⟨k, rfl, hk, HB, q', rfl⟩ := hrel
    by_cases hkn : k < n
    · have t0 : decide ((k : Int) < (n : Int)) = true := by simp; omega
      obtain ⟨b, off, rfl, hat⟩ := RE.out.at (show 0 < n by omega)
      obtain ⟨x, Hx⟩ : ∃ x, hs[k]? = some x := ⟨hs[k]'(by rw [HN.out]; exact hkn), List.getElem?_eq_getElem (by rw [HN.out]; exact hkn)⟩
      have hra := hat k x Hx
      obtain ⟨o, ho⟩ : ∃ o, Hid (off + k * 21 = o) := ⟨_, Lib.hid rfl⟩
      rw [ho.out] at hra
      have x0 := hra 0 (.int .i64 x.nm.1) rfl
      have x1 := hra 1 (.int .i64 x.nm.2) rfl
      rw [Nat.add_zero] at x0
      have hi := fun W => idx_off (W := W) (c := c) (b := b) Tryz.underlying24 I21 hkn ho.out
      have hk64 : (k : Int) + 1 ≤ 9223372036854775807 := by omega
      have HX := Lib.hid Hx
      clear hat Hx hra
      cases hp1 : isNm h m x with
      | true =>
        have hp2 := of_decide_eq_true hp1
        have HQ := Lib.hid (QA.out k x HX.out hp1 HB.out)
        rw [hp2.1] at x0; rw [hp2.2] at x1
        clear hp1 hp2
        go_wp2
        go_quiet (fail)
        go_wp2
        go_ret
        exact ⟨by rw [HQ.out]; rfl, below_drewN (below_drewN B0.out _) _⟩
      | false =>
        have hp2 := of_decide_eq_false hp1
        have HP := Lib.hid hp1
        clear hp1
        by_cases e1 : x.nm.1 = h
        · have e2 : (x.nm.2 == m) = false := by rw [beq_eq_false_iff_ne]; exact fun h' => hp2 ⟨e1, h'⟩
          rw [e1] at x0
          clear hp2 e1
          go_wp2
          go_quiet (fail)
          go_wp2
          go_roundw
          case rel => exact ⟨k + 1, by go_num, by omega, Lib.hid (fun j y hj hy => by
            rcases Nat.lt_or_ge j k with h' | h'
            · exact HB.out j y h' hy
            · have e : j = k := by omega
              subst e
              rw [HX.out] at hy
              cases hy
              exact HP.out), _, rfl⟩
          case measure => simp [intOf]; omega
        · have e2 : (x.nm.1 == h) = false := by rw [beq_eq_false_iff_ne]; exact e1
          clear hp2 e1
          go_wp2
          go_quiet (fail)
          go_wp2
          go_roundw
          case rel => exact ⟨k + 1, by go_num, by omega, Lib.hid (fun j y hj hy => by
            rcases Nat.lt_or_ge j k with h' | h'
            · exact HB.out j y h' hy
            · have e : j = k := by omega
              subst e
              rw [HX.out] at hy
              cases hy
              exact HP.out), _, rfl⟩
          case measure => simp [intOf]; omega
    · have t0 : decide ((k : Int) < (n : Int)) = false := by simp; omega
      have HQ := Lib.hid (QN.out (fun j y hj hy => HB.out j y (by omega) hy))
      go_wp2
      go_ret
      exact ⟨by rw [HQ.out]; rfl, below_drewN B0.out _⟩
end Go.Proofs.YtpjiakgfegnmcaaGreat
namespace Go.Proofs.YtpjiakgfegnmcaaGreat
open Go.RowKit

structure LocF (w W : World) (p0 p1 : Nat) (f : FrV) (n : NoteV) (sa : Option Addr) (sc : Nat) : Prop where
  e0 : W.heap[p0]? = some (.cells #[.int .i64 f.rings, .int .i64 f.sectors, .int .i64 f.wide] 23 (0, 0))
  e1 : W.heap[p1]? = some (.cells (noteA n sa sc) 51 (0, 0))
  b : Below p0 w W
  lt : p0 < p1
theorem LocF.below {w W W' : World} {p0 p1 : Nat} {f : FrV} {n : NoteV} {sa : Option Addr} {sc : Nat} (h : LocF w W p0 p1 f n sa sc) (hb : Below W.heap.size W W') : LocF w W' p0 p1 f n sa sc := by
  have g : ∀ {k : Nat} {o : Obj}, W.heap[k]? = some o → W'.heap[k]? = some o := fun {k o} hk => (hb.block k (Array.getElem?_eq_some_iff.1 hk).1).trans hk
  have h0 := (Array.getElem?_eq_some_iff.1 h.e0).1
  exact ⟨g h.e0, g h.e1, h.b.trans (hb.mono (by omega)), h.lt⟩
theorem frame_cells {W : World} {p : Nat} {A : Array Value} {t : TypeId} {sp : Nat × Nat} (h : W.heap[p]? = some (.cells A t sp)) (j : Nat) (v : Value) (hv : A[j]? = some v) : W.cell? ⟨p, j, none⟩ = some v := by
  simp [World.cell?, h, hv]
section
attribute [local go_sem] noteA_0 noteA_1 noteA_2 noteA_3 noteA_4 noteA_5 noteA_6 noteA_7 noteA_8 noteA_9 noteA_10 noteA_11 noteA_12 noteA_13 noteA_14 noteA_15 noteA_16 noteA_17 noteA_18
variable (f : FrV) (n : NoteV) (sa : Option Addr) (sc : Nat) (w : World)
set_option maxHeartbeats 20000000 in
set_option maxRecDepth 100000 in
theorem well_2 (hv : f.valid = true) (hs : RdI w sa n.strokes.length sc n.strokes) (hk : n.kind = 2) :
    Calls Tryz.prog 65 #[f.val, .agg (noteA n sa sc)] w fun e w' => e = .returned (.bool (wellB f n)) ∧ Below w.heap.size w w' := by
  have I43 := Lib.hid (show ∀ (m : NoteV) (a : Option Addr) (c : Nat), (Tryz.prog.info? 51).map (·.size) = some (noteA m a c).size from fun m a c => by kernel_rfl)
  have g1 := heap_at (w.alloc (.cells #[.int .i64 f.rings, .int .i64 f.sectors, .int .i64 f.wide] 23)) (.cells (noteA n sa sc) 51) (w.heap.size + 1) (by simp)
  have g0 := heap_before (w.alloc (.cells #[.int .i64 f.rings, .int .i64 f.sectors, .int .i64 f.wide] 23)) (.cells (noteA n sa sc) 51) _ _ (heap_at w (.cells #[.int .i64 f.rings, .int .i64 f.sectors, .int .i64 f.wide] 23) _ rfl)
  have bb : Below w.heap.size w ((w.alloc (.cells #[.int .i64 f.rings, .int .i64 f.sectors, .int .i64 f.wide] 23)).alloc (.cells (noteA n sa sc) 51)) := ((Below.refl _ _).alloc (Nat.le_refl _) _).alloc (by simp) _
  have L0 : Hid (LocF w ((w.alloc (.cells #[.int .i64 f.rings, .int .i64 f.sectors, .int .i64 f.wide] 23)).alloc (.cells (noteA n sa sc) 51)) w.heap.size (w.heap.size + 1) f n sa sc) := Lib.hid ⟨g0, g1, bb, by omega⟩
  clear g0 g1 bb
  unfold FrV.val
  go_enter Tryz.func65, Tryz.ntmps65
  go_upto_region 1 with fail
  generalize hW0 : (w.alloc (.cells #[.int .i64 f.rings, .int .i64 f.sectors, .int .i64 f.wide] 23)).alloc (.cells (noteA n sa sc) 51) = W0 at *
  generalize hp0 : w.heap.size = p0 at *
  generalize hp1 : p0 + 1 = p1 at *
  have RDb := Lib.hid (show ∀ W', Below p0 w W' → RdI W' sa n.strokes.length sc n.strokes from fun W' h => hs.below (by rw [hp0]; exact h))
  have HP0 := Lib.hid hp0; clear hp0 hp1 hW0
  have HV := Lib.hid hv; clear hv
  have HK := Lib.hid hk; clear hk
  have q2 : (n.kind == 2) = true := by simp [HK.out]
  have q2' : decide (n.kind = 2) = true := by simp [HK.out]
  have q5 : (n.kind == 5) = false := by simp [HK.out]
  have q5' : decide (n.kind = 5) = false := by simp [HK.out]
  have q6 : (n.kind == 6) = false := by simp [HK.out]
  have q6' : decide (n.kind = 6) = false := by simp [HK.out]
  have HRS := Lib.hid (show refersB n = true by simp [refersB, HK.out])
  have HK2 := Lib.hid (show ¬ n.kind = 6 ∧ ¬ n.kind = 5 by rw [HK.out]; decide)
  go_wp2_with   (first
      | (refine wpList_load_row rfl 51 _ rfl p1 rfl 51 (noteA n sa sc) (0, 0) _ L0.out.e1 Tryz.underlying51 rfl (I43.out _ _ _) ?_)
      | (refine wpList_load_rowG ?hw 51 _ rfl p1 rfl 51 (noteA n sa sc) (0, 0) _ L0.out.e1 Tryz.underlying51 rfl (I43.out _ _ _) ?_; case hw => rfl))
  refine (rNameOf_any n sa sc _).mono ?_
  rintro e w1 ⟨rfl, b1⟩
  have L1 := Lib.hid (L0.out.below b1); clear b1
  go_wp2_with fail
  refine (rrightName_any n.house n.num _).mono ?_
  rintro e w2 ⟨rfl, b2⟩
  have L2 := Lib.hid (L1.out.below b2); clear b2
  cases hrn : rightNameB n.house n.num
  · have hR : wellB f n = false := by simp [wellB, HRS.out, HK2.out.1, HK2.out.2, hrn]
    have HRX := Lib.hid hR; clear hR
    go_wp2_with fail
    go_ret
    rw [HRX.out]
    exact ⟨rfl, by first | exact L2.out.b | (rw [HP0.out]; exact L2.out.b)⟩
  · have HRN := Lib.hid hrn; clear hrn
    have k2 := note_cells L2.out.e1 2 _ rfl
    simp only [Nat.zero_add] at k2
    have k3 := note_cells L2.out.e1 3 _ rfl
    simp only [Nat.zero_add] at k3
    have k4 := note_cells L2.out.e1 4 _ rfl
    simp only [Nat.zero_add] at k4
    have k16 := note_cells L2.out.e1 16 _ rfl
    simp only [Nat.zero_add] at k16
    have k17 := note_cells L2.out.e1 17 _ rfl
    simp only [Nat.zero_add] at k17
    go_wp2_with fail
    refine (rin_any n.clock 1 1099511627776 _).mono ?_
    rintro e w' ⟨rfl, rfl⟩
    cases hcl : inB n.clock 1 1099511627776
    · have hR : wellB f n = false := by simp [wellB, HRS.out, HK2.out.1, HK2.out.2, HRN.out, hcl]
      have HRX := Lib.hid hR; clear hR
      go_wp2_with fail
      go_ret
      rw [HRX.out]
      exact ⟨rfl, by first | exact L2.out.b | (rw [HP0.out]; exact L2.out.b)⟩
    · have HCL := Lib.hid hcl; clear hcl
      go_wp2_with fail
      refine (rin_any n.day 0 99999 _).mono ?_
      rintro e w' ⟨rfl, rfl⟩
      cases hda : inB n.day 0 99999
      · have hR : wellB f n = false := by simp [wellB, HRS.out, HK2.out.1, HK2.out.2, HRN.out, HCL.out, hda]
        have HRX := Lib.hid hR; clear hR
        go_wp2_with fail
        go_ret
        rw [HRX.out]
        exact ⟨rfl, by first | exact L2.out.b | (rw [HP0.out]; exact L2.out.b)⟩
      · have HDA := Lib.hid hda; clear hda
        by_cases h16 : n.refH = 0
        · by_cases h17 : n.refN = 0
          · have r16 : (n.refH == 0) = true := by simp [h16]
            have r16' : decide (n.refH = 0) = true := by simp [h16]
            have r17 : (n.refN == 0) = true := by simp [h17]
            have r17' : decide (n.refN = 0) = true := by simp [h17]
            have HNM := Lib.hid (show namedB n = false by simp [namedB, h16, h17])
            clear h16 h17
            have hR : wellB f n = false := by simp [wellB, HRS.out, HK2.out.1, HK2.out.2, HRN.out, HCL.out, HDA.out, HNM.out]
            have HRX := Lib.hid hR; clear hR
            go_wp2_with fail
            go_ret
            rw [HRX.out]
            exact ⟨rfl, by first | exact L2.out.b | (rw [HP0.out]; exact L2.out.b)⟩
          · have r16 : (n.refH == 0) = true := by simp [h16]
            have r16' : decide (n.refH = 0) = true := by simp [h16]
            have r17 : (n.refN == 0) = false := by simp [h17]
            have r17' : decide (n.refN = 0) = false := by simp [h17]
            have HNM := Lib.hid (show namedB n = true by simp [namedB, h16, h17])
            clear h16 h17
            go_wp2_with fail
            refine (rrightName_any n.refH n.refN _).mono ?_
            rintro e w3 ⟨rfl, b3⟩
            have L3 := Lib.hid (L2.out.below b3); clear b3
            cases hrf : rightNameB n.refH n.refN
            · have hR : wellB f n = false := by simp [wellB, HRS.out, HK2.out.1, HK2.out.2, HRN.out, HCL.out, HDA.out, HNM.out, hrf]
              have HRX := Lib.hid hR; clear hR
              go_wp2_with fail
              go_ret
              rw [HRX.out]
              exact ⟨rfl, by first | exact L3.out.b | (rw [HP0.out]; exact L3.out.b)⟩
            · have HRF := Lib.hid hrf; clear hrf
              clear k2 k3 k4 k16 k17
              have k4 := note_cells L3.out.e1 4 _ rfl
              simp only [Nat.zero_add] at k4
              by_cases hfx : n.fix = 0
              · have hfx1 : (n.fix == 0) = true := by simp [hfx]
                have hfx2 : decide (n.fix = 0) = true := by simp [hfx]
                have HFX := Lib.hid hfx; clear hfx
                have k18 := note_cells L3.out.e1 18 _ rfl
                simp only [Nat.zero_add] at k18
                have c0 := frame_cells L3.out.e0 0 _ rfl
                have c1 := frame_cells L3.out.e0 1 _ rfl
                have c2 := frame_cells L3.out.e0 2 _ rfl
                go_wp2_with   (first
                    | (refine wpList_load_row rfl 51 _ rfl p1 rfl 51 (noteA n sa sc) (0, 0) _ L3.out.e1 Tryz.underlying51 rfl (I43.out _ _ _) ?_)
                    | (refine wpList_load_rowG ?hw 51 _ rfl p1 rfl 51 (noteA n sa sc) (0, 0) _ L3.out.e1 Tryz.underlying51 rfl (I43.out _ _ _) ?_; case hw => rfl))

                refine (right_any f n sa sc _ HV.out (RDb.out _ L3.out.b) (n.kind)).mono ?_
                rintro e w5 ⟨rfl, b5⟩
                have L5 := Lib.hid (L3.out.below b5); clear b5
                cases hr : rightB f (n.kind) n
                · have hR : wellB f n = false := by simp [wellB, HRS.out, HK2.out.1, HK2.out.2, HRN.out, HCL.out, HDA.out, HNM.out, HRF.out, HFX.out, hr]
                  have HRX := Lib.hid hR; clear hR
                  go_wp2_with fail
                  go_ret
                  rw [HRX.out]
                  exact ⟨rfl, by first | exact L5.out.b | (rw [HP0.out]; exact L5.out.b)⟩
                · have HRR := Lib.hid hr; clear hr
                  go_wp2_with   (first
                      | (refine wpList_load_row rfl 51 _ rfl p1 rfl 51 (noteA n sa sc) (0, 0) _ L5.out.e1 Tryz.underlying51 rfl (I43.out _ _ _) ?_)
                      | (refine wpList_load_rowG ?hw 51 _ rfl p1 rfl 51 (noteA n sa sc) (0, 0) _ L5.out.e1 Tryz.underlying51 rfl (I43.out _ _ _) ?_; case hw => rfl))

                  refine (bare_any n sa sc _ (RDb.out _ L5.out.b) (n.kind)).mono ?_
                  rintro e w6 ⟨ta, tc, rfl, hrd, b6⟩
                  have L6 := Lib.hid (L5.out.below b6); clear b6
                  have hR : wellB f n = sameB (bareR (n.kind) n) zeroN := by simp [wellB, HRS.out, HK2.out.1, HK2.out.2, HRN.out, HCL.out, HDA.out, HNM.out, HRF.out, HFX.out, HRR.out]
                  obtain ⟨N, HN⟩ : ∃ N, Hid (bareR (n.kind) n = N) := ⟨_, Lib.hid rfl⟩
                  rw [HN.out] at hrd hR
                  have HRX := Lib.hid hR; clear hR
                  have RD6 := Lib.hid hrd; clear hrd
                  rw [HN.out]
                  go_wp2_with fail
                  refine (rsame_any N zeroN ta tc none 0 _ RD6.out (RdA.nil _ 1)).mono ?_
                  rintro e w7 ⟨rfl, b7⟩
                  have L7 := Lib.hid (L6.out.below b7); clear b7
                  go_wp2_with fail
                  go_ret
                  rw [HRX.out]
                  exact ⟨rfl, by first | exact L7.out.b | (rw [HP0.out]; exact L7.out.b)⟩
              · have hfx1 : (n.fix == 0) = false := by simp [hfx]
                have hfx2 : decide (n.fix = 0) = false := by simp [hfx]
                have HFX := Lib.hid hfx; clear hfx
                have k18 := note_cells L3.out.e1 18 _ rfl
                simp only [Nat.zero_add] at k18
                have hR : wellB f n = false := by simp [wellB, HRS.out, HK2.out.1, HK2.out.2, HRN.out, HCL.out, HDA.out, HNM.out, HRF.out, HFX.out]
                have HRX := Lib.hid hR; clear hR
                go_wp2_with fail
                go_ret
                rw [HRX.out]
                exact ⟨rfl, by first | exact L3.out.b | (rw [HP0.out]; exact L3.out.b)⟩
        · have r16 : (n.refH == 0) = false := by simp [h16]
          have r16' : decide (n.refH = 0) = false := by simp [h16]
          have HNM := Lib.hid (show namedB n = true by simp [namedB, h16])
          clear h16
          go_wp2_with fail
          refine (rrightName_any n.refH n.refN _).mono ?_
          rintro e w3 ⟨rfl, b3⟩
          have L3 := Lib.hid (L2.out.below b3); clear b3
          cases hrf : rightNameB n.refH n.refN
          · have hR : wellB f n = false := by simp [wellB, HRS.out, HK2.out.1, HK2.out.2, HRN.out, HCL.out, HDA.out, HNM.out, hrf]
            have HRX := Lib.hid hR; clear hR
            go_wp2_with fail
            go_ret
            rw [HRX.out]
            exact ⟨rfl, by first | exact L3.out.b | (rw [HP0.out]; exact L3.out.b)⟩
          · have HRF := Lib.hid hrf; clear hrf
            clear k2 k3 k4 k16 k17
            have k4 := note_cells L3.out.e1 4 _ rfl
            simp only [Nat.zero_add] at k4
            by_cases hfx : n.fix = 0
            · have hfx1 : (n.fix == 0) = true := by simp [hfx]
              have hfx2 : decide (n.fix = 0) = true := by simp [hfx]
              have HFX := Lib.hid hfx; clear hfx
              have k18 := note_cells L3.out.e1 18 _ rfl
              simp only [Nat.zero_add] at k18
              have c0 := frame_cells L3.out.e0 0 _ rfl
              have c1 := frame_cells L3.out.e0 1 _ rfl
              have c2 := frame_cells L3.out.e0 2 _ rfl
              go_wp2_with   (first
                  | (refine wpList_load_row rfl 51 _ rfl p1 rfl 51 (noteA n sa sc) (0, 0) _ L3.out.e1 Tryz.underlying51 rfl (I43.out _ _ _) ?_)
                  | (refine wpList_load_rowG ?hw 51 _ rfl p1 rfl 51 (noteA n sa sc) (0, 0) _ L3.out.e1 Tryz.underlying51 rfl (I43.out _ _ _) ?_; case hw => rfl))

              refine (right_any f n sa sc _ HV.out (RDb.out _ L3.out.b) (n.kind)).mono ?_
              rintro e w5 ⟨rfl, b5⟩
              have L5 := Lib.hid (L3.out.below b5); clear b5
              cases hr : rightB f (n.kind) n
              · have hR : wellB f n = false := by simp [wellB, HRS.out, HK2.out.1, HK2.out.2, HRN.out, HCL.out, HDA.out, HNM.out, HRF.out, HFX.out, hr]
                have HRX := Lib.hid hR; clear hR
                go_wp2_with fail
                go_ret
                rw [HRX.out]
                exact ⟨rfl, by first | exact L5.out.b | (rw [HP0.out]; exact L5.out.b)⟩
              · have HRR := Lib.hid hr; clear hr
                go_wp2_with   (first
                    | (refine wpList_load_row rfl 51 _ rfl p1 rfl 51 (noteA n sa sc) (0, 0) _ L5.out.e1 Tryz.underlying51 rfl (I43.out _ _ _) ?_)
                    | (refine wpList_load_rowG ?hw 51 _ rfl p1 rfl 51 (noteA n sa sc) (0, 0) _ L5.out.e1 Tryz.underlying51 rfl (I43.out _ _ _) ?_; case hw => rfl))

                refine (bare_any n sa sc _ (RDb.out _ L5.out.b) (n.kind)).mono ?_
                rintro e w6 ⟨ta, tc, rfl, hrd, b6⟩
                have L6 := Lib.hid (L5.out.below b6); clear b6
                have hR : wellB f n = sameB (bareR (n.kind) n) zeroN := by simp [wellB, HRS.out, HK2.out.1, HK2.out.2, HRN.out, HCL.out, HDA.out, HNM.out, HRF.out, HFX.out, HRR.out]
                obtain ⟨N, HN⟩ : ∃ N, Hid (bareR (n.kind) n = N) := ⟨_, Lib.hid rfl⟩
                rw [HN.out] at hrd hR
                have HRX := Lib.hid hR; clear hR
                have RD6 := Lib.hid hrd; clear hrd
                rw [HN.out]
                go_wp2_with fail
                refine (rsame_any N zeroN ta tc none 0 _ RD6.out (RdA.nil _ 1)).mono ?_
                rintro e w7 ⟨rfl, b7⟩
                have L7 := Lib.hid (L6.out.below b7); clear b7
                go_wp2_with fail
                go_ret
                rw [HRX.out]
                exact ⟨rfl, by first | exact L7.out.b | (rw [HP0.out]; exact L7.out.b)⟩
            · have hfx1 : (n.fix == 0) = false := by simp [hfx]
              have hfx2 : decide (n.fix = 0) = false := by simp [hfx]
              have HFX := Lib.hid hfx; clear hfx
              have k18 := note_cells L3.out.e1 18 _ rfl
              simp only [Nat.zero_add] at k18
              have hR : wellB f n = false := by simp [wellB, HRS.out, HK2.out.1, HK2.out.2, HRN.out, HCL.out, HDA.out, HNM.out, HRF.out, HFX.out]
              have HRX := Lib.hid hR; clear hR
              go_wp2_with fail
              go_ret
              rw [HRX.out]
              exact ⟨rfl, by first | exact L3.out.b | (rw [HP0.out]; exact L3.out.b)⟩
set_option maxHeartbeats 20000000 in
set_option maxRecDepth 100000 in
theorem well_5 (hv : f.valid = true) (hs : RdI w sa n.strokes.length sc n.strokes) (hk : n.kind = 5) :
    Calls Tryz.prog 65 #[f.val, .agg (noteA n sa sc)] w fun e w' => e = .returned (.bool (wellB f n)) ∧ Below w.heap.size w w' := by
  have I43 := Lib.hid (show ∀ (m : NoteV) (a : Option Addr) (c : Nat), (Tryz.prog.info? 51).map (·.size) = some (noteA m a c).size from fun m a c => by kernel_rfl)
  have g1 := heap_at (w.alloc (.cells #[.int .i64 f.rings, .int .i64 f.sectors, .int .i64 f.wide] 23)) (.cells (noteA n sa sc) 51) (w.heap.size + 1) (by simp)
  have g0 := heap_before (w.alloc (.cells #[.int .i64 f.rings, .int .i64 f.sectors, .int .i64 f.wide] 23)) (.cells (noteA n sa sc) 51) _ _ (heap_at w (.cells #[.int .i64 f.rings, .int .i64 f.sectors, .int .i64 f.wide] 23) _ rfl)
  have bb : Below w.heap.size w ((w.alloc (.cells #[.int .i64 f.rings, .int .i64 f.sectors, .int .i64 f.wide] 23)).alloc (.cells (noteA n sa sc) 51)) := ((Below.refl _ _).alloc (Nat.le_refl _) _).alloc (by simp) _
  have L0 : Hid (LocF w ((w.alloc (.cells #[.int .i64 f.rings, .int .i64 f.sectors, .int .i64 f.wide] 23)).alloc (.cells (noteA n sa sc) 51)) w.heap.size (w.heap.size + 1) f n sa sc) := Lib.hid ⟨g0, g1, bb, by omega⟩
  clear g0 g1 bb
  unfold FrV.val
  go_enter Tryz.func65, Tryz.ntmps65
  go_upto_region 1 with fail
  generalize hW0 : (w.alloc (.cells #[.int .i64 f.rings, .int .i64 f.sectors, .int .i64 f.wide] 23)).alloc (.cells (noteA n sa sc) 51) = W0 at *
  generalize hp0 : w.heap.size = p0 at *
  generalize hp1 : p0 + 1 = p1 at *
  have RDb := Lib.hid (show ∀ W', Below p0 w W' → RdI W' sa n.strokes.length sc n.strokes from fun W' h => hs.below (by rw [hp0]; exact h))
  have HP0 := Lib.hid hp0; clear hp0 hp1 hW0
  have HV := Lib.hid hv; clear hv
  have HK := Lib.hid hk; clear hk
  have q2 : (n.kind == 2) = false := by simp [HK.out]
  have q2' : decide (n.kind = 2) = false := by simp [HK.out]
  have q5 : (n.kind == 5) = true := by simp [HK.out]
  have q5' : decide (n.kind = 5) = true := by simp [HK.out]
  have q6 : (n.kind == 6) = false := by simp [HK.out]
  have q6' : decide (n.kind = 6) = false := by simp [HK.out]
  have HRS := Lib.hid (show refersB n = true by simp [refersB, HK.out])
  go_wp2_with   (first
      | (refine wpList_load_row rfl 51 _ rfl p1 rfl 51 (noteA n sa sc) (0, 0) _ L0.out.e1 Tryz.underlying51 rfl (I43.out _ _ _) ?_)
      | (refine wpList_load_rowG ?hw 51 _ rfl p1 rfl 51 (noteA n sa sc) (0, 0) _ L0.out.e1 Tryz.underlying51 rfl (I43.out _ _ _) ?_; case hw => rfl))
  refine (rNameOf_any n sa sc _).mono ?_
  rintro e w1 ⟨rfl, b1⟩
  have L1 := Lib.hid (L0.out.below b1); clear b1
  go_wp2_with fail
  refine (rrightName_any n.house n.num _).mono ?_
  rintro e w2 ⟨rfl, b2⟩
  have L2 := Lib.hid (L1.out.below b2); clear b2
  cases hrn : rightNameB n.house n.num
  · have hR : wellB f n = false := by simp [wellB, HRS.out, HK.out, hrn]
    have HRX := Lib.hid hR; clear hR
    go_wp2_with fail
    go_ret
    rw [HRX.out]
    exact ⟨rfl, by first | exact L2.out.b | (rw [HP0.out]; exact L2.out.b)⟩
  · have HRN := Lib.hid hrn; clear hrn
    have k2 := note_cells L2.out.e1 2 _ rfl
    simp only [Nat.zero_add] at k2
    have k3 := note_cells L2.out.e1 3 _ rfl
    simp only [Nat.zero_add] at k3
    have k4 := note_cells L2.out.e1 4 _ rfl
    simp only [Nat.zero_add] at k4
    have k16 := note_cells L2.out.e1 16 _ rfl
    simp only [Nat.zero_add] at k16
    have k17 := note_cells L2.out.e1 17 _ rfl
    simp only [Nat.zero_add] at k17
    go_wp2_with fail
    refine (rin_any n.clock 1 1099511627776 _).mono ?_
    rintro e w' ⟨rfl, rfl⟩
    cases hcl : inB n.clock 1 1099511627776
    · have hR : wellB f n = false := by simp [wellB, HRS.out, HK.out, HRN.out, hcl]
      have HRX := Lib.hid hR; clear hR
      go_wp2_with fail
      go_ret
      rw [HRX.out]
      exact ⟨rfl, by first | exact L2.out.b | (rw [HP0.out]; exact L2.out.b)⟩
    · have HCL := Lib.hid hcl; clear hcl
      go_wp2_with fail
      refine (rin_any n.day 0 99999 _).mono ?_
      rintro e w' ⟨rfl, rfl⟩
      cases hda : inB n.day 0 99999
      · have hR : wellB f n = false := by simp [wellB, HRS.out, HK.out, HRN.out, HCL.out, hda]
        have HRX := Lib.hid hR; clear hR
        go_wp2_with fail
        go_ret
        rw [HRX.out]
        exact ⟨rfl, by first | exact L2.out.b | (rw [HP0.out]; exact L2.out.b)⟩
      · have HDA := Lib.hid hda; clear hda
        by_cases h16 : n.refH = 0
        · by_cases h17 : n.refN = 0
          · have r16 : (n.refH == 0) = true := by simp [h16]
            have r16' : decide (n.refH = 0) = true := by simp [h16]
            have r17 : (n.refN == 0) = true := by simp [h17]
            have r17' : decide (n.refN = 0) = true := by simp [h17]
            have HNM := Lib.hid (show namedB n = false by simp [namedB, h16, h17])
            clear h16 h17
            have hR : wellB f n = false := by simp [wellB, HRS.out, HK.out, HRN.out, HCL.out, HDA.out, HNM.out]
            have HRX := Lib.hid hR; clear hR
            go_wp2_with fail
            go_ret
            rw [HRX.out]
            exact ⟨rfl, by first | exact L2.out.b | (rw [HP0.out]; exact L2.out.b)⟩
          · have r16 : (n.refH == 0) = true := by simp [h16]
            have r16' : decide (n.refH = 0) = true := by simp [h16]
            have r17 : (n.refN == 0) = false := by simp [h17]
            have r17' : decide (n.refN = 0) = false := by simp [h17]
            have HNM := Lib.hid (show namedB n = true by simp [namedB, h16, h17])
            clear h16 h17
            go_wp2_with fail
            refine (rrightName_any n.refH n.refN _).mono ?_
            rintro e w3 ⟨rfl, b3⟩
            have L3 := Lib.hid (L2.out.below b3); clear b3
            cases hrf : rightNameB n.refH n.refN
            · have hR : wellB f n = false := by simp [wellB, HRS.out, HK.out, HRN.out, HCL.out, HDA.out, HNM.out, hrf]
              have HRX := Lib.hid hR; clear hR
              go_wp2_with fail
              go_ret
              rw [HRX.out]
              exact ⟨rfl, by first | exact L3.out.b | (rw [HP0.out]; exact L3.out.b)⟩
            · have HRF := Lib.hid hrf; clear hrf
              clear k2 k3 k4 k16 k17
              have k4 := note_cells L3.out.e1 4 _ rfl
              simp only [Nat.zero_add] at k4
              have k18 := note_cells L3.out.e1 18 _ rfl
              simp only [Nat.zero_add] at k18
              have c0 := frame_cells L3.out.e0 0 _ rfl
              have c1 := frame_cells L3.out.e0 1 _ rfl
              have c2 := frame_cells L3.out.e0 2 _ rfl
              go_wp2_with   (first
                  | (refine wpList_load_row rfl 51 _ rfl p1 rfl 51 (noteA n sa sc) (0, 0) _ L3.out.e1 Tryz.underlying51 rfl (I43.out _ _ _) ?_)
                  | (refine wpList_load_rowG ?hw 51 _ rfl p1 rfl 51 (noteA n sa sc) (0, 0) _ L3.out.e1 Tryz.underlying51 rfl (I43.out _ _ _) ?_; case hw => rfl))

              refine (right_any f n sa sc _ HV.out (RDb.out _ L3.out.b) (n.fix)).mono ?_
              rintro e w5 ⟨rfl, b5⟩
              have L5 := Lib.hid (L3.out.below b5); clear b5
              cases hr : rightB f (n.fix) n
              · have hR : wellB f n = false := by simp [wellB, HRS.out, HK.out, HRN.out, HCL.out, HDA.out, HNM.out, HRF.out, hr]
                have HRX := Lib.hid hR; clear hR
                go_wp2_with fail
                go_ret
                rw [HRX.out]
                exact ⟨rfl, by first | exact L5.out.b | (rw [HP0.out]; exact L5.out.b)⟩
              · have HRR := Lib.hid hr; clear hr
                go_wp2_with   (first
                    | (refine wpList_load_row rfl 51 _ rfl p1 rfl 51 (noteA n sa sc) (0, 0) _ L5.out.e1 Tryz.underlying51 rfl (I43.out _ _ _) ?_)
                    | (refine wpList_load_rowG ?hw 51 _ rfl p1 rfl 51 (noteA n sa sc) (0, 0) _ L5.out.e1 Tryz.underlying51 rfl (I43.out _ _ _) ?_; case hw => rfl))

                refine (bare_any n sa sc _ (RDb.out _ L5.out.b) (n.fix)).mono ?_
                rintro e w6 ⟨ta, tc, rfl, hrd, b6⟩
                have L6 := Lib.hid (L5.out.below b6); clear b6
                have hR : wellB f n = sameB (bareR (n.fix) n) zeroN := by simp [wellB, HRS.out, HK.out, HRN.out, HCL.out, HDA.out, HNM.out, HRF.out, HRR.out]
                obtain ⟨N, HN⟩ : ∃ N, Hid (bareR (n.fix) n = N) := ⟨_, Lib.hid rfl⟩
                rw [HN.out] at hrd hR
                have HRX := Lib.hid hR; clear hR
                have RD6 := Lib.hid hrd; clear hrd
                rw [HN.out]
                go_wp2_with fail
                refine (rsame_any N zeroN ta tc none 0 _ RD6.out (RdA.nil _ 1)).mono ?_
                rintro e w7 ⟨rfl, b7⟩
                have L7 := Lib.hid (L6.out.below b7); clear b7
                go_wp2_with fail
                go_ret
                rw [HRX.out]
                exact ⟨rfl, by first | exact L7.out.b | (rw [HP0.out]; exact L7.out.b)⟩
        · have r16 : (n.refH == 0) = false := by simp [h16]
          have r16' : decide (n.refH = 0) = false := by simp [h16]
          have HNM := Lib.hid (show namedB n = true by simp [namedB, h16])
          clear h16
          go_wp2_with fail
          refine (rrightName_any n.refH n.refN _).mono ?_
          rintro e w3 ⟨rfl, b3⟩
          have L3 := Lib.hid (L2.out.below b3); clear b3
          cases hrf : rightNameB n.refH n.refN
          · have hR : wellB f n = false := by simp [wellB, HRS.out, HK.out, HRN.out, HCL.out, HDA.out, HNM.out, hrf]
            have HRX := Lib.hid hR; clear hR
            go_wp2_with fail
            go_ret
            rw [HRX.out]
            exact ⟨rfl, by first | exact L3.out.b | (rw [HP0.out]; exact L3.out.b)⟩
          · have HRF := Lib.hid hrf; clear hrf
            clear k2 k3 k4 k16 k17
            have k4 := note_cells L3.out.e1 4 _ rfl
            simp only [Nat.zero_add] at k4
            have k18 := note_cells L3.out.e1 18 _ rfl
            simp only [Nat.zero_add] at k18
            have c0 := frame_cells L3.out.e0 0 _ rfl
            have c1 := frame_cells L3.out.e0 1 _ rfl
            have c2 := frame_cells L3.out.e0 2 _ rfl
            go_wp2_with   (first
                | (refine wpList_load_row rfl 51 _ rfl p1 rfl 51 (noteA n sa sc) (0, 0) _ L3.out.e1 Tryz.underlying51 rfl (I43.out _ _ _) ?_)
                | (refine wpList_load_rowG ?hw 51 _ rfl p1 rfl 51 (noteA n sa sc) (0, 0) _ L3.out.e1 Tryz.underlying51 rfl (I43.out _ _ _) ?_; case hw => rfl))

            refine (right_any f n sa sc _ HV.out (RDb.out _ L3.out.b) (n.fix)).mono ?_
            rintro e w5 ⟨rfl, b5⟩
            have L5 := Lib.hid (L3.out.below b5); clear b5
            cases hr : rightB f (n.fix) n
            · have hR : wellB f n = false := by simp [wellB, HRS.out, HK.out, HRN.out, HCL.out, HDA.out, HNM.out, HRF.out, hr]
              have HRX := Lib.hid hR; clear hR
              go_wp2_with fail
              go_ret
              rw [HRX.out]
              exact ⟨rfl, by first | exact L5.out.b | (rw [HP0.out]; exact L5.out.b)⟩
            · have HRR := Lib.hid hr; clear hr
              go_wp2_with   (first
                  | (refine wpList_load_row rfl 51 _ rfl p1 rfl 51 (noteA n sa sc) (0, 0) _ L5.out.e1 Tryz.underlying51 rfl (I43.out _ _ _) ?_)
                  | (refine wpList_load_rowG ?hw 51 _ rfl p1 rfl 51 (noteA n sa sc) (0, 0) _ L5.out.e1 Tryz.underlying51 rfl (I43.out _ _ _) ?_; case hw => rfl))

              refine (bare_any n sa sc _ (RDb.out _ L5.out.b) (n.fix)).mono ?_
              rintro e w6 ⟨ta, tc, rfl, hrd, b6⟩
              have L6 := Lib.hid (L5.out.below b6); clear b6
              have hR : wellB f n = sameB (bareR (n.fix) n) zeroN := by simp [wellB, HRS.out, HK.out, HRN.out, HCL.out, HDA.out, HNM.out, HRF.out, HRR.out]
              obtain ⟨N, HN⟩ : ∃ N, Hid (bareR (n.fix) n = N) := ⟨_, Lib.hid rfl⟩
              rw [HN.out] at hrd hR
              have HRX := Lib.hid hR; clear hR
              have RD6 := Lib.hid hrd; clear hrd
              rw [HN.out]
              go_wp2_with fail
              refine (rsame_any N zeroN ta tc none 0 _ RD6.out (RdA.nil _ 1)).mono ?_
              rintro e w7 ⟨rfl, b7⟩
              have L7 := Lib.hid (L6.out.below b7); clear b7
              go_wp2_with fail
              go_ret
              rw [HRX.out]
              exact ⟨rfl, by first | exact L7.out.b | (rw [HP0.out]; exact L7.out.b)⟩
set_option maxHeartbeats 20000000 in
set_option maxRecDepth 100000 in
theorem well_6 (hv : f.valid = true) (hs : RdI w sa n.strokes.length sc n.strokes) (hk : n.kind = 6) :
    Calls Tryz.prog 65 #[f.val, .agg (noteA n sa sc)] w fun e w' => e = .returned (.bool (wellB f n)) ∧ Below w.heap.size w w' := by
  have I43 := Lib.hid (show ∀ (m : NoteV) (a : Option Addr) (c : Nat), (Tryz.prog.info? 51).map (·.size) = some (noteA m a c).size from fun m a c => by kernel_rfl)
  have g1 := heap_at (w.alloc (.cells #[.int .i64 f.rings, .int .i64 f.sectors, .int .i64 f.wide] 23)) (.cells (noteA n sa sc) 51) (w.heap.size + 1) (by simp)
  have g0 := heap_before (w.alloc (.cells #[.int .i64 f.rings, .int .i64 f.sectors, .int .i64 f.wide] 23)) (.cells (noteA n sa sc) 51) _ _ (heap_at w (.cells #[.int .i64 f.rings, .int .i64 f.sectors, .int .i64 f.wide] 23) _ rfl)
  have bb : Below w.heap.size w ((w.alloc (.cells #[.int .i64 f.rings, .int .i64 f.sectors, .int .i64 f.wide] 23)).alloc (.cells (noteA n sa sc) 51)) := ((Below.refl _ _).alloc (Nat.le_refl _) _).alloc (by simp) _
  have L0 : Hid (LocF w ((w.alloc (.cells #[.int .i64 f.rings, .int .i64 f.sectors, .int .i64 f.wide] 23)).alloc (.cells (noteA n sa sc) 51)) w.heap.size (w.heap.size + 1) f n sa sc) := Lib.hid ⟨g0, g1, bb, by omega⟩
  clear g0 g1 bb
  unfold FrV.val
  go_enter Tryz.func65, Tryz.ntmps65
  go_upto_region 1 with fail
  generalize hW0 : (w.alloc (.cells #[.int .i64 f.rings, .int .i64 f.sectors, .int .i64 f.wide] 23)).alloc (.cells (noteA n sa sc) 51) = W0 at *
  generalize hp0 : w.heap.size = p0 at *
  generalize hp1 : p0 + 1 = p1 at *
  have RDb := Lib.hid (show ∀ W', Below p0 w W' → RdI W' sa n.strokes.length sc n.strokes from fun W' h => hs.below (by rw [hp0]; exact h))
  have HP0 := Lib.hid hp0; clear hp0 hp1 hW0
  have HV := Lib.hid hv; clear hv
  have HK := Lib.hid hk; clear hk
  have q2 : (n.kind == 2) = false := by simp [HK.out]
  have q2' : decide (n.kind = 2) = false := by simp [HK.out]
  have q5 : (n.kind == 5) = false := by simp [HK.out]
  have q5' : decide (n.kind = 5) = false := by simp [HK.out]
  have q6 : (n.kind == 6) = true := by simp [HK.out]
  have q6' : decide (n.kind = 6) = true := by simp [HK.out]
  have HRS := Lib.hid (show refersB n = true by simp [refersB, HK.out])
  go_wp2_with   (first
      | (refine wpList_load_row rfl 51 _ rfl p1 rfl 51 (noteA n sa sc) (0, 0) _ L0.out.e1 Tryz.underlying51 rfl (I43.out _ _ _) ?_)
      | (refine wpList_load_rowG ?hw 51 _ rfl p1 rfl 51 (noteA n sa sc) (0, 0) _ L0.out.e1 Tryz.underlying51 rfl (I43.out _ _ _) ?_; case hw => rfl))
  refine (rNameOf_any n sa sc _).mono ?_
  rintro e w1 ⟨rfl, b1⟩
  have L1 := Lib.hid (L0.out.below b1); clear b1
  go_wp2_with fail
  refine (rrightName_any n.house n.num _).mono ?_
  rintro e w2 ⟨rfl, b2⟩
  have L2 := Lib.hid (L1.out.below b2); clear b2
  cases hrn : rightNameB n.house n.num
  · have hR : wellB f n = false := by simp [wellB, HRS.out, HK.out, hrn]
    have HRX := Lib.hid hR; clear hR
    go_wp2_with fail
    go_ret
    rw [HRX.out]
    exact ⟨rfl, by first | exact L2.out.b | (rw [HP0.out]; exact L2.out.b)⟩
  · have HRN := Lib.hid hrn; clear hrn
    have k2 := note_cells L2.out.e1 2 _ rfl
    simp only [Nat.zero_add] at k2
    have k3 := note_cells L2.out.e1 3 _ rfl
    simp only [Nat.zero_add] at k3
    have k4 := note_cells L2.out.e1 4 _ rfl
    simp only [Nat.zero_add] at k4
    have k16 := note_cells L2.out.e1 16 _ rfl
    simp only [Nat.zero_add] at k16
    have k17 := note_cells L2.out.e1 17 _ rfl
    simp only [Nat.zero_add] at k17
    go_wp2_with fail
    refine (rin_any n.clock 1 1099511627776 _).mono ?_
    rintro e w' ⟨rfl, rfl⟩
    cases hcl : inB n.clock 1 1099511627776
    · have hR : wellB f n = false := by simp [wellB, HRS.out, HK.out, HRN.out, hcl]
      have HRX := Lib.hid hR; clear hR
      go_wp2_with fail
      go_ret
      rw [HRX.out]
      exact ⟨rfl, by first | exact L2.out.b | (rw [HP0.out]; exact L2.out.b)⟩
    · have HCL := Lib.hid hcl; clear hcl
      go_wp2_with fail
      refine (rin_any n.day 0 99999 _).mono ?_
      rintro e w' ⟨rfl, rfl⟩
      cases hda : inB n.day 0 99999
      · have hR : wellB f n = false := by simp [wellB, HRS.out, HK.out, HRN.out, HCL.out, hda]
        have HRX := Lib.hid hR; clear hR
        go_wp2_with fail
        go_ret
        rw [HRX.out]
        exact ⟨rfl, by first | exact L2.out.b | (rw [HP0.out]; exact L2.out.b)⟩
      · have HDA := Lib.hid hda; clear hda
        by_cases h16 : n.refH = 0
        · by_cases h17 : n.refN = 0
          · have r16 : (n.refH == 0) = true := by simp [h16]
            have r16' : decide (n.refH = 0) = true := by simp [h16]
            have r17 : (n.refN == 0) = true := by simp [h17]
            have r17' : decide (n.refN = 0) = true := by simp [h17]
            have HNM := Lib.hid (show namedB n = false by simp [namedB, h16, h17])
            clear h16 h17
            have hR : wellB f n = false := by simp [wellB, HRS.out, HK.out, HRN.out, HCL.out, HDA.out, HNM.out]
            have HRX := Lib.hid hR; clear hR
            go_wp2_with fail
            go_ret
            rw [HRX.out]
            exact ⟨rfl, by first | exact L2.out.b | (rw [HP0.out]; exact L2.out.b)⟩
          · have r16 : (n.refH == 0) = true := by simp [h16]
            have r16' : decide (n.refH = 0) = true := by simp [h16]
            have r17 : (n.refN == 0) = false := by simp [h17]
            have r17' : decide (n.refN = 0) = false := by simp [h17]
            have HNM := Lib.hid (show namedB n = true by simp [namedB, h16, h17])
            clear h16 h17
            go_wp2_with fail
            refine (rrightName_any n.refH n.refN _).mono ?_
            rintro e w3 ⟨rfl, b3⟩
            have L3 := Lib.hid (L2.out.below b3); clear b3
            cases hrf : rightNameB n.refH n.refN
            · have hR : wellB f n = false := by simp [wellB, HRS.out, HK.out, HRN.out, HCL.out, HDA.out, HNM.out, hrf]
              have HRX := Lib.hid hR; clear hR
              go_wp2_with fail
              go_ret
              rw [HRX.out]
              exact ⟨rfl, by first | exact L3.out.b | (rw [HP0.out]; exact L3.out.b)⟩
            · have HRF := Lib.hid hrf; clear hrf
              clear k2 k3 k4 k16 k17
              have k4 := note_cells L3.out.e1 4 _ rfl
              simp only [Nat.zero_add] at k4
              by_cases hfx : n.fix = 0
              · have hfx1 : (n.fix == 0) = true := by simp [hfx]
                have hfx2 : decide (n.fix = 0) = true := by simp [hfx]
                have HFX := Lib.hid hfx; clear hfx
                have k18 := note_cells L3.out.e1 18 _ rfl
                simp only [Nat.zero_add] at k18
                go_wp2_with   (first
                    | (refine wpList_load_row rfl 51 _ rfl p1 rfl 51 (noteA n sa sc) (0, 0) _ L3.out.e1 Tryz.underlying51 rfl (I43.out _ _ _) ?_)
                    | (refine wpList_load_rowG ?hw 51 _ rfl p1 rfl 51 (noteA n sa sc) (0, 0) _ L3.out.e1 Tryz.underlying51 rfl (I43.out _ _ _) ?_; case hw => rfl))

                refine (bare_any n sa sc _ (RDb.out _ L3.out.b) (0)).mono ?_
                rintro e w6 ⟨ta, tc, rfl, hrd, b6⟩
                have L6 := Lib.hid (L3.out.below b6); clear b6
                have hR : wellB f n = sameB (bareR (0) n) zeroN := by simp [wellB, HRS.out, HK.out, HRN.out, HCL.out, HDA.out, HNM.out, HRF.out, HFX.out]
                obtain ⟨N, HN⟩ : ∃ N, Hid (bareR (0) n = N) := ⟨_, Lib.hid rfl⟩
                rw [HN.out] at hrd hR
                have HRX := Lib.hid hR; clear hR
                have RD6 := Lib.hid hrd; clear hrd
                rw [HN.out]
                go_wp2_with fail
                refine (rsame_any N zeroN ta tc none 0 _ RD6.out (RdA.nil _ 1)).mono ?_
                rintro e w7 ⟨rfl, b7⟩
                have L7 := Lib.hid (L6.out.below b7); clear b7
                go_wp2_with fail
                go_ret
                rw [HRX.out]
                exact ⟨rfl, by first | exact L7.out.b | (rw [HP0.out]; exact L7.out.b)⟩
              · have hfx1 : (n.fix == 0) = false := by simp [hfx]
                have hfx2 : decide (n.fix = 0) = false := by simp [hfx]
                have HFX := Lib.hid hfx; clear hfx
                have k18 := note_cells L3.out.e1 18 _ rfl
                simp only [Nat.zero_add] at k18
                have hR : wellB f n = false := by simp [wellB, HRS.out, HK.out, HRN.out, HCL.out, HDA.out, HNM.out, HRF.out, HFX.out]
                have HRX := Lib.hid hR; clear hR
                go_wp2_with fail
                go_ret
                rw [HRX.out]
                exact ⟨rfl, by first | exact L3.out.b | (rw [HP0.out]; exact L3.out.b)⟩
        · have r16 : (n.refH == 0) = false := by simp [h16]
          have r16' : decide (n.refH = 0) = false := by simp [h16]
          have HNM := Lib.hid (show namedB n = true by simp [namedB, h16])
          clear h16
          go_wp2_with fail
          refine (rrightName_any n.refH n.refN _).mono ?_
          rintro e w3 ⟨rfl, b3⟩
          have L3 := Lib.hid (L2.out.below b3); clear b3
          cases hrf : rightNameB n.refH n.refN
          · have hR : wellB f n = false := by simp [wellB, HRS.out, HK.out, HRN.out, HCL.out, HDA.out, HNM.out, hrf]
            have HRX := Lib.hid hR; clear hR
            go_wp2_with fail
            go_ret
            rw [HRX.out]
            exact ⟨rfl, by first | exact L3.out.b | (rw [HP0.out]; exact L3.out.b)⟩
          · have HRF := Lib.hid hrf; clear hrf
            clear k2 k3 k4 k16 k17
            have k4 := note_cells L3.out.e1 4 _ rfl
            simp only [Nat.zero_add] at k4
            by_cases hfx : n.fix = 0
            · have hfx1 : (n.fix == 0) = true := by simp [hfx]
              have hfx2 : decide (n.fix = 0) = true := by simp [hfx]
              have HFX := Lib.hid hfx; clear hfx
              have k18 := note_cells L3.out.e1 18 _ rfl
              simp only [Nat.zero_add] at k18
              go_wp2_with   (first
                  | (refine wpList_load_row rfl 51 _ rfl p1 rfl 51 (noteA n sa sc) (0, 0) _ L3.out.e1 Tryz.underlying51 rfl (I43.out _ _ _) ?_)
                  | (refine wpList_load_rowG ?hw 51 _ rfl p1 rfl 51 (noteA n sa sc) (0, 0) _ L3.out.e1 Tryz.underlying51 rfl (I43.out _ _ _) ?_; case hw => rfl))

              refine (bare_any n sa sc _ (RDb.out _ L3.out.b) (0)).mono ?_
              rintro e w6 ⟨ta, tc, rfl, hrd, b6⟩
              have L6 := Lib.hid (L3.out.below b6); clear b6
              have hR : wellB f n = sameB (bareR (0) n) zeroN := by simp [wellB, HRS.out, HK.out, HRN.out, HCL.out, HDA.out, HNM.out, HRF.out, HFX.out]
              obtain ⟨N, HN⟩ : ∃ N, Hid (bareR (0) n = N) := ⟨_, Lib.hid rfl⟩
              rw [HN.out] at hrd hR
              have HRX := Lib.hid hR; clear hR
              have RD6 := Lib.hid hrd; clear hrd
              rw [HN.out]
              go_wp2_with fail
              refine (rsame_any N zeroN ta tc none 0 _ RD6.out (RdA.nil _ 1)).mono ?_
              rintro e w7 ⟨rfl, b7⟩
              have L7 := Lib.hid (L6.out.below b7); clear b7
              go_wp2_with fail
              go_ret
              rw [HRX.out]
              exact ⟨rfl, by first | exact L7.out.b | (rw [HP0.out]; exact L7.out.b)⟩
            · have hfx1 : (n.fix == 0) = false := by simp [hfx]
              have hfx2 : decide (n.fix = 0) = false := by simp [hfx]
              have HFX := Lib.hid hfx; clear hfx
              have k18 := note_cells L3.out.e1 18 _ rfl
              simp only [Nat.zero_add] at k18
              have hR : wellB f n = false := by simp [wellB, HRS.out, HK.out, HRN.out, HCL.out, HDA.out, HNM.out, HRF.out, HFX.out]
              have HRX := Lib.hid hR; clear hR
              go_wp2_with fail
              go_ret
              rw [HRX.out]
              exact ⟨rfl, by first | exact L3.out.b | (rw [HP0.out]; exact L3.out.b)⟩
set_option maxHeartbeats 20000000 in
set_option maxRecDepth 100000 in
theorem well_o (hv : f.valid = true) (hs : RdI w sa n.strokes.length sc n.strokes) (k2 : n.kind ≠ 2) (k5 : n.kind ≠ 5) (k6 : n.kind ≠ 6) :
    Calls Tryz.prog 65 #[f.val, .agg (noteA n sa sc)] w fun e w' => e = .returned (.bool (wellB f n)) ∧ Below w.heap.size w w' := by
  have I43 := Lib.hid (show ∀ (m : NoteV) (a : Option Addr) (c : Nat), (Tryz.prog.info? 51).map (·.size) = some (noteA m a c).size from fun m a c => by kernel_rfl)
  have g1 := heap_at (w.alloc (.cells #[.int .i64 f.rings, .int .i64 f.sectors, .int .i64 f.wide] 23)) (.cells (noteA n sa sc) 51) (w.heap.size + 1) (by simp)
  have g0 := heap_before (w.alloc (.cells #[.int .i64 f.rings, .int .i64 f.sectors, .int .i64 f.wide] 23)) (.cells (noteA n sa sc) 51) _ _ (heap_at w (.cells #[.int .i64 f.rings, .int .i64 f.sectors, .int .i64 f.wide] 23) _ rfl)
  have bb : Below w.heap.size w ((w.alloc (.cells #[.int .i64 f.rings, .int .i64 f.sectors, .int .i64 f.wide] 23)).alloc (.cells (noteA n sa sc) 51)) := ((Below.refl _ _).alloc (Nat.le_refl _) _).alloc (by simp) _
  have L0 : Hid (LocF w ((w.alloc (.cells #[.int .i64 f.rings, .int .i64 f.sectors, .int .i64 f.wide] 23)).alloc (.cells (noteA n sa sc) 51)) w.heap.size (w.heap.size + 1) f n sa sc) := Lib.hid ⟨g0, g1, bb, by omega⟩
  clear g0 g1 bb
  unfold FrV.val
  go_enter Tryz.func65, Tryz.ntmps65
  go_upto_region 1 with fail
  generalize hW0 : (w.alloc (.cells #[.int .i64 f.rings, .int .i64 f.sectors, .int .i64 f.wide] 23)).alloc (.cells (noteA n sa sc) 51) = W0 at *
  generalize hp0 : w.heap.size = p0 at *
  generalize hp1 : p0 + 1 = p1 at *
  have RDb := Lib.hid (show ∀ W', Below p0 w W' → RdI W' sa n.strokes.length sc n.strokes from fun W' h => hs.below (by rw [hp0]; exact h))
  have HP0 := Lib.hid hp0; clear hp0 hp1 hW0
  have HV := Lib.hid hv; clear hv
  have HK := Lib.hid (And.intro k2 (And.intro k5 k6)); clear k2 k5 k6
  have q2 : (n.kind == 2) = false := by simp [HK.out.1]
  have q2' : decide (n.kind = 2) = false := by simp [HK.out.1]
  have q5 : (n.kind == 5) = false := by simp [HK.out.2.1]
  have q5' : decide (n.kind = 5) = false := by simp [HK.out.2.1]
  have q6 : (n.kind == 6) = false := by simp [HK.out.2.2]
  have q6' : decide (n.kind = 6) = false := by simp [HK.out.2.2]
  have HRS := Lib.hid (show refersB n = false by simp [refersB, HK.out.1, HK.out.2.1, HK.out.2.2])
  go_wp2_with   (first
      | (refine wpList_load_row rfl 51 _ rfl p1 rfl 51 (noteA n sa sc) (0, 0) _ L0.out.e1 Tryz.underlying51 rfl (I43.out _ _ _) ?_)
      | (refine wpList_load_rowG ?hw 51 _ rfl p1 rfl 51 (noteA n sa sc) (0, 0) _ L0.out.e1 Tryz.underlying51 rfl (I43.out _ _ _) ?_; case hw => rfl))
  refine (rNameOf_any n sa sc _).mono ?_
  rintro e w1 ⟨rfl, b1⟩
  have L1 := Lib.hid (L0.out.below b1); clear b1
  go_wp2_with fail
  refine (rrightName_any n.house n.num _).mono ?_
  rintro e w2 ⟨rfl, b2⟩
  have L2 := Lib.hid (L1.out.below b2); clear b2
  cases hrn : rightNameB n.house n.num
  · have hR : wellB f n = false := by simp [wellB, HRS.out, HK.out.2.1, HK.out.2.2, hrn]
    have HRX := Lib.hid hR; clear hR
    go_wp2_with fail
    go_ret
    rw [HRX.out]
    exact ⟨rfl, by first | exact L2.out.b | (rw [HP0.out]; exact L2.out.b)⟩
  · have HRN := Lib.hid hrn; clear hrn
    have k2 := note_cells L2.out.e1 2 _ rfl
    simp only [Nat.zero_add] at k2
    have k3 := note_cells L2.out.e1 3 _ rfl
    simp only [Nat.zero_add] at k3
    have k4 := note_cells L2.out.e1 4 _ rfl
    simp only [Nat.zero_add] at k4
    have k16 := note_cells L2.out.e1 16 _ rfl
    simp only [Nat.zero_add] at k16
    have k17 := note_cells L2.out.e1 17 _ rfl
    simp only [Nat.zero_add] at k17
    go_wp2_with fail
    refine (rin_any n.clock 1 1099511627776 _).mono ?_
    rintro e w' ⟨rfl, rfl⟩
    cases hcl : inB n.clock 1 1099511627776
    · have hR : wellB f n = false := by simp [wellB, HRS.out, HK.out.2.1, HK.out.2.2, HRN.out, hcl]
      have HRX := Lib.hid hR; clear hR
      go_wp2_with fail
      go_ret
      rw [HRX.out]
      exact ⟨rfl, by first | exact L2.out.b | (rw [HP0.out]; exact L2.out.b)⟩
    · have HCL := Lib.hid hcl; clear hcl
      go_wp2_with fail
      refine (rin_any n.day 0 99999 _).mono ?_
      rintro e w' ⟨rfl, rfl⟩
      cases hda : inB n.day 0 99999
      · have hR : wellB f n = false := by simp [wellB, HRS.out, HK.out.2.1, HK.out.2.2, HRN.out, HCL.out, hda]
        have HRX := Lib.hid hR; clear hR
        go_wp2_with fail
        go_ret
        rw [HRX.out]
        exact ⟨rfl, by first | exact L2.out.b | (rw [HP0.out]; exact L2.out.b)⟩
      · have HDA := Lib.hid hda; clear hda
        by_cases h16 : n.refH = 0
        · by_cases h17 : n.refN = 0
          · have r16 : (n.refH == 0) = true := by simp [h16]
            have r16' : decide (n.refH = 0) = true := by simp [h16]
            have r17 : (n.refN == 0) = true := by simp [h17]
            have r17' : decide (n.refN = 0) = true := by simp [h17]
            have HNM := Lib.hid (show namedB n = false by simp [namedB, h16, h17])
            clear h16 h17
            by_cases hfx : n.fix = 0
            · have hfx1 : (n.fix == 0) = true := by simp [hfx]
              have hfx2 : decide (n.fix = 0) = true := by simp [hfx]
              have HFX := Lib.hid hfx; clear hfx
              have k18 := note_cells L2.out.e1 18 _ rfl
              simp only [Nat.zero_add] at k18
              have c0 := frame_cells L2.out.e0 0 _ rfl
              have c1 := frame_cells L2.out.e0 1 _ rfl
              have c2 := frame_cells L2.out.e0 2 _ rfl
              go_wp2_with   (first
                  | (refine wpList_load_row rfl 51 _ rfl p1 rfl 51 (noteA n sa sc) (0, 0) _ L2.out.e1 Tryz.underlying51 rfl (I43.out _ _ _) ?_)
                  | (refine wpList_load_rowG ?hw 51 _ rfl p1 rfl 51 (noteA n sa sc) (0, 0) _ L2.out.e1 Tryz.underlying51 rfl (I43.out _ _ _) ?_; case hw => rfl))

              refine (right_any f n sa sc _ HV.out (RDb.out _ L2.out.b) (n.kind)).mono ?_
              rintro e w5 ⟨rfl, b5⟩
              have L5 := Lib.hid (L2.out.below b5); clear b5
              cases hr : rightB f (n.kind) n
              · have hR : wellB f n = false := by simp [wellB, HRS.out, HK.out.2.1, HK.out.2.2, HRN.out, HCL.out, HDA.out, HNM.out, HFX.out, hr]
                have HRX := Lib.hid hR; clear hR
                go_wp2_with fail
                go_ret
                rw [HRX.out]
                exact ⟨rfl, by first | exact L5.out.b | (rw [HP0.out]; exact L5.out.b)⟩
              · have HRR := Lib.hid hr; clear hr
                go_wp2_with   (first
                    | (refine wpList_load_row rfl 51 _ rfl p1 rfl 51 (noteA n sa sc) (0, 0) _ L5.out.e1 Tryz.underlying51 rfl (I43.out _ _ _) ?_)
                    | (refine wpList_load_rowG ?hw 51 _ rfl p1 rfl 51 (noteA n sa sc) (0, 0) _ L5.out.e1 Tryz.underlying51 rfl (I43.out _ _ _) ?_; case hw => rfl))

                refine (bare_any n sa sc _ (RDb.out _ L5.out.b) (n.kind)).mono ?_
                rintro e w6 ⟨ta, tc, rfl, hrd, b6⟩
                have L6 := Lib.hid (L5.out.below b6); clear b6
                have hR : wellB f n = sameB (bareR (n.kind) n) zeroN := by simp [wellB, HRS.out, HK.out.2.1, HK.out.2.2, HRN.out, HCL.out, HDA.out, HNM.out, HFX.out, HRR.out]
                obtain ⟨N, HN⟩ : ∃ N, Hid (bareR (n.kind) n = N) := ⟨_, Lib.hid rfl⟩
                rw [HN.out] at hrd hR
                have HRX := Lib.hid hR; clear hR
                have RD6 := Lib.hid hrd; clear hrd
                rw [HN.out]
                go_wp2_with fail
                refine (rsame_any N zeroN ta tc none 0 _ RD6.out (RdA.nil _ 1)).mono ?_
                rintro e w7 ⟨rfl, b7⟩
                have L7 := Lib.hid (L6.out.below b7); clear b7
                go_wp2_with fail
                go_ret
                rw [HRX.out]
                exact ⟨rfl, by first | exact L7.out.b | (rw [HP0.out]; exact L7.out.b)⟩
            · have hfx1 : (n.fix == 0) = false := by simp [hfx]
              have hfx2 : decide (n.fix = 0) = false := by simp [hfx]
              have HFX := Lib.hid hfx; clear hfx
              have k18 := note_cells L2.out.e1 18 _ rfl
              simp only [Nat.zero_add] at k18
              have hR : wellB f n = false := by simp [wellB, HRS.out, HK.out.2.1, HK.out.2.2, HRN.out, HCL.out, HDA.out, HNM.out, HFX.out]
              have HRX := Lib.hid hR; clear hR
              go_wp2_with fail
              go_ret
              rw [HRX.out]
              exact ⟨rfl, by first | exact L2.out.b | (rw [HP0.out]; exact L2.out.b)⟩
          · have r16 : (n.refH == 0) = true := by simp [h16]
            have r16' : decide (n.refH = 0) = true := by simp [h16]
            have r17 : (n.refN == 0) = false := by simp [h17]
            have r17' : decide (n.refN = 0) = false := by simp [h17]
            have HNM := Lib.hid (show namedB n = true by simp [namedB, h16, h17])
            clear h16 h17
            have hR : wellB f n = false := by simp [wellB, HRS.out, HK.out.2.1, HK.out.2.2, HRN.out, HCL.out, HDA.out, HNM.out]
            have HRX := Lib.hid hR; clear hR
            go_wp2_with fail
            go_ret
            rw [HRX.out]
            exact ⟨rfl, by first | exact L2.out.b | (rw [HP0.out]; exact L2.out.b)⟩
        · have r16 : (n.refH == 0) = false := by simp [h16]
          have r16' : decide (n.refH = 0) = false := by simp [h16]
          have HNM := Lib.hid (show namedB n = true by simp [namedB, h16])
          clear h16
          have hR : wellB f n = false := by simp [wellB, HRS.out, HK.out.2.1, HK.out.2.2, HRN.out, HCL.out, HDA.out, HNM.out]
          have HRX := Lib.hid hR; clear hR
          go_wp2_with fail
          go_ret
          rw [HRX.out]
          exact ⟨rfl, by first | exact L2.out.b | (rw [HP0.out]; exact L2.out.b)⟩
theorem well_any (hv : f.valid = true) (hs : RdI w sa n.strokes.length sc n.strokes) :
    Calls Tryz.prog 65 #[f.val, .agg (noteA n sa sc)] w fun e w' => e = .returned (.bool (wellB f n)) ∧ Below w.heap.size w w' := by
  by_cases k2 : n.kind = 2
  · exact well_2 f n sa sc w hv hs k2
  by_cases k5 : n.kind = 5
  · exact well_5 f n sa sc w hv hs k5
  by_cases k6 : n.kind = 6
  · exact well_6 f n sa sc w hv hs k6
  exact well_o f n sa sc w hv hs k2 k5 k6
end
end Go.Proofs.YtpjiakgfegnmcaaGreat
namespace Go.Proofs.YtpjiakgfegnmcaaGreat
set_option linter.unusedSimpArgs false
open Go.RowKit

set_option maxRecDepth 100000 in
theorem plain_any (n : NoteV) (sa : Option Addr) (sc : Nat) (w : World) : Calls Tryz.prog 80 #[.agg (noteA n sa sc)] w fun e w' => e = .returned (.bool (doneB n)) ∧ Below w.heap.size w w' := by
  have hb := (Below.refl w.heap.size w).alloc (Nat.le_refl _) (.cells (noteA n sa sc) 51)
  have c4 := cell_of (heap_last w (.cells (noteA n sa sc) 51)) 4 (.int .i64 n.kind) rfl
  have BB := Lib.hid hb; clear hb
  have hd : doneB n = (decide (1 ≤ n.kind) && decide (n.kind ≤ 4)) := rfl
  cases h1 : decide (1 ≤ n.kind)
  · rw [h1] at hd
    have HD := Lib.hid hd; clear hd
    go_enter Tryz.func80, Tryz.ntmps80
    go_wp2_with fail
    go_ret
    exact ⟨by rw [HD.out]; rfl, BB.out⟩
  · cases h2 : decide (n.kind ≤ 4)
    · rw [h1, h2] at hd
      have HD := Lib.hid hd; clear hd
      go_enter Tryz.func80, Tryz.ntmps80
      go_wp2_with fail
      go_ret
      exact ⟨by rw [HD.out]; rfl, BB.out⟩
    · rw [h1, h2] at hd
      have HD := Lib.hid hd; clear hd
      go_enter Tryz.func80, Tryz.ntmps80
      go_wp2_with fail
      go_ret
      exact ⟨by rw [HD.out]; rfl, BB.out⟩

end Go.Proofs.YtpjiakgfegnmcaaGreat
