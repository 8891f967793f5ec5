/- The given row TalliesPower, proved: whatever the input, true, and the input reads as it did. -/
import Derived.Test.YtlnhppgfhkkidaaGreatRows
import Derived.ProofKit
import Derived.OpenShut
import Derived.Deep.Strs
import Derived.SizedLaws
import Derived.Carry
import Derived.Test.YtlnhppgfhkkidaaGreatKPpw14
set_option linter.unusedSimpArgs false
set_option linter.unusedVariables false
open List renaming getElem_toArray → lq0, getElem_cons_succ → lq1, getElem_cons_zero → lq2, setIfInBounds_toArray → lq3, set_cons_zero → lq4, set_cons_succ → lq5
namespace Go.Proofs.YtlnhppgfhkkidaaGreat
set_option linter.unusedSimpArgs false
open Go.RowKit

set_option maxHeartbeats 8000000 in
set_option maxRecDepth 100000 in
theorem sameNotes9_eq (l : List NoteV) (a : Option Addr) (nn nc : Nat) (ma : Option Addr) (mn mc : Nat) (w : World) (hr : RdNs w a nn nc l) (hm : RdNs w ma mn mc l) (hsm : ∀ x ∈ l, SmallN x ∧ x.strokes.length ≤ 1000000) :
    Calls Tryz.prog 18 #[.slice a nn nc, .slice ma mn mc] w fun e w' => e = .returned (.bool true) ∧ Below w.heap.size w w' := by
  have J19 : (Tryz.prog.info? 47).map (·.size) = some 19 := by kernel_rfl
  obtain rfl : nn = mn := hr.1.symm.trans hm.1
  obtain ⟨xs, hxs, hrl⟩ := hr.choose
  have RL := Lib.hid hrl
  have HXS := Lib.hid hxs
  have LNX := Lib.hid hrl.1
  have LOK := Lib.hid (show ∀ W, Below w.heap.size w W → ∀ x ∈ xs, x.ok W from fun W hb x hx => (ls_ok hrl hx).below hb)
  obtain ⟨ys, hys, hml⟩ := hm.choose
  have ML := Lib.hid hml
  have HYS := Lib.hid hys
  have LMY := Lib.hid hml.1
  have MOK := Lib.hid (show ∀ W, Below w.heap.size w W → ∀ x ∈ ys, x.ok W from fun W hb x hx => (ls_ok hml hx).below hb)
  have hn63 : nn ≤ 9223372036854775807 := by have h1 := hr.2.1; have h2 := hr.2.2.1; unfold maxLen at h2; omega
  have tne : ((nn : Int) != (nn : Int)) = false := by simp
  have HSM := Lib.hid hsm
  clear hr hm hxs hrl hys hml hsm
  go_enter Tryz.func18, Tryz.ntmps18
  go_wp2_with fail
  clear tne
  go_loopw [5] (fun i wr => ∃ (k : Nat), i = .int .i64 (k : Int) ∧ k ≤ nn ∧ Hid (Below w.heap.size w wr)) (fun i _ => nn - (intOf i).toNat)
  case atStart => exact ⟨0, rfl, Nat.zero_le _, Lib.hid (Below.refl _ _)⟩
  case round =>
    obtain ⟨k, rfl, hk, BB⟩ := hrel
    by_cases hlt : k < nn
    · have t0 : decide ((k : Int) < (nn : Int)) = true := by simp; omega
      obtain ⟨x, Hx⟩ : ∃ x, xs[k]? = some x := ⟨_, List.getElem?_eq_getElem (by rw [LNX.out]; exact hlt)⟩
      obtain ⟨y, Hy⟩ : ∃ y, ys[k]? = some y := ⟨_, List.getElem?_eq_getElem (by rw [LMY.out]; exact hlt)⟩
      have HL1 : l[k]? = some x.n := by rw [← HXS.out, List.getElem?_map, Hx]; rfl
      have EN : y.n = x.n := by
        have h2 : l[k]? = some y.n := by rw [← HYS.out, List.getElem?_map, Hy]; rfl
        rw [HL1] at h2
        exact (Option.some.inj h2).symm
      have SMX := Lib.hid (HSM.out x.n (List.mem_of_getElem? HL1))
      obtain ⟨yn, ysa, ysc⟩ := y
      dsimp only at EN
      subst EN
      clear HL1
      obtain ⟨b, off, rfl, hat⟩ := (RL.out.below BB.out).at (by omega)
      have HX := Lib.hid (hat k x Hx).1
      obtain ⟨o, ho⟩ : ∃ o, Hid (off + k * 19 = o) := ⟨_, Lib.hid rfl⟩
      rw [ho.out] at HX
      have HIX := Lib.hid (fun W => idx_off (W := W) (c := nc) (b := b) Tryz.underlying24 J19 hlt ho.out)
      obtain ⟨b2, off2, rfl, hat2⟩ := (ML.out.below BB.out).at (by omega)
      obtain ⟨o2, ho2⟩ : ∃ o, Hid (off2 + k * 19 = o) := ⟨_, Lib.hid rfl⟩
      have HY := Lib.hid (hat2 k _ Hy).1
      rw [ho2.out] at HY
      have HIY := Lib.hid (fun W => idx_off (W := W) (c := mc) (b := b2) Tryz.underlying24 J19 hlt ho2.out)
      have XOK := Lib.hid (LOK.out wr BB.out x (List.mem_of_getElem? Hx))
      have YOK := Lib.hid (MOK.out wr BB.out _ (List.mem_of_getElem? Hy))
      have HK64 : Hid ((k : Int) + 1 ≤ 9223372036854775807) := Lib.hid (by omega)
      have LX := Lib.hid (show ∀ w0, Below wr.heap.size wr w0 → w0.rangeAt b o (x.n.cells x.sa x.sc) from fun w0 h => rangeAt_below HX.out h)
      have LY := Lib.hid (show ∀ w0, Below wr.heap.size wr w0 → w0.rangeAt b2 o2 (x.n.cells ysa ysc) from fun w0 h => rangeAt_below HY.out h)
      have hC0 : Below wr.heap.size wr wr.drew := (Below.refl _ _).drew
      clear hat Hx hat2 Hy
      go_upto_region 6 with fail
      clear t0
      try simp only [Act.put, lq3, lq4, lq5]
      refine wp_region_quiet (C := fun w' : World => Below wr.heap.size wr w') (by kernel_rfl) (by kernel_rfl) hC0 ?_
      show wpQuiet _ _ _ _ (_ :: _) _
      go_big_quiet_want
      go_big_quiet_op
      go_big_quiet_on
      go_big_quiet_want
      go_big_quiet_op
      go_big_quiet_on
      go_big_quiet_want
      refine ⟨.pointer (some ⟨b, o, none⟩), fun w0 hC => ?_, ?_⟩
      · have hix := HIX.out w0
        clear hC
        go_simp
      simp only [Act.put, lq3, lq4, lq5]
      go_big_quiet_on
      go_big_quiet_want
      refine ⟨.agg (noteA x.n x.sa x.sc), fun w0 hC => quiet_load_note (.tmp 19) rfl b o rfl x.n x.sa x.sc (LX.out w0 hC), ?_⟩
      simp only [Act.put, lq3, lq4, lq5]
      go_big_quiet_on
      go_big_quiet_want
      go_big_quiet_op
      go_big_quiet_on
      go_big_quiet_want
      go_big_quiet_op
      go_big_quiet_on
      go_big_quiet_want
      refine ⟨.pointer (some ⟨b2, o2, none⟩), fun w0 hC => ?_, ?_⟩
      · have hix := HIY.out w0
        clear hC
        go_simp
      simp only [Act.put, lq3, lq4, lq5]
      go_big_quiet_on
      go_big_quiet_want
      refine ⟨.agg (noteA x.n ysa ysc), fun w0 hC => quiet_load_note (.tmp 23) rfl b2 o2 rfl x.n ysa ysc (LY.out w0 hC), ?_⟩
      simp only [Act.put, lq3, lq4, lq5]
      go_big_quiet_on
      go_big_quiet_want
      refine ⟨.bool true, fun w0 hC => ?_, ?_⟩
      · go_simp
        refine (snote_any x.n x.sa x.sc ysa ysc w0 (XOK.out.below hC) (YOK.out.below hC) SMX.out.1 SMX.out.2).mono ?_
        rintro e w1 ⟨rfl, b1⟩
        exact ⟨rfl, hC.trans (b1.mono hC.size)⟩
      simp only [Act.put, lq3, lq4, lq5]
      go_big_quiet_on
      go_big_quiet_want
      refine ⟨.bool false, fun w0 hC => ?_, ?_⟩
      · clear hC
        go_simp
      simp only [Act.put, lq3, lq4, lq5]
      go_big_quiet_on
      refine wpQuiet_nil ?_
      intro w' hC
      have BB2 := Lib.hid (BB.out.trans (hC.mono BB.out.size))
      clear hC LX LY XOK YOK HX HY BB
      have hk64 := HK64.out
      go_wp2_with fail
      go_roundw
      case rel => exact ⟨k + 1, by go_num, by omega, BB2⟩
      case measure => simp [intOf]; omega
    · have t0 : decide ((k : Int) < (nn : Int)) = false := by simp; omega
      go_wp2_with fail
      go_ret
      exact ⟨rfl, BB.out⟩
end Go.Proofs.YtlnhppgfhkkidaaGreat
namespace Go.Proofs.YtlnhppgfhkkidaaGreat
set_option linter.unusedSimpArgs false
open Go.RowKit

set_option maxHeartbeats 32000000 in
set_option maxRecDepth 100000 in
theorem power_any (f : FrV) (id : Int) (a : Option Addr) (nn nc : Nat) (l : List NoteV) (ma : Option Addr) (mn mc : Nat) (m : List NoteV) (A : Array Value) (x5 x6 x7 : Int) (w : World) (hr : RdNs w a nn nc l) (hok : ∀ y ∈ l, y.Ok) (hst : ∀ y ∈ l, y.strokes.length ≤ 17592186044416)
    (hm : RdNs w ma mn mc m) (hokm : ∀ y ∈ m, y.Ok) (hstm : ∀ y ∈ m, y.strokes.length ≤ 17592186044416) (hA : A.size = 26) (hA1 : ∀ u ∈ A, u.oneCell' = true) (h5 : A[23]? = some (.int .i64 x5)) (h6 : A[24]? = some (.int .i64 x6)) (h7 : A[25]? = some (.int .i64 x7)) :
    Calls Tryz.prog 4 #[f.val, .int .i64 id, .slice a nn nc, .slice ma mn mc, .agg A] w fun e w' => e = .returned (.bool true) ∧ Below w.heap.size w w' := by
  have hvl : f.val = .agg #[.int .i64 f.rings, .int .i64 f.sectors, .int .i64 f.wide] := rfl
  obtain ⟨xs, hxs, hrl⟩ := hr.choose
  obtain ⟨ys, hys, hml⟩ := hm.choose
  have NH := Lib.hid (fun W => newHouse9_any f id W)
  rw [hvl] at NH ⊢
  clear hvl
  have I43 := Lib.hid (show (Tryz.prog.info? 47).map (·.size) = some 19 from by kernel_rfl)
  have R := Lib.hid hrl
  have M := Lib.hid hml
  have HOK : Hid (∀ x ∈ xs, x.n.Ok) := Lib.hid (fun x hx => hok _ (hxs ▸ List.mem_map_of_mem hx))
  have HOKM : Hid (∀ x ∈ ys, x.n.Ok) := Lib.hid (fun x hx => hokm _ (hys ▸ List.mem_map_of_mem hx))
  have HST : Hid (∀ x ∈ xs, x.n.strokes.length ≤ 17592186044416) := Lib.hid (fun x hx => hst _ (hxs ▸ List.mem_map_of_mem hx))
  have HSTM : Hid (∀ x ∈ ys, x.n.strokes.length ≤ 17592186044416) := Lib.hid (fun x hx => hstm _ (hys ▸ List.mem_map_of_mem hx))
  have LN1 : Hid (xs.length = nn) := Lib.hid hrl.1
  have LN2 : Hid (ys.length = mn) := Lib.hid hml.1
  have H5 := Lib.hid h5
  have H6 := Lib.hid h6
  have H7 := Lib.hid h7
  have hn63 : nn ≤ 9223372036854775807 := by have h1 := hr.2.1; have h2 := hr.2.2.1; unfold maxLen at h2; omega
  have hm63 : mn ≤ 9223372036854775807 := by have h1 := hm.2.1; have h2 := hm.2.2.1; unfold maxLen at h2; omega
  clear hr hm hrl hml hxs hys hok hokm hst hstm h5 h6 h7
  have F0 := Lib.hid (heap_before (w.alloc (.cells #[.int .i64 f.rings, .int .i64 f.sectors, .int .i64 f.wide] 23)) (.cells A 49) _ _ (heap_at w (.cells #[.int .i64 f.rings, .int .i64 f.sectors, .int .i64 f.wide] 23) _ rfl))
  have F1 := Lib.hid (heap_at (w.alloc (.cells #[.int .i64 f.rings, .int .i64 f.sectors, .int .i64 f.wide] 23)) (.cells A 49) (w.heap.size + 1) (by simp))
  have B0 : Hid (Below w.heap.size w ((w.alloc (.cells #[.int .i64 f.rings, .int .i64 f.sectors, .int .i64 f.wide] 23)).alloc (.cells A 49))) := Lib.hid (((Below.refl _ _).alloc (Nat.le_refl _) _).alloc (by simp) _)
  go_enter Tryz.func4, Tryz.ntmps4
  go_upto_region 1 with fail
  obtain ⟨pF, hpF⟩ : ∃ p, Hid (w.heap.size = p) := ⟨_, Lib.hid rfl⟩
  obtain ⟨pX, hpX⟩ : ∃ p, Hid (w.heap.size + 1 = p) := ⟨_, Lib.hid rfl⟩
  rw [hpF.out] at F0
  rw [hpX.out] at F1
  rw [hpX.out, hpF.out]
  generalize (w.alloc (.cells #[.int .i64 f.rings, .int .i64 f.sectors, .int .i64 f.wide] 23)).alloc (.cells A 49) = W0 at *
  have ST : Hid (PoAt w W0 pF pX f A (fun _ => False)) := Lib.hid ⟨B0.out, F0.out, F1.out, Nat.le_of_eq hpF.out, fun _ h => h.elim⟩
  clear B0 F0 F1
  go_wp2_with fail
  refine (awake_any _).mono ?_
  rintro e W1 ⟨rfl, b1⟩
  replace ST := Lib.hid (ST.out.below b1)
  clear b1
  go_upto_region 2 with fail
  cases hq : decide ((20 : Int) < (nn : Int))
  case true =>
    go_wp2_with fail
    go_ret
    exact ⟨rfl, ST.out.bel⟩
  have NL := Lib.hid (show nn ≤ 20 by simp at hq; omega)
  cases hq2 : decide ((20 : Int) < (mn : Int))
  case true =>
    go_wp2_with fail
    go_ret
    exact ⟨rfl, ST.out.bel⟩
  have ML := Lib.hid (show mn ≤ 20 by simp at hq2; omega)
  go_wp2_with fail
  refine (lightL2_any xs a nn nc 300 _ (R.out.below ST.out.bel) (by have := NL.out; omega) HST.out).mono ?_
  rintro e W2 ⟨rfl, rfl⟩
  cases hb1 : decide ((lsum xs : Int) ≤ 300)
  · clear hb1
    go_wp2_with fail
    go_ret
    exact ⟨rfl, ST.out.bel⟩
  have LI : Hid (∀ x ∈ xs, x.n.strokes.length ≤ 1000000000) := Lib.hid (fun x hx => by have h1 := ssum_mem hx; have h2 : (lsum xs : Int) ≤ 300 := (by simpa using hb1); unfold lsum at h2; omega)
  clear hb1
  go_wp2_with fail
  refine (lightL2_any ys ma mn mc 300 _ (M.out.below ST.out.bel) (by have := ML.out; omega) HSTM.out).mono ?_
  rintro e W3 ⟨rfl, rfl⟩
  cases hb2 : decide ((lsum ys : Int) ≤ 300)
  · clear hb2
    go_wp2_with fail
    go_ret
    exact ⟨rfl, ST.out.bel⟩
  have LIM : Hid (∀ x ∈ ys, x.n.strokes.length ≤ 1000000000) := Lib.hid (fun x hx => by have h1 := ssum_mem hx; have h2 : (lsum ys : Int) ≤ 300 := (by simpa using hb2); unfold lsum at h2; omega)
  clear hb2 hq hq2 HST HSTM
  have c0 := cell_of ST.out.fr 0 (.int .i64 f.rings) rfl
  have c1 := cell_of ST.out.fr 1 (.int .i64 f.sectors) rfl
  have c2 := cell_of ST.out.fr 2 (.int .i64 f.wide) rfl
  go_wp2_with fail
  refine (NH.out _).mono ?_
  rintro e W4 ⟨h1, bb⟩
  rcases h1 with ⟨_, rfl⟩ | ⟨hv, hid, p, mb, sp, rfl, hh1, hg1⟩
  · replace ST := Lib.hid (ST.out.below bb)
    clear bb c0 c1 c2
    go_wp2_with fail
    go_ret
    exact ⟨rfl, ST.out.bel⟩
  replace ST := Lib.hid (ST.out.house (F' := houF p mb (fun _ => none) (fun k => k = sp)) bb hg1)
  have H1 := Lib.hid hh1
  have PW := Lib.hid (PwSt.new hv hid)
  clear hv hid hh1 hg1 bb c0 c1 c2 NH
  go_wp2_with fail
  go_loopw [14] (fun i wr => ∃ (k : Nat) (S : HouV) (G : Nm → Option LN) (SF : Nat → Prop), i = .int .i64 (k : Int) ∧ k ≤ nn ∧ Hid (PoAt w wr pF pX f A (houF p mb G SF) ∧ HouAt wr p mb sp G SF S ∧ PwSt 0 S ∧ S.l.length ≤ k)) (fun i _ => nn - (intOf i).toNat)
  case atStart => exact ⟨0, _, _, _, rfl, Nat.zero_le _, Lib.hid ⟨ST.out, H1.out, PW.out, Nat.le_refl _⟩⟩
  case round =>
    obtain ⟨k, S, G, SF, rfl, hk, LP⟩ := hrel
    clear ST H1 PW
    have ST := Lib.hid LP.out.1
    have H1 := Lib.hid LP.out.2.1
    have PW := Lib.hid LP.out.2.2.1
    have SL := Lib.hid LP.out.2.2.2
    clear LP
    by_cases hlt : k < nn
    · have t0 : decide ((k : Int) < (nn : Int)) = true := by simp; omega
      obtain ⟨x, Hx⟩ : ∃ x, xs[k]? = some x := ⟨_, List.getElem?_eq_getElem (by rw [LN1.out]; exact hlt)⟩
      have HM := Lib.hid (List.mem_of_getElem? Hx)
      obtain ⟨b, off, rfl, hat⟩ := (R.out.below ST.out.bel).at (by omega)
      obtain ⟨o, ho⟩ : ∃ o, Hid (off + k * 19 = o) := ⟨_, Lib.hid rfl⟩
      have HX := Lib.hid (hat k x Hx).1
      rw [ho.out] at HX
      have RX := Lib.hid (hat k x Hx).2
      have hix := fun W => idx_off (W := W) (c := nc) (b := b) Tryz.underlying24 I43.out hlt ho.out
      have hk64 : (k : Int) + 1 ≤ 9223372036854775807 := by omega
      clear hat Hx
      go_wp2_with (refine wpList_load_mid rfl 47 _ rfl b o rfl (x.n.cells x.sa x.sc) _ HX.out Tryz.underlying47 rfl (by exact I43.out) ?_)
      refine (hdo_any p mb sp G SF S x.n x.sa x.sc _ H1.out PW.out.inv RX.out (HOK.out x HM.out) (LI.out x HM.out) (by have h1 := SL.out; have h2 := NL.out; omega)).mono ?_
      rintro e W5 ⟨⟨ta, tc, rfl, _⟩, G', SF', h1, h2, h3⟩
      have LP2 : Hid (PoAt w W5 pF pX f A (houF p mb G' SF') ∧ HouAt W5 p mb sp G' SF' (doP S x.n).1 ∧ PwSt 0 (doP S x.n).1 ∧ (doP S x.n).1.l.length ≤ k + 1) :=
        Lib.hid ⟨ST.out.step h2 h3, h1, PW.out.doo (HOK.out x HM.out), Nat.le_trans (doP_len S x.n).1 (Nat.succ_le_succ SL.out)⟩
      clear h1 h2 h3 ST H1 PW SL
      go_wp2_with fail
      go_roundw
      case rel => exact ⟨k + 1, (doP S x.n).1, G', SF', by go_num, by omega, LP2⟩
      case measure => simp [intOf]; omega
    · have t0 : decide ((k : Int) < (nn : Int)) = false := by simp; omega
      replace SL : Hid (S.l.length ≤ 20) := Lib.hid (by have h1 := SL.out; have h2 := NL.out; omega)
      go_wp2_with fail
      clear hk hlt
      generalize wr = Wl at *
      refine (hsync_any p mb sp G SF S _ H1.out).mono ?_
      rintro e W5 ⟨rfl, h1, h2⟩
      have hsp : ∀ q, q = sp → houF p mb G SF q := fun q e => by rw [e]; exact .inr (.inr (.inl H1.out.stk.self))
      replace ST := Lib.hid (ST.out.step (F' := houF p mb G SF) (h2.weaken hsp) (fun _ h => .inl h))
      replace H1 := Lib.hid h1
      replace PW := Lib.hid PW.out.sync
      replace SL : Hid (S.sync.l.length ≤ 20) := Lib.hid SL.out
      have SE : Hid (S.ad.length = S.sync.l.length) := Lib.hid (by rw [PW.out.own.lad]; rfl)
      rw [SE.out] at PW
      clear h1 h2 hsp SE
      generalize S.sync = S1 at *
      obtain ⟨old, hold⟩ : ∃ q, Hid (S1.l.length = q) := ⟨_, Lib.hid rfl⟩
      rw [hold.out] at PW
      go_wp2_with fail
      refine (hnotes2_any p mb sp G SF S1 _ H1.out PW.out.inv (by have := SL.out; omega)).mono ?_
      rintro e W6 ⟨⟨xa, xn, xc, xz, rfl, h1, h2⟩, bb⟩
      have XN : Hid (xn = old) := Lib.hid (by have h3 := h1.len; rw [← h3, ← hold.out, ← h2, List.length_map])
      obtain rfl := XN.out
      replace ST := Lib.hid (ST.out.below bb)
      replace H1 := Lib.hid (H1.out.below bb)
      clear h1 h2 bb XN
      go_wp2_with fail
      go_loopw [16] (fun i wr => ∃ (k : Nat) (S : HouV) (G : Nm → Option LN) (SF : Nat → Prop), i = .int .i64 (k : Int) ∧ k ≤ mn ∧ Hid (PoAt w wr pF pX f A (houF p mb G SF) ∧ HouAt wr p mb sp G SF S ∧ PwSt xn S ∧ S.l.length ≤ 20 + k)) (fun i _ => mn - (intOf i).toNat)
      case atStart => exact ⟨0, S1, G, SF, rfl, Nat.zero_le _, Lib.hid ⟨ST.out, H1.out, PW.out, SL.out⟩⟩
      case round =>
        clear ST H1 PW SL hold
        obtain ⟨k, S, G, SF, rfl, hk, LP⟩ := hrel
        have ST := Lib.hid LP.out.1
        have H1 := Lib.hid LP.out.2.1
        have PW := Lib.hid LP.out.2.2.1
        have SL := Lib.hid LP.out.2.2.2
        clear LP
        by_cases hlt : k < mn
        · have t0 : decide ((k : Int) < (mn : Int)) = true := by simp; omega
          obtain ⟨x, Hx⟩ : ∃ x, ys[k]? = some x := ⟨_, List.getElem?_eq_getElem (by rw [LN2.out]; exact hlt)⟩
          have HM := Lib.hid (List.mem_of_getElem? Hx)
          obtain ⟨b, off, rfl, hat⟩ := (M.out.below ST.out.bel).at (by omega)
          obtain ⟨o, ho⟩ : ∃ o, Hid (off + k * 19 = o) := ⟨_, Lib.hid rfl⟩
          have HX := Lib.hid (hat k x Hx).1
          rw [ho.out] at HX
          have RX := Lib.hid (hat k x Hx).2
          have hix := fun W => idx_off (W := W) (c := mc) (b := b) Tryz.underlying24 I43.out hlt ho.out
          have hk64 : (k : Int) + 1 ≤ 9223372036854775807 := by omega
          clear hat Hx
          go_wp2_with (refine wpList_load_mid rfl 47 _ rfl b o rfl (x.n.cells x.sa x.sc) _ HX.out Tryz.underlying47 rfl (by exact I43.out) ?_)
          refine (hdo_any p mb sp G SF S x.n x.sa x.sc _ H1.out PW.out.inv RX.out (HOKM.out x HM.out) (LIM.out x HM.out) (by have h1 := SL.out; have h2 := ML.out; omega)).mono ?_
          rintro e W5 ⟨⟨ta, tc, rfl, _⟩, G', SF', h1, h2, h3⟩
          have LP2 : Hid (PoAt w W5 pF pX f A (houF p mb G' SF') ∧ HouAt W5 p mb sp G' SF' (doP S x.n).1 ∧ PwSt xn (doP S x.n).1 ∧ (doP S x.n).1.l.length ≤ 20 + (k + 1)) :=
            Lib.hid ⟨ST.out.step h2 h3, h1, PW.out.doo (HOKM.out x HM.out), Nat.le_trans (doP_len S x.n).1 (Nat.succ_le_succ SL.out)⟩
          clear h1 h2 h3 ST H1 PW SL
          go_wp2_with fail
          go_roundw
          case rel => exact ⟨k + 1, (doP S x.n).1, G', SF', by go_num, by omega, LP2⟩
          case measure => simp [intOf]; omega
        · have t0 : decide ((k : Int) < (mn : Int)) = false := by simp; omega
          replace SL : Hid (S.l.length ≤ 40) := Lib.hid (by have h1 := SL.out; have h2 := ML.out; omega)
          go_wp2_with fail
          clear hk hlt R M HOK HOKM LI LIM NL ML LN1 LN2 hn63 hm63
          generalize wr = Wm at *
          refine (hnotes2_any p mb sp G SF S _ H1.out PW.out.inv (by have := SL.out; omega)).mono ?_
          rintro e V1 ⟨⟨ba, bn, bc, bz, rfl, h1, h2⟩, bb⟩
          have KB := Lib.hid h1.kept
          have BZ := Lib.hid h2
          have BN : Hid (S.l.length = bn) := Lib.hid (by rw [← h2, List.length_map]; exact h1.len)
          have LT : Hid (∀ q, houF p mb G SF q → q < Wm.heap.size) := Lib.hid H1.out.lt
          replace ST := Lib.hid (ST.out.below bb)
          replace H1 := Lib.hid (H1.out.below bb)
          have SZ0 : Hid (Wm.heap.size ≤ V1.heap.size) := Lib.hid bb.size
          clear h1 h2 bb
          have c23 := cell_of ST.out.op 23 (.int .i64 x5) H5.out
          have c24 := cell_of ST.out.op 24 (.int .i64 x6) H6.out
          have c25 := cell_of ST.out.op 25 (.int .i64 x7) H7.out
          go_wp2_with fail
          refine (hcrash_any p mb sp G SF S x5 x6 x7 _ H1.out PW.out.inv (by have := SL.out; omega)).mono ?_
          rintro e V2 ⟨S', code, hcr, hi, rfl, mb', sp', G', SF', h1, h2, h3⟩
          clear c23 c24 c25
          have IV := Lib.hid hi
          have IS := Lib.hid PW.out.inv
          have PC := Lib.hid (PW.out.crash hcr)
          replace KB := Lib.hid (KB.out.step h2 (fun q hq => .inl (LT.out q hq)))
          replace ST := Lib.hid (ST.out.step h2 h3)
          replace H1 := Lib.hid h1
          have SL2 : Hid (S'.l.length ≤ 40) := Lib.hid (by
            rcases PC.out with ⟨_, h4⟩ | ⟨_, q, _, _, h4, _⟩
            · rw [h4]; exact SL.out
            · rw [h4, List.length_take]; have := SL.out; omega)
          clear hi h1 h2 h3 hcr H5 H6 H7
          go_wp2_with fail
          refine (hnotes2_any p mb' sp' G' SF' S' _ H1.out IV.out (by have := SL2.out; omega)).mono ?_
          rintro e V3 ⟨⟨na, un, uc, nz, rfl, h1, h2⟩, bb⟩
          have KN := Lib.hid h1.kept
          have NZ := Lib.hid h2
          have NN : Hid (S'.l.length = un) := Lib.hid (by rw [← h2, List.length_map]; exact h1.len)
          have LT2 : Hid (∀ q, houF p mb' G' SF' q → q < V2.heap.size) := Lib.hid H1.out.lt
          replace KB := Lib.hid (KB.out.below bb)
          replace ST := Lib.hid (ST.out.below bb)
          replace H1 := Lib.hid (H1.out.below bb)
          clear h1 h2 bb
          rcases PC.out with ⟨rfl, hS⟩ | ⟨rfl, q, hq1, hq2, hq3, hq4⟩
          · have ES := Lib.hid hS
            clear hS PC
            have RN : Hid (∀ W2, Below V3.heap.size V3 W2 → RdNs W2 na un uc S.l) := Lib.hid (fun W2 hb => by
              have h1 := (KN.out.below hb).rd
              rw [← ES.out, ← NZ.out]
              exact rdNs_of (rdA_ls h1) (fun x hx => ls_ok h1 hx))
            have RB : Hid (∀ W2, Below V3.heap.size V3 W2 → RdNs W2 ba bn bc S.l) := Lib.hid (fun W2 hb => by
              have h1 := (KB.out.below hb).rd
              rw [← BZ.out]
              exact rdNs_of (rdA_ls h1) (fun x hx => ls_ok h1 hx))
            go_wp2_with fail
            refine (sameNotes9_eq S.l na un uc ba bn bc _ (RN.out _ (Below.refl _ _)) (RB.out _ (Below.refl _ _)) (small_set IS.out)).mono ?_
            rintro e V4 ⟨rfl, bb⟩
            replace ST := Lib.hid (ST.out.below bb)
            clear bb
            go_wp2_with fail
            go_ret
            exact ⟨rfl, ST.out.bel⟩
          · have HQ3 := Lib.hid hq3
            have PW2 := Lib.hid hq4
            have UQ : Hid (un = q) := Lib.hid (by rw [← NN.out, hq3, List.length_take]; omega)
            obtain rfl := UQ.out
            have t1 : decide ((un : Int) < (xn : Int)) = false := by simp; omega
            have t2 : decide ((bn : Int) < (un : Int)) = false := by have := BN.out; simp; omega
            have HLE : Hid (un ≤ bn) := Lib.hid (by have := BN.out; omega)
            have hl1 : xn ≤ un := hq1
            have hl2 : un ≤ bn := HLE.out
            clear hq1 hq2 hq3 hq4 PC UQ
            obtain ⟨a', hcut, hrc⟩ := cutN_eq KB.out.rd un HLE.out
            rw [BZ.out, ← HQ3.out] at hrc
            have RB : Hid (RdNs V3 a' un un S'.l) := Lib.hid hrc
            have RN : Hid (RdNs V3 na un uc S'.l) := Lib.hid (by
              have h1 := KN.out.rd
              rw [← NZ.out]
              exact rdNs_of (rdA_ls h1) (fun x hx => ls_ok h1 hx))
            clear hrc
            go_wp2_with fail
            refine (sameNotes9_eq S'.l na un uc a' un un _ RN.out RB.out (small_set IV.out)).mono ?_
            rintro e V4 ⟨rfl, bb⟩
            replace ST := Lib.hid (ST.out.below bb)
            replace KN := Lib.hid (KN.out.below bb)
            replace H1 := Lib.hid (H1.out.below bb)
            clear bb hcut RB RN t1 t2 KB LT
            go_wp2_with fail
            refine (hcrash_any p mb' sp' G' SF' S' 0 0 (-1) _ H1.out IV.out (by have := SL2.out; omega)).mono ?_
            rintro e V5 ⟨S2, code, hcr, hi, rfl, mb2, sp2, G2, SF2, h1, h2, h3⟩
            obtain ⟨rfl, hl2, hpw⟩ := PW2.out.again hcr
            have HL2 := Lib.hid hl2
            have PW3 := Lib.hid hpw
            replace KN := Lib.hid (KN.out.step h2 (fun q hq => .inl (LT2.out q hq)))
            replace ST := Lib.hid (ST.out.step h2 h3)
            replace H1 := Lib.hid h1
            clear hcr hi h1 h2 h3 hl2 hpw LT2
            go_wp2_with fail
            refine (hnotes2_any p mb2 sp2 G2 SF2 S2 _ H1.out PW3.out.inv (by rw [HL2.out]; have := SL2.out; omega)).mono ?_
            rintro e V6 ⟨⟨za, zn, zc, zz, rfl, h1, h2⟩, bb⟩
            have RZ : Hid (RdNs V6 za zn zc S'.l) := Lib.hid (by rw [← HL2.out, ← h2]; exact h1.rd)
            have RN : Hid (RdNs V6 na un uc S'.l) := Lib.hid (by
              have h1 := (KN.out.below bb).rd
              rw [← NZ.out]
              exact rdNs_of (rdA_ls h1) (fun x hx => ls_ok h1 hx))
            replace ST := Lib.hid (ST.out.below bb)
            clear h1 h2 bb
            go_wp2_with fail
            refine (sameNotes9_eq S'.l za zn zc na un uc _ RZ.out RN.out (small_set IV.out)).mono ?_
            rintro e V7 ⟨rfl, bb⟩
            replace ST := Lib.hid (ST.out.below bb)
            clear bb
            go_wp2_with fail
            go_ret
            exact ⟨rfl, ST.out.bel⟩
end Go.Proofs.YtlnhppgfhkkidaaGreat
namespace Go.Proofs.YtlnhppgfhkkidaaGreat
open Go.ChangeShapes Go.WideShapes Go.ChangeAt Go.RowKit

theorem Tryz.own : ownKnob Tryz.prog.godebug = none := by kernel_rfl
theorem Tryz.laidOut : laidOutB Tryz.prog = true := by kernel_rfl

theorem below_trodAll {H : Type} {enc : TypeId × Value → H} {P : Program} (hl : laidOutB P = true) {W W' : World} (hb : Below W.heap.size W W') :
    ∀ (ts : List TypeId) {vs : List Value} {ds : List (DataW H)} {ps : List MemPlace}, ts.all (fun t => P.readableRec t && decide (t < P.types.size)) = true → (∀ x ∈ ps, x.block < W.heap.size) →
      DataW.TrodAll enc P W 0 (fun _ => true) true ts vs ds ps → DataW.TrodAll enc P W' 0 (fun b => decide (b < W.heap.size)) true ts vs ds ps
  | [], [], [], _, _, _, h => h
  | [], _ :: _, _, _, _, _, h => h.elim
  | [], [], _ :: _, _, _, _, h => h.elim
  | _ :: _, [], _, _, _, _, h => h.elim
  | _ :: _, _ :: _, [], _, _, _, h => h.elim
  | t :: ts, v :: vs, d :: ds, ps, hr, hlt, h => by
    obtain ⟨p, q, h1, h2, rfl⟩ := h
    simp only [List.all_cons, Bool.and_eq_true, decide_eq_true_eq] at hr
    exact ⟨p, q, Below.trod hl hr.1.1 hr.1.2 h1 hb (fun x hx => hlt x (List.mem_append_left _ hx)), below_trodAll hl hb ts hr.2 (fun x hx => hlt x (List.mem_append_right _ hx)) h2, rfl⟩

theorem post_of_law {H : Type} {enc : TypeId × Value → H} {P : Program} (hl : laidOutB P = true) {t : TypeId} (ht : P.underlying t = some .bool) {f : Func} {s : ChangeSpec} {W W' : World} {args : Array Value} {ds : List (DataW H)} {ps : List MemPlace}
    (hv : s.vars = []) (hf : f.resultTypes = #[t]) (hr : f.params.toList.all (fun t => P.readableRec t && decide (t < P.types.size)) = true)
    (hW : DataW.Whole enc P f.params.toList s.vars false W args.toList ds [] ps) (hA : DataW.TrodAll enc P W 0 (fun _ => true) true f.params.toList args.toList ds ps)
    (hs : s.fn H (ds ++ []) = { results := [.lit (.bool true)], args := ds }) (hb : Below W.heap.size W W') : s.post enc P f false true false false W args (.bool true) W' := by
  refine ⟨ds, [], ps, [], ps, [], hW, ?_, ?_, ?_, hb.frame _, fun h => by cases h⟩
  · rw [hs, hf]
    exact trodAll_mk1 (shut_bool ht _)
  · rw [hs]
    exact below_trodAll hl hb _ hr hW.lt hA
  · rw [hs, hv]
    rfl

end Go.Proofs.YtlnhppgfhkkidaaGreat
namespace Go.Proofs.YtlnhppgfhkkidaaGreat
open Go.ChangeShapes Go.WideShapes Go.ChangeAt Go.RowKit

theorem i64_of_wf {x : Int} (h : (Lit.int .i64 x).wf = true) : I64 x := by
  simp [Lit.wf, IntKind.min, IntKind.max, IntKind.signed, IntKind.bits] at h
  unfold I64
  omega
theorem Tryz.cells3 : Tryz.prog.cellsOf 3 = 1 := by kernel_rfl
theorem Tryz.cells37 : Tryz.prog.cellsOf 37 = 1 := by kernel_rfl
theorem Tryz.cells43 : Tryz.prog.cellsOf 43 = 2 := by kernel_rfl
theorem Tryz.cells45 : Tryz.prog.cellsOf 45 = 2 := by kernel_rfl
theorem Tryz.cells47 : Tryz.prog.cellsOf 47 = 19 := by kernel_rfl

section
variable {H : Type} {enc : TypeId × Value → H} {W : World} {fuel : Nat}

theorem open_ri1 {cs : List Value} {y : DataW H × List MemPlace} (h : DataW.trod enc Tryz.prog W 0 (fun _ => true) true fuel 37 cs = some y) : ∃ a c l, cs = [.slice a l.length c] ∧ RdI W a l.length c l ∧ ∀ z ∈ l, I64 z := by
  rcases open_ints Tryz.underlying37 Tryz.underlying3 Tryz.cells3 h with ⟨hcs, hx⟩ | ⟨a, n, c, zs, hcs, _, hl, hm, hz, hx, hcell, hwz⟩
  · exact ⟨none, 0, [], hcs, RdA.nil _ _, fun z hz => by cases hz⟩
  · simp only [if_true] at hz
    have hlen : (zs.take n).length = n := by rw [List.length_take]; omega
    refine ⟨some a, c, zs.take n, by rw [hlen]; exact hcs, ⟨by simp, by omega, hm, ?_⟩, fun z hz => i64_of_wf (hwz z (List.mem_of_mem_take hz))⟩
    by_cases hc0 : c = 0
    · exact .inl hc0
    · obtain ⟨ab, ao, spot⟩ := a
      have hspot : spot = none := by simpa [Addr.add] using World.cell?_spot (hcell 0 (by omega))
      subst hspot
      refine .inr ⟨ab, ao, rfl, fun i x hx => ?_⟩
      rw [List.getElem?_map, List.getElem?_take] at hx
      split at hx
      · rename_i hi
        have hiz : i < zs.length := by omega
        rw [List.getElem?_eq_getElem hiz, Option.map_some] at hx
        simp only [Option.some.injEq] at hx
        subst hx
        have hc := hcell i hiz
        rw [Addr.add_lit] at hc
        rw [hc, List.getD_eq_getElem?_getD, List.getElem?_eq_getElem hiz]
        rfl
      · cases hx
theorem get_some {α : Type} {xs : List α} {n i : Nat} (h : xs.length = n) (hi : i < n) : ∃ y, xs[i]? = some y := ⟨xs[i]'(by omega), List.getElem?_eq_getElem (by omega)⟩
set_option maxRecDepth 100000 in
theorem open_two {t : TypeId} {cs : List Value} {y : DataW H × List MemPlace} {f0 f1 : Field} (ht : Tryz.prog.underlying t = some (.struct #[f0, f1])) (h0 : f0.type = 3) (h1 : f1.type = 3) (o0 : f0.offset = 0) (o1 : f1.offset = 1) (hc : Tryz.prog.cellsOf t = 2)
    (h : DataW.trod enc Tryz.prog W 0 (fun _ => true) true fuel t cs = some y) : ∃ x z, cs = [.int .i64 x, .int .i64 z] ∧ I64 x ∧ I64 z := by
  obtain ⟨y0, y1, n, _, hl, g0, g1⟩ := trod_struct2 ht h
  rw [hc] at hl
  match cs, hl with
  | [c0, c1], _ =>
    rw [h0, o0, Tryz.cells3] at g0
    rw [h1, o1, Tryz.cells3] at g1
    obtain ⟨x, a0, _, b0⟩ := DataW.trod_int Tryz.underlying3 g0
    obtain ⟨z, a1, _, b1⟩ := DataW.trod_int Tryz.underlying3 g1
    simp at a0 a1
    exact ⟨x, z, by rw [a0, a1], i64_of_wf b0, i64_of_wf b1⟩

set_option maxHeartbeats 1000000 in
set_option maxRecDepth 100000 in
theorem open_note1 {cs : List Value} {y : DataW H × List MemPlace} (h : DataW.trod enc Tryz.prog W 0 (fun _ => true) true fuel 47 cs = some y) : ∃ n : NoteV, RdNote W cs n := by
  obtain ⟨xs, m, _, _, hl, hlen, hf⟩ := DataW.trod_struct Tryz.underlying47 h
  rw [Tryz.cells47] at hl
  match cs, hl with
  | [c0, c1, c2, c3, c4, c5, c6, c7, c8, c9, c10, c11, c12, c13, c14, c15, c16, c17, c18], _ =>
    obtain ⟨y0, e0⟩ := get_some hlen (i := 0) (by decide)
    have g0 : DataW.trod enc Tryz.prog W 0 (fun _ => true) true m 3 (([c0, c1, c2, c3, c4, c5, c6, c7, c8, c9, c10, c11, c12, c13, c14, c15, c16, c17, c18].drop 0).take (Tryz.prog.cellsOf 3)) = some y0 := (hf 0 _ rfl).trans e0
    rw [Tryz.cells3] at g0
    obtain ⟨x0, a0, _, b0⟩ := DataW.trod_int Tryz.underlying3 g0
    simp at a0
    clear e0 g0
    obtain ⟨y1, e1⟩ := get_some hlen (i := 1) (by decide)
    have g1 : DataW.trod enc Tryz.prog W 0 (fun _ => true) true m 3 (([c0, c1, c2, c3, c4, c5, c6, c7, c8, c9, c10, c11, c12, c13, c14, c15, c16, c17, c18].drop 1).take (Tryz.prog.cellsOf 3)) = some y1 := (hf 1 _ rfl).trans e1
    rw [Tryz.cells3] at g1
    obtain ⟨x1, a1, _, b1⟩ := DataW.trod_int Tryz.underlying3 g1
    simp at a1
    clear e1 g1
    obtain ⟨y2, e2⟩ := get_some hlen (i := 2) (by decide)
    have g2 : DataW.trod enc Tryz.prog W 0 (fun _ => true) true m 3 (([c0, c1, c2, c3, c4, c5, c6, c7, c8, c9, c10, c11, c12, c13, c14, c15, c16, c17, c18].drop 2).take (Tryz.prog.cellsOf 3)) = some y2 := (hf 2 _ rfl).trans e2
    rw [Tryz.cells3] at g2
    obtain ⟨x2, a2, _, b2⟩ := DataW.trod_int Tryz.underlying3 g2
    simp at a2
    clear e2 g2
    obtain ⟨y3, e3⟩ := get_some hlen (i := 3) (by decide)
    have g3 : DataW.trod enc Tryz.prog W 0 (fun _ => true) true m 3 (([c0, c1, c2, c3, c4, c5, c6, c7, c8, c9, c10, c11, c12, c13, c14, c15, c16, c17, c18].drop 3).take (Tryz.prog.cellsOf 3)) = some y3 := (hf 3 _ rfl).trans e3
    rw [Tryz.cells3] at g3
    obtain ⟨x3, a3, _, b3⟩ := DataW.trod_int Tryz.underlying3 g3
    simp at a3
    clear e3 g3
    obtain ⟨y4, e4⟩ := get_some hlen (i := 4) (by decide)
    have g4 : DataW.trod enc Tryz.prog W 0 (fun _ => true) true m 3 (([c0, c1, c2, c3, c4, c5, c6, c7, c8, c9, c10, c11, c12, c13, c14, c15, c16, c17, c18].drop 4).take (Tryz.prog.cellsOf 3)) = some y4 := (hf 4 _ rfl).trans e4
    rw [Tryz.cells3] at g4
    obtain ⟨x4, a4, _, b4⟩ := DataW.trod_int Tryz.underlying3 g4
    simp at a4
    clear e4 g4
    obtain ⟨y5, e5⟩ := get_some hlen (i := 5) (by decide)
    have g5 : DataW.trod enc Tryz.prog W 0 (fun _ => true) true m 3 (([c0, c1, c2, c3, c4, c5, c6, c7, c8, c9, c10, c11, c12, c13, c14, c15, c16, c17, c18].drop 5).take (Tryz.prog.cellsOf 3)) = some y5 := (hf 5 _ rfl).trans e5
    rw [Tryz.cells3] at g5
    obtain ⟨x5, a5, _, b5⟩ := DataW.trod_int Tryz.underlying3 g5
    simp at a5
    clear e5 g5
    obtain ⟨y6, e6⟩ := get_some hlen (i := 6) (by decide)
    have g6 : DataW.trod enc Tryz.prog W 0 (fun _ => true) true m 3 (([c0, c1, c2, c3, c4, c5, c6, c7, c8, c9, c10, c11, c12, c13, c14, c15, c16, c17, c18].drop 6).take (Tryz.prog.cellsOf 3)) = some y6 := (hf 6 _ rfl).trans e6
    rw [Tryz.cells3] at g6
    obtain ⟨x6, a6, _, b6⟩ := DataW.trod_int Tryz.underlying3 g6
    simp at a6
    clear e6 g6
    obtain ⟨y7, e7⟩ := get_some hlen (i := 7) (by decide)
    have g7 : DataW.trod enc Tryz.prog W 0 (fun _ => true) true m 3 (([c0, c1, c2, c3, c4, c5, c6, c7, c8, c9, c10, c11, c12, c13, c14, c15, c16, c17, c18].drop 7).take (Tryz.prog.cellsOf 3)) = some y7 := (hf 7 _ rfl).trans e7
    rw [Tryz.cells3] at g7
    obtain ⟨x7, a7, _, b7⟩ := DataW.trod_int Tryz.underlying3 g7
    simp at a7
    clear e7 g7
    obtain ⟨y8, e8⟩ := get_some hlen (i := 8) (by decide)
    have g8 : DataW.trod enc Tryz.prog W 0 (fun _ => true) true m 43 (([c0, c1, c2, c3, c4, c5, c6, c7, c8, c9, c10, c11, c12, c13, c14, c15, c16, c17, c18].drop 8).take (Tryz.prog.cellsOf 43)) = some y8 := (hf 8 _ rfl).trans e8
    rw [Tryz.cells43] at g8
    obtain ⟨x8, z8, a8, b8, d8⟩ := open_two Tryz.underlying43 rfl rfl rfl rfl Tryz.cells43 g8
    simp at a8
    clear e8 g8
    obtain ⟨y9, e9⟩ := get_some hlen (i := 9) (by decide)
    have g9 : DataW.trod enc Tryz.prog W 0 (fun _ => true) true m 43 (([c0, c1, c2, c3, c4, c5, c6, c7, c8, c9, c10, c11, c12, c13, c14, c15, c16, c17, c18].drop 10).take (Tryz.prog.cellsOf 43)) = some y9 := (hf 9 _ rfl).trans e9
    rw [Tryz.cells43] at g9
    obtain ⟨x9, z9, a9, b9, d9⟩ := open_two Tryz.underlying43 rfl rfl rfl rfl Tryz.cells43 g9
    simp at a9
    clear e9 g9
    obtain ⟨y10, e10⟩ := get_some hlen (i := 10) (by decide)
    have g10 : DataW.trod enc Tryz.prog W 0 (fun _ => true) true m 3 (([c0, c1, c2, c3, c4, c5, c6, c7, c8, c9, c10, c11, c12, c13, c14, c15, c16, c17, c18].drop 12).take (Tryz.prog.cellsOf 3)) = some y10 := (hf 10 _ rfl).trans e10
    rw [Tryz.cells3] at g10
    obtain ⟨x10, a10, _, b10⟩ := DataW.trod_int Tryz.underlying3 g10
    simp at a10
    clear e10 g10
    obtain ⟨y11, e11⟩ := get_some hlen (i := 11) (by decide)
    have g11 : DataW.trod enc Tryz.prog W 0 (fun _ => true) true m 3 (([c0, c1, c2, c3, c4, c5, c6, c7, c8, c9, c10, c11, c12, c13, c14, c15, c16, c17, c18].drop 13).take (Tryz.prog.cellsOf 3)) = some y11 := (hf 11 _ rfl).trans e11
    rw [Tryz.cells3] at g11
    obtain ⟨x11, a11, _, b11⟩ := DataW.trod_int Tryz.underlying3 g11
    simp at a11
    clear e11 g11
    obtain ⟨y12, e12⟩ := get_some hlen (i := 12) (by decide)
    have g12 : DataW.trod enc Tryz.prog W 0 (fun _ => true) true m 3 (([c0, c1, c2, c3, c4, c5, c6, c7, c8, c9, c10, c11, c12, c13, c14, c15, c16, c17, c18].drop 14).take (Tryz.prog.cellsOf 3)) = some y12 := (hf 12 _ rfl).trans e12
    rw [Tryz.cells3] at g12
    obtain ⟨x12, a12, _, b12⟩ := DataW.trod_int Tryz.underlying3 g12
    simp at a12
    clear e12 g12
    obtain ⟨y13, e13⟩ := get_some hlen (i := 13) (by decide)
    have g13 : DataW.trod enc Tryz.prog W 0 (fun _ => true) true m 37 (([c0, c1, c2, c3, c4, c5, c6, c7, c8, c9, c10, c11, c12, c13, c14, c15, c16, c17, c18].drop 15).take (Tryz.prog.cellsOf 37)) = some y13 := (hf 13 _ rfl).trans e13
    rw [Tryz.cells37] at g13
    obtain ⟨sa, sc, l, a13, r13, b13⟩ := open_ri1 g13
    simp at a13
    clear e13 g13
    obtain ⟨y14, e14⟩ := get_some hlen (i := 14) (by decide)
    have g14 : DataW.trod enc Tryz.prog W 0 (fun _ => true) true m 45 (([c0, c1, c2, c3, c4, c5, c6, c7, c8, c9, c10, c11, c12, c13, c14, c15, c16, c17, c18].drop 16).take (Tryz.prog.cellsOf 45)) = some y14 := (hf 14 _ rfl).trans e14
    rw [Tryz.cells45] at g14
    obtain ⟨x14, z14, a14, b14, d14⟩ := open_two Tryz.underlying45 rfl rfl rfl rfl Tryz.cells45 g14
    simp at a14
    clear e14 g14
    obtain ⟨y15, e15⟩ := get_some hlen (i := 15) (by decide)
    have g15 : DataW.trod enc Tryz.prog W 0 (fun _ => true) true m 3 (([c0, c1, c2, c3, c4, c5, c6, c7, c8, c9, c10, c11, c12, c13, c14, c15, c16, c17, c18].drop 18).take (Tryz.prog.cellsOf 3)) = some y15 := (hf 15 _ rfl).trans e15
    rw [Tryz.cells3] at g15
    obtain ⟨x15, a15, _, b15⟩ := DataW.trod_int Tryz.underlying3 g15
    simp at a15
    clear e15 g15
    exact ⟨{ house := x0, num := x1, clock := x2, day := x3, kind := x4, stone := x5, heap := x6, turns := x7, hardLo := x8, hardHi := z8, diffLo := x9, diffHi := z9, a := x10, b := x11, ring := x12, strokes := l, refH := x14, refN := z14, fix := x15 }, sa, sc, by simp only [NoteV.cells]; rw [a0, a1, a2, a3, a4, a5, a6, a7, a8.1, a8.2, a9.1, a9.2, a10, a11, a12, a13, a14.1, a14.2, a15], r13, { house := i64_of_wf b0, num := i64_of_wf b1, clock := i64_of_wf b2, day := i64_of_wf b3, kind := i64_of_wf b4, stone := i64_of_wf b5, heap := i64_of_wf b6, turns := i64_of_wf b7, hardLo := b8, hardHi := d8, diffLo := b9, diffHi := d9, a := i64_of_wf b10, b := i64_of_wf b11, ring := i64_of_wf b12, strokes := b13, refH := b14, refN := d14, fix := i64_of_wf b15 }⟩
end
end Go.Proofs.YtlnhppgfhkkidaaGreat
namespace Go.Proofs.YtlnhppgfhkkidaaGreat
open Go.ChangeShapes Go.WideShapes Go.ChangeAt Go.RowKit

theorem Tryz.cells23 : Tryz.prog.cellsOf 23 = 3 := by kernel_rfl
theorem Tryz.cells24 : Tryz.prog.cellsOf 24 = 1 := by kernel_rfl
section
variable {H : Type} {enc : TypeId × Value → H} {W : World}
set_option maxRecDepth 100000 in
theorem hopen_frame {base : Nat} {v : Value} {d : DataW H} {p : List MemPlace} (hval : Value.okWide Tryz.prog W .any base 23 v)
    (h : DataW.Trod enc Tryz.prog W 0 (fun _ => true) true 23 v d p) : ∃ f : FrV, v = f.val := by
  obtain ⟨cs, rfl, hsz⟩ := okWide_struct Tryz.underlying23 hval
  obtain ⟨fuel, hf⟩ := h
  obtain ⟨y0, y1, y2, n, _, hl, g0, g1, g2⟩ := Go.Deep.trod_struct3 Tryz.underlying23 hf
  rw [Tryz.cells23] at hsz
  obtain ⟨l⟩ := cs
  match l, hsz with
  | [c0, c1, c2], _ =>
    have g0' : DataW.trod enc Tryz.prog W 0 (fun _ => true) true n 3 (([c0, c1, c2].drop 0).take (Tryz.prog.cellsOf 3)) = some y0 := g0
    have g1' : DataW.trod enc Tryz.prog W 0 (fun _ => true) true n 3 (([c0, c1, c2].drop 1).take (Tryz.prog.cellsOf 3)) = some y1 := g1
    have g2' : DataW.trod enc Tryz.prog W 0 (fun _ => true) true n 3 (([c0, c1, c2].drop 2).take (Tryz.prog.cellsOf 3)) = some y2 := g2
    rw [Tryz.cells3] at g0' g1' g2'
    obtain ⟨x0, a0, _, _⟩ := DataW.trod_int Tryz.underlying3 g0'
    obtain ⟨x1, a1, _, _⟩ := DataW.trod_int Tryz.underlying3 g1'
    obtain ⟨x2, a2, _, _⟩ := DataW.trod_int Tryz.underlying3 g2'
    simp at a0 a1 a2
    exact ⟨⟨x0, x1, x2⟩, by rw [a0, a1, a2]; rfl⟩
theorem cells_spot {a : Addr} {n : Nat} {cs : List Value} (hn : 0 < n) (h : W.cells? 0 a n = some cs) : a.spot = none := by
  have h2 := World.cells?_some h
  have h3 := h2.2.2 0 (by have := h2.1; omega)
  rw [List.getElem?_eq_getElem (by have := h2.1; omega)] at h3
  simpa [Addr.add] using World.cell?_spot h3
theorem choose_list {α : Type} {n : Nat} {P : Nat → α → Prop} (h : ∀ i, i < n → ∃ x, P i x) : ∃ l : List α, l.length = n ∧ ∀ i x, l[i]? = some x → P i x := by
  induction n with
  | zero => exact ⟨[], rfl, by simp⟩
  | succ n ih =>
    obtain ⟨l, h1, h2⟩ := ih (fun i hi => h i (by omega))
    obtain ⟨x, hx⟩ := h n (by omega)
    refine ⟨l ++ [x], by simp [h1], fun i y hy => ?_⟩
    rcases Nat.lt_or_ge i l.length with hi | hi
    · rw [List.getElem?_append_left hi] at hy; exact h2 i y hy
    · rw [List.getElem?_append_right hi] at hy
      have : i - l.length = 0 := by
        rcases Nat.eq_zero_or_pos (i - l.length) with h0 | h0
        · exact h0
        · rw [List.getElem?_eq_none (by simp; omega)] at hy; cases hy
      rw [this] at hy
      simp at hy
      subst hy
      have : i = n := by omega
      rw [this]; exact hx
end
end Go.Proofs.YtlnhppgfhkkidaaGreat
namespace Go.Proofs.YtlnhppgfhkkidaaGreat
open Go.ChangeShapes Go.WideShapes Go.ChangeAt Go.RowKit

theorem Tryz.bytes3 : Tryz.prog.bytesOf 3 = 8 := by kernel_rfl
theorem Tryz.cellsB41 : Tryz.prog.cellsOf 41 = 1 := by kernel_rfl
theorem Tryz.cells49 : Tryz.prog.cellsOf 49 = 26 := by kernel_rfl
theorem weights_all_mem {H : Type} {P : Program} {e : TypeId} : ∀ {ds : List (DataW H)} {d : DataW H}, d ∈ ds → ∀ n ∈ d.weights P e, n ∈ DataW.weightsAll P e ds
  | [], _, h, _, _ => by cases h
  | d0 :: ds, d, h, n, hn => by
    simp only [DataW.weightsAll, List.mem_append]
    rcases List.mem_cons.1 h with rfl | h
    · exact .inl hn
    · exact .inr (weights_all_mem h n hn)
section
variable {H : Type} {enc : TypeId × Value → H} {W : World}
def Within (t : TypeId) (d : DataW H) : Prop := ∀ q ∈ d.weights Tryz.prog t, q ≤ reachBytes
theorem within_of {ts : List TypeId} {ds : List (DataW H)} (h : (DataW.weightsEach Tryz.prog ts ds).all (· ≤ reachBytes) = true) {j : Nat} {t : TypeId} {d : DataW H} (ht : ts[j]? = some t) (hd : ds[j]? = some d) : Within t d := fun q hq => by
  have := List.all_eq_true.1 h _ (DataW.weights_mem_each ht hd q hq)
  simpa using this
theorem within_ri {fuel : Nat} {y : DataW H × List MemPlace} {a : Option Addr} {n c : Nat} (h : DataW.trod enc Tryz.prog W 0 (fun _ => true) true fuel 37 [.slice a n c] = some y) (hs : Within 37 y.1) : n ≤ 17592186044416 := by
  rcases DataW.trod_slice Tryz.underlying37 h with ⟨hcs, hx⟩ | ⟨a1, len', cap', elems, rest, m, _, hcs, hx, hb, hl, hm, hlen, hel, hsp, hns⟩
  · simp at hcs
    omega
  · simp at hcs
    obtain ⟨rfl, rfl, rfl⟩ := hcs
    subst hx
    have h1 := hs ((elems.length + rest.length) * Tryz.prog.bytesOf 3) (by simp [DataW.weights, Tryz.underlying37])
    rw [Tryz.bytes3, show reachBytes = 140737488351232 by decide] at h1
    omega
set_option maxRecDepth 100000 in
theorem within_note {fuel : Nat} {y : DataW H × List MemPlace} {n : NoteV} {sa : Option Addr} {sc : Nat} (h : DataW.trod enc Tryz.prog W 0 (fun _ => true) true fuel 47 (n.cells sa sc) = some y) (hs : Within 47 y.1) : n.strokes.length ≤ 17592186044416 := by
  obtain ⟨xs, m, _, hx, hl, hlen, hf⟩ := DataW.trod_struct Tryz.underlying47 h
  obtain ⟨y13, e13⟩ := get_some hlen (i := 13) (by decide)
  have g13 : DataW.trod enc Tryz.prog W 0 (fun _ => true) true m 37 (((n.cells sa sc).drop 15).take (Tryz.prog.cellsOf 37)) = some y13 := (hf 13 _ rfl).trans e13
  rw [Tryz.cells37] at g13
  refine within_ri (y := y13) g13 fun q hq => hs q ?_
  rw [hx]
  simp only [DataW.weights, Tryz.underlying47]
  exact DataW.weights_mem_each (j := 13) (t := 37) rfl (by simp [List.getElem?_map, e13]) q hq
theorem open_rowsW {fuel : Nat} {cs : List Value} {y : DataW H × List MemPlace} {t e : TypeId} {k : Nat} (ht : Tryz.prog.underlying t = some (.slice e)) (hc : Tryz.prog.cellsOf e = k) (hk : 0 < k)
    (h : DataW.trod enc Tryz.prog W 0 (fun _ => true) true fuel t cs = some y) (hs : Within t y.1) :
    ∃ a n c, cs = [.slice a n c] ∧ n ≤ c ∧ c ≤ maxLen ∧ (c = 0 ∨ ∃ b off, a = some ⟨b, off, none⟩ ∧ ∀ i, i < n → ∃ es m z, DataW.trod enc Tryz.prog W 0 (fun _ => true) true m e es = some z ∧ W.rangeAt b (off + i * k) es ∧ Within e z.1) := by
  rcases DataW.trod_slice ht h with ⟨hcs, hx⟩ | ⟨a, len', cap', elems, rest, m, _, hcs, hx, hb, hl, hm, hlen, hel, hsp, hns⟩
  · exact ⟨none, 0, 0, hcs, Nat.le_refl _, Nat.zero_le _, .inl rfl⟩
  · rw [hc] at hel hsp
    refine ⟨some a, len', cap', hcs, hl, hm, ?_⟩
    rcases Nat.eq_zero_or_pos cap' with h0 | h0
    · exact .inl h0
    · have hspot : a.spot = none := by
        rcases Nat.eq_zero_or_pos len' with h1 | h1
        · obtain ⟨h2, h3⟩ := hsp rfl
          have h4 := h3 0 (by omega)
          rw [List.getElem?_eq_getElem (by omega)] at h4
          cases hq : W.cells? 0 (a.add ((len' + 0) * k)) k with
          | none => rw [hq] at h4; cases h4
          | some cs => rw [show (len' + 0) * k = 0 by rw [h1]; simp] at hq; have := cells_spot hk hq; simpa [Addr.add] using this
        · have h4 := hel 0 h1
          rw [List.getElem?_eq_getElem (by omega)] at h4
          cases hq : W.cells? 0 (a.add (0 * k)) k with
          | none => rw [hq] at h4; cases h4
          | some cs => rw [Nat.zero_mul] at hq; have := cells_spot hk hq; simpa [Addr.add] using this
      obtain ⟨ab, ao, spot⟩ := a
      simp only at hspot
      subst hspot
      refine .inr ⟨ab, ao, rfl, fun i hi => ?_⟩
      have h1 := hel i hi
      rw [List.getElem?_eq_getElem (by omega)] at h1
      cases hcs : W.cells? 0 ((⟨ab, ao, none⟩ : Addr).add (i * k)) k with
      | none => rw [hcs] at h1; cases h1
      | some es =>
        rw [hcs] at h1
        have h2 := World.cells?_some hcs
        refine ⟨es, m, _, h1, fun j v hv => ?_, fun q hq => hs q ?_⟩
        · have hj : j < es.length := (List.getElem?_eq_some_iff.1 hv).1
          have h3 := h2.2.2 j (by have := h2.1; omega)
          rw [hv] at h3
          simpa [Addr.add_lit] using h3
        · rw [hx]
          simp only [DataW.weights, ht, List.mem_cons, List.mem_append]
          refine .inr (.inl (weights_all_mem ?_ q hq))
          exact List.mem_map_of_mem (List.getElem_mem _)
set_option maxRecDepth 100000 in
theorem open_notesW {base : Nat} {v : Value} {d : DataW H} {p : List MemPlace} (hval : Value.okWide Tryz.prog W .any base 24 v)
    (h : DataW.Trod enc Tryz.prog W 0 (fun _ => true) true 24 v d p) (hs : Within 24 d) : ∃ a n c l, v = .slice a n c ∧ RdNs W a n c l ∧ (∀ x ∈ l, x.Ok) ∧ ∀ x ∈ l, x.strokes.length ≤ 17592186044416 := by
  obtain ⟨a1, n1, c1, rfl⟩ := okWide_slice Tryz.underlying24 hval
  obtain ⟨fuel, hf⟩ := h
  obtain ⟨a, n, c, h0, h1, h2, h3⟩ := open_rowsW Tryz.underlying24 Tryz.cells47 (by decide) hf hs
  simp [Value.cells] at h0
  obtain ⟨rfl, rfl, rfl⟩ := h0
  rcases h3 with h3 | ⟨b, off, rfl, h3⟩
  · exact ⟨_, _, _, [], rfl, ⟨by simp; omega, h1, h2, .inl h3⟩, (fun x hx => by cases hx), (fun x hx => by cases hx)⟩
  · obtain ⟨l, h4, h5⟩ := choose_list (P := fun i (x : NoteV) => ∃ es, W.rangeAt b (off + i * 19) es ∧ RdNote W es x ∧ x.strokes.length ≤ 17592186044416) (fun i hi => by
      obtain ⟨es, m, z, h6, h7, h8⟩ := h3 i hi
      obtain ⟨x, hx⟩ := open_note1 h6
      have hx2 := hx
      obtain ⟨sa, sc, rfl, _⟩ := hx
      exact ⟨x, _, h7, hx2, within_note h6 h8⟩)
    refine ⟨_, _, _, l, rfl, ⟨h4, h1, h2, .inr ⟨b, off, rfl, fun i x hx => ?_⟩⟩, fun x hx => ?_, fun x hx => ?_⟩
    · obtain ⟨es, h6, ⟨sa, sc, rfl, h7, _⟩, _⟩ := h5 i x hx
      exact ⟨sa, sc, h6, h7⟩
    · obtain ⟨i, hi⟩ := List.getElem?_of_mem hx
      obtain ⟨es, h6, ⟨sa, sc, rfl, _, h7⟩, _⟩ := h5 i x hi
      exact h7
    · obtain ⟨i, hi⟩ := List.getElem?_of_mem hx
      obtain ⟨es, h6, _, h7⟩ := h5 i x hi
      exact h7
theorem slice_formW {fuel : Nat} {t e : TypeId} {cs : List Value} {y : DataW H × List MemPlace} (ht : Tryz.prog.underlying t = some (.slice e))
    (h : DataW.trod enc Tryz.prog W 0 (fun _ => true) true fuel t cs = some y) : ∃ a n c, cs = [.slice a n c] := by
  rcases DataW.trod_slice ht h with ⟨hcs, hx⟩ | ⟨a, len', cap', elems, rest, m, _, hcs, hx, _⟩
  · exact ⟨_, _, _, hcs⟩
  · exact ⟨_, _, _, hcs⟩
set_option maxHeartbeats 1000000 in
set_option maxRecDepth 100000 in
theorem open_opv {base : Nat} {v : Value} {d : DataW H} {p : List MemPlace} (hval : Value.okWide Tryz.prog W .any base 49 v)
    (h : DataW.Trod enc Tryz.prog W 0 (fun _ => true) true 49 v d p) : ∃ (A : Array Value) (x5 x6 x7 : Int), v = .agg A ∧ A.size = 26 ∧ (∀ u ∈ A, u.oneCell' = true) ∧ A[23]? = some (.int .i64 x5) ∧ A[24]? = some (.int .i64 x6) ∧ A[25]? = some (.int .i64 x7) ∧ I64 x5 ∧ I64 x6 ∧ I64 x7 := by
  obtain ⟨cs, rfl, hsz⟩ := okWide_struct Tryz.underlying49 hval
  obtain ⟨fuel, hf⟩ := h
  obtain ⟨xs, m, _, _, hl, hlen, hf⟩ := DataW.trod_struct Tryz.underlying49 hf
  rw [Tryz.cells49] at hsz
  obtain ⟨l⟩ := cs
  match l, hsz with
  | [c0, c1, c2, c3, c4, c5, c6, c7, c8, c9, c10, c11, c12, c13, c14, c15, c16, c17, c18, c19, c20, c21, c22, c23, c24, c25], _ =>
    obtain ⟨y0, e0⟩ := get_some hlen (i := 0) (by decide)
    have g0 : DataW.trod enc Tryz.prog W 0 (fun _ => true) true m 3 (([c0, c1, c2, c3, c4, c5, c6, c7, c8, c9, c10, c11, c12, c13, c14, c15, c16, c17, c18, c19, c20, c21, c22, c23, c24, c25].drop 0).take (Tryz.prog.cellsOf 3)) = some y0 := (hf 0 _ rfl).trans e0
    rw [Tryz.cells3] at g0
    obtain ⟨x0, a0, _, b0⟩ := DataW.trod_int Tryz.underlying3 g0
    simp at a0
    obtain ⟨y1, e1⟩ := get_some hlen (i := 1) (by decide)
    have g1 : DataW.trod enc Tryz.prog W 0 (fun _ => true) true m 41 (([c0, c1, c2, c3, c4, c5, c6, c7, c8, c9, c10, c11, c12, c13, c14, c15, c16, c17, c18, c19, c20, c21, c22, c23, c24, c25].drop 1).take (Tryz.prog.cellsOf 41)) = some y1 := (hf 1 _ rfl).trans e1
    rw [Tryz.cellsB41] at g1
    obtain ⟨ba, bn, bc, a1⟩ := slice_formW Tryz.underlying41 g1
    simp at a1
    obtain ⟨y2, e2⟩ := get_some hlen (i := 2) (by decide)
    have g2 : DataW.trod enc Tryz.prog W 0 (fun _ => true) true m 47 (([c0, c1, c2, c3, c4, c5, c6, c7, c8, c9, c10, c11, c12, c13, c14, c15, c16, c17, c18, c19, c20, c21, c22, c23, c24, c25].drop 2).take (Tryz.prog.cellsOf 47)) = some y2 := (hf 2 _ rfl).trans e2
    rw [Tryz.cells47] at g2
    obtain ⟨nv, na, nc, a2, _, _⟩ := open_note1 g2
    simp only [NoteV.cells] at a2
    simp at a2
    obtain ⟨y3, e3⟩ := get_some hlen (i := 3) (by decide)
    have g3 : DataW.trod enc Tryz.prog W 0 (fun _ => true) true m 24 (([c0, c1, c2, c3, c4, c5, c6, c7, c8, c9, c10, c11, c12, c13, c14, c15, c16, c17, c18, c19, c20, c21, c22, c23, c24, c25].drop 21).take (Tryz.prog.cellsOf 24)) = some y3 := (hf 3 _ rfl).trans e3
    rw [Tryz.cells24] at g3
    obtain ⟨p3, q3, s3, a3⟩ := slice_formW Tryz.underlying24 g3
    simp at a3
    obtain ⟨y4, e4⟩ := get_some hlen (i := 4) (by decide)
    have g4 : DataW.trod enc Tryz.prog W 0 (fun _ => true) true m 37 (([c0, c1, c2, c3, c4, c5, c6, c7, c8, c9, c10, c11, c12, c13, c14, c15, c16, c17, c18, c19, c20, c21, c22, c23, c24, c25].drop 22).take (Tryz.prog.cellsOf 37)) = some y4 := (hf 4 _ rfl).trans e4
    rw [Tryz.cells37] at g4
    obtain ⟨p4, s4, l4, a4⟩ := slice_formW Tryz.underlying37 g4
    simp at a4
    obtain ⟨y5, e5⟩ := get_some hlen (i := 5) (by decide)
    have g5 : DataW.trod enc Tryz.prog W 0 (fun _ => true) true m 3 (([c0, c1, c2, c3, c4, c5, c6, c7, c8, c9, c10, c11, c12, c13, c14, c15, c16, c17, c18, c19, c20, c21, c22, c23, c24, c25].drop 23).take (Tryz.prog.cellsOf 3)) = some y5 := (hf 5 _ rfl).trans e5
    rw [Tryz.cells3] at g5
    obtain ⟨x5, a5, _, b5⟩ := DataW.trod_int Tryz.underlying3 g5
    simp at a5
    obtain ⟨y6, e6⟩ := get_some hlen (i := 6) (by decide)
    have g6 : DataW.trod enc Tryz.prog W 0 (fun _ => true) true m 3 (([c0, c1, c2, c3, c4, c5, c6, c7, c8, c9, c10, c11, c12, c13, c14, c15, c16, c17, c18, c19, c20, c21, c22, c23, c24, c25].drop 24).take (Tryz.prog.cellsOf 3)) = some y6 := (hf 6 _ rfl).trans e6
    rw [Tryz.cells3] at g6
    obtain ⟨x6, a6, _, b6⟩ := DataW.trod_int Tryz.underlying3 g6
    simp at a6
    obtain ⟨y7, e7⟩ := get_some hlen (i := 7) (by decide)
    have g7 : DataW.trod enc Tryz.prog W 0 (fun _ => true) true m 3 (([c0, c1, c2, c3, c4, c5, c6, c7, c8, c9, c10, c11, c12, c13, c14, c15, c16, c17, c18, c19, c20, c21, c22, c23, c24, c25].drop 25).take (Tryz.prog.cellsOf 3)) = some y7 := (hf 7 _ rfl).trans e7
    rw [Tryz.cells3] at g7
    obtain ⟨x7, a7, _, b7⟩ := DataW.trod_int Tryz.underlying3 g7
    simp at a7
    refine ⟨_, x5, x6, x7, rfl, rfl, ?_, by simp [a5], by simp [a6], by simp [a7], i64_of_wf b5, i64_of_wf b6, i64_of_wf b7⟩
    intro u hu
    simp only [List.mem_toArray, List.mem_cons, List.not_mem_nil, or_false] at hu
    rcases hu with rfl | rfl | rfl | rfl | rfl | rfl | rfl | rfl | rfl | rfl | rfl | rfl | rfl | rfl | rfl | rfl | rfl | rfl | rfl | rfl | rfl | rfl | rfl | rfl | rfl | rfl
    · rw [a0]; rfl
    · rw [a1]; rfl
    · rw [a2.1]; rfl
    · rw [a2.2.1]; rfl
    · rw [a2.2.2.1]; rfl
    · rw [a2.2.2.2.1]; rfl
    · rw [a2.2.2.2.2.1]; rfl
    · rw [a2.2.2.2.2.2.1]; rfl
    · rw [a2.2.2.2.2.2.2.1]; rfl
    · rw [a2.2.2.2.2.2.2.2.1]; rfl
    · rw [a2.2.2.2.2.2.2.2.2.1]; rfl
    · rw [a2.2.2.2.2.2.2.2.2.2.1]; rfl
    · rw [a2.2.2.2.2.2.2.2.2.2.2.1]; rfl
    · rw [a2.2.2.2.2.2.2.2.2.2.2.2.1]; rfl
    · rw [a2.2.2.2.2.2.2.2.2.2.2.2.2.1]; rfl
    · rw [a2.2.2.2.2.2.2.2.2.2.2.2.2.2.1]; rfl
    · rw [a2.2.2.2.2.2.2.2.2.2.2.2.2.2.2.1]; rfl
    · rw [a2.2.2.2.2.2.2.2.2.2.2.2.2.2.2.2.1]; rfl
    · rw [a2.2.2.2.2.2.2.2.2.2.2.2.2.2.2.2.2.1]; rfl
    · rw [a2.2.2.2.2.2.2.2.2.2.2.2.2.2.2.2.2.2.1]; rfl
    · rw [a2.2.2.2.2.2.2.2.2.2.2.2.2.2.2.2.2.2.2]; rfl
    · rw [a3]; rfl
    · rw [a4]; rfl
    · rw [a5]; rfl
    · rw [a6]; rfl
    · rw [a7]; rfl
end
end Go.Proofs.YtlnhppgfhkkidaaGreat
namespace Go.Proofs.YtlnhppgfhkkidaaGreat
open Go.ChangeShapes Go.WideShapes Go.ChangeAt Go.RowKit

theorem trodAll_five {H : Type} {enc : TypeId × Value → H} {P : Program} {w : World} {base : Nat} {spare : Nat → Bool} {held : Bool} {t0 t1 t2 t3 t4 : TypeId} {args : Array Value} {ds : List (DataW H)} {ps : List MemPlace} (h : DataW.TrodAll enc P w base spare held [t0, t1, t2, t3, t4] args.toList ds ps) :
    ∃ v0 v1 v2 v3 v4 d0 d1 d2 d3 d4 p0 p1 p2 p3 p4, args = #[v0, v1, v2, v3, v4] ∧ ds = [d0, d1, d2, d3, d4] ∧ ps = p0 ++ p1 ++ p2 ++ p3 ++ p4 ∧ DataW.Trod enc P w base spare held t0 v0 d0 p0 ∧ DataW.Trod enc P w base spare held t1 v1 d1 p1 ∧ DataW.Trod enc P w base spare held t2 v2 d2 p2 ∧ DataW.Trod enc P w base spare held t3 v3 d3 p3 ∧ DataW.Trod enc P w base spare held t4 v4 d4 p4 := by
  obtain ⟨v0, a0, d0, b0, p0, q0, hargs, rfl, rfl, h0, g0⟩ := trodAll_cons h
  obtain ⟨v1, a1, d1, b1, p1, q1, rfl, rfl, rfl, h1, g1⟩ := trodAll_cons g0
  obtain ⟨v2, a2, d2, b2, p2, q2, rfl, rfl, rfl, h2, g2⟩ := trodAll_cons g1
  obtain ⟨v3, a3, d3, b3, p3, q3, rfl, rfl, rfl, h3, g3⟩ := trodAll_cons g2
  obtain ⟨v4, a4, d4, b4, p4, q4, rfl, rfl, rfl, h4, g4⟩ := trodAll_cons g3
  obtain ⟨rfl, rfl, rfl⟩ := trodAll_nil g4
  exact ⟨v0, v1, v2, v3, v4, d0, d1, d2, d3, d4, p0, p1, p2, p3, p4, by cases args; simp_all, rfl, by simp, h0, h1, h2, h3, h4⟩

set_option maxRecDepth 100000 in
theorem talliesPower_lifted (os : Os) (started : os.Started) (H : Type) (enc : TypeId × Value → H) :
    ReturnsInHanded {} Tryz.checked os 4 .any (Rows.talliesPowerSpec.pre6 enc Tryz.prog Tryz.f4 Rows.talliesPowerRow.domain false) (Rows.talliesPowerSpec.post enc Tryz.prog Tryz.f4 false true false false) := by
  refine returnsInHanded_of_change_sized (C := Tryz.checked) Tryz.own started (by kernel_rfl) Tryz.func4
    (ChangeSpec.witness6 (enc := enc) (C := Tryz.checked) false ⟨#[], #[.agg #[.int .i64 0, .int .i64 0, .int .i64 0], .int .i64 0, .slice none 0 0, .slice none 0 0, .agg #[.int .i64 0, .slice none 0 0, .int .i64 0, .int .i64 0, .int .i64 0, .int .i64 0, .int .i64 0, .int .i64 0, .int .i64 0, .int .i64 0, .int .i64 0, .int .i64 0, .int .i64 0, .int .i64 0, .int .i64 0, .int .i64 0, .int .i64 0, .slice none 0 0, .int .i64 0, .int .i64 0, .int .i64 0, .slice none 0 0, .slice none 0 0, .int .i64 0, .int .i64 0, .int .i64 0]], []⟩ 8 (by kernel_rfl) (by kernel_rfl) (by kernel_rfl) (by kernel_rfl)) ?_
  intro W base args ds gs before hval0 hW hcnd hsz _
  have hval : ∀ (j : Nat) t v, Tryz.f4.params[j]? = some t → args[j]? = some v → Value.okWide Tryz.prog W .any base t v := hval0
  have hW' := hW
  obtain ⟨p, q, hA0, hV, rfl, hfz, hnd⟩ := hW
  have hA : DataW.TrodAll enc Tryz.prog W 0 (fun _ => true) true Tryz.f4.params.toList args.toList ds p := hA0
  have hA1 := hA
  rw [Tryz.params4] at hA hval
  obtain ⟨v0, v1, v2, v3, v4, d0, d1, d2, d3, d4, p0, p1, p2, p3, p4, rfl, rfl, rfl, h0, h1, h2, h3, h4⟩ := trodAll_five hA
  obtain ⟨rfl, rfl⟩ := trodVars_none hV
  obtain ⟨f, rfl⟩ := hopen_frame (hval 0 23 v0 rfl rfl) h0
  have k2 : Within 24 d2 := within_of hsz (j := 2) (by kernel_rfl) rfl
  have k3 : Within 24 d3 := within_of hsz (j := 3) (by kernel_rfl) rfl
  obtain ⟨x1, rfl, rfl, rfl, w1⟩ := open_int Tryz.underlying3 (hval 1 3 v1 rfl rfl) h1
  obtain ⟨a, n, c, l, rfl, r1, r2, s1⟩ := open_notesW (hval 2 24 v2 rfl rfl) h2 k2
  obtain ⟨a2, n2, c2, m, rfl, r3, r4, s2⟩ := open_notesW (hval 3 24 v3 rfl rfl) h3 k3
  obtain ⟨A, x5, x6, x7, rfl, q1, q2, q3, q4, q5, _, _, _⟩ := open_opv (hval 4 49 v4 rfl rfl) h4
  clear hA0 hval0
  simp only [List.append_nil] at hW' hA1
  refine (power_any f x1 a n c l a2 n2 c2 m A x5 x6 x7 W r1 r2 s1 r3 r4 s2 q1 q2 q3 q4 q5).mono fun e W' ⟨he, hb⟩ => ?_
  subst he
  exact ⟨_, rfl, post_of_law Tryz.laidOut Tryz.underlying4 rfl (by kernel_rfl) (by kernel_rfl) hW' hA1 rfl hb⟩

theorem talliesPower_holds : Rows.TalliesPowerSaid :=
  OpenClaim.holds_of_wide 4 Tryz.f4 rfl rfl rfl rfl rfl rfl rfl ⟨rfl, rfl, rfl, rfl, rfl⟩ rfl rfl rfl rfl rfl (by kernel_rfl) Tryz.func4 (by kernel_rfl)
    (of_decide_eq_true (by kernel_rfl)) (by unfold Func.isWrapper; first | (rw [if_pos (by decide +kernel)]; kernel_rfl) | (rw [if_neg (by decide +kernel)]; exact ⟨rfl, rfl⟩))
    (fun os started H enc _ => talliesPower_lifted os started H enc)
#print axioms talliesPower_holds
end Go.Proofs.YtlnhppgfhkkidaaGreat
