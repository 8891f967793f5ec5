/- Parts of the proof, in this order: Sticks: Write, Sync, Tallies, Crash; Sticks: Crash; Sticks: Crash goes through; The plain law about both halves: tallies are joined to the same bytes; shorter journals tell a beginning; with one bit inverted the journals tell what is ahead of it; A note: its numbers, its cells; Structs of many cells, whole: a load, and a store into the block that was made last; The cells of a note as one array; loads and stores of whole structs; The program's small tests of notes: in, rightName, nameOf, valid, cell, spans, strokes; The program's test of strokes, equality of int slices, equality of notes; Equality of arrays of ints, as one step; The program's equality of notes; The program's contents of notes. -/
import Derived.BigRegion
import Derived.Deep.MidRow
import Derived.Deep.WholeRow
import Derived.Handy
import Derived.ChangeKeysEq
import Derived.Deep.RegionHeld3
import Derived.Deep.Cut
import Derived.Test.YtlnhppgfhkkidaaGreatKPpw1
set_option linter.unusedSimpArgs false
set_option linter.unusedVariables false
open List renaming getElem_toArray → lq0, getElem_cons_succ → lq1, getElem_cons_zero → lq2, setIfInBounds_toArray → lq3, set_cons_zero → lq4, set_cons_succ → lq5
namespace Go.Proofs.YtlnhppgfhkkidaaGreat
open Go.RowKit

theorem write_yes (w : World) (p : Nat) (F : Nat → Prop) (sb fb : List UInt8) (sd fd : Nat) (a : Option Addr) (n c : Nat) (l : List UInt8) (h : Stk w p F sb fb sd fd) (hr : RdB w a n c l)
    (h1 : n ≤ 8192) (h2 : sb.length + n + 2 ≤ 16777216) (h3 : fb.length + 4 ≤ 16777216) :
    Calls Tryz.prog 49 #[.pointer (some ⟨p, 0, none⟩), .slice a n c] w fun e w' => e = .returned (.int .i64 0) ∧ ∃ F', Stk w' p F' (sb ++ stockOf l) (fb ++ foilOf l) sd fd ∧ Same F w w' ∧ (∀ k, F' k → F k ∨ w.heap.size ≤ k) := by
  have hput := put_any w p F sb fb sd fd a n c l h hr (by omega) h2 h3
  obtain ⟨sa, sc, fa, fc, g1, g2, g3, g4, g5, g6, g7, g8, g9⟩ := h
  have e1 : w.cell? ⟨p, 0, none⟩ = some (.slice sa sb.length sc) := by simp [World.cell?, g1]
  have e2 : w.cell? ⟨p, 2, none⟩ = some (.slice fa fb.length fc) := by simp [World.cell?, g1]
  have q1 : decide ((8192 : Int) < (n : Int)) = false := by simp; omega
  have q2 : decide ((16777216 : Int) < (sb.length : Int) + n + 2) = false := by simp; omega
  have q3 : decide ((16777216 : Int) < (fb.length : Int) + 4) = false := by simp; omega
  clear g1 g2 g3 g4 g5
  have HP := Lib.hid hput; clear hput
  go_enter Tryz.func49, Tryz.ntmps49
  go_wp2_with fail
  refine HP.out.mono ?_
  rintro e w' ⟨rfl, hpost⟩
  go_wp2_with fail
  go_ret
  exact ⟨rfl, hpost⟩

theorem Stk.j0 {w : World} {p : Nat} {F : Nat → Prop} {sb fb : List UInt8} {sd fd : Nat} (h : Stk w p F sb fb sd fd) : ∃ a c, JAt w p 0 a sb.length c sd ∧ w.ownsRow 0 5 1 (.slice a sb.length c) sb.length (sb.map byteV) := by
  obtain ⟨sa, sc, fa, fc, g1, g2, g3, g4, g5, g6, g7, g8, g9⟩ := h
  exact ⟨sa, sc, ⟨by simp [World.cell?, g1], by simp [World.cell?, g1], by simp [World.frozen?, g1], by simp [World.frozen?, g1]⟩, g2⟩
theorem Stk.j2 {w : World} {p : Nat} {F : Nat → Prop} {sb fb : List UInt8} {sd fd : Nat} (h : Stk w p F sb fb sd fd) : ∃ a c, JAt w p 2 a fb.length c fd ∧ w.ownsRow 0 5 1 (.slice a fb.length c) fb.length (fb.map byteV) := by
  obtain ⟨sa, sc, fa, fc, g1, g2, g3, g4, g5, g6, g7, g8, g9⟩ := h
  exact ⟨fa, fc, ⟨by simp [World.cell?, g1], by simp [World.cell?, g1], by simp [World.frozen?, g1], by simp [World.frozen?, g1]⟩, g3⟩
theorem Stk.setDur {w : World} {p : Nat} {F : Nat → Prop} {sb fb : List UInt8} {sd fd : Nat} (h : Stk w p F sb fb sd fd) (d : Nat) :
    (d ≤ sb.length → Stk (w.setCell ⟨p, 1, none⟩ (.int .i64 d)) p F sb fb d fd) ∧ (d ≤ fb.length → Stk (w.setCell ⟨p, 3, none⟩ (.int .i64 d)) p F sb fb sd d) := by
  obtain ⟨sa, sc, fa, fc, g1, g2, g3, g4, g5, g6, g7, g8, g9⟩ := h
  have n1 := own_ne g2 g1 (by decide)
  have n2 := own_ne g3 g1 (by decide)
  have s1 : ∀ o, Same (fun k => k = p) w (w.setCell ⟨p, o, none⟩ (.int .i64 d)) := fun o =>
    Same.of_grown (row := some p) ⟨rfl, rfl, rfl, by simp [World.setCell], fun k _ hk => Below.heap_setCell w ⟨p, o, none⟩ _ k (fun e => hk (by rw [e]))⟩ (fun k e => by cases e; rfl)
  constructor
  · intro hd
    refine ⟨sa, sc, fa, fc, ?_, own_keep g2 (s1 1) (fun b hb e => n1 (by rw [hb, e])), own_keep g3 (s1 1) (fun b hb e => n2 (by rw [hb, e])), g4, g5, hd, g7, g8, g9⟩
    rw [heap_setCell_same w p 1 _ 168 _ g1]; rfl
  · intro hd
    refine ⟨sa, sc, fa, fc, ?_, own_keep g2 (s1 3) (fun b hb e => n1 (by rw [hb, e])), own_keep g3 (s1 3) (fun b hb e => n2 (by rw [hb, e])), g4, g5, g6, hd, g8, g9⟩
    rw [heap_setCell_same w p 3 _ 168 _ g1]; rfl

theorem sync_any (w : World) (p : Nat) (F : Nat → Prop) (sb fb : List UInt8) (sd fd : Nat) (h : Stk w p F sb fb sd fd) :
    Calls Tryz.prog 74 #[.pointer (some ⟨p, 0, none⟩)] w fun e w' => e = .returned (.tuple #[]) ∧ Stk w' p F sb fb sb.length fb.length ∧ Same (fun k => k = p) w w' := by
  obtain ⟨sa, sc, j1, _⟩ := h.j0
  have h2 := (h.setDur sb.length).1 (Nat.le_refl _)
  have h3 := (h2.setDur fb.length).2 (Nat.le_refl _)
  obtain ⟨fa, fc, j3, _⟩ := h2.j2
  have HH := Lib.hid h3; clear h3 h2 h
  go_enter Tryz.func74, Tryz.ntmps74
  go_wp2_with fail
  refine (jsync_any _ _ _ _ _ _ _ j1).mono ?_
  rintro e w' ⟨rfl, rfl⟩
  go_wp2_with fail
  refine (jsync_any _ _ _ _ _ _ _ j3).mono ?_
  rintro e w' ⟨rfl, rfl⟩
  go_wp2_with fail
  go_end0
  refine ⟨rfl, HH.out, ?_⟩
  refine Same.trans (Same.of_grown (row := some p) (W' := w.setCell ⟨p, 1, none⟩ (.int .i64 sb.length)) ⟨rfl, rfl, rfl, by simp [World.setCell], fun k _ hk => Below.heap_setCell w ⟨p, 1, none⟩ _ k (fun e => hk (by rw [e]))⟩ (fun k e => by cases e; rfl)) ?_
  exact Same.of_grown (row := some p) ⟨rfl, rfl, rfl, by simp [World.setCell], fun k _ hk => Below.heap_setCell _ ⟨p, 3, none⟩ _ k (fun e => hk (by rw [e]))⟩ (fun k e => by cases e; rfl)

theorem talliesOf_any (w : World) (p : Nat) (F : Nat → Prop) (sb fb : List UInt8) (sd fd : Nat) (h : Stk w p F sb fb sd fd) :
    Calls Tryz.prog 51 #[.pointer (some ⟨p, 0, none⟩)] w fun e w' => ∃ oa oc, e = .returned (.slice oa (joinOf sb fb).length oc) ∧ OwnBB w' w.heap.size oa (joinOf sb fb).length oc (joinOf sb fb) ∧ Below w.heap.size w w' := by
  obtain ⟨sa, sc, fa, fc, g1, g2, g3, g4, g5, g6, g7, g8, g9⟩ := h
  have e1 : w.cell? ⟨p, 0, none⟩ = some (.slice sa sb.length sc) := by simp [World.cell?, g1]
  have e2 : w.cell? ⟨p, 2, none⟩ = some (.slice fa fb.length fc) := by simp [World.cell?, g1]
  have hlt : p < w.heap.size := (Array.getElem?_eq_some_iff.1 g1).1
  have r1 := RdB.of_own g2
  have r2 := RdB.of_own g3
  clear g1 g2 g3 g4 g5
  go_enter Tryz.func51, Tryz.ntmps51
  go_wp2_with fail
  go_region_held3 (fun w' => w'.cell? ⟨p, 0, none⟩ = some (.slice sa sb.length sc) ∧ w'.cell? ⟨p, 2, none⟩ = some (.slice fa fb.length fc)) (first | exact ⟨e1, e2⟩ | exact ⟨(hb.cell (p := ⟨p, 0, none⟩) hlt).trans e1, (hb.cell (p := ⟨p, 2, none⟩) hlt).trans e2⟩)
    (first | (go_at_call 47; refine (join_any _ _ _ sb _ _ _ fb _ (r1.below (Below.refl _ _).drew) (r2.below (Below.refl _ _).drew) (by omega) (by omega)).mono ?_; rintro e w1 ⟨oa, oc, rfl, ho, hb⟩))
  go_wp2_with fail
  go_ret
  exact ⟨oa, oc, rfl, ho, (Below.refl _ _).drew.trans hb⟩
end Go.Proofs.YtlnhppgfhkkidaaGreat
namespace Go.Proofs.YtlnhppgfhkkidaaGreat
open Go.RowKit

def CrashOk (sb fb : List UInt8) (sd fd : Nat) (stock foil flip : Int) : Prop :=
  0 ≤ stock ∧ stock ≤ (sb.length : Int) - sd ∧ 0 ≤ foil ∧ foil ≤ (fb.length : Int) - fd ∧ -1 ≤ flip ∧ flip < 8 * (stock + foil)

set_option maxHeartbeats 1000000 in
theorem crash_no (w : World) (p : Nat) (F : Nat → Prop) (sb fb : List UInt8) (sd fd : Nat) (stock foil flip : Int) (h : Stk w p F sb fb sd fd) (hc : ¬ CrashOk sb fb sd fd stock foil flip) :
    Calls Tryz.prog 50 #[.pointer (some ⟨p, 0, none⟩), .int .i64 stock, .int .i64 foil, .int .i64 flip] w fun e w' => e = .returned (.int .i64 1) ∧ ∃ q, w' = w.drewN q := by
  have hq : ∀ q, Stk (w.drewN q) p F sb fb sd fd := fun q => h.same (S := fun _ => False) (Same.of_below (below_drewN (Below.refl _ _) q)) (fun _ e => e.elim)
  obtain ⟨_, _, _, _, _, _, _, _, _, g6, g7, g8, g9⟩ := id h
  have P1 : ∀ q, Calls Tryz.prog 110 #[.pointer (some ⟨p, 0, none⟩)] (w.drewN q) fun e w' => e = .returned (.int .i64 ((sb.length : Int) - sd)) ∧ ∃ q', w' = w.drewN q' := by
    intro q
    obtain ⟨a, c, j, _⟩ := (hq q).j0
    refine (jpending_any _ _ _ _ _ _ _ j g6 (by omega)).mono ?_
    rintro e w' ⟨rfl, q', rfl⟩
    exact ⟨rfl, q + q', by rw [World.drewN_drewN]⟩
  have P2 : ∀ q, Calls Tryz.prog 110 #[.pointer (some ⟨p, 2, none⟩)] (w.drewN q) fun e w' => e = .returned (.int .i64 ((fb.length : Int) - fd)) ∧ ∃ q', w' = w.drewN q' := by
    intro q
    obtain ⟨a, c, j, _⟩ := (hq q).j2
    refine (jpending_any _ _ _ _ _ _ _ j g7 (by omega)).mono ?_
    rintro e w' ⟨rfl, q', rfl⟩
    exact ⟨rfl, q + q', by rw [World.drewN_drewN]⟩
  have H1 := Lib.hid P1; clear P1
  have H2 := Lib.hid P2; clear P2 hq h
  have hd0 : w = w.drewN 0 := rfl
  have D0 := Lib.hid hd0; clear hd0
  by_cases c1 : 0 ≤ stock
  · have q1 : decide (stock < 0) = false := by simp; omega
    by_cases c2 : stock ≤ (sb.length : Int) - sd
    · have q2 : decide ((sb.length : Int) - sd < stock) = false := by simp; omega
      by_cases c3 : 0 ≤ foil
      · have q3 : decide (foil < 0) = false := by simp; omega
        by_cases c4 : foil ≤ (fb.length : Int) - fd
        · have q4 : decide ((fb.length : Int) - fd < foil) = false := by simp; omega
          by_cases c5 : -1 ≤ flip
          · have q5 : decide (flip < -1) = false := by simp; omega
            have q6 : decide (8 * (stock + foil) ≤ flip) = true := by
              simp only [decide_eq_true_eq]
              by_cases hx : 8 * (stock + foil) ≤ flip
              · exact hx
              · exact absurd ⟨c1, c2, c3, c4, c5, by omega⟩ hc
            clear hc
            go_enter Tryz.func50, Tryz.ntmps50
            go_wp2_with fail
            refine (H1.out 0).mono ?_
            rintro e w' ⟨rfl, q, rfl⟩
            go_wp2_with fail
            refine (H2.out q).mono ?_
            rintro e w' ⟨rfl, q', rfl⟩
            go_wp2_with fail
            go_ret
            exact ⟨rfl, _, rfl⟩
          · have q5 : decide (flip < -1) = true := by simp; omega
            clear hc
            go_enter Tryz.func50, Tryz.ntmps50
            go_wp2_with fail
            refine (H1.out 0).mono ?_
            rintro e w' ⟨rfl, q, rfl⟩
            go_wp2_with fail
            refine (H2.out q).mono ?_
            rintro e w' ⟨rfl, q', rfl⟩
            go_wp2_with fail
            go_ret
            exact ⟨rfl, _, rfl⟩
        · have q4 : decide ((fb.length : Int) - fd < foil) = true := by simp; omega
          clear hc
          go_enter Tryz.func50, Tryz.ntmps50
          go_wp2_with fail
          refine (H1.out 0).mono ?_
          rintro e w' ⟨rfl, q, rfl⟩
          go_wp2_with fail
          refine (H2.out q).mono ?_
          rintro e w' ⟨rfl, q', rfl⟩
          go_wp2_with fail
          go_ret
          exact ⟨rfl, _, rfl⟩
      · have q3 : decide (foil < 0) = true := by simp; omega
        clear hc
        go_enter Tryz.func50, Tryz.ntmps50
        go_wp2_with fail
        refine (H1.out 0).mono ?_
        rintro e w' ⟨rfl, q, rfl⟩
        go_wp2_with fail
        go_ret
        exact ⟨rfl, _, rfl⟩
    · have q2 : decide ((sb.length : Int) - sd < stock) = true := by simp; omega
      clear hc
      go_enter Tryz.func50, Tryz.ntmps50
      go_wp2_with fail
      refine (H1.out 0).mono ?_
      rintro e w' ⟨rfl, q, rfl⟩
      go_wp2_with fail
      go_ret
      exact ⟨rfl, _, rfl⟩
  · have q1 : decide (stock < 0) = true := by simp; omega
    clear hc
    go_enter Tryz.func50, Tryz.ntmps50
    go_wp2_with fail
    go_ret
    exact ⟨rfl, 0, rfl⟩
end Go.Proofs.YtlnhppgfhkkidaaGreat
namespace Go.Proofs.YtlnhppgfhkkidaaGreat
open Go.RowKit

def flipAt (l : List UInt8) (i b : Nat) : List UInt8 := l.set i ((l[i]?.getD 0) ^^^ UInt8.ofNat (2 ^ b))
theorem flipAt_len (l : List UInt8) (i b : Nat) : (flipAt l i b).length = l.length := by simp [flipAt]

def crashS (sb : List UInt8) (sd stock : Nat) (flip : Int) : List UInt8 :=
  if 0 ≤ flip ∧ flip.toNat / 8 < stock then flipAt (sb.take (sd + stock)) (sd + flip.toNat / 8) (flip.toNat % 8) else sb.take (sd + stock)
def crashF (fb : List UInt8) (fd stock foil : Nat) (flip : Int) : List UInt8 :=
  if 0 ≤ flip ∧ ¬ flip.toNat / 8 < stock then flipAt (fb.take (fd + foil)) (fd + flip.toNat / 8 - stock) (flip.toNat % 8) else fb.take (fd + foil)

theorem Stk.setStock {w w1 : World} {p : Nat} {F : Nat → Prop} {sb fb : List UInt8} {sd fd : Nat} (h : Stk w p F sb fb sd fd) (hb : Below w.heap.size w w1) {a : Option Addr} {m c : Nat} {l : List UInt8}
    (ho : w1.ownsRow w.heap.size 5 1 (.slice a m c) m (l.map byteV)) (hd : sd ≤ m) (hm : m ≤ 16777216) :
    ∃ F', Stk (w1.setCell ⟨p, 0, none⟩ (.slice a m c)) p F' l fb sd fd ∧ Same F w (w1.setCell ⟨p, 0, none⟩ (.slice a m c)) ∧ (∀ k, F' k → F k ∨ w.heap.size ≤ k) := by
  have hlt := h.lt
  obtain ⟨sa, sc, fa, fc, g1, g2, g3, g4, g5, g6, g7, g8, g9⟩ := h.same (S := fun _ => False) (Same.of_below hb) (fun _ e => e.elim)
  have hl : l.length = m := by simpa using ho.1
  have n1 := own_ne ho g1 (by decide)
  have n2 := own_ne g3 g1 (by decide)
  have s1 : Same (fun k => k = p) w1 (w1.setCell ⟨p, 0, none⟩ (.slice a m c)) := Same.setCell _ rfl
  refine ⟨fun k => k = p ∨ Value.ownBlock (.slice a l.length c) = some k ∨ Value.ownBlock (.slice fa fb.length fc) = some k, ⟨a, c, fa, fc, ?_, ?_, own_keep g3 s1 (fun b hb e => n2 (by rw [hb, e])), ?_, fun k => Iff.rfl, by omega, g7, by omega, g9⟩, ?_, ?_⟩
  · rw [heap_setCell_same w1 p 0 _ 168 _ g1, hl]; rfl
  · rw [hl]; exact own_mono (own_keep ho s1 (fun b hb e => n1 (by rw [hb, e]))) (Nat.zero_le _)
  · intro k hk hk'
    rw [hl] at hk
    have := (ho.lt k hk).1
    have := hlt k ((g5 k).2 (.inr (.inr hk')))
    omega
  · exact (Same.of_below hb).trans ⟨s1.os, s1.tape, s1.output, s1.size, fun k hk hF => s1.block k hk (fun e => hF ((g5 k).2 (.inl e)))⟩
  · rintro k (rfl | hk | hk)
    · exact .inl ((g5 _).2 (.inl rfl))
    · rw [hl] at hk; exact .inr (ho.lt k hk).1
    · exact .inl ((g5 k).2 (.inr (.inr hk)))
theorem Stk.setFoil {w w1 : World} {p : Nat} {F : Nat → Prop} {sb fb : List UInt8} {sd fd : Nat} (h : Stk w p F sb fb sd fd) (hb : Below w.heap.size w w1) {a : Option Addr} {m c : Nat} {l : List UInt8}
    (ho : w1.ownsRow w.heap.size 5 1 (.slice a m c) m (l.map byteV)) (hd : fd ≤ m) (hm : m ≤ 16777216) :
    ∃ F', Stk (w1.setCell ⟨p, 2, none⟩ (.slice a m c)) p F' sb l sd fd ∧ Same F w (w1.setCell ⟨p, 2, none⟩ (.slice a m c)) ∧ (∀ k, F' k → F k ∨ w.heap.size ≤ k) := by
  have hlt := h.lt
  obtain ⟨sa, sc, fa, fc, g1, g2, g3, g4, g5, g6, g7, g8, g9⟩ := h.same (S := fun _ => False) (Same.of_below hb) (fun _ e => e.elim)
  have hl : l.length = m := by simpa using ho.1
  have n1 := own_ne ho g1 (by decide)
  have n2 := own_ne g2 g1 (by decide)
  have s1 : Same (fun k => k = p) w1 (w1.setCell ⟨p, 2, none⟩ (.slice a m c)) :=
    Same.of_grown (row := some p) ⟨rfl, rfl, rfl, by simp [World.setCell], fun k _ hk => Below.heap_setCell w1 ⟨p, 2, none⟩ _ k (fun e => hk (by rw [e]))⟩ (fun k e => by cases e; rfl)
  refine ⟨fun k => k = p ∨ Value.ownBlock (.slice sa sb.length sc) = some k ∨ Value.ownBlock (.slice a l.length c) = some k, ⟨sa, sc, a, c, ?_, own_keep g2 s1 (fun b hb e => n2 (by rw [hb, e])), ?_, ?_, fun k => Iff.rfl, g6, by omega, g8, by omega⟩, ?_, ?_⟩
  · rw [heap_setCell_same w1 p 2 _ 168 _ g1, hl]; rfl
  · rw [hl]; exact own_mono (own_keep ho s1 (fun b hb e => n1 (by rw [hb, e]))) (Nat.zero_le _)
  · intro k hk hk'
    rw [hl] at hk'
    have := (ho.lt k hk').1
    have := hlt k ((g5 k).2 (.inr (.inl hk)))
    omega
  · exact (Same.of_below hb).trans ⟨s1.os, s1.tape, s1.output, s1.size, fun k hk hF => s1.block k hk (fun e => hF ((g5 k).2 (.inl e)))⟩
  · rintro k (rfl | hk | hk)
    · exact .inl ((g5 _).2 (.inl rfl))
    · exact .inl ((g5 k).2 (.inr (.inl hk)))
    · rw [hl] at hk; exact .inr (ho.lt k hk).1

theorem Stk.flipS {w : World} {p : Nat} {F : Nat → Prop} {sb fb : List UInt8} {sd fd : Nat} (h : Stk w p F sb fb sd fd) (i : Nat) (hi : i < sb.length) (x : UInt8) :
    ∃ g c, w.cell? ⟨p, 0, none⟩ = some (.slice (some ⟨g, 0, none⟩) sb.length c) ∧ w.cell? ⟨p, 1, none⟩ = some (.int .i64 sd) ∧ w.cell? ⟨g, i, none⟩ = some (.int .u8 ((sb[i]?.getD 0).toNat : Int)) ∧ w.frozen? ⟨g, i, none⟩ = false ∧
      Stk (w.setCell ⟨g, i, none⟩ (.int .u8 (x.toNat : Int))) p F (sb.set i x) fb sd fd ∧ Same F w (w.setCell ⟨g, i, none⟩ (.int .u8 (x.toNat : Int))) := by
  obtain ⟨sa, sc, fa, fc, g1, g2, g3, g4, g5, g6, g7, g8, g9⟩ := h
  obtain ⟨b, off, hb, hcells⟩ := (RdB.of_own g2).at (by omega)
  have hoff : off = 0 := by
    rcases g2.2 with ⟨h, _⟩ | ⟨g, cap, cur, h, _⟩
    · rw [hb] at h; simp at h
    · rw [hb] at h; simp at h; exact h.1.2
  subst hb
  subst hoff
  have hc := hcells i hi
  rw [Nat.zero_add] at hc
  have hfz := g2.frozenAt i
  obtain ⟨hst, hgr⟩ := g2.stored i (.int .u8 (x.toNat : Int))
  have hS : Same (fun k => k = b) w (w.setCell ⟨b, i, none⟩ (.int .u8 (x.toNat : Int))) := Same.of_grown hgr (fun k e => by cases e; rfl)
  have n2 := own_ne g2 g1 (by decide)
  have hset : (sb.map byteV).set i (.int .u8 (x.toNat : Int)) = (sb.set i x).map byteV := by rw [List.map_set]; rfl
  rw [hset] at hst
  have hls : (sb.set i x).length = sb.length := List.length_set
  refine ⟨b, sc, by simp [World.cell?, g1], by simp [World.cell?, g1], hc, hfz, ⟨some ⟨b, 0, none⟩, sc, fa, fc, ?_, ?_, ?_, ?_, ?_, ?_, g7, ?_, g9⟩, ⟨hS.os, hS.tape, hS.output, hS.size, fun k hk hF => hS.block k hk (fun e => hF ((g5 k).2 (.inr (.inl (by rw [e]; rfl)))))⟩⟩
  · rw [hls, hS.block p (Array.getElem?_eq_some_iff.1 g1).1 (fun e => n2 (by rw [e]; rfl))]
    exact g1
  · rw [hls]; exact hst
  · exact own_keep g3 hS (fun k hk e => g4 k (by rw [e]; rfl) hk)
  · rw [hls]; exact g4
  · rw [hls]; exact g5
  · rw [hls]; exact g6
  · rw [hls]; exact g8
theorem Stk.flipF {w : World} {p : Nat} {F : Nat → Prop} {sb fb : List UInt8} {sd fd : Nat} (h : Stk w p F sb fb sd fd) (i : Nat) (hi : i < fb.length) (x : UInt8) :
    ∃ g c, w.cell? ⟨p, 2, none⟩ = some (.slice (some ⟨g, 0, none⟩) fb.length c) ∧ w.cell? ⟨p, 3, none⟩ = some (.int .i64 fd) ∧ w.cell? ⟨g, i, none⟩ = some (.int .u8 ((fb[i]?.getD 0).toNat : Int)) ∧ w.frozen? ⟨g, i, none⟩ = false ∧
      Stk (w.setCell ⟨g, i, none⟩ (.int .u8 (x.toNat : Int))) p F sb (fb.set i x) sd fd ∧ Same F w (w.setCell ⟨g, i, none⟩ (.int .u8 (x.toNat : Int))) := by
  obtain ⟨sa, sc, fa, fc, g1, g2, g3, g4, g5, g6, g7, g8, g9⟩ := h
  obtain ⟨b, off, hb, hcells⟩ := (RdB.of_own g3).at (by omega)
  have hoff : off = 0 := by
    rcases g3.2 with ⟨h, _⟩ | ⟨g, cap, cur, h, _⟩
    · rw [hb] at h; simp at h
    · rw [hb] at h; simp at h; exact h.1.2
  subst hb
  subst hoff
  have hc := hcells i hi
  rw [Nat.zero_add] at hc
  have hfz := g3.frozenAt i
  obtain ⟨hst, hgr⟩ := g3.stored i (.int .u8 (x.toNat : Int))
  have hS : Same (fun k => k = b) w (w.setCell ⟨b, i, none⟩ (.int .u8 (x.toNat : Int))) := Same.of_grown hgr (fun k e => by cases e; rfl)
  have n2 := own_ne g3 g1 (by decide)
  have hset : (fb.map byteV).set i (.int .u8 (x.toNat : Int)) = (fb.set i x).map byteV := by rw [List.map_set]; rfl
  rw [hset] at hst
  have hls : (fb.set i x).length = fb.length := List.length_set
  refine ⟨b, fc, by simp [World.cell?, g1], by simp [World.cell?, g1], hc, hfz, ⟨sa, sc, some ⟨b, 0, none⟩, fc, ?_, ?_, ?_, ?_, ?_, g6, ?_, g8, ?_⟩, ⟨hS.os, hS.tape, hS.output, hS.size, fun k hk hF => hS.block k hk (fun e => hF ((g5 k).2 (.inr (.inr (by rw [e]; rfl)))))⟩⟩
  · rw [hls, hS.block p (Array.getElem?_eq_some_iff.1 g1).1 (fun e => n2 (by rw [e]; rfl))]
    exact g1
  · exact own_keep g2 hS (fun k hk e => g4 k hk (by rw [e]; rfl))
  · rw [hls]; exact hst
  · rw [hls]; exact g4
  · rw [hls]; exact g5
  · rw [hls]; exact g7
  · rw [hls]; exact g9
end Go.Proofs.YtlnhppgfhkkidaaGreat
namespace Go.Proofs.YtlnhppgfhkkidaaGreat
open Go.RowKit

def csOf (l : List (List UInt8)) : List UInt8 := (l.map stockOf).flatten
def cfOf (l : List (List UInt8)) : List UInt8 := (l.map foilOf).flatten
theorem csOf_cons (x : List UInt8) (l : List (List UInt8)) : csOf (x :: l) = stockOf x ++ csOf l := by simp [csOf]
theorem cfOf_cons (x : List UInt8) (l : List (List UInt8)) : cfOf (x :: l) = foilOf x ++ cfOf l := by simp [cfOf]
theorem csOf_append (l m : List (List UInt8)) : csOf (l ++ m) = csOf l ++ csOf m := by simp [csOf]
theorem cfOf_append (l m : List (List UInt8)) : cfOf (l ++ m) = cfOf l ++ cfOf m := by simp [cfOf]
theorem cfOf_len (l : List (List UInt8)) : (cfOf l).length = 4 * l.length := by
  induction l with
  | nil => rfl
  | cons x l ih => rw [cfOf_cons, List.length_append, ih, foilOf_len, List.length_cons]; omega
theorem atN_two (n : Nat) (hn : n < 65536) (S : List UInt8) : atN (two n ++ S) 0 = n := by
  simp only [atN, two, List.cons_append, List.nil_append, List.getElem?_cons_zero, List.getElem?_cons_succ, Option.getD_some, UInt8.toNat_ofNat', Nat.zero_add]
  omega
theorem atN_stock (x S : List UInt8) (hx : x.length < 65536) : atN (stockOf x ++ S) 0 = x.length := by
  rw [stockOf, List.append_assoc]
  exact atN_two _ hx _
theorem body_stock (x S : List UInt8) : ((stockOf x ++ S).drop 2).take x.length = x := by
  rw [stockOf, List.append_assoc, show (two x.length ++ (x ++ S)).drop 2 = x ++ S from rfl, List.take_left']
  rfl

theorem join_cons (x S F : List UInt8) (hx : x.length ≤ 8192) : joinOf (stockOf x ++ S) (foilOf x ++ F) = x :: joinOf S F := by
  have e1 := atN_stock x S (by omega)
  have e2 := body_stock x S
  rw [joinOf_yes (by rw [List.length_append, stockOf_len]; omega) (by rw [List.length_append, foilOf_len]; omega) (by rw [e1]; exact hx) (by rw [e1, List.length_append, stockOf_len]; omega) (by
    rw [e1, e2, List.take_left' (foilOf_len x)]), e1, e2]
  rw [show x.length + 2 = (stockOf x).length from (stockOf_len x).symm, List.drop_left, show 4 = (foilOf x).length from rfl, List.drop_left]
theorem join_app (l : List (List UInt8)) (hl : ∀ x ∈ l, x.length ≤ 8192) (S F : List UInt8) : joinOf (csOf l ++ S) (cfOf l ++ F) = l ++ joinOf S F := by
  induction l with
  | nil => rfl
  | cons x l ih =>
    rw [csOf_cons, cfOf_cons, List.append_assoc, List.append_assoc, join_cons x _ _ (hl x (List.mem_cons_self ..)), ih (fun y hy => hl y (List.mem_cons_of_mem _ hy))]
    rfl
theorem join_none (F : List UInt8) : joinOf [] F = [] := joinOf_no (by simp)
theorem take_over (A B : List UInt8) (n : Nat) (h : A.length ≤ n) : (A ++ B).take n = A ++ B.take (n - A.length) := by rw [List.take_append, List.take_of_length_le h]
theorem join_cut : ∀ (l : List (List UInt8)) (_ : ∀ x ∈ l, x.length ≤ 8192) (a b : Nat), ∃ k, k ≤ l.length ∧ joinOf ((csOf l).take a) ((cfOf l).take b) = l.take k
  | [], _, a, b => ⟨0, Nat.le_refl _, by simp [csOf, join_none]⟩
  | x :: l, hl, a, b => by
    have hx := hl x (List.mem_cons_self ..)
    by_cases h : x.length + 2 ≤ a ∧ 4 ≤ b
    · obtain ⟨k, hk, e⟩ := join_cut l (fun y hy => hl y (List.mem_cons_of_mem _ hy)) (a - (x.length + 2)) (b - 4)
      refine ⟨k + 1, by simp; omega, ?_⟩
      rw [csOf_cons, cfOf_cons, take_over _ _ _ (by rw [stockOf_len]; omega), take_over _ _ _ (by rw [foilOf_len]; omega), stockOf_len, foilOf_len, join_cons x _ _ hx, e]
      rfl
    · refine ⟨0, Nat.zero_le _, ?_⟩
      apply joinOf_no
      rintro ⟨h1, h2, h3, h4, h5⟩
      rw [List.length_take] at h1 h2 h4
      have ha : 2 ≤ a := by omega
      have hb : 4 ≤ b := by omega
      have e1 : atN ((csOf (x :: l)).take a) 0 = x.length := by
        rw [← atN_stock x (csOf l) (by omega), ← csOf_cons]
        simp only [atN, List.getElem?_take]
        rw [if_pos (by omega), if_pos (by omega)]
      rw [e1] at h4
      omega

/-! One inverted bit. -/
theorem flip_val (v : UInt8) (b : Nat) (hb : b < 8) : (v ^^^ UInt8.ofNat (2 ^ b)).toNat = v.toNat + 2 ^ b ∨ (v ^^^ UInt8.ofNat (2 ^ b)).toNat + 2 ^ b = v.toNat := by
  have h : ∀ v : Fin 256, ∀ b : Fin 8, v.val ^^^ 2 ^ b.val = v.val + 2 ^ b.val ∨ (v.val ^^^ 2 ^ b.val) + 2 ^ b.val = v.val := by decide +kernel
  have h1 := h ⟨v.toNat, v.toNat_lt⟩ ⟨b, hb⟩
  have h2 : 2 ^ b < 256 := by
    have : 2 ^ b ≤ 2 ^ 7 := Nat.pow_le_pow_right (by omega) (by omega)
    omega
  rw [UInt8.toNat_xor, UInt8.toNat_ofNat', Nat.mod_eq_of_lt h2]
  exact h1
theorem two_pow_bd (b : Nat) (hb : b < 8) : 1 ≤ 2 ^ b ∧ 2 ^ b ≤ 128 := by
  constructor
  · exact Nat.one_le_two_pow
  · have : 2 ^ b ≤ 2 ^ 7 := Nat.pow_le_pow_right (by omega) (by omega)
    omega
theorem flipAt_at (l : List UInt8) (i b j : Nat) : (flipAt l i b)[j]?.getD 0 = if i = j ∧ i < l.length then (l[i]?.getD 0) ^^^ UInt8.ofNat (2 ^ b) else l[j]?.getD 0 := by
  unfold flipAt
  rw [List.getElem?_set]
  by_cases h : i = j
  · subst h
    by_cases h2 : i < l.length
    · simp [h2]
    · simp [h2]
  · simp [h]
theorem flipAt_left (l m : List UInt8) (i b : Nat) (h : i < l.length) : flipAt (l ++ m) i b = flipAt l i b ++ m := by
  unfold flipAt
  rw [List.getElem?_append_left h, List.set_append_left _ _ h]
theorem flipAt_right (l m : List UInt8) (i b : Nat) (h : l.length ≤ i) : flipAt (l ++ m) i b = l ++ flipAt m (i - l.length) b := by
  unfold flipAt
  rw [List.getElem?_append_right h, List.set_append_right _ _ h]

theorem chkTo_same (x y : List UInt8) (j : Nat) (h : ∀ k, k < j → x[k]?.getD 0 = y[k]?.getD 0) : ∀ k, k ≤ j → chkTo x k = chkTo y k
  | 0, _ => rfl
  | k+1, hk => by simp only [chkTo]; rw [chkTo_same x y j h k (by omega), h k (by omega)]
theorem chkTo_diff (x : List UInt8) (j b : Nat) (hj : j < x.length) : ∀ m, (chkTo (flipAt x j b) (j + 1 + m) - chkTo x (j + 1 + m) - ((j : Int) + 1) * ((((x[j]?.getD 0) ^^^ UInt8.ofNat (2 ^ b)).toNat : Int) - ((x[j]?.getD 0).toNat : Int))) % 65521 = 0
  | 0 => by
    have e := chkTo_same (flipAt x j b) x j (fun k hk => by rw [flipAt_at, if_neg (by omega)]) j (Nat.le_refl _)
    have h1 := flipAt_at x j b j
    rw [if_pos ⟨rfl, hj⟩] at h1
    simp only [chkTo]
    rw [e, h1, Int.mul_sub]
    omega
  | m+1 => by
    have ih := chkTo_diff x j b hj m
    have h1 := flipAt_at x j b (j + 1 + m)
    rw [if_neg (by omega)] at h1
    rw [show j + 1 + (m + 1) = (j + 1 + m) + 1 by omega]
    simp only [chkTo]
    rw [h1]
    generalize chkTo (flipAt x j b) (j + 1 + m) = A at *
    generalize chkTo x (j + 1 + m) = B at *
    generalize (((j + 1 + m : Nat) : Int) + 1) * ((x[j + 1 + m]?.getD 0).toNat : Int) = C at *
    generalize ((j : Int) + 1) * ((((x[j]?.getD 0) ^^^ UInt8.ofNat (2 ^ b)).toNat : Int) - ((x[j]?.getD 0).toNat : Int)) = D at *
    omega
theorem foil_inj {x y : List UInt8} (hx : x.length < 65536) (hy : y.length < 65536) (h : foilOf x = foilOf y) : x.length = y.length ∧ chk x = chk y := by
  have h1 := (foil_iff (fo := foilOf x) (by rw [foilOf_len]; omega) hx).1 rfl
  have h2 := (foil_iff (fo := foilOf x) (by rw [foilOf_len]; omega) hy).1 (by rw [← h]; rfl)
  omega

end Go.Proofs.YtlnhppgfhkkidaaGreat
namespace Go.Proofs.YtlnhppgfhkkidaaGreat
open Go.RowKit

def intV (z : Int) : Value := .int .i64 z
theorem intV_one (l : List Int) : ∀ u ∈ l.map intV, u.oneCell' = true := by
  intro u hu
  obtain ⟨_, _, rfl⟩ := List.mem_map.1 hu
  rfl
def I64 (z : Int) : Prop := -9223372036854775808 ≤ z ∧ z ≤ 9223372036854775807
def RdI (w : World) (a : Option Addr) (n c : Nat) (l : List Int) : Prop := RdA w 1 a n c (l.map intV)
theorem RdI.len {w : World} {a : Option Addr} {n c : Nat} {l : List Int} (h : RdI w a n c l) : l.length = n := by simpa using h.1
theorem RdI.below {w w' : World} {a : Option Addr} {n c : Nat} {l : List Int} (h : RdI w a n c l) (hb : Below w.heap.size w w') : RdI w' a n c l := RdA.below h hb
theorem RdI.maxn {w : World} {a : Option Addr} {n c : Nat} {l : List Int} (h : RdI w a n c l) : n ≤ 9223372036854775807 := RdA.maxn h
theorem RdI.at {w : World} {a : Option Addr} {n c : Nat} {l : List Int} (h : RdI w a n c l) (hn : 0 < n) :
    ∃ b off, a = some ⟨b, off, none⟩ ∧ ∀ i, i < n → w.cell? ⟨b, off + i, none⟩ = some (.int .i64 (l[i]?.getD 0)) := by
  obtain ⟨b, off, rfl, h4⟩ := RdA.at h hn
  refine ⟨b, off, rfl, fun i hi => h4 i _ ?_⟩
  have := h.len
  simp [intV, List.getElem?_map, List.getElem?_eq_getElem (show i < l.length by omega)]

structure NoteV where
  house : Int
  num : Int
  clock : Int
  day : Int
  kind : Int
  stone : Int
  heap : Int
  turns : Int
  hardLo : Int
  hardHi : Int
  diffLo : Int
  diffHi : Int
  a : Int
  b : Int
  ring : Int
  refH : Int
  refN : Int
  fix : Int
  strokes : List Int
deriving Inhabited

def NoteV.cells (n : NoteV) (sa : Option Addr) (sc : Nat) : List Value :=
  [.int .i64 n.house, .int .i64 n.num, .int .i64 n.clock, .int .i64 n.day, .int .i64 n.kind, .int .i64 n.stone, .int .i64 n.heap, .int .i64 n.turns, .int .i64 n.hardLo, .int .i64 n.hardHi, .int .i64 n.diffLo, .int .i64 n.diffHi, .int .i64 n.a, .int .i64 n.b, .int .i64 n.ring, .slice sa n.strokes.length sc, .int .i64 n.refH, .int .i64 n.refN, .int .i64 n.fix]
theorem NoteV.cells_one (n : NoteV) (sa : Option Addr) (sc : Nat) : ∀ v ∈ n.cells sa sc, v.oneCell' = true := by
  intro v hv
  simp only [NoteV.cells, List.mem_cons, List.not_mem_nil, or_false] at hv
  rcases hv with rfl | rfl | rfl | rfl | rfl | rfl | rfl | rfl | rfl | rfl | rfl | rfl | rfl | rfl | rfl | rfl | rfl | rfl | rfl <;> rfl
structure NoteV.Ok (n : NoteV) : Prop where
  house : I64 n.house
  num : I64 n.num
  clock : I64 n.clock
  day : I64 n.day
  kind : I64 n.kind
  stone : I64 n.stone
  heap : I64 n.heap
  turns : I64 n.turns
  hardLo : I64 n.hardLo
  hardHi : I64 n.hardHi
  diffLo : I64 n.diffLo
  diffHi : I64 n.diffHi
  a : I64 n.a
  b : I64 n.b
  ring : I64 n.ring
  refH : I64 n.refH
  refN : I64 n.refN
  fix : I64 n.fix
  strokes : ∀ z ∈ n.strokes, I64 z
def RdNote (w : World) (cs : List Value) (n : NoteV) : Prop := ∃ sa sc, cs = n.cells sa sc ∧ RdI w sa n.strokes.length sc n.strokes ∧ n.Ok
theorem RdNote.below {w w' : World} {cs : List Value} {n : NoteV} (h : RdNote w cs n) (hb : Below w.heap.size w w') : RdNote w' cs n := by
  obtain ⟨sa, sc, h1, h2, h3⟩ := h
  exact ⟨sa, sc, h1, h2.below hb, h3⟩
theorem RdNote.len {w : World} {cs : List Value} {n : NoteV} (h : RdNote w cs n) : cs.length = 19 := by
  obtain ⟨sa, sc, rfl, _⟩ := h
  rfl
theorem RdNote.one {w : World} {cs : List Value} {n : NoteV} (h : RdNote w cs n) : ∀ v ∈ cs, v.oneCell' = true := by
  obtain ⟨sa, sc, rfl, _⟩ := h
  exact n.cells_one sa sc
end Go.Proofs.YtlnhppgfhkkidaaGreat
namespace Go.Proofs.YtlnhppgfhkkidaaGreat
open Go.RowKit

theorem wpList_store_new {P : Program} {ops : Array Oper} {rest : List Oper} {op : Oper} {a : Act} {Q : Exit → Act → World → Prop} (w : World) (hgd : op.guard = none) (ty : TypeId) (x y : Operand) (ho : op.op = .store ty x y)
    (c c' : Array Value) (hx : a.eval x = .pointer (some ⟨w.heap.size, 0, none⟩)) (hy : a.eval y = .agg c') (hi : (P.info? ty).map (·.size) = some c'.size) (hc : c.size = c'.size) (h1 : c'.all (·.oneCell') = true)
    (h : wpList P ops Q rest (a.put op.dst undef) (w.alloc (.cells c' ty))) : wpList P ops Q (op :: rest) a (w.alloc (.cells c ty)) := by
  refine wpList_plain hgd fun K hK => ?_
  unfold Oper.wp execOp
  simp only [ho, hx, hy, run_storeAt_new w ty c c' hi hc h1, Sem.run_bind, Sem.run_pure, Result.andThen_ok]
  exact hK _ _ h

end Go.Proofs.YtlnhppgfhkkidaaGreat
namespace Go.Proofs.YtlnhppgfhkkidaaGreat
open Go.RowKit

def noteA (n : NoteV) (sa : Option Addr) (sc : Nat) : Array Value := (n.cells sa sc).toArray
def zeroN : NoteV := ⟨0, 0, 0, 0, 0, 0, 0, 0, 0, 0, 0, 0, 0, 0, 0, 0, 0, 0, []⟩
section
variable (n : NoteV) (sa : Option Addr) (sc : Nat)
theorem noteA_one : (noteA n sa sc).all (·.oneCell') = true := all_oneCell_toArray (n.cells_one sa sc)
theorem noteA_0 : (noteA n sa sc)[0]? = some (.int .i64 n.house) := rfl
theorem noteA_1 : (noteA n sa sc)[1]? = some (.int .i64 n.num) := rfl
theorem noteA_2 : (noteA n sa sc)[2]? = some (.int .i64 n.clock) := rfl
theorem noteA_3 : (noteA n sa sc)[3]? = some (.int .i64 n.day) := rfl
theorem noteA_4 : (noteA n sa sc)[4]? = some (.int .i64 n.kind) := rfl
theorem noteA_5 : (noteA n sa sc)[5]? = some (.int .i64 n.stone) := rfl
theorem noteA_6 : (noteA n sa sc)[6]? = some (.int .i64 n.heap) := rfl
theorem noteA_7 : (noteA n sa sc)[7]? = some (.int .i64 n.turns) := rfl
theorem noteA_8 : (noteA n sa sc)[8]? = some (.int .i64 n.hardLo) := rfl
theorem noteA_9 : (noteA n sa sc)[9]? = some (.int .i64 n.hardHi) := rfl
theorem noteA_10 : (noteA n sa sc)[10]? = some (.int .i64 n.diffLo) := rfl
theorem noteA_11 : (noteA n sa sc)[11]? = some (.int .i64 n.diffHi) := rfl
theorem noteA_12 : (noteA n sa sc)[12]? = some (.int .i64 n.a) := rfl
theorem noteA_13 : (noteA n sa sc)[13]? = some (.int .i64 n.b) := rfl
theorem noteA_14 : (noteA n sa sc)[14]? = some (.int .i64 n.ring) := rfl
theorem noteA_15 : (noteA n sa sc)[15]? = some (.slice sa n.strokes.length sc) := rfl
theorem noteA_16 : (noteA n sa sc)[16]? = some (.int .i64 n.refH) := rfl
theorem noteA_17 : (noteA n sa sc)[17]? = some (.int .i64 n.refN) := rfl
theorem noteA_18 : (noteA n sa sc)[18]? = some (.int .i64 n.fix) := rfl
theorem noteA_s0 (x : Int) : (noteA n sa sc).setIfInBounds 0 (.int .i64 x) = noteA { n with house := x } sa sc := rfl
theorem noteA_s1 (x : Int) : (noteA n sa sc).setIfInBounds 1 (.int .i64 x) = noteA { n with num := x } sa sc := rfl
theorem noteA_s2 (x : Int) : (noteA n sa sc).setIfInBounds 2 (.int .i64 x) = noteA { n with clock := x } sa sc := rfl
theorem noteA_s3 (x : Int) : (noteA n sa sc).setIfInBounds 3 (.int .i64 x) = noteA { n with day := x } sa sc := rfl
theorem noteA_s4 (x : Int) : (noteA n sa sc).setIfInBounds 4 (.int .i64 x) = noteA { n with kind := x } sa sc := rfl
theorem noteA_s5 (x : Int) : (noteA n sa sc).setIfInBounds 5 (.int .i64 x) = noteA { n with stone := x } sa sc := rfl
theorem noteA_s6 (x : Int) : (noteA n sa sc).setIfInBounds 6 (.int .i64 x) = noteA { n with heap := x } sa sc := rfl
theorem noteA_s7 (x : Int) : (noteA n sa sc).setIfInBounds 7 (.int .i64 x) = noteA { n with turns := x } sa sc := rfl
theorem noteA_s8 (x : Int) : (noteA n sa sc).setIfInBounds 8 (.int .i64 x) = noteA { n with hardLo := x } sa sc := rfl
theorem noteA_s9 (x : Int) : (noteA n sa sc).setIfInBounds 9 (.int .i64 x) = noteA { n with hardHi := x } sa sc := rfl
theorem noteA_s10 (x : Int) : (noteA n sa sc).setIfInBounds 10 (.int .i64 x) = noteA { n with diffLo := x } sa sc := rfl
theorem noteA_s11 (x : Int) : (noteA n sa sc).setIfInBounds 11 (.int .i64 x) = noteA { n with diffHi := x } sa sc := rfl
theorem noteA_s12 (x : Int) : (noteA n sa sc).setIfInBounds 12 (.int .i64 x) = noteA { n with a := x } sa sc := rfl
theorem noteA_s13 (x : Int) : (noteA n sa sc).setIfInBounds 13 (.int .i64 x) = noteA { n with b := x } sa sc := rfl
theorem noteA_s14 (x : Int) : (noteA n sa sc).setIfInBounds 14 (.int .i64 x) = noteA { n with ring := x } sa sc := rfl
theorem noteA_s15 : (noteA n sa sc).setIfInBounds 15 (.slice none 0 0) = noteA { n with strokes := [] } none 0 := rfl
theorem noteA_s16 (x : Int) : (noteA n sa sc).setIfInBounds 16 (.int .i64 x) = noteA { n with refH := x } sa sc := rfl
theorem noteA_s17 (x : Int) : (noteA n sa sc).setIfInBounds 17 (.int .i64 x) = noteA { n with refN := x } sa sc := rfl
theorem noteA_s18 (x : Int) : (noteA n sa sc).setIfInBounds 18 (.int .i64 x) = noteA { n with fix := x } sa sc := rfl
end
theorem noteA_zero : noteA zeroN none 0 = #[.int .i64 0, .int .i64 0, .int .i64 0, .int .i64 0, .int .i64 0, .int .i64 0, .int .i64 0, .int .i64 0, .int .i64 0, .int .i64 0, .int .i64 0, .int .i64 0, .int .i64 0, .int .i64 0, .int .i64 0, .slice none 0 0, .int .i64 0, .int .i64 0, .int .i64 0] := rfl

section
variable {P : Program} {ops : Array Oper} {rest : List Oper} {op : Oper} {a : Act} {Q : Exit → Act → World → Prop}
theorem wpList_store_newp (w : World) (hgd : op.guard = none) (ty : TypeId) (x y : Operand) (ho : op.op = .store ty x y) (p : Nat) (hp : w.heap.size = p)
    (c c' : Array Value) (hx : a.eval x = .pointer (some ⟨p, 0, none⟩)) (hy : a.eval y = .agg c') (hi : (P.info? ty).map (·.size) = some c'.size) (hc : c.size = c'.size) (h1 : c'.all (·.oneCell') = true)
    (h : wpList P ops Q rest (a.put op.dst undef) (w.alloc (.cells c' ty))) : wpList P ops Q (op :: rest) a (w.alloc (.cells c ty)) := by
  subst hp
  exact wpList_store_new w hgd ty x y ho c c' hx hy hi hc h1 h
theorem heap_at (w : World) (o : Obj) (p : Nat) (h : w.heap.size = p) : (w.alloc o).heap[p]? = some o := by subst h; exact heap_alloc_last w o
theorem heap_last (w : World) (o : Obj) : (w.alloc o).heap[w.heap.size]? = some o := heap_alloc_last w o
theorem heap_before (w : World) (o : Obj) (p : Nat) (x : Obj) (h : w.heap[p]? = some x) : (w.alloc o).heap[p]? = some x := by
  have hp := (Array.getElem?_eq_some_iff.1 h).1
  rw [← h]
  simp only [World.alloc, Array.getElem?_push]
  rw [if_neg (by omega)]
end
end Go.Proofs.YtlnhppgfhkkidaaGreat
namespace Go.Proofs.YtlnhppgfhkkidaaGreat
open Go.RowKit

def inB (x lo hi : Int) : Bool := decide (lo ≤ x) && decide (x ≤ hi)
theorem inB_true {x lo hi : Int} : inB x lo hi = true ↔ lo ≤ x ∧ x ≤ hi := by simp [inB]
theorem inB_false {x lo hi : Int} : inB x lo hi = false ↔ ¬ (lo ≤ x ∧ x ≤ hi) := by rw [← inB_true]; simp

theorem hin_any (x lo hi : Int) (w : World) : Calls Tryz.prog 164 #[.int .i64 x, .int .i64 lo, .int .i64 hi] w fun e w' => e = .returned (.bool (inB x lo hi)) ∧ w = w' := by
  by_cases h1 : lo ≤ x
  · have t1 : decide (lo ≤ x) = true := by simp; omega
    by_cases h2 : x ≤ hi
    · have t2 : decide (x ≤ hi) = true := by simp; omega
      have t3 : inB x lo hi = true := inB_true.2 ⟨h1, h2⟩
      rw [t3]; clear t3
      go_enter Tryz.func164, Tryz.ntmps164
      go_wp2_with fail
      go_ret
      exact ⟨rfl, rfl⟩
    · have t2 : decide (x ≤ hi) = false := by simp; omega
      have t3 : inB x lo hi = false := inB_false.2 (fun h => h2 h.2)
      rw [t3]; clear t3
      go_enter Tryz.func164, Tryz.ntmps164
      go_wp2_with fail
      go_ret
      exact ⟨rfl, rfl⟩
  · have t1 : decide (lo ≤ x) = false := by simp; omega
    have t3 : inB x lo hi = false := inB_false.2 (fun h => h1 h.1)
    rw [t3]; clear t3
    go_enter Tryz.func164, Tryz.ntmps164
    go_wp2_with fail
    go_ret
    exact ⟨rfl, rfl⟩

def rightNameB (h m : Int) : Bool := inB h 1 8 && inB m 1 400
theorem rightName_any (h m : Int) (w : World) : Calls Tryz.prog 166 #[.agg #[.int .i64 h, .int .i64 m]] w fun e w' => e = .returned (.bool (rightNameB h m)) ∧ Below w.heap.size w w' := by
  have hb := (Below.refl w.heap.size w).alloc (Nat.le_refl _) (.cells #[.int .i64 h, .int .i64 m] 45)
  unfold rightNameB
  cases h1 : inB h 1 8
  · go_enter Tryz.func166, Tryz.ntmps166
    go_wp2_with fail
    refine (hin_any h 1 8 _).mono ?_
    rintro e w' ⟨rfl, rfl⟩
    rw [h1]
    go_wp2_with fail
    go_ret
    exact ⟨rfl, hb⟩
  · go_enter Tryz.func166, Tryz.ntmps166
    go_wp2_with fail
    refine (hin_any h 1 8 _).mono ?_
    rintro e w' ⟨rfl, rfl⟩
    rw [h1]
    go_wp2_with fail
    refine (hin_any m 1 400 _).mono ?_
    rintro e w' ⟨rfl, rfl⟩
    go_wp2_with fail
    go_ret
    exact ⟨rfl, hb⟩

structure FrV where
  rings : Int
  sectors : Int
  wide : Int
def FrV.val (f : FrV) : Value := .agg #[.int .i64 f.rings, .int .i64 f.sectors, .int .i64 f.wide]
def FrV.valid (f : FrV) : Bool := inB f.rings 1 24 && (inB f.sectors 2 96 && inB f.wide 1 f.sectors)

theorem valid_any (r s d : Int) (w : World) : Calls Tryz.prog 113 #[.agg #[.int .i64 r, .int .i64 s, .int .i64 d]] w fun e w' => e = .returned (.bool (FrV.valid ⟨r, s, d⟩)) ∧ Below w.heap.size w w' := by
  have hb := (Below.refl w.heap.size w).alloc (Nat.le_refl _) (.cells #[.int .i64 r, .int .i64 s, .int .i64 d] 174)
  unfold FrV.valid
  cases h1 : inB r 1 24
  · go_enter Tryz.func113, Tryz.ntmps113
    go_wp2_with fail
    refine (hin_any r 1 24 _).mono ?_
    rintro e w' ⟨rfl, rfl⟩
    rw [h1]
    go_wp2_with fail
    go_ret
    exact ⟨rfl, hb⟩
  · cases h2 : inB s 2 96
    · go_enter Tryz.func113, Tryz.ntmps113
      go_wp2_with fail
      refine (hin_any r 1 24 _).mono ?_
      rintro e w' ⟨rfl, rfl⟩
      rw [h1]
      go_wp2_with fail
      refine (hin_any s 2 96 _).mono ?_
      rintro e w' ⟨rfl, rfl⟩
      rw [h2]
      go_wp2_with fail
      go_ret
      exact ⟨rfl, hb⟩
    · go_enter Tryz.func113, Tryz.ntmps113
      go_wp2_with fail
      refine (hin_any r 1 24 _).mono ?_
      rintro e w' ⟨rfl, rfl⟩
      rw [h1]
      go_wp2_with fail
      refine (hin_any s 2 96 _).mono ?_
      rintro e w' ⟨rfl, rfl⟩
      rw [h2]
      go_wp2_with fail
      refine (hin_any d 1 s _).mono ?_
      rintro e w' ⟨rfl, rfl⟩
      go_wp2_with fail
      go_ret
      exact ⟨rfl, hb⟩

def spansB (a b lo hi : Int) : Bool := decide (lo ≤ a) && (decide (a ≤ b) && decide (b ≤ hi))
theorem spans_any (a b lo hi : Int) (w : World) : Calls Tryz.prog 200 #[.agg #[.int .i64 a, .int .i64 b], .int .i64 lo, .int .i64 hi] w fun e w' => e = .returned (.bool (spansB a b lo hi)) ∧ Below w.heap.size w w' := by
  have hb := (Below.refl w.heap.size w).alloc (Nat.le_refl _) (.cells #[.int .i64 a, .int .i64 b] 43)
  unfold spansB
  cases h1 : decide (lo ≤ a)
  · go_enter Tryz.func200, Tryz.ntmps200
    go_wp2_with fail
    go_ret
    exact ⟨rfl, hb⟩
  · cases h2 : decide (a ≤ b)
    · go_enter Tryz.func200, Tryz.ntmps200
      go_wp2_with fail
      go_ret
      exact ⟨rfl, hb⟩
    · go_enter Tryz.func200, Tryz.ntmps200
      go_wp2_with fail
      go_ret
      exact ⟨rfl, hb⟩

theorem cell_any (r s d x : Int) (w : World) (hr : 1 ≤ r ∧ r ≤ 24) (hs : 2 ≤ s ∧ s ≤ 96) : Calls Tryz.prog 201 #[.agg #[.int .i64 r, .int .i64 s, .int .i64 d], .int .i64 x] w fun e w' => e = .returned (.bool (inB x 0 (r * s - 1))) ∧ Below w.heap.size w w' := by
  have hb := (Below.refl w.heap.size w).alloc (Nat.le_refl _) (.cells #[.int .i64 r, .int .i64 s, .int .i64 d] 174)
  have h1 : 0 ≤ r * s := Int.mul_nonneg (by omega) (by omega)
  have h2 : r * s ≤ 24 * 96 := Int.mul_le_mul hr.2 hs.2 (by omega) (by omega)
  go_enter Tryz.func201, Tryz.ntmps201
  go_wp2_with fail
  refine (hin_any x 0 (r * s - 1) _).mono ?_
  rintro e w' ⟨rfl, rfl⟩
  go_wp2_with fail
  go_ret
  exact ⟨rfl, hb⟩
section
attribute [local go_sem] noteA_0 noteA_1
theorem nameOf_any (n : NoteV) (sa : Option Addr) (sc : Nat) (w : World) : Calls Tryz.prog 167 #[.agg (noteA n sa sc)] w fun e w' => e = .returned (.agg #[.int .i64 n.house, .int .i64 n.num]) ∧ Below w.heap.size w w' := by
  have hb := (Below.refl w.heap.size w).alloc (Nat.le_refl _) (.cells (noteA n sa sc) 47)
  go_enter Tryz.func167, Tryz.ntmps167
  go_wp2_with fail
  go_returns
  exact ⟨rfl, hb.alloc hb.size _⟩
end
end Go.Proofs.YtlnhppgfhkkidaaGreat
namespace Go.Proofs.YtlnhppgfhkkidaaGreat
open Go.RowKit

def strokesP (m : Int) (l : List Int) : Prop := ∀ i, i < l.length → inB (l[i]?.getD 0) 0 m = true ∧ (0 < i → l[i-1]?.getD 0 ≤ l[i]?.getD 0)
instance (m : Int) (l : List Int) : Decidable (strokesP m l) := by unfold strokesP; infer_instance
def strokesB (m : Int) (l : List Int) : Bool := decide (strokesP m l) && inB l.length 1 200

set_option maxHeartbeats 1000000 in
theorem hstrokes_any (r s d : Int) (a : Option Addr) (n c : Nat) (l : List Int) (w : World) (hr : RdI w a n c l) (hs : 2 ≤ s ∧ s ≤ 96) (hd : 1 ≤ d ∧ d ≤ s) :
    Calls Tryz.prog 202 #[.agg #[.int .i64 r, .int .i64 s, .int .i64 d], .slice a n c] w fun e w' => e = .returned (.bool (strokesB (s - d) l)) ∧ Below w.heap.size w w' := by
  have hb := (Below.refl w.heap.size w).alloc (Nat.le_refl _) (.cells #[.int .i64 r, .int .i64 s, .int .i64 d] 174)
  have hm := hr.maxn
  have hl := Lib.hid hr.len
  have hr1 := hr.below hb
  have HB := Lib.hid hb; clear hb hr
  have HF : Hid (¬ strokesP (s - d) l → strokesB (s - d) l = false) := fun h => by simp [strokesB, h]
  have HT : Hid (strokesP (s - d) l → strokesB (s - d) l = inB n 1 200) := fun h => by simp [strokesB, h, hl.out]
  generalize strokesB (s - d) l = R at *
  go_enter Tryz.func202, Tryz.ntmps202
  go_wp2_with fail
  go_loop [5, 6, 9] (fun _ _ i => ∃ k : Nat, k ≤ n ∧ i = .int .i64 k ∧ Hid (∀ i, i < k → inB (l[i]?.getD 0) 0 (s - d) = true ∧ (0 < i → l[i-1]?.getD 0 ≤ l[i]?.getD 0))) (fun _ _ i => n - (intOf i).toNat)
  case atStart => exact ⟨0, Nat.zero_le _, rfl, Lib.hid (fun j hj => by omega)⟩
  case round =>
    obtain ⟨k, hk, rfl, HR⟩ := hrel
    by_cases hlt : k < n
    · obtain ⟨b, off, rfl, hc⟩ := hr1.at (by omega)
      have e1 := hc k hlt
      have e2 : 0 < k → _ := fun h => hc (k - 1) (by omega)
      have E2 := Lib.hid e2; clear e2
      clear hc hr1
      cases hin : inB (l[k]?.getD 0) 0 (s - d)
      · have hno : ¬ strokesP (s - d) l := fun h => by
          have := (h k (by rw [hl.out]; exact hlt)).1
          rw [hin] at this
          cases this
        have HN := Lib.hid (HF.out hno); clear hno
        go_wp2_with fail
        refine (hin_any _ _ _ _).mono ?_
        rintro e w' ⟨rfl, rfl⟩
        rw [hin]
        go_wp2_with fail
        go_ret
        rw [HN.out]
        exact ⟨rfl, HB.out⟩
      · by_cases h0 : 0 < k
        · have q0 : decide ((0 : Int) < (k : Int)) = true := by simp; exact h0
          have e2 := E2.out h0
          have ek : ((k : Int) - 1) = ((k - 1 : Nat) : Int) := by omega
          by_cases h1 : l[k]?.getD 0 < l[k-1]?.getD 0
          · have q1 : decide (l[k]?.getD 0 < l[k-1]?.getD 0) = true := by simp; exact h1
            have hno : ¬ strokesP (s - d) l := fun h => by
              have := (h k (by rw [hl.out]; exact hlt)).2 h0
              omega
            have HN := Lib.hid (HF.out hno); clear hno
            generalize l[k]?.getD 0 = x at *
            generalize l[k-1]?.getD 0 = y at *
            go_wp2_with fail
            refine (hin_any _ _ _ _).mono ?_
            rintro e w' ⟨rfl, rfl⟩
            rw [hin]
            go_wp2_with fail
            go_ret
            rw [HN.out]
            exact ⟨rfl, HB.out⟩
          · have q1 : decide (l[k]?.getD 0 < l[k-1]?.getD 0) = false := by simp; omega
            have HG := Lib.hid (show inB (l[k]?.getD 0) 0 (s - d) = true ∧ (0 < k → l[k-1]?.getD 0 ≤ l[k]?.getD 0) from ⟨hin, fun _ => by omega⟩)
            generalize hx : l[k]?.getD 0 = x at *
            generalize hy : l[k-1]?.getD 0 = y at *
            have HX := Lib.hid hx; clear hx
            have HY := Lib.hid hy; clear hy
            go_wp2_with fail
            refine (hin_any _ _ _ _).mono ?_
            rintro e w' ⟨rfl, rfl⟩
            rw [hin]
            go_wp2_with fail
            go_round
            case rel => exact ⟨k + 1, by omega, by go_num, Lib.hid fun j hj => by
              rcases Nat.lt_succ_iff_lt_or_eq.1 hj with h | h
              · exact HR.out j h
              · rw [h, HX.out, HY.out]; exact HG.out⟩
            case measure => simp [intOf]; omega
        · have q0 : decide ((0 : Int) < (k : Int)) = false := by simp; omega
          have HG := Lib.hid (show inB (l[k]?.getD 0) 0 (s - d) = true ∧ (0 < k → l[k-1]?.getD 0 ≤ l[k]?.getD 0) from ⟨hin, fun h => absurd h h0⟩)
          generalize hx : l[k]?.getD 0 = x at *
          have HX := Lib.hid hx; clear hx
          go_wp2_with fail
          refine (hin_any _ _ _ _).mono ?_
          rintro e w' ⟨rfl, rfl⟩
          rw [hin]
          go_wp2_with fail
          go_round
          case rel => exact ⟨k + 1, by omega, by go_num, Lib.hid fun j hj => by
            rcases Nat.lt_succ_iff_lt_or_eq.1 hj with h | h
            · exact HR.out j h
            · rw [h, HX.out]; exact HG.out⟩
          case measure => simp [intOf]; omega
    · have hkn : k = n := by omega
      subst hkn
      have hyes : strokesP (s - d) l := fun i hi => HR.out i (by rw [hl.out] at hi; exact hi)
      have HY := Lib.hid (HT.out hyes); clear hyes hr1
      go_wp2_with fail
      refine (hin_any _ _ _ _).mono ?_
      rintro e w' ⟨rfl, rfl⟩
      go_wp2_with fail
      go_ret
      rw [HY.out]
      exact ⟨rfl, HB.out⟩

theorem int_ne {x y : Int} (h : ¬ x = y) : (x != y) = true := by simp [h]
theorem int_eq {x y : Int} (h : x = y) : (x != y) = false := by simp [h]
theorem ilist_ext {l m : List Int} (hl : l.length = m.length) (h : ∀ j, j < l.length → l[j]?.getD 0 = m[j]?.getD 0) : l = m := by
  apply List.ext_getElem hl
  intro i h1 h2
  have := h i h1
  simpa [List.getElem?_eq_getElem h1, List.getElem?_eq_getElem h2] using this

theorem eqInts_any (a : Option Addr) (n c : Nat) (l : List Int) (a' : Option Addr) (n' c' : Nat) (l' : List Int) (w : World) (hr : RdI w a n c l) (hr' : RdI w a' n' c' l') :
    Calls Tryz.prog 176 #[.slice a n c, .slice a' n' c'] w fun e w' => ∃ b : Bool, e = .returned (.bool b) ∧ (b = true ↔ l = l') ∧ ∃ q, w' = w.drewN q := by
  have hm := RdI.maxn hr
  have hl := Lib.hid hr.len
  have hl' := Lib.hid hr'.len
  by_cases hnn : n = n'
  · subst hnn
    go_enter Tryz.func176, Tryz.ntmps176
    go_wp2
    go_loopw [5, 13] (fun _ i wr => ∃ k : Nat, k ≤ n ∧ i = .int .i64 k ∧ (∀ j, j < k → l[j]?.getD 0 = l'[j]?.getD 0) ∧ ∃ q, wr = w.drewN q) (fun _ i _ => n - (intOf i).toNat)
    case atStart => exact ⟨0, Nat.zero_le _, rfl, fun j hj => by omega, 0, rfl⟩
    case round =>
      obtain ⟨k, hk, rfl, hrl, q, rfl⟩ := hrel
      have HR := Lib.hid hrl; clear hrl
      by_cases hlt : k < n
      · obtain ⟨b, off, rfl, hc⟩ := hr.at (by omega)
        obtain ⟨b', off', rfl, hc'⟩ := hr'.at (by omega)
        have hx := hc k hlt
        have hx' := hc' k hlt
        clear hc hc' hr hr'
        have hk64 : (k : Int) ≤ 9223372036854775807 := by omega
        by_cases he : l[k]?.getD 0 = l'[k]?.getD 0
        · have hb := int_eq he
          have HE := Lib.hid he; clear he
          go_wp2
          go_quiet (fail)
          go_wp2
          go_roundw
          case rel => exact ⟨k + 1, by omega, by go_num, fun j hj => by
            rcases Nat.lt_succ_iff_lt_or_eq.1 hj with h | h
            · exact HR.out j h
            · rw [h]; exact HE.out, _, rfl⟩
          case measure => simp [intOf]; omega
        · have hb := int_ne he
          have HE := Lib.hid he; clear he
          go_wp2
          go_quiet (fail)
          go_wp2
          go_ret
          exact ⟨false, rfl, ⟨fun h => by simp at h, fun h => absurd (by rw [h]) HE.out⟩, _, World.drewN_drewN _ _ _⟩
      · go_wp2
        go_ret
        have hkn : k = n := by omega
        exact ⟨true, rfl, ⟨fun _ => ilist_ext (by rw [hl.out, hl'.out]) (fun j hj => HR.out j (by rw [hl.out] at hj; omega)), fun _ => rfl⟩, _, rfl⟩
  · have hb : (((n : Nat) : Int) != ((n' : Nat) : Int)) = true := by rw [bne_iff_ne]; omega
    have hm' := RdI.maxn hr'
    have HN := Lib.hid hnn; clear hnn
    go_enter Tryz.func176, Tryz.ntmps176
    go_wp2
    go_ret
    exact ⟨false, rfl, ⟨fun h => by simp at h, fun h => absurd (by rw [← hl.out, ← hl'.out, h]) HN.out⟩, 0, rfl⟩

end Go.Proofs.YtlnhppgfhkkidaaGreat
namespace Go.Proofs.YtlnhppgfhkkidaaGreat
open Go.RowKit

theorem plain_int : Tryz.prog.plainKey 3 = true := by kernel_rfl
theorem run_eqItems_ints (w : World) (d : Nat) (l m : List Int) : ∀ is : List Nat, (∀ i ∈ is, i < l.length ∧ i < m.length) →
    (Op.eqItems (d + 1) 3 (Tryz.prog.cellsOf 3) (l.map intV).toArray (m.map intV).toArray is).run Tryz.prog w = .ok (decide (∀ i ∈ is, l[i]?.getD 0 = m[i]?.getD 0)) w
  | [], _ => by simp [Op.eqItems]
  | i :: is, h => by
    have hi := h i (List.mem_cons_self ..)
    have hc : Tryz.prog.cellsOf 3 = 1 := by kernel_rfl
    have ih := run_eqItems_ints w d l m is (fun j hj => h j (List.mem_cons_of_mem _ hj))
    have p1 : (part 3 (l.map intV).toArray (i * 1)).run Tryz.prog w = .ok (intV (l[i]?.getD 0)) w := run_part_plain w plain_int (by simp [List.getElem?_eq_getElem hi.1])
    have p2 : (part 3 (m.map intV).toArray (i * 1)).run Tryz.prog w = .ok (intV (m[i]?.getD 0)) w := run_part_plain w plain_int (by simp [List.getElem?_eq_getElem hi.2])
    have p3 := run_equalIn_int w d 3 .i64 .i64 (l[i]?.getD 0) (m[i]?.getD 0) Tryz.underlying3
    rw [hc] at ih ⊢
    simp only [Op.eqItems, Sem.run_bind, p1, p2, Result.andThen_ok]
    rw [show Op.equalIn (d + 1) 3 (intV (l[i]?.getD 0)) (intV (m[i]?.getD 0)) = Op.equalIn (d + 1) 3 (.int .i64 (l[i]?.getD 0)) (.int .i64 (m[i]?.getD 0)) from rfl, p3]
    simp only [Result.andThen_ok]
    by_cases he : l[i]?.getD 0 = m[i]?.getD 0
    · simp [he, ih]
    · simp [he]

theorem all_range14 {l m : List Int} (hl : l.length = 14) (hm : m.length = 14) : (∀ i ∈ List.range 14, l[i]?.getD 0 = m[i]?.getD 0) ↔ l = m := by
  constructor
  · intro h
    refine ilist_ext (by omega) (fun j hj => h j (List.mem_range.2 (by omega)))
  · rintro rfl i _
    rfl
set_option maxRecDepth 100000 in
theorem run_equalIn14 (w : World) (d : Nat) (l m : List Int) (hl : l.length = 14) (hm : m.length = 14) : (Op.equalIn (d + 2) 228 (.agg (l.map intV).toArray) (.agg (m.map intV).toArray)).run Tryz.prog w = .ok (decide (l = m)) w := by
  obtain ⟨i, hi, _⟩ : ∃ i, Tryz.prog.info? 3 = some i ∧ True := by
    cases h : Tryz.prog.info? 3 with
    | none => exact absurd h (by have : (Tryz.prog.info? 3).isSome = true := by kernel_rfl
                                 intro h'; rw [h'] at this; cases this)
    | some i => exact ⟨i, rfl, trivial⟩
  rw [run_equalIn_array (P := Tryz.prog) w (d + 1) (t := 228) (l.map intV).toArray (m.map intV).toArray Tryz.underlying228 hi, run_eqItems_ints w d l m (List.range 14) (fun i hi => by have := List.mem_range.1 hi; omega)]
  congr 1
  exact decide_eq_decide.2 (all_range14 hl hm)
end Go.Proofs.YtlnhppgfhkkidaaGreat
namespace Go.Proofs.YtlnhppgfhkkidaaGreat
open Go.RowKit

def nums14 (n : NoteV) : List Int := [n.house, n.num, n.clock, n.day, n.kind, n.stone, n.heap, n.turns, n.a, n.b, n.ring, n.refH, n.refN, n.fix]
def numsA (n : NoteV) : Array Value := ((nums14 n).map intV).toArray
theorem run_equal_nums (x y : NoteV) (w : World) : (Op.equalIn 10000 228 (.agg (numsA x)) (.agg (numsA y))).run Tryz.prog w = .ok (decide (nums14 x = nums14 y)) w := by
  have h := run_equalIn14 w 9998 (nums14 x) (nums14 y) rfl rfl
  simp only [Nat.reduceAdd] at h
  exact h
section
attribute [local go_sem] noteA_0 noteA_1 noteA_2 noteA_3 noteA_4 noteA_5 noteA_6 noteA_7 noteA_12 noteA_13 noteA_14 noteA_16 noteA_17 noteA_18
set_option maxHeartbeats 1000000 in
theorem numbers_any (n : NoteV) (sa : Option Addr) (sc : Nat) (w : World) : Calls Tryz.prog 175 #[.agg (noteA n sa sc)] w fun e w' => e = .returned (.agg (numsA n)) ∧ Below w.heap.size w w' := by
  have hb := (Below.refl w.heap.size w).alloc (Nat.le_refl _) (.cells (noteA n sa sc) 47)
  go_enter Tryz.func175, Tryz.ntmps175
  go_wp2_with fail
  go_returns
  exact ⟨rfl, hb.alloc hb.size _⟩
end

def sameB (x y : NoteV) : Bool := decide (nums14 x = nums14 y) && (decide (x.hardLo = y.hardLo ∧ x.hardHi = y.hardHi) && (decide (x.diffLo = y.diffLo ∧ x.diffHi = y.diffHi) && decide (x.strokes = y.strokes)))

theorem note_cells {W : World} {p : Nat} {x : NoteV} {sa : Option Addr} {sc : Nat} (h1 : W.heap[p]? = some (.cells (noteA x sa sc) 47 (0, 0))) : W.rangeAt p 0 (x.cells sa sc) := fun j v hv => by
  simp only [World.cell?, h1]
  simpa [noteA] using hv
theorem size43 (x : NoteV) (sa : Option Addr) (sc : Nat) : (Tryz.prog.info? 47).map (·.size) = some (x.cells sa sc).length := by kernel_rfl

attribute [local go_sem ↓] run_equal_nums
theorem quiet_load43 {C : World → Prop} {w : World} {o : Oper} {a : Act} (x : Operand) (ho : o.op = .load 47 x) (p : Nat) (hx : a.eval x = .pointer (some ⟨p, 0, none⟩)) (n : NoteV) (sa : Option Addr) (sc : Nat)
    (h : w.heap[p]? = some (.cells (noteA n sa sc) 47 (0, 0))) : o.quietAt Tryz.prog a C w (.agg (noteA n sa sc)) := by
  unfold Oper.quietAt execOp
  simp only [ho, hx, Instr.loadAt, Instr.sureAddr, Sem.run_bind, Sem.run_pure, Result.andThen_ok, run_loadVar_mid w p 0 47 (n.cells sa sc) _ (note_cells h) Tryz.underlying47 rfl (size43 n sa sc)]
  exact ⟨rfl, rfl⟩

set_option maxRecDepth 100000 in
set_option maxHeartbeats 2000000 in
theorem same_any (x y : NoteV) (sa : Option Addr) (sc : Nat) (ta : Option Addr) (tc : Nat) (w : World) (hx : RdI w sa x.strokes.length sc x.strokes) (hy : RdI w ta y.strokes.length tc y.strokes) :
    Calls Tryz.prog 122 #[.agg (noteA x sa sc), .agg (noteA y ta tc)] w fun e w' => e = .returned (.bool (sameB x y)) ∧ Below w.heap.size w w' := by
  have hlast := heap_last w (.cells (noteA x sa sc) 47)
  have p0 := heap_before (w.alloc (.cells (noteA x sa sc) 47)) (.cells (noteA y ta tc) 47) _ _ hlast
  have q0 : ((w.alloc (.cells (noteA x sa sc) 47)).alloc (.cells (noteA y ta tc) 47)).heap[w.heap.size + 1]? = some (.cells (noteA y ta tc) 47) := by
    have := heap_last (w.alloc (.cells (noteA x sa sc) 47)) (.cells (noteA y ta tc) 47)
    simpa using this
  have hb : Below w.heap.size w ((w.alloc (.cells (noteA x sa sc) 47)).alloc (.cells (noteA y ta tc) 47)) := ((Below.refl _ _).alloc (Nat.le_refl _) _).alloc (by simp) _
  have hp : w.heap.size < ((w.alloc (.cells (noteA x sa sc) 47)).alloc (.cells (noteA y ta tc) 47)).heap.size := by simp; omega
  have hq : w.heap.size + 1 < ((w.alloc (.cells (noteA x sa sc) 47)).alloc (.cells (noteA y ta tc) 47)).heap.size := by simp
  clear hlast
  have H1 := Lib.hid p0; clear p0
  have H2 := Lib.hid q0; clear q0
  have HB := Lib.hid hb; clear hb
  have HP := Lib.hid hp; clear hp
  have HQ := Lib.hid hq; clear hq
  have hbx := hx.below HB.out
  have hby := hy.below HB.out
  have hu := Tryz.underlying47
  go_enter Tryz.func122, Tryz.ntmps122
  go_upto_region 2 with fail
  generalize (w.alloc (.cells (noteA x sa sc) 47)).alloc (.cells (noteA y ta tc) 47) = W at *
  generalize hpe : w.heap.size = p at *
  generalize hqe : p + 1 = q at *
  have HPE := Lib.hid hpe; clear hpe
  have HQE := Lib.hid hqe; clear hqe
  have hC0 : Below W.heap.size W W.drew := (Below.refl _ _).drew
  have HX := Lib.hid (show ∀ w0, Below W.heap.size W w0 → w0.heap[p]? = some (.cells (noteA x sa sc) 47 (0, 0)) from fun w0 h => (h.block p HP.out).trans H1.out)
  have HY := Lib.hid (show ∀ w0, Below W.heap.size W w0 → w0.heap[q]? = some (.cells (noteA y ta tc) 47 (0, 0)) from fun w0 h => (h.block q HQ.out).trans H2.out)
  have hZ : p ≤ W.heap.size := Nat.le_of_lt HP.out
  refine wp_region_quiet (C := fun w' : World => Below W.heap.size W w') (by kernel_rfl) (by kernel_rfl) hC0 ?_
  show wpQuiet _ _ _ _ (_ :: _) _
  go_big_quiet_want
  go_big_quiet_op
  go_big_quiet_on
  go_big_quiet_want
  refine ⟨.agg (noteA x sa sc), fun w0 hC => quiet_load43 (.tmp 2) rfl p rfl x sa sc (HX.out w0 hC), ?_⟩
  simp only [Act.put, lq3, lq4, lq5]
  go_big_quiet_on
  go_big_quiet_want
  refine ⟨.agg (numsA x), fun w0 hC => ?_, ?_⟩
  · go_simp
    refine (numbers_any x sa sc _).mono ?_; rintro e w1 ⟨rfl, b1⟩; exact ⟨rfl, hC.trans (b1.mono hC.size)⟩
  simp only [Act.put, lq3, lq4, lq5]
  go_big_quiet_on
  go_big_quiet_want
  go_big_quiet_op
  go_big_quiet_on
  go_big_quiet_want
  refine ⟨.agg (noteA y ta tc), fun w0 hC => quiet_load43 (.tmp 3) rfl q rfl y ta tc (HY.out w0 hC), ?_⟩
  simp only [Act.put, lq3, lq4, lq5]
  go_big_quiet_on
  go_big_quiet_want
  refine ⟨.agg (numsA y), fun w0 hC => ?_, ?_⟩
  · go_simp
    refine (numbers_any y ta tc _).mono ?_; rintro e w1 ⟨rfl, b1⟩; exact ⟨rfl, hC.trans (b1.mono hC.size)⟩
  simp only [Act.put, lq3, lq4, lq5]
  go_big_quiet_on
  go_big_quiet_want
  refine ⟨.bool (decide (nums14 x = nums14 y)), fun w0 hC => ?_, ?_⟩
  · clear hC
    go_simp
  simp only [Act.put, lq3, lq4, lq5]
  go_big_quiet_on
  cases hn : decide (nums14 x = nums14 y)
  · have hR : sameB x y = false := by simp only [sameB, hn, Bool.false_and]
    have HR := Lib.hid hR; clear hR
    go_big_quiet_want
    go_big_quiet_op
    go_big_quiet_on
    go_big_quiet_skip
    go_big_quiet_skip
    go_big_quiet_skip
    go_big_quiet_skip
    go_big_quiet_skip
    go_big_quiet_want
    refine ⟨.bool false, fun w0 hC => ?_, ?_⟩
    · clear hC
      go_simp
    simp only [Act.put, lq3, lq4, lq5]
    go_big_quiet_on
    go_big_quiet_want
    go_big_quiet_op
    go_big_quiet_on
    go_big_quiet_skip
    go_big_quiet_skip
    go_big_quiet_skip
    go_big_quiet_skip
    go_big_quiet_skip
    go_big_quiet_want
    refine ⟨.bool false, fun w0 hC => ?_, ?_⟩
    · clear hC
      go_simp
    simp only [Act.put, lq3, lq4, lq5]
    go_big_quiet_on
    go_big_quiet_want
    go_big_quiet_op
    go_big_quiet_on
    go_big_quiet_skip
    go_big_quiet_skip
    go_big_quiet_skip
    go_big_quiet_skip
    go_big_quiet_skip
    go_big_quiet_want
    refine ⟨.bool false, fun w0 hC => ?_, ?_⟩
    · clear hC
      go_simp
    simp only [Act.put, lq3, lq4, lq5]
    go_big_quiet_on
    go_big_quiet_want
    go_big_quiet_op
    go_big_quiet_on
    refine wpQuiet_nil ?_
    intro w' hC
    go_wp2_with fail
    go_ret
    rw [HR.out]
    exact ⟨rfl, by rw [HPE.out]; exact HB.out.trans (hC.mono hZ)⟩
  · have HN := Lib.hid hn
    clear hn
    go_big_quiet_want
    go_big_quiet_op
    go_big_quiet_on
    go_big_quiet_want
    refine ⟨.pointer (some ⟨p, 8, none⟩), fun w0 hC => ?_, ?_⟩
    · clear hC
      go_simp
    simp only [Act.put, lq3, lq4, lq5]
    go_big_quiet_on
    go_big_quiet_want
    refine ⟨.agg #[.int .i64 x.hardLo, .int .i64 x.hardHi], fun w0 hC => ?_, ?_⟩
    · have c8 := note_cells (HX.out w0 hC) 8 _ rfl; simp only [Nat.zero_add] at c8; have c9 := note_cells (HX.out w0 hC) 9 _ rfl; simp only [Nat.zero_add] at c9
      clear hC
      go_simp
    simp only [Act.put, lq3, lq4, lq5]
    go_big_quiet_on
    go_big_quiet_want
    refine ⟨.pointer (some ⟨q, 8, none⟩), fun w0 hC => ?_, ?_⟩
    · clear hC
      go_simp
    simp only [Act.put, lq3, lq4, lq5]
    go_big_quiet_on
    go_big_quiet_want
    refine ⟨.agg #[.int .i64 y.hardLo, .int .i64 y.hardHi], fun w0 hC => ?_, ?_⟩
    · have c8 := note_cells (HY.out w0 hC) 8 _ rfl; simp only [Nat.zero_add] at c8; have c9 := note_cells (HY.out w0 hC) 9 _ rfl; simp only [Nat.zero_add] at c9
      clear hC
      go_simp
    simp only [Act.put, lq3, lq4, lq5]
    go_big_quiet_on
    go_big_quiet_want
    refine ⟨.bool (decide (x.hardLo = y.hardLo ∧ x.hardHi = y.hardHi)), fun w0 hC => ?_, ?_⟩
    · clear hC
      go_simp
      by_cases h1 : x.hardLo = y.hardLo <;> by_cases h2 : x.hardHi = y.hardHi <;> simp [h1, h2]
    simp only [Act.put, lq3, lq4, lq5]
    go_big_quiet_on
    cases hh : decide (x.hardLo = y.hardLo ∧ x.hardHi = y.hardHi)
    · have hR : sameB x y = false := by simp only [sameB, hh, Bool.false_and, Bool.and_false]
      have HR := Lib.hid hR; clear hR hh
      go_big_quiet_want
      refine ⟨.bool false, fun w0 hC => ?_, ?_⟩
      · clear hC
        go_simp
      simp only [Act.put, lq3, lq4, lq5]
      go_big_quiet_on
      go_big_quiet_want
      go_big_quiet_op
      go_big_quiet_on
      go_big_quiet_skip
      go_big_quiet_skip
      go_big_quiet_skip
      go_big_quiet_skip
      go_big_quiet_skip
      go_big_quiet_want
      refine ⟨.bool false, fun w0 hC => ?_, ?_⟩
      · clear hC
        go_simp
      simp only [Act.put, lq3, lq4, lq5]
      go_big_quiet_on
      go_big_quiet_want
      go_big_quiet_op
      go_big_quiet_on
      go_big_quiet_skip
      go_big_quiet_skip
      go_big_quiet_skip
      go_big_quiet_skip
      go_big_quiet_skip
      go_big_quiet_want
      refine ⟨.bool false, fun w0 hC => ?_, ?_⟩
      · clear hC
        go_simp
      simp only [Act.put, lq3, lq4, lq5]
      go_big_quiet_on
      go_big_quiet_want
      go_big_quiet_op
      go_big_quiet_on
      refine wpQuiet_nil ?_
      intro w' hC
      go_wp2_with fail
      go_ret
      rw [HR.out]
      exact ⟨rfl, by rw [HPE.out]; exact HB.out.trans (hC.mono hZ)⟩
    · have HH := Lib.hid hh
      clear hh
      go_big_quiet_want
      refine ⟨.bool true, fun w0 hC => ?_, ?_⟩
      · clear hC
        go_simp
      simp only [Act.put, lq3, lq4, lq5]
      go_big_quiet_on
      go_big_quiet_want
      go_big_quiet_op
      go_big_quiet_on
      go_big_quiet_want
      refine ⟨.pointer (some ⟨p, 10, none⟩), fun w0 hC => ?_, ?_⟩
      · clear hC
        go_simp
      simp only [Act.put, lq3, lq4, lq5]
      go_big_quiet_on
      go_big_quiet_want
      refine ⟨.agg #[.int .i64 x.diffLo, .int .i64 x.diffHi], fun w0 hC => ?_, ?_⟩
      · have c10 := note_cells (HX.out w0 hC) 10 _ rfl; simp only [Nat.zero_add] at c10; have c11 := note_cells (HX.out w0 hC) 11 _ rfl; simp only [Nat.zero_add] at c11
        clear hC
        go_simp
      simp only [Act.put, lq3, lq4, lq5]
      go_big_quiet_on
      go_big_quiet_want
      refine ⟨.pointer (some ⟨q, 10, none⟩), fun w0 hC => ?_, ?_⟩
      · clear hC
        go_simp
      simp only [Act.put, lq3, lq4, lq5]
      go_big_quiet_on
      go_big_quiet_want
      refine ⟨.agg #[.int .i64 y.diffLo, .int .i64 y.diffHi], fun w0 hC => ?_, ?_⟩
      · have c10 := note_cells (HY.out w0 hC) 10 _ rfl; simp only [Nat.zero_add] at c10; have c11 := note_cells (HY.out w0 hC) 11 _ rfl; simp only [Nat.zero_add] at c11
        clear hC
        go_simp
      simp only [Act.put, lq3, lq4, lq5]
      go_big_quiet_on
      go_big_quiet_want
      refine ⟨.bool (decide (x.diffLo = y.diffLo ∧ x.diffHi = y.diffHi)), fun w0 hC => ?_, ?_⟩
      · clear hC
        go_simp
        by_cases h1 : x.diffLo = y.diffLo <;> by_cases h2 : x.diffHi = y.diffHi <;> simp [h1, h2]
      simp only [Act.put, lq3, lq4, lq5]
      go_big_quiet_on
      cases hd : decide (x.diffLo = y.diffLo ∧ x.diffHi = y.diffHi)
      · have hR : sameB x y = false := by simp only [sameB, hd, Bool.false_and, Bool.and_false]
        have HR := Lib.hid hR; clear hR hd
        go_big_quiet_want
        refine ⟨.bool false, fun w0 hC => ?_, ?_⟩
        · clear hC
          go_simp
        simp only [Act.put, lq3, lq4, lq5]
        go_big_quiet_on
        go_big_quiet_want
        go_big_quiet_op
        go_big_quiet_on
        go_big_quiet_skip
        go_big_quiet_skip
        go_big_quiet_skip
        go_big_quiet_skip
        go_big_quiet_skip
        go_big_quiet_want
        refine ⟨.bool false, fun w0 hC => ?_, ?_⟩
        · clear hC
          go_simp
        simp only [Act.put, lq3, lq4, lq5]
        go_big_quiet_on
        go_big_quiet_want
        go_big_quiet_op
        go_big_quiet_on
        refine wpQuiet_nil ?_
        intro w' hC
        go_wp2_with fail
        go_ret
        rw [HR.out]
        exact ⟨rfl, by rw [HPE.out]; exact HB.out.trans (hC.mono hZ)⟩
      · have hR : sameB x y = decide (x.strokes = y.strokes) := by simp only [sameB, HN.out, HH.out, hd, Bool.true_and]
        have HR := Lib.hid hR; clear hR hd
        go_big_quiet_want
        refine ⟨.bool true, fun w0 hC => ?_, ?_⟩
        · clear hC
          go_simp
        simp only [Act.put, lq3, lq4, lq5]
        go_big_quiet_on
        go_big_quiet_want
        go_big_quiet_op
        go_big_quiet_on
        go_big_quiet_want
        refine ⟨.pointer (some ⟨p, 15, none⟩), fun w0 hC => ?_, ?_⟩
        · clear hC
          go_simp
        simp only [Act.put, lq3, lq4, lq5]
        go_big_quiet_on
        go_big_quiet_want
        refine ⟨.slice sa x.strokes.length sc, fun w0 hC => ?_, ?_⟩
        · have c15 := note_cells (HX.out w0 hC) 15 _ rfl; simp only [Nat.zero_add] at c15
          clear hC
          go_simp
        simp only [Act.put, lq3, lq4, lq5]
        go_big_quiet_on
        go_big_quiet_want
        refine ⟨.pointer (some ⟨q, 15, none⟩), fun w0 hC => ?_, ?_⟩
        · clear hC
          go_simp
        simp only [Act.put, lq3, lq4, lq5]
        go_big_quiet_on
        go_big_quiet_want
        refine ⟨.slice ta y.strokes.length tc, fun w0 hC => ?_, ?_⟩
        · have c15 := note_cells (HY.out w0 hC) 15 _ rfl; simp only [Nat.zero_add] at c15
          clear hC
          go_simp
        simp only [Act.put, lq3, lq4, lq5]
        go_big_quiet_on
        go_big_quiet_want
        refine ⟨.bool (decide (x.strokes = y.strokes)), fun w0 hC => ?_, ?_⟩
        · go_simp
          refine (eqInts_any _ _ _ x.strokes _ _ _ y.strokes w0 (hbx.below hC) (hby.below hC)).mono ?_; rintro e w1 ⟨b, rfl, hb, q1, rfl⟩; exact ⟨by rw [show b = decide (x.strokes = y.strokes) from Bool.eq_iff_iff.2 (hb.trans decide_eq_true_iff.symm)], hC.trans (below_drewN (Below.refl _ _) q1)⟩
        simp only [Act.put, lq3, lq4, lq5]
        go_big_quiet_on
        go_big_quiet_want
        refine ⟨.bool (decide (x.strokes = y.strokes)), fun w0 hC => ?_, ?_⟩
        · clear hC
          go_simp
        simp only [Act.put, lq3, lq4, lq5]
        go_big_quiet_on
        go_big_quiet_want
        go_big_quiet_op
        go_big_quiet_on
        refine wpQuiet_nil ?_
        intro w' hC
        go_wp2_with fail
        go_ret
        rw [HR.out]
        exact ⟨rfl, by rw [HPE.out]; exact HB.out.trans (hC.mono hZ)⟩
end Go.Proofs.YtlnhppgfhkkidaaGreat
namespace Go.Proofs.YtlnhppgfhkkidaaGreat
open Go.RowKit
section
attribute [local go_sem] noteA_0 noteA_1 noteA_2 noteA_3 noteA_4 noteA_5 noteA_6 noteA_7 noteA_8 noteA_9 noteA_10 noteA_11 noteA_12 noteA_13 noteA_14 noteA_15 noteA_16 noteA_17 noteA_18
variable (n : NoteV) (sa : Option Addr) (sc : Nat) (w : World)
theorem content1 : Calls Tryz.prog 199 #[.int .i64 1, .agg (noteA n sa sc)] w fun e w' => e = .returned (.iface 258 (.agg #[.int .i64 n.hardLo, .int .i64 n.hardHi])) ∧ Below w.heap.size w w' := by
  have hb := (Below.refl w.heap.size w).alloc (Nat.le_refl _) (.cells (noteA n sa sc) 47)
  go_enter Tryz.func199, Tryz.ntmps199
  go_wp2_with fail
  go_ret
  exact ⟨rfl, hb⟩
theorem content2 : Calls Tryz.prog 199 #[.int .i64 2, .agg (noteA n sa sc)] w fun e w' => e = .returned (.iface 261 (.agg #[.int .i64 n.turns])) ∧ Below w.heap.size w w' := by
  have hb := (Below.refl w.heap.size w).alloc (Nat.le_refl _) (.cells (noteA n sa sc) 47)
  go_enter Tryz.func199, Tryz.ntmps199
  go_wp2_with fail
  go_ret
  exact ⟨rfl, hb⟩
theorem content3 : Calls Tryz.prog 199 #[.int .i64 3, .agg (noteA n sa sc)] w fun e w' => e = .returned (.iface 263 (.agg #[.int .i64 n.stone, .int .i64 n.a, .int .i64 n.b])) ∧ Below w.heap.size w w' := by
  have hb := (Below.refl w.heap.size w).alloc (Nat.le_refl _) (.cells (noteA n sa sc) 47)
  go_enter Tryz.func199, Tryz.ntmps199
  go_wp2_with fail
  go_ret
  exact ⟨rfl, hb⟩
theorem content4 : Calls Tryz.prog 199 #[.int .i64 4, .agg (noteA n sa sc)] w fun e w' => e = .returned (.iface 266 (.agg #[.int .i64 n.stone, .int .i64 n.ring])) ∧ Below w.heap.size w w' := by
  have hb := (Below.refl w.heap.size w).alloc (Nat.le_refl _) (.cells (noteA n sa sc) 47)
  go_enter Tryz.func199, Tryz.ntmps199
  go_wp2_with fail
  go_ret
  exact ⟨rfl, hb⟩
theorem content5 : Calls Tryz.prog 199 #[.int .i64 5, .agg (noteA n sa sc)] w fun e w' => e = .returned (.iface 269 (.agg #[.int .i64 n.refH, .int .i64 n.refN])) ∧ Below w.heap.size w w' := by
  have hb := (Below.refl w.heap.size w).alloc (Nat.le_refl _) (.cells (noteA n sa sc) 47)
  go_enter Tryz.func199, Tryz.ntmps199
  go_wp2_with fail
  go_ret
  exact ⟨rfl, hb⟩
theorem content6 : Calls Tryz.prog 199 #[.int .i64 6, .agg (noteA n sa sc)] w fun e w' => e = .returned (.iface 269 (.agg #[.int .i64 n.refH, .int .i64 n.refN])) ∧ Below w.heap.size w w' := by
  have hb := (Below.refl w.heap.size w).alloc (Nat.le_refl _) (.cells (noteA n sa sc) 47)
  go_enter Tryz.func199, Tryz.ntmps199
  go_wp2_with fail
  go_ret
  exact ⟨rfl, hb⟩
theorem content0 (k : Int) (h : ¬ (1 ≤ k ∧ k ≤ 6)) : Calls Tryz.prog 199 #[.int .i64 k, .agg (noteA n sa sc)] w fun e w' => e = .returned .nilIface ∧ Below w.heap.size w w' := by
  have hb := (Below.refl w.heap.size w).alloc (Nat.le_refl _) (.cells (noteA n sa sc) 47)
  have q1 : (k == 1) = false := by simp; omega
  have r1 : decide (k = 1) = false := by simp; omega
  have q2 : (k == 2) = false := by simp; omega
  have r2 : decide (k = 2) = false := by simp; omega
  have q3 : (k == 3) = false := by simp; omega
  have r3 : decide (k = 3) = false := by simp; omega
  have q4 : (k == 4) = false := by simp; omega
  have r4 : decide (k = 4) = false := by simp; omega
  have q5 : (k == 5) = false := by simp; omega
  have r5 : decide (k = 5) = false := by simp; omega
  have q6 : (k == 6) = false := by simp; omega
  have r6 : decide (k = 6) = false := by simp; omega
  clear h
  go_enter Tryz.func199, Tryz.ntmps199
  go_wp2_with fail
  go_ret
  exact ⟨rfl, hb⟩
end
end Go.Proofs.YtlnhppgfhkkidaaGreat
