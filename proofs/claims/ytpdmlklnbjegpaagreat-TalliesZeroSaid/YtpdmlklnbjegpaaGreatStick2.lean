/- Sticks: Write, Sync, Tallies, Crash. -/
import Derived.Test.YtpdmlklnbjegpaaGreatStick
import Derived.BigRegion
namespace Go.Proofs.YtpdmlklnbjegpaaGreat
open Go.RowKit

theorem write_no (w : World) (p : Nat) (F : Nat → Prop) (sb fb : List UInt8) (sd fd : Nat) (a : Option Addr) (n c : Nat) (h : Stk w p F sb fb sd fd) (hn : n ≤ 9223372036854775807)
    (hc : ¬ (n ≤ 8192 ∧ sb.length + n + 2 ≤ 16777216 ∧ fb.length + 4 ≤ 16777216)) :
    Calls Tryz.prog 24 #[.pointer (some ⟨p, 0, none⟩), .slice a n c] w fun e w' => e = .returned (.int .i64 2) ∧ w = w' := by
  obtain ⟨sa, sc, fa, fc, g1, g2, g3, g4, g5, g6, g7, g8, g9⟩ := h
  have e1 : w.cell? ⟨p, 0, none⟩ = some (.slice sa sb.length sc) := by simp [World.cell?, g1]
  have e2 : w.cell? ⟨p, 2, none⟩ = some (.slice fa fb.length fc) := by simp [World.cell?, g1]
  clear g1 g2 g3 g4 g5
  by_cases h1 : n ≤ 8192
  · have q1 : decide ((8192 : Int) < (n : Int)) = false := by simp; omega
    by_cases h2 : sb.length + n + 2 ≤ 16777216
    · have q2 : decide ((16777216 : Int) < (sb.length : Int) + n + 2) = false := by simp; omega
      have q3 : decide ((16777216 : Int) < (fb.length : Int) + 4) = true := by simp; omega
      clear hc
      go_enter Tryz.func24, Tryz.ntmps24
      go_wp2_with fail
      go_ret
      exact ⟨rfl, rfl⟩
    · have q2 : decide ((16777216 : Int) < (sb.length : Int) + n + 2) = true := by simp; omega
      clear hc
      go_enter Tryz.func24, Tryz.ntmps24
      go_wp2_with fail
      go_ret
      exact ⟨rfl, rfl⟩
  · have q1 : decide ((8192 : Int) < (n : Int)) = true := by simp; omega
    clear hc
    go_enter Tryz.func24, Tryz.ntmps24
    go_wp2_with fail
    go_ret
    exact ⟨rfl, rfl⟩

theorem write_yes (w : World) (p : Nat) (F : Nat → Prop) (sb fb : List UInt8) (sd fd : Nat) (a : Option Addr) (n c : Nat) (l : List UInt8) (h : Stk w p F sb fb sd fd) (hr : RdB w a n c l)
    (h1 : n ≤ 8192) (h2 : sb.length + n + 2 ≤ 16777216) (h3 : fb.length + 4 ≤ 16777216) :
    Calls Tryz.prog 24 #[.pointer (some ⟨p, 0, none⟩), .slice a n c] w fun e w' => e = .returned (.int .i64 0) ∧ ∃ F', Stk w' p F' (sb ++ stockOf l) (fb ++ foilOf l) sd fd ∧ Same F w w' ∧ (∀ k, F' k → F k ∨ w.heap.size ≤ k) := by
  have hput := put_any w p F sb fb sd fd a n c l h hr (by omega) h2 h3
  obtain ⟨sa, sc, fa, fc, g1, g2, g3, g4, g5, g6, g7, g8, g9⟩ := h
  have e1 : w.cell? ⟨p, 0, none⟩ = some (.slice sa sb.length sc) := by simp [World.cell?, g1]
  have e2 : w.cell? ⟨p, 2, none⟩ = some (.slice fa fb.length fc) := by simp [World.cell?, g1]
  have q1 : decide ((8192 : Int) < (n : Int)) = false := by simp; omega
  have q2 : decide ((16777216 : Int) < (sb.length : Int) + n + 2) = false := by simp; omega
  have q3 : decide ((16777216 : Int) < (fb.length : Int) + 4) = false := by simp; omega
  clear g1 g2 g3 g4 g5
  have HP := Lib.hid hput; clear hput
  go_enter Tryz.func24, Tryz.ntmps24
  go_wp2_with fail
  refine HP.out.mono ?_
  rintro e w' ⟨rfl, hpost⟩
  go_wp2_with fail
  go_ret
  exact ⟨rfl, hpost⟩

theorem Stk.j0 {w : World} {p : Nat} {F : Nat → Prop} {sb fb : List UInt8} {sd fd : Nat} (h : Stk w p F sb fb sd fd) : ∃ a c, JAt w p 0 a sb.length c sd ∧ w.ownsRow 0 5 1 (.slice a sb.length c) sb.length (sb.map byteV) := by
  obtain ⟨sa, sc, fa, fc, g1, g2, g3, g4, g5, g6, g7, g8, g9⟩ := h
  exact ⟨sa, sc, ⟨by simp [World.cell?, g1], by simp [World.cell?, g1], by simp [World.frozen?, g1], by simp [World.frozen?, g1]⟩, g2⟩
theorem Stk.j2 {w : World} {p : Nat} {F : Nat → Prop} {sb fb : List UInt8} {sd fd : Nat} (h : Stk w p F sb fb sd fd) : ∃ a c, JAt w p 2 a fb.length c fd ∧ w.ownsRow 0 5 1 (.slice a fb.length c) fb.length (fb.map byteV) := by
  obtain ⟨sa, sc, fa, fc, g1, g2, g3, g4, g5, g6, g7, g8, g9⟩ := h
  exact ⟨fa, fc, ⟨by simp [World.cell?, g1], by simp [World.cell?, g1], by simp [World.frozen?, g1], by simp [World.frozen?, g1]⟩, g3⟩
/-- How many are durable is written anew. -/
theorem Stk.setDur {w : World} {p : Nat} {F : Nat → Prop} {sb fb : List UInt8} {sd fd : Nat} (h : Stk w p F sb fb sd fd) (d : Nat) :
    (d ≤ sb.length → Stk (w.setCell ⟨p, 1, none⟩ (.int .i64 d)) p F sb fb d fd) ∧ (d ≤ fb.length → Stk (w.setCell ⟨p, 3, none⟩ (.int .i64 d)) p F sb fb sd d) := by
  obtain ⟨sa, sc, fa, fc, g1, g2, g3, g4, g5, g6, g7, g8, g9⟩ := h
  have n1 := own_ne g2 g1 (by decide)
  have n2 := own_ne g3 g1 (by decide)
  have s1 : ∀ o, Same (fun k => k = p) w (w.setCell ⟨p, o, none⟩ (.int .i64 d)) := fun o =>
    Same.of_grown (row := some p) ⟨rfl, rfl, rfl, by simp [World.setCell], fun k _ hk => Below.heap_setCell w ⟨p, o, none⟩ _ k (fun e => hk (by rw [e]))⟩ (fun k e => by cases e; rfl)
  constructor
  · intro hd
    refine ⟨sa, sc, fa, fc, ?_, own_keep g2 (s1 1) (fun b hb e => n1 (by rw [hb, e])), own_keep g3 (s1 1) (fun b hb e => n2 (by rw [hb, e])), g4, g5, hd, g7, g8, g9⟩
    rw [heap_setCell_same w p 1 _ 115 _ g1]; rfl
  · intro hd
    refine ⟨sa, sc, fa, fc, ?_, own_keep g2 (s1 3) (fun b hb e => n1 (by rw [hb, e])), own_keep g3 (s1 3) (fun b hb e => n2 (by rw [hb, e])), g4, g5, g6, hd, g8, g9⟩
    rw [heap_setCell_same w p 3 _ 115 _ g1]; rfl

theorem sync_any (w : World) (p : Nat) (F : Nat → Prop) (sb fb : List UInt8) (sd fd : Nat) (h : Stk w p F sb fb sd fd) :
    Calls Tryz.prog 50 #[.pointer (some ⟨p, 0, none⟩)] w fun e w' => e = .returned (.tuple #[]) ∧ Stk w' p F sb fb sb.length fb.length ∧ Same (fun k => k = p) w w' := by
  obtain ⟨sa, sc, j1, _⟩ := h.j0
  have h2 := (h.setDur sb.length).1 (Nat.le_refl _)
  have h3 := (h2.setDur fb.length).2 (Nat.le_refl _)
  obtain ⟨fa, fc, j3, _⟩ := h2.j2
  have HH := Lib.hid h3; clear h3 h2 h
  go_enter Tryz.func50, Tryz.ntmps50
  go_wp2_with fail
  refine (jsync_any _ _ _ _ _ _ _ j1).mono ?_
  rintro e w' ⟨rfl, rfl⟩
  go_wp2_with fail
  refine (jsync_any _ _ _ _ _ _ _ j3).mono ?_
  rintro e w' ⟨rfl, rfl⟩
  go_wp2_with fail
  go_end0
  refine ⟨rfl, HH.out, ?_⟩
  refine Same.trans (Same.of_grown (row := some p) (W' := w.setCell ⟨p, 1, none⟩ (.int .i64 sb.length)) ⟨rfl, rfl, rfl, by simp [World.setCell], fun k _ hk => Below.heap_setCell w ⟨p, 1, none⟩ _ k (fun e => hk (by rw [e]))⟩ (fun k e => by cases e; rfl)) ?_
  exact Same.of_grown (row := some p) ⟨rfl, rfl, rfl, by simp [World.setCell], fun k _ hk => Below.heap_setCell _ ⟨p, 3, none⟩ _ k (fun e => hk (by rw [e]))⟩ (fun k e => by cases e; rfl)

theorem talliesOf_any (w : World) (p : Nat) (F : Nat → Prop) (sb fb : List UInt8) (sd fd : Nat) (h : Stk w p F sb fb sd fd) :
    Calls Tryz.prog 26 #[.pointer (some ⟨p, 0, none⟩)] w fun e w' => ∃ oa oc, e = .returned (.slice oa (joinOf sb fb).length oc) ∧ OwnBB w' w.heap.size oa (joinOf sb fb).length oc (joinOf sb fb) ∧ Below w.heap.size w w' := by
  obtain ⟨sa, sc, fa, fc, g1, g2, g3, g4, g5, g6, g7, g8, g9⟩ := h
  have e1 : w.cell? ⟨p, 0, none⟩ = some (.slice sa sb.length sc) := by simp [World.cell?, g1]
  have e2 : w.cell? ⟨p, 2, none⟩ = some (.slice fa fb.length fc) := by simp [World.cell?, g1]
  have hlt : p < w.heap.size := (Array.getElem?_eq_some_iff.1 g1).1
  have r1 := RdB.of_own g2
  have r2 := RdB.of_own g3
  clear g1 g2 g3 g4 g5
  go_enter Tryz.func26, Tryz.ntmps26
  go_wp2_with fail
  go_region_held3 (fun w' => w'.cell? ⟨p, 0, none⟩ = some (.slice sa sb.length sc) ∧ w'.cell? ⟨p, 2, none⟩ = some (.slice fa fb.length fc)) (first | exact ⟨e1, e2⟩ | exact ⟨(hb.cell (p := ⟨p, 0, none⟩) hlt).trans e1, (hb.cell (p := ⟨p, 2, none⟩) hlt).trans e2⟩)
    (first | (go_at_call 22; refine (join_any _ _ _ sb _ _ _ fb _ (r1.below (Below.refl _ _).drew) (r2.below (Below.refl _ _).drew) (by omega) (by omega)).mono ?_; rintro e w1 ⟨oa, oc, rfl, ho, hb⟩))
  go_wp2_with fail
  go_ret
  exact ⟨oa, oc, rfl, ho, (Below.refl _ _).drew.trans hb⟩
end Go.Proofs.YtpdmlklnbjegpaaGreat
