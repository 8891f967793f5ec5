/- Sticks: Crash. -/
import Derived.Test.YtpdmlklnbjegpaaGreatStick2
namespace Go.Proofs.YtpdmlklnbjegpaaGreat
open Go.RowKit

/-- What may be asked of a crash. -/
def CrashOk (sb fb : List UInt8) (sd fd : Nat) (stock foil flip : Int) : Prop :=
  0 ≤ stock ∧ stock ≤ (sb.length : Int) - sd ∧ 0 ≤ foil ∧ foil ≤ (fb.length : Int) - fd ∧ -1 ≤ flip ∧ flip < 8 * (stock + foil)

set_option maxHeartbeats 1000000 in
theorem crash_no (w : World) (p : Nat) (F : Nat → Prop) (sb fb : List UInt8) (sd fd : Nat) (stock foil flip : Int) (h : Stk w p F sb fb sd fd) (hc : ¬ CrashOk sb fb sd fd stock foil flip) :
    Calls Tryz.prog 25 #[.pointer (some ⟨p, 0, none⟩), .int .i64 stock, .int .i64 foil, .int .i64 flip] w fun e w' => e = .returned (.int .i64 1) ∧ ∃ q, w' = w.drewN q := by
  have hq : ∀ q, Stk (w.drewN q) p F sb fb sd fd := fun q => h.same (S := fun _ => False) (Same.of_below (below_drewN (Below.refl _ _) q)) (fun _ e => e.elim)
  obtain ⟨_, _, _, _, _, _, _, _, _, g6, g7, g8, g9⟩ := id h
  have P1 : ∀ q, Calls Tryz.prog 61 #[.pointer (some ⟨p, 0, none⟩)] (w.drewN q) fun e w' => e = .returned (.int .i64 ((sb.length : Int) - sd)) ∧ ∃ q', w' = w.drewN q' := by
    intro q
    obtain ⟨a, c, j, _⟩ := (hq q).j0
    refine (jpending_any _ _ _ _ _ _ _ j g6 (by omega)).mono ?_
    rintro e w' ⟨rfl, q', rfl⟩
    exact ⟨rfl, q + q', by rw [World.drewN_drewN]⟩
  have P2 : ∀ q, Calls Tryz.prog 61 #[.pointer (some ⟨p, 2, none⟩)] (w.drewN q) fun e w' => e = .returned (.int .i64 ((fb.length : Int) - fd)) ∧ ∃ q', w' = w.drewN q' := by
    intro q
    obtain ⟨a, c, j, _⟩ := (hq q).j2
    refine (jpending_any _ _ _ _ _ _ _ j g7 (by omega)).mono ?_
    rintro e w' ⟨rfl, q', rfl⟩
    exact ⟨rfl, q + q', by rw [World.drewN_drewN]⟩
  have H1 := Lib.hid P1; clear P1
  have H2 := Lib.hid P2; clear P2 hq h
  have hd0 : w = w.drewN 0 := rfl
  have D0 := Lib.hid hd0; clear hd0
  by_cases c1 : 0 ≤ stock
  · have q1 : decide (stock < 0) = false := by simp; omega
    by_cases c2 : stock ≤ (sb.length : Int) - sd
    · have q2 : decide ((sb.length : Int) - sd < stock) = false := by simp; omega
      by_cases c3 : 0 ≤ foil
      · have q3 : decide (foil < 0) = false := by simp; omega
        by_cases c4 : foil ≤ (fb.length : Int) - fd
        · have q4 : decide ((fb.length : Int) - fd < foil) = false := by simp; omega
          by_cases c5 : -1 ≤ flip
          · have q5 : decide (flip < -1) = false := by simp; omega
            have q6 : decide (8 * (stock + foil) ≤ flip) = true := by
              simp only [decide_eq_true_eq]
              by_cases hx : 8 * (stock + foil) ≤ flip
              · exact hx
              · exact absurd ⟨c1, c2, c3, c4, c5, by omega⟩ hc
            clear hc
            go_enter Tryz.func25, Tryz.ntmps25
            go_wp2_with fail
            refine (H1.out 0).mono ?_
            rintro e w' ⟨rfl, q, rfl⟩
            go_wp2_with fail
            refine (H2.out q).mono ?_
            rintro e w' ⟨rfl, q', rfl⟩
            go_wp2_with fail
            go_ret
            exact ⟨rfl, _, rfl⟩
          · have q5 : decide (flip < -1) = true := by simp; omega
            clear hc
            go_enter Tryz.func25, Tryz.ntmps25
            go_wp2_with fail
            refine (H1.out 0).mono ?_
            rintro e w' ⟨rfl, q, rfl⟩
            go_wp2_with fail
            refine (H2.out q).mono ?_
            rintro e w' ⟨rfl, q', rfl⟩
            go_wp2_with fail
            go_ret
            exact ⟨rfl, _, rfl⟩
        · have q4 : decide ((fb.length : Int) - fd < foil) = true := by simp; omega
          clear hc
          go_enter Tryz.func25, Tryz.ntmps25
          go_wp2_with fail
          refine (H1.out 0).mono ?_
          rintro e w' ⟨rfl, q, rfl⟩
          go_wp2_with fail
          refine (H2.out q).mono ?_
          rintro e w' ⟨rfl, q', rfl⟩
          go_wp2_with fail
          go_ret
          exact ⟨rfl, _, rfl⟩
      · have q3 : decide (foil < 0) = true := by simp; omega
        clear hc
        go_enter Tryz.func25, Tryz.ntmps25
        go_wp2_with fail
        refine (H1.out 0).mono ?_
        rintro e w' ⟨rfl, q, rfl⟩
        go_wp2_with fail
        go_ret
        exact ⟨rfl, _, rfl⟩
    · have q2 : decide ((sb.length : Int) - sd < stock) = true := by simp; omega
      clear hc
      go_enter Tryz.func25, Tryz.ntmps25
      go_wp2_with fail
      refine (H1.out 0).mono ?_
      rintro e w' ⟨rfl, q, rfl⟩
      go_wp2_with fail
      go_ret
      exact ⟨rfl, _, rfl⟩
  · have q1 : decide (stock < 0) = true := by simp; omega
    clear hc
    go_enter Tryz.func25, Tryz.ntmps25
    go_wp2_with fail
    go_ret
    exact ⟨rfl, 0, rfl⟩
end Go.Proofs.YtpdmlklnbjegpaaGreat
