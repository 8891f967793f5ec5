/- The reference's stick: Crash. -/
import Derived.Test.YtpjiakgfegnmcaaRwrite
import Derived.Test.YtpjiakgfegnmcaaRplain
import Derived.Deep.RegionLaw
namespace Go.Proofs.Ytpjiakgfegnmcaa
open Go.RowKit

/-- Whether a number is from one to another one. -/
theorem within_any (x lo hi : Int) (b : Bool) (hb : decide (lo ≤ x ∧ x ≤ hi) = b) (w : World) :
    Calls Try.prog 47 #[.int .i64 x, .int .i64 lo, .int .i64 hi] w fun e w' => e = .returned (.bool b) ∧ w = w' := by
  subst hb
  by_cases h1 : lo ≤ x
  · have t1 : decide (lo ≤ x) = true := by simp; omega
    by_cases h2 : x ≤ hi
    · have t2 : decide (x ≤ hi) = true := by simp; omega
      have t3 : decide (lo ≤ x ∧ x ≤ hi) = true := by simp; omega
      rw [t3]; clear t3
      go_enter Try.func47, Try.ntmps47
      go_wp2_with fail
      go_ret
      exact ⟨rfl, rfl⟩
    · have t2 : decide (x ≤ hi) = false := by simp; omega
      have t3 : decide (lo ≤ x ∧ x ≤ hi) = false := by simp; omega
      rw [t3]; clear t3
      go_enter Try.func47, Try.ntmps47
      go_wp2_with fail
      go_ret
      exact ⟨rfl, rfl⟩
  · have t1 : decide (lo ≤ x) = false := by simp; omega
    have t3 : decide (lo ≤ x ∧ x ≤ hi) = false := by simp; omega
    rw [t3]; clear t3
    go_enter Try.func47, Try.ntmps47
    go_wp2_with fail
    go_ret
    exact ⟨rfl, rfl⟩

section
variable {w : World} {p : Nat} {G : Nat → Prop} {v0 v1 v2 v3 : Value} {SD SP FD FP : List UInt8}

set_option maxHeartbeats 1000000 in
theorem rcrash_no (h : RStk w p G v0 v1 v2 v3 SD SP FD FP) (stock foil flip : Int) (hs : SD.length + SP.length ≤ 16777216) (hf : FD.length + FP.length ≤ 16777216)
    (hc : ¬ (0 ≤ stock ∧ stock ≤ (SP.length : Int) ∧ 0 ≤ foil ∧ foil ≤ (FP.length : Int) ∧ -1 ≤ flip ∧ flip < 8 * (stock + foil))) :
    Calls Try.prog 20 #[.pointer (some ⟨p, 0, none⟩), .int .i64 stock, .int .i64 foil, .int .i64 flip] w fun e w' => e = .returned (.int .i64 1) ∧ w = w' := by
  obtain ⟨c0, c1, c2, c3, _⟩ := h.cells
  obtain ⟨a0, k0, rfl, _⟩ := h.s0.rd
  obtain ⟨a1, k1, rfl, _⟩ := h.s1.rd
  obtain ⟨a2, k2, rfl, _⟩ := h.s2.rd
  obtain ⟨a3, k3, rfl, _⟩ := h.s3.rd
  clear h
  by_cases h1 : 0 ≤ stock ∧ stock ≤ (SP.length : Int)
  · by_cases h2 : 0 ≤ foil ∧ foil ≤ (FP.length : Int)
    · have t3 : decide (-1 ≤ flip ∧ flip ≤ 8 * (stock + foil) - 1) = false := by
        simp only [decide_eq_false_iff_not]
        intro h3
        exact hc ⟨h1.1, h1.2, h2.1, h2.2, h3.1, by omega⟩
      have w1 := within_any stock 0 SP.length true (by simp; omega) w
      have w2 := within_any foil 0 FP.length true (by simp; omega) w
      have w3 := within_any flip (-1) (8 * (stock + foil) - 1) false t3 w
      have W1 := Lib.hid w1
      have W2 := Lib.hid w2
      have W3 := Lib.hid w3
      clear w1 w2 w3 hc t3
      have hb1 : stock ≤ 16777216 := by omega
      have hb2 : foil ≤ 16777216 := by omega
      have hb3 := h1.1
      have hb4 := h2.1
      have X1 := Lib.hid h1; clear h1
      have X2 := Lib.hid h2; clear h2 hs hf
      go_enter Try.func20, Try.ntmps20
      go_wp2_with fail
      refine W1.out.mono ?_
      rintro e w1 ⟨rfl, rfl⟩
      go_wp2_with fail
      refine W2.out.mono ?_
      rintro e w1 ⟨rfl, rfl⟩
      go_wp2_with fail
      refine W3.out.mono ?_
      rintro e w1 ⟨rfl, rfl⟩
      go_wp2_with fail
      go_ret
      exact ⟨rfl, rfl⟩
    · have w1 := within_any stock 0 SP.length true (by simp; omega) w
      have w2 := within_any foil 0 FP.length false (by simp; omega) w
      have W1 := Lib.hid w1
      have W2 := Lib.hid w2
      clear w1 w2 hc
      have X1 := Lib.hid h1; clear h1
      have X2 := Lib.hid h2; clear h2 hs hf
      go_enter Try.func20, Try.ntmps20
      go_wp2_with fail
      refine W1.out.mono ?_
      rintro e w1 ⟨rfl, rfl⟩
      go_wp2_with fail
      refine W2.out.mono ?_
      rintro e w1 ⟨rfl, rfl⟩
      go_wp2_with fail
      go_ret
      exact ⟨rfl, rfl⟩
  · have w1 := within_any stock 0 SP.length false (by simp; omega) w
    have W1 := Lib.hid w1
    clear w1 hc
    have X1 := Lib.hid h1; clear h1 hs hf
    go_enter Try.func20, Try.ntmps20
    go_wp2_with fail
    refine W1.out.mono ?_
    rintro e w1 ⟨rfl, rfl⟩
    go_wp2_with fail
    go_ret
    exact ⟨rfl, rfl⟩
end
end Go.Proofs.Ytpjiakgfegnmcaa
