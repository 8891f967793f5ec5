/- The statement TalliesNotches: it says true for every argument. -/
import Derived.Test.YtpjiakgfegnmcaaAwake
namespace Go.Proofs.Ytpjiakgfegnmcaa
open Go.RowKit

def nS (l : List UInt8) : List UInt8 := if l.length ≤ 8192 then stockOf l else []
def nF (l : List UInt8) : List UInt8 := if l.length ≤ 8192 then foilOf l else []
def nE (l : List UInt8) : Int := if l.length ≤ 8192 then 0 else 2

theorem RdB.nil (w : World) : RdB w none 0 0 [] := RdA.nil w 1

theorem notch_all (a : Option Addr) (n c : Nat) (l : List UInt8) (w : World) (hr : RdB w a n c l) :
    Calls Try.prog 9 #[.slice a n c] w fun e w' => ∃ a1 c1 a2 c2, e = .returned (.tuple #[.slice a1 (nS l).length c1, .slice a2 (nF l).length c2, .int .i64 (nE l)]) ∧
      RdB w' a1 (nS l).length c1 (nS l) ∧ RdB w' a2 (nF l).length c2 (nF l) ∧ Below w.heap.size w w' := by
  have hl := hr.len
  by_cases h : n ≤ 8192
  · have h2 : l.length ≤ 8192 := by omega
    have h1 := notch_any a n c l w hr h
    simpa only [nS, nF, nE, if_pos h2] using h1
  · have h2 : ¬ l.length ≤ 8192 := by omega
    have h1 := notch_big a n c w (by omega) hr.maxn
    refine h1.mono ?_
    rintro e w' ⟨rfl, rfl⟩
    simp only [nS, nF, nE, if_neg h2]
    exact ⟨none, 0, none, 0, rfl, RdB.nil _, RdB.nil _, Below.refl _ _⟩

theorem rnotch_all (a : Option Addr) (n c : Nat) (l : List UInt8) (w : World) (hr : RdB w a n c l) :
    Calls Try.prog 10 #[.slice a n c] w fun e w' => ∃ a1 c1 a2 c2, e = .returned (.tuple #[.slice a1 (nS l).length c1, .slice a2 (nF l).length c2, .int .i64 (nE l)]) ∧
      RdB w' a1 (nS l).length c1 (nS l) ∧ RdB w' a2 (nF l).length c2 (nF l) ∧ Below w.heap.size w w' := by
  have hl := hr.len
  by_cases h : n ≤ 8192
  · have h2 : l.length ≤ 8192 := by omega
    have h1 := rnotch_any a n c l w hr h
    simpa only [nS, nF, nE, if_pos h2] using h1
  · have h2 : ¬ l.length ≤ 8192 := by omega
    have h1 := rnotch_big a n c w (by omega) hr.maxn
    refine h1.mono ?_
    rintro e w' ⟨rfl, rfl⟩
    simp only [nS, nF, nE, if_neg h2]
    exact ⟨none, 0, none, 0, rfl, RdB.nil _, RdB.nil _, Below.refl _ _⟩

set_option maxHeartbeats 1000000 in
theorem notches_any (w : World) (a : Option Addr) (n c : Nat) (l : List UInt8) (a2 : Option Addr) (n2 c2 : Nat) (l2 : List UInt8) (a3 : Option Addr) (n3 c3 : Nat) (l3 : List UInt8)
    (hr : RdB w a n c l) (hr2 : RdB w a2 n2 c2 l2) (hr3 : RdB w a3 n3 c3 l3) :
    Calls Try.prog 3 #[.slice a n c, .slice a2 n2 c2, .slice a3 n3 c3] w fun e w' => e = .returned (.bool true) ∧ Below w.heap.size w w' := by
  have hm := hr.maxn
  have hm2 := hr2.maxn
  have hm3 := hr3.maxn
  go_enter Try.func3, Try.ntmps3
  go_wp2_with fail
  refine (awake_any w).mono ?_
  rintro e w1 ⟨rfl, b1⟩
  replace hr := hr.below b1
  replace hr2 := hr2.below b1
  replace hr3 := hr3.below b1
  have B1 := Lib.hid b1; clear b1
  by_cases hbig : n ≤ 24576 ∧ n2 ≤ 20000 ∧ n3 ≤ 20000
  · obtain ⟨h1, h2, h3⟩ := hbig
    have t1 : decide ((24576 : Int) < (n : Int)) = false := by simp; omega
    have t2 : decide ((20000 : Int) < (n2 : Int)) = false := by simp; omega
    have t3 : decide ((20000 : Int) < (n3 : Int)) = false := by simp; omega
    go_wp2_with fail
    refine (notch_all _ _ _ l _ hr).mono ?_
    rintro e w2 ⟨sa, sc, fa, fc, rfl, hs, hf, b2⟩
    replace hr := hr.below b2
    replace hr2 := hr2.below b2
    replace hr3 := hr3.below b2
    have B2 := Lib.hid (B1.out.trans (b2.mono B1.out.size)); clear b2 B1
    go_wp2_with fail
    refine (rnotch_all _ _ _ l _ hr).mono ?_
    rintro e w3 ⟨sa', sc', fa', fc', rfl, hs', hf', b3⟩
    replace hr2 := hr2.below b3
    replace hr3 := hr3.below b3
    replace hs := hs.below b3
    replace hf := hf.below b3
    have B3 := Lib.hid (B2.out.trans (b3.mono B2.out.size)); clear b3 B2 hr
    go_wp2_with fail
    refine (join_any _ _ _ l2 _ _ _ l3 _ hr2 hr3 (by omega) (by omega)).mono ?_
    rintro e w4 ⟨oa, oc, rfl, ho, b4⟩
    replace hr2 := hr2.below b4
    replace hr3 := hr3.below b4
    replace hs := hs.below b4
    replace hf := hf.below b4
    replace hs' := hs'.below b4
    replace hf' := hf'.below b4
    have B4 := Lib.hid (B3.out.trans (b4.mono B3.out.size)); clear b4 B3
    go_wp2_with fail
    refine (rjoin_any _ _ _ l2 _ _ _ l3 _ hr2 hr3 (by omega) (by omega)).mono ?_
    rintro e w5 ⟨oa', oc', rfl, ho', b5⟩
    replace hs := hs.below b5
    replace hf := hf.below b5
    replace hs' := hs'.below b5
    replace hf' := hf'.below b5
    have hO := (ho.below b5).rd
    have hO' := ho'.rd
    have B5 := Lib.hid (B4.out.trans (b5.mono B4.out.size)); clear b5 B4 hr2 hr3 ho ho'
    have k1 := conv_bytes hs
    have k2 := conv_bytes hs'
    have k3 := conv_bytes hf
    have k4 := conv_bytes hf'
    clear hs hs' hf hf'
    go_wp2_with fail
    refine (sameBytes_any _ _ _ _ _ _ _ _ _ hO hO').mono ?_
    rintro e w6 ⟨b, rfl, hb, q, rfl⟩
    have hb := hb.2 rfl
    subst hb
    have B6 := Lib.hid (below_drewN B5.out q); clear B5
    go_wp2_with fail
    go_ret
    exact ⟨rfl, B6.out⟩
  · have hbig : 24576 < n ∨ n ≤ 24576 ∧ 20000 < n2 ∨ n ≤ 24576 ∧ n2 ≤ 20000 ∧ 20000 < n3 := by omega
    rcases hbig with h | ⟨h1, h2⟩ | ⟨h1, h2, h3⟩
    · have t1 : decide ((24576 : Int) < (n : Int)) = true := by simp; omega
      go_wp2_with fail
      go_ret
      exact ⟨rfl, B1.out⟩
    · have t1 : decide ((24576 : Int) < (n : Int)) = false := by simp; omega
      have t2 : decide ((20000 : Int) < (n2 : Int)) = true := by simp; omega
      go_wp2_with fail
      go_ret
      exact ⟨rfl, B1.out⟩
    · have t1 : decide ((24576 : Int) < (n : Int)) = false := by simp; omega
      have t2 : decide ((20000 : Int) < (n2 : Int)) = false := by simp; omega
      have t3 : decide ((20000 : Int) < (n3 : Int)) = true := by simp; omega
      go_wp2_with fail
      go_ret
      exact ⟨rfl, B1.out⟩
end Go.Proofs.Ytpjiakgfegnmcaa
