/- The reference's right, kind by kind. -/
import Derived.Test.YtpjiakgfegnmcaaHis6
import Derived.Test.YtpjiakgfegnmcaaRh2
import Derived.Test.YtpjiakgfegnmcaaRh3
namespace Go.Proofs.Ytpjiakgfegnmcaa
open Go.RowKit

/-- What right says of the content of a kind. -/
def rightB (f : FrV) (k : Int) (n : NoteV) : Bool :=
  if k = 1 then spansB n.hardLo n.hardHi 1 255 else if k = 2 then inB n.turns 1 10000
  else if k = 3 then inB n.stone 0 1 && (inB n.a 0 (f.rings * f.sectors - 1) && (inB n.b (-1) (f.rings * f.sectors - 1) && (decide (n.a ≠ n.b) && spansB n.diffLo n.diffHi (-1000000000) 1000000000)))
  else if k = 4 then inB n.stone 0 1 && (inB n.ring 0 (f.rings - 1) && strokesB (f.sectors - f.wide) n.strokes)
  else false
section
attribute [local go_sem] noteA_0 noteA_1 noteA_2 noteA_3 noteA_4 noteA_5 noteA_6 noteA_7 noteA_8 noteA_9 noteA_10 noteA_11 noteA_12 noteA_13 noteA_14 noteA_15 noteA_16 noteA_17 noteA_18
variable (f : FrV) (n : NoteV) (sa : Option Addr) (sc : Nat) (w : World)
set_option maxHeartbeats 2000000 in
set_option maxRecDepth 100000 in
theorem right_1 (hv : f.valid = true) : Calls Try.prog 115 #[f.val, .int .i64 1, .agg (noteA n sa sc)] w fun e w' => e = .returned (.bool (rightB f 1 n)) ∧ Below w.heap.size w w' := by
  have hvf : 1 ≤ f.rings ∧ f.rings ≤ 24 ∧ 2 ≤ f.sectors ∧ f.sectors ≤ 96 ∧ 1 ≤ f.wide ∧ f.wide ≤ f.sectors := by
    simp only [FrV.valid, Bool.and_eq_true, inB_true] at hv
    omega
  have hm1 : 0 ≤ f.rings * f.sectors := Int.mul_nonneg (by omega) (by omega)
  have hm2 : f.rings * f.sectors ≤ 24 * 96 := Int.mul_le_mul hvf.2.1 hvf.2.2.2.1 (by omega) (by omega)
  have VF := Lib.hid hvf; clear hvf hv
  have hb : Below w.heap.size w ((w.alloc (.cells #[.int .i64 f.rings, .int .i64 f.sectors, .int .i64 f.wide] 61)).alloc (.cells (noteA n sa sc) 43)) := ((Below.refl _ _).alloc (Nat.le_refl _) _).alloc (by simp) _
  have HB := Lib.hid hb; clear hb
  unfold FrV.val
  go_enter Try.func115, Try.ntmps115
  go_wp2_with fail
  refine (spanned_any n.hardLo n.hardHi 1 255 _).mono ?_
  rintro e w3 ⟨rfl, b3⟩
  have B3 := Lib.hid (HB.out.trans (b3.mono HB.out.size))
  go_wp2_with fail
  go_ret
  exact ⟨rfl, B3.out⟩
set_option maxHeartbeats 2000000 in
set_option maxRecDepth 100000 in
theorem right_2 (hv : f.valid = true) : Calls Try.prog 115 #[f.val, .int .i64 2, .agg (noteA n sa sc)] w fun e w' => e = .returned (.bool (rightB f 2 n)) ∧ Below w.heap.size w w' := by
  have hvf : 1 ≤ f.rings ∧ f.rings ≤ 24 ∧ 2 ≤ f.sectors ∧ f.sectors ≤ 96 ∧ 1 ≤ f.wide ∧ f.wide ≤ f.sectors := by
    simp only [FrV.valid, Bool.and_eq_true, inB_true] at hv
    omega
  have hm1 : 0 ≤ f.rings * f.sectors := Int.mul_nonneg (by omega) (by omega)
  have hm2 : f.rings * f.sectors ≤ 24 * 96 := Int.mul_le_mul hvf.2.1 hvf.2.2.2.1 (by omega) (by omega)
  have VF := Lib.hid hvf; clear hvf hv
  have hb : Below w.heap.size w ((w.alloc (.cells #[.int .i64 f.rings, .int .i64 f.sectors, .int .i64 f.wide] 61)).alloc (.cells (noteA n sa sc) 43)) := ((Below.refl _ _).alloc (Nat.le_refl _) _).alloc (by simp) _
  have HB := Lib.hid hb; clear hb
  unfold FrV.val
  go_enter Try.func115, Try.ntmps115
  go_wp2_with fail
  refine (rin_any n.turns 1 10000 _).mono ?_
  rintro e w3 ⟨rfl, rfl⟩
  go_wp2_with fail
  go_ret
  exact ⟨rfl, HB.out⟩
set_option maxHeartbeats 2000000 in
set_option maxRecDepth 100000 in
theorem right_4 (hv : f.valid = true) (hs : RdI w sa n.strokes.length sc n.strokes) : Calls Try.prog 115 #[f.val, .int .i64 4, .agg (noteA n sa sc)] w fun e w' => e = .returned (.bool (rightB f 4 n)) ∧ Below w.heap.size w w' := by
  have hvf : 1 ≤ f.rings ∧ f.rings ≤ 24 ∧ 2 ≤ f.sectors ∧ f.sectors ≤ 96 ∧ 1 ≤ f.wide ∧ f.wide ≤ f.sectors := by
    simp only [FrV.valid, Bool.and_eq_true, inB_true] at hv
    omega
  have hm1 : 0 ≤ f.rings * f.sectors := Int.mul_nonneg (by omega) (by omega)
  have hm2 : f.rings * f.sectors ≤ 24 * 96 := Int.mul_le_mul hvf.2.1 hvf.2.2.2.1 (by omega) (by omega)
  have VF := Lib.hid hvf; clear hvf hv
  have v1 : f.rings ≤ 24 := VF.out.2.1
  have v0 : 1 ≤ f.rings := VF.out.1
  have hb : Below w.heap.size w ((w.alloc (.cells #[.int .i64 f.rings, .int .i64 f.sectors, .int .i64 f.wide] 61)).alloc (.cells (noteA n sa sc) 43)) := ((Below.refl _ _).alloc (Nat.le_refl _) _).alloc (by simp) _
  have HB := Lib.hid hb; clear hb
  unfold FrV.val
  go_enter Try.func115, Try.ntmps115
  go_wp2_with fail
  refine (rin_any n.stone 0 1 _).mono ?_
  rintro e w3 ⟨rfl, rfl⟩
  cases h1 : inB n.stone 0 1
  · have hR : rightB f 4 n = false := by simp only [rightB]; simp [h1]
    have HRX := Lib.hid hR; clear hR
    go_wp2_with fail
    go_ret
    rw [HRX.out]
    exact ⟨rfl, HB.out⟩
  · have Hh1 := Lib.hid h1
    go_wp2_with fail
    refine (rin_any n.ring 0 (f.rings - 1) _).mono ?_
    rintro e w3 ⟨rfl, rfl⟩
    cases h2 : inB n.ring 0 (f.rings - 1)
    · have hR : rightB f 4 n = false := by simp only [rightB]; simp [h1, h2]
      have HRX := Lib.hid hR; clear hR
      go_wp2_with fail
      go_ret
      rw [HRX.out]
      exact ⟨rfl, HB.out⟩
    · have Hh2 := Lib.hid h2
      go_wp2_with fail
      refine (rstrokes_any f.rings f.sectors f.wide sa _ sc n.strokes _ (hs.below HB.out) ⟨VF.out.2.2.1, VF.out.2.2.2.1⟩ ⟨VF.out.2.2.2.2.1, VF.out.2.2.2.2.2⟩).mono ?_
      rintro e w4 ⟨rfl, b3⟩
      have B3 := Lib.hid (HB.out.trans (b3.mono HB.out.size))
      have hR : rightB f 4 n = strokesB (f.sectors - f.wide) n.strokes := by simp only [rightB]; simp [h1, h2]
      have HRX := Lib.hid hR; clear hR
      go_wp2_with fail
      go_ret
      rw [HRX.out]
      exact ⟨rfl, B3.out⟩
set_option maxHeartbeats 2000000 in
set_option maxRecDepth 100000 in
theorem right_3 (hv : f.valid = true) : Calls Try.prog 115 #[f.val, .int .i64 3, .agg (noteA n sa sc)] w fun e w' => e = .returned (.bool (rightB f 3 n)) ∧ Below w.heap.size w w' := by
  have hvf : 1 ≤ f.rings ∧ f.rings ≤ 24 ∧ 2 ≤ f.sectors ∧ f.sectors ≤ 96 ∧ 1 ≤ f.wide ∧ f.wide ≤ f.sectors := by
    simp only [FrV.valid, Bool.and_eq_true, inB_true] at hv
    omega
  have hm1 : 0 ≤ f.rings * f.sectors := Int.mul_nonneg (by omega) (by omega)
  have hm2 : f.rings * f.sectors ≤ 24 * 96 := Int.mul_le_mul hvf.2.1 hvf.2.2.2.1 (by omega) (by omega)
  have VF := Lib.hid hvf; clear hvf hv
  have hb : Below w.heap.size w ((w.alloc (.cells #[.int .i64 f.rings, .int .i64 f.sectors, .int .i64 f.wide] 61)).alloc (.cells (noteA n sa sc) 43)) := ((Below.refl _ _).alloc (Nat.le_refl _) _).alloc (by simp) _
  have HB := Lib.hid hb; clear hb
  unfold FrV.val
  go_enter Try.func115, Try.ntmps115
  go_wp2_with fail
  refine (rin_any n.stone 0 1 _).mono ?_
  rintro e w3 ⟨rfl, rfl⟩
  cases h1 : inB n.stone 0 1
  · have hR : rightB f 3 n = false := by simp only [rightB]; simp [h1]
    have HRX := Lib.hid hR; clear hR
    go_wp2_with fail
    go_ret
    rw [HRX.out]
    exact ⟨rfl, HB.out⟩
  · have Hh1 := Lib.hid h1
    go_wp2_with fail
    refine (rin_any n.a 0 (f.rings * f.sectors - 1) _).mono ?_
    rintro e w3 ⟨rfl, rfl⟩
    cases h2 : inB n.a 0 (f.rings * f.sectors - 1)
    · have hR : rightB f 3 n = false := by simp only [rightB]; simp [h1, h2]
      have HRX := Lib.hid hR; clear hR
      go_wp2_with fail
      go_ret
      rw [HRX.out]
      exact ⟨rfl, HB.out⟩
    · have Hh2 := Lib.hid h2
      go_wp2_with fail
      refine (rin_any n.b (-1) (f.rings * f.sectors - 1) _).mono ?_
      rintro e w3 ⟨rfl, rfl⟩
      cases h3 : inB n.b (-1) (f.rings * f.sectors - 1)
      · have hR : rightB f 3 n = false := by simp only [rightB]; simp [h1, h2, h3]
        have HRX := Lib.hid hR; clear hR
        go_wp2_with fail
        go_ret
        rw [HRX.out]
        exact ⟨rfl, HB.out⟩
      · have Hh3 := Lib.hid h3
        by_cases hne : n.a = n.b
        · have q2 : (n.a != n.b) = false := by simp [hne]
          have q2' : decide (n.a = n.b) = true := by simp [hne]
          have HNE := Lib.hid hne; clear hne
          have hR : rightB f 3 n = false := by simp only [rightB]; simp [h1, h2, h3, HNE.out]
          have HRX := Lib.hid hR; clear hR
          go_wp2_with fail
          go_ret
          rw [HRX.out]
          exact ⟨rfl, HB.out⟩
        · have q2 : (n.a != n.b) = true := by simp [hne]
          have q2' : decide (n.a = n.b) = false := by simp [hne]
          have HNE := Lib.hid hne; clear hne
          go_wp2_with fail
          refine (spanned_any n.diffLo n.diffHi (-1000000000) 1000000000 _).mono ?_
          rintro e w4 ⟨rfl, b3⟩
          have B3 := Lib.hid (HB.out.trans (b3.mono HB.out.size))
          have hR : rightB f 3 n = spansB n.diffLo n.diffHi (-1000000000) 1000000000 := by simp only [rightB]; simp [h1, h2, h3, HNE.out]
          have HRX := Lib.hid hR; clear hR
          go_wp2_with fail
          go_ret
          rw [HRX.out]
          exact ⟨rfl, B3.out⟩
set_option maxHeartbeats 2000000 in
set_option maxRecDepth 100000 in
theorem right_o (k : Int) (hk : ¬ (1 ≤ k ∧ k ≤ 4)) (hv : f.valid = true) : Calls Try.prog 115 #[f.val, .int .i64 k, .agg (noteA n sa sc)] w fun e w' => e = .returned (.bool (rightB f k n)) ∧ Below w.heap.size w w' := by
  have hvf : 1 ≤ f.rings ∧ f.rings ≤ 24 ∧ 2 ≤ f.sectors ∧ f.sectors ≤ 96 ∧ 1 ≤ f.wide ∧ f.wide ≤ f.sectors := by
    simp only [FrV.valid, Bool.and_eq_true, inB_true] at hv
    omega
  have hm1 : 0 ≤ f.rings * f.sectors := Int.mul_nonneg (by omega) (by omega)
  have hm2 : f.rings * f.sectors ≤ 24 * 96 := Int.mul_le_mul hvf.2.1 hvf.2.2.2.1 (by omega) (by omega)
  have VF := Lib.hid hvf; clear hvf hv
  have hb : Below w.heap.size w ((w.alloc (.cells #[.int .i64 f.rings, .int .i64 f.sectors, .int .i64 f.wide] 61)).alloc (.cells (noteA n sa sc) 43)) := ((Below.refl _ _).alloc (Nat.le_refl _) _).alloc (by simp) _
  have HB := Lib.hid hb; clear hb
  have q1 : (k == 1) = false := by simp; omega
  have r1 : decide (k = 1) = false := by simp; omega
  have q2 : (k == 2) = false := by simp; omega
  have r2 : decide (k = 2) = false := by simp; omega
  have q3 : (k == 3) = false := by simp; omega
  have r3 : decide (k = 3) = false := by simp; omega
  have q4 : (k == 4) = false := by simp; omega
  have r4 : decide (k = 4) = false := by simp; omega
  have hR : rightB f k n = false := by
    unfold rightB
    rw [if_neg (by omega), if_neg (by omega), if_neg (by omega), if_neg (by omega)]
  have HRX := Lib.hid hR; clear hR hk
  unfold FrV.val
  go_enter Try.func115, Try.ntmps115
  go_wp2_with fail
  go_ret
  rw [HRX.out]
  exact ⟨rfl, HB.out⟩
end
theorem right_any (f : FrV) (n : NoteV) (sa : Option Addr) (sc : Nat) (w : World) (hv : f.valid = true) (hs : RdI w sa n.strokes.length sc n.strokes) (k : Int) :
    Calls Try.prog 115 #[f.val, .int .i64 k, .agg (noteA n sa sc)] w fun e w' => e = .returned (.bool (rightB f k n)) ∧ Below w.heap.size w w' := by
  by_cases hk : 1 ≤ k ∧ k ≤ 4
  · have hk' : k = 1 ∨ k = 2 ∨ k = 3 ∨ k = 4 := by omega
    rcases hk' with rfl | rfl | rfl | rfl
    · exact right_1 f n sa sc w hv
    · exact right_2 f n sa sc w hv
    · exact right_3 f n sa sc w hv
    · exact right_4 f n sa sc w hv hs
  · exact right_o f n sa sc w k hk hv
theorem bareR_other {k : Int} (hk : ¬ (1 ≤ k ∧ k ≤ 4)) (n : NoteV) : bareR k n = bare0 n := by
  unfold bareR
  rw [if_neg (by omega), if_neg (by omega), if_neg (by omega), if_neg (by omega)]
theorem bare_any (n : NoteV) (sa : Option Addr) (sc : Nat) (w : World) (hs : RdI w sa n.strokes.length sc n.strokes) (k : Int) :
    Calls Try.prog 114 #[.int .i64 k, .agg (noteA n sa sc)] w fun e w' => ∃ ta tc, e = .returned (.agg (noteA (bareR k n) ta tc)) ∧ RdI w' ta (bareR k n).strokes.length tc (bareR k n).strokes ∧ Below w.heap.size w w' := by
  by_cases hk : 1 ≤ k ∧ k ≤ 4
  · have hk' : k = 1 ∨ k = 2 ∨ k = 3 ∨ k = 4 := by omega
    rcases hk' with rfl | rfl | rfl | rfl
    · refine (bare_1 n sa sc w).mono ?_
      rintro e w' ⟨rfl, hb⟩
      exact ⟨sa, sc, rfl, hs.below hb, hb⟩
    · refine (bare_2 n sa sc w).mono ?_
      rintro e w' ⟨rfl, hb⟩
      exact ⟨sa, sc, rfl, hs.below hb, hb⟩
    · refine (bare_3 n sa sc w).mono ?_
      rintro e w' ⟨rfl, hb⟩
      exact ⟨sa, sc, rfl, hs.below hb, hb⟩
    · refine (bare_4 n sa sc w).mono ?_
      rintro e w' ⟨rfl, hb⟩
      exact ⟨none, 0, rfl, RdA.nil w' 1, hb⟩
  · refine (bare_o n sa sc w k hk).mono ?_
    rintro e w' ⟨rfl, hb⟩
    rw [bareR_other hk]
    exact ⟨sa, sc, rfl, hs.below hb, hb⟩
end Go.Proofs.Ytpjiakgfegnmcaa
