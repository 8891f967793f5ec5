/- The examples at the head of the statements about tallies. -/
import Derived.Test.YtpdmlklnbjegpaaGreatCrash3
namespace Go.Proofs.YtpdmlklnbjegpaaGreat
open Go.RowKit

theorem RdB.lit (w : World) (l : List UInt8) (hl : l.length ≤ 1000000) : RdB (w.alloc (.cells (l.map byteV).toArray 5)) (some ⟨w.heap.size, 0, none⟩) l.length l.length l := by
  have h := World.ownsRow_lit (base := w.heap.size) (e := 5) (size := 1) w (l.map byteV).toArray l.length (Nat.le_refl _) (by unfold maxLen; omega) (by simp)
  exact RdA.of_own h

theorem conv_bytes {w : World} {a : Option Addr} {n c : Nat} {l : List UInt8} (h : RdB w a n c l) : (convert 41 9 (.slice a n c)).run Tryz.prog w = .ok (.string ⟨l.toArray⟩) w :=
  run_convert_str 41 9 5 Tryz.underlying41 Tryz.underlying5 Tryz.underlying9 h

theorem join_lit (w : World) (A B : List UInt8) (hA : A.length ≤ 1000) (hB : B.length ≤ 1000) :
    Calls Tryz.prog 22 #[.slice (some ⟨w.heap.size, 0, none⟩) A.length A.length, .slice (some ⟨w.heap.size + 1, 0, none⟩) B.length B.length] ((w.alloc (.cells (A.map byteV).toArray 5)).alloc (.cells (B.map byteV).toArray 5)) fun e w' =>
      ∃ oa oc, e = .returned (.tuple #[.slice oa (joinOf A B).length oc, .int .i64 (sOf (joinOf A B)), .int .i64 (4 * ((joinOf A B).length : Int))]) ∧ Below w.heap.size w w' := by
  have r2 := RdB.lit w A (by omega)
  have r3 := RdB.lit (w.alloc (.cells (A.map byteV).toArray 5)) B (by omega)
  rw [World.size_alloc] at r3
  have b2 := (Below.refl (w.alloc (.cells (A.map byteV).toArray 5)).heap.size (w.alloc (.cells (A.map byteV).toArray 5))).alloc (Nat.le_refl _) (.cells (B.map byteV).toArray 5)
  have b1 := (Below.refl w.heap.size w).alloc (Nat.le_refl _) (.cells (A.map byteV).toArray 5)
  have b3 := b1.trans (b2.mono (by simp))
  refine (join_any _ _ _ A _ _ _ B _ (r2.below b2) r3 (by omega) (by omega)).mono ?_
  rintro e w' ⟨oa, oc, rfl, _, hb⟩
  exact ⟨oa, oc, rfl, b3.trans (hb.mono b3.size)⟩

theorem join_ex1 (w : World) : Calls Tryz.prog 22 #[.slice (some ⟨w.heap.size, 0, none⟩) 5 5, .slice (some ⟨w.heap.size + 1, 0, none⟩) 4 4]
    ((w.alloc (.cells #[.int .u8 1, .int .u8 0, .int .u8 7, .int .u8 0, .int .u8 0] 5)).alloc (.cells #[.int .u8 1, .int .u8 0, .int .u8 8, .int .u8 0] 5)) fun e w' =>
      ∃ oa oc, e = .returned (.tuple #[.slice oa 1 oc, .int .i64 3, .int .i64 4]) ∧ Below w.heap.size w w' := by
  have h := join_lit w [1, 0, 7, 0, 0] [1, 0, 8, 0] (by decide) (by decide)
  have e : joinOf [1, 0, 7, 0, 0] [1, 0, 8, 0] = [[7]] := by decide +kernel
  rw [e] at h
  exact h
theorem join_ex2 (w : World) : Calls Tryz.prog 22 #[.slice (some ⟨w.heap.size, 0, none⟩) 3 3, .slice (some ⟨w.heap.size + 1, 0, none⟩) 4 4]
    ((w.alloc (.cells #[.int .u8 1, .int .u8 0, .int .u8 6] 5)).alloc (.cells #[.int .u8 1, .int .u8 0, .int .u8 8, .int .u8 0] 5)) fun e w' =>
      ∃ oa oc, e = .returned (.tuple #[.slice oa 0 oc, .int .i64 0, .int .i64 0]) ∧ Below w.heap.size w w' := by
  have h := join_lit w [1, 0, 6] [1, 0, 8, 0] (by decide) (by decide)
  have e : joinOf [1, 0, 6] [1, 0, 8, 0] = [] := by decide +kernel
  rw [e] at h
  exact h

/-- The stick of the example: written, and crashed. -/
theorem stick_ex (w : World) (p : Nat) (F : Nat → Prop) (h : Stk w p F [1, 0, 7] [1, 0, 8, 0] 0 0) :
    Calls Tryz.prog 25 #[.pointer (some ⟨p, 0, none⟩), .int .i64 3, .int .i64 2, .int .i64 (-1)] w fun e w' => e = .returned (.int .i64 0) ∧ ∃ F', Stk w' p F' [1, 0, 7] [1, 0] 3 2 ∧ Same F w w' ∧ (∀ k, F' k → F k ∨ w.heap.size ≤ k) := by
  have h := crash_yes w p F [1, 0, 7] [1, 0, 8, 0] 0 0 3 2 (-1) h ⟨by decide, by decide, by decide, by decide, by decide, by decide⟩
  have e1 : crashS [1, 0, 7] 0 3 (-1) = [1, 0, 7] := by decide +kernel
  have e2 : crashF [1, 0, 8, 0] 0 3 2 (-1) = [1, 0] := by decide +kernel
  rw [e1, e2] at h
  exact h

theorem tallies_ex (w : World) (p : Nat) (F : Nat → Prop) (h : Stk w p F [1, 0, 7] [1, 0] 3 2) :
    Calls Tryz.prog 26 #[.pointer (some ⟨p, 0, none⟩)] w fun e w' => (∃ oa oc, e = .returned (.slice oa 0 oc)) ∧ Below w.heap.size w w' := by
  have h := talliesOf_any w p F _ _ _ _ h
  have e1 : joinOf [1, 0, 7] [1, 0] = [] := by decide +kernel
  rw [e1] at h
  exact h.mono fun e w' ⟨oa, oc, he, _, hb⟩ => ⟨⟨oa, oc, he⟩, hb⟩

set_option maxHeartbeats 1000000 in
theorem awake_any (w : World) : Calls Tryz.prog 6 #[] w fun e w' => e = .returned (.bool true) ∧ Below w.heap.size w w' := by
  go_enter Tryz.func6, Tryz.ntmps6
  go_wp2_with fail
  have r1 : RdB (w.alloc (.cells #[.int .u8 7] 5)) (some ⟨w.heap.size, 0, none⟩) 1 1 [7] := RdB.lit w [7] (by decide)
  have b0 := (Below.refl w.heap.size w).alloc (Nat.le_refl _) (.cells #[.int .u8 7] 5)
  refine (notch_any _ _ _ [7] _ r1 (by decide)).mono ?_
  rintro e w1 ⟨sa, sc, fa, fc, rfl, hs, hf, b1⟩
  have hb1 := b0.trans (b1.mono b0.size)
  have e1 : stockOf [7] = [1, 0, 7] := by decide +kernel
  have e2 : foilOf [7] = [1, 0, 8, 0] := by decide +kernel
  rw [e1] at hs ⊢
  rw [e2] at hf ⊢
  clear r1 b0 b1 e1 e2
  have HB := Lib.hid hb1; clear hb1
  go_wp2_with fail
  refine (join_ex1 w1).mono ?_
  rintro e w2 ⟨oa, oc, rfl, b2⟩
  have hb2 := HB.out.trans (b2.mono HB.out.size)
  have hs2 := hs.below b2
  have hf2 := hf.below b2
  have HB2 := Lib.hid hb2; clear hb2 b2 hs hf
  go_wp2_with fail
  refine (join_ex2 w2).mono ?_
  rintro e w3 ⟨oa3, oc3, rfl, b3⟩
  have hb3 := HB2.out.trans (b3.mono HB2.out.size)
  have hs3 := hs2.below b3
  have hf3 := hf2.below b3
  have HB3 := Lib.hid hb3; clear hb3 b3 hs2 hf2
  go_wp2_with fail
  refine (newStick_any w3).mono ?_
  rintro e w4 ⟨rfl, hst4, b4⟩
  have hz4 : w3.heap.size < w4.heap.size := hst4.lt _ rfl
  have B4 := Lib.hid b4; clear b4
  go_wp2_with fail
  have ba := (Below.refl w4.heap.size w4).alloc (Nat.le_refl _) (.cells #[.int .u8 7] 5)
  have hst5 := hst4.same (S := fun _ => False) (Same.of_below ba) (fun _ e => e.elim)
  refine (write_yes _ _ _ _ _ _ _ _ _ _ [7] hst5 (RdB.lit w4 [7] (by decide)) (by decide) (by decide) (by decide)).mono ?_
  rintro e w5 ⟨rfl, F5, hst5', hF5, hF5'⟩
  have e1 : ([] : List UInt8) ++ stockOf [7] = [1, 0, 7] := by decide +kernel
  have e2 : ([] : List UInt8) ++ foilOf [7] = [1, 0, 8, 0] := by decide +kernel
  rw [e1, e2] at hst5'
  have b5 : Below w3.heap.size w3 w5 := hF5.below (B4.out.trans (ba.mono (by omega))) (by simp; omega) (fun k hk => by omega)
  have hG5 : ∀ k, F5 k → w3.heap.size ≤ k := fun k hk => by
    rcases hF5' k hk with h | h
    · omega
    · simp at h; omega
  have B5 := Lib.hid b5; clear b5 hst5 ba hF5 hF5' hst4
  have G5 := Lib.hid hG5; clear hG5
  go_wp2_with fail
  refine (stick_ex w5 _ F5 hst5').mono ?_
  rintro e w6 ⟨rfl, F6, hst6, hF6, hF6'⟩
  have b6 : Below w3.heap.size w3 w6 := hF6.below B5.out B5.out.size G5.out
  have hs6 := hs3.below b6
  have hf6 := hf3.below b6
  have hb6 := HB3.out.trans (b6.mono HB3.out.size)
  have HB6 := Lib.hid hb6
  clear hb6 b6 hF6 hF6' hst5' hs3 hf3
  have c1 : (convert 41 9 (.slice sa 3 sc)).run Tryz.prog w6 = .ok (.string ⟨[1, 0, 7].toArray⟩) w6 := conv_bytes hs6
  have c2 : (convert 41 9 (.slice (some ⟨w6.heap.size, 0, none⟩) 3 3)).run Tryz.prog (w6.alloc (.cells #[.int .u8 1, .int .u8 0, .int .u8 7] 5)) = .ok (.string ⟨[1, 0, 7].toArray⟩) (w6.alloc (.cells #[.int .u8 1, .int .u8 0, .int .u8 7] 5)) := conv_bytes (RdB.lit w6 [1, 0, 7] (by decide))
  have ba := (Below.refl w6.heap.size w6).alloc (Nat.le_refl _) (.cells #[.int .u8 1, .int .u8 0, .int .u8 7] 5)
  have c3 : (convert 41 9 (.slice fa 4 fc)).run Tryz.prog (w6.alloc (.cells #[.int .u8 1, .int .u8 0, .int .u8 7] 5)) = .ok (.string ⟨[1, 0, 8, 0].toArray⟩) (w6.alloc (.cells #[.int .u8 1, .int .u8 0, .int .u8 7] 5)) := conv_bytes (hf6.below ba)
  have c4 : (convert 41 9 (.slice (some ⟨w6.heap.size + 1, 0, none⟩) 4 4)).run Tryz.prog ((w6.alloc (.cells #[.int .u8 1, .int .u8 0, .int .u8 7] 5)).alloc (.cells #[.int .u8 1, .int .u8 0, .int .u8 8, .int .u8 0] 5)) = .ok (.string ⟨[1, 0, 8, 0].toArray⟩) ((w6.alloc (.cells #[.int .u8 1, .int .u8 0, .int .u8 7] 5)).alloc (.cells #[.int .u8 1, .int .u8 0, .int .u8 8, .int .u8 0] 5)) := by
    have h := RdB.lit (w6.alloc (.cells #[.int .u8 1, .int .u8 0, .int .u8 7] 5)) [1, 0, 8, 0] (by decide)
    rw [World.size_alloc] at h
    exact conv_bytes h
  have bb := ba.alloc (by simp) (.cells #[.int .u8 1, .int .u8 0, .int .u8 8, .int .u8 0] 5)
  have hst7 := hst6.same (S := fun _ => False) (Same.of_below bb) (fun _ e => e.elim)
  have HST := Lib.hid hst7
  have HBB := Lib.hid bb
  clear hst6 hst7 hs6 hf6 ba bb
  go_wp2_with fail
  refine (tallies_ex _ _ _ HST.out).mono ?_
  rintro e w7 ⟨⟨oa7, oc7, rfl⟩, b7⟩
  have hb7 := HB6.out.trans ((HBB.out.trans (b7.mono HBB.out.size)).mono HB6.out.size)
  have HB7 := Lib.hid hb7
  clear hb7 b7
  go_wp2_with fail
  go_ret
  exact ⟨rfl, HB7.out⟩
end Go.Proofs.YtpdmlklnbjegpaaGreat
