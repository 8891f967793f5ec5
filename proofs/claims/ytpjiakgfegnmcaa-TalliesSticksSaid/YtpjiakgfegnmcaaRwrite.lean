/- The reference's stick: Write. -/
import Derived.Test.YtpjiakgfegnmcaaRadd
namespace Go.Proofs.Ytpjiakgfegnmcaa
open Go.RowKit

section
variable {w : World} {p : Nat} {G : Nat → Prop} {v0 v1 v2 v3 : Value} {SD SP FD FP : List UInt8}

set_option maxHeartbeats 1000000 in
theorem rwrite_big (a : Option Addr) (n c : Nat) (h1 : ¬ n ≤ 8192) (hm : n ≤ 9223372036854775807) :
    Calls Try.prog 22 #[.pointer (some ⟨p, 0, none⟩), .slice a n c] w fun e w' => e = .returned (.int .i64 2) ∧ w = w' := by
  have HN := Lib.hid (rnotch_big a n c w (by omega) hm)
  go_enter Try.func22, Try.ntmps22
  go_wp2_with fail
  refine HN.out.mono ?_
  rintro e w1 ⟨rfl, rfl⟩
  go_wp2_with fail
  go_ret
  exact ⟨rfl, rfl⟩

set_option maxHeartbeats 1000000 in
theorem rwrite_no1 (h : RStk w p G v0 v1 v2 v3 SD SP FD FP) (a : Option Addr) (n c : Nat) (l : List UInt8) (hr : RdB w a n c l) (hs : SD.length + SP.length ≤ 16777216) (hf : FD.length + FP.length ≤ 16777216)
    (h1 : n ≤ 8192) (hc : ¬ SD.length + SP.length + n + 2 ≤ 16777216) :
    Calls Try.prog 22 #[.pointer (some ⟨p, 0, none⟩), .slice a n c] w fun e w' => e = .returned (.int .i64 2) ∧ Below w.heap.size w w' := by
  have hm := hr.maxn
  have HN := Lib.hid (rnotch_any a n c l w hr h1)
  have hll := hr.len
  have hl1 : (stockOf l).length = n + 2 := by rw [stockOf_len, hll]
  have hl2 := foilOf_len l
  have hs1 : SD.length ≤ 70368744177664 ∧ SP.length ≤ 70368744177664 ∧ FD.length ≤ 70368744177664 ∧ FP.length ≤ 70368744177664 := by omega
  have HS1 := Lib.hid hs1; clear hs1
  obtain ⟨a0, k0, rfl, _⟩ := h.s0.rd
  obtain ⟨a1, k1, rfl, _⟩ := h.s1.rd
  obtain ⟨a2, k2, rfl, _⟩ := h.s2.rd
  obtain ⟨a3, k3, rfl, _⟩ := h.s3.rd
  generalize hX : stockOf l = X at *
  generalize hY : foilOf l = Y at *
  have HX := Lib.hid hX; clear hX
  have HY := Lib.hid hY; clear hY
  have HL1 := Lib.hid hl1; clear hl1
  have HL2 := Lib.hid hl2; clear hl2 hll
  have H := Lib.hid h; clear h hr
  have q1 : decide ((16777216 : Int) < (SD.length : Int) + (SP.length : Int) + (X.length : Int)) = true := by rw [HL1.out]; simp; omega
  have N8 := Lib.hid h1
  clear hs hf h1 hc
  go_enter Try.func22, Try.ntmps22
  go_wp2_with fail
  refine HN.out.mono ?_
  rintro e w1 ⟨xa, xc, ya, yc, rfl, hx, hy, hb1⟩
  have h1 := H.out.below hb1
  obtain ⟨c0, c1, c2, c3, f0, f1, f2, f3⟩ := h1.cells
  obtain ⟨_, _, e0, r0⟩ := h1.s0.rd
  cases e0
  obtain ⟨_, _, e1, r1⟩ := h1.s1.rd
  cases e1
  have H1 := Lib.hid h1; clear h1
  have HB1 := Lib.hid hb1; clear hb1
  go_wp2_with fail
  refine (all_any _ _ _ SD _ _ _ SP _ r0 r1 HS1.out.1 HS1.out.2.1).mono ?_
  rintro e w2 ⟨sa, sc, rfl, _, hb2⟩
  have h2 := H1.out.below hb2
  replace hx := hx.below hb2
  replace hy := hy.below hb2
  have hb12 := HB1.out.trans (hb2.mono HB1.out.size)
  have HB2 := Lib.hid hb12; clear hb12 hb2
  clear c0 c1 c2 c3 f0 f1 f2 f3 r0 r1
  obtain ⟨c0, c1, c2, c3, f0, f1, f2, f3⟩ := h2.cells
  obtain ⟨_, _, e2, r2⟩ := h2.s2.rd
  cases e2
  obtain ⟨_, _, e3, r3⟩ := h2.s3.rd
  cases e3
  have H2 := Lib.hid h2; clear h2
  have hsn : SD.length + SP.length ≤ 9223372036854775807 - 16777216 := by have := HS1.out; omega
  have hsx : X.length ≤ 16777216 := by rw [HL1.out]; have := N8.out; omega
  go_wp2_with fail
  go_ret
  exact ⟨rfl, HB2.out⟩

set_option maxHeartbeats 1000000 in
theorem rwrite_no2 (h : RStk w p G v0 v1 v2 v3 SD SP FD FP) (a : Option Addr) (n c : Nat) (l : List UInt8) (hr : RdB w a n c l) (hs : SD.length + SP.length ≤ 16777216) (hf : FD.length + FP.length ≤ 16777216)
    (h1 : n ≤ 8192) (h2 : SD.length + SP.length + n + 2 ≤ 16777216) (hc : ¬ FD.length + FP.length + 4 ≤ 16777216) :
    Calls Try.prog 22 #[.pointer (some ⟨p, 0, none⟩), .slice a n c] w fun e w' => e = .returned (.int .i64 2) ∧ Below w.heap.size w w' := by
  have hm := hr.maxn
  have HN := Lib.hid (rnotch_any a n c l w hr h1)
  have hll := hr.len
  have hl1 : (stockOf l).length = n + 2 := by rw [stockOf_len, hll]
  have hl2 := foilOf_len l
  have hs1 : SD.length ≤ 70368744177664 ∧ SP.length ≤ 70368744177664 ∧ FD.length ≤ 70368744177664 ∧ FP.length ≤ 70368744177664 := by omega
  have HS1 := Lib.hid hs1; clear hs1
  obtain ⟨a0, k0, rfl, _⟩ := h.s0.rd
  obtain ⟨a1, k1, rfl, _⟩ := h.s1.rd
  obtain ⟨a2, k2, rfl, _⟩ := h.s2.rd
  obtain ⟨a3, k3, rfl, _⟩ := h.s3.rd
  generalize hX : stockOf l = X at *
  generalize hY : foilOf l = Y at *
  have HX := Lib.hid hX; clear hX
  have HY := Lib.hid hY; clear hY
  have HL1 := Lib.hid hl1; clear hl1
  have HL2 := Lib.hid hl2; clear hl2 hll
  have H := Lib.hid h; clear h hr
  have q1 : decide ((16777216 : Int) < (SD.length : Int) + (SP.length : Int) + (X.length : Int)) = false := by rw [HL1.out]; simp; omega
  have N8 := Lib.hid h1
  have q2 : decide ((16777216 : Int) < (FD.length : Int) + (FP.length : Int) + (Y.length : Int)) = true := by rw [HL2.out]; simp; omega
  clear hs hf h1 h2 hc
  go_enter Try.func22, Try.ntmps22
  go_wp2_with fail
  refine HN.out.mono ?_
  rintro e w1 ⟨xa, xc, ya, yc, rfl, hx, hy, hb1⟩
  have h1 := H.out.below hb1
  obtain ⟨c0, c1, c2, c3, f0, f1, f2, f3⟩ := h1.cells
  obtain ⟨_, _, e0, r0⟩ := h1.s0.rd
  cases e0
  obtain ⟨_, _, e1, r1⟩ := h1.s1.rd
  cases e1
  have H1 := Lib.hid h1; clear h1
  have HB1 := Lib.hid hb1; clear hb1
  go_wp2_with fail
  refine (all_any _ _ _ SD _ _ _ SP _ r0 r1 HS1.out.1 HS1.out.2.1).mono ?_
  rintro e w2 ⟨sa, sc, rfl, _, hb2⟩
  have h2 := H1.out.below hb2
  replace hx := hx.below hb2
  replace hy := hy.below hb2
  have hb12 := HB1.out.trans (hb2.mono HB1.out.size)
  have HB2 := Lib.hid hb12; clear hb12 hb2
  clear c0 c1 c2 c3 f0 f1 f2 f3 r0 r1
  obtain ⟨c0, c1, c2, c3, f0, f1, f2, f3⟩ := h2.cells
  obtain ⟨_, _, e2, r2⟩ := h2.s2.rd
  cases e2
  obtain ⟨_, _, e3, r3⟩ := h2.s3.rd
  cases e3
  have H2 := Lib.hid h2; clear h2
  have hsn : SD.length + SP.length ≤ 9223372036854775807 - 16777216 := by have := HS1.out; omega
  have hsx : X.length ≤ 16777216 := by rw [HL1.out]; have := N8.out; omega
  go_wp2_with fail
  refine (all_any _ _ _ FD _ _ _ FP _ r2 r3 HS1.out.2.2.1 HS1.out.2.2.2).mono ?_
  rintro e w3 ⟨fa, fc, rfl, _, hb3⟩
  have h3 := H2.out.below hb3
  replace hx := hx.below hb3
  replace hy := hy.below hb3
  have hb13 := HB2.out.trans (hb3.mono HB2.out.size)
  have HB3 := Lib.hid hb13; clear hb13 hb3
  have H3 := Lib.hid h3; clear h3
  have hfn : FD.length + FP.length ≤ 9223372036854775807 - 16777216 := by have := HS1.out; omega
  have hfx : Y.length ≤ 16777216 := by rw [HL2.out]; omega
  go_wp2_with fail
  go_ret
  exact ⟨rfl, HB3.out⟩

set_option maxHeartbeats 1000000 in
theorem rwrite_yes (h : RStk w p G v0 v1 v2 v3 SD SP FD FP) (a : Option Addr) (n c : Nat) (l : List UInt8) (hr : RdB w a n c l) (hs : SD.length + SP.length ≤ 16777216) (hf : FD.length + FP.length ≤ 16777216)
    (h1 : n ≤ 8192) (h2 : SD.length + SP.length + n + 2 ≤ 16777216) (hc : FD.length + FP.length + 4 ≤ 16777216) :
    Calls Try.prog 22 #[.pointer (some ⟨p, 0, none⟩), .slice a n c] w fun e w' => e = .returned (.int .i64 0) ∧ ∃ G' u1 u3, RStk w' p G' v0 u1 v2 u3 SD (SP ++ stockOf l) FD (FP ++ foilOf l) ∧ Same (fun k => k = p) w w' ∧ (∀ k, G' k → G k ∨ w.heap.size ≤ k) := by
  have hm := hr.maxn
  have HN := Lib.hid (rnotch_any a n c l w hr h1)
  have hll := hr.len
  have hl1 : (stockOf l).length = n + 2 := by rw [stockOf_len, hll]
  have hl2 := foilOf_len l
  have hs1 : SD.length ≤ 70368744177664 ∧ SP.length ≤ 70368744177664 ∧ FD.length ≤ 70368744177664 ∧ FP.length ≤ 70368744177664 := by omega
  have HS1 := Lib.hid hs1; clear hs1
  obtain ⟨a0, k0, rfl, _⟩ := h.s0.rd
  obtain ⟨a1, k1, rfl, _⟩ := h.s1.rd
  obtain ⟨a2, k2, rfl, _⟩ := h.s2.rd
  obtain ⟨a3, k3, rfl, _⟩ := h.s3.rd
  generalize hX : stockOf l = X at *
  generalize hY : foilOf l = Y at *
  have HX := Lib.hid hX; clear hX
  have HY := Lib.hid hY; clear hY
  have HL1 := Lib.hid hl1; clear hl1
  have HL2 := Lib.hid hl2; clear hl2 hll
  have H := Lib.hid h; clear h hr
  have q1 : decide ((16777216 : Int) < (SD.length : Int) + (SP.length : Int) + (X.length : Int)) = false := by rw [HL1.out]; simp; omega
  have N8 := Lib.hid h1
  have q2 : decide ((16777216 : Int) < (FD.length : Int) + (FP.length : Int) + (Y.length : Int)) = false := by rw [HL2.out]; simp; omega
  have Q3 := Lib.hid h2
  have Q4 := Lib.hid hc
  clear hs hf h1 h2 hc
  go_enter Try.func22, Try.ntmps22
  go_wp2_with fail
  refine HN.out.mono ?_
  rintro e w1 ⟨xa, xc, ya, yc, rfl, hx, hy, hb1⟩
  have h1 := H.out.below hb1
  obtain ⟨c0, c1, c2, c3, f0, f1, f2, f3⟩ := h1.cells
  obtain ⟨_, _, e0, r0⟩ := h1.s0.rd
  cases e0
  obtain ⟨_, _, e1, r1⟩ := h1.s1.rd
  cases e1
  have H1 := Lib.hid h1; clear h1
  have HB1 := Lib.hid hb1; clear hb1
  go_wp2_with fail
  refine (all_any _ _ _ SD _ _ _ SP _ r0 r1 HS1.out.1 HS1.out.2.1).mono ?_
  rintro e w2 ⟨sa, sc, rfl, _, hb2⟩
  have h2 := H1.out.below hb2
  replace hx := hx.below hb2
  replace hy := hy.below hb2
  have hb12 := HB1.out.trans (hb2.mono HB1.out.size)
  have HB2 := Lib.hid hb12; clear hb12 hb2
  clear c0 c1 c2 c3 f0 f1 f2 f3 r0 r1
  obtain ⟨c0, c1, c2, c3, f0, f1, f2, f3⟩ := h2.cells
  obtain ⟨_, _, e2, r2⟩ := h2.s2.rd
  cases e2
  obtain ⟨_, _, e3, r3⟩ := h2.s3.rd
  cases e3
  have H2 := Lib.hid h2; clear h2
  have hsn : SD.length + SP.length ≤ 9223372036854775807 - 16777216 := by have := HS1.out; omega
  have hsx : X.length ≤ 16777216 := by rw [HL1.out]; have := N8.out; omega
  go_wp2_with fail
  refine (all_any _ _ _ FD _ _ _ FP _ r2 r3 HS1.out.2.2.1 HS1.out.2.2.2).mono ?_
  rintro e w3 ⟨fa, fc, rfl, _, hb3⟩
  have h3 := H2.out.below hb3
  replace hx := hx.below hb3
  replace hy := hy.below hb3
  have hb13 := HB2.out.trans (hb3.mono HB2.out.size)
  have HB3 := Lib.hid hb13; clear hb13 hb3
  have H3 := Lib.hid h3; clear h3
  have hfn : FD.length + FP.length ≤ 9223372036854775807 - 16777216 := by have := HS1.out; omega
  have hfx : Y.length ≤ 16777216 := by rw [HL2.out]; omega
  go_wp2_with fail
  refine (radd_any H3.out _ _ _ X _ _ _ Y hx hy (by have := Q3.out; rw [HL1.out]; omega) (by have := Q4.out; rw [HL2.out]; omega)).mono ?_
  rintro e w4 ⟨rfl, G', u1, u3, h4, s4, g4⟩
  have HS4 := Lib.hid ((Same.of_below (S := fun k => k = p) HB3.out).trans s4)
  have HG4 := Lib.hid g4; clear g4 s4
  have H4 := Lib.hid h4; clear h4
  go_wp2_with fail
  go_ret

  refine ⟨rfl, G', u1, u3, H4.out, HS4.out, fun k hk => ?_⟩
  rcases HG4.out k hk with h | h
  · exact .inl h
  · have := HB3.out.size; exact .inr (by omega)
end
end Go.Proofs.Ytpjiakgfegnmcaa
