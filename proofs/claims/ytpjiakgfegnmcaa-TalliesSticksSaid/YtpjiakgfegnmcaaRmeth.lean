/- The reference's stick: Sizes, Tallies, Sync, add. -/
import Derived.Test.YtpjiakgfegnmcaaRstick
import Derived.Test.YtpjiakgfegnmcaaHwalk
namespace Go.Proofs.Ytpjiakgfegnmcaa
open Go.RowKit

section
variable {w : World} {p : Nat} {G : Nat → Prop} {v0 v1 v2 v3 : Value} {SD SP FD FP : List UInt8}

theorem rsizes_any (h : RStk w p G v0 v1 v2 v3 SD SP FD FP) :
    Calls Try.prog 24 #[.pointer (some ⟨p, 0, none⟩)] w fun e w' => e = .returned (.tuple #[.int .i64 SD.length, .int .i64 SP.length, .int .i64 FD.length, .int .i64 FP.length]) ∧ ∃ q, w' = w.drewN q := by
  obtain ⟨c0, c1, c2, c3, _⟩ := h.cells
  obtain ⟨a0, k0, rfl, _⟩ := h.s0.rd
  obtain ⟨a1, k1, rfl, _⟩ := h.s1.rd
  obtain ⟨a2, k2, rfl, _⟩ := h.s2.rd
  obtain ⟨a3, k3, rfl, _⟩ := h.s3.rd
  clear h
  go_enter Try.func24, Try.ntmps24
  go_wp2_with fail
  go_quiet (fail)
  go_wp2_with fail
  (try simp only [Exit.inBlock, Exit.then])
  refine bodyPost_ret (results_tmp4 rfl _ _ _) rfl ?_
  exact ⟨rfl, _, rfl⟩

theorem rtallies_any (h : RStk w p G v0 v1 v2 v3 SD SP FD FP) (hs : SD.length + SP.length ≤ 16777216) (hf : FD.length + FP.length ≤ 16777216) :
    Calls Try.prog 26 #[.pointer (some ⟨p, 0, none⟩)] w fun e w' => ∃ oa oc, e = .returned (.slice oa (joinOf (SD ++ SP) (FD ++ FP)).length oc) ∧ OwnBB w' w.heap.size oa (joinOf (SD ++ SP) (FD ++ FP)).length oc (joinOf (SD ++ SP) (FD ++ FP)) ∧ Below w.heap.size w w' := by
  obtain ⟨c0, c1, c2, c3, _⟩ := h.cells
  obtain ⟨a0, k0, rfl, r0⟩ := h.s0.rd
  obtain ⟨a1, k1, rfl, r1⟩ := h.s1.rd
  obtain ⟨a2, k2, rfl, r2⟩ := h.s2.rd
  obtain ⟨a3, k3, rfl, r3⟩ := h.s3.rd
  have hlt := h.plt
  clear h
  have bd : Below w.heap.size w w.drew := (Below.refl _ _).drew
  have keep0 : w.drew.cell? ⟨p, 0, none⟩ = some (.slice a0 SD.length k0) ∧ w.drew.cell? ⟨p, 1, none⟩ = some (.slice a1 SP.length k1) ∧ w.drew.cell? ⟨p, 2, none⟩ = some (.slice a2 FD.length k2) ∧ w.drew.cell? ⟨p, 3, none⟩ = some (.slice a3 FP.length k3) := ⟨c0, c1, c2, c3⟩
  have q0 := r0.below bd
  have q1 := r1.below bd
  have hs1 : SD.length ≤ 70368744177664 ∧ SP.length ≤ 70368744177664 ∧ FD.length ≤ 70368744177664 ∧ FP.length ≤ 70368744177664 := by omega
  have HS1 := Lib.hid hs1; clear hs1
  have HS := Lib.hid hs; clear hs
  have HF := Lib.hid hf; clear hf
  go_enter Try.func26, Try.ntmps26
  go_wp2_with fail
  go_region_held3 (fun w' => w'.cell? ⟨p, 0, none⟩ = some (.slice a0 SD.length k0) ∧ w'.cell? ⟨p, 1, none⟩ = some (.slice a1 SP.length k1) ∧ w'.cell? ⟨p, 2, none⟩ = some (.slice a2 FD.length k2) ∧ w'.cell? ⟨p, 3, none⟩ = some (.slice a3 FP.length k3))
    (first
      | with_reducible exact keep0
      | with_reducible exact keep1
      | with_reducible exact keep2
      | with_reducible exact keep3)
    (first
      | (go_at_call 44; refine (all_any a2 _ k2 FD a3 _ k3 FP _ Q2.out Q3.out HS1.out.2.2.1 HS1.out.2.2.2).mono ?_; rintro e w2 ⟨fa, fc, rfl, hs2, hb2'⟩; dsimp only; have hs1' := RdB.of_own (own_below HS2.out hb2'); have hs2' := RdB.of_own hs2; have hb2 := hbw.trans (hb2'.mono hbw.size); have keep2 := And.intro ((hb2.cell (p := ⟨p, 0, none⟩) hlt).trans c0) (And.intro ((hb2.cell (p := ⟨p, 1, none⟩) hlt).trans c1) (And.intro ((hb2.cell (p := ⟨p, 2, none⟩) hlt).trans c2) ((hb2.cell (p := ⟨p, 3, none⟩) hlt).trans c3))))
      | (go_at_call 44; refine (all_any a0 _ k0 SD a1 _ k1 SP _ q0 q1 HS1.out.1 HS1.out.2.1).mono ?_; rintro e w1 ⟨sa, sc, rfl, hs1, hb⟩; dsimp only; have hbw := bd.trans hb; have Q2 := Lib.hid (r2.below hbw); have Q3 := Lib.hid (r3.below hbw); have HS2 := Lib.hid hs1; clear hs1 hb; have keep1 := And.intro ((hbw.cell (p := ⟨p, 0, none⟩) hlt).trans c0) (And.intro ((hbw.cell (p := ⟨p, 1, none⟩) hlt).trans c1) (And.intro ((hbw.cell (p := ⟨p, 2, none⟩) hlt).trans c2) ((hbw.cell (p := ⟨p, 3, none⟩) hlt).trans c3))))
      | (go_at_call 12; refine (rjoin_any _ _ _ (SD ++ SP) _ _ _ (FD ++ FP) _ hs1' hs2' HS.out HF.out).mono ?_; rintro e w3 ⟨oa, oc, rfl, ho, hb3'⟩; dsimp only; have hb3 := hb2.trans (hb3'.mono hb2.size); have keep3 := And.intro ((hb3.cell (p := ⟨p, 0, none⟩) hlt).trans c0) (And.intro ((hb3.cell (p := ⟨p, 1, none⟩) hlt).trans c1) (And.intro ((hb3.cell (p := ⟨p, 2, none⟩) hlt).trans c2) ((hb3.cell (p := ⟨p, 3, none⟩) hlt).trans c3)))))
  go_wp2_with fail
  go_ret
  exact ⟨oa, oc, rfl, ho.mono hb2.size, hb3⟩

theorem rsync_any (h : RStk w p G v0 v1 v2 v3 SD SP FD FP) (hs : SD.length + SP.length ≤ 16777216) (hf : FD.length + FP.length ≤ 16777216) :
    Calls Try.prog 18 #[.pointer (some ⟨p, 0, none⟩)] w fun e w' => e = .returned (.tuple #[]) ∧ ∃ G' u0 u1 u2 u3, RStk w' p G' u0 u1 u2 u3 (SD ++ SP) [] (FD ++ FP) [] ∧ Same (fun k => k = p) w w' ∧ (∀ k, G' k → G k ∨ w.heap.size ≤ k) := by
  obtain ⟨c0, c1, c2, c3, f0, f1, f2, f3⟩ := h.cells
  have hs1 : SD.length ≤ 70368744177664 ∧ SP.length ≤ 70368744177664 ∧ FD.length ≤ 70368744177664 ∧ FP.length ≤ 70368744177664 := by omega
  have HS1 := Lib.hid hs1; clear hs1 hs hf
  obtain ⟨a0, k0, rfl, r0⟩ := h.s0.rd
  obtain ⟨a1, k1, rfl, r1⟩ := h.s1.rd
  obtain ⟨a2, k2, rfl, r2⟩ := h.s2.rd
  obtain ⟨a3, k3, rfl, r3⟩ := h.s3.rd
  have H := Lib.hid h; clear h
  go_enter Try.func18, Try.ntmps18
  go_wp2_with fail
  refine (all_any _ _ _ SD _ _ _ SP _ r0 r1 HS1.out.1 HS1.out.2.1).mono ?_
  rintro e w1 ⟨sa, sc, rfl, hs1, hb⟩
  have h1 := H.out.below hb
  obtain ⟨c0, c1, c2, c3, f0, f1, f2, f3⟩ := h1.cells
  go_wp2_with fail
  have h2 := h1.set01 (SlB.of_own hs1) (SlB.nil w1)
  have z2 := (same_cells2 w1 p 0 1 (.slice sa (SD.length + SP.length) sc) (.slice none 0 0)).size
  have S2 := Lib.hid ((Same.of_below (S := fun k => k = p) hb).trans (same_cells2 w1 p 0 1 (.slice sa (SD.length + SP.length) sc) (.slice none 0 0)))
  have hp : p < w.heap.size := H.out.plt
  have hne2 : ∀ {a : Option Addr} {n c : Nat} {l : List UInt8}, RdB w1 a n c l → RStk w1 p G (.slice a0 SD.length k0) (.slice a1 SP.length k1) (.slice a2 FD.length k2) (.slice a3 FP.length k3) SD SP FD FP → True := fun _ _ => trivial
  clear hne2
  generalize (w1.setCell ⟨p, 0, none⟩ (.slice sa (SD.length + SP.length) sc)).setCell ⟨p, 1, none⟩ (.slice none 0 0) = w2 at *
  obtain ⟨b2, q2, e2, r2'⟩ := h2.s2.rd
  obtain ⟨b3, q3, e3, r3'⟩ := h2.s3.rd
  cases e2
  cases e3
  have FT : Hid (∀ k, Value.ownBlock (.slice sa (SD.length + SP.length) sc) = some k → w.heap.size ≤ k) := fun k hk => (hs1.lt k hk).1
  have hbs := hb.size
  clear c0 c1 c2 c3 f0 f1 f2 f3 r2 r3 hs1 hb h1
  refine (all_any _ _ _ FD _ _ _ FP _ r2' r3' HS1.out.2.2.1 HS1.out.2.2.2).mono ?_
  rintro e w3 ⟨fa, fc, rfl, hs3, hb3⟩
  have h3 := h2.below hb3
  obtain ⟨c0, c1, c2, c3, f0, f1, f2, f3⟩ := h3.cells
  go_wp2_with fail
  go_end0
  refine ⟨rfl, _, _, _, _, _, h3.set23 (SlB.of_own hs3) (SlB.nil w3), ?_, ?_⟩
  · exact (S2.out.trans (Same.of_below hb3)).trans (same_cells2 w3 p 2 3 _ _)
  · rintro k (rfl | hk | hk | hk | hk)
    · exact .inl H.out.self
    · exact .inr (FT.out k hk)
    · exact absurd hk (own_nil k)
    · have := (hs3.lt k hk).1
      exact .inr (by omega)
    · exact absurd hk (own_nil k)
end
end Go.Proofs.Ytpjiakgfegnmcaa
