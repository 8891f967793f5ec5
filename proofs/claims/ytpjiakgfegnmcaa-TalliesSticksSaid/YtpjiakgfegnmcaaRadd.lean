/- The reference's stick: add, Write. -/
import Derived.Test.YtpjiakgfegnmcaaRmeth
import Derived.Deep.Cut
namespace Go.Proofs.Ytpjiakgfegnmcaa
open Go.RowKit

section
variable {w : World} {p : Nat} {G : Nat → Prop} {v0 v1 v2 v3 : Value} {SD SP FD FP : List UInt8}

set_option maxHeartbeats 1000000 in
theorem radd_any (h : RStk w p G v0 v1 v2 v3 SD SP FD FP) (xa : Option Addr) (xn xc : Nat) (X : List UInt8) (ya : Option Addr) (yn yc : Nat) (Y : List UInt8) (hx : RdB w xa xn xc X) (hy : RdB w ya yn yc Y)
    (hs : SD.length + SP.length + xn ≤ 16777216) (hf : FD.length + FP.length + yn ≤ 16777216) :
    Calls Try.prog 49 #[.pointer (some ⟨p, 0, none⟩), .slice xa xn xc, .slice ya yn yc] w fun e w' => e = .returned (.tuple #[]) ∧ ∃ G' u1 u3, RStk w' p G' v0 u1 v2 u3 SD (SP ++ X) FD (FP ++ Y) ∧ Same (fun k => k = p) w w' ∧ (∀ k, G' k → G k ∨ w.heap.size ≤ k) := by
  obtain ⟨c0, c1, c2, c3, f0, f1, f2, f3⟩ := h.cells
  have hs1 : SP.length ≤ 16777216 ∧ SP.length + xn ≤ 16777216 ∧ FP.length ≤ 16777216 ∧ FP.length + yn ≤ 16777216 := by omega
  have HS1 := Lib.hid hs1; clear hs1 hs hf
  obtain ⟨a1, k1, rfl, r1⟩ := h.s1.rd
  obtain ⟨a3, k3, rfl, r3⟩ := h.s3.rd
  have hp := h.plt
  have H := Lib.hid h; clear h
  have bA : Below w.heap.size w (w.alloc (.cells #[] 5)) := (Below.refl _ _).alloc (Nat.le_refl _) _
  have oA := nil_own w w.heap.size (Nat.le_refl _)
  have zA := bA.size
  have r1A := r1.below bA
  go_enter Try.func49, Try.ntmps49
  go_wp2_with (at_builtin; refine app_bytes_at _ rfl _ _ rfl w.heap.size _ _ _ [] rfl oA _ _ _ SP rfl r1A (by rw [Nat.zero_add]; have := HS1.out.1; omega) zA ?_; intro sa' sc' w2 hloc2 ho2 hg2; refine Hid.out ?_)
  refine Lib.hid ?_
  simp only [Nat.zero_add, List.nil_append] at ho2 ⊢
  have b2 := bA.grown hg2 zA (fun q hq => (oA.lt q hq).1)
  have z2 := b2.size
  have x2 := hx.below b2
  have o2lt : Hid (∀ k, Value.ownBlock (.slice sa' SP.length sc') = some k → w.heap.size ≤ k) := fun k hk => (ho2.lt k hk).1
  clear oA bA hloc2 hg2 r1A
  go_wp2_with (at_builtin; refine app_bytes_at _ rfl _ _ rfl w.heap.size _ _ _ SP rfl ho2 _ _ _ X rfl x2 (by have := HS1.out.2.1; omega) z2 ?_; intro ta' tc' w3 hloc3 ho3 hg3; refine Hid.out ?_)
  refine Lib.hid ?_
  have b3 := b2.grown hg3 z2 (fun q hq => (ho2.lt q hq).1)
  have z3 := b3.size
  have h3 := H.out.below b3
  have y3 := hy.below b3
  clear c0 c1 c2 c3 f0 f1 f2 f3 ho2 hg3 hloc3 x2 o2lt zA
  obtain ⟨c0, c1, c2, c3, f0, f1, f2, f3⟩ := h3.cells
  have h4 := h3.set1 (SlB.of_own ho3)
  have y4 := h3.rd y3 1 (.slice ta' (SP.length + xn) tc')
  have S4 := Lib.hid ((Same.of_below (S := fun k => k = p) b3).trans (same_cell w3 p 1 (.slice ta' (SP.length + xn) tc')))
  have z4 := S4.out.size
  have o3lt : Hid (∀ k, Value.ownBlock (.slice ta' (SP.length + xn) tc') = some k → w.heap.size ≤ k) := fun k hk => (ho3.lt k hk).1
  have H3 := Lib.hid h3; clear h3
  have H4 := Lib.hid h4; clear h4
  go_upto_region 1 with fail
  generalize w3.setCell ⟨p, 1, none⟩ (.slice ta' (SP.length + xn) tc') = w4 at *
  obtain ⟨b3', q3, e3, r3'⟩ := H4.out.s3.rd
  cases e3
  clear c0 c1 c2 c3 f0 f1 f2 f3 ho3 y3 r1 r3 b2 b3
  obtain ⟨c0, c1, c2, c3, f0, f1, f2, f3⟩ := H4.out.cells
  have hp4 := H4.out.plt
  have bB : Below w4.heap.size w4 (w4.alloc (.cells #[] 5)) := (Below.refl _ _).alloc (Nat.le_refl _) _
  have oB := nil_own w4 w4.heap.size (Nat.le_refl _)
  have zB := bB.size
  have r3B := r3'.below bB
  go_wp2_with (at_builtin; refine app_bytes_at _ rfl _ _ rfl w4.heap.size _ _ _ [] rfl oB _ _ _ FP rfl r3B (by rw [Nat.zero_add]; have := HS1.out.2.2.1; omega) zB ?_; intro fa' fc' w5 hloc5 ho5 hg5; refine Hid.out ?_)
  refine Lib.hid ?_
  simp only [Nat.zero_add, List.nil_append] at ho5 ⊢
  have b5 := bB.grown hg5 zB (fun q hq => (oB.lt q hq).1)
  have z5 := b5.size
  have y5 := y4.below b5
  clear oB bB hloc5 hg5 r3B
  go_wp2_with (at_builtin; refine app_bytes_at _ rfl _ _ rfl w4.heap.size _ _ _ FP rfl ho5 _ _ _ Y rfl y5 (by have := HS1.out.2.2.2; omega) z5 ?_; intro ga' gc' w6 hloc6 ho6 hg6; refine Hid.out ?_)
  refine Lib.hid ?_
  have b6 := b5.grown hg6 z5 (fun q hq => (ho5.lt q hq).1)
  have z6 := b6.size
  have h6 := H4.out.below b6
  clear c0 c1 c2 c3 f0 f1 f2 f3 ho5 hg6 hloc6 y5
  obtain ⟨c0, c1, c2, c3, f0, f1, f2, f3⟩ := h6.cells
  have h7 := h6.set3 (SlB.of_own ho6)
  have o6lt : Hid (∀ k, Value.ownBlock (.slice ga' (FP.length + yn) gc') = some k → w.heap.size ≤ k) := fun k hk => Nat.le_trans z4 (ho6.lt k hk).1
  have H6 := Lib.hid h6; clear h6
  have H7 := Lib.hid h7; clear h7
  go_wp2_with fail
  go_end0
  refine ⟨rfl, _, _, _, H7.out, (S4.out.trans (Same.of_below b6)).trans (same_cell w6 p 3 _), ?_⟩
  rintro k (rfl | hk | hk | hk | hk)
  · exact .inl H.out.self
  · exact .inl ((H.out.g k).2 (.inr (.inl hk)))
  · exact .inr (o3lt.out k hk)
  · exact .inl ((H.out.g k).2 (.inr (.inr (.inr (.inl hk)))))
  · exact .inr (o6lt.out k hk)
end
end Go.Proofs.Ytpjiakgfegnmcaa
