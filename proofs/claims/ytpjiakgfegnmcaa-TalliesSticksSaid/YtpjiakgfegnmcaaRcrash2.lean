/- The reference's stick: Crash goes through. -/
import Derived.Test.YtpjiakgfegnmcaaRcrash
namespace Go.Proofs.Ytpjiakgfegnmcaa
open Go.RowKit
attribute [local go_sem ↓] Go.wp_at_zero Go.wp_at_succ

section
variable {w : World} {p : Nat} {G : Nat → Prop} {v0 v1 v2 v3 : Value} {SD SP FD FP : List UInt8}

set_option maxHeartbeats 1000000 in
theorem rcrash_yes (h : RStk w p G v0 v1 v2 v3 SD SP FD FP) (stock foil : Nat) (flip : Int) (hs : SD.length + SP.length ≤ 16777216) (hf : FD.length + FP.length ≤ 16777216)
    (k1 : stock ≤ SP.length) (k2 : foil ≤ FP.length) (k3 : -1 ≤ flip) (k4 : flip < 8 * ((stock : Int) + foil)) :
    Calls Try.prog 20 #[.pointer (some ⟨p, 0, none⟩), .int .i64 stock, .int .i64 foil, .int .i64 flip] w fun e w' => e = .returned (.int .i64 0) ∧
      ∃ G' u0 u1 u2 u3, RStk w' p G' u0 u1 u2 u3 (SD ++ (leftOf SP FP stock foil flip).take stock) [] (FD ++ (leftOf SP FP stock foil flip).drop stock) [] ∧ Same (fun k => k = p) w w' ∧ (∀ k, G' k → G k ∨ w.heap.size ≤ k) := by
  obtain ⟨c0, c1, c2, c3, f0, f1, f2, f3⟩ := h.cells
  obtain ⟨a0, n0, rfl, r0⟩ := h.s0.rd
  obtain ⟨a1, n1, rfl, r1⟩ := h.s1.rd
  obtain ⟨a2, n2, rfl, r2⟩ := h.s2.rd
  obtain ⟨a3, n3, rfl, r3⟩ := h.s3.rd
  have hp := h.plt
  have H := Lib.hid h; clear h
  have w1 := within_any stock 0 SP.length true (by simp; omega) w
  have w2 := within_any foil 0 FP.length true (by simp; omega) w
  have w3 := within_any flip (-1) (8 * ((stock : Int) + foil) - 1) true (by simp; omega) w
  have W1 := Lib.hid w1
  have W2 := Lib.hid w2
  have W3 := Lib.hid w3
  clear w1 w2 w3
  have hb1 : stock ≤ 16777216 := by omega
  have hb2 : foil ≤ 16777216 := by omega
  have HS := Lib.hid hs; clear hs
  have HF := Lib.hid hf; clear hf
  have K1 := Lib.hid k1; clear k1
  have K2 := Lib.hid k2; clear k2
  have K3 := Lib.hid k3; clear k3
  have K4 := Lib.hid k4; clear k4
  obtain ⟨ja, hcut1, hj⟩ := cut_eq r1 0 stock none (some (.int .i64 (stock : Int))) (.inl ⟨rfl, rfl⟩) (.inr ⟨_, by go_num⟩) (Nat.zero_le _) K1.out
  obtain ⟨ka, hcut3, hk⟩ := cut_eq r3 0 foil none (some (.int .i64 (foil : Int))) (.inl ⟨rfl, rfl⟩) (.inr ⟨_, by go_num⟩) (Nat.zero_le _) K2.out
  rw [Nat.sub_zero, Nat.sub_zero, List.drop_zero] at hj hk
  simp only [Nat.sub_zero] at hcut1 hcut3
  have bA : Below w.heap.size w (w.alloc (.cells #[] 5)) := (Below.refl _ _).alloc (Nat.le_refl _) _
  have bAd : Below w.heap.size w (w.alloc (.cells #[] 5)).drew := bA.drew
  have oA := nil_own w w.heap.size (Nat.le_refl _)
  have zA := bA.size
  have zAd := bAd.size
  have oAd := own_below oA ((Below.refl (w.alloc (.cells #[] 5)).heap.size (w.alloc (.cells #[] 5))).drew)
  have jA := hj.below bAd
  have keep0 : w.drew.cell? ⟨p, 1, none⟩ = some (.slice a1 SP.length n1) ∧ w.drew.cell? ⟨p, 3, none⟩ = some (.slice a3 FP.length n3) := ⟨c1, c3⟩
  have keep1 : (w.alloc (.cells #[] 5)).drew.cell? ⟨p, 1, none⟩ = some (.slice a1 SP.length n1) ∧ (w.alloc (.cells #[] 5)).drew.cell? ⟨p, 3, none⟩ = some (.slice a3 FP.length n3) := ⟨(bAd.cell (p := ⟨p, 1, none⟩) hp).trans c1, (bAd.cell (p := ⟨p, 3, none⟩) hp).trans c3⟩
  go_enter Try.func20, Try.ntmps20
  go_wp2_with fail
  refine W1.out.mono ?_
  rintro e w1 ⟨rfl, rfl⟩
  go_wp2_with fail
  refine W2.out.mono ?_
  rintro e w1 ⟨rfl, rfl⟩
  go_wp2_with fail
  refine W3.out.mono ?_
  rintro e w1 ⟨rfl, rfl⟩
  go_upto_region 3 with fail
  go_region_held3 (fun w' => w'.cell? ⟨p, 1, none⟩ = some (.slice a1 SP.length n1) ∧ w'.cell? ⟨p, 3, none⟩ = some (.slice a3 FP.length n3))
    (first
      | with_reducible exact keep0
      | with_reducible exact keep1
      | with_reducible exact keep2
      | with_reducible exact keep3)
    (first
      | (refine step_app_bytes rfl _ _ rfl w.heap.size _ _ _ (SP.take stock) rfl ho2 _ _ _ (FP.take foil) rfl kk2 (by omega) z2 ?_; intro ta tc w3 ho3 hg3; have b3 := b2.grown hg3 z2 (fun q hq => (ho2.lt q hq).1); have keep3 := And.intro ((b3.cell (p := ⟨p, 1, none⟩) hp).trans c1) ((b3.cell (p := ⟨p, 3, none⟩) hp).trans c3))
      | (refine step_app_bytes rfl _ _ rfl w.heap.size _ _ _ [] rfl oAd _ _ _ (SP.take stock) rfl jA (by omega) zAd ?_; simp only [Nat.zero_add, List.nil_append]; intro sa sc w2 ho2 hg2; have b2 := bAd.grown hg2 zAd (fun q hq => (oAd.lt q hq).1); have z2 := b2.size; have kk2 := hk.below b2; have keep2 := And.intro ((b2.cell (p := ⟨p, 1, none⟩) hp).trans c1) ((b2.cell (p := ⟨p, 3, none⟩) hp).trans c3)))
  have HH := Lib.hid hcut1; clear hcut1 hcut3 keep0 keep1 keep2 keep3
  clear hj hk bA bAd oA zA zAd oAd jA ho2 hg2 b2 z2 kk2 hg3 c0 c1 c2 c3 r0 r1 r2 r3 W1 W2 W3 HH f0 f1 f2 f3
  have HS1 := Lib.hid (show SD.length ≤ 16777216 ∧ FD.length ≤ 16777216 by have h1 := HS.out; have h2 := HF.out; omega)
  by_cases hm : flip < 0
  · go_upto_region 6 with fail
    have hL : leftOf SP FP stock foil flip = SP.take stock ++ FP.take foil := by unfold leftOf; rw [if_neg (by omega)]
    rw [← hL] at ho3; clear hL
    have h4 := H.out.below b3
    obtain ⟨c0, c1, c2, c3, f0, f1, f2, f3⟩ := h4.cells
    obtain ⟨_, _, e0, r0⟩ := h4.s0.rd
    cases e0
    have H4 := Lib.hid h4; clear h4
    have hp4 := H4.out.plt
    obtain ⟨la, hcut1, hl1⟩ := cut_eq (RdB.of_own ho3) 0 stock none (some (.int .i64 (stock : Int))) (.inl ⟨rfl, rfl⟩) (.inr ⟨_, by go_num⟩) (Nat.zero_le _) (Nat.le_add_right _ _)
    rw [Nat.sub_zero, List.drop_zero] at hl1
    simp only [Nat.sub_zero] at hcut1 hl1
    have bB : Below w3.heap.size w3 (w3.alloc (.cells #[] 5)) := (Below.refl _ _).alloc (Nat.le_refl _) _
    have bBd := bB.drew
    have oB := own_below (nil_own w3 w3.heap.size (Nat.le_refl _)) ((Below.refl (w3.alloc (.cells #[] 5)).heap.size (w3.alloc (.cells #[] 5))).drew)
    have zB := bBd.size
    have rB := r0.below bBd
    have HO := Lib.hid ho3
    have HB := Lib.hid b3
    clear ho3 b3 bB r0
    go_region_law (first
      | (refine step_app_bytes rfl _ _ rfl w3.heap.size _ _ _ SD rfl ho4 _ _ _ _ rfl ll4 (by have := HS1.out.1; omega) z4 ?_; intro sb sd w5 ho5 hg5; have b5 := b4.grown hg5 z4 (fun q hq => (ho4.lt q hq).1); have h5 := H4.out.below b5; obtain ⟨y0, y1, _, _, y4, y5, _, _⟩ := h5.cells; have H5 := Lib.hid h5; clear h5)
      | (refine step_app_bytes rfl _ _ rfl w3.heap.size _ _ _ [] rfl oB _ _ _ SD rfl rB (by have := HS1.out.1; omega) zB ?_; simp only [Nat.zero_add, List.nil_append]; intro sa' sc' w4 ho4 hg4; have b4 := bBd.grown hg4 zB (fun q hq => (oB.lt q hq).1); have z4 := b4.size; have ll4 := hl1.below b4))
    all_goals
      have h6 := H5.out.set01 (SlB.of_own ho5) (SlB.nil w5)
      have S6 := Lib.hid ((Same.of_below (S := fun k => k = p) (HB.out.trans (b5.mono HB.out.size))).trans (same_cells2 w5 p 0 1 (.slice sb (SD.length + stock) sd) (.slice none 0 0)))
      have F6 : Hid (∀ k, Value.ownBlock (.slice sb (SD.length + stock) sd) = some k → w.heap.size ≤ k) := fun k hk => Nat.le_trans HB.out.size (ho5.lt k hk).1
      have O6 := own_keep (own_below HO.out b5) (same_cells2 w5 p 0 1 (.slice sb (SD.length + stock) sd) (.slice none 0 0)) (fun k hk e => own_ne (own_below HO.out b5) H5.out.blk (by decide) (by rw [hk, e]))
      clear c0 c1 c2 c3 f0 f1 f2 f3 hcut1 hl1 bBd oB zB rB ho4 hg4 b4 z4 ll4 ho5 hg5 b5 y0 y1 y4 y5 H5 H4 hp4 HO
      generalize (w5.setCell ⟨p, 0, none⟩ (.slice sb (SD.length + stock) sd)).setCell ⟨p, 1, none⟩ (.slice none 0 0) = w6 at *
      have z6 := S6.out.size
      go_upto_region 7 with fail
      obtain ⟨c0, c1, c2, c3, f0, f1, f2, f3⟩ := h6.cells
      obtain ⟨_, _, e2, r2⟩ := h6.s2.rd
      cases e2
      have H6 := Lib.hid h6; clear h6
      have hp6 := H6.out.plt
      obtain ⟨ra, hcut2, hr1⟩ := cut_eq (RdB.of_own O6) stock (stock + foil) (some (.int .i64 (stock : Int))) none (.inr ⟨_, by go_num⟩) (.inl ⟨rfl, rfl⟩) (Nat.le_add_right _ _) (Nat.le_refl _)
      rw [Nat.add_sub_cancel_left, List.take_of_length_le (by rw [List.length_drop, leftOf_len _ _ _ _ _ K1.out K2.out]; omega)] at hr1
      simp only [Nat.add_sub_cancel_left] at hcut2
      have bB : Below w6.heap.size w6 (w6.alloc (.cells #[] 5)) := (Below.refl _ _).alloc (Nat.le_refl _) _
      have bBd := bB.drew
      have oB := own_below (nil_own w6 w6.heap.size (Nat.le_refl _)) ((Below.refl (w6.alloc (.cells #[] 5)).heap.size (w6.alloc (.cells #[] 5))).drew)
      have zB := bBd.size
      have rB := r2.below bBd
      clear bB r2 O6
      go_region_law (first
        | (refine step_app_bytes rfl _ _ rfl w6.heap.size _ _ _ FD rfl ho7 _ _ _ _ rfl ll7 (by have := HS1.out.2; omega) z7 ?_; intro fb fd w8 ho8 hg8; have b8 := b7.grown hg8 z7 (fun q hq => (ho7.lt q hq).1); have h8 := H6.out.below b8; obtain ⟨_, _, y2, y3, _, _, y6, y7⟩ := h8.cells; have H8 := Lib.hid h8; clear h8)
        | (refine step_app_bytes rfl _ _ rfl w6.heap.size _ _ _ [] rfl oB _ _ _ FD rfl rB (by have := HS1.out.2; omega) zB ?_; simp only [Nat.zero_add, List.nil_append]; intro fa' fc' w7 ho7 hg7; have b7 := bBd.grown hg7 zB (fun q hq => (oB.lt q hq).1); have z7 := b7.size; have ll7 := hr1.below b7))
      all_goals
        have h9 := Lib.hid (H8.out.set23 (SlB.of_own ho8) (SlB.nil w8))
        have S9 := Lib.hid ((S6.out.trans (Same.of_below (S := fun k => k = p) b8)).trans (same_cells2 w8 p 2 3 (.slice fb (FD.length + foil) fd) (.slice none 0 0)))
        have F9 : Hid (∀ k, Value.ownBlock (.slice fb (FD.length + foil) fd) = some k → w.heap.size ≤ k) := fun k hk => Nat.le_trans z6 (ho8.lt k hk).1
        go_wp2_with fail
        go_ret
        first | refine ⟨rfl, _, _, _, _, _, h9.out, S9.out, ?_⟩ | refine ⟨rfl, _, ⟨_, _, _, _, h9.out⟩, S9.out, ?_⟩
        rintro k (rfl | hk | hk | hk | hk)
        · exact .inl H.out.self
        · exact .inr (F6.out k hk)
        · exact absurd hk (own_nil k)
        · exact .inr (F9.out k hk)
        · exact absurd hk (own_nil k)
  · obtain ⟨f, rfl⟩ := Int.eq_ofNat_of_zero_le (show 0 ≤ flip by omega)
    have hA : f / 8 < stock + foil := by have := K4.out; omega
    obtain ⟨g, rfl, hg0, hcell, hfz, ho, hgr⟩ := own_flipR ho3 (f / 8) hA (((SP.take stock ++ FP.take foil)[f / 8]?.getD 0) ^^^ UInt8.ofNat (2 ^ (f % 8)))
    have hx := xor_bytes ((SP.take stock ++ FP.take foil)[f / 8]?.getD 0) (UInt8.ofNat (2 ^ (f % 8)))
    have hL : leftOf SP FP stock foil (f : Int) = (SP.take stock ++ FP.take foil).set (f / 8) (((SP.take stock ++ FP.take foil)[f / 8]?.getD 0) ^^^ UInt8.ofNat (2 ^ (f % 8))) := by unfold leftOf; rw [if_pos (by omega)]; rfl
    rw [← hL] at ho
    have b4 := (b3.grown hgr b3.size (fun k hk => by cases hk; exact hg0)).drew
    have ho4 := own_below ho (Below.refl _ _).drew
    have HX := Lib.hid hx; clear hx hL ho hgr ho3
    go_upto_region 5 with fail
    go_region
    rw [mask_eq, HX.out]
    clear hcell hfz b3
    generalize (w3.setCell ⟨g, f / 8, none⟩ (.int .u8 ((((SP.take stock ++ FP.take foil)[f / 8]?.getD 0) ^^^ UInt8.ofNat (2 ^ (f % 8))).toNat : Int))).drew = wz at *
    have HA := Lib.hid hA; clear hA
    go_upto_region 6 with fail
    have h4 := H.out.below b4
    obtain ⟨c0, c1, c2, c3, f0, f1, f2, f3⟩ := h4.cells
    obtain ⟨_, _, e0, r0⟩ := h4.s0.rd
    cases e0
    have H4 := Lib.hid h4; clear h4
    have hp4 := H4.out.plt
    obtain ⟨la, hcut1, hl1⟩ := cut_eq (RdB.of_own ho4) 0 stock none (some (.int .i64 (stock : Int))) (.inl ⟨rfl, rfl⟩) (.inr ⟨_, by go_num⟩) (Nat.zero_le _) (Nat.le_add_right _ _)
    rw [Nat.sub_zero, List.drop_zero] at hl1
    simp only [Nat.sub_zero] at hcut1 hl1
    have bB : Below wz.heap.size wz (wz.alloc (.cells #[] 5)) := (Below.refl _ _).alloc (Nat.le_refl _) _
    have bBd := bB.drew
    have oB := own_below (nil_own wz wz.heap.size (Nat.le_refl _)) ((Below.refl (wz.alloc (.cells #[] 5)).heap.size (wz.alloc (.cells #[] 5))).drew)
    have zB := bBd.size
    have rB := r0.below bBd
    have HO := Lib.hid ho4
    have HB := Lib.hid b4
    clear ho4 b4 bB r0
    go_region_law (first
      | (refine step_app_bytes rfl _ _ rfl wz.heap.size _ _ _ SD rfl ho4 _ _ _ _ rfl ll4 (by have := HS1.out.1; omega) z4 ?_; intro sb sd w5 ho5 hg5; have b5 := b4.grown hg5 z4 (fun q hq => (ho4.lt q hq).1); have h5 := H4.out.below b5; obtain ⟨y0, y1, _, _, y4, y5, _, _⟩ := h5.cells; have H5 := Lib.hid h5; clear h5)
      | (refine step_app_bytes rfl _ _ rfl wz.heap.size _ _ _ [] rfl oB _ _ _ SD rfl rB (by have := HS1.out.1; omega) zB ?_; simp only [Nat.zero_add, List.nil_append]; intro sa' sc' w4 ho4 hg4; have b4 := bBd.grown hg4 zB (fun q hq => (oB.lt q hq).1); have z4 := b4.size; have ll4 := hl1.below b4))
    all_goals
      have h6 := H5.out.set01 (SlB.of_own ho5) (SlB.nil w5)
      have S6 := Lib.hid ((Same.of_below (S := fun k => k = p) (HB.out.trans (b5.mono HB.out.size))).trans (same_cells2 w5 p 0 1 (.slice sb (SD.length + stock) sd) (.slice none 0 0)))
      have F6 : Hid (∀ k, Value.ownBlock (.slice sb (SD.length + stock) sd) = some k → w.heap.size ≤ k) := fun k hk => Nat.le_trans HB.out.size (ho5.lt k hk).1
      have O6 := own_keep (own_below HO.out b5) (same_cells2 w5 p 0 1 (.slice sb (SD.length + stock) sd) (.slice none 0 0)) (fun k hk e => own_ne (own_below HO.out b5) H5.out.blk (by decide) (by rw [hk, e]))
      clear c0 c1 c2 c3 f0 f1 f2 f3 hcut1 hl1 bBd oB zB rB ho4 hg4 b4 z4 ll4 ho5 hg5 b5 y0 y1 y4 y5 H5 H4 hp4 HO
      generalize (w5.setCell ⟨p, 0, none⟩ (.slice sb (SD.length + stock) sd)).setCell ⟨p, 1, none⟩ (.slice none 0 0) = w6 at *
      have z6 := S6.out.size
      go_upto_region 7 with fail
      obtain ⟨c0, c1, c2, c3, f0, f1, f2, f3⟩ := h6.cells
      obtain ⟨_, _, e2, r2⟩ := h6.s2.rd
      cases e2
      have H6 := Lib.hid h6; clear h6
      have hp6 := H6.out.plt
      obtain ⟨ra, hcut2, hr1⟩ := cut_eq (RdB.of_own O6) stock (stock + foil) (some (.int .i64 (stock : Int))) none (.inr ⟨_, by go_num⟩) (.inl ⟨rfl, rfl⟩) (Nat.le_add_right _ _) (Nat.le_refl _)
      rw [Nat.add_sub_cancel_left, List.take_of_length_le (by rw [List.length_drop, leftOf_len _ _ _ _ _ K1.out K2.out]; omega)] at hr1
      simp only [Nat.add_sub_cancel_left] at hcut2
      have bB : Below w6.heap.size w6 (w6.alloc (.cells #[] 5)) := (Below.refl _ _).alloc (Nat.le_refl _) _
      have bBd := bB.drew
      have oB := own_below (nil_own w6 w6.heap.size (Nat.le_refl _)) ((Below.refl (w6.alloc (.cells #[] 5)).heap.size (w6.alloc (.cells #[] 5))).drew)
      have zB := bBd.size
      have rB := r2.below bBd
      clear bB r2 O6
      go_region_law (first
        | (refine step_app_bytes rfl _ _ rfl w6.heap.size _ _ _ FD rfl ho7 _ _ _ _ rfl ll7 (by have := HS1.out.2; omega) z7 ?_; intro fb fd w8 ho8 hg8; have b8 := b7.grown hg8 z7 (fun q hq => (ho7.lt q hq).1); have h8 := H6.out.below b8; obtain ⟨_, _, y2, y3, _, _, y6, y7⟩ := h8.cells; have H8 := Lib.hid h8; clear h8)
        | (refine step_app_bytes rfl _ _ rfl w6.heap.size _ _ _ [] rfl oB _ _ _ FD rfl rB (by have := HS1.out.2; omega) zB ?_; simp only [Nat.zero_add, List.nil_append]; intro fa' fc' w7 ho7 hg7; have b7 := bBd.grown hg7 zB (fun q hq => (oB.lt q hq).1); have z7 := b7.size; have ll7 := hr1.below b7))
      all_goals
        have h9 := Lib.hid (H8.out.set23 (SlB.of_own ho8) (SlB.nil w8))
        have S9 := Lib.hid ((S6.out.trans (Same.of_below (S := fun k => k = p) b8)).trans (same_cells2 w8 p 2 3 (.slice fb (FD.length + foil) fd) (.slice none 0 0)))
        have F9 : Hid (∀ k, Value.ownBlock (.slice fb (FD.length + foil) fd) = some k → w.heap.size ≤ k) := fun k hk => Nat.le_trans z6 (ho8.lt k hk).1
        go_wp2_with fail
        go_ret
        first | refine ⟨rfl, _, _, _, _, _, h9.out, S9.out, ?_⟩ | refine ⟨rfl, _, ⟨_, _, _, _, h9.out⟩, S9.out, ?_⟩
        rintro k (rfl | hk | hk | hk | hk)
        · exact .inl H.out.self
        · exact .inr (F6.out k hk)
        · exact absurd hk (own_nil k)
        · exact .inr (F9.out k hk)
        · exact absurd hk (own_nil k)
end
end Go.Proofs.Ytpjiakgfegnmcaa
