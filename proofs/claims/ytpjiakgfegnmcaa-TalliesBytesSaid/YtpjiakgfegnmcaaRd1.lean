/- The reference's reader: signed, Number. -/
import Derived.Test.YtpjiakgfegnmcaaDec4
import Derived.Deep.QuietTactic
import Derived.BigQuiet
namespace Go.Proofs.Ytpjiakgfegnmcaa
open Go.RowKit

/-- The reference's reader at rp: the bytes l in the slice a n c, how far it has read, and whether something was wrong. -/
structure RdQ (W : World) (rp : Nat) (l : List UInt8) (a : Option Addr) (n c : Nat) (at_ : Nat) (bad : Bool) : Prop where
  e : W.heap[rp]? = some (.cells #[.slice a n c, .int .i64 at_, .bool bad] 112 (0, 0))
  r : RdB W a n c l
  le : at_ ≤ l.length
section
variable {W W' : World} {rp : Nat} {l : List UInt8} {a : Option Addr} {n c at_ : Nat} {bad : Bool}
theorem RdQ.not (h : RdQ W rp l a n c at_ bad) (h0 : 0 < n) : ∀ b off, a = some ⟨b, off, none⟩ → b ≠ rp :=
  rd_not h.e (by intro v hv x; simp at hv; rcases hv with rfl | rfl | rfl <;> (intro hh; cases hh)) h.r h0
theorem RdQ.same {S : Nat → Prop} (h : RdQ W rp l a n c at_ bad) (hs : Same S W W') (h1 : ¬ S rp) (h2 : 0 < n → ∀ b off, a = some ⟨b, off, none⟩ → ¬ S b) : RdQ W' rp l a n c at_ bad :=
  ⟨(hs.block _ (Array.getElem?_eq_some_iff.1 h.e).1 h1).trans h.e, rd_same h.r hs h2, h.le⟩
theorem RdQ.setBad (h : RdQ W rp l a n c at_ bad) : RdQ (W.setCell ⟨rp, 2, none⟩ (.bool true)) rp l a n c at_ true :=
  ⟨heap_setCell_same W rp 2 _ _ (.bool true) h.e, rd_same h.r (same_at W rp 2 _) (fun h0 b off e => h.not h0 b off e), h.le⟩
theorem RdQ.setAt (h : RdQ W rp l a n c at_ bad) (k : Nat) (hk : k ≤ l.length) : RdQ (W.setCell ⟨rp, 1, none⟩ (.int .i64 k)) rp l a n c k bad :=
  ⟨heap_setCell_same W rp 1 _ _ (.int .i64 k) h.e, rd_same h.r (same_at W rp 1 _) (fun h0 b off e => h.not h0 b off e), hk⟩
theorem RdQ.c0 (h : RdQ W rp l a n c at_ bad) : W.cell? ⟨rp, 0, none⟩ = some (.slice a n c) := cell_of h.e 0 _ rfl
theorem RdQ.c1 (h : RdQ W rp l a n c at_ bad) : W.cell? ⟨rp, 1, none⟩ = some (.int .i64 at_) := cell_of h.e 1 _ rfl
theorem RdQ.c2 (h : RdQ W rp l a n c at_ bad) : W.cell? ⟨rp, 2, none⟩ = some (.bool bad) := cell_of h.e 2 _ rfl
theorem RdQ.f (h : RdQ W rp l a n c at_ bad) (j : Nat) : W.frozen? ⟨rp, j, none⟩ = false := frozen_of h.e j
theorem RdQ.len (h : RdQ W rp l a n c at_ bad) : l.length = n := by have := h.r.1; simpa using this
theorem Same.refl (S : Nat → Prop) (W : World) : Same S W W := ⟨rfl, rfl, rfl, Nat.le_refl _, fun _ _ _ => rfl⟩
end
theorem signed_any (rp : Nat) (l : List UInt8) (a : Option Addr) (n c at_ : Nat) (bad : Bool) (v : Nat) (w : World) (h : RdQ w rp l a n c at_ bad) (hv : v < 18446744073709551616) :
    Calls Try.prog 117 #[.pointer (some ⟨rp, 0, none⟩), .int .u64 v] w fun e w' => (v < 9223372036854775808 ∧ e = .returned (.int .i64 (zag v)) ∧ w' = w) ∨
      (¬ v < 9223372036854775808 ∧ e = .returned (.int .i64 0) ∧ RdQ w' rp l a n c at_ true ∧ Same (fun k => k = rp) w w') := by
  have c2 := h.c2
  have f2 := h.f 2
  have HH := Lib.hid h; clear h
  have hsg : IntKind.u64.signed = false := rfl
  by_cases h1 : v < 9223372036854775808
  · have h2 : decide ((9223372036854775808 : Int) ≤ (v : Int)) = false := by simp; omega
    rcases Nat.mod_two_eq_zero_or_one v with hm | hm
    · have hb1 : ((v : Int) % 2 == 0) = true := by simp; omega
      have HM := Lib.hid hm; clear hm
      go_enter Try.func117, Try.ntmps117
      go_wp2_with fail
      go_ret
      refine .inl ⟨h1, ?_, rfl⟩
      show Ending.returned (Value.int .i64 ((v : Int) / 2)) = _
      rw [zag, if_pos HM.out, show ((v : Int) / 2) = ((v / 2 : Nat) : Int) by omega]
    · have hb1 : ((v : Int) % 2 == 0) = false := by simp; omega
      have HM := Lib.hid hm; clear hm
      go_enter Try.func117, Try.ntmps117
      go_wp2_with fail
      go_ret
      refine .inl ⟨h1, ?_, rfl⟩
      show Ending.returned (Value.int .i64 (-((v : Int) / 2) - 1)) = _
      rw [zag, if_neg (by rw [HM.out]; decide), show ((v : Int) / 2) = ((v / 2 : Nat) : Int) by omega]
  · have h2 : decide ((9223372036854775808 : Int) ≤ (v : Int)) = true := by simp; omega
    go_enter Try.func117, Try.ntmps117
    go_wp2_with fail
    go_ret
    exact .inr ⟨h1, rfl, HH.out.setBad, same_at w rp 2 _⟩
theorem numR_none {l : List UInt8} (h : decR 0 0 l = none) : numR l = none := by unfold numR; rw [h]
theorem numR_some {l t : List UInt8} {u : Nat} (h : decR 0 0 l = some (u, t)) (hu : u < 9223372036854775808) : numR l = some (zag u, t) := by unfold numR; rw [h]; simp only; rw [if_pos hu]
theorem numR_big {l t : List UInt8} {u : Nat} (h : decR 0 0 l = some (u, t)) (hu : ¬ u < 9223372036854775808) : numR l = none := by unfold numR; rw [h]; simp only; rw [if_neg hu]
theorem unit_of (i : Nat) (hi : i ≤ 8) : IntKind.u64.wrap (((128 ^ i : Nat) : Int) * 128) = ((128 ^ (i + 1) : Nat) : Int) := by
  have hp : 128 ^ i ≤ 128 ^ 8 := Nat.pow_le_pow_right (by omega) hi
  have hp8 : 128 ^ 8 = 72057594037927936 := by decide
  rw [IntKind.wrap_u64, Nat.pow_succ]
  omega
theorem sum_of (i v y : Nat) (hi : i ≤ 9) (hv : v < 128 ^ i) (hy : y < 128) (h9 : i = 9 → y ≤ 1) : IntKind.u64.wrap ((v : Int) + IntKind.u64.wrap ((y : Int) * ((128 ^ i : Nat) : Int))) = ((v + y * 128 ^ i : Nat) : Int) ∧ v + y * 128 ^ i < 18446744073709551616 := by
  have hp9 : 128 ^ 9 = 9223372036854775808 := by decide
  have hp8 : 128 ^ 8 = 72057594037927936 := by decide
  have hm : y * 128 ^ i < 9223372036854775809 := by
    by_cases h : i = 9
    · have := h9 h
      subst h
      rw [hp9]
      omega
    · have hp : 128 ^ i ≤ 128 ^ 8 := Nat.pow_le_pow_right (by omega) (by omega)
      have h2 : y * 128 ^ i ≤ 127 * 128 ^ i := Nat.mul_le_mul_right _ (by omega)
      omega
  have hvp : v < 9223372036854775808 := by
    have hp : 128 ^ i ≤ 128 ^ 9 := Nat.pow_le_pow_right (by omega) hi
    rw [hp9] at hp
    exact Nat.lt_of_lt_of_le hv hp
  have e : (y : Int) * ((128 ^ i : Nat) : Int) = ((y * 128 ^ i : Nat) : Int) := by rw [Int.natCast_mul]
  rw [e]
  generalize y * 128 ^ i = z at *
  simp only [IntKind.wrap_u64]
  omega
set_option maxHeartbeats 8000000 in
set_option maxRecDepth 20000 in
theorem rnumber9_any (rp : Nat) (l : List UInt8) (a : Option Addr) (n c at0 : Nat) (bad : Bool) (w : World) (h : RdQ w rp l a n c at0 bad) :
    Calls Try.prog 90 #[.pointer (some ⟨rp, 0, none⟩)] w fun e w' => ∃ (z : Int) (at' : Nat) (bad' : Bool), e = .returned (.int .i64 z) ∧ RdQ w' rp l a n c at' bad' ∧ Same (fun k => k = rp) w w' ∧
      ((numR (l.drop at0) = some (z, l.drop at') ∧ bad' = bad) ∨ (numR (l.drop at0) = none ∧ bad' = true ∧ z = 0)) := by
  have HH := Lib.hid h
  have hn63 := h.r.maxn
  have HL := Lib.hid h.len; clear h
  have hsg : IntKind.u64.signed = false := rfl
  go_enter Try.func90, Try.ntmps90
  go_wp2_with fail
  go_loopw [3, 4, 5, 6] (fun u q i _ wr => ∃ (i' v q' at' : Nat), u = .int .u64 v ∧ q = .int .u64 q' ∧ i = .int .i64 i' ∧ i' ≤ 9 ∧ Hid (q' = 128 ^ i') ∧ Hid (v < 128 ^ i') ∧ Hid (decR i' v (l.drop at') = decR 0 0 (l.drop at0)) ∧ Hid (RdQ wr rp l a n c at' bad) ∧ Hid (Same (fun k => k = rp) w wr)) (fun _ _ i _ _ => 10 - (intOf i).toNat)
  case atStart => exact ⟨0, 0, 1, at0, rfl, rfl, rfl, by omega, Lib.hid rfl, Lib.hid (by decide), Lib.hid rfl, HH, Lib.hid (Same.refl _ _)⟩
  case round =>
    obtain ⟨i, v, q, at', rfl, rfl, rfl, hi, HQ, HV, HD, HR, HS⟩ := hrel
    have c0 := HR.out.c0
    have c1 := HR.out.c1
    have c2 := HR.out.c2
    have f2 := HR.out.f 2
    have f1 := HR.out.f 1
    have hle := HR.out.le
    rw [HL.out] at hle
    by_cases hat : n ≤ at'
    · have hat1 : decide ((n : Int) ≤ (at' : Int)) = true := by simp; omega
      go_wp2_with fail
      go_quiet (fail)
      go_wp2_with fail
      go_ret
      have hb := below_drewN (Below.refl wr.heap.size wr) nq
      have hR := HR.out.same (S := fun _ => False) (Same.of_below hb) id (fun _ _ _ _ => id)
      refine ⟨0, at', true, rfl, hR.setBad, (HS.out.trans (Same.of_below hb)).trans (same_at _ rp 2 _), .inr ⟨numR_none ?_, rfl, rfl⟩⟩
      rw [← HD.out, List.drop_eq_nil_of_le (by rw [HL.out]; omega)]
      try rfl
    · have hat1 : decide ((n : Int) ≤ (at' : Int)) = false := by simp; omega
      have hat2 : at' < n := by omega
      obtain ⟨b, off, rfl, hc⟩ := RdA.at HR.out.r (by omega)
      obtain ⟨x, hx⟩ : ∃ x, l[at']? = some x := ⟨_, List.getElem?_eq_getElem (by rw [HL.out]; exact hat2)⟩
      have e1 : wr.cell? ⟨b, off + at', none⟩ = some (.int .u8 (x.toNat : Int)) := hc at' (byteV x) (by rw [List.getElem?_map, hx]; rfl)
      have HX : Hid (l.drop at' = x :: l.drop (at' + 1)) := Lib.hid (by
        obtain ⟨hlt, hxx⟩ := List.getElem?_eq_some_iff.1 hx
        rw [List.drop_eq_getElem_cons hlt, hxx])
      have hx8 := x.toNat_lt
      clear hc hx
      go_wp2_with fail
      go_quiet (fail)
      go_wp2_with fail
      have hb := below_drewN (Below.refl wr.heap.size wr) nq
      have HRq := Lib.hid (HR.out.same (S := fun _ => False) (Same.of_below hb) id (fun _ _ _ _ => id))
      have HSq := Lib.hid (HS.out.trans (Same.of_below hb))
      have e2 : (wr.drewN nq).cell? ⟨b, off + at', none⟩ = some (.int .u8 (x.toNat : Int)) := e1
      have c0 := HRq.out.c0
      have c1 := HRq.out.c1
      have c2 := HRq.out.c2
      have f2 := HRq.out.f 2
      have f1 := HRq.out.f 1
      clear hb e1
      generalize wr.drewN nq = wq at *
      go_quiet (fail)
      go_upto_region 11 with fail
      have hb := below_drewN (Below.refl wq.heap.size wq) nq
      have HR6 := Lib.hid ((HRq.out.same (S := fun _ => False) (Same.of_below hb) id (fun _ _ _ _ => id)).setAt (at' + 1) (by rw [HL.out]; exact hat2))
      have HS6 := Lib.hid ((HSq.out.trans (Same.of_below hb)).trans (same_at (wq.drewN nq) rp 1 (.int .i64 ((at' + 1 : Nat) : Int))))
      rw [Int.natCast_add, Int.natCast_one] at HR6 HS6
      clear c0 c1 c2 f1 f2 hb e2
      generalize (wq.drewN nq).setCell ⟨rp, 1, none⟩ (.int .i64 ((at' : Int) + 1)) = w6 at *
      have c2 := HR6.out.c2
      have f2 := HR6.out.f 2
      by_cases hBC : (i = 9 ∧ 1 < x.toNat) ∨ (0 < i ∧ x.toNat = 0)
      · have HBC := Lib.hid hBC
        by_cases h9 : i = 9
        · by_cases h1 : 1 < x.toNat
          · have k9 : ((i : Int) == 9) = true := by simp; omega
            have k1 : decide ((1 : Int) < (x.toNat : Int)) = true := by simp; omega
            clear hBC h9 h1
            go_wp2_with fail
            go_ret
            refine ⟨0, at' + 1, true, rfl, HR6.out.setBad, HS6.out.trans (same_at _ rp 2 _), .inr ⟨numR_none ?_, rfl, rfl⟩⟩
            rw [← HD.out, HX.out, decR, if_pos HBC.out]
          · have k9 : ((i : Int) == 9) = true := by simp; omega
            have k1 : decide ((1 : Int) < (x.toNat : Int)) = false := by simp; omega
            have k0 : decide (0 < i) = true := by simp; omega
            have kc : ((x.toNat : Int) == 0) = true := by simp; omega
            clear hBC h9 h1
            go_wp2_with fail
            go_ret
            refine ⟨0, at' + 1, true, rfl, HR6.out.setBad, HS6.out.trans (same_at _ rp 2 _), .inr ⟨numR_none ?_, rfl, rfl⟩⟩
            rw [← HD.out, HX.out, decR, if_pos HBC.out]
        · have k9 : ((i : Int) == 9) = false := by simp; omega
          have k0 : decide (0 < i) = true := by simp; omega
          have kc : ((x.toNat : Int) == 0) = true := by simp; omega
          clear hBC h9
          go_wp2_with fail
          go_ret
          refine ⟨0, at' + 1, true, rfl, HR6.out.setBad, HS6.out.trans (same_at _ rp 2 _), .inr ⟨numR_none ?_, rfl, rfl⟩⟩
          rw [← HD.out, HX.out, decR, if_pos HBC.out]
      · have HBC := Lib.hid hBC
        by_cases h9 : i = 9
        · have k9 : ((i : Int) == 9) = true := by simp; omega
          have k1 : decide ((1 : Int) < (x.toNat : Int)) = false := by simp; omega
          have k0 : decide (0 < i) = true := by simp; omega
          have kc : ((x.toNat : Int) == 0) = false := by simp; omega
          clear hBC h9
          have HDD := Lib.hid (show decR i v (x :: l.drop (at' + 1)) = if x.toNat < 128 then some (v + x.toNat % 128 * 128 ^ i, l.drop (at' + 1)) else decR (i + 1) (v + x.toNat % 128 * 128 ^ i) (l.drop (at' + 1)) by rw [decR, if_neg HBC.out])
          obtain ⟨v2, hv2⟩ : ∃ v2, Hid (v2 = v + x.toNat % 128 * 128 ^ i) := ⟨_, Lib.hid rfl⟩
          have HU := Lib.hid (sum_of i v (x.toNat % 128) hi HV.out (by omega) (fun h9 => by have := HBC.out; have := x.toNat_lt; omega))
          have hu1 : IntKind.u64.wrap ((v : Int) + IntKind.u64.wrap (((x.toNat : Int) % 128) * (q : Int))) = (v2 : Int) := by rw [hv2.out, HQ.out]; exact HU.out.1
          have HV2 : Hid (v2 < 18446744073709551616) := Lib.hid (by rw [hv2.out]; exact HU.out.2)
          rw [← hv2.out] at HDD
          by_cases h128 : (x.toNat : Int) < 128
          · have HDE := Lib.hid (HD.out.symm.trans ((congrArg (decR i v) HX.out).trans (HDD.out.trans (if_pos (by omega)))))
            have hq1 : IntKind.u64.wrap ((q : Int) * 128) = IntKind.u64.wrap ((q : Int) * 128) := rfl
            clear hq1
            obtain ⟨uq, huq⟩ : ∃ uq, Hid (IntKind.u64.wrap ((q : Int) * 128) = uq) := ⟨_, Lib.hid rfl⟩
            have huq' := huq.out
            go_wp2_with fail
            refine (signed_any rp l _ n c (at' + 1) bad v2 _ HR6.out HV2.out).mono ?_
            rintro e w7 (⟨g1, rfl, rfl⟩ | ⟨g1, rfl, g2, g3⟩)
            · have G1 := Lib.hid g1; clear g1
              go_wp2_with fail
              go_ret
              exact ⟨zag v2, at' + 1, bad, rfl, HR6.out, HS6.out, .inl ⟨numR_some HDE.out G1.out, rfl⟩⟩
            · have G1 := Lib.hid g1; clear g1
              have G2 := Lib.hid (And.intro g2 g3); clear g2 g3
              go_wp2_with fail
              go_ret
              exact ⟨0, at' + 1, true, rfl, G2.out.1, HS6.out.trans G2.out.2, .inr ⟨numR_big HDE.out G1.out, rfl, rfl⟩⟩
          · have HDE := Lib.hid (HD.out.symm.trans ((congrArg (decR i v) HX.out).trans (HDD.out.trans (if_neg (by omega)))))
            by_cases h9 : i = 9
            · exfalso
              have := HBC.out
              omega
            · have hq1 : IntKind.u64.wrap ((q : Int) * 128) = ((128 ^ (i + 1) : Nat) : Int) := by rw [HQ.out]; exact unit_of i (by omega)
              have HV3 : Hid (v2 < 128 ^ (i + 1)) := Lib.hid (by rw [hv2.out]; exact dec_bound i v _ HV.out (by omega))
              obtain ⟨q2, hq2⟩ : ∃ q2, Hid (q2 = 128 ^ (i + 1)) := ⟨_, Lib.hid rfl⟩
              rw [← hq2.out] at hq1
              go_wp2_with fail
              go_roundw
              case rel => exact ⟨i + 1, v2, q2, at' + 1, rfl, rfl, by go_num, by omega, hq2, HV3, Lib.hid HDE.out.symm, HR6, HS6⟩
              case measure => simp [intOf]; omega
        · by_cases h0 : 0 < i
          · have k9 : ((i : Int) == 9) = false := by simp; omega
            have k0 : decide (0 < i) = true := by simp; omega
            have kc : ((x.toNat : Int) == 0) = false := by simp; omega
            clear hBC h9 h0
            have HDD := Lib.hid (show decR i v (x :: l.drop (at' + 1)) = if x.toNat < 128 then some (v + x.toNat % 128 * 128 ^ i, l.drop (at' + 1)) else decR (i + 1) (v + x.toNat % 128 * 128 ^ i) (l.drop (at' + 1)) by rw [decR, if_neg HBC.out])
            obtain ⟨v2, hv2⟩ : ∃ v2, Hid (v2 = v + x.toNat % 128 * 128 ^ i) := ⟨_, Lib.hid rfl⟩
            have HU := Lib.hid (sum_of i v (x.toNat % 128) hi HV.out (by omega) (fun h9 => by have := HBC.out; have := x.toNat_lt; omega))
            have hu1 : IntKind.u64.wrap ((v : Int) + IntKind.u64.wrap (((x.toNat : Int) % 128) * (q : Int))) = (v2 : Int) := by rw [hv2.out, HQ.out]; exact HU.out.1
            have HV2 : Hid (v2 < 18446744073709551616) := Lib.hid (by rw [hv2.out]; exact HU.out.2)
            rw [← hv2.out] at HDD
            by_cases h128 : (x.toNat : Int) < 128
            · have HDE := Lib.hid (HD.out.symm.trans ((congrArg (decR i v) HX.out).trans (HDD.out.trans (if_pos (by omega)))))
              have hq1 : IntKind.u64.wrap ((q : Int) * 128) = IntKind.u64.wrap ((q : Int) * 128) := rfl
              clear hq1
              obtain ⟨uq, huq⟩ : ∃ uq, Hid (IntKind.u64.wrap ((q : Int) * 128) = uq) := ⟨_, Lib.hid rfl⟩
              have huq' := huq.out
              go_wp2_with fail
              refine (signed_any rp l _ n c (at' + 1) bad v2 _ HR6.out HV2.out).mono ?_
              rintro e w7 (⟨g1, rfl, rfl⟩ | ⟨g1, rfl, g2, g3⟩)
              · have G1 := Lib.hid g1; clear g1
                go_wp2_with fail
                go_ret
                exact ⟨zag v2, at' + 1, bad, rfl, HR6.out, HS6.out, .inl ⟨numR_some HDE.out G1.out, rfl⟩⟩
              · have G1 := Lib.hid g1; clear g1
                have G2 := Lib.hid (And.intro g2 g3); clear g2 g3
                go_wp2_with fail
                go_ret
                exact ⟨0, at' + 1, true, rfl, G2.out.1, HS6.out.trans G2.out.2, .inr ⟨numR_big HDE.out G1.out, rfl, rfl⟩⟩
            · have HDE := Lib.hid (HD.out.symm.trans ((congrArg (decR i v) HX.out).trans (HDD.out.trans (if_neg (by omega)))))
              by_cases h9 : i = 9
              · exfalso
                have := HBC.out
                omega
              · have hq1 : IntKind.u64.wrap ((q : Int) * 128) = ((128 ^ (i + 1) : Nat) : Int) := by rw [HQ.out]; exact unit_of i (by omega)
                have HV3 : Hid (v2 < 128 ^ (i + 1)) := Lib.hid (by rw [hv2.out]; exact dec_bound i v _ HV.out (by omega))
                obtain ⟨q2, hq2⟩ : ∃ q2, Hid (q2 = 128 ^ (i + 1)) := ⟨_, Lib.hid rfl⟩
                rw [← hq2.out] at hq1
                go_wp2_with fail
                go_roundw
                case rel => exact ⟨i + 1, v2, q2, at' + 1, rfl, rfl, by go_num, by omega, hq2, HV3, Lib.hid HDE.out.symm, HR6, HS6⟩
                case measure => simp [intOf]; omega
          · have k9 : ((i : Int) == 9) = false := by simp; omega
            have k0 : decide (0 < i) = false := by simp; omega
            clear hBC h9 h0
            have HDD := Lib.hid (show decR i v (x :: l.drop (at' + 1)) = if x.toNat < 128 then some (v + x.toNat % 128 * 128 ^ i, l.drop (at' + 1)) else decR (i + 1) (v + x.toNat % 128 * 128 ^ i) (l.drop (at' + 1)) by rw [decR, if_neg HBC.out])
            obtain ⟨v2, hv2⟩ : ∃ v2, Hid (v2 = v + x.toNat % 128 * 128 ^ i) := ⟨_, Lib.hid rfl⟩
            have HU := Lib.hid (sum_of i v (x.toNat % 128) hi HV.out (by omega) (fun h9 => by have := HBC.out; have := x.toNat_lt; omega))
            have hu1 : IntKind.u64.wrap ((v : Int) + IntKind.u64.wrap (((x.toNat : Int) % 128) * (q : Int))) = (v2 : Int) := by rw [hv2.out, HQ.out]; exact HU.out.1
            have HV2 : Hid (v2 < 18446744073709551616) := Lib.hid (by rw [hv2.out]; exact HU.out.2)
            rw [← hv2.out] at HDD
            by_cases h128 : (x.toNat : Int) < 128
            · have HDE := Lib.hid (HD.out.symm.trans ((congrArg (decR i v) HX.out).trans (HDD.out.trans (if_pos (by omega)))))
              have hq1 : IntKind.u64.wrap ((q : Int) * 128) = IntKind.u64.wrap ((q : Int) * 128) := rfl
              clear hq1
              obtain ⟨uq, huq⟩ : ∃ uq, Hid (IntKind.u64.wrap ((q : Int) * 128) = uq) := ⟨_, Lib.hid rfl⟩
              have huq' := huq.out
              go_wp2_with fail
              refine (signed_any rp l _ n c (at' + 1) bad v2 _ HR6.out HV2.out).mono ?_
              rintro e w7 (⟨g1, rfl, rfl⟩ | ⟨g1, rfl, g2, g3⟩)
              · have G1 := Lib.hid g1; clear g1
                go_wp2_with fail
                go_ret
                exact ⟨zag v2, at' + 1, bad, rfl, HR6.out, HS6.out, .inl ⟨numR_some HDE.out G1.out, rfl⟩⟩
              · have G1 := Lib.hid g1; clear g1
                have G2 := Lib.hid (And.intro g2 g3); clear g2 g3
                go_wp2_with fail
                go_ret
                exact ⟨0, at' + 1, true, rfl, G2.out.1, HS6.out.trans G2.out.2, .inr ⟨numR_big HDE.out G1.out, rfl, rfl⟩⟩
            · have HDE := Lib.hid (HD.out.symm.trans ((congrArg (decR i v) HX.out).trans (HDD.out.trans (if_neg (by omega)))))
              by_cases h9 : i = 9
              · exfalso
                have := HBC.out
                omega
              · have hq1 : IntKind.u64.wrap ((q : Int) * 128) = ((128 ^ (i + 1) : Nat) : Int) := by rw [HQ.out]; exact unit_of i (by omega)
                have HV3 : Hid (v2 < 128 ^ (i + 1)) := Lib.hid (by rw [hv2.out]; exact dec_bound i v _ HV.out (by omega))
                obtain ⟨q2, hq2⟩ : ∃ q2, Hid (q2 = 128 ^ (i + 1)) := ⟨_, Lib.hid rfl⟩
                rw [← hq2.out] at hq1
                go_wp2_with fail
                go_roundw
                case rel => exact ⟨i + 1, v2, q2, at' + 1, rfl, rfl, by go_num, by omega, hq2, HV3, Lib.hid HDE.out.symm, HR6, HS6⟩
                case measure => simp [intOf]; omega
end Go.Proofs.Ytpjiakgfegnmcaa
