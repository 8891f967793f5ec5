/- Sticks: the walk of a crash that goes through. -/
import Derived.Test.YtpdmlklnbjegpaaGreatCrash2
namespace Go.Proofs.YtpdmlklnbjegpaaGreat
open Go.RowKit

theorem Same.trans2 {F F1 : Nat → Prop} {a b c : World} (h : Same F a b) (k : Same F1 b c) (hF : ∀ k, F1 k → F k ∨ a.heap.size ≤ k) : Same F a c :=
  ⟨k.os.trans h.os, k.tape.trans h.tape, k.output.trans h.output, Nat.le_trans h.size k.size, fun i hi hs => (k.block i (Nat.lt_of_lt_of_le hi h.size) (fun h1 => by
    rcases hF i h1 with h2 | h2
    · exact hs h2
    · omega)).trans (h.block i hi hs)⟩

theorem xor_bytes (x y : UInt8) : bits .xor .u8 (x.toNat : Int) (y.toNat : Int) = ((x ^^^ y).toNat : Int) := by
  have hx := x.toNat_lt
  have hy := y.toNat_lt
  have h : x.toNat ^^^ y.toNat < 2 ^ 8 := Nat.xor_lt_two_pow hx hy
  show IntKind.u8.wrap (((BitVec.ofInt 8 (x.toNat : Int)) ^^^ (BitVec.ofInt 8 (y.toNat : Int)) : BitVec 8)).toNat = _
  rw [BitVec.ofInt_natCast, BitVec.ofInt_natCast, BitVec.toNat_xor, BitVec.toNat_ofNat, BitVec.toNat_ofNat, Nat.mod_eq_of_lt hx, Nat.mod_eq_of_lt hy, IntKind.wrap_u8, UInt8.toNat_xor]
  omega
theorem mask_eq (b : Nat) : ((2 : Int) ^ b % 256) = ((UInt8.ofNat (2 ^ b)).toNat : Int) := by
  rw [UInt8.toNat_ofNat']
  simp

theorem Stk.self {w : World} {p : Nat} {F : Nat → Prop} {sb fb : List UInt8} {sd fd : Nat} (h : Stk w p F sb fb sd fd) : F p := by
  obtain ⟨sa, sc, fa, fc, h1, h2, h3, h4, h5, h6⟩ := h
  exact (h5 p).2 (.inl rfl)

set_option maxHeartbeats 1000000 in
theorem crash_yes (w : World) (p : Nat) (F : Nat → Prop) (sb fb : List UInt8) (sd fd : Nat) (stock foil : Nat) (flip : Int) (h : Stk w p F sb fb sd fd) (hc : CrashOk sb fb sd fd stock foil flip) :
    Calls Tryz.prog 25 #[.pointer (some ⟨p, 0, none⟩), .int .i64 stock, .int .i64 foil, .int .i64 flip] w fun e w' => e = .returned (.int .i64 0) ∧
      ∃ F', Stk w' p F' (crashS sb sd stock flip) (crashF fb fd stock foil flip) (crashS sb sd stock flip).length (crashF fb fd stock foil flip).length ∧ Same F w w' ∧ (∀ k, F' k → F k ∨ w.heap.size ≤ k) := by
  obtain ⟨c1, c2, c3, c4, c5, c6⟩ := hc
  have hq : ∀ q, Stk (w.drewN q) p F sb fb sd fd := fun q => h.same (S := fun _ => False) (Same.of_below (below_drewN (Below.refl _ _) q)) (fun _ e => e.elim)
  obtain ⟨_, _, _, _, _, _, _, _, _, g6, g7, g8, g9⟩ := id h
  have P1 : ∀ q, Calls Tryz.prog 61 #[.pointer (some ⟨p, 0, none⟩)] (w.drewN q) fun e w' => e = .returned (.int .i64 ((sb.length : Int) - sd)) ∧ ∃ q', w' = w.drewN q' := by
    intro q
    obtain ⟨a, c, j, _⟩ := (hq q).j0
    refine (jpending_any _ _ _ _ _ _ _ j g6 (by omega)).mono ?_
    rintro e w' ⟨rfl, q', rfl⟩
    exact ⟨rfl, q + q', by rw [World.drewN_drewN]⟩
  have P2 : ∀ q, Calls Tryz.prog 61 #[.pointer (some ⟨p, 2, none⟩)] (w.drewN q) fun e w' => e = .returned (.int .i64 ((fb.length : Int) - fd)) ∧ ∃ q', w' = w.drewN q' := by
    intro q
    obtain ⟨a, c, j, _⟩ := (hq q).j2
    refine (jpending_any _ _ _ _ _ _ _ j g7 (by omega)).mono ?_
    rintro e w' ⟨rfl, q', rfl⟩
    exact ⟨rfl, q + q', by rw [World.drewN_drewN]⟩
  have H1 := Lib.hid P1; clear P1
  have H2 := Lib.hid P2; clear P2
  have HQ := Lib.hid hq; clear hq
  have HP := Lib.hid h.self; clear h
  have q1 : decide ((stock : Int) < 0) = false := by simp
  have q2 : decide ((sb.length : Int) - sd < stock) = false := by simp; omega
  have q3 : decide ((foil : Int) < 0) = false := by simp
  have q4 : decide ((fb.length : Int) - fd < foil) = false := by simp; omega
  have q5 : decide (flip < -1) = false := by simp; omega
  have q6 : decide (8 * ((stock : Int) + foil) ≤ flip) = false := by simp; omega
  go_enter Tryz.func25, Tryz.ntmps25
  go_wp2_with fail
  refine (H1.out 0).mono ?_
  rintro e w' ⟨rfl, q, rfl⟩
  go_wp2_with fail
  refine (H2.out q).mono ?_
  rintro e w' ⟨rfl, q', rfl⟩
  have hS := HQ.out q'
  have hbq : Below w.heap.size w (w.drewN q') := below_drewN (Below.refl _ _) q'
  have HB := Lib.hid hbq; clear hbq
  go_wp2_with fail
  generalize w.drewN q' = w0 at *
  have hb0 := HB.out
  have hz0 := hb0.size
  obtain ⟨a0, k0, j0, o0⟩ := hS.j0
  refine (jkeep_any w0 p 0 a0 sb.length k0 sd sb j0 (RdB.of_own o0) stock (by omega) (by omega)).mono ?_
  rintro e w' ⟨rfl, a1, k1, w1, ho1, hb1, rfl⟩
  obtain ⟨F1, hS1, hF1, hF1'⟩ := hS.setStock hb1 ho1 (by omega) (by omega)
  clear j0 o0 hb1 ho1
  go_wp2_with fail
  generalize w1.setCell ⟨p, 0, none⟩ (.slice a1 (sd + stock) k1) = w2 at *
  obtain ⟨a2, k2, j2, o2⟩ := hS1.j2
  refine (jkeep_any w2 p 2 a2 fb.length k2 fd fb j2 (RdB.of_own o2) foil (by omega) (by omega)).mono ?_
  rintro e w' ⟨rfl, a3, k3, w3, ho3, hb3, rfl⟩
  obtain ⟨F2, hS2, hF2, hF2'⟩ := hS1.setFoil hb3 ho3 (by omega) (by omega)
  clear j2 o2 hb3 ho3
  have hSame : Same F w (w3.setCell ⟨p, 2, none⟩ (.slice a3 (fd + foil) k3)) := ((Same.of_below hb0).trans2 hF1 (fun k hk => .inl hk)).trans2 hF2 (fun k hk => by
    rcases hF1' k hk with h | h
    · exact .inl h
    · exact .inr (by omega))
  have hFoot : ∀ k, F2 k → F k ∨ w.heap.size ≤ k := fun k hk => by
    rcases hF2' k hk with h | h
    · rcases hF1' k h with h | h
      · exact .inl h
      · exact .inr (by omega)
    · have := hF1.size; exact .inr (by omega)
  have HS := Lib.hid hSame; clear hSame
  have HF := Lib.hid hFoot; clear hFoot hF1 hF1' hF2 hF2' hS hS1
  by_cases hm : flip < 0
  · have e1 : crashS sb sd stock flip = sb.take (sd + stock) := by unfold crashS; rw [if_neg (by omega)]
    have e2 : crashF fb fd stock foil flip = fb.take (fd + foil) := by unfold crashF; rw [if_neg (by omega)]
    have E1 := Lib.hid e1; clear e1
    have E2 := Lib.hid e2; clear e2
    go_wp2_with fail
    generalize w3.setCell ⟨p, 2, none⟩ (.slice a3 (fd + foil) k3) = w4 at *
    refine (sync_any _ _ _ _ _ _ _ hS2).mono ?_
    rintro e w' ⟨rfl, hS3, hF3⟩
    go_wp2_with fail
    go_ret
    rw [E1.out, E2.out]
    exact ⟨rfl, F2, hS3, HS.out.trans2 hF3 (fun k hk => .inl (by subst hk; exact HP.out)), HF.out⟩
  · obtain ⟨f, rfl⟩ := Int.eq_ofNat_of_zero_le (show 0 ≤ flip by omega)
    go_wp2_with fail
    go_quiet (fail)
    have hS3 := hS2.same (S := fun _ => False) (Same.of_below (below_drewN (Below.refl _ _) nq)) (fun _ e => e.elim)
    have hA : (f : Int) / 8 = ((f / 8 : Nat) : Int) := by omega
    have hlen1 : (sb.take (sd + stock)).length = sd + stock := by rw [List.length_take]; omega
    have hlen2 : (fb.take (fd + foil)).length = fd + foil := by rw [List.length_take]; omega
    have HL1 := Lib.hid hlen1; clear hlen1
    have HL2 := Lib.hid hlen2; clear hlen2
    have hS0 := HS.out.trans (Same.of_below (S := F) (below_drewN (Below.refl _ _) nq))
    have HS0 := Lib.hid hS0; clear hS0
    rw [mask_eq, hA]
    clear hA hS2 HS
    generalize (w3.setCell ⟨p, 2, none⟩ (.slice a3 (fd + foil) k3)).drewN nq = w4 at *
    by_cases hat : f / 8 < stock
    · have e1 : crashS sb sd stock f = flipAt (sb.take (sd + stock)) (sd + f / 8) (f % 8) := by unfold crashS; rw [if_pos (by simp; exact hat)]; simp
      have e2 : crashF fb fd stock foil f = fb.take (fd + foil) := by unfold crashF; rw [if_neg (by simp; omega)]
      have E1 := Lib.hid e1; clear e1
      have E2 := Lib.hid e2; clear e2
      obtain ⟨g, k, y1, y2, y3, y4, hS4, hF4⟩ := hS3.flipS (sd + f / 8) (by rw [HL1.out]; omega) (((sb.take (sd + stock))[sd + f / 8]?.getD 0) ^^^ UInt8.ofNat (2 ^ (f % 8)))
      rw [HL1.out] at y1
      have hx := xor_bytes ((sb.take (sd + stock))[sd + f / 8]?.getD 0) (UInt8.ofNat (2 ^ (f % 8)))
      have E3 : Hid (flipAt (sb.take (sd + stock)) (sd + f / 8) (f % 8) = (sb.take (sd + stock)).set (sd + f / 8) (((sb.take (sd + stock))[sd + f / 8]?.getD 0) ^^^ UInt8.ofNat (2 ^ (f % 8)))) := show _ = _ from rfl
      generalize (sb.take (sd + stock))[sd + f / 8]?.getD 0 = bt at *
      generalize UInt8.ofNat (2 ^ (f % 8)) = mk at *
      generalize f / 8 = A at *
      have HS4 := Lib.hid hS4; clear hS4
      have HF4 := Lib.hid hF4; clear hF4 hS3
      clear w0 hb0 hz0 HB H1 H2 HQ
      go_wp2_with fail
      go_region
      rw [← UInt8.toNat_xor]
      have hS5 := HS4.out.same (S := fun _ => False) (w' := (w4.setCell ⟨g, sd + A, none⟩ (.int .u8 ((bt ^^^ mk).toNat : Int))).drew) (Same.of_below (below_drewN (Below.refl _ _) 1)) (fun _ e => e.elim)
      have hF5 : Same F2 w4 (w4.setCell ⟨g, sd + A, none⟩ (.int .u8 ((bt ^^^ mk).toNat : Int))).drew := HF4.out.trans (Same.of_below (below_drewN (Below.refl _ _) 1))
      generalize (w4.setCell ⟨g, sd + A, none⟩ (.int .u8 ((bt ^^^ mk).toNat : Int))).drew = w5 at *
      have HF5 := Lib.hid hF5; clear hF5 HS4 HF4 y1 y2 y3 y4 hx
      go_wp2_with fail
      refine (sync_any _ _ _ _ _ _ _ hS5).mono ?_
      rintro e w' ⟨rfl, hS6, hF6⟩
      go_wp2_with fail
      go_ret
      rw [E1.out, E2.out, E3.out]
      exact ⟨rfl, F2, hS6, (HS0.out.trans2 HF5.out HF.out).trans2 hF6 (fun k hk => .inl (by subst hk; exact HP.out)), HF.out⟩
    · have e1 : crashS sb sd stock f = sb.take (sd + stock) := by unfold crashS; rw [if_neg (by simp; omega)]
      have e2 : crashF fb fd stock foil f = flipAt (fb.take (fd + foil)) (fd + f / 8 - stock) (f % 8) := by unfold crashF; rw [if_pos (by simp; omega)]; simp
      have E1 := Lib.hid e1; clear e1
      have E2 := Lib.hid e2; clear e2
      have hlt : fd + f / 8 - stock < fd + foil := by omega
      obtain ⟨g, k, y1, y2, y3, y4, hS4, hF4⟩ := hS3.flipF (fd + f / 8 - stock) (by rw [HL2.out]; exact hlt) (((fb.take (fd + foil))[fd + f / 8 - stock]?.getD 0) ^^^ UInt8.ofNat (2 ^ (f % 8)))
      rw [HL2.out] at y1
      have hx := xor_bytes ((fb.take (fd + foil))[fd + f / 8 - stock]?.getD 0) (UInt8.ofNat (2 ^ (f % 8)))
      have E3 : Hid (flipAt (fb.take (fd + foil)) (fd + f / 8 - stock) (f % 8) = (fb.take (fd + foil)).set (fd + f / 8 - stock) (((fb.take (fd + foil))[fd + f / 8 - stock]?.getD 0) ^^^ UInt8.ofNat (2 ^ (f % 8)))) := show _ = _ from rfl
      generalize (fb.take (fd + foil))[fd + f / 8 - stock]?.getD 0 = bt at *
      generalize UInt8.ofNat (2 ^ (f % 8)) = mk at *
      have HS4 := Lib.hid hS4; clear hS4
      have HF4 := Lib.hid hF4; clear hF4 hS3
      clear w0 hb0 hz0 HB H1 H2 HQ
      go_wp2_with fail
      go_region
      rw [← UInt8.toNat_xor]
      have hS5 := HS4.out.same (S := fun _ => False) (w' := (w4.setCell ⟨g, fd + f / 8 - stock, none⟩ (.int .u8 ((bt ^^^ mk).toNat : Int))).drew) (Same.of_below (below_drewN (Below.refl _ _) 1)) (fun _ e => e.elim)
      have hF5 : Same F2 w4 (w4.setCell ⟨g, fd + f / 8 - stock, none⟩ (.int .u8 ((bt ^^^ mk).toNat : Int))).drew := HF4.out.trans (Same.of_below (below_drewN (Below.refl _ _) 1))
      generalize (w4.setCell ⟨g, fd + f / 8 - stock, none⟩ (.int .u8 ((bt ^^^ mk).toNat : Int))).drew = w5 at *
      have HF5 := Lib.hid hF5; clear hF5 HS4 HF4 y1 y2 y3 y4 hx
      go_wp2_with fail
      refine (sync_any _ _ _ _ _ _ _ hS5).mono ?_
      rintro e w' ⟨rfl, hS6, hF6⟩
      go_wp2_with fail
      go_ret
      rw [E1.out, E2.out, E3.out]
      exact ⟨rfl, F2, hS6, (HS0.out.trans2 HF5.out HF.out).trans2 hF6 (fun k hk => .inl (by subst hk; exact HP.out)), HF.out⟩
end Go.Proofs.YtpdmlklnbjegpaaGreat
