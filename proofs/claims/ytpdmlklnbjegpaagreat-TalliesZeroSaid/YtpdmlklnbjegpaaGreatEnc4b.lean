/- The reference's Numbers. -/
import Derived.Test.YtpdmlklnbjegpaaGreatEnc3
namespace Go.Proofs.YtpdmlklnbjegpaaGreat
open Go.RowKit

theorem rzig_neg {z : Int} (h : I64 z) (hn : z < 0) : IntKind.u64.wrap (IntKind.u64.wrap (2 * IntKind.u64.wrap (wrap64 (-wrap64 (z + 1)))) + 1) = (zig z : Int) := by
  unfold I64 at h
  rw [show wrap64 (z + 1) = z + 1 by unfold wrap64; omega, show wrap64 (-(z + 1)) = -(z + 1) by unfold wrap64; omega]
  simp only [IntKind.wrap_u64]
  unfold zig
  rw [if_neg (by omega)]
  omega
set_option maxHeartbeats 2000000 in
theorem rnumber_any (z : Int) (hz : I64 z) (w : World) :
    Calls Tryz.prog 116 #[.int .i64 z] w fun e w' => ∃ a' c', e = .returned (.slice a' (encZ z).length c') ∧
      w'.ownsRow w.heap.size 5 1 (.slice a' (encZ z).length c') (encZ z).length ((encZ z).map byteV) ∧ Below w.heap.size w w' := by
  have HZ := Lib.hid hz
  obtain ⟨base, hbase⟩ : ∃ base, Hid (w.heap.size = base) := ⟨_, Lib.hid rfl⟩
  rw [hbase.out]
  have hsg : IntKind.u64.signed = false := rfl
  have hL := encZ_len hz
  by_cases hneg : z < 0
  · have hu : Hid (IntKind.u64.wrap (IntKind.u64.wrap (2 * IntKind.u64.wrap (wrap64 (-wrap64 (z + 1)))) + 1) = (zig z : Int)) := Lib.hid (rzig_neg hz hneg)
    go_enter Tryz.func116, Tryz.ntmps116
    go_wp2_with fail
    go_loopw [3, 4] (fun u b wi => ∃ (v m2 : Nat) (ys : List UInt8) (a2 : Option Addr) (c2 : Nat), u = .int .u64 v ∧ b = .slice a2 m2 c2 ∧ v < 18446744073709551616 ∧ Hid (ys ++ encU v = encZ z) ∧ Hid (wi.ownsRow base 5 1 (.slice a2 m2 c2) m2 (ys.map byteV)) ∧ Hid (AppB base w wi)) (fun u _ _ => (intOf u).toNat)
    case atStart => exact ⟨zig z, 0, [], none, 0, congrArg (Value.int .u64) hu.out, rfl, zig_lt HZ.out, Lib.hid rfl, Lib.hid (World.ownsRow_nil _ _ _ _), Lib.hid (AppB.refl _ _)⟩
    case round =>
      obtain ⟨v, m2, ys, a2, c2, rfl, rfl, hv, HY, HW2, HA2⟩ := hrel
      have hm2 : m2 = ys.length := by have := HW2.out.1; simpa using this.symm
      have hle : m2 + (encU v).length ≤ 10 := by
        have h1 := congrArg List.length HY.out
        simp only [List.length_append] at h1
        omega
      have hps := encU_pos v
      subst hm2
      obtain ⟨cb, hcb⟩ : ∃ cb, Hid (cb = UInt8.ofNat (v % 128 + 128)) := ⟨_, Lib.hid rfl⟩
      obtain ⟨cd, hcd⟩ : ∃ cd, Hid (cd = UInt8.ofNat v) := ⟨_, Lib.hid rfl⟩
      have hb2 : base ≤ wr.heap.size := by rw [← hbase.out]; exact HA2.out.size
      by_cases hge : (128 : Int) ≤ v
      · have hq : IntKind.u64.wrap ((v : Int) / 128) = ((v / 128 : Nat) : Int) := by rw [IntKind.wrap_u64]; omega
        go_wp2_with (at_builtin; refine app_one _ rfl _ _ rfl base _ _ _ ys rfl HW2.out cb _ (by rw [hcb.out, toNat_of (by omega)]; first | omega | rfl) rfl (by omega) hb2 ?_)
        intro a3 c3 w3 h1 h2
        have H1 := Lib.hid h1; clear h1
        go_wp2_with fail
        go_roundw
        case rel => exact ⟨v / 128, ys.length + 1, ys ++ [cb], a3, c3, by go_num, rfl, by omega, Lib.hid (by rw [List.append_assoc, List.singleton_append, hcb.out, ← encU_ge (by omega)]; exact HY.out), Lib.hid (by rw [List.map_append]; exact H1.out), Lib.hid (HA2.out.trans h2)⟩
        case measure => simp [intOf]; omega
      · go_wp2_with (at_builtin; refine app_one _ rfl _ _ rfl base _ _ _ ys rfl HW2.out cd (v : Int) (by rw [hcd.out, toNat_of (by omega)]) rfl (by omega) hb2 ?_)
        intro a3 c3 w3 h1 h2
        have H1 := Lib.hid h1; clear h1
        have HE : ys ++ [cd] = encZ z := by rw [hcd.out, ← encU_lt (by omega)]; exact HY.out
        have hl : ys.length + 1 = (encZ z).length := by rw [← HE]; simp
        have hm : (encZ z).map byteV = ys.map byteV ++ [byteV cd] := by rw [← HE, List.map_append]; rfl
        rw [← hm, hl] at H1
        have HH := Lib.hid HE; clear HE
        rw [hl]
        go_wp2_with fail
        go_ret
        exact ⟨_, _, rfl, H1.out, (HA2.out.trans h2).below (by rw [← hbase.out]; exact Nat.le_refl _)⟩
  · have hu : Hid (IntKind.u64.wrap (2 * IntKind.u64.wrap z) = (zig z : Int)) := Lib.hid (zig_pos hz (by omega))
    go_enter Tryz.func116, Tryz.ntmps116
    go_wp2_with fail
    go_loopw [3, 4] (fun u b wi => ∃ (v m2 : Nat) (ys : List UInt8) (a2 : Option Addr) (c2 : Nat), u = .int .u64 v ∧ b = .slice a2 m2 c2 ∧ v < 18446744073709551616 ∧ Hid (ys ++ encU v = encZ z) ∧ Hid (wi.ownsRow base 5 1 (.slice a2 m2 c2) m2 (ys.map byteV)) ∧ Hid (AppB base w wi)) (fun u _ _ => (intOf u).toNat)
    case atStart => exact ⟨zig z, 0, [], none, 0, congrArg (Value.int .u64) hu.out, rfl, zig_lt HZ.out, Lib.hid rfl, Lib.hid (World.ownsRow_nil _ _ _ _), Lib.hid (AppB.refl _ _)⟩
    case round =>
      obtain ⟨v, m2, ys, a2, c2, rfl, rfl, hv, HY, HW2, HA2⟩ := hrel
      have hm2 : m2 = ys.length := by have := HW2.out.1; simpa using this.symm
      have hle : m2 + (encU v).length ≤ 10 := by
        have h1 := congrArg List.length HY.out
        simp only [List.length_append] at h1
        omega
      have hps := encU_pos v
      subst hm2
      obtain ⟨cb, hcb⟩ : ∃ cb, Hid (cb = UInt8.ofNat (v % 128 + 128)) := ⟨_, Lib.hid rfl⟩
      obtain ⟨cd, hcd⟩ : ∃ cd, Hid (cd = UInt8.ofNat v) := ⟨_, Lib.hid rfl⟩
      have hb2 : base ≤ wr.heap.size := by rw [← hbase.out]; exact HA2.out.size
      by_cases hge : (128 : Int) ≤ v
      · have hq : IntKind.u64.wrap ((v : Int) / 128) = ((v / 128 : Nat) : Int) := by rw [IntKind.wrap_u64]; omega
        go_wp2_with (at_builtin; refine app_one _ rfl _ _ rfl base _ _ _ ys rfl HW2.out cb _ (by rw [hcb.out, toNat_of (by omega)]; first | omega | rfl) rfl (by omega) hb2 ?_)
        intro a3 c3 w3 h1 h2
        have H1 := Lib.hid h1; clear h1
        go_wp2_with fail
        go_roundw
        case rel => exact ⟨v / 128, ys.length + 1, ys ++ [cb], a3, c3, by go_num, rfl, by omega, Lib.hid (by rw [List.append_assoc, List.singleton_append, hcb.out, ← encU_ge (by omega)]; exact HY.out), Lib.hid (by rw [List.map_append]; exact H1.out), Lib.hid (HA2.out.trans h2)⟩
        case measure => simp [intOf]; omega
      · go_wp2_with (at_builtin; refine app_one _ rfl _ _ rfl base _ _ _ ys rfl HW2.out cd (v : Int) (by rw [hcd.out, toNat_of (by omega)]) rfl (by omega) hb2 ?_)
        intro a3 c3 w3 h1 h2
        have H1 := Lib.hid h1; clear h1
        have HE : ys ++ [cd] = encZ z := by rw [hcd.out, ← encU_lt (by omega)]; exact HY.out
        have hl : ys.length + 1 = (encZ z).length := by rw [← HE]; simp
        have hm : (encZ z).map byteV = ys.map byteV ++ [byteV cd] := by rw [← HE, List.map_append]; rfl
        rw [← hm, hl] at H1
        have HH := Lib.hid HE; clear HE
        rw [hl]
        go_wp2_with fail
        go_ret
        exact ⟨_, _, rfl, H1.out, (HA2.out.trans h2).below (by rw [← hbase.out]; exact Nat.le_refl _)⟩

end Go.Proofs.YtpdmlklnbjegpaaGreat
namespace Go.Proofs.YtpdmlklnbjegpaaGreat
open Go.RowKit

theorem rd_lt {w : World} {k : Nat} {a : Option Addr} {n c : Nat} {xs : List Value} (hr : RdA w k a n c xs) (h0 : 0 < n) (hk : 0 < k) : ∀ b off, a = some ⟨b, off, none⟩ → b < w.heap.size := by
  intro b off e
  obtain ⟨b', off', e', hc⟩ := hr.at h0
  rw [e] at e'
  cases e'
  have hl : 0 < xs.length := by rw [hr.len]; exact Nat.mul_pos h0 hk
  exact World.block_lt_of_cell? w _ (hc 0 _ (List.getElem?_eq_getElem hl))
set_option maxHeartbeats 4000000 in
theorem rnumbers_any (la : Option Addr) (n lc : Nat) (zs : List Int) (w : World) (hr : RdI w la n lc zs) (hz : ∀ z ∈ zs, I64 z) (hn : n ≤ 1000000) :
    Calls Tryz.prog 117 #[.slice la n lc] w fun e w' => ∃ a' c', e = .returned (.slice a' (encZ n ++ encL zs).length c') ∧
      w'.ownsRow w.heap.size 5 1 (.slice a' (encZ n ++ encL zs).length c') (encZ n ++ encL zs).length ((encZ n ++ encL zs).map byteV) ∧ Below w.heap.size w w' := by
  have hl := Lib.hid hr.len
  have HZ := Lib.hid hz; clear hz
  obtain ⟨base, hbase⟩ : ∃ base, Hid (w.heap.size = base) := ⟨_, Lib.hid rfl⟩
  have hlen : (encZ n ++ encL zs).length ≤ 10000010 := by
    have h1 := encL_len zs HZ.out
    have h2 := encZ_len (z := (n : Int)) (by unfold I64; omega)
    have h3 := hl.out
    rw [List.length_append]
    omega
  have HL := Lib.hid hlen; clear hlen
  have HR := Lib.hid hr
  rw [hbase.out]
  obtain ⟨X, HX⟩ : ∃ X, Hid (X = encZ (n : Int)) := ⟨_, Lib.hid rfl⟩
  go_enter Tryz.func117, Tryz.ntmps117
  go_wp2_with fail
  refine (rnumber_any n (by unfold I64; omega) w).mono ?_
  rintro e w1 ⟨a1, c1, rfl, h1, b1⟩
  rw [hbase.out] at h1 b1
  rw [← HX.out] at h1 HL ⊢
  have H1 := Lib.hid h1; clear h1
  have B1 := Lib.hid b1; clear b1
  obtain ⟨m1, HM1⟩ : ∃ m, Hid (X.length = m) := ⟨_, Lib.hid rfl⟩
  rw [HM1.out] at H1 ⊢
  go_wp2_with fail
  go_loopw [3, 4] (fun b i wr => ∃ (k m : Nat) (a' : Option Addr) (c' : Nat), b = .slice a' m c' ∧ k ≤ n ∧ i = .int .i64 k ∧ Hid (wr.ownsRow base 5 1 (.slice a' m c') m ((X ++ encL (zs.take k)).map byteV)) ∧ Hid (Below base w wr)) (fun _ i _ => n - (intOf i).toNat)
  case atStart => exact ⟨0, m1, a1, c1, rfl, Nat.zero_le _, rfl, Lib.hid (by simpa [encL] using H1.out), B1⟩
  case round =>
    obtain ⟨k, m, a', c', rfl, hk, rfl, HW, HB⟩ := hrel
    by_cases hlt : k < n
    · obtain ⟨b, off, rfl, hc⟩ := RdI.at (hr.below (by rw [hbase.out]; exact HB.out)) (by omega)
      have e1 := hc k hlt
      have hk64 : (k : Int) ≤ 9223372036854775807 := by omega
      have HZK := Lib.hid (HZ.out (zs[k]?.getD 0) (by rw [List.getElem?_eq_getElem (by rw [hl.out]; exact hlt), Option.getD_some]; exact List.getElem_mem _))
      have HT := Lib.hid (encL_take (l := zs) (k := k) (by rw [hl.out]; exact hlt))
      have HLE := Lib.hid (encL_le zs (k + 1))
      have hbs : base ≤ wr.heap.size := by rw [← hbase.out]; exact HB.out.size
      generalize zs[k]?.getD 0 = z at *
      clear hc
      go_wp2_with fail
      refine (rnumber_any z HZK.out wr).mono ?_
      rintro e w2 ⟨a2, c2, rfl, h2, b2⟩
      have H2 := Lib.hid h2; clear h2
      have O2 := Lib.hid (own_below HW.out b2)
      have hm : m = (X ++ encL (zs.take k)).length := by have := O2.out.1; simpa using this.symm
      have hb2 : base ≤ w2.heap.size := Nat.le_trans hbs b2.size
      have B2 := Lib.hid (HB.out.trans (b2.mono hbs)); clear b2
      obtain ⟨m2, HM2⟩ : ∃ m, Hid ((encZ z).length = m) := ⟨_, Lib.hid rfl⟩
      rw [HM2.out] at H2 ⊢
      have hml : m + m2 ≤ 140737488355328 := by
        have h1 := HL.out
        have h2 := HLE.out
        rw [HT.out] at h2
        simp only [List.length_append] at h1 h2 hm
        have h3 := HM2.out
        omega
      clear hm
      go_wp2_with (at_builtin; refine app_bytes _ rfl _ _ rfl base _ _ _ (X ++ encL (zs.take k)) rfl O2.out _ _ _ (encZ z) rfl (RdB.of_own H2.out) hml hb2 ?_)
      intro a3 c3 w3 h3 h4
      have H3 := Lib.hid (show w3.ownsRow base 5 1 (.slice a3 (m + m2) c3) (m + m2) ((X ++ encL (zs.take (k + 1))).map byteV) by rw [HT.out, ← List.append_assoc]; simpa using h3); clear h3
      have B3 := Lib.hid (B2.out.trans ((AppB.of_own O2.out h4).below hb2)); clear h4
      go_wp2_with fail
      go_roundw
      case rel => exact ⟨k + 1, m + m2, a3, c3, by first | rfl | simp, by omega, by go_num, H3, B3⟩
      case measure => simp [intOf]; omega
    · have hkn : k = n := by omega
      subst hkn
      have hm : m = (X ++ encL zs).length := by
        have := HW.out.1
        rw [List.take_of_length_le (by rw [hl.out]; exact Nat.le_refl _)] at this
        simpa using this.symm
      have HWW := Lib.hid (show wr.ownsRow base 5 1 (.slice a' m c') m ((X ++ encL zs).map byteV) by
        have := HW.out
        rwa [List.take_of_length_le (by rw [hl.out]; exact Nat.le_refl _)] at this)
      have HM := Lib.hid hm; clear hm
      go_wp2_with fail
      go_ret
      rw [← HX.out, ← HM.out]
      exact ⟨_, _, rfl, HWW.out, HB.out⟩
end Go.Proofs.YtpdmlklnbjegpaaGreat
