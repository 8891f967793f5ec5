/- put, and the reference's Number: the bytes of numbers behind bytes of the call's own. -/
import Derived.Test.YtpdmlklnbjegpaaGreatAppb
import Derived.Test.YtpdmlklnbjegpaaGreatNotch
namespace Go.Proofs.YtpdmlklnbjegpaaGreat
open Go.RowKit

theorem app_one {ops : Array Oper} {rest : List Oper} {o : Oper} {a : Act} {Q : Exit → Act → World → Prop} (w : World) (hgd : o.guard = none) (s x : Operand)
    (ho : o.op = .call { callee := .builtin .append, args := #[s, x], argTypes := #[41, 41] }) (base : Nat)
    (sa : Option Addr) (sn sc : Nat) (xs : List UInt8) (hs : a.eval s = .slice sa sn sc) (hown : w.ownsRow base 5 1 (.slice sa sn sc) sn (xs.map byteV))
    (c : UInt8) (v : Int) (hv : v = (c.toNat : Int)) (hx : a.eval x = .slice (some ⟨w.heap.size, 0, none⟩) 1 1) (hbytes : sn + 1 ≤ 140737488355328) (hbase : base ≤ w.heap.size)
    (h : ∀ a' c' w', w'.ownsRow base 5 1 (.slice a' (sn + 1) c') (sn + 1) ((xs ++ [c]).map byteV) → AppB base w w' → wpList Tryz.prog ops Q rest (a.put o.dst (.slice a' (sn + 1) c')) w') :
    wpList Tryz.prog ops Q (o :: rest) a (w.alloc (.cells #[.int .u8 v] 5)) := by
  subst hv
  have hb : Below w.heap.size w (w.alloc (.cells #[.int .u8 (c.toNat : Int)] 5)) := (Below.refl _ _).alloc (Nat.le_refl _) _
  have hr : (w.alloc (.cells #[.int .u8 (c.toNat : Int)] 5)).ownsRow w.heap.size 5 1 (.slice (some ⟨w.heap.size, 0, none⟩) 1 1) 1 ([c].map byteV) :=
    World.ownsRow_lit (base := w.heap.size) (e := 5) (size := 1) w #[.int .u8 (c.toNat : Int)] 1 (Nat.le_refl _) (by unfold maxLen; omega) rfl
  have ho2 := own_below hown hb
  exact app_bytes _ hgd s x ho base sa sn sc xs hs ho2 _ 1 1 [c] hx (RdB.of_own hr) hbytes (Nat.le_trans hbase hb.size)
    (fun a' c' w' h1 h2 => h a' c' w' h1 ((AppB.of_below hb).trans (AppB.of_own ho2 h2)))

theorem xor_max (m : Nat) (h : m < 18446744073709551616) : bits .xor .u64 IntKind.u64.max (m : Int) = ((18446744073709551615 - m : Nat) : Int) := by
  have h2 : (BitVec.ofInt 64 (m : Int)).toNat = m := by
    rw [BitVec.ofInt_natCast, BitVec.toNat_ofNat]; exact Nat.mod_eq_of_lt (by omega)
  show IntKind.u64.wrap ((BitVec.ofInt 64 18446744073709551615 ^^^ BitVec.ofInt 64 (m : Int)).toNat : Int) = _
  rw [show BitVec.ofInt 64 18446744073709551615 = BitVec.allOnes 64 from rfl, BitVec.allOnes_xor, BitVec.toNat_not, h2, IntKind.wrap_u64]
  omega
theorem zig_neg {z : Int} (h : I64 z) (hn : z < 0) : bits .xor .u64 IntKind.u64.max (IntKind.u64.wrap (2 * IntKind.u64.wrap z)) = (zig z : Int) := by
  unfold I64 at h
  rw [IntKind.wrap_u64, IntKind.wrap_u64, show 2 * (z % 18446744073709551616) % 18446744073709551616 = ((18446744073709551616 + 2 * z).toNat : Int) by omega, xor_max _ (by omega)]
  unfold zig
  rw [if_neg (by omega)]
  omega
theorem zig_pos {z : Int} (h : I64 z) (hn : 0 ≤ z) : IntKind.u64.wrap (2 * IntKind.u64.wrap z) = (zig z : Int) := by
  unfold I64 at h
  rw [IntKind.wrap_u64, IntKind.wrap_u64]
  unfold zig
  rw [if_pos hn]
  omega
theorem or128 (v : Nat) : bits .or .u8 ((v : Int) % 256) 128 = ((v % 128 + 128 : Nat) : Int) := by
  rw [show (v : Int) % 256 = ((v % 256 : Nat) : Int) by omega, show (128 : Int) = ((128 : Nat) : Int) from rfl, u8_or_nat _ _ (by omega) (by omega)]
  congr 1
  have h1 : v % 256 = v % 256 / 128 * 128 + v % 128 := by omega
  by_cases h : v % 256 < 128
  · rw [Nat.or_comm, nat_join 7 128 (v % 256) (by omega) (by omega)]
    omega
  · have h2 : v % 256 = 128 ||| v % 128 := by rw [nat_join 7 128 (v % 128) (by omega) (by omega)]; omega
    rw [h2, Nat.or_comm, ← Nat.or_assoc, Nat.or_self, nat_join 7 128 (v % 128) (by omega) (by omega)]
    omega
theorem byte_of {n : Nat} (h : n < 256) : (n : Int) = ((UInt8.ofNat n).toNat : Int) := by rw [toNat_of h]
theorem encL_le (zs : List Int) (k : Nat) : (encL (zs.take k)).length ≤ (encL zs).length := by
  have h := encL_append (zs.take k) (zs.drop k)
  rw [List.take_append_drop] at h
  rw [h, List.length_append]
  omega

set_option maxHeartbeats 2000000 in
theorem putn_any (base : Nat) (sa : Option Addr) (sn sc : Nat) (xs : List UInt8) (la : Option Addr) (n lc : Nat) (zs : List Int) (w : World) (hbase : base ≤ w.heap.size)
    (hown : w.ownsRow base 5 1 (.slice sa sn sc) sn (xs.map byteV)) (hr : RdI w la n lc zs) (hap : 0 < n → Apart base w la) (hz : ∀ z ∈ zs, I64 z) (hlen : (xs ++ encL zs).length ≤ 140737488355328) :
    Calls Tryz.prog 105 #[.slice sa sn sc, .slice la n lc] w fun e w' => ∃ a' c', e = .returned (.slice a' (xs ++ encL zs).length c') ∧
      w'.ownsRow base 5 1 (.slice a' (xs ++ encL zs).length c') (xs ++ encL zs).length ((xs ++ encL zs).map byteV) ∧ AppB base w w' := by
  have hn := hr.maxn
  have hl := Lib.hid hr.len
  have HL := Lib.hid hlen; clear hlen
  have HZ := Lib.hid hz; clear hz
  have HO := Lib.hid hown
  have hsn : sn = xs.length := by have := hown.1; simpa using this.symm
  have hsg : IntKind.u64.signed = false := rfl
  clear hown
  have HB := Lib.hid hbase; clear hbase
  go_enter Tryz.func105, Tryz.ntmps105
  go_wp2_with fail
  go_loopw [0, 6, 7, 10] (fun b _ _ i wr => ∃ (k m : Nat) (a' : Option Addr) (c' : Nat), b = .slice a' m c' ∧ k ≤ n ∧ i = .int .i64 k ∧ Hid (wr.ownsRow base 5 1 (.slice a' m c') m ((xs ++ encL (zs.take k)).map byteV)) ∧ Hid (AppB base w wr)) (fun _ _ _ i _ => n - (intOf i).toNat)
  case atStart => exact ⟨0, sn, sa, sc, rfl, Nat.zero_le _, rfl, Lib.hid (by simpa [encL] using HO.out), Lib.hid (AppB.refl _ _)⟩
  case round =>
    obtain ⟨k, m, a', c', rfl, hk, rfl, HW, HA⟩ := hrel
    by_cases hlt : k < n
    · have hap1 := (hap (by omega)).keep' HA.out hr (by omega) (by omega)
      obtain ⟨b, off, rfl, hc⟩ := RdI.at (HA.out.rd hr (hap (by omega))) (by omega)
      have e1 := hc k hlt
      have hk64 : (k : Int) ≤ 9223372036854775807 := by omega
      have hzk := HZ.out (zs[k]?.getD 0) (by rw [List.getElem?_eq_getElem (by rw [hl.out]; exact hlt), Option.getD_some]; exact List.getElem_mem _)
      have HT := Lib.hid (encL_take (l := zs) (k := k) (by rw [hl.out]; exact hlt))
      generalize zs[k]?.getD 0 = z at *
      clear hc
      by_cases hneg : z < 0
      · have hu := zig_neg hzk hneg
        go_wp2_with fail
        go_loopw [0, 7] (fun b u wi => ∃ (v m2 : Nat) (ys : List UInt8) (a2 : Option Addr) (c2 : Nat), b = .slice a2 m2 c2 ∧ u = .int .u64 v ∧ v < 18446744073709551616 ∧ Hid (ys ++ encU v = xs ++ encL (zs.take (k + 1))) ∧ Hid (wi.ownsRow base 5 1 (.slice a2 m2 c2) m2 (ys.map byteV)) ∧ Hid (AppB base w wi)) (fun _ u _ => (intOf u).toNat)
        case atStart => exact ⟨zig z, m, xs ++ encL (zs.take k), a', c', rfl, rfl, zig_lt hzk, Lib.hid (by rw [HT.out, List.append_assoc]; rfl), HW, HA⟩
        case round =>
          obtain ⟨v, m2, ys, a2, c2, rfl, rfl, hv, HY, HW2, HA2⟩ := hrel
          have hm2 : m2 = ys.length := by have := HW2.out.1; simpa using this.symm
          have hle : m2 + (encU v).length ≤ 140737488355328 := by
            have h1 := congrArg List.length HY.out
            have h2 := HL.out
            have h3 := encL_le zs (k + 1)
            simp only [List.length_append] at h1 h2
            omega
          have hps := encU_pos v
          subst hm2
          obtain ⟨cb, hcb⟩ : ∃ cb, Hid (cb = UInt8.ofNat (v % 128 + 128)) := ⟨_, Lib.hid rfl⟩
          obtain ⟨cd, hcd⟩ : ∃ cd, Hid (cd = UInt8.ofNat v) := ⟨_, Lib.hid rfl⟩
          have hb2 : base ≤ wr.heap.size := Nat.le_trans HB.out HA2.out.size
          clear e1
          by_cases hge : (128 : Int) ≤ v
          · have hor := or128 v
            have hq : IntKind.u64.wrap ((v : Int) / 128) = ((v / 128 : Nat) : Int) := by rw [IntKind.wrap_u64]; omega
            go_wp2_with (at_builtin; refine app_one _ rfl _ _ rfl base _ _ _ ys rfl HW2.out cb _ (by rw [hcb.out, toNat_of (by omega)]; first | omega | rfl) rfl (by omega) hb2 ?_)
            intro a3 c3 w3 h1 h2
            have H1 := Lib.hid h1; clear h1
            go_wp2_with fail
            go_roundw
            case rel => exact ⟨v / 128, ys.length + 1, ys ++ [cb], a3, c3, rfl, by go_num, by omega, Lib.hid (by rw [List.append_assoc, List.singleton_append, hcb.out, ← encU_ge (by omega)]; exact HY.out), Lib.hid (by rw [List.map_append]; exact H1.out), Lib.hid (HA2.out.trans h2)⟩
            case measure => simp [intOf]; omega
          · go_wp2_with (at_builtin; refine app_one _ rfl _ _ rfl base _ _ _ ys rfl HW2.out cd (v : Int) (by rw [hcd.out, toNat_of (by omega)]) rfl (by omega) hb2 ?_)
            intro a3 c3 w3 h1 h2
            have H1 := Lib.hid h1; clear h1
            have HE := Lib.hid (show ys ++ [cd] = xs ++ encL (zs.take (k + 1)) by rw [hcd.out, ← encU_lt (by omega)]; exact HY.out)
            go_wp2_with fail
            go_roundw
            case rel => exact ⟨k + 1, ys.length + 1, a3, c3, rfl, by omega, by go_num, Lib.hid (by rw [← HE.out, List.map_append]; exact H1.out), Lib.hid (HA2.out.trans h2)⟩
            case measure => simp [intOf]; omega
      · have hu := zig_pos hzk (by omega)
        go_wp2_with fail
        go_loopw [0, 7] (fun b u wi => ∃ (v m2 : Nat) (ys : List UInt8) (a2 : Option Addr) (c2 : Nat), b = .slice a2 m2 c2 ∧ u = .int .u64 v ∧ v < 18446744073709551616 ∧ Hid (ys ++ encU v = xs ++ encL (zs.take (k + 1))) ∧ Hid (wi.ownsRow base 5 1 (.slice a2 m2 c2) m2 (ys.map byteV)) ∧ Hid (AppB base w wi)) (fun _ u _ => (intOf u).toNat)
        case atStart => exact ⟨zig z, m, xs ++ encL (zs.take k), a', c', rfl, rfl, zig_lt hzk, Lib.hid (by rw [HT.out, List.append_assoc]; rfl), HW, HA⟩
        case round =>
          obtain ⟨v, m2, ys, a2, c2, rfl, rfl, hv, HY, HW2, HA2⟩ := hrel
          have hm2 : m2 = ys.length := by have := HW2.out.1; simpa using this.symm
          have hle : m2 + (encU v).length ≤ 140737488355328 := by
            have h1 := congrArg List.length HY.out
            have h2 := HL.out
            have h3 := encL_le zs (k + 1)
            simp only [List.length_append] at h1 h2
            omega
          have hps := encU_pos v
          subst hm2
          obtain ⟨cb, hcb⟩ : ∃ cb, Hid (cb = UInt8.ofNat (v % 128 + 128)) := ⟨_, Lib.hid rfl⟩
          obtain ⟨cd, hcd⟩ : ∃ cd, Hid (cd = UInt8.ofNat v) := ⟨_, Lib.hid rfl⟩
          have hb2 : base ≤ wr.heap.size := Nat.le_trans HB.out HA2.out.size
          clear e1
          by_cases hge : (128 : Int) ≤ v
          · have hor := or128 v
            have hq : IntKind.u64.wrap ((v : Int) / 128) = ((v / 128 : Nat) : Int) := by rw [IntKind.wrap_u64]; omega
            go_wp2_with (at_builtin; refine app_one _ rfl _ _ rfl base _ _ _ ys rfl HW2.out cb _ (by rw [hcb.out, toNat_of (by omega)]; first | omega | rfl) rfl (by omega) hb2 ?_)
            intro a3 c3 w3 h1 h2
            have H1 := Lib.hid h1; clear h1
            go_wp2_with fail
            go_roundw
            case rel => exact ⟨v / 128, ys.length + 1, ys ++ [cb], a3, c3, rfl, by go_num, by omega, Lib.hid (by rw [List.append_assoc, List.singleton_append, hcb.out, ← encU_ge (by omega)]; exact HY.out), Lib.hid (by rw [List.map_append]; exact H1.out), Lib.hid (HA2.out.trans h2)⟩
            case measure => simp [intOf]; omega
          · go_wp2_with (at_builtin; refine app_one _ rfl _ _ rfl base _ _ _ ys rfl HW2.out cd (v : Int) (by rw [hcd.out, toNat_of (by omega)]) rfl (by omega) hb2 ?_)
            intro a3 c3 w3 h1 h2
            have H1 := Lib.hid h1; clear h1
            have HE := Lib.hid (show ys ++ [cd] = xs ++ encL (zs.take (k + 1)) by rw [hcd.out, ← encU_lt (by omega)]; exact HY.out)
            go_wp2_with fail
            go_roundw
            case rel => exact ⟨k + 1, ys.length + 1, a3, c3, rfl, by omega, by go_num, Lib.hid (by rw [← HE.out, List.map_append]; exact H1.out), Lib.hid (HA2.out.trans h2)⟩
            case measure => simp [intOf]; omega
    · have hkn : k = n := by omega
      subst hkn
      have hm : m = (xs ++ encL zs).length := by
        have := HW.out.1
        rw [List.take_of_length_le (by rw [hl.out]; exact Nat.le_refl _)] at this
        simpa using this.symm
      have HWW := Lib.hid (show wr.ownsRow base 5 1 (.slice a' m c') m ((xs ++ encL zs).map byteV) by
        have := HW.out
        rwa [List.take_of_length_le (by rw [hl.out]; exact Nat.le_refl _)] at this)
      subst hm
      go_wp2_with fail
      go_ret
      exact ⟨_, _, rfl, HWW.out, HA.out⟩
end Go.Proofs.YtpdmlklnbjegpaaGreat
