/- The reference's encode. -/
import Derived.Test.YtpdmlklnbjegpaaGreatEnc4b
import Derived.Test.YtpdmlklnbjegpaaGreatEnc4c
namespace Go.Proofs.YtpdmlklnbjegpaaGreat
open Go.RowKit
theorem aheadI_cell (n : NoteV) : ∀ k, k < 15 → ((aheadN n).map intV).toArray[k]? = some (.int .i64 ((aheadN n)[k]?.getD 0))
  | 0, _ => rfl
  | 1, _ => rfl
  | 2, _ => rfl
  | 3, _ => rfl
  | 4, _ => rfl
  | 5, _ => rfl
  | 6, _ => rfl
  | 7, _ => rfl
  | 8, _ => rfl
  | 9, _ => rfl
  | 10, _ => rfl
  | 11, _ => rfl
  | 12, _ => rfl
  | 13, _ => rfl
  | 14, _ => rfl
  | k + 15, h => absurd h (by omega)
theorem behindI_cell (n : NoteV) : ∀ k, k < 3 → ((behindN n).map intV).toArray[k]? = some (.int .i64 ((behindN n)[k]?.getD 0))
  | 0, _ => rfl
  | 1, _ => rfl
  | 2, _ => rfl
  | k + 3, h => absurd h (by omega)
section
variable (n : NoteV) (sa : Option Addr) (sc : Nat) (w : World)
set_option maxHeartbeats 4000000 in
set_option maxRecDepth 100000 in
theorem rencd_any (hs : RdI w sa n.strokes.length sc n.strokes) (hsm : SmallN n) (hlen : n.strokes.length ≤ 1000000) :
    Calls Tryz.prog 76 #[.agg (noteA n sa sc)] w fun e w' => ∃ a' c', e = .returned (.slice a' (encN n).length c') ∧
      w'.ownsRow w.heap.size 5 1 (.slice a' (encN n).length c') (encN n).length ((encN n).map byteV) ∧ Below w.heap.size w w' := by
  obtain ⟨xs, hxs⟩ : ∃ xs : List UInt8, Hid (xs = []) := ⟨_, Lib.hid rfl⟩
  have hN := encN_len n hsm
  have hT : encN n = xs ++ encL (aheadN n) ++ (encZ (n.strokes.length : Int) ++ encL n.strokes) ++ encL (behindN n) := by
    rw [hxs.out]
    unfold encN
    simp only [List.nil_append, List.append_assoc]
  rw [hT] at hN
  have HLP : Hid ((xs ++ encL (aheadN n)).length ≤ 140737488355328) := Lib.hid (by simp only [List.length_append] at hN ⊢; omega)
  have HL3 : Hid ((xs ++ encL (aheadN n) ++ (encZ (n.strokes.length : Int) ++ encL n.strokes) ++ encL (behindN n)).length ≤ 140737488355328) := Lib.hid (by omega)
  clear hN hT
  have I43 := Lib.hid (show ∀ (m : NoteV) (a : Option Addr) (c : Nat), (Tryz.prog.info? 47).map (·.size) = some (noteA m a c).size from fun m a c => by kernel_rfl)
  have hlast := heap_last w (.cells (noteA n sa sc) 47)
  have bb : Below w.heap.size w (w.alloc (.cells (noteA n sa sc) 47)) := (Below.refl _ _).alloc (Nat.le_refl _) _
  have hlt : w.heap.size < (w.alloc (.cells (noteA n sa sc) 47)).heap.size := by simp
  have H0 := Lib.hid (And.intro hlast (And.intro bb hlt)); clear hlast bb hlt
  obtain ⟨base, hbase⟩ : ∃ base, Hid (w.heap.size = base) := ⟨_, Lib.hid rfl⟩
  go_enter Tryz.func76, Tryz.ntmps76
  go_upto_region 1 with fail
  generalize w.alloc (.cells (noteA n sa sc) 47) = w0 at *
  rw [hbase.out]
  rw [hbase.out] at H0
  have hbw : Hid (base ≤ w.heap.size) := Lib.hid (by rw [hbase.out]; exact Nat.le_refl _)
  go_wp2_with (refine wpList_load_row rfl 47 _ rfl base rfl 47 (noteA n sa sc) (0, 0) _ H0.out.1 Tryz.underlying47 rfl (I43.out _ _ _) ?_)
  refine (rfields_any n sa sc w0).mono ?_
  rintro e wf ⟨P, Q, rfl, g1, g2, _, _, b1⟩
  have hlb := Nat.le_of_lt H0.out.2.2
  have AW : Hid (AppB base w wf) := Lib.hid ⟨(b1.mono hlb).os.trans H0.out.2.1.os, (b1.mono hlb).tape.trans H0.out.2.1.tape, (b1.mono hlb).output.trans H0.out.2.1.output, Nat.le_trans H0.out.2.1.size b1.size, fun k hk _ => by rw [hbase.out] at hk; exact (b1.block k (Nat.lt_trans hk H0.out.2.2)).trans (H0.out.2.1.block k hk)⟩
  have hn1 := (b1.block _ H0.out.2.2).trans H0.out.1
  have LN := Lib.hid (And.intro (show base < wf.heap.size from (Array.getElem?_eq_some_iff.1 hn1).1) (And.intro (show ¬ U8 base wf base from not_U8 hn1 (by decide)) hn1))
  have LP := Lib.hid (And.intro (show P < wf.heap.size from (Array.getElem?_eq_some_iff.1 g1).1) (And.intro (show ¬ U8 base wf P from not_U8 g1 (by decide)) g1))
  have LQ := Lib.hid (And.intro (show Q < wf.heap.size from (Array.getElem?_eq_some_iff.1 g2).1) (And.intro (show ¬ U8 base wf Q from not_U8 g2 (by decide)) g2))
  have HB : Hid (base ≤ wf.heap.size) := Lib.hid (Nat.le_of_lt LN.out.1)
  clear g1 g2 hn1 b1 H0 hlb
  go_wp2_with fail
  go_loopw [5, 6] (fun b i wr => ∃ (k m : Nat) (a' : Option Addr) (c' : Nat), b = .slice a' m c' ∧ k ≤ 15 ∧ i = .int .i64 k ∧ Hid (wr.ownsRow base 5 1 (.slice a' m c') m ((xs ++ encL ((aheadN n).take k)).map byteV)) ∧ Hid (AppB base wf wr)) (fun _ i _ => 15 - (intOf i).toNat)
  case atStart => exact ⟨0, 0, none, 0, rfl, Nat.zero_le _, rfl, Lib.hid (by rw [hxs.out]; exact World.ownsRow_nil _ _ _ _), Lib.hid (AppB.refl _ _)⟩
  case round =>
    obtain ⟨k, m, a', c', rfl, hk, rfl, HW, HA⟩ := hrel
    by_cases hlt : k < 15
    · have e1 : wr.cell? ⟨P, k, none⟩ = some (.int .i64 ((aheadN n)[k]?.getD 0)) := cell_of ((HA.out.block _ LP.out.1 LP.out.2.1).trans LP.out.2.2) _ _ (aheadI_cell n k hlt)
      have HZK := Lib.hid (show I64 ((aheadN n)[k]?.getD 0) from smallI (hsm.1 _ (by rw [List.getElem?_eq_getElem (show k < (aheadN n).length from hlt), Option.getD_some]; exact List.getElem_mem _)))
      have HT := Lib.hid (encL_take (l := aheadN n) (k := k) hlt)
      have HLE := Lib.hid (encL_le (aheadN n) (k + 1))
      have hz63 : (k : Int) ≤ 9223372036854775807 := by omega
      have hbs : base ≤ wr.heap.size := Nat.le_trans HB.out HA.out.size
      generalize (aheadN n)[k]?.getD 0 = z at *
      go_wp2_with fail
      refine (rnumber_any z HZK.out wr).mono ?_
      rintro e w2 ⟨a2, c2, rfl, h2, b2⟩
      have H2 := Lib.hid h2; clear h2
      have O2 := Lib.hid (own_below HW.out b2)
      have hm : m = (xs ++ encL ((aheadN n).take k)).length := by have := O2.out.1; simpa using this.symm
      have hb2 : base ≤ w2.heap.size := Nat.le_trans hbs b2.size
      have B2 := Lib.hid (HA.out.trans (AppB.of_below b2)); clear b2
      obtain ⟨m2, HM2⟩ : ∃ m, Hid ((encZ z).length = m) := ⟨_, Lib.hid rfl⟩
      rw [HM2.out] at H2 ⊢
      have hml : m + m2 ≤ 140737488355328 := by
        have h1 := HLP.out
        have h2 := HLE.out
        rw [HT.out] at h2
        simp only [List.length_append] at h1 h2 hm
        have h3 := HM2.out
        omega
      clear hm
      go_wp2_with (at_builtin; refine app_bytes _ rfl _ _ rfl base _ _ _ (xs ++ encL ((aheadN n).take k)) rfl O2.out _ _ _ (encZ z) rfl (RdB.of_own H2.out) hml hb2 ?_)
      intro a3 c3 w3 h3 h4
      have H3 := Lib.hid (show w3.ownsRow base 5 1 (.slice a3 (m + m2) c3) (m + m2) ((xs ++ encL ((aheadN n).take (k + 1))).map byteV) by rw [HT.out, ← List.append_assoc]; simpa using h3); clear h3
      have B3 := Lib.hid (B2.out.trans (AppB.of_own O2.out h4)); clear h4
      go_wp2_with fail
      go_roundw
      case rel => exact ⟨k + 1, m + m2, a3, c3, by first | rfl | simp, by omega, by go_num, H3, B3⟩
      case measure => simp [intOf]; omega
    · have hkn : k = 15 := by omega
      subst hkn
      have HX : Hid ((aheadN n).take 15 = aheadN n) := Lib.hid rfl
      rw [HX.out] at HW
      have hm : m = (xs ++ encL (aheadN n)).length := by
        have := HW.out.1
        simpa using this.symm
      have e15 : wr.cell? ⟨base, 15, none⟩ = some (.slice sa n.strokes.length sc) := cell_of ((HA.out.block _ LN.out.1 LN.out.2.1).trans LN.out.2.2) _ _ rfl
      have HSB := Lib.hid (Nat.le_trans HB.out HA.out.size)
      have HM := Lib.hid hm; clear hm
      go_wp2_with fail
      refine (rnumbers_any _ _ _ n.strokes _ (hs.below (by rw [hbase.out]; exact (AW.out.below hbw.out).trans (HA.out.below HB.out))) (fun z hz => smallI (hsm.2.1 z hz)) hlen).mono ?_
      rintro e w2 ⟨a2, c2, rfl, h2, b2⟩
      have H2 := Lib.hid h2; clear h2
      have O2 := Lib.hid (own_below HW.out b2)
      have hb2 : base ≤ w2.heap.size := Nat.le_trans HSB.out b2.size
      have B2 := Lib.hid (HA.out.trans (AppB.of_below b2)); clear b2 e15
      obtain ⟨m2, HM2⟩ : ∃ m, Hid ((encZ (n.strokes.length : Int) ++ encL n.strokes).length = m) := ⟨_, Lib.hid rfl⟩
      rw [HM2.out] at H2 ⊢
      have hml : m + m2 ≤ 140737488355328 := by
        have h1 := HL3.out
        rw [HM.out, ← HM2.out]
        simp only [List.length_append] at h1 ⊢
        omega
      go_wp2_with (at_builtin; refine app_bytes _ rfl _ _ rfl base _ _ _ (xs ++ encL (aheadN n)) rfl O2.out _ _ _ (encZ (n.strokes.length : Int) ++ encL n.strokes) rfl (RdB.of_own H2.out) hml hb2 ?_)
      intro a3 c3 w3 h3 h4
      obtain ⟨X, HXX⟩ : ∃ X, Hid (X = xs ++ encL (aheadN n) ++ (encZ (n.strokes.length : Int) ++ encL n.strokes)) := ⟨_, Lib.hid rfl⟩
      obtain ⟨m3, HM3⟩ : ∃ m3, Hid (m3 = m + m2) := ⟨_, Lib.hid rfl⟩
      rw [← HM3.out] at h3 ⊢
      have H3 := Lib.hid (show w3.ownsRow base 5 1 (.slice a3 m3 c3) m3 (X.map byteV) by rw [HXX.out]; simpa using h3); clear h3
      have A3 := Lib.hid (B2.out.trans (AppB.of_own O2.out h4)); clear h4
      have HLQ : Hid ((X ++ encL (behindN n)).length ≤ 140737488355328) := Lib.hid (by rw [HXX.out]; exact HL3.out)
      go_wp2_with fail
      go_loopw [5, 7] (fun b i wr => ∃ (k m : Nat) (a' : Option Addr) (c' : Nat), b = .slice a' m c' ∧ k ≤ 3 ∧ i = .int .i64 k ∧ Hid (wr.ownsRow base 5 1 (.slice a' m c') m ((X ++ encL ((behindN n).take k)).map byteV)) ∧ Hid (AppB base wf wr)) (fun _ i _ => 3 - (intOf i).toNat)
      case atStart => exact ⟨0, _, a3, c3, rfl, Nat.zero_le _, rfl, Lib.hid (by simpa [encL] using H3.out), A3⟩
      case round =>
        obtain ⟨k, m, a', c', rfl, hk, rfl, HW, HA⟩ := hrel
        by_cases hlt : k < 3
        · have e1 : wr.cell? ⟨Q, k, none⟩ = some (.int .i64 ((behindN n)[k]?.getD 0)) := cell_of ((HA.out.block _ LQ.out.1 LQ.out.2.1).trans LQ.out.2.2) _ _ (behindI_cell n k hlt)
          have HZK := Lib.hid (show I64 ((behindN n)[k]?.getD 0) from smallI (hsm.2.2.1 _ (by rw [List.getElem?_eq_getElem (show k < (behindN n).length from hlt), Option.getD_some]; exact List.getElem_mem _)))
          have HT := Lib.hid (encL_take (l := behindN n) (k := k) hlt)
          have HLE := Lib.hid (encL_le (behindN n) (k + 1))
          have hz63 : (k : Int) ≤ 9223372036854775807 := by omega
          have hbs : base ≤ wr.heap.size := Nat.le_trans HB.out HA.out.size
          generalize (behindN n)[k]?.getD 0 = z at *
          go_wp2_with fail
          refine (rnumber_any z HZK.out wr).mono ?_
          rintro e w2 ⟨a2, c2, rfl, h2, b2⟩
          have H2 := Lib.hid h2; clear h2
          have O2 := Lib.hid (own_below HW.out b2)
          have hm : m = (X ++ encL ((behindN n).take k)).length := by have := O2.out.1; simpa using this.symm
          have hb2 : base ≤ w2.heap.size := Nat.le_trans hbs b2.size
          have B2 := Lib.hid (HA.out.trans (AppB.of_below b2)); clear b2
          obtain ⟨m2, HM2⟩ : ∃ m, Hid ((encZ z).length = m) := ⟨_, Lib.hid rfl⟩
          rw [HM2.out] at H2 ⊢
          have hml : m + m2 ≤ 140737488355328 := by
            have h1 := HLQ.out
            have h2 := HLE.out
            rw [HT.out] at h2
            simp only [List.length_append] at h1 h2 hm
            have h3 := HM2.out
            omega
          clear hm
          go_wp2_with (at_builtin; refine app_bytes _ rfl _ _ rfl base _ _ _ (X ++ encL ((behindN n).take k)) rfl O2.out _ _ _ (encZ z) rfl (RdB.of_own H2.out) hml hb2 ?_)
          intro a3 c3 w3 h3 h4
          have H3 := Lib.hid (show w3.ownsRow base 5 1 (.slice a3 (m + m2) c3) (m + m2) ((X ++ encL ((behindN n).take (k + 1))).map byteV) by rw [HT.out, ← List.append_assoc]; simpa using h3); clear h3
          have B3 := Lib.hid (B2.out.trans (AppB.of_own O2.out h4)); clear h4
          go_wp2_with fail
          go_roundw
          case rel => exact ⟨k + 1, m + m2, a3, c3, by first | rfl | simp, by omega, by go_num, H3, B3⟩
          case measure => simp [intOf]; omega
        · have hkn : k = 3 := by omega
          subst hkn
          have HX : Hid ((behindN n).take 3 = behindN n) := Lib.hid rfl
          rw [HX.out] at HW
          have hm : m = (X ++ encL (behindN n)).length := by
            have := HW.out.1
            simpa using this.symm
          have hX : X ++ encL (behindN n) = encN n := by
            rw [HXX.out, hxs.out]
            unfold encN
            simp only [List.nil_append, List.append_assoc]
          rw [hX] at hm HW
          subst hm
          go_wp2_with fail
          go_ret
          exact ⟨_, _, rfl, by rw [hbase.out]; exact HW.out, by rw [hbase.out]; exact (AW.out.below hbw.out).trans (HA.out.below HB.out)⟩
end
end Go.Proofs.YtpdmlklnbjegpaaGreat
