/- The program's encoded and Encode. -/
import Derived.Test.YtpdmlklnbjegpaaGreatEnc2
import Derived.Test.YtpdmlklnbjegpaaGreatHis8
namespace Go.Proofs.YtpdmlklnbjegpaaGreat
open Go.RowKit

theorem cell_of {W : World} {p : Nat} {A : Array Value} {t : TypeId} {sp : Nat × Nat} (h : W.heap[p]? = some (.cells A t sp)) (j : Nat) (v : Value) (hv : A[j]? = some v) : W.cell? ⟨p, j, none⟩ = some v := by
  simp [World.cell?, h, hv]
theorem ahead_cell (n : NoteV) (sa : Option Addr) (sc : Nat) : ∀ k, k < 15 → (noteA n sa sc)[k]? = some (.int .i64 ((aheadN n)[k]?.getD 0))
  | 0, _ => rfl
  | 1, _ => rfl
  | 2, _ => rfl
  | 3, _ => rfl
  | 4, _ => rfl
  | 5, _ => rfl
  | 6, _ => rfl
  | 7, _ => rfl
  | 8, _ => rfl
  | 9, _ => rfl
  | 10, _ => rfl
  | 11, _ => rfl
  | 12, _ => rfl
  | 13, _ => rfl
  | 14, _ => rfl
  | k + 15, h => absurd h (by omega)
theorem behind_cell (n : NoteV) (sa : Option Addr) (sc : Nat) : ∀ k, k < 3 → (noteA n sa sc)[16 + k]? = some (.int .i64 ((behindN n)[k]?.getD 0))
  | 0, _ => rfl
  | 1, _ => rfl
  | 2, _ => rfl
  | k + 3, h => absurd h (by omega)
theorem aheadP_cell (p : Nat) : ∀ k, k < 15 → (ptrL p aheadK).toArray[k]? = some (.pointer (some ⟨p, k, none⟩))
  | 0, _ => rfl
  | 1, _ => rfl
  | 2, _ => rfl
  | 3, _ => rfl
  | 4, _ => rfl
  | 5, _ => rfl
  | 6, _ => rfl
  | 7, _ => rfl
  | 8, _ => rfl
  | 9, _ => rfl
  | 10, _ => rfl
  | 11, _ => rfl
  | 12, _ => rfl
  | 13, _ => rfl
  | 14, _ => rfl
  | k + 15, h => absurd h (by omega)
theorem behindP_cell (p : Nat) : ∀ k, k < 3 → (ptrL p behindK).toArray[k]? = some (.pointer (some ⟨p, 16 + k, none⟩))
  | 0, _ => rfl
  | 1, _ => rfl
  | 2, _ => rfl
  | k + 3, h => absurd h (by omega)
theorem smallI {z : Int} (h : SmallZ z) : I64 z := by
  unfold SmallZ far at h
  unfold I64
  omega
theorem one_rd (w : World) (z : Int) : RdI (w.alloc (.cells #[.int .i64 z] 3)) (some ⟨w.heap.size, 0, none⟩) 1 1 [z] :=
  RdA.of_own (World.ownsRow_lit (base := w.heap.size) (e := 3) (size := 1) w #[.int .i64 z] 1 (Nat.le_refl _) (by unfold maxLen; omega) rfl)
theorem one_apart (base : Nat) (w : World) (z : Int) : Apart base (w.alloc (.cells #[.int .i64 z] 3)) (some ⟨w.heap.size, 0, none⟩) := by
  intro b off e _
  cases e
  exact not_U8 (heap_last w _) (by decide)
theorem encN_len (n : NoteV) (h : SmallN n) : (encN n).length ≤ 190 + 10 * n.strokes.length := by
  obtain ⟨h1, h2, h3, h4⟩ := h
  have g1 := encL_len (aheadN n) (fun z hz => smallI (h1 z hz))
  have g2 := encL_len n.strokes (fun z hz => smallI (h2 z hz))
  have g3 := encL_len (behindN n) (fun z hz => smallI (h3 z hz))
  have g4 := encZ_len (smallI h4)
  have e1 : (aheadN n).length = 15 := rfl
  have e3 : (behindN n).length = 3 := rfl
  unfold encN
  simp only [List.length_append]
  omega
section
variable (n : NoteV) (sa : Option Addr) (sc : Nat) (w : World)
set_option maxHeartbeats 4000000 in
set_option maxRecDepth 100000 in
theorem encoded_any (hs : RdI w sa n.strokes.length sc n.strokes) (hsm : SmallN n) (hlen : n.strokes.length ≤ 1000000) :
    Calls Tryz.prog 68 #[.agg (noteA n sa sc)] w fun e w' => ∃ a' c', e = .returned (.slice a' (encN n).length c') ∧
      w'.ownsRow w.heap.size 5 1 (.slice a' (encN n).length c') (encN n).length ((encN n).map byteV) ∧ Below w.heap.size w w' := by
  obtain ⟨xs, hxs⟩ : ∃ xs : List UInt8, Hid (xs = []) := ⟨_, Lib.hid rfl⟩
  have hN := encN_len n hsm
  have hT : encN n = xs ++ encL (aheadN n) ++ encL [(n.strokes.length : Int)] ++ encL n.strokes ++ encL (behindN n) := by
    rw [hxs.out, encL_one]
    unfold encN
    simp only [List.nil_append, List.append_assoc]
  rw [hT] at hN
  have HLP : Hid ((xs ++ encL (aheadN n)).length ≤ 140737488355328) := Lib.hid (by simp only [List.length_append] at hN ⊢; omega)
  have HL1 : Hid ((xs ++ encL (aheadN n) ++ encL [(n.strokes.length : Int)]).length ≤ 140737488355328) := Lib.hid (by simp only [List.length_append] at hN ⊢; omega)
  have HL2 : Hid ((xs ++ encL (aheadN n) ++ encL [(n.strokes.length : Int)] ++ encL n.strokes).length ≤ 140737488355328) := Lib.hid (by simp only [List.length_append] at hN ⊢; omega)
  have HL3 : Hid ((xs ++ encL (aheadN n) ++ encL [(n.strokes.length : Int)] ++ encL n.strokes ++ encL (behindN n)).length ≤ 140737488355328) := Lib.hid (by omega)
  clear hN hT
  have hlast := heap_last w (.cells (noteA n sa sc) 47)
  have bb : Below w.heap.size w (w.alloc (.cells (noteA n sa sc) 47)) := (Below.refl _ _).alloc (Nat.le_refl _) _
  have hlt : w.heap.size < (w.alloc (.cells (noteA n sa sc) 47)).heap.size := by simp
  have AP := Lib.hid (show ∀ W : World, 0 < n.strokes.length → Apart w.heap.size W sa from fun W h0 => Apart.old fun b off e => by
    obtain ⟨b', off', e', hc⟩ := RdA.at hs h0
    rw [e] at e'
    cases e'
    exact World.block_lt_of_cell? w _ (hc 0 _ (List.getElem?_eq_getElem (by have := hs.1; omega))))
  have H0 := Lib.hid (And.intro hlast (And.intro bb hlt)); clear hlast bb hlt
  go_enter Tryz.func68, Tryz.ntmps68
  go_wp2_with fail
  generalize w.alloc (.cells (noteA n sa sc) 47) = w0 at *
  refine (fields_any w.heap.size w0).mono ?_
  rintro e wf ⟨rfl, g1, g2, b1⟩
  obtain ⟨base, hbase⟩ : ∃ base, Hid (w.heap.size = base) := ⟨_, Lib.hid rfl⟩
  obtain ⟨P, hP⟩ : ∃ P, Hid (w0.heap.size = P) := ⟨_, Lib.hid rfl⟩
  obtain ⟨Q, hQ⟩ : ∃ Q, Hid (w0.heap.size + 1 = Q) := ⟨_, Lib.hid rfl⟩
  rw [hbase.out, hP.out] at g1
  rw [hbase.out, hQ.out] at g2
  have AW : Hid (AppB base w wf) := Lib.hid ⟨(b1.mono (Nat.le_of_lt H0.out.2.2)).os.trans H0.out.2.1.os, (b1.mono (Nat.le_of_lt H0.out.2.2)).tape.trans H0.out.2.1.tape, (b1.mono (Nat.le_of_lt H0.out.2.2)).output.trans H0.out.2.1.output, Nat.le_trans H0.out.2.1.size b1.size, fun k hk _ => (b1.block k (Nat.lt_trans hk H0.out.2.2)).trans (H0.out.2.1.block k hk)⟩
  have hn1 := (b1.block _ H0.out.2.2).trans H0.out.1
  rw [hbase.out] at hn1
  have LN := Lib.hid (And.intro (show base < wf.heap.size from (Array.getElem?_eq_some_iff.1 hn1).1) (And.intro (show ¬ U8 base wf base from not_U8 hn1 (by decide)) hn1))
  have LP := Lib.hid (And.intro (show P < wf.heap.size from (Array.getElem?_eq_some_iff.1 g1).1) (And.intro (show ¬ U8 base wf P from not_U8 g1 (by decide)) g1))
  have LQ := Lib.hid (And.intro (show Q < wf.heap.size from (Array.getElem?_eq_some_iff.1 g2).1) (And.intro (show ¬ U8 base wf Q from not_U8 g2 (by decide)) g2))
  have HB : Hid (base ≤ wf.heap.size) := Lib.hid (Nat.le_of_lt LN.out.1)
  have hbw : Hid (base ≤ w.heap.size) := Lib.hid (by rw [hbase.out]; exact Nat.le_refl _)
  rw [hbase.out] at AP
  rw [hQ.out, hP.out, hbase.out]
  clear g1 g2 hn1 b1 H0
  go_wp2_with fail
  go_loopw [5, 7, 16] (fun b _ i wr => ∃ (k m : Nat) (a' : Option Addr) (c' : Nat), b = .slice a' m c' ∧ k ≤ 15 ∧ i = .int .i64 k ∧ Hid (wr.ownsRow base 5 1 (.slice a' m c') m ((xs ++ encL ((aheadN n).take k)).map byteV)) ∧ Hid (AppB base wf wr)) (fun _ _ i _ => 15 - (intOf i).toNat)
  case atStart => exact ⟨0, 0, none, 0, rfl, Nat.zero_le _, rfl, Lib.hid (by rw [hxs.out]; exact World.ownsRow_nil _ _ _ _), Lib.hid (AppB.refl _ _)⟩
  case round =>
    obtain ⟨k, m, a', c', rfl, hk, rfl, HW, HA⟩ := hrel
    by_cases hlt : k < 15
    · have e1 : wr.cell? ⟨P, k, none⟩ = some (.pointer (some ⟨base, k, none⟩)) := cell_of ((HA.out.block _ LP.out.1 LP.out.2.1).trans LP.out.2.2) _ _ (aheadP_cell base k hlt)
      have e2 : wr.cell? ⟨base, k, none⟩ = some (.int .i64 ((aheadN n)[k]?.getD 0)) := cell_of ((HA.out.block _ LN.out.1 LN.out.2.1).trans LN.out.2.2) _ _ (ahead_cell n sa sc k hlt)
      have hzk : I64 ((aheadN n)[k]?.getD 0) := smallI (hsm.1 _ (by rw [List.getElem?_eq_getElem (show k < (aheadN n).length from hlt), Option.getD_some]; exact List.getElem_mem _))
      have HT := Lib.hid (encL_take (l := aheadN n) (k := k) hlt)
      have hz63 : (k : Int) ≤ 9223372036854775807 := by omega
      have hln : ((xs ++ encL ((aheadN n).take k)) ++ encL [(aheadN n)[k]?.getD 0]).length ≤ 140737488355328 := by
        have h1 := HLP.out
        have h2 := encL_le (aheadN n) (k + 1)
        rw [encL_one, List.append_assoc, ← HT.out]
        simp only [List.length_append] at h1 ⊢
        omega
      have HLN := Lib.hid hln; clear hln
      have HZK := Lib.hid hzk; clear hzk
      have HSB := Lib.hid (Nat.le_trans HB.out HA.out.size)
      generalize (aheadN n)[k]?.getD 0 = z at *
      go_wp2_with fail
      refine (putn_any base _ _ _ (xs ++ encL ((aheadN n).take k)) _ 1 1 [z] _ ?_ (own_below HW.out ((Below.refl _ _).alloc (Nat.le_refl _) _)) (one_rd wr z) (fun _ => one_apart base wr z) (by simpa using HZK.out) HLN.out).mono ?_
      · simp; exact Nat.le_succ_of_le HSB.out
      rintro e w3 ⟨a3, c3, rfl, h1, h2⟩
      have HE : Hid (xs ++ encL ((aheadN n).take k) ++ encL [z] = xs ++ encL ((aheadN n).take (k + 1))) := Lib.hid (by rw [encL_one, List.append_assoc, ← HT.out])
      rw [HE.out] at h1
      rw [HE.out]
      obtain ⟨m3, HM3⟩ : ∃ m3, Hid (m3 = (xs ++ encL ((aheadN n).take (k + 1))).length) := ⟨_, Lib.hid rfl⟩
      rw [← HM3.out] at h1 ⊢
      have H1 := Lib.hid h1; clear h1
      have H2 := Lib.hid (HA.out.trans ((AppB.of_below ((Below.refl _ _).alloc (Nat.le_refl _) _)).trans h2)); clear h2
      go_wp2_with fail
      go_roundw
      case rel => exact ⟨k + 1, _, a3, c3, rfl, by omega, by go_num, H1, H2⟩
      case measure => simp [intOf]; omega
    · have hkn : k = 15 := by omega
      subst hkn
      have HX : Hid ((aheadN n).take 15 = aheadN n) := Lib.hid rfl
      rw [HX.out] at HW
      have hm : m = (xs ++ encL (aheadN n)).length := by
        have := HW.out.1
        simpa using this.symm
      have e15 : wr.cell? ⟨base, 15, none⟩ = some (.slice sa n.strokes.length sc) := cell_of ((HA.out.block _ LN.out.1 LN.out.2.1).trans LN.out.2.2) _ _ rfl
      have HSB := Lib.hid (Nat.le_trans HB.out HA.out.size)
      have HM := Lib.hid hm; clear hm
      go_wp2_with fail
      refine (putn_any base _ _ _ (xs ++ encL (aheadN n)) _ 1 1 [(n.strokes.length : Int)] _ ?_ (own_below HW.out ((Below.refl _ _).alloc (Nat.le_refl _) _)) (one_rd wr _) (fun _ => one_apart base wr _) (by simpa using smallI hsm.2.2.2) HL1.out).mono ?_
      · simp; exact Nat.le_succ_of_le HSB.out
      rintro e w2 ⟨a2, c2, rfl, h1, h2⟩
      obtain ⟨m2, HM2⟩ : ∃ m2, Hid (m2 = (xs ++ encL (aheadN n) ++ encL [(n.strokes.length : Int)]).length) := ⟨_, Lib.hid rfl⟩
      rw [← HM2.out] at h1 ⊢
      have H2 := Lib.hid h1; clear h1
      have A2 := Lib.hid (HA.out.trans ((AppB.of_below ((Below.refl _ _).alloc (Nat.le_refl _) _)).trans h2)); clear h2 e15
      have e15 : w2.cell? ⟨base, 15, none⟩ = some (.slice sa n.strokes.length sc) := cell_of ((A2.out.block _ LN.out.1 LN.out.2.1).trans LN.out.2.2) _ _ rfl
      go_wp2_with fail
      refine (putn_any base _ _ _ (xs ++ encL (aheadN n) ++ encL [(n.strokes.length : Int)]) _ _ _ n.strokes _ (Nat.le_trans HB.out A2.out.size) H2.out (hs.below (by rw [hbase.out]; exact (AW.out.below hbw.out).trans (A2.out.below HB.out))) (fun h0 => AP.out _ h0) (fun z hz => smallI (hsm.2.1 z hz)) HL2.out).mono ?_
      rintro e w3 ⟨a3, c3, rfl, h1, h2⟩
      have H3 := Lib.hid h1; clear h1
      have A3 := Lib.hid (A2.out.trans h2); clear h2 e15
      obtain ⟨X, HXX⟩ : ∃ X, Hid (X = xs ++ encL (aheadN n) ++ encL [(n.strokes.length : Int)] ++ encL n.strokes) := ⟨_, Lib.hid rfl⟩
      rw [← HXX.out] at H3 ⊢
      obtain ⟨m3, HM3⟩ : ∃ m3, Hid (m3 = X.length) := ⟨_, Lib.hid rfl⟩
      rw [← HM3.out] at H3 ⊢
      have HLQ : Hid ((X ++ encL (behindN n)).length ≤ 140737488355328) := Lib.hid (by rw [HXX.out]; exact HL3.out)
      go_wp2_with fail
      go_loopw [5, 9, 39] (fun b _ i wr => ∃ (k m : Nat) (a' : Option Addr) (c' : Nat), b = .slice a' m c' ∧ k ≤ 3 ∧ i = .int .i64 k ∧ Hid (wr.ownsRow base 5 1 (.slice a' m c') m ((X ++ encL ((behindN n).take k)).map byteV)) ∧ Hid (AppB base wf wr)) (fun _ _ i _ => 3 - (intOf i).toNat)
      case atStart => exact ⟨0, _, a3, c3, rfl, Nat.zero_le _, rfl, Lib.hid (by simpa [encL] using H3.out), A3⟩
      case round =>
        obtain ⟨k, m, a', c', rfl, hk, rfl, HW, HA⟩ := hrel
        by_cases hlt : k < 3
        · have e1 : wr.cell? ⟨Q, k, none⟩ = some (.pointer (some ⟨base, 16 + k, none⟩)) := cell_of ((HA.out.block _ LQ.out.1 LQ.out.2.1).trans LQ.out.2.2) _ _ (behindP_cell base k hlt)
          have e2 : wr.cell? ⟨base, 16 + k, none⟩ = some (.int .i64 ((behindN n)[k]?.getD 0)) := cell_of ((HA.out.block _ LN.out.1 LN.out.2.1).trans LN.out.2.2) _ _ (behind_cell n sa sc k hlt)
          have hzk : I64 ((behindN n)[k]?.getD 0) := smallI (hsm.2.2.1 _ (by rw [List.getElem?_eq_getElem (show k < (behindN n).length from hlt), Option.getD_some]; exact List.getElem_mem _))
          have HT := Lib.hid (encL_take (l := behindN n) (k := k) hlt)
          have hz63 : (k : Int) ≤ 9223372036854775807 := by omega
          have hln : ((X ++ encL ((behindN n).take k)) ++ encL [(behindN n)[k]?.getD 0]).length ≤ 140737488355328 := by
            have h1 := HLQ.out
            have h2 := encL_le (behindN n) (k + 1)
            rw [encL_one, List.append_assoc, ← HT.out]
            simp only [List.length_append] at h1 ⊢
            omega
          have HLN := Lib.hid hln; clear hln
          have HZK := Lib.hid hzk; clear hzk
          have HSB := Lib.hid (Nat.le_trans HB.out HA.out.size)
          generalize (behindN n)[k]?.getD 0 = z at *
          go_wp2_with fail
          refine (putn_any base _ _ _ (X ++ encL ((behindN n).take k)) _ 1 1 [z] _ ?_ (own_below HW.out ((Below.refl _ _).alloc (Nat.le_refl _) _)) (one_rd wr z) (fun _ => one_apart base wr z) (by simpa using HZK.out) HLN.out).mono ?_
          · simp; exact Nat.le_succ_of_le HSB.out
          rintro e w3 ⟨a3, c3, rfl, h1, h2⟩
          have HE : Hid (X ++ encL ((behindN n).take k) ++ encL [z] = X ++ encL ((behindN n).take (k + 1))) := Lib.hid (by rw [encL_one, List.append_assoc, ← HT.out])
          rw [HE.out] at h1
          rw [HE.out]
          obtain ⟨m3, HM3⟩ : ∃ m3, Hid (m3 = (X ++ encL ((behindN n).take (k + 1))).length) := ⟨_, Lib.hid rfl⟩
          rw [← HM3.out] at h1 ⊢
          have H1 := Lib.hid h1; clear h1
          have H2 := Lib.hid (HA.out.trans ((AppB.of_below ((Below.refl _ _).alloc (Nat.le_refl _) _)).trans h2)); clear h2
          go_wp2_with fail
          go_roundw
          case rel => exact ⟨k + 1, _, a3, c3, rfl, by omega, by go_num, H1, H2⟩
          case measure => simp [intOf]; omega
        · have hkn : k = 3 := by omega
          subst hkn
          have HX : Hid ((behindN n).take 3 = behindN n) := Lib.hid rfl
          rw [HX.out] at HW
          have hm : m = (X ++ encL (behindN n)).length := by
            have := HW.out.1
            simpa using this.symm
          have hX : X ++ encL (behindN n) = encN n := by
            rw [HXX.out, hxs.out, encL_one]
            unfold encN
            simp only [List.nil_append, List.append_assoc]
          rw [hX] at hm HW
          subst hm
          go_wp2_with fail
          go_ret
          exact ⟨_, _, rfl, by rw [hbase.out]; exact HW.out, by rw [hbase.out]; exact (AW.out.below hbw.out).trans (HA.out.below HB.out)⟩
end
end Go.Proofs.YtpdmlklnbjegpaaGreat
