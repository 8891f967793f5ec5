/- Join of the reference. -/
import Derived.Test.YtpjiakgfegnmcaaJoin
namespace Go.Proofs.Ytpjiakgfegnmcaa
open Go.RowKit

theorem sOf_snoc (d : List (List UInt8)) (b : List UInt8) : sOf (d ++ [b]) = sOf d + (b.length + 2) := by simp [sOf]

/-- The tally at two places of two journals. -/
def bodyAt (st : List UInt8) (S : Nat) : List UInt8 := (st.drop (S + 2)).take (atN st S)
def CanJoin (st fo : List UInt8) (S F : Nat) : Prop :=
  S + 2 ≤ st.length ∧ F + 4 ≤ fo.length ∧ atN st S ≤ 8192 ∧ S + 2 + atN st S ≤ st.length ∧ atN fo F = atN st S ∧ atN fo (F + 2) = chk (bodyAt st S)

theorem bodyAt_len {st : List UInt8} {S : Nat} (h : S + 2 + atN st S ≤ st.length) : (bodyAt st S).length = atN st S := by
  simp only [bodyAt, List.length_take, List.length_drop]; omega

theorem canJoin_iff (st fo : List UInt8) (S F : Nat) : CanJoin st fo S F ↔
    (2 ≤ (st.drop S).length ∧ 4 ≤ (fo.drop F).length ∧ atN (st.drop S) 0 ≤ 8192 ∧ atN (st.drop S) 0 + 2 ≤ (st.drop S).length ∧ (fo.drop F).take 4 = foilOf (((st.drop S).drop 2).take (atN (st.drop S) 0))) := by
  have hb : ((st.drop S).drop 2).take (atN (st.drop S) 0) = bodyAt st S := by rw [List.drop_drop, atN_drop, bodyAt, Nat.add_zero]
  rw [hb, atN_drop, Nat.add_zero]
  simp only [List.length_drop]
  constructor
  · rintro ⟨h1, h2, h3, h4, h5, h6⟩
    refine ⟨by omega, by omega, h3, by omega, ?_⟩
    rw [foil_iff (by simp only [List.length_drop]; omega) (by rw [bodyAt_len h4]; omega), bodyAt_len h4, atN_drop, atN_drop]
    exact ⟨h5, h6⟩
  · rintro ⟨h1, h2, h3, h4, h5⟩
    have h4' : S + 2 + atN st S ≤ st.length := by omega
    rw [foil_iff (by simp only [List.length_drop]; omega) (by rw [bodyAt_len h4']; omega), bodyAt_len h4', atN_drop, atN_drop] at h5
    exact ⟨by omega, by omega, h3, h4', h5.1, h5.2⟩
theorem join_stop {st fo : List UInt8} {S F : Nat} (h : ¬ CanJoin st fo S F) : joinOf (st.drop S) (fo.drop F) = [] := joinOf_no (fun h' => h ((canJoin_iff st fo S F).2 h'))
theorem join_go {st fo : List UInt8} {S F : Nat} (h : CanJoin st fo S F) : joinOf (st.drop S) (fo.drop F) = bodyAt st S :: joinOf (st.drop (S + (2 + atN st S))) (fo.drop (F + 4)) := by
  obtain ⟨h1, h2, h3, h4, h5⟩ := (canJoin_iff st fo S F).1 h
  rw [joinOf_yes h1 h2 h3 h4 h5]
  simp only [List.drop_drop, atN_drop, Nat.add_zero, bodyAt]
  rw [show S + (atN st S + 2) = S + (2 + atN st S) by omega]

set_option maxHeartbeats 1000000 in
theorem rjoin_any (a : Option Addr) (n c : Nat) (st : List UInt8) (a' : Option Addr) (n' c' : Nat) (fo : List UInt8) (w : World) (hr : RdB w a n c st) (hr' : RdB w a' n' c' fo) (hn : n ≤ 16777216) (hn' : n' ≤ 16777216) :
    Calls Try.prog 12 #[.slice a n c, .slice a' n' c'] w fun e w' => ∃ oa oc, e = .returned (.tuple #[.slice oa (joinOf st fo).length oc, .int .i64 (sOf (joinOf st fo)), .int .i64 (4 * ((joinOf st fo).length : Int))]) ∧
      OwnBB w' w.heap.size oa (joinOf st fo).length oc (joinOf st fo) ∧ Below w.heap.size w w' := by
  have hl := Lib.hid hr.len
  have hl' := Lib.hid hr'.len
  go_enter Try.func12, Try.ntmps12
  go_wp2
  go_loopw [7, 8, 9, 10, 11] (fun o s f _ _ wr => ∃ (d : List (List UInt8)) (oa : Option Addr) (oc S D : Nat), o = .slice oa D oc ∧ s = .int .i64 S ∧ f = .int .i64 (4 * (D : Int)) ∧ OwnBB wr w.heap.size oa D oc d ∧ S ≤ n ∧ 4 * D ≤ n' ∧ Hid (S = sOf d) ∧ Hid (D = d.length) ∧ Hid (joinOf st fo = d ++ joinOf (st.drop S) (fo.drop (4 * D))) ∧ Below w.heap.size w wr) (fun _ _ f _ _ _ => n' - (intOf f).toNat)
  case atStart => exact ⟨[], none, 0, 0, 0, rfl, rfl, rfl, OwnBB.nil _ _, Nat.zero_le _, Nat.zero_le _, rfl, rfl, by simp [Hid], Below.refl _ _⟩
  case round =>
    obtain ⟨d, oa, oc, S, D, rfl, rfl, rfl, hown, hs, hf, HS, HD, HJ, hb⟩ := hrel
    have HF : Hid (∀ (e : Ending) (W : World), ¬ CanJoin st fo S (4 * D) → OwnBB W w.heap.size oa D oc d → Below w.heap.size w W → e = .returned (.tuple #[.slice oa D oc, .int .i64 S, .int .i64 (4 * (D : Int))]) → ∃ oa oc, e = .returned (.tuple #[.slice oa (joinOf st fo).length oc, .int .i64 (sOf (joinOf st fo)), .int .i64 (4 * ((joinOf st fo).length : Int))]) ∧
      OwnBB W w.heap.size oa (joinOf st fo).length oc (joinOf st fo) ∧ Below w.heap.size w W) := by
      intro e W h1 h2 h3 h4
      have h0 : joinOf st fo = d := by rw [HJ.out, join_stop h1, List.append_nil]
      rw [h0, ← HD.out, ← HS.out]
      exact ⟨oa, oc, h4, h2, h3⟩
    have hmax : sOf d ≤ 16777216 := by rw [← HS.out]; omega
    by_cases h1 : S + 2 ≤ n
    · by_cases h2 : 4 * D + 4 ≤ n'
      · have hrw := hr.below hb
        go_wp2_with fail
        refine (at_any _ _ _ st _ S rfl _ hrw (by omega)).mono ?_
        rintro e w1 ⟨rfl, q1, rfl⟩
        have hN := atN_lt st S
        have hbq := below_drewN hb q1
        by_cases h3 : atN st S ≤ 8192
        · have g3 : decide ((8192 : Int) < (atN st S : Int)) = false := by simp; omega
          by_cases h4 : S + 2 + atN st S ≤ n
          · have g4 : decide ((n : Int) < (S : Int) + 2 + (atN st S : Int)) = false := by simp; omega
            have hrq' := hr'.below hbq
            go_wp2_with fail
            refine (at_any _ _ _ fo _ (4 * D) (by omega) _ hrq' (by omega)).mono ?_
            rintro e w1 ⟨rfl, q2, rfl⟩
            rw [World.drewN_drewN]
            have hbr := below_drewN hb (q1 + q2)
            by_cases h5 : atN fo (4 * D) = atN st S
            · have g5 : ((atN fo (4 * D) : Int) != (atN st S : Int)) = false := by rw [h5]; simp
              have H5 := Lib.hid h5; clear h5
              have hrr := hr.below hbr
              have hrr' := hr'.below hbr
              clear hrw hrq'
              go_wp2_with (refine slice_bytes _ rfl _ _ _ rfl _ _ _ _ rfl hrr (S + 2) (S + 2 + atN st S) (.inr ⟨_, .i64, rfl, by go_num⟩) (.inr ⟨_, .i64, rfl, by go_num⟩) (by omega) (by omega) ?_; intro sa hsl)
              have hB : RdB (wr.drewN (q1 + q2)) sa (atN st S) (c - (S + 2)) (bodyAt st S) := by
                rw [show S + 2 + atN st S - (S + 2) = atN st S by omega] at hsl; exact hsl
              clear hsl
              refine (at_any _ _ _ fo _ (4 * D + 2) (by omega) _ hrr' (by omega)).mono ?_
              rintro e w1 ⟨rfl, q3, rfl⟩
              rw [World.drewN_drewN]
              have hbs := below_drewN hb (q1 + q2 + q3)
              have hBs : RdB (wr.drewN (q1 + q2 + q3)) sa (atN st S) (c - (S + 2)) (bodyAt st S) := hB
              clear hrr' hB
              go_wp2_with fail
              refine (rcheck_any _ _ _ (bodyAt st S) _ (by omega) hBs).mono ?_
              rintro e w1 ⟨rfl, hw1⟩
              subst hw1
              by_cases h6 : atN fo (4 * D + 2) = chk (bodyAt st S)
              · have g6 : ((atN fo (4 * D + 2) : Int) != (chk (bodyAt st S) : Int)) = false := by rw [h6]; simp
                have H6 := Lib.hid h6; clear h6
                have HC := Lib.hid (join_go (st := st) (fo := fo) (S := S) (F := 4 * D) ⟨by rw [hl.out]; exact h1, by rw [hl'.out]; exact h2, h3, by rw [hl.out]; exact h4, H5.out, H6.out⟩)
                have HL := Lib.hid (bodyAt_len (st := st) (S := S) (by rw [hl.out]; exact h4))
                have hownW : OwnBB (wr.drewN (q1 + q2 + q3)) w.heap.size oa D oc d := hown.below (below_drewN (Below.refl _ _) (q1 + q2 + q3))
                clear hown hbr hbq hrr HF
                generalize wr.drewN (q1 + q2 + q3) = W2 at *
                have ho0 := World.ownsRow_lit (base := W2.heap.size) (e := 5) (size := 1) W2 #[] 0 (Nat.le_refl _) (by unfold maxLen; omega) rfl
                have hba := (Below.refl W2.heap.size W2).alloc (Nat.le_refl _) (Obj.cells #[] 5)
                have hB1 := hBs.below hba
                go_wp2_with (at_builtin; refine app_bytes _ rfl _ _ rfl W2.heap.size _ _ _ [] rfl ho0 _ _ _ (bodyAt st S) rfl hB1 (by omega) (by simp) ?_; intro a1 c1 w3 ho3 hg3; refine Hid.out ?_)
                refine Lib.hid ?_
                rw [Nat.zero_add, List.nil_append] at ho3
                have hb23 := hba.grown hg3 (by simp) (fun k hk => by simp [Value.ownBlock] at hk; omega)
                have hown3 := hownW.below hb23
                have hbw3 := hbs.trans (hb23.mono hbs.size)
                have hsz3 := hbw3.size
                clear hownW hbs hBs hB1 ho0 hba hg3 hb23
                have hal := (Below.refl w3.heap.size w3).alloc (Nat.le_refl _) (Obj.cells #[Value.slice a1 (atN st S) c1] 22)
                have hown4 := hown3.below hal
                have hy := own_mono (own_below ho3 hal) (Nat.zero_le _)
                have hDm : D ≤ 16777216 := by omega
                go_wp2_with (at_builtin; refine app_bb1 _ rfl _ _ rfl w.heap.size _ _ _ d rfl hown4 w3.heap.size _ _ _ (bodyAt st S) rfl (cell_of_one (heap_alloc_new w3 _)) hy (by omega) (by simp; omega) ?_; intro a5 c5 w5 ho5 hg5; refine Hid.out ?_)
                refine Lib.hid ?_
                have hb5 := (hbw3.trans (hal.mono hsz3)).grown hg5 (by simp; omega) (fun k hk => (hown3.lt k hk).1)
                clear hown3 hown4 hy hal hg5 ho3 hbw3
                go_wp2
                go_roundw
                case rel => exact ⟨d ++ [bodyAt st S], a5, c5, S + (2 + atN st S), D + 1, rfl, by go_num, by go_num, ho5, by omega, by omega, show _ = _ by rw [sOf_snoc, ← HS.out, HL.out]; omega, show _ = _ by rw [List.length_append, ← HD.out]; rfl, show _ = _ by rw [HJ.out, HC.out, List.append_assoc]; rfl, hb5⟩
                case measure => simp [intOf]; omega
              · have g6 : ((atN fo (4 * D + 2) : Int) != (chk (bodyAt st S) : Int)) = true := by rw [bne_iff_ne]; omega
                have H6 := Lib.hid h6; clear h6
                go_wp2_with fail
                go_ret3
                exact HF.out _ _ (fun h => H6.out h.2.2.2.2.2) (hown.below (below_drewN (Below.refl _ _) (q1 + q2 + q3))) hbs rfl
            · have g5 : ((atN fo (4 * D) : Int) != (atN st S : Int)) = true := by rw [bne_iff_ne]; omega
              have H5 := Lib.hid h5; clear h5
              go_wp2_with fail
              go_ret3
              exact HF.out _ _ (fun h => H5.out h.2.2.2.2.1) (hown.below (below_drewN (Below.refl _ _) (q1 + q2))) hbr rfl
          · have g4 : decide ((n : Int) < (S : Int) + 2 + (atN st S : Int)) = true := by simp; omega
            go_wp2_with fail
            go_ret3
            exact HF.out _ _ (fun h => h4 (by rw [← hl.out]; exact h.2.2.2.1)) (hown.below (below_drewN (Below.refl _ _) q1)) hbq rfl
        · have g3 : decide ((8192 : Int) < (atN st S : Int)) = true := by simp; omega
          go_wp2_with fail
          go_ret3
          exact HF.out _ _ (fun h => h3 h.2.2.1) (hown.below (below_drewN (Below.refl _ _) q1)) hbq rfl
      · go_wp2_with fail
        go_ret3
        exact HF.out _ _ (fun h => h2 (by rw [← hl'.out]; exact h.2.1)) hown hb rfl
    · go_wp2_with fail
      go_ret3
      exact HF.out _ _ (fun h => h1 (by rw [← hl.out]; exact h.1)) hown hb rfl
end Go.Proofs.Ytpjiakgfegnmcaa
