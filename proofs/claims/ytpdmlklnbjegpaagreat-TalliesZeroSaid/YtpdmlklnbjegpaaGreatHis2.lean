/- The program's test of strokes, equality of int slices, equality of notes. -/
import Derived.Test.YtpdmlklnbjegpaaGreatHis1
namespace Go.Proofs.YtpdmlklnbjegpaaGreat
open Go.RowKit

/-- Numbers from 0 to m, none less than the one ahead. -/
def strokesP (m : Int) (l : List Int) : Prop := ∀ i, i < l.length → inB (l[i]?.getD 0) 0 m = true ∧ (0 < i → l[i-1]?.getD 0 ≤ l[i]?.getD 0)
instance (m : Int) (l : List Int) : Decidable (strokesP m l) := by unfold strokesP; infer_instance
def strokesB (m : Int) (l : List Int) : Bool := decide (strokesP m l) && inB l.length 1 200

set_option maxHeartbeats 1000000 in
theorem hstrokes_any (r s d : Int) (a : Option Addr) (n c : Nat) (l : List Int) (w : World) (hr : RdI w a n c l) (hs : 2 ≤ s ∧ s ≤ 96) (hd : 1 ≤ d ∧ d ≤ s) :
    Calls Tryz.prog 134 #[.agg #[.int .i64 r, .int .i64 s, .int .i64 d], .slice a n c] w fun e w' => e = .returned (.bool (strokesB (s - d) l)) ∧ Below w.heap.size w w' := by
  have hb := (Below.refl w.heap.size w).alloc (Nat.le_refl _) (.cells #[.int .i64 r, .int .i64 s, .int .i64 d] 131)
  have hm := hr.maxn
  have hl := Lib.hid hr.len
  have hr1 := hr.below hb
  have HB := Lib.hid hb; clear hb hr
  have HF : Hid (¬ strokesP (s - d) l → strokesB (s - d) l = false) := fun h => by simp [strokesB, h]
  have HT : Hid (strokesP (s - d) l → strokesB (s - d) l = inB n 1 200) := fun h => by simp [strokesB, h, hl.out]
  generalize strokesB (s - d) l = R at *
  go_enter Tryz.func134, Tryz.ntmps134
  go_wp2_with fail
  go_loop [5, 6, 9] (fun _ _ i => ∃ k : Nat, k ≤ n ∧ i = .int .i64 k ∧ Hid (∀ i, i < k → inB (l[i]?.getD 0) 0 (s - d) = true ∧ (0 < i → l[i-1]?.getD 0 ≤ l[i]?.getD 0))) (fun _ _ i => n - (intOf i).toNat)
  case atStart => exact ⟨0, Nat.zero_le _, rfl, Lib.hid (fun j hj => by omega)⟩
  case round =>
    obtain ⟨k, hk, rfl, HR⟩ := hrel
    by_cases hlt : k < n
    · obtain ⟨b, off, rfl, hc⟩ := hr1.at (by omega)
      have e1 := hc k hlt
      have e2 : 0 < k → _ := fun h => hc (k - 1) (by omega)
      have E2 := Lib.hid e2; clear e2
      clear hc hr1
      cases hin : inB (l[k]?.getD 0) 0 (s - d)
      · have hno : ¬ strokesP (s - d) l := fun h => by
          have := (h k (by rw [hl.out]; exact hlt)).1
          rw [hin] at this
          cases this
        have HN := Lib.hid (HF.out hno); clear hno
        go_wp2_with fail
        refine (hin_any _ _ _ _).mono ?_
        rintro e w' ⟨rfl, rfl⟩
        rw [hin]
        go_wp2_with fail
        go_ret
        rw [HN.out]
        exact ⟨rfl, HB.out⟩
      · by_cases h0 : 0 < k
        · have q0 : decide ((0 : Int) < (k : Int)) = true := by simp; exact h0
          have e2 := E2.out h0
          have ek : ((k : Int) - 1) = ((k - 1 : Nat) : Int) := by omega
          by_cases h1 : l[k]?.getD 0 < l[k-1]?.getD 0
          · have q1 : decide (l[k]?.getD 0 < l[k-1]?.getD 0) = true := by simp; exact h1
            have hno : ¬ strokesP (s - d) l := fun h => by
              have := (h k (by rw [hl.out]; exact hlt)).2 h0
              omega
            have HN := Lib.hid (HF.out hno); clear hno
            generalize l[k]?.getD 0 = x at *
            generalize l[k-1]?.getD 0 = y at *
            go_wp2_with fail
            refine (hin_any _ _ _ _).mono ?_
            rintro e w' ⟨rfl, rfl⟩
            rw [hin]
            go_wp2_with fail
            go_ret
            rw [HN.out]
            exact ⟨rfl, HB.out⟩
          · have q1 : decide (l[k]?.getD 0 < l[k-1]?.getD 0) = false := by simp; omega
            have HG := Lib.hid (show inB (l[k]?.getD 0) 0 (s - d) = true ∧ (0 < k → l[k-1]?.getD 0 ≤ l[k]?.getD 0) from ⟨hin, fun _ => by omega⟩)
            generalize hx : l[k]?.getD 0 = x at *
            generalize hy : l[k-1]?.getD 0 = y at *
            have HX := Lib.hid hx; clear hx
            have HY := Lib.hid hy; clear hy
            go_wp2_with fail
            refine (hin_any _ _ _ _).mono ?_
            rintro e w' ⟨rfl, rfl⟩
            rw [hin]
            go_wp2_with fail
            go_round
            case rel => exact ⟨k + 1, by omega, by go_num, Lib.hid fun j hj => by
              rcases Nat.lt_succ_iff_lt_or_eq.1 hj with h | h
              · exact HR.out j h
              · rw [h, HX.out, HY.out]; exact HG.out⟩
            case measure => simp [intOf]; omega
        · have q0 : decide ((0 : Int) < (k : Int)) = false := by simp; omega
          have HG := Lib.hid (show inB (l[k]?.getD 0) 0 (s - d) = true ∧ (0 < k → l[k-1]?.getD 0 ≤ l[k]?.getD 0) from ⟨hin, fun h => absurd h h0⟩)
          generalize hx : l[k]?.getD 0 = x at *
          have HX := Lib.hid hx; clear hx
          go_wp2_with fail
          refine (hin_any _ _ _ _).mono ?_
          rintro e w' ⟨rfl, rfl⟩
          rw [hin]
          go_wp2_with fail
          go_round
          case rel => exact ⟨k + 1, by omega, by go_num, Lib.hid fun j hj => by
            rcases Nat.lt_succ_iff_lt_or_eq.1 hj with h | h
            · exact HR.out j h
            · rw [h, HX.out]; exact HG.out⟩
          case measure => simp [intOf]; omega
    · have hkn : k = n := by omega
      subst hkn
      have hyes : strokesP (s - d) l := fun i hi => HR.out i (by rw [hl.out] at hi; exact hi)
      have HY := Lib.hid (HT.out hyes); clear hyes hr1
      go_wp2_with fail
      refine (hin_any _ _ _ _).mono ?_
      rintro e w' ⟨rfl, rfl⟩
      go_wp2_with fail
      go_ret
      rw [HY.out]
      exact ⟨rfl, HB.out⟩

theorem int_ne {x y : Int} (h : ¬ x = y) : (x != y) = true := by simp [h]
theorem int_eq {x y : Int} (h : x = y) : (x != y) = false := by simp [h]
theorem ilist_ext {l m : List Int} (hl : l.length = m.length) (h : ∀ j, j < l.length → l[j]?.getD 0 = m[j]?.getD 0) : l = m := by
  apply List.ext_getElem hl
  intro i h1 h2
  have := h i h1
  simpa [List.getElem?_eq_getElem h1, List.getElem?_eq_getElem h2] using this

theorem eqInts_any (a : Option Addr) (n c : Nat) (l : List Int) (a' : Option Addr) (n' c' : Nat) (l' : List Int) (w : World) (hr : RdI w a n c l) (hr' : RdI w a' n' c' l') :
    Calls Tryz.prog 113 #[.slice a n c, .slice a' n' c'] w fun e w' => ∃ b : Bool, e = .returned (.bool b) ∧ (b = true ↔ l = l') ∧ ∃ q, w' = w.drewN q := by
  have hm := RdI.maxn hr
  have hl := Lib.hid hr.len
  have hl' := Lib.hid hr'.len
  by_cases hnn : n = n'
  · subst hnn
    go_enter Tryz.func113, Tryz.ntmps113
    go_wp2
    go_loopw [5, 13] (fun _ i wr => ∃ k : Nat, k ≤ n ∧ i = .int .i64 k ∧ (∀ j, j < k → l[j]?.getD 0 = l'[j]?.getD 0) ∧ ∃ q, wr = w.drewN q) (fun _ i _ => n - (intOf i).toNat)
    case atStart => exact ⟨0, Nat.zero_le _, rfl, fun j hj => by omega, 0, rfl⟩
    case round =>
      obtain ⟨k, hk, rfl, hrl, q, rfl⟩ := hrel
      have HR := Lib.hid hrl; clear hrl
      by_cases hlt : k < n
      · obtain ⟨b, off, rfl, hc⟩ := hr.at (by omega)
        obtain ⟨b', off', rfl, hc'⟩ := hr'.at (by omega)
        have hx := hc k hlt
        have hx' := hc' k hlt
        clear hc hc' hr hr'
        have hk64 : (k : Int) ≤ 9223372036854775807 := by omega
        by_cases he : l[k]?.getD 0 = l'[k]?.getD 0
        · have hb := int_eq he
          have HE := Lib.hid he; clear he
          go_wp2
          go_quiet (fail)
          go_wp2
          go_roundw
          case rel => exact ⟨k + 1, by omega, by go_num, fun j hj => by
            rcases Nat.lt_succ_iff_lt_or_eq.1 hj with h | h
            · exact HR.out j h
            · rw [h]; exact HE.out, _, rfl⟩
          case measure => simp [intOf]; omega
        · have hb := int_ne he
          have HE := Lib.hid he; clear he
          go_wp2
          go_quiet (fail)
          go_wp2
          go_ret
          exact ⟨false, rfl, ⟨fun h => by simp at h, fun h => absurd (by rw [h]) HE.out⟩, _, World.drewN_drewN _ _ _⟩
      · go_wp2
        go_ret
        have hkn : k = n := by omega
        exact ⟨true, rfl, ⟨fun _ => ilist_ext (by rw [hl.out, hl'.out]) (fun j hj => HR.out j (by rw [hl.out] at hj; omega)), fun _ => rfl⟩, _, rfl⟩
  · have hb : (((n : Nat) : Int) != ((n' : Nat) : Int)) = true := by rw [bne_iff_ne]; omega
    have hm' := RdI.maxn hr'
    have HN := Lib.hid hnn; clear hnn
    go_enter Tryz.func113, Tryz.ntmps113
    go_wp2
    go_ret
    exact ⟨false, rfl, ⟨fun h => by simp at h, fun h => absurd (by rw [← hl.out, ← hl'.out, h]) HN.out⟩, 0, rfl⟩

end Go.Proofs.YtpdmlklnbjegpaaGreat
