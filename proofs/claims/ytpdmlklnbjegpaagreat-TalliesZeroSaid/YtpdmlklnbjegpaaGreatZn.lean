/- Methods of nil, and of values that were not made: what they give (for TalliesZero). -/
import Derived.Test.YtpdmlklnbjegpaaGreatSn2
namespace Go.Proofs.YtpdmlklnbjegpaaGreat
open Go.RowKit

/-- No house: nil, or one without a stick. -/
def NoH (w : World) (v : Option Addr) : Prop := v = none ∨ ∃ p, v = some ⟨p, 0, none⟩ ∧ w.cell? ⟨p, 14, none⟩ = some (.pointer none)
theorem NoH.below {w w' : World} {v : Option Addr} {k : Nat} (h : NoH w v) (hv : ∀ p, v = some ⟨p, 0, none⟩ → p < k) (hb : Below k w w') : NoH w' v := by
  rcases h with h | ⟨p, h, hc⟩
  · exact .inl h
  · exact .inr ⟨p, h, (hb.cell (p := ⟨p, 14, none⟩) (hv p h)).trans hc⟩
theorem NoH.keep {w w' : World} {v : Option Addr} (h : NoH w v) (hb : Below w.heap.size w w') : NoH w' v := by
  rcases h with h | ⟨p, h, hc⟩
  · exact .inl h
  · exact .inr ⟨p, h, (hb.cell (p := ⟨p, 14, none⟩) (World.block_lt_of_cell? w ⟨p, 14, none⟩ hc)).trans hc⟩

theorem made_no (w : World) (v : Option Addr) (h : NoH w v) : Calls Tryz.prog 28 #[.pointer v] w fun e w' => e = .returned (.bool false) ∧ w = w' := by
  rcases h with rfl | ⟨p, rfl, hc⟩
  · go_enter Tryz.func28, Tryz.ntmps28
    go_wp2
    go_ret
    exact ⟨rfl, rfl⟩
  · go_enter Tryz.func28, Tryz.ntmps28
    go_wp2
    go_ret
    exact ⟨rfl, rfl⟩

theorem hsync_no (w : World) (v : Option Addr) (h : NoH w v) : Calls Tryz.prog 16 #[.pointer v] w fun e w' => e = .returned (.tuple #[]) ∧ w = w' := by
  go_enter Tryz.func16, Tryz.ntmps16
  go_wp2_with fail
  refine (made_no _ _ h).mono ?_
  rintro e w1 ⟨rfl, rfl⟩
  go_wp2_with fail
  go_end0
  exact ⟨rfl, rfl⟩

theorem hnotes_no (w : World) (v : Option Addr) (h : NoH w v) : Calls Tryz.prog 10 #[.pointer v] w fun e w' => e = .returned (.slice none 0 0) ∧ w = w' := by
  go_enter Tryz.func10, Tryz.ntmps10
  go_wp2_with fail
  refine (made_no _ _ h).mono ?_
  rintro e w1 ⟨rfl, rfl⟩
  go_wp2_with fail
  go_ret
  exact ⟨rfl, rfl⟩

theorem hcounts_no (w : World) (v : Option Addr) (h : NoH w v) : Calls Tryz.prog 13 #[.pointer v] w fun e w' => e = .returned (.slice none 0 0) ∧ w = w' := by
  go_enter Tryz.func13, Tryz.ntmps13
  go_wp2_with fail
  refine (made_no _ _ h).mono ?_
  rintro e w1 ⟨rfl, rfl⟩
  go_wp2_with fail
  go_ret
  exact ⟨rfl, rfl⟩

theorem hmissing_no (w : World) (v : Option Addr) (h : NoH w v) : Calls Tryz.prog 12 #[.pointer v, .slice none 0 0] w fun e w' => e = .returned (.slice none 0 0) ∧ Below w.heap.size w w' := by
  go_enter Tryz.func12, Tryz.ntmps12
  go_wp2_with fail
  have hb : Below w.heap.size w (w.alloc (.cells #[.slice none 0 0] 37)) := (Below.refl _ _).alloc (Nat.le_refl _) _
  refine (made_no _ _ (h.keep hb)).mono ?_
  rintro e w1 ⟨rfl, rfl⟩
  go_wp2_with fail
  go_ret
  exact ⟨rfl, hb⟩

theorem hcrash_no (w : World) (v : Option Addr) (x y z : Int) (h : NoH w v) : Calls Tryz.prog 17 #[.pointer v, .int .i64 x, .int .i64 y, .int .i64 z] w fun e w' => e = .returned (.int .i64 1) ∧ w = w' := by
  go_enter Tryz.func17, Tryz.ntmps17
  go_wp2_with fail
  refine (made_no _ _ h).mono ?_
  rintro e w1 ⟨rfl, rfl⟩
  go_wp2_with fail
  go_ret
  exact ⟨rfl, rfl⟩

theorem hhear_no (w : World) (v : Option Addr) (s : Value) (h : NoH w v) : Calls Tryz.prog 9 #[.pointer v, s] w fun e w' => e = .returned (.tuple #[.int .i64 0, .int .i64 1]) ∧ Below w.heap.size w w' := by
  go_enter Tryz.func9, Tryz.ntmps9
  go_wp2_with fail
  have hb : Below w.heap.size w (w.alloc (.cells #[.pointer v] 27)) := (Below.refl _ _).alloc (Nat.le_refl _) _
  refine (made_no _ _ (h.keep hb)).mono ?_
  rintro e w1 ⟨rfl, rfl⟩
  go_wp2_with fail
  go_ret2
  exact ⟨rfl, hb⟩

theorem zeros_no (w : World) : Calls Tryz.prog 53 #[.slice none 0 0] w fun e w' => e = .returned (.bool true) ∧ w = w' := by
  go_enter Tryz.func53, Tryz.ntmps53
  go_wp2_with fail
  go_loopw [3] (fun i wr => i = .int .i64 0 ∧ Hid (w = wr)) (fun _ _ => 0)
  case atStart => exact ⟨rfl, Lib.hid rfl⟩
  case round =>
    obtain ⟨rfl, HE⟩ := hrel
    have := HE.out
    subst this
    go_wp2_with fail
    go_ret
    exact ⟨rfl, rfl⟩

/-- No world: nil, or one without houses and mails. -/
def NoW (w : World) (v : Option Addr) : Prop := v = none ∨ ∃ p, v = some ⟨p, 0, none⟩ ∧ w.cell? ⟨p, 0, none⟩ = some (.slice none 0 0) ∧ w.cell? ⟨p, 1, none⟩ = some (.slice none 0 0)
theorem NoW.keep {w w' : World} {v : Option Addr} (h : NoW w v) (hb : Below w.heap.size w w') : NoW w' v := by
  rcases h with h | ⟨p, h, hc, hd⟩
  · exact .inl h
  · exact .inr ⟨p, h, (hb.cell (p := ⟨p, 0, none⟩) (World.block_lt_of_cell? w ⟨p, 0, none⟩ hc)).trans hc, (hb.cell (p := ⟨p, 1, none⟩) (World.block_lt_of_cell? w ⟨p, 0, none⟩ hc)).trans hd⟩

theorem wmade_no (w : World) (v : Option Addr) (h : NoW w v) : Calls Tryz.prog 84 #[.pointer v] w fun e w' => e = .returned (.bool false) ∧ w = w' := by
  rcases h with rfl | ⟨p, rfl, hc, hd⟩
  · go_enter Tryz.func84, Tryz.ntmps84
    go_wp2
    go_ret
    exact ⟨rfl, rfl⟩
  · go_enter Tryz.func84, Tryz.ntmps84
    go_wp2
    go_ret
    exact ⟨rfl, rfl⟩

theorem wnotes_no (w : World) (v : Option Addr) (x : Int) (h : NoW w v) : Calls Tryz.prog 54 #[.pointer v, .int .i64 x] w fun e w' => e = .returned (.tuple #[.slice none 0 0, .int .i64 1]) ∧ w = w' := by
  go_enter Tryz.func54, Tryz.ntmps54
  go_wp2_with fail
  refine (wmade_no _ _ h).mono ?_
  rintro e w1 ⟨rfl, rfl⟩
  go_wp2_with fail
  go_ret2
  exact ⟨rfl, rfl⟩

theorem wsettle_no (w : World) (v : Option Addr) (h : NoW w v) : Calls Tryz.prog 56 #[.pointer v] w fun e w' => e = .returned (.int .i64 1) ∧ w = w' := by
  go_enter Tryz.func56, Tryz.ntmps56
  go_wp2_with fail
  refine (wmade_no _ _ h).mono ?_
  rintro e w1 ⟨rfl, rfl⟩
  go_wp2_with fail
  go_ret
  exact ⟨rfl, rfl⟩

theorem wstep_no (w : World) (v : Option Addr) (c : Array Value) (h : NoW w v) : Calls Tryz.prog 55 #[.pointer v, .agg c] w fun e w' => e = .returned (.int .i64 1) ∧ Below w.heap.size w w' := by
  go_enter Tryz.func55, Tryz.ntmps55
  go_wp2_with fail
  have hb : Below w.heap.size w (w.alloc (.cells c 55)) := (Below.refl _ _).alloc (Nat.le_refl _) _
  refine (wmade_no _ _ (h.keep hb)).mono ?_
  rintro e w1 ⟨rfl, rfl⟩
  go_wp2_with fail
  go_ret
  exact ⟨rfl, hb⟩

set_option maxRecDepth 100000 in
theorem wmails_no (w : World) (v : Option Addr) (h : NoW w v) : Calls Tryz.prog 57 #[.pointer v] w fun e w' => e = .returned (.slice none 0 0) ∧ w = w' := by
  rcases h with rfl | ⟨p, rfl, hc, hd⟩
  · go_enter Tryz.func57, Tryz.ntmps57
    go_wp2_with fail
    go_ret
    exact ⟨rfl, rfl⟩
  · have hcl : Calls Tryz.prog 94 #[.slice none 0 0] w fun e w' => e = .returned (.slice none 0 0) ∧ w = w' := by
      have heq : ∀ w, (binOp .eql 66 (.slice none 0 0) (.slice none 0 0)).run Tryz.prog w = .ok (.bool true) w := fun w => Lib.run_eql_slice_nil (P := Tryz.prog) w 66 154 none 0 0 0 0 Tryz.underlying66
      go_enter Tryz.func94, Tryz.ntmps94
      go_wp2
      go_ret
      exact ⟨rfl, rfl⟩
    go_enter Tryz.func57, Tryz.ntmps57
    go_wp2_with fail
    refine hcl.mono ?_
    rintro e w1 ⟨rfl, rfl⟩
    go_wp2_with fail
    go_loopw [4, 14] (fun _ i wr => i = .int .i64 0 ∧ Hid (w = wr)) (fun _ _ _ => 0)
    case atStart => exact ⟨rfl, Lib.hid rfl⟩
    case round =>
      obtain ⟨rfl, HE⟩ := hrel
      have := HE.out
      subst this
      go_wp2_with fail
      go_ret
      exact ⟨rfl, rfl⟩
end Go.Proofs.YtpdmlklnbjegpaaGreat
