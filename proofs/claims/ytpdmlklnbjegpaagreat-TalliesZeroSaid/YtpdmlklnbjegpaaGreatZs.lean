/- TalliesZero: nil sticks and the zero stick. -/
import Derived.Test.YtpdmlklnbjegpaaGreatSn2
import Derived.Test.YtpdmlklnbjegpaaGreatHplain
namespace Go.Proofs.YtpdmlklnbjegpaaGreat
open Go.RowKit

theorem results_tmp4z {fn : Func} {t u v x : Tmp} (h : fn.results = #[.tmp t, .tmp u, .tmp v, .tmp x]) (tmps : Array Value) (P : Program) (w : World) :
    (results fn tmps).run P w = .ok (.tuple #[tmps.getD t undef, tmps.getD u undef, tmps.getD v undef, tmps.getD x undef]) w := by
  simp [results, h]
theorem ssync_nil (w : World) : Calls Tryz.prog 50 #[.pointer none] w fun e w' => e = .returned (.tuple #[]) ∧ w = w' := by
  go_enter Tryz.func50, Tryz.ntmps50
  go_wp2
  go_end0
  exact ⟨rfl, rfl⟩
theorem ssizes_nil (w : World) : Calls Tryz.prog 52 #[.pointer none] w fun e w' => e = .returned (.tuple #[.int .i64 0, .int .i64 0, .int .i64 0, .int .i64 0]) ∧ w = w' := by
  go_enter Tryz.func52, Tryz.ntmps52
  go_wp2
  refine bodyPost_ret (results_tmp4z rfl _ _ _) rfl ?_
  exact ⟨rfl, rfl⟩
theorem swrite_nil (w : World) (s : Value) : Calls Tryz.prog 24 #[.pointer none, s] w fun e w' => e = .returned (.int .i64 1) ∧ w = w' := by
  go_enter Tryz.func24, Tryz.ntmps24
  go_wp2
  go_ret
  exact ⟨rfl, rfl⟩
theorem stallies_nil (w : World) : Calls Tryz.prog 26 #[.pointer none] w fun e w' => e = .returned (.slice none 0 0) ∧ w = w' := by
  go_enter Tryz.func26, Tryz.ntmps26
  go_wp2
  go_ret
  exact ⟨rfl, rfl⟩
theorem scrash_nil (w : World) (x y z : Int) : Calls Tryz.prog 25 #[.pointer none, .int .i64 x, .int .i64 y, .int .i64 z] w fun e w' => e = .returned (.int .i64 1) ∧ w = w' := by
  go_enter Tryz.func25, Tryz.ntmps25
  go_wp2
  go_ret
  exact ⟨rfl, rfl⟩

set_option maxHeartbeats 4000000 in
set_option maxRecDepth 100000 in
theorem zsticks_any (w : World) (a : Option Addr) (n c : Nat) (l : List UInt8) (hr : RdB w a n c l) (hn : n ≤ 8192) :
    Calls Tryz.prog 18 #[.slice a n c] w fun e w' => e = .returned (.bool true) ∧ Below w.heap.size w w' := by
  have hl : l.length ≤ 8192 := by have := hr.1; simp at this; omega
  have hj : joinOf (stockOf l) (foilOf l) = [l] := by
    have := join_cons l [] [] hl
    rw [List.append_nil, List.append_nil, join_none] at this
    exact this
  go_enter Tryz.func18, Tryz.ntmps18
  go_wp2_with fail
  refine (ssync_nil w).mono ?_
  rintro e w1 ⟨rfl, rfl⟩
  go_wp2_with fail
  refine (ssizes_nil w).mono ?_
  rintro e w1 ⟨rfl, rfl⟩
  go_wp2_with fail
  refine (swrite_nil w _).mono ?_
  rintro e w1 ⟨rfl, rfl⟩
  go_wp2_with fail
  refine (scrash_nil w _ _ _).mono ?_
  rintro e w1 ⟨rfl, rfl⟩
  go_wp2_with fail
  refine (stallies_nil w).mono ?_
  rintro e w1 ⟨rfl, rfl⟩
  go_wp2_with fail
  have b0 : Below w.heap.size w (w.alloc (.cells #[.slice none 0 0, .int .i64 0, .slice none 0 0, .int .i64 0] 115)) := (Below.refl _ _).alloc (Nat.le_refl _) _
  have st0 : Stk (w.alloc (.cells #[.slice none 0 0, .int .i64 0, .slice none 0 0, .int .i64 0] 115)) w.heap.size (fun k => k = w.heap.size) [] [] 0 0 := ⟨none, 0, none, 0, heap_alloc_new w _, World.ownsRow_nil _ _ _ _, World.ownsRow_nil _ _ _ _, fun k h => by simp [Value.ownBlock] at h, fun k => by simp [Value.ownBlock], Nat.le_refl _, Nat.le_refl _, Nat.zero_le _, Nat.zero_le _⟩
  have R0 := Lib.hid (show ∀ W, Below w.heap.size w W → RdB W a n c l from fun W h => hr.below h)
  have B0 := Lib.hid b0
  have Z0 : Hid (w.heap.size < (w.alloc (.cells #[.slice none 0 0, .int .i64 0, .slice none 0 0, .int .i64 0] 115)).heap.size) := Lib.hid (by simp)
  clear b0 hr
  generalize w.alloc (.cells #[.slice none 0 0, .int .i64 0, .slice none 0 0, .int .i64 0] 115) = W0 at *
  refine (write_yes _ _ _ _ _ _ _ _ _ _ l st0 (R0.out _ B0.out) hn (by simp; omega) (by simp)).mono ?_
  rintro e W1 ⟨rfl, F1, st1, hF1, hF1'⟩
  rw [List.nil_append, List.nil_append] at st1
  have B1 : Hid (Below w.heap.size w W1) := Lib.hid (hF1.below B0.out (by have := Z0.out; omega) (fun k hk => by omega))
  have G1 : Hid (∀ k, F1 k → w.heap.size ≤ k) := Lib.hid (fun k hk => by
    rcases hF1' k hk with h | h
    · omega
    · have := Z0.out; omega)
  have S1 := Lib.hid st1
  clear st0 st1 hF1 hF1'
  go_wp2_with fail
  refine (sync_any _ _ _ _ _ _ _ S1.out).mono ?_
  rintro e W2 ⟨rfl, st2, hF2⟩
  have B2 : Hid (Below w.heap.size w W2) := Lib.hid (hF2.below B1.out B1.out.size (fun k hk => by omega))
  have S2 := Lib.hid st2
  clear st2 hF2
  go_wp2_with fail
  refine (talliesOf_any _ _ _ _ _ _ _ S2.out).mono ?_
  rw [hj]
  rintro e W3 ⟨oa, oc, rfl, hO, b3⟩
  have B3 := Lib.hid (B2.out.trans (b3.mono B2.out.size))
  have RB3 := R0.out _ B3.out
  obtain ⟨vs, ho, _, hi⟩ := hO
  obtain ⟨ai, ci, hv, hai⟩ := hi 0 (by simp)
  have hai' : W3.ownsRow 0 5 1 (.slice ai l.length ci) l.length (l.map byteV) := hai
  have cv1 := conv_bytes (RdB.below (RdB.of_own hai') (Below.refl W3.heap.size W3).drew)
  have cv2 := conv_bytes (RdB.below RB3 (Below.refl W3.heap.size W3).drew)
  obtain ⟨ob, oo, rfl, hcell⟩ := RdA.at (RdA.of_own ho) (by simp)
  have c0 := hcell 0 _ hv
  simp only [List.getElem?_cons_zero, Option.getD_some, Nat.add_zero] at c0
  have L1 : ([l] : List (List UInt8)).length = 1 := rfl
  rw [L1]
  have d0 := ((Below.refl W3.heap.size W3).drew.cell (p := ⟨ob, oo, none⟩) (World.block_lt_of_cell? W3 ⟨ob, oo, none⟩ c0)).trans c0
  clear hcell ho hai hi hv hai' RB3 b3
  go_wp2_with fail
  go_region_held3 (fun w' => w'.cell? ⟨ob, oo, none⟩ = some (.slice ai l.length ci) ∧ (convert 41 9 (.slice ai l.length ci)).run Tryz.prog w' = .ok (.string ⟨l.toArray⟩) w' ∧ (convert 41 9 (.slice a n c)).run Tryz.prog w' = .ok (.string ⟨l.toArray⟩) w') (exact ⟨d0, cv1, cv2⟩) (fail)
  go_wp2_with fail
  go_ret
  exact ⟨rfl, B3.out.trans ((Below.refl _ _).drew.mono B3.out.size)⟩
end Go.Proofs.YtpdmlklnbjegpaaGreat
