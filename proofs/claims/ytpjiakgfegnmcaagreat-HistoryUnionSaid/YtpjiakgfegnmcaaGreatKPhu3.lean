/- Parts of the proof, in this order: The reference's SameNote (of millrindref09), for notes that are the same; Orders of names and notes in the program: cmp.Compare, cmp.Or, compareNames; Orders of names and notes in the program: compareNames, known, when, Before; done, judges, copied in the program; Maps keyed by names: what such a map in memory reads as, and its operations in these words; The program's CheckSet; Notes as they lie in memory; the program's setOf; Stores of whole structs into known blocks; maps.DeleteFunc by a clock. -/
import Derived.Deep.RegionHeld3
import Derived.Maps.RangeWalk
import Derived.Maps.OwnSet
import Derived.DeepKeys4
import Derived.Deep.MidRow
import Derived.Test.YtpjiakgfegnmcaaGreatKPhu2
set_option linter.unusedSimpArgs false
set_option linter.unusedVariables false
open List renaming getElem_toArray → lq0, getElem_cons_succ → lq1, getElem_cons_zero → lq2, setIfInBounds_toArray → lq3, set_cons_zero → lq4, set_cons_succ → lq5
namespace Go.Proofs.YtpjiakgfegnmcaaGreat
open Go.RowKit
section
attribute [local go_sem] noteA_0
end
end Go.Proofs.YtpjiakgfegnmcaaGreat
namespace Go.Proofs.YtpjiakgfegnmcaaGreat
set_option linter.unusedSimpArgs false
open Go.RowKit
structure TwoN (w W : World) (p q : Nat) (x : NoteV) (sa : Option Addr) (sc : Nat) (ta : Option Addr) (tc : Nat) : Prop where
  e1 : W.heap[p]? = some (.cells (noteA x sa sc) 51 (0, 0))
  e2 : W.heap[q]? = some (.cells (noteA x ta tc) 51 (0, 0))
  b : Below p w W
  lt : p < q
theorem TwoN.below {w W W' : World} {p q : Nat} {x : NoteV} {sa ta : Option Addr} {sc tc : Nat} (h : TwoN w W p q x sa sc ta tc) (hb : Below W.heap.size W W') : TwoN w W' p q x sa sc ta tc := by
  have g : ∀ {k : Nat} {o : Obj}, W.heap[k]? = some o → W'.heap[k]? = some o := fun {k o} hk => (hb.block k (Array.getElem?_eq_some_iff.1 hk).1).trans hk
  have h0 := (Array.getElem?_eq_some_iff.1 h.e1).1
  exact ⟨g h.e1, g h.e2, h.b.trans (hb.mono (by omega)), h.lt⟩
theorem yields_row {P : Program} {ops : Array Oper} {S : World → Prop} {op : Oper} {a : Act} (hw : Region.wanted op (yielded ops a.tmps) = true) (ty : TypeId) (x : Operand) (ho : op.op = .load ty x)
    (b : Nat) (hx : a.eval x = .pointer (some ⟨b, 0, none⟩)) (cs : Array Value) (t : TypeId) (fr : Nat × Nat) (d : TypeDesc) (hS : ∀ w, S w → w.heap[b]? = some (.cells cs t fr))
    (hu : P.underlying ty = some d) (hd : (match d with | .struct _ | .array _ _ => true | _ => false) = true) (hi : (P.info? ty).map (·.size) = some cs.size) : YieldsIf P ops S op (.agg cs) a :=
  .inl ⟨hw, fun w hw' => by
    unfold execOp
    simp only [ho, hx, Instr.loadAt, Instr.sureAddr, Sem.run_bind, Sem.run_pure, Result.andThen_ok, run_loadVar_row w b t ty cs fr d (hS w hw') hu hd hi]⟩
section
attribute [local go_sem] noteA_0
end
end Go.Proofs.YtpjiakgfegnmcaaGreat
namespace Go.Proofs.YtpjiakgfegnmcaaGreat
set_option linter.unusedSimpArgs false
open Go.RowKit

def cmpI (x y : Int) : Int := if x < y then -1 else if y < x then 1 else 0
def orI (x y : Int) : Int := if x = 0 then y else x
def namesC (h m h' m' : Int) : Int := orI (cmpI h h') (cmpI m m')
def knownC (x y : NoteV) : Int := orI (cmpI x.clock y.clock) (namesC x.house x.num y.house y.num)
def whenC (x y : NoteV) : Int := orI (cmpI x.day y.day) (knownC x y)
def doneB (n : NoteV) : Bool := inB n.kind 1 4
def judgesB (x r : NoteV) : Bool := decide (x.kind = 6) || (decide (x.kind = 5) && (!decide (x.fix = 2) || decide (r.kind = 2)))
theorem isNaN_any (x : Int) (w : World) : Calls Tryz.prog 118 #[.int .i64 x] w fun e w' => e = .returned (.bool false) ∧ w' = w := by
  have h : (x != x) = false := by simp
  go_enter Tryz.func118, Tryz.ntmps118
  go_wp2_with fail
  go_ret
  exact ⟨rfl, rfl⟩
theorem compare_any (x y : Int) (w : World) : Calls Tryz.prog 95 #[.int .i64 x, .int .i64 y] w fun e w' => e = .returned (.int .i64 (cmpI x y)) ∧ w' = w := by
  have K : ∀ {v : Int}, cmpI x y = v → Hid (cmpI x y = v) := fun h => Lib.hid h
  by_cases h1 : x < y
  · have HK := K (if_pos h1)
    have t1 : decide (x < y) = true := by simp [h1]
    go_enter Tryz.func95, Tryz.ntmps95
    go_wp2_with fail
    refine (isNaN_any x w).mono ?_
    rintro e w1 ⟨rfl, rfl⟩
    go_wp2_with fail
    refine (isNaN_any y _).mono ?_
    rintro e w1 ⟨rfl, rfl⟩
    go_wp2_with fail
    go_ret
    rw [HK.out]
    exact ⟨rfl, rfl⟩
  · have t1 : decide (x < y) = false := by simp; omega
    by_cases h2 : y < x
    · have HK := K ((if_neg h1).trans (if_pos h2))
      have t2 : decide (y < x) = true := by simp [h2]
      go_enter Tryz.func95, Tryz.ntmps95
      go_wp2_with fail
      refine (isNaN_any x w).mono ?_
      rintro e w1 ⟨rfl, rfl⟩
      go_wp2_with fail
      refine (isNaN_any y _).mono ?_
      rintro e w1 ⟨rfl, rfl⟩
      go_wp2_with fail
      go_ret
      rw [HK.out]
      exact ⟨rfl, rfl⟩
    · have HK := K ((if_neg h1).trans (if_neg h2))
      have t2 : decide (y < x) = false := by simp; omega
      go_enter Tryz.func95, Tryz.ntmps95
      go_wp2_with fail
      refine (isNaN_any x w).mono ?_
      rintro e w1 ⟨rfl, rfl⟩
      go_wp2_with fail
      refine (isNaN_any y _).mono ?_
      rintro e w1 ⟨rfl, rfl⟩
      go_wp2_with fail
      go_ret
      rw [HK.out]
      exact ⟨rfl, rfl⟩
set_option maxHeartbeats 2000000 in
theorem or_two (b : Nat) (x y : Int) (w : World) (h : w.heap[b]? = some (.cells #[.int .i64 x, .int .i64 y] 3 (0, 0))) : Calls Tryz.prog 94 #[.slice (some ⟨b, 0, none⟩) 2 2] w fun e w' => e = .returned (.int .i64 (orI x y)) ∧ w' = w := by
  have c0 : w.cell? ⟨b, 0, none⟩ = some (.int .i64 x) := cell_of h 0 _ rfl
  have c1 : w.cell? ⟨b, 1, none⟩ = some (.int .i64 y) := cell_of h 1 _ rfl
  go_enter Tryz.func94, Tryz.ntmps94
  go_wp2_with fail
  go_loopw [5, 8] (fun _ i wr => ((i = .int .i64 0) ∨ (i = .int .i64 1 ∧ Hid (x = 0)) ∨ (i = .int .i64 2 ∧ Hid (x = 0 ∧ y = 0))) ∧ Hid (w = wr)) (fun _ i _ => 2 - (intOf i).toNat)
  case atStart => exact ⟨.inl rfl, Lib.hid rfl⟩
  case round =>
    obtain ⟨hr, HE⟩ := hrel
    have := HE.out
    subst this
    rcases hr with rfl | ⟨rfl, hx⟩ | ⟨rfl, hx⟩
    · by_cases h0 : x = 0
      · have t0 : (x != 0) = false := by simp [h0]
        have H0 := Lib.hid h0; clear h0
        go_wp2_with fail
        go_roundw
        case rel => exact ⟨.inr (.inl ⟨rfl, H0⟩), Lib.hid (by trivial)⟩
        case measure => simp [intOf]
      · have t0 : (x != 0) = true := by simp [h0]
        have H0 := Lib.hid (show orI x y = x from if_neg h0); clear h0
        go_wp2_with fail
        go_ret
        rw [H0.out]
        exact ⟨rfl, rfl⟩
    · by_cases h0 : y = 0
      · have t0 : (y != 0) = false := by simp [h0]
        have H0 := Lib.hid (show x = 0 ∧ y = 0 from ⟨hx.out, h0⟩); clear h0
        go_wp2_with fail
        go_roundw
        case rel => exact ⟨.inr (.inr ⟨rfl, H0⟩), Lib.hid (by trivial)⟩
        case measure => simp [intOf]
      · have t0 : (y != 0) = true := by simp [h0]
        have H0 := Lib.hid (show orI x y = y from if_pos hx.out); clear h0
        go_wp2_with fail
        go_ret
        rw [H0.out]
        exact ⟨rfl, rfl⟩
    · have H0 := Lib.hid (show orI x y = 0 by rw [orI, if_pos hx.out.1]; exact hx.out.2)
      go_wp2_with fail
      go_ret
      rw [H0.out]
      exact ⟨rfl, rfl⟩
end Go.Proofs.YtpjiakgfegnmcaaGreat
namespace Go.Proofs.YtpjiakgfegnmcaaGreat
set_option linter.unusedSimpArgs false
open Go.RowKit

structure TwoC (w W : World) (p q : Nat) (A B : Array Value) (t : TypeId) : Prop where
  e1 : W.heap[p]? = some (.cells A t (0, 0))
  e2 : W.heap[q]? = some (.cells B t (0, 0))
  b : Below p w W
  lt : p < q
theorem TwoC.below {w W W' : World} {p q : Nat} {A B : Array Value} {t : TypeId} (h : TwoC w W p q A B t) (hb : Below W.heap.size W W') : TwoC w W' p q A B t := by
  have g : ∀ {k : Nat} {o : Obj}, W.heap[k]? = some o → W'.heap[k]? = some o := fun {k o} hk => (hb.block k (Array.getElem?_eq_some_iff.1 hk).1).trans hk
  have h0 := (Array.getElem?_eq_some_iff.1 h.e1).1
  exact ⟨g h.e1, g h.e2, h.b.trans (hb.mono (by omega)), h.lt⟩
set_option maxHeartbeats 4000000 in
set_option maxRecDepth 100000 in
theorem compareNames_any (x m y k : Int) (w : World) : Calls Tryz.prog 62 #[.agg #[.int .i64 x, .int .i64 m], .agg #[.int .i64 y, .int .i64 k]] w fun e w' => e = .returned (.int .i64 (namesC x m y k)) ∧ Below w.heap.size w w' := by
  have g1 := heap_before _ (.cells (#[.int .i64 y, .int .i64 k]) 29) _ _ (heap_last w (.cells (#[.int .i64 x, .int .i64 m]) 29))
  have g2 := heap_at (w.alloc (.cells (#[.int .i64 x, .int .i64 m]) 29)) (.cells (#[.int .i64 y, .int .i64 k]) 29) (w.heap.size + 1) (by simp)
  have bb : Below w.heap.size w ((w.alloc (.cells (#[.int .i64 x, .int .i64 m]) 29)).alloc (.cells (#[.int .i64 y, .int .i64 k]) 29)) := ((Below.refl _ _).alloc (Nat.le_refl _) _).alloc (by simp) _
  have T0 : Hid (TwoC w ((w.alloc (.cells (#[.int .i64 x, .int .i64 m]) 29)).alloc (.cells (#[.int .i64 y, .int .i64 k]) 29)) w.heap.size (w.heap.size + 1) (#[.int .i64 x, .int .i64 m]) (#[.int .i64 y, .int .i64 k]) 29) := Lib.hid ⟨g1, g2, bb, by omega⟩
  clear g1 g2 bb
  go_enter Tryz.func62, Tryz.ntmps62
  go_upto_region 1 with fail
  generalize (w.alloc (.cells (#[.int .i64 x, .int .i64 m]) 29)).alloc (.cells (#[.int .i64 y, .int .i64 k]) 29) = W0 at *
  obtain ⟨p, hp⟩ : ∃ p, Hid (w.heap.size = p) := ⟨_, Lib.hid rfl⟩
  obtain ⟨q, hq⟩ : ∃ q, Hid (w.heap.size + 1 = q) := ⟨_, Lib.hid rfl⟩
  rw [hq.out, hp.out] at T0
  rw [hq.out, hp.out]
  have T1 := Lib.hid (T0.out.below (Below.refl W0.heap.size W0).drew)
  refine wp_region_noPanic ?_
  refine wp_region_held_drew (S := fun w' => TwoC w w' p q (#[.int .i64 x, .int .i64 m]) (#[.int .i64 y, .int .i64 k]) 29) (by kernel_rfl) T1.out (fun hHeld => ?_)
  refine wpAnyH_take (i := 0) (v := .pointer (some ⟨p, 0, none⟩)) rfl (by kernel_rfl) (by kernel_rfl) (by kernel_rfl) (fun _ _ _ h => h) (Or.inl ⟨by rfl, by intro W _; go_simp⟩) (by assumption) ?_
  try simp only [Act.put, lq3, lq4, lq5]
  refine wpAnyH_take (i := 1) (v := .int .i64 x) rfl (by kernel_rfl) (by kernel_rfl) (by kernel_rfl) (fun _ _ _ h => h) (Or.inl ⟨by rfl, by intro W h; have hc := cell_of h.e1 0 (.int .i64 x) rfl; go_simp⟩) (by assumption) ?_
  try simp only [Act.put, lq3, lq4, lq5]
  refine wpAnyH_take (i := 2) (v := .pointer (some ⟨q, 0, none⟩)) rfl (by kernel_rfl) (by kernel_rfl) (by kernel_rfl) (fun _ _ _ h => h) (Or.inl ⟨by rfl, by intro W _; go_simp⟩) (by assumption) ?_
  try simp only [Act.put, lq3, lq4, lq5]
  refine wpAnyH_take (i := 3) (v := .int .i64 y) rfl (by kernel_rfl) (by kernel_rfl) (by kernel_rfl) (fun _ _ _ h => h) (Or.inl ⟨by rfl, by intro W h; have hc := cell_of h.e2 0 (.int .i64 y) rfl; go_simp⟩) (by assumption) ?_
  try simp only [Act.put, lq3, lq4, lq5]
  refine wpAnyH_take (i := 5) (v := .pointer (some ⟨p, 1, none⟩)) rfl (by kernel_rfl) (by kernel_rfl) (by kernel_rfl) (fun _ _ _ h => h) (Or.inl ⟨by rfl, by intro W _; go_simp⟩) (by assumption) ?_
  try simp only [Act.put, lq3, lq4, lq5]
  refine wpAnyH_take (i := 6) (v := .int .i64 m) rfl (by kernel_rfl) (by kernel_rfl) (by kernel_rfl) (fun _ _ _ h => h) (Or.inl ⟨by rfl, by intro W h; have hc := cell_of h.e1 1 (.int .i64 m) rfl; go_simp⟩) (by assumption) ?_
  try simp only [Act.put, lq3, lq4, lq5]
  refine wpAnyH_take (i := 7) (v := .pointer (some ⟨q, 1, none⟩)) rfl (by kernel_rfl) (by kernel_rfl) (by kernel_rfl) (fun _ _ _ h => h) (Or.inl ⟨by rfl, by intro W _; go_simp⟩) (by assumption) ?_
  try simp only [Act.put, lq3, lq4, lq5]
  refine wpAnyH_take (i := 8) (v := .int .i64 k) rfl (by kernel_rfl) (by kernel_rfl) (by kernel_rfl) (fun _ _ _ h => h) (Or.inl ⟨by rfl, by intro W h; have hc := cell_of h.e2 1 (.int .i64 k) rfl; go_simp⟩) (by assumption) ?_
  try simp only [Act.put, lq3, lq4, lq5]
  refine wpAnyH_ready (rs := [4]) (by kernel_rfl) (by simp) ?_
  refine AllReadyH.cons rfl (fun K hK => ?_) AllReadyH.nil
  go_simp
  go_at_call 95
  refine (compare_any x y _).mono ?_
  rintro e w1 ⟨rfl, rfl⟩
  dsimp only
  refine hK.out _ _ T1.out (fun hHeld => ?_)
  clear hK K
  try simp only [Act.put, lq3, lq4, lq5]
  refine wpAnyH_ready (rs := [9]) (by kernel_rfl) (by simp) ?_
  refine AllReadyH.cons rfl (fun K hK => ?_) AllReadyH.nil
  go_simp
  go_at_call 95
  refine (compare_any m k _).mono ?_
  rintro e w1 ⟨rfl, rfl⟩
  dsimp only
  refine hK.out _ _ T1.out (fun hHeld => ?_)
  clear hK K
  try simp only [Act.put, lq3, lq4, lq5]
  refine wpAnyH_ready (rs := [10]) (by kernel_rfl) (by simp) ?_
  refine AllReadyH.cons rfl (fun K hK => ?_) AllReadyH.nil
  go_simp
  have TB := Lib.hid (T1.out.below ((Below.refl W0.drew.heap.size W0.drew).alloc (Nat.le_refl _) (.cells #[.int .i64 (cmpI x y), .int .i64 (cmpI m k)] 3)))
  refine hK.out _ _ TB.out (fun hHeld => ?_)
  clear hK K
  try simp only [Act.put, lq3, lq4, lq5]
  refine wpAnyH_ready (rs := [11]) (by kernel_rfl) (by simp) ?_
  refine AllReadyH.cons rfl (fun K hK => ?_) AllReadyH.nil
  go_simp
  go_at_call 94
  refine (or_two W0.drew.heap.size (cmpI x y) (cmpI m k) _ (heap_last W0.drew _)).mono ?_
  rintro e w1 ⟨rfl, rfl⟩
  dsimp only
  refine hK.out _ _ TB.out (fun hHeld => ?_)
  clear hK K
  try simp only [Act.put, lq3, lq4, lq5]
  refine wpAnyH_take (i := 12) (v := .int .i64 (orI (cmpI x y) (cmpI m k))) rfl (by kernel_rfl) (by kernel_rfl) (by kernel_rfl) (fun _ _ _ h => h) (Or.inl ⟨by rfl, by intro W _; go_simp⟩) (by assumption) ?_
  try simp only [Act.put, lq3, lq4, lq5]
  have TE := TB
  refine wpAnyH_done (by kernel_rfl) ?_ _
  refine NoPanic.normal ?_
  change Exit.then _ _ Exit.normal { tmps := #[.agg #[.int .i64 x, .int .i64 m], .agg #[.int .i64 y, .int .i64 k], .pointer (some ⟨p, 0, none⟩), .pointer (some ⟨q, 0, none⟩), .int .i64 (orI (cmpI x y) (cmpI m k)), .pointer (some ⟨p, 0, none⟩), .int .i64 x, .pointer (some ⟨q, 0, none⟩), .int .i64 y, .int .i64 (cmpI x y), .pointer (some ⟨p, 1, none⟩), .int .i64 m, .pointer (some ⟨q, 1, none⟩), .int .i64 k, .int .i64 (cmpI m k), .slice (some ⟨W0.drew.heap.size, 0, none⟩) 2 2, .int .i64 (orI (cmpI x y) (cmpI m k))], defers := [] } _
  go_wp2_with fail
  go_ret
  exact ⟨rfl, by rw [hp.out]; exact TE.out.b⟩
section
attribute [local go_sem] noteA_0
set_option maxHeartbeats 4000000 in
set_option maxRecDepth 100000 in
theorem known_any (n r : NoteV) (sa : Option Addr) (sc : Nat) (ta : Option Addr) (tc : Nat) (w : World) : Calls Tryz.prog 78 #[.agg (noteA n sa sc), .agg (noteA r ta tc)] w fun e w' => e = .returned (.int .i64 (knownC n r)) ∧ Below w.heap.size w w' := by
  have I43 := Lib.hid (show ∀ (m : NoteV) (a : Option Addr) (c : Nat), (Tryz.prog.info? 51).map (·.size) = some (noteA m a c).size from fun m a c => by kernel_rfl)
  have g1 := heap_before _ (.cells (noteA r ta tc) 51) _ _ (heap_last w (.cells (noteA n sa sc) 51))
  have g2 := heap_at (w.alloc (.cells (noteA n sa sc) 51)) (.cells (noteA r ta tc) 51) (w.heap.size + 1) (by simp)
  have bb : Below w.heap.size w ((w.alloc (.cells (noteA n sa sc) 51)).alloc (.cells (noteA r ta tc) 51)) := ((Below.refl _ _).alloc (Nat.le_refl _) _).alloc (by simp) _
  have T0 : Hid (TwoC w ((w.alloc (.cells (noteA n sa sc) 51)).alloc (.cells (noteA r ta tc) 51)) w.heap.size (w.heap.size + 1) (noteA n sa sc) (noteA r ta tc) 51) := Lib.hid ⟨g1, g2, bb, by omega⟩
  clear g1 g2 bb
  go_enter Tryz.func78, Tryz.ntmps78
  go_upto_region 1 with fail
  generalize (w.alloc (.cells (noteA n sa sc) 51)).alloc (.cells (noteA r ta tc) 51) = W0 at *
  obtain ⟨p, hp⟩ : ∃ p, Hid (w.heap.size = p) := ⟨_, Lib.hid rfl⟩
  obtain ⟨q, hq⟩ : ∃ q, Hid (w.heap.size + 1 = q) := ⟨_, Lib.hid rfl⟩
  rw [hq.out, hp.out] at T0
  rw [hq.out, hp.out]
  have T1 := Lib.hid (T0.out.below (Below.refl W0.heap.size W0).drew)
  refine wp_region_noPanic ?_
  refine wp_region_held_drew (S := fun w' => TwoC w w' p q (noteA n sa sc) (noteA r ta tc) 51) (by kernel_rfl) T1.out (fun hHeld => ?_)
  refine wpAnyH_take (i := 0) (v := .pointer (some ⟨p, 2, none⟩)) rfl (by kernel_rfl) (by kernel_rfl) (by kernel_rfl) (fun _ _ _ h => h) (Or.inl ⟨by rfl, by intro W _; go_simp⟩) (by assumption) ?_
  try simp only [Act.put, lq3, lq4, lq5]
  refine wpAnyH_take (i := 1) (v := .int .i64 n.clock) rfl (by kernel_rfl) (by kernel_rfl) (by kernel_rfl) (fun _ _ _ h => h) (Or.inl ⟨by rfl, by intro W h; have hc := cell_of h.e1 2 (.int .i64 n.clock) rfl; go_simp⟩) (by assumption) ?_
  try simp only [Act.put, lq3, lq4, lq5]
  refine wpAnyH_take (i := 2) (v := .pointer (some ⟨q, 2, none⟩)) rfl (by kernel_rfl) (by kernel_rfl) (by kernel_rfl) (fun _ _ _ h => h) (Or.inl ⟨by rfl, by intro W _; go_simp⟩) (by assumption) ?_
  try simp only [Act.put, lq3, lq4, lq5]
  refine wpAnyH_take (i := 3) (v := .int .i64 r.clock) rfl (by kernel_rfl) (by kernel_rfl) (by kernel_rfl) (fun _ _ _ h => h) (Or.inl ⟨by rfl, by intro W h; have hc := cell_of h.e2 2 (.int .i64 r.clock) rfl; go_simp⟩) (by assumption) ?_
  try simp only [Act.put, lq3, lq4, lq5]
  refine wpAnyH_take (i := 5) (v := .agg (noteA n sa sc)) rfl (by kernel_rfl) (by kernel_rfl) (by kernel_rfl) (fun _ _ _ h => h) (yields_row (by rfl) 51 _ rfl p rfl _ 51 (0, 0) _ (fun W h => h.e1) Tryz.underlying51 rfl (I43.out _ _ _)) (by assumption) ?_
  try simp only [Act.put, lq3, lq4, lq5]
  refine wpAnyH_take (i := 7) (v := .agg (noteA r ta tc)) rfl (by kernel_rfl) (by kernel_rfl) (by kernel_rfl) (fun _ _ _ h => h) (yields_row (by rfl) 51 _ rfl q rfl _ 51 (0, 0) _ (fun W h => h.e2) Tryz.underlying51 rfl (I43.out _ _ _)) (by assumption) ?_
  try simp only [Act.put, lq3, lq4, lq5]
  refine wpAnyH_ready (rs := [4]) (by kernel_rfl) (by simp) ?_
  refine AllReadyH.cons rfl (fun K hK => ?_) AllReadyH.nil
  go_simp
  go_at_call 95
  refine (compare_any n.clock r.clock _).mono ?_
  rintro e w1 ⟨rfl, rfl⟩
  dsimp only
  refine hK.out _ _ T1.out (fun hHeld => ?_)
  clear hK K
  try simp only [Act.put, lq3, lq4, lq5]
  refine wpAnyH_ready (rs := [6]) (by kernel_rfl) (by simp) ?_
  refine AllReadyH.cons rfl (fun K hK => ?_) AllReadyH.nil
  go_simp
  go_at_call 63
  refine (nameOf_any n sa sc _).mono ?_
  rintro e w1 ⟨rfl, b1⟩
  have T2 := Lib.hid (T1.out.below b1); clear b1
  dsimp only
  refine hK.out _ _ T2.out (fun hHeld => ?_)
  clear hK K
  try simp only [Act.put, lq3, lq4, lq5]
  refine wpAnyH_ready (rs := [8]) (by kernel_rfl) (by simp) ?_
  refine AllReadyH.cons rfl (fun K hK => ?_) AllReadyH.nil
  go_simp
  go_at_call 63
  refine (nameOf_any r ta tc _).mono ?_
  rintro e w2 ⟨rfl, b1⟩
  have T3 := Lib.hid (T2.out.below b1); clear b1
  dsimp only
  refine hK.out _ _ T3.out (fun hHeld => ?_)
  clear hK K
  try simp only [Act.put, lq3, lq4, lq5]
  refine wpAnyH_ready (rs := [9]) (by kernel_rfl) (by simp) ?_
  refine AllReadyH.cons rfl (fun K hK => ?_) AllReadyH.nil
  go_simp
  go_at_call 62
  refine (compareNames_any n.house n.num r.house r.num _).mono ?_
  rintro e w3 ⟨rfl, b1⟩
  have T4 := Lib.hid (T3.out.below b1); clear b1
  dsimp only
  refine hK.out _ _ T4.out (fun hHeld => ?_)
  clear hK K
  try simp only [Act.put, lq3, lq4, lq5]
  refine wpAnyH_ready (rs := [10]) (by kernel_rfl) (by simp) ?_
  refine AllReadyH.cons rfl (fun K hK => ?_) AllReadyH.nil
  go_simp
  have TB := Lib.hid (T4.out.below ((Below.refl w3.heap.size w3).alloc (Nat.le_refl _) (.cells #[.int .i64 (cmpI n.clock r.clock), .int .i64 (namesC n.house n.num r.house r.num)] 3)))
  refine hK.out _ _ TB.out (fun hHeld => ?_)
  clear hK K
  try simp only [Act.put, lq3, lq4, lq5]
  refine wpAnyH_ready (rs := [11]) (by kernel_rfl) (by simp) ?_
  refine AllReadyH.cons rfl (fun K hK => ?_) AllReadyH.nil
  go_simp
  go_at_call 94
  refine (or_two w3.heap.size (cmpI n.clock r.clock) (namesC n.house n.num r.house r.num) _ (heap_last w3 _)).mono ?_
  rintro e w4 ⟨rfl, rfl⟩
  dsimp only
  refine hK.out _ _ TB.out (fun hHeld => ?_)
  clear hK K
  try simp only [Act.put, lq3, lq4, lq5]
  refine wpAnyH_take (i := 12) (v := .int .i64 (orI (cmpI n.clock r.clock) (namesC n.house n.num r.house r.num))) rfl (by kernel_rfl) (by kernel_rfl) (by kernel_rfl) (fun _ _ _ h => h) (Or.inl ⟨by rfl, by intro W _; go_simp⟩) (by assumption) ?_
  try simp only [Act.put, lq3, lq4, lq5]
  have TE := TB
  refine wpAnyH_done (by kernel_rfl) ?_ _
  refine NoPanic.normal ?_
  change Exit.then _ _ Exit.normal { tmps := #[.agg (noteA n sa sc), .agg (noteA r ta tc), .pointer (some ⟨p, 0, none⟩), .pointer (some ⟨q, 0, none⟩), .int .i64 (orI (cmpI n.clock r.clock) (namesC n.house n.num r.house r.num)), .pointer (some ⟨p, 2, none⟩), .int .i64 n.clock, .pointer (some ⟨q, 2, none⟩), .int .i64 r.clock, .int .i64 (cmpI n.clock r.clock), .agg (noteA n sa sc), .agg #[.int .i64 n.house, .int .i64 n.num], .agg (noteA r ta tc), .agg #[.int .i64 r.house, .int .i64 r.num], .int .i64 (namesC n.house n.num r.house r.num), .slice (some ⟨w3.heap.size, 0, none⟩) 2 2, .int .i64 (orI (cmpI n.clock r.clock) (namesC n.house n.num r.house r.num))], defers := [] } _
  go_wp2_with fail
  go_ret
  exact ⟨rfl, by rw [hp.out]; exact TE.out.b⟩
end
end Go.Proofs.YtpjiakgfegnmcaaGreat
namespace Go.Proofs.YtpjiakgfegnmcaaGreat
set_option linter.unusedSimpArgs false
open Go.RowKit

theorem cloneI_any (a : Option Addr) (n c : Nat) (l : List Int) (w : World) (hn : n ≤ 1000000000) (hr : RdI w a n c l) :
    Calls Tryz.prog 112 #[.slice a n c] w fun e w' => ∃ a' c', e = .returned (.slice a' n c') ∧ w'.ownsRow w.heap.size 3 1 (.slice a' n c') n (l.map intV) ∧ Below w.heap.size w w' := by
  have hnc := hr.2.1
  by_cases ha : a = none
  · subst ha
    have hc : n = 0 ∧ c = 0 := by
      rcases hr.2.2.2 with h | ⟨b, off, h, _⟩
      · omega
      · cases h
    obtain ⟨rfl, rfl⟩ := hc
    have hl : l = [] := List.eq_nil_of_length_eq_zero hr.len
    subst hl
    clear hr hnc
    have heq : ∀ w, (binOp .eql 38 (.slice none 0 0) (.slice none 0 0)).run Tryz.prog w = .ok (.bool true) w := fun w => Lib.run_eql_slice_nil (P := Tryz.prog) w 38 3 none 0 0 0 0 Tryz.underlying38
    go_enter Tryz.func112, Tryz.ntmps112
    go_wp2
    go_ret
    exact ⟨_, _, rfl, World.ownsRow_nil _ _ _ _, Below.refl _ _⟩
  · obtain ⟨ad, rfl⟩ := Option.ne_none_iff_exists'.1 ha
    clear ha
    have heq : ∀ w, (binOp .eql 38 (.slice (some ad) n c) (.slice none 0 0)).run Tryz.prog w = .ok (.bool false) w := fun w => Lib.run_eql_slice_nil (P := Tryz.prog) w 38 3 (some ad) n c 0 0 Tryz.underlying38
    have hown := World.ownsRow_lit (base := w.heap.size) (e := 3) (size := 1) w #[] 0 (Nat.le_refl _) (by unfold maxLen; omega) rfl
    have hr1 := hr.below ((Below.refl w.heap.size w).alloc (Nat.le_refl _) (Obj.cells #[] 3))
    go_enter Tryz.func112, Tryz.ntmps112
    go_wp2_with (at_builtin; refine app_ints _ rfl _ _ rfl w.heap.size _ _ _ [] rfl hown _ _ _ l rfl hr1 (by omega) (by simp) ?_)
    intro a' c' w' h1 h2
    have hb := ((Below.refl w.heap.size w).alloc (Nat.le_refl _) (Obj.cells #[] 3)).grown h2 (by simp) (fun q hq => (hown.lt q hq).1)
    have H1 := Lib.hid (show w'.ownsRow w.heap.size 3 1 (.slice a' n c') n (l.map intV) by simpa using h1); clear h1 h2
    try simp only [Nat.zero_add]
    go_wp2_with fail
    go_ret
    exact ⟨_, _, rfl, H1.out, hb⟩
section
attribute [local go_sem] noteA_0 noteA_1 noteA_2 noteA_3 noteA_4 noteA_5 noteA_6 noteA_7 noteA_8 noteA_9 noteA_10 noteA_11 noteA_12 noteA_13 noteA_14 noteA_15 noteA_16 noteA_17 noteA_18
variable (n : NoteV) (sa : Option Addr) (sc : Nat) (w : World)
theorem done_any : Calls Tryz.prog 76 #[.agg (noteA n sa sc)] w fun e w' => e = .returned (.bool (doneB n)) ∧ Below w.heap.size w w' := by
  have hb := (Below.refl w.heap.size w).alloc (Nat.le_refl _) (.cells (noteA n sa sc) 51)
  go_enter Tryz.func76, Tryz.ntmps76
  go_wp2_with fail
  refine (hin_any n.kind 1 4 _).mono ?_
  rintro e w' ⟨rfl, rfl⟩
  go_wp2_with fail
  go_ret
  exact ⟨rfl, hb⟩
set_option maxHeartbeats 2000000 in
theorem judges_any (r : NoteV) (ta : Option Addr) (tc : Nat) : Calls Tryz.prog 91 #[.agg (noteA n sa sc), .agg (noteA r ta tc)] w fun e w' => e = .returned (.bool (judgesB n r)) ∧ Below w.heap.size w w' := by
  have hb := ((Below.refl w.heap.size w).alloc (Nat.le_refl _) (.cells (noteA n sa sc) 51)).alloc (by simp) (.cells (noteA r ta tc) 51)
  have hl := heap_before _ (.cells (noteA r ta tc) 51) _ _ (heap_last w (.cells (noteA n sa sc) 51))
  have hl2 := heap_at (w.alloc (.cells (noteA n sa sc) 51)) (.cells (noteA r ta tc) 51) (w.heap.size + 1) (by simp)
  have c4 := cell_of hl 4 (.int .i64 n.kind) rfl
  have c18 := cell_of hl 18 (.int .i64 n.fix) rfl
  have d4 := cell_of hl2 4 (.int .i64 r.kind) rfl
  have HB := Lib.hid hb; clear hb hl hl2
  by_cases h6 : n.kind = 6
  · have q6 : (n.kind == 6) = true := by simp [h6]
    have HR := Lib.hid (show judgesB n r = true by simp [judgesB, h6])
    clear h6
    go_enter Tryz.func91, Tryz.ntmps91
    go_wp2_with fail
    go_ret
    rw [HR.out]
    exact ⟨rfl, HB.out⟩
  · have q6 : (n.kind == 6) = false := by simp [h6]
    by_cases h5 : n.kind = 5
    · have q5 : (n.kind == 5) = true := by simp [h5]
      by_cases h2 : n.fix = 2
      · have q2 : (n.fix != 2) = false := by simp [h2]
        have HR := Lib.hid (show judgesB n r = (r.kind == 2) by simp [judgesB, h5, h2]; by_cases h : r.kind = 2 <;> simp [h])
        clear h6 h5 h2
        go_enter Tryz.func91, Tryz.ntmps91
        go_wp2_with fail
        go_ret
        rw [HR.out]
        exact ⟨rfl, HB.out⟩
      · have q2 : (n.fix != 2) = true := by simp [h2]
        have HR := Lib.hid (show judgesB n r = true by simp [judgesB, h5, h2])
        clear h6 h5 h2
        go_enter Tryz.func91, Tryz.ntmps91
        go_wp2_with fail
        go_ret
        rw [HR.out]
        exact ⟨rfl, HB.out⟩
    · have q5 : (n.kind == 5) = false := by simp [h5]
      have HR := Lib.hid (show judgesB n r = false by simp [judgesB, h5, h6])
      clear h6 h5
      go_enter Tryz.func91, Tryz.ntmps91
      go_wp2_with fail
      go_ret
      rw [HR.out]
      exact ⟨rfl, HB.out⟩
end
end Go.Proofs.YtpjiakgfegnmcaaGreat
namespace Go.Proofs.YtpjiakgfegnmcaaGreat
set_option linter.unusedSimpArgs false
open Go.RowKit
open Go.Maps (Keyed)

abbrev Nm := Int × Int
def nmV (a : Nm) : Value := .agg #[.int .i64 a.1, .int .i64 a.2]
def nmOk (a : Nm) : Prop := I64 a.1 ∧ I64 a.2
def nmL (a : Nm) : Lit := .string (keyBytes [.int .i64 a.1, .int .i64 a.2])
theorem laid_ok : laidOutB Tryz.prog = true := by kernel_rfl
theorem nm_row : (29 : TypeId) < Tryz.prog.types.size := of_decide_eq_true (by kernel_rfl)
theorem nm_deep : Tryz.prog.keyTypeAt 2 29 = true := by kernel_rfl
theorem nm_law : WideMaps.KeyLaw Tryz.prog 29 := by
  refine deep_law_laid laid_ok (m := 2) (by omega) nm_row nm_deep ?_
  rw [Tryz.underlying29]
theorem nm_keyed : Keyed Tryz.prog 29 := Keyed.of_law nm_law
theorem nm_cells : Tryz.prog.cellsOf 29 = 2 := by kernel_rfl
theorem wf_i64 {z : Int} (h : I64 z) : (Lit.int .i64 z).wf = true := by
  have h1 := h.1
  have h2 := h.2
  simp [Lit.wf, IntKind.min, IntKind.max, IntKind.signed, IntKind.bits]
  omega
theorem i64_wf {z : Int} (h : (Lit.int .i64 z).wf = true) : I64 z := by
  simp [Lit.wf, IntKind.min, IntKind.max, IntKind.signed, IntKind.bits] at h
  unfold I64
  omega
theorem keyType_nm : Tryz.prog.keyType 29 = true := by kernel_rfl
theorem keyLits_nm (d : Nat) (c0 c1 : Value) : Tryz.prog.keyLits (d + 2) 29 [c0, c1] = (do let a ← Tryz.prog.keyLits (d + 1) 3 [c0]; let b ← Tryz.prog.keyLits (d + 1) 3 [c1]; pure (a ++ b)) := by
  have hc : Tryz.prog.cellsOf 3 = 1 := by kernel_rfl
  rw [show d + 2 = (d + 1) + 1 from rfl]
  conv => lhs; unfold Program.keyLits; rw [Tryz.underlying29]
  simp [nm_cells, hc]
  cases Tryz.prog.keyLits (d + 1) 3 [c0] <;> cases Tryz.prog.keyLits (d + 1) 3 [c1] <;> simp
theorem keyLits_int (d : Nat) (z : Int) (h : I64 z) : Tryz.prog.keyLits (d + 1) 3 [.int .i64 z] = some [.int .i64 z] := by
  unfold Program.keyLits
  rw [Tryz.underlying3]
  simp [wf_i64 h]
theorem keyLits_int_inv (d : Nat) (v : Value) (ls : List Lit) (h : Tryz.prog.keyLits (d + 1) 3 [v] = some ls) : ∃ z, v = .int .i64 z ∧ I64 z ∧ ls = [.int .i64 z] := by
  unfold Program.keyLits at h
  generalize hu : Tryz.prog.underlying 3 = u at h
  rw [Tryz.underlying3] at hu
  subst hu
  cases v <;> simp at h
  obtain ⟨⟨rfl, hw⟩, rfl⟩ := h
  exact ⟨_, rfl, i64_wf hw, rfl⟩
theorem types_succ : ∃ d, Tryz.prog.types.size + 1 = d + 2 := by
  have h : 0 < Tryz.prog.types.size := of_decide_eq_true (by kernel_rfl)
  generalize Tryz.prog.types.size = s at h
  exact ⟨s - 1, by omega⟩
theorem keyOf_nm (a : Nm) (h : nmOk a) : keyOf Tryz.prog 29 (nmV a) = some (nmL a) := by
  obtain ⟨d, hd⟩ := types_succ
  have hf : (nmV a).formed Tryz.prog 29 = true := by simp [nmV, Value.formed, Tryz.underlying29, nm_cells]
  unfold keyOf
  rw [Tryz.underlying29]
  simp only [keyType_nm, hf, Bool.and_self, if_true, hd]
  rw [show (nmV a).cells.toList = [.int .i64 a.1, .int .i64 a.2] from rfl, keyLits_nm, keyLits_int _ _ h.1, keyLits_int _ _ h.2]
  rfl
set_option maxRecDepth 10000 in
theorem keyOf_inv {v : Value} {kl : Lit} (h : keyOf Tryz.prog 29 v = some kl) : ∃ a, v = nmV a ∧ nmOk a ∧ kl = nmL a := by
  obtain ⟨d, hd⟩ := types_succ
  unfold keyOf at h
  rw [Tryz.underlying29] at h
  simp only [keyType_nm, Bool.true_and, hd] at h
  split at h
  · rename_i hf
    cases v <;> simp [Value.formed, Tryz.underlying29, nm_cells] at hf
    rename_i cs
    obtain ⟨l⟩ := cs
    match l, hf with
    | [c0, c1], _ =>
      rw [show (Value.agg #[c0, c1]).cells.toList = [c0, c1] from rfl, keyLits_nm] at h
      cases h0 : Tryz.prog.keyLits (d + 1) 3 [c0] with
      | none => simp [h0] at h
      | some l0 =>
        cases h1 : Tryz.prog.keyLits (d + 1) 3 [c1] with
        | none => simp [h0, h1] at h
        | some l1 =>
          obtain ⟨z0, rfl, hz0, rfl⟩ := keyLits_int_inv _ _ _ h0
          obtain ⟨z1, rfl, hz1, rfl⟩ := keyLits_int_inv _ _ _ h1
          simp [h0, h1] at h
          exact ⟨(z0, z1), rfl, ⟨hz0, hz1⟩, h.symm⟩
  · cases h
theorem nmL_key (a : Nm) : WideAt.IsKeyLit (nmL a) := trivial
theorem nmV_inj {a b : Nm} (h : nmV a = nmV b) : a = b := by
  simp [nmV] at h
  exact Prod.ext h.1 h.2
theorem nmL_inj {a b : Nm} (ha : nmOk a) (hb : nmOk b) (h : nmL a = nmL b) : a = b :=
  nmV_inj (nm_keyed.inj (keyOf_nm a ha) (h ▸ keyOf_nm b hb))

def heldR : Value → Option (DataW Value × List MemPlace) := fun v => some (.held v, [])
structure Reads {α : Type} (enc : α → Value) (D : DataW Value) (f : Nm → Option α) : Prop where
  ok : ∀ a, (f a).isSome = true → nmOk a
  has : ∀ a, nmOk a → Maps.has D (nmL a) = (f a).isSome
  val : ∀ a x, f a = some x → ∀ z, D.atKey (nmL a) z = .held (enc x)
def MapF {α : Type} (enc : α → Value) (w : World) (b n : Nat) (f : Nm → Option α) : Prop := ∃ D, w.ownsMap Tryz.prog 29 heldR b n D ∧ Reads enc D f
def updF {α : Type} (f : Nm → Option α) (k : Nm) (x : α) : Nm → Option α := fun a => if a = k then some x else f a
def delF {α : Type} (f : Nm → Option α) (k : Nm) : Nm → Option α := fun a => if a = k then none else f a
section
variable {α : Type} {enc : α → Value} {D : DataW Value} {f : Nm → Option α}
theorem Reads.empty : Reads enc (.map []) (fun _ => none) := ⟨by simp, fun a _ => rfl, by simp⟩
theorem Reads.put (h : Reads enc D f) (hm : Maps.IsMap D) {k : Nm} (hk : nmOk k) (x : α) : Reads enc (D.put (nmL k) (.held (enc x))) (updF f k x) := by
  refine ⟨fun a ha => ?_, fun a ha => ?_, fun a y hy z => ?_⟩
  · unfold updF at ha
    split at ha
    · rename_i e; rw [e]; exact hk
    · exact h.ok a ha
  · unfold updF
    split
    · rename_i e; rw [e, Maps.has_put_same hm (nmL_key _)]; rfl
    · rename_i e; rw [Maps.has_put_other (fun he => e (nmL_inj ha hk he))]; exact h.has a ha
  · unfold updF at hy
    split at hy
    · rename_i e; cases hy; rw [e, Maps.atKey_put_same hm (nmL_key _)]
    · rename_i e; rw [Maps.atKey_put_other (fun he => e (nmL_inj (h.ok a (by rw [hy]; rfl)) hk he))]; exact h.val a y hy z
theorem Reads.del (h : Reads enc D f) {k : Nm} (hk : nmOk k) : Reads enc (D.del (nmL k)) (delF f k) := by
  refine ⟨fun a ha => ?_, fun a ha => ?_, fun a y hy z => ?_⟩
  · unfold delF at ha
    split at ha
    · cases ha
    · exact h.ok a ha
  · unfold delF
    split
    · rename_i e; rw [e, Maps.has_del_same]; rfl
    · rename_i e; rw [Maps.has_del_other (fun he => e (nmL_inj ha hk he))]; exact h.has a ha
  · unfold delF at hy
    split at hy
    · cases hy
    · rename_i e; rw [Maps.atKey_del_other (fun he => e (nmL_inj (h.ok a (by rw [hy]; rfl)) hk he))]; exact h.val a y hy z
variable {w : World} {b n : Nat}
theorem MapF.made (w : World) : MapF enc (w.alloc (.map #[] 0)) w.heap.size 0 (fun _ => none) := ⟨_, World.ownsMap_made w _ _ _, Reads.empty⟩
theorem MapF.lt (h : MapF enc w b n f) : b < w.heap.size := by obtain ⟨D, h1, _⟩ := h; exact h1.lt
theorem MapF.kept {w' : World} {row : Option Nat} (h : MapF enc w b n f) (hg : w.grownBy w' row) (hne : some b ≠ row) : MapF enc w' b n f := by
  obtain ⟨D, h1, h2⟩ := h
  exact ⟨D, h1.kept hg hne, h2⟩
theorem MapF.of_block {w' : World} (h : MapF enc w b n f) (hb : w'.heap[b]? = w.heap[b]?) : MapF enc w' b n f := by
  obtain ⟨D, ⟨es, clock, h1, h2⟩, h3⟩ := h
  exact ⟨D, ⟨es, clock, hb.trans h1, h2⟩, h3⟩
theorem MapF.below {w' : World} (h : MapF enc w b n f) (hb : Below w.heap.size w w') : MapF enc w' b n f := h.of_block (hb.block b h.lt)
theorem MapF.mono {m : Nat} (h : MapF enc w b n f) (hn : n ≤ m) : MapF enc w b m f := by obtain ⟨D, h1, h2⟩ := h; exact ⟨D, h1.mono hn, h2⟩
end
def RangeF {α : Type} (enc : α → Value) (w : World) (b r n : Nat) (f : Nm → Option α) (ks : List Nm) (cnt : Nat) : Prop :=
  ∃ D left, w.ranges Tryz.prog 29 heldR b r n D left cnt ∧ Reads enc D f ∧ (∀ a, nmOk a → left (nmL a) = ((f a).isSome && !decide (a ∈ ks))) ∧ ks.Nodup ∧ cnt + ks.length ≤ n
section
variable {α : Type} {enc : α → Value} {f : Nm → Option α} {w : World} {b r n cnt : Nat} {ks : List Nm}
theorem RangeF.map (h : RangeF enc w b r n f ks cnt) : MapF enc w b n f := by obtain ⟨D, left, h1, h2, _⟩ := h; exact ⟨D, h1.owns, h2⟩
theorem RangeF.left_eq (h : RangeF enc w b r n f ks cnt) : w.rangeLeft b r = cnt := by obtain ⟨D, left, h1, _⟩ := h; exact h1.left_eq
theorem RangeF.lt (h : RangeF enc w b r n f ks cnt) : r < w.heap.size := by obtain ⟨D, left, h1, _⟩ := h; exact h1.lt
theorem RangeF.nodup (h : RangeF enc w b r n f ks cnt) : ks.Nodup := by obtain ⟨D, left, _, _, _, h1, _⟩ := h; exact h1
theorem RangeF.count (h : RangeF enc w b r n f ks cnt) : cnt + ks.length ≤ n := by obtain ⟨D, left, _, _, _, _, h1⟩ := h; exact h1
theorem RangeF.of_blocks {w' : World} (h : RangeF enc w b r n f ks cnt) (hb : w'.heap[b]? = w.heap[b]?) (hr : w'.heap[r]? = w.heap[r]?) : RangeF enc w' b r n f ks cnt := by
  obtain ⟨D, left, ⟨es, clock, since, seen, c0, h1, h2, h3, h4, h5, h6⟩, h7⟩ := h
  exact ⟨D, left, ⟨es, clock, since, seen, c0, hb.trans h1, h2, h3, h4, hr.trans h5, h6⟩, h7⟩
theorem RangeF.below {w' : World} (h : RangeF enc w b r n f ks cnt) (hb : Below w.heap.size w w') : RangeF enc w' b r n f ks cnt := h.of_blocks (hb.block b h.map.lt) (hb.block r h.lt)
end
section
variable {α : Type} {enc : α → Value} {f : Nm → Option α} {P : Program} (w : World) {ops : Array Oper} {rest : List Oper} {o : Oper} {a : Act} {Q : Exit → Act → World → Prop}
theorem wpList_range_nm (hg : o.guard = none) (m : Operand) (t e : TypeId) (hop : o.op = Op.range t m) (ht : Tryz.prog.underlying t = some (.map 29 e)) (b n : Nat) (hm : a.eval m = .map (some b)) (hmap : MapF enc w b n f)
    (hK : ∀ w' cnt, RangeF enc w' b w.heap.size n f [] cnt → w.grownBy w' none → w'.heap.size = w.heap.size + 1 → wpList Tryz.prog ops Q rest (a.put o.dst (.pointer (some ⟨w.heap.size, 0, none⟩))) w') : wpList Tryz.prog ops Q (o :: rest) a w := by
  obtain ⟨D, h1, h2⟩ := hmap
  exact wpList_range_own w hg m t hop 29 e nm_keyed ht heldR b n D hm h1 (fun w' h3 h4 h5 => hK w' _ ⟨D, _, h3, h2, fun k hk => by rw [h2.has k hk]; simp, List.nodup_nil, by have := h1.size_le; simpa using this⟩ h4 h5)
structure NextF {α : Type} (enc : α → Value) (w : World) (b r n cnt : Nat) (f : Nm → Option α) (ks : List Nm) (kh km : Int) (y : α) (w' : World) (cnt' : Nat) : Prop where
  at_ : f (kh, km) = some y
  new : (kh, km) ∉ ks
  ok : nmOk (kh, km)
  range : RangeF enc w' b r n f (ks ++ [(kh, km)]) cnt'
  lt : cnt' < cnt
  grown : w.grownBy w' (some r)
  size : w'.heap.size = w.heap.size
def AllIn {α : Type} (f : Nm → Option α) (ks : List Nm) : Prop := ∀ k, (f k).isSome = true → k ∈ ks
theorem wpList_next_nm (hg : o.guard = none) (it : Operand) (hop : o.op = Op.next it false) (b r n cnt : Nat) (ks : List Nm) (hit : a.eval it = .pointer (some ⟨r, 0, none⟩)) (h : RangeF enc w b r n f ks cnt)
    (hDone : AllIn f ks → wpList Tryz.prog ops Q rest (a.put o.dst (.tuple #[.bool false])) w)
    (hMore : ∀ kh km y w' cnt', Hid (NextF enc w b r n cnt f ks kh km y w' cnt') →
      (Instr.entry (.pointer (some ⟨r, 0, none⟩))).run Tryz.prog w' = .ok (.tuple #[.agg #[.int .i64 kh, .int .i64 km], enc y]) w' → wpList Tryz.prog ops Q rest (a.put o.dst (.tuple #[.bool true, .agg #[.int .i64 kh, .int .i64 km], enc y])) w') : wpList Tryz.prog ops Q (o :: rest) a w := by
  obtain ⟨D, left, h1, h2, h3, h4, hcn⟩ := h
  refine wpList_next_ranges (α := Nm) (β := Value) w hg it hop 29 nm_keyed heldR nmV id (fun key kl hk => by obtain ⟨a, rfl, _⟩ := keyOf_inv hk; exact ⟨a, rfl⟩) (fun v _ _ => ⟨v, rfl⟩) b r n D left cnt hit h1 (fun _ hl => hDone (fun k hk => ?_)) (fun k c kl y w' cnt' hkey hlk hv hat hrg hlt hgr hsz hen => ?_)
  · have := hl (nmL k)
    rw [h3 k (h2.ok k hk), hk] at this
    simpa using this
  · obtain ⟨k', e1, hk', rfl⟩ := keyOf_inv hkey
    cases nmV_inj e1
    rw [h3 k hk'] at hlk
    simp only [Bool.and_eq_true, Bool.not_eq_true', decide_eq_false_iff_not] at hlk
    obtain ⟨x, hx⟩ := Option.isSome_iff_exists.1 hlk.1
    have hy := hat (.lit (.bool true))
    rw [h2.val k x hx] at hy
    simp only [heldR, Option.some.injEq] at hv
    rw [← hv] at hy
    simp only [DataW.held.injEq, id_eq] at hy
    subst hy
    refine hMore k.1 k.2 x w' cnt' (Lib.hid ⟨hx, hlk.2, hk', ⟨D, _, hrg, h2, fun a ha => ?_, ?_, by rw [List.length_append, List.length_singleton]; omega⟩, hlt, hgr, hsz⟩) hen
    · rw [h3 a ha]
      by_cases e : a = k
      · subst e
        have : (nmL a).sameKey (nmL a) = true := WideAt.sameKey_self (nmL_key _)
        simp [this]
      · have : (nmL a).sameKey (nmL k) = false := Maps.sameKey_ne (fun he => e (nmL_inj ha hk' he))
        simp [this, e]
    · exact List.nodup_append.2 ⟨h4, by simp, fun a ha b hb e => hlk.2 (by rw [List.mem_singleton] at hb; rw [← show b = k from hb, ← e]; exact ha)⟩
theorem wpList_del_nm (hg : o.guard = none) (m x : Operand) (t e : TypeId) (hop : o.op = Op.call { callee := Callee.builtin Builtin.delete, args := #[m, x], argTypes := #[t, 29] }) (ht : Tryz.prog.underlying t = some (.map 29 e)) (b r n cnt : Nat) (ks : List Nm) (k : Nm)
    (hm : a.eval m = .map (some b)) (h : RangeF enc w b r n f ks cnt) (hx : a.eval x = nmV k) (hk : nmOk k) (hin : k ∈ ks)
    (hK : ∀ w' cnt', RangeF enc w' b r n (delF f k) ks cnt' → cnt' ≤ cnt → w.mapTurned w' b → wpList Tryz.prog ops Q rest (a.put o.dst (.tuple #[])) w') : wpList Tryz.prog ops Q (o :: rest) a w := by
  obtain ⟨D, left, h1, h2, h3, h4, hcn⟩ := h
  refine wpList_delete_ranges w hg m x t 29 hop e nm_keyed ht heldR b r n D left cnt hm h1 (nmV k) (nmL k) hx (keyOf_nm k hk) (fun w' cnt' h5 h6 h7 => hK w' cnt' ⟨_, _, h5, h2.del hk, fun a ha => ?_, h4, by omega⟩ h6 h7)
  rw [h3 a ha]
  by_cases e : a = k
  · subst e
    have : (nmL a).sameKey (nmL a) = true := WideAt.sameKey_self (nmL_key _)
    simp [this, delF]
  · have : (nmL a).sameKey (nmL k) = false := Maps.sameKey_ne (fun he => e (nmL_inj ha hk he))
    simp [this, delF, e]
end
section
variable {α : Type} {enc : α → Value} {f : Nm → Option α} {w : World} {b n : Nat} {t e : TypeId}
theorem run_put_nm (hmap : MapF enc w b n f) (hn : n < maxLen) (ht : Tryz.prog.underlying t = some (.map 29 e)) (h m : Int) (hk : nmOk (h, m)) (y : α) :
    ∃ w', (Instr.mapUpdate t (.map (some b)) (.agg #[.int .i64 h, .int .i64 m]) (enc y)).run Tryz.prog w = .ok () w' ∧ MapF enc w' b (n + 1) (updF f (h, m) y) ∧ w.mapTurned w' b := by
  obtain ⟨D, h1, h2⟩ := hmap
  obtain ⟨w', h3, h4, h5⟩ := h1.store nm_keyed ht hn (keyOf_nm (h, m) hk) (val := enc y) (d := .held (enc y)) (ps := []) rfl
  exact ⟨w', h3, ⟨_, h4, h2.put h1.isMap hk y⟩, h5⟩
theorem run_get_nm (hmap : MapF enc w b n f) (ht : Tryz.prog.underlying t = some (.map 29 e)) {z : Value} (hz : (zeroValue e).run Tryz.prog w = .ok z w) (h m : Int) (hk : nmOk (h, m)) :
    (Instr.lookup t (.map (some b)) (.agg #[.int .i64 h, .int .i64 m]) true).run Tryz.prog w = .ok (.tuple #[((f (h, m)).map enc).getD z, .bool (f (h, m)).isSome]) w := by
  obtain ⟨D, h1, h2⟩ := hmap
  obtain ⟨v, ps, h3, h4⟩ := h1.look_ok nm_keyed ht hz (zd := .held z) (zp := []) rfl (keyOf_nm (h, m) hk)
  rw [h2.has (h, m) hk] at h3
  simp only [heldR, Option.some.injEq, Prod.mk.injEq] at h4
  refine h3.trans ?_
  cases hf : f (h, m) with
  | none =>
    rw [Maps.atKey_of_not_has (by rw [h2.has (h, m) hk, hf]; rfl)] at h4
    have := h4.1
    simp only [DataW.held.injEq] at this
    rw [this]; rfl
  | some y =>
    rw [h2.val (h, m) y hf] at h4
    have := h4.1
    simp only [DataW.held.injEq] at this
    rw [this]; rfl
end
end Go.Proofs.YtpjiakgfegnmcaaGreat
namespace Go.Proofs.YtpjiakgfegnmcaaGreat
set_option linter.unusedSimpArgs false
open Go.RowKit

def RdNs (W : World) (a : Option Addr) (n c : Nat) (l : List NoteV) : Prop :=
  l.length = n ∧ n ≤ c ∧ c ≤ maxLen ∧ (c = 0 ∨ ∃ b off, a = some ⟨b, off, none⟩ ∧ ∀ i x, l[i]? = some x → ∃ sa sc, W.rangeAt b (off + i * 19) (x.cells sa sc) ∧ RdI W sa x.strokes.length sc x.strokes)
theorem rangeAt_below {W W' : World} {b o : Nat} {cs : List Value} (h : W.rangeAt b o cs) (hb : Below W.heap.size W W') : W'.rangeAt b o cs := fun j v hv => by
  have h1 := h j v hv
  exact (hb.cell (p := ⟨b, o + j, none⟩) (World.block_lt_of_cell? W _ h1)).trans h1
theorem RdNs.below {W W' : World} {a : Option Addr} {n c : Nat} {l : List NoteV} (h : RdNs W a n c l) (hb : Below W.heap.size W W') : RdNs W' a n c l := by
  refine ⟨h.1, h.2.1, h.2.2.1, h.2.2.2.imp id ?_⟩
  rintro ⟨b, off, rfl, h4⟩
  refine ⟨b, off, rfl, fun i x hx => ?_⟩
  obtain ⟨sa, sc, h5, h6⟩ := h4 i x hx
  exact ⟨sa, sc, rangeAt_below h5 hb, h6.below hb⟩
theorem RdNs.at {W : World} {a : Option Addr} {n c : Nat} {l : List NoteV} (h : RdNs W a n c l) (h0 : 0 < n) : ∃ b off, a = some ⟨b, off, none⟩ ∧ ∀ i x, l[i]? = some x → ∃ sa sc, W.rangeAt b (off + i * 19) (x.cells sa sc) ∧ RdI W sa x.strokes.length sc x.strokes := by
  rcases h.2.2.2 with h4 | h4
  · have := h.2.1; omega
  · exact h4
def setAt (f : FrV) (l : List NoteV) (i : Nat) : Option Int := match l[i]? with
  | none => none
  | some x => if formedB f x = false then some 80 else match (if i = 0 then none else l[i - 1]?) with
    | none => none
    | some y => if namesC y.house y.num x.house x.num = 0 then some 81 else if 0 < namesC y.house y.num x.house x.num then some 1 else none
def setGo (f : FrV) (l : List NoteV) : Nat → Nat → Int × Nat
  | 0, _ => (0, 0)
  | k + 1, i => match setAt f l i with
    | some e => (e, i)
    | none => setGo f l k (i + 1)
def checkSetP (f : FrV) (l : List NoteV) : Int × Nat := if f.valid = false then (1, 0) else if 400 < l.length then (2, 0) else setGo f l l.length 0
theorem setGo_some {f : FrV} {l : List NoteV} {n k : Nat} {e : Int} (hk : k < n) (h : setAt f l k = some e) : setGo f l (n - k) k = (e, k) := by
  obtain ⟨m, hm⟩ : ∃ m, n - k = m + 1 := ⟨n - k - 1, by omega⟩
  rw [hm, setGo, h]
theorem setGo_none {f : FrV} {l : List NoteV} {n k : Nat} (hk : k < n) (h : setAt f l k = none) : setGo f l (n - k) k = setGo f l (n - (k + 1)) (k + 1) := by
  obtain ⟨m, hm⟩ : ∃ m, n - k = m + 1 := ⟨n - k - 1, by omega⟩
  rw [hm, setGo, h, show n - (k + 1) = m by omega]
section
attribute [local go_sem] noteA_0
set_option maxHeartbeats 8000000 in
set_option maxRecDepth 100000 in
theorem checkSet_any (f : FrV) (a : Option Addr) (n c : Nat) (l : List NoteV) (w : World) (hr : RdNs w a n c l) :
    Calls Tryz.prog 23 #[f.val, .slice a n c] w fun e w' => e = .returned (.tuple #[.int .i64 (checkSetP f l).1, .int .i64 (checkSetP f l).2]) ∧ Below w.heap.size w w' := by
  have I43 := Lib.hid (show ∀ (m : NoteV) (a : Option Addr) (c : Nat), (Tryz.prog.info? 51).map (·.size) = some (noteA m a c).size from fun m a c => by kernel_rfl)
  have hL := Lib.hid hr.1
  have hn63 : n ≤ 9223372036854775807 := by have h1 := hr.2.1; have h2 := hr.2.2.1; unfold maxLen at h2; omega
  have e6 := heap_at (w.alloc (.cells #[.int .i64 f.rings, .int .i64 f.sectors, .int .i64 f.wide] 23)) (.cells #[.int .i64 f.rings, .int .i64 f.sectors, .int .i64 f.wide] 85) (w.heap.size + 1) (by simp)
  have bb : Below w.heap.size w ((w.alloc (.cells #[.int .i64 f.rings, .int .i64 f.sectors, .int .i64 f.wide] 23)).alloc (.cells #[.int .i64 f.rings, .int .i64 f.sectors, .int .i64 f.wide] 85)) := ((Below.refl _ _).alloc (Nat.le_refl _) _).alloc (by simp) _
  have E6 := Lib.hid e6; clear e6
  have BB0 := Lib.hid bb; clear bb
  unfold FrV.val
  go_enter Tryz.func23, Tryz.ntmps23
  go_wp2_with fail
  generalize (w.alloc (.cells #[.int .i64 f.rings, .int .i64 f.sectors, .int .i64 f.wide] 23)).alloc (.cells #[.int .i64 f.rings, .int .i64 f.sectors, .int .i64 f.wide] 85) = W0 at *
  obtain ⟨p, hp⟩ : ∃ p, Hid (w.heap.size = p) := ⟨_, Lib.hid rfl⟩
  obtain ⟨p6, hp6⟩ : ∃ p6, Hid (w.heap.size + 1 = p6) := ⟨_, Lib.hid rfl⟩
  rw [hp6.out] at E6
  rw [hp.out] at BB0
  rw [hp6.out, hp.out]
  refine (valid_any f.rings f.sectors f.wide _).mono ?_
  rintro e w1 ⟨rfl, b1⟩
  have B1 := Lib.hid (BB0.out.trans (b1.mono (by rw [← hp.out]; exact BB0.out.size)))
  have F1 := Lib.hid ((b1.block _ (Array.getElem?_eq_some_iff.1 E6.out).1).trans E6.out)
  clear b1 E6 BB0
  have RX0 := Lib.hid (show ∀ W', Below p w W' → RdNs W' a n c l from fun W' hb => hr.below (by rw [hp.out]; exact hb))
  clear hr
  cases hv : f.valid
  · have HR := Lib.hid (show checkSetP f l = (1, 0) by unfold checkSetP; rw [if_pos hv])
    clear hv
    go_wp2_with fail
    go_returns
    rw [HR.out]
    exact ⟨rfl, by rw [hp.out]; exact B1.out⟩
  · have HV := Lib.hid hv; clear hv
    by_cases h4 : 400 < n
    · have HR := Lib.hid (show checkSetP f l = (2, 0) by unfold checkSetP; rw [if_neg (by rw [HV.out]; decide), if_pos (by rw [hL.out]; exact h4)])
      have t4 : decide ((400 : Int) < (n : Int)) = true := by simp; omega
      go_wp2_with fail
      go_returns
      rw [HR.out]
      exact ⟨rfl, by rw [hp.out]; exact B1.out⟩
    · have HG0 := Lib.hid (show checkSetP f l = setGo f l n 0 by unfold checkSetP; rw [if_neg (by rw [HV.out]; decide), if_neg (by rw [hL.out]; exact h4), hL.out])
      have t4 : decide ((400 : Int) < (n : Int)) = false := by simp; omega
      go_wp2_with fail
      go_loopw [22] (fun i wr => ∃ k : Nat, i = .int .i64 k ∧ k ≤ n ∧ Hid (checkSetP f l = setGo f l (n - k) k) ∧ Hid (Below w.heap.size w wr) ∧ Hid (wr.heap[p6]? = some (.cells #[.int .i64 f.rings, .int .i64 f.sectors, .int .i64 f.wide] 85 (0, 0)))) (fun i _ => n - (intOf i).toNat)
      case atStart => exact ⟨0, rfl, Nat.zero_le _, HG0, by rw [hp.out]; exact B1, F1⟩
      case round =>
        obtain ⟨k, rfl, hk, HG, HB, HF6⟩ := hrel
        rw [hp.out] at HB
        by_cases hlt : k < n
        · obtain ⟨x, hx⟩ : ∃ x, l[k]? = some x := ⟨_, List.getElem?_eq_getElem (by rw [hL.out]; exact hlt)⟩
          have HX := Lib.hid hx
          obtain ⟨b, off, rfl, hall⟩ := (RX0.out _ HB.out).at (by omega)
          obtain ⟨sa, sc, hrange, hrd⟩ := hall k x hx
          have HRA := Lib.hid hrange
          have RX := Lib.hid (show ∀ W', Below wr.heap.size wr W' → RdI W' sa x.strokes.length sc x.strokes from fun W' hb => hrd.below hb)
          have HALL := Lib.hid hall
          clear hall hx hrange hrd
          have hk63 : (k : Int) ≤ 9223372036854775807 := by omega
          go_upto_region 9 with (first
            | (refine wpList_load_mid rfl 51 _ rfl b (off + k * 19) rfl (x.cells sa sc) _ HRA.out Tryz.underlying51 rfl (size43 x sa sc) ?_)
            | (refine wpList_store_newp wr rfl 51 _ _ rfl wr.heap.size rfl _ (noteA x sa sc) rfl rfl (I43.out _ _ _) rfl (noteA_one x sa sc) ?_))
          have hbt : Below wr.heap.size wr (wr.alloc (.cells (noteA x sa sc) 51)) := (Below.refl _ _).alloc (Nat.le_refl _) _
          have TT := Lib.hid (heap_last wr (.cells (noteA x sa sc) 51))
          have FF := Lib.hid ((hbt.block _ (Array.getElem?_eq_some_iff.1 HF6.out).1).trans HF6.out)
          have BB := Lib.hid (HB.out.trans (hbt.mono (by rw [← hp.out]; exact HB.out.size)))
          have BW := Lib.hid hbt; clear hbt
          obtain ⟨p8, hp8⟩ : ∃ p8, Hid (wr.heap.size = p8) := ⟨_, Lib.hid rfl⟩
          rw [hp8.out] at TT ⊢
          generalize wr.alloc (.cells (noteA x sa sc) 51) = wt at *
          by_cases hk0 : k = 0
          · have HK0 := Lib.hid hk0
            have k0a : decide (0 < k) = false := by simp; omega
            clear hk0
            go_upto_region 12 with fail
            have c0 := cell_of FF.out 0 _ rfl
            have c1 := cell_of FF.out 1 _ rfl
            have c2 := cell_of FF.out 2 _ rfl
            go_wp2_with (refine wpList_load_row rfl 51 _ rfl p8 rfl 51 (noteA x sa sc) (0, 0) _ TT.out Tryz.underlying51 rfl (I43.out _ _ _) ?_)
            refine (formed_any f x sa sc _ HV.out (RX.out _ BW.out)).mono ?_
            rintro e w5 ⟨rfl, b5⟩
            have B5 := Lib.hid (BB.out.trans (b5.mono (by rw [← hp.out]; exact BB.out.size)))
            have F5 := Lib.hid ((b5.block _ (Array.getElem?_eq_some_iff.1 FF.out).1).trans FF.out)
            clear b5 c0 c1 c2
            cases hf : formedB f x
            · have HR := Lib.hid (show checkSetP f l = (80, k) by rw [HG.out]; exact setGo_some hlt (by unfold setAt; rw [HX.out]; simp only; rw [if_pos hf]))
              clear hf
              go_wp2_with fail
              go_returns
              rw [HR.out]
              exact ⟨rfl, by rw [hp.out]; exact B5.out⟩
            · have HR := Lib.hid (show setGo f l (n - k) k = setGo f l (n - (k + 1)) (k + 1) from setGo_none hlt (by unfold setAt; rw [HX.out]; simp only; rw [if_neg (by rw [hf]; decide), if_pos HK0.out]))
              clear hf
              go_wp2_with fail
              go_roundw
              case rel => exact ⟨k + 1, by go_num, by omega, Lib.hid (by rw [← HR.out]; exact HG.out), by rw [hp.out]; exact B5, F5⟩
              case measure => simp [intOf]; omega
          · have HK0 := Lib.hid hk0
            obtain ⟨j, rfl⟩ : ∃ j, k = j + 1 := ⟨k - 1, by omega⟩
            have k0a : decide (0 < j + 1) = true := by simp
            clear hk0
            obtain ⟨y, hy⟩ : ∃ y, l[j]? = some y := ⟨_, List.getElem?_eq_getElem (by rw [hL.out]; omega)⟩
            obtain ⟨ya, yc, hyr, _⟩ := HALL.out j y hy
            have HYR := Lib.hid (rangeAt_below hyr BW.out)
            have HY := Lib.hid (show l[j + 1 - 1]? = some y by rw [Nat.add_sub_cancel]; exact hy)
            have hjn : j < n := by omega
            have hwj : IntKind.i64.wrap (j : Int) = (j : Int) := by first | (rw [IntKind.wrap_i64]; omega) | (rw [IntKind.wrap_i64]; unfold wrap64; omega)
            clear hy hyr
            go_upto_region 11 with fail
            have hS0 : Below wt.heap.size wt wt.drew := (Below.refl wt.heap.size wt).drew
            have HS0 := Lib.hid hS0
            refine wp_region_noPanic ?_
            refine wp_region_held_drew (S := fun w' => Below wt.heap.size wt w') (by kernel_rfl) hS0 (fun hHeld => ?_)
            clear hS0
            refine wpAnyH_take (i := 0) (v := .slice (some ⟨b, off, none⟩) n c) rfl (by kernel_rfl) (by kernel_rfl) (by kernel_rfl) (fun _ _ _ h => h) (Or.inl ⟨by rfl, by intro W _; go_simp⟩) (by assumption) ?_
            try simp only [Act.put, lq3, lq4, lq5]
            refine wpAnyH_take (i := 1) (v := .int .i64 ((j : Int) + 1)) rfl (by kernel_rfl) (by kernel_rfl) (by kernel_rfl) (fun _ _ _ h => h) (Or.inl ⟨by rfl, by intro W _; go_simp⟩) (by assumption) ?_
            try simp only [Act.put, lq3, lq4, lq5]
            refine wpAnyH_take (i := 2) (v := .int .i64 (j : Int)) rfl (by kernel_rfl) (by kernel_rfl) (by kernel_rfl) (fun _ _ _ h => h) (Or.inl ⟨by rfl, by intro W _; go_simp⟩) (by assumption) ?_
            try simp only [Act.put, lq3, lq4, lq5]
            refine wpAnyH_take (i := 3) (v := .pointer (some ⟨b, off + j * 19, none⟩)) rfl (by kernel_rfl) (by kernel_rfl) (by kernel_rfl) (fun _ _ _ h => h) (Or.inl ⟨by rfl, by intro W _; go_simp⟩) (by assumption) ?_
            try simp only [Act.put, lq3, lq4, lq5]
            refine wpAnyH_take (i := 4) (v := .agg (y.cells ya yc).toArray) rfl (by kernel_rfl) (by kernel_rfl) (by kernel_rfl) (fun _ _ _ h => h) (yieldsIf_load_mid (by rfl) 51 _ rfl b (off + j * 19) rfl (y.cells ya yc) _ (fun W h => rangeAt_below HYR.out h) Tryz.underlying51 rfl (size43 y ya yc)) (by assumption) ?_
            try simp only [Act.put, lq3, lq4, lq5]
            refine wpAnyH_take (i := 6) (v := .agg (noteA x sa sc)) rfl (by kernel_rfl) (by kernel_rfl) (by kernel_rfl) (fun _ _ _ h => h) (yields_row (by rfl) 51 _ rfl p8 rfl _ 51 (0, 0) _ (fun W h => (h.block _ (Array.getElem?_eq_some_iff.1 TT.out).1).trans TT.out) Tryz.underlying51 rfl (I43.out _ _ _)) (by assumption) ?_
            try simp only [Act.put, lq3, lq4, lq5]
            refine wpAnyH_ready (rs := [5]) (by kernel_rfl) (by simp) ?_
            refine AllReadyH.cons rfl (fun K hK => ?_) AllReadyH.nil
            go_simp
            go_at_call 63
            refine (nameOf_any y ya yc _).mono ?_
            rintro e v1 ⟨rfl, b1⟩
            have V1 := Lib.hid (HS0.out.trans (b1.mono HS0.out.size)); clear b1
            dsimp only
            refine hK.out _ _ V1.out (fun hHeld => ?_)
            clear hK K
            try simp only [Act.put, lq3, lq4, lq5]
            refine wpAnyH_ready (rs := [7]) (by kernel_rfl) (by simp) ?_
            refine AllReadyH.cons rfl (fun K hK => ?_) AllReadyH.nil
            go_simp
            go_at_call 63
            refine (nameOf_any x sa sc _).mono ?_
            rintro e v2 ⟨rfl, b1⟩
            have V2 := Lib.hid (V1.out.trans (b1.mono V1.out.size)); clear b1
            dsimp only
            refine hK.out _ _ V2.out (fun hHeld => ?_)
            clear hK K
            try simp only [Act.put, lq3, lq4, lq5]
            obtain ⟨o, HO⟩ : ∃ o, Hid (o = namesC y.house y.num x.house x.num) := ⟨_, Lib.hid rfl⟩
            refine wpAnyH_ready (rs := [8]) (by kernel_rfl) (by simp) ?_
            refine AllReadyH.cons rfl (fun K hK => ?_) AllReadyH.nil
            go_simp
            go_at_call 62
            refine (compareNames_any y.house y.num x.house x.num _).mono ?_
            rintro e v3 ⟨rfl, b1⟩
            have V3 := Lib.hid (V2.out.trans (b1.mono V2.out.size)); clear b1
            rw [← HO.out]
            dsimp only
            refine hK.out _ _ V3.out (fun hHeld => ?_)
            clear hK K
            try simp only [Act.put, lq3, lq4, lq5]
            refine wpAnyH_take (i := 9) (oi := { dst := some 9, op := .assign (.tmp 37), type := 3, pos := "notes.go:185", after := _, guard := none }) (v := .int .i64 o) rfl (by kernel_rfl) (by kernel_rfl) (by kernel_rfl) (fun _ _ _ h => h) (Or.inl ⟨by rfl, by intro W _; go_simp⟩) (by assumption) ?_
            try simp only [Act.put, lq3, lq4, lq5]
            refine wpAnyH_done (by kernel_rfl) ?_ _
            refine NoPanic.normal ?_
            replace TT := Lib.hid ((V3.out.block _ (Array.getElem?_eq_some_iff.1 TT.out).1).trans TT.out)
            replace FF := Lib.hid ((V3.out.block _ (Array.getElem?_eq_some_iff.1 FF.out).1).trans FF.out)
            replace BB := Lib.hid (BB.out.trans (V3.out.mono (by rw [← hp.out]; exact BB.out.size)))
            replace BW := Lib.hid (BW.out.trans (V3.out.mono BW.out.size))
            clear V1 V2 V3 HS0 HYR
            go_upto_region 12 with fail
            have c0 := cell_of FF.out 0 _ rfl
            have c1 := cell_of FF.out 1 _ rfl
            have c2 := cell_of FF.out 2 _ rfl
            go_wp2_with (refine wpList_load_row rfl 51 _ rfl p8 rfl 51 (noteA x sa sc) (0, 0) _ TT.out Tryz.underlying51 rfl (I43.out _ _ _) ?_)
            refine (formed_any f x sa sc _ HV.out (RX.out _ BW.out)).mono ?_
            rintro e w5 ⟨rfl, b5⟩
            have B5 := Lib.hid (BB.out.trans (b5.mono (by rw [← hp.out]; exact BB.out.size)))
            have F5 := Lib.hid ((b5.block _ (Array.getElem?_eq_some_iff.1 FF.out).1).trans FF.out)
            clear b5 c0 c1 c2
            cases hf : formedB f x
            · have HR := Lib.hid (show checkSetP f l = (80, j + 1) by rw [HG.out]; exact setGo_some hlt (by unfold setAt; rw [HX.out]; simp only; rw [if_pos hf]))
              clear hf
              go_wp2_with fail
              go_returns
              rw [HR.out]
              exact ⟨rfl, by rw [hp.out]; exact B5.out⟩
            · have HF := Lib.hid hf; clear hf
              by_cases ho : o = 0
              · have ho1 : (o == 0) = true := by simp [ho]
                have HR := Lib.hid (show checkSetP f l = (81, j + 1) by rw [HG.out]; exact setGo_some hlt (by unfold setAt; rw [HX.out]; simp only; rw [if_neg (by rw [HF.out]; decide), if_neg HK0.out, HY.out]; simp only; rw [← HO.out, if_pos ho]))
                clear ho
                go_wp2_with fail
                go_returns
                rw [HR.out]
                exact ⟨rfl, by rw [hp.out]; exact B5.out⟩
              · have ho1 : (o == 0) = false := by simp [ho]
                by_cases hp2 : 0 < o
                · have ho2 : decide (0 < o) = true := by simp [hp2]
                  have HR := Lib.hid (show checkSetP f l = (1, j + 1) by rw [HG.out]; exact setGo_some hlt (by unfold setAt; rw [HX.out]; simp only; rw [if_neg (by rw [HF.out]; decide), if_neg HK0.out, HY.out]; simp only; rw [← HO.out, if_neg ho, if_pos hp2]))
                  clear ho hp2
                  go_wp2_with fail
                  go_returns
                  rw [HR.out]
                  exact ⟨rfl, by rw [hp.out]; exact B5.out⟩
                · have ho2 : decide (0 < o) = false := by simp; omega
                  have HR := Lib.hid (show setGo f l (n - (j + 1)) (j + 1) = setGo f l (n - (j + 1 + 1)) (j + 1 + 1) from setGo_none hlt (by unfold setAt; rw [HX.out]; simp only; rw [if_neg (by rw [HF.out]; decide), if_neg HK0.out, HY.out]; simp only; rw [← HO.out, if_neg ho, if_neg hp2]))
                  clear ho hp2
                  go_wp2_with fail
                  go_roundw
                  case rel => exact ⟨j + 1 + 1, by go_num, by omega, Lib.hid (by rw [← HR.out]; exact HG.out), by rw [hp.out]; exact B5, F5⟩
                  case measure => simp [intOf]; omega
        · have hkn : k = n := by omega
          subst hkn
          have HR := Lib.hid (show checkSetP f l = (0, 0) by rw [HG.out, Nat.sub_self]; rfl)
          go_wp2_with fail
          go_returns
          rw [HR.out]
          exact ⟨rfl, by rw [hp.out]; exact HB.out⟩
end
end Go.Proofs.YtpjiakgfegnmcaaGreat
namespace Go.Proofs.YtpjiakgfegnmcaaGreat
set_option linter.unusedSimpArgs false
open Go.RowKit

structure LN where
  n : NoteV
  sa : Option Addr
  sc : Nat
def LN.val (x : LN) : Value := .agg (noteA x.n x.sa x.sc)
def LN.nm (x : LN) : Nm := (x.n.house, x.n.num)
def LN.ok (W : World) (x : LN) : Prop := RdI W x.sa x.n.strokes.length x.sc x.n.strokes
theorem LN.ok.below {W W' : World} {x : LN} (h : x.ok W) (hb : Below W.heap.size W W') : x.ok W' := RdI.below h hb
def RdLs (W : World) (a : Option Addr) (n c : Nat) (xs : List LN) : Prop :=
  xs.length = n ∧ n ≤ c ∧ c ≤ maxLen ∧ (c = 0 ∨ ∃ b off, a = some ⟨b, off, none⟩ ∧ ∀ i x, xs[i]? = some x → W.rangeAt b (off + i * 19) (x.n.cells x.sa x.sc) ∧ x.ok W)
theorem RdLs.below {W W' : World} {a : Option Addr} {n c : Nat} {l : List LN} (h : RdLs W a n c l) (hb : Below W.heap.size W W') : RdLs W' a n c l := by
  refine ⟨h.1, h.2.1, h.2.2.1, h.2.2.2.imp id ?_⟩
  rintro ⟨b, off, rfl, h4⟩
  refine ⟨b, off, rfl, fun i x hx => ?_⟩
  obtain ⟨h5, h6⟩ := h4 i x hx
  exact ⟨rangeAt_below h5 hb, h6.below hb⟩
theorem RdLs.at {W : World} {a : Option Addr} {n c : Nat} {l : List LN} (h : RdLs W a n c l) (h0 : 0 < n) : ∃ b off, a = some ⟨b, off, none⟩ ∧ ∀ i x, l[i]? = some x → W.rangeAt b (off + i * 19) (x.n.cells x.sa x.sc) ∧ x.ok W := by
  rcases h.2.2.2 with h4 | h4
  · have := h.2.1; omega
  · exact h4
theorem choose_ln : ∀ (l : List NoteV) (P : Nat → LN → Prop), (∀ i x, l[i]? = some x → ∃ y : LN, y.n = x ∧ P i y) → ∃ xs : List LN, xs.map LN.n = l ∧ ∀ i y, xs[i]? = some y → P i y
  | [], _, _ => ⟨[], rfl, by simp⟩
  | x :: l, P, h => by
    obtain ⟨y, h1, h2⟩ := h 0 x rfl
    obtain ⟨xs, h3, h4⟩ := choose_ln l (fun i => P (i + 1)) (fun i x hx => h (i + 1) x hx)
    refine ⟨y :: xs, by simp [h1, h3], fun i z hz => ?_⟩
    cases i with
    | zero => simp at hz; exact hz ▸ h2
    | succ i => exact h4 i z hz
theorem RdNs.choose {W : World} {a : Option Addr} {n c : Nat} {l : List NoteV} (h : RdNs W a n c l) : ∃ xs : List LN, xs.map LN.n = l ∧ RdLs W a n c xs := by
  obtain ⟨h1, h2, h3, h4⟩ := h
  rcases h4 with h4 | ⟨b, off, rfl, h4⟩
  · have : l = [] := List.eq_nil_of_length_eq_zero (by omega)
    subst this
    exact ⟨[], rfl, h1, h2, h3, .inl h4⟩
  · obtain ⟨xs, h5, h6⟩ := choose_ln l (fun i y => W.rangeAt b (off + i * 19) (y.n.cells y.sa y.sc) ∧ y.ok W) (fun i x hx => by
      obtain ⟨sa, sc, h7, h8⟩ := h4 i x hx
      exact ⟨⟨x, sa, sc⟩, rfl, h7, h8⟩)
    exact ⟨xs, h5, by rw [← h1, ← h5]; simp, h2, h3, .inr ⟨b, off, rfl, h6⟩⟩
def setF (xs : List LN) : Nm → Option LN := xs.foldl (fun f x => updF f x.nm x) (fun _ => none)
theorem setF_snoc (xs : List LN) (x : LN) : setF (xs ++ [x]) = updF (setF xs) x.nm x := by simp [setF, List.foldl_append]
theorem take_snoc {α : Type} {xs : List α} {k : Nat} {x : α} (h : xs[k]? = some x) : xs.take (k + 1) = xs.take k ++ [x] := by
  rw [List.take_add_one, h]; rfl
def SetEnd (f : FrV) (l : List NoteV) (w : World) (e : Ending) (w' : World) : Prop :=
  ((checkSetP f l).1 ≠ 0 ∧ e = .returned (.tuple #[.map none, .bool false])) ∨
  ((checkSetP f l).1 = 0 ∧ ∃ xs b, e = .returned (.tuple #[.map (some b), .bool true]) ∧ xs.map LN.n = l ∧ (∀ x ∈ xs, x.ok w') ∧ MapF LN.val w' b l.length (setF xs) ∧ w.heap.size ≤ b)
section
attribute [local go_sem] noteA_0
set_option maxHeartbeats 4000000 in
set_option maxRecDepth 100000 in
theorem setOf_any (f : FrV) (a : Option Addr) (n c : Nat) (l : List NoteV) (w : World) (hr : RdNs w a n c l) (hok : ∀ x ∈ l, x.Ok) :
    Calls Tryz.prog 54 #[f.val, .slice a n c] w fun e w' => SetEnd f l w e w' ∧ Below w.heap.size w w' := by
  have I43 := Lib.hid (show ∀ (m : NoteV) (a : Option Addr) (c : Nat), (Tryz.prog.info? 51).map (·.size) = some (noteA m a c).size from fun m a c => by kernel_rfl)
  obtain ⟨xs, hxs, hR⟩ := hr.choose
  have HXS := Lib.hid hxs
  have HOK := Lib.hid (show ∀ x ∈ xs, nmOk x.nm from fun x hx => by
    have := hok x.n (by rw [← hxs]; exact List.mem_map_of_mem hx)
    exact ⟨this.house, this.num⟩)
  have HLen := Lib.hid (show l.length = n from hr.1)
  have HL := Lib.hid hR.1
  have HN := Lib.hid (show n ≤ maxLen by have := hr.2.1; have := hr.2.2.1; omega)
  have hn63 : n ≤ 9223372036854775807 := by have h1 := HN.out; unfold maxLen at h1; omega
  have RX0 := Lib.hid (show ∀ W', Below w.heap.size w W' → RdLs W' a n c xs from fun W' hb => hR.below hb)
  have CS := Lib.hid (fun W (hb : Below w.heap.size w W) => checkSet_any f a n c l W (hr.below hb))
  unfold FrV.val at CS
  have SE0 := Lib.hid (show ∀ e w', (checkSetP f l).1 ≠ 0 → e = .returned (.tuple #[.map none, .bool false]) → SetEnd f l w e w' from fun e w' h1 h2 => .inl ⟨h1, h2⟩)
  have SE1 := Lib.hid (show ∀ e w' b, (checkSetP f l).1 = 0 → e = .returned (.tuple #[.map (some b), .bool true]) → (∀ x ∈ xs, x.ok w') → MapF LN.val w' b n (setF xs) → w.heap.size ≤ b → SetEnd f l w e w' from fun e w' b h1 h2 h3 h4 h5 => .inr ⟨h1, xs, b, h2, hxs, h3, by rw [HLen.out]; exact h4, h5⟩)
  clear hxs hR hr hok
  obtain ⟨z, HZ⟩ : ∃ z, Hid ((checkSetP f l).1 = z) := ⟨_, Lib.hid rfl⟩
  obtain ⟨y, HY⟩ : ∃ y, Hid ((checkSetP f l).2 = y) := ⟨_, Lib.hid rfl⟩
  rw [HZ.out, HY.out] at CS
  rw [HZ.out] at SE0 SE1
  unfold FrV.val
  have bb := (Below.refl w.heap.size w).alloc (Nat.le_refl _) (.cells #[.int .i64 f.rings, .int .i64 f.sectors, .int .i64 f.wide] 23)
  have BB := Lib.hid bb; clear bb
  go_enter Tryz.func54, Tryz.ntmps54
  go_wp2_with fail
  refine (CS.out _ BB.out).mono ?_
  rintro e w1 ⟨rfl, b1⟩
  have B1 := Lib.hid (BB.out.trans (b1.mono BB.out.size)); clear b1
  by_cases h0 : z = 0
  · have t0 : (z != 0) = false := by simp [h0]
    have H0 := Lib.hid h0; clear h0
    have M0 := Lib.hid (MapF.made (enc := LN.val) w1)
    have hmm := @run_makeMap Tryz.prog
    have B2 := Lib.hid (B1.out.alloc B1.out.size (.map #[] 0))
    obtain ⟨b, hb⟩ : ∃ b, Hid (w1.heap.size = b) := ⟨_, Lib.hid rfl⟩
    have HB := Lib.hid (show w.heap.size ≤ b by rw [← hb.out]; exact B1.out.size)
    rw [hb.out] at M0
    go_wp2_with fail
    rw [hb.out]
    clear hmm
    go_loopw [22] (fun i wr => ∃ k : Nat, i = .int .i64 k ∧ k ≤ n ∧ Hid (Below w.heap.size w wr) ∧ Hid (MapF LN.val wr b k (setF (xs.take k)))) (fun i _ => n - (intOf i).toNat)
    case atStart => exact ⟨0, rfl, Nat.zero_le _, B2, M0⟩
    case round =>
      obtain ⟨k, rfl, hk, HBr, HM⟩ := hrel
      by_cases hlt : k < n
      · obtain ⟨x, hx⟩ : ∃ x, xs[k]? = some x := ⟨_, List.getElem?_eq_getElem (by rw [HL.out]; exact hlt)⟩
        have HX := Lib.hid hx
        have HXok := Lib.hid (HOK.out x (List.mem_of_getElem? hx))
        obtain ⟨bs, off, rfl, hall⟩ := (RX0.out _ HBr.out).at (by omega)
        obtain ⟨hrange, _⟩ := hall k x hx
        have HRA := Lib.hid hrange
        clear hall hx hrange
        have hk63 : (k : Int) ≤ 9223372036854775807 := by omega
        go_upto_region 8 with (first
          | (refine wpList_load_mid rfl 51 _ rfl bs (off + k * 19) rfl (x.n.cells x.sa x.sc) _ HRA.out Tryz.underlying51 rfl (size43 x.n x.sa x.sc) ?_)
          | (refine wpList_store_newp wr rfl 51 _ _ rfl wr.heap.size rfl _ (noteA x.n x.sa x.sc) rfl rfl (I43.out _ _ _) rfl (noteA_one x.n x.sa x.sc) ?_))
        have hbt : Below wr.heap.size wr (wr.alloc (.cells (noteA x.n x.sa x.sc) 51)) := (Below.refl _ _).alloc (Nat.le_refl _) _
        have TT := Lib.hid (heap_last wr (.cells (noteA x.n x.sa x.sc) 51))
        have BT := Lib.hid (HBr.out.trans (hbt.mono HBr.out.size))
        have MT := Lib.hid (HM.out.below hbt)
        obtain ⟨p8, hp8⟩ : ∃ p8, Hid (wr.heap.size = p8) := ⟨_, Lib.hid rfl⟩
        have HNE := Lib.hid (show b < p8 by rw [← hp8.out]; exact HM.out.lt)
        rw [hp8.out] at TT ⊢
        generalize wr.alloc (.cells (noteA x.n x.sa x.sc) 51) = wt at *
        clear hbt
        refine wp_region_noPanic ?_
        refine wp_region_held_drew (S := fun w' => w'.heap[p8]? = some (.cells (noteA x.n x.sa x.sc) 51 (0, 0))) (by kernel_rfl) (show wt.drew.heap[p8]? = _ from TT.out) (fun hHeld => ?_)
        refine wpAnyH_take (i := 0) (v := .map (some b)) rfl (by kernel_rfl) (by kernel_rfl) (by kernel_rfl) (fun _ _ _ h => h) (Or.inl ⟨by rfl, by intro W _; go_simp⟩) (by assumption) ?_
        try simp only [Act.put, lq3, lq4, lq5]
        refine wpAnyH_take (i := 1) (v := .agg (noteA x.n x.sa x.sc)) rfl (by kernel_rfl) (by kernel_rfl) (by kernel_rfl) (fun _ _ _ h => h) (yields_row (by rfl) 51 _ rfl p8 rfl _ 51 (0, 0) _ (fun W h => h) Tryz.underlying51 rfl (I43.out _ _ _)) (by assumption) ?_
        try simp only [Act.put, lq3, lq4, lq5]
        refine wpAnyH_take (i := 3) (v := .agg (noteA x.n x.sa x.sc)) rfl (by kernel_rfl) (by kernel_rfl) (by kernel_rfl) (fun _ _ _ h => h) (yields_row (by rfl) 51 _ rfl p8 rfl _ 51 (0, 0) _ (fun W h => h) Tryz.underlying51 rfl (I43.out _ _ _)) (by assumption) ?_
        try simp only [Act.put, lq3, lq4, lq5]
        refine wpAnyH_ready (rs := [2]) (by kernel_rfl) (by simp) ?_
        refine AllReadyH.cons rfl (fun K hK => ?_) AllReadyH.nil
        go_simp
        go_at_call 63
        refine (nameOf_any x.n x.sa x.sc _).mono ?_
        rintro e v1 ⟨rfl, b1⟩
        have b2 : Below wt.heap.size wt v1 := ((Below.refl wt.heap.size wt).drew).trans b1
        have V1 := Lib.hid (BT.out.trans (b2.mono BT.out.size))
        have M1 := Lib.hid (MT.out.below b2)
        have T1 := Lib.hid ((b2.block _ (Array.getElem?_eq_some_iff.1 TT.out).1).trans TT.out)
        clear b1 b2
        dsimp only
        refine hK.out _ _ T1.out (fun hHeld => ?_)
        clear hK K
        try simp only [Act.put, lq3, lq4, lq5]
        refine wpAnyH_ready (rs := [4]) (by kernel_rfl) (by simp) ?_
        refine AllReadyH.cons rfl (fun K hK => ?_) AllReadyH.nil
        have hput := run_put_nm (t := 89) M1.out (by have := HN.out; omega) Tryz.underlying89 x.n.house x.n.num HXok.out x
        obtain ⟨v2, hrun, hm2, ht2⟩ := hput
        have M2 := Lib.hid hm2
        have V2 := Lib.hid (V1.out.grown ht2.grown V1.out.size (fun q hq => by cases hq; exact HB.out))
        have T2 := Lib.hid ((ht2.grown.block p8 (Array.getElem?_eq_some_iff.1 T1.out).1 (fun he => by cases he; exact absurd HNE.out (Nat.lt_irrefl _))).trans T1.out)
        clear hm2 ht2
        unfold LN.val at hrun
        go_simp
        refine hK.out _ _ T2.out (fun hHeld => ?_)
        clear hK K
        try simp only [Act.put, lq3, lq4, lq5]
        refine wpAnyH_done (by kernel_rfl) ?_ _
        refine NoPanic.normal ?_
        go_wp2_with fail
        go_roundw
        case rel => exact ⟨k + 1, by go_num, by omega, V2, Lib.hid (by rw [take_snoc HX.out, setF_snoc]; exact M2.out)⟩
        case measure => simp [intOf]; omega
      · have hkn : k = n := by omega
        subst hkn
        have HF := Lib.hid (show MapF LN.val wr b k (setF xs) by have := HM.out; rw [List.take_of_length_le (by rw [HL.out]; exact Nat.le_refl _)] at this; exact this)
        have HA := Lib.hid (show ∀ x ∈ xs, x.ok wr from fun x hx => by
          obtain ⟨i, hi⟩ := List.getElem?_of_mem hx
          have hi2 : i < xs.length := (List.getElem?_eq_some_iff.1 hi).1
          obtain ⟨_, _, _, hall⟩ := (RX0.out _ HBr.out).at (by rw [← HL.out]; omega)
          exact (hall i x hi).2)
        go_wp2_with fail
        go_returns
        exact ⟨SE1.out _ _ _ H0.out rfl HA.out HF.out HB.out, HBr.out⟩
  · have t0 : (z != 0) = true := by simp [h0]
    have H0 := Lib.hid h0; clear h0
    go_wp2_with fail
    go_returns
    exact ⟨SE0.out _ _ H0.out rfl, B1.out⟩
end
end Go.Proofs.YtpjiakgfegnmcaaGreat
namespace Go.Proofs.YtpjiakgfegnmcaaGreat
set_option linter.unusedSimpArgs false
open Go.RowKit

theorem setRow_at (w : World) (p : Nat) (c c' : Array Value) (t : TypeId) (fr : Nat × Nat) (hp : w.heap[p]? = some (.cells c t fr)) : (w.setRow p c').heap[p]? = some (.cells c' t fr) := by
  simp only [World.setRow, Array.getElem?_modify, hp]
  simp
theorem setRow_grown (w : World) (p : Nat) (c' : Array Value) : w.grownBy (w.setRow p c') (some p) :=
  ⟨rfl, rfl, rfl, by simp [World.setRow], fun k _ hk => by
    have : ¬ p = k := fun e => hk (by rw [e])
    simp [World.setRow, Array.getElem?_modify, this]⟩
theorem grownBy_below {w w' : World} (h : Below w.heap.size w w') (r : Option Nat) : w.grownBy w' r := ⟨h.os, h.tape, h.output, h.size, fun k hk _ => h.block k hk⟩
theorem grown_blk {w w' : World} {row : Option Nat} {p : Nat} {o : Obj} (hg : w.grownBy w' row) (h : w.heap[p]? = some o) (hne : some p ≠ row) : w'.heap[p]? = some o :=
  (hg.block p (Array.getElem?_eq_some_iff.1 h).1 hne).trans h
theorem below_blk {w w' : World} {p : Nat} {o : Obj} (hg : Below w.heap.size w w') (h : w.heap[p]? = some o) : w'.heap[p]? = some o :=
  (hg.block p (Array.getElem?_eq_some_iff.1 h).1).trans h
theorem blk_lt {w : World} {p : Nat} {o : Obj} (h : w.heap[p]? = some o) : p < w.heap.size := (Array.getElem?_eq_some_iff.1 h).1
section
attribute [local go_sem] noteA_2
theorem late_any (n : NoteV) (sa : Option Addr) (sc : Nat) (h m : Int) (q : Nat) (clock : Int) (w : World) (hq : w.heap[q]? = some (.cells #[.int .i64 clock] 3 (0, 0))) :
    Calls Tryz.prog 56 #[.agg #[.int .i64 h, .int .i64 m], .agg (noteA n sa sc), .pointer (some ⟨q, 0, none⟩)] w fun e w' => e = .returned (.bool (decide (clock < n.clock))) ∧ Below w.heap.size w w' := by
  have B := Lib.hid (((Below.refl w.heap.size w).alloc (Nat.le_refl _) (.cells #[.int .i64 h, .int .i64 m] 29)).alloc (by simp) (.cells (noteA n sa sc) 51))
  have hl := heap_at (w.alloc (.cells #[.int .i64 h, .int .i64 m] 29)) (.cells (noteA n sa sc) 51) (w.heap.size + 1) (by simp)
  have c2 := cell_of hl 2 (.int .i64 n.clock) rfl
  have q2 := cell_of (heap_before _ (.cells (noteA n sa sc) 51) _ _ (heap_before w (.cells #[.int .i64 h, .int .i64 m] 29) _ _ hq)) 0 (.int .i64 clock) rfl
  clear hl
  go_enter Tryz.func56, Tryz.ntmps56
  go_wp2_with fail
  go_ret
  exact ⟨rfl, B.out⟩
end
def lateF (clock : Int) (f : Nm → Option LN) (ks : List Nm) : Nm → Option LN := fun a => if a ∈ ks then (f a).filter (fun x => !decide (clock < x.n.clock)) else f a
theorem lateF_keep {clock : Int} {f : Nm → Option LN} {ks : List Nm} {k : Nm} {x : LN} (hf : f k = some x) (h : decide (clock < x.n.clock) = false) : lateF clock f (ks ++ [k]) = lateF clock f ks := by
  funext a
  unfold lateF
  by_cases e : a = k
  · subst e
    simp [hf, Option.filter, h]
  · simp [e]
theorem lateF_del {clock : Int} {f : Nm → Option LN} {ks : List Nm} {k : Nm} {x : LN} (hf : f k = some x) (h : decide (clock < x.n.clock) = true) : lateF clock f (ks ++ [k]) = delF (lateF clock f ks) k := by
  funext a
  unfold lateF delF
  by_cases e : a = k
  · subst e
    simp [hf, Option.filter, h]
  · simp [e]
theorem lateF_none {clock : Int} {f : Nm → Option LN} {ks : List Nm} {k : Nm} (hk : k ∉ ks) : lateF clock f ks k = f k := by simp [lateF, hk]
theorem lateF_all {clock : Int} {f : Nm → Option LN} {ks : List Nm} (h : ∀ k, (lateF clock f ks k).isSome = true → k ∈ ks) : lateF clock f ks = fun a => (f a).filter (fun x => !decide (clock < x.n.clock)) := by
  funext a
  by_cases e : a ∈ ks
  · simp [lateF, e]
  · have h1 := h a
    rw [lateF_none e] at h1
    rw [lateF_none e]
    cases hf : f a with
    | none => rfl
    | some x => exact absurd (h1 (by rw [hf]; rfl)) e
set_option maxRecDepth 100000 in
set_option maxHeartbeats 2000000 in
theorem delete_any (b n : Nat) (f : Nm → Option LN) (q : Nat) (clock : Int) (w : World) (hm : MapF LN.val w b n f) (hq : w.heap[q]? = some (.cells #[.int .i64 clock] 3 (0, 0))) :
    Calls Tryz.prog 55 #[.map (some b), .func (.func 56) #[] #[.pointer (some ⟨q, 0, none⟩)]] w fun e w' =>
      e = .returned (.tuple #[]) ∧ MapF LN.val w' b n (fun a => (f a).filter (fun x => !decide (clock < x.n.clock))) ∧ w.grownBy w' (some b) := by
  have I43 := Lib.hid (show ∀ (m : NoteV) (a : Option Addr) (c : Nat), (Tryz.prog.info? 51).map (·.size) = some (noteA m a c).size from fun m a c => by kernel_rfl)
  have I41 := Lib.hid (show ∀ (x y : Int), (Tryz.prog.info? 29).map (·.size) = some (#[Value.int .i64 x, Value.int .i64 y]).size from fun x y => by kernel_rfl)
  have hbw := hm.lt
  have HBW := Lib.hid hbw; clear hbw
  have HQ := Lib.hid hq; clear hq
  have HNE := Lib.hid (show q ≠ b from fun e => by
    subst e
    obtain ⟨D, ⟨es, clock, h1, _⟩, _⟩ := hm
    rw [HQ.out] at h1; cases h1)
  go_enter Tryz.func55, Tryz.ntmps55
  go_wp2_with (first
    | (at_range; refine wpList_range_nm _ rfl _ 89 51 rfl Tryz.underlying89 b n rfl hm ?_; intro w0 cnt0 hrg0 hg0 hs0)
    | fail)
  go_frame
  obtain ⟨r, hr⟩ : ∃ r, Hid (w.heap.size = r) := ⟨_, Lib.hid rfl⟩
  have HQ0 := Lib.hid (grown_blk hg0 HQ.out (by simp))
  have G0 := Lib.hid (hg0.but (some b))
  rw [hr.out] at hrg0
  rw [hr.out]
  clear hm hg0 hs0
  go_loopw [8] (fun _ wr => ∃ (ks : List Nm) (cnt : Nat), Hid (RangeF LN.val wr b r n (lateF clock f ks) ks cnt) ∧ Hid (w.grownBy wr (some b)) ∧ Hid (wr.heap[q]? = some (.cells #[.int .i64 clock] 3 (0, 0)))) (fun _ wr => wr.rangeLeft b r)
  case atStart => exact ⟨[], cnt0, Lib.hid (by rw [show lateF clock f [] = f from funext fun a => by simp [lateF]]; exact hrg0), G0, HQ0⟩
  case round =>
    obtain ⟨ks, cnt, HR, HG, HC⟩ := hrel
    clear HQ0 hrg0 G0
    go_upto_region 2 with (first
      | (at_next; refine wpList_next_nm wr rfl _ rfl b r n cnt ks rfl HR.out ?_ ?_)
      | fail)
    · intro hall
      have HE := Lib.hid (show MapF LN.val wr b n (fun a => (f a).filter (fun x => !decide (clock < x.n.clock))) by rw [← lateF_all hall]; exact HR.out.map)
      clear hall
      go_wp2_with fail
      go_end0
      exact ⟨rfl, HE.out, HG.out⟩
    · intro kh km y w1 cnt1 HN hen
      unfold LN.val at hen
      have HC1 := Lib.hid (grown_blk HN.out.grown HC.out (fun e => by
        have e' := Option.some.inj e
        have h1 := blk_lt HQ.out
        have h2 := hr.out
        omega))
      have HG1 := Lib.hid (HG.out.andThen HN.out.grown (fun j hj => by cases hj; exact .inl (by rw [hr.out]; exact Nat.le_refl _)))
      have HR1 := Lib.hid HN.out.range
      go_upto_region 3 with (first
        | (refine wpList_store_newp (w1.alloc (.cells #[.int .i64 kh, .int .i64 km] 29)) rfl 51 _ _ rfl (w1.heap.size + 1) (by simp) _ (noteA y.n y.sa y.sc) rfl rfl (I43.out _ _ _) rfl (noteA_one y.n y.sa y.sc) ?_))
      have BT := Lib.hid (((Below.refl w1.heap.size w1).alloc (Nat.le_refl _) (.cells #[.int .i64 kh, .int .i64 km] 29)).alloc (by simp) (.cells (noteA y.n y.sa y.sc) 51))
      have T4 := Lib.hid (heap_before _ (.cells (noteA y.n y.sa y.sc) 51) _ _ (heap_last w1 (.cells #[.int .i64 kh, .int .i64 km] 29)))
      have T5 := Lib.hid (heap_at (w1.alloc (.cells #[.int .i64 kh, .int .i64 km] 29)) (.cells (noteA y.n y.sa y.sc) 51) (w1.heap.size + 1) (by simp))
      generalize (w1.alloc (.cells #[.int .i64 kh, .int .i64 km] 29)).alloc (.cells (noteA y.n y.sa y.sc) 51) = wt at *
      obtain ⟨p4, hp4⟩ : ∃ p4, Hid (w1.heap.size = p4) := ⟨_, Lib.hid rfl⟩
      obtain ⟨p5, hp5⟩ : ∃ p5, Hid (w1.heap.size + 1 = p5) := ⟨_, Lib.hid rfl⟩
      rw [hp5.out] at T5 ⊢
      rw [hp4.out] at T4 ⊢
      have RT := Lib.hid (HR1.out.below BT.out)
      have CT := Lib.hid (below_blk BT.out HC1.out)
      have GT := Lib.hid (HG1.out.andThen (grownBy_below BT.out none) (fun j hj => by cases hj))
      have n0 := cell_of T4.out 0 (.int .i64 kh) rfl
      have n1 := cell_of T4.out 1 (.int .i64 km) rfl
      have LB := Lib.hid (show b < wt.heap.size from RT.out.map.lt)
      clear hen
      go_wp2_with (first
        | (refine wpList_load_row rfl 51 _ rfl p5 rfl 51 (noteA y.n y.sa y.sc) (0, 0) _ T5.out Tryz.underlying51 rfl (I43.out _ _ _) ?_))
      refine (late_any y.n y.sa y.sc kh km q clock wt CT.out).mono ?_
      rintro e w2 ⟨rfl, b2⟩
      have R2 := Lib.hid (RT.out.below b2)
      have C2 := Lib.hid (below_blk b2 CT.out)
      have G2 := Lib.hid (GT.out.andThen (grownBy_below b2 none) (fun j hj => by cases hj))
      have T42 := Lib.hid (below_blk b2 T4.out)
      clear b2 n0 n1
      have n0 := cell_of T42.out 0 (.int .i64 kh) rfl
      have n1 := cell_of T42.out 1 (.int .i64 km) rfl
      cases hc : decide (clock < y.n.clock)
      · have HE := Lib.hid (lateF_keep (clock := clock) (ks := ks) (show f (kh, km) = some y by rw [← lateF_none (clock := clock) (f := f) HN.out.new]; exact HN.out.at_) hc)
        clear hc
        go_wp2_with fail
        go_roundw
        case rel => exact ⟨_, _, Lib.hid (by rw [HE.out]; exact R2.out), G2, C2⟩
        case measure => rw [R2.out.left_eq, HR.out.left_eq]; exact HN.out.lt
      · have HE := Lib.hid (lateF_del (clock := clock) (ks := ks) (show f (kh, km) = some y by rw [← lateF_none (clock := clock) (f := f) HN.out.new]; exact HN.out.at_) hc)
        clear hc
        go_wp2_with (first
          | (at_delete; refine wpList_del_nm w2 rfl _ _ 89 51 rfl Tryz.underlying89 b r n _ _ (kh, km) rfl R2.out rfl HN.out.ok (by simp) ?_; intro w3 cnt3 hr3 hle3 ht3; go_frame)
          | fail)
        have C3 := Lib.hid (grown_blk ht3.grown C2.out (fun e => HNE.out (Option.some.inj e)))
        have G3 := Lib.hid (G2.out.andThen ht3.grown (fun j hj => .inr hj))
        have R3 := Lib.hid hr3
        have L3 := Lib.hid hle3
        clear hr3 hle3 ht3
        go_roundw
        case rel => exact ⟨_, _, Lib.hid (by rw [HE.out]; exact R3.out), G3, C3⟩
        case measure => rw [R3.out.left_eq, HR.out.left_eq]; exact Nat.lt_of_le_of_lt L3.out HN.out.lt
end Go.Proofs.YtpjiakgfegnmcaaGreat
