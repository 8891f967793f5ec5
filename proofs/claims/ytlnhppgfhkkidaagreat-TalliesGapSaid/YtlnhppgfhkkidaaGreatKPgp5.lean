/- Parts of the proof, in this order: The reference's SameNote (of millrindref09), for notes that are the same; Orders of names and notes in the program: cmp.Compare, cmp.Or, compareNames; Orders of names and notes in the program: compareNames, known, when, Before; done, judges, copied in the program; Maps keyed by names: what such a map in memory reads as, and its operations in these words; The program's CheckSet; Notes as they lie in memory; the program's setOf; Stores of whole structs into known blocks; maps.DeleteFunc by a clock; The program's sit: who judges which note, and which corrections are vacant; SRows of several cells in a block, what is sorted: loads, stores; and the plain law of an order; The laying of the library's sort at notes and names. -/
import Derived.Deep.RegionHeld3
import Derived.Maps.RangeWalk
import Derived.Maps.OwnSet
import Derived.DeepKeys4
import Derived.Deep.MidRow
import Derived.Shelf.SlSortCmp.WholeK
import Derived.Test.YtlnhppgfhkkidaaGreatProg
import Derived.Test.YtlnhppgfhkkidaaGreatKPgp4
set_option linter.unusedSimpArgs false
set_option linter.unusedVariables false
open List renaming getElem_toArray → lq0, getElem_cons_succ → lq1, getElem_cons_zero → lq2, setIfInBounds_toArray → lq3, set_cons_zero → lq4, set_cons_succ → lq5
namespace Go.Proofs.YtlnhppgfhkkidaaGreat
open Go.RowKit
theorem within9_any (x lo hi : Int) (w : World) : Calls Tryz.prog 77 #[.int .i64 x, .int .i64 lo, .int .i64 hi] w fun e w' => e = .returned (.bool (inB x lo hi)) ∧ w = w' := by
  by_cases h1 : lo ≤ x
  · have t1 : decide (lo ≤ x) = true := by simp; omega
    by_cases h2 : x ≤ hi
    · have t2 : decide (x ≤ hi) = true := by simp; omega
      have t3 : inB x lo hi = true := inB_true.2 ⟨h1, h2⟩
      rw [t3]; clear t3
      go_enter Tryz.func77, Tryz.ntmps77
      go_wp2_with fail
      go_ret
      exact ⟨rfl, rfl⟩
    · have t2 : decide (x ≤ hi) = false := by simp; omega
      have t3 : inB x lo hi = false := inB_false.2 (fun h => h2 h.2)
      rw [t3]; clear t3
      go_enter Tryz.func77, Tryz.ntmps77
      go_wp2_with fail
      go_ret
      exact ⟨rfl, rfl⟩
  · have t1 : decide (lo ≤ x) = false := by simp; omega
    have t3 : inB x lo hi = false := inB_false.2 (fun h => h1 h.1)
    rw [t3]; clear t3
    go_enter Tryz.func77, Tryz.ntmps77
    go_wp2_with fail
    go_ret
    exact ⟨rfl, rfl⟩
theorem own_of_block {w : World} {base P : Nat} {l : List Int} {k : Nat} (h : w.heap[P]? = some (.cells (l.map intV).toArray 3 (0, 0))) (hk : l.length = k) (hb : base ≤ P) (hm : k ≤ maxLen) : w.ownsRow base 3 1 (.slice (some ⟨P, 0, none⟩) k k) k (l.map intV) := by
  refine ⟨by simp [hk], .inr ⟨P, k, _, rfl, hb, h, Nat.le_refl _, hm, by simp [hk], ?_⟩⟩
  rw [List.take_of_length_le (by simp [hk])]
theorem small_in {z : Int} (h : SmallZ z) : inB z (-4611686018427387904) 4611686018427387903 = true := by
  unfold SmallZ far at h
  rw [inB_true]
  omega
section
attribute [local go_sem] noteA_0
set_option maxHeartbeats 4000000 in
set_option maxRecDepth 100000 in
theorem inside_any (n : NoteV) (sa : Option Addr) (sc : Nat) (w : World) (hs : RdI w sa n.strokes.length sc n.strokes) (hsm : SmallN n) (hlen : n.strokes.length ≤ 1000000) :
    Calls Tryz.prog 126 #[.agg (noteA n sa sc)] w fun e w' => e = .returned (.bool true) ∧ Below w.heap.size w w' := by
  have I43 := Lib.hid (show ∀ (m : NoteV) (a : Option Addr) (c : Nat), (Tryz.prog.info? 47).map (·.size) = some (noteA m a c).size from fun m a c => by kernel_rfl)
  have hlast := heap_last w (.cells (noteA n sa sc) 47)
  have bb : Below w.heap.size w (w.alloc (.cells (noteA n sa sc) 47)) := (Below.refl _ _).alloc (Nat.le_refl _) _
  have hlt : w.heap.size < (w.alloc (.cells (noteA n sa sc) 47)).heap.size := by simp
  have H0 := Lib.hid (And.intro hlast (And.intro bb hlt)); clear hlast bb hlt
  go_enter Tryz.func126, Tryz.ntmps126
  go_upto_region 1 with fail
  generalize w.alloc (.cells (noteA n sa sc) 47) = w0 at *
  obtain ⟨base, hbase⟩ : ∃ base, Hid (w.heap.size = base) := ⟨_, Lib.hid rfl⟩
  rw [hbase.out]
  rw [hbase.out] at H0
  go_wp2_with (refine wpList_load_row rfl 47 _ rfl base rfl 47 (noteA n sa sc) (0, 0) _ H0.out.1 Tryz.underlying47 rfl (I43.out _ _ _) ?_)
  refine (rfields_any n sa sc w0).mono ?_
  rintro e wf ⟨P, Q, rfl, g1, g2, g3, g4, b1⟩
  have hlb := Nat.le_of_lt H0.out.2.2
  have BF := Lib.hid (H0.out.2.1.trans (b1.mono hlb))
  have hn1 := (b1.block _ H0.out.2.2).trans H0.out.1
  have hPQ : Q ≠ P := by
    intro e
    rw [e] at g2
    rw [g1] at g2
    simp only [Option.some.injEq, Obj.cells.injEq] at g2
    have := congrArg Array.size g2.1
    simp [aheadN, behindN] at this
  have OW := Lib.hid (own_of_block (base := base) g1 (k := 15) rfl (Nat.le_trans hlb g3) (by unfold maxLen; omega))
  have OQ := Lib.hid (And.intro hPQ (And.intro (own_of_block (base := base) g2 (k := 3) rfl (Nat.le_trans hlb g4) (by unfold maxLen; omega)) (Array.getElem?_eq_some_iff.1 g2).1))
  have e15 : wf.cell? ⟨base, 15, none⟩ = some (.slice sa n.strokes.length sc) := cell_of hn1 15 _ rfl
  have hbw : base ≤ wf.heap.size := Nat.le_trans hlb b1.size
  have RS1 := Lib.hid (show RdI wf sa n.strokes.length sc n.strokes from hs.below (by rw [hbase.out]; exact BF.out))
  have hln : n.strokes.length ≤ 1000000 := hlen
  obtain ⟨ln, hlnn⟩ : ∃ ln, Hid (n.strokes.length = ln) := ⟨_, Lib.hid rfl⟩
  rw [hlnn.out] at RS1 e15 hln
  clear g1 g2 g3 g4 b1 H0 hn1 hPQ hlb
  go_wp2_with (first
    | (at_builtin; refine app_ints _ rfl _ _ rfl base _ _ _ (aheadN n) rfl OW.out _ _ _ n.strokes rfl RS1.out (by omega) hbw ?_; intro a1 c1 w1 h1 k1; have O1 := Lib.hid h1; have G1 := Lib.hid k1; have hbw1 : base ≤ w1.heap.size := Nat.le_trans hbw G1.out.size; have RQ := Lib.hid (show RdI w1 (some ⟨Q, 0, none⟩) 3 3 (behindN n) from RdA.of_cells (RdA.of_own OQ.out.2.1) (fun b ⟨off, hb⟩ hlt => by cases hb; exact G1.out.block _ hlt (fun e => by cases e; exact OQ.out.1 rfl))); clear h1 k1)
    | (at_builtin; refine app_ints _ rfl _ _ rfl base _ _ _ (aheadN n ++ n.strokes) rfl O1.out _ _ _ (behindN n) rfl RQ.out (by omega) hbw1 ?_; intro a2 c2 w2 h2 k2; have O2 := Lib.hid h2; have B2 := Lib.hid ((BF.out.grown G1.out hbw (fun q hq => (OW.out.lt q hq).1)).grown k2 hbw1 (fun q hq => (O1.out.lt q hq).1)); clear h2 k2))
  have SM := Lib.hid (show ∀ z ∈ aheadN n ++ n.strokes ++ behindN n, SmallZ z from fun z hz => by
    rcases List.mem_append.1 hz with hz | hz
    · rcases List.mem_append.1 hz with hz | hz
      · exact hsm.1 z hz
      · exact hsm.2.1 z hz
    · exact hsm.2.2.1 z hz)
  have LL : Hid ((aheadN n ++ n.strokes ++ behindN n).length = 15 + ln + 3) := Lib.hid (by rw [List.length_append, List.length_append, hlnn.out]; rfl)
  obtain ⟨X, hX⟩ : ∃ X, Hid (X = aheadN n ++ n.strokes ++ behindN n) := ⟨_, Lib.hid rfl⟩
  obtain ⟨L, hL⟩ : ∃ L, Hid (15 + ln + 3 = L) := ⟨_, Lib.hid rfl⟩
  rw [← hX.out] at SM LL O2
  rw [hL.out] at LL O2 ⊢
  have hL63 : (L : Int) ≤ 9223372036854775807 := by have := hL.out; omega
  have RX := Lib.hid (RdA.of_own O2.out)
  clear OW OQ O1 G1 RQ RS1 e15 hbw1 hbw
  go_loopw [6] (fun i wr => ∃ k : Nat, i = .int .i64 k ∧ k ≤ L ∧ Hid (w2 = wr)) (fun i _ => L - (intOf i).toNat)
  case atStart => exact ⟨0, rfl, Nat.zero_le _, Lib.hid rfl⟩
  case round =>
    obtain ⟨k, rfl, hk, HE⟩ := hrel
    have := HE.out
    subst this
    by_cases hlt : k < L
    · obtain ⟨b, off, rfl, hc⟩ := RdI.at RX.out (by omega)
      have e1 := hc k hlt
      have hin := small_in (SM.out (X[k]?.getD 0) (by rw [List.getElem?_eq_getElem (by rw [LL.out]; exact hlt), Option.getD_some]; exact List.getElem_mem _))
      have HIN := Lib.hid hin; clear hin
      generalize X[k]?.getD 0 = z at *
      clear hc
      go_wp2_with fail
      refine (within9_any z (-4611686018427387904) 4611686018427387903 w2).mono ?_
      rintro e w' ⟨rfl, rfl⟩
      rw [HIN.out]
      go_wp2_with fail
      go_roundw
      case rel => exact ⟨k + 1, by go_num, by omega, Lib.hid (by trivial)⟩
      case measure => simp [intOf]; omega
    · have hkn : k = L := by omega
      subst hkn
      go_wp2_with fail
      go_ret
      exact ⟨rfl, by rw [hbase.out]; exact B2.out⟩
end
end Go.Proofs.YtlnhppgfhkkidaaGreat
namespace Go.Proofs.YtlnhppgfhkkidaaGreat
set_option linter.unusedSimpArgs false
open Go.RowKit
structure TwoN (w W : World) (p q : Nat) (x : NoteV) (sa : Option Addr) (sc : Nat) (ta : Option Addr) (tc : Nat) : Prop where
  e1 : W.heap[p]? = some (.cells (noteA x sa sc) 47 (0, 0))
  e2 : W.heap[q]? = some (.cells (noteA x ta tc) 47 (0, 0))
  b : Below p w W
  lt : p < q
theorem TwoN.below {w W W' : World} {p q : Nat} {x : NoteV} {sa ta : Option Addr} {sc tc : Nat} (h : TwoN w W p q x sa sc ta tc) (hb : Below W.heap.size W W') : TwoN w W' p q x sa sc ta tc := by
  have g : ∀ {k : Nat} {o : Obj}, W.heap[k]? = some o → W'.heap[k]? = some o := fun {k o} hk => (hb.block k (Array.getElem?_eq_some_iff.1 hk).1).trans hk
  have h0 := (Array.getElem?_eq_some_iff.1 h.e1).1
  exact ⟨g h.e1, g h.e2, h.b.trans (hb.mono (by omega)), h.lt⟩
theorem yields_row {P : Program} {ops : Array Oper} {S : World → Prop} {op : Oper} {a : Act} (hw : Region.wanted op (yielded ops a.tmps) = true) (ty : TypeId) (x : Operand) (ho : op.op = .load ty x)
    (b : Nat) (hx : a.eval x = .pointer (some ⟨b, 0, none⟩)) (cs : Array Value) (t : TypeId) (fr : Nat × Nat) (d : TypeDesc) (hS : ∀ w, S w → w.heap[b]? = some (.cells cs t fr))
    (hu : P.underlying ty = some d) (hd : (match d with | .struct _ | .array _ _ => true | _ => false) = true) (hi : (P.info? ty).map (·.size) = some cs.size) : YieldsIf P ops S op (.agg cs) a :=
  .inl ⟨hw, fun w hw' => by
    unfold execOp
    simp only [ho, hx, Instr.loadAt, Instr.sureAddr, Sem.run_bind, Sem.run_pure, Result.andThen_ok, run_loadVar_row w b t ty cs fr d (hS w hw') hu hd hi]⟩
section
attribute [local go_sem] noteA_0
set_option maxHeartbeats 8000000 in
set_option maxRecDepth 100000 in
theorem snote_any (x : NoteV) (sa : Option Addr) (sc : Nat) (ta : Option Addr) (tc : Nat) (w : World) (hx : RdI w sa x.strokes.length sc x.strokes) (hy : RdI w ta x.strokes.length tc x.strokes) (hsm : SmallN x) (hlen : x.strokes.length ≤ 1000000) :
    Calls Tryz.prog 70 #[.agg (noteA x sa sc), .agg (noteA x ta tc)] w fun e w' => e = .returned (.bool true) ∧ Below w.heap.size w w' := by
  have I43 := Lib.hid (show ∀ (m : NoteV) (a : Option Addr) (c : Nat), (Tryz.prog.info? 47).map (·.size) = some (noteA m a c).size from fun m a c => by kernel_rfl)
  have g1 := heap_before _ (.cells (noteA x ta tc) 47) _ _ (heap_last w (.cells (noteA x sa sc) 47))
  have g2 := heap_at (w.alloc (.cells (noteA x sa sc) 47)) (.cells (noteA x ta tc) 47) (w.heap.size + 1) (by simp)
  have bb : Below w.heap.size w ((w.alloc (.cells (noteA x sa sc) 47)).alloc (.cells (noteA x ta tc) 47)) := ((Below.refl _ _).alloc (Nat.le_refl _) _).alloc (by simp) _
  have T0 : Hid (TwoN w ((w.alloc (.cells (noteA x sa sc) 47)).alloc (.cells (noteA x ta tc) 47)) w.heap.size (w.heap.size + 1) x sa sc ta tc) := Lib.hid ⟨g1, g2, bb, by omega⟩
  clear g1 g2 bb
  go_enter Tryz.func70, Tryz.ntmps70
  go_upto_region 1 with fail
  generalize (w.alloc (.cells (noteA x sa sc) 47)).alloc (.cells (noteA x ta tc) 47) = W0 at *
  obtain ⟨p, hp⟩ : ∃ p, Hid (w.heap.size = p) := ⟨_, Lib.hid rfl⟩
  obtain ⟨q, hq⟩ : ∃ q, Hid (w.heap.size + 1 = q) := ⟨_, Lib.hid rfl⟩
  rw [hq.out, hp.out] at T0
  rw [hq.out, hp.out]
  have RX := Lib.hid (show ∀ W, Below p w W → RdI W sa x.strokes.length sc x.strokes from fun W h => hx.below (by rw [hp.out]; exact h))
  have RY := Lib.hid (show ∀ W, Below p w W → RdI W ta x.strokes.length tc x.strokes from fun W h => hy.below (by rw [hp.out]; exact h))
  have T0d := Lib.hid (T0.out.below (Below.refl W0.heap.size W0).drew)
  obtain ⟨E, hE⟩ : ∃ E, Hid (E = encN x) := ⟨_, Lib.hid rfl⟩
  have EX := Lib.hid (fun W (h : TwoN w W p q x sa sc ta tc) => rencd_any x sa sc W (RX.out _ h.b) hsm hlen)
  have EY := Lib.hid (fun W (h : TwoN w W p q x sa sc ta tc) => rencd_any x ta tc W (RY.out _ h.b) hsm hlen)
  have IX := Lib.hid (fun W (h : TwoN w W p q x sa sc ta tc) => inside_any x sa sc W (RX.out _ h.b) hsm hlen)
  have IY := Lib.hid (fun W (h : TwoN w W p q x sa sc ta tc) => inside_any x ta tc W (RY.out _ h.b) hsm hlen)
  rw [← hE.out] at EX EY
  clear hx hy
  refine wp_region_noPanic ?_
  refine wp_region_held_drew (S := fun w' => TwoN w w' p q x sa sc ta tc) (by kernel_rfl) T0d.out (fun hHeld => ?_)
  refine wpAnyH_take (i := 0) (v := .agg (noteA x sa sc)) rfl (by kernel_rfl) (by kernel_rfl) (by kernel_rfl) (fun _ _ _ h => h) (yields_row (by rfl) 47 _ rfl p rfl _ 47 (0, 0) _ (fun W h => h.e1) Tryz.underlying47 rfl (I43.out _ _ _)) (by assumption) ?_
  try simp only [Act.put, lq3, lq4, lq5]
  refine wpAnyH_take (i := 3) (v := .agg (noteA x ta tc)) rfl (by kernel_rfl) (by kernel_rfl) (by kernel_rfl) (fun _ _ _ h => h) (yields_row (by rfl) 47 _ rfl q rfl _ 47 (0, 0) _ (fun W h => h.e2) Tryz.underlying47 rfl (I43.out _ _ _)) (by assumption) ?_
  try simp only [Act.put, lq3, lq4, lq5]
  refine wpAnyH_ready (rs := [1]) (by kernel_rfl) (by simp) ?_
  refine AllReadyH.cons rfl (fun K hK => ?_) AllReadyH.nil
  go_simp
  go_at_call 125
  refine (EX.out _ T0d.out).mono ?_
  rintro e wX ⟨aX, cX, rfl, hX, bX⟩
  have TX := Lib.hid (T0d.out.below bX)
  have cvX := conv_bytes (RdB.of_own hX)
  have HX := Lib.hid hX; clear hX bX
  dsimp only
  refine hK.out _ _ TX.out (fun hHeld => ?_)
  clear hK K
  try simp only [Act.put, lq3, lq4, lq5]
  refine wpAnyH_ready (rs := [2, 4]) (by kernel_rfl) (by simp) ?_
  refine AllReadyH.cons rfl (fun K hK => ?_) ?_
  · go_simp
    refine hK.out _ _ TX.out (fun hHeld => ?_)
    clear hK K
    try simp only [Act.put, lq3, lq4, lq5]
    refine wpAnyH_ready (rs := [4]) (by kernel_rfl) (by simp) ?_
    refine AllReadyH.cons rfl (fun K hK => ?_) AllReadyH.nil
    go_simp
    go_at_call 125
    refine (EY.out _ TX.out).mono ?_
    rintro e wY ⟨aY, cY, rfl, hY, bY⟩
    have TY := Lib.hid (TX.out.below bY)
    have cvY := conv_bytes (RdB.of_own hY)
    have cvX2 := conv_bytes (RdB.below (RdB.of_own HX.out) bY); clear hY bY
    dsimp only
    refine hK.out _ _ TY.out (fun hHeld => ?_)
    clear hK K
    try simp only [Act.put, lq3, lq4, lq5]
    refine wpAnyH_ready (rs := [5]) (by kernel_rfl) (by simp) ?_
    refine AllReadyH.cons rfl (fun K hK => ?_) AllReadyH.nil
    go_simp
    refine hK.out _ _ TY.out (fun hHeld => ?_)
    clear hK K
    try simp only [Act.put, lq3, lq4, lq5]
    refine wpAnyH_take (i := 6) (v := .bool true) rfl (by kernel_rfl) (by kernel_rfl) (by kernel_rfl) (fun _ _ _ h => h) (Or.inl ⟨by rfl, by intro W _; go_simp⟩) (by assumption) ?_
    try simp only [Act.put, lq3, lq4, lq5]
    refine wpAnyH_take (i := 7) (v := .bool true) rfl (by kernel_rfl) (by kernel_rfl) (by kernel_rfl) (fun _ _ _ h => h) (Or.inl ⟨by rfl, by intro W _; go_simp⟩) (by assumption) ?_
    try simp only [Act.put, lq3, lq4, lq5]
    refine wpAnyH_take (i := 8) (v := .agg (noteA x sa sc)) rfl (by kernel_rfl) (by kernel_rfl) (by kernel_rfl) (fun _ _ _ h => h) (yields_row (by rfl) 47 _ rfl p rfl _ 47 (0, 0) _ (fun W h => h.e1) Tryz.underlying47 rfl (I43.out _ _ _)) (by assumption) ?_
    try simp only [Act.put, lq3, lq4, lq5]
    refine wpAnyH_take (i := 10) (v := .agg (noteA x ta tc)) rfl (by kernel_rfl) (by kernel_rfl) (by kernel_rfl) (fun _ _ _ h => h) (yields_row (by rfl) 47 _ rfl q rfl _ 47 (0, 0) _ (fun W h => h.e2) Tryz.underlying47 rfl (I43.out _ _ _)) (by assumption) ?_
    try simp only [Act.put, lq3, lq4, lq5]
    refine wpAnyH_ready (rs := [9]) (by kernel_rfl) (by simp) ?_
    refine AllReadyH.cons rfl (fun K hK => ?_) AllReadyH.nil
    go_simp
    go_at_call 126
    refine (IX.out _ TY.out).mono ?_
    rintro e wI ⟨rfl, bI⟩
    have TI := Lib.hid (TY.out.below bI); clear bI
    dsimp only
    refine hK.out _ _ TI.out (fun hHeld => ?_)
    clear hK K
    try simp only [Act.put, lq3, lq4, lq5]
    refine wpAnyH_ready (rs := [11]) (by kernel_rfl) (by simp) ?_
    refine AllReadyH.cons rfl (fun K hK => ?_) AllReadyH.nil
    go_simp
    go_at_call 126
    refine (IY.out _ TI.out).mono ?_
    rintro e wJ ⟨rfl, bJ⟩
    have TJ := Lib.hid (TI.out.below bJ); clear bJ
    dsimp only
    refine hK.out _ _ TJ.out (fun hHeld => ?_)
    clear hK K
    try simp only [Act.put, lq3, lq4, lq5]
    refine wpAnyH_take (i := 12) (v := .bool true) rfl (by kernel_rfl) (by kernel_rfl) (by kernel_rfl) (fun _ _ _ h => h) (Or.inl ⟨by rfl, by intro W _; go_simp⟩) (by assumption) ?_
    try simp only [Act.put, lq3, lq4, lq5]
    refine wpAnyH_take (i := 13) (v := .bool true) rfl (by kernel_rfl) (by kernel_rfl) (by kernel_rfl) (fun _ _ _ h => h) (Or.inl ⟨by rfl, by intro W _; go_simp⟩) (by assumption) ?_
    try simp only [Act.put, lq3, lq4, lq5]
    refine wpAnyH_take (i := 14) (v := .bool true) rfl (by kernel_rfl) (by kernel_rfl) (by kernel_rfl) (fun _ _ _ h => h) (Or.inl ⟨by rfl, by intro W _; go_simp⟩) (by assumption) ?_
    try simp only [Act.put, lq3, lq4, lq5]
    refine wpAnyH_done (by kernel_rfl) ?_ _
    refine NoPanic.normal ?_
    change Exit.then _ _ Exit.normal { tmps := #[.agg (noteA x sa sc), .agg (noteA x ta tc), .pointer (some ⟨p, 0, none⟩), .pointer (some ⟨q, 0, none⟩), .bool true, .agg (noteA x sa sc), .slice aX E.length cX, .string { data := E.toArray }, .agg (noteA x ta tc), .slice aY E.length cY, .string { data := E.toArray }, .bool true, .bool true, .agg (noteA x sa sc), .bool true, .agg (noteA x ta tc), .bool true, .bool true, .bool true], defers := [] } _
    go_wp2_with fail
    go_ret
    exact ⟨rfl, by rw [hp.out]; exact TJ.out.b⟩
  refine AllReadyH.cons rfl (fun K hK => ?_) AllReadyH.nil
  go_simp
  go_at_call 125
  refine (EY.out _ TX.out).mono ?_
  rintro e wY ⟨aY, cY, rfl, hY, bY⟩
  have TY := Lib.hid (TX.out.below bY)
  have cvY := conv_bytes (RdB.of_own hY)
  have cvX2 := conv_bytes (RdB.below (RdB.of_own HX.out) bY); clear hY bY
  dsimp only
  refine hK.out _ _ TY.out (fun hHeld => ?_)
  clear hK K
  try simp only [Act.put, lq3, lq4, lq5]
  refine wpAnyH_ready (rs := [2, 5]) (by kernel_rfl) (by simp) ?_
  refine AllReadyH.cons rfl (fun K hK => ?_) ?_
  · go_simp
    refine hK.out _ _ TY.out (fun hHeld => ?_)
    clear hK K
    try simp only [Act.put, lq3, lq4, lq5]
    refine wpAnyH_ready (rs := [5]) (by kernel_rfl) (by simp) ?_
    refine AllReadyH.cons rfl (fun K hK => ?_) AllReadyH.nil
    go_simp
    refine hK.out _ _ TY.out (fun hHeld => ?_)
    clear hK K
    try simp only [Act.put, lq3, lq4, lq5]
    refine wpAnyH_take (i := 6) (v := .bool true) rfl (by kernel_rfl) (by kernel_rfl) (by kernel_rfl) (fun _ _ _ h => h) (Or.inl ⟨by rfl, by intro W _; go_simp⟩) (by assumption) ?_
    try simp only [Act.put, lq3, lq4, lq5]
    refine wpAnyH_take (i := 7) (v := .bool true) rfl (by kernel_rfl) (by kernel_rfl) (by kernel_rfl) (fun _ _ _ h => h) (Or.inl ⟨by rfl, by intro W _; go_simp⟩) (by assumption) ?_
    try simp only [Act.put, lq3, lq4, lq5]
    refine wpAnyH_take (i := 8) (v := .agg (noteA x sa sc)) rfl (by kernel_rfl) (by kernel_rfl) (by kernel_rfl) (fun _ _ _ h => h) (yields_row (by rfl) 47 _ rfl p rfl _ 47 (0, 0) _ (fun W h => h.e1) Tryz.underlying47 rfl (I43.out _ _ _)) (by assumption) ?_
    try simp only [Act.put, lq3, lq4, lq5]
    refine wpAnyH_take (i := 10) (v := .agg (noteA x ta tc)) rfl (by kernel_rfl) (by kernel_rfl) (by kernel_rfl) (fun _ _ _ h => h) (yields_row (by rfl) 47 _ rfl q rfl _ 47 (0, 0) _ (fun W h => h.e2) Tryz.underlying47 rfl (I43.out _ _ _)) (by assumption) ?_
    try simp only [Act.put, lq3, lq4, lq5]
    refine wpAnyH_ready (rs := [9]) (by kernel_rfl) (by simp) ?_
    refine AllReadyH.cons rfl (fun K hK => ?_) AllReadyH.nil
    go_simp
    go_at_call 126
    refine (IX.out _ TY.out).mono ?_
    rintro e wI ⟨rfl, bI⟩
    have TI := Lib.hid (TY.out.below bI); clear bI
    dsimp only
    refine hK.out _ _ TI.out (fun hHeld => ?_)
    clear hK K
    try simp only [Act.put, lq3, lq4, lq5]
    refine wpAnyH_ready (rs := [11]) (by kernel_rfl) (by simp) ?_
    refine AllReadyH.cons rfl (fun K hK => ?_) AllReadyH.nil
    go_simp
    go_at_call 126
    refine (IY.out _ TI.out).mono ?_
    rintro e wJ ⟨rfl, bJ⟩
    have TJ := Lib.hid (TI.out.below bJ); clear bJ
    dsimp only
    refine hK.out _ _ TJ.out (fun hHeld => ?_)
    clear hK K
    try simp only [Act.put, lq3, lq4, lq5]
    refine wpAnyH_take (i := 12) (v := .bool true) rfl (by kernel_rfl) (by kernel_rfl) (by kernel_rfl) (fun _ _ _ h => h) (Or.inl ⟨by rfl, by intro W _; go_simp⟩) (by assumption) ?_
    try simp only [Act.put, lq3, lq4, lq5]
    refine wpAnyH_take (i := 13) (v := .bool true) rfl (by kernel_rfl) (by kernel_rfl) (by kernel_rfl) (fun _ _ _ h => h) (Or.inl ⟨by rfl, by intro W _; go_simp⟩) (by assumption) ?_
    try simp only [Act.put, lq3, lq4, lq5]
    refine wpAnyH_take (i := 14) (v := .bool true) rfl (by kernel_rfl) (by kernel_rfl) (by kernel_rfl) (fun _ _ _ h => h) (Or.inl ⟨by rfl, by intro W _; go_simp⟩) (by assumption) ?_
    try simp only [Act.put, lq3, lq4, lq5]
    refine wpAnyH_done (by kernel_rfl) ?_ _
    refine NoPanic.normal ?_
    change Exit.then _ _ Exit.normal { tmps := #[.agg (noteA x sa sc), .agg (noteA x ta tc), .pointer (some ⟨p, 0, none⟩), .pointer (some ⟨q, 0, none⟩), .bool true, .agg (noteA x sa sc), .slice aX E.length cX, .string { data := E.toArray }, .agg (noteA x ta tc), .slice aY E.length cY, .string { data := E.toArray }, .bool true, .bool true, .agg (noteA x sa sc), .bool true, .agg (noteA x ta tc), .bool true, .bool true, .bool true], defers := [] } _
    go_wp2_with fail
    go_ret
    exact ⟨rfl, by rw [hp.out]; exact TJ.out.b⟩
  refine AllReadyH.cons rfl (fun K hK => ?_) AllReadyH.nil
  go_simp
  refine hK.out _ _ TY.out (fun hHeld => ?_)
  clear hK K
  try simp only [Act.put, lq3, lq4, lq5]
  refine wpAnyH_ready (rs := [2]) (by kernel_rfl) (by simp) ?_
  refine AllReadyH.cons rfl (fun K hK => ?_) AllReadyH.nil
  go_simp
  refine hK.out _ _ TY.out (fun hHeld => ?_)
  clear hK K
  try simp only [Act.put, lq3, lq4, lq5]
  refine wpAnyH_take (i := 6) (v := .bool true) rfl (by kernel_rfl) (by kernel_rfl) (by kernel_rfl) (fun _ _ _ h => h) (Or.inl ⟨by rfl, by intro W _; go_simp⟩) (by assumption) ?_
  try simp only [Act.put, lq3, lq4, lq5]
  refine wpAnyH_take (i := 7) (v := .bool true) rfl (by kernel_rfl) (by kernel_rfl) (by kernel_rfl) (fun _ _ _ h => h) (Or.inl ⟨by rfl, by intro W _; go_simp⟩) (by assumption) ?_
  try simp only [Act.put, lq3, lq4, lq5]
  refine wpAnyH_take (i := 8) (v := .agg (noteA x sa sc)) rfl (by kernel_rfl) (by kernel_rfl) (by kernel_rfl) (fun _ _ _ h => h) (yields_row (by rfl) 47 _ rfl p rfl _ 47 (0, 0) _ (fun W h => h.e1) Tryz.underlying47 rfl (I43.out _ _ _)) (by assumption) ?_
  try simp only [Act.put, lq3, lq4, lq5]
  refine wpAnyH_take (i := 10) (v := .agg (noteA x ta tc)) rfl (by kernel_rfl) (by kernel_rfl) (by kernel_rfl) (fun _ _ _ h => h) (yields_row (by rfl) 47 _ rfl q rfl _ 47 (0, 0) _ (fun W h => h.e2) Tryz.underlying47 rfl (I43.out _ _ _)) (by assumption) ?_
  try simp only [Act.put, lq3, lq4, lq5]
  refine wpAnyH_ready (rs := [9]) (by kernel_rfl) (by simp) ?_
  refine AllReadyH.cons rfl (fun K hK => ?_) AllReadyH.nil
  go_simp
  go_at_call 126
  refine (IX.out _ TY.out).mono ?_
  rintro e wI ⟨rfl, bI⟩
  have TI := Lib.hid (TY.out.below bI); clear bI
  dsimp only
  refine hK.out _ _ TI.out (fun hHeld => ?_)
  clear hK K
  try simp only [Act.put, lq3, lq4, lq5]
  refine wpAnyH_ready (rs := [11]) (by kernel_rfl) (by simp) ?_
  refine AllReadyH.cons rfl (fun K hK => ?_) AllReadyH.nil
  go_simp
  go_at_call 126
  refine (IY.out _ TI.out).mono ?_
  rintro e wJ ⟨rfl, bJ⟩
  have TJ := Lib.hid (TI.out.below bJ); clear bJ
  dsimp only
  refine hK.out _ _ TJ.out (fun hHeld => ?_)
  clear hK K
  try simp only [Act.put, lq3, lq4, lq5]
  refine wpAnyH_take (i := 12) (v := .bool true) rfl (by kernel_rfl) (by kernel_rfl) (by kernel_rfl) (fun _ _ _ h => h) (Or.inl ⟨by rfl, by intro W _; go_simp⟩) (by assumption) ?_
  try simp only [Act.put, lq3, lq4, lq5]
  refine wpAnyH_take (i := 13) (v := .bool true) rfl (by kernel_rfl) (by kernel_rfl) (by kernel_rfl) (fun _ _ _ h => h) (Or.inl ⟨by rfl, by intro W _; go_simp⟩) (by assumption) ?_
  try simp only [Act.put, lq3, lq4, lq5]
  refine wpAnyH_take (i := 14) (v := .bool true) rfl (by kernel_rfl) (by kernel_rfl) (by kernel_rfl) (fun _ _ _ h => h) (Or.inl ⟨by rfl, by intro W _; go_simp⟩) (by assumption) ?_
  try simp only [Act.put, lq3, lq4, lq5]
  refine wpAnyH_done (by kernel_rfl) ?_ _
  refine NoPanic.normal ?_
  change Exit.then _ _ Exit.normal { tmps := #[.agg (noteA x sa sc), .agg (noteA x ta tc), .pointer (some ⟨p, 0, none⟩), .pointer (some ⟨q, 0, none⟩), .bool true, .agg (noteA x sa sc), .slice aX E.length cX, .string { data := E.toArray }, .agg (noteA x ta tc), .slice aY E.length cY, .string { data := E.toArray }, .bool true, .bool true, .agg (noteA x sa sc), .bool true, .agg (noteA x ta tc), .bool true, .bool true, .bool true], defers := [] } _
  go_wp2_with fail
  go_ret
  exact ⟨rfl, by rw [hp.out]; exact TJ.out.b⟩
end
end Go.Proofs.YtlnhppgfhkkidaaGreat
namespace Go.Proofs.YtlnhppgfhkkidaaGreat
set_option linter.unusedSimpArgs false
open Go.RowKit

def cmpI (x y : Int) : Int := if x < y then -1 else if y < x then 1 else 0
def orI (x y : Int) : Int := if x = 0 then y else x
def namesC (h m h' m' : Int) : Int := orI (cmpI h h') (cmpI m m')
def knownC (x y : NoteV) : Int := orI (cmpI x.clock y.clock) (namesC x.house x.num y.house y.num)
def whenC (x y : NoteV) : Int := orI (cmpI x.day y.day) (knownC x y)
def doneB (n : NoteV) : Bool := inB n.kind 1 4
def judgesB (x r : NoteV) : Bool := decide (x.kind = 6) || (decide (x.kind = 5) && (!decide (x.fix = 2) || decide (r.kind = 2)))
theorem isNaN_any (x : Int) (w : World) : Calls Tryz.prog 206 #[.int .i64 x] w fun e w' => e = .returned (.bool false) ∧ w' = w := by
  have h : (x != x) = false := by simp
  go_enter Tryz.func206, Tryz.ntmps206
  go_wp2_with fail
  go_ret
  exact ⟨rfl, rfl⟩
theorem compare_any (x y : Int) (w : World) : Calls Tryz.prog 173 #[.int .i64 x, .int .i64 y] w fun e w' => e = .returned (.int .i64 (cmpI x y)) ∧ w' = w := by
  have K : ∀ {v : Int}, cmpI x y = v → Hid (cmpI x y = v) := fun h => Lib.hid h
  by_cases h1 : x < y
  · have HK := K (if_pos h1)
    have t1 : decide (x < y) = true := by simp [h1]
    go_enter Tryz.func173, Tryz.ntmps173
    go_wp2_with fail
    refine (isNaN_any x w).mono ?_
    rintro e w1 ⟨rfl, rfl⟩
    go_wp2_with fail
    refine (isNaN_any y _).mono ?_
    rintro e w1 ⟨rfl, rfl⟩
    go_wp2_with fail
    go_ret
    rw [HK.out]
    exact ⟨rfl, rfl⟩
  · have t1 : decide (x < y) = false := by simp; omega
    by_cases h2 : y < x
    · have HK := K ((if_neg h1).trans (if_pos h2))
      have t2 : decide (y < x) = true := by simp [h2]
      go_enter Tryz.func173, Tryz.ntmps173
      go_wp2_with fail
      refine (isNaN_any x w).mono ?_
      rintro e w1 ⟨rfl, rfl⟩
      go_wp2_with fail
      refine (isNaN_any y _).mono ?_
      rintro e w1 ⟨rfl, rfl⟩
      go_wp2_with fail
      go_ret
      rw [HK.out]
      exact ⟨rfl, rfl⟩
    · have HK := K ((if_neg h1).trans (if_neg h2))
      have t2 : decide (y < x) = false := by simp; omega
      go_enter Tryz.func173, Tryz.ntmps173
      go_wp2_with fail
      refine (isNaN_any x w).mono ?_
      rintro e w1 ⟨rfl, rfl⟩
      go_wp2_with fail
      refine (isNaN_any y _).mono ?_
      rintro e w1 ⟨rfl, rfl⟩
      go_wp2_with fail
      go_ret
      rw [HK.out]
      exact ⟨rfl, rfl⟩
set_option maxHeartbeats 2000000 in
theorem or_two (b : Nat) (x y : Int) (w : World) (h : w.heap[b]? = some (.cells #[.int .i64 x, .int .i64 y] 3 (0, 0))) : Calls Tryz.prog 172 #[.slice (some ⟨b, 0, none⟩) 2 2] w fun e w' => e = .returned (.int .i64 (orI x y)) ∧ w' = w := by
  have c0 : w.cell? ⟨b, 0, none⟩ = some (.int .i64 x) := cell_of h 0 _ rfl
  have c1 : w.cell? ⟨b, 1, none⟩ = some (.int .i64 y) := cell_of h 1 _ rfl
  go_enter Tryz.func172, Tryz.ntmps172
  go_wp2_with fail
  go_loopw [5, 8] (fun _ i wr => ((i = .int .i64 0) ∨ (i = .int .i64 1 ∧ Hid (x = 0)) ∨ (i = .int .i64 2 ∧ Hid (x = 0 ∧ y = 0))) ∧ Hid (w = wr)) (fun _ i _ => 2 - (intOf i).toNat)
  case atStart => exact ⟨.inl rfl, Lib.hid rfl⟩
  case round =>
    obtain ⟨hr, HE⟩ := hrel
    have := HE.out
    subst this
    rcases hr with rfl | ⟨rfl, hx⟩ | ⟨rfl, hx⟩
    · by_cases h0 : x = 0
      · have t0 : (x != 0) = false := by simp [h0]
        have H0 := Lib.hid h0; clear h0
        go_wp2_with fail
        go_roundw
        case rel => exact ⟨.inr (.inl ⟨rfl, H0⟩), Lib.hid (by trivial)⟩
        case measure => simp [intOf]
      · have t0 : (x != 0) = true := by simp [h0]
        have H0 := Lib.hid (show orI x y = x from if_neg h0); clear h0
        go_wp2_with fail
        go_ret
        rw [H0.out]
        exact ⟨rfl, rfl⟩
    · by_cases h0 : y = 0
      · have t0 : (y != 0) = false := by simp [h0]
        have H0 := Lib.hid (show x = 0 ∧ y = 0 from ⟨hx.out, h0⟩); clear h0
        go_wp2_with fail
        go_roundw
        case rel => exact ⟨.inr (.inr ⟨rfl, H0⟩), Lib.hid (by trivial)⟩
        case measure => simp [intOf]
      · have t0 : (y != 0) = true := by simp [h0]
        have H0 := Lib.hid (show orI x y = y from if_pos hx.out); clear h0
        go_wp2_with fail
        go_ret
        rw [H0.out]
        exact ⟨rfl, rfl⟩
    · have H0 := Lib.hid (show orI x y = 0 by rw [orI, if_pos hx.out.1]; exact hx.out.2)
      go_wp2_with fail
      go_ret
      rw [H0.out]
      exact ⟨rfl, rfl⟩
end Go.Proofs.YtlnhppgfhkkidaaGreat
namespace Go.Proofs.YtlnhppgfhkkidaaGreat
set_option linter.unusedSimpArgs false
open Go.RowKit

structure TwoC (w W : World) (p q : Nat) (A B : Array Value) (t : TypeId) : Prop where
  e1 : W.heap[p]? = some (.cells A t (0, 0))
  e2 : W.heap[q]? = some (.cells B t (0, 0))
  b : Below p w W
  lt : p < q
theorem TwoC.below {w W W' : World} {p q : Nat} {A B : Array Value} {t : TypeId} (h : TwoC w W p q A B t) (hb : Below W.heap.size W W') : TwoC w W' p q A B t := by
  have g : ∀ {k : Nat} {o : Obj}, W.heap[k]? = some o → W'.heap[k]? = some o := fun {k o} hk => (hb.block k (Array.getElem?_eq_some_iff.1 hk).1).trans hk
  have h0 := (Array.getElem?_eq_some_iff.1 h.e1).1
  exact ⟨g h.e1, g h.e2, h.b.trans (hb.mono (by omega)), h.lt⟩
set_option maxHeartbeats 4000000 in
set_option maxRecDepth 100000 in
theorem compareNames_any (x m y k : Int) (w : World) : Calls Tryz.prog 124 #[.agg #[.int .i64 x, .int .i64 m], .agg #[.int .i64 y, .int .i64 k]] w fun e w' => e = .returned (.int .i64 (namesC x m y k)) ∧ Below w.heap.size w w' := by
  have g1 := heap_before _ (.cells (#[.int .i64 y, .int .i64 k]) 45) _ _ (heap_last w (.cells (#[.int .i64 x, .int .i64 m]) 45))
  have g2 := heap_at (w.alloc (.cells (#[.int .i64 x, .int .i64 m]) 45)) (.cells (#[.int .i64 y, .int .i64 k]) 45) (w.heap.size + 1) (by simp)
  have bb : Below w.heap.size w ((w.alloc (.cells (#[.int .i64 x, .int .i64 m]) 45)).alloc (.cells (#[.int .i64 y, .int .i64 k]) 45)) := ((Below.refl _ _).alloc (Nat.le_refl _) _).alloc (by simp) _
  have T0 : Hid (TwoC w ((w.alloc (.cells (#[.int .i64 x, .int .i64 m]) 45)).alloc (.cells (#[.int .i64 y, .int .i64 k]) 45)) w.heap.size (w.heap.size + 1) (#[.int .i64 x, .int .i64 m]) (#[.int .i64 y, .int .i64 k]) 45) := Lib.hid ⟨g1, g2, bb, by omega⟩
  clear g1 g2 bb
  go_enter Tryz.func124, Tryz.ntmps124
  go_upto_region 1 with fail
  generalize (w.alloc (.cells (#[.int .i64 x, .int .i64 m]) 45)).alloc (.cells (#[.int .i64 y, .int .i64 k]) 45) = W0 at *
  obtain ⟨p, hp⟩ : ∃ p, Hid (w.heap.size = p) := ⟨_, Lib.hid rfl⟩
  obtain ⟨q, hq⟩ : ∃ q, Hid (w.heap.size + 1 = q) := ⟨_, Lib.hid rfl⟩
  rw [hq.out, hp.out] at T0
  rw [hq.out, hp.out]
  have T1 := Lib.hid (T0.out.below (Below.refl W0.heap.size W0).drew)
  refine wp_region_noPanic ?_
  refine wp_region_held_drew (S := fun w' => TwoC w w' p q (#[.int .i64 x, .int .i64 m]) (#[.int .i64 y, .int .i64 k]) 45) (by kernel_rfl) T1.out (fun hHeld => ?_)
  refine wpAnyH_take (i := 0) (v := .pointer (some ⟨p, 0, none⟩)) rfl (by kernel_rfl) (by kernel_rfl) (by kernel_rfl) (fun _ _ _ h => h) (Or.inl ⟨by rfl, by intro W _; go_simp⟩) (by assumption) ?_
  try simp only [Act.put, lq3, lq4, lq5]
  refine wpAnyH_take (i := 1) (v := .int .i64 x) rfl (by kernel_rfl) (by kernel_rfl) (by kernel_rfl) (fun _ _ _ h => h) (Or.inl ⟨by rfl, by intro W h; have hc := cell_of h.e1 0 (.int .i64 x) rfl; go_simp⟩) (by assumption) ?_
  try simp only [Act.put, lq3, lq4, lq5]
  refine wpAnyH_take (i := 2) (v := .pointer (some ⟨q, 0, none⟩)) rfl (by kernel_rfl) (by kernel_rfl) (by kernel_rfl) (fun _ _ _ h => h) (Or.inl ⟨by rfl, by intro W _; go_simp⟩) (by assumption) ?_
  try simp only [Act.put, lq3, lq4, lq5]
  refine wpAnyH_take (i := 3) (v := .int .i64 y) rfl (by kernel_rfl) (by kernel_rfl) (by kernel_rfl) (fun _ _ _ h => h) (Or.inl ⟨by rfl, by intro W h; have hc := cell_of h.e2 0 (.int .i64 y) rfl; go_simp⟩) (by assumption) ?_
  try simp only [Act.put, lq3, lq4, lq5]
  refine wpAnyH_take (i := 5) (v := .pointer (some ⟨p, 1, none⟩)) rfl (by kernel_rfl) (by kernel_rfl) (by kernel_rfl) (fun _ _ _ h => h) (Or.inl ⟨by rfl, by intro W _; go_simp⟩) (by assumption) ?_
  try simp only [Act.put, lq3, lq4, lq5]
  refine wpAnyH_take (i := 6) (v := .int .i64 m) rfl (by kernel_rfl) (by kernel_rfl) (by kernel_rfl) (fun _ _ _ h => h) (Or.inl ⟨by rfl, by intro W h; have hc := cell_of h.e1 1 (.int .i64 m) rfl; go_simp⟩) (by assumption) ?_
  try simp only [Act.put, lq3, lq4, lq5]
  refine wpAnyH_take (i := 7) (v := .pointer (some ⟨q, 1, none⟩)) rfl (by kernel_rfl) (by kernel_rfl) (by kernel_rfl) (fun _ _ _ h => h) (Or.inl ⟨by rfl, by intro W _; go_simp⟩) (by assumption) ?_
  try simp only [Act.put, lq3, lq4, lq5]
  refine wpAnyH_take (i := 8) (v := .int .i64 k) rfl (by kernel_rfl) (by kernel_rfl) (by kernel_rfl) (fun _ _ _ h => h) (Or.inl ⟨by rfl, by intro W h; have hc := cell_of h.e2 1 (.int .i64 k) rfl; go_simp⟩) (by assumption) ?_
  try simp only [Act.put, lq3, lq4, lq5]
  refine wpAnyH_ready (rs := [4]) (by kernel_rfl) (by simp) ?_
  refine AllReadyH.cons rfl (fun K hK => ?_) AllReadyH.nil
  go_simp
  go_at_call 173
  refine (compare_any x y _).mono ?_
  rintro e w1 ⟨rfl, rfl⟩
  dsimp only
  refine hK.out _ _ T1.out (fun hHeld => ?_)
  clear hK K
  try simp only [Act.put, lq3, lq4, lq5]
  refine wpAnyH_ready (rs := [9]) (by kernel_rfl) (by simp) ?_
  refine AllReadyH.cons rfl (fun K hK => ?_) AllReadyH.nil
  go_simp
  go_at_call 173
  refine (compare_any m k _).mono ?_
  rintro e w1 ⟨rfl, rfl⟩
  dsimp only
  refine hK.out _ _ T1.out (fun hHeld => ?_)
  clear hK K
  try simp only [Act.put, lq3, lq4, lq5]
  refine wpAnyH_ready (rs := [10]) (by kernel_rfl) (by simp) ?_
  refine AllReadyH.cons rfl (fun K hK => ?_) AllReadyH.nil
  go_simp
  have TB := Lib.hid (T1.out.below ((Below.refl W0.drew.heap.size W0.drew).alloc (Nat.le_refl _) (.cells #[.int .i64 (cmpI x y), .int .i64 (cmpI m k)] 3)))
  refine hK.out _ _ TB.out (fun hHeld => ?_)
  clear hK K
  try simp only [Act.put, lq3, lq4, lq5]
  refine wpAnyH_ready (rs := [11]) (by kernel_rfl) (by simp) ?_
  refine AllReadyH.cons rfl (fun K hK => ?_) AllReadyH.nil
  go_simp
  go_at_call 172
  refine (or_two W0.drew.heap.size (cmpI x y) (cmpI m k) _ (heap_last W0.drew _)).mono ?_
  rintro e w1 ⟨rfl, rfl⟩
  dsimp only
  refine hK.out _ _ TB.out (fun hHeld => ?_)
  clear hK K
  try simp only [Act.put, lq3, lq4, lq5]
  refine wpAnyH_take (i := 12) (v := .int .i64 (orI (cmpI x y) (cmpI m k))) rfl (by kernel_rfl) (by kernel_rfl) (by kernel_rfl) (fun _ _ _ h => h) (Or.inl ⟨by rfl, by intro W _; go_simp⟩) (by assumption) ?_
  try simp only [Act.put, lq3, lq4, lq5]
  have TE := TB
  refine wpAnyH_done (by kernel_rfl) ?_ _
  refine NoPanic.normal ?_
  change Exit.then _ _ Exit.normal { tmps := #[.agg #[.int .i64 x, .int .i64 m], .agg #[.int .i64 y, .int .i64 k], .pointer (some ⟨p, 0, none⟩), .pointer (some ⟨q, 0, none⟩), .int .i64 (orI (cmpI x y) (cmpI m k)), .pointer (some ⟨p, 0, none⟩), .int .i64 x, .pointer (some ⟨q, 0, none⟩), .int .i64 y, .int .i64 (cmpI x y), .pointer (some ⟨p, 1, none⟩), .int .i64 m, .pointer (some ⟨q, 1, none⟩), .int .i64 k, .int .i64 (cmpI m k), .slice (some ⟨W0.drew.heap.size, 0, none⟩) 2 2, .int .i64 (orI (cmpI x y) (cmpI m k))], defers := [] } _
  go_wp2_with fail
  go_ret
  exact ⟨rfl, by rw [hp.out]; exact TE.out.b⟩
section
attribute [local go_sem] noteA_0
end
end Go.Proofs.YtlnhppgfhkkidaaGreat
namespace Go.Proofs.YtlnhppgfhkkidaaGreat
set_option linter.unusedSimpArgs false
open Go.RowKit

theorem cloneI_any (a : Option Addr) (n c : Nat) (l : List Int) (w : World) (hn : n ≤ 1000000000) (hr : RdI w a n c l) :
    Calls Tryz.prog 69 #[.slice a n c] w fun e w' => ∃ a' c', e = .returned (.slice a' n c') ∧ w'.ownsRow w.heap.size 3 1 (.slice a' n c') n (l.map intV) ∧ Below w.heap.size w w' := by
  have hnc := hr.2.1
  by_cases ha : a = none
  · subst ha
    have hc : n = 0 ∧ c = 0 := by
      rcases hr.2.2.2 with h | ⟨b, off, h, _⟩
      · omega
      · cases h
    obtain ⟨rfl, rfl⟩ := hc
    have hl : l = [] := List.eq_nil_of_length_eq_zero hr.len
    subst hl
    clear hr hnc
    have heq : ∀ w, (binOp .eql 37 (.slice none 0 0) (.slice none 0 0)).run Tryz.prog w = .ok (.bool true) w := fun w => Lib.run_eql_slice_nil (P := Tryz.prog) w 37 3 none 0 0 0 0 Tryz.underlying37
    go_enter Tryz.func69, Tryz.ntmps69
    go_wp2
    go_ret
    exact ⟨_, _, rfl, World.ownsRow_nil _ _ _ _, Below.refl _ _⟩
  · obtain ⟨ad, rfl⟩ := Option.ne_none_iff_exists'.1 ha
    clear ha
    have heq : ∀ w, (binOp .eql 37 (.slice (some ad) n c) (.slice none 0 0)).run Tryz.prog w = .ok (.bool false) w := fun w => Lib.run_eql_slice_nil (P := Tryz.prog) w 37 3 (some ad) n c 0 0 Tryz.underlying37
    have hown := World.ownsRow_lit (base := w.heap.size) (e := 3) (size := 1) w #[] 0 (Nat.le_refl _) (by unfold maxLen; omega) rfl
    have hr1 := hr.below ((Below.refl w.heap.size w).alloc (Nat.le_refl _) (Obj.cells #[] 3))
    go_enter Tryz.func69, Tryz.ntmps69
    go_wp2_with (at_builtin; refine app_ints _ rfl _ _ rfl w.heap.size _ _ _ [] rfl hown _ _ _ l rfl hr1 (by omega) (by simp) ?_)
    intro a' c' w' h1 h2
    have hb := ((Below.refl w.heap.size w).alloc (Nat.le_refl _) (Obj.cells #[] 3)).grown h2 (by simp) (fun q hq => (hown.lt q hq).1)
    have H1 := Lib.hid (show w'.ownsRow w.heap.size 3 1 (.slice a' n c') n (l.map intV) by simpa using h1); clear h1 h2
    try simp only [Nat.zero_add]
    go_wp2_with fail
    go_ret
    exact ⟨_, _, rfl, H1.out, hb⟩
section
attribute [local go_sem] noteA_0 noteA_1 noteA_2 noteA_3 noteA_4 noteA_5 noteA_6 noteA_7 noteA_8 noteA_9 noteA_10 noteA_11 noteA_12 noteA_13 noteA_14 noteA_15 noteA_16 noteA_17 noteA_18
variable (n : NoteV) (sa : Option Addr) (sc : Nat) (w : World)
end
end Go.Proofs.YtlnhppgfhkkidaaGreat
namespace Go.Proofs.YtlnhppgfhkkidaaGreat
set_option linter.unusedSimpArgs false
open Go.RowKit
open Go.Maps (Keyed)

abbrev Nm := Int × Int
def nmV (a : Nm) : Value := .agg #[.int .i64 a.1, .int .i64 a.2]
def nmOk (a : Nm) : Prop := I64 a.1 ∧ I64 a.2
def nmL (a : Nm) : Lit := .string (keyBytes [.int .i64 a.1, .int .i64 a.2])
theorem laid_ok : laidOutB Tryz.prog = true := by kernel_rfl
theorem nm_row : (45 : TypeId) < Tryz.prog.types.size := of_decide_eq_true (by kernel_rfl)
theorem nm_deep : Tryz.prog.keyTypeAt 2 45 = true := by kernel_rfl
theorem nm_law : WideMaps.KeyLaw Tryz.prog 45 := by
  refine deep_law_laid laid_ok (m := 2) (by omega) nm_row nm_deep ?_
  rw [Tryz.underlying45]
theorem nm_keyed : Keyed Tryz.prog 45 := Keyed.of_law nm_law
theorem nm_cells : Tryz.prog.cellsOf 45 = 2 := by kernel_rfl
theorem wf_i64 {z : Int} (h : I64 z) : (Lit.int .i64 z).wf = true := by
  have h1 := h.1
  have h2 := h.2
  simp [Lit.wf, IntKind.min, IntKind.max, IntKind.signed, IntKind.bits]
  omega
theorem i64_wf {z : Int} (h : (Lit.int .i64 z).wf = true) : I64 z := by
  simp [Lit.wf, IntKind.min, IntKind.max, IntKind.signed, IntKind.bits] at h
  unfold I64
  omega
theorem keyType_nm : Tryz.prog.keyType 45 = true := by kernel_rfl
theorem keyLits_nm (d : Nat) (c0 c1 : Value) : Tryz.prog.keyLits (d + 2) 45 [c0, c1] = (do let a ← Tryz.prog.keyLits (d + 1) 3 [c0]; let b ← Tryz.prog.keyLits (d + 1) 3 [c1]; pure (a ++ b)) := by
  have hc : Tryz.prog.cellsOf 3 = 1 := by kernel_rfl
  rw [show d + 2 = (d + 1) + 1 from rfl]
  conv => lhs; unfold Program.keyLits; rw [Tryz.underlying45]
  simp [nm_cells, hc]
  cases Tryz.prog.keyLits (d + 1) 3 [c0] <;> cases Tryz.prog.keyLits (d + 1) 3 [c1] <;> simp
theorem keyLits_int (d : Nat) (z : Int) (h : I64 z) : Tryz.prog.keyLits (d + 1) 3 [.int .i64 z] = some [.int .i64 z] := by
  unfold Program.keyLits
  rw [Tryz.underlying3]
  simp [wf_i64 h]
theorem keyLits_int_inv (d : Nat) (v : Value) (ls : List Lit) (h : Tryz.prog.keyLits (d + 1) 3 [v] = some ls) : ∃ z, v = .int .i64 z ∧ I64 z ∧ ls = [.int .i64 z] := by
  unfold Program.keyLits at h
  generalize hu : Tryz.prog.underlying 3 = u at h
  rw [Tryz.underlying3] at hu
  subst hu
  cases v <;> simp at h
  obtain ⟨⟨rfl, hw⟩, rfl⟩ := h
  exact ⟨_, rfl, i64_wf hw, rfl⟩
theorem types_succ : ∃ d, Tryz.prog.types.size + 1 = d + 2 := by
  have h : 0 < Tryz.prog.types.size := of_decide_eq_true (by kernel_rfl)
  generalize Tryz.prog.types.size = s at h
  exact ⟨s - 1, by omega⟩
theorem keyOf_nm (a : Nm) (h : nmOk a) : keyOf Tryz.prog 45 (nmV a) = some (nmL a) := by
  obtain ⟨d, hd⟩ := types_succ
  have hf : (nmV a).formed Tryz.prog 45 = true := by simp [nmV, Value.formed, Tryz.underlying45, nm_cells]
  unfold keyOf
  rw [Tryz.underlying45]
  simp only [keyType_nm, hf, Bool.and_self, if_true, hd]
  rw [show (nmV a).cells.toList = [.int .i64 a.1, .int .i64 a.2] from rfl, keyLits_nm, keyLits_int _ _ h.1, keyLits_int _ _ h.2]
  rfl
set_option maxRecDepth 10000 in
theorem keyOf_inv {v : Value} {kl : Lit} (h : keyOf Tryz.prog 45 v = some kl) : ∃ a, v = nmV a ∧ nmOk a ∧ kl = nmL a := by
  obtain ⟨d, hd⟩ := types_succ
  unfold keyOf at h
  rw [Tryz.underlying45] at h
  simp only [keyType_nm, Bool.true_and, hd] at h
  split at h
  · rename_i hf
    cases v <;> simp [Value.formed, Tryz.underlying45, nm_cells] at hf
    rename_i cs
    obtain ⟨l⟩ := cs
    match l, hf with
    | [c0, c1], _ =>
      rw [show (Value.agg #[c0, c1]).cells.toList = [c0, c1] from rfl, keyLits_nm] at h
      cases h0 : Tryz.prog.keyLits (d + 1) 3 [c0] with
      | none => simp [h0] at h
      | some l0 =>
        cases h1 : Tryz.prog.keyLits (d + 1) 3 [c1] with
        | none => simp [h0, h1] at h
        | some l1 =>
          obtain ⟨z0, rfl, hz0, rfl⟩ := keyLits_int_inv _ _ _ h0
          obtain ⟨z1, rfl, hz1, rfl⟩ := keyLits_int_inv _ _ _ h1
          simp [h0, h1] at h
          exact ⟨(z0, z1), rfl, ⟨hz0, hz1⟩, h.symm⟩
  · cases h
theorem nmL_key (a : Nm) : WideAt.IsKeyLit (nmL a) := trivial
theorem nmV_inj {a b : Nm} (h : nmV a = nmV b) : a = b := by
  simp [nmV] at h
  exact Prod.ext h.1 h.2
theorem nmL_inj {a b : Nm} (ha : nmOk a) (hb : nmOk b) (h : nmL a = nmL b) : a = b :=
  nmV_inj (nm_keyed.inj (keyOf_nm a ha) (h ▸ keyOf_nm b hb))

def heldR : Value → Option (DataW Value × List MemPlace) := fun v => some (.held v, [])
structure Reads {α : Type} (enc : α → Value) (D : DataW Value) (f : Nm → Option α) : Prop where
  ok : ∀ a, (f a).isSome = true → nmOk a
  has : ∀ a, nmOk a → Maps.has D (nmL a) = (f a).isSome
  val : ∀ a x, f a = some x → ∀ z, D.atKey (nmL a) z = .held (enc x)
def MapF {α : Type} (enc : α → Value) (w : World) (b n : Nat) (f : Nm → Option α) : Prop := ∃ D, w.ownsMap Tryz.prog 45 heldR b n D ∧ Reads enc D f
def updF {α : Type} (f : Nm → Option α) (k : Nm) (x : α) : Nm → Option α := fun a => if a = k then some x else f a
section
variable {α : Type} {enc : α → Value} {D : DataW Value} {f : Nm → Option α}
theorem Reads.empty : Reads enc (.map []) (fun _ => none) := ⟨by simp, fun a _ => rfl, by simp⟩
theorem Reads.put (h : Reads enc D f) (hm : Maps.IsMap D) {k : Nm} (hk : nmOk k) (x : α) : Reads enc (D.put (nmL k) (.held (enc x))) (updF f k x) := by
  refine ⟨fun a ha => ?_, fun a ha => ?_, fun a y hy z => ?_⟩
  · unfold updF at ha
    split at ha
    · rename_i e; rw [e]; exact hk
    · exact h.ok a ha
  · unfold updF
    split
    · rename_i e; rw [e, Maps.has_put_same hm (nmL_key _)]; rfl
    · rename_i e; rw [Maps.has_put_other (fun he => e (nmL_inj ha hk he))]; exact h.has a ha
  · unfold updF at hy
    split at hy
    · rename_i e; cases hy; rw [e, Maps.atKey_put_same hm (nmL_key _)]
    · rename_i e; rw [Maps.atKey_put_other (fun he => e (nmL_inj (h.ok a (by rw [hy]; rfl)) hk he))]; exact h.val a y hy z
variable {w : World} {b n : Nat}
theorem MapF.made (w : World) : MapF enc (w.alloc (.map #[] 0)) w.heap.size 0 (fun _ => none) := ⟨_, World.ownsMap_made w _ _ _, Reads.empty⟩
theorem MapF.lt (h : MapF enc w b n f) : b < w.heap.size := by obtain ⟨D, h1, _⟩ := h; exact h1.lt
theorem MapF.kept {w' : World} {row : Option Nat} (h : MapF enc w b n f) (hg : w.grownBy w' row) (hne : some b ≠ row) : MapF enc w' b n f := by
  obtain ⟨D, h1, h2⟩ := h
  exact ⟨D, h1.kept hg hne, h2⟩
theorem MapF.of_block {w' : World} (h : MapF enc w b n f) (hb : w'.heap[b]? = w.heap[b]?) : MapF enc w' b n f := by
  obtain ⟨D, ⟨es, clock, h1, h2⟩, h3⟩ := h
  exact ⟨D, ⟨es, clock, hb.trans h1, h2⟩, h3⟩
theorem MapF.below {w' : World} (h : MapF enc w b n f) (hb : Below w.heap.size w w') : MapF enc w' b n f := h.of_block (hb.block b h.lt)
theorem MapF.mono {m : Nat} (h : MapF enc w b n f) (hn : n ≤ m) : MapF enc w b m f := by obtain ⟨D, h1, h2⟩ := h; exact ⟨D, h1.mono hn, h2⟩
end
def RangeF {α : Type} (enc : α → Value) (w : World) (b r n : Nat) (f : Nm → Option α) (ks : List Nm) (cnt : Nat) : Prop :=
  ∃ D left, w.ranges Tryz.prog 45 heldR b r n D left cnt ∧ Reads enc D f ∧ (∀ a, nmOk a → left (nmL a) = ((f a).isSome && !decide (a ∈ ks))) ∧ ks.Nodup ∧ cnt + ks.length ≤ n
section
variable {α : Type} {enc : α → Value} {f : Nm → Option α} {w : World} {b r n cnt : Nat} {ks : List Nm}
theorem RangeF.map (h : RangeF enc w b r n f ks cnt) : MapF enc w b n f := by obtain ⟨D, left, h1, h2, _⟩ := h; exact ⟨D, h1.owns, h2⟩
theorem RangeF.left_eq (h : RangeF enc w b r n f ks cnt) : w.rangeLeft b r = cnt := by obtain ⟨D, left, h1, _⟩ := h; exact h1.left_eq
theorem RangeF.lt (h : RangeF enc w b r n f ks cnt) : r < w.heap.size := by obtain ⟨D, left, h1, _⟩ := h; exact h1.lt
theorem RangeF.nodup (h : RangeF enc w b r n f ks cnt) : ks.Nodup := by obtain ⟨D, left, _, _, _, h1, _⟩ := h; exact h1
theorem RangeF.count (h : RangeF enc w b r n f ks cnt) : cnt + ks.length ≤ n := by obtain ⟨D, left, _, _, _, _, h1⟩ := h; exact h1
theorem RangeF.of_blocks {w' : World} (h : RangeF enc w b r n f ks cnt) (hb : w'.heap[b]? = w.heap[b]?) (hr : w'.heap[r]? = w.heap[r]?) : RangeF enc w' b r n f ks cnt := by
  obtain ⟨D, left, ⟨es, clock, since, seen, c0, h1, h2, h3, h4, h5, h6⟩, h7⟩ := h
  exact ⟨D, left, ⟨es, clock, since, seen, c0, hb.trans h1, h2, h3, h4, hr.trans h5, h6⟩, h7⟩
theorem RangeF.below {w' : World} (h : RangeF enc w b r n f ks cnt) (hb : Below w.heap.size w w') : RangeF enc w' b r n f ks cnt := h.of_blocks (hb.block b h.map.lt) (hb.block r h.lt)
end
section
variable {α : Type} {enc : α → Value} {f : Nm → Option α} {P : Program} (w : World) {ops : Array Oper} {rest : List Oper} {o : Oper} {a : Act} {Q : Exit → Act → World → Prop}
theorem wpList_range_nm (hg : o.guard = none) (m : Operand) (t e : TypeId) (hop : o.op = Op.range t m) (ht : Tryz.prog.underlying t = some (.map 45 e)) (b n : Nat) (hm : a.eval m = .map (some b)) (hmap : MapF enc w b n f)
    (hK : ∀ w' cnt, RangeF enc w' b w.heap.size n f [] cnt → w.grownBy w' none → w'.heap.size = w.heap.size + 1 → wpList Tryz.prog ops Q rest (a.put o.dst (.pointer (some ⟨w.heap.size, 0, none⟩))) w') : wpList Tryz.prog ops Q (o :: rest) a w := by
  obtain ⟨D, h1, h2⟩ := hmap
  exact wpList_range_own w hg m t hop 45 e nm_keyed ht heldR b n D hm h1 (fun w' h3 h4 h5 => hK w' _ ⟨D, _, h3, h2, fun k hk => by rw [h2.has k hk]; simp, List.nodup_nil, by have := h1.size_le; simpa using this⟩ h4 h5)
structure NextF {α : Type} (enc : α → Value) (w : World) (b r n cnt : Nat) (f : Nm → Option α) (ks : List Nm) (kh km : Int) (y : α) (w' : World) (cnt' : Nat) : Prop where
  at_ : f (kh, km) = some y
  new : (kh, km) ∉ ks
  ok : nmOk (kh, km)
  range : RangeF enc w' b r n f (ks ++ [(kh, km)]) cnt'
  lt : cnt' < cnt
  grown : w.grownBy w' (some r)
  size : w'.heap.size = w.heap.size
def AllIn {α : Type} (f : Nm → Option α) (ks : List Nm) : Prop := ∀ k, (f k).isSome = true → k ∈ ks
theorem wpList_next_nm (hg : o.guard = none) (it : Operand) (hop : o.op = Op.next it false) (b r n cnt : Nat) (ks : List Nm) (hit : a.eval it = .pointer (some ⟨r, 0, none⟩)) (h : RangeF enc w b r n f ks cnt)
    (hDone : AllIn f ks → wpList Tryz.prog ops Q rest (a.put o.dst (.tuple #[.bool false])) w)
    (hMore : ∀ kh km y w' cnt', Hid (NextF enc w b r n cnt f ks kh km y w' cnt') →
      (Instr.entry (.pointer (some ⟨r, 0, none⟩))).run Tryz.prog w' = .ok (.tuple #[.agg #[.int .i64 kh, .int .i64 km], enc y]) w' → wpList Tryz.prog ops Q rest (a.put o.dst (.tuple #[.bool true, .agg #[.int .i64 kh, .int .i64 km], enc y])) w') : wpList Tryz.prog ops Q (o :: rest) a w := by
  obtain ⟨D, left, h1, h2, h3, h4, hcn⟩ := h
  refine wpList_next_ranges (α := Nm) (β := Value) w hg it hop 45 nm_keyed heldR nmV id (fun key kl hk => by obtain ⟨a, rfl, _⟩ := keyOf_inv hk; exact ⟨a, rfl⟩) (fun v _ _ => ⟨v, rfl⟩) b r n D left cnt hit h1 (fun _ hl => hDone (fun k hk => ?_)) (fun k c kl y w' cnt' hkey hlk hv hat hrg hlt hgr hsz hen => ?_)
  · have := hl (nmL k)
    rw [h3 k (h2.ok k hk), hk] at this
    simpa using this
  · obtain ⟨k', e1, hk', rfl⟩ := keyOf_inv hkey
    cases nmV_inj e1
    rw [h3 k hk'] at hlk
    simp only [Bool.and_eq_true, Bool.not_eq_true', decide_eq_false_iff_not] at hlk
    obtain ⟨x, hx⟩ := Option.isSome_iff_exists.1 hlk.1
    have hy := hat (.lit (.bool true))
    rw [h2.val k x hx] at hy
    simp only [heldR, Option.some.injEq] at hv
    rw [← hv] at hy
    simp only [DataW.held.injEq, id_eq] at hy
    subst hy
    refine hMore k.1 k.2 x w' cnt' (Lib.hid ⟨hx, hlk.2, hk', ⟨D, _, hrg, h2, fun a ha => ?_, ?_, by rw [List.length_append, List.length_singleton]; omega⟩, hlt, hgr, hsz⟩) hen
    · rw [h3 a ha]
      by_cases e : a = k
      · subst e
        have : (nmL a).sameKey (nmL a) = true := WideAt.sameKey_self (nmL_key _)
        simp [this]
      · have : (nmL a).sameKey (nmL k) = false := Maps.sameKey_ne (fun he => e (nmL_inj ha hk' he))
        simp [this, e]
    · exact List.nodup_append.2 ⟨h4, by simp, fun a ha b hb e => hlk.2 (by rw [List.mem_singleton] at hb; rw [← show b = k from hb, ← e]; exact ha)⟩
end
section
variable {α : Type} {enc : α → Value} {f : Nm → Option α} {w : World} {b n : Nat} {t e : TypeId}
theorem run_put_nm (hmap : MapF enc w b n f) (hn : n < maxLen) (ht : Tryz.prog.underlying t = some (.map 45 e)) (h m : Int) (hk : nmOk (h, m)) (y : α) :
    ∃ w', (Instr.mapUpdate t (.map (some b)) (.agg #[.int .i64 h, .int .i64 m]) (enc y)).run Tryz.prog w = .ok () w' ∧ MapF enc w' b (n + 1) (updF f (h, m) y) ∧ w.mapTurned w' b := by
  obtain ⟨D, h1, h2⟩ := hmap
  obtain ⟨w', h3, h4, h5⟩ := h1.store nm_keyed ht hn (keyOf_nm (h, m) hk) (val := enc y) (d := .held (enc y)) (ps := []) rfl
  exact ⟨w', h3, ⟨_, h4, h2.put h1.isMap hk y⟩, h5⟩
theorem run_get_nm (hmap : MapF enc w b n f) (ht : Tryz.prog.underlying t = some (.map 45 e)) {z : Value} (hz : (zeroValue e).run Tryz.prog w = .ok z w) (h m : Int) (hk : nmOk (h, m)) :
    (Instr.lookup t (.map (some b)) (.agg #[.int .i64 h, .int .i64 m]) true).run Tryz.prog w = .ok (.tuple #[((f (h, m)).map enc).getD z, .bool (f (h, m)).isSome]) w := by
  obtain ⟨D, h1, h2⟩ := hmap
  obtain ⟨v, ps, h3, h4⟩ := h1.look_ok nm_keyed ht hz (zd := .held z) (zp := []) rfl (keyOf_nm (h, m) hk)
  rw [h2.has (h, m) hk] at h3
  simp only [heldR, Option.some.injEq, Prod.mk.injEq] at h4
  refine h3.trans ?_
  cases hf : f (h, m) with
  | none =>
    rw [Maps.atKey_of_not_has (by rw [h2.has (h, m) hk, hf]; rfl)] at h4
    have := h4.1
    simp only [DataW.held.injEq] at this
    rw [this]; rfl
  | some y =>
    rw [h2.val (h, m) y hf] at h4
    have := h4.1
    simp only [DataW.held.injEq] at this
    rw [this]; rfl
end
end Go.Proofs.YtlnhppgfhkkidaaGreat
namespace Go.Proofs.YtlnhppgfhkkidaaGreat
set_option linter.unusedSimpArgs false
open Go.RowKit

def RdNs (W : World) (a : Option Addr) (n c : Nat) (l : List NoteV) : Prop :=
  l.length = n ∧ n ≤ c ∧ c ≤ maxLen ∧ (c = 0 ∨ ∃ b off, a = some ⟨b, off, none⟩ ∧ ∀ i x, l[i]? = some x → ∃ sa sc, W.rangeAt b (off + i * 19) (x.cells sa sc) ∧ RdI W sa x.strokes.length sc x.strokes)
theorem rangeAt_below {W W' : World} {b o : Nat} {cs : List Value} (h : W.rangeAt b o cs) (hb : Below W.heap.size W W') : W'.rangeAt b o cs := fun j v hv => by
  have h1 := h j v hv
  exact (hb.cell (p := ⟨b, o + j, none⟩) (World.block_lt_of_cell? W _ h1)).trans h1
theorem RdNs.below {W W' : World} {a : Option Addr} {n c : Nat} {l : List NoteV} (h : RdNs W a n c l) (hb : Below W.heap.size W W') : RdNs W' a n c l := by
  refine ⟨h.1, h.2.1, h.2.2.1, h.2.2.2.imp id ?_⟩
  rintro ⟨b, off, rfl, h4⟩
  refine ⟨b, off, rfl, fun i x hx => ?_⟩
  obtain ⟨sa, sc, h5, h6⟩ := h4 i x hx
  exact ⟨sa, sc, rangeAt_below h5 hb, h6.below hb⟩
theorem RdNs.at {W : World} {a : Option Addr} {n c : Nat} {l : List NoteV} (h : RdNs W a n c l) (h0 : 0 < n) : ∃ b off, a = some ⟨b, off, none⟩ ∧ ∀ i x, l[i]? = some x → ∃ sa sc, W.rangeAt b (off + i * 19) (x.cells sa sc) ∧ RdI W sa x.strokes.length sc x.strokes := by
  rcases h.2.2.2 with h4 | h4
  · have := h.2.1; omega
  · exact h4
def setAt (f : FrV) (l : List NoteV) (i : Nat) : Option Int := match l[i]? with
  | none => none
  | some x => if formedB f x = false then some 80 else match (if i = 0 then none else l[i - 1]?) with
    | none => none
    | some y => if namesC y.house y.num x.house x.num = 0 then some 81 else if 0 < namesC y.house y.num x.house x.num then some 1 else none
def setGo (f : FrV) (l : List NoteV) : Nat → Nat → Int × Nat
  | 0, _ => (0, 0)
  | k + 1, i => match setAt f l i with
    | some e => (e, i)
    | none => setGo f l k (i + 1)
def checkSetP (f : FrV) (l : List NoteV) : Int × Nat := if f.valid = false then (1, 0) else if 400 < l.length then (2, 0) else setGo f l l.length 0
theorem setGo_some {f : FrV} {l : List NoteV} {n k : Nat} {e : Int} (hk : k < n) (h : setAt f l k = some e) : setGo f l (n - k) k = (e, k) := by
  obtain ⟨m, hm⟩ : ∃ m, n - k = m + 1 := ⟨n - k - 1, by omega⟩
  rw [hm, setGo, h]
theorem setGo_none {f : FrV} {l : List NoteV} {n k : Nat} (hk : k < n) (h : setAt f l k = none) : setGo f l (n - k) k = setGo f l (n - (k + 1)) (k + 1) := by
  obtain ⟨m, hm⟩ : ∃ m, n - k = m + 1 := ⟨n - k - 1, by omega⟩
  rw [hm, setGo, h, show n - (k + 1) = m by omega]
section
attribute [local go_sem] noteA_0
set_option maxHeartbeats 8000000 in
set_option maxRecDepth 100000 in
theorem checkSet_any (f : FrV) (a : Option Addr) (n c : Nat) (l : List NoteV) (w : World) (hr : RdNs w a n c l) :
    Calls Tryz.prog 174 #[f.val, .slice a n c] w fun e w' => e = .returned (.tuple #[.int .i64 (checkSetP f l).1, .int .i64 (checkSetP f l).2]) ∧ Below w.heap.size w w' := by
  have I43 := Lib.hid (show ∀ (m : NoteV) (a : Option Addr) (c : Nat), (Tryz.prog.info? 47).map (·.size) = some (noteA m a c).size from fun m a c => by kernel_rfl)
  have hL := Lib.hid hr.1
  have hn63 : n ≤ 9223372036854775807 := by have h1 := hr.2.1; have h2 := hr.2.2.1; unfold maxLen at h2; omega
  have e6 := heap_at (w.alloc (.cells #[.int .i64 f.rings, .int .i64 f.sectors, .int .i64 f.wide] 23)) (.cells #[.int .i64 f.rings, .int .i64 f.sectors, .int .i64 f.wide] 174) (w.heap.size + 1) (by simp)
  have bb : Below w.heap.size w ((w.alloc (.cells #[.int .i64 f.rings, .int .i64 f.sectors, .int .i64 f.wide] 23)).alloc (.cells #[.int .i64 f.rings, .int .i64 f.sectors, .int .i64 f.wide] 174)) := ((Below.refl _ _).alloc (Nat.le_refl _) _).alloc (by simp) _
  have E6 := Lib.hid e6; clear e6
  have BB0 := Lib.hid bb; clear bb
  unfold FrV.val
  go_enter Tryz.func174, Tryz.ntmps174
  go_wp2_with fail
  generalize (w.alloc (.cells #[.int .i64 f.rings, .int .i64 f.sectors, .int .i64 f.wide] 23)).alloc (.cells #[.int .i64 f.rings, .int .i64 f.sectors, .int .i64 f.wide] 174) = W0 at *
  obtain ⟨p, hp⟩ : ∃ p, Hid (w.heap.size = p) := ⟨_, Lib.hid rfl⟩
  obtain ⟨p6, hp6⟩ : ∃ p6, Hid (w.heap.size + 1 = p6) := ⟨_, Lib.hid rfl⟩
  rw [hp6.out] at E6
  rw [hp.out] at BB0
  rw [hp6.out, hp.out]
  refine (valid_any f.rings f.sectors f.wide _).mono ?_
  rintro e w1 ⟨rfl, b1⟩
  have B1 := Lib.hid (BB0.out.trans (b1.mono (by rw [← hp.out]; exact BB0.out.size)))
  have F1 := Lib.hid ((b1.block _ (Array.getElem?_eq_some_iff.1 E6.out).1).trans E6.out)
  clear b1 E6 BB0
  have RX0 := Lib.hid (show ∀ W', Below p w W' → RdNs W' a n c l from fun W' hb => hr.below (by rw [hp.out]; exact hb))
  clear hr
  cases hv : f.valid
  · have HR := Lib.hid (show checkSetP f l = (1, 0) by unfold checkSetP; rw [if_pos hv])
    clear hv
    go_wp2_with fail
    go_returns
    rw [HR.out]
    exact ⟨rfl, by rw [hp.out]; exact B1.out⟩
  · have HV := Lib.hid hv; clear hv
    by_cases h4 : 400 < n
    · have HR := Lib.hid (show checkSetP f l = (2, 0) by unfold checkSetP; rw [if_neg (by rw [HV.out]; decide), if_pos (by rw [hL.out]; exact h4)])
      have t4 : decide ((400 : Int) < (n : Int)) = true := by simp; omega
      go_wp2_with fail
      go_returns
      rw [HR.out]
      exact ⟨rfl, by rw [hp.out]; exact B1.out⟩
    · have HG0 := Lib.hid (show checkSetP f l = setGo f l n 0 by unfold checkSetP; rw [if_neg (by rw [HV.out]; decide), if_neg (by rw [hL.out]; exact h4), hL.out])
      have t4 : decide ((400 : Int) < (n : Int)) = false := by simp; omega
      go_wp2_with fail
      go_loopw [22] (fun i wr => ∃ k : Nat, i = .int .i64 k ∧ k ≤ n ∧ Hid (checkSetP f l = setGo f l (n - k) k) ∧ Hid (Below w.heap.size w wr) ∧ Hid (wr.heap[p6]? = some (.cells #[.int .i64 f.rings, .int .i64 f.sectors, .int .i64 f.wide] 174 (0, 0)))) (fun i _ => n - (intOf i).toNat)
      case atStart => exact ⟨0, rfl, Nat.zero_le _, HG0, by rw [hp.out]; exact B1, F1⟩
      case round =>
        obtain ⟨k, rfl, hk, HG, HB, HF6⟩ := hrel
        rw [hp.out] at HB
        by_cases hlt : k < n
        · obtain ⟨x, hx⟩ : ∃ x, l[k]? = some x := ⟨_, List.getElem?_eq_getElem (by rw [hL.out]; exact hlt)⟩
          have HX := Lib.hid hx
          obtain ⟨b, off, rfl, hall⟩ := (RX0.out _ HB.out).at (by omega)
          obtain ⟨sa, sc, hrange, hrd⟩ := hall k x hx
          have HRA := Lib.hid hrange
          have RX := Lib.hid (show ∀ W', Below wr.heap.size wr W' → RdI W' sa x.strokes.length sc x.strokes from fun W' hb => hrd.below hb)
          have HALL := Lib.hid hall
          clear hall hx hrange hrd
          have hk63 : (k : Int) ≤ 9223372036854775807 := by omega
          go_upto_region 9 with (first
            | (refine wpList_load_mid rfl 47 _ rfl b (off + k * 19) rfl (x.cells sa sc) _ HRA.out Tryz.underlying47 rfl (size43 x sa sc) ?_)
            | (refine wpList_store_newp wr rfl 47 _ _ rfl wr.heap.size rfl _ (noteA x sa sc) rfl rfl (I43.out _ _ _) rfl (noteA_one x sa sc) ?_))
          have hbt : Below wr.heap.size wr (wr.alloc (.cells (noteA x sa sc) 47)) := (Below.refl _ _).alloc (Nat.le_refl _) _
          have TT := Lib.hid (heap_last wr (.cells (noteA x sa sc) 47))
          have FF := Lib.hid ((hbt.block _ (Array.getElem?_eq_some_iff.1 HF6.out).1).trans HF6.out)
          have BB := Lib.hid (HB.out.trans (hbt.mono (by rw [← hp.out]; exact HB.out.size)))
          have BW := Lib.hid hbt; clear hbt
          obtain ⟨p8, hp8⟩ : ∃ p8, Hid (wr.heap.size = p8) := ⟨_, Lib.hid rfl⟩
          rw [hp8.out] at TT ⊢
          generalize wr.alloc (.cells (noteA x sa sc) 47) = wt at *
          by_cases hk0 : k = 0
          · have HK0 := Lib.hid hk0
            have k0a : decide (0 < k) = false := by simp; omega
            clear hk0
            go_upto_region 12 with fail
            have c0 := cell_of FF.out 0 _ rfl
            have c1 := cell_of FF.out 1 _ rfl
            have c2 := cell_of FF.out 2 _ rfl
            go_wp2_with (refine wpList_load_row rfl 47 _ rfl p8 rfl 47 (noteA x sa sc) (0, 0) _ TT.out Tryz.underlying47 rfl (I43.out _ _ _) ?_)
            refine (formed_any f x sa sc _ HV.out (RX.out _ BW.out)).mono ?_
            rintro e w5 ⟨rfl, b5⟩
            have B5 := Lib.hid (BB.out.trans (b5.mono (by rw [← hp.out]; exact BB.out.size)))
            have F5 := Lib.hid ((b5.block _ (Array.getElem?_eq_some_iff.1 FF.out).1).trans FF.out)
            clear b5 c0 c1 c2
            cases hf : formedB f x
            · have HR := Lib.hid (show checkSetP f l = (80, k) by rw [HG.out]; exact setGo_some hlt (by unfold setAt; rw [HX.out]; simp only; rw [if_pos hf]))
              clear hf
              go_wp2_with fail
              go_returns
              rw [HR.out]
              exact ⟨rfl, by rw [hp.out]; exact B5.out⟩
            · have HR := Lib.hid (show setGo f l (n - k) k = setGo f l (n - (k + 1)) (k + 1) from setGo_none hlt (by unfold setAt; rw [HX.out]; simp only; rw [if_neg (by rw [hf]; decide), if_pos HK0.out]))
              clear hf
              go_wp2_with fail
              go_roundw
              case rel => exact ⟨k + 1, by go_num, by omega, Lib.hid (by rw [← HR.out]; exact HG.out), by rw [hp.out]; exact B5, F5⟩
              case measure => simp [intOf]; omega
          · have HK0 := Lib.hid hk0
            obtain ⟨j, rfl⟩ : ∃ j, k = j + 1 := ⟨k - 1, by omega⟩
            have k0a : decide (0 < j + 1) = true := by simp
            clear hk0
            obtain ⟨y, hy⟩ : ∃ y, l[j]? = some y := ⟨_, List.getElem?_eq_getElem (by rw [hL.out]; omega)⟩
            obtain ⟨ya, yc, hyr, _⟩ := HALL.out j y hy
            have HYR := Lib.hid (rangeAt_below hyr BW.out)
            have HY := Lib.hid (show l[j + 1 - 1]? = some y by rw [Nat.add_sub_cancel]; exact hy)
            have hjn : j < n := by omega
            have hwj : IntKind.i64.wrap (j : Int) = (j : Int) := by first | (rw [IntKind.wrap_i64]; omega) | (rw [IntKind.wrap_i64]; unfold wrap64; omega)
            clear hy hyr
            go_upto_region 11 with fail
            have hS0 : Below wt.heap.size wt wt.drew := (Below.refl wt.heap.size wt).drew
            have HS0 := Lib.hid hS0
            refine wp_region_noPanic ?_
            refine wp_region_held_drew (S := fun w' => Below wt.heap.size wt w') (by kernel_rfl) hS0 (fun hHeld => ?_)
            clear hS0
            refine wpAnyH_take (i := 0) (v := .slice (some ⟨b, off, none⟩) n c) rfl (by kernel_rfl) (by kernel_rfl) (by kernel_rfl) (fun _ _ _ h => h) (Or.inl ⟨by rfl, by intro W _; go_simp⟩) (by assumption) ?_
            try simp only [Act.put, lq3, lq4, lq5]
            refine wpAnyH_take (i := 1) (v := .int .i64 ((j : Int) + 1)) rfl (by kernel_rfl) (by kernel_rfl) (by kernel_rfl) (fun _ _ _ h => h) (Or.inl ⟨by rfl, by intro W _; go_simp⟩) (by assumption) ?_
            try simp only [Act.put, lq3, lq4, lq5]
            refine wpAnyH_take (i := 2) (v := .int .i64 (j : Int)) rfl (by kernel_rfl) (by kernel_rfl) (by kernel_rfl) (fun _ _ _ h => h) (Or.inl ⟨by rfl, by intro W _; go_simp⟩) (by assumption) ?_
            try simp only [Act.put, lq3, lq4, lq5]
            refine wpAnyH_take (i := 3) (v := .pointer (some ⟨b, off + j * 19, none⟩)) rfl (by kernel_rfl) (by kernel_rfl) (by kernel_rfl) (fun _ _ _ h => h) (Or.inl ⟨by rfl, by intro W _; go_simp⟩) (by assumption) ?_
            try simp only [Act.put, lq3, lq4, lq5]
            refine wpAnyH_take (i := 4) (v := .agg (y.cells ya yc).toArray) rfl (by kernel_rfl) (by kernel_rfl) (by kernel_rfl) (fun _ _ _ h => h) (yieldsIf_load_mid (by rfl) 47 _ rfl b (off + j * 19) rfl (y.cells ya yc) _ (fun W h => rangeAt_below HYR.out h) Tryz.underlying47 rfl (size43 y ya yc)) (by assumption) ?_
            try simp only [Act.put, lq3, lq4, lq5]
            refine wpAnyH_take (i := 6) (v := .agg (noteA x sa sc)) rfl (by kernel_rfl) (by kernel_rfl) (by kernel_rfl) (fun _ _ _ h => h) (yields_row (by rfl) 47 _ rfl p8 rfl _ 47 (0, 0) _ (fun W h => (h.block _ (Array.getElem?_eq_some_iff.1 TT.out).1).trans TT.out) Tryz.underlying47 rfl (I43.out _ _ _)) (by assumption) ?_
            try simp only [Act.put, lq3, lq4, lq5]
            refine wpAnyH_ready (rs := [5]) (by kernel_rfl) (by simp) ?_
            refine AllReadyH.cons rfl (fun K hK => ?_) AllReadyH.nil
            go_simp
            go_at_call 167
            refine (nameOf_any y ya yc _).mono ?_
            rintro e v1 ⟨rfl, b1⟩
            have V1 := Lib.hid (HS0.out.trans (b1.mono HS0.out.size)); clear b1
            dsimp only
            refine hK.out _ _ V1.out (fun hHeld => ?_)
            clear hK K
            try simp only [Act.put, lq3, lq4, lq5]
            refine wpAnyH_ready (rs := [7]) (by kernel_rfl) (by simp) ?_
            refine AllReadyH.cons rfl (fun K hK => ?_) AllReadyH.nil
            go_simp
            go_at_call 167
            refine (nameOf_any x sa sc _).mono ?_
            rintro e v2 ⟨rfl, b1⟩
            have V2 := Lib.hid (V1.out.trans (b1.mono V1.out.size)); clear b1
            dsimp only
            refine hK.out _ _ V2.out (fun hHeld => ?_)
            clear hK K
            try simp only [Act.put, lq3, lq4, lq5]
            obtain ⟨o, HO⟩ : ∃ o, Hid (o = namesC y.house y.num x.house x.num) := ⟨_, Lib.hid rfl⟩
            refine wpAnyH_ready (rs := [8]) (by kernel_rfl) (by simp) ?_
            refine AllReadyH.cons rfl (fun K hK => ?_) AllReadyH.nil
            go_simp
            go_at_call 124
            refine (compareNames_any y.house y.num x.house x.num _).mono ?_
            rintro e v3 ⟨rfl, b1⟩
            have V3 := Lib.hid (V2.out.trans (b1.mono V2.out.size)); clear b1
            rw [← HO.out]
            dsimp only
            refine hK.out _ _ V3.out (fun hHeld => ?_)
            clear hK K
            try simp only [Act.put, lq3, lq4, lq5]
            refine wpAnyH_take (i := 9) (oi := { dst := some 9, op := .assign (.tmp 37), type := 3, pos := "notes.go:185", after := _, guard := none }) (v := .int .i64 o) rfl (by kernel_rfl) (by kernel_rfl) (by kernel_rfl) (fun _ _ _ h => h) (Or.inl ⟨by rfl, by intro W _; go_simp⟩) (by assumption) ?_
            try simp only [Act.put, lq3, lq4, lq5]
            refine wpAnyH_done (by kernel_rfl) ?_ _
            refine NoPanic.normal ?_
            replace TT := Lib.hid ((V3.out.block _ (Array.getElem?_eq_some_iff.1 TT.out).1).trans TT.out)
            replace FF := Lib.hid ((V3.out.block _ (Array.getElem?_eq_some_iff.1 FF.out).1).trans FF.out)
            replace BB := Lib.hid (BB.out.trans (V3.out.mono (by rw [← hp.out]; exact BB.out.size)))
            replace BW := Lib.hid (BW.out.trans (V3.out.mono BW.out.size))
            clear V1 V2 V3 HS0 HYR
            go_upto_region 12 with fail
            have c0 := cell_of FF.out 0 _ rfl
            have c1 := cell_of FF.out 1 _ rfl
            have c2 := cell_of FF.out 2 _ rfl
            go_wp2_with (refine wpList_load_row rfl 47 _ rfl p8 rfl 47 (noteA x sa sc) (0, 0) _ TT.out Tryz.underlying47 rfl (I43.out _ _ _) ?_)
            refine (formed_any f x sa sc _ HV.out (RX.out _ BW.out)).mono ?_
            rintro e w5 ⟨rfl, b5⟩
            have B5 := Lib.hid (BB.out.trans (b5.mono (by rw [← hp.out]; exact BB.out.size)))
            have F5 := Lib.hid ((b5.block _ (Array.getElem?_eq_some_iff.1 FF.out).1).trans FF.out)
            clear b5 c0 c1 c2
            cases hf : formedB f x
            · have HR := Lib.hid (show checkSetP f l = (80, j + 1) by rw [HG.out]; exact setGo_some hlt (by unfold setAt; rw [HX.out]; simp only; rw [if_pos hf]))
              clear hf
              go_wp2_with fail
              go_returns
              rw [HR.out]
              exact ⟨rfl, by rw [hp.out]; exact B5.out⟩
            · have HF := Lib.hid hf; clear hf
              by_cases ho : o = 0
              · have ho1 : (o == 0) = true := by simp [ho]
                have HR := Lib.hid (show checkSetP f l = (81, j + 1) by rw [HG.out]; exact setGo_some hlt (by unfold setAt; rw [HX.out]; simp only; rw [if_neg (by rw [HF.out]; decide), if_neg HK0.out, HY.out]; simp only; rw [← HO.out, if_pos ho]))
                clear ho
                go_wp2_with fail
                go_returns
                rw [HR.out]
                exact ⟨rfl, by rw [hp.out]; exact B5.out⟩
              · have ho1 : (o == 0) = false := by simp [ho]
                by_cases hp2 : 0 < o
                · have ho2 : decide (0 < o) = true := by simp [hp2]
                  have HR := Lib.hid (show checkSetP f l = (1, j + 1) by rw [HG.out]; exact setGo_some hlt (by unfold setAt; rw [HX.out]; simp only; rw [if_neg (by rw [HF.out]; decide), if_neg HK0.out, HY.out]; simp only; rw [← HO.out, if_neg ho, if_pos hp2]))
                  clear ho hp2
                  go_wp2_with fail
                  go_returns
                  rw [HR.out]
                  exact ⟨rfl, by rw [hp.out]; exact B5.out⟩
                · have ho2 : decide (0 < o) = false := by simp; omega
                  have HR := Lib.hid (show setGo f l (n - (j + 1)) (j + 1) = setGo f l (n - (j + 1 + 1)) (j + 1 + 1) from setGo_none hlt (by unfold setAt; rw [HX.out]; simp only; rw [if_neg (by rw [HF.out]; decide), if_neg HK0.out, HY.out]; simp only; rw [← HO.out, if_neg ho, if_neg hp2]))
                  clear ho hp2
                  go_wp2_with fail
                  go_roundw
                  case rel => exact ⟨j + 1 + 1, by go_num, by omega, Lib.hid (by rw [← HR.out]; exact HG.out), by rw [hp.out]; exact B5, F5⟩
                  case measure => simp [intOf]; omega
        · have hkn : k = n := by omega
          subst hkn
          have HR := Lib.hid (show checkSetP f l = (0, 0) by rw [HG.out, Nat.sub_self]; rfl)
          go_wp2_with fail
          go_returns
          rw [HR.out]
          exact ⟨rfl, by rw [hp.out]; exact HB.out⟩
end
end Go.Proofs.YtlnhppgfhkkidaaGreat
namespace Go.Proofs.YtlnhppgfhkkidaaGreat
set_option linter.unusedSimpArgs false
open Go.RowKit

structure LN where
  n : NoteV
  sa : Option Addr
  sc : Nat
def LN.val (x : LN) : Value := .agg (noteA x.n x.sa x.sc)
def LN.nm (x : LN) : Nm := (x.n.house, x.n.num)
def LN.ok (W : World) (x : LN) : Prop := RdI W x.sa x.n.strokes.length x.sc x.n.strokes
theorem LN.ok.below {W W' : World} {x : LN} (h : x.ok W) (hb : Below W.heap.size W W') : x.ok W' := RdI.below h hb
def RdLs (W : World) (a : Option Addr) (n c : Nat) (xs : List LN) : Prop :=
  xs.length = n ∧ n ≤ c ∧ c ≤ maxLen ∧ (c = 0 ∨ ∃ b off, a = some ⟨b, off, none⟩ ∧ ∀ i x, xs[i]? = some x → W.rangeAt b (off + i * 19) (x.n.cells x.sa x.sc) ∧ x.ok W)
theorem RdLs.below {W W' : World} {a : Option Addr} {n c : Nat} {l : List LN} (h : RdLs W a n c l) (hb : Below W.heap.size W W') : RdLs W' a n c l := by
  refine ⟨h.1, h.2.1, h.2.2.1, h.2.2.2.imp id ?_⟩
  rintro ⟨b, off, rfl, h4⟩
  refine ⟨b, off, rfl, fun i x hx => ?_⟩
  obtain ⟨h5, h6⟩ := h4 i x hx
  exact ⟨rangeAt_below h5 hb, h6.below hb⟩
theorem RdLs.at {W : World} {a : Option Addr} {n c : Nat} {l : List LN} (h : RdLs W a n c l) (h0 : 0 < n) : ∃ b off, a = some ⟨b, off, none⟩ ∧ ∀ i x, l[i]? = some x → W.rangeAt b (off + i * 19) (x.n.cells x.sa x.sc) ∧ x.ok W := by
  rcases h.2.2.2 with h4 | h4
  · have := h.2.1; omega
  · exact h4
theorem choose_ln : ∀ (l : List NoteV) (P : Nat → LN → Prop), (∀ i x, l[i]? = some x → ∃ y : LN, y.n = x ∧ P i y) → ∃ xs : List LN, xs.map LN.n = l ∧ ∀ i y, xs[i]? = some y → P i y
  | [], _, _ => ⟨[], rfl, by simp⟩
  | x :: l, P, h => by
    obtain ⟨y, h1, h2⟩ := h 0 x rfl
    obtain ⟨xs, h3, h4⟩ := choose_ln l (fun i => P (i + 1)) (fun i x hx => h (i + 1) x hx)
    refine ⟨y :: xs, by simp [h1, h3], fun i z hz => ?_⟩
    cases i with
    | zero => simp at hz; exact hz ▸ h2
    | succ i => exact h4 i z hz
theorem RdNs.choose {W : World} {a : Option Addr} {n c : Nat} {l : List NoteV} (h : RdNs W a n c l) : ∃ xs : List LN, xs.map LN.n = l ∧ RdLs W a n c xs := by
  obtain ⟨h1, h2, h3, h4⟩ := h
  rcases h4 with h4 | ⟨b, off, rfl, h4⟩
  · have : l = [] := List.eq_nil_of_length_eq_zero (by omega)
    subst this
    exact ⟨[], rfl, h1, h2, h3, .inl h4⟩
  · obtain ⟨xs, h5, h6⟩ := choose_ln l (fun i y => W.rangeAt b (off + i * 19) (y.n.cells y.sa y.sc) ∧ y.ok W) (fun i x hx => by
      obtain ⟨sa, sc, h7, h8⟩ := h4 i x hx
      exact ⟨⟨x, sa, sc⟩, rfl, h7, h8⟩)
    exact ⟨xs, h5, by rw [← h1, ← h5]; simp, h2, h3, .inr ⟨b, off, rfl, h6⟩⟩
def setF (xs : List LN) : Nm → Option LN := xs.foldl (fun f x => updF f x.nm x) (fun _ => none)
theorem setF_snoc (xs : List LN) (x : LN) : setF (xs ++ [x]) = updF (setF xs) x.nm x := by simp [setF, List.foldl_append]
theorem take_snoc {α : Type} {xs : List α} {k : Nat} {x : α} (h : xs[k]? = some x) : xs.take (k + 1) = xs.take k ++ [x] := by
  rw [List.take_add_one, h]; rfl
def SetEnd (f : FrV) (l : List NoteV) (w : World) (e : Ending) (w' : World) : Prop :=
  ((checkSetP f l).1 ≠ 0 ∧ e = .returned (.tuple #[.map none, .bool false])) ∨
  ((checkSetP f l).1 = 0 ∧ ∃ xs b, e = .returned (.tuple #[.map (some b), .bool true]) ∧ xs.map LN.n = l ∧ (∀ x ∈ xs, x.ok w') ∧ MapF LN.val w' b l.length (setF xs) ∧ w.heap.size ≤ b)
section
attribute [local go_sem] noteA_0
set_option maxHeartbeats 4000000 in
set_option maxRecDepth 100000 in
theorem setOf_any (f : FrV) (a : Option Addr) (n c : Nat) (l : List NoteV) (w : World) (hr : RdNs w a n c l) (hok : ∀ x ∈ l, x.Ok) :
    Calls Tryz.prog 121 #[f.val, .slice a n c] w fun e w' => SetEnd f l w e w' ∧ Below w.heap.size w w' := by
  have I43 := Lib.hid (show ∀ (m : NoteV) (a : Option Addr) (c : Nat), (Tryz.prog.info? 47).map (·.size) = some (noteA m a c).size from fun m a c => by kernel_rfl)
  obtain ⟨xs, hxs, hR⟩ := hr.choose
  have HXS := Lib.hid hxs
  have HOK := Lib.hid (show ∀ x ∈ xs, nmOk x.nm from fun x hx => by
    have := hok x.n (by rw [← hxs]; exact List.mem_map_of_mem hx)
    exact ⟨this.house, this.num⟩)
  have HLen := Lib.hid (show l.length = n from hr.1)
  have HL := Lib.hid hR.1
  have HN := Lib.hid (show n ≤ maxLen by have := hr.2.1; have := hr.2.2.1; omega)
  have hn63 : n ≤ 9223372036854775807 := by have h1 := HN.out; unfold maxLen at h1; omega
  have RX0 := Lib.hid (show ∀ W', Below w.heap.size w W' → RdLs W' a n c xs from fun W' hb => hR.below hb)
  have CS := Lib.hid (fun W (hb : Below w.heap.size w W) => checkSet_any f a n c l W (hr.below hb))
  unfold FrV.val at CS
  have SE0 := Lib.hid (show ∀ e w', (checkSetP f l).1 ≠ 0 → e = .returned (.tuple #[.map none, .bool false]) → SetEnd f l w e w' from fun e w' h1 h2 => .inl ⟨h1, h2⟩)
  have SE1 := Lib.hid (show ∀ e w' b, (checkSetP f l).1 = 0 → e = .returned (.tuple #[.map (some b), .bool true]) → (∀ x ∈ xs, x.ok w') → MapF LN.val w' b n (setF xs) → w.heap.size ≤ b → SetEnd f l w e w' from fun e w' b h1 h2 h3 h4 h5 => .inr ⟨h1, xs, b, h2, hxs, h3, by rw [HLen.out]; exact h4, h5⟩)
  clear hxs hR hr hok
  obtain ⟨z, HZ⟩ : ∃ z, Hid ((checkSetP f l).1 = z) := ⟨_, Lib.hid rfl⟩
  obtain ⟨y, HY⟩ : ∃ y, Hid ((checkSetP f l).2 = y) := ⟨_, Lib.hid rfl⟩
  rw [HZ.out, HY.out] at CS
  rw [HZ.out] at SE0 SE1
  unfold FrV.val
  have bb := (Below.refl w.heap.size w).alloc (Nat.le_refl _) (.cells #[.int .i64 f.rings, .int .i64 f.sectors, .int .i64 f.wide] 23)
  have BB := Lib.hid bb; clear bb
  go_enter Tryz.func121, Tryz.ntmps121
  go_wp2_with fail
  refine (CS.out _ BB.out).mono ?_
  rintro e w1 ⟨rfl, b1⟩
  have B1 := Lib.hid (BB.out.trans (b1.mono BB.out.size)); clear b1
  by_cases h0 : z = 0
  · have t0 : (z != 0) = false := by simp [h0]
    have H0 := Lib.hid h0; clear h0
    have M0 := Lib.hid (MapF.made (enc := LN.val) w1)
    have hmm := @run_makeMap Tryz.prog
    have B2 := Lib.hid (B1.out.alloc B1.out.size (.map #[] 0))
    obtain ⟨b, hb⟩ : ∃ b, Hid (w1.heap.size = b) := ⟨_, Lib.hid rfl⟩
    have HB := Lib.hid (show w.heap.size ≤ b by rw [← hb.out]; exact B1.out.size)
    rw [hb.out] at M0
    go_wp2_with fail
    rw [hb.out]
    clear hmm
    go_loopw [22] (fun i wr => ∃ k : Nat, i = .int .i64 k ∧ k ≤ n ∧ Hid (Below w.heap.size w wr) ∧ Hid (MapF LN.val wr b k (setF (xs.take k)))) (fun i _ => n - (intOf i).toNat)
    case atStart => exact ⟨0, rfl, Nat.zero_le _, B2, M0⟩
    case round =>
      obtain ⟨k, rfl, hk, HBr, HM⟩ := hrel
      by_cases hlt : k < n
      · obtain ⟨x, hx⟩ : ∃ x, xs[k]? = some x := ⟨_, List.getElem?_eq_getElem (by rw [HL.out]; exact hlt)⟩
        have HX := Lib.hid hx
        have HXok := Lib.hid (HOK.out x (List.mem_of_getElem? hx))
        obtain ⟨bs, off, rfl, hall⟩ := (RX0.out _ HBr.out).at (by omega)
        obtain ⟨hrange, _⟩ := hall k x hx
        have HRA := Lib.hid hrange
        clear hall hx hrange
        have hk63 : (k : Int) ≤ 9223372036854775807 := by omega
        go_upto_region 8 with (first
          | (refine wpList_load_mid rfl 47 _ rfl bs (off + k * 19) rfl (x.n.cells x.sa x.sc) _ HRA.out Tryz.underlying47 rfl (size43 x.n x.sa x.sc) ?_)
          | (refine wpList_store_newp wr rfl 47 _ _ rfl wr.heap.size rfl _ (noteA x.n x.sa x.sc) rfl rfl (I43.out _ _ _) rfl (noteA_one x.n x.sa x.sc) ?_))
        have hbt : Below wr.heap.size wr (wr.alloc (.cells (noteA x.n x.sa x.sc) 47)) := (Below.refl _ _).alloc (Nat.le_refl _) _
        have TT := Lib.hid (heap_last wr (.cells (noteA x.n x.sa x.sc) 47))
        have BT := Lib.hid (HBr.out.trans (hbt.mono HBr.out.size))
        have MT := Lib.hid (HM.out.below hbt)
        obtain ⟨p8, hp8⟩ : ∃ p8, Hid (wr.heap.size = p8) := ⟨_, Lib.hid rfl⟩
        have HNE := Lib.hid (show b < p8 by rw [← hp8.out]; exact HM.out.lt)
        rw [hp8.out] at TT ⊢
        generalize wr.alloc (.cells (noteA x.n x.sa x.sc) 47) = wt at *
        clear hbt
        refine wp_region_noPanic ?_
        refine wp_region_held_drew (S := fun w' => w'.heap[p8]? = some (.cells (noteA x.n x.sa x.sc) 47 (0, 0))) (by kernel_rfl) (show wt.drew.heap[p8]? = _ from TT.out) (fun hHeld => ?_)
        refine wpAnyH_take (i := 0) (v := .map (some b)) rfl (by kernel_rfl) (by kernel_rfl) (by kernel_rfl) (fun _ _ _ h => h) (Or.inl ⟨by rfl, by intro W _; go_simp⟩) (by assumption) ?_
        try simp only [Act.put, lq3, lq4, lq5]
        refine wpAnyH_take (i := 1) (v := .agg (noteA x.n x.sa x.sc)) rfl (by kernel_rfl) (by kernel_rfl) (by kernel_rfl) (fun _ _ _ h => h) (yields_row (by rfl) 47 _ rfl p8 rfl _ 47 (0, 0) _ (fun W h => h) Tryz.underlying47 rfl (I43.out _ _ _)) (by assumption) ?_
        try simp only [Act.put, lq3, lq4, lq5]
        refine wpAnyH_take (i := 3) (v := .agg (noteA x.n x.sa x.sc)) rfl (by kernel_rfl) (by kernel_rfl) (by kernel_rfl) (fun _ _ _ h => h) (yields_row (by rfl) 47 _ rfl p8 rfl _ 47 (0, 0) _ (fun W h => h) Tryz.underlying47 rfl (I43.out _ _ _)) (by assumption) ?_
        try simp only [Act.put, lq3, lq4, lq5]
        refine wpAnyH_ready (rs := [2]) (by kernel_rfl) (by simp) ?_
        refine AllReadyH.cons rfl (fun K hK => ?_) AllReadyH.nil
        go_simp
        go_at_call 167
        refine (nameOf_any x.n x.sa x.sc _).mono ?_
        rintro e v1 ⟨rfl, b1⟩
        have b2 : Below wt.heap.size wt v1 := ((Below.refl wt.heap.size wt).drew).trans b1
        have V1 := Lib.hid (BT.out.trans (b2.mono BT.out.size))
        have M1 := Lib.hid (MT.out.below b2)
        have T1 := Lib.hid ((b2.block _ (Array.getElem?_eq_some_iff.1 TT.out).1).trans TT.out)
        clear b1 b2
        dsimp only
        refine hK.out _ _ T1.out (fun hHeld => ?_)
        clear hK K
        try simp only [Act.put, lq3, lq4, lq5]
        refine wpAnyH_ready (rs := [4]) (by kernel_rfl) (by simp) ?_
        refine AllReadyH.cons rfl (fun K hK => ?_) AllReadyH.nil
        have hput := run_put_nm (t := 119) M1.out (by have := HN.out; omega) Tryz.underlying119 x.n.house x.n.num HXok.out x
        obtain ⟨v2, hrun, hm2, ht2⟩ := hput
        have M2 := Lib.hid hm2
        have V2 := Lib.hid (V1.out.grown ht2.grown V1.out.size (fun q hq => by cases hq; exact HB.out))
        have T2 := Lib.hid ((ht2.grown.block p8 (Array.getElem?_eq_some_iff.1 T1.out).1 (fun he => by cases he; exact absurd HNE.out (Nat.lt_irrefl _))).trans T1.out)
        clear hm2 ht2
        unfold LN.val at hrun
        go_simp
        refine hK.out _ _ T2.out (fun hHeld => ?_)
        clear hK K
        try simp only [Act.put, lq3, lq4, lq5]
        refine wpAnyH_done (by kernel_rfl) ?_ _
        refine NoPanic.normal ?_
        go_wp2_with fail
        go_roundw
        case rel => exact ⟨k + 1, by go_num, by omega, V2, Lib.hid (by rw [take_snoc HX.out, setF_snoc]; exact M2.out)⟩
        case measure => simp [intOf]; omega
      · have hkn : k = n := by omega
        subst hkn
        have HF := Lib.hid (show MapF LN.val wr b k (setF xs) by have := HM.out; rw [List.take_of_length_le (by rw [HL.out]; exact Nat.le_refl _)] at this; exact this)
        have HA := Lib.hid (show ∀ x ∈ xs, x.ok wr from fun x hx => by
          obtain ⟨i, hi⟩ := List.getElem?_of_mem hx
          have hi2 : i < xs.length := (List.getElem?_eq_some_iff.1 hi).1
          obtain ⟨_, _, _, hall⟩ := (RX0.out _ HBr.out).at (by rw [← HL.out]; omega)
          exact (hall i x hi).2)
        go_wp2_with fail
        go_returns
        exact ⟨SE1.out _ _ _ H0.out rfl HA.out HF.out HB.out, HBr.out⟩
  · have t0 : (z != 0) = true := by simp [h0]
    have H0 := Lib.hid h0; clear h0
    go_wp2_with fail
    go_returns
    exact ⟨SE0.out _ _ H0.out rfl, B1.out⟩
end
end Go.Proofs.YtlnhppgfhkkidaaGreat
namespace Go.Proofs.YtlnhppgfhkkidaaGreat
set_option linter.unusedSimpArgs false
open Go.RowKit

theorem setRow_at (w : World) (p : Nat) (c c' : Array Value) (t : TypeId) (fr : Nat × Nat) (hp : w.heap[p]? = some (.cells c t fr)) : (w.setRow p c').heap[p]? = some (.cells c' t fr) := by
  simp only [World.setRow, Array.getElem?_modify, hp]
  simp
theorem setRow_grown (w : World) (p : Nat) (c' : Array Value) : w.grownBy (w.setRow p c') (some p) :=
  ⟨rfl, rfl, rfl, by simp [World.setRow], fun k _ hk => by
    have : ¬ p = k := fun e => hk (by rw [e])
    simp [World.setRow, Array.getElem?_modify, this]⟩
theorem grown_blk {w w' : World} {row : Option Nat} {p : Nat} {o : Obj} (hg : w.grownBy w' row) (h : w.heap[p]? = some o) (hne : some p ≠ row) : w'.heap[p]? = some o :=
  (hg.block p (Array.getElem?_eq_some_iff.1 h).1 hne).trans h
theorem below_blk {w w' : World} {p : Nat} {o : Obj} (hg : Below w.heap.size w w') (h : w.heap[p]? = some o) : w'.heap[p]? = some o :=
  (hg.block p (Array.getElem?_eq_some_iff.1 h).1).trans h
theorem blk_lt {w : World} {p : Nat} {o : Obj} (h : w.heap[p]? = some o) : p < w.heap.size := (Array.getElem?_eq_some_iff.1 h).1
section
attribute [local go_sem] noteA_2
end
end Go.Proofs.YtlnhppgfhkkidaaGreat
namespace Go.Proofs.YtlnhppgfhkkidaaGreat
set_option linter.unusedSimpArgs false
open Go.RowKit

def refN (x : LN) : Nm := (x.n.refH, x.n.refN)
def candB (f : Nm → Option LN) (a : Nm) (x : LN) : Bool := !doneB x.n && decide (refN x = a) && (match f a with | none => false | some r => doneB r.n && judgesB x.n r.n)
def vacB (f : Nm → Option LN) (x : LN) : Bool := !doneB x.n && (match f (refN x) with | none => true | some r => !(doneB r.n && judgesB x.n r.n))
def vacs (f : Nm → Option LN) (ks : List Nm) : List Nm := ks.filter (fun k => match f k with | some x => vacB f x | none => false)
def JudgeOk (f : Nm → Option LN) (ks : List Nm) (J : Nm → Option LN) : Prop := ∀ a,
  (J a = none → ∀ k ∈ ks, ∀ x, f k = some x → candB f a x = false) ∧
  (∀ y, J a = some y → (∃ k ∈ ks, f k = some y) ∧ candB f a y = true ∧ ∀ k ∈ ks, ∀ x, f k = some x → candB f a x = true → ¬ knownC y.n x.n < 0)
theorem JudgeOk.nil (f : Nm → Option LN) : JudgeOk f [] (fun _ => none) := fun a => ⟨fun _ k hk => by simp at hk, fun y hy => by cases hy⟩
theorem cmpI_neg (x y : Int) : cmpI x y < 0 ↔ x < y := by unfold cmpI; split <;> (try split) <;> omega
theorem cmpI_zero (x y : Int) : cmpI x y = 0 ↔ x = y := by unfold cmpI; split <;> (try split) <;> omega
theorem orI_neg (x y : Int) : orI x y < 0 ↔ x < 0 ∨ x = 0 ∧ y < 0 := by unfold orI; split <;> omega
theorem knownC_neg (a b : NoteV) : knownC a b < 0 ↔ a.clock < b.clock ∨ a.clock = b.clock ∧ (a.house < b.house ∨ a.house = b.house ∧ a.num < b.num) := by
  rw [knownC, namesC, orI_neg, orI_neg, cmpI_neg, cmpI_neg, cmpI_neg, cmpI_zero, cmpI_zero]
theorem knownC_trans (a b c : NoteV) (h1 : knownC a b < 0) (h2 : ¬ knownC a c < 0) : ¬ knownC b c < 0 := by
  rw [knownC_neg] at *
  omega
theorem knownC_self (a : NoteV) : ¬ knownC a a < 0 := by
  rw [knownC_neg]
  omega
section
variable {f : Nm → Option LN} {ks : List Nm} {J : Nm → Option LN} {k : Nm} {x : LN}
theorem JudgeOk.skip (h : JudgeOk f ks J) (hk : f k = some x) (hc : ∀ a, candB f a x = false) : JudgeOk f (ks ++ [k]) J := fun a => by
  obtain ⟨h1, h2⟩ := h a
  refine ⟨fun hJ k' hk' x' hx' => ?_, fun y hy => ?_⟩
  · rcases List.mem_append.1 hk' with h3 | h3
    · exact h1 hJ k' h3 x' hx'
    · rw [List.mem_singleton.1 h3, hk] at hx'
      cases hx'; exact hc a
  · obtain ⟨⟨k1, h3, h4⟩, h5, h6⟩ := h2 y hy
    refine ⟨⟨k1, List.mem_append_left _ h3, h4⟩, h5, fun k' hk' x' hx' hcx => ?_⟩
    rcases List.mem_append.1 hk' with h7 | h7
    · exact h6 k' h7 x' hx' hcx
    · rw [List.mem_singleton.1 h7, hk] at hx'
      cases hx'
      rw [hc a] at hcx; cases hcx
theorem JudgeOk.put (h : JudgeOk f ks J) (hk : f k = some x) (hc : candB f (refN x) x = true) (hn : ∀ y, J (refN x) = some y → knownC y.n x.n < 0) : JudgeOk f (ks ++ [k]) (updF J (refN x) x) := fun a => by
  obtain ⟨h1, h2⟩ := h a
  by_cases e : a = refN x
  · subst e
    refine ⟨fun hJ => by simp [updF] at hJ, fun z hz => ?_⟩
    have hz' : some x = some z := by rw [← hz]; simp [updF]
    cases hz'
    refine ⟨⟨k, by simp, hk⟩, hc, fun k' hk' x' hx' hcx => ?_⟩
    rcases List.mem_append.1 hk' with h7 | h7
    · cases hJ : J (refN x) with
      | none => rw [h1 hJ k' h7 x' hx'] at hcx; cases hcx
      | some y => exact knownC_trans _ _ _ (hn y hJ) ((h2 y hJ).2.2 k' h7 x' hx' hcx)
    · rw [List.mem_singleton.1 h7, hk] at hx'
      cases hx'; exact knownC_self _
  · have hno : candB f a x = false := by
      have : ¬ refN x = a := fun e' => e e'.symm
      simp [candB, this]
    have hJe : updF J (refN x) x a = J a := by simp [updF, e]
    rw [hJe]
    refine ⟨fun hJ k' hk' x' hx' => ?_, fun y hy => ?_⟩
    · rcases List.mem_append.1 hk' with h3 | h3
      · exact h1 hJ k' h3 x' hx'
      · rw [List.mem_singleton.1 h3, hk] at hx'
        cases hx'; exact hno
    · obtain ⟨⟨k1, h3, h4⟩, h5, h6⟩ := h2 y hy
      refine ⟨⟨k1, List.mem_append_left _ h3, h4⟩, h5, fun k' hk' x' hx' hcx => ?_⟩
      rcases List.mem_append.1 hk' with h7 | h7
      · exact h6 k' h7 x' hx' hcx
      · rw [List.mem_singleton.1 h7, hk] at hx'
        cases hx'
        rw [hno] at hcx; cases hcx
end
def nmCells (l : List Nm) : List Value := l.flatMap fun a => [.int .i64 a.1, .int .i64 a.2]
theorem nmCells_snoc (l : List Nm) (a : Nm) : nmCells (l ++ [a]) = nmCells l ++ [.int .i64 a.1, .int .i64 a.2] := by simp [nmCells]
theorem nmCells_len (l : List Nm) : (nmCells l).length = l.length * 2 := by
  induction l with
  | nil => rfl
  | cons a l ih =>
    have : nmCells (a :: l) = [.int .i64 a.1, .int .i64 a.2] ++ nmCells l := rfl
    rw [this, List.length_append, ih]; simp; omega
def benchAt (w : World) (p bS bJ : Nat) (va : Option Addr) (vn vc : Nat) : Prop := w.heap[p]? = some (.cells #[.map (some bS), .map (some bJ), .slice va vn vc] 243 (0, 0))
structure SitAt (w wr : World) (bS pB bJ r n : Nat) (f : Nm → Option LN) (kr ks : List Nm) (cnt : Nat) (va : Option Addr) (vn vc : Nat) (J : Nm → Option LN) : Prop where
  rng : RangeF LN.val wr bS r n f kr cnt
  bel : Below w.heap.size w wr
  blk : benchAt wr pB bS bJ va vn vc
  jm : MapF LN.val wr bJ ks.length J
  jok : JudgeOk f ks J
  own : wr.ownsRow w.heap.size 45 2 (.slice va vn vc) vn (nmCells (vacs f ks))
  bJ_ge : w.heap.size ≤ bJ
  pB_ge : w.heap.size ≤ pB
  r_ge : w.heap.size ≤ r
  bS_lt : bS < w.heap.size
theorem own_no {w : World} {base : Nat} {e : TypeId} {size : Nat} {v : Value} {n : Nat} {xs : List Value} {p : Nat} {o : Obj} (h : w.ownsRow base e size v n xs) (hp : w.heap[p]? = some o) (ho : ∀ cur, o ≠ .cells cur e (0, 0)) : some p ≠ v.ownBlock := by
  rcases h.2 with ⟨rfl, _⟩ | ⟨g, cap, cur, rfl, _, hg, _⟩
  · simp [Value.ownBlock]
  · intro e1
    have e2 : p = g := Option.some.inj e1
    subst e2
    rw [hp] at hg
    exact ho cur (Option.some.inj hg)
theorem MapF.blk {α : Type} {enc : α → Value} {w : World} {b n : Nat} {f : Nm → Option α} (h : MapF enc w b n f) : ∃ es clock, w.heap[b]? = some (.map es clock) := by
  obtain ⟨D, ⟨es, clock, h1, _⟩, _⟩ := h
  exact ⟨es, clock, h1⟩
theorem RangeF.blk {α : Type} {enc : α → Value} {w : World} {b r n : Nat} {f : Nm → Option α} {ks : List Nm} {cnt : Nat} (h : RangeF enc w b r n f ks cnt) : ∃ bb since seen c0, w.heap[r]? = some (.mapIter bb since seen c0) := by
  obtain ⟨D, left, ⟨es, clock, since, seen, c0, _, _, _, _, h1, _⟩, _⟩ := h
  exact ⟨_, _, _, _, h1⟩
theorem setCell_at {w : World} {p : Nat} {c : Array Value} {t : TypeId} {fr : Nat × Nat} (h : w.heap[p]? = some (.cells c t fr)) (j : Nat) (v : Value) : (w.setCell ⟨p, j, none⟩ v).heap[p]? = some (.cells (c.setIfInBounds j v) t fr) := by
  simp only [World.setCell, Array.getElem?_modify, h]
  simp
theorem setCell_grown (w : World) (p j : Nat) (v : Value) : w.grownBy (w.setCell ⟨p, j, none⟩ v) (some p) :=
  ⟨rfl, rfl, rfl, by simp [World.setCell], fun k _ hk => Below.heap_setCell _ _ _ _ (fun e => hk (by rw [e]))⟩
section
variable {w wr W' : World} {bS pB bJ r n : Nat} {f : Nm → Option LN} {kr ks : List Nm} {cnt : Nat} {va : Option Addr} {vn vc : Nat} {J : Nm → Option LN}
theorem SitAt.below (h : SitAt w wr bS pB bJ r n f kr ks cnt va vn vc J) (hb : Below wr.heap.size wr W') : SitAt w W' bS pB bJ r n f kr ks cnt va vn vc J :=
  ⟨h.rng.below hb, h.bel.trans (hb.mono h.bel.size), below_blk hb h.blk, h.jm.below hb, h.jok, own_below h.own hb, h.bJ_ge, h.pB_ge, h.r_ge, h.bS_lt⟩
theorem SitAt.came (h : SitAt w wr bS pB bJ r n f kr ks cnt va vn vc J) {kh km : Int} {y : LN} {cnt' : Nat} (hN : NextF LN.val wr bS r n cnt f kr kh km y W' cnt') : SitAt w W' bS pB bJ r n f (kr ++ [(kh, km)]) ks cnt' va vn vc J := by
  obtain ⟨bb, since, seen, c0, hr⟩ := h.rng.blk
  have hb1 := h.blk
  obtain ⟨es, clock, hj⟩ := h.jm.blk
  refine ⟨hN.range, h.bel.grown hN.grown h.bel.size (fun q hq => by cases hq; exact h.r_ge), grown_blk hN.grown hb1 ?_, h.jm.kept hN.grown ?_, h.jok, h.own.kept hN.grown (.inr (own_no h.own hr (by simp)).symm), h.bJ_ge, h.pB_ge, h.r_ge, h.bS_lt⟩
  · intro e
    have e := Option.some.inj e
    subst e
    unfold benchAt at hb1
    rw [hr] at hb1; cases hb1
  · intro e
    have e := Option.some.inj e
    subst e
    rw [hr] at hj; cases hj
end
theorem infoNm : (Tryz.prog.info? 45).map (fun i => (i.zero, i.size, i.bytes)) = some (some (.agg #[.int .i64 0, .int .i64 0]), 2, 16) := by kernel_rfl
theorem run_app_nm (w : World) (base : Nat) (sa : Option Addr) (sn sc : Nat) (xs : List Value) (hown : w.ownsRow base 45 2 (.slice sa sn sc) sn xs) (xa : Option Addr) (m xc : Nat) (ys : List Value) (hrd : RdA w 2 xa m xc ys) (h1 : ∀ u ∈ ys, u.oneCell' = true)
    (hbytes : (sn + m) * 16 ≤ 140737488355328) (hbase : base ≤ w.heap.size) :
    ∃ a' c' w', (Builtin.append_ #[75, 75] 75 #[.slice sa sn sc, .slice xa m xc]).run Tryz.prog w = .ok (.slice a' (sn + m) c') w' ∧ w'.ownsRow base 45 2 (.slice a' (sn + m) c') (sn + m) (xs ++ ys) ∧ w.grownBy w' (Value.ownBlock (.slice sa sn sc)) := by
  obtain ⟨i, hi, hz0, hz1, hz2⟩ := info_parts infoNm
  exact run_append_rd w base 75 75 45 i _ 2 16 Tryz.underlying75 hi hz0 hz1 hz2 rfl (by decide) sa sn sc xs hown xa m xc ys hrd h1 (by unfold maxLen; omega) hbytes hbase
theorem lit_rd (W : World) (x y : Value) : RdA (W.alloc (.cells #[x, y] 45)) 2 (some ⟨W.heap.size, 0, none⟩) 1 1 [x, y] :=
  RdA.of_own (World.ownsRow_lit (base := W.heap.size) (e := 45) (size := 2) W #[x, y] 1 (Nat.le_refl _) (by unfold maxLen; omega) rfl)
theorem oper_append {P : Program} {op : Oper} {a : Act} {w w' : World} {K : Act → World → Prop} {Q : Exit → Act → World → Prop} (s x : Operand) (t : TypeId) (ho : op.op = .call { callee := .builtin .append, args := #[s, x], argTypes := #[t, t] }) (v1 v2 v : Value)
    (hs : a.eval s = v1) (hx : a.eval x = v2) (hr : (Builtin.append_ #[t, t] op.type #[v1, v2]).run P w = .ok v w') (h : K (a.put op.dst v) w') : op.wp P a w K Q := by
  unfold Oper.wp
  simp [execOp, ho, resolve, invoke, builtin, hs, hx, hr, Result.andThen]
  exact h
theorem oper_store_blk {P : Program} {op : Oper} {a : Act} {w : World} {K : Act → World → Prop} {Q : Exit → Act → World → Prop} (ty : TypeId) (x y : Operand) (ho : op.op = .store ty x y) (p : Nat)
    (c c' : Array Value) (t : TypeId) (hx : a.eval x = .pointer (some ⟨p, 0, none⟩)) (hy : a.eval y = .agg c') (hg : w.heap[p]? = some (.cells c t (0, 0))) (hi : (P.info? ty).map (·.size) = some c'.size) (hc : c.size = c'.size) (h1 : c'.all (·.oneCell') = true)
    (h : ∀ w', w'.heap[p]? = some (.cells c' t (0, 0)) → w.grownBy w' (some p) → w'.heap.size = w.heap.size → K (a.put op.dst undef) w') : op.wp P a w K Q := by
  unfold Oper.wp execOp
  simp only [ho, hx, hy, Instr.storeAt, Instr.sureAddr, Sem.run_bind, Sem.run_pure, Result.andThen_ok, run_storeVar_row w p t ty c c' hg hi hc h1]
  exact h _ (setRow_at w p c c' t _ hg) (setRow_grown w p c') (by simp [World.setRow])
theorem zero_note (w : World) : (zeroValue 47).run Tryz.prog w = .ok (.agg (noteA zeroN none 0)) w := by kernel_rfl
section
attribute [local go_sem] noteA_0 noteA_1 noteA_16 noteA_17
end
end Go.Proofs.YtlnhppgfhkkidaaGreat
namespace Go.Proofs.YtlnhppgfhkkidaaGreat
open Go.RowKit

theorem setCells_other (b : Nat) : ∀ (vs : List Value) (o : Nat) (w : World) (k : Nat), k ≠ b → (w.setCells b o vs).heap[k]? = w.heap[k]?
  | [], _, _, _, _ => rfl
  | v :: r, o, w, k, h => by
    rw [World.setCells, setCells_other b r (o + 1) _ k h]
    exact Below.heap_setCell w ⟨b, o, none⟩ v k h
theorem setCells_size (b : Nat) : ∀ (vs : List Value) (o : Nat) (w : World), (w.setCells b o vs).heap.size = w.heap.size
  | [], _, _ => rfl
  | v :: r, o, w => by
    rw [World.setCells, setCells_size b r (o + 1) _]
    simp [World.setCell]
theorem setCells_rest (b : Nat) : ∀ (vs : List Value) (o : Nat) (w : World), (w.setCells b o vs).os = w.os ∧ (w.setCells b o vs).tape = w.tape ∧ (w.setCells b o vs).output = w.output
  | [], _, _ => ⟨rfl, rfl, rfl⟩
  | v :: r, o, w => by
    rw [World.setCells]
    exact setCells_rest b r (o + 1) _
theorem setCells_blk (b : Nat) : ∀ (vs : List Value) (o : Nat) (w : World) (cur : Array Value) (t : TypeId) (fr : Nat × Nat), w.heap[b]? = some (.cells cur t fr) → ∃ cur', (w.setCells b o vs).heap[b]? = some (.cells cur' t fr) ∧ cur'.size = cur.size
  | [], _, _, cur, _, _, h => ⟨cur, h, rfl⟩
  | v :: r, o, w, cur, t, fr, h => by
    rw [World.setCells]
    obtain ⟨cur', h1, h2⟩ := setCells_blk b r (o + 1) (w.setCell ⟨b, o, none⟩ v) (cur.setIfInBounds o v) t fr (by
      have hb := (Array.getElem?_eq_some_iff.1 h).1
      simp only [World.setCell, Array.getElem?_modify, h]
      simp)
    exact ⟨cur', h1, by rw [h2]; simp⟩
theorem same_setCells (b o : Nat) (vs : List Value) (w : World) : Same (fun k => k = b) w (w.setCells b o vs) :=
  ⟨(setCells_rest b vs o w).1, (setCells_rest b vs o w).2.1, (setCells_rest b vs o w).2.2, by rw [setCells_size]; exact Nat.le_refl _, fun k _ hk => setCells_other b vs o w k hk⟩

structure SRows (w : World) (g : Nat) (ty : TypeId) (k sz : Nat) (rows : List (List Value)) : Prop where
  blk : ∃ cur, w.heap[g]? = some (.cells cur ty (0, 0)) ∧ cur.size = sz
  le : rows.length * k ≤ sz
  rng : ∀ i r, rows[i]? = some r → w.rangeAt g (i * k) r
  len : ∀ r ∈ rows, r.length = k
  one : ∀ r ∈ rows, ∀ v ∈ r, v.oneCell' = true

theorem SRows.there {w : World} {g k sz : Nat} {ty : TypeId} {rows : List (List Value)} (h : SRows w g ty k sz rows) {i : Nat} (hi : i < rows.length) : w.there g (i * k) k := by
  obtain ⟨cur, h1, h2⟩ := h.blk
  intro j hj
  have h3 : i * k + j < cur.size := by
    have : (i + 1) * k ≤ rows.length * k := Nat.mul_le_mul_right _ hi
    rw [Nat.add_mul] at this
    have := h.le
    omega
  refine ⟨?_, ?_⟩
  · simp [World.cell?, h1, h3]
  · simp [World.frozen?, h1]
theorem SRows.same {S : Nat → Prop} {w w' : World} {g k sz : Nat} {ty : TypeId} {rows : List (List Value)} (h : SRows w g ty k sz rows) (hs : Same S w w') (hg : ¬ S g) : SRows w' g ty k sz rows := by
  obtain ⟨cur, h1, h2⟩ := h.blk
  have hb := hs.block g (Array.getElem?_eq_some_iff.1 h1).1 hg
  refine ⟨⟨cur, hb.trans h1, h2⟩, h.le, fun i r hi j v hv => ?_, h.len, h.one⟩
  have := h.rng i r hi j v hv
  simp only [World.cell?] at this ⊢
  rw [hb]; exact this
theorem SRows.below {w w' : World} {g k sz : Nat} {ty : TypeId} {rows : List (List Value)} (h : SRows w g ty k sz rows) (hb : Below w.heap.size w w') : SRows w' g ty k sz rows :=
  h.same (S := fun _ => False) (Same.of_below hb) (fun e => e)
theorem SRows.set {w : World} {g k sz : Nat} {ty : TypeId} {rows : List (List Value)} (h : SRows w g ty k sz rows) {i : Nat} (hi : i < rows.length) {r : List Value} (hr : r.length = k) (h1 : ∀ v ∈ r, v.oneCell' = true) :
    SRows (w.setCells g (i * k) r) g ty k sz (rows.set i r) := by
  obtain ⟨cur, h2, h3⟩ := h.blk
  obtain ⟨cur', h4, h5⟩ := setCells_blk g r (i * k) w cur ty (0, 0) h2
  refine ⟨⟨cur', h4, by rw [h5, h3]⟩, by rw [List.length_set]; exact h.le, fun j x hj => ?_, fun x hx => ?_, fun x hx => ?_⟩
  · by_cases e : i = j
    · subst e
      rw [List.getElem?_set_self hi] at hj
      cases hj
      exact World.rangeAt_setCells_same w g (i * k) r (by rw [hr]; exact h.there hi)
    · rw [List.getElem?_set_ne e] at hj
      have hx := h.len x (List.mem_of_getElem? hj)
      refine World.rangeAt_setCells_apart (h.rng j x hj) _ _ _ ?_
      rw [hx, hr]
      rcases Nat.lt_or_gt_of_ne e with e | e
      · have := Nat.mul_le_mul_right k (show i + 1 ≤ j from e); rw [Nat.add_mul] at this; omega
      · have := Nat.mul_le_mul_right k (show j + 1 ≤ i from e); rw [Nat.add_mul] at this; omega
  · rcases List.mem_or_eq_of_mem_set hx with hx | rfl
    · exact h.len x hx
    · exact hr
  · rcases List.mem_or_eq_of_mem_set hx with hx | rfl
    · exact h.one x hx
    · exact h1

structure Ord {V : Type} (lt : V → V → Bool) : Prop where
  asym : ∀ x y, lt x y = true → lt y x = false
  trans : ∀ x y z, lt y x = false → lt z y = false → lt z x = false
def SortedIn {V : Type} (lt : V → V → Bool) (ys : List V) (a b : Nat) : Prop := ∀ p q x y, a ≤ p → p < q → q < b → ys[p]? = some x → ys[q]? = some y → lt y x = false
def SortedBut {V : Type} (lt : V → V → Bool) (ys : List V) (a i j : Nat) : Prop := ∀ p q x y, a ≤ p → p < q → q ≤ i → q ≠ j → ys[p]? = some x → ys[q]? = some y → lt y x = false
def swapAt {V : Type} (ys : List V) (i j : Nat) (x y : V) : List V := (ys.set i y).set j x
theorem swap_get {V : Type} {ys : List V} {i j : Nat} {x y : V} (hi : ys[i]? = some x) (hj : ys[j]? = some y) (k : Nat) :
    (swapAt ys i j x y)[k]? = if k = j then some x else if k = i then some y else ys[k]? := by
  have h1 := (List.getElem?_eq_some_iff.1 hi).1
  have h2 := (List.getElem?_eq_some_iff.1 hj).1
  unfold swapAt
  rw [List.getElem?_set]
  by_cases e : j = k
  · subst e; rw [if_pos rfl, if_pos rfl, List.length_set, if_pos h2]
  · rw [if_neg e, if_neg (fun h => e h.symm), List.getElem?_set]
    by_cases e' : i = k
    · subst e'; rw [if_pos rfl, if_pos rfl, if_pos h1]
    · rw [if_neg e', if_neg (fun h => e' h.symm)]
theorem SortedBut.step {V : Type} {lt : V → V → Bool} (ho : Ord lt) {ys : List V} {a i j : Nat} (h : SortedBut lt ys a i (j + 1)) (hij : j + 1 ≤ i) (haj : a ≤ j) {x y : V} (hx : ys[j]? = some x) (hy : ys[j + 1]? = some y) (hl : lt y x = true) :
    SortedBut lt (swapAt ys (j + 1) j y x) a i j := by
  intro p q u v hp hpq hq hqj hu hv
  rw [swap_get hy hx] at hu hv
  by_cases e1 : q = j + 1
  · subst e1
    rw [if_neg (by omega), if_pos rfl] at hv
    cases hv
    by_cases e2 : p = j
    · subst e2
      rw [if_pos rfl] at hu
      cases hu
      exact ho.asym _ _ hl
    · rw [if_neg e2, if_neg (by omega)] at hu
      exact h p j u x hp (by omega) (by omega) (by omega) hu hx
  · rw [if_neg hqj, if_neg e1] at hv
    by_cases e2 : p = j
    · subst e2
      rw [if_pos rfl] at hu
      rw [← Option.some.inj hu]
      exact h (p + 1) q y v (by omega) (by omega) hq e1 hy hv
    · rw [if_neg e2] at hu
      by_cases e3 : p = j + 1
      · subst e3
        rw [if_pos rfl] at hu
        rw [← Option.some.inj hu]
        exact h j q x v haj (by omega) hq e1 hx hv
      · rw [if_neg e3] at hu
        exact h p q u v hp hpq hq e1 hu hv
theorem SortedBut.done {V : Type} {lt : V → V → Bool} (ho : Ord lt) {ys : List V} {a i j : Nat} (h : SortedBut lt ys a i j) (hij : j ≤ i)
    (hd : j ≤ a ∨ ∃ x y, ys[j - 1]? = some x ∧ ys[j]? = some y ∧ lt y x = false) : SortedIn lt ys a (i + 1) := by
  intro p q u v hp hpq hq hu hv
  by_cases e : q = j
  · subst e
    rcases hd with hd | ⟨x, y, hx, hy, hl⟩
    · omega
    · rw [hy] at hv
      cases hv
      by_cases e2 : p = q - 1
      · subst e2
        rw [hx] at hu
        cases hu
        exact hl
      · exact ho.trans u x v (h p (q - 1) u x hp (by omega) (by omega) (by omega) hu hx) hl
  · exact h p q u v hp hpq (by omega) e hu hv
theorem SortedIn.one {V : Type} {lt : V → V → Bool} {ys : List V} {a : Nat} : SortedIn lt ys a (a + 1) := fun p q x y hp hpq hq hx hy => by omega
theorem SortedIn.pair {V : Type} {lt : V → V → Bool} {ys : List V} (h : SortedIn lt ys 0 ys.length) : ys.Pairwise (fun x y => lt y x = false) := by
  rw [List.pairwise_iff_getElem]
  intro i j hi hj hij
  exact h i j _ _ (Nat.zero_le _) hij hj (List.getElem?_eq_getElem hi) (List.getElem?_eq_getElem hj)

theorem sorted_unique {V : Type} {lt : V → V → Bool} : ∀ {xs ys : List V}, (∀ x ∈ xs, ∀ y ∈ xs, lt x y = false → lt y x = false → x = y) → xs.Perm ys → xs.Pairwise (fun x y => lt y x = false) → ys.Pairwise (fun x y => lt y x = false) → xs = ys
  | [], ys, _, hp, _, _ => (List.nil_perm.1 hp).symm
  | x :: xs, [], _, hp, _, _ => by have := hp.length_eq; simp at this
  | x :: xs, y :: ys, he, hp, hs, ht => by
    rw [List.pairwise_cons] at hs ht
    have hxy : x = y := by
      have hy : y ∈ x :: xs := hp.symm.subset (List.mem_cons_self ..)
      have hx : x ∈ y :: ys := hp.subset (List.mem_cons_self ..)
      rcases List.mem_cons.1 hy with h | h
      · exact h.symm
      · rcases List.mem_cons.1 hx with h' | h'
        · exact h'
        · exact he x (List.mem_cons_self ..) y (List.mem_cons_of_mem _ h) (ht.1 x h') (hs.1 y h)
    subst hxy
    exact congrArg _ (sorted_unique (fun a ha b hb => he a (List.mem_cons_of_mem _ ha) b (List.mem_cons_of_mem _ hb)) (List.perm_cons x |>.1 hp) hs.2 ht.2)
end Go.Proofs.YtlnhppgfhkkidaaGreat
namespace Go.Proofs.YtlnhppgfhkkidaaGreat
open Go.Shelf
def Tryz.sortName_ren : Go.Shelf.Ren := ⟨fun | 6 => 170 | 15 => 205 | 14 => 204 | 28 => 233 | 29 => 234 | 20 => 225 | 21 => 226 | 22 => 227 | 23 => 228 | 24 => 229 | 25 => 230 | 26 => 231 | 27 => 232 | 46 => 245 | 47 => 246 | 48 => 247 | 49 => 248 | 50 => 249 | 57 => 263 | n => n, fun | 22 => 75 | 24 => 45 | 25 => 182 | 3 => 3 | 39 => 214 | 0 => 0 | 53 => 292 | 55 => 201 | 4 => 4 | 46 => 285 | 45 => 284 | 50 => 289 | 5 => 5 | 9 => 9 | 66 => 300 | 70 => 221 | 76 => 311 | 77 => 312 | n => n, fun | n => n⟩
theorem Tryz.sortName : Go.Proofs.SlLaysF0.n6 Tryz.prog Tryz.sortName_ren := {
  mixed := by kernel_rfl
  f6 := ⟨Tryz.f170.name, by decide, Tryz.func170.trans (congrArg some (by kernel_rfl))⟩
  f14 := ⟨Tryz.f204.name, by decide, Tryz.func204.trans (congrArg some (by kernel_rfl))⟩
  f15 := Tryz.func205.trans (congrArg some (by kernel_rfl))
  f20 := ⟨Tryz.f225.name, by decide, Tryz.func225.trans (congrArg some (by kernel_rfl))⟩
  f21 := ⟨Tryz.f226.name, by decide, Tryz.func226.trans (congrArg some (by kernel_rfl))⟩
  f22 := ⟨Tryz.f227.name, by decide, Tryz.func227.trans (congrArg some (by kernel_rfl))⟩
  f23 := ⟨Tryz.f228.name, by decide, Tryz.func228.trans (congrArg some (by kernel_rfl))⟩
  f24 := ⟨Tryz.f229.name, by decide, Tryz.func229.trans (congrArg some (by kernel_rfl))⟩
  f25 := ⟨Tryz.f230.name, by decide, Tryz.func230.trans (congrArg some (by kernel_rfl))⟩
  f26 := ⟨Tryz.f231.name, by decide, Tryz.func231.trans (congrArg some (by kernel_rfl))⟩
  f27 := ⟨Tryz.f232.name, by decide, Tryz.func232.trans (congrArg some (by kernel_rfl))⟩
  f28 := Tryz.func233.trans (congrArg some (by kernel_rfl))
  f29 := Tryz.func234.trans (congrArg some (by kernel_rfl))
  f46 := ⟨Tryz.f245.name, by decide, Tryz.func245.trans (congrArg some (by kernel_rfl))⟩
  f47 := Tryz.func246.trans (congrArg some (by kernel_rfl))
  f48 := Tryz.func247.trans (congrArg some (by kernel_rfl))
  f49 := ⟨Tryz.f248.name, by decide, Tryz.func248.trans (congrArg some (by kernel_rfl))⟩
  f50 := ⟨Tryz.f249.name, by decide, Tryz.func249.trans (congrArg some (by kernel_rfl))⟩
  f57 := ⟨Tryz.f263.name, by decide, Tryz.func263.trans (congrArg some (by kernel_rfl))⟩
  t0 := Tryz.underlying0
  a0 := Tryz.isAgg0
  z0 := Tryz.sizeOf0
  v0 := Tryz.zeroValue0
  t3 := Tryz.underlying3
  a3 := Tryz.isAgg3
  z3 := Tryz.sizeOf3
  v3 := Tryz.zeroValue3
  t4 := Tryz.underlying4
  a4 := Tryz.isAgg4
  z4 := Tryz.sizeOf4
  v4 := Tryz.zeroValue4
  t5 := Tryz.underlying5
  a5 := Tryz.isAgg5
  z5 := Tryz.sizeOf5
  v5 := Tryz.zeroValue5
  t9 := Tryz.underlying9
  a9 := Tryz.isAgg9
  z9 := Tryz.sizeOf9
  v9 := Tryz.zeroValue9
  t22 := Tryz.underlying75
  a22 := Tryz.isAgg75
  z22 := Tryz.sizeOf75
  v22 := Tryz.zeroValue75
  t25 := Tryz.underlying182
  a25 := Tryz.isAgg182
  z25 := Tryz.sizeOf182
  v25 := Tryz.zeroValue182
  t39 := Tryz.underlying214
  a39 := Tryz.isAgg214
  z39 := Tryz.sizeOf214
  v39 := Tryz.zeroValue214
  t45 := Tryz.underlying284
  a45 := Tryz.isAgg284
  z45 := Tryz.sizeOf284
  v45 := Tryz.zeroValue284
  t46 := Tryz.underlying285
  a46 := Tryz.isAgg285
  z46 := Tryz.sizeOf285
  v46 := Tryz.zeroValue285
  t50 := Tryz.underlying289
  a50 := Tryz.isAgg289
  z50 := Tryz.sizeOf289
  v50 := Tryz.zeroValue289
  t53 := Tryz.underlying292
  a53 := Tryz.isAgg292
  z53 := Tryz.sizeOf292
  v53 := Tryz.zeroValue292
  t55 := Tryz.underlying201
  a55 := Tryz.isAgg201
  z55 := Tryz.sizeOf201
  v55 := Tryz.zeroValue201
  t66 := Tryz.underlying300
  a66 := Tryz.isAgg300
  z66 := Tryz.sizeOf300
  v66 := Tryz.zeroValue300
  t70 := Tryz.underlying221
  a70 := Tryz.isAgg221
  z70 := Tryz.sizeOf221
  v70 := Tryz.zeroValue221
  t76 := Tryz.underlying311
  a76 := Tryz.isAgg311
  z76 := Tryz.sizeOf311
  v76 := Tryz.zeroValue311
  t77 := Tryz.underlying312
  a77 := Tryz.isAgg312
  z77 := Tryz.sizeOf312
  v77 := Tryz.zeroValue312 }
end Go.Proofs.YtlnhppgfhkkidaaGreat
