/- The reference's SameNote (of millrindref09), for notes that are the same. -/
import Derived.Test.YtpdmlklnbjegpaaGreatEnc5
import Derived.Test.YtpdmlklnbjegpaaGreatRd2
import Derived.Test.YtpdmlklnbjegpaaGreatAwake
import Derived.Deep.RegionHeld3
namespace Go.Proofs.YtpdmlklnbjegpaaGreat
open Go.RowKit
theorem within9_any (x lo hi : Int) (w : World) : Calls Tryz.prog 118 #[.int .i64 x, .int .i64 lo, .int .i64 hi] w fun e w' => e = .returned (.bool (inB x lo hi)) ∧ w = w' := by
  by_cases h1 : lo ≤ x
  · have t1 : decide (lo ≤ x) = true := by simp; omega
    by_cases h2 : x ≤ hi
    · have t2 : decide (x ≤ hi) = true := by simp; omega
      have t3 : inB x lo hi = true := inB_true.2 ⟨h1, h2⟩
      rw [t3]; clear t3
      go_enter Tryz.func118, Tryz.ntmps118
      go_wp2_with fail
      go_ret
      exact ⟨rfl, rfl⟩
    · have t2 : decide (x ≤ hi) = false := by simp; omega
      have t3 : inB x lo hi = false := inB_false.2 (fun h => h2 h.2)
      rw [t3]; clear t3
      go_enter Tryz.func118, Tryz.ntmps118
      go_wp2_with fail
      go_ret
      exact ⟨rfl, rfl⟩
  · have t1 : decide (lo ≤ x) = false := by simp; omega
    have t3 : inB x lo hi = false := inB_false.2 (fun h => h1 h.1)
    rw [t3]; clear t3
    go_enter Tryz.func118, Tryz.ntmps118
    go_wp2_with fail
    go_ret
    exact ⟨rfl, rfl⟩
theorem own_of_block {w : World} {base P : Nat} {l : List Int} {k : Nat} (h : w.heap[P]? = some (.cells (l.map intV).toArray 3 (0, 0))) (hk : l.length = k) (hb : base ≤ P) (hm : k ≤ maxLen) : w.ownsRow base 3 1 (.slice (some ⟨P, 0, none⟩) k k) k (l.map intV) := by
  refine ⟨by simp [hk], .inr ⟨P, k, _, rfl, hb, h, Nat.le_refl _, hm, by simp [hk], ?_⟩⟩
  rw [List.take_of_length_le (by simp [hk])]
theorem small_in {z : Int} (h : SmallZ z) : inB z (-4611686018427387904) 4611686018427387903 = true := by
  unfold SmallZ far at h
  rw [inB_true]
  omega
section
attribute [local go_sem] noteA_0
set_option maxHeartbeats 4000000 in
set_option maxRecDepth 100000 in
theorem inside_any (n : NoteV) (sa : Option Addr) (sc : Nat) (w : World) (hs : RdI w sa n.strokes.length sc n.strokes) (hsm : SmallN n) (hlen : n.strokes.length ≤ 1000000) :
    Calls Tryz.prog 77 #[.agg (noteA n sa sc)] w fun e w' => e = .returned (.bool true) ∧ Below w.heap.size w w' := by
  have I43 := Lib.hid (show ∀ (m : NoteV) (a : Option Addr) (c : Nat), (Tryz.prog.info? 47).map (·.size) = some (noteA m a c).size from fun m a c => by kernel_rfl)
  have hlast := heap_last w (.cells (noteA n sa sc) 47)
  have bb : Below w.heap.size w (w.alloc (.cells (noteA n sa sc) 47)) := (Below.refl _ _).alloc (Nat.le_refl _) _
  have hlt : w.heap.size < (w.alloc (.cells (noteA n sa sc) 47)).heap.size := by simp
  have H0 := Lib.hid (And.intro hlast (And.intro bb hlt)); clear hlast bb hlt
  go_enter Tryz.func77, Tryz.ntmps77
  go_upto_region 1 with fail
  generalize w.alloc (.cells (noteA n sa sc) 47) = w0 at *
  obtain ⟨base, hbase⟩ : ∃ base, Hid (w.heap.size = base) := ⟨_, Lib.hid rfl⟩
  rw [hbase.out]
  rw [hbase.out] at H0
  go_wp2_with (refine wpList_load_row rfl 47 _ rfl base rfl 47 (noteA n sa sc) (0, 0) _ H0.out.1 Tryz.underlying47 rfl (I43.out _ _ _) ?_)
  refine (rfields_any n sa sc w0).mono ?_
  rintro e wf ⟨P, Q, rfl, g1, g2, g3, g4, b1⟩
  have hlb := Nat.le_of_lt H0.out.2.2
  have BF := Lib.hid (H0.out.2.1.trans (b1.mono hlb))
  have hn1 := (b1.block _ H0.out.2.2).trans H0.out.1
  have hPQ : Q ≠ P := by
    intro e
    rw [e] at g2
    rw [g1] at g2
    simp only [Option.some.injEq, Obj.cells.injEq] at g2
    have := congrArg Array.size g2.1
    simp [aheadN, behindN] at this
  have OW := Lib.hid (own_of_block (base := base) g1 (k := 15) rfl (Nat.le_trans hlb g3) (by unfold maxLen; omega))
  have OQ := Lib.hid (And.intro hPQ (And.intro (own_of_block (base := base) g2 (k := 3) rfl (Nat.le_trans hlb g4) (by unfold maxLen; omega)) (Array.getElem?_eq_some_iff.1 g2).1))
  have e15 : wf.cell? ⟨base, 15, none⟩ = some (.slice sa n.strokes.length sc) := cell_of hn1 15 _ rfl
  have hbw : base ≤ wf.heap.size := Nat.le_trans hlb b1.size
  have RS1 := Lib.hid (show RdI wf sa n.strokes.length sc n.strokes from hs.below (by rw [hbase.out]; exact BF.out))
  have hln : n.strokes.length ≤ 1000000 := hlen
  obtain ⟨ln, hlnn⟩ : ∃ ln, Hid (n.strokes.length = ln) := ⟨_, Lib.hid rfl⟩
  rw [hlnn.out] at RS1 e15 hln
  clear g1 g2 g3 g4 b1 H0 hn1 hPQ hlb
  go_wp2_with (first
    | (at_builtin; refine app_ints _ rfl _ _ rfl base _ _ _ (aheadN n) rfl OW.out _ _ _ n.strokes rfl RS1.out (by omega) hbw ?_; intro a1 c1 w1 h1 k1; have O1 := Lib.hid h1; have G1 := Lib.hid k1; have hbw1 : base ≤ w1.heap.size := Nat.le_trans hbw G1.out.size; have RQ := Lib.hid (show RdI w1 (some ⟨Q, 0, none⟩) 3 3 (behindN n) from RdA.of_cells (RdA.of_own OQ.out.2.1) (fun b ⟨off, hb⟩ hlt => by cases hb; exact G1.out.block _ hlt (fun e => by cases e; exact OQ.out.1 rfl))); clear h1 k1)
    | (at_builtin; refine app_ints _ rfl _ _ rfl base _ _ _ (aheadN n ++ n.strokes) rfl O1.out _ _ _ (behindN n) rfl RQ.out (by omega) hbw1 ?_; intro a2 c2 w2 h2 k2; have O2 := Lib.hid h2; have B2 := Lib.hid ((BF.out.grown G1.out hbw (fun q hq => (OW.out.lt q hq).1)).grown k2 hbw1 (fun q hq => (O1.out.lt q hq).1)); clear h2 k2))
  have SM := Lib.hid (show ∀ z ∈ aheadN n ++ n.strokes ++ behindN n, SmallZ z from fun z hz => by
    rcases List.mem_append.1 hz with hz | hz
    · rcases List.mem_append.1 hz with hz | hz
      · exact hsm.1 z hz
      · exact hsm.2.1 z hz
    · exact hsm.2.2.1 z hz)
  have LL : Hid ((aheadN n ++ n.strokes ++ behindN n).length = 15 + ln + 3) := Lib.hid (by rw [List.length_append, List.length_append, hlnn.out]; rfl)
  obtain ⟨X, hX⟩ : ∃ X, Hid (X = aheadN n ++ n.strokes ++ behindN n) := ⟨_, Lib.hid rfl⟩
  obtain ⟨L, hL⟩ : ∃ L, Hid (15 + ln + 3 = L) := ⟨_, Lib.hid rfl⟩
  rw [← hX.out] at SM LL O2
  rw [hL.out] at LL O2 ⊢
  have hL63 : (L : Int) ≤ 9223372036854775807 := by have := hL.out; omega
  have RX := Lib.hid (RdA.of_own O2.out)
  clear OW OQ O1 G1 RQ RS1 e15 hbw1 hbw
  go_loopw [6] (fun i wr => ∃ k : Nat, i = .int .i64 k ∧ k ≤ L ∧ Hid (w2 = wr)) (fun i _ => L - (intOf i).toNat)
  case atStart => exact ⟨0, rfl, Nat.zero_le _, Lib.hid rfl⟩
  case round =>
    obtain ⟨k, rfl, hk, HE⟩ := hrel
    have := HE.out
    subst this
    by_cases hlt : k < L
    · obtain ⟨b, off, rfl, hc⟩ := RdI.at RX.out (by omega)
      have e1 := hc k hlt
      have hin := small_in (SM.out (X[k]?.getD 0) (by rw [List.getElem?_eq_getElem (by rw [LL.out]; exact hlt), Option.getD_some]; exact List.getElem_mem _))
      have HIN := Lib.hid hin; clear hin
      generalize X[k]?.getD 0 = z at *
      clear hc
      go_wp2_with fail
      refine (within9_any z (-4611686018427387904) 4611686018427387903 w2).mono ?_
      rintro e w' ⟨rfl, rfl⟩
      rw [HIN.out]
      go_wp2_with fail
      go_roundw
      case rel => exact ⟨k + 1, by go_num, by omega, Lib.hid (by trivial)⟩
      case measure => simp [intOf]; omega
    · have hkn : k = L := by omega
      subst hkn
      go_wp2_with fail
      go_ret
      exact ⟨rfl, by rw [hbase.out]; exact B2.out⟩
end
end Go.Proofs.YtpdmlklnbjegpaaGreat
namespace Go.Proofs.YtpdmlklnbjegpaaGreat
set_option linter.unusedSimpArgs false
open Go.RowKit
/-- Both notes lie in their blocks, and nothing below has turned. -/
structure TwoN (w W : World) (p q : Nat) (x : NoteV) (sa : Option Addr) (sc : Nat) (ta : Option Addr) (tc : Nat) : Prop where
  e1 : W.heap[p]? = some (.cells (noteA x sa sc) 47 (0, 0))
  e2 : W.heap[q]? = some (.cells (noteA x ta tc) 47 (0, 0))
  b : Below p w W
  lt : p < q
theorem TwoN.below {w W W' : World} {p q : Nat} {x : NoteV} {sa ta : Option Addr} {sc tc : Nat} (h : TwoN w W p q x sa sc ta tc) (hb : Below W.heap.size W W') : TwoN w W' p q x sa sc ta tc := by
  have g : ∀ {k : Nat} {o : Obj}, W.heap[k]? = some o → W'.heap[k]? = some o := fun {k o} hk => (hb.block k (Array.getElem?_eq_some_iff.1 hk).1).trans hk
  have h0 := (Array.getElem?_eq_some_iff.1 h.e1).1
  exact ⟨g h.e1, g h.e2, h.b.trans (hb.mono (by omega)), h.lt⟩
theorem yields_row {P : Program} {ops : Array Oper} {S : World → Prop} {op : Oper} {a : Act} (hw : Region.wanted op (yielded ops a.tmps) = true) (ty : TypeId) (x : Operand) (ho : op.op = .load ty x)
    (b : Nat) (hx : a.eval x = .pointer (some ⟨b, 0, none⟩)) (cs : Array Value) (t : TypeId) (fr : Nat × Nat) (d : TypeDesc) (hS : ∀ w, S w → w.heap[b]? = some (.cells cs t fr))
    (hu : P.underlying ty = some d) (hd : (match d with | .struct _ | .array _ _ => true | _ => false) = true) (hi : (P.info? ty).map (·.size) = some cs.size) : YieldsIf P ops S op (.agg cs) a :=
  .inl ⟨hw, fun w hw' => by
    unfold execOp
    simp only [ho, hx, Instr.loadAt, Instr.sureAddr, Sem.run_bind, Sem.run_pure, Result.andThen_ok, run_loadVar_row w b t ty cs fr d (hS w hw') hu hd hi]⟩
section
attribute [local go_sem] noteA_0
set_option maxHeartbeats 8000000 in
set_option maxRecDepth 100000 in
theorem snote_any (x : NoteV) (sa : Option Addr) (sc : Nat) (ta : Option Addr) (tc : Nat) (w : World) (hx : RdI w sa x.strokes.length sc x.strokes) (hy : RdI w ta x.strokes.length tc x.strokes) (hsm : SmallN x) (hlen : x.strokes.length ≤ 1000000) :
    Calls Tryz.prog 45 #[.agg (noteA x sa sc), .agg (noteA x ta tc)] w fun e w' => e = .returned (.bool true) ∧ Below w.heap.size w w' := by
  have I43 := Lib.hid (show ∀ (m : NoteV) (a : Option Addr) (c : Nat), (Tryz.prog.info? 47).map (·.size) = some (noteA m a c).size from fun m a c => by kernel_rfl)
  have g1 := heap_before _ (.cells (noteA x ta tc) 47) _ _ (heap_last w (.cells (noteA x sa sc) 47))
  have g2 := heap_at (w.alloc (.cells (noteA x sa sc) 47)) (.cells (noteA x ta tc) 47) (w.heap.size + 1) (by simp)
  have bb : Below w.heap.size w ((w.alloc (.cells (noteA x sa sc) 47)).alloc (.cells (noteA x ta tc) 47)) := ((Below.refl _ _).alloc (Nat.le_refl _) _).alloc (by simp) _
  have T0 : Hid (TwoN w ((w.alloc (.cells (noteA x sa sc) 47)).alloc (.cells (noteA x ta tc) 47)) w.heap.size (w.heap.size + 1) x sa sc ta tc) := Lib.hid ⟨g1, g2, bb, by omega⟩
  clear g1 g2 bb
  go_enter Tryz.func45, Tryz.ntmps45
  go_upto_region 1 with fail
  generalize (w.alloc (.cells (noteA x sa sc) 47)).alloc (.cells (noteA x ta tc) 47) = W0 at *
  obtain ⟨p, hp⟩ : ∃ p, Hid (w.heap.size = p) := ⟨_, Lib.hid rfl⟩
  obtain ⟨q, hq⟩ : ∃ q, Hid (w.heap.size + 1 = q) := ⟨_, Lib.hid rfl⟩
  rw [hq.out, hp.out] at T0
  rw [hq.out, hp.out]
  have RX := Lib.hid (show ∀ W, Below p w W → RdI W sa x.strokes.length sc x.strokes from fun W h => hx.below (by rw [hp.out]; exact h))
  have RY := Lib.hid (show ∀ W, Below p w W → RdI W ta x.strokes.length tc x.strokes from fun W h => hy.below (by rw [hp.out]; exact h))
  have T0d := Lib.hid (T0.out.below (Below.refl W0.heap.size W0).drew)
  obtain ⟨E, hE⟩ : ∃ E, Hid (E = encN x) := ⟨_, Lib.hid rfl⟩
  have EX := Lib.hid (fun W (h : TwoN w W p q x sa sc ta tc) => rencd_any x sa sc W (RX.out _ h.b) hsm hlen)
  have EY := Lib.hid (fun W (h : TwoN w W p q x sa sc ta tc) => rencd_any x ta tc W (RY.out _ h.b) hsm hlen)
  have IX := Lib.hid (fun W (h : TwoN w W p q x sa sc ta tc) => inside_any x sa sc W (RX.out _ h.b) hsm hlen)
  have IY := Lib.hid (fun W (h : TwoN w W p q x sa sc ta tc) => inside_any x ta tc W (RY.out _ h.b) hsm hlen)
  rw [← hE.out] at EX EY
  clear hx hy
  refine wp_region_noPanic ?_
  refine wp_region_held_drew (S := fun w' => TwoN w w' p q x sa sc ta tc) (by kernel_rfl) T0d.out (fun hHeld => ?_)
  refine wpAnyH_take (i := 0) (v := .agg (noteA x sa sc)) rfl (by kernel_rfl) (by kernel_rfl) (by kernel_rfl) (fun _ _ _ h => h) (yields_row (by rfl) 47 _ rfl p rfl _ 47 (0, 0) _ (fun W h => h.e1) Tryz.underlying47 rfl (I43.out _ _ _)) (by assumption) ?_
  try simp only [Act.put, List.setIfInBounds_toArray, List.set_cons_zero, List.set_cons_succ]
  refine wpAnyH_take (i := 3) (v := .agg (noteA x ta tc)) rfl (by kernel_rfl) (by kernel_rfl) (by kernel_rfl) (fun _ _ _ h => h) (yields_row (by rfl) 47 _ rfl q rfl _ 47 (0, 0) _ (fun W h => h.e2) Tryz.underlying47 rfl (I43.out _ _ _)) (by assumption) ?_
  try simp only [Act.put, List.setIfInBounds_toArray, List.set_cons_zero, List.set_cons_succ]
  refine wpAnyH_ready (rs := [1]) (by kernel_rfl) (by simp) ?_
  refine AllReadyH.cons rfl (fun K hK => ?_) AllReadyH.nil
  go_simp
  go_at_call 76
  refine (EX.out _ T0d.out).mono ?_
  rintro e wX ⟨aX, cX, rfl, hX, bX⟩
  have TX := Lib.hid (T0d.out.below bX)
  have cvX := conv_bytes (RdB.of_own hX)
  have HX := Lib.hid hX; clear hX bX
  dsimp only
  refine hK.out _ _ TX.out (fun hHeld => ?_)
  clear hK K
  try simp only [Act.put, List.setIfInBounds_toArray, List.set_cons_zero, List.set_cons_succ]
  refine wpAnyH_ready (rs := [2, 4]) (by kernel_rfl) (by simp) ?_
  refine AllReadyH.cons rfl (fun K hK => ?_) ?_
  · go_simp
    refine hK.out _ _ TX.out (fun hHeld => ?_)
    clear hK K
    try simp only [Act.put, List.setIfInBounds_toArray, List.set_cons_zero, List.set_cons_succ]
    refine wpAnyH_ready (rs := [4]) (by kernel_rfl) (by simp) ?_
    refine AllReadyH.cons rfl (fun K hK => ?_) AllReadyH.nil
    go_simp
    go_at_call 76
    refine (EY.out _ TX.out).mono ?_
    rintro e wY ⟨aY, cY, rfl, hY, bY⟩
    have TY := Lib.hid (TX.out.below bY)
    have cvY := conv_bytes (RdB.of_own hY)
    have cvX2 := conv_bytes (RdB.below (RdB.of_own HX.out) bY); clear hY bY
    dsimp only
    refine hK.out _ _ TY.out (fun hHeld => ?_)
    clear hK K
    try simp only [Act.put, List.setIfInBounds_toArray, List.set_cons_zero, List.set_cons_succ]
    refine wpAnyH_ready (rs := [5]) (by kernel_rfl) (by simp) ?_
    refine AllReadyH.cons rfl (fun K hK => ?_) AllReadyH.nil
    go_simp
    refine hK.out _ _ TY.out (fun hHeld => ?_)
    clear hK K
    try simp only [Act.put, List.setIfInBounds_toArray, List.set_cons_zero, List.set_cons_succ]
    refine wpAnyH_take (i := 6) (v := .bool true) rfl (by kernel_rfl) (by kernel_rfl) (by kernel_rfl) (fun _ _ _ h => h) (Or.inl ⟨by rfl, by intro W _; go_simp⟩) (by assumption) ?_
    try simp only [Act.put, List.setIfInBounds_toArray, List.set_cons_zero, List.set_cons_succ]
    refine wpAnyH_take (i := 7) (v := .bool true) rfl (by kernel_rfl) (by kernel_rfl) (by kernel_rfl) (fun _ _ _ h => h) (Or.inl ⟨by rfl, by intro W _; go_simp⟩) (by assumption) ?_
    try simp only [Act.put, List.setIfInBounds_toArray, List.set_cons_zero, List.set_cons_succ]
    refine wpAnyH_take (i := 8) (v := .agg (noteA x sa sc)) rfl (by kernel_rfl) (by kernel_rfl) (by kernel_rfl) (fun _ _ _ h => h) (yields_row (by rfl) 47 _ rfl p rfl _ 47 (0, 0) _ (fun W h => h.e1) Tryz.underlying47 rfl (I43.out _ _ _)) (by assumption) ?_
    try simp only [Act.put, List.setIfInBounds_toArray, List.set_cons_zero, List.set_cons_succ]
    refine wpAnyH_take (i := 10) (v := .agg (noteA x ta tc)) rfl (by kernel_rfl) (by kernel_rfl) (by kernel_rfl) (fun _ _ _ h => h) (yields_row (by rfl) 47 _ rfl q rfl _ 47 (0, 0) _ (fun W h => h.e2) Tryz.underlying47 rfl (I43.out _ _ _)) (by assumption) ?_
    try simp only [Act.put, List.setIfInBounds_toArray, List.set_cons_zero, List.set_cons_succ]
    refine wpAnyH_ready (rs := [9]) (by kernel_rfl) (by simp) ?_
    refine AllReadyH.cons rfl (fun K hK => ?_) AllReadyH.nil
    go_simp
    go_at_call 77
    refine (IX.out _ TY.out).mono ?_
    rintro e wI ⟨rfl, bI⟩
    have TI := Lib.hid (TY.out.below bI); clear bI
    dsimp only
    refine hK.out _ _ TI.out (fun hHeld => ?_)
    clear hK K
    try simp only [Act.put, List.setIfInBounds_toArray, List.set_cons_zero, List.set_cons_succ]
    refine wpAnyH_ready (rs := [11]) (by kernel_rfl) (by simp) ?_
    refine AllReadyH.cons rfl (fun K hK => ?_) AllReadyH.nil
    go_simp
    go_at_call 77
    refine (IY.out _ TI.out).mono ?_
    rintro e wJ ⟨rfl, bJ⟩
    have TJ := Lib.hid (TI.out.below bJ); clear bJ
    dsimp only
    refine hK.out _ _ TJ.out (fun hHeld => ?_)
    clear hK K
    try simp only [Act.put, List.setIfInBounds_toArray, List.set_cons_zero, List.set_cons_succ]
    refine wpAnyH_take (i := 12) (v := .bool true) rfl (by kernel_rfl) (by kernel_rfl) (by kernel_rfl) (fun _ _ _ h => h) (Or.inl ⟨by rfl, by intro W _; go_simp⟩) (by assumption) ?_
    try simp only [Act.put, List.setIfInBounds_toArray, List.set_cons_zero, List.set_cons_succ]
    refine wpAnyH_take (i := 13) (v := .bool true) rfl (by kernel_rfl) (by kernel_rfl) (by kernel_rfl) (fun _ _ _ h => h) (Or.inl ⟨by rfl, by intro W _; go_simp⟩) (by assumption) ?_
    try simp only [Act.put, List.setIfInBounds_toArray, List.set_cons_zero, List.set_cons_succ]
    refine wpAnyH_take (i := 14) (v := .bool true) rfl (by kernel_rfl) (by kernel_rfl) (by kernel_rfl) (fun _ _ _ h => h) (Or.inl ⟨by rfl, by intro W _; go_simp⟩) (by assumption) ?_
    try simp only [Act.put, List.setIfInBounds_toArray, List.set_cons_zero, List.set_cons_succ]
    refine wpAnyH_done (by kernel_rfl) ?_ _
    refine NoPanic.normal ?_
    change Exit.then _ _ Exit.normal { tmps := #[.agg (noteA x sa sc), .agg (noteA x ta tc), .pointer (some ⟨p, 0, none⟩), .pointer (some ⟨q, 0, none⟩), .bool true, .agg (noteA x sa sc), .slice aX E.length cX, .string { data := E.toArray }, .agg (noteA x ta tc), .slice aY E.length cY, .string { data := E.toArray }, .bool true, .bool true, .agg (noteA x sa sc), .bool true, .agg (noteA x ta tc), .bool true, .bool true, .bool true], defers := [] } _
    go_wp2_with fail
    go_ret
    exact ⟨rfl, by rw [hp.out]; exact TJ.out.b⟩
  refine AllReadyH.cons rfl (fun K hK => ?_) AllReadyH.nil
  go_simp
  go_at_call 76
  refine (EY.out _ TX.out).mono ?_
  rintro e wY ⟨aY, cY, rfl, hY, bY⟩
  have TY := Lib.hid (TX.out.below bY)
  have cvY := conv_bytes (RdB.of_own hY)
  have cvX2 := conv_bytes (RdB.below (RdB.of_own HX.out) bY); clear hY bY
  dsimp only
  refine hK.out _ _ TY.out (fun hHeld => ?_)
  clear hK K
  try simp only [Act.put, List.setIfInBounds_toArray, List.set_cons_zero, List.set_cons_succ]
  refine wpAnyH_ready (rs := [2, 5]) (by kernel_rfl) (by simp) ?_
  refine AllReadyH.cons rfl (fun K hK => ?_) ?_
  · go_simp
    refine hK.out _ _ TY.out (fun hHeld => ?_)
    clear hK K
    try simp only [Act.put, List.setIfInBounds_toArray, List.set_cons_zero, List.set_cons_succ]
    refine wpAnyH_ready (rs := [5]) (by kernel_rfl) (by simp) ?_
    refine AllReadyH.cons rfl (fun K hK => ?_) AllReadyH.nil
    go_simp
    refine hK.out _ _ TY.out (fun hHeld => ?_)
    clear hK K
    try simp only [Act.put, List.setIfInBounds_toArray, List.set_cons_zero, List.set_cons_succ]
    refine wpAnyH_take (i := 6) (v := .bool true) rfl (by kernel_rfl) (by kernel_rfl) (by kernel_rfl) (fun _ _ _ h => h) (Or.inl ⟨by rfl, by intro W _; go_simp⟩) (by assumption) ?_
    try simp only [Act.put, List.setIfInBounds_toArray, List.set_cons_zero, List.set_cons_succ]
    refine wpAnyH_take (i := 7) (v := .bool true) rfl (by kernel_rfl) (by kernel_rfl) (by kernel_rfl) (fun _ _ _ h => h) (Or.inl ⟨by rfl, by intro W _; go_simp⟩) (by assumption) ?_
    try simp only [Act.put, List.setIfInBounds_toArray, List.set_cons_zero, List.set_cons_succ]
    refine wpAnyH_take (i := 8) (v := .agg (noteA x sa sc)) rfl (by kernel_rfl) (by kernel_rfl) (by kernel_rfl) (fun _ _ _ h => h) (yields_row (by rfl) 47 _ rfl p rfl _ 47 (0, 0) _ (fun W h => h.e1) Tryz.underlying47 rfl (I43.out _ _ _)) (by assumption) ?_
    try simp only [Act.put, List.setIfInBounds_toArray, List.set_cons_zero, List.set_cons_succ]
    refine wpAnyH_take (i := 10) (v := .agg (noteA x ta tc)) rfl (by kernel_rfl) (by kernel_rfl) (by kernel_rfl) (fun _ _ _ h => h) (yields_row (by rfl) 47 _ rfl q rfl _ 47 (0, 0) _ (fun W h => h.e2) Tryz.underlying47 rfl (I43.out _ _ _)) (by assumption) ?_
    try simp only [Act.put, List.setIfInBounds_toArray, List.set_cons_zero, List.set_cons_succ]
    refine wpAnyH_ready (rs := [9]) (by kernel_rfl) (by simp) ?_
    refine AllReadyH.cons rfl (fun K hK => ?_) AllReadyH.nil
    go_simp
    go_at_call 77
    refine (IX.out _ TY.out).mono ?_
    rintro e wI ⟨rfl, bI⟩
    have TI := Lib.hid (TY.out.below bI); clear bI
    dsimp only
    refine hK.out _ _ TI.out (fun hHeld => ?_)
    clear hK K
    try simp only [Act.put, List.setIfInBounds_toArray, List.set_cons_zero, List.set_cons_succ]
    refine wpAnyH_ready (rs := [11]) (by kernel_rfl) (by simp) ?_
    refine AllReadyH.cons rfl (fun K hK => ?_) AllReadyH.nil
    go_simp
    go_at_call 77
    refine (IY.out _ TI.out).mono ?_
    rintro e wJ ⟨rfl, bJ⟩
    have TJ := Lib.hid (TI.out.below bJ); clear bJ
    dsimp only
    refine hK.out _ _ TJ.out (fun hHeld => ?_)
    clear hK K
    try simp only [Act.put, List.setIfInBounds_toArray, List.set_cons_zero, List.set_cons_succ]
    refine wpAnyH_take (i := 12) (v := .bool true) rfl (by kernel_rfl) (by kernel_rfl) (by kernel_rfl) (fun _ _ _ h => h) (Or.inl ⟨by rfl, by intro W _; go_simp⟩) (by assumption) ?_
    try simp only [Act.put, List.setIfInBounds_toArray, List.set_cons_zero, List.set_cons_succ]
    refine wpAnyH_take (i := 13) (v := .bool true) rfl (by kernel_rfl) (by kernel_rfl) (by kernel_rfl) (fun _ _ _ h => h) (Or.inl ⟨by rfl, by intro W _; go_simp⟩) (by assumption) ?_
    try simp only [Act.put, List.setIfInBounds_toArray, List.set_cons_zero, List.set_cons_succ]
    refine wpAnyH_take (i := 14) (v := .bool true) rfl (by kernel_rfl) (by kernel_rfl) (by kernel_rfl) (fun _ _ _ h => h) (Or.inl ⟨by rfl, by intro W _; go_simp⟩) (by assumption) ?_
    try simp only [Act.put, List.setIfInBounds_toArray, List.set_cons_zero, List.set_cons_succ]
    refine wpAnyH_done (by kernel_rfl) ?_ _
    refine NoPanic.normal ?_
    change Exit.then _ _ Exit.normal { tmps := #[.agg (noteA x sa sc), .agg (noteA x ta tc), .pointer (some ⟨p, 0, none⟩), .pointer (some ⟨q, 0, none⟩), .bool true, .agg (noteA x sa sc), .slice aX E.length cX, .string { data := E.toArray }, .agg (noteA x ta tc), .slice aY E.length cY, .string { data := E.toArray }, .bool true, .bool true, .agg (noteA x sa sc), .bool true, .agg (noteA x ta tc), .bool true, .bool true, .bool true], defers := [] } _
    go_wp2_with fail
    go_ret
    exact ⟨rfl, by rw [hp.out]; exact TJ.out.b⟩
  refine AllReadyH.cons rfl (fun K hK => ?_) AllReadyH.nil
  go_simp
  refine hK.out _ _ TY.out (fun hHeld => ?_)
  clear hK K
  try simp only [Act.put, List.setIfInBounds_toArray, List.set_cons_zero, List.set_cons_succ]
  refine wpAnyH_ready (rs := [2]) (by kernel_rfl) (by simp) ?_
  refine AllReadyH.cons rfl (fun K hK => ?_) AllReadyH.nil
  go_simp
  refine hK.out _ _ TY.out (fun hHeld => ?_)
  clear hK K
  try simp only [Act.put, List.setIfInBounds_toArray, List.set_cons_zero, List.set_cons_succ]
  refine wpAnyH_take (i := 6) (v := .bool true) rfl (by kernel_rfl) (by kernel_rfl) (by kernel_rfl) (fun _ _ _ h => h) (Or.inl ⟨by rfl, by intro W _; go_simp⟩) (by assumption) ?_
  try simp only [Act.put, List.setIfInBounds_toArray, List.set_cons_zero, List.set_cons_succ]
  refine wpAnyH_take (i := 7) (v := .bool true) rfl (by kernel_rfl) (by kernel_rfl) (by kernel_rfl) (fun _ _ _ h => h) (Or.inl ⟨by rfl, by intro W _; go_simp⟩) (by assumption) ?_
  try simp only [Act.put, List.setIfInBounds_toArray, List.set_cons_zero, List.set_cons_succ]
  refine wpAnyH_take (i := 8) (v := .agg (noteA x sa sc)) rfl (by kernel_rfl) (by kernel_rfl) (by kernel_rfl) (fun _ _ _ h => h) (yields_row (by rfl) 47 _ rfl p rfl _ 47 (0, 0) _ (fun W h => h.e1) Tryz.underlying47 rfl (I43.out _ _ _)) (by assumption) ?_
  try simp only [Act.put, List.setIfInBounds_toArray, List.set_cons_zero, List.set_cons_succ]
  refine wpAnyH_take (i := 10) (v := .agg (noteA x ta tc)) rfl (by kernel_rfl) (by kernel_rfl) (by kernel_rfl) (fun _ _ _ h => h) (yields_row (by rfl) 47 _ rfl q rfl _ 47 (0, 0) _ (fun W h => h.e2) Tryz.underlying47 rfl (I43.out _ _ _)) (by assumption) ?_
  try simp only [Act.put, List.setIfInBounds_toArray, List.set_cons_zero, List.set_cons_succ]
  refine wpAnyH_ready (rs := [9]) (by kernel_rfl) (by simp) ?_
  refine AllReadyH.cons rfl (fun K hK => ?_) AllReadyH.nil
  go_simp
  go_at_call 77
  refine (IX.out _ TY.out).mono ?_
  rintro e wI ⟨rfl, bI⟩
  have TI := Lib.hid (TY.out.below bI); clear bI
  dsimp only
  refine hK.out _ _ TI.out (fun hHeld => ?_)
  clear hK K
  try simp only [Act.put, List.setIfInBounds_toArray, List.set_cons_zero, List.set_cons_succ]
  refine wpAnyH_ready (rs := [11]) (by kernel_rfl) (by simp) ?_
  refine AllReadyH.cons rfl (fun K hK => ?_) AllReadyH.nil
  go_simp
  go_at_call 77
  refine (IY.out _ TI.out).mono ?_
  rintro e wJ ⟨rfl, bJ⟩
  have TJ := Lib.hid (TI.out.below bJ); clear bJ
  dsimp only
  refine hK.out _ _ TJ.out (fun hHeld => ?_)
  clear hK K
  try simp only [Act.put, List.setIfInBounds_toArray, List.set_cons_zero, List.set_cons_succ]
  refine wpAnyH_take (i := 12) (v := .bool true) rfl (by kernel_rfl) (by kernel_rfl) (by kernel_rfl) (fun _ _ _ h => h) (Or.inl ⟨by rfl, by intro W _; go_simp⟩) (by assumption) ?_
  try simp only [Act.put, List.setIfInBounds_toArray, List.set_cons_zero, List.set_cons_succ]
  refine wpAnyH_take (i := 13) (v := .bool true) rfl (by kernel_rfl) (by kernel_rfl) (by kernel_rfl) (fun _ _ _ h => h) (Or.inl ⟨by rfl, by intro W _; go_simp⟩) (by assumption) ?_
  try simp only [Act.put, List.setIfInBounds_toArray, List.set_cons_zero, List.set_cons_succ]
  refine wpAnyH_take (i := 14) (v := .bool true) rfl (by kernel_rfl) (by kernel_rfl) (by kernel_rfl) (fun _ _ _ h => h) (Or.inl ⟨by rfl, by intro W _; go_simp⟩) (by assumption) ?_
  try simp only [Act.put, List.setIfInBounds_toArray, List.set_cons_zero, List.set_cons_succ]
  refine wpAnyH_done (by kernel_rfl) ?_ _
  refine NoPanic.normal ?_
  change Exit.then _ _ Exit.normal { tmps := #[.agg (noteA x sa sc), .agg (noteA x ta tc), .pointer (some ⟨p, 0, none⟩), .pointer (some ⟨q, 0, none⟩), .bool true, .agg (noteA x sa sc), .slice aX E.length cX, .string { data := E.toArray }, .agg (noteA x ta tc), .slice aY E.length cY, .string { data := E.toArray }, .bool true, .bool true, .agg (noteA x sa sc), .bool true, .agg (noteA x ta tc), .bool true, .bool true, .bool true], defers := [] } _
  go_wp2_with fail
  go_ret
  exact ⟨rfl, by rw [hp.out]; exact TJ.out.b⟩
end
end Go.Proofs.YtpdmlklnbjegpaaGreat
